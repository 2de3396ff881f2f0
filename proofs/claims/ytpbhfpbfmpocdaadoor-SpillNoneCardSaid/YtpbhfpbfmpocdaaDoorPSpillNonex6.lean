-- Written by print2.py over the kit's printer. Not trusted: Lean checks it.
import Derived.Test.YtpbhfpbfmpocdaaDoorPSpillNonehqq
import Derived.Test.YtpbhfpbfmpocdaaDoorPSpillNonex0
import Derived.Test.YtpbhfpbfmpocdaaDoorPSpillNonex4
namespace Go.Proofs.YtpbhfpbfmpocdaaDoor.PSpillNone
open Go.RowKit Go.Proofs.YtpbhfpbfmpocdaaDoorW.PrintWords Go.Proofs.YtpbhfpbfmpocdaaDoorW.PrintLast Go.Proofs.YtpbhfpbfmpocdaaDoorW.PrintMore
attribute [local go_sem] max2_int min2_int max_two min_two max_three min_three max_four min_four   -- for this text's walks alone
set_option linter.unusedVariables false
set_option linter.unusedSimpArgs false

/-! ### palingref11_Def: function 36 -/
def palingref11_Def.f (k : Nat) (a0_0 : Int) (a0_1 : Int) (a0_2 : Int) (a0_3 : Int) (a0_4 : Int) (a0_5 : Int) (a0_6 : Int) : Option (Int) := (palingref11_fields.f a0_0).bind fun t213 => ((palingref11_Has.f k t213 68).bind fun t214 => (if t214 = true then (some a0_2) else (some (-1))))
theorem palingref11_Def.mono : ∀ a0 a1 a2 a3 a4 a5 a6 k, LeO (palingref11_Def.f k a0 a1 a2 a3 a4 a5 a6) (palingref11_Def.f (k + 1) a0 a1 a2 a3 a4 a5 a6) := by
 intro a0 a1 a2 a3 a4 a5 a6 k
 unfold palingref11_Def.f
 repeat' (first | (with_reducible first | exact palingref11_Has.mono _ _ _ | exact LeO.refl _ | exact LeO.none _ | refine LeO.ite ?_ ?_ | refine LeO.bind ?_ (fun _ => ?_)) | exact palingref11_Has.mono _ _ _ | exact LeO.none _ | refine LeO.ite ?_ ?_ | refine LeO.bind ?_ (fun _ => ?_))
set_option maxHeartbeats 8000000 in
set_option maxRecDepth 100000 in
theorem palingref11_Def.calls (k : Nat) (a0_0 : Int) (a0_1 : Int) (a0_2 : Int) (a0_3 : Int) (a0_4 : Int) (a0_5 : Int) (a0_6 : Int) (r : Int) (w : World) (h : palingref11_Def.f k a0_0 a0_1 a0_2 a0_3 a0_4 a0_5 a0_6 = some r) :
    Calls Tryd.prog 36 #[.agg #[.int .i64 a0_0, .int .i64 a0_1, .int .i64 a0_2, .int .i64 a0_3, .int .i64 a0_4, .int .i64 a0_5, .int .i64 a0_6]] w fun e w' => e = .returned (.int .i64 r) ∧ Below w.heap.size w w' := by
 have hu48 := Tryd.underlying48
 have HB := Aside0.mk (Below.refl w.heap.size w)
 have H : ((palingref11_fields.f a0_0).bind fun t213 => ((palingref11_Has.f k t213 68).bind fun t214 => (if t214 = true then (some a0_2) else (some (-1))))) = some r := h
 clear h
 obtain ⟨t213, A2, H⟩ := bS_ H
 obtain ⟨t214, A3, H⟩ := bS_ H
 by_cases c4 : t214 = true
 rotate_left
 ·replace c4 := Bool.eq_false_iff.mpr c4
  subst c4
  rw [if_neg nf_] at H
  obtain rfl := Option.some.inj H
  go_enter Tryd.func36, Tryd.ntmps36
  go_wp2_with (first | ((with_reducible refine gate_dst (N := 1) rfl ?_); refine box_event ?hg (N := 1) ?hd (cs := #[.int .i64 a0_0, .int .i64 a0_1, .int .i64 a0_2, .int .i64 a0_3, .int .i64 a0_4, .int .i64 a0_5, .int .i64 a0_6]) (t := 48) ?hr ?_; (case hd => rfl); (case hg => rfl); (case hr => first | (go_simp; done) | (go_simp; rfl)); intro gb0 hg w9 hbox hb; have BK0 := Aside0.mk (hbox); have GW0 := Aside0.mk ((by rw [hg]; exact (below_size aq0) : w.heap.size ≤ gb0)); have GE0 := Aside0.mk ((by rw [hg]; exact (below_size aq0) : w.heap.size ≤ gb0)); replace HB := Aside0.mk (below_step aq0 hb); clear hb hbox hg; obtain ⟨hcz10_0, hcz10_1, hcz10_2, hcz10_3, hcz10_4, hcz10_5, hcz10_6, hfz10_0, hfz10_1, hfz10_2, hfz10_3, hfz10_4, hfz10_5, hfz10_6⟩ := czf7 BK0.out) | ((with_reducible refine gate_callee (f := 29) rfl ?_); refine goesL_ (some 5) rfl rfl Tryd.func29 (by kernel_rfl) rfl #[.int .i64 a0_0] rfl aq8 ?_; (with_reducible refine (palingref11_fields.calls a0_0 t213 _ A2.out).mono ?_); rintro e w11 ⟨rfl, hb⟩; refine ⟨_, rfl, ?_⟩; replace BK0 := Aside0.mk (blk_below (g := gb0) (o := .cells #[.int .i64 a0_0, .int .i64 a0_1, .int .i64 a0_2, .int .i64 a0_3, .int .i64 a0_4, .int .i64 a0_5, .int .i64 a0_6] 48 (0, 0)) aq11 hb); replace HB := Aside0.mk (below_step aq4 hb); (try clear hb); (try clear hb2); (try clear hk); (try clear hi)) | ((with_reducible refine gate_callee (f := 31) rfl ?_); refine goesL_ (some 6) rfl rfl Tryd.func31 (by kernel_rfl) rfl #[.string t213, .int .u8 68] rfl aq8 ?_; (with_reducible refine (palingref11_Has.calls k t213 68 false _ A3.out).mono ?_); rintro e w' ⟨rfl, ⟨nd, rfl⟩⟩; refine ⟨_, rfl, ?_⟩))
  go_ret
  exact ⟨aq13, aq4⟩
 subst c4
 rw [if_pos rfl] at H
 obtain rfl := Option.some.inj H
 go_enter Tryd.func36, Tryd.ntmps36
 go_wp2_with (first | ((with_reducible refine gate_dst (N := 1) rfl ?_); refine box_event ?hg (N := 1) ?hd (cs := #[.int .i64 a0_0, .int .i64 a0_1, .int .i64 a0_2, .int .i64 a0_3, .int .i64 a0_4, .int .i64 a0_5, .int .i64 a0_6]) (t := 48) ?hr ?_; (case hd => rfl); (case hg => rfl); (case hr => first | (go_simp; done) | (go_simp; rfl)); intro gb0 hg w5 hbox hb; have BK0 := Aside0.mk (hbox); have GW0 := Aside0.mk ((by rw [hg]; exact (below_size aq0) : w.heap.size ≤ gb0)); have GE0 := Aside0.mk ((by rw [hg]; exact (below_size aq0) : w.heap.size ≤ gb0)); replace HB := Aside0.mk (below_step aq0 hb); clear hb hbox hg; obtain ⟨hcz6_0, hcz6_1, hcz6_2, hcz6_3, hcz6_4, hcz6_5, hcz6_6, hfz6_0, hfz6_1, hfz6_2, hfz6_3, hfz6_4, hfz6_5, hfz6_6⟩ := czf7 BK0.out) | ((with_reducible refine gate_callee (f := 29) rfl ?_); refine goesL_ (some 5) rfl rfl Tryd.func29 (by kernel_rfl) rfl #[.int .i64 a0_0] rfl aq8 ?_; (with_reducible refine (palingref11_fields.calls a0_0 t213 _ A2.out).mono ?_); rintro e w7 ⟨rfl, hb⟩; refine ⟨_, rfl, ?_⟩; replace BK0 := Aside0.mk (blk_below (g := gb0) (o := .cells #[.int .i64 a0_0, .int .i64 a0_1, .int .i64 a0_2, .int .i64 a0_3, .int .i64 a0_4, .int .i64 a0_5, .int .i64 a0_6] 48 (0, 0)) aq11 hb); replace HB := Aside0.mk (below_step aq4 hb); (try clear hb); (try clear hb2); (try clear hk); (try clear hi)) | ((with_reducible refine gate_callee (f := 31) rfl ?_); refine goesL_ (some 6) rfl rfl Tryd.func31 (by kernel_rfl) rfl #[.string t213, .int .u8 68] rfl aq8 ?_; (with_reducible refine (palingref11_Has.calls k t213 68 true _ A3.out).mono ?_); rintro e w' ⟨rfl, ⟨nd, rfl⟩⟩; refine ⟨_, rfl, ?_⟩; obtain ⟨hcz8_0, hcz8_1, hcz8_2, hcz8_3, hcz8_4, hcz8_5, hcz8_6, hfz8_0, hfz8_1, hfz8_2, hfz8_3, hfz8_4, hfz8_5, hfz8_6⟩ := czf7 BK0.out))
 go_ret
 exact ⟨aq13, aq4⟩
/-! ### palingref11_add: function 50 -/
mutual
def palingref11_add.l0 : Nat → List Int → Int → List Int → Bool → Int → Option (List Int)
  | 0, _, _, _, _, _ => none
  | k + 1, x0, x1, x5, x6, x7 => if x7 < (x0.length : Int) then (if 0 ≤ x7 then (if (rd x0 x7) ≥ x1 then (palingref11_add.j1 k x0 x1 x5 x6 x7 (!x6)) else (palingref11_add.j1 k x0 x1 x5 x6 x7 false)) else (none)) else (if x6 = true then (some x5) else (if x5.length < 17592186044416 then (some (x5 ++ [x1])) else (none)))
def palingref11_add.j1 : Nat → List Int → Int → List Int → Bool → Int → Bool → Option (List Int)
  | 0, _, _, _, _, _, _ => none
  | k + 1, x0, x1, x5, x6, x7, x26 => if x26 = true then (if x5.length < 17592186044416 then ((some (x5 ++ [x1] : List Int)).bind fun y219 => (if 0 ≤ x7 then (if x7 < (x0.length : Int) then (if (rd x0 x7) = x1 then (palingref11_add.l0 k x0 x1 y219 true (wrap64 (x7 + 1))) else (if y219.length < 17592186044416 then (palingref11_add.l0 k x0 x1 (y219 ++ [rd x0 x7]) true (wrap64 (x7 + 1))) else (none))) else (none)) else (none))) else (none)) else (if 0 ≤ x7 then (if x7 < (x0.length : Int) then (if (rd x0 x7) = x1 then (palingref11_add.l0 k x0 x1 x5 x6 (wrap64 (x7 + 1))) else (if x5.length < 17592186044416 then (palingref11_add.l0 k x0 x1 (x5 ++ [rd x0 x7]) x6 (wrap64 (x7 + 1))) else (none))) else (none)) else (none))
end
def palingref11_add.f (k : Nat) (l0 : List Int) (a1 : Int) : Option (List Int) := if a1 < 0 then (some l0) else (palingref11_add.l0 k l0 a1 ([] : List Int) false 0)
theorem palingref11_add.mono_l : ∀ k, (∀ y0 y1 y2 y3 y4, LeO (palingref11_add.l0 k y0 y1 y2 y3 y4) (palingref11_add.l0 (k + 1) y0 y1 y2 y3 y4)) ∧ (∀ y0 y1 y2 y3 y4 y5, LeO (palingref11_add.j1 k y0 y1 y2 y3 y4 y5) (palingref11_add.j1 (k + 1) y0 y1 y2 y3 y4 y5))
  | 0 => ⟨fun _ _ _ _ _ r h => by simp [palingref11_add.l0] at h, fun _ _ _ _ _ _ r h => by simp [palingref11_add.j1] at h⟩
  | k + 1 => by
    obtain ⟨ih0, ih1⟩ := palingref11_add.mono_l k
    refine ⟨?_, ?_⟩ <;> intros <;> (first | unfold palingref11_add.l0 | unfold palingref11_add.j1) <;> repeat' (first | (with_reducible first | exact ih0 _ _ _ _ _ | exact ih1 _ _ _ _ _ _ | exact LeO.refl _ | exact LeO.none _ | refine LeO.ite ?_ ?_ | refine LeO.bind ?_ (fun _ => ?_)) | exact ih0 _ _ _ _ _ | exact ih1 _ _ _ _ _ _ | exact LeO.none _ | refine LeO.ite ?_ ?_ | refine LeO.bind ?_ (fun _ => ?_))
theorem palingref11_add.mono : ∀ a0 a1 k, LeO (palingref11_add.f k a0 a1) (palingref11_add.f (k + 1) a0 a1) := by
 intro a0 a1 k
 obtain ⟨ih0, ih1⟩ := palingref11_add.mono_l k
 unfold palingref11_add.f
 repeat' (first | (with_reducible first | exact ih0 _ _ _ _ _ | exact ih1 _ _ _ _ _ _ | exact LeO.refl _ | exact LeO.none _ | refine LeO.ite ?_ ?_ | refine LeO.bind ?_ (fun _ => ?_)) | exact ih0 _ _ _ _ _ | exact ih1 _ _ _ _ _ _ | exact LeO.none _ | refine LeO.ite ?_ ?_ | refine LeO.bind ?_ (fun _ => ?_))
set_option maxHeartbeats 8000000 in
set_option maxRecDepth 100000 in
theorem palingref11_add.calls (k : Nat) (P0_ : Nat → Prop) (u9000_ : Value) (l0 : List Int) (a1 : Int) (r : List Int) (w0 w : World) (hB : Below w0.heap.size w0 w) (ho0 : Kd.R (Kd.int .i64) 3 w w0.heap.size P0_ u9000_ l0) (h : palingref11_add.f k l0 a1 = some r) :
    Calls Tryd.prog 50 #[u9000_, .int .i64 a1] w fun e w' => ∃ v0_ : Value, e = .returned (v0_) ∧ Kd.R (Kd.int .i64) 3 w' w0.heap.size (fun k_ => (P0_ k_ ∨ w.heap.size ≤ k_)) v0_ r ∧ Below w0.heap.size w0 w' ∧ Kept w w' (fun k_ => P0_ k_) := by
 have HO0 := Aside0.mk (show Kd.R (Kd.int .i64) 3 w w0.heap.size (fun k_ => (P0_ k_ ∨ w.heap.size ≤ k_)) u9000_ l0 from Kd.R_mono ho0 (fun k_ hk => (.inl hk)))
 have HK := Aside0.mk (Kept.refl w (fun k_ => P0_ k_))
 have HW0 := Aside0.mk hB.size
 have HB := Aside0.mk hB
 clear hB
 have H : (if a1 < 0 then (some l0) else (palingref11_add.l0 k l0 a1 ([] : List Int) false 0)) = some r := h
 clear h
 by_cases c3 : a1 < 0
 ·rw [if_pos c3] at H
  have c3b0 : decide (a1 < 0) = true := decide_eq_true c3
  clear c3
  obtain rfl := Option.some.inj H
  go_enter Tryd.func50, Tryd.ntmps50
  go_wp2
  go_ret
  exact ⟨_, aq13, by (with_reducible repeat (first | apply Kd.R_alloc | apply Kd.R_drewN | apply Kd.R_drew)); exact HO0.out, aq0, aq20⟩
 rw [if_neg c3] at H
 have c3b0 : decide (a1 < 0) = false := decide_eq_false c3
 clear c3
 have H' := Aside0.mk H
 clear H
 go_enter Tryd.func50, Tryd.ntmps50
 go_wp2
 go_loopg [5, 6, 7] k (fun kq v5 v6 v7 w' => ∃ (x5_1 : List Int) (x6_1 : Bool) (x7_1 : Int), v6 = .bool x6_1 ∧ v7 = .int .i64 x7_1 ∧ Aside0 (palingref11_add.l0 kq l0 a1 x5_1 x6_1 x7_1 = some r) ∧ Aside0 (kq ≤ k) ∧ Aside0 (Kd.R (Kd.int .i64) 3 w' w0.heap.size (fun k_ => (P0_ k_ ∨ w.heap.size ≤ k_) ∧ some k_ ≠ (v5 : Value).ownBlock) u9000_ l0) ∧ Aside0 (Kd.R (Kd.int .i64) 3 w' w0.heap.size (fun k_ => (P0_ k_ ∨ w.heap.size ≤ k_) ∧ some k_ ≠ (u9000_ : Value).ownBlock) v5 x5_1) ∧ Aside0 (Kept w w' (fun k_ => P0_ k_)) ∧ Aside0 (Below w0.heap.size w0 w'))
 case atStart => exact ⟨(([] : List Int)), (false), (0), aq7, aq7, H', ⟨Nat.le_refl _⟩, ⟨by (with_reducible repeat (first | apply Kd.R_alloc | apply Kd.R_drewN | apply Kd.R_drew)); exact Kd.R_mono HO0.out (fun _ hk => ⟨hk, (by simp [Value.ownBlock])⟩)⟩, ⟨aq22⟩, ⟨aq20⟩, ⟨aq0⟩⟩
 case round =>
  clear H'
  obtain ⟨x5_1, x6_1, x7_1, rfl, rfl, HA, HK1, HO_0, HO_5, HK, HB⟩ := hrel
  cases gk with
  | zero => exact absurd HA.out (by simp [palingref11_add.l0])
  | succ k1 =>
   have H := HA.out
   clear HA
   simp only [palingref11_add.l0] at H
   by_cases c4 : x7_1 < (l0.length : Int)
   rotate_left
   ·rw [if_neg c4] at H
    have c4b0 : decide (x7_1 < (l0.length : Int)) = false := decide_eq_false c4
    clear c4
    by_cases c23 : x6_1 = true
    ·subst c23
     rw [if_pos rfl] at H
     obtain rfl := Option.some.inj H
     obtain ⟨Ao24, co24, eo24⟩ := Kd.R_slice HO_0.out
     subst eo24
     go_wp2
     go_ret
     exact ⟨_, aq13, by (with_reducible repeat (first | apply Kd.R_alloc | apply Kd.R_drewN | apply Kd.R_drew)); exact Kd.R_mono HO_5.out (fun _ hk => hk.1), aq0, aq20⟩
    replace c23 := Bool.eq_false_iff.mpr c23
    subst c23
    rw [if_neg nf_] at H
    by_cases c25 : x5_1.length < 17592186044416
    rotate_left
    ·rw [if_neg c25] at H
     exact absurd H (by simp)
    rw [if_pos c25] at H
    have LMc25 := Aside0.mk c25
    clear c25
    obtain ⟨y215, hy_⟩ : ∃ y_ : List Int, y_ = (x5_1 ++ [a1]) := ⟨_, rfl⟩
    replace H : (some y215) = some r := aq3
    have Ny215 := Aside0.mk hy_
    clear hy_
    obtain rfl := Option.some.inj H
    obtain ⟨Ao26, co26, eo26⟩ := Kd.R_slice HO_0.out
    subst eo26
    go_wp2_with (first | ((with_reducible refine gate_builtin (b := .append) (xs := #[.tmp 46, .tmp 48]) rfl ?_); at_builtin; refine Kd.R_append (Kd.int .i64) (w0 := w0) w0.heap.size rfl (.tmp 46) (.tmp 48) 23 3 (.int .i64 0) 8 rfl Tryd.underlying23 info3 rfl (by decide) (by omega) u5 x5_1 a1 [.int .i64 a1] (fun k_ => (P0_ k_ ∨ w.heap.size ≤ k_) ∧ some k_ ≠ (.slice Ao26 l0.length co26 : Value).ownBlock) (fun _ => False) rfl rfl ?aP (fun _ hk => hk.elim) ?aF ?aO ?aB ?aS ?aL ?_; (case aP => exact rfl); (case aB => exact aq0); (case aF => exact (fun k_ hk => ⟨(.inr (Nat.le_trans aq30 hk)), Kd.fresh' (Kd.R_lt aq21) k_ hk⟩)); (case aO => exact aq10); (case aS => exact (below_size aq0)); (case aL => have := LMc25.out; omega); intro v216 w27 ho hb hg hat; rw [← Ny215.out] at ho; replace HO_0 := Aside0.mk (Kd.R_after (ok := (fun k_ => (P0_ k_ ∨ w.heap.size ≤ k_))) aq21 hg hat); replace HB := Aside0.mk (hb); replace HK := Aside0.mk (Kept.of_grown (S := (fun k_ => P0_ k_)) hg aq20 (fun k_ e_ => (HO_5.out.1 k_ e_).1)); have HO217 := Aside0.mk (ho); clear HO_5; clear ho hb hg hat))
    go_ret
    exact ⟨_, aq13, by (with_reducible repeat (first | apply Kd.R_alloc | apply Kd.R_drewN | apply Kd.R_drew)); exact Kd.R_mono HO217.out (fun _ hk => hk.1), aq0, aq20⟩
   rw [if_pos c4] at H
   have c4b0 : decide (x7_1 < (l0.length : Int)) = true := decide_eq_true c4
   clear c4
   have HC5 := Aside0.mk H
   clear H
   obtain ⟨Ao6, co6, eo6⟩ := Kd.R_slice HO_0.out
   subst eo6
   go_upto_region 8 with (fail)
   go_cut [26] (fun v26 wc => ∃ (kq : Nat) (x26_4 : Bool), v26 = .bool x26_4 ∧ Aside0 (palingref11_add.j1 kq l0 a1 x5_1 x6_1 x7_1 x26_4 = some r) ∧ Aside0 (kq ≤ k1) ∧ Aside0 (Kd.R (Kd.int .i64) 3 wc w0.heap.size (fun k_ => (P0_ k_ ∨ w.heap.size ≤ k_) ∧ some k_ ≠ (u5 : Value).ownBlock) (.slice Ao6 l0.length co6) l0) ∧ Aside0 (Kd.R (Kd.int .i64) 3 wc w0.heap.size (fun k_ => (P0_ k_ ∨ w.heap.size ≤ k_) ∧ some k_ ≠ ((.slice Ao6 l0.length co6) : Value).ownBlock) u5 x5_1) ∧ Aside0 (Kept w wc (fun k_ => P0_ k_)) ∧ Aside0 (Below w0.heap.size w0 wc))
   case first =>
    have H := HC5.out
    clear HC5
    by_cases c7 : 0 ≤ x7_1
    rotate_left
    ·rw [if_neg c7] at H
     exact absurd H (by simp)
    rw [if_pos c7] at H
    have c7b0 : decide (0 ≤ x7_1) = true := decide_eq_true c7
    clear c7
    (first | rw [c7b0] | (simp only [i64_w, i32_w]; rw [c7b0]) | skip)
    by_cases c8 : (rd l0 x7_1) ≥ a1
    ·rw [if_pos c8] at H
     have c8b0 : decide (a1 ≤ (rd l0 x7_1)) = true := decide_eq_true c8
     clear c8
     have H' := Aside0.mk H
     clear H
     have p218 : 0 ≤ (x7_1 : Int) := of_decide_eq_true aq2
     have q218 : x7_1 < (l0.length : Int) := of_decide_eq_true aq2
     obtain ⟨ad218, e218, hx218_0⟩ := Kd.at_int (Kd.R_reads' HO_0.out).2.2 x7_1 p218 q218
     cases e218
     replace p218 := eq_true p218
     replace q218 := eq_true q218
     go_wp2
     go_meet
     case rel => exact ⟨_, (!x6_1), aq7, H', ⟨aq62⟩, ⟨aq21⟩, ⟨aq10⟩, ⟨aq20⟩, ⟨aq0⟩⟩
    rw [if_neg c8] at H
    have c8b0 : decide (a1 ≤ (rd l0 x7_1)) = false := decide_eq_false c8
    clear c8
    have H' := Aside0.mk H
    clear H
    have p218 : 0 ≤ (x7_1 : Int) := of_decide_eq_true aq2
    have q218 : x7_1 < (l0.length : Int) := of_decide_eq_true aq2
    obtain ⟨ad218, e218, hx218_0⟩ := Kd.at_int (Kd.R_reads' HO_0.out).2.2 x7_1 p218 q218
    cases e218
    replace p218 := eq_true p218
    replace q218 := eq_true q218
    go_wp2
    go_meet
    case rel => exact ⟨_, (false), aq7, H', ⟨aq62⟩, ⟨aq21⟩, ⟨aq10⟩, ⟨aq20⟩, ⟨aq0⟩⟩
   case rest =>
    clear HC5
    obtain ⟨kq, x26_4, rfl, HA, HJ4, HO_0, HO_5, HK, HB⟩ := hcut
    cases kq with
    | zero => exact absurd HA.out (by simp [palingref11_add.j1])
    | succ kj4 =>
     have H := HA.out
     clear HA
     simp only [palingref11_add.j1] at H
     by_cases c9 : x26_4 = true
     rotate_left
     ·replace c9 := Bool.eq_false_iff.mpr c9
      subst c9
      rw [if_neg nf_] at H
      by_cases c18 : 0 ≤ x7_1
      rotate_left
      ·rw [if_neg c18] at H
       exact absurd H (by simp)
      rw [if_pos c18] at H
      have c18b0 : decide (0 ≤ x7_1) = true := decide_eq_true c18
      clear c18
      by_cases c19 : x7_1 < (l0.length : Int)
      rotate_left
      ·rw [if_neg c19] at H
       exact absurd H (by simp)
      rw [if_pos c19] at H
      have c19b0 : decide (x7_1 < (l0.length : Int)) = true := decide_eq_true c19
      clear c19
      by_cases c20 : (rd l0 x7_1) = a1
      ·rw [if_pos c20] at H
       have c20b0 : ((rd l0 x7_1) == a1) = true := beq_iff_eq.mpr c20
       have c20b1 : ((rd l0 x7_1) != a1) = false := bne_eq_false_iff_eq.mpr c20
       clear c20
       have H' := Aside0.mk H
       clear H
       have p227 : 0 ≤ (x7_1 : Int) := of_decide_eq_true aq2
       have q227 : x7_1 < (l0.length : Int) := of_decide_eq_true aq2
       obtain ⟨ad227, e227, hx227_0⟩ := Kd.at_int (Kd.R_reads' HO_0.out).2.2 x7_1 p227 q227
       cases e227
       replace p227 := eq_true p227
       replace q227 := eq_true q227
       go_wp2
       go_roundg kj4
       case measure => have := HK1.out; have := HJ4.out; omega
       case rel => exact ⟨(x5_1), (x6_1), (wrap64 (x7_1 + 1)), aq7, aq7, H', ⟨aq72⟩, ⟨aq21⟩, ⟨aq10⟩, ⟨aq20⟩, ⟨aq0⟩⟩
      rw [if_neg c20] at H
      have c20b0 : ((rd l0 x7_1) == a1) = false := beq_eq_false_iff_ne.mpr c20
      have c20b1 : ((rd l0 x7_1) != a1) = true := bne_iff_ne.mpr c20
      by_cases c21 : x5_1.length < 17592186044416
      rotate_left
      ·rw [if_neg c21] at H
       exact absurd H (by simp)
      rw [if_pos c21] at H
      have LMc21 := Aside0.mk c21
      clear c21
      obtain ⟨y229, hy_⟩ : ∃ y_ : List Int, y_ = (x5_1 ++ [rd l0 x7_1]) := ⟨_, rfl⟩
      replace H : (palingref11_add.l0 kj4 l0 a1 y229 x6_1 (wrap64 (x7_1 + 1))) = some r := aq3
      have Ny229 := Aside0.mk hy_
      clear hy_
      have H' := Aside0.mk H
      clear H
      have p227 : 0 ≤ (x7_1 : Int) := of_decide_eq_true aq2
      have q227 : x7_1 < (l0.length : Int) := of_decide_eq_true aq2
      obtain ⟨ad227, e227, hx227_0⟩ := Kd.at_int (Kd.R_reads' HO_0.out).2.2 x7_1 p227 q227
      cases e227
      replace p227 := eq_true p227
      replace q227 := eq_true q227
      have p228 : 0 ≤ (x7_1 : Int) := of_decide_eq_true aq2
      have q228 : x7_1 < (l0.length : Int) := of_decide_eq_true aq2
      obtain ⟨ad228, e228, hx228_0⟩ := Kd.at_int (Kd.R_reads' HO_0.out).2.2 x7_1 p228 q228
      obtain rfl : ad227 = ad228 := (by injection e228)
      replace p228 := eq_true p228
      replace q228 := eq_true q228
      go_wp2_with (first | ((with_reducible refine gate_builtin (b := .append) (xs := #[.tmp 37, .tmp 42]) rfl ?_); at_builtin; refine Kd.R_append (Kd.int .i64) (w0 := w0) w0.heap.size rfl (.tmp 37) (.tmp 42) 23 3 (.int .i64 0) 8 rfl Tryd.underlying23 info3 rfl (by decide) (by omega) u5 x5_1 (rd l0 x7_1) [.int .i64 (rd l0 x7_1)] (fun k_ => (P0_ k_ ∨ w.heap.size ≤ k_) ∧ some k_ ≠ (.slice (some ad227) l0.length co6 : Value).ownBlock) (fun _ => False) rfl rfl ?aP (fun _ hk => hk.elim) ?aF ?aO ?aB ?aS ?aL ?_; (case aP => exact rfl); (case aB => exact aq0); (case aF => exact (fun k_ hk => ⟨(.inr (Nat.le_trans aq30 hk)), Kd.fresh' (Kd.R_lt aq21) k_ hk⟩)); (case aO => exact aq10); (case aS => exact (below_size aq0)); (case aL => have := LMc21.out; omega); intro v230 w22 ho hb hg hat; rw [← Ny229.out] at ho; replace HO_0 := Aside0.mk (Kd.R_after (ok := (fun k_ => (P0_ k_ ∨ w.heap.size ≤ k_))) aq21 hg hat); replace HB := Aside0.mk (hb); replace HK := Aside0.mk (Kept.of_grown (S := (fun k_ => P0_ k_)) hg aq20 (fun k_ e_ => (HO_5.out.1 k_ e_).1)); have HO231 := Aside0.mk (ho); clear HO_5; clear ho hb hg hat))
      go_roundg kj4
      case measure => have := HK1.out; have := HJ4.out; omega
      case rel => exact ⟨(y229), (x6_1), (wrap64 (x7_1 + 1)), aq7, aq7, H', ⟨aq72⟩, ⟨aq21⟩, ⟨by (with_reducible repeat (first | apply Kd.R_alloc | apply Kd.R_drewN | apply Kd.R_drew)); exact HO231.out⟩, ⟨aq20⟩, ⟨aq0⟩⟩
     subst c9
     rw [if_pos rfl] at H
     by_cases c10 : x5_1.length < 17592186044416
     rotate_left
     ·rw [if_neg c10] at H
      exact absurd H (by simp)
     rw [if_pos c10] at H
     have LMc10 := Aside0.mk c10
     clear c10
     obtain ⟨y219, hy_⟩ : ∃ y_ : List Int, y_ = (x5_1 ++ [a1]) := ⟨_, rfl⟩
     replace H : (if 0 ≤ x7_1 then (if x7_1 < (l0.length : Int) then (if (rd l0 x7_1) = a1 then (palingref11_add.l0 kj4 l0 a1 y219 true (wrap64 (x7_1 + 1))) else (if y219.length < 17592186044416 then (palingref11_add.l0 kj4 l0 a1 (y219 ++ [rd l0 x7_1]) true (wrap64 (x7_1 + 1))) else (none))) else (none)) else (none)) = some r := aq3
     have Ny219 := Aside0.mk hy_
     clear hy_
     by_cases c11 : 0 ≤ x7_1
     rotate_left
     ·rw [if_neg c11] at H
      exact absurd H (by simp)
     rw [if_pos c11] at H
     have c11b0 : decide (0 ≤ x7_1) = true := decide_eq_true c11
     clear c11
     by_cases c12 : x7_1 < (l0.length : Int)
     rotate_left
     ·rw [if_neg c12] at H
      exact absurd H (by simp)
     rw [if_pos c12] at H
     have c12b0 : decide (x7_1 < (l0.length : Int)) = true := decide_eq_true c12
     clear c12
     by_cases c13 : (rd l0 x7_1) = a1
     ·rw [if_pos c13] at H
      have c13b0 : ((rd l0 x7_1) == a1) = true := beq_iff_eq.mpr c13
      have c13b1 : ((rd l0 x7_1) != a1) = false := bne_eq_false_iff_eq.mpr c13
      clear c13
      have H' := Aside0.mk H
      clear H
      go_wp2_with (first | ((with_reducible refine gate_builtin (b := .append) (xs := #[.tmp 27, .tmp 29]) rfl ?_); at_builtin; refine Kd.R_append (Kd.int .i64) (w0 := w0) w0.heap.size rfl (.tmp 27) (.tmp 29) 23 3 (.int .i64 0) 8 rfl Tryd.underlying23 info3 rfl (by decide) (by omega) u5 x5_1 a1 [.int .i64 a1] (fun k_ => (P0_ k_ ∨ w.heap.size ≤ k_) ∧ some k_ ≠ (.slice Ao6 l0.length co6 : Value).ownBlock) (fun _ => False) rfl rfl ?aP (fun _ hk => hk.elim) ?aF ?aO ?aB ?aS ?aL ?_; (case aP => exact rfl); (case aB => exact aq0); (case aF => exact (fun k_ hk => ⟨(.inr (Nat.le_trans aq30 hk)), Kd.fresh' (Kd.R_lt aq21) k_ hk⟩)); (case aO => exact aq10); (case aS => exact (below_size aq0)); (case aL => have := LMc10.out; omega); intro v220 w14 ho hb hg hat; rw [← Ny219.out] at ho; replace HO_0 := Aside0.mk (Kd.R_after (ok := (fun k_ => (P0_ k_ ∨ w.heap.size ≤ k_))) aq21 hg hat); replace HB := Aside0.mk (hb); replace HK := Aside0.mk (Kept.of_grown (S := (fun k_ => P0_ k_)) hg aq20 (fun k_ e_ => (HO_5.out.1 k_ e_).1)); have HO221 := Aside0.mk (ho); clear HO_5; clear ho hb hg hat; have p222 : 0 ≤ (x7_1 : Int) := of_decide_eq_true aq2; have q222 : x7_1 < (l0.length : Int) := of_decide_eq_true aq2; obtain ⟨ad222, e222, hx222_0⟩ := Kd.at_int (Kd.R_reads' HO_0.out).2.2 x7_1 p222 q222; cases e222; replace p222 := eq_true p222; replace q222 := eq_true q222))
      go_roundg kj4
      case measure => have := HK1.out; have := HJ4.out; omega
      case rel => exact ⟨(y219), (true), (wrap64 (x7_1 + 1)), aq7, aq7, H', ⟨aq72⟩, ⟨aq21⟩, ⟨by (with_reducible repeat (first | apply Kd.R_alloc | apply Kd.R_drewN | apply Kd.R_drew)); exact HO221.out⟩, ⟨aq20⟩, ⟨aq0⟩⟩
     rw [if_neg c13] at H
     have c13b0 : ((rd l0 x7_1) == a1) = false := beq_eq_false_iff_ne.mpr c13
     have c13b1 : ((rd l0 x7_1) != a1) = true := bne_iff_ne.mpr c13
     by_cases c15 : y219.length < 17592186044416
     rotate_left
     ·rw [if_neg c15] at H
      exact absurd H (by simp)
     rw [if_pos c15] at H
     have LMc15 := Aside0.mk c15
     clear c15
     obtain ⟨y224, hy_⟩ : ∃ y_ : List Int, y_ = (y219 ++ [rd l0 x7_1]) := ⟨_, rfl⟩
     replace H : (palingref11_add.l0 kj4 l0 a1 y224 true (wrap64 (x7_1 + 1))) = some r := aq3
     have Ny224 := Aside0.mk hy_
     clear hy_
     have H' := Aside0.mk H
     clear H
     go_wp2_with (first | ((with_reducible refine gate_builtin (b := .append) (xs := #[.tmp 27, .tmp 29]) rfl ?_); at_builtin; refine Kd.R_append (Kd.int .i64) (w0 := w0) w0.heap.size rfl (.tmp 27) (.tmp 29) 23 3 (.int .i64 0) 8 rfl Tryd.underlying23 info3 rfl (by decide) (by omega) u5 x5_1 a1 [.int .i64 a1] (fun k_ => (P0_ k_ ∨ w.heap.size ≤ k_) ∧ some k_ ≠ (.slice Ao6 l0.length co6 : Value).ownBlock) (fun _ => False) rfl rfl ?aP (fun _ hk => hk.elim) ?aF ?aO ?aB ?aS ?aL ?_; (case aP => exact rfl); (case aB => exact aq0); (case aF => exact (fun k_ hk => ⟨(.inr (Nat.le_trans aq30 hk)), Kd.fresh' (Kd.R_lt aq21) k_ hk⟩)); (case aO => exact aq10); (case aS => exact (below_size aq0)); (case aL => have := LMc10.out; omega); intro v220 w16 ho hb hg hat; rw [← Ny219.out] at ho; replace HO_0 := Aside0.mk (Kd.R_after (ok := (fun k_ => (P0_ k_ ∨ w.heap.size ≤ k_))) aq21 hg hat); replace HB := Aside0.mk (hb); replace HK := Aside0.mk (Kept.of_grown (S := (fun k_ => P0_ k_)) hg aq20 (fun k_ e_ => (HO_5.out.1 k_ e_).1)); have HO221 := Aside0.mk (ho); clear HO_5; clear ho hb hg hat; have p222 : 0 ≤ (x7_1 : Int) := of_decide_eq_true aq2; have q222 : x7_1 < (l0.length : Int) := of_decide_eq_true aq2; obtain ⟨ad222, e222, hx222_0⟩ := Kd.at_int (Kd.R_reads' HO_0.out).2.2 x7_1 p222 q222; cases e222; replace p222 := eq_true p222; replace q222 := eq_true q222; have p223 : 0 ≤ (x7_1 : Int) := of_decide_eq_true aq2; have q223 : x7_1 < (l0.length : Int) := of_decide_eq_true aq2; obtain ⟨ad223, e223, hx223_0⟩ := Kd.at_int (Kd.R_reads' HO_0.out).2.2 x7_1 p223 q223; obtain rfl : ad222 = ad223 := (by injection e223); replace p223 := eq_true p223; replace q223 := eq_true q223) | ((with_reducible refine gate_builtin (b := .append) (xs := #[.tmp 37, .tmp 42]) rfl ?_); at_builtin; refine Kd.R_append (Kd.int .i64) (w0 := w0) w0.heap.size rfl (.tmp 37) (.tmp 42) 23 3 (.int .i64 0) 8 rfl Tryd.underlying23 info3 rfl (by decide) (by omega) v220 y219 (rd l0 x7_1) [.int .i64 (rd l0 x7_1)] (fun k_ => (P0_ k_ ∨ w.heap.size ≤ k_) ∧ some k_ ≠ (.slice (some ad222) l0.length co6 : Value).ownBlock) (fun _ => False) rfl rfl ?aP (fun _ hk => hk.elim) ?aF ?aO ?aB ?aS ?aL ?_; (case aP => exact rfl); (case aB => exact aq0); (case aF => exact (fun k_ hk => ⟨(.inr (Nat.le_trans aq30 hk)), Kd.fresh' (Kd.R_lt aq21) k_ hk⟩)); (case aO => exact (by (with_reducible repeat (first | apply Kd.R_alloc | apply Kd.R_drewN | apply Kd.R_drew)); exact HO221.out)); (case aS => exact (below_size aq0)); (case aL => have := LMc15.out; omega); intro v225 w17 ho hb hg hat; rw [← Ny224.out] at ho; replace HO_0 := Aside0.mk (Kd.R_after (ok := (fun k_ => (P0_ k_ ∨ w.heap.size ≤ k_))) aq21 hg hat); replace HB := Aside0.mk (hb); replace HK := Aside0.mk (Kept.of_grown (S := (fun k_ => P0_ k_)) hg aq20 (fun k_ e_ => (HO221.out.1 k_ e_).1)); have HO226 := Aside0.mk (ho); clear HO221; clear ho hb hg hat))
     go_roundg kj4
     case measure => have := HK1.out; have := HJ4.out; omega
     case rel => exact ⟨(y224), (true), (wrap64 (x7_1 + 1)), aq7, aq7, H', ⟨aq72⟩, ⟨aq21⟩, ⟨by (with_reducible repeat (first | apply Kd.R_alloc | apply Kd.R_drewN | apply Kd.R_drew)); exact HO226.out⟩, ⟨aq20⟩, ⟨aq0⟩⟩
/-! ### palingref11_Uses: function 45 -/
mutual
def palingref11_Uses.j0 : Nat → ByteArray → List Int → Int → Int → Int → Int → Int → Int → Int → Option (List Int)
  | 0, _, _, _, _, _, _, _, _, _ => none
  | k + 1, x3, x4, x233000, x233001, x233002, x233003, x233004, x233005, x233006 => (palingref11_Has.f k x3 65).bind fun t237 => (if t237 = true then ((palingref11_add.f k x4 x233003).bind fun t238 => (palingref11_Uses.j1 k x3 t238 x233000 x233001 x233002 x233003 x233004 x233005 x233006)) else (palingref11_Uses.j1 k x3 x4 x233000 x233001 x233002 x233003 x233004 x233005 x233006))
def palingref11_Uses.j1 : Nat → ByteArray → List Int → Int → Int → Int → Int → Int → Int → Int → Option (List Int)
  | 0, _, _, _, _, _, _, _, _, _ => none
  | k + 1, x3, x4, x233000, x233001, x233002, x233003, x233004, x233005, x233006 => (palingref11_Has.f k x3 66).bind fun t241 => (if t241 = true then ((palingref11_add.f k x4 x233004).bind fun t242 => (some t242)) else (some x4))
end
def palingref11_Uses.f (k : Nat) (a0_0 : Int) (a0_1 : Int) (a0_2 : Int) (a0_3 : Int) (a0_4 : Int) (a0_5 : Int) (a0_6 : Int) : Option (List Int) := (palingref11_fields.f a0_0).bind fun t233 => (if a0_0 = 3 then ((palingref11_add.f k ([] : List Int) a0_2).bind fun t234 => (palingref11_Uses.j0 k t233 t234 a0_0 a0_1 a0_2 a0_3 a0_4 a0_5 a0_6)) else (palingref11_Uses.j0 k t233 ([] : List Int) a0_0 a0_1 a0_2 a0_3 a0_4 a0_5 a0_6))
theorem palingref11_Uses.mono_l : ∀ k, (∀ y0 y1 y2 y3 y4 y5 y6 y7 y8, LeO (palingref11_Uses.j0 k y0 y1 y2 y3 y4 y5 y6 y7 y8) (palingref11_Uses.j0 (k + 1) y0 y1 y2 y3 y4 y5 y6 y7 y8)) ∧ (∀ y0 y1 y2 y3 y4 y5 y6 y7 y8, LeO (palingref11_Uses.j1 k y0 y1 y2 y3 y4 y5 y6 y7 y8) (palingref11_Uses.j1 (k + 1) y0 y1 y2 y3 y4 y5 y6 y7 y8))
  | 0 => ⟨fun _ _ _ _ _ _ _ _ _ r h => by simp [palingref11_Uses.j0] at h, fun _ _ _ _ _ _ _ _ _ r h => by simp [palingref11_Uses.j1] at h⟩
  | k + 1 => by
    obtain ⟨ih0, ih1⟩ := palingref11_Uses.mono_l k
    refine ⟨?_, ?_⟩ <;> intros <;> (first | unfold palingref11_Uses.j0 | unfold palingref11_Uses.j1) <;> repeat' (first | (with_reducible first | exact ih0 _ _ _ _ _ _ _ _ _ | exact ih1 _ _ _ _ _ _ _ _ _ | exact palingref11_Has.mono _ _ _ | exact palingref11_add.mono _ _ _ | exact LeO.refl _ | exact LeO.none _ | refine LeO.ite ?_ ?_ | refine LeO.bind ?_ (fun _ => ?_)) | exact ih0 _ _ _ _ _ _ _ _ _ | exact ih1 _ _ _ _ _ _ _ _ _ | exact palingref11_Has.mono _ _ _ | exact palingref11_add.mono _ _ _ | exact LeO.none _ | refine LeO.ite ?_ ?_ | refine LeO.bind ?_ (fun _ => ?_))
theorem palingref11_Uses.mono : ∀ a0 a1 a2 a3 a4 a5 a6 k, LeO (palingref11_Uses.f k a0 a1 a2 a3 a4 a5 a6) (palingref11_Uses.f (k + 1) a0 a1 a2 a3 a4 a5 a6) := by
 intro a0 a1 a2 a3 a4 a5 a6 k
 obtain ⟨ih0, ih1⟩ := palingref11_Uses.mono_l k
 unfold palingref11_Uses.f
 repeat' (first | (with_reducible first | exact ih0 _ _ _ _ _ _ _ _ _ | exact ih1 _ _ _ _ _ _ _ _ _ | exact palingref11_Has.mono _ _ _ | exact palingref11_add.mono _ _ _ | exact LeO.refl _ | exact LeO.none _ | refine LeO.ite ?_ ?_ | refine LeO.bind ?_ (fun _ => ?_)) | exact ih0 _ _ _ _ _ _ _ _ _ | exact ih1 _ _ _ _ _ _ _ _ _ | exact palingref11_Has.mono _ _ _ | exact palingref11_add.mono _ _ _ | exact LeO.none _ | refine LeO.ite ?_ ?_ | refine LeO.bind ?_ (fun _ => ?_))
set_option maxHeartbeats 8000000 in
set_option maxRecDepth 100000 in
theorem palingref11_Uses.calls (k : Nat) (a0_0 : Int) (a0_1 : Int) (a0_2 : Int) (a0_3 : Int) (a0_4 : Int) (a0_5 : Int) (a0_6 : Int) (r : List Int) (w : World) (h : palingref11_Uses.f k a0_0 a0_1 a0_2 a0_3 a0_4 a0_5 a0_6 = some r) :
    Calls Tryd.prog 45 #[.agg #[.int .i64 a0_0, .int .i64 a0_1, .int .i64 a0_2, .int .i64 a0_3, .int .i64 a0_4, .int .i64 a0_5, .int .i64 a0_6]] w fun e w' => ∃ v0_ : Value, e = .returned (v0_) ∧ Kd.R (Kd.int .i64) 3 w' w.heap.size (fun _ => True) v0_ r ∧ Below w.heap.size w w' := by
 have hu48 := Tryd.underlying48
 have HB := Aside0.mk (Below.refl w.heap.size w)
 have H : ((palingref11_fields.f a0_0).bind fun t233 => (if a0_0 = 3 then ((palingref11_add.f k ([] : List Int) a0_2).bind fun t234 => (palingref11_Uses.j0 k t233 t234 a0_0 a0_1 a0_2 a0_3 a0_4 a0_5 a0_6)) else (palingref11_Uses.j0 k t233 ([] : List Int) a0_0 a0_1 a0_2 a0_3 a0_4 a0_5 a0_6))) = some r := h
 clear h
 obtain ⟨t233, A2, H⟩ := bS_ H
 have HC3 := Aside0.mk H
 clear H
 go_enter Tryd.func45, Tryd.ntmps45
 go_upto_if 10 with (first | ((with_reducible refine gate_dst (N := 1) rfl ?_); refine box_event ?hg (N := 1) ?hd (cs := #[.int .i64 a0_0, .int .i64 a0_1, .int .i64 a0_2, .int .i64 a0_3, .int .i64 a0_4, .int .i64 a0_5, .int .i64 a0_6]) (t := 48) ?hr ?_; (case hd => rfl); (case hg => rfl); (case hr => first | (go_simp; done) | (go_simp; rfl)); intro gb0 hg w4 hbox hb; have BK0 := Aside0.mk (hbox); have GW0 := Aside0.mk ((by rw [hg]; exact (below_size aq0) : w.heap.size ≤ gb0)); have GE0 := Aside0.mk ((by rw [hg]; exact (below_size aq0) : w.heap.size ≤ gb0)); replace HB := Aside0.mk (below_step aq0 hb); clear hb hbox hg; obtain ⟨hcz5_0, hcz5_1, hcz5_2, hcz5_3, hcz5_4, hcz5_5, hcz5_6, hfz5_0, hfz5_1, hfz5_2, hfz5_3, hfz5_4, hfz5_5, hfz5_6⟩ := czf7 BK0.out) | ((with_reducible refine gate_callee (f := 29) rfl ?_); refine goesL_ (some 7) rfl rfl Tryd.func29 (by kernel_rfl) rfl #[.int .i64 a0_0] rfl aq8 ?_; (with_reducible refine (palingref11_fields.calls a0_0 t233 _ A2.out).mono ?_); rintro e w6 ⟨rfl, hb⟩; refine ⟨_, rfl, ?_⟩; replace BK0 := Aside0.mk (blk_below (g := gb0) (o := .cells #[.int .i64 a0_0, .int .i64 a0_1, .int .i64 a0_2, .int .i64 a0_3, .int .i64 a0_4, .int .i64 a0_5, .int .i64 a0_6] 48 (0, 0)) aq11 hb); replace HB := Aside0.mk (below_step aq4 hb); (try clear hb); (try clear hb2); (try clear hk); (try clear hi); obtain ⟨hcz7_0, hcz7_1, hcz7_2, hcz7_3, hcz7_4, hcz7_5, hcz7_6, hfz7_0, hfz7_1, hfz7_2, hfz7_3, hfz7_4, hfz7_5, hfz7_6⟩ := czf7 BK0.out))
 (try simp only [Act.put, List.setIfInBounds_toArray, List.set_cons_zero, List.set_cons_succ])
 go_cut [4] (fun v4 wc => ∃ (kq : Nat) (x4_2 : List Int), Aside0 (palingref11_Uses.j0 kq t233 x4_2 a0_0 a0_1 a0_2 a0_3 a0_4 a0_5 a0_6 = some r) ∧ Aside0 (kq ≤ k) ∧ Aside0 (Kd.R (Kd.int .i64) 3 wc w.heap.size (fun _ => True) v4 x4_2) ∧ Aside0 (wc.heap[gb0]? = some (.cells #[.int .i64 a0_0, .int .i64 a0_1, .int .i64 a0_2, .int .i64 a0_3, .int .i64 a0_4, .int .i64 a0_5, .int .i64 a0_6] 48 (0, 0))) ∧ Aside0 (Below w.heap.size w wc))
 case first =>
  have H := HC3.out
  clear HC3
  by_cases c8 : a0_0 = 3
  rotate_left
  ·rw [if_neg c8] at H
   have c8b0 : (a0_0 == 3) = false := beq_eq_false_iff_ne.mpr c8
   have c8b1 : (a0_0 != 3) = true := bne_iff_ne.mpr c8
   (first | rw [c8b0] | (simp only [i64_w, i32_w]; rw [c8b0]) | skip)
   have H' := Aside0.mk H
   clear H
   go_wp2
   go_meet
   case rel => exact ⟨_, (([] : List Int)), H', ⟨aq50⟩, ⟨aq22⟩, ⟨aq11⟩, ⟨aq4⟩⟩
  rw [if_pos c8] at H
  have c8b0 : (a0_0 == 3) = true := beq_iff_eq.mpr c8
  have c8b1 : (a0_0 != 3) = false := bne_eq_false_iff_eq.mpr c8
  clear c8
  (first | rw [c8b0] | (simp only [i64_w, i32_w]; rw [c8b0]) | skip)
  obtain ⟨t234, A9, H⟩ := bS_ H
  have H' := Aside0.mk H
  clear H
  obtain ⟨hcz10_0, hcz10_1, hcz10_2, hcz10_3, hcz10_4, hcz10_5, hcz10_6, hfz10_0, hfz10_1, hfz10_2, hfz10_3, hfz10_4, hfz10_5, hfz10_6⟩ := czf7 BK0.out
  go_wp2_with (first | ((with_reducible refine gate_callee (f := 50) rfl ?_); refine goesL_ (some 14) rfl rfl Tryd.func50 (by kernel_rfl) rfl #[.slice none 0 0, .int .i64 a0_2] rfl aq8 ?_; (refine (palingref11_add.calls k (fun k_ => some k_ = (.slice none 0 0 : Value).ownBlock) (.slice none 0 0) ([] : List Int) a0_2 t234 w _ ?side1 ?side2 A9.out).mono ?_); (case side1 => repeat (first | (with_reducible first | exact HB.out | apply below_alloc | apply pw_below_drewN | apply below_drew1 | refine below_set ?_ GE0.out) | exact HB.out)); (case side2 => exact Kd.R_nil _ _ _ _ _); rintro e w11 ⟨v235, rfl, ho0, hb, hkp⟩; refine ⟨_, rfl, ?_⟩; replace BK0 := Aside0.mk (blk_kept aq11 hkp (fun hs_ => (fun e_ => by simp [Value.ownBlock] at e_) hs_)); have HO236 := Aside0.mk (Kd.R_mono (ok' := fun k_ => True) ho0 (fun k_ hk_ => trivial)); replace HB := Aside0.mk (hb); (try clear hb); (try clear hkp); (try clear ho0)))
  go_meet
  case rel => exact ⟨_, (t234), H', ⟨aq50⟩, ⟨by (with_reducible repeat (first | apply Kd.R_alloc | apply Kd.R_drewN | apply Kd.R_drew)); exact HO236.out⟩, ⟨aq11⟩, ⟨aq4⟩⟩
 case rest =>
  clear HC3
  obtain ⟨kq, x4_2, HA, HJ2, HO_4, BK0, HB⟩ := hcut
  cases kq with
  | zero => exact absurd HA.out (by simp [palingref11_Uses.j0])
  | succ kj2 =>
   have H := HA.out
   clear HA
   simp only [palingref11_Uses.j0] at H
   obtain ⟨t237, A12, H⟩ := bS_ H
   have HC13 := Aside0.mk H
   clear H
   go_upto_if 16 with (first | ((with_reducible refine gate_callee (f := 31) rfl ?_); refine goesL_ (some 16) rfl rfl Tryd.func31 (by kernel_rfl) rfl #[.string t233, .int .u8 65] rfl aq8 ?_; (with_reducible refine (palingref11_Has.calls kj2 t233 65 t237 _ A12.out).mono ?_); rintro e w' ⟨rfl, ⟨nd, rfl⟩⟩; refine ⟨_, rfl, ?_⟩))
   (try simp only [Act.put, List.setIfInBounds_toArray, List.set_cons_zero, List.set_cons_succ])
   go_cut [4] (fun v4 wc => ∃ (kq : Nat) (x4_12 : List Int), Aside0 (palingref11_Uses.j1 kq t233 x4_12 a0_0 a0_1 a0_2 a0_3 a0_4 a0_5 a0_6 = some r) ∧ Aside0 (kq ≤ kj2) ∧ Aside0 (Kd.R (Kd.int .i64) 3 wc w.heap.size (fun _ => True) v4 x4_12) ∧ Aside0 (wc.heap[gb0]? = some (.cells #[.int .i64 a0_0, .int .i64 a0_1, .int .i64 a0_2, .int .i64 a0_3, .int .i64 a0_4, .int .i64 a0_5, .int .i64 a0_6] 48 (0, 0))) ∧ Aside0 (Below w.heap.size w wc))
   case first =>
    have H := HC13.out
    clear HC13
    by_cases c14 : t237 = true
    rotate_left
    ·replace c14 := Bool.eq_false_iff.mpr c14
     subst c14
     rw [if_neg nf_] at H
     have H' := Aside0.mk H
     clear H
     go_wp2
     go_meet
     case rel => exact ⟨_, (x4_2), H', ⟨aq61⟩, ⟨aq39⟩, ⟨aq11⟩, ⟨aq4⟩⟩
    subst c14
    rw [if_pos rfl] at H
    obtain ⟨t238, A15, H⟩ := bS_ H
    have H' := Aside0.mk H
    clear H
    obtain ⟨hcz16_0, hcz16_1, hcz16_2, hcz16_3, hcz16_4, hcz16_5, hcz16_6, hfz16_0, hfz16_1, hfz16_2, hfz16_3, hfz16_4, hfz16_5, hfz16_6⟩ := czf7 BK0.out
    obtain ⟨Ao17, co17, eo17⟩ := Kd.R_slice HO_4.out
    subst eo17
    go_wp2_with (first | ((with_reducible refine gate_callee (f := 50) rfl ?_); refine goesL_ (some 20) rfl rfl Tryd.func50 (by kernel_rfl) rfl #[.slice Ao17 x4_2.length co17, .int .i64 a0_3] rfl aq8 ?_; (with_reducible refine (palingref11_add.calls kj2 (fun k_ => some k_ = (.slice Ao17 x4_2.length co17 : Value).ownBlock) (.slice Ao17 x4_2.length co17) x4_2 a0_3 t238 w _ ?side1 ?side2 A15.out).mono ?_); (case side1 => repeat (first | (with_reducible first | exact HB.out | apply below_alloc | apply pw_below_drewN | apply below_drew1 | refine below_set ?_ GE0.out) | exact HB.out)); (case side2 => exact Kd.R_tight rfl HO_4.out); rintro e w18 ⟨v239, rfl, ho0, hb, hkp⟩; refine ⟨_, rfl, ?_⟩; replace BK0 := Aside0.mk (blk_kept aq11 hkp (fun hs_ => (fun e_ => (Kd.R_ne HO_4.out BK0.out (by decide)) e_) hs_)); have HO240 := Aside0.mk (Kd.R_mono (ok' := fun k_ => True) ho0 (fun k_ hk_ => trivial)); replace HB := Aside0.mk (hb); clear HO_4; (try clear hb); (try clear hkp); (try clear ho0)))
    go_meet
    case rel => exact ⟨_, (t238), H', ⟨aq61⟩, ⟨by (with_reducible repeat (first | apply Kd.R_alloc | apply Kd.R_drewN | apply Kd.R_drew)); exact HO240.out⟩, ⟨aq11⟩, ⟨aq4⟩⟩
   case rest =>
    clear HC13
    obtain ⟨kq, x4_12, HA, HJ12, HO_4, BK0, HB⟩ := hcut
    cases kq with
    | zero => exact absurd HA.out (by simp [palingref11_Uses.j1])
    | succ kj12 =>
     have H := HA.out
     clear HA
     simp only [palingref11_Uses.j1] at H
     obtain ⟨t241, A19, H⟩ := bS_ H
     by_cases c20 : t241 = true
     rotate_left
     ·replace c20 := Bool.eq_false_iff.mpr c20
      subst c20
      rw [if_neg nf_] at H
      obtain rfl := Option.some.inj H
      go_wp2_with (first | ((with_reducible refine gate_callee (f := 31) rfl ?_); refine goesL_ (some 22) rfl rfl Tryd.func31 (by kernel_rfl) rfl #[.string t233, .int .u8 66] rfl aq8 ?_; (with_reducible refine (palingref11_Has.calls kj12 t233 66 false _ A19.out).mono ?_); rintro e w' ⟨rfl, ⟨nd, rfl⟩⟩; refine ⟨_, rfl, ?_⟩))
      go_ret
      exact ⟨_, aq13, aq39, aq4⟩
     subst c20
     rw [if_pos rfl] at H
     obtain ⟨t242, A21, H⟩ := bS_ H
     obtain rfl := Option.some.inj H
     go_wp2_with (first | ((with_reducible refine gate_callee (f := 31) rfl ?_); refine goesL_ (some 22) rfl rfl Tryd.func31 (by kernel_rfl) rfl #[.string t233, .int .u8 66] rfl aq8 ?_; (with_reducible refine (palingref11_Has.calls kj12 t233 66 true _ A19.out).mono ?_); rintro e w' ⟨rfl, ⟨nd, rfl⟩⟩; refine ⟨_, rfl, ?_⟩; obtain ⟨hcz22_0, hcz22_1, hcz22_2, hcz22_3, hcz22_4, hcz22_5, hcz22_6, hfz22_0, hfz22_1, hfz22_2, hfz22_3, hfz22_4, hfz22_5, hfz22_6⟩ := czf7 BK0.out; obtain ⟨Ao23, co23, eo23⟩ := Kd.R_slice HO_4.out; subst eo23) | ((with_reducible refine gate_callee (f := 50) rfl ?_); refine goesL_ (some 26) rfl rfl Tryd.func50 (by kernel_rfl) rfl #[.slice Ao23 x4_12.length co23, .int .i64 a0_4] rfl aq8 ?_; (with_reducible refine (palingref11_add.calls kj12 (fun k_ => some k_ = (.slice Ao23 x4_12.length co23 : Value).ownBlock) (.slice Ao23 x4_12.length co23) x4_12 a0_4 t242 w _ ?side1 ?side2 A21.out).mono ?_); (case side1 => repeat (first | (with_reducible first | exact HB.out | apply below_alloc | apply pw_below_drewN | apply below_drew1 | refine below_set ?_ GE0.out) | exact HB.out)); (case side2 => exact Kd.R_tight rfl HO_4.out); rintro e w24 ⟨v243, rfl, ho0, hb, hkp⟩; refine ⟨_, rfl, ?_⟩; replace BK0 := Aside0.mk (blk_kept aq11 hkp (fun hs_ => (fun e_ => (Kd.R_ne HO_4.out BK0.out (by decide)) e_) hs_)); have HO244 := Aside0.mk (Kd.R_mono (ok' := fun k_ => True) ho0 (fun k_ hk_ => trivial)); replace HB := Aside0.mk (hb); clear HO_4; (try clear hb); (try clear hkp); (try clear ho0)))
     go_ret
     exact ⟨_, aq13, by (with_reducible repeat (first | apply Kd.R_alloc | apply Kd.R_drewN | apply Kd.R_drew)); exact HO244.out, aq4⟩
end Go.Proofs.YtpbhfpbfmpocdaaDoor.PSpillNone
