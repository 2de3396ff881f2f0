-- Written by print2.py over the kit's printer. Not trusted: Lean checks it.
import Derived.Test.YtdopacgaklaaeaaDoorPDeadTellshqq
import Derived.Test.YtdopacgaklaaeaaDoorPDeadTellsx0
import Derived.Test.YtdopacgaklaaeaaDoorPDeadTellsx17
namespace Go.Proofs.YtdopacgaklaaeaaDoor.PDeadTells
open Go.RowKit Go.Proofs.YtdopacgaklaaeaaDoorW.PrintWords Go.Proofs.YtdopacgaklaaeaaDoorW.PrintLast Go.Proofs.YtdopacgaklaaeaaDoorW.PrintMore
attribute [local go_sem] max2_int min2_int max_two min_two max_three min_three max_four min_four   -- for this text's walks alone
set_option linter.unusedVariables false
set_option linter.unusedSimpArgs false

/-! ### palingref18_Insert: function 16 -/
mutual
def palingref18_Insert.l0 : Nat → List (S28) → List Bool → List (S28) → Int → Int → Int → Int → Int → Int → Int → Int → Option ((List (S28)))
  | 0, _, _, _, _, _, _, _, _, _, _, _ => none
  | k + 1, x0, x2, x7, x8, x392000, x392001, x392002, x392003, x392004, x392005, x392006 => if x8 < (x0.length : Int) then (if 0 ≤ x8 then (if x8 < (x2.length : Int) then (if rdOf false x2 x8 = true then (if x7.length < 2513169434916 then (palingref18_Insert.j1 k x0 x2 (x7 ++ [(⟨x392000, x392001, x392002, x392003, x392004, x392005, x392006⟩ : S28)]) x8 x392000 x392001 x392002 x392003 x392004 x392005 x392006) else (none)) else (palingref18_Insert.j1 k x0 x2 x7 x8 x392000 x392001 x392002 x392003 x392004 x392005 x392006)) else (none)) else (none)) else (some x7)
def palingref18_Insert.j1 : Nat → List (S28) → List Bool → List (S28) → Int → Int → Int → Int → Int → Int → Int → Int → Option ((List (S28)))
  | 0, _, _, _, _, _, _, _, _, _, _, _ => none
  | k + 1, x0, x2, x7, x8, x392000, x392001, x392002, x392003, x392004, x392005, x392006 => if 0 ≤ x8 then (if x8 < (x0.length : Int) then ((palingref18_goes.f ((rd_T28 x0 x8).f0) ((rd_T28 x0 x8).f1) ((rd_T28 x0 x8).f2) ((rd_T28 x0 x8).f3) ((rd_T28 x0 x8).f4) ((rd_T28 x0 x8).f5) ((rd_T28 x0 x8).f6)).bind fun t398 => (if t398 = true then (palingref18_Insert.l1 k x0 x2 x7 x8 ((rd_T28 x0 x8).f6) 0 x392000 x392001 x392002 x392003 x392004 x392005 x392006 ((rd_T28 x0 x8).f0) ((rd_T28 x0 x8).f1) ((rd_T28 x0 x8).f2) ((rd_T28 x0 x8).f3) ((rd_T28 x0 x8).f4) ((rd_T28 x0 x8).f5) ((rd_T28 x0 x8).f6)) else (if x7.length < 2513169434916 then (palingref18_Insert.l0 k x0 x2 (x7 ++ [(⟨(rd_T28 x0 x8).f0, (rd_T28 x0 x8).f1, (rd_T28 x0 x8).f2, (rd_T28 x0 x8).f3, (rd_T28 x0 x8).f4, (rd_T28 x0 x8).f5, (rd_T28 x0 x8).f6⟩ : S28)]) (wrap64 (x8 + 1)) x392000 x392001 x392002 x392003 x392004 x392005 x392006) else (none)))) else (none)) else (none)
def palingref18_Insert.l1 : Nat → List (S28) → List Bool → List (S28) → Int → Int → Int → Int → Int → Int → Int → Int → Int → Int → Int → Int → Int → Int → Int → Int → Int → Option ((List (S28)))
  | 0, _, _, _, _, _, _, _, _, _, _, _, _, _, _, _, _, _, _, _, _ => none
  | k + 1, x0, x2, x7, x8, x10, x11, x392000, x392001, x392002, x392003, x392004, x392005, x392006, x398000, x398001, x398002, x398003, x398004, x398005, x398006 => if x11 < x398006 then (if 0 ≤ x11 then (if x11 < (x2.length : Int) then (if rdOf false x2 x11 = true then (palingref18_Insert.l1 k x0 x2 x7 x8 (wrap64 (x10 + 1)) (wrap64 (x11 + 1)) x392000 x392001 x392002 x392003 x392004 x392005 x392006 x398000 x398001 x398002 x398003 x398004 x398005 x398006) else (palingref18_Insert.l1 k x0 x2 x7 x8 x10 (wrap64 (x11 + 1)) x392000 x392001 x392002 x392003 x392004 x392005 x392006 x398000 x398001 x398002 x398003 x398004 x398005 x398006)) else (none)) else (none)) else (if x7.length < 2513169434916 then (palingref18_Insert.l0 k x0 x2 (x7 ++ [(⟨x398000, x398001, x398002, x398003, x398004, x398005, x10⟩ : S28)]) (wrap64 (x8 + 1)) x392000 x392001 x392002 x392003 x392004 x392005 x392006) else (none))
end
def palingref18_Insert.f (k : Nat) (l0 : List (S28)) (a1_0 : Int) (a1_1 : Int) (a1_2 : Int) (a1_3 : Int) (a1_4 : Int) (a1_5 : Int) (a1_6 : Int) (l2 : List Bool) : Option ((List (S28))) := palingref18_Insert.l0 k l0 l2 ([] : List (S28)) 0 a1_0 a1_1 a1_2 a1_3 a1_4 a1_5 a1_6
theorem palingref18_Insert.mono_l : ∀ k, (∀ y0 y1 y2 y3 y4 y5 y6 y7 y8 y9 y10, LeO (palingref18_Insert.l0 k y0 y1 y2 y3 y4 y5 y6 y7 y8 y9 y10) (palingref18_Insert.l0 (k + 1) y0 y1 y2 y3 y4 y5 y6 y7 y8 y9 y10)) ∧ (∀ y0 y1 y2 y3 y4 y5 y6 y7 y8 y9 y10, LeO (palingref18_Insert.j1 k y0 y1 y2 y3 y4 y5 y6 y7 y8 y9 y10) (palingref18_Insert.j1 (k + 1) y0 y1 y2 y3 y4 y5 y6 y7 y8 y9 y10)) ∧ (∀ y0 y1 y2 y3 y4 y5 y6 y7 y8 y9 y10 y11 y12 y13 y14 y15 y16 y17 y18 y19, LeO (palingref18_Insert.l1 k y0 y1 y2 y3 y4 y5 y6 y7 y8 y9 y10 y11 y12 y13 y14 y15 y16 y17 y18 y19) (palingref18_Insert.l1 (k + 1) y0 y1 y2 y3 y4 y5 y6 y7 y8 y9 y10 y11 y12 y13 y14 y15 y16 y17 y18 y19))
  | 0 => ⟨fun _ _ _ _ _ _ _ _ _ _ _ r h => by simp [palingref18_Insert.l0] at h, fun _ _ _ _ _ _ _ _ _ _ _ r h => by simp [palingref18_Insert.j1] at h, fun _ _ _ _ _ _ _ _ _ _ _ _ _ _ _ _ _ _ _ _ r h => by simp [palingref18_Insert.l1] at h⟩
  | k + 1 => by
    obtain ⟨ih0, ih1, ih2⟩ := palingref18_Insert.mono_l k
    refine ⟨?_, ?_, ?_⟩ <;> intros <;> (first | unfold palingref18_Insert.l0 | unfold palingref18_Insert.j1 | unfold palingref18_Insert.l1) <;> repeat' (first | (with_reducible first | exact ih0 _ _ _ _ _ _ _ _ _ _ _ | exact ih1 _ _ _ _ _ _ _ _ _ _ _ | exact ih2 _ _ _ _ _ _ _ _ _ _ _ _ _ _ _ _ _ _ _ _ | exact LeO.refl _ | exact LeO.none _ | refine LeO.ite ?_ ?_ | refine LeO.bind ?_ (fun _ => ?_)) | exact ih0 _ _ _ _ _ _ _ _ _ _ _ | exact ih1 _ _ _ _ _ _ _ _ _ _ _ | exact ih2 _ _ _ _ _ _ _ _ _ _ _ _ _ _ _ _ _ _ _ _ | exact LeO.none _ | refine LeO.ite ?_ ?_ | refine LeO.bind ?_ (fun _ => ?_))
theorem palingref18_Insert.mono : ∀ a0 a1 a2 a3 a4 a5 a6 a7 a8 k, LeO (palingref18_Insert.f k a0 a1 a2 a3 a4 a5 a6 a7 a8) (palingref18_Insert.f (k + 1) a0 a1 a2 a3 a4 a5 a6 a7 a8) := by
 intro a0 a1 a2 a3 a4 a5 a6 a7 a8 k
 obtain ⟨ih0, ih1, ih2⟩ := palingref18_Insert.mono_l k
 unfold palingref18_Insert.f
 repeat' (first | (with_reducible first | exact ih0 _ _ _ _ _ _ _ _ _ _ _ | exact ih1 _ _ _ _ _ _ _ _ _ _ _ | exact ih2 _ _ _ _ _ _ _ _ _ _ _ _ _ _ _ _ _ _ _ _ | exact LeO.refl _ | exact LeO.none _ | refine LeO.ite ?_ ?_ | refine LeO.bind ?_ (fun _ => ?_)) | exact ih0 _ _ _ _ _ _ _ _ _ _ _ | exact ih1 _ _ _ _ _ _ _ _ _ _ _ | exact ih2 _ _ _ _ _ _ _ _ _ _ _ _ _ _ _ _ _ _ _ _ | exact LeO.none _ | refine LeO.ite ?_ ?_ | refine LeO.bind ?_ (fun _ => ?_))
set_option maxHeartbeats 8000000 in
set_option maxRecDepth 100000 in
theorem palingref18_Insert.calls (k : Nat) (A0 : Option Addr) (c0 : Nat) (l0 : List (S28)) (a1_0 : Int) (a1_1 : Int) (a1_2 : Int) (a1_3 : Int) (a1_4 : Int) (a1_5 : Int) (a1_6 : Int) (A2 : Option Addr) (c2 : Nat) (l2 : List Bool) (r : List (S28)) (w : World) (hr0 : Kd.C k28 w A0 l0.length l0) (hc0 : l0.length ≤ c0) (hr2 : Kd.C Kd.bool w A2 l2.length l2) (hc2 : l2.length ≤ c2) (h : palingref18_Insert.f k l0 a1_0 a1_1 a1_2 a1_3 a1_4 a1_5 a1_6 l2 = some r) :
    Calls Tryd.prog 16 #[.slice A0 l0.length c0, .agg #[.int .i64 a1_0, .int .i64 a1_1, .int .i64 a1_2, .int .i64 a1_3, .int .i64 a1_4, .int .i64 a1_5, .int .i64 a1_6], .slice A2 l2.length c2] w fun e w' => ∃ v0_ : Value, e = .returned (v0_) ∧ Kd.R k28 28 w' w.heap.size (fun _ => True) v0_ r ∧ Below w.heap.size w w' := by
 have hu28 := Tryd.underlying28
 have HR0 := Aside0.mk hr0
 have HC0 := Aside0.mk hc0
 clear hr0 hc0
 have HR2 := Aside0.mk hr2
 have HC2 := Aside0.mk hc2
 clear hr2 hc2
 have HB := Aside0.mk (Below.refl w.heap.size w)
 have H : (palingref18_Insert.l0 k l0 l2 ([] : List (S28)) 0 a1_0 a1_1 a1_2 a1_3 a1_4 a1_5 a1_6) = some r := h
 clear h
 have H' := Aside0.mk H
 clear H
 go_enter Tryd.func16, Tryd.ntmps16
 go_wp2_with (first | ((with_reducible refine gate_dst (N := 4) rfl ?_); refine box_event ?hg (N := 4) ?hd (cs := #[.int .i64 a1_0, .int .i64 a1_1, .int .i64 a1_2, .int .i64 a1_3, .int .i64 a1_4, .int .i64 a1_5, .int .i64 a1_6]) (t := 28) ?hr ?_; (case hd => rfl); (case hg => rfl); (case hr => first | (go_simp; done) | (go_simp; rfl)); intro gb0 hg w4 hbox hb; have BK0 := Aside0.mk (hbox); have GW0 := Aside0.mk ((by rw [hg]; exact (below_size aq0) : w.heap.size ≤ gb0)); have GE0 := Aside0.mk ((by rw [hg]; exact (below_size aq0) : w.heap.size ≤ gb0)); replace HB := Aside0.mk (below_step aq0 hb); clear hb hbox hg))
 go_loopg [7, 8] k (fun kq v7 v8 w' => ∃ (x7_1 : List (S28)) (x8_1 : Int), v8 = .int .i64 x8_1 ∧ Aside0 (palingref18_Insert.l0 kq l0 l2 x7_1 x8_1 a1_0 a1_1 a1_2 a1_3 a1_4 a1_5 a1_6 = some r) ∧ Aside0 (kq ≤ k) ∧ Aside0 (Kd.R k28 28 w' w.heap.size (fun k_ => k_ ≠ gb0) v7 x7_1) ∧ Aside0 (w'.heap[gb0]? = some (.cells #[.int .i64 a1_0, .int .i64 a1_1, .int .i64 a1_2, .int .i64 a1_3, .int .i64 a1_4, .int .i64 a1_5, .int .i64 a1_6] 28 (0, 0))) ∧ Aside0 (Below w.heap.size w w'))
 case atStart => exact ⟨(([] : List (S28))), (0), aq5, H', ⟨Nat.le_refl _⟩, ⟨aq28⟩, ⟨aq8⟩, ⟨aq3⟩⟩
 case round =>
  clear H'
  obtain ⟨x7_1, x8_1, rfl, HA, HK1, HO_7, BK0, HB⟩ := hrel
  cases gk with
  | zero => exact absurd HA.out (by simp [palingref18_Insert.l0])
  | succ k1 =>
   have H := HA.out
   clear HA
   simp only [palingref18_Insert.l0] at H
   by_cases c5 : x8_1 < (l0.length : Int)
   rotate_left
   ·rw [if_neg c5] at H
    have c5b0 : decide (x8_1 < (l0.length : Int)) = false := decide_eq_false c5
    clear c5
    obtain rfl := Option.some.inj H
    go_wp2
    go_ret
    exact ⟨_, aq11, by (with_reducible repeat (first | apply Kd.R_alloc | apply Kd.R_drewN | apply Kd.R_drew)); exact Kd.R_mono HO_7.out (fun _ hk => trivial), aq3⟩
   rw [if_pos c5] at H
   have c5b0 : decide (x8_1 < (l0.length : Int)) = true := decide_eq_true c5
   clear c5
   by_cases c6 : 0 ≤ x8_1
   rotate_left
   ·rw [if_neg c6] at H
    exact absurd H (by simp)
   rw [if_pos c6] at H
   have c6b0 : decide (0 ≤ x8_1) = true := decide_eq_true c6
   clear c6
   by_cases c7 : x8_1 < (l2.length : Int)
   rotate_left
   ·rw [if_neg c7] at H
    exact absurd H (by simp)
   rw [if_pos c7] at H
   have c7b0 : decide (x8_1 < (l2.length : Int)) = true := decide_eq_true c7
   clear c7
   have HC8 := Aside0.mk H
   clear H
   have p392 : 0 ≤ (x8_1 : Int) := of_decide_eq_true aq2
   have q392 : x8_1 < (l2.length : Int) := of_decide_eq_true aq2
   obtain ⟨ad392, e392, hx392_0⟩ := Kd.at_bool HR2.out x8_1 p392 q392
   cases e392
   replace hx392_0 := (HB.out.cell (World.block_lt_of_cell? w _ hx392_0)).trans hx392_0
   replace p392 := eq_true p392
   replace q392 := eq_true q392
   go_upto_if 21 with (fail)
   go_cut [7] (fun v7 wc => ∃ (kq : Nat) (x7_7 : List (S28)), Aside0 (palingref18_Insert.j1 kq l0 l2 x7_7 x8_1 a1_0 a1_1 a1_2 a1_3 a1_4 a1_5 a1_6 = some r) ∧ Aside0 (kq ≤ k1) ∧ Aside0 (Kd.R k28 28 wc w.heap.size (fun k_ => k_ ≠ gb0) v7 x7_7) ∧ Aside0 (wc.heap[gb0]? = some (.cells #[.int .i64 a1_0, .int .i64 a1_1, .int .i64 a1_2, .int .i64 a1_3, .int .i64 a1_4, .int .i64 a1_5, .int .i64 a1_6] 28 (0, 0))) ∧ Aside0 (Below w.heap.size w wc))
   case first =>
    have H := HC8.out
    clear HC8
    obtain ⟨bq9, hbq9⟩ : ∃ b_ : Bool, b_ = (rdOf false l2 x8_1) := ⟨_, rfl⟩
    replace H : (if bq9 = true then (if x7_1.length < 2513169434916 then (palingref18_Insert.j1 k1 l0 l2 (x7_1 ++ [(⟨a1_0, a1_1, a1_2, a1_3, a1_4, a1_5, a1_6⟩ : S28)]) x8_1 a1_0 a1_1 a1_2 a1_3 a1_4 a1_5 a1_6) else (none)) else (palingref18_Insert.j1 k1 l0 l2 x7_1 x8_1 a1_0 a1_1 a1_2 a1_3 a1_4 a1_5 a1_6)) = some r := by rw [← hbq9] at H; exact H
    have Nbq9 := Aside0.mk hbq9
    clear hbq9
    (try rw [← Nbq9.out])
    by_cases c10 : bq9 = true
    rotate_left
    ·replace c10 := Bool.eq_false_iff.mpr c10
     subst c10
     rw [if_neg nf_] at H
     have H' := Aside0.mk H
     clear H
     go_wp2
     go_meet
     case rel => exact ⟨_, (x7_1), H', ⟨aq49⟩, ⟨aq14⟩, ⟨aq8⟩, ⟨aq3⟩⟩
    subst c10
    rw [if_pos rfl] at H
    by_cases c11 : x7_1.length < 2513169434916
    rotate_left
    ·rw [if_neg c11] at H
     exact absurd H (by simp)
    rw [if_pos c11] at H
    have LMc11 := Aside0.mk c11
    clear c11
    obtain ⟨y393, hy_⟩ : ∃ y_ : List (S28), y_ = (x7_1 ++ [(⟨a1_0, a1_1, a1_2, a1_3, a1_4, a1_5, a1_6⟩ : S28)]) := ⟨_, rfl⟩
    replace H : (palingref18_Insert.j1 k1 l0 l2 y393 x8_1 a1_0 a1_1 a1_2 a1_3 a1_4 a1_5 a1_6) = some r := aq1
    have Ny393 := Aside0.mk hy_
    clear hy_
    have H' := Aside0.mk H
    clear H
    obtain ⟨hcz12_0, hcz12_1, hcz12_2, hcz12_3, hcz12_4, hcz12_5, hcz12_6, hfz12_0, hfz12_1, hfz12_2, hfz12_3, hfz12_4, hfz12_5, hfz12_6⟩ := czf7 BK0.out
    go_wp2_with (first | ((with_reducible refine gate_builtin (b := .append) (xs := #[.tmp 22, .tmp 24]) rfl ?_); at_builtin; refine Kd.R_append k28 (w0 := w) w.heap.size rfl (.tmp 22) (.tmp 24) 32 28 (.agg #[(.int .i64 0), (.int .i64 0), (.int .i64 0), (.int .i64 0), (.int .i64 0), (.int .i64 0), (.int .i64 0)]) 56 rfl Tryd.underlying32 info28 rfl (by decide) (by omega) u7 x7_1 (⟨a1_0, a1_1, a1_2, a1_3, a1_4, a1_5, a1_6⟩ : S28) [.int .i64 a1_0, .int .i64 a1_1, .int .i64 a1_2, .int .i64 a1_3, .int .i64 a1_4, .int .i64 a1_5, .int .i64 a1_6] (fun k_ => k_ ≠ gb0) (fun _ => False) rfl rfl ?aP (fun _ hk => hk.elim) ?aF ?aO ?aB ?aS ?aL ?_; (case aP => exact k28_mkM _ _ _ (⟨a1_0, a1_1, a1_2, a1_3, a1_4, a1_5, a1_6⟩ : S28)); (case aB => exact aq3); (case aF => exact (fun k_ hk => Kd.freshB (g := gb0) (o := .cells #[.int .i64 a1_0, .int .i64 a1_1, .int .i64 a1_2, .int .i64 a1_3, .int .i64 a1_4, .int .i64 a1_5, .int .i64 a1_6] 28 (0, 0)) aq8 k_ hk)); (case aO => exact aq14); (case aS => exact (below_size aq3)); (case aL => have := LMc11.out; omega); intro v394 w13 ho hb hg hat; rw [← Ny393.out] at ho; replace BK0 := Aside0.mk (blk_grown (g := gb0) (o := .cells #[.int .i64 a1_0, .int .i64 a1_1, .int .i64 a1_2, .int .i64 a1_3, .int .i64 a1_4, .int .i64 a1_5, .int .i64 a1_6] 28 (0, 0)) aq8 hg (Kd.R_away HO_7.out (fun _ hk => hk))); replace HB := Aside0.mk (hb); have HO395 := Aside0.mk (ho); clear HO_7; clear ho hb hg hat))
    go_meet
    case rel => exact ⟨_, (y393), H', ⟨aq49⟩, ⟨by (with_reducible repeat (first | apply Kd.R_alloc | apply Kd.R_drewN | apply Kd.R_drew)); exact HO395.out⟩, ⟨aq8⟩, ⟨aq3⟩⟩
   case rest =>
    clear HC8
    obtain ⟨kq, x7_7, HA, HJ7, HO_7, BK0, HB⟩ := hcut
    cases kq with
    | zero => exact absurd HA.out (by simp [palingref18_Insert.j1])
    | succ kj7 =>
     have H := HA.out
     clear HA
     simp only [palingref18_Insert.j1] at H
     by_cases c14 : 0 ≤ x8_1
     rotate_left
     ·rw [if_neg c14] at H
      exact absurd H (by simp)
     rw [if_pos c14] at H
     have c14b0 : decide (0 ≤ x8_1) = true := decide_eq_true c14
     clear c14
     by_cases c15 : x8_1 < (l0.length : Int)
     rotate_left
     ·rw [if_neg c15] at H
      exact absurd H (by simp)
     rw [if_pos c15] at H
     have c15b0 : decide (x8_1 < (l0.length : Int)) = true := decide_eq_true c15
     clear c15
     obtain ⟨t398, A16, H⟩ := bS_ H
     by_cases c17 : t398 = true
     rotate_left
     ·replace c17 := Bool.eq_false_iff.mpr c17
      subst c17
      rw [if_neg nf_] at H
      by_cases c36 : x7_7.length < 2513169434916
      rotate_left
      ·rw [if_neg c36] at H
       exact absurd H (by simp)
      rw [if_pos c36] at H
      have LMc36 := Aside0.mk c36
      clear c36
      obtain ⟨y403, hy_⟩ : ∃ y_ : List (S28), y_ = (x7_7 ++ [(⟨(rd_T28 l0 x8_1).f0, (rd_T28 l0 x8_1).f1, (rd_T28 l0 x8_1).f2, (rd_T28 l0 x8_1).f3, (rd_T28 l0 x8_1).f4, (rd_T28 l0 x8_1).f5, (rd_T28 l0 x8_1).f6⟩ : S28)]) := ⟨_, rfl⟩
      replace H : (palingref18_Insert.l0 kj7 l0 l2 y403 (wrap64 (x8_1 + 1)) a1_0 a1_1 a1_2 a1_3 a1_4 a1_5 a1_6) = some r := aq1
      have Ny403 := Aside0.mk hy_
      clear hy_
      have H' := Aside0.mk H
      clear H
      have p396 : 0 ≤ (x8_1 : Int) := of_decide_eq_true aq2
      have q396 : x8_1 < (l0.length : Int) := of_decide_eq_true aq2
      obtain ⟨ad396, e396, hx396_0, hx396_1, hx396_2, hx396_3, hx396_4, hx396_5, hx396_6⟩ := at_T28 HR0.out x8_1 p396 q396
      cases e396
      have n_ := cb7 HB.out hx396_0 hx396_1 hx396_2 hx396_3 hx396_4 hx396_5 hx396_6
      clear hx396_0 hx396_1 hx396_2 hx396_3 hx396_4 hx396_5 hx396_6
      obtain ⟨hx396_0, hx396_1, hx396_2, hx396_3, hx396_4, hx396_5, hx396_6⟩ := n_
      replace p396 := eq_true p396
      replace q396 := eq_true q396
      go_wp2_with (first | ((with_reducible refine gate_dst (N := 9) rfl ?_); refine box_event ?hg (N := 9) ?hd (cs := #[.int .i64 0, .int .i64 0, .int .i64 0, .int .i64 0, .int .i64 0, .int .i64 0, .int .i64 0]) (t := 28) ?hr ?_; (case hd => rfl); (case hg => rfl); (case hr => first | (go_simp; done) | (go_simp; rfl)); intro gb1 hg w37 hbox hb; have n0_ := Aside0.mk (Kd.R_below (Kd.R_elderB aq14 gb1 (Nat.le_of_eq hg.symm)) hb); have n1_ := Aside0.mk (blk_below (g := gb0) (o := .cells #[.int .i64 a1_0, .int .i64 a1_1, .int .i64 a1_2, .int .i64 a1_3, .int .i64 a1_4, .int .i64 a1_5, .int .i64 a1_6] 28 (0, 0)) aq8 hb); have n2_ := Aside0.mk (below_step aq3 hb); have n3_ := Aside0.mk (hbox); have n4_ := Aside0.mk ((by rw [hg]; exact (below_size aq3) : w.heap.size ≤ gb1)); have n5_ := Aside0.mk ((by rw [hg]; exact (below_size aq3) : w.heap.size ≤ gb1)); have n6_ := Aside0.mk ((by rw [hg]; exact Nat.ne_of_lt (blk_lt (g := gb0) (o := .cells #[.int .i64 a1_0, .int .i64 a1_1, .int .i64 a1_2, .int .i64 a1_3, .int .i64 a1_4, .int .i64 a1_5, .int .i64 a1_6] 28 (0, 0)) aq8) : gb0 ≠ gb1)); have n7_ := Aside0.mk ((by rw [hg]; exact Nat.ne_of_gt (blk_lt (g := gb0) (o := .cells #[.int .i64 a1_0, .int .i64 a1_1, .int .i64 a1_2, .int .i64 a1_3, .int .i64 a1_4, .int .i64 a1_5, .int .i64 a1_6] 28 (0, 0)) aq8) : gb1 ≠ gb0)); clear HO_7; clear BK0; clear HB; have HO_7 := n0_; have BK0 := n1_; have HB := n2_; have BK1 := n3_; have GW1 := n4_; have GE1 := n5_; have NB0_1 := n6_; have NB1_0 := n7_; clear n0_ n1_ n2_ n3_ n4_ n5_ n6_ n7_; clear hb hbox hg; have hnb38 := NB1_0.out; have hnc38 := NB0_1.out; obtain ⟨hcz39_0, hcz39_1, hcz39_2, hcz39_3, hcz39_4, hcz39_5, hcz39_6, hfz39_0, hfz39_1, hfz39_2, hfz39_3, hfz39_4, hfz39_5, hfz39_6⟩ := czf7 BK1.out) | ((with_reducible refine gate_callee (f := 35) rfl ?_); refine goesL_ (some 31) rfl rfl Tryd.func35 (by kernel_rfl) rfl #[.agg #[.int .i64 ((rd_T28 l0 x8_1).f0), .int .i64 ((rd_T28 l0 x8_1).f1), .int .i64 ((rd_T28 l0 x8_1).f2), .int .i64 ((rd_T28 l0 x8_1).f3), .int .i64 ((rd_T28 l0 x8_1).f4), .int .i64 ((rd_T28 l0 x8_1).f5), .int .i64 ((rd_T28 l0 x8_1).f6)]] rfl aq4 ?_; (with_reducible refine (palingref18_goes.calls ((rd_T28 l0 x8_1).f0) ((rd_T28 l0 x8_1).f1) ((rd_T28 l0 x8_1).f2) ((rd_T28 l0 x8_1).f3) ((rd_T28 l0 x8_1).f4) ((rd_T28 l0 x8_1).f5) ((rd_T28 l0 x8_1).f6) false _ A16.out).mono ?_); rintro e w40 ⟨rfl, hb⟩; refine ⟨_, rfl, ?_⟩; replace HO_7 := Aside0.mk (Kd.R_below (by (with_reducible repeat (first | apply Kd.R_alloc | apply Kd.R_drewN | apply Kd.R_drew)); exact (Kd.R_mono (Kd.R_far (p := ⟨gb1, 6, none⟩) (Kd.R_far (p := ⟨gb1, 5, none⟩) (Kd.R_far (p := ⟨gb1, 4, none⟩) (Kd.R_far (p := ⟨gb1, 3, none⟩) (Kd.R_far (p := ⟨gb1, 2, none⟩) (Kd.R_far (p := ⟨gb1, 1, none⟩) (Kd.R_far (p := ⟨gb1, 0, none⟩) (Kd.R_mono HO_7.out (fun k_ hk => (⟨hk, hk.2⟩ : _ ∧ k_ ≠ gb1))) (fun _ hk => hk.2) (.int .i64 ((rd_T28 l0 x8_1).f0))) (fun _ hk => hk.2) (.int .i64 ((rd_T28 l0 x8_1).f1))) (fun _ hk => hk.2) (.int .i64 ((rd_T28 l0 x8_1).f2))) (fun _ hk => hk.2) (.int .i64 ((rd_T28 l0 x8_1).f3))) (fun _ hk => hk.2) (.int .i64 ((rd_T28 l0 x8_1).f4))) (fun _ hk => hk.2) (.int .i64 ((rd_T28 l0 x8_1).f5))) (fun _ hk => hk.2) (.int .i64 ((rd_T28 l0 x8_1).f6))) (fun _ h_ => h_.1))) hb); replace BK0 := Aside0.mk (blk_below (g := gb0) (o := .cells #[.int .i64 a1_0, .int .i64 a1_1, .int .i64 a1_2, .int .i64 a1_3, .int .i64 a1_4, .int .i64 a1_5, .int .i64 a1_6] 28 (0, 0)) (by (with_reducible repeat (first | refine blk_drewN ?_ _ | refine blk_drew ?_ | refine blk_alloc ?_ _)); refine blk_far ?_ NB0_1.out _; (with_reducible repeat (first | refine blk_drewN ?_ _ | refine blk_drew ?_ | refine blk_alloc ?_ _)); refine blk_far ?_ NB0_1.out _; (with_reducible repeat (first | refine blk_drewN ?_ _ | refine blk_drew ?_ | refine blk_alloc ?_ _)); refine blk_far ?_ NB0_1.out _; (with_reducible repeat (first | refine blk_drewN ?_ _ | refine blk_drew ?_ | refine blk_alloc ?_ _)); refine blk_far ?_ NB0_1.out _; (with_reducible repeat (first | refine blk_drewN ?_ _ | refine blk_drew ?_ | refine blk_alloc ?_ _)); refine blk_far ?_ NB0_1.out _; (with_reducible repeat (first | refine blk_drewN ?_ _ | refine blk_drew ?_ | refine blk_alloc ?_ _)); refine blk_far ?_ NB0_1.out _; (with_reducible repeat (first | refine blk_drewN ?_ _ | refine blk_drew ?_ | refine blk_alloc ?_ _)); refine blk_far ?_ NB0_1.out _; (with_reducible repeat (first | refine blk_drewN ?_ _ | refine blk_drew ?_ | refine blk_alloc ?_ _)); exact BK0.out) hb); replace BK1 := Aside0.mk (blk_below (g := gb1) (o := .cells #[.int .i64 ((rd_T28 l0 x8_1).f0), .int .i64 ((rd_T28 l0 x8_1).f1), .int .i64 ((rd_T28 l0 x8_1).f2), .int .i64 ((rd_T28 l0 x8_1).f3), .int .i64 ((rd_T28 l0 x8_1).f4), .int .i64 ((rd_T28 l0 x8_1).f5), .int .i64 ((rd_T28 l0 x8_1).f6)] 28 (0, 0)) (by (with_reducible repeat (first | refine blk_drewN ?_ _ | refine blk_drew ?_ | refine blk_alloc ?_ _)); refine blk_put (cs := #[.int .i64 ((rd_T28 l0 x8_1).f0), .int .i64 ((rd_T28 l0 x8_1).f1), .int .i64 ((rd_T28 l0 x8_1).f2), .int .i64 ((rd_T28 l0 x8_1).f3), .int .i64 ((rd_T28 l0 x8_1).f4), .int .i64 ((rd_T28 l0 x8_1).f5), .int .i64 0]) ?_ 6 _ rfl; (with_reducible repeat (first | refine blk_drewN ?_ _ | refine blk_drew ?_ | refine blk_alloc ?_ _)); refine blk_put (cs := #[.int .i64 ((rd_T28 l0 x8_1).f0), .int .i64 ((rd_T28 l0 x8_1).f1), .int .i64 ((rd_T28 l0 x8_1).f2), .int .i64 ((rd_T28 l0 x8_1).f3), .int .i64 ((rd_T28 l0 x8_1).f4), .int .i64 0, .int .i64 0]) ?_ 5 _ rfl; (with_reducible repeat (first | refine blk_drewN ?_ _ | refine blk_drew ?_ | refine blk_alloc ?_ _)); refine blk_put (cs := #[.int .i64 ((rd_T28 l0 x8_1).f0), .int .i64 ((rd_T28 l0 x8_1).f1), .int .i64 ((rd_T28 l0 x8_1).f2), .int .i64 ((rd_T28 l0 x8_1).f3), .int .i64 0, .int .i64 0, .int .i64 0]) ?_ 4 _ rfl; (with_reducible repeat (first | refine blk_drewN ?_ _ | refine blk_drew ?_ | refine blk_alloc ?_ _)); refine blk_put (cs := #[.int .i64 ((rd_T28 l0 x8_1).f0), .int .i64 ((rd_T28 l0 x8_1).f1), .int .i64 ((rd_T28 l0 x8_1).f2), .int .i64 0, .int .i64 0, .int .i64 0, .int .i64 0]) ?_ 3 _ rfl; (with_reducible repeat (first | refine blk_drewN ?_ _ | refine blk_drew ?_ | refine blk_alloc ?_ _)); refine blk_put (cs := #[.int .i64 ((rd_T28 l0 x8_1).f0), .int .i64 ((rd_T28 l0 x8_1).f1), .int .i64 0, .int .i64 0, .int .i64 0, .int .i64 0, .int .i64 0]) ?_ 2 _ rfl; (with_reducible repeat (first | refine blk_drewN ?_ _ | refine blk_drew ?_ | refine blk_alloc ?_ _)); refine blk_put (cs := #[.int .i64 ((rd_T28 l0 x8_1).f0), .int .i64 0, .int .i64 0, .int .i64 0, .int .i64 0, .int .i64 0, .int .i64 0]) ?_ 1 _ rfl; (with_reducible repeat (first | refine blk_drewN ?_ _ | refine blk_drew ?_ | refine blk_alloc ?_ _)); refine blk_put (cs := #[.int .i64 0, .int .i64 0, .int .i64 0, .int .i64 0, .int .i64 0, .int .i64 0, .int .i64 0]) ?_ 0 _ rfl; (with_reducible repeat (first | refine blk_drewN ?_ _ | refine blk_drew ?_ | refine blk_alloc ?_ _)); exact BK1.out) hb); replace HB := Aside0.mk (below_step aq17 hb); (try clear hb); (try clear hb2); (try clear hk); (try clear hi); obtain ⟨hcz41_0, hcz41_1, hcz41_2, hcz41_3, hcz41_4, hcz41_5, hcz41_6, hfz41_0, hfz41_1, hfz41_2, hfz41_3, hfz41_4, hfz41_5, hfz41_6⟩ := czf7 BK1.out) | ((with_reducible refine gate_builtin (b := .append) (xs := #[.tmp 48, .tmp 50]) rfl ?_); at_builtin; refine Kd.R_append k28 (w0 := w) w.heap.size rfl (.tmp 48) (.tmp 50) 32 28 (.agg #[(.int .i64 0), (.int .i64 0), (.int .i64 0), (.int .i64 0), (.int .i64 0), (.int .i64 0), (.int .i64 0)]) 56 rfl Tryd.underlying32 info28 rfl (by decide) (by omega) u7 x7_7 (⟨(rd_T28 l0 x8_1).f0, (rd_T28 l0 x8_1).f1, (rd_T28 l0 x8_1).f2, (rd_T28 l0 x8_1).f3, (rd_T28 l0 x8_1).f4, (rd_T28 l0 x8_1).f5, (rd_T28 l0 x8_1).f6⟩ : S28) [.int .i64 ((rd_T28 l0 x8_1).f0), .int .i64 ((rd_T28 l0 x8_1).f1), .int .i64 ((rd_T28 l0 x8_1).f2), .int .i64 ((rd_T28 l0 x8_1).f3), .int .i64 ((rd_T28 l0 x8_1).f4), .int .i64 ((rd_T28 l0 x8_1).f5), .int .i64 ((rd_T28 l0 x8_1).f6)] (fun k_ => k_ ≠ gb0 ∧ k_ ≠ gb1) (fun _ => False) rfl rfl ?aP (fun _ hk => hk.elim) ?aF ?aO ?aB ?aS ?aL ?_; (case aP => exact k28_mkM _ _ _ (⟨(rd_T28 l0 x8_1).f0, (rd_T28 l0 x8_1).f1, (rd_T28 l0 x8_1).f2, (rd_T28 l0 x8_1).f3, (rd_T28 l0 x8_1).f4, (rd_T28 l0 x8_1).f5, (rd_T28 l0 x8_1).f6⟩ : S28)); (case aB => exact aq17); (case aF => exact (fun k_ hk => ⟨Kd.freshB (g := gb0) (o := .cells #[.int .i64 a1_0, .int .i64 a1_1, .int .i64 a1_2, .int .i64 a1_3, .int .i64 a1_4, .int .i64 a1_5, .int .i64 a1_6] 28 (0, 0)) aq8 k_ hk, Kd.freshB (g := gb1) (o := .cells #[.int .i64 ((rd_T28 l0 x8_1).f0), .int .i64 ((rd_T28 l0 x8_1).f1), .int .i64 ((rd_T28 l0 x8_1).f2), .int .i64 ((rd_T28 l0 x8_1).f3), .int .i64 ((rd_T28 l0 x8_1).f4), .int .i64 ((rd_T28 l0 x8_1).f5), .int .i64 ((rd_T28 l0 x8_1).f6)] 28 (0, 0)) aq13 k_ hk⟩)); (case aO => exact aq14); (case aS => exact (below_size aq17)); (case aL => have := LMc36.out; omega); intro v404 w42 ho hb hg hat; rw [← Ny403.out] at ho; replace BK0 := Aside0.mk (blk_grown (g := gb0) (o := .cells #[.int .i64 a1_0, .int .i64 a1_1, .int .i64 a1_2, .int .i64 a1_3, .int .i64 a1_4, .int .i64 a1_5, .int .i64 a1_6] 28 (0, 0)) aq8 hg (Kd.R_away HO_7.out (fun _ hk => hk.1))); replace BK1 := Aside0.mk (blk_grown (g := gb1) (o := .cells #[.int .i64 ((rd_T28 l0 x8_1).f0), .int .i64 ((rd_T28 l0 x8_1).f1), .int .i64 ((rd_T28 l0 x8_1).f2), .int .i64 ((rd_T28 l0 x8_1).f3), .int .i64 ((rd_T28 l0 x8_1).f4), .int .i64 ((rd_T28 l0 x8_1).f5), .int .i64 ((rd_T28 l0 x8_1).f6)] 28 (0, 0)) aq13 hg (Kd.R_away HO_7.out (fun _ hk => hk.2))); replace HB := Aside0.mk (hb); have HO405 := Aside0.mk (ho); clear HO_7; clear ho hb hg hat))
      go_roundg kj7
      case measure => have := HK1.out; have := HJ7.out; omega
      case rel => exact ⟨(y403), (wrap64 (x8_1 + 1)), aq5, H', ⟨by have := HK1.out; have := HJ7.out; omega⟩, ⟨by (with_reducible repeat (first | apply Kd.R_alloc | apply Kd.R_drewN | apply Kd.R_drew)); exact Kd.R_mono HO405.out (fun _ hk => hk.1)⟩, ⟨aq8⟩, ⟨aq17⟩⟩
     subst c17
     rw [if_pos rfl] at H
     have H' := Aside0.mk H
     clear H
     have p396 : 0 ≤ (x8_1 : Int) := of_decide_eq_true aq2
     have q396 : x8_1 < (l0.length : Int) := of_decide_eq_true aq2
     obtain ⟨ad396, e396, hx396_0, hx396_1, hx396_2, hx396_3, hx396_4, hx396_5, hx396_6⟩ := at_T28 HR0.out x8_1 p396 q396
     cases e396
     have n_ := cb7 HB.out hx396_0 hx396_1 hx396_2 hx396_3 hx396_4 hx396_5 hx396_6
     clear hx396_0 hx396_1 hx396_2 hx396_3 hx396_4 hx396_5 hx396_6
     obtain ⟨hx396_0, hx396_1, hx396_2, hx396_3, hx396_4, hx396_5, hx396_6⟩ := n_
     replace p396 := eq_true p396
     replace q396 := eq_true q396
     go_wp2_with (first | ((with_reducible refine gate_dst (N := 9) rfl ?_); refine box_event ?hg (N := 9) ?hd (cs := #[.int .i64 0, .int .i64 0, .int .i64 0, .int .i64 0, .int .i64 0, .int .i64 0, .int .i64 0]) (t := 28) ?hr ?_; (case hd => rfl); (case hg => rfl); (case hr => first | (go_simp; done) | (go_simp; rfl)); intro gb1 hg w18 hbox hb; have n0_ := Aside0.mk (Kd.R_below (Kd.R_elderB aq14 gb1 (Nat.le_of_eq hg.symm)) hb); have n1_ := Aside0.mk (blk_below (g := gb0) (o := .cells #[.int .i64 a1_0, .int .i64 a1_1, .int .i64 a1_2, .int .i64 a1_3, .int .i64 a1_4, .int .i64 a1_5, .int .i64 a1_6] 28 (0, 0)) aq8 hb); have n2_ := Aside0.mk (below_step aq3 hb); have n3_ := Aside0.mk (hbox); have n4_ := Aside0.mk ((by rw [hg]; exact (below_size aq3) : w.heap.size ≤ gb1)); have n5_ := Aside0.mk ((by rw [hg]; exact (below_size aq3) : w.heap.size ≤ gb1)); have n6_ := Aside0.mk ((by rw [hg]; exact Nat.ne_of_lt (blk_lt (g := gb0) (o := .cells #[.int .i64 a1_0, .int .i64 a1_1, .int .i64 a1_2, .int .i64 a1_3, .int .i64 a1_4, .int .i64 a1_5, .int .i64 a1_6] 28 (0, 0)) aq8) : gb0 ≠ gb1)); have n7_ := Aside0.mk ((by rw [hg]; exact Nat.ne_of_gt (blk_lt (g := gb0) (o := .cells #[.int .i64 a1_0, .int .i64 a1_1, .int .i64 a1_2, .int .i64 a1_3, .int .i64 a1_4, .int .i64 a1_5, .int .i64 a1_6] 28 (0, 0)) aq8) : gb1 ≠ gb0)); clear HO_7; clear BK0; clear HB; have HO_7 := n0_; have BK0 := n1_; have HB := n2_; have BK1 := n3_; have GW1 := n4_; have GE1 := n5_; have NB0_1 := n6_; have NB1_0 := n7_; clear n0_ n1_ n2_ n3_ n4_ n5_ n6_ n7_; clear hb hbox hg; have hnb19 := NB1_0.out; have hnc19 := NB0_1.out; obtain ⟨hcz20_0, hcz20_1, hcz20_2, hcz20_3, hcz20_4, hcz20_5, hcz20_6, hfz20_0, hfz20_1, hfz20_2, hfz20_3, hfz20_4, hfz20_5, hfz20_6⟩ := czf7 BK1.out) | ((with_reducible refine gate_callee (f := 35) rfl ?_); refine goesL_ (some 31) rfl rfl Tryd.func35 (by kernel_rfl) rfl #[.agg #[.int .i64 ((rd_T28 l0 x8_1).f0), .int .i64 ((rd_T28 l0 x8_1).f1), .int .i64 ((rd_T28 l0 x8_1).f2), .int .i64 ((rd_T28 l0 x8_1).f3), .int .i64 ((rd_T28 l0 x8_1).f4), .int .i64 ((rd_T28 l0 x8_1).f5), .int .i64 ((rd_T28 l0 x8_1).f6)]] rfl aq4 ?_; (with_reducible refine (palingref18_goes.calls ((rd_T28 l0 x8_1).f0) ((rd_T28 l0 x8_1).f1) ((rd_T28 l0 x8_1).f2) ((rd_T28 l0 x8_1).f3) ((rd_T28 l0 x8_1).f4) ((rd_T28 l0 x8_1).f5) ((rd_T28 l0 x8_1).f6) true _ A16.out).mono ?_); rintro e w21 ⟨rfl, hb⟩; refine ⟨_, rfl, ?_⟩; replace HO_7 := Aside0.mk (Kd.R_below (by (with_reducible repeat (first | apply Kd.R_alloc | apply Kd.R_drewN | apply Kd.R_drew)); exact (Kd.R_mono (Kd.R_far (p := ⟨gb1, 6, none⟩) (Kd.R_far (p := ⟨gb1, 5, none⟩) (Kd.R_far (p := ⟨gb1, 4, none⟩) (Kd.R_far (p := ⟨gb1, 3, none⟩) (Kd.R_far (p := ⟨gb1, 2, none⟩) (Kd.R_far (p := ⟨gb1, 1, none⟩) (Kd.R_far (p := ⟨gb1, 0, none⟩) (Kd.R_mono HO_7.out (fun k_ hk => (⟨hk, hk.2⟩ : _ ∧ k_ ≠ gb1))) (fun _ hk => hk.2) (.int .i64 ((rd_T28 l0 x8_1).f0))) (fun _ hk => hk.2) (.int .i64 ((rd_T28 l0 x8_1).f1))) (fun _ hk => hk.2) (.int .i64 ((rd_T28 l0 x8_1).f2))) (fun _ hk => hk.2) (.int .i64 ((rd_T28 l0 x8_1).f3))) (fun _ hk => hk.2) (.int .i64 ((rd_T28 l0 x8_1).f4))) (fun _ hk => hk.2) (.int .i64 ((rd_T28 l0 x8_1).f5))) (fun _ hk => hk.2) (.int .i64 ((rd_T28 l0 x8_1).f6))) (fun _ h_ => h_.1))) hb); replace BK0 := Aside0.mk (blk_below (g := gb0) (o := .cells #[.int .i64 a1_0, .int .i64 a1_1, .int .i64 a1_2, .int .i64 a1_3, .int .i64 a1_4, .int .i64 a1_5, .int .i64 a1_6] 28 (0, 0)) (by (with_reducible repeat (first | refine blk_drewN ?_ _ | refine blk_drew ?_ | refine blk_alloc ?_ _)); refine blk_far ?_ NB0_1.out _; (with_reducible repeat (first | refine blk_drewN ?_ _ | refine blk_drew ?_ | refine blk_alloc ?_ _)); refine blk_far ?_ NB0_1.out _; (with_reducible repeat (first | refine blk_drewN ?_ _ | refine blk_drew ?_ | refine blk_alloc ?_ _)); refine blk_far ?_ NB0_1.out _; (with_reducible repeat (first | refine blk_drewN ?_ _ | refine blk_drew ?_ | refine blk_alloc ?_ _)); refine blk_far ?_ NB0_1.out _; (with_reducible repeat (first | refine blk_drewN ?_ _ | refine blk_drew ?_ | refine blk_alloc ?_ _)); refine blk_far ?_ NB0_1.out _; (with_reducible repeat (first | refine blk_drewN ?_ _ | refine blk_drew ?_ | refine blk_alloc ?_ _)); refine blk_far ?_ NB0_1.out _; (with_reducible repeat (first | refine blk_drewN ?_ _ | refine blk_drew ?_ | refine blk_alloc ?_ _)); refine blk_far ?_ NB0_1.out _; (with_reducible repeat (first | refine blk_drewN ?_ _ | refine blk_drew ?_ | refine blk_alloc ?_ _)); exact BK0.out) hb); replace BK1 := Aside0.mk (blk_below (g := gb1) (o := .cells #[.int .i64 ((rd_T28 l0 x8_1).f0), .int .i64 ((rd_T28 l0 x8_1).f1), .int .i64 ((rd_T28 l0 x8_1).f2), .int .i64 ((rd_T28 l0 x8_1).f3), .int .i64 ((rd_T28 l0 x8_1).f4), .int .i64 ((rd_T28 l0 x8_1).f5), .int .i64 ((rd_T28 l0 x8_1).f6)] 28 (0, 0)) (by (with_reducible repeat (first | refine blk_drewN ?_ _ | refine blk_drew ?_ | refine blk_alloc ?_ _)); refine blk_put (cs := #[.int .i64 ((rd_T28 l0 x8_1).f0), .int .i64 ((rd_T28 l0 x8_1).f1), .int .i64 ((rd_T28 l0 x8_1).f2), .int .i64 ((rd_T28 l0 x8_1).f3), .int .i64 ((rd_T28 l0 x8_1).f4), .int .i64 ((rd_T28 l0 x8_1).f5), .int .i64 0]) ?_ 6 _ rfl; (with_reducible repeat (first | refine blk_drewN ?_ _ | refine blk_drew ?_ | refine blk_alloc ?_ _)); refine blk_put (cs := #[.int .i64 ((rd_T28 l0 x8_1).f0), .int .i64 ((rd_T28 l0 x8_1).f1), .int .i64 ((rd_T28 l0 x8_1).f2), .int .i64 ((rd_T28 l0 x8_1).f3), .int .i64 ((rd_T28 l0 x8_1).f4), .int .i64 0, .int .i64 0]) ?_ 5 _ rfl; (with_reducible repeat (first | refine blk_drewN ?_ _ | refine blk_drew ?_ | refine blk_alloc ?_ _)); refine blk_put (cs := #[.int .i64 ((rd_T28 l0 x8_1).f0), .int .i64 ((rd_T28 l0 x8_1).f1), .int .i64 ((rd_T28 l0 x8_1).f2), .int .i64 ((rd_T28 l0 x8_1).f3), .int .i64 0, .int .i64 0, .int .i64 0]) ?_ 4 _ rfl; (with_reducible repeat (first | refine blk_drewN ?_ _ | refine blk_drew ?_ | refine blk_alloc ?_ _)); refine blk_put (cs := #[.int .i64 ((rd_T28 l0 x8_1).f0), .int .i64 ((rd_T28 l0 x8_1).f1), .int .i64 ((rd_T28 l0 x8_1).f2), .int .i64 0, .int .i64 0, .int .i64 0, .int .i64 0]) ?_ 3 _ rfl; (with_reducible repeat (first | refine blk_drewN ?_ _ | refine blk_drew ?_ | refine blk_alloc ?_ _)); refine blk_put (cs := #[.int .i64 ((rd_T28 l0 x8_1).f0), .int .i64 ((rd_T28 l0 x8_1).f1), .int .i64 0, .int .i64 0, .int .i64 0, .int .i64 0, .int .i64 0]) ?_ 2 _ rfl; (with_reducible repeat (first | refine blk_drewN ?_ _ | refine blk_drew ?_ | refine blk_alloc ?_ _)); refine blk_put (cs := #[.int .i64 ((rd_T28 l0 x8_1).f0), .int .i64 0, .int .i64 0, .int .i64 0, .int .i64 0, .int .i64 0, .int .i64 0]) ?_ 1 _ rfl; (with_reducible repeat (first | refine blk_drewN ?_ _ | refine blk_drew ?_ | refine blk_alloc ?_ _)); refine blk_put (cs := #[.int .i64 0, .int .i64 0, .int .i64 0, .int .i64 0, .int .i64 0, .int .i64 0, .int .i64 0]) ?_ 0 _ rfl; (with_reducible repeat (first | refine blk_drewN ?_ _ | refine blk_drew ?_ | refine blk_alloc ?_ _)); exact BK1.out) hb); replace HB := Aside0.mk (below_step aq17 hb); (try clear hb); (try clear hb2); (try clear hk); (try clear hi); obtain ⟨hcz22_0, hcz22_1, hcz22_2, hcz22_3, hcz22_4, hcz22_5, hcz22_6, hfz22_0, hfz22_1, hfz22_2, hfz22_3, hfz22_4, hfz22_5, hfz22_6⟩ := czf7 BK1.out))
     go_loopg [10, 11] kj7 (fun kq v10 v11 w' => ∃ (x10_3 : Int) (x11_3 : Int), v10 = .int .i64 x10_3 ∧ v11 = .int .i64 x11_3 ∧ Aside0 (palingref18_Insert.l1 kq l0 l2 x7_7 x8_1 x10_3 x11_3 a1_0 a1_1 a1_2 a1_3 a1_4 a1_5 a1_6 ((rd_T28 l0 x8_1).f0) ((rd_T28 l0 x8_1).f1) ((rd_T28 l0 x8_1).f2) ((rd_T28 l0 x8_1).f3) ((rd_T28 l0 x8_1).f4) ((rd_T28 l0 x8_1).f5) ((rd_T28 l0 x8_1).f6) = some r) ∧ Aside0 (kq ≤ kj7) ∧ Aside0 (Kd.R k28 28 w' w.heap.size (fun k_ => k_ ≠ gb0 ∧ k_ ≠ gb1) u7 x7_7) ∧ Aside0 (w'.heap[gb0]? = some (.cells #[.int .i64 a1_0, .int .i64 a1_1, .int .i64 a1_2, .int .i64 a1_3, .int .i64 a1_4, .int .i64 a1_5, .int .i64 a1_6] 28 (0, 0))) ∧ Aside0 (w'.heap[gb1]? = some (.cells #[.int .i64 ((rd_T28 l0 x8_1).f0), .int .i64 ((rd_T28 l0 x8_1).f1), .int .i64 ((rd_T28 l0 x8_1).f2), .int .i64 ((rd_T28 l0 x8_1).f3), .int .i64 ((rd_T28 l0 x8_1).f4), .int .i64 ((rd_T28 l0 x8_1).f5), .int .i64 ((rd_T28 l0 x8_1).f6)] 28 (0, 0))) ∧ Aside0 (Below w.heap.size w w'))
     case atStart => exact ⟨((rd_T28 l0 x8_1).f6), (0), aq5, aq5, H', ⟨Nat.le_refl _⟩, ⟨aq14⟩, ⟨aq8⟩, ⟨aq13⟩, ⟨aq17⟩⟩
     case round =>
      clear H'
      obtain ⟨x10_3, x11_3, rfl, rfl, HA, HK3, HO_7, BK0, BK1, HB⟩ := hrel
      cases gk with
      | zero => exact absurd HA.out (by simp [palingref18_Insert.l1])
      | succ k3 =>
       have H := HA.out
       clear HA
       simp only [palingref18_Insert.l1] at H
       by_cases c23 : x11_3 < ((rd_T28 l0 x8_1).f6)
       rotate_left
       ·rw [if_neg c23] at H
        have c23b0 : decide (x11_3 < ((rd_T28 l0 x8_1).f6)) = false := decide_eq_false c23
        clear c23
        by_cases c32 : x7_7.length < 2513169434916
        rotate_left
        ·rw [if_neg c32] at H
         exact absurd H (by simp)
        rw [if_pos c32] at H
        have LMc32 := Aside0.mk c32
        clear c32
        obtain ⟨y400, hy_⟩ : ∃ y_ : List (S28), y_ = (x7_7 ++ [(⟨((rd_T28 l0 x8_1).f0), ((rd_T28 l0 x8_1).f1), ((rd_T28 l0 x8_1).f2), ((rd_T28 l0 x8_1).f3), ((rd_T28 l0 x8_1).f4), ((rd_T28 l0 x8_1).f5), x10_3⟩ : S28)]) := ⟨_, rfl⟩
        replace H : (palingref18_Insert.l0 k3 l0 l2 y400 (wrap64 (x8_1 + 1)) a1_0 a1_1 a1_2 a1_3 a1_4 a1_5 a1_6) = some r := aq1
        have Ny400 := Aside0.mk hy_
        clear hy_
        have H' := Aside0.mk H
        clear H
        have hnb33 := NB1_0.out
        have hnc33 := NB0_1.out
        obtain ⟨hcz34_0, hcz34_1, hcz34_2, hcz34_3, hcz34_4, hcz34_5, hcz34_6, hfz34_0, hfz34_1, hfz34_2, hfz34_3, hfz34_4, hfz34_5, hfz34_6⟩ := czf7 BK1.out
        go_wp2_with (first | ((with_reducible refine gate_builtin (b := .append) (xs := #[.tmp 48, .tmp 50]) rfl ?_); at_builtin; refine Kd.R_append k28 (w0 := w) w.heap.size rfl (.tmp 48) (.tmp 50) 32 28 (.agg #[(.int .i64 0), (.int .i64 0), (.int .i64 0), (.int .i64 0), (.int .i64 0), (.int .i64 0), (.int .i64 0)]) 56 rfl Tryd.underlying32 info28 rfl (by decide) (by omega) u7 x7_7 (⟨((rd_T28 l0 x8_1).f0), ((rd_T28 l0 x8_1).f1), ((rd_T28 l0 x8_1).f2), ((rd_T28 l0 x8_1).f3), ((rd_T28 l0 x8_1).f4), ((rd_T28 l0 x8_1).f5), x10_3⟩ : S28) [.int .i64 ((rd_T28 l0 x8_1).f0), .int .i64 ((rd_T28 l0 x8_1).f1), .int .i64 ((rd_T28 l0 x8_1).f2), .int .i64 ((rd_T28 l0 x8_1).f3), .int .i64 ((rd_T28 l0 x8_1).f4), .int .i64 ((rd_T28 l0 x8_1).f5), .int .i64 x10_3] (fun k_ => k_ ≠ gb0 ∧ k_ ≠ gb1) (fun _ => False) rfl (by first | (go_simp; done) | (go_simp; rfl)) ?aP (fun _ hk => hk.elim) ?aF ?aO ?aB ?aS ?aL ?_; (case aP => exact k28_mkM _ _ _ (⟨((rd_T28 l0 x8_1).f0), ((rd_T28 l0 x8_1).f1), ((rd_T28 l0 x8_1).f2), ((rd_T28 l0 x8_1).f3), ((rd_T28 l0 x8_1).f4), ((rd_T28 l0 x8_1).f5), x10_3⟩ : S28)); (case aB => exact aq17); (case aF => exact (fun k_ hk => ⟨Kd.freshB (g := gb0) (o := .cells #[.int .i64 a1_0, .int .i64 a1_1, .int .i64 a1_2, .int .i64 a1_3, .int .i64 a1_4, .int .i64 a1_5, .int .i64 a1_6] 28 (0, 0)) (by (with_reducible repeat (first | refine blk_drewN ?_ _ | refine blk_drew ?_ | refine blk_alloc ?_ _)); refine blk_far ?_ NB0_1.out _; (with_reducible repeat (first | refine blk_drewN ?_ _ | refine blk_drew ?_ | refine blk_alloc ?_ _)); exact BK0.out) k_ hk, Kd.freshB (g := gb1) (o := .cells #[.int .i64 ((rd_T28 l0 x8_1).f0), .int .i64 ((rd_T28 l0 x8_1).f1), .int .i64 ((rd_T28 l0 x8_1).f2), .int .i64 ((rd_T28 l0 x8_1).f3), .int .i64 ((rd_T28 l0 x8_1).f4), .int .i64 ((rd_T28 l0 x8_1).f5), .int .i64 x10_3] 28 (0, 0)) (by (with_reducible repeat (first | refine blk_drewN ?_ _ | refine blk_drew ?_ | refine blk_alloc ?_ _)); refine blk_put (cs := #[.int .i64 ((rd_T28 l0 x8_1).f0), .int .i64 ((rd_T28 l0 x8_1).f1), .int .i64 ((rd_T28 l0 x8_1).f2), .int .i64 ((rd_T28 l0 x8_1).f3), .int .i64 ((rd_T28 l0 x8_1).f4), .int .i64 ((rd_T28 l0 x8_1).f5), .int .i64 ((rd_T28 l0 x8_1).f6)]) ?_ 6 _ rfl; (with_reducible repeat (first | refine blk_drewN ?_ _ | refine blk_drew ?_ | refine blk_alloc ?_ _)); exact BK1.out) k_ hk⟩)); (case aO => exact (by (with_reducible repeat (first | apply Kd.R_alloc | apply Kd.R_drewN | apply Kd.R_drew)); exact Kd.R_mono (Kd.R_far (p := ⟨gb1, 6, none⟩) (Kd.R_mono HO_7.out (fun k_ hk => (⟨hk, hk.2⟩ : _ ∧ k_ ≠ gb1))) (fun _ hk => hk.2) (.int .i64 x10_3)) (fun _ hk => ⟨hk.1.1, hk.1.2⟩))); (case aS => exact (below_size aq17)); (case aL => have := LMc32.out; omega); intro v401 w35 ho hb hg hat; rw [← Ny400.out] at ho; replace BK0 := Aside0.mk (blk_grown (g := gb0) (o := .cells #[.int .i64 a1_0, .int .i64 a1_1, .int .i64 a1_2, .int .i64 a1_3, .int .i64 a1_4, .int .i64 a1_5, .int .i64 a1_6] 28 (0, 0)) (by (with_reducible repeat (first | refine blk_drewN ?_ _ | refine blk_drew ?_ | refine blk_alloc ?_ _)); refine blk_far ?_ NB0_1.out _; (with_reducible repeat (first | refine blk_drewN ?_ _ | refine blk_drew ?_ | refine blk_alloc ?_ _)); exact BK0.out) hg (Kd.R_away HO_7.out (fun _ hk => hk.1))); replace BK1 := Aside0.mk (blk_grown (g := gb1) (o := .cells #[.int .i64 ((rd_T28 l0 x8_1).f0), .int .i64 ((rd_T28 l0 x8_1).f1), .int .i64 ((rd_T28 l0 x8_1).f2), .int .i64 ((rd_T28 l0 x8_1).f3), .int .i64 ((rd_T28 l0 x8_1).f4), .int .i64 ((rd_T28 l0 x8_1).f5), .int .i64 x10_3] 28 (0, 0)) (by (with_reducible repeat (first | refine blk_drewN ?_ _ | refine blk_drew ?_ | refine blk_alloc ?_ _)); refine blk_put (cs := #[.int .i64 ((rd_T28 l0 x8_1).f0), .int .i64 ((rd_T28 l0 x8_1).f1), .int .i64 ((rd_T28 l0 x8_1).f2), .int .i64 ((rd_T28 l0 x8_1).f3), .int .i64 ((rd_T28 l0 x8_1).f4), .int .i64 ((rd_T28 l0 x8_1).f5), .int .i64 ((rd_T28 l0 x8_1).f6)]) ?_ 6 _ rfl; (with_reducible repeat (first | refine blk_drewN ?_ _ | refine blk_drew ?_ | refine blk_alloc ?_ _)); exact BK1.out) hg (Kd.R_away HO_7.out (fun _ hk => hk.2))); replace HB := Aside0.mk (hb); have HO402 := Aside0.mk (ho); clear HO_7; clear ho hb hg hat))
        go_roundg k3
        case measure => have := HK1.out; have := HJ7.out; have := HK3.out; omega
        case rel => exact ⟨(y400), (wrap64 (x8_1 + 1)), aq5, H', ⟨aq55⟩, ⟨by (with_reducible repeat (first | apply Kd.R_alloc | apply Kd.R_drewN | apply Kd.R_drew)); exact Kd.R_mono HO402.out (fun _ hk => hk.1)⟩, ⟨aq8⟩, ⟨aq17⟩⟩
       rw [if_pos c23] at H
       have c23b0 : decide (x11_3 < ((rd_T28 l0 x8_1).f6)) = true := decide_eq_true c23
       clear c23
       by_cases c24 : 0 ≤ x11_3
       rotate_left
       ·rw [if_neg c24] at H
        exact absurd H (by simp)
       rw [if_pos c24] at H
       have c24b0 : decide (0 ≤ x11_3) = true := decide_eq_true c24
       clear c24
       by_cases c25 : x11_3 < (l2.length : Int)
       rotate_left
       ·rw [if_neg c25] at H
        exact absurd H (by simp)
       rw [if_pos c25] at H
       have c25b0 : decide (x11_3 < (l2.length : Int)) = true := decide_eq_true c25
       clear c25
       obtain ⟨bq26, hbq26⟩ : ∃ b_ : Bool, b_ = (rdOf false l2 x11_3) := ⟨_, rfl⟩
       replace H : (if bq26 = true then (palingref18_Insert.l1 k3 l0 l2 x7_7 x8_1 (wrap64 (x10_3 + 1)) (wrap64 (x11_3 + 1)) a1_0 a1_1 a1_2 a1_3 a1_4 a1_5 a1_6 ((rd_T28 l0 x8_1).f0) ((rd_T28 l0 x8_1).f1) ((rd_T28 l0 x8_1).f2) ((rd_T28 l0 x8_1).f3) ((rd_T28 l0 x8_1).f4) ((rd_T28 l0 x8_1).f5) ((rd_T28 l0 x8_1).f6)) else (palingref18_Insert.l1 k3 l0 l2 x7_7 x8_1 x10_3 (wrap64 (x11_3 + 1)) a1_0 a1_1 a1_2 a1_3 a1_4 a1_5 a1_6 ((rd_T28 l0 x8_1).f0) ((rd_T28 l0 x8_1).f1) ((rd_T28 l0 x8_1).f2) ((rd_T28 l0 x8_1).f3) ((rd_T28 l0 x8_1).f4) ((rd_T28 l0 x8_1).f5) ((rd_T28 l0 x8_1).f6))) = some r := by rw [← hbq26] at H; exact H
       have Nbq26 := Aside0.mk hbq26
       clear hbq26
       by_cases c27 : bq26 = true
       ·subst c27
        rw [if_pos rfl] at H
        have H' := Aside0.mk H
        clear H
        have hnb28 := NB1_0.out
        have hnc28 := NB0_1.out
        obtain ⟨hcz29_0, hcz29_1, hcz29_2, hcz29_3, hcz29_4, hcz29_5, hcz29_6, hfz29_0, hfz29_1, hfz29_2, hfz29_3, hfz29_4, hfz29_5, hfz29_6⟩ := czf7 BK1.out
        have p399 : 0 ≤ (x11_3 : Int) := of_decide_eq_true aq2
        have q399 : x11_3 < (l2.length : Int) := of_decide_eq_true aq2
        obtain ⟨ad399, e399, hx399_0⟩ := Kd.at_bool HR2.out x11_3 p399 q399
        (try rw [← Nbq26.out] at hx399_0)
        obtain rfl : ad392 = ad399 := (by injection e399)
        replace hx399_0 := (HB.out.cell (World.block_lt_of_cell? w _ hx399_0)).trans hx399_0
        replace p399 := eq_true p399
        replace q399 := eq_true q399
        go_wp2
        go_roundg k3
        case measure => have := HK1.out; have := HJ7.out; have := HK3.out; omega
        case rel => exact ⟨(wrap64 (x10_3 + 1)), (wrap64 (x11_3 + 1)), aq5, aq5, H', ⟨aq55⟩, ⟨aq14⟩, ⟨aq8⟩, ⟨aq13⟩, ⟨aq17⟩⟩
       replace c27 := Bool.eq_false_iff.mpr c27
       subst c27
       rw [if_neg nf_] at H
       have H' := Aside0.mk H
       clear H
       have hnb30 := NB1_0.out
       have hnc30 := NB0_1.out
       obtain ⟨hcz31_0, hcz31_1, hcz31_2, hcz31_3, hcz31_4, hcz31_5, hcz31_6, hfz31_0, hfz31_1, hfz31_2, hfz31_3, hfz31_4, hfz31_5, hfz31_6⟩ := czf7 BK1.out
       have p399 : 0 ≤ (x11_3 : Int) := of_decide_eq_true aq2
       have q399 : x11_3 < (l2.length : Int) := of_decide_eq_true aq2
       obtain ⟨ad399, e399, hx399_0⟩ := Kd.at_bool HR2.out x11_3 p399 q399
       (try rw [← Nbq26.out] at hx399_0)
       obtain rfl : ad392 = ad399 := (by injection e399)
       replace hx399_0 := (HB.out.cell (World.block_lt_of_cell? w _ hx399_0)).trans hx399_0
       replace p399 := eq_true p399
       replace q399 := eq_true q399
       go_wp2
       go_roundg k3
       case measure => have := HK1.out; have := HJ7.out; have := HK3.out; omega
       case rel => exact ⟨(x10_3), (wrap64 (x11_3 + 1)), aq5, aq5, H', ⟨aq55⟩, ⟨aq14⟩, ⟨aq8⟩, ⟨aq13⟩, ⟨aq17⟩⟩
end Go.Proofs.YtdopacgaklaaeaaDoor.PDeadTells
