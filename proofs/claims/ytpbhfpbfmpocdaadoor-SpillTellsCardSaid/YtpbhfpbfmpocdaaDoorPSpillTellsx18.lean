-- Written by print2.py over the kit's printer. Not trusted: Lean checks it.
import Derived.Test.YtpbhfpbfmpocdaaDoorPSpillTellshqq
import Derived.Test.YtpbhfpbfmpocdaaDoorPSpillTellsx0
import Derived.Test.YtpbhfpbfmpocdaaDoorPSpillTellsx17
namespace Go.Proofs.YtpbhfpbfmpocdaaDoor.PSpillTells
open Go.RowKit Go.Proofs.YtpbhfpbfmpocdaaDoorW.PrintWords Go.Proofs.YtpbhfpbfmpocdaaDoorW.PrintLast Go.Proofs.YtpbhfpbfmpocdaaDoorW.PrintMore
attribute [local go_sem] max2_int min2_int max_two min_two max_three min_three max_four min_four   -- for this text's walks alone
set_option linter.unusedVariables false
set_option linter.unusedSimpArgs false

/-! ### palingref22_Code: function 16 -/
mutual
def palingref22_Code.l0 : Nat → List (S48) → List (S48) → List Int → Int → List (S57) → List Int → Int → Int → Option ((List (S48)))
  | 0, _, _, _, _, _, _, _, _ => none
  | k + 1, x0, x5, x6, x7, x548000, x548001, x548002, x548003 => if x7 < (x0.length : Int) then (if x6.length < 17592186044416 then (if 0 ≤ x7 then ((palingref22_one.f k ((rd_T48 x0 x7).f0) ((rd_T48 x0 x7).f1) ((rd_T48 x0 x7).f2) ((rd_T48 x0 x7).f3) ((rd_T48 x0 x7).f4) ((rd_T48 x0 x7).f5) ((rd_T48 x0 x7).f6) x548000 x548001 x548002 x548003).bind fun t552 => (if x5.length + t552.length < 2513169434916 then (palingref22_Code.l0 k x0 (x5 ++ t552) (x6 ++ [(x5.length : Int)]) (wrap64 (x7 + 1)) x548000 x548001 x548002 x548003) else (none))) else (none)) else (none)) else (palingref22_Code.l1 k x5 x6 0)
def palingref22_Code.l1 : Nat → List (S48) → List Int → Int → Option ((List (S48)))
  | 0, _, _, _ => none
  | k + 1, x5, x6, x8 => if x8 < (x5.length : Int) then (if 0 ≤ x8 then (if ((rd_T48 x5 x8).f0) = 6 then (if 0 ≤ ((rd_T48 x5 x8).f6) then (if ((rd_T48 x5 x8).f6) < (x6.length : Int) then (palingref22_Code.l1 k (x5.set (x8 : Int).toNat (⟨(rd_T48 x5 x8).f0, (rd_T48 x5 x8).f1, (rd_T48 x5 x8).f2, (rd_T48 x5 x8).f3, (rd_T48 x5 x8).f4, (rd_T48 x5 x8).f5, rd x6 ((rd_T48 x5 x8).f6)⟩ : S48)) x6 (wrap64 (x8 + 1))) else (none)) else (none)) else (if ((rd_T48 x5 x8).f0) = 7 then (if 0 ≤ ((rd_T48 x5 x8).f6) then (if ((rd_T48 x5 x8).f6) < (x6.length : Int) then (palingref22_Code.l1 k (x5.set (x8 : Int).toNat (⟨(rd_T48 x5 x8).f0, (rd_T48 x5 x8).f1, (rd_T48 x5 x8).f2, (rd_T48 x5 x8).f3, (rd_T48 x5 x8).f4, (rd_T48 x5 x8).f5, rd x6 ((rd_T48 x5 x8).f6)⟩ : S48)) x6 (wrap64 (x8 + 1))) else (none)) else (none)) else (palingref22_Code.l1 k x5 x6 (wrap64 (x8 + 1))))) else (none)) else (some x5)
end
def palingref22_Code.f (k : Nat) (l0 : List (S48)) (l1_0 : List (S57)) (l1_1 : List Int) (a1_2 : Int) (a1_3 : Int) : Option ((List (S48))) := palingref22_Code.l0 k l0 ([] : List (S48)) ([] : List Int) 0 l1_0 l1_1 a1_2 a1_3
theorem palingref22_Code.mono_l : ∀ k, (∀ y0 y1 y2 y3 y4 y5 y6 y7, LeO (palingref22_Code.l0 k y0 y1 y2 y3 y4 y5 y6 y7) (palingref22_Code.l0 (k + 1) y0 y1 y2 y3 y4 y5 y6 y7)) ∧ (∀ y0 y1 y2, LeO (palingref22_Code.l1 k y0 y1 y2) (palingref22_Code.l1 (k + 1) y0 y1 y2))
  | 0 => ⟨fun _ _ _ _ _ _ _ _ r h => by simp [palingref22_Code.l0] at h, fun _ _ _ r h => by simp [palingref22_Code.l1] at h⟩
  | k + 1 => by
    obtain ⟨ih0, ih1⟩ := palingref22_Code.mono_l k
    refine ⟨?_, ?_⟩ <;> intros <;> (first | unfold palingref22_Code.l0 | unfold palingref22_Code.l1) <;> repeat' (first | (with_reducible first | exact ih0 _ _ _ _ _ _ _ _ | exact ih1 _ _ _ | exact palingref22_one.mono _ _ _ _ _ _ _ _ _ _ _ _ | exact LeO.refl _ | exact LeO.none _ | refine LeO.ite ?_ ?_ | refine LeO.bind ?_ (fun _ => ?_)) | exact ih0 _ _ _ _ _ _ _ _ | exact ih1 _ _ _ | exact palingref22_one.mono _ _ _ _ _ _ _ _ _ _ _ _ | exact LeO.none _ | refine LeO.ite ?_ ?_ | refine LeO.bind ?_ (fun _ => ?_))
theorem palingref22_Code.mono : ∀ a0 a1 a2 a3 a4 k, LeO (palingref22_Code.f k a0 a1 a2 a3 a4) (palingref22_Code.f (k + 1) a0 a1 a2 a3 a4) := by
 intro a0 a1 a2 a3 a4 k
 obtain ⟨ih0, ih1⟩ := palingref22_Code.mono_l k
 unfold palingref22_Code.f
 repeat' (first | (with_reducible first | exact ih0 _ _ _ _ _ _ _ _ | exact ih1 _ _ _ | exact palingref22_one.mono _ _ _ _ _ _ _ _ _ _ _ _ | exact LeO.refl _ | exact LeO.none _ | refine LeO.ite ?_ ?_ | refine LeO.bind ?_ (fun _ => ?_)) | exact ih0 _ _ _ _ _ _ _ _ | exact ih1 _ _ _ | exact palingref22_one.mono _ _ _ _ _ _ _ _ _ _ _ _ | exact LeO.none _ | refine LeO.ite ?_ ?_ | refine LeO.bind ?_ (fun _ => ?_))
def palingref22_Code.T7 : Bool × List (List Nat × List Nat) := (true, [([], []), ([], []), ([], []), ([1, 2], [1, 2]), ([3], [3]), ([], []), ([4, 5], [4, 5]), ([0, 6, 6], [0, 6]), ([7, 7, 0, 1, 2, 3, 4, 5, 6, 7], [0, 7])])
def palingref22_Code.B7 : List Nat := [0, 0, 0, 6, 14, 0, 62, 127, 255]
theorem palingref22_Code.tab7 : rtab .any (opsOf Tryd.f16 7) = palingref22_Code.T7 := by kernel_rfl
theorem palingref22_Code.bits7 : waitsOk palingref22_Code.T7.2 palingref22_Code.B7 = true := by kernel_rfl
set_option maxHeartbeats 8000000 in
set_option maxRecDepth 100000 in
theorem palingref22_Code.calls (k : Nat) (A0 : Option Addr) (c0 : Nat) (l0 : List (S48)) (A1_0 : Option Addr) (c1_0 : Nat) (l1_0 : List (S57)) (A1_1 : Option Addr) (c1_1 : Nat) (l1_1 : List Int) (a1_2 : Int) (a1_3 : Int) (r : List (S48)) (w : World) (hr0 : Kd.C k48 w A0 l0.length l0) (hc0 : l0.length ≤ c0) (hr1_0 : Kd.C k57 w A1_0 l1_0.length l1_0) (hc1_0 : l1_0.length ≤ c1_0) (hr1_1 : Kd.C (Kd.int .i64) w A1_1 l1_1.length l1_1) (hc1_1 : l1_1.length ≤ c1_1) (h : palingref22_Code.f k l0 l1_0 l1_1 a1_2 a1_3 = some r) :
    Calls Tryd.prog 16 #[.slice A0 l0.length c0, .agg #[.slice A1_0 l1_0.length c1_0, .slice A1_1 l1_1.length c1_1, .int .i64 a1_2, .int .i64 a1_3]] w fun e w' => ∃ v0_ : Value, e = .returned (v0_) ∧ Kd.R k48 48 w' w.heap.size (fun _ => True) v0_ r ∧ Below w.heap.size w w' := by
 have hu42 := Tryd.underlying42
 have hu48 := Tryd.underlying48
 have HR0 := Aside0.mk hr0
 have HC0 := Aside0.mk hc0
 clear hr0 hc0
 have HR1_0 := Aside0.mk hr1_0
 have HC1_0 := Aside0.mk hc1_0
 clear hr1_0 hc1_0
 have HR1_1 := Aside0.mk hr1_1
 have HC1_1 := Aside0.mk hc1_1
 clear hr1_1 hc1_1
 have HB := Aside0.mk (Below.refl w.heap.size w)
 have H : (palingref22_Code.l0 k l0 ([] : List (S48)) ([] : List Int) 0 l1_0 l1_1 a1_2 a1_3) = some r := h
 clear h
 have H' := Aside0.mk H
 clear H
 go_enter Tryd.func16, Tryd.ntmps16
 go_wp2_with (first | ((with_reducible refine gate_dst (N := 3) rfl ?_); refine box_event ?hg (N := 3) ?hd (cs := #[.slice A1_0 l1_0.length c1_0, .slice A1_1 l1_1.length c1_1, .int .i64 a1_2, .int .i64 a1_3]) (t := 42) ?hr ?_; (case hd => rfl); (case hg => rfl); (case hr => first | (go_simp; done) | (go_simp; rfl)); intro gb0 hg w3 hbox hb; have BK0 := Aside0.mk (hbox); have GW0 := Aside0.mk ((by rw [hg]; exact (below_size aq0) : w.heap.size ≤ gb0)); have GE0 := Aside0.mk ((by rw [hg]; exact (below_size aq0) : w.heap.size ≤ gb0)); replace HB := Aside0.mk (below_step aq0 hb); clear hb hbox hg))
 go_loopg [5, 6, 7] k (fun kq v5 v6 v7 w' => ∃ (x5_1 : List (S48)) (x6_1 : List Int) (x7_1 : Int), v7 = .int .i64 x7_1 ∧ Aside0 (palingref22_Code.l0 kq l0 x5_1 x6_1 x7_1 l1_0 l1_1 a1_2 a1_3 = some r) ∧ Aside0 (kq ≤ k) ∧ Aside0 (Kd.R k48 48 w' w.heap.size (fun _ => True) v5 x5_1) ∧ Aside0 (Kd.R (Kd.int .i64) 3 w' w.heap.size (fun _ => True) v6 x6_1) ∧ Aside0 (w'.heap[gb0]? = some (.cells #[(.slice A1_0 l1_0.length c1_0), (.slice A1_1 l1_1.length c1_1), .int .i64 a1_2, .int .i64 a1_3] 42 (0, 0))) ∧ Aside0 (Below w.heap.size w w'))
 case atStart => exact ⟨(([] : List (S48))), (([] : List Int)), (0), aq7, H', ⟨Nat.le_refl _⟩, ⟨aq23⟩, ⟨aq23⟩, ⟨aq5⟩, ⟨aq3⟩⟩
 case round =>
  clear H'
  obtain ⟨x5_1, x6_1, x7_1, rfl, HA, HK1, HO_5, HO_6, BK0, HB⟩ := hrel
  cases gk with
  | zero => exact absurd HA.out (by simp [palingref22_Code.l0])
  | succ k1 =>
   have H := HA.out
   clear HA
   simp only [palingref22_Code.l0] at H
   by_cases c4 : x7_1 < (l0.length : Int)
   ·rw [if_pos c4] at H
    have c4b0 : decide (x7_1 < (l0.length : Int)) = true := decide_eq_true c4
    clear c4
    by_cases c5 : x6_1.length < 17592186044416
    rotate_left
    ·rw [if_neg c5] at H
     exact absurd H (by simp)
    rw [if_pos c5] at H
    have LMc5 := Aside0.mk c5
    clear c5
    obtain ⟨y548, hy_⟩ : ∃ y_ : List Int, y_ = (x6_1 ++ [(x5_1.length : Int)]) := ⟨_, rfl⟩
    replace H : (if 0 ≤ x7_1 then ((palingref22_one.f k1 ((rd_T48 l0 x7_1).f0) ((rd_T48 l0 x7_1).f1) ((rd_T48 l0 x7_1).f2) ((rd_T48 l0 x7_1).f3) ((rd_T48 l0 x7_1).f4) ((rd_T48 l0 x7_1).f5) ((rd_T48 l0 x7_1).f6) l1_0 l1_1 a1_2 a1_3).bind fun t552 => (if x5_1.length + t552.length < 2513169434916 then (palingref22_Code.l0 k1 l0 (x5_1 ++ t552) y548 (wrap64 (x7_1 + 1)) l1_0 l1_1 a1_2 a1_3) else (none))) else (none)) = some r := aq1
    have Ny548 := Aside0.mk hy_
    clear hy_
    by_cases c6 : 0 ≤ x7_1
    rotate_left
    ·rw [if_neg c6] at H
     exact absurd H (by simp)
    rw [if_pos c6] at H
    have c6b0 : decide (0 ≤ x7_1) = true := decide_eq_true c6
    clear c6
    obtain ⟨t552, A7, H⟩ := bS_ H
    by_cases c8 : x5_1.length + t552.length < 2513169434916
    rotate_left
    ·rw [if_neg c8] at H
     exact absurd H (by simp)
    rw [if_pos c8] at H
    have LMc8 := Aside0.mk c8
    clear c8
    obtain ⟨y555, hy_⟩ : ∃ y_ : List (S48), y_ = (x5_1 ++ t552) := ⟨_, rfl⟩
    replace H : (palingref22_Code.l0 k1 l0 y555 y548 (wrap64 (x7_1 + 1)) l1_0 l1_1 a1_2 a1_3) = some r := aq1
    have Ny555 := Aside0.mk hy_
    clear hy_
    have H' := Aside0.mk H
    clear H
    obtain ⟨Ao9, co9, eo9⟩ := Kd.R_slice HO_5.out
    subst eo9
    try go_wp2_with (first | ((with_reducible refine gate_builtin (b := .append) (xs := #[.tmp 15, .tmp 18]) rfl ?_); at_builtin; refine Kd.R_append (Kd.int .i64) (w0 := w) w.heap.size rfl (.tmp 15) (.tmp 18) 23 3 (.int .i64 0) 8 rfl Tryd.underlying23 info3 rfl (by decide) (by omega) u6 x6_1 (x5_1.length : Int) [.int .i64 (x5_1.length : Int)] (fun _ => True) (fun _ => False) rfl rfl ?aP (fun _ hk => hk.elim) ?aF ?aO ?aB ?aS ?aL ?_; (case aP => exact rfl); (case aB => exact aq3); (case aF => exact (fun _ _ => trivial)); (case aO => exact aq14); (case aS => exact (below_size aq3)); (case aL => have := LMc5.out; omega); intro v549 w10 ho hb hg hat; rw [← Ny548.out] at ho; replace HO_5 := Aside0.mk (Kd.R_over' aq8 (Kd.R_typed aq14) (by decide) hg); replace BK0 := Aside0.mk (blk_grown (g := gb0) (o := .cells #[.slice A1_0 l1_0.length c1_0, .slice A1_1 l1_1.length c1_1, .int .i64 a1_2, .int .i64 a1_3] 42 (0, 0)) aq5 hg (Kd.R_ne HO_6.out BK0.out (by decide))); replace HB := Aside0.mk (hb); have HO550 := Aside0.mk (ho); clear HO_6; clear ho hb hg hat))
    replace HO_5 := Aside0.mk (Kd.R_drew HO_5.out)
    replace HO550 := Aside0.mk (Kd.R_drew HO550.out)
    replace BK0 := Aside0.mk (blk_drew BK0.out)
    replace HB := Aside0.mk (below_drew1 HB.out)
    have p551 : 0 ≤ (x7_1 : Int) := of_decide_eq_true aq2
    have q551 : x7_1 < (l0.length : Int) := of_decide_eq_true aq2
    obtain ⟨ad551, e551, hx551_0, hx551_1, hx551_2, hx551_3, hx551_4, hx551_5, hx551_6⟩ := at_T48 HR0.out x7_1 p551 q551
    have hw551_6 := hx551_6
    have hw551_5 := hx551_5
    have hw551_4 := hx551_4
    have hw551_3 := hx551_3
    have hw551_2 := hx551_2
    have hw551_1 := hx551_1
    have hw551_0 := hx551_0
    cases e551
    replace hx551_0 := (HB.out.cell (World.block_lt_of_cell? w _ hx551_0)).trans hx551_0
    replace hx551_1 := (HB.out.cell (World.block_lt_of_cell? w _ hx551_1)).trans hx551_1
    replace hx551_2 := (HB.out.cell (World.block_lt_of_cell? w _ hx551_2)).trans hx551_2
    replace hx551_3 := (HB.out.cell (World.block_lt_of_cell? w _ hx551_3)).trans hx551_3
    replace hx551_4 := (HB.out.cell (World.block_lt_of_cell? w _ hx551_4)).trans hx551_4
    replace hx551_5 := (HB.out.cell (World.block_lt_of_cell? w _ hx551_5)).trans hx551_5
    replace hx551_6 := (HB.out.cell (World.block_lt_of_cell? w _ hx551_6)).trans hx551_6
    replace p551 := eq_true p551
    replace q551 := eq_true q551
    refine start_ (n := 9) (S := fun w' => w'.cell? ⟨gb0, 0, none⟩ = some (.slice A1_0 l1_0.length c1_0) ∧ w'.cell? ⟨gb0, 1, none⟩ = some (.slice A1_1 l1_1.length c1_1) ∧ w'.cell? ⟨gb0, 2, none⟩ = some (.int .i64 a1_2) ∧ w'.cell? ⟨gb0, 3, none⟩ = some (.int .i64 a1_3) ∧ w'.cell? (ad551.add ((x7_1).toNat * 7)) = some (.int .i64 ((rd_T48 l0 x7_1).f0)) ∧ w'.cell? ⟨(ad551.add ((x7_1).toNat * 7)).block, (ad551.add ((x7_1).toNat * 7)).off + 1, none⟩ = some (.int .i64 ((rd_T48 l0 x7_1).f1)) ∧ w'.cell? ⟨(ad551.add ((x7_1).toNat * 7)).block, (ad551.add ((x7_1).toNat * 7)).off + 2, none⟩ = some (.int .i64 ((rd_T48 l0 x7_1).f2)) ∧ w'.cell? ⟨(ad551.add ((x7_1).toNat * 7)).block, (ad551.add ((x7_1).toNat * 7)).off + 3, none⟩ = some (.int .i64 ((rd_T48 l0 x7_1).f3)) ∧ w'.cell? ⟨(ad551.add ((x7_1).toNat * 7)).block, (ad551.add ((x7_1).toNat * 7)).off + 4, none⟩ = some (.int .i64 ((rd_T48 l0 x7_1).f4)) ∧ w'.cell? ⟨(ad551.add ((x7_1).toNat * 7)).block, (ad551.add ((x7_1).toNat * 7)).off + 5, none⟩ = some (.int .i64 ((rd_T48 l0 x7_1).f5)) ∧ w'.cell? ⟨(ad551.add ((x7_1).toNat * 7)).block, (ad551.add ((x7_1).toNat * 7)).off + 6, none⟩ = some (.int .i64 ((rd_T48 l0 x7_1).f6))) (ds := []) #[false, false, false, false, false, false, false, false, false] (by kernel_rfl) rfl rfl ⟨(blk_cell BK0.out 0).trans rfl, (blk_cell BK0.out 1).trans rfl, (blk_cell BK0.out 2).trans rfl, (blk_cell BK0.out 3).trans rfl, ((HB.out.cell (World.block_lt_of_cell? w _ hw551_0)).trans hw551_0), ((HB.out.cell (World.block_lt_of_cell? w _ hw551_1)).trans hw551_1), ((HB.out.cell (World.block_lt_of_cell? w _ hw551_2)).trans hw551_2), ((HB.out.cell (World.block_lt_of_cell? w _ hw551_3)).trans hw551_3), ((HB.out.cell (World.block_lt_of_cell? w _ hw551_4)).trans hw551_4), ((HB.out.cell (World.block_lt_of_cell? w _ hw551_5)).trans hw551_5), ((HB.out.cell (World.block_lt_of_cell? w _ hw551_6)).trans hw551_6)⟩ (fun hHeld => ?_); refine with_tabW palingref22_Code.tab7 palingref22_Code.bits7 (fun HT_ HW_ => ?_)
    generalize w10.drew = w11 at HO_5 HO550 BK0 HB hx551_0 hx551_1 hx551_2 hx551_3 hx551_4 hx551_5 hx551_6 hHeld ⊢
    refine pz (i := 0) (N := some 20) (bz 9 1) rfl rfl ?_
    refine pz (i := 1) (N := some 21) (bz 9 3) rfl rfl ?_
    refine pz (i := 2) (N := some 22) (bz 9 7) rfl rfl ?_
    refine pz (i := 3) (N := some 23) (bz 9 15) rfl rfl ?_
    refine tz11 (i := 4) (N := some 24) (bz 9 31) rfl rfl hHeld ?_
    refine tz11 (i := 5) (N := some 25) (bz 9 63) rfl rfl hHeld ?_
    refine one_ (i := 6) (N := some 26) #[true, true, true, true, true, true, true, false, false] rfl rfl (one_of HT_.out (by kernel_rfl)) (by decide) (fun K hK => ?_)
    refine goes_ Tryd.func28 (by kernel_rfl) rfl #[.agg #[.int .i64 ((rd_T48 l0 x7_1).f0), .int .i64 ((rd_T48 l0 x7_1).f1), .int .i64 ((rd_T48 l0 x7_1).f2), .int .i64 ((rd_T48 l0 x7_1).f3), .int .i64 ((rd_T48 l0 x7_1).f4), .int .i64 ((rd_T48 l0 x7_1).f5), .int .i64 ((rd_T48 l0 x7_1).f6)], .agg #[.slice A1_0 l1_0.length c1_0, .slice A1_1 l1_1.length c1_1, .int .i64 a1_2, .int .i64 a1_3]] (by rfl) rfl rfl aq4 ?_
    with_reducible refine (palingref22_one.calls k1 ((rd_T48 l0 x7_1).f0) ((rd_T48 l0 x7_1).f1) ((rd_T48 l0 x7_1).f2) ((rd_T48 l0 x7_1).f3) ((rd_T48 l0 x7_1).f4) ((rd_T48 l0 x7_1).f5) ((rd_T48 l0 x7_1).f6) _ _ l1_0 _ _ l1_1 a1_2 a1_3 t552 _ ?side1 ?side2 ?side3 ?side4 A7.out).mono ?_
    (case side1 => repeat (first | exact (Kd.C_below HR1_0.out HB.out) | (with_reducible refine Kd.C_alloc ?_ _) | (with_reducible refine Kd.C_drewN ?_ _) | (with_reducible refine Kd.C_drew ?_)))
    (case side2 => exact HC1_0.out)
    (case side3 => repeat (first | exact (Kd.C_below HR1_1.out HB.out) | (with_reducible refine Kd.C_alloc ?_ _) | (with_reducible refine Kd.C_drewN ?_ _) | (with_reducible refine Kd.C_drew ?_)))
    (case side4 => exact HC1_1.out)
    rintro e w12 ⟨v553, rfl, ho0, hb⟩
    refine ⟨_, rfl, ?_⟩
    replace HO550 := Aside0.mk (Kd.R_below aq81 hb)
    have HO554 := Aside0.mk (Kd.R_lower (Kd.R_new' ho0 (Kd.R_lt aq8)) (below_size aq3))
    replace HO_5 := Aside0.mk (Kd.R_elder' aq8 (Kd.R_base ho0) hb)
    replace BK0 := Aside0.mk (blk_below (g := gb0) (o := .cells #[.slice A1_0 l1_0.length c1_0, .slice A1_1 l1_1.length c1_1, .int .i64 a1_2, .int .i64 a1_3] 42 (0, 0)) aq5 hb)
    replace HB := Aside0.mk (below_step aq3 hb)
    (try clear hb)
    (try clear hb2)
    (try clear hk)
    (try clear hi)
    (try clear ho0)
    obtain ⟨Ao14, co14, eo14⟩ := Kd.R_slice HO554.out
    (first | subst eo14 | (injection eo14 with f1_ f2_ f3_; have f4_ := f1_.symm; have f5_ := f3_.symm; clear f1_ f2_ f3_; subst f4_; subst f5_))
    refine hK.out _ _ ⟨(blk_cell BK0.out 0).trans rfl, (blk_cell BK0.out 1).trans rfl, (blk_cell BK0.out 2).trans rfl, (blk_cell BK0.out 3).trans rfl, ((HB.out.cell (World.block_lt_of_cell? w _ hw551_0)).trans hw551_0), ((HB.out.cell (World.block_lt_of_cell? w _ hw551_1)).trans hw551_1), ((HB.out.cell (World.block_lt_of_cell? w _ hw551_2)).trans hw551_2), ((HB.out.cell (World.block_lt_of_cell? w _ hw551_3)).trans hw551_3), ((HB.out.cell (World.block_lt_of_cell? w _ hw551_4)).trans hw551_4), ((HB.out.cell (World.block_lt_of_cell? w _ hw551_5)).trans hw551_5), ((HB.out.cell (World.block_lt_of_cell? w _ hw551_6)).trans hw551_6)⟩ (fun hHeld => ?_)
    clear hK K
    refine norm_ (a' := ?_) ?_ ?_
    rotate_left
    ·show Act.put _ (some 26) _ = _
     simp only [Act.put, List.setIfInBounds_toArray, List.set_cons_zero, List.set_cons_succ, i64_w, i32_w]
     rfl
    refine one_ (i := 7) (N := some 27) #[true, true, true, true, true, true, true, true, false] rfl rfl (one_of HT_.out (by kernel_rfl)) (by decide) (fun K hK => ?_)
    refine Kd.R_append_rows_step k48 (w0 := w) w.heap.size (by rfl) (.tmp 20) (.tmp 26) 38 48 (.agg #[(.int .i64 0), (.int .i64 0), (.int .i64 0), (.int .i64 0), (.int .i64 0), (.int .i64 0), (.int .i64 0)]) 56 rfl Tryd.underlying38 info48 rfl (by decide) (by omega) (.slice Ao9 x5_1.length co9) x5_1 t552 _ _ _ (fun k_ => some k_ ≠ (.slice Ao14 t552.length co14 : Value).ownBlock) (fun _ => False) rfl rfl ?aO ?aR (fun _ _ h => h) (fun _ h => h.elim) ?aF ?aB ?aS ?aL ?_
    (case aR => repeat (first | exact (Kd.R_reads' HO554.out).2.2 | (with_reducible refine Kd.C_alloc ?_ _) | (with_reducible refine Kd.C_drewN ?_ _) | (with_reducible refine Kd.C_drew ?_)))
    (case aB => exact aq3)
    (case aF => exact (fun k_ hk => Kd.fresh' (Kd.R_lt (by (with_reducible repeat (first | apply Kd.R_alloc | apply Kd.R_drewN | apply Kd.R_drew)); exact HO554.out)) k_ hk))
    (case aO => exact aq51)
    (case aS => exact (below_size aq3))
    (case aL => have := LMc8.out; omega)
    intro v556 w13 ho hb hg hat
    rw [← Ny555.out] at ho
    replace BK0 := Aside0.mk (blk_grown (g := gb0) (o := .cells #[.slice A1_0 l1_0.length c1_0, .slice A1_1 l1_1.length c1_1, .int .i64 a1_2, .int .i64 a1_3] 42 (0, 0)) aq5 hg (Kd.R_ne HO_5.out BK0.out (by decide)))
    replace HO550 := Aside0.mk (Kd.R_over' aq81 (Kd.R_typed aq8) (by decide) hg)
    replace HO554 := Aside0.mk (Kd.R_after (ok := (fun _ => True)) (by (with_reducible repeat (first | apply Kd.R_alloc | apply Kd.R_drewN | apply Kd.R_drew)); exact HO554.out) hg hat)
    replace HB := Aside0.mk (hb)
    have HO557 := Aside0.mk (ho)
    clear HO_5 ho hb hg hat
    refine hK.out _ _ ⟨(blk_cell BK0.out 0).trans rfl, (blk_cell BK0.out 1).trans rfl, (blk_cell BK0.out 2).trans rfl, (blk_cell BK0.out 3).trans rfl, ((HB.out.cell (World.block_lt_of_cell? w _ hw551_0)).trans hw551_0), ((HB.out.cell (World.block_lt_of_cell? w _ hw551_1)).trans hw551_1), ((HB.out.cell (World.block_lt_of_cell? w _ hw551_2)).trans hw551_2), ((HB.out.cell (World.block_lt_of_cell? w _ hw551_3)).trans hw551_3), ((HB.out.cell (World.block_lt_of_cell? w _ hw551_4)).trans hw551_4), ((HB.out.cell (World.block_lt_of_cell? w _ hw551_5)).trans hw551_5), ((HB.out.cell (World.block_lt_of_cell? w _ hw551_6)).trans hw551_6)⟩ (fun hHeld => ?_)
    clear hK K
    refine norm_ (a' := ?_) ?_ ?_
    rotate_left
    ·show Act.put _ (some 27) _ = _
     simp only [Act.put, List.setIfInBounds_toArray, List.set_cons_zero, List.set_cons_succ, i64_w, i32_w]
     rfl
    refine pz (i := 8) (N := some 5) (bz 9 511) rfl rfl ?_
    refine done_ (done_of HT_.out (by kernel_rfl)) ?_
    try go_wp2
    go_roundg k1
    case measure => have := HK1.out; omega
    case rel => exact ⟨(y555), (y548), (wrap64 (x7_1 + 1)), aq7, H', ⟨aq59⟩, ⟨by (with_reducible repeat (first | apply Kd.R_alloc | apply Kd.R_drewN | apply Kd.R_drew)); exact Kd.R_mono HO557.out (fun _ hk => trivial)⟩, ⟨aq81⟩, ⟨aq5⟩, ⟨aq3⟩⟩
   rw [if_neg c4] at H
   have c4b0 : decide (x7_1 < (l0.length : Int)) = false := decide_eq_false c4
   clear c4
   have H' := Aside0.mk H
   clear H
   go_wp2
   go_loopg [8] k1 (fun kq v8 w' => ∃ (x5_2 : List (S48)) (x8_2 : Int), v8 = .int .i64 x8_2 ∧ Aside0 (palingref22_Code.l1 kq x5_2 x6_1 x8_2 = some r) ∧ Aside0 (kq ≤ k1) ∧ Aside0 (Kd.R k48 48 w' w.heap.size (fun _ => True) u5 x5_2) ∧ Aside0 (Kd.R (Kd.int .i64) 3 w' w.heap.size (fun _ => True) u6 x6_1) ∧ Aside0 (w'.heap[gb0]? = some (.cells #[(.slice A1_0 l1_0.length c1_0), (.slice A1_1 l1_1.length c1_1), .int .i64 a1_2, .int .i64 a1_3] 42 (0, 0))) ∧ Aside0 (Below w.heap.size w w'))
   case atStart => exact ⟨(x5_1), (0), aq7, H', ⟨Nat.le_refl _⟩, ⟨aq8⟩, ⟨aq14⟩, ⟨aq5⟩, ⟨aq3⟩⟩
   case round =>
    clear H'
    obtain ⟨x5_2, x8_2, rfl, HA, HK2, HO_5, HO_6, BK0, HB⟩ := hrel
    cases gk with
    | zero => exact absurd HA.out (by simp [palingref22_Code.l1])
    | succ k2 =>
     have H := HA.out
     clear HA
     simp only [palingref22_Code.l1] at H
     by_cases c15 : x8_2 < (x5_2.length : Int)
     rotate_left
     ·rw [if_neg c15] at H
      have c15b0 : decide (x8_2 < (x5_2.length : Int)) = false := decide_eq_false c15
      clear c15
      obtain rfl := Option.some.inj H
      obtain ⟨Ao34, co34, eo34⟩ := Kd.R_slice HO_5.out
      subst eo34
      go_wp2
      go_ret
      exact ⟨_, aq13, aq8, aq3⟩
     rw [if_pos c15] at H
     have c15b0 : decide (x8_2 < (x5_2.length : Int)) = true := decide_eq_true c15
     clear c15
     by_cases c16 : 0 ≤ x8_2
     rotate_left
     ·rw [if_neg c16] at H
      exact absurd H (by simp)
     rw [if_pos c16] at H
     have c16b0 : decide (0 ≤ x8_2) = true := decide_eq_true c16
     clear c16
     by_cases c17 : ((rd_T48 x5_2 x8_2).f0) = 6
     ·rw [if_pos c17] at H
      have c17b0 : (((rd_T48 x5_2 x8_2).f0) == 6) = true := beq_iff_eq.mpr c17
      have c17b1 : (((rd_T48 x5_2 x8_2).f0) != 6) = false := bne_eq_false_iff_eq.mpr c17
      clear c17
      by_cases c18 : 0 ≤ ((rd_T48 x5_2 x8_2).f6)
      rotate_left
      ·rw [if_neg c18] at H
       exact absurd H (by simp)
      rw [if_pos c18] at H
      have c18b0 : decide (0 ≤ ((rd_T48 x5_2 x8_2).f6)) = true := decide_eq_true c18
      clear c18
      by_cases c19 : ((rd_T48 x5_2 x8_2).f6) < (x6_1.length : Int)
      rotate_left
      ·rw [if_neg c19] at H
       exact absurd H (by simp)
      rw [if_pos c19] at H
      have c19b0 : decide (((rd_T48 x5_2 x8_2).f6) < (x6_1.length : Int)) = true := decide_eq_true c19
      clear c19
      obtain ⟨y561, hy_⟩ : ∃ y_ : List (S48), y_ = (x5_2.set (x8_2 : Int).toNat (⟨(rd_T48 x5_2 x8_2).f0, (rd_T48 x5_2 x8_2).f1, (rd_T48 x5_2 x8_2).f2, (rd_T48 x5_2 x8_2).f3, (rd_T48 x5_2 x8_2).f4, (rd_T48 x5_2 x8_2).f5, rd x6_1 ((rd_T48 x5_2 x8_2).f6)⟩ : S48)) := ⟨_, rfl⟩
      replace H : (palingref22_Code.l1 k2 y561 x6_1 (wrap64 (x8_2 + 1))) = some r := aq1
      have Ny561 := Aside0.mk hy_
      clear hy_
      have H' := Aside0.mk H
      clear H
      obtain ⟨Ao21, co21, eo21⟩ := Kd.R_slice HO_5.out
      subst eo21
      have p558 : 0 ≤ (x8_2 : Int) := of_decide_eq_true aq2
      have q558 : x8_2 < (x5_2.length : Int) := of_decide_eq_true aq2
      obtain ⟨ad558, e558, hx558_0, hx558_1, hx558_2, hx558_3, hx558_4, hx558_5, hx558_6⟩ := at_T48 (Kd.R_reads' HO_5.out).2.2 x8_2 p558 q558
      cases e558
      replace p558 := eq_true p558
      replace q558 := eq_true q558
      have p559 : 0 ≤ (x8_2 : Int) := of_decide_eq_true aq2
      have q559 : x8_2 < (x5_2.length : Int) := of_decide_eq_true aq2
      obtain ⟨ad559, e559, hx559_0, hx559_1, hx559_2, hx559_3, hx559_4, hx559_5, hx559_6⟩ := at_T48 (Kd.R_reads' HO_5.out).2.2 x8_2 p559 q559
      obtain rfl : ad558 = ad559 := (by injection e559)
      replace p559 := eq_true p559
      replace q559 := eq_true q559
      obtain ⟨Ao22, co22, eo22⟩ := Kd.R_slice HO_6.out
      subst eo22
      have p560 : 0 ≤ (((rd_T48 x5_2 x8_2).f6) : Int) := of_decide_eq_true aq2
      have q560 : ((rd_T48 x5_2 x8_2).f6) < (x6_1.length : Int) := of_decide_eq_true aq2
      obtain ⟨ad560, e560, hx560_0⟩ := Kd.at_int (Kd.R_reads' HO_6.out).2.2 ((rd_T48 x5_2 x8_2).f6) p560 q560
      cases e560
      replace p560 := eq_true p560
      replace q560 := eq_true q560
      have p20 : 0 ≤ (x8_2 : Int) := of_decide_eq_true aq2
      have q20 : (x8_2 : Int) < ((x5_2.length : Int) : Int) := of_decide_eq_true aq2
      obtain ⟨go20, co20, eo20, gb1, gl20, cl20, HG20⟩ := Kd.R_form HO_5.out (by omega)
      (first | cases eo20 | (injection eo20 with ea_ en_ ec_; (first | subst ea_ | (injection ea_ with ea_; subst ea_)); subst ec_; clear en_))
      have GB20 := Aside0.mk gb1
      have GG20 := Aside0.mk HG20
      clear gb1 gl20 HG20
      (first | simp only [add_plain] at hx558_0 | skip)
      (first | simp only [add_plain] at hx558_1 | skip)
      (first | simp only [add_plain] at hx558_2 | skip)
      (first | simp only [add_plain] at hx558_3 | skip)
      (first | simp only [add_plain] at hx558_4 | skip)
      (first | simp only [add_plain] at hx558_5 | skip)
      (first | simp only [add_plain] at hx558_6 | skip)
      (first | simp only [add_plain] at hx559_0 | skip)
      (first | simp only [add_plain] at hx559_1 | skip)
      (first | simp only [add_plain] at hx559_2 | skip)
      (first | simp only [add_plain] at hx559_3 | skip)
      (first | simp only [add_plain] at hx559_4 | skip)
      (first | simp only [add_plain] at hx559_5 | skip)
      (first | simp only [add_plain] at hx559_6 | skip)
      obtain ⟨ce20, hcl20, hM20, hcc20, hfr20⟩ := Kd.R_elem HO_5.out z48 (x8_2 : Int) p20 q20
      obtain rfl := k48_openM hM20
      have hx20_0 : wr.cell? ⟨go20, (x8_2 : Int).toNat * 7, none⟩ = some (.int .i64 ((rd_T48 x5_2 x8_2).f0)) := hcc20 0 _ rfl
      have hx20_1 : wr.cell? ⟨go20, (x8_2 : Int).toNat * 7 + 1, none⟩ = some (.int .i64 ((rd_T48 x5_2 x8_2).f1)) := hcc20 1 _ rfl
      have hx20_2 : wr.cell? ⟨go20, (x8_2 : Int).toNat * 7 + 2, none⟩ = some (.int .i64 ((rd_T48 x5_2 x8_2).f2)) := hcc20 2 _ rfl
      have hx20_3 : wr.cell? ⟨go20, (x8_2 : Int).toNat * 7 + 3, none⟩ = some (.int .i64 ((rd_T48 x5_2 x8_2).f3)) := hcc20 3 _ rfl
      have hx20_4 : wr.cell? ⟨go20, (x8_2 : Int).toNat * 7 + 4, none⟩ = some (.int .i64 ((rd_T48 x5_2 x8_2).f4)) := hcc20 4 _ rfl
      have hx20_5 : wr.cell? ⟨go20, (x8_2 : Int).toNat * 7 + 5, none⟩ = some (.int .i64 ((rd_T48 x5_2 x8_2).f5)) := hcc20 5 _ rfl
      have hx20_6 : wr.cell? ⟨go20, (x8_2 : Int).toNat * 7 + 6, none⟩ = some (.int .i64 ((rd_T48 x5_2 x8_2).f6)) := hcc20 6 _ rfl
      have hf20_0 : wr.frozen? ⟨go20, (x8_2 : Int).toNat * 7, none⟩ = false := hfr20 0
      have hf20_1 : wr.frozen? ⟨go20, (x8_2 : Int).toNat * 7 + 1, none⟩ = false := hfr20 1
      have hf20_2 : wr.frozen? ⟨go20, (x8_2 : Int).toNat * 7 + 2, none⟩ = false := hfr20 2
      have hf20_3 : wr.frozen? ⟨go20, (x8_2 : Int).toNat * 7 + 3, none⟩ = false := hfr20 3
      have hf20_4 : wr.frozen? ⟨go20, (x8_2 : Int).toNat * 7 + 4, none⟩ = false := hfr20 4
      have hf20_5 : wr.frozen? ⟨go20, (x8_2 : Int).toNat * 7 + 5, none⟩ = false := hfr20 5
      have hf20_6 : wr.frozen? ⟨go20, (x8_2 : Int).toNat * 7 + 6, none⟩ = false := hfr20 6
      clear hcl20 hcc20 hfr20 hM20
      replace p20 := eq_true p20
      replace q20 := eq_true q20
      have HX23 := Aside0.mk (show Kd.R k48 48 wr w.heap.size (fun _ => True) (.slice (some ⟨go20, 0, none⟩) x5_2.length co21) x5_2 from aq8)
      obtain ⟨ce23, hcl23, hM23, hcc23, hfr23⟩ := Kd.R_elem HX23.out z48 (x8_2 : Int) (of_decide_eq_true aq2) (by have h_ : (x8_2 : Int) < ((x5_2.length : Int) : Int) := of_decide_eq_true aq2; first | exact h_ | (have e_ := (Kd.R_reads' HO_5.out).1; omega) | simpa using h_)
      obtain rfl := k48_openM hM23
      have HP23 := Kd.R_seg HX23.out (x8_2 : Int) (of_decide_eq_true aq2) (by have h_ : (x8_2 : Int) < ((x5_2.length : Int) : Int) := of_decide_eq_true aq2; first | exact h_ | (have e_ := (Kd.R_reads' HO_5.out).1; omega) | simpa using h_) (seg := [.int .i64 (rd x6_1 ((rd_T48 x5_2 x8_2).f6))]) (j := 6) hcl23 hcc23 (show 7 ≤ 7 from by decide) (x' := (⟨(rd_T48 x5_2 x8_2).f0, (rd_T48 x5_2 x8_2).f1, (rd_T48 x5_2 x8_2).f2, (rd_T48 x5_2 x8_2).f3, (rd_T48 x5_2 x8_2).f4, (rd_T48 x5_2 x8_2).f5, rd x6_1 ((rd_T48 x5_2 x8_2).f6)⟩ : S48)) (k48_mkM _ _ _ (⟨(rd_T48 x5_2 x8_2).f0, (rd_T48 x5_2 x8_2).f1, (rd_T48 x5_2 x8_2).f2, (rd_T48 x5_2 x8_2).f3, (rd_T48 x5_2 x8_2).f4, (rd_T48 x5_2 x8_2).f5, rd x6_1 ((rd_T48 x5_2 x8_2).f6)⟩ : S48) ) (fun _ hk => hk)
      have hx23_6 := hcc23 6 _ rfl
      (try simp only [show (k48).sz = 7 from rfl, Nat.mul_one, Nat.add_zero] at hx23_6)
      have hf23_6 := hfr23 6
      (try simp only [show (k48).sz = 7 from rfl, Nat.mul_one, Nat.add_zero] at hf23_6)
      clear hcl23 hcc23 hfr23 hM23
      go_wp2_with (first | ((with_reducible refine gate_store (t := 3) (p := 59) rfl ?_); refine store_event (t := 3) (p := 59) (v := ?vo_w24) (w1 := (wr.setCell ⟨go20, (x8_2 : Int).toNat * 7 + 6, none⟩ (.int .i64 (rd x6_1 ((rd_T48 x5_2 x8_2).f6))))) ?hg ?ho ?hn ?hr ?_; (case ho => rfl); (case hg => rfl); (case hn => rfl); (case hr => first | (go_simp; done) | (go_simp; rfl)); intro w24 hw; have hg : wr.grownBy w24 (some go20) := (by rw [hw]; exact HP23.2); have hp_ : Kd.R k48 48 w24 w.heap.size (fun _ => True) (.slice (some ⟨go20, 0, none⟩) x5_2.length co21) y561 := (by rw [hw, Ny561.out]; exact HP23.1); clear HP23; replace HO_6 := Aside0.mk (Kd.R_over' (v := (.slice (some ⟨go20, 0, none⟩) x5_2.length co21)) aq14 (Kd.R_typed HO_5.out) (by decide) hg); replace BK0 := Aside0.mk (blk_grown (g := gb0) (o := .cells #[.slice A1_0 l1_0.length c1_0, .slice A1_1 l1_1.length c1_1, .int .i64 a1_2, .int .i64 a1_3] 42 (0, 0)) aq5 hg (Kd.R_ne HO_5.out BK0.out (by decide))); replace HO_5 := Aside0.mk (hp_); replace HB := Aside0.mk ((by rw [hw]; exact below_set (HB.out) GB20.out : Below w.heap.size w w24)); clear hg hw hp_))
      go_roundg k2
      case measure => have := HK1.out; have := HK2.out; omega
      case rel => exact ⟨(y561), (wrap64 (x8_2 + 1)), aq7, H', ⟨aq47⟩, ⟨aq8⟩, ⟨aq14⟩, ⟨aq5⟩, ⟨aq3⟩⟩
     rw [if_neg c17] at H
     have c17b0 : (((rd_T48 x5_2 x8_2).f0) == 6) = false := beq_eq_false_iff_ne.mpr c17
     have c17b1 : (((rd_T48 x5_2 x8_2).f0) != 6) = true := bne_iff_ne.mpr c17
     by_cases c25 : ((rd_T48 x5_2 x8_2).f0) = 7
     rotate_left
     ·rw [if_neg c25] at H
      have c25b0 : (((rd_T48 x5_2 x8_2).f0) == 7) = false := beq_eq_false_iff_ne.mpr c25
      have c25b1 : (((rd_T48 x5_2 x8_2).f0) != 7) = true := bne_iff_ne.mpr c25
      have H' := Aside0.mk H
      clear H
      obtain ⟨Ao33, co33, eo33⟩ := Kd.R_slice HO_5.out
      subst eo33
      have p558 : 0 ≤ (x8_2 : Int) := of_decide_eq_true aq2
      have q558 : x8_2 < (x5_2.length : Int) := of_decide_eq_true aq2
      obtain ⟨ad558, e558, hx558_0, hx558_1, hx558_2, hx558_3, hx558_4, hx558_5, hx558_6⟩ := at_T48 (Kd.R_reads' HO_5.out).2.2 x8_2 p558 q558
      cases e558
      replace p558 := eq_true p558
      replace q558 := eq_true q558
      have p562 : 0 ≤ (x8_2 : Int) := of_decide_eq_true aq2
      have q562 : x8_2 < (x5_2.length : Int) := of_decide_eq_true aq2
      obtain ⟨ad562, e562, hx562_0, hx562_1, hx562_2, hx562_3, hx562_4, hx562_5, hx562_6⟩ := at_T48 (Kd.R_reads' HO_5.out).2.2 x8_2 p562 q562
      obtain rfl : ad558 = ad562 := (by injection e562)
      replace p562 := eq_true p562
      replace q562 := eq_true q562
      go_wp2
      go_roundg k2
      case measure => have := HK1.out; have := HK2.out; omega
      case rel => exact ⟨(x5_2), (wrap64 (x8_2 + 1)), aq7, H', ⟨aq47⟩, ⟨aq8⟩, ⟨aq14⟩, ⟨aq5⟩, ⟨aq3⟩⟩
     rw [if_pos c25] at H
     have c25b0 : (((rd_T48 x5_2 x8_2).f0) == 7) = true := beq_iff_eq.mpr c25
     have c25b1 : (((rd_T48 x5_2 x8_2).f0) != 7) = false := bne_eq_false_iff_eq.mpr c25
     clear c25
     by_cases c26 : 0 ≤ ((rd_T48 x5_2 x8_2).f6)
     rotate_left
     ·rw [if_neg c26] at H
      exact absurd H (by simp)
     rw [if_pos c26] at H
     have c26b0 : decide (0 ≤ ((rd_T48 x5_2 x8_2).f6)) = true := decide_eq_true c26
     clear c26
     by_cases c27 : ((rd_T48 x5_2 x8_2).f6) < (x6_1.length : Int)
     rotate_left
     ·rw [if_neg c27] at H
      exact absurd H (by simp)
     rw [if_pos c27] at H
     have c27b0 : decide (((rd_T48 x5_2 x8_2).f6) < (x6_1.length : Int)) = true := decide_eq_true c27
     clear c27
     obtain ⟨y565, hy_⟩ : ∃ y_ : List (S48), y_ = (x5_2.set (x8_2 : Int).toNat (⟨(rd_T48 x5_2 x8_2).f0, (rd_T48 x5_2 x8_2).f1, (rd_T48 x5_2 x8_2).f2, (rd_T48 x5_2 x8_2).f3, (rd_T48 x5_2 x8_2).f4, (rd_T48 x5_2 x8_2).f5, rd x6_1 ((rd_T48 x5_2 x8_2).f6)⟩ : S48)) := ⟨_, rfl⟩
     replace H : (palingref22_Code.l1 k2 y565 x6_1 (wrap64 (x8_2 + 1))) = some r := aq1
     have Ny565 := Aside0.mk hy_
     clear hy_
     have H' := Aside0.mk H
     clear H
     obtain ⟨Ao29, co29, eo29⟩ := Kd.R_slice HO_5.out
     subst eo29
     have p558 : 0 ≤ (x8_2 : Int) := of_decide_eq_true aq2
     have q558 : x8_2 < (x5_2.length : Int) := of_decide_eq_true aq2
     obtain ⟨ad558, e558, hx558_0, hx558_1, hx558_2, hx558_3, hx558_4, hx558_5, hx558_6⟩ := at_T48 (Kd.R_reads' HO_5.out).2.2 x8_2 p558 q558
     cases e558
     replace p558 := eq_true p558
     replace q558 := eq_true q558
     have p562 : 0 ≤ (x8_2 : Int) := of_decide_eq_true aq2
     have q562 : x8_2 < (x5_2.length : Int) := of_decide_eq_true aq2
     obtain ⟨ad562, e562, hx562_0, hx562_1, hx562_2, hx562_3, hx562_4, hx562_5, hx562_6⟩ := at_T48 (Kd.R_reads' HO_5.out).2.2 x8_2 p562 q562
     obtain rfl : ad558 = ad562 := (by injection e562)
     replace p562 := eq_true p562
     replace q562 := eq_true q562
     have p563 : 0 ≤ (x8_2 : Int) := of_decide_eq_true aq2
     have q563 : x8_2 < (x5_2.length : Int) := of_decide_eq_true aq2
     obtain ⟨ad563, e563, hx563_0, hx563_1, hx563_2, hx563_3, hx563_4, hx563_5, hx563_6⟩ := at_T48 (Kd.R_reads' HO_5.out).2.2 x8_2 p563 q563
     obtain rfl : ad558 = ad563 := (by injection e563)
     replace p563 := eq_true p563
     replace q563 := eq_true q563
     obtain ⟨Ao30, co30, eo30⟩ := Kd.R_slice HO_6.out
     subst eo30
     have p564 : 0 ≤ (((rd_T48 x5_2 x8_2).f6) : Int) := of_decide_eq_true aq2
     have q564 : ((rd_T48 x5_2 x8_2).f6) < (x6_1.length : Int) := of_decide_eq_true aq2
     obtain ⟨ad564, e564, hx564_0⟩ := Kd.at_int (Kd.R_reads' HO_6.out).2.2 ((rd_T48 x5_2 x8_2).f6) p564 q564
     cases e564
     replace p564 := eq_true p564
     replace q564 := eq_true q564
     have p28 : 0 ≤ (x8_2 : Int) := of_decide_eq_true aq2
     have q28 : (x8_2 : Int) < ((x5_2.length : Int) : Int) := of_decide_eq_true aq2
     obtain ⟨go28, co28, eo28, gb2, gl28, cl28, HG28⟩ := Kd.R_form HO_5.out (by omega)
     (first | cases eo28 | (injection eo28 with ea_ en_ ec_; (first | subst ea_ | (injection ea_ with ea_; subst ea_)); subst ec_; clear en_))
     have GB28 := Aside0.mk gb2
     have GG28 := Aside0.mk HG28
     clear gb2 gl28 HG28
     (first | simp only [add_plain] at hx558_0 | skip)
     (first | simp only [add_plain] at hx558_1 | skip)
     (first | simp only [add_plain] at hx558_2 | skip)
     (first | simp only [add_plain] at hx558_3 | skip)
     (first | simp only [add_plain] at hx558_4 | skip)
     (first | simp only [add_plain] at hx558_5 | skip)
     (first | simp only [add_plain] at hx558_6 | skip)
     (first | simp only [add_plain] at hx562_0 | skip)
     (first | simp only [add_plain] at hx562_1 | skip)
     (first | simp only [add_plain] at hx562_2 | skip)
     (first | simp only [add_plain] at hx562_3 | skip)
     (first | simp only [add_plain] at hx562_4 | skip)
     (first | simp only [add_plain] at hx562_5 | skip)
     (first | simp only [add_plain] at hx562_6 | skip)
     (first | simp only [add_plain] at hx563_0 | skip)
     (first | simp only [add_plain] at hx563_1 | skip)
     (first | simp only [add_plain] at hx563_2 | skip)
     (first | simp only [add_plain] at hx563_3 | skip)
     (first | simp only [add_plain] at hx563_4 | skip)
     (first | simp only [add_plain] at hx563_5 | skip)
     (first | simp only [add_plain] at hx563_6 | skip)
     obtain ⟨ce28, hcl28, hM28, hcc28, hfr28⟩ := Kd.R_elem HO_5.out z48 (x8_2 : Int) p28 q28
     obtain rfl := k48_openM hM28
     have hx28_0 : wr.cell? ⟨go28, (x8_2 : Int).toNat * 7, none⟩ = some (.int .i64 ((rd_T48 x5_2 x8_2).f0)) := hcc28 0 _ rfl
     have hx28_1 : wr.cell? ⟨go28, (x8_2 : Int).toNat * 7 + 1, none⟩ = some (.int .i64 ((rd_T48 x5_2 x8_2).f1)) := hcc28 1 _ rfl
     have hx28_2 : wr.cell? ⟨go28, (x8_2 : Int).toNat * 7 + 2, none⟩ = some (.int .i64 ((rd_T48 x5_2 x8_2).f2)) := hcc28 2 _ rfl
     have hx28_3 : wr.cell? ⟨go28, (x8_2 : Int).toNat * 7 + 3, none⟩ = some (.int .i64 ((rd_T48 x5_2 x8_2).f3)) := hcc28 3 _ rfl
     have hx28_4 : wr.cell? ⟨go28, (x8_2 : Int).toNat * 7 + 4, none⟩ = some (.int .i64 ((rd_T48 x5_2 x8_2).f4)) := hcc28 4 _ rfl
     have hx28_5 : wr.cell? ⟨go28, (x8_2 : Int).toNat * 7 + 5, none⟩ = some (.int .i64 ((rd_T48 x5_2 x8_2).f5)) := hcc28 5 _ rfl
     have hx28_6 : wr.cell? ⟨go28, (x8_2 : Int).toNat * 7 + 6, none⟩ = some (.int .i64 ((rd_T48 x5_2 x8_2).f6)) := hcc28 6 _ rfl
     have hf28_0 : wr.frozen? ⟨go28, (x8_2 : Int).toNat * 7, none⟩ = false := hfr28 0
     have hf28_1 : wr.frozen? ⟨go28, (x8_2 : Int).toNat * 7 + 1, none⟩ = false := hfr28 1
     have hf28_2 : wr.frozen? ⟨go28, (x8_2 : Int).toNat * 7 + 2, none⟩ = false := hfr28 2
     have hf28_3 : wr.frozen? ⟨go28, (x8_2 : Int).toNat * 7 + 3, none⟩ = false := hfr28 3
     have hf28_4 : wr.frozen? ⟨go28, (x8_2 : Int).toNat * 7 + 4, none⟩ = false := hfr28 4
     have hf28_5 : wr.frozen? ⟨go28, (x8_2 : Int).toNat * 7 + 5, none⟩ = false := hfr28 5
     have hf28_6 : wr.frozen? ⟨go28, (x8_2 : Int).toNat * 7 + 6, none⟩ = false := hfr28 6
     clear hcl28 hcc28 hfr28 hM28
     replace p28 := eq_true p28
     replace q28 := eq_true q28
     have HX31 := Aside0.mk (show Kd.R k48 48 wr w.heap.size (fun _ => True) (.slice (some ⟨go28, 0, none⟩) x5_2.length co29) x5_2 from aq8)
     obtain ⟨ce31, hcl31, hM31, hcc31, hfr31⟩ := Kd.R_elem HX31.out z48 (x8_2 : Int) (of_decide_eq_true aq2) (by have h_ : (x8_2 : Int) < ((x5_2.length : Int) : Int) := of_decide_eq_true aq2; first | exact h_ | (have e_ := (Kd.R_reads' HO_5.out).1; omega) | simpa using h_)
     obtain rfl := k48_openM hM31
     have HP31 := Kd.R_seg HX31.out (x8_2 : Int) (of_decide_eq_true aq2) (by have h_ : (x8_2 : Int) < ((x5_2.length : Int) : Int) := of_decide_eq_true aq2; first | exact h_ | (have e_ := (Kd.R_reads' HO_5.out).1; omega) | simpa using h_) (seg := [.int .i64 (rd x6_1 ((rd_T48 x5_2 x8_2).f6))]) (j := 6) hcl31 hcc31 (show 7 ≤ 7 from by decide) (x' := (⟨(rd_T48 x5_2 x8_2).f0, (rd_T48 x5_2 x8_2).f1, (rd_T48 x5_2 x8_2).f2, (rd_T48 x5_2 x8_2).f3, (rd_T48 x5_2 x8_2).f4, (rd_T48 x5_2 x8_2).f5, rd x6_1 ((rd_T48 x5_2 x8_2).f6)⟩ : S48)) (k48_mkM _ _ _ (⟨(rd_T48 x5_2 x8_2).f0, (rd_T48 x5_2 x8_2).f1, (rd_T48 x5_2 x8_2).f2, (rd_T48 x5_2 x8_2).f3, (rd_T48 x5_2 x8_2).f4, (rd_T48 x5_2 x8_2).f5, rd x6_1 ((rd_T48 x5_2 x8_2).f6)⟩ : S48) ) (fun _ hk => hk)
     have hx31_6 := hcc31 6 _ rfl
     (try simp only [show (k48).sz = 7 from rfl, Nat.mul_one, Nat.add_zero] at hx31_6)
     have hf31_6 := hfr31 6
     (try simp only [show (k48).sz = 7 from rfl, Nat.mul_one, Nat.add_zero] at hf31_6)
     clear hcl31 hcc31 hfr31 hM31
     go_wp2_with (first | ((with_reducible refine gate_store (t := 3) (p := 59) rfl ?_); refine store_event (t := 3) (p := 59) (v := ?vo_w32) (w1 := (wr.setCell ⟨go28, (x8_2 : Int).toNat * 7 + 6, none⟩ (.int .i64 (rd x6_1 ((rd_T48 x5_2 x8_2).f6))))) ?hg ?ho ?hn ?hr ?_; (case ho => rfl); (case hg => rfl); (case hn => rfl); (case hr => first | (go_simp; done) | (go_simp; rfl)); intro w32 hw; have hg : wr.grownBy w32 (some go28) := (by rw [hw]; exact HP31.2); have hp_ : Kd.R k48 48 w32 w.heap.size (fun _ => True) (.slice (some ⟨go28, 0, none⟩) x5_2.length co29) y565 := (by rw [hw, Ny565.out]; exact HP31.1); clear HP31; replace HO_6 := Aside0.mk (Kd.R_over' (v := (.slice (some ⟨go28, 0, none⟩) x5_2.length co29)) aq14 (Kd.R_typed HO_5.out) (by decide) hg); replace BK0 := Aside0.mk (blk_grown (g := gb0) (o := .cells #[.slice A1_0 l1_0.length c1_0, .slice A1_1 l1_1.length c1_1, .int .i64 a1_2, .int .i64 a1_3] 42 (0, 0)) aq5 hg (Kd.R_ne HO_5.out BK0.out (by decide))); replace HO_5 := Aside0.mk (hp_); replace HB := Aside0.mk ((by rw [hw]; exact below_set (HB.out) GB28.out : Below w.heap.size w w32)); clear hg hw hp_))
     go_roundg k2
     case measure => have := HK1.out; have := HK2.out; omega
     case rel => exact ⟨(y565), (wrap64 (x8_2 + 1)), aq7, H', ⟨aq47⟩, ⟨aq8⟩, ⟨aq14⟩, ⟨aq5⟩, ⟨aq3⟩⟩
end Go.Proofs.YtpbhfpbfmpocdaaDoor.PSpillTells
