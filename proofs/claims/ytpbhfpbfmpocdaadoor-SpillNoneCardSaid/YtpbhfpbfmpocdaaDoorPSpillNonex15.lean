-- Written by print2.py over the kit's printer. Not trusted: Lean checks it.
import Derived.Test.YtpbhfpbfmpocdaaDoorPSpillNonehqq
import Derived.Test.YtpbhfpbfmpocdaaDoorPSpillNonex0
namespace Go.Proofs.YtpbhfpbfmpocdaaDoor.PSpillNone
open Go.RowKit Go.Proofs.YtpbhfpbfmpocdaaDoorW.PrintWords Go.Proofs.YtpbhfpbfmpocdaaDoorW.PrintLast Go.Proofs.YtpbhfpbfmpocdaaDoorW.PrintMore
attribute [local go_sem] max2_int min2_int max_two min_two max_three min_three max_four min_four   -- for this text's walks alone
set_option linter.unusedVariables false
set_option linter.unusedSimpArgs false

/-! ### palinglaw22_places: function 9 -/
def palinglaw22_places.l0 : Nat → List (S57) → List (S45) → Int → Option ((List (S45)))
  | 0, _, _, _ => none
  | k + 1, x0, x3, x4 => if x4 < (x0.length : Int) then (if 0 ≤ x4 then (if x3.length < 8796093022208 then (palinglaw22_places.l0 k x0 (x3 ++ [(⟨(rd_T57 x0 x4).f0, (rd_T57 x0 x4).f1⟩ : S45)]) (wrap64 (x4 + 1))) else (none)) else (none)) else (some x3)
def palinglaw22_places.f (k : Nat) (l0 : List (S57)) : Option ((List (S45))) := palinglaw22_places.l0 k l0 ([] : List (S45)) 0
theorem palinglaw22_places.mono_l : ∀ k, (∀ y0 y1 y2, LeO (palinglaw22_places.l0 k y0 y1 y2) (palinglaw22_places.l0 (k + 1) y0 y1 y2))
  | 0 => fun _ _ _ r h => by simp [palinglaw22_places.l0] at h
  | k + 1 => by
    have ih0 := palinglaw22_places.mono_l k
    intros <;> unfold palinglaw22_places.l0 <;> repeat' (first | (with_reducible first | exact ih0 _ _ _ | exact LeO.refl _ | exact LeO.none _ | refine LeO.ite ?_ ?_ | refine LeO.bind ?_ (fun _ => ?_)) | exact ih0 _ _ _ | exact LeO.none _ | refine LeO.ite ?_ ?_ | refine LeO.bind ?_ (fun _ => ?_))
theorem palinglaw22_places.mono : ∀ a0 k, LeO (palinglaw22_places.f k a0) (palinglaw22_places.f (k + 1) a0) := by
 intro a0 k
 have ih0 := palinglaw22_places.mono_l k
 unfold palinglaw22_places.f
 repeat' (first | (with_reducible first | exact ih0 _ _ _ | exact LeO.refl _ | exact LeO.none _ | refine LeO.ite ?_ ?_ | refine LeO.bind ?_ (fun _ => ?_)) | exact ih0 _ _ _ | exact LeO.none _ | refine LeO.ite ?_ ?_ | refine LeO.bind ?_ (fun _ => ?_))
def palinglaw22_places.T5 : Bool × List (List Nat × List Nat) := (true, [([], []), ([], []), ([], []), ([1, 2], [1, 2]), ([3], [3]), ([4], [4]), ([], []), ([], []), ([6, 7], [6, 7]), ([8], [8]), ([9], [9]), ([5, 10], [5, 10]), ([11], [11]), ([0, 12], [0, 12]), ([13, 13, 0, 1, 2, 3, 4, 5, 6, 7, 8, 9, 10, 11, 12, 13], [0, 13])])
def palinglaw22_places.B5 : List Nat := [0, 0, 0, 6, 14, 30, 0, 0, 192, 448, 960, 2046, 4094, 8191, 16383]
theorem palinglaw22_places.tab5 : rtab .any (opsOf Tryd.f9 5) = palinglaw22_places.T5 := by kernel_rfl
theorem palinglaw22_places.bits5 : waitsOk palinglaw22_places.T5.2 palinglaw22_places.B5 = true := by kernel_rfl
set_option maxHeartbeats 8000000 in
set_option maxRecDepth 100000 in
theorem palinglaw22_places.calls (k : Nat) (A0 : Option Addr) (c0 : Nat) (l0 : List (S57)) (r : List (S45)) (w : World) (hr0 : Kd.C k57 w A0 l0.length l0) (hc0 : l0.length ≤ c0) (h : palinglaw22_places.f k l0 = some r) :
    Calls Tryd.prog 9 #[.slice A0 l0.length c0] w fun e w' => ∃ v0_ : Value, e = .returned (v0_) ∧ Kd.R k45 45 w' w.heap.size (fun _ => True) v0_ r ∧ Below w.heap.size w w' := by
 have hu45 := Tryd.underlying45
 have HR0 := Aside0.mk hr0
 have HC0 := Aside0.mk hc0
 clear hr0 hc0
 have HB := Aside0.mk (Below.refl w.heap.size w)
 have H : (palinglaw22_places.l0 k l0 ([] : List (S45)) 0) = some r := h
 clear h
 have H' := Aside0.mk H
 clear H
 go_enter Tryd.func9, Tryd.ntmps9
 go_wp2
 go_loopg [3, 4] k (fun kq v3 v4 w' => ∃ (x3_1 : List (S45)) (x4_1 : Int), v4 = .int .i64 x4_1 ∧ Aside0 (palinglaw22_places.l0 kq l0 x3_1 x4_1 = some r) ∧ Aside0 (kq ≤ k) ∧ Aside0 (Kd.R k45 45 w' w.heap.size (fun _ => True) v3 x3_1) ∧ Aside0 (Below w.heap.size w w'))
 case atStart => exact ⟨(([] : List (S45))), (0), aq7, H', ⟨Nat.le_refl _⟩, ⟨aq22⟩, ⟨aq0⟩⟩
 case round =>
  clear H'
  obtain ⟨x3_1, x4_1, rfl, HA, HK1, HO_3, HB⟩ := hrel
  cases gk with
  | zero => exact absurd HA.out (by simp [palinglaw22_places.l0])
  | succ k1 =>
   have H := HA.out
   clear HA
   simp only [palinglaw22_places.l0] at H
   by_cases c2 : x4_1 < (l0.length : Int)
   rotate_left
   ·rw [if_neg c2] at H
    have c2b0 : decide (x4_1 < (l0.length : Int)) = false := decide_eq_false c2
    clear c2
    obtain rfl := Option.some.inj H
    go_wp2
    go_ret
    exact ⟨_, aq13, aq6, aq0⟩
   rw [if_pos c2] at H
   have c2b0 : decide (x4_1 < (l0.length : Int)) = true := decide_eq_true c2
   clear c2
   by_cases c3 : 0 ≤ x4_1
   rotate_left
   ·rw [if_neg c3] at H
    exact absurd H (by simp)
   rw [if_pos c3] at H
   have c3b0 : decide (0 ≤ x4_1) = true := decide_eq_true c3
   clear c3
   by_cases c4 : x3_1.length < 8796093022208
   rotate_left
   ·rw [if_neg c4] at H
    exact absurd H (by simp)
   rw [if_pos c4] at H
   have LMc4 := Aside0.mk c4
   clear c4
   obtain ⟨y483, hy_⟩ : ∃ y_ : List (S45), y_ = (x3_1 ++ [(⟨(rd_T57 l0 x4_1).f0, (rd_T57 l0 x4_1).f1⟩ : S45)]) := ⟨_, rfl⟩
   replace H : (palinglaw22_places.l0 k1 l0 y483 (wrap64 (x4_1 + 1))) = some r := aq3
   have Ny483 := Aside0.mk hy_
   clear hy_
   have H' := Aside0.mk H
   clear H
   try go_wp2
   replace HO_3 := Aside0.mk (Kd.R_drew HO_3.out)
   replace HB := Aside0.mk (below_drew1 HB.out)
   have p481 : 0 ≤ (x4_1 : Int) := of_decide_eq_true aq2
   have q481 : x4_1 < (l0.length : Int) := of_decide_eq_true aq2
   obtain ⟨ad481, e481, hx481_0, hx481_1⟩ := at_T57 HR0.out x4_1 p481 q481
   have hw481_1 := hx481_1
   have hw481_0 := hx481_0
   cases e481
   replace hx481_0 := (HB.out.cell (World.block_lt_of_cell? w _ hx481_0)).trans hx481_0
   replace hx481_1 := (HB.out.cell (World.block_lt_of_cell? w _ hx481_1)).trans hx481_1
   replace p481 := eq_true p481
   replace q481 := eq_true q481
   have p482 : 0 ≤ (x4_1 : Int) := of_decide_eq_true aq2
   have q482 : x4_1 < (l0.length : Int) := of_decide_eq_true aq2
   obtain ⟨ad482, e482, hx482_0, hx482_1⟩ := at_T57 HR0.out x4_1 p482 q482
   have hw482_1 := hx482_1
   have hw482_0 := hx482_0
   obtain rfl : ad481 = ad482 := (by injection e482)
   replace hx482_0 := (HB.out.cell (World.block_lt_of_cell? w _ hx482_0)).trans hx482_0
   replace hx482_1 := (HB.out.cell (World.block_lt_of_cell? w _ hx482_1)).trans hx482_1
   replace p482 := eq_true p482
   replace q482 := eq_true q482
   refine start_ (n := 15) (S := fun w' => w'.cell? (ad481.add ((x4_1).toNat * 2)) = some (.int .i64 ((rd_T57 l0 x4_1).f0)) ∧ w'.cell? ⟨(ad481.add ((x4_1).toNat * 2)).block, (ad481.add ((x4_1).toNat * 2)).off + 1, none⟩ = some (.int .i64 ((rd_T57 l0 x4_1).f1)) ∧ w'.cell? (ad481.add ((x4_1).toNat * 2)) = some (.int .i64 ((rd_T57 l0 x4_1).f0)) ∧ w'.cell? ⟨(ad481.add ((x4_1).toNat * 2)).block, (ad481.add ((x4_1).toNat * 2)).off + 1, none⟩ = some (.int .i64 ((rd_T57 l0 x4_1).f1))) (ds := []) #[false, false, false, false, false, false, false, false, false, false, false, false, false, false, false] (by kernel_rfl) rfl rfl ⟨((HB.out.cell (World.block_lt_of_cell? w _ hw481_0)).trans hw481_0), ((HB.out.cell (World.block_lt_of_cell? w _ hw481_1)).trans hw481_1), ((HB.out.cell (World.block_lt_of_cell? w _ hw482_0)).trans hw482_0), ((HB.out.cell (World.block_lt_of_cell? w _ hw482_1)).trans hw482_1)⟩ (fun hHeld => ?_); refine with_tabW palinglaw22_places.tab5 palinglaw22_places.bits5 (fun HT_ HW_ => ?_)
   generalize wr.drew = w5 at HO_3 HB hx481_0 hx481_1 hx482_0 hx482_1 hHeld ⊢
   refine pz (i := 0) (N := some 11) (bz 15 1) rfl rfl ?_
   refine pz (i := 1) (N := some 12) (bz 15 3) rfl rfl ?_
   refine pz (i := 2) (N := some 13) (bz 15 7) rfl rfl ?_
   refine pz (i := 3) (N := some 14) (bz 15 15) rfl rfl ?_
   refine pz (i := 4) (N := some 15) (bz 15 31) rfl rfl ?_
   refine pz (i := 6) (N := some 17) (bz 15 95) rfl rfl ?_
   refine pz (i := 7) (N := some 18) (bz 15 223) rfl rfl ?_
   refine pz (i := 8) (N := some 19) (bz 15 479) rfl rfl ?_
   refine pz (i := 9) (N := some 20) (bz 15 991) rfl rfl ?_
   refine tz4 (i := 5) (N := some 16) (bz 15 1023) rfl rfl hHeld ?_
   refine tz4 (i := 10) (N := some 21) (bz 15 2047) rfl rfl hHeld ?_
   refine pz (i := 11) (N := some 22) (bz 15 4095) rfl rfl ?_
   refine one_ (i := 12) (N := some 23) #[true, true, true, true, true, true, true, true, true, true, true, true, true, false, false] rfl rfl (one_of HT_.out (by kernel_rfl)) (by decide) (fun K hK => ?_)
   refine value_ (w1 := ?_) (v := ?_) (by rfl) rfl ?_ ?_
   rotate_left 2
   ·go_simp
    constructor
    ·rfl
    ·rfl
   refine hK.out _ _ ⟨(World.cell?_alloc_lt _ _ _ (World.block_lt_of_cell? _ _ (((HB.out.cell (World.block_lt_of_cell? w _ hw481_0)).trans hw481_0)))).trans (((HB.out.cell (World.block_lt_of_cell? w _ hw481_0)).trans hw481_0)), (World.cell?_alloc_lt _ _ _ (World.block_lt_of_cell? _ _ (((HB.out.cell (World.block_lt_of_cell? w _ hw481_1)).trans hw481_1)))).trans (((HB.out.cell (World.block_lt_of_cell? w _ hw481_1)).trans hw481_1)), (World.cell?_alloc_lt _ _ _ (World.block_lt_of_cell? _ _ (((HB.out.cell (World.block_lt_of_cell? w _ hw482_0)).trans hw482_0)))).trans (((HB.out.cell (World.block_lt_of_cell? w _ hw482_0)).trans hw482_0)), (World.cell?_alloc_lt _ _ _ (World.block_lt_of_cell? _ _ (((HB.out.cell (World.block_lt_of_cell? w _ hw482_1)).trans hw482_1)))).trans (((HB.out.cell (World.block_lt_of_cell? w _ hw482_1)).trans hw482_1))⟩ (fun hHeld => ?_)
   clear hK K
   refine norm_ (a' := ?_) ?_ ?_
   rotate_left
   ·show Act.put _ (some 23) _ = _
    simp only [Act.put, List.setIfInBounds_toArray, List.set_cons_zero, List.set_cons_succ, i64_w, i32_w]
    rfl
   refine one_ (i := 13) (N := some 24) #[true, true, true, true, true, true, true, true, true, true, true, true, true, true, false] rfl rfl (one_of HT_.out (by kernel_rfl)) (by decide) (fun K hK => ?_)
   refine Kd.R_append_step k45 (w0 := w) w.heap.size (by rfl) (.tmp 11) (.tmp 23) 28 45 (.agg #[(.int .i64 0), (.int .i64 0)]) 16 rfl Tryd.underlying28 info45 rfl (by decide) (by omega) u3 x3_1 (⟨(rd_T57 l0 x4_1).f0, (rd_T57 l0 x4_1).f1⟩ : S45) [.int .i64 ((rd_T57 l0 x4_1).f0), .int .i64 ((rd_T57 l0 x4_1).f1)] (fun _ => True) (fun _ => False) rfl rfl ?aP (fun _ hk => hk.elim) ?aF ?aO ?aB ?aS ?aL ?_
   (case aP => exact k45_mkM _ _ _ (⟨(rd_T57 l0 x4_1).f0, (rd_T57 l0 x4_1).f1⟩ : S45))
   (case aB => exact aq0)
   (case aF => exact (fun _ _ => trivial))
   (case aO => exact aq6)
   (case aS => exact (below_size aq0))
   (case aL => have := LMc4.out; omega)
   intro v484 w6 ho hb hg hat
   rw [← Ny483.out] at ho
   replace HB := Aside0.mk (hb)
   have HO485 := Aside0.mk (ho)
   clear HO_3 ho hb hg hat
   refine hK.out _ _ ⟨((HB.out.cell (World.block_lt_of_cell? w _ hw481_0)).trans hw481_0), ((HB.out.cell (World.block_lt_of_cell? w _ hw481_1)).trans hw481_1), ((HB.out.cell (World.block_lt_of_cell? w _ hw482_0)).trans hw482_0), ((HB.out.cell (World.block_lt_of_cell? w _ hw482_1)).trans hw482_1)⟩ (fun hHeld => ?_)
   clear hK K
   refine norm_ (a' := ?_) ?_ ?_
   rotate_left
   ·show Act.put _ (some 24) _ = _
    simp only [Act.put, List.setIfInBounds_toArray, List.set_cons_zero, List.set_cons_succ, i64_w, i32_w]
    rfl
   refine pz (i := 14) (N := some 3) (bz 15 32767) rfl rfl ?_
   refine done_ (done_of HT_.out (by kernel_rfl)) ?_
   try go_wp2
   go_roundg k1
   case measure => have := HK1.out; omega
   case rel => exact ⟨(y483), (wrap64 (x4_1 + 1)), aq7, H', ⟨aq55⟩, ⟨by (with_reducible repeat (first | apply Kd.R_alloc | apply Kd.R_drewN | apply Kd.R_drew)); exact HO485.out⟩, ⟨aq0⟩⟩
/-! ### palingref22_has: function 24 -/
def palingref22_has.l0 : Nat → List Int → Int → Int → Option (Bool)
  | 0, _, _, _ => none
  | k + 1, x0, x1, x5 => if x5 < (x0.length : Int) then (if 0 ≤ x5 then (if (rd x0 x5) = x1 then (some true) else (palingref22_has.l0 k x0 x1 (wrap64 (x5 + 1)))) else (none)) else (some false)
def palingref22_has.f (k : Nat) (l0 : List Int) (a1 : Int) : Option (Bool) := palingref22_has.l0 k l0 a1 0
theorem palingref22_has.mono_l : ∀ k, (∀ y0 y1 y2, LeO (palingref22_has.l0 k y0 y1 y2) (palingref22_has.l0 (k + 1) y0 y1 y2))
  | 0 => fun _ _ _ r h => by simp [palingref22_has.l0] at h
  | k + 1 => by
    have ih0 := palingref22_has.mono_l k
    intros <;> unfold palingref22_has.l0 <;> repeat' (first | (with_reducible first | exact ih0 _ _ _ | exact LeO.refl _ | exact LeO.none _ | refine LeO.ite ?_ ?_ | refine LeO.bind ?_ (fun _ => ?_)) | exact ih0 _ _ _ | exact LeO.none _ | refine LeO.ite ?_ ?_ | refine LeO.bind ?_ (fun _ => ?_))
theorem palingref22_has.mono : ∀ a0 a1 k, LeO (palingref22_has.f k a0 a1) (palingref22_has.f (k + 1) a0 a1) := by
 intro a0 a1 k
 have ih0 := palingref22_has.mono_l k
 unfold palingref22_has.f
 repeat' (first | (with_reducible first | exact ih0 _ _ _ | exact LeO.refl _ | exact LeO.none _ | refine LeO.ite ?_ ?_ | refine LeO.bind ?_ (fun _ => ?_)) | exact ih0 _ _ _ | exact LeO.none _ | refine LeO.ite ?_ ?_ | refine LeO.bind ?_ (fun _ => ?_))
set_option maxHeartbeats 8000000 in
set_option maxRecDepth 100000 in
theorem palingref22_has.calls (k : Nat) (A0 : Option Addr) (c0 : Nat) (l0 : List Int) (a1 : Int) (r : Bool) (w : World) (hr0 : Kd.C (Kd.int .i64) w A0 l0.length l0) (hc0 : l0.length ≤ c0) (h : palingref22_has.f k l0 a1 = some r) :
    Calls Tryd.prog 24 #[.slice A0 l0.length c0, .int .i64 a1] w fun e w' => e = .returned (.bool r) ∧ Drawn0 w w' := by
 have HR0 := Aside0.mk hr0
 have HC0 := Aside0.mk hc0
 clear hr0 hc0
 have H : (palingref22_has.l0 k l0 a1 0) = some r := h
 clear h
 have H' := Aside0.mk H
 clear H
 go_enter Tryd.func24, Tryd.ntmps24
 go_wp2
 go_loopg [5] k (fun kq v5 w' => ∃ (x5_1 : Int), v5 = .int .i64 x5_1 ∧ Aside0 (palingref22_has.l0 kq l0 a1 x5_1 = some r) ∧ Aside0 (kq ≤ k) ∧ Drawn0 w w')
 case atStart => exact ⟨(0), aq7, H', ⟨Nat.le_refl _⟩, aq16⟩
 case round =>
  clear H'
  obtain ⟨x5_1, rfl, HA, HK1, ⟨m1, rfl⟩⟩ := hrel
  cases gk with
  | zero => exact absurd HA.out (by simp [palingref22_has.l0])
  | succ k1 =>
   have H := HA.out
   clear HA
   simp only [palingref22_has.l0] at H
   by_cases c3 : x5_1 < (l0.length : Int)
   rotate_left
   ·rw [if_neg c3] at H
    have c3b0 : decide (x5_1 < (l0.length : Int)) = false := decide_eq_false c3
    clear c3
    obtain rfl := Option.some.inj H
    go_wp2
    go_ret
    exact ⟨aq7, aq16⟩
   rw [if_pos c3] at H
   have c3b0 : decide (x5_1 < (l0.length : Int)) = true := decide_eq_true c3
   clear c3
   by_cases c4 : 0 ≤ x5_1
   rotate_left
   ·rw [if_neg c4] at H
    exact absurd H (by simp)
   rw [if_pos c4] at H
   have c4b0 : decide (0 ≤ x5_1) = true := decide_eq_true c4
   clear c4
   by_cases c5 : (rd l0 x5_1) = a1
   ·rw [if_pos c5] at H
    have c5b0 : ((rd l0 x5_1) == a1) = true := beq_iff_eq.mpr c5
    have c5b1 : ((rd l0 x5_1) != a1) = false := bne_eq_false_iff_eq.mpr c5
    clear c5
    obtain rfl := Option.some.inj H
    have p486 : 0 ≤ (x5_1 : Int) := of_decide_eq_true aq2
    have q486 : x5_1 < (l0.length : Int) := of_decide_eq_true aq2
    obtain ⟨ad486, e486, hx486_0⟩ := Kd.at_int HR0.out x5_1 p486 q486
    cases e486
    replace p486 := eq_true p486
    replace q486 := eq_true q486
    go_wp2
    go_ret
    exact ⟨aq7, aq16⟩
   rw [if_neg c5] at H
   have c5b0 : ((rd l0 x5_1) == a1) = false := beq_eq_false_iff_ne.mpr c5
   have c5b1 : ((rd l0 x5_1) != a1) = true := bne_iff_ne.mpr c5
   have H' := Aside0.mk H
   clear H
   have p486 : 0 ≤ (x5_1 : Int) := of_decide_eq_true aq2
   have q486 : x5_1 < (l0.length : Int) := of_decide_eq_true aq2
   obtain ⟨ad486, e486, hx486_0⟩ := Kd.at_int HR0.out x5_1 p486 q486
   cases e486
   replace p486 := eq_true p486
   replace q486 := eq_true q486
   go_wp2
   go_roundg k1
   case measure => have := HK1.out; omega
   case rel => exact ⟨(wrap64 (x5_1 + 1)), aq7, H', ⟨aq55⟩, aq16⟩
/-! ### palingref22_Slots: function 11 -/
mutual
def palingref22_Slots.l0 : Nat → List (S57) → List Int → Int → Int → Int → Option (Int × Int)
  | 0, _, _, _, _, _ => none
  | k + 1, x0, x1, x6, x7, x8 => if x8 < (x0.length : Int) then (if 0 ≤ x8 then (if ((rd_T57 x0 x8).f1) < 0 then ((palingref22_has.f k x1 ((rd_T57 x0 x8).f0)).bind fun t489 => (palingref22_Slots.j1 k x0 x1 x6 x7 x8 t489)) else (palingref22_Slots.j1 k x0 x1 x6 x7 x8 false)) else (none)) else (some (x6, x7))
def palingref22_Slots.j1 : Nat → List (S57) → List Int → Int → Int → Int → Bool → Option (Int × Int)
  | 0, _, _, _, _, _, _ => none
  | k + 1, x0, x1, x6, x7, x8, x29 => if x29 = true then (palingref22_Slots.l0 k x0 x1 x6 (wrap64 (x7 + 1)) (wrap64 (x8 + 1))) else (if 0 ≤ x8 then (if x8 < (x0.length : Int) then (if ((rd_T57 x0 x8).f1) < 0 then (palingref22_Slots.l0 k x0 x1 (wrap64 (x6 + 1)) x7 (wrap64 (x8 + 1))) else (palingref22_Slots.l0 k x0 x1 x6 x7 (wrap64 (x8 + 1)))) else (none)) else (none))
end
def palingref22_Slots.f (k : Nat) (l0 : List (S57)) (l1 : List Int) : Option (Int × Int) := palingref22_Slots.l0 k l0 l1 0 0 0
theorem palingref22_Slots.mono_l : ∀ k, (∀ y0 y1 y2 y3 y4, LeO (palingref22_Slots.l0 k y0 y1 y2 y3 y4) (palingref22_Slots.l0 (k + 1) y0 y1 y2 y3 y4)) ∧ (∀ y0 y1 y2 y3 y4 y5, LeO (palingref22_Slots.j1 k y0 y1 y2 y3 y4 y5) (palingref22_Slots.j1 (k + 1) y0 y1 y2 y3 y4 y5))
  | 0 => ⟨fun _ _ _ _ _ r h => by simp [palingref22_Slots.l0] at h, fun _ _ _ _ _ _ r h => by simp [palingref22_Slots.j1] at h⟩
  | k + 1 => by
    obtain ⟨ih0, ih1⟩ := palingref22_Slots.mono_l k
    refine ⟨?_, ?_⟩ <;> intros <;> (first | unfold palingref22_Slots.l0 | unfold palingref22_Slots.j1) <;> repeat' (first | (with_reducible first | exact ih0 _ _ _ _ _ | exact ih1 _ _ _ _ _ _ | exact palingref22_has.mono _ _ _ | exact LeO.refl _ | exact LeO.none _ | refine LeO.ite ?_ ?_ | refine LeO.bind ?_ (fun _ => ?_)) | exact ih0 _ _ _ _ _ | exact ih1 _ _ _ _ _ _ | exact palingref22_has.mono _ _ _ | exact LeO.none _ | refine LeO.ite ?_ ?_ | refine LeO.bind ?_ (fun _ => ?_))
theorem palingref22_Slots.mono : ∀ a0 a1 k, LeO (palingref22_Slots.f k a0 a1) (palingref22_Slots.f (k + 1) a0 a1) := by
 intro a0 a1 k
 obtain ⟨ih0, ih1⟩ := palingref22_Slots.mono_l k
 unfold palingref22_Slots.f
 repeat' (first | (with_reducible first | exact ih0 _ _ _ _ _ | exact ih1 _ _ _ _ _ _ | exact palingref22_has.mono _ _ _ | exact LeO.refl _ | exact LeO.none _ | refine LeO.ite ?_ ?_ | refine LeO.bind ?_ (fun _ => ?_)) | exact ih0 _ _ _ _ _ | exact ih1 _ _ _ _ _ _ | exact palingref22_has.mono _ _ _ | exact LeO.none _ | refine LeO.ite ?_ ?_ | refine LeO.bind ?_ (fun _ => ?_))
set_option maxHeartbeats 8000000 in
set_option maxRecDepth 100000 in
theorem palingref22_Slots.calls (k : Nat) (A0 : Option Addr) (c0 : Nat) (l0 : List (S57)) (A1 : Option Addr) (c1 : Nat) (l1 : List Int) (r1 : Int) (r2 : Int) (w : World) (hr0 : Kd.C k57 w A0 l0.length l0) (hc0 : l0.length ≤ c0) (hr1 : Kd.C (Kd.int .i64) w A1 l1.length l1) (hc1 : l1.length ≤ c1) (h : palingref22_Slots.f k l0 l1 = some (r1, r2)) :
    Calls Tryd.prog 11 #[.slice A0 l0.length c0, .slice A1 l1.length c1] w fun e w' => e = .returned (.tuple #[.int .i64 r1, .int .i64 r2]) ∧ Drawn0 w w' := by
 have HR0 := Aside0.mk hr0
 have HC0 := Aside0.mk hc0
 clear hr0 hc0
 have HR1 := Aside0.mk hr1
 have HC1 := Aside0.mk hc1
 clear hr1 hc1
 have H : (palingref22_Slots.l0 k l0 l1 0 0 0) = some (r1, r2) := h
 clear h
 have H' := Aside0.mk H
 clear H
 go_enter Tryd.func11, Tryd.ntmps11
 go_wp2
 go_loopg [6, 7, 8] k (fun kq v6 v7 v8 w' => ∃ (x6_1 : Int) (x7_1 : Int) (x8_1 : Int), v6 = .int .i64 x6_1 ∧ v7 = .int .i64 x7_1 ∧ v8 = .int .i64 x8_1 ∧ Aside0 (palingref22_Slots.l0 kq l0 l1 x6_1 x7_1 x8_1 = some (r1, r2)) ∧ Aside0 (kq ≤ k) ∧ Drawn0 w w')
 case atStart => exact ⟨(0), (0), (0), aq7, aq7, aq7, H', ⟨Nat.le_refl _⟩, aq16⟩
 case round =>
  clear H'
  obtain ⟨x6_1, x7_1, x8_1, rfl, rfl, rfl, HA, HK1, ⟨m1, rfl⟩⟩ := hrel
  cases gk with
  | zero => exact absurd HA.out (by simp [palingref22_Slots.l0])
  | succ k1 =>
   have H := HA.out
   clear HA
   simp only [palingref22_Slots.l0] at H
   by_cases c3 : x8_1 < (l0.length : Int)
   rotate_left
   ·rw [if_neg c3] at H
    have c3b0 : decide (x8_1 < (l0.length : Int)) = false := decide_eq_false c3
    clear c3
    simp only [Option.some.injEq, Prod.mk.injEq] at H
    obtain ⟨rfl, rfl⟩ := H
    go_wp2
    go_ret2
    exact ⟨aq7, aq16⟩
   rw [if_pos c3] at H
   have c3b0 : decide (x8_1 < (l0.length : Int)) = true := decide_eq_true c3
   clear c3
   have HC4 := Aside0.mk H
   clear H
   go_upto_region 6 with (fail)
   go_cut [29] (fun v29 wc => ∃ (kq : Nat) (x29_3 : Bool), v29 = .bool x29_3 ∧ Aside0 (palingref22_Slots.j1 kq l0 l1 x6_1 x7_1 x8_1 x29_3 = some (r1, r2)) ∧ Aside0 (kq ≤ k1) ∧ Drawn0 w wc)
   case first =>
    have H := HC4.out
    clear HC4
    by_cases c5 : 0 ≤ x8_1
    rotate_left
    ·rw [if_neg c5] at H
     exact absurd H (by simp)
    rw [if_pos c5] at H
    have c5b0 : decide (0 ≤ x8_1) = true := decide_eq_true c5
    clear c5
    (first | rw [c5b0] | (simp only [i64_w, i32_w]; rw [c5b0]) | skip)
    by_cases c6 : ((rd_T57 l0 x8_1).f1) < 0
    rotate_left
    ·rw [if_neg c6] at H
     have c6b0 : decide (((rd_T57 l0 x8_1).f1) < 0) = false := decide_eq_false c6
     clear c6
     have H' := Aside0.mk H
     clear H
     have p487 : 0 ≤ (x8_1 : Int) := of_decide_eq_true aq2
     have q487 : x8_1 < (l0.length : Int) := of_decide_eq_true aq2
     obtain ⟨ad487, e487, hx487_0, hx487_1⟩ := at_T57 HR0.out x8_1 p487 q487
     cases e487
     replace p487 := eq_true p487
     replace q487 := eq_true q487
     go_wp2
     go_meet
     case rel => exact ⟨_, (false), aq7, H', ⟨aq62⟩, aq16⟩
    rw [if_pos c6] at H
    have c6b0 : decide (((rd_T57 l0 x8_1).f1) < 0) = true := decide_eq_true c6
    clear c6
    obtain ⟨t489, A7, H⟩ := bS_ H
    have H' := Aside0.mk H
    clear H
    have p487 : 0 ≤ (x8_1 : Int) := of_decide_eq_true aq2
    have q487 : x8_1 < (l0.length : Int) := of_decide_eq_true aq2
    obtain ⟨ad487, e487, hx487_0, hx487_1⟩ := at_T57 HR0.out x8_1 p487 q487
    cases e487
    replace p487 := eq_true p487
    replace q487 := eq_true q487
    have p488 : 0 ≤ (x8_1 : Int) := of_decide_eq_true aq2
    have q488 : x8_1 < (l0.length : Int) := of_decide_eq_true aq2
    obtain ⟨ad488, e488, hx488_0, hx488_1⟩ := at_T57 HR0.out x8_1 p488 q488
    obtain rfl : ad487 = ad488 := (by injection e488)
    replace p488 := eq_true p488
    replace q488 := eq_true q488
    go_wp2_with (first | (go_at_call 24; (with_reducible refine (palingref22_has.calls k1 _ _ l1 ((rd_T57 l0 x8_1).f0) t489 _ ?side1 ?side2 A7.out).mono ?_); (case side1 => repeat (first | exact HR1.out | (with_reducible refine Kd.C_alloc ?_ _) | (with_reducible refine Kd.C_drewN ?_ _) | (with_reducible refine Kd.C_drew ?_))); (case side2 => exact HC1.out); rintro e w' ⟨rfl, ⟨nd, rfl⟩⟩))
    go_meet
    case rel => exact ⟨_, (t489), aq7, H', ⟨aq62⟩, aq16⟩
   case rest =>
    clear HC4
    obtain ⟨kq, x29_3, rfl, HA, HJ3, ⟨mc3, rfl⟩⟩ := hcut
    cases kq with
    | zero => exact absurd HA.out (by simp [palingref22_Slots.j1])
    | succ kj3 =>
     have H := HA.out
     clear HA
     simp only [palingref22_Slots.j1] at H
     by_cases c8 : x29_3 = true
     ·subst c8
      rw [if_pos rfl] at H
      have H' := Aside0.mk H
      clear H
      go_wp2
      go_roundg kj3
      case measure => have := HK1.out; have := HJ3.out; omega
      case rel => exact ⟨(x6_1), (wrap64 (x7_1 + 1)), (wrap64 (x8_1 + 1)), aq7, aq7, aq7, H', ⟨aq73⟩, aq16⟩
     replace c8 := Bool.eq_false_iff.mpr c8
     subst c8
     rw [if_neg nf_] at H
     by_cases c9 : 0 ≤ x8_1
     rotate_left
     ·rw [if_neg c9] at H
      exact absurd H (by simp)
     rw [if_pos c9] at H
     have c9b0 : decide (0 ≤ x8_1) = true := decide_eq_true c9
     clear c9
     by_cases c10 : x8_1 < (l0.length : Int)
     rotate_left
     ·rw [if_neg c10] at H
      exact absurd H (by simp)
     rw [if_pos c10] at H
     have c10b0 : decide (x8_1 < (l0.length : Int)) = true := decide_eq_true c10
     clear c10
     by_cases c11 : ((rd_T57 l0 x8_1).f1) < 0
     rotate_left
     ·rw [if_neg c11] at H
      have c11b0 : decide (((rd_T57 l0 x8_1).f1) < 0) = false := decide_eq_false c11
      clear c11
      have H' := Aside0.mk H
      clear H
      have p490 : 0 ≤ (x8_1 : Int) := of_decide_eq_true aq2
      have q490 : x8_1 < (l0.length : Int) := of_decide_eq_true aq2
      obtain ⟨ad490, e490, hx490_0, hx490_1⟩ := at_T57 HR0.out x8_1 p490 q490
      cases e490
      replace p490 := eq_true p490
      replace q490 := eq_true q490
      go_wp2
      go_roundg kj3
      case measure => have := HK1.out; have := HJ3.out; omega
      case rel => exact ⟨(x6_1), (x7_1), (wrap64 (x8_1 + 1)), aq7, aq7, aq7, H', ⟨aq73⟩, aq16⟩
     rw [if_pos c11] at H
     have c11b0 : decide (((rd_T57 l0 x8_1).f1) < 0) = true := decide_eq_true c11
     clear c11
     have H' := Aside0.mk H
     clear H
     have p490 : 0 ≤ (x8_1 : Int) := of_decide_eq_true aq2
     have q490 : x8_1 < (l0.length : Int) := of_decide_eq_true aq2
     obtain ⟨ad490, e490, hx490_0, hx490_1⟩ := at_T57 HR0.out x8_1 p490 q490
     cases e490
     replace p490 := eq_true p490
     replace q490 := eq_true q490
     go_wp2
     go_roundg kj3
     case measure => have := HK1.out; have := HJ3.out; omega
     case rel => exact ⟨(wrap64 (x6_1 + 1)), (x7_1), (wrap64 (x8_1 + 1)), aq7, aq7, aq7, H', ⟨aq73⟩, aq16⟩
end Go.Proofs.YtpbhfpbfmpocdaaDoor.PSpillNone
