-- Written by print2.py over the kit's printer. Not trusted: Lean checks it.
import Derived.Test.YtpbhfpbfmpocdaaDoorPSpillNonehqq
import Derived.Test.YtpbhfpbfmpocdaaDoorPSpillNonehmid
import Derived.Test.YtpbhfpbfmpocdaaDoorPSpillNonex0
import Derived.Test.YtpbhfpbfmpocdaaDoorPSpillNonex3
import Derived.Test.YtpbhfpbfmpocdaaDoorPSpillNonehspillcode
import Derived.Test.YtpbhfpbfmpocdaaDoorPSpillNonehspillslots
namespace Go.Proofs.YtpbhfpbfmpocdaaDoor.PSpillNone
open Go.RowKit Go.Proofs.YtpbhfpbfmpocdaaDoorW.PrintWords Go.Proofs.YtpbhfpbfmpocdaaDoorW.PrintLast Go.Proofs.YtpbhfpbfmpocdaaDoorW.PrintMore
attribute [local go_sem] max2_int min2_int max_two min_two max_three min_three max_four min_four   -- for this text's walks alone
set_option linter.unusedVariables false
set_option linter.unusedSimpArgs false

/-! ### palinglaw22_awake: function 6 -/
def palinglaw22_awake.f (k : Nat)  : Option (Bool) := (some (([(⟨5, (-1)⟩ : S45)] : List (S45)) : List (S45))).bind fun y123 => ((spill_Slots.f k y123 (([5] : List Int))).bind fun bt130 => ((spill_Code.f k (([(⟨11, 0, 0, 5, 0, 0, 0⟩ : S48), (⟨13, 0, 0, 0, 0, 0, 0⟩ : S48)] : List (S48))) y123 ([] : List Int) 40 90).bind fun t132 => ((palingref13_Same.f k t132 (([(⟨4, 0, 13, (-1), 0, 40, 0⟩ : S48), (⟨11, 0, 0, 13, 0, 0, 0⟩ : S48), (⟨13, 0, 0, 0, 0, 0, 0⟩ : S48)] : List (S48)))).bind fun t138 => (if t138 = true then (if bt130.1 = 0 then (if bt130.2 = 1 then ((spill_Word.f k y123 (([5] : List Int)) 40 90 5).bind fun t142 => (if t142 = 90 then ((spill_Word.f k y123 ([] : List Int) 40 90 4).bind fun t143 => (if t143 = (-1) then (some true) else (none))) else (none))) else (none)) else (none)) else (none)))))
theorem palinglaw22_awake.mono : ∀ k, LeO (palinglaw22_awake.f k ) (palinglaw22_awake.f (k + 1) ) := by
 intro  k
 unfold palinglaw22_awake.f
 repeat' (first | (with_reducible first | exact palingref13_Same.mono _ _ _ | exact spill_Code.mono _ _ _ _ _ _ | exact spill_Slots.mono _ _ _ | exact spill_Word.mono _ _ _ _ _ _ | exact LeO.refl _ | exact LeO.none _ | refine LeO.ite ?_ ?_ | refine LeO.bind ?_ (fun _ => ?_)) | exact palingref13_Same.mono _ _ _ | exact spill_Code.mono _ _ _ _ _ _ | exact spill_Slots.mono _ _ _ | exact spill_Word.mono _ _ _ _ _ _ | exact LeO.none _ | refine LeO.ite ?_ ?_ | refine LeO.bind ?_ (fun _ => ?_))
set_option maxHeartbeats 8000000 in
set_option maxRecDepth 100000 in
theorem palinglaw22_awake.calls (k : Nat)  (r : Bool) (w : World) (h : palinglaw22_awake.f k  = some r) (hgl : GlobOK w) :
    Calls Tryd.prog 6 #[] w fun e w' => e = .returned (.bool r) ∧ Below w.heap.size w w' := by
 have hu48 := Tryd.underlying48
 have hu45 := Tryd.underlying45
 have hu31 := Tryd.underlying31
 have HB := Aside0.mk (Below.refl w.heap.size w)
 have HGL := Aside0.mk hgl
 clear hgl
 have H : ((some (([(⟨5, (-1)⟩ : S45)] : List (S45)) : List (S45))).bind fun y123 => ((spill_Slots.f k y123 (([5] : List Int))).bind fun bt130 => ((spill_Code.f k (([(⟨11, 0, 0, 5, 0, 0, 0⟩ : S48), (⟨13, 0, 0, 0, 0, 0, 0⟩ : S48)] : List (S48))) y123 ([] : List Int) 40 90).bind fun t132 => ((palingref13_Same.f k t132 (([(⟨4, 0, 13, (-1), 0, 40, 0⟩ : S48), (⟨11, 0, 0, 13, 0, 0, 0⟩ : S48), (⟨13, 0, 0, 0, 0, 0, 0⟩ : S48)] : List (S48)))).bind fun t138 => (if t138 = true then (if bt130.1 = 0 then (if bt130.2 = 1 then ((spill_Word.f k y123 (([5] : List Int)) 40 90 5).bind fun t142 => (if t142 = 90 then ((spill_Word.f k y123 ([] : List Int) 40 90 4).bind fun t143 => (if t143 = (-1) then (some true) else (none))) else (none))) else (none)) else (none)) else (none)))))) = some r := h
 clear h
 obtain ⟨y120, hy_⟩ : ∃ y_ : List (S48), y_ = (([(⟨11, 0, 0, 5, 0, 0, 0⟩ : S48), (⟨13, 0, 0, 0, 0, 0, 0⟩ : S48)] : List (S48))) := ⟨_, rfl⟩
 replace H : ((some (([(⟨5, (-1)⟩ : S45)] : List (S45)) : List (S45))).bind fun y123 => ((spill_Slots.f k y123 (([5] : List Int))).bind fun bt130 => ((spill_Code.f k y120 y123 ([] : List Int) 40 90).bind fun t132 => ((palingref13_Same.f k t132 (([(⟨4, 0, 13, (-1), 0, 40, 0⟩ : S48), (⟨11, 0, 0, 13, 0, 0, 0⟩ : S48), (⟨13, 0, 0, 0, 0, 0, 0⟩ : S48)] : List (S48)))).bind fun t138 => (if t138 = true then (if bt130.1 = 0 then (if bt130.2 = 1 then ((spill_Word.f k y123 (([5] : List Int)) 40 90 5).bind fun t142 => (if t142 = 90 then ((spill_Word.f k y123 ([] : List Int) 40 90 4).bind fun t143 => (if t143 = (-1) then (some true) else (none))) else (none))) else (none)) else (none)) else (none)))))) = some r := aq3
 have Ny120 := Aside0.mk hy_
 clear hy_
 obtain ⟨y123, hy_⟩ : ∃ y_ : List (S45), y_ = (([(⟨5, (-1)⟩ : S45)] : List (S45))) := ⟨_, rfl⟩
 replace H : ((spill_Slots.f k y123 (([5] : List Int))).bind fun bt130 => ((spill_Code.f k y120 y123 ([] : List Int) 40 90).bind fun t132 => ((palingref13_Same.f k t132 (([(⟨4, 0, 13, (-1), 0, 40, 0⟩ : S48), (⟨11, 0, 0, 13, 0, 0, 0⟩ : S48), (⟨13, 0, 0, 0, 0, 0, 0⟩ : S48)] : List (S48)))).bind fun t138 => (if t138 = true then (if bt130.1 = 0 then (if bt130.2 = 1 then ((spill_Word.f k y123 (([5] : List Int)) 40 90 5).bind fun t142 => (if t142 = 90 then ((spill_Word.f k y123 ([] : List Int) 40 90 4).bind fun t143 => (if t143 = (-1) then (some true) else (none))) else (none))) else (none)) else (none)) else (none))))) = some r := aq3
 have Ny123 := Aside0.mk hy_
 clear hy_
 obtain ⟨y127, hy_⟩ : ∃ y_ : List Int, y_ = (([5] : List Int)) := ⟨_, rfl⟩
 replace H : ((spill_Slots.f k y123 y127).bind fun bt130 => ((spill_Code.f k y120 y123 ([] : List Int) 40 90).bind fun t132 => ((palingref13_Same.f k t132 (([(⟨4, 0, 13, (-1), 0, 40, 0⟩ : S48), (⟨11, 0, 0, 13, 0, 0, 0⟩ : S48), (⟨13, 0, 0, 0, 0, 0, 0⟩ : S48)] : List (S48)))).bind fun t138 => (if t138 = true then (if bt130.1 = 0 then (if bt130.2 = 1 then ((spill_Word.f k y123 (([5] : List Int)) 40 90 5).bind fun t142 => (if t142 = 90 then ((spill_Word.f k y123 ([] : List Int) 40 90 4).bind fun t143 => (if t143 = (-1) then (some true) else (none))) else (none))) else (none)) else (none)) else (none))))) = some r := aq3
 have Ny127 := Aside0.mk hy_
 clear hy_
 replace H := Option.bind_eq_some_iff.mp H
 obtain ⟨⟨t130, t131⟩, A10, H⟩ := H
 replace H : ((spill_Code.f k y120 y123 ([] : List Int) 40 90).bind fun t132 => ((palingref13_Same.f k t132 (([(⟨4, 0, 13, (-1), 0, 40, 0⟩ : S48), (⟨11, 0, 0, 13, 0, 0, 0⟩ : S48), (⟨13, 0, 0, 0, 0, 0, 0⟩ : S48)] : List (S48)))).bind fun t138 => (if t138 = true then (if t130 = 0 then (if t131 = 1 then ((spill_Word.f k y123 (([5] : List Int)) 40 90 5).bind fun t142 => (if t142 = 90 then ((spill_Word.f k y123 ([] : List Int) 40 90 4).bind fun t143 => (if t143 = (-1) then (some true) else (none))) else (none))) else (none)) else (none)) else (none)))) = some r := H
 have A1 := Aside0.mk A10
 clear A10
 obtain ⟨t132, A2, H⟩ := bS_ H
 obtain ⟨y135, hy_⟩ : ∃ y_ : List (S48), y_ = (([(⟨4, 0, 13, (-1), 0, 40, 0⟩ : S48), (⟨11, 0, 0, 13, 0, 0, 0⟩ : S48), (⟨13, 0, 0, 0, 0, 0, 0⟩ : S48)] : List (S48))) := ⟨_, rfl⟩
 replace H : ((palingref13_Same.f k t132 y135).bind fun t138 => (if t138 = true then (if t130 = 0 then (if t131 = 1 then ((spill_Word.f k y123 (([5] : List Int)) 40 90 5).bind fun t142 => (if t142 = 90 then ((spill_Word.f k y123 ([] : List Int) 40 90 4).bind fun t143 => (if t143 = (-1) then (some true) else (none))) else (none))) else (none)) else (none)) else (none))) = some r := aq3
 have Ny135 := Aside0.mk hy_
 clear hy_
 obtain ⟨t138, A3, H⟩ := bS_ H
 by_cases c4 : t138 = true
 rotate_left
 ·replace c4 := Bool.eq_false_iff.mpr c4
  subst c4
  rw [if_neg nf_] at H
  exact absurd H (by simp)
 subst c4
 rw [if_pos rfl] at H
 by_cases c5 : t130 = 0
 rotate_left
 ·rw [if_neg c5] at H
  have c5b0 : (t130 == 0) = false := beq_eq_false_iff_ne.mpr c5
  have c5b1 : (t130 != 0) = true := bne_iff_ne.mpr c5
  exact absurd H (by simp)
 rw [if_pos c5] at H
 have c5b0 : (t130 == 0) = true := beq_iff_eq.mpr c5
 have c5b1 : (t130 != 0) = false := bne_eq_false_iff_eq.mpr c5
 clear c5
 by_cases c6 : t131 = 1
 rotate_left
 ·rw [if_neg c6] at H
  have c6b0 : (t131 == 1) = false := beq_eq_false_iff_ne.mpr c6
  have c6b1 : (t131 != 1) = true := bne_iff_ne.mpr c6
  exact absurd H (by simp)
 rw [if_pos c6] at H
 have c6b0 : (t131 == 1) = true := beq_iff_eq.mpr c6
 have c6b1 : (t131 != 1) = false := bne_eq_false_iff_eq.mpr c6
 clear c6
 obtain ⟨y139, hy_⟩ : ∃ y_ : List Int, y_ = (([5] : List Int)) := ⟨_, rfl⟩
 replace H : ((spill_Word.f k y123 y139 40 90 5).bind fun t142 => (if t142 = 90 then ((spill_Word.f k y123 ([] : List Int) 40 90 4).bind fun t143 => (if t143 = (-1) then (some true) else (none))) else (none))) = some r := aq3
 have Ny139 := Aside0.mk hy_
 clear hy_
 obtain ⟨t142, A7, H⟩ := bS_ H
 by_cases c8 : t142 = 90
 rotate_left
 ·rw [if_neg c8] at H
  have c8b0 : (t142 == 90) = false := beq_eq_false_iff_ne.mpr c8
  have c8b1 : (t142 != 90) = true := bne_iff_ne.mpr c8
  exact absurd H (by simp)
 rw [if_pos c8] at H
 have c8b0 : (t142 == 90) = true := beq_iff_eq.mpr c8
 have c8b1 : (t142 != 90) = false := bne_eq_false_iff_eq.mpr c8
 clear c8
 obtain ⟨t143, A9, H⟩ := bS_ H
 by_cases c10 : t143 = (-1)
 rotate_left
 ·rw [if_neg c10] at H
  have c10b0 : (t143 == (-1)) = false := beq_eq_false_iff_ne.mpr c10
  have c10b1 : (t143 != (-1)) = true := bne_iff_ne.mpr c10
  exact absurd H (by simp)
 rw [if_pos c10] at H
 have c10b0 : (t143 == (-1)) = true := beq_iff_eq.mpr c10
 have c10b1 : (t143 != (-1)) = false := bne_eq_false_iff_eq.mpr c10
 clear c10
 obtain rfl := Option.some.inj H
 go_enter Tryd.func6, Tryd.ntmps6
 go_wp2_with (first | ((with_reducible refine gate_dst (N := 8) rfl ?_); (try (refine gate_guard (by rfl) ?_; dsimp only)); refine Kd.R_lit k48 _ 48 ?hg (N := 8) ?hd (xs := ([(⟨11, 0, 0, 5, 0, 0, 0⟩ : S48), (⟨13, 0, 0, 0, 0, 0, 0⟩ : S48)] : List (S48))) (inner := [.int .i64 11, .int .i64 0, .int .i64 0, .int .i64 5, .int .i64 0, .int .i64 0, .int .i64 0, .int .i64 13, .int .i64 0, .int .i64 0, .int .i64 0, .int .i64 0, .int .i64 0, .int .i64 0]) (ok := fun _ => True) (okp := fun _ => True) ?hr ?hp (fun _ hk => hk) trivial (Below.refl _ _) (Nat.le_refl _) (by simp) ?_; (case hd => rfl); (case hg => rfl); (case hr => first | (go_simp; done) | (go_simp; rfl)); (case hp => exact (Reps.c7 (show Kd.M k48 _ _ _ (⟨11, 0, 0, 5, 0, 0, 0⟩ : S48) [.int .i64 11, .int .i64 0, .int .i64 0, .int .i64 5, .int .i64 0, .int .i64 0, .int .i64 0] from (k48_mkM _ _ _ (⟨11, 0, 0, 5, 0, 0, 0⟩ : S48) )) (Reps.c7 (show Kd.M k48 _ _ _ (⟨13, 0, 0, 0, 0, 0, 0⟩ : S48) [.int .i64 13, .int .i64 0, .int .i64 0, .int .i64 0, .int .i64 0, .int .i64 0, .int .i64 0] from (k48_mkM _ _ _ (⟨13, 0, 0, 0, 0, 0, 0⟩ : S48) )) (Reps.none _ _)))); intro v121 w11 ho12 hb hg_ hnew_; clear hg_ hnew_; (first | rw [← Ny120.out] at ho12 | (simp only [Int.reduceToNat] at ho12; rw [← Ny120.out] at ho12)); have HO122 := Aside0.mk (Kd.R_lower ho12 (below_size aq0)); replace HB := Aside0.mk (below_step aq0 hb); clear hb ho12) | ((with_reducible refine gate_dst (N := 10) rfl ?_); (try (refine gate_guard (by rfl) ?_; dsimp only)); refine Kd.R_lit k45 _ 45 ?hg (N := 10) ?hd (xs := ([(⟨5, (-1)⟩ : S45)] : List (S45))) (inner := [.int .i64 5, .int .i64 (-1)]) (ok := fun _ => True) (okp := fun _ => True) ?hr ?hp (fun _ hk => hk) trivial (Below.refl _ _) (Nat.le_refl _) (by simp) ?_; (case hd => rfl); (case hg => rfl); (case hr => first | (go_simp; done) | (go_simp; rfl)); (case hp => exact (Reps.c2 (show Kd.M k45 _ _ _ (⟨5, (-1)⟩ : S45) [.int .i64 5, .int .i64 (-1)] from (k45_mkM _ _ _ (⟨5, (-1)⟩ : S45) )) (Reps.none _ _))); intro v124 w13 ho14 hb hg_ hnew_; clear hg_ hnew_; (first | rw [← Ny123.out] at ho14 | (simp only [Int.reduceToNat] at ho14; rw [← Ny123.out] at ho14)); replace HO122 := Aside0.mk (Kd.R_below aq26 hb); have HO125 := Aside0.mk (Kd.R_lower ho14 (below_size aq0)); replace HB := Aside0.mk (below_step aq0 hb); clear hb ho14) | ((with_reducible refine gate_dst (N := 3) rfl ?_); (try (refine gate_guard (by rfl) ?_; dsimp only)); refine box_event ?hg (N := 3) ?hd (cs := #[.int .i64 0, .int .i64 0]) (t := 31) ?hr ?_; (case hd => rfl); (case hg => rfl); (case hr => first | (go_simp; done) | (go_simp; rfl)); intro gb0 hg w15 hbox hb; have n0_ := Aside0.mk (Kd.R_below aq26 hb); have n1_ := Aside0.mk (Kd.R_below aq40 hb); have n2_ := Aside0.mk (below_step aq0 hb); have n3_ := Aside0.mk (hbox); have n4_ := Aside0.mk ((by rw [hg]; exact (below_size aq0) : w.heap.size ≤ gb0)); have n5_ := Aside0.mk ((by rw [hg]; exact (below_size aq0) : w.heap.size ≤ gb0)); clear HO122; clear HO125; clear HB; have HO122 := n0_; have HO125 := n1_; have HB := n2_; have BK0 := n3_; have GW0 := n4_; have GE0 := n5_; clear n0_ n1_ n2_ n3_ n4_ n5_; clear hb hbox hg; obtain ⟨hcz16_0, hcz16_1, hfz16_0, hfz16_1⟩ := czf2 BK0.out) | ((with_reducible refine gate_dst (N := 14) rfl ?_); (try (refine gate_guard (by rfl) ?_; dsimp only)); refine Kd.R_lit (Kd.int .i64) _ 3 ?hg (N := 14) ?hd (xs := ([5] : List Int)) (inner := [.int .i64 5]) (ok := fun _ => True) (okp := fun _ => True) ?hr ?hp (fun _ hk => hk) trivial (Below.refl _ _) (Nat.le_refl _) (by simp) ?_; (case hd => rfl); (case hg => rfl); (case hr => first | (go_simp; done) | (go_simp; rfl)); (case hp => exact (Reps.one (show Kd.M (Kd.int .i64) _ _ _ 5 [.int .i64 5] from rfl) (Reps.none _ _))); intro v128 w17 ho18 hb hg_ hnew_; clear hg_ hnew_; (first | rw [← Ny127.out] at ho18 | (simp only [Int.reduceToNat] at ho18; rw [← Ny127.out] at ho18)); replace HO122 := Aside0.mk (Kd.R_below (by (with_reducible repeat (first | apply Kd.R_alloc | apply Kd.R_drewN | apply Kd.R_drew)); exact (Kd.R_mono (Kd.R_far (p := ⟨gb0, 1, none⟩) (Kd.R_far (p := ⟨gb0, 0, none⟩) (Kd.R_types HO122.out BK0.out (by decide)) (fun _ hk => hk.2) (.int .i64 40)) (fun _ hk => hk.2) (.int .i64 90)) (fun _ h_ => h_.1))) hb); replace HO125 := Aside0.mk (Kd.R_below (by (with_reducible repeat (first | apply Kd.R_alloc | apply Kd.R_drewN | apply Kd.R_drew)); exact (Kd.R_mono (Kd.R_far (p := ⟨gb0, 1, none⟩) (Kd.R_far (p := ⟨gb0, 0, none⟩) (Kd.R_types HO125.out BK0.out (by decide)) (fun _ hk => hk.2) (.int .i64 40)) (fun _ hk => hk.2) (.int .i64 90)) (fun _ h_ => h_.1))) hb); have HO129 := Aside0.mk (Kd.R_lower ho18 (below_size aq4)); replace BK0 := Aside0.mk (blk_below (g := gb0) (o := .cells #[.int .i64 40, .int .i64 90] 31 (0, 0)) (by (with_reducible repeat (first | refine blk_drewN ?_ _ | refine blk_drew ?_ | refine blk_alloc ?_ _)); refine blk_put (cs := #[.int .i64 40, .int .i64 0]) ?_ 1 _ rfl; (with_reducible repeat (first | refine blk_drewN ?_ _ | refine blk_drew ?_ | refine blk_alloc ?_ _)); refine blk_put (cs := #[.int .i64 0, .int .i64 0]) ?_ 0 _ rfl; (with_reducible repeat (first | refine blk_drewN ?_ _ | refine blk_drew ?_ | refine blk_alloc ?_ _)); exact BK0.out) hb); replace HB := Aside0.mk (below_step aq4 hb); clear hb ho18; obtain ⟨Ao19, co19, eo19⟩ := Kd.R_slice HO125.out; subst eo19; obtain ⟨Ao20, co20, eo20⟩ := Kd.R_slice HO129.out; subst eo20) | ((with_reducible refine gate_callee (f := 10) rfl ?_); refine goesL_ (some 15) rfl rfl Tryd.func10 (by kernel_rfl) rfl #[.slice Ao19 y123.length co19, .slice Ao20 y127.length co20] rfl aq8 ?_; (with_reducible refine (spill_Slots.calls k _ _ y123 _ _ y127 t130 t131 _ ?side1 ?side2 ?side3 ?side4 A1.out).mono ?_); (case side1 => repeat (first | exact (Kd.R_reads' HO125.out).2.2 | (with_reducible refine Kd.C_alloc ?_ _) | (with_reducible refine Kd.C_drewN ?_ _) | (with_reducible refine Kd.C_drew ?_))); (case side2 => exact (Kd.R_reads' HO125.out).2.1); (case side3 => repeat (first | exact (Kd.R_reads' HO129.out).2.2 | (with_reducible refine Kd.C_alloc ?_ _) | (with_reducible refine Kd.C_drewN ?_ _) | (with_reducible refine Kd.C_drew ?_))); (case side4 => exact (Kd.R_reads' HO129.out).2.1); rintro e w21 ⟨rfl, hb⟩; refine ⟨_, rfl, ?_⟩; replace HO122 := Aside0.mk (Kd.R_below aq26 hb); replace HO125 := Aside0.mk (Kd.R_below aq40 hb); replace HO129 := Aside0.mk (Kd.R_below aq41 hb); replace BK0 := Aside0.mk (blk_below (g := gb0) (o := .cells #[.int .i64 40, .int .i64 90] 31 (0, 0)) aq11 hb); replace HB := Aside0.mk (below_step aq4 hb); (try clear hb); (try clear hb2); (try clear hk); (try clear hi); obtain ⟨hcz22_0, hcz22_1, hfz22_0, hfz22_1⟩ := czf2 BK0.out; obtain ⟨Ao23, co23, eo23⟩ := Kd.R_slice HO122.out; subst eo23) | ((with_reducible refine gate_callee (f := 15) rfl ?_); refine goesL_ (some 21) rfl rfl Tryd.func15 (by kernel_rfl) rfl #[.slice Ao23 y120.length co23, .slice Ao19 y123.length co19, .slice none 0 0, .agg #[.int .i64 40, .int .i64 90]] rfl aq8 ?_; (refine (spill_Code.calls k _ _ y120 _ _ y123 _ _ ([] : List Int) 40 90 t132 _ ?side1 ?side2 ?side3 ?side4 ?side5 ?side6 A2.out (GlobOK.step HGL.out aq4)).mono ?_); (case side1 => repeat (first | exact (Kd.R_reads' HO122.out).2.2 | (with_reducible refine Kd.C_alloc ?_ _) | (with_reducible refine Kd.C_drewN ?_ _) | (with_reducible refine Kd.C_drew ?_))); (case side2 => exact (Kd.R_reads' HO122.out).2.1); (case side3 => repeat (first | exact (Kd.R_reads' HO125.out).2.2 | (with_reducible refine Kd.C_alloc ?_ _) | (with_reducible refine Kd.C_drewN ?_ _) | (with_reducible refine Kd.C_drew ?_))); (case side4 => exact (Kd.R_reads' HO125.out).2.1); (case side5 => exact Kd.C_nil _ _); (case side6 => exact Nat.le_refl _); rintro e w24 ⟨v133, rfl, ho0, hb⟩; refine ⟨_, rfl, ?_⟩; have n0_ := Aside0.mk (Kd.R_elder' aq26 (Kd.R_base ho0) hb); have n1_ := Aside0.mk (Kd.R_below aq40 hb); have n2_ := Aside0.mk (Kd.R_below aq41 hb); have n3_ := Aside0.mk (Kd.R_lower (Kd.R_new' ho0 (Kd.R_lt aq26)) (below_size aq4)); have n4_ := Aside0.mk (blk_below (g := gb0) (o := .cells #[.int .i64 40, .int .i64 90] 31 (0, 0)) aq11 hb); have n5_ := Aside0.mk (below_step aq4 hb); clear HO122; clear HO125; clear HO129; clear BK0; clear HB; have HO122 := n0_; have HO125 := n1_; have HO129 := n2_; have HO134 := n3_; have BK0 := n4_; have HB := n5_; clear n0_ n1_ n2_ n3_ n4_ n5_; (try clear hb); (try clear hb2); (try clear hk); (try clear hi); (try clear ho0)) | ((with_reducible refine gate_dst (N := 25) rfl ?_); (try (refine gate_guard (by rfl) ?_; dsimp only)); refine Kd.R_lit k48 _ 48 ?hg (N := 25) ?hd (xs := ([(⟨4, 0, 13, (-1), 0, 40, 0⟩ : S48), (⟨11, 0, 0, 13, 0, 0, 0⟩ : S48), (⟨13, 0, 0, 0, 0, 0, 0⟩ : S48)] : List (S48))) (inner := [.int .i64 4, .int .i64 0, .int .i64 13, .int .i64 (-1), .int .i64 0, .int .i64 40, .int .i64 0, .int .i64 11, .int .i64 0, .int .i64 0, .int .i64 13, .int .i64 0, .int .i64 0, .int .i64 0, .int .i64 13, .int .i64 0, .int .i64 0, .int .i64 0, .int .i64 0, .int .i64 0, .int .i64 0]) (ok := fun _ => True) (okp := fun _ => True) ?hr ?hp (fun _ hk => hk) trivial (Below.refl _ _) (Nat.le_refl _) (by simp) ?_; (case hd => rfl); (case hg => rfl); (case hr => first | (go_simp; done) | (go_simp; rfl)); (case hp => exact (Reps.c7 (show Kd.M k48 _ _ _ (⟨4, 0, 13, (-1), 0, 40, 0⟩ : S48) [.int .i64 4, .int .i64 0, .int .i64 13, .int .i64 (-1), .int .i64 0, .int .i64 40, .int .i64 0] from (k48_mkM _ _ _ (⟨4, 0, 13, (-1), 0, 40, 0⟩ : S48) )) (Reps.c7 (show Kd.M k48 _ _ _ (⟨11, 0, 0, 13, 0, 0, 0⟩ : S48) [.int .i64 11, .int .i64 0, .int .i64 0, .int .i64 13, .int .i64 0, .int .i64 0, .int .i64 0] from (k48_mkM _ _ _ (⟨11, 0, 0, 13, 0, 0, 0⟩ : S48) )) (Reps.c7 (show Kd.M k48 _ _ _ (⟨13, 0, 0, 0, 0, 0, 0⟩ : S48) [.int .i64 13, .int .i64 0, .int .i64 0, .int .i64 0, .int .i64 0, .int .i64 0, .int .i64 0] from (k48_mkM _ _ _ (⟨13, 0, 0, 0, 0, 0, 0⟩ : S48) )) (Reps.none _ _))))); intro v136 w25 ho26 hb hg_ hnew_; clear hg_ hnew_; (first | rw [← Ny135.out] at ho26 | (simp only [Int.reduceToNat] at ho26; rw [← Ny135.out] at ho26)); have n0_ := Aside0.mk (Kd.R_elder' aq26 (Kd.R_base ho26) hb); have n1_ := Aside0.mk (Kd.R_below aq40 hb); have n2_ := Aside0.mk (Kd.R_below aq41 hb); have n3_ := Aside0.mk (Kd.R_elder' aq49 (Kd.R_base ho26) hb); have n4_ := Aside0.mk (Kd.R_lower (Kd.R_new' (Kd.R_new' ho26 (Kd.R_lt aq26)) (Kd.R_lt aq49)) (below_size aq4)); have n5_ := Aside0.mk (blk_below (g := gb0) (o := .cells #[.int .i64 40, .int .i64 90] 31 (0, 0)) aq11 hb); have n6_ := Aside0.mk (below_step aq4 hb); clear HO122; clear HO125; clear HO129; clear HO134; clear BK0; clear HB; have HO122 := n0_; have HO125 := n1_; have HO129 := n2_; have HO134 := n3_; have HO137 := n4_; have BK0 := n5_; have HB := n6_; clear n0_ n1_ n2_ n3_ n4_ n5_ n6_; clear hb ho26; obtain ⟨Ao27, co27, eo27⟩ := Kd.R_slice HO134.out; subst eo27; obtain ⟨Ao28, co28, eo28⟩ := Kd.R_slice HO137.out; subst eo28) | ((with_reducible refine gate_callee (f := 14) rfl ?_); refine goesL_ (some 26) rfl rfl Tryd.func14 (by kernel_rfl) rfl #[.slice Ao27 t132.length co27, .slice Ao28 y135.length co28] rfl aq8 ?_; (with_reducible refine (palingref13_Same.calls k _ _ t132 _ _ y135 true _ ?side1 ?side2 ?side3 ?side4 A3.out).mono ?_); (case side1 => repeat (first | exact (Kd.R_reads' HO134.out).2.2 | (with_reducible refine Kd.C_alloc ?_ _) | (with_reducible refine Kd.C_drewN ?_ _) | (with_reducible refine Kd.C_drew ?_))); (case side2 => exact (Kd.R_reads' HO134.out).2.1); (case side3 => repeat (first | exact (Kd.R_reads' HO137.out).2.2 | (with_reducible refine Kd.C_alloc ?_ _) | (with_reducible refine Kd.C_drewN ?_ _) | (with_reducible refine Kd.C_drew ?_))); (case side4 => exact (Kd.R_reads' HO137.out).2.1); rintro e w' ⟨rfl, ⟨nd, rfl⟩⟩; refine ⟨_, rfl, ?_⟩) | ((with_reducible refine gate_dst (N := 37) rfl ?_); (try (refine gate_guard (by rfl) ?_; dsimp only)); refine Kd.R_lit (Kd.int .i64) _ 3 ?hg (N := 37) ?hd (xs := ([5] : List Int)) (inner := [.int .i64 5]) (ok := fun _ => True) (okp := fun _ => True) ?hr ?hp (fun _ hk => hk) trivial (Below.refl _ _) (Nat.le_refl _) (by simp) ?_; (case hd => rfl); (case hg => rfl); (case hr => first | (go_simp; done) | (go_simp; rfl)); (case hp => exact (Reps.one (show Kd.M (Kd.int .i64) _ _ _ 5 [.int .i64 5] from rfl) (Reps.none _ _))); intro v140 w29 ho30 hb hg_ hnew_; clear hg_ hnew_; (first | rw [← Ny139.out] at ho30 | (simp only [Int.reduceToNat] at ho30; rw [← Ny139.out] at ho30)); have n0_ := Aside0.mk (Kd.R_below aq26 hb); have n1_ := Aside0.mk (Kd.R_below aq40 hb); have n2_ := Aside0.mk (Kd.R_elder' aq41 (Kd.R_base ho30) hb); have n3_ := Aside0.mk (Kd.R_below aq49 hb); have n4_ := Aside0.mk (Kd.R_below aq63 hb); have n5_ := Aside0.mk (Kd.R_lower (Kd.R_new' ho30 (Kd.R_lt aq41)) (below_size aq4)); have n6_ := Aside0.mk (blk_below (g := gb0) (o := .cells #[.int .i64 40, .int .i64 90] 31 (0, 0)) aq11 hb); have n7_ := Aside0.mk (below_step aq4 hb); clear HO122; clear HO125; clear HO129; clear HO134; clear HO137; clear BK0; clear HB; have HO122 := n0_; have HO125 := n1_; have HO129 := n2_; have HO134 := n3_; have HO137 := n4_; have HO141 := n5_; have BK0 := n6_; have HB := n7_; clear n0_ n1_ n2_ n3_ n4_ n5_ n6_ n7_; clear hb ho30; obtain ⟨hcz31_0, hcz31_1, hfz31_0, hfz31_1⟩ := czf2 BK0.out; obtain ⟨Ao32, co32, eo32⟩ := Kd.R_slice HO141.out; subst eo32) | (go_at_call 12; (with_reducible refine (spill_Word.calls k _ _ y123 _ _ y139 40 90 5 t142 _ ?side1 ?side2 ?side3 ?side4 A7.out).mono ?_); (case side1 => repeat (first | exact (Kd.R_reads' HO125.out).2.2 | (with_reducible refine Kd.C_alloc ?_ _) | (with_reducible refine Kd.C_drewN ?_ _) | (with_reducible refine Kd.C_drew ?_))); (case side2 => exact (Kd.R_reads' HO125.out).2.1); (case side3 => repeat (first | exact (Kd.R_reads' HO141.out).2.2 | (with_reducible refine Kd.C_alloc ?_ _) | (with_reducible refine Kd.C_drewN ?_ _) | (with_reducible refine Kd.C_drew ?_))); (case side4 => exact (Kd.R_reads' HO141.out).2.1); rintro e w33 ⟨rfl, hb⟩; replace HO122 := Aside0.mk (Kd.R_below aq26 hb); replace HO125 := Aside0.mk (Kd.R_below aq40 hb); replace HO129 := Aside0.mk (Kd.R_below aq41 hb); replace HO134 := Aside0.mk (Kd.R_below aq49 hb); replace HO137 := Aside0.mk (Kd.R_below aq63 hb); replace HO141 := Aside0.mk (Kd.R_below (by (with_reducible repeat (first | apply Kd.R_alloc | apply Kd.R_drewN | apply Kd.R_drew)); exact HO141.out) hb); replace BK0 := Aside0.mk (blk_below (g := gb0) (o := .cells #[.int .i64 40, .int .i64 90] 31 (0, 0)) aq11 hb); replace HB := Aside0.mk (below_step aq4 hb); (try clear hb); (try clear hb2); (try clear hk); (try clear hi); obtain ⟨hcz34_0, hcz34_1, hfz34_0, hfz34_1⟩ := czf2 BK0.out) | (go_at_call 12; (refine (spill_Word.calls k _ _ y123 _ _ ([] : List Int) 40 90 4 t143 _ ?side1 ?side2 ?side3 ?side4 A9.out).mono ?_); (case side1 => repeat (first | exact (Kd.R_reads' HO125.out).2.2 | (with_reducible refine Kd.C_alloc ?_ _) | (with_reducible refine Kd.C_drewN ?_ _) | (with_reducible refine Kd.C_drew ?_))); (case side2 => exact (Kd.R_reads' HO125.out).2.1); (case side3 => exact Kd.C_nil _ _); (case side4 => exact Nat.le_refl _); rintro e w35 ⟨rfl, hb⟩; replace HO122 := Aside0.mk (Kd.R_below aq26 hb); replace HO125 := Aside0.mk (Kd.R_below aq40 hb); replace HO129 := Aside0.mk (Kd.R_below aq41 hb); replace HO134 := Aside0.mk (Kd.R_below aq49 hb); replace HO137 := Aside0.mk (Kd.R_below aq63 hb); replace HO141 := Aside0.mk (Kd.R_below (by (with_reducible repeat (first | apply Kd.R_alloc | apply Kd.R_drewN | apply Kd.R_drew)); exact HO141.out) hb); replace BK0 := Aside0.mk (blk_below (g := gb0) (o := .cells #[.int .i64 40, .int .i64 90] 31 (0, 0)) aq11 hb); replace HB := Aside0.mk (below_step aq4 hb); (try clear hb); (try clear hb2); (try clear hk); (try clear hi)))
 go_ret
 exact ⟨aq13, aq4⟩
/-! ### palingref11_fields: function 29 -/
def palingref11_fields.f (a0 : Int) : Option (ByteArray) := (some (([(⟨#[68, 78]⟩ : ByteArray), (⟨#[68, 65]⟩ : ByteArray), (⟨#[68, 79, 65, 66]⟩ : ByteArray), (⟨#[68, 65, 66]⟩ : ByteArray), (⟨#[68, 65, 78]⟩ : ByteArray), (⟨#[65, 66, 78]⟩ : ByteArray), (⟨#[84]⟩ : ByteArray), (⟨#[65, 84]⟩ : ByteArray), (⟨#[46]⟩ : ByteArray), (⟨#[78]⟩ : ByteArray), (⟨#[78]⟩ : ByteArray), (⟨#[65]⟩ : ByteArray), (⟨#[78]⟩ : ByteArray), (⟨#[46]⟩ : ByteArray)] : List ByteArray) : List ByteArray)).bind fun y144 => (if a0 < 0 then (some (⟨#[]⟩ : ByteArray)) else (if a0 ≥ (y144.length : Int) then (some (⟨#[]⟩ : ByteArray)) else (if 0 ≤ a0 then (if a0 < (y144.length : Int) then (some (rdOf ByteArray.empty y144 a0)) else (none)) else (none))))
set_option maxHeartbeats 8000000 in
set_option maxRecDepth 100000 in
theorem palingref11_fields.calls (a0 : Int) (r : ByteArray) (w : World) (h : palingref11_fields.f a0 = some r) :
    Calls Tryd.prog 29 #[.int .i64 a0] w fun e w' => e = .returned (.string r) ∧ Below w.heap.size w w' := by
 have HB := Aside0.mk (Below.refl w.heap.size w)
 have H : ((some (([(⟨#[68, 78]⟩ : ByteArray), (⟨#[68, 65]⟩ : ByteArray), (⟨#[68, 79, 65, 66]⟩ : ByteArray), (⟨#[68, 65, 66]⟩ : ByteArray), (⟨#[68, 65, 78]⟩ : ByteArray), (⟨#[65, 66, 78]⟩ : ByteArray), (⟨#[84]⟩ : ByteArray), (⟨#[65, 84]⟩ : ByteArray), (⟨#[46]⟩ : ByteArray), (⟨#[78]⟩ : ByteArray), (⟨#[78]⟩ : ByteArray), (⟨#[65]⟩ : ByteArray), (⟨#[78]⟩ : ByteArray), (⟨#[46]⟩ : ByteArray)] : List ByteArray) : List ByteArray)).bind fun y144 => (if a0 < 0 then (some (⟨#[]⟩ : ByteArray)) else (if a0 ≥ (y144.length : Int) then (some (⟨#[]⟩ : ByteArray)) else (if 0 ≤ a0 then (if a0 < (y144.length : Int) then (some (rdOf ByteArray.empty y144 a0)) else (none)) else (none))))) = some r := h
 clear h
 obtain ⟨y144, hy_⟩ : ∃ y_ : List ByteArray, y_ = (([(⟨#[68, 78]⟩ : ByteArray), (⟨#[68, 65]⟩ : ByteArray), (⟨#[68, 79, 65, 66]⟩ : ByteArray), (⟨#[68, 65, 66]⟩ : ByteArray), (⟨#[68, 65, 78]⟩ : ByteArray), (⟨#[65, 66, 78]⟩ : ByteArray), (⟨#[84]⟩ : ByteArray), (⟨#[65, 84]⟩ : ByteArray), (⟨#[46]⟩ : ByteArray), (⟨#[78]⟩ : ByteArray), (⟨#[78]⟩ : ByteArray), (⟨#[65]⟩ : ByteArray), (⟨#[78]⟩ : ByteArray), (⟨#[46]⟩ : ByteArray)] : List ByteArray)) := ⟨_, rfl⟩
 replace H : (if a0 < 0 then (some (⟨#[]⟩ : ByteArray)) else (if a0 ≥ (y144.length : Int) then (some (⟨#[]⟩ : ByteArray)) else (if 0 ≤ a0 then (if a0 < (y144.length : Int) then (some (rdOf ByteArray.empty y144 a0)) else (none)) else (none)))) = some r := aq3
 have Ny144 := Aside0.mk hy_
 clear hy_
 by_cases c2 : a0 < 0
 ·rw [if_pos c2] at H
  have c2b0 : decide (a0 < 0) = true := decide_eq_true c2
  clear c2
  obtain rfl := Option.some.inj H
  go_enter Tryd.func29, Tryd.ntmps29
  go_wp2_with (first | ((with_reducible refine gate_dst (N := 4) rfl ?_); (try (refine gate_guard (by rfl) ?_; dsimp only)); refine Kd.R_lit Kd.string _ 9 ?hg (N := 4) ?hd (xs := ([(⟨#[68, 78]⟩ : ByteArray), (⟨#[68, 65]⟩ : ByteArray), (⟨#[68, 79, 65, 66]⟩ : ByteArray), (⟨#[68, 65, 66]⟩ : ByteArray), (⟨#[68, 65, 78]⟩ : ByteArray), (⟨#[65, 66, 78]⟩ : ByteArray), (⟨#[84]⟩ : ByteArray), (⟨#[65, 84]⟩ : ByteArray), (⟨#[46]⟩ : ByteArray), (⟨#[78]⟩ : ByteArray), (⟨#[78]⟩ : ByteArray), (⟨#[65]⟩ : ByteArray), (⟨#[78]⟩ : ByteArray), (⟨#[46]⟩ : ByteArray)] : List ByteArray)) (inner := [.string (⟨#[68, 78]⟩ : ByteArray), .string (⟨#[68, 65]⟩ : ByteArray), .string (⟨#[68, 79, 65, 66]⟩ : ByteArray), .string (⟨#[68, 65, 66]⟩ : ByteArray), .string (⟨#[68, 65, 78]⟩ : ByteArray), .string (⟨#[65, 66, 78]⟩ : ByteArray), .string (⟨#[84]⟩ : ByteArray), .string (⟨#[65, 84]⟩ : ByteArray), .string (⟨#[46]⟩ : ByteArray), .string (⟨#[78]⟩ : ByteArray), .string (⟨#[78]⟩ : ByteArray), .string (⟨#[65]⟩ : ByteArray), .string (⟨#[78]⟩ : ByteArray), .string (⟨#[46]⟩ : ByteArray)]) (ok := fun _ => True) (okp := fun _ => True) ?hr ?hp (fun _ hk => hk) trivial (Below.refl _ _) (Nat.le_refl _) (by simp) ?_; (case hd => rfl); (case hg => rfl); (case hr => first | (go_simp; done) | (go_simp; rfl)); (case hp => exact (Reps.one (show Kd.M Kd.string _ _ _ (⟨#[68, 78]⟩ : ByteArray) [.string (⟨#[68, 78]⟩ : ByteArray)] from rfl) (Reps.one (show Kd.M Kd.string _ _ _ (⟨#[68, 65]⟩ : ByteArray) [.string (⟨#[68, 65]⟩ : ByteArray)] from rfl) (Reps.one (show Kd.M Kd.string _ _ _ (⟨#[68, 79, 65, 66]⟩ : ByteArray) [.string (⟨#[68, 79, 65, 66]⟩ : ByteArray)] from rfl) (Reps.one (show Kd.M Kd.string _ _ _ (⟨#[68, 65, 66]⟩ : ByteArray) [.string (⟨#[68, 65, 66]⟩ : ByteArray)] from rfl) (Reps.one (show Kd.M Kd.string _ _ _ (⟨#[68, 65, 78]⟩ : ByteArray) [.string (⟨#[68, 65, 78]⟩ : ByteArray)] from rfl) (Reps.one (show Kd.M Kd.string _ _ _ (⟨#[65, 66, 78]⟩ : ByteArray) [.string (⟨#[65, 66, 78]⟩ : ByteArray)] from rfl) (Reps.one (show Kd.M Kd.string _ _ _ (⟨#[84]⟩ : ByteArray) [.string (⟨#[84]⟩ : ByteArray)] from rfl) (Reps.one (show Kd.M Kd.string _ _ _ (⟨#[65, 84]⟩ : ByteArray) [.string (⟨#[65, 84]⟩ : ByteArray)] from rfl) (Reps.one (show Kd.M Kd.string _ _ _ (⟨#[46]⟩ : ByteArray) [.string (⟨#[46]⟩ : ByteArray)] from rfl) (Reps.one (show Kd.M Kd.string _ _ _ (⟨#[78]⟩ : ByteArray) [.string (⟨#[78]⟩ : ByteArray)] from rfl) (Reps.one (show Kd.M Kd.string _ _ _ (⟨#[78]⟩ : ByteArray) [.string (⟨#[78]⟩ : ByteArray)] from rfl) (Reps.one (show Kd.M Kd.string _ _ _ (⟨#[65]⟩ : ByteArray) [.string (⟨#[65]⟩ : ByteArray)] from rfl) (Reps.one (show Kd.M Kd.string _ _ _ (⟨#[78]⟩ : ByteArray) [.string (⟨#[78]⟩ : ByteArray)] from rfl) (Reps.one (show Kd.M Kd.string _ _ _ (⟨#[46]⟩ : ByteArray) [.string (⟨#[46]⟩ : ByteArray)] from rfl) (Reps.none _ _)))))))))))))))); intro v145 w3 ho4 hb hg_ hnew_; clear hg_ hnew_; (first | rw [← Ny144.out] at ho4 | (simp only [Int.reduceToNat] at ho4; rw [← Ny144.out] at ho4)); have HO146 := Aside0.mk (Kd.R_lower ho4 (below_size aq0)); replace HB := Aside0.mk (below_step aq0 hb); clear hb ho4))
  go_ret
  exact ⟨aq13, aq0⟩
 rw [if_neg c2] at H
 have c2b0 : decide (a0 < 0) = false := decide_eq_false c2
 clear c2
 by_cases c5 : a0 ≥ (y144.length : Int)
 ·rw [if_pos c5] at H
  have c5b0 : decide ((y144.length : Int) ≤ a0) = true := decide_eq_true c5
  clear c5
  obtain rfl := Option.some.inj H
  go_enter Tryd.func29, Tryd.ntmps29
  go_wp2_with (first | ((with_reducible refine gate_dst (N := 4) rfl ?_); (try (refine gate_guard (by rfl) ?_; dsimp only)); refine Kd.R_lit Kd.string _ 9 ?hg (N := 4) ?hd (xs := ([(⟨#[68, 78]⟩ : ByteArray), (⟨#[68, 65]⟩ : ByteArray), (⟨#[68, 79, 65, 66]⟩ : ByteArray), (⟨#[68, 65, 66]⟩ : ByteArray), (⟨#[68, 65, 78]⟩ : ByteArray), (⟨#[65, 66, 78]⟩ : ByteArray), (⟨#[84]⟩ : ByteArray), (⟨#[65, 84]⟩ : ByteArray), (⟨#[46]⟩ : ByteArray), (⟨#[78]⟩ : ByteArray), (⟨#[78]⟩ : ByteArray), (⟨#[65]⟩ : ByteArray), (⟨#[78]⟩ : ByteArray), (⟨#[46]⟩ : ByteArray)] : List ByteArray)) (inner := [.string (⟨#[68, 78]⟩ : ByteArray), .string (⟨#[68, 65]⟩ : ByteArray), .string (⟨#[68, 79, 65, 66]⟩ : ByteArray), .string (⟨#[68, 65, 66]⟩ : ByteArray), .string (⟨#[68, 65, 78]⟩ : ByteArray), .string (⟨#[65, 66, 78]⟩ : ByteArray), .string (⟨#[84]⟩ : ByteArray), .string (⟨#[65, 84]⟩ : ByteArray), .string (⟨#[46]⟩ : ByteArray), .string (⟨#[78]⟩ : ByteArray), .string (⟨#[78]⟩ : ByteArray), .string (⟨#[65]⟩ : ByteArray), .string (⟨#[78]⟩ : ByteArray), .string (⟨#[46]⟩ : ByteArray)]) (ok := fun _ => True) (okp := fun _ => True) ?hr ?hp (fun _ hk => hk) trivial (Below.refl _ _) (Nat.le_refl _) (by simp) ?_; (case hd => rfl); (case hg => rfl); (case hr => first | (go_simp; done) | (go_simp; rfl)); (case hp => exact (Reps.one (show Kd.M Kd.string _ _ _ (⟨#[68, 78]⟩ : ByteArray) [.string (⟨#[68, 78]⟩ : ByteArray)] from rfl) (Reps.one (show Kd.M Kd.string _ _ _ (⟨#[68, 65]⟩ : ByteArray) [.string (⟨#[68, 65]⟩ : ByteArray)] from rfl) (Reps.one (show Kd.M Kd.string _ _ _ (⟨#[68, 79, 65, 66]⟩ : ByteArray) [.string (⟨#[68, 79, 65, 66]⟩ : ByteArray)] from rfl) (Reps.one (show Kd.M Kd.string _ _ _ (⟨#[68, 65, 66]⟩ : ByteArray) [.string (⟨#[68, 65, 66]⟩ : ByteArray)] from rfl) (Reps.one (show Kd.M Kd.string _ _ _ (⟨#[68, 65, 78]⟩ : ByteArray) [.string (⟨#[68, 65, 78]⟩ : ByteArray)] from rfl) (Reps.one (show Kd.M Kd.string _ _ _ (⟨#[65, 66, 78]⟩ : ByteArray) [.string (⟨#[65, 66, 78]⟩ : ByteArray)] from rfl) (Reps.one (show Kd.M Kd.string _ _ _ (⟨#[84]⟩ : ByteArray) [.string (⟨#[84]⟩ : ByteArray)] from rfl) (Reps.one (show Kd.M Kd.string _ _ _ (⟨#[65, 84]⟩ : ByteArray) [.string (⟨#[65, 84]⟩ : ByteArray)] from rfl) (Reps.one (show Kd.M Kd.string _ _ _ (⟨#[46]⟩ : ByteArray) [.string (⟨#[46]⟩ : ByteArray)] from rfl) (Reps.one (show Kd.M Kd.string _ _ _ (⟨#[78]⟩ : ByteArray) [.string (⟨#[78]⟩ : ByteArray)] from rfl) (Reps.one (show Kd.M Kd.string _ _ _ (⟨#[78]⟩ : ByteArray) [.string (⟨#[78]⟩ : ByteArray)] from rfl) (Reps.one (show Kd.M Kd.string _ _ _ (⟨#[65]⟩ : ByteArray) [.string (⟨#[65]⟩ : ByteArray)] from rfl) (Reps.one (show Kd.M Kd.string _ _ _ (⟨#[78]⟩ : ByteArray) [.string (⟨#[78]⟩ : ByteArray)] from rfl) (Reps.one (show Kd.M Kd.string _ _ _ (⟨#[46]⟩ : ByteArray) [.string (⟨#[46]⟩ : ByteArray)] from rfl) (Reps.none _ _)))))))))))))))); intro v145 w6 ho7 hb hg_ hnew_; clear hg_ hnew_; (first | rw [← Ny144.out] at ho7 | (simp only [Int.reduceToNat] at ho7; rw [← Ny144.out] at ho7)); have HO146 := Aside0.mk (Kd.R_lower ho7 (below_size aq0)); replace HB := Aside0.mk (below_step aq0 hb); clear hb ho7; obtain ⟨Ao8, co8, eo8⟩ := Kd.R_slice HO146.out; subst eo8))
  go_ret
  exact ⟨aq13, aq0⟩
 rw [if_neg c5] at H
 have c5b0 : decide ((y144.length : Int) ≤ a0) = false := decide_eq_false c5
 clear c5
 by_cases c9 : 0 ≤ a0
 rotate_left
 ·rw [if_neg c9] at H
  exact absurd H (by simp)
 rw [if_pos c9] at H
 have c9b0 : decide (0 ≤ a0) = true := decide_eq_true c9
 clear c9
 by_cases c10 : a0 < (y144.length : Int)
 rotate_left
 ·rw [if_neg c10] at H
  exact absurd H (by simp)
 rw [if_pos c10] at H
 have c10b0 : decide (a0 < (y144.length : Int)) = true := decide_eq_true c10
 clear c10
 obtain rfl := Option.some.inj H
 go_enter Tryd.func29, Tryd.ntmps29
 go_wp2_with (first | ((with_reducible refine gate_dst (N := 4) rfl ?_); (try (refine gate_guard (by rfl) ?_; dsimp only)); refine Kd.R_lit Kd.string _ 9 ?hg (N := 4) ?hd (xs := ([(⟨#[68, 78]⟩ : ByteArray), (⟨#[68, 65]⟩ : ByteArray), (⟨#[68, 79, 65, 66]⟩ : ByteArray), (⟨#[68, 65, 66]⟩ : ByteArray), (⟨#[68, 65, 78]⟩ : ByteArray), (⟨#[65, 66, 78]⟩ : ByteArray), (⟨#[84]⟩ : ByteArray), (⟨#[65, 84]⟩ : ByteArray), (⟨#[46]⟩ : ByteArray), (⟨#[78]⟩ : ByteArray), (⟨#[78]⟩ : ByteArray), (⟨#[65]⟩ : ByteArray), (⟨#[78]⟩ : ByteArray), (⟨#[46]⟩ : ByteArray)] : List ByteArray)) (inner := [.string (⟨#[68, 78]⟩ : ByteArray), .string (⟨#[68, 65]⟩ : ByteArray), .string (⟨#[68, 79, 65, 66]⟩ : ByteArray), .string (⟨#[68, 65, 66]⟩ : ByteArray), .string (⟨#[68, 65, 78]⟩ : ByteArray), .string (⟨#[65, 66, 78]⟩ : ByteArray), .string (⟨#[84]⟩ : ByteArray), .string (⟨#[65, 84]⟩ : ByteArray), .string (⟨#[46]⟩ : ByteArray), .string (⟨#[78]⟩ : ByteArray), .string (⟨#[78]⟩ : ByteArray), .string (⟨#[65]⟩ : ByteArray), .string (⟨#[78]⟩ : ByteArray), .string (⟨#[46]⟩ : ByteArray)]) (ok := fun _ => True) (okp := fun _ => True) ?hr ?hp (fun _ hk => hk) trivial (Below.refl _ _) (Nat.le_refl _) (by simp) ?_; (case hd => rfl); (case hg => rfl); (case hr => first | (go_simp; done) | (go_simp; rfl)); (case hp => exact (Reps.one (show Kd.M Kd.string _ _ _ (⟨#[68, 78]⟩ : ByteArray) [.string (⟨#[68, 78]⟩ : ByteArray)] from rfl) (Reps.one (show Kd.M Kd.string _ _ _ (⟨#[68, 65]⟩ : ByteArray) [.string (⟨#[68, 65]⟩ : ByteArray)] from rfl) (Reps.one (show Kd.M Kd.string _ _ _ (⟨#[68, 79, 65, 66]⟩ : ByteArray) [.string (⟨#[68, 79, 65, 66]⟩ : ByteArray)] from rfl) (Reps.one (show Kd.M Kd.string _ _ _ (⟨#[68, 65, 66]⟩ : ByteArray) [.string (⟨#[68, 65, 66]⟩ : ByteArray)] from rfl) (Reps.one (show Kd.M Kd.string _ _ _ (⟨#[68, 65, 78]⟩ : ByteArray) [.string (⟨#[68, 65, 78]⟩ : ByteArray)] from rfl) (Reps.one (show Kd.M Kd.string _ _ _ (⟨#[65, 66, 78]⟩ : ByteArray) [.string (⟨#[65, 66, 78]⟩ : ByteArray)] from rfl) (Reps.one (show Kd.M Kd.string _ _ _ (⟨#[84]⟩ : ByteArray) [.string (⟨#[84]⟩ : ByteArray)] from rfl) (Reps.one (show Kd.M Kd.string _ _ _ (⟨#[65, 84]⟩ : ByteArray) [.string (⟨#[65, 84]⟩ : ByteArray)] from rfl) (Reps.one (show Kd.M Kd.string _ _ _ (⟨#[46]⟩ : ByteArray) [.string (⟨#[46]⟩ : ByteArray)] from rfl) (Reps.one (show Kd.M Kd.string _ _ _ (⟨#[78]⟩ : ByteArray) [.string (⟨#[78]⟩ : ByteArray)] from rfl) (Reps.one (show Kd.M Kd.string _ _ _ (⟨#[78]⟩ : ByteArray) [.string (⟨#[78]⟩ : ByteArray)] from rfl) (Reps.one (show Kd.M Kd.string _ _ _ (⟨#[65]⟩ : ByteArray) [.string (⟨#[65]⟩ : ByteArray)] from rfl) (Reps.one (show Kd.M Kd.string _ _ _ (⟨#[78]⟩ : ByteArray) [.string (⟨#[78]⟩ : ByteArray)] from rfl) (Reps.one (show Kd.M Kd.string _ _ _ (⟨#[46]⟩ : ByteArray) [.string (⟨#[46]⟩ : ByteArray)] from rfl) (Reps.none _ _)))))))))))))))); intro v145 w11 ho12 hb hg_ hnew_; clear hg_ hnew_; (first | rw [← Ny144.out] at ho12 | (simp only [Int.reduceToNat] at ho12; rw [← Ny144.out] at ho12)); have HO146 := Aside0.mk (Kd.R_lower ho12 (below_size aq0)); replace HB := Aside0.mk (below_step aq0 hb); clear hb ho12; obtain ⟨Ao13, co13, eo13⟩ := Kd.R_slice HO146.out; subst eo13; have p147 : 0 ≤ (a0 : Int) := of_decide_eq_true aq2; have q147 : a0 < (y144.length : Int) := of_decide_eq_true aq2; obtain ⟨ad147, e147, hx147_0⟩ := Kd.at_string (Kd.R_reads' HO146.out).2.2 a0 p147 q147; cases e147; replace p147 := eq_true p147; replace q147 := eq_true q147))
 go_ret
 exact ⟨aq13, aq0⟩
/-! ### palingref11_reg: function 30 -/
def palingref11_reg.f (a0 : Int) (a1 : Int) (a2 : Bool) (a3 : Bool) : Option (Bool) := if a2 = true then (if a0 ≥ 0 then (if a0 < a1 then (some true) else (if a3 = true then (some (a0 == (-1))) else (some false))) else (if a3 = true then (some (a0 == (-1))) else (some false))) else (some (a0 == 0))
set_option maxHeartbeats 8000000 in
set_option maxRecDepth 100000 in
theorem palingref11_reg.calls (a0 : Int) (a1 : Int) (a2 : Bool) (a3 : Bool) (r : Bool) (w : World) (h : palingref11_reg.f a0 a1 a2 a3 = some r) :
    Calls Tryd.prog 30 #[.int .i64 a0, .int .i64 a1, .bool a2, .bool a3] w fun e w' => e = .returned (.bool r) ∧ Drawn0 w w' := by
 have H : (if a2 = true then (if a0 ≥ 0 then (if a0 < a1 then (some true) else (if a3 = true then (some (a0 == (-1))) else (some false))) else (if a3 = true then (some (a0 == (-1))) else (some false))) else (some (a0 == 0))) = some r := h
 clear h
 by_cases c5 : a2 = true
 rotate_left
 ·replace c5 := Bool.eq_false_iff.mpr c5
  subst c5
  rw [if_neg nf_] at H
  obtain rfl := Option.some.inj H
  go_enter Tryd.func30, Tryd.ntmps30
  go_wp2
  go_ret
  exact ⟨aq7, aq16⟩
 subst c5
 rw [if_pos rfl] at H
 by_cases c6 : a0 ≥ 0
 rotate_left
 ·rw [if_neg c6] at H
  have c6b0 : decide (0 ≤ a0) = false := decide_eq_false c6
  clear c6
  by_cases c9 : a3 = true
  ·subst c9
   rw [if_pos rfl] at H
   obtain rfl := Option.some.inj H
   go_enter Tryd.func30, Tryd.ntmps30
   go_wp2
   go_ret
   exact ⟨aq7, aq16⟩
  replace c9 := Bool.eq_false_iff.mpr c9
  subst c9
  rw [if_neg nf_] at H
  obtain rfl := Option.some.inj H
  go_enter Tryd.func30, Tryd.ntmps30
  go_wp2
  go_ret
  exact ⟨aq7, aq16⟩
 rw [if_pos c6] at H
 have c6b0 : decide (0 ≤ a0) = true := decide_eq_true c6
 clear c6
 by_cases c7 : a0 < a1
 ·rw [if_pos c7] at H
  have c7b0 : decide (a0 < a1) = true := decide_eq_true c7
  clear c7
  obtain rfl := Option.some.inj H
  go_enter Tryd.func30, Tryd.ntmps30
  go_wp2
  go_ret
  exact ⟨aq7, aq16⟩
 rw [if_neg c7] at H
 have c7b0 : decide (a0 < a1) = false := decide_eq_false c7
 clear c7
 by_cases c8 : a3 = true
 ·subst c8
  rw [if_pos rfl] at H
  obtain rfl := Option.some.inj H
  go_enter Tryd.func30, Tryd.ntmps30
  go_wp2
  go_ret
  exact ⟨aq7, aq16⟩
 replace c8 := Bool.eq_false_iff.mpr c8
 subst c8
 rw [if_neg nf_] at H
 obtain rfl := Option.some.inj H
 go_enter Tryd.func30, Tryd.ntmps30
 go_wp2
 go_ret
 exact ⟨aq7, aq16⟩
/-! ### palingref11_Has: function 31 -/
def palingref11_Has.l0 : Nat → ByteArray → Int → Int → Option (Bool)
  | 0, _, _, _ => none
  | k + 1, x0, x1, x5 => if x5 < (x0.size : Int) then (if 0 ≤ x5 then (if (bt x0 x5) = x1 then (some true) else (palingref11_Has.l0 k x0 x1 (wrap64 (x5 + 1)))) else (none)) else (some false)
def palingref11_Has.f (k : Nat) (a0 : ByteArray) (a1 : Int) : Option (Bool) := palingref11_Has.l0 k a0 a1 0
theorem palingref11_Has.mono_l : ∀ k, (∀ y0 y1 y2, LeO (palingref11_Has.l0 k y0 y1 y2) (palingref11_Has.l0 (k + 1) y0 y1 y2))
  | 0 => fun _ _ _ r h => by simp [palingref11_Has.l0] at h
  | k + 1 => by
    have ih0 := palingref11_Has.mono_l k
    intros <;> unfold palingref11_Has.l0 <;> repeat' (first | (with_reducible first | exact ih0 _ _ _ | exact LeO.refl _ | exact LeO.none _ | refine LeO.ite ?_ ?_ | refine LeO.bind ?_ (fun _ => ?_)) | exact ih0 _ _ _ | exact LeO.none _ | refine LeO.ite ?_ ?_ | refine LeO.bind ?_ (fun _ => ?_))
theorem palingref11_Has.mono : ∀ a0 a1 k, LeO (palingref11_Has.f k a0 a1) (palingref11_Has.f (k + 1) a0 a1) := by
 intro a0 a1 k
 have ih0 := palingref11_Has.mono_l k
 unfold palingref11_Has.f
 repeat' (first | (with_reducible first | exact ih0 _ _ _ | exact LeO.refl _ | exact LeO.none _ | refine LeO.ite ?_ ?_ | refine LeO.bind ?_ (fun _ => ?_)) | exact ih0 _ _ _ | exact LeO.none _ | refine LeO.ite ?_ ?_ | refine LeO.bind ?_ (fun _ => ?_))
set_option maxHeartbeats 8000000 in
set_option maxRecDepth 100000 in
theorem palingref11_Has.calls (k : Nat) (a0 : ByteArray) (a1 : Int) (r : Bool) (w : World) (h : palingref11_Has.f k a0 a1 = some r) :
    Calls Tryd.prog 31 #[.string a0, .int .u8 a1] w fun e w' => e = .returned (.bool r) ∧ Drawn0 w w' := by
 have H : (palingref11_Has.l0 k a0 a1 0) = some r := h
 clear h
 have H' := Aside0.mk H
 clear H
 go_enter Tryd.func31, Tryd.ntmps31
 go_wp2
 go_loopg [5] k (fun kq v5 w' => ∃ (x5_1 : Int), v5 = .int .i64 x5_1 ∧ Aside0 (palingref11_Has.l0 kq a0 a1 x5_1 = some r) ∧ Aside0 (kq ≤ k) ∧ Drawn0 w w')
 case atStart => exact ⟨(0), aq7, H', ⟨Nat.le_refl _⟩, aq16⟩
 case round =>
  clear H'
  obtain ⟨x5_1, rfl, HA, HK1, ⟨m1, rfl⟩⟩ := hrel
  cases gk with
  | zero => exact absurd HA.out (by simp [palingref11_Has.l0])
  | succ k1 =>
   have H := HA.out
   clear HA
   simp only [palingref11_Has.l0] at H
   by_cases c3 : x5_1 < (a0.size : Int)
   rotate_left
   ·rw [if_neg c3] at H
    have c3b0 : decide (x5_1 < (a0.size : Int)) = false := decide_eq_false c3
    clear c3
    obtain rfl := Option.some.inj H
    go_wp2
    go_ret
    exact ⟨aq7, aq16⟩
   rw [if_pos c3] at H
   have c3b0 : decide (x5_1 < (a0.size : Int)) = true := decide_eq_true c3
   clear c3
   by_cases c4 : 0 ≤ x5_1
   rotate_left
   ·rw [if_neg c4] at H
    exact absurd H (by simp)
   rw [if_pos c4] at H
   have c4b0 : decide (0 ≤ x5_1) = true := decide_eq_true c4
   clear c4
   by_cases c6 : (bt a0 x5_1) = a1
   ·rw [if_pos c6] at H
    have c6b0 : ((bt a0 x5_1) == a1) = true := beq_iff_eq.mpr c6
    have c6b1 : ((bt a0 x5_1) != a1) = false := bne_eq_false_iff_eq.mpr c6
    clear c6
    obtain rfl := Option.some.inj H
    have p5 : 0 ≤ (x5_1 : Int) := of_decide_eq_true aq2
    have q5 : x5_1 < (a0.size : Int) := of_decide_eq_true aq2
    have hx5 := bt_at a0 x5_1
    replace p5 := eq_true p5
    replace q5 := eq_true q5
    go_wp2
    go_ret
    exact ⟨aq7, aq16⟩
   rw [if_neg c6] at H
   have c6b0 : ((bt a0 x5_1) == a1) = false := beq_eq_false_iff_ne.mpr c6
   have c6b1 : ((bt a0 x5_1) != a1) = true := bne_iff_ne.mpr c6
   have H' := Aside0.mk H
   clear H
   have p5 : 0 ≤ (x5_1 : Int) := of_decide_eq_true aq2
   have q5 : x5_1 < (a0.size : Int) := of_decide_eq_true aq2
   have hx5 := bt_at a0 x5_1
   replace p5 := eq_true p5
   replace q5 := eq_true q5
   go_wp2
   go_roundg k1
   case measure => have := HK1.out; omega
   case rel => exact ⟨(wrap64 (x5_1 + 1)), aq7, H', ⟨aq55⟩, aq16⟩
/-! ### palingref11_number: function 32 -/
mutual
def palingref11_number.j0 : Nat → Int → Int → Bool → Int → Int → Int → Int → Int → Int → Int → Option (Bool)
  | 0, _, _, _, _, _, _, _, _, _, _ => none
  | k + 1, x1, x6, x7, x149000, x149001, x149002, x149003, x149004, x149005, x149006 => if x7 = true then (if x149005 ≥ 0 then (some (decide (x149005 ≤ 65535))) else (some false)) else (if x6 = 9 then (palingref11_number.j1 k x1 x6 (x6 == 9) x149000 x149001 x149002 x149003 x149004 x149005 x149006) else (palingref11_number.j1 k x1 x6 (x6 == 10) x149000 x149001 x149002 x149003 x149004 x149005 x149006))
def palingref11_number.j1 : Nat → Int → Int → Bool → Int → Int → Int → Int → Int → Int → Int → Option (Bool)
  | 0, _, _, _, _, _, _, _, _, _, _ => none
  | k + 1, x1, x6, x18, x149000, x149001, x149002, x149003, x149004, x149005, x149006 => if x18 = true then (if x149005 ≥ 0 then (some (decide (x149005 < x1))) else (some false)) else (if x6 = 12 then (if x149005 = 1 then (some true) else (some (x149005 == 2))) else (some true))
end
def palingref11_number.f (k : Nat) (a0_0 : Int) (a0_1 : Int) (a0_2 : Int) (a0_3 : Int) (a0_4 : Int) (a0_5 : Int) (a0_6 : Int) (a1 : Int) : Option (Bool) := if a0_0 = 4 then (palingref11_number.j0 k a1 a0_0 (a0_0 == 4) a0_0 a0_1 a0_2 a0_3 a0_4 a0_5 a0_6) else (palingref11_number.j0 k a1 a0_0 (a0_0 == 5) a0_0 a0_1 a0_2 a0_3 a0_4 a0_5 a0_6)
theorem palingref11_number.mono_l : ∀ k, (∀ y0 y1 y2 y3 y4 y5 y6 y7 y8 y9, LeO (palingref11_number.j0 k y0 y1 y2 y3 y4 y5 y6 y7 y8 y9) (palingref11_number.j0 (k + 1) y0 y1 y2 y3 y4 y5 y6 y7 y8 y9)) ∧ (∀ y0 y1 y2 y3 y4 y5 y6 y7 y8 y9, LeO (palingref11_number.j1 k y0 y1 y2 y3 y4 y5 y6 y7 y8 y9) (palingref11_number.j1 (k + 1) y0 y1 y2 y3 y4 y5 y6 y7 y8 y9))
  | 0 => ⟨fun _ _ _ _ _ _ _ _ _ _ r h => by simp [palingref11_number.j0] at h, fun _ _ _ _ _ _ _ _ _ _ r h => by simp [palingref11_number.j1] at h⟩
  | k + 1 => by
    obtain ⟨ih0, ih1⟩ := palingref11_number.mono_l k
    refine ⟨?_, ?_⟩ <;> intros <;> (first | unfold palingref11_number.j0 | unfold palingref11_number.j1) <;> repeat' (first | (with_reducible first | exact ih0 _ _ _ _ _ _ _ _ _ _ | exact ih1 _ _ _ _ _ _ _ _ _ _ | exact LeO.refl _ | exact LeO.none _ | refine LeO.ite ?_ ?_ | refine LeO.bind ?_ (fun _ => ?_)) | exact ih0 _ _ _ _ _ _ _ _ _ _ | exact ih1 _ _ _ _ _ _ _ _ _ _ | exact LeO.none _ | refine LeO.ite ?_ ?_ | refine LeO.bind ?_ (fun _ => ?_))
theorem palingref11_number.mono : ∀ a0 a1 a2 a3 a4 a5 a6 a7 k, LeO (palingref11_number.f k a0 a1 a2 a3 a4 a5 a6 a7) (palingref11_number.f (k + 1) a0 a1 a2 a3 a4 a5 a6 a7) := by
 intro a0 a1 a2 a3 a4 a5 a6 a7 k
 obtain ⟨ih0, ih1⟩ := palingref11_number.mono_l k
 unfold palingref11_number.f
 repeat' (first | (with_reducible first | exact ih0 _ _ _ _ _ _ _ _ _ _ | exact ih1 _ _ _ _ _ _ _ _ _ _ | exact LeO.refl _ | exact LeO.none _ | refine LeO.ite ?_ ?_ | refine LeO.bind ?_ (fun _ => ?_)) | exact ih0 _ _ _ _ _ _ _ _ _ _ | exact ih1 _ _ _ _ _ _ _ _ _ _ | exact LeO.none _ | refine LeO.ite ?_ ?_ | refine LeO.bind ?_ (fun _ => ?_))
set_option maxHeartbeats 8000000 in
set_option maxRecDepth 100000 in
theorem palingref11_number.calls (k : Nat) (a0_0 : Int) (a0_1 : Int) (a0_2 : Int) (a0_3 : Int) (a0_4 : Int) (a0_5 : Int) (a0_6 : Int) (a1 : Int) (r : Bool) (w : World) (h : palingref11_number.f k a0_0 a0_1 a0_2 a0_3 a0_4 a0_5 a0_6 a1 = some r) :
    Calls Tryd.prog 32 #[.agg #[.int .i64 a0_0, .int .i64 a0_1, .int .i64 a0_2, .int .i64 a0_3, .int .i64 a0_4, .int .i64 a0_5, .int .i64 a0_6], .int .i64 a1] w fun e w' => e = .returned (.bool r) ∧ Below w.heap.size w w' := by
 have hu48 := Tryd.underlying48
 have HB := Aside0.mk (Below.refl w.heap.size w)
 have H : (if a0_0 = 4 then (palingref11_number.j0 k a1 a0_0 (a0_0 == 4) a0_0 a0_1 a0_2 a0_3 a0_4 a0_5 a0_6) else (palingref11_number.j0 k a1 a0_0 (a0_0 == 5) a0_0 a0_1 a0_2 a0_3 a0_4 a0_5 a0_6)) = some r := h
 clear h
 have HC3 := Aside0.mk H
 clear H
 go_enter Tryd.func32, Tryd.ntmps32
 go_upto_if 7 with (first | ((with_reducible refine gate_dst (N := 2) rfl ?_); refine box_event ?hg (N := 2) ?hd (cs := #[.int .i64 a0_0, .int .i64 a0_1, .int .i64 a0_2, .int .i64 a0_3, .int .i64 a0_4, .int .i64 a0_5, .int .i64 a0_6]) (t := 48) ?hr ?_; (case hd => rfl); (case hg => rfl); (case hr => first | (go_simp; done) | (go_simp; rfl)); intro gb0 hg w4 hbox hb; have BK0 := Aside0.mk (hbox); have GW0 := Aside0.mk ((by rw [hg]; exact (below_size aq0) : w.heap.size ≤ gb0)); have GE0 := Aside0.mk ((by rw [hg]; exact (below_size aq0) : w.heap.size ≤ gb0)); replace HB := Aside0.mk (below_step aq0 hb); clear hb hbox hg; obtain ⟨hcz5_0, hcz5_1, hcz5_2, hcz5_3, hcz5_4, hcz5_5, hcz5_6, hfz5_0, hfz5_1, hfz5_2, hfz5_3, hfz5_4, hfz5_5, hfz5_6⟩ := czf7 BK0.out))
 (try simp only [Act.put, List.setIfInBounds_toArray, List.set_cons_zero, List.set_cons_succ])
 go_cut [7] (fun v7 wc => ∃ (kq : Nat) (x7_2 : Bool), v7 = .bool x7_2 ∧ Aside0 (palingref11_number.j0 kq a1 a0_0 x7_2 a0_0 a0_1 a0_2 a0_3 a0_4 a0_5 a0_6 = some r) ∧ Aside0 (kq ≤ k) ∧ Aside0 (wc.heap[gb0]? = some (.cells #[.int .i64 a0_0, .int .i64 a0_1, .int .i64 a0_2, .int .i64 a0_3, .int .i64 a0_4, .int .i64 a0_5, .int .i64 a0_6] 48 (0, 0))) ∧ Aside0 (Below w.heap.size w wc))
 case first =>
  have H := HC3.out
  clear HC3
  by_cases c6 : a0_0 = 4
  rotate_left
  ·rw [if_neg c6] at H
   have c6b0 : (a0_0 == 4) = false := beq_eq_false_iff_ne.mpr c6
   have c6b1 : (a0_0 != 4) = true := bne_iff_ne.mpr c6
   (first | rw [c6b0] | (simp only [i64_w, i32_w]; rw [c6b0]) | skip)
   have H' := Aside0.mk H
   clear H
   go_wp2
   go_meet
   case rel => exact ⟨_, ((a0_0 == 5)), aq7, H', ⟨aq50⟩, ⟨aq11⟩, ⟨aq4⟩⟩
  rw [if_pos c6] at H
  have c6b0 : (a0_0 == 4) = true := beq_iff_eq.mpr c6
  have c6b1 : (a0_0 != 4) = false := bne_eq_false_iff_eq.mpr c6
  clear c6
  (first | rw [c6b0] | (simp only [i64_w, i32_w]; rw [c6b0]) | skip)
  have H' := Aside0.mk H
  clear H
  go_wp2
  go_meet
  case rel => exact ⟨_, ((a0_0 == 4)), aq7, H', ⟨aq50⟩, ⟨aq11⟩, ⟨aq4⟩⟩
 case rest =>
  clear HC3
  obtain ⟨kq, x7_2, rfl, HA, HJ2, BK0, HB⟩ := hcut
  cases kq with
  | zero => exact absurd HA.out (by simp [palingref11_number.j0])
  | succ kj2 =>
   have H := HA.out
   clear HA
   simp only [palingref11_number.j0] at H
   by_cases c7 : x7_2 = true
   ·subst c7
    rw [if_pos rfl] at H
    by_cases c8 : a0_5 ≥ 0
    ·rw [if_pos c8] at H
     have c8b0 : decide (0 ≤ a0_5) = true := decide_eq_true c8
     clear c8
     obtain rfl := Option.some.inj H
     obtain ⟨hcz9_0, hcz9_1, hcz9_2, hcz9_3, hcz9_4, hcz9_5, hcz9_6, hfz9_0, hfz9_1, hfz9_2, hfz9_3, hfz9_4, hfz9_5, hfz9_6⟩ := czf7 BK0.out
     go_wp2
     go_ret
     exact ⟨aq13, aq4⟩
    rw [if_neg c8] at H
    have c8b0 : decide (0 ≤ a0_5) = false := decide_eq_false c8
    clear c8
    obtain rfl := Option.some.inj H
    obtain ⟨hcz10_0, hcz10_1, hcz10_2, hcz10_3, hcz10_4, hcz10_5, hcz10_6, hfz10_0, hfz10_1, hfz10_2, hfz10_3, hfz10_4, hfz10_5, hfz10_6⟩ := czf7 BK0.out
    go_wp2
    go_ret
    exact ⟨aq13, aq4⟩
   replace c7 := Bool.eq_false_iff.mpr c7
   subst c7
   rw [if_neg nf_] at H
   have HC11 := Aside0.mk H
   clear H
   go_upto_if 18 with (fail)
   go_cut [18] (fun v18 wc => ∃ (kq : Nat) (x18_10 : Bool), v18 = .bool x18_10 ∧ Aside0 (palingref11_number.j1 kq a1 a0_0 x18_10 a0_0 a0_1 a0_2 a0_3 a0_4 a0_5 a0_6 = some r) ∧ Aside0 (kq ≤ kj2) ∧ Aside0 (wc.heap[gb0]? = some (.cells #[.int .i64 a0_0, .int .i64 a0_1, .int .i64 a0_2, .int .i64 a0_3, .int .i64 a0_4, .int .i64 a0_5, .int .i64 a0_6] 48 (0, 0))) ∧ Aside0 (Below w.heap.size w wc))
   case first =>
    have H := HC11.out
    clear HC11
    by_cases c12 : a0_0 = 9
    rotate_left
    ·rw [if_neg c12] at H
     have c12b0 : (a0_0 == 9) = false := beq_eq_false_iff_ne.mpr c12
     have c12b1 : (a0_0 != 9) = true := bne_iff_ne.mpr c12
     (first | rw [c12b0] | (simp only [i64_w, i32_w]; rw [c12b0]) | skip)
     have H' := Aside0.mk H
     clear H
     go_wp2
     go_meet
     case rel => exact ⟨_, ((a0_0 == 10)), aq7, H', ⟨aq61⟩, ⟨aq11⟩, ⟨aq4⟩⟩
    rw [if_pos c12] at H
    have c12b0 : (a0_0 == 9) = true := beq_iff_eq.mpr c12
    have c12b1 : (a0_0 != 9) = false := bne_eq_false_iff_eq.mpr c12
    clear c12
    (first | rw [c12b0] | (simp only [i64_w, i32_w]; rw [c12b0]) | skip)
    have H' := Aside0.mk H
    clear H
    go_wp2
    go_meet
    case rel => exact ⟨_, ((a0_0 == 9)), aq7, H', ⟨aq61⟩, ⟨aq11⟩, ⟨aq4⟩⟩
   case rest =>
    clear HC11
    obtain ⟨kq, x18_10, rfl, HA, HJ10, BK0, HB⟩ := hcut
    cases kq with
    | zero => exact absurd HA.out (by simp [palingref11_number.j1])
    | succ kj10 =>
     have H := HA.out
     clear HA
     simp only [palingref11_number.j1] at H
     by_cases c13 : x18_10 = true
     ·subst c13
      rw [if_pos rfl] at H
      by_cases c14 : a0_5 ≥ 0
      ·rw [if_pos c14] at H
       have c14b0 : decide (0 ≤ a0_5) = true := decide_eq_true c14
       clear c14
       obtain rfl := Option.some.inj H
       obtain ⟨hcz15_0, hcz15_1, hcz15_2, hcz15_3, hcz15_4, hcz15_5, hcz15_6, hfz15_0, hfz15_1, hfz15_2, hfz15_3, hfz15_4, hfz15_5, hfz15_6⟩ := czf7 BK0.out
       go_wp2
       go_ret
       exact ⟨aq13, aq4⟩
      rw [if_neg c14] at H
      have c14b0 : decide (0 ≤ a0_5) = false := decide_eq_false c14
      clear c14
      obtain rfl := Option.some.inj H
      obtain ⟨hcz16_0, hcz16_1, hcz16_2, hcz16_3, hcz16_4, hcz16_5, hcz16_6, hfz16_0, hfz16_1, hfz16_2, hfz16_3, hfz16_4, hfz16_5, hfz16_6⟩ := czf7 BK0.out
      go_wp2
      go_ret
      exact ⟨aq13, aq4⟩
     replace c13 := Bool.eq_false_iff.mpr c13
     subst c13
     rw [if_neg nf_] at H
     by_cases c17 : a0_0 = 12
     rotate_left
     ·rw [if_neg c17] at H
      have c17b0 : (a0_0 == 12) = false := beq_eq_false_iff_ne.mpr c17
      have c17b1 : (a0_0 != 12) = true := bne_iff_ne.mpr c17
      obtain rfl := Option.some.inj H
      go_wp2
      go_ret
      exact ⟨aq13, aq4⟩
     rw [if_pos c17] at H
     have c17b0 : (a0_0 == 12) = true := beq_iff_eq.mpr c17
     have c17b1 : (a0_0 != 12) = false := bne_eq_false_iff_eq.mpr c17
     clear c17
     by_cases c18 : a0_5 = 1
     rotate_left
     ·rw [if_neg c18] at H
      have c18b0 : (a0_5 == 1) = false := beq_eq_false_iff_ne.mpr c18
      have c18b1 : (a0_5 != 1) = true := bne_iff_ne.mpr c18
      obtain rfl := Option.some.inj H
      obtain ⟨hcz20_0, hcz20_1, hcz20_2, hcz20_3, hcz20_4, hcz20_5, hcz20_6, hfz20_0, hfz20_1, hfz20_2, hfz20_3, hfz20_4, hfz20_5, hfz20_6⟩ := czf7 BK0.out
      go_wp2
      go_ret
      exact ⟨aq13, aq4⟩
     rw [if_pos c18] at H
     have c18b0 : (a0_5 == 1) = true := beq_iff_eq.mpr c18
     have c18b1 : (a0_5 != 1) = false := bne_eq_false_iff_eq.mpr c18
     clear c18
     obtain rfl := Option.some.inj H
     obtain ⟨hcz19_0, hcz19_1, hcz19_2, hcz19_3, hcz19_4, hcz19_5, hcz19_6, hfz19_0, hfz19_1, hfz19_2, hfz19_3, hfz19_4, hfz19_5, hfz19_6⟩ := czf7 BK0.out
     go_wp2
     go_ret
     exact ⟨aq13, aq4⟩
end Go.Proofs.YtpbhfpbfmpocdaaDoor.PSpillNone
