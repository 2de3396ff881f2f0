-- Written by print2.py over the kit's printer. Not trusted: Lean checks it.
import Derived.Test.YtfhjkkcdeigkdaaDoorPFoldRunshqq
import Derived.Test.YtfhjkkcdeigkdaaDoorPFoldRunsx0
import Derived.Test.YtfhjkkcdeigkdaaDoorPFoldRunsx5
import Derived.Test.YtfhjkkcdeigkdaaDoorPFoldRunshg4
namespace Go.Proofs.YtfhjkkcdeigkdaaDoor.PFoldRuns
open Go.RowKit Go.Proofs.YtfhjkkcdeigkdaaDoorW.PrintWords Go.Proofs.YtfhjkkcdeigkdaaDoorW.PrintLast Go.Proofs.YtfhjkkcdeigkdaaDoorW.PrintMore
attribute [local go_sem] max2_int min2_int max_two min_two max_three min_three max_four min_four   -- for this text's walks alone
set_option linter.unusedVariables false
set_option linter.unusedSimpArgs false

/-! ### palinglaw16_awake: function 7 -/
def palinglaw16_awake.f (k : Nat)  : Option (Bool) := (fold_Code.f k (([(⟨0, 0, 0, 0, 0, 2, 0⟩ : S53), (⟨2, 2, 1, 0, 0, 0, 0⟩ : S53), (⟨7, 0, 0, 1, 0, 0, 3⟩ : S53), (⟨13, 0, 0, 0, 0, 0, 0⟩ : S53)] : List (S53)))).bind fun t140 => ((fold_Known.f k t140 2 1).bind fun bt143 => ((fold_Known.f k t140 0 1).bind fun bt145 => ((palingref13_Same.f k t140 (([(⟨0, 0, 0, 0, 0, 2, 0⟩ : S53), (⟨0, 0, 1, 0, 0, 4, 0⟩ : S53), (⟨6, 0, 0, 0, 0, 0, 3⟩ : S53), (⟨13, 0, 0, 0, 0, 0, 0⟩ : S53)] : List (S53)))).bind fun t150 => (if t150 = true then (if bt143.1 = 4 then (if bt143.2 = true then (some (!bt145.2)) else (none)) else (none)) else (none)))))
theorem palinglaw16_awake.mono : ∀ k, LeO (palinglaw16_awake.f k ) (palinglaw16_awake.f (k + 1) ) := by
 intro  k
 unfold palinglaw16_awake.f
 repeat' (first | (with_reducible first | exact fold_Code.mono _ _ | exact fold_Known.mono _ _ _ _ | exact palingref13_Same.mono _ _ _ | exact LeO.refl _ | exact LeO.none _ | refine LeO.ite ?_ ?_ | refine LeO.bind ?_ (fun _ => ?_)) | exact fold_Code.mono _ _ | exact fold_Known.mono _ _ _ _ | exact palingref13_Same.mono _ _ _ | exact LeO.none _ | refine LeO.ite ?_ ?_ | refine LeO.bind ?_ (fun _ => ?_))
set_option maxHeartbeats 8000000 in
set_option maxRecDepth 100000 in
theorem palinglaw16_awake.calls (k : Nat)  (r : Bool) (w : World) (h : palinglaw16_awake.f k  = some r) (hgl : GlobOK w) :
    Calls Tryd.prog 7 #[] w fun e w' => e = .returned (.bool r) ∧ Below w.heap.size w w' := by
 have hu53 := Tryd.underlying53
 have HB := Aside0.mk (Below.refl w.heap.size w)
 have HGL := Aside0.mk hgl
 clear hgl
 have H : ((fold_Code.f k (([(⟨0, 0, 0, 0, 0, 2, 0⟩ : S53), (⟨2, 2, 1, 0, 0, 0, 0⟩ : S53), (⟨7, 0, 0, 1, 0, 0, 3⟩ : S53), (⟨13, 0, 0, 0, 0, 0, 0⟩ : S53)] : List (S53)))).bind fun t140 => ((fold_Known.f k t140 2 1).bind fun bt143 => ((fold_Known.f k t140 0 1).bind fun bt145 => ((palingref13_Same.f k t140 (([(⟨0, 0, 0, 0, 0, 2, 0⟩ : S53), (⟨0, 0, 1, 0, 0, 4, 0⟩ : S53), (⟨6, 0, 0, 0, 0, 0, 3⟩ : S53), (⟨13, 0, 0, 0, 0, 0, 0⟩ : S53)] : List (S53)))).bind fun t150 => (if t150 = true then (if bt143.1 = 4 then (if bt143.2 = true then (some (!bt145.2)) else (none)) else (none)) else (none)))))) = some r := h
 clear h
 obtain ⟨y137, hy_⟩ : ∃ y_ : List (S53), y_ = (([(⟨0, 0, 0, 0, 0, 2, 0⟩ : S53), (⟨2, 2, 1, 0, 0, 0, 0⟩ : S53), (⟨7, 0, 0, 1, 0, 0, 3⟩ : S53), (⟨13, 0, 0, 0, 0, 0, 0⟩ : S53)] : List (S53))) := ⟨_, rfl⟩
 replace H : ((fold_Code.f k y137).bind fun t140 => ((fold_Known.f k t140 2 1).bind fun bt143 => ((fold_Known.f k t140 0 1).bind fun bt145 => ((palingref13_Same.f k t140 (([(⟨0, 0, 0, 0, 0, 2, 0⟩ : S53), (⟨0, 0, 1, 0, 0, 4, 0⟩ : S53), (⟨6, 0, 0, 0, 0, 0, 3⟩ : S53), (⟨13, 0, 0, 0, 0, 0, 0⟩ : S53)] : List (S53)))).bind fun t150 => (if t150 = true then (if bt143.1 = 4 then (if bt143.2 = true then (some (!bt145.2)) else (none)) else (none)) else (none)))))) = some r := aq7
 have Ny137 := Aside0.mk hy_
 clear hy_
 obtain ⟨t140, A1, H⟩ := bS_ H
 replace H := Option.bind_eq_some_iff.mp H
 obtain ⟨⟨t143, t144⟩, A20, H⟩ := H
 replace H : ((fold_Known.f k t140 0 1).bind fun bt145 => ((palingref13_Same.f k t140 (([(⟨0, 0, 0, 0, 0, 2, 0⟩ : S53), (⟨0, 0, 1, 0, 0, 4, 0⟩ : S53), (⟨6, 0, 0, 0, 0, 0, 3⟩ : S53), (⟨13, 0, 0, 0, 0, 0, 0⟩ : S53)] : List (S53)))).bind fun t150 => (if t150 = true then (if t143 = 4 then (if t144 = true then (some (!bt145.2)) else (none)) else (none)) else (none)))) = some r := H
 have A2 := Aside0.mk A20
 clear A20
 replace H := Option.bind_eq_some_iff.mp H
 obtain ⟨⟨t145, t146⟩, A30, H⟩ := H
 replace H : ((palingref13_Same.f k t140 (([(⟨0, 0, 0, 0, 0, 2, 0⟩ : S53), (⟨0, 0, 1, 0, 0, 4, 0⟩ : S53), (⟨6, 0, 0, 0, 0, 0, 3⟩ : S53), (⟨13, 0, 0, 0, 0, 0, 0⟩ : S53)] : List (S53)))).bind fun t150 => (if t150 = true then (if t143 = 4 then (if t144 = true then (some (!t146)) else (none)) else (none)) else (none))) = some r := H
 have A3 := Aside0.mk A30
 clear A30
 obtain ⟨y147, hy_⟩ : ∃ y_ : List (S53), y_ = (([(⟨0, 0, 0, 0, 0, 2, 0⟩ : S53), (⟨0, 0, 1, 0, 0, 4, 0⟩ : S53), (⟨6, 0, 0, 0, 0, 0, 3⟩ : S53), (⟨13, 0, 0, 0, 0, 0, 0⟩ : S53)] : List (S53))) := ⟨_, rfl⟩
 replace H : ((palingref13_Same.f k t140 y147).bind fun t150 => (if t150 = true then (if t143 = 4 then (if t144 = true then (some (!t146)) else (none)) else (none)) else (none))) = some r := aq7
 have Ny147 := Aside0.mk hy_
 clear hy_
 obtain ⟨t150, A4, H⟩ := bS_ H
 by_cases c5 : t150 = true
 rotate_left
 ·replace c5 := Bool.eq_false_iff.mpr c5
  subst c5
  rw [if_neg nf_] at H
  exact absurd H (by simp)
 subst c5
 rw [if_pos rfl] at H
 by_cases c6 : t143 = 4
 rotate_left
 ·rw [if_neg c6] at H
  have c6b0 : (t143 == 4) = false := beq_eq_false_iff_ne.mpr c6
  have c6b1 : (t143 != 4) = true := bne_iff_ne.mpr c6
  exact absurd H (by simp)
 rw [if_pos c6] at H
 have c6b0 : (t143 == 4) = true := beq_iff_eq.mpr c6
 have c6b1 : (t143 != 4) = false := bne_eq_false_iff_eq.mpr c6
 clear c6
 by_cases c7 : t144 = true
 rotate_left
 ·replace c7 := Bool.eq_false_iff.mpr c7
  subst c7
  rw [if_neg nf_] at H
  exact absurd H (by simp)
 subst c7
 rw [if_pos rfl] at H
 obtain rfl := Option.some.inj H
 go_enter Tryd.func7, Tryd.ntmps7
 go_wp2_with (first | ((with_reducible refine gate_dst (N := 10) rfl ?_); refine Kd.R_lit k53 _ 53 ?hg (N := 10) ?hd (xs := ([(⟨0, 0, 0, 0, 0, 2, 0⟩ : S53), (⟨2, 2, 1, 0, 0, 0, 0⟩ : S53), (⟨7, 0, 0, 1, 0, 0, 3⟩ : S53), (⟨13, 0, 0, 0, 0, 0, 0⟩ : S53)] : List (S53))) (inner := [.int .i64 0, .int .i64 0, .int .i64 0, .int .i64 0, .int .i64 0, .int .i64 2, .int .i64 0, .int .i64 2, .int .i64 2, .int .i64 1, .int .i64 0, .int .i64 0, .int .i64 0, .int .i64 0, .int .i64 7, .int .i64 0, .int .i64 0, .int .i64 1, .int .i64 0, .int .i64 0, .int .i64 3, .int .i64 13, .int .i64 0, .int .i64 0, .int .i64 0, .int .i64 0, .int .i64 0, .int .i64 0]) (ok := fun _ => True) (okp := fun _ => True) ?hr ?hp (fun _ hk => hk) trivial (Below.refl _ _) (Nat.le_refl _) (by simp) ?_; (case hd => rfl); (case hg => rfl); (case hr => first | (go_simp; done) | (go_simp; rfl)); (case hp => exact (Reps.c7 (show Kd.M k53 _ _ _ (⟨0, 0, 0, 0, 0, 2, 0⟩ : S53) [.int .i64 0, .int .i64 0, .int .i64 0, .int .i64 0, .int .i64 0, .int .i64 2, .int .i64 0] from (k53_mkM _ _ _ (⟨0, 0, 0, 0, 0, 2, 0⟩ : S53) )) (Reps.c7 (show Kd.M k53 _ _ _ (⟨2, 2, 1, 0, 0, 0, 0⟩ : S53) [.int .i64 2, .int .i64 2, .int .i64 1, .int .i64 0, .int .i64 0, .int .i64 0, .int .i64 0] from (k53_mkM _ _ _ (⟨2, 2, 1, 0, 0, 0, 0⟩ : S53) )) (Reps.c7 (show Kd.M k53 _ _ _ (⟨7, 0, 0, 1, 0, 0, 3⟩ : S53) [.int .i64 7, .int .i64 0, .int .i64 0, .int .i64 1, .int .i64 0, .int .i64 0, .int .i64 3] from (k53_mkM _ _ _ (⟨7, 0, 0, 1, 0, 0, 3⟩ : S53) )) (Reps.c7 (show Kd.M k53 _ _ _ (⟨13, 0, 0, 0, 0, 0, 0⟩ : S53) [.int .i64 13, .int .i64 0, .int .i64 0, .int .i64 0, .int .i64 0, .int .i64 0, .int .i64 0] from (k53_mkM _ _ _ (⟨13, 0, 0, 0, 0, 0, 0⟩ : S53) )) (Reps.none _ _)))))); intro v138 w8 ho9 hb hg_ hnew_; clear hg_ hnew_; (first | rw [← Ny137.out] at ho9 | (simp only [Int.reduceToNat] at ho9; rw [← Ny137.out] at ho9)); have HO139 := Aside0.mk (Kd.R_lower ho9 (below_size aq0)); replace HB := Aside0.mk (below_step aq0 hb); clear hb ho9; obtain ⟨Ao10, co10, eo10⟩ := Kd.R_slice HO139.out; subst eo10) | ((with_reducible refine gate_callee (f := 12) rfl ?_); refine goesL_ (some 11) rfl rfl Tryd.func12 (by kernel_rfl) rfl #[.slice Ao10 y137.length co10] rfl aq3 ?_; (with_reducible refine (fold_Code.calls k _ _ y137 t140 _ ?side1 ?side2 A1.out (GlobOK.step HGL.out aq0)).mono ?_); (case side1 => repeat (first | exact (Kd.R_reads' HO139.out).2.2 | (with_reducible refine Kd.C_alloc ?_ _) | (with_reducible refine Kd.C_drewN ?_ _) | (with_reducible refine Kd.C_drew ?_))); (case side2 => exact (Kd.R_reads' HO139.out).2.1); rintro e w11 ⟨v141, rfl, ho0, hb⟩; refine ⟨_, rfl, ?_⟩; have HO142 := Aside0.mk (Kd.R_lower (Kd.R_new' ho0 (Kd.R_lt aq9)) (below_size aq0)); replace HO139 := Aside0.mk (Kd.R_elder' aq9 (Kd.R_base ho0) hb); replace HB := Aside0.mk (below_step aq0 hb); (try clear hb); (try clear hb2); (try clear hk); (try clear hi); (try clear ho0); obtain ⟨Ao12, co12, eo12⟩ := Kd.R_slice HO142.out; subst eo12) | ((with_reducible refine gate_callee (f := 9) rfl ?_); refine goesL_ (some 14) rfl rfl Tryd.func9 (by kernel_rfl) rfl #[.slice Ao12 t140.length co12, .int .i64 2, .int .i64 1] rfl aq3 ?_; (with_reducible refine (fold_Known.calls k _ _ t140 2 1 t143 true _ ?side1 ?side2 A2.out (GlobOK.step HGL.out aq0)).mono ?_); (case side1 => repeat (first | exact (Kd.R_reads' HO142.out).2.2 | (with_reducible refine Kd.C_alloc ?_ _) | (with_reducible refine Kd.C_drewN ?_ _) | (with_reducible refine Kd.C_drew ?_))); (case side2 => exact (Kd.R_reads' HO142.out).2.1); rintro e w13 ⟨rfl, hb⟩; refine ⟨_, rfl, ?_⟩; replace HO139 := Aside0.mk (Kd.R_below aq9 hb); replace HO142 := Aside0.mk (Kd.R_below aq13 hb); replace HB := Aside0.mk (below_step aq0 hb); (try clear hb); (try clear hb2); (try clear hk); (try clear hi)) | ((with_reducible refine gate_callee (f := 9) rfl ?_); refine goesL_ (some 19) rfl rfl Tryd.func9 (by kernel_rfl) rfl #[.slice Ao12 t140.length co12, .int .i64 0, .int .i64 1] rfl aq3 ?_; (with_reducible refine (fold_Known.calls k _ _ t140 0 1 t145 t146 _ ?side1 ?side2 A3.out (GlobOK.step HGL.out aq0)).mono ?_); (case side1 => repeat (first | exact (Kd.R_reads' HO142.out).2.2 | (with_reducible refine Kd.C_alloc ?_ _) | (with_reducible refine Kd.C_drewN ?_ _) | (with_reducible refine Kd.C_drew ?_))); (case side2 => exact (Kd.R_reads' HO142.out).2.1); rintro e w14 ⟨rfl, hb⟩; refine ⟨_, rfl, ?_⟩; replace HO139 := Aside0.mk (Kd.R_below aq9 hb); replace HO142 := Aside0.mk (Kd.R_below aq13 hb); replace HB := Aside0.mk (below_step aq0 hb); (try clear hb); (try clear hb2); (try clear hk); (try clear hi)) | ((with_reducible refine gate_dst (N := 27) rfl ?_); refine Kd.R_lit k53 _ 53 ?hg (N := 27) ?hd (xs := ([(⟨0, 0, 0, 0, 0, 2, 0⟩ : S53), (⟨0, 0, 1, 0, 0, 4, 0⟩ : S53), (⟨6, 0, 0, 0, 0, 0, 3⟩ : S53), (⟨13, 0, 0, 0, 0, 0, 0⟩ : S53)] : List (S53))) (inner := [.int .i64 0, .int .i64 0, .int .i64 0, .int .i64 0, .int .i64 0, .int .i64 2, .int .i64 0, .int .i64 0, .int .i64 0, .int .i64 1, .int .i64 0, .int .i64 0, .int .i64 4, .int .i64 0, .int .i64 6, .int .i64 0, .int .i64 0, .int .i64 0, .int .i64 0, .int .i64 0, .int .i64 3, .int .i64 13, .int .i64 0, .int .i64 0, .int .i64 0, .int .i64 0, .int .i64 0, .int .i64 0]) (ok := fun _ => True) (okp := fun _ => True) ?hr ?hp (fun _ hk => hk) trivial (Below.refl _ _) (Nat.le_refl _) (by simp) ?_; (case hd => rfl); (case hg => rfl); (case hr => first | (go_simp; done) | (go_simp; rfl)); (case hp => exact (Reps.c7 (show Kd.M k53 _ _ _ (⟨0, 0, 0, 0, 0, 2, 0⟩ : S53) [.int .i64 0, .int .i64 0, .int .i64 0, .int .i64 0, .int .i64 0, .int .i64 2, .int .i64 0] from (k53_mkM _ _ _ (⟨0, 0, 0, 0, 0, 2, 0⟩ : S53) )) (Reps.c7 (show Kd.M k53 _ _ _ (⟨0, 0, 1, 0, 0, 4, 0⟩ : S53) [.int .i64 0, .int .i64 0, .int .i64 1, .int .i64 0, .int .i64 0, .int .i64 4, .int .i64 0] from (k53_mkM _ _ _ (⟨0, 0, 1, 0, 0, 4, 0⟩ : S53) )) (Reps.c7 (show Kd.M k53 _ _ _ (⟨6, 0, 0, 0, 0, 0, 3⟩ : S53) [.int .i64 6, .int .i64 0, .int .i64 0, .int .i64 0, .int .i64 0, .int .i64 0, .int .i64 3] from (k53_mkM _ _ _ (⟨6, 0, 0, 0, 0, 0, 3⟩ : S53) )) (Reps.c7 (show Kd.M k53 _ _ _ (⟨13, 0, 0, 0, 0, 0, 0⟩ : S53) [.int .i64 13, .int .i64 0, .int .i64 0, .int .i64 0, .int .i64 0, .int .i64 0, .int .i64 0] from (k53_mkM _ _ _ (⟨13, 0, 0, 0, 0, 0, 0⟩ : S53) )) (Reps.none _ _)))))); intro v148 w15 ho16 hb hg_ hnew_; clear hg_ hnew_; (first | rw [← Ny147.out] at ho16 | (simp only [Int.reduceToNat] at ho16; rw [← Ny147.out] at ho16)); have HO149 := Aside0.mk (Kd.R_lower (Kd.R_new' (Kd.R_new' ho16 (Kd.R_lt aq9)) (Kd.R_lt aq13)) (below_size aq0)); replace HO139 := Aside0.mk (Kd.R_elder' aq9 (Kd.R_base ho16) hb); replace HO142 := Aside0.mk (Kd.R_elder' aq13 (Kd.R_base ho16) hb); replace HB := Aside0.mk (below_step aq0 hb); clear hb ho16; obtain ⟨Ao17, co17, eo17⟩ := Kd.R_slice HO149.out; subst eo17) | ((with_reducible refine gate_callee (f := 11) rfl ?_); refine goesL_ (some 28) rfl rfl Tryd.func11 (by kernel_rfl) rfl #[.slice Ao12 t140.length co12, .slice Ao17 y147.length co17] rfl aq3 ?_; (with_reducible refine (palingref13_Same.calls k _ _ t140 _ _ y147 true _ ?side1 ?side2 ?side3 ?side4 A4.out).mono ?_); (case side1 => repeat (first | exact (Kd.R_reads' HO142.out).2.2 | (with_reducible refine Kd.C_alloc ?_ _) | (with_reducible refine Kd.C_drewN ?_ _) | (with_reducible refine Kd.C_drew ?_))); (case side2 => exact (Kd.R_reads' HO142.out).2.1); (case side3 => repeat (first | exact (Kd.R_reads' HO149.out).2.2 | (with_reducible refine Kd.C_alloc ?_ _) | (with_reducible refine Kd.C_drewN ?_ _) | (with_reducible refine Kd.C_drew ?_))); (case side4 => exact (Kd.R_reads' HO149.out).2.1); rintro e w' ⟨rfl, ⟨nd, rfl⟩⟩; refine ⟨_, rfl, ?_⟩))
 go_ret
 exact ⟨aq6, aq0⟩
-- NOT PRINTED: function 14 (palingref12_New)

-- NOT PRINTED: function 40 (palingref12_R_Owner)

-- NOT PRINTED: function 24 (palingref12_R_lock)

end Go.Proofs.YtfhjkkcdeigkdaaDoor.PFoldRuns
