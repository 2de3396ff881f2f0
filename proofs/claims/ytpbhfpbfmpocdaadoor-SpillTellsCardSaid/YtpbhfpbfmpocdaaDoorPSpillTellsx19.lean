-- Written by print2.py over the kit's printer. Not trusted: Lean checks it.
import Derived.Test.YtpbhfpbfmpocdaaDoorPSpillTellshqq
import Derived.Test.YtpbhfpbfmpocdaaDoorPSpillTellshmid
import Derived.Test.YtpbhfpbfmpocdaaDoorPSpillTellsx0
import Derived.Test.YtpbhfpbfmpocdaaDoorPSpillTellsx3
import Derived.Test.YtpbhfpbfmpocdaaDoorPSpillTellsx4
import Derived.Test.YtpbhfpbfmpocdaaDoorPSpillTellsx5
import Derived.Test.YtpbhfpbfmpocdaaDoorPSpillTellsx14
import Derived.Test.YtpbhfpbfmpocdaaDoorPSpillTellsx15
import Derived.Test.YtpbhfpbfmpocdaaDoorPSpillTellsx16
import Derived.Test.YtpbhfpbfmpocdaaDoorPSpillTellsx18
import Derived.Test.YtpbhfpbfmpocdaaDoorPSpillTellshspillcode
import Derived.Test.YtpbhfpbfmpocdaaDoorPSpillTellshspillslots
namespace Go.Proofs.YtpbhfpbfmpocdaaDoor.PSpillTells
open Go.RowKit Go.Proofs.YtpbhfpbfmpocdaaDoorW.PrintWords Go.Proofs.YtpbhfpbfmpocdaaDoorW.PrintLast Go.Proofs.YtpbhfpbfmpocdaaDoorW.PrintMore
attribute [local go_sem] max2_int min2_int max_two min_two max_three min_three max_four min_four   -- for this text's walks alone
set_option linter.unusedVariables false
set_option linter.unusedSimpArgs false

/-! ### palinglaw22_SpillTells: function 3 -/
mutual
def palinglaw22_SpillTells.j0 : Nat → List (S48) → Int → List Int → Bool → Option (Bool)
  | 0, _, _, _, _ => none
  | k + 1, x0, x1, x2, x31 => if x31 = true then (some true) else ((palingref21_Scan.f k x0 (wrap64 ((wrap64 (Int.tmod x1 13)) + 1))).bind fun t568 => ((palinglaw22_places.f k t568).bind fun t571 => ((spill_Slots.f k t571 x2).bind fun bt575 => ((palingref22_Slots.f k t568 x2).bind fun bt577 => (if bt575.1 = bt577.1 then (palinglaw22_SpillTells.j1 k x0 x2 t568 t571 (bt575.2 != bt577.2) 20 200) else (palinglaw22_SpillTells.j1 k x0 x2 t568 t571 true 20 200))))))
def palinglaw22_SpillTells.j1 : Nat → List (S48) → List Int → List (S57) → List (S45) → Bool → Int → Int → Option (Bool)
  | 0, _, _, _, _, _, _, _ => none
  | k + 1, x0, x2, x8, x9, x60, x575000, x575001 => if x60 = true then (some false) else (palinglaw22_SpillTells.l0 k x0 x2 x8 x9 (-1) x575000 x575001)
def palinglaw22_SpillTells.l0 : Nat → List (S48) → List Int → List (S57) → List (S45) → Int → Int → Int → Option (Bool)
  | 0, _, _, _, _, _, _, _ => none
  | k + 1, x0, x2, x8, x9, x15, x575000, x575001 => if x15 < 61 then ((spill_Word.f k x9 x2 x575000 x575001 x15).bind fun t586 => ((palingref22_Word.f k x8 x2 20 200 x15).bind fun t587 => (if t586 = t587 then (palinglaw22_SpillTells.l0 k x0 x2 x8 x9 (wrap64 (x15 + 1)) x575000 x575001) else (none)))) else ((spill_Code.f k x0 x9 x2 x575000 x575001).bind fun t579 => ((palingref22_Code.f k x0 x8 x2 20 200).bind fun t582 => ((palingref13_Same.f k t579 t582).bind fun t585 => (some t585))))
end
def palinglaw22_SpillTells.f (k : Nat) (l0 : List (S48)) (a1 : Int) (l2 : List Int) : Option (Bool) := (palinglaw22_awake.f k).bind fun t566 => (if t566 = true then (if (l0.length : Int) > 60 then (palinglaw22_SpillTells.j0 k l0 a1 l2 true) else (if (l2.length : Int) > 60 then (palinglaw22_SpillTells.j0 k l0 a1 l2 true) else ((palingref11_Check.f k l0 60 9).bind fun t567 => (palinglaw22_SpillTells.j0 k l0 a1 l2 (!t567))))) else (none))
theorem palinglaw22_SpillTells.mono_l : ∀ k, (∀ y0 y1 y2 y3, LeO (palinglaw22_SpillTells.j0 k y0 y1 y2 y3) (palinglaw22_SpillTells.j0 (k + 1) y0 y1 y2 y3)) ∧ (∀ y0 y1 y2 y3 y4 y5 y6, LeO (palinglaw22_SpillTells.j1 k y0 y1 y2 y3 y4 y5 y6) (palinglaw22_SpillTells.j1 (k + 1) y0 y1 y2 y3 y4 y5 y6)) ∧ (∀ y0 y1 y2 y3 y4 y5 y6, LeO (palinglaw22_SpillTells.l0 k y0 y1 y2 y3 y4 y5 y6) (palinglaw22_SpillTells.l0 (k + 1) y0 y1 y2 y3 y4 y5 y6))
  | 0 => ⟨fun _ _ _ _ r h => by simp [palinglaw22_SpillTells.j0] at h, fun _ _ _ _ _ _ _ r h => by simp [palinglaw22_SpillTells.j1] at h, fun _ _ _ _ _ _ _ r h => by simp [palinglaw22_SpillTells.l0] at h⟩
  | k + 1 => by
    obtain ⟨ih0, ih1, ih2⟩ := palinglaw22_SpillTells.mono_l k
    refine ⟨?_, ?_, ?_⟩ <;> intros <;> (first | unfold palinglaw22_SpillTells.j0 | unfold palinglaw22_SpillTells.j1 | unfold palinglaw22_SpillTells.l0) <;> repeat' (first | (with_reducible first | exact ih0 _ _ _ _ | exact ih1 _ _ _ _ _ _ _ | exact ih2 _ _ _ _ _ _ _ | exact palinglaw22_awake.mono _ | exact palinglaw22_places.mono _ _ | exact palingref11_Check.mono _ _ _ _ | exact palingref13_Same.mono _ _ _ | exact palingref21_Scan.mono _ _ _ | exact palingref22_Code.mono _ _ _ _ _ _ | exact palingref22_Slots.mono _ _ _ | exact palingref22_Word.mono _ _ _ _ _ _ | exact spill_Code.mono _ _ _ _ _ _ | exact spill_Slots.mono _ _ _ | exact spill_Word.mono _ _ _ _ _ _ | exact LeO.refl _ | exact LeO.none _ | refine LeO.ite ?_ ?_ | refine LeO.bind ?_ (fun _ => ?_)) | exact ih0 _ _ _ _ | exact ih1 _ _ _ _ _ _ _ | exact ih2 _ _ _ _ _ _ _ | exact palinglaw22_awake.mono _ | exact palinglaw22_places.mono _ _ | exact palingref11_Check.mono _ _ _ _ | exact palingref13_Same.mono _ _ _ | exact palingref21_Scan.mono _ _ _ | exact palingref22_Code.mono _ _ _ _ _ _ | exact palingref22_Slots.mono _ _ _ | exact palingref22_Word.mono _ _ _ _ _ _ | exact spill_Code.mono _ _ _ _ _ _ | exact spill_Slots.mono _ _ _ | exact spill_Word.mono _ _ _ _ _ _ | exact LeO.none _ | refine LeO.ite ?_ ?_ | refine LeO.bind ?_ (fun _ => ?_))
theorem palinglaw22_SpillTells.mono : ∀ a0 a1 a2 k, LeO (palinglaw22_SpillTells.f k a0 a1 a2) (palinglaw22_SpillTells.f (k + 1) a0 a1 a2) := by
 intro a0 a1 a2 k
 obtain ⟨ih0, ih1, ih2⟩ := palinglaw22_SpillTells.mono_l k
 unfold palinglaw22_SpillTells.f
 repeat' (first | (with_reducible first | exact ih0 _ _ _ _ | exact ih1 _ _ _ _ _ _ _ | exact ih2 _ _ _ _ _ _ _ | exact palinglaw22_awake.mono _ | exact palinglaw22_places.mono _ _ | exact palingref11_Check.mono _ _ _ _ | exact palingref13_Same.mono _ _ _ | exact palingref21_Scan.mono _ _ _ | exact palingref22_Code.mono _ _ _ _ _ _ | exact palingref22_Slots.mono _ _ _ | exact palingref22_Word.mono _ _ _ _ _ _ | exact spill_Code.mono _ _ _ _ _ _ | exact spill_Slots.mono _ _ _ | exact spill_Word.mono _ _ _ _ _ _ | exact LeO.refl _ | exact LeO.none _ | refine LeO.ite ?_ ?_ | refine LeO.bind ?_ (fun _ => ?_)) | exact ih0 _ _ _ _ | exact ih1 _ _ _ _ _ _ _ | exact ih2 _ _ _ _ _ _ _ | exact palinglaw22_awake.mono _ | exact palinglaw22_places.mono _ _ | exact palingref11_Check.mono _ _ _ _ | exact palingref13_Same.mono _ _ _ | exact palingref21_Scan.mono _ _ _ | exact palingref22_Code.mono _ _ _ _ _ _ | exact palingref22_Slots.mono _ _ _ | exact palingref22_Word.mono _ _ _ _ _ _ | exact spill_Code.mono _ _ _ _ _ _ | exact spill_Slots.mono _ _ _ | exact spill_Word.mono _ _ _ _ _ _ | exact LeO.none _ | refine LeO.ite ?_ ?_ | refine LeO.bind ?_ (fun _ => ?_))
set_option maxHeartbeats 8000000 in
set_option maxRecDepth 100000 in
theorem palinglaw22_SpillTells.calls (k : Nat) (A0 : Option Addr) (c0 : Nat) (l0 : List (S48)) (a1 : Int) (A2 : Option Addr) (c2 : Nat) (l2 : List Int) (r : Bool) (w : World) (hr0 : Kd.C k48 w A0 l0.length l0) (hc0 : l0.length ≤ c0) (hr2 : Kd.C (Kd.int .i64) w A2 l2.length l2) (hc2 : l2.length ≤ c2) (h : palinglaw22_SpillTells.f k l0 a1 l2 = some r) (hgl : GlobOK w) :
    Calls Tryd.prog 3 #[.slice A0 l0.length c0, .int .u8 a1, .slice A2 l2.length c2] w fun e w' => e = .returned (.bool r) ∧ Below w.heap.size w w' := by
 have hu31 := Tryd.underlying31
 have hu42 := Tryd.underlying42
 have HR0 := Aside0.mk hr0
 have HC0 := Aside0.mk hc0
 clear hr0 hc0
 have HR2 := Aside0.mk hr2
 have HC2 := Aside0.mk hc2
 clear hr2 hc2
 have HB := Aside0.mk (Below.refl w.heap.size w)
 have HGL := Aside0.mk hgl
 clear hgl
 have H : ((palinglaw22_awake.f k).bind fun t566 => (if t566 = true then (if (l0.length : Int) > 60 then (palinglaw22_SpillTells.j0 k l0 a1 l2 true) else (if (l2.length : Int) > 60 then (palinglaw22_SpillTells.j0 k l0 a1 l2 true) else ((palingref11_Check.f k l0 60 9).bind fun t567 => (palinglaw22_SpillTells.j0 k l0 a1 l2 (!t567))))) else (none))) = some r := h
 clear h
 obtain ⟨t566, A4, H⟩ := bS_ H
 by_cases c5 : t566 = true
 rotate_left
 ·replace c5 := Bool.eq_false_iff.mpr c5
  subst c5
  rw [if_neg nf_] at H
  exact absurd H (by simp)
 subst c5
 rw [if_pos rfl] at H
 have HC6 := Aside0.mk H
 clear H
 go_enter Tryd.func3, Tryd.ntmps3
 go_upto_region 4 with (first | ((with_reducible refine gate_callee (f := 6) rfl ?_); refine goesL_ (some 16) rfl rfl Tryd.func6 (by kernel_rfl) rfl #[] rfl aq4 ?_; (with_reducible refine (palinglaw22_awake.calls k  true _ A4.out (GlobOK.step HGL.out aq0)).mono ?_); rintro e w7 ⟨rfl, hb⟩; refine ⟨_, rfl, ?_⟩; replace HB := Aside0.mk (below_step aq0 hb); (try clear hb); (try clear hb2); (try clear hk); (try clear hi)))
 (try simp only [Act.put, List.setIfInBounds_toArray, List.set_cons_zero, List.set_cons_succ])
 go_cut [31] (fun v31 wc => ∃ (kq : Nat) (x31_5 : Bool), v31 = .bool x31_5 ∧ Aside0 (palinglaw22_SpillTells.j0 kq l0 a1 l2 x31_5 = some r) ∧ Aside0 (kq ≤ k) ∧ Aside0 (Below w.heap.size w wc))
 case first =>
  have H := HC6.out
  clear HC6
  by_cases c8 : (l0.length : Int) > 60
  ·rw [if_pos c8] at H
   have c8b0 : decide (60 < (l0.length : Int)) = true := decide_eq_true c8
   have c8b1 : decide (60 < l0.length) = true := decide_eq_true (by omega)
   clear c8
   (first | rw [c8b0] | (simp only [i64_w, i32_w]; rw [c8b0]) | skip)
   have H' := Aside0.mk H
   clear H
   go_wp2
   go_meet
   case rel => exact ⟨_, (true), aq7, H', ⟨aq50⟩, ⟨aq0⟩⟩
  rw [if_neg c8] at H
  have c8b0 : decide (60 < (l0.length : Int)) = false := decide_eq_false c8
  have c8b1 : decide (60 < l0.length) = false := decide_eq_false (by omega)
  clear c8
  (first | rw [c8b0] | (simp only [i64_w, i32_w]; rw [c8b0]) | skip)
  by_cases c9 : (l2.length : Int) > 60
  ·rw [if_pos c9] at H
   have c9b0 : decide (60 < (l2.length : Int)) = true := decide_eq_true c9
   have c9b1 : decide (60 < l2.length) = true := decide_eq_true (by omega)
   clear c9
   have H' := Aside0.mk H
   clear H
   go_wp2
   go_meet
   case rel => exact ⟨_, (true), aq7, H', ⟨aq50⟩, ⟨aq0⟩⟩
  rw [if_neg c9] at H
  have c9b0 : decide (60 < (l2.length : Int)) = false := decide_eq_false c9
  have c9b1 : decide (60 < l2.length) = false := decide_eq_false (by omega)
  clear c9
  obtain ⟨t567, A10, H⟩ := bS_ H
  have H' := Aside0.mk H
  clear H
  go_wp2_with (first | (go_at_call 7; (with_reducible refine (palingref11_Check.calls k _ _ l0 60 9 t567 _ ?side1 ?side2 A10.out).mono ?_); (case side1 => repeat (first | exact (Kd.C_below HR0.out HB.out) | (with_reducible refine Kd.C_alloc ?_ _) | (with_reducible refine Kd.C_drewN ?_ _) | (with_reducible refine Kd.C_drew ?_))); (case side2 => exact HC0.out); rintro e w11 ⟨rfl, hb⟩; replace HB := Aside0.mk (below_step aq0 hb); (try clear hb); (try clear hb2); (try clear hk); (try clear hi)))
  go_meet
  case rel => exact ⟨_, (!t567), aq7, H', ⟨aq50⟩, ⟨aq0⟩⟩
 case rest =>
  clear HC6
  obtain ⟨kq, x31_5, rfl, HA, HJ5, HB⟩ := hcut
  cases kq with
  | zero => exact absurd HA.out (by simp [palinglaw22_SpillTells.j0])
  | succ kj5 =>
   have H := HA.out
   clear HA
   simp only [palinglaw22_SpillTells.j0] at H
   by_cases c12 : x31_5 = true
   ·subst c12
    rw [if_pos rfl] at H
    obtain rfl := Option.some.inj H
    go_wp2
    go_ret
    exact ⟨aq13, aq0⟩
   replace c12 := Bool.eq_false_iff.mpr c12
   subst c12
   rw [if_neg nf_] at H
   obtain ⟨t568, A13, H⟩ := bS_ H
   obtain ⟨t571, A14, H⟩ := bS_ H
   replace H := Option.bind_eq_some_iff.mp H
   obtain ⟨⟨t575, t576⟩, A150, H⟩ := H
   replace H : ((palingref22_Slots.f kj5 t568 l2).bind fun bt577 => (if t575 = bt577.1 then (palinglaw22_SpillTells.j1 kj5 l0 l2 t568 t571 (t576 != bt577.2) 20 200) else (palinglaw22_SpillTells.j1 kj5 l0 l2 t568 t571 true 20 200))) = some r := H
   have A15 := Aside0.mk A150
   clear A150
   replace H := Option.bind_eq_some_iff.mp H
   obtain ⟨⟨t577, t578⟩, A160, H⟩ := H
   replace H : (if t575 = t577 then (palinglaw22_SpillTells.j1 kj5 l0 l2 t568 t571 (t576 != t578) 20 200) else (palinglaw22_SpillTells.j1 kj5 l0 l2 t568 t571 true 20 200)) = some r := H
   have A16 := Aside0.mk A160
   clear A160
   have HC17 := Aside0.mk H
   clear H
   go_upto_region 11 with (first | ((with_reducible refine gate_callee (f := 8) rfl ?_); refine goesL_ (some 37) rfl rfl Tryd.func8 (by kernel_rfl) rfl #[.slice A0 l0.length c0, .int .i64 (wrap64 ((wrap64 (Int.tmod a1 13)) + 1))] rfl aq4 ?_; (with_reducible refine (palingref21_Scan.calls kj5 _ _ l0 (wrap64 ((wrap64 (Int.tmod a1 13)) + 1)) t568 _ ?side1 ?side2 A13.out).mono ?_); (case side1 => repeat (first | exact (Kd.C_below HR0.out HB.out) | (with_reducible refine Kd.C_alloc ?_ _) | (with_reducible refine Kd.C_drewN ?_ _) | (with_reducible refine Kd.C_drew ?_))); (case side2 => exact HC0.out); rintro e w18 ⟨v569, rfl, ho0, hb⟩; refine ⟨_, rfl, ?_⟩; have HO570 := Aside0.mk (Kd.R_lower ho0 (below_size aq0)); replace HB := Aside0.mk (below_step aq0 hb); (try clear hb); (try clear hb2); (try clear hk); (try clear hi); (try clear ho0); obtain ⟨Ao19, co19, eo19⟩ := Kd.R_slice HO570.out; subst eo19) | ((with_reducible refine gate_callee (f := 9) rfl ?_); refine goesL_ (some 39) rfl rfl Tryd.func9 (by kernel_rfl) rfl #[.slice Ao19 t568.length co19] rfl aq4 ?_; (with_reducible refine (palinglaw22_places.calls kj5 _ _ t568 t571 _ ?side1 ?side2 A14.out).mono ?_); (case side1 => repeat (first | exact (Kd.R_reads' HO570.out).2.2 | (with_reducible refine Kd.C_alloc ?_ _) | (with_reducible refine Kd.C_drewN ?_ _) | (with_reducible refine Kd.C_drew ?_))); (case side2 => exact (Kd.R_reads' HO570.out).2.1); rintro e w20 ⟨v572, rfl, ho0, hb⟩; refine ⟨_, rfl, ?_⟩; replace HO570 := Aside0.mk (Kd.R_below aq64 hb); have HO573 := Aside0.mk (Kd.R_lower ho0 (below_size aq0)); replace HB := Aside0.mk (below_step aq0 hb); (try clear hb); (try clear hb2); (try clear hk); (try clear hi); (try clear ho0)) | ((with_reducible refine gate_dst (N := 10) rfl ?_); (try (refine gate_guard (by rfl) ?_; dsimp only)); refine box_event ?hg (N := 10) ?hd (cs := #[.int .i64 0, .int .i64 0]) (t := 31) ?hr ?_; (case hd => rfl); (case hg => rfl); (case hr => first | (go_simp; done) | (go_simp; rfl)); intro gb0 hg w21 hbox hb; have n0_ := Aside0.mk (Kd.R_below aq64 hb); have n1_ := Aside0.mk (Kd.R_below aq82 hb); have n2_ := Aside0.mk (below_step aq0 hb); have n3_ := Aside0.mk (hbox); have n4_ := Aside0.mk ((by rw [hg]; exact (below_size aq0) : w.heap.size ≤ gb0)); have n5_ := Aside0.mk ((by rw [hg]; exact (below_size aq0) : w.heap.size ≤ gb0)); clear HO570; clear HO573; clear HB; have HO570 := n0_; have HO573 := n1_; have HB := n2_; have BK0 := n3_; have GW0 := n4_; have GE0 := n5_; clear n0_ n1_ n2_ n3_ n4_ n5_; clear hb hbox hg; obtain ⟨hcz22_0, hcz22_1, hfz22_0, hfz22_1⟩ := czf2 BK0.out; obtain ⟨Ao23, co23, eo23⟩ := Kd.R_slice HO573.out; subst eo23) | ((with_reducible refine gate_callee (f := 10) rfl ?_); refine goesL_ (some 44) rfl rfl Tryd.func10 (by kernel_rfl) rfl #[.slice Ao23 t571.length co23, .slice A2 l2.length c2] rfl aq4 ?_; (with_reducible refine (spill_Slots.calls kj5 _ _ t571 _ _ l2 t575 t576 _ ?side1 ?side2 ?side3 ?side4 A15.out).mono ?_); (case side1 => refine (Kd.R_reads' (e := 45) (base := w.heap.size) (ok := fun k_ => True) (n := t571.length) (c := co23) ?_).2.2; exact (by (with_reducible repeat (first | apply Kd.R_alloc | apply Kd.R_drewN | apply Kd.R_drew)); exact (Kd.R_mono (Kd.R_far (p := ⟨gb0, 1, none⟩) (Kd.R_far (p := ⟨gb0, 0, none⟩) (Kd.R_types HO573.out BK0.out (by decide)) (fun _ hk => hk.2) (.int .i64 20)) (fun _ hk => hk.2) (.int .i64 200)) (fun _ h_ => h_.1)))); (case side2 => exact (Kd.R_reads' HO573.out).2.1); (case side3 => exact Kd.C_below HR2.out aq3); (case side4 => exact HC2.out); rintro e w24 ⟨rfl, hb⟩; refine ⟨_, rfl, ?_⟩; replace HO570 := Aside0.mk (Kd.R_below (by (with_reducible repeat (first | apply Kd.R_alloc | apply Kd.R_drewN | apply Kd.R_drew)); exact (Kd.R_mono (Kd.R_far (p := ⟨gb0, 1, none⟩) (Kd.R_far (p := ⟨gb0, 0, none⟩) (Kd.R_types HO570.out BK0.out (by decide)) (fun _ hk => hk.2) (.int .i64 20)) (fun _ hk => hk.2) (.int .i64 200)) (fun _ h_ => h_.1))) hb); replace HO573 := Aside0.mk (Kd.R_below (by (with_reducible repeat (first | apply Kd.R_alloc | apply Kd.R_drewN | apply Kd.R_drew)); exact (Kd.R_mono (Kd.R_far (p := ⟨gb0, 1, none⟩) (Kd.R_far (p := ⟨gb0, 0, none⟩) (Kd.R_types HO573.out BK0.out (by decide)) (fun _ hk => hk.2) (.int .i64 20)) (fun _ hk => hk.2) (.int .i64 200)) (fun _ h_ => h_.1))) hb); replace BK0 := Aside0.mk (blk_below (g := gb0) (o := .cells #[.int .i64 20, .int .i64 200] 31 (0, 0)) (by (with_reducible repeat (first | refine blk_drewN ?_ _ | refine blk_drew ?_ | refine blk_alloc ?_ _)); refine blk_put (cs := #[.int .i64 20, .int .i64 0]) ?_ 1 _ rfl; (with_reducible repeat (first | refine blk_drewN ?_ _ | refine blk_drew ?_ | refine blk_alloc ?_ _)); refine blk_put (cs := #[.int .i64 0, .int .i64 0]) ?_ 0 _ rfl; (with_reducible repeat (first | refine blk_drewN ?_ _ | refine blk_drew ?_ | refine blk_alloc ?_ _)); exact BK0.out) hb); replace HB := Aside0.mk (below_step aq3 hb); (try clear hb); (try clear hb2); (try clear hk); (try clear hi)) | ((with_reducible refine gate_callee (f := 11) rfl ?_); refine goesL_ (some 50) rfl rfl Tryd.func11 (by kernel_rfl) rfl #[.slice Ao19 t568.length co19, .slice A2 l2.length c2] rfl aq4 ?_; (with_reducible refine (palingref22_Slots.calls kj5 _ _ t568 _ _ l2 t577 t578 _ ?side1 ?side2 ?side3 ?side4 A16.out).mono ?_); (case side1 => repeat (first | exact (Kd.R_reads' HO570.out).2.2 | (with_reducible refine Kd.C_alloc ?_ _) | (with_reducible refine Kd.C_drewN ?_ _) | (with_reducible refine Kd.C_drew ?_))); (case side2 => exact (Kd.R_reads' HO570.out).2.1); (case side3 => repeat (first | exact (Kd.C_below HR2.out HB.out) | (with_reducible refine Kd.C_alloc ?_ _) | (with_reducible refine Kd.C_drewN ?_ _) | (with_reducible refine Kd.C_drew ?_))); (case side4 => exact HC2.out); rintro e w' ⟨rfl, ⟨nd, rfl⟩⟩; refine ⟨_, rfl, ?_⟩))
   (try simp only [Act.put, List.setIfInBounds_toArray, List.set_cons_zero, List.set_cons_succ])
   go_cut [60] (fun v60 wc => ∃ (kq : Nat) (x60_16 : Bool), v60 = .bool x60_16 ∧ Aside0 (palinglaw22_SpillTells.j1 kq l0 l2 t568 t571 x60_16 20 200 = some r) ∧ Aside0 (kq ≤ kj5) ∧ Aside0 (Kd.R k57 57 wc w.heap.size (fun _ => True) (.slice Ao19 t568.length co19) t568) ∧ Aside0 (Kd.R k45 45 wc w.heap.size (fun _ => True) (.slice Ao23 t571.length co23) t571) ∧ Aside0 (wc.heap[gb0]? = some (.cells #[.int .i64 20, .int .i64 200] 31 (0, 0))) ∧ Aside0 (Below w.heap.size w wc))
   case first =>
    have H := HC17.out
    clear HC17
    by_cases c25 : t575 = t577
    rotate_left
    ·rw [if_neg c25] at H
     have c25b0 : (t575 == t577) = false := beq_eq_false_iff_ne.mpr c25
     have c25b1 : (t575 != t577) = true := bne_iff_ne.mpr c25
     (first | rw [c25b0] | (simp only [i64_w, i32_w]; rw [c25b0]) | skip)
     have H' := Aside0.mk H
     clear H
     go_wp2
     go_meet
     case rel => exact ⟨_, (true), aq7, H', ⟨by have := HJ5.out; first | omega | exact Nat.le_refl _⟩, ⟨aq64⟩, ⟨aq82⟩, ⟨aq5⟩, ⟨aq3⟩⟩
    rw [if_pos c25] at H
    have c25b0 : (t575 == t577) = true := beq_iff_eq.mpr c25
    have c25b1 : (t575 != t577) = false := bne_eq_false_iff_eq.mpr c25
    clear c25
    (first | rw [c25b0] | (simp only [i64_w, i32_w]; rw [c25b0]) | skip)
    have H' := Aside0.mk H
    clear H
    go_wp2
    go_meet
    case rel => exact ⟨_, ((t576 != t578)), aq7, H', ⟨by have := HJ5.out; first | omega | exact Nat.le_refl _⟩, ⟨aq64⟩, ⟨aq82⟩, ⟨aq5⟩, ⟨aq3⟩⟩
   case rest =>
    clear HC17
    obtain ⟨kq, x60_16, rfl, HA, HJ16, HO_8, HO_9, BK0, HB⟩ := hcut
    cases kq with
    | zero => exact absurd HA.out (by simp [palinglaw22_SpillTells.j1])
    | succ kj16 =>
     have H := HA.out
     clear HA
     simp only [palinglaw22_SpillTells.j1] at H
     by_cases c26 : x60_16 = true
     ·subst c26
      rw [if_pos rfl] at H
      obtain rfl := Option.some.inj H
      go_wp2
      go_ret
      exact ⟨aq13, aq3⟩
     replace c26 := Bool.eq_false_iff.mpr c26
     subst c26
     rw [if_neg nf_] at H
     have H' := Aside0.mk H
     clear H
     go_wp2
     go_loopg [15] kj16 (fun kq v15 w' => ∃ (x15_3 : Int), v15 = .int .i64 x15_3 ∧ Aside0 (palinglaw22_SpillTells.l0 kq l0 l2 t568 t571 x15_3 20 200 = some r) ∧ Aside0 (kq ≤ kj16) ∧ Aside0 (Kd.R k57 57 w' w.heap.size (fun _ => True) (.slice Ao19 t568.length co19) t568) ∧ Aside0 (Kd.R k45 45 w' w.heap.size (fun _ => True) (.slice Ao23 t571.length co23) t571) ∧ Aside0 (w'.heap[gb0]? = some (.cells #[.int .i64 20, .int .i64 200] 31 (0, 0))) ∧ Aside0 (Below w.heap.size w w'))
     case atStart => exact ⟨((-1)), aq7, H', ⟨Nat.le_refl _⟩, ⟨aq28⟩, ⟨aq57⟩, ⟨aq5⟩, ⟨aq3⟩⟩
     case round =>
      clear H'
      obtain ⟨x15_3, rfl, HA, HK3, HO_8, HO_9, BK0, HB⟩ := hrel
      cases gk with
      | zero => exact absurd HA.out (by simp [palinglaw22_SpillTells.l0])
      | succ k3 =>
       have H := HA.out
       clear HA
       simp only [palinglaw22_SpillTells.l0] at H
       by_cases c27 : x15_3 < 61
       ·rw [if_pos c27] at H
        have c27b0 : decide (x15_3 < 61) = true := decide_eq_true c27
        clear c27
        obtain ⟨t586, A28, H⟩ := bS_ H
        obtain ⟨t587, A29, H⟩ := bS_ H
        by_cases c30 : t586 = t587
        rotate_left
        ·rw [if_neg c30] at H
         have c30b0 : (t586 == t587) = false := beq_eq_false_iff_ne.mpr c30
         have c30b1 : (t586 != t587) = true := bne_iff_ne.mpr c30
         exact absurd H (by simp)
        rw [if_pos c30] at H
        have c30b0 : (t586 == t587) = true := beq_iff_eq.mpr c30
        have c30b1 : (t586 != t587) = false := bne_eq_false_iff_eq.mpr c30
        clear c30
        have H' := Aside0.mk H
        clear H
        obtain ⟨hcz31_0, hcz31_1, hfz31_0, hfz31_1⟩ := czf2 BK0.out
        go_wp2_with (first | ((with_reducible refine gate_callee (f := 12) rfl ?_); refine goesL_ (some 69) rfl rfl Tryd.func12 (by kernel_rfl) rfl #[.slice Ao23 t571.length co23, .slice A2 l2.length c2, .agg #[.int .i64 20, .int .i64 200], .int .i64 x15_3] rfl aq4 ?_; (with_reducible refine (spill_Word.calls k3 _ _ t571 _ _ l2 20 200 x15_3 t586 _ ?side1 ?side2 ?side3 ?side4 A28.out).mono ?_); (case side1 => repeat (first | exact (Kd.R_reads' HO_9.out).2.2 | (with_reducible refine Kd.C_alloc ?_ _) | (with_reducible refine Kd.C_drewN ?_ _) | (with_reducible refine Kd.C_drew ?_))); (case side2 => exact (Kd.R_reads' HO_9.out).2.1); (case side3 => repeat (first | exact (Kd.C_below HR2.out HB.out) | (with_reducible refine Kd.C_alloc ?_ _) | (with_reducible refine Kd.C_drewN ?_ _) | (with_reducible refine Kd.C_drew ?_))); (case side4 => exact HC2.out); rintro e w32 ⟨rfl, hb⟩; refine ⟨_, rfl, ?_⟩; replace HO_8 := Aside0.mk (Kd.R_below aq28 hb); replace HO_9 := Aside0.mk (Kd.R_below aq57 hb); replace BK0 := Aside0.mk (blk_below (g := gb0) (o := .cells #[.int .i64 20, .int .i64 200] 31 (0, 0)) aq5 hb); replace HB := Aside0.mk (below_step aq3 hb); (try clear hb); (try clear hb2); (try clear hk); (try clear hi)) | ((with_reducible refine gate_callee (f := 13) rfl ?_); refine goesL_ (some 73) rfl rfl Tryd.func13 (by kernel_rfl) rfl #[.slice Ao19 t568.length co19, .slice A2 l2.length c2, .int .i64 20, .int .i64 200, .int .i64 x15_3] rfl aq4 ?_; (with_reducible refine (palingref22_Word.calls k3 _ _ t568 _ _ l2 20 200 x15_3 t587 _ ?side1 ?side2 ?side3 ?side4 A29.out).mono ?_); (case side1 => repeat (first | exact (Kd.R_reads' HO_8.out).2.2 | (with_reducible refine Kd.C_alloc ?_ _) | (with_reducible refine Kd.C_drewN ?_ _) | (with_reducible refine Kd.C_drew ?_))); (case side2 => exact (Kd.R_reads' HO_8.out).2.1); (case side3 => repeat (first | exact (Kd.C_below HR2.out HB.out) | (with_reducible refine Kd.C_alloc ?_ _) | (with_reducible refine Kd.C_drewN ?_ _) | (with_reducible refine Kd.C_drew ?_))); (case side4 => exact HC2.out); rintro e w' ⟨rfl, ⟨nd, rfl⟩⟩; refine ⟨_, rfl, ?_⟩))
        go_roundg k3
        case measure => have := HJ5.out; have := HJ16.out; have := HK3.out; omega
        case rel => exact ⟨(wrap64 (x15_3 + 1)), aq7, H', ⟨by have := HJ5.out; have := HJ16.out; have := HK3.out; omega⟩, ⟨aq28⟩, ⟨aq57⟩, ⟨aq5⟩, ⟨aq3⟩⟩
       rw [if_neg c27] at H
       have c27b0 : decide (x15_3 < 61) = false := decide_eq_false c27
       clear c27
       obtain ⟨t579, A35, H⟩ := bS_ H
       obtain ⟨t582, A36, H⟩ := bS_ H
       obtain ⟨t585, A37, H⟩ := bS_ H
       obtain rfl := Option.some.inj H
       obtain ⟨hcz38_0, hcz38_1, hfz38_0, hfz38_1⟩ := czf2 BK0.out
       go_wp2_with (first | ((with_reducible refine gate_callee (f := 15) rfl ?_); refine goesL_ (some 79) rfl rfl Tryd.func15 (by kernel_rfl) rfl #[.slice A0 l0.length c0, .slice Ao23 t571.length co23, .slice A2 l2.length c2, .agg #[.int .i64 20, .int .i64 200]] rfl aq4 ?_; (with_reducible refine (spill_Code.calls k3 _ _ l0 _ _ t571 _ _ l2 20 200 t579 _ ?side1 ?side2 ?side3 ?side4 ?side5 ?side6 A35.out (GlobOK.step HGL.out aq3)).mono ?_); (case side1 => repeat (first | exact (Kd.C_below HR0.out HB.out) | (with_reducible refine Kd.C_alloc ?_ _) | (with_reducible refine Kd.C_drewN ?_ _) | (with_reducible refine Kd.C_drew ?_))); (case side2 => exact HC0.out); (case side3 => repeat (first | exact (Kd.R_reads' HO_9.out).2.2 | (with_reducible refine Kd.C_alloc ?_ _) | (with_reducible refine Kd.C_drewN ?_ _) | (with_reducible refine Kd.C_drew ?_))); (case side4 => exact (Kd.R_reads' HO_9.out).2.1); (case side5 => repeat (first | exact (Kd.C_below HR2.out HB.out) | (with_reducible refine Kd.C_alloc ?_ _) | (with_reducible refine Kd.C_drewN ?_ _) | (with_reducible refine Kd.C_drew ?_))); (case side6 => exact HC2.out); rintro e w39 ⟨v580, rfl, ho0, hb⟩; refine ⟨_, rfl, ?_⟩; replace HO_8 := Aside0.mk (Kd.R_below aq28 hb); replace HO_9 := Aside0.mk (Kd.R_below aq57 hb); have HO581 := Aside0.mk (Kd.R_lower ho0 (below_size aq3)); replace BK0 := Aside0.mk (blk_below (g := gb0) (o := .cells #[.int .i64 20, .int .i64 200] 31 (0, 0)) aq5 hb); replace HB := Aside0.mk (below_step aq3 hb); (try clear hb); (try clear hb2); (try clear hk); (try clear hi); (try clear ho0)) | ((with_reducible refine gate_callee (f := 16) rfl ?_); refine goesL_ (some 84) rfl rfl Tryd.func16 (by kernel_rfl) rfl #[.slice A0 l0.length c0, .agg #[.slice Ao19 t568.length co19, .slice A2 l2.length c2, .int .i64 20, .int .i64 200]] rfl aq4 ?_; (with_reducible refine (palingref22_Code.calls k3 _ _ l0 _ _ t568 _ _ l2 20 200 t582 _ ?side1 ?side2 ?side3 ?side4 ?side5 ?side6 A36.out).mono ?_); (case side1 => repeat (first | exact (Kd.C_below HR0.out HB.out) | (with_reducible refine Kd.C_alloc ?_ _) | (with_reducible refine Kd.C_drewN ?_ _) | (with_reducible refine Kd.C_drew ?_))); (case side2 => exact HC0.out); (case side3 => repeat (first | exact (Kd.R_reads' HO_8.out).2.2 | (with_reducible refine Kd.C_alloc ?_ _) | (with_reducible refine Kd.C_drewN ?_ _) | (with_reducible refine Kd.C_drew ?_))); (case side4 => exact (Kd.R_reads' HO_8.out).2.1); (case side5 => repeat (first | exact (Kd.C_below HR2.out HB.out) | (with_reducible refine Kd.C_alloc ?_ _) | (with_reducible refine Kd.C_drewN ?_ _) | (with_reducible refine Kd.C_drew ?_))); (case side6 => exact HC2.out); rintro e w40 ⟨v583, rfl, ho0, hb⟩; refine ⟨_, rfl, ?_⟩; have n0_ := Aside0.mk (Kd.R_below aq28 hb); have n1_ := Aside0.mk (Kd.R_below aq57 hb); have n2_ := Aside0.mk (Kd.R_elder' (by (with_reducible repeat (first | apply Kd.R_alloc | apply Kd.R_drewN | apply Kd.R_drew)); exact HO581.out) (Kd.R_base ho0) hb); have n3_ := Aside0.mk (Kd.R_lower (Kd.R_new' ho0 (Kd.R_lt (by (with_reducible repeat (first | apply Kd.R_alloc | apply Kd.R_drewN | apply Kd.R_drew)); exact HO581.out))) (below_size aq3)); have n4_ := Aside0.mk (blk_below (g := gb0) (o := .cells #[.int .i64 20, .int .i64 200] 31 (0, 0)) aq5 hb); have n5_ := Aside0.mk (below_step aq3 hb); clear HO_8; clear HO_9; clear HO581; clear BK0; clear HB; have HO_8 := n0_; have HO_9 := n1_; have HO581 := n2_; have HO584 := n3_; have BK0 := n4_; have HB := n5_; clear n0_ n1_ n2_ n3_ n4_ n5_; (try clear hb); (try clear hb2); (try clear hk); (try clear hi); (try clear ho0); obtain ⟨Ao41, co41, eo41⟩ := Kd.R_slice HO581.out; subst eo41; obtain ⟨Ao42, co42, eo42⟩ := Kd.R_slice HO584.out; subst eo42) | ((with_reducible refine gate_callee (f := 14) rfl ?_); refine goesL_ (some 85) rfl rfl Tryd.func14 (by kernel_rfl) rfl #[.slice Ao41 t579.length co41, .slice Ao42 t582.length co42] rfl aq4 ?_; (with_reducible refine (palingref13_Same.calls k3 _ _ t579 _ _ t582 t585 _ ?side1 ?side2 ?side3 ?side4 A37.out).mono ?_); (case side1 => repeat (first | exact (Kd.R_reads' HO581.out).2.2 | (with_reducible refine Kd.C_alloc ?_ _) | (with_reducible refine Kd.C_drewN ?_ _) | (with_reducible refine Kd.C_drew ?_))); (case side2 => exact (Kd.R_reads' HO581.out).2.1); (case side3 => repeat (first | exact (Kd.R_reads' HO584.out).2.2 | (with_reducible refine Kd.C_alloc ?_ _) | (with_reducible refine Kd.C_drewN ?_ _) | (with_reducible refine Kd.C_drew ?_))); (case side4 => exact (Kd.R_reads' HO584.out).2.1); rintro e w' ⟨rfl, ⟨nd, rfl⟩⟩; refine ⟨_, rfl, ?_⟩))
       go_ret
       exact ⟨aq13, aq3⟩
end Go.Proofs.YtpbhfpbfmpocdaaDoor.PSpillTells
