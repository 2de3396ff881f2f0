-- Written by print2.py over the kit's printer. Not trusted: Lean checks it.
import Derived.Test.YtianfjhhhhmjlaaDoorPLiveTellshqq
import Derived.Test.YtianfjhhhhmjlaaDoorPLiveTellshmid
import Derived.Test.YtianfjhhhhmjlaaDoorPLiveTellsx0
import Derived.Test.YtianfjhhhhmjlaaDoorPLiveTellsx3
import Derived.Test.YtianfjhhhhmjlaaDoorPLiveTellsx4
import Derived.Test.YtianfjhhhhmjlaaDoorPLiveTellsx6
import Derived.Test.YtianfjhhhhmjlaaDoorPLiveTellsx7
import Derived.Test.YtianfjhhhhmjlaaDoorPLiveTellsx8
namespace Go.Proofs.YtianfjhhhhmjlaaDoor.PLiveTells
open Go.RowKit Go.Proofs.YtianfjhhhhmjlaaDoorW.PrintWords Go.Proofs.YtianfjhhhhmjlaaDoorW.PrintLast Go.Proofs.YtianfjhhhhmjlaaDoorW.PrintMore
attribute [local go_sem] max2_int min2_int max_two min_two max_three min_three max_four min_four   -- for this text's walks alone
set_option linter.unusedVariables false
set_option linter.unusedSimpArgs false

/-! ### palingref15_Ranges: function 10 -/
mutual
def palingref15_Ranges.l0 : Nat → List (S39) → List (S31) → List (List Int) → List (List Int) → List Int → Int → Option ((List (S31)))
  | 0, _, _, _, _, _, _ => none
  | k + 1, x0, x3, x4, x5, x6, x7 => if x7 < (x6.length : Int) then (if 0 ≤ x7 then (palingref15_Ranges.l1 k x0 x3 x4 x5 x6 x7 0 (rd x6 x7) (-1) (-1)) else (none)) else (some x3)
def palingref15_Ranges.l1 : Nat → List (S39) → List (S31) → List (List Int) → List (List Int) → List Int → Int → Int → Int → Int → Int → Option ((List (S31)))
  | 0, _, _, _, _, _, _, _, _, _, _ => none
  | k + 1, x0, x3, x4, x5, x6, x7, x9, x319000, x319001, x319002 => if x9 < (x0.length : Int) then (if 0 ≤ x9 then ((palingref11_Def.f k ((rd_T39 x0 x9).f0) ((rd_T39 x0 x9).f1) ((rd_T39 x0 x9).f2) ((rd_T39 x0 x9).f3) ((rd_T39 x0 x9).f4) ((rd_T39 x0 x9).f5) ((rd_T39 x0 x9).f6)).bind fun t323 => (if t323 = x319000 then (palingref15_Ranges.j2 k x0 x3 x4 x5 x6 x7 x9 true x319000 x319001 x319002) else (if x9 < (x4.length : Int) then ((palingref15_has.f k (rd_L5 x4 x9) x319000).bind fun t325 => (palingref15_Ranges.j2 k x0 x3 x4 x5 x6 x7 x9 t325 x319000 x319001 x319002)) else (none)))) else (none)) else (if x319001 ≥ 0 then (if x3.length < 5864062014805 then (palingref15_Ranges.l0 k x0 (x3 ++ [(⟨x319000, x319001, x319002⟩ : S31)]) x4 x5 x6 (wrap64 (x7 + 1))) else (none)) else (palingref15_Ranges.l0 k x0 x3 x4 x5 x6 (wrap64 (x7 + 1))))
def palingref15_Ranges.j2 : Nat → List (S39) → List (S31) → List (List Int) → List (List Int) → List Int → Int → Int → Bool → Int → Int → Int → Option ((List (S31)))
  | 0, _, _, _, _, _, _, _, _, _, _, _ => none
  | k + 1, x0, x3, x4, x5, x6, x7, x9, x10, x319000, x319001, x319002 => if x10 = true then (palingref15_Ranges.j3 k x0 x3 x4 x5 x6 x7 x9 x10 (decide (x319001 < 0)) x319000 x319001 x319002) else (palingref15_Ranges.j3 k x0 x3 x4 x5 x6 x7 x9 x10 false x319000 x319001 x319002)
def palingref15_Ranges.j3 : Nat → List (S39) → List (S31) → List (List Int) → List (List Int) → List Int → Int → Int → Bool → Bool → Int → Int → Int → Option ((List (S31)))
  | 0, _, _, _, _, _, _, _, _, _, _, _, _ => none
  | k + 1, x0, x3, x4, x5, x6, x7, x9, x10, x56, x319000, x319001, x319002 => if x56 = true then (if x10 = true then (palingref15_Ranges.l1 k x0 x3 x4 x5 x6 x7 (wrap64 (x9 + 1)) x319000 x9 x9) else (if x9 ≥ 0 then (if 0 ≤ x9 then (if x9 < (x5.length : Int) then ((palingref15_has.f k (rd_L5 x5 x9) x319000).bind fun t327 => (if t327 = true then (palingref15_Ranges.l1 k x0 x3 x4 x5 x6 x7 (wrap64 (x9 + 1)) x319000 x9 x9) else (palingref15_Ranges.l1 k x0 x3 x4 x5 x6 x7 (wrap64 (x9 + 1)) x319000 x9 x319002))) else (none)) else (none)) else (palingref15_Ranges.l1 k x0 x3 x4 x5 x6 x7 (wrap64 (x9 + 1)) x319000 x9 x319002))) else (if x10 = true then (palingref15_Ranges.l1 k x0 x3 x4 x5 x6 x7 (wrap64 (x9 + 1)) x319000 x319001 x9) else (if x319001 ≥ 0 then (if 0 ≤ x9 then (if x9 < (x5.length : Int) then ((palingref15_has.f k (rd_L5 x5 x9) x319000).bind fun t329 => (if t329 = true then (palingref15_Ranges.l1 k x0 x3 x4 x5 x6 x7 (wrap64 (x9 + 1)) x319000 x319001 x9) else (palingref15_Ranges.l1 k x0 x3 x4 x5 x6 x7 (wrap64 (x9 + 1)) x319000 x319001 x319002))) else (none)) else (none)) else (palingref15_Ranges.l1 k x0 x3 x4 x5 x6 x7 (wrap64 (x9 + 1)) x319000 x319001 x319002)))
end
def palingref15_Ranges.f (k : Nat) (l0 : List (S39)) : Option ((List (S31))) := (palingref15_Ahead.f k l0).bind fun t308 => ((palingref15_Behind.f k l0).bind fun t311 => ((palingref15_Regs.f k l0).bind fun t314 => (palingref15_Ranges.l0 k l0 ([] : List (S31)) t308 t311 t314 0)))
theorem palingref15_Ranges.mono_l : ∀ k, (∀ y0 y1 y2 y3 y4 y5, LeO (palingref15_Ranges.l0 k y0 y1 y2 y3 y4 y5) (palingref15_Ranges.l0 (k + 1) y0 y1 y2 y3 y4 y5)) ∧ (∀ y0 y1 y2 y3 y4 y5 y6 y7 y8 y9, LeO (palingref15_Ranges.l1 k y0 y1 y2 y3 y4 y5 y6 y7 y8 y9) (palingref15_Ranges.l1 (k + 1) y0 y1 y2 y3 y4 y5 y6 y7 y8 y9)) ∧ (∀ y0 y1 y2 y3 y4 y5 y6 y7 y8 y9 y10, LeO (palingref15_Ranges.j2 k y0 y1 y2 y3 y4 y5 y6 y7 y8 y9 y10) (palingref15_Ranges.j2 (k + 1) y0 y1 y2 y3 y4 y5 y6 y7 y8 y9 y10)) ∧ (∀ y0 y1 y2 y3 y4 y5 y6 y7 y8 y9 y10 y11, LeO (palingref15_Ranges.j3 k y0 y1 y2 y3 y4 y5 y6 y7 y8 y9 y10 y11) (palingref15_Ranges.j3 (k + 1) y0 y1 y2 y3 y4 y5 y6 y7 y8 y9 y10 y11))
  | 0 => ⟨fun _ _ _ _ _ _ r h => by simp [palingref15_Ranges.l0] at h, fun _ _ _ _ _ _ _ _ _ _ r h => by simp [palingref15_Ranges.l1] at h, fun _ _ _ _ _ _ _ _ _ _ _ r h => by simp [palingref15_Ranges.j2] at h, fun _ _ _ _ _ _ _ _ _ _ _ _ r h => by simp [palingref15_Ranges.j3] at h⟩
  | k + 1 => by
    obtain ⟨ih0, ih1, ih2, ih3⟩ := palingref15_Ranges.mono_l k
    refine ⟨?_, ?_, ?_, ?_⟩ <;> intros <;> (first | unfold palingref15_Ranges.l0 | unfold palingref15_Ranges.l1 | unfold palingref15_Ranges.j2 | unfold palingref15_Ranges.j3) <;> repeat' (first | (with_reducible first | exact ih0 _ _ _ _ _ _ | exact ih1 _ _ _ _ _ _ _ _ _ _ | exact ih2 _ _ _ _ _ _ _ _ _ _ _ | exact ih3 _ _ _ _ _ _ _ _ _ _ _ _ | exact palingref11_Def.mono _ _ _ _ _ _ _ _ | exact palingref15_Ahead.mono _ _ | exact palingref15_Behind.mono _ _ | exact palingref15_Regs.mono _ _ | exact palingref15_has.mono _ _ _ | exact LeO.refl _ | exact LeO.none _ | refine LeO.ite ?_ ?_ | refine LeO.bind ?_ (fun _ => ?_)) | exact ih0 _ _ _ _ _ _ | exact ih1 _ _ _ _ _ _ _ _ _ _ | exact ih2 _ _ _ _ _ _ _ _ _ _ _ | exact ih3 _ _ _ _ _ _ _ _ _ _ _ _ | exact palingref11_Def.mono _ _ _ _ _ _ _ _ | exact palingref15_Ahead.mono _ _ | exact palingref15_Behind.mono _ _ | exact palingref15_Regs.mono _ _ | exact palingref15_has.mono _ _ _ | exact LeO.none _ | refine LeO.ite ?_ ?_ | refine LeO.bind ?_ (fun _ => ?_))
theorem palingref15_Ranges.mono : ∀ a0 k, LeO (palingref15_Ranges.f k a0) (palingref15_Ranges.f (k + 1) a0) := by
 intro a0 k
 obtain ⟨ih0, ih1, ih2, ih3⟩ := palingref15_Ranges.mono_l k
 unfold palingref15_Ranges.f
 repeat' (first | (with_reducible first | exact ih0 _ _ _ _ _ _ | exact ih1 _ _ _ _ _ _ _ _ _ _ | exact ih2 _ _ _ _ _ _ _ _ _ _ _ | exact ih3 _ _ _ _ _ _ _ _ _ _ _ _ | exact palingref11_Def.mono _ _ _ _ _ _ _ _ | exact palingref15_Ahead.mono _ _ | exact palingref15_Behind.mono _ _ | exact palingref15_Regs.mono _ _ | exact palingref15_has.mono _ _ _ | exact LeO.refl _ | exact LeO.none _ | refine LeO.ite ?_ ?_ | refine LeO.bind ?_ (fun _ => ?_)) | exact ih0 _ _ _ _ _ _ | exact ih1 _ _ _ _ _ _ _ _ _ _ | exact ih2 _ _ _ _ _ _ _ _ _ _ _ | exact ih3 _ _ _ _ _ _ _ _ _ _ _ _ | exact palingref11_Def.mono _ _ _ _ _ _ _ _ | exact palingref15_Ahead.mono _ _ | exact palingref15_Behind.mono _ _ | exact palingref15_Regs.mono _ _ | exact palingref15_has.mono _ _ _ | exact LeO.none _ | refine LeO.ite ?_ ?_ | refine LeO.bind ?_ (fun _ => ?_))
def palingref15_Ranges.T12 : Bool × List (List Nat × List Nat) := (true, [([], []), ([], []), ([0, 1], [0, 1]), ([2], [2]), ([3], [3]), ([], []), ([5], [5]), ([4, 6], [4, 6]), ([7, 4], [7]), ([8], [8]), ([8], [8]), ([9, 10, 8], [8, 9, 10]), ([11, 8], [8, 11]), ([8], [8]), ([13, 8], [8, 13]), ([12, 14, 8, 8], [8, 12, 14]), ([8, 15], [8, 15]), ([16, 15, 0, 1, 2, 3, 4, 5, 6, 7, 8, 9, 10, 11, 12, 13, 14, 15, 16], [16])])
def palingref15_Ranges.B12 : List Nat := [0, 0, 3, 7, 15, 0, 32, 127, 255, 511, 511, 2047, 4095, 511, 8703, 32767, 65535, 131071]
theorem palingref15_Ranges.tab12 : rtab .any (opsOf Tryd.f10 12) = palingref15_Ranges.T12 := by kernel_rfl
theorem palingref15_Ranges.bits12 : waitsOk palingref15_Ranges.T12.2 palingref15_Ranges.B12 = true := by kernel_rfl
def palingref15_Ranges.T15 : Bool × List (List Nat × List Nat) := (true, [([], []), ([0], [0]), ([1], [1]), ([2, 1], [1, 2]), ([3, 1], [1, 3]), ([4, 1, 1], [1, 4]), ([5], [5]), ([5], [5]), ([6, 7, 5], [5, 6, 7]), ([8, 5], [5, 8]), ([5], [5]), ([10, 5], [5, 10]), ([9, 11, 5, 5], [5, 9, 11]), ([5, 12, 1], [1, 5, 12]), ([1, 13], [1, 13])])
def palingref15_Ranges.B15 : List Nat := [0, 1, 3, 7, 15, 31, 63, 63, 255, 511, 63, 1087, 4095, 8191, 16383]
theorem palingref15_Ranges.tab15 : rtab .any (opsOf Tryd.f10 15) = palingref15_Ranges.T15 := by kernel_rfl
theorem palingref15_Ranges.bits15 : waitsOk palingref15_Ranges.T15.2 palingref15_Ranges.B15 = true := by kernel_rfl
set_option maxHeartbeats 8000000 in
set_option maxRecDepth 100000 in
theorem palingref15_Ranges.calls (k : Nat) (A0 : Option Addr) (c0 : Nat) (l0 : List (S39)) (r : List (S31)) (w : World) (hr0 : Kd.C k39 w A0 l0.length l0) (hc0 : l0.length ≤ c0) (h : palingref15_Ranges.f k l0 = some r) :
    Calls Tryd.prog 10 #[.slice A0 l0.length c0] w fun e w' => ∃ v0_ : Value, e = .returned (v0_) ∧ Kd.R k31 31 w' w.heap.size (fun _ => True) v0_ r ∧ Below w.heap.size w w' := by
 have hu31 := Tryd.underlying31
 have hu39 := Tryd.underlying39
 have HR0 := Aside0.mk hr0
 have HC0 := Aside0.mk hc0
 clear hr0 hc0
 have HB := Aside0.mk (Below.refl w.heap.size w)
 have H : ((palingref15_Ahead.f k l0).bind fun t308 => ((palingref15_Behind.f k l0).bind fun t311 => ((palingref15_Regs.f k l0).bind fun t314 => (palingref15_Ranges.l0 k l0 ([] : List (S31)) t308 t311 t314 0)))) = some r := h
 clear h
 obtain ⟨t308, A2, H⟩ := bS_ H
 obtain ⟨t311, A3, H⟩ := bS_ H
 obtain ⟨t314, A4, H⟩ := bS_ H
 have H' := Aside0.mk H
 clear H
 go_enter Tryd.func10, Tryd.ntmps10
 go_wp2_with (first | ((with_reducible refine gate_callee (f := 13) rfl ?_); refine goesL_ (some 12) rfl rfl Tryd.func13 (by kernel_rfl) rfl #[.slice A0 l0.length c0] rfl aq5 ?_; (with_reducible refine (palingref15_Ahead.calls k _ _ l0 t308 _ ?side1 ?side2 A2.out).mono ?_); (case side1 => repeat (first | exact HR0.out | (with_reducible refine Kd.C_alloc ?_ _) | (with_reducible refine Kd.C_drewN ?_ _) | (with_reducible refine Kd.C_drew ?_))); (case side2 => exact HC0.out); rintro e w5 ⟨v309, rfl, ho0, hb⟩; refine ⟨_, rfl, ?_⟩; have HO310 := Aside0.mk (Kd.S_lower ho0 (below_size aq0)); replace HB := Aside0.mk (below_step aq0 hb); (try clear hb); (try clear hb2); (try clear hk); (try clear hi); (try clear ho0)) | ((with_reducible refine gate_callee (f := 15) rfl ?_); refine goesL_ (some 14) rfl rfl Tryd.func15 (by kernel_rfl) rfl #[.slice A0 l0.length c0] rfl aq5 ?_; (with_reducible refine (palingref15_Behind.calls k _ _ l0 t311 _ ?side1 ?side2 A3.out).mono ?_); (case side1 => repeat (first | exact (Kd.C_below HR0.out HB.out) | (with_reducible refine Kd.C_alloc ?_ _) | (with_reducible refine Kd.C_drewN ?_ _) | (with_reducible refine Kd.C_drew ?_))); (case side2 => exact HC0.out); rintro e w6 ⟨v312, rfl, ho0, hb⟩; refine ⟨_, rfl, ?_⟩; have HO313 := Aside0.mk (Kd.S_lower (Kd.S_new' ho0 (Kd.S_lt aq58)) (below_size aq0)); replace HO310 := Aside0.mk (Kd.S_elder' aq58 (Kd.S_base ho0) hb); replace HB := Aside0.mk (below_step aq0 hb); (try clear hb); (try clear hb2); (try clear hk); (try clear hi); (try clear ho0)) | ((with_reducible refine gate_callee (f := 22) rfl ?_); refine goesL_ (some 16) rfl rfl Tryd.func22 (by kernel_rfl) rfl #[.slice A0 l0.length c0] rfl aq5 ?_; (with_reducible refine (palingref15_Regs.calls k _ _ l0 t314 _ ?side1 ?side2 A4.out).mono ?_); (case side1 => repeat (first | exact (Kd.C_below HR0.out HB.out) | (with_reducible refine Kd.C_alloc ?_ _) | (with_reducible refine Kd.C_drewN ?_ _) | (with_reducible refine Kd.C_drew ?_))); (case side2 => exact HC0.out); rintro e w7 ⟨v315, rfl, ho0, hb⟩; refine ⟨_, rfl, ?_⟩; replace HO310 := Aside0.mk (Kd.S_elder' aq58 (Kd.R_base ho0) hb); replace HO313 := Aside0.mk (Kd.S_elder' (by (with_reducible repeat (first | apply Kd.S_alloc | apply Kd.S_drewN | apply Kd.S_drew)); exact HO313.out) (Kd.R_base ho0) hb); have HO316 := Aside0.mk (Kd.R_lower ho0 (below_size aq0)); replace HB := Aside0.mk (below_step aq0 hb); (try clear hb); (try clear hb2); (try clear hk); (try clear hi); (try clear ho0)))
 go_loopg [3, 7] k (fun kq v3 v7 w' => ∃ (x3_1 : List (S31)) (x7_1 : Int), v7 = .int .i64 x7_1 ∧ Aside0 (palingref15_Ranges.l0 kq l0 x3_1 t308 t311 t314 x7_1 = some r) ∧ Aside0 (kq ≤ k) ∧ Aside0 (Kd.R k31 31 w' w.heap.size (fun _ => True) v3 x3_1) ∧ Aside0 (Kd.S (Kd.slice 3 (Kd.int .i64)) 36 w' w.heap.size (fun k_ => some k_ ≠ (v312 : Value).ownBlock ∧ some k_ ≠ (v315 : Value).ownBlock) v309 t308) ∧ Aside0 (Kd.S (Kd.slice 3 (Kd.int .i64)) 36 w' w.heap.size (fun k_ => some k_ ≠ (v309 : Value).ownBlock ∧ some k_ ≠ (v315 : Value).ownBlock) v312 t311) ∧ Aside0 (Kd.R (Kd.int .i64) 3 w' w.heap.size (fun _ => True) v315 t314) ∧ Aside0 (Below w.heap.size w w'))
 case atStart => exact ⟨(([] : List (S31))), (0), aq9, H', ⟨Nat.le_refl _⟩, ⟨aq36⟩, ⟨by (with_reducible repeat (first | apply Kd.S_alloc | apply Kd.S_drewN | apply Kd.S_drew)); exact Kd.S_mono HO310.out (fun _ hk => ⟨hk.1.2, hk.2⟩)⟩, ⟨by (with_reducible repeat (first | apply Kd.S_alloc | apply Kd.S_drewN | apply Kd.S_drew)); exact Kd.S_mono HO313.out (fun _ hk => ⟨hk.1.2, hk.2⟩)⟩, ⟨by (with_reducible repeat (first | apply Kd.R_alloc | apply Kd.R_drewN | apply Kd.R_drew)); exact HO316.out⟩, ⟨aq0⟩⟩
 case round =>
  clear H'
  obtain ⟨x3_1, x7_1, rfl, HA, HK1, HO_3, HO_4, HO_5, HO_6, HB⟩ := hrel
  cases gk with
  | zero => exact absurd HA.out (by simp [palingref15_Ranges.l0])
  | succ k1 =>
   have H := HA.out
   clear HA
   simp only [palingref15_Ranges.l0] at H
   by_cases c8 : x7_1 < (t314.length : Int)
   rotate_left
   ·rw [if_neg c8] at H
    have c8b0 : decide (x7_1 < (t314.length : Int)) = false := decide_eq_false c8
    clear c8
    obtain rfl := Option.some.inj H
    obtain ⟨Ao70, co70, eo70⟩ := Kd.R_slice HO_6.out
    subst eo70
    go_wp2
    go_ret
    exact ⟨_, aq13, aq6, aq0⟩
   rw [if_pos c8] at H
   have c8b0 : decide (x7_1 < (t314.length : Int)) = true := decide_eq_true c8
   clear c8
   by_cases c9 : 0 ≤ x7_1
   rotate_left
   ·rw [if_neg c9] at H
    exact absurd H (by simp)
   rw [if_pos c9] at H
   have c9b0 : decide (0 ≤ x7_1) = true := decide_eq_true c9
   clear c9
   have H' := Aside0.mk H
   clear H
   obtain ⟨Ao10, co10, eo10⟩ := Kd.R_slice HO_6.out
   subst eo10
   have p317 : 0 ≤ (x7_1 : Int) := of_decide_eq_true aq1
   have q317 : x7_1 < (t314.length : Int) := of_decide_eq_true aq1
   obtain ⟨ad317, e317, hx317_0⟩ := Kd.at_int (Kd.R_reads' HO_6.out).2.2 x7_1 p317 q317
   cases e317
   replace p317 := eq_true p317
   replace q317 := eq_true q317
   go_wp2_with (first | ((with_reducible refine gate_dst (N := 8) rfl ?_); refine box_event ?hg (N := 8) ?hd (cs := #[.int .i64 0, .int .i64 0, .int .i64 0]) (t := 31) ?hr ?_; (case hd => rfl); (case hg => rfl); (case hr => first | (go_simp; done) | (go_simp; rfl)); intro gb0 hg w11 hbox hb; have n0_ := Aside0.mk (Kd.R_below (Kd.R_elderB aq6 gb0 (Nat.le_of_eq hg.symm)) hb); have n1_ := Aside0.mk (Kd.S_below aq16 hb); have n2_ := Aside0.mk (Kd.S_below aq20 hb); have n3_ := Aside0.mk (Kd.R_below aq11 hb); have n4_ := Aside0.mk (below_step aq0 hb); have n5_ := Aside0.mk (hbox); have n6_ := Aside0.mk ((by rw [hg]; exact (below_size aq0) : w.heap.size ≤ gb0)); have n7_ := Aside0.mk ((by rw [hg]; exact (below_size aq0) : w.heap.size ≤ gb0)); clear HO_3; clear HO_4; clear HO_5; clear HO_6; clear HB; have HO_3 := n0_; have HO_4 := n1_; have HO_5 := n2_; have HO_6 := n3_; have HB := n4_; have BK0 := n5_; have GW0 := n6_; have GE0 := n7_; clear n0_ n1_ n2_ n3_ n4_ n5_ n6_ n7_; clear hb hbox hg; obtain ⟨hcz12_0, hcz12_1, hcz12_2, hfz12_0, hfz12_1, hfz12_2⟩ := czf3 BK0.out))
   go_loopg [9] k1 (fun kq v9 w' => ∃ (x9_2 : Int) (x319001_2 : Int) (x319002_2 : Int), v9 = .int .i64 x9_2 ∧ Aside0 (palingref15_Ranges.l1 kq l0 x3_1 t308 t311 t314 x7_1 x9_2 (rd t314 x7_1) x319001_2 x319002_2 = some r) ∧ Aside0 (kq ≤ k1) ∧ Aside0 (Kd.R k31 31 w' w.heap.size (fun k_ => k_ ≠ gb0) u3 x3_1) ∧ Aside0 (Kd.S (Kd.slice 3 (Kd.int .i64)) 36 w' w.heap.size (fun k_ => some k_ ≠ (v312 : Value).ownBlock ∧ some k_ ≠ ((.slice (some ad317) t314.length co10) : Value).ownBlock) v309 t308) ∧ Aside0 (Kd.S (Kd.slice 3 (Kd.int .i64)) 36 w' w.heap.size (fun k_ => some k_ ≠ (v309 : Value).ownBlock ∧ some k_ ≠ ((.slice (some ad317) t314.length co10) : Value).ownBlock) v312 t311) ∧ Aside0 (Kd.R (Kd.int .i64) 3 w' w.heap.size (fun _ => True) (.slice (some ad317) t314.length co10) t314) ∧ Aside0 (w'.heap[gb0]? = some (.cells #[.int .i64 (rd t314 x7_1), .int .i64 x319001_2, .int .i64 x319002_2] 31 (0, 0))) ∧ Aside0 (Below w.heap.size w w'))
   case atStart => exact ⟨(0), ((-1)), ((-1)), aq9, H', ⟨Nat.le_refl _⟩, ⟨by (with_reducible repeat (first | apply Kd.R_alloc | apply Kd.R_drewN | apply Kd.R_drew)); exact Kd.R_mono (Kd.R_far (p := ⟨gb0, 2, none⟩) (Kd.R_far (p := ⟨gb0, 1, none⟩) (Kd.R_far (p := ⟨gb0, 0, none⟩) (Kd.R_mono HO_3.out (fun k_ hk => (⟨hk, hk.2⟩ : _ ∧ k_ ≠ gb0))) (fun _ hk => hk.2) (.int .i64 (rd t314 x7_1))) (fun _ hk => hk.2) (.int .i64 (-1))) (fun _ hk => hk.2) (.int .i64 (-1))) (fun _ hk => hk.1.2)⟩, ⟨by (with_reducible repeat (first | apply Kd.S_alloc | apply Kd.S_drewN | apply Kd.S_drew)); exact Kd.S_mono (Kd.S_far (p := ⟨gb0, 2, none⟩) (Kd.S_far (p := ⟨gb0, 1, none⟩) (Kd.S_far (p := ⟨gb0, 0, none⟩) (Kd.S_types HO_4.out BK0.out (by decide)) (fun _ hk => hk.2) (.int .i64 (rd t314 x7_1))) (fun _ hk => hk.2) (.int .i64 (-1))) (fun _ hk => hk.2) (.int .i64 (-1))) (fun _ hk => ⟨hk.1.1, hk.1.2⟩)⟩, ⟨by (with_reducible repeat (first | apply Kd.S_alloc | apply Kd.S_drewN | apply Kd.S_drew)); exact Kd.S_mono (Kd.S_far (p := ⟨gb0, 2, none⟩) (Kd.S_far (p := ⟨gb0, 1, none⟩) (Kd.S_far (p := ⟨gb0, 0, none⟩) (Kd.S_types HO_5.out BK0.out (by decide)) (fun _ hk => hk.2) (.int .i64 (rd t314 x7_1))) (fun _ hk => hk.2) (.int .i64 (-1))) (fun _ hk => hk.2) (.int .i64 (-1))) (fun _ hk => ⟨hk.1.1, hk.1.2⟩)⟩, ⟨by (with_reducible repeat (first | apply Kd.R_alloc | apply Kd.R_drewN | apply Kd.R_drew)); exact Kd.R_mono (Kd.R_far (p := ⟨gb0, 2, none⟩) (Kd.R_far (p := ⟨gb0, 1, none⟩) (Kd.R_far (p := ⟨gb0, 0, none⟩) (Kd.R_types HO_6.out BK0.out (by decide)) (fun _ hk => hk.2) (.int .i64 (rd t314 x7_1))) (fun _ hk => hk.2) (.int .i64 (-1))) (fun _ hk => hk.2) (.int .i64 (-1))) (fun _ hk => trivial)⟩, ⟨by (with_reducible repeat (first | refine blk_drewN ?_ _ | refine blk_drew ?_ | refine blk_alloc ?_ _)); refine blk_put (cs := #[.int .i64 (rd t314 x7_1), .int .i64 (-1), .int .i64 0]) ?_ 2 _ rfl; (with_reducible repeat (first | refine blk_drewN ?_ _ | refine blk_drew ?_ | refine blk_alloc ?_ _)); refine blk_put (cs := #[.int .i64 (rd t314 x7_1), .int .i64 0, .int .i64 0]) ?_ 1 _ rfl; (with_reducible repeat (first | refine blk_drewN ?_ _ | refine blk_drew ?_ | refine blk_alloc ?_ _)); refine blk_put (cs := #[.int .i64 0, .int .i64 0, .int .i64 0]) ?_ 0 _ rfl; (with_reducible repeat (first | refine blk_drewN ?_ _ | refine blk_drew ?_ | refine blk_alloc ?_ _)); exact BK0.out⟩, ⟨aq3⟩⟩
   case round =>
    clear H'
    obtain ⟨x9_2, x319001_2, x319002_2, rfl, HA, HK2, HO_3, HO_4, HO_5, HO_6, BK0, HB⟩ := hrel
    cases gk with
    | zero => exact absurd HA.out (by simp [palingref15_Ranges.l1])
    | succ k2 =>
     have H := HA.out
     clear HA
     simp only [palingref15_Ranges.l1] at H
     by_cases c13 : x9_2 < (l0.length : Int)
     rotate_left
     ·rw [if_neg c13] at H
      have c13b0 : decide (x9_2 < (l0.length : Int)) = false := decide_eq_false c13
      clear c13
      by_cases c65 : x319001_2 ≥ 0
      rotate_left
      ·rw [if_neg c65] at H
       have c65b0 : decide (0 ≤ x319001_2) = false := decide_eq_false c65
       clear c65
       have H' := Aside0.mk H
       clear H
       obtain ⟨hcz69_0, hcz69_1, hcz69_2, hfz69_0, hfz69_1, hfz69_2⟩ := czf3 BK0.out
       go_wp2
       go_roundg k2
       case measure => have := HK1.out; have := HK2.out; omega
       case rel => exact ⟨(x3_1), (wrap64 (x7_1 + 1)), aq9, H', ⟨aq53⟩, ⟨by (with_reducible repeat (first | apply Kd.R_alloc | apply Kd.R_drewN | apply Kd.R_drew)); exact Kd.R_mono HO_3.out (fun _ hk => trivial)⟩, ⟨aq16⟩, ⟨aq20⟩, ⟨aq11⟩, ⟨aq3⟩⟩
      rw [if_pos c65] at H
      have c65b0 : decide (0 ≤ x319001_2) = true := decide_eq_true c65
      clear c65
      by_cases c66 : x3_1.length < 5864062014805
      rotate_left
      ·rw [if_neg c66] at H
       exact absurd H (by simp)
      rw [if_pos c66] at H
      have LMc66 := Aside0.mk c66
      clear c66
      obtain ⟨y319, hy_⟩ : ∃ y_ : List (S31), y_ = (x3_1 ++ [(⟨(rd t314 x7_1), x319001_2, x319002_2⟩ : S31)]) := ⟨_, rfl⟩
      replace H : (palingref15_Ranges.l0 k2 l0 y319 t308 t311 t314 (wrap64 (x7_1 + 1))) = some r := aq2
      have Ny319 := Aside0.mk hy_
      clear hy_
      have H' := Aside0.mk H
      clear H
      obtain ⟨hcz67_0, hcz67_1, hcz67_2, hfz67_0, hfz67_1, hfz67_2⟩ := czf3 BK0.out
      go_wp2_with (first | ((with_reducible refine gate_builtin (b := .append) (xs := #[.tmp 79, .tmp 81]) rfl ?_); at_builtin; refine Kd.R_append k31 (w0 := w) w.heap.size rfl (.tmp 79) (.tmp 81) 27 31 (.agg #[(.int .i64 0), (.int .i64 0), (.int .i64 0)]) 24 rfl Tryd.underlying27 info31 rfl (by decide) (by omega) u3 x3_1 (⟨(rd t314 x7_1), x319001_2, x319002_2⟩ : S31) [.int .i64 (rd t314 x7_1), .int .i64 x319001_2, .int .i64 x319002_2] (fun k_ => k_ ≠ gb0) (fun _ => False) rfl rfl ?aP (fun _ hk => hk.elim) ?aF ?aO ?aB ?aS ?aL ?_; (case aP => exact k31_mkM _ _ _ (⟨(rd t314 x7_1), x319001_2, x319002_2⟩ : S31)); (case aB => exact aq3); (case aF => exact (fun k_ hk => Kd.freshB (g := gb0) (o := .cells #[.int .i64 (rd t314 x7_1), .int .i64 x319001_2, .int .i64 x319002_2] 31 (0, 0)) aq10 k_ hk)); (case aO => exact aq6); (case aS => exact (below_size aq3)); (case aL => have := LMc66.out; omega); intro v320 w68 ho hb hg hat; rw [← Ny319.out] at ho; replace HO_4 := Aside0.mk (Kd.S_over' aq16 (Kd.R_typed aq6) (by decide) hg); replace HO_5 := Aside0.mk (Kd.S_over' aq20 (Kd.R_typed aq6) (by decide) hg); replace HO_6 := Aside0.mk (Kd.R_over' aq11 (Kd.R_typed aq6) (by decide) hg); replace BK0 := Aside0.mk (blk_grown (g := gb0) (o := .cells #[.int .i64 (rd t314 x7_1), .int .i64 x319001_2, .int .i64 x319002_2] 31 (0, 0)) aq10 hg (Kd.R_away HO_3.out (fun _ hk => hk))); replace HB := Aside0.mk (hb); have HO321 := Aside0.mk (ho); clear HO_3; clear ho hb hg hat))
      go_roundg k2
      case measure => have := HK1.out; have := HK2.out; omega
      case rel => exact ⟨(y319), (wrap64 (x7_1 + 1)), aq9, H', ⟨aq53⟩, ⟨by (with_reducible repeat (first | apply Kd.R_alloc | apply Kd.R_drewN | apply Kd.R_drew)); exact Kd.R_mono HO321.out (fun _ hk => trivial)⟩, ⟨aq16⟩, ⟨aq20⟩, ⟨aq11⟩, ⟨aq3⟩⟩
     rw [if_pos c13] at H
     have c13b0 : decide (x9_2 < (l0.length : Int)) = true := decide_eq_true c13
     clear c13
     have HC14 := Aside0.mk H
     clear H
     go_upto_region 12 with (fail)
     go_cut [10] (fun v10 wc => ∃ (kq : Nat) (x10_13 : Bool), v10 = .bool x10_13 ∧ Aside0 (palingref15_Ranges.j2 kq l0 x3_1 t308 t311 t314 x7_1 x9_2 x10_13 (rd t314 x7_1) x319001_2 x319002_2 = some r) ∧ Aside0 (kq ≤ k2) ∧ Aside0 (Kd.R k31 31 wc w.heap.size (fun k_ => k_ ≠ gb0) u3 x3_1) ∧ Aside0 (Kd.S (Kd.slice 3 (Kd.int .i64)) 36 wc w.heap.size (fun k_ => some k_ ≠ (v312 : Value).ownBlock ∧ some k_ ≠ ((.slice (some ad317) t314.length co10) : Value).ownBlock) v309 t308) ∧ Aside0 (Kd.S (Kd.slice 3 (Kd.int .i64)) 36 wc w.heap.size (fun k_ => some k_ ≠ (v309 : Value).ownBlock ∧ some k_ ≠ ((.slice (some ad317) t314.length co10) : Value).ownBlock) v312 t311) ∧ Aside0 (Kd.R (Kd.int .i64) 3 wc w.heap.size (fun _ => True) (.slice (some ad317) t314.length co10) t314) ∧ Aside0 (wc.heap[gb0]? = some (.cells #[.int .i64 (rd t314 x7_1), .int .i64 x319001_2, .int .i64 x319002_2] 31 (0, 0))) ∧ Aside0 (Below w.heap.size w wc))
     case first =>
      have H := HC14.out
      clear HC14
      by_cases c15 : 0 ≤ x9_2
      rotate_left
      ·rw [if_neg c15] at H
       exact absurd H (by simp)
      rw [if_pos c15] at H
      have c15b0 : decide (0 ≤ x9_2) = true := decide_eq_true c15
      clear c15
      (first | rw [c15b0] | (simp only [i64_w, i32_w]; rw [c15b0]) | skip)
      obtain ⟨t323, A16, H⟩ := bS_ H
      by_cases c17 : t323 = (rd t314 x7_1)
      ·rw [if_pos c17] at H
       have c17b0 : (t323 == (rd t314 x7_1)) = true := beq_iff_eq.mpr c17
       have c17b1 : (t323 != (rd t314 x7_1)) = false := bne_eq_false_iff_eq.mpr c17
       clear c17
       have H' := Aside0.mk H
       clear H
       try go_wp2
       replace HO_3 := Aside0.mk (Kd.R_drew HO_3.out)
       replace HO_4 := Aside0.mk (Kd.S_drew HO_4.out)
       replace HO_5 := Aside0.mk (Kd.S_drew HO_5.out)
       replace HO_6 := Aside0.mk (Kd.R_drew HO_6.out)
       replace BK0 := Aside0.mk (blk_drew BK0.out)
       replace HB := Aside0.mk (below_drew1 HB.out)
       have p322 : 0 ≤ (x9_2 : Int) := of_decide_eq_true aq1
       have q322 : x9_2 < (l0.length : Int) := of_decide_eq_true aq1
       obtain ⟨ad322, e322, hx322_0, hx322_1, hx322_2, hx322_3, hx322_4, hx322_5, hx322_6⟩ := at_T39 HR0.out x9_2 p322 q322
       have hw322_6 := hx322_6
       have hw322_5 := hx322_5
       have hw322_4 := hx322_4
       have hw322_3 := hx322_3
       have hw322_2 := hx322_2
       have hw322_1 := hx322_1
       have hw322_0 := hx322_0
       cases e322
       replace hx322_0 := (HB.out.cell (World.block_lt_of_cell? w _ hx322_0)).trans hx322_0
       replace hx322_1 := (HB.out.cell (World.block_lt_of_cell? w _ hx322_1)).trans hx322_1
       replace hx322_2 := (HB.out.cell (World.block_lt_of_cell? w _ hx322_2)).trans hx322_2
       replace hx322_3 := (HB.out.cell (World.block_lt_of_cell? w _ hx322_3)).trans hx322_3
       replace hx322_4 := (HB.out.cell (World.block_lt_of_cell? w _ hx322_4)).trans hx322_4
       replace hx322_5 := (HB.out.cell (World.block_lt_of_cell? w _ hx322_5)).trans hx322_5
       replace hx322_6 := (HB.out.cell (World.block_lt_of_cell? w _ hx322_6)).trans hx322_6
       replace p322 := eq_true p322
       replace q322 := eq_true q322
       refine start_ (n := 18) (S := fun w' => w'.cell? ⟨gb0, 0, none⟩ = some (.int .i64 (rd t314 x7_1)) ∧ w'.cell? ⟨gb0, 1, none⟩ = some (.int .i64 x319001_2) ∧ w'.cell? ⟨gb0, 2, none⟩ = some (.int .i64 x319002_2) ∧ w'.cell? (ad322.add ((x9_2).toNat * 7)) = some (.int .i64 ((rd_T39 l0 x9_2).f0)) ∧ w'.cell? ⟨(ad322.add ((x9_2).toNat * 7)).block, (ad322.add ((x9_2).toNat * 7)).off + 1, none⟩ = some (.int .i64 ((rd_T39 l0 x9_2).f1)) ∧ w'.cell? ⟨(ad322.add ((x9_2).toNat * 7)).block, (ad322.add ((x9_2).toNat * 7)).off + 2, none⟩ = some (.int .i64 ((rd_T39 l0 x9_2).f2)) ∧ w'.cell? ⟨(ad322.add ((x9_2).toNat * 7)).block, (ad322.add ((x9_2).toNat * 7)).off + 3, none⟩ = some (.int .i64 ((rd_T39 l0 x9_2).f3)) ∧ w'.cell? ⟨(ad322.add ((x9_2).toNat * 7)).block, (ad322.add ((x9_2).toNat * 7)).off + 4, none⟩ = some (.int .i64 ((rd_T39 l0 x9_2).f4)) ∧ w'.cell? ⟨(ad322.add ((x9_2).toNat * 7)).block, (ad322.add ((x9_2).toNat * 7)).off + 5, none⟩ = some (.int .i64 ((rd_T39 l0 x9_2).f5)) ∧ w'.cell? ⟨(ad322.add ((x9_2).toNat * 7)).block, (ad322.add ((x9_2).toNat * 7)).off + 6, none⟩ = some (.int .i64 ((rd_T39 l0 x9_2).f6))) (ds := []) #[false, false, false, false, false, false, false, false, false, false, false, false, false, false, false, false, false, false] (by kernel_rfl) rfl rfl ⟨(blk_cell BK0.out 0).trans rfl, (blk_cell BK0.out 1).trans rfl, (blk_cell BK0.out 2).trans rfl, ((HB.out.cell (World.block_lt_of_cell? w _ hw322_0)).trans hw322_0), ((HB.out.cell (World.block_lt_of_cell? w _ hw322_1)).trans hw322_1), ((HB.out.cell (World.block_lt_of_cell? w _ hw322_2)).trans hw322_2), ((HB.out.cell (World.block_lt_of_cell? w _ hw322_3)).trans hw322_3), ((HB.out.cell (World.block_lt_of_cell? w _ hw322_4)).trans hw322_4), ((HB.out.cell (World.block_lt_of_cell? w _ hw322_5)).trans hw322_5), ((HB.out.cell (World.block_lt_of_cell? w _ hw322_6)).trans hw322_6)⟩ (fun hHeld => ?_); refine with_tabW palingref15_Ranges.tab12 palingref15_Ranges.bits12 (fun HT_ HW_ => ?_)
       generalize wr.drew = w18 at HO_3 HO_4 HO_5 HO_6 BK0 HB hx322_0 hx322_1 hx322_2 hx322_3 hx322_4 hx322_5 hx322_6 hHeld ⊢
       refine pz (i := 0) (N := some 34) (bz 18 1) rfl rfl ?_
       refine pz (i := 1) (N := some 35) (bz 18 3) rfl rfl ?_
       refine pz (i := 2) (N := some 36) (bz 18 7) rfl rfl ?_
       refine pz (i := 5) (N := some 39) (bz 18 39) rfl rfl ?_
       refine tz10 (i := 3) (N := some 37) (bz 18 47) rfl rfl hHeld ?_
       refine tz10 (i := 6) (N := some 40) (bz 18 111) rfl rfl hHeld ?_
       refine one_ (i := 4) (N := some 38) #[true, true, true, true, true, true, true, false, false, false, false, false, false, false, false, false, false, false] rfl rfl (one_of HT_.out (by kernel_rfl)) (by decide) (fun K hK => ?_)
       refine goes_ Tryd.func19 (by kernel_rfl) rfl #[.agg #[.int .i64 ((rd_T39 l0 x9_2).f0), .int .i64 ((rd_T39 l0 x9_2).f1), .int .i64 ((rd_T39 l0 x9_2).f2), .int .i64 ((rd_T39 l0 x9_2).f3), .int .i64 ((rd_T39 l0 x9_2).f4), .int .i64 ((rd_T39 l0 x9_2).f5), .int .i64 ((rd_T39 l0 x9_2).f6)]] (by rfl) rfl rfl aq5 ?_
       with_reducible refine (palingref11_Def.calls k2 ((rd_T39 l0 x9_2).f0) ((rd_T39 l0 x9_2).f1) ((rd_T39 l0 x9_2).f2) ((rd_T39 l0 x9_2).f3) ((rd_T39 l0 x9_2).f4) ((rd_T39 l0 x9_2).f5) ((rd_T39 l0 x9_2).f6) t323 _ A16.out).mono ?_
       rintro e w19 ⟨rfl, hb⟩
       refine ⟨_, rfl, ?_⟩
       replace HO_3 := Aside0.mk (Kd.R_below aq6 hb)
       replace HO_4 := Aside0.mk (Kd.S_below aq16 hb)
       replace HO_5 := Aside0.mk (Kd.S_below aq20 hb)
       replace HO_6 := Aside0.mk (Kd.R_below aq11 hb)
       replace BK0 := Aside0.mk (blk_below (g := gb0) (o := .cells #[.int .i64 (rd t314 x7_1), .int .i64 x319001_2, .int .i64 x319002_2] 31 (0, 0)) aq10 hb)
       replace HB := Aside0.mk (below_step aq3 hb)
       (try clear hb)
       (try clear hb2)
       (try clear hk)
       (try clear hi)
       refine hK.out _ _ ⟨(blk_cell BK0.out 0).trans rfl, (blk_cell BK0.out 1).trans rfl, (blk_cell BK0.out 2).trans rfl, ((HB.out.cell (World.block_lt_of_cell? w _ hw322_0)).trans hw322_0), ((HB.out.cell (World.block_lt_of_cell? w _ hw322_1)).trans hw322_1), ((HB.out.cell (World.block_lt_of_cell? w _ hw322_2)).trans hw322_2), ((HB.out.cell (World.block_lt_of_cell? w _ hw322_3)).trans hw322_3), ((HB.out.cell (World.block_lt_of_cell? w _ hw322_4)).trans hw322_4), ((HB.out.cell (World.block_lt_of_cell? w _ hw322_5)).trans hw322_5), ((HB.out.cell (World.block_lt_of_cell? w _ hw322_6)).trans hw322_6)⟩ (fun hHeld => ?_)
       clear hK K
       refine norm_ (a' := ?_) ?_ ?_
       rotate_left
       ·show Act.put _ (some 38) _ = _
        simp only [Act.put, List.setIfInBounds_toArray, List.set_cons_zero, List.set_cons_succ, i64_w, i32_w]
        rfl
       refine pz (i := 7) (N := some 41) (bz 18 255) rfl rfl ?_
       refine pz (i := 8) (N := some 42) (bz 18 511) rfl rfl ?_
       refine pu (i := 9) (N := some 43) (bz 18 1023) rfl rfl ?_
       refine pu (i := 10) (N := some 44) (bz 18 2047) rfl rfl ?_
       refine pu (i := 11) (N := some 45) (bz 18 4095) rfl rfl ?_
       refine pu (i := 12) (N := some 46) (bz 18 8191) rfl rfl ?_
       refine pu (i := 13) (N := some 47) (bz 18 16383) rfl rfl ?_
       refine pu (i := 14) (N := some 48) (bz 18 32767) rfl rfl ?_
       refine pu (i := 15) (N := some 49) (bz 18 65535) rfl rfl ?_
       refine pz (i := 16) (N := some 50) (bz 18 131071) rfl rfl ?_
       refine pz (i := 17) (N := some 10) (bz 18 262143) rfl rfl ?_
       refine done_ (done_of HT_.out (by kernel_rfl)) ?_
       try go_wp2
       go_meet
       case rel => exact ⟨_, (true), aq9, H', ⟨by have := HK1.out; have := HK2.out; first | omega | exact Nat.le_refl _⟩, ⟨aq6⟩, ⟨aq16⟩, ⟨aq20⟩, ⟨aq11⟩, ⟨aq10⟩, ⟨aq3⟩⟩
      rw [if_neg c17] at H
      have c17b0 : (t323 == (rd t314 x7_1)) = false := beq_eq_false_iff_ne.mpr c17
      have c17b1 : (t323 != (rd t314 x7_1)) = true := bne_iff_ne.mpr c17
      by_cases c20 : x9_2 < (t308.length : Int)
      rotate_left
      ·rw [if_neg c20] at H
       exact absurd H (by simp)
      rw [if_pos c20] at H
      have c20b0 : decide (x9_2 < (t308.length : Int)) = true := decide_eq_true c20
      clear c20
      obtain ⟨t325, A21, H⟩ := bS_ H
      have H' := Aside0.mk H
      clear H
      try go_wp2
      replace HO_3 := Aside0.mk (Kd.R_drew HO_3.out)
      replace HO_4 := Aside0.mk (Kd.S_drew HO_4.out)
      replace HO_5 := Aside0.mk (Kd.S_drew HO_5.out)
      replace HO_6 := Aside0.mk (Kd.R_drew HO_6.out)
      replace BK0 := Aside0.mk (blk_drew BK0.out)
      replace HB := Aside0.mk (below_drew1 HB.out)
      have p322 : 0 ≤ (x9_2 : Int) := of_decide_eq_true aq1
      have q322 : x9_2 < (l0.length : Int) := of_decide_eq_true aq1
      obtain ⟨ad322, e322, hx322_0, hx322_1, hx322_2, hx322_3, hx322_4, hx322_5, hx322_6⟩ := at_T39 HR0.out x9_2 p322 q322
      have hw322_6 := hx322_6
      have hw322_5 := hx322_5
      have hw322_4 := hx322_4
      have hw322_3 := hx322_3
      have hw322_2 := hx322_2
      have hw322_1 := hx322_1
      have hw322_0 := hx322_0
      cases e322
      replace hx322_0 := (HB.out.cell (World.block_lt_of_cell? w _ hx322_0)).trans hx322_0
      replace hx322_1 := (HB.out.cell (World.block_lt_of_cell? w _ hx322_1)).trans hx322_1
      replace hx322_2 := (HB.out.cell (World.block_lt_of_cell? w _ hx322_2)).trans hx322_2
      replace hx322_3 := (HB.out.cell (World.block_lt_of_cell? w _ hx322_3)).trans hx322_3
      replace hx322_4 := (HB.out.cell (World.block_lt_of_cell? w _ hx322_4)).trans hx322_4
      replace hx322_5 := (HB.out.cell (World.block_lt_of_cell? w _ hx322_5)).trans hx322_5
      replace hx322_6 := (HB.out.cell (World.block_lt_of_cell? w _ hx322_6)).trans hx322_6
      replace p322 := eq_true p322
      replace q322 := eq_true q322
      have p324 : 0 ≤ (x9_2 : Int) := of_decide_eq_true aq1
      have q324 : x9_2 < (t308.length : Int) := of_decide_eq_true aq1
      obtain ⟨Ao4_, co4_, eo4_⟩ := Kd.S_slice HO_4.out
      subst eo4_
      obtain ⟨ad324, A324_0, c324_0, e324, hx324_0, hl324_0, hi324_0⟩ := at_L5 (Kd.S_reads' HO_4.out).2.2 x9_2 p324 q324
      cases e324
      obtain ⟨ce324, hce324, hMe324, hcc324⟩ := Kd.S_get HO_4.out [] x9_2 p324 (by first | exact q324 | exact of_decide_eq_true aq1 | (have e_ := (Kd.S_reads' HO_4.out).1; omega))
      obtain ⟨ve324_0, rfl, ge324_0⟩ := hMe324
      have hv324_0 := hcc324 0 _ rfl
      rw [Nat.add_zero, show ((Kd.slice 3 (Kd.int .i64))).sz = 1 from rfl, Nat.mul_one] at hv324_0
      replace hv324_0 := Option.some.inj (hv324_0.symm.trans hx324_0)
      rw [hv324_0] at ge324_0
      have HL324_0 := Aside0.mk (show Kd.R (Kd.int .i64) 3 _ _ _ _ (rd_L5 t308 x9_2) from ge324_0)
      clear hv324_0 ge324_0 hcc324 hce324
      have HR324_0 := Aside0.mk hi324_0
      have HC324_0 := Aside0.mk hl324_0
      clear hi324_0 hl324_0
      replace p324 := eq_true p324
      replace q324 := eq_true q324
      refine start_ (n := 18) (S := fun w' => w'.cell? ⟨gb0, 0, none⟩ = some (.int .i64 (rd t314 x7_1)) ∧ w'.cell? ⟨gb0, 1, none⟩ = some (.int .i64 x319001_2) ∧ w'.cell? ⟨gb0, 2, none⟩ = some (.int .i64 x319002_2) ∧ w'.cell? (ad322.add ((x9_2).toNat * 7)) = some (.int .i64 ((rd_T39 l0 x9_2).f0)) ∧ w'.cell? ⟨(ad322.add ((x9_2).toNat * 7)).block, (ad322.add ((x9_2).toNat * 7)).off + 1, none⟩ = some (.int .i64 ((rd_T39 l0 x9_2).f1)) ∧ w'.cell? ⟨(ad322.add ((x9_2).toNat * 7)).block, (ad322.add ((x9_2).toNat * 7)).off + 2, none⟩ = some (.int .i64 ((rd_T39 l0 x9_2).f2)) ∧ w'.cell? ⟨(ad322.add ((x9_2).toNat * 7)).block, (ad322.add ((x9_2).toNat * 7)).off + 3, none⟩ = some (.int .i64 ((rd_T39 l0 x9_2).f3)) ∧ w'.cell? ⟨(ad322.add ((x9_2).toNat * 7)).block, (ad322.add ((x9_2).toNat * 7)).off + 4, none⟩ = some (.int .i64 ((rd_T39 l0 x9_2).f4)) ∧ w'.cell? ⟨(ad322.add ((x9_2).toNat * 7)).block, (ad322.add ((x9_2).toNat * 7)).off + 5, none⟩ = some (.int .i64 ((rd_T39 l0 x9_2).f5)) ∧ w'.cell? ⟨(ad322.add ((x9_2).toNat * 7)).block, (ad322.add ((x9_2).toNat * 7)).off + 6, none⟩ = some (.int .i64 ((rd_T39 l0 x9_2).f6)) ∧ w'.cell? (ad324.add (x9_2).toNat) = some (.slice A324_0 (rd_L5 t308 x9_2).length c324_0)) (ds := []) #[false, false, false, false, false, false, false, false, false, false, false, false, false, false, false, false, false, false] (by kernel_rfl) rfl rfl ⟨(blk_cell BK0.out 0).trans rfl, (blk_cell BK0.out 1).trans rfl, (blk_cell BK0.out 2).trans rfl, ((HB.out.cell (World.block_lt_of_cell? w _ hw322_0)).trans hw322_0), ((HB.out.cell (World.block_lt_of_cell? w _ hw322_1)).trans hw322_1), ((HB.out.cell (World.block_lt_of_cell? w _ hw322_2)).trans hw322_2), ((HB.out.cell (World.block_lt_of_cell? w _ hw322_3)).trans hw322_3), ((HB.out.cell (World.block_lt_of_cell? w _ hw322_4)).trans hw322_4), ((HB.out.cell (World.block_lt_of_cell? w _ hw322_5)).trans hw322_5), ((HB.out.cell (World.block_lt_of_cell? w _ hw322_6)).trans hw322_6), hx324_0⟩ (fun hHeld => ?_); refine with_tabW palingref15_Ranges.tab12 palingref15_Ranges.bits12 (fun HT_ HW_ => ?_)
      generalize wr.drew = w22 at HO_3 HO_4 HO_5 HO_6 BK0 HB HL324_0 HR324_0 hx322_0 hx322_1 hx322_2 hx322_3 hx322_4 hx322_5 hx322_6 hx324_0 hHeld ⊢
      refine pz (i := 0) (N := some 34) (bz 18 1) rfl rfl ?_
      refine pz (i := 1) (N := some 35) (bz 18 3) rfl rfl ?_
      refine pz (i := 2) (N := some 36) (bz 18 7) rfl rfl ?_
      refine pz (i := 5) (N := some 39) (bz 18 39) rfl rfl ?_
      refine tz11 (i := 3) (N := some 37) (bz 18 47) rfl rfl hHeld ?_
      refine tz11 (i := 6) (N := some 40) (bz 18 111) rfl rfl hHeld ?_
      refine one_ (i := 4) (N := some 38) #[true, true, true, true, true, true, true, false, false, false, false, false, false, false, false, false, false, false] rfl rfl (one_of HT_.out (by kernel_rfl)) (by decide) (fun K hK => ?_)
      refine goes_ Tryd.func19 (by kernel_rfl) rfl #[.agg #[.int .i64 ((rd_T39 l0 x9_2).f0), .int .i64 ((rd_T39 l0 x9_2).f1), .int .i64 ((rd_T39 l0 x9_2).f2), .int .i64 ((rd_T39 l0 x9_2).f3), .int .i64 ((rd_T39 l0 x9_2).f4), .int .i64 ((rd_T39 l0 x9_2).f5), .int .i64 ((rd_T39 l0 x9_2).f6)]] (by rfl) rfl rfl aq5 ?_
      with_reducible refine (palingref11_Def.calls k2 ((rd_T39 l0 x9_2).f0) ((rd_T39 l0 x9_2).f1) ((rd_T39 l0 x9_2).f2) ((rd_T39 l0 x9_2).f3) ((rd_T39 l0 x9_2).f4) ((rd_T39 l0 x9_2).f5) ((rd_T39 l0 x9_2).f6) t323 _ A16.out).mono ?_
      rintro e w23 ⟨rfl, hb⟩
      have HS10_ := (hb.cell (World.block_lt_of_cell? _ _ (hHeld.2.2.2.2.2.2.2.2.2.2))).trans (hHeld.2.2.2.2.2.2.2.2.2.2)
      refine ⟨_, rfl, ?_⟩
      replace HO_3 := Aside0.mk (Kd.R_below aq6 hb)
      replace HO_4 := Aside0.mk (Kd.S_below aq16 hb)
      replace HO_5 := Aside0.mk (Kd.S_below aq20 hb)
      replace HO_6 := Aside0.mk (Kd.R_below aq11 hb)
      replace BK0 := Aside0.mk (blk_below (g := gb0) (o := .cells #[.int .i64 (rd t314 x7_1), .int .i64 x319001_2, .int .i64 x319002_2] 31 (0, 0)) aq10 hb)
      replace HB := Aside0.mk (below_step aq3 hb)
      (try clear hb)
      (try clear hb2)
      (try clear hk)
      (try clear hi)
      obtain ⟨Ao24, co24, eo24⟩ := Kd.S_slice HO_4.out
      (first | subst eo24 | (injection eo24 with f1_ f2_ f3_; have f4_ := f1_.symm; have f5_ := f3_.symm; clear f1_ f2_ f3_; subst f4_; subst f5_))
      refine hK.out _ _ ⟨(blk_cell BK0.out 0).trans rfl, (blk_cell BK0.out 1).trans rfl, (blk_cell BK0.out 2).trans rfl, ((HB.out.cell (World.block_lt_of_cell? w _ hw322_0)).trans hw322_0), ((HB.out.cell (World.block_lt_of_cell? w _ hw322_1)).trans hw322_1), ((HB.out.cell (World.block_lt_of_cell? w _ hw322_2)).trans hw322_2), ((HB.out.cell (World.block_lt_of_cell? w _ hw322_3)).trans hw322_3), ((HB.out.cell (World.block_lt_of_cell? w _ hw322_4)).trans hw322_4), ((HB.out.cell (World.block_lt_of_cell? w _ hw322_5)).trans hw322_5), ((HB.out.cell (World.block_lt_of_cell? w _ hw322_6)).trans hw322_6), HS10_⟩ (fun hHeld => ?_)
      clear hK K
      refine norm_ (a' := ?_) ?_ ?_
      rotate_left
      ·show Act.put _ (some 38) _ = _
       simp only [Act.put, List.setIfInBounds_toArray, List.set_cons_zero, List.set_cons_succ, i64_w, i32_w]
       rfl
      refine pz (i := 7) (N := some 41) (bz 18 255) rfl rfl ?_
      refine pz (i := 8) (N := some 42) (bz 18 511) rfl rfl ?_
      refine pz (i := 9) (N := some 43) (bz 18 1023) rfl rfl ?_
      refine pz (i := 10) (N := some 44) (bz 18 2047) rfl rfl ?_
      refine pz (i := 11) (N := some 45) (bz 18 4095) rfl rfl ?_
      refine pz (i := 13) (N := some 47) (bz 18 12287) rfl rfl ?_
      refine tz11 (i := 12) (N := some 46) (bz 18 16383) rfl rfl hHeld ?_
      refine tz11 (i := 14) (N := some 48) (bz 18 32767) rfl rfl hHeld ?_
      refine one_ (i := 15) (N := some 49) #[true, true, true, true, true, true, true, true, true, true, true, true, true, true, true, true, false, false] rfl rfl (one_of HT_.out (by kernel_rfl)) (by decide) (fun K hK => ?_)
      refine goes_ Tryd.func28 (by kernel_rfl) rfl #[.slice A324_0 (rd_L5 t308 x9_2).length c324_0, .int .i64 (rd t314 x7_1)] (by rfl) rfl rfl aq5 ?_
      with_reducible refine (palingref15_has.calls k2 _ _ (rd_L5 t308 x9_2) (rd t314 x7_1) t325 _ ?side1 ?side2 A21.out).mono ?_
      (case side1 => first | (obtain ⟨ad_, A_, c_, e_, hx_, hl_, hi_⟩ := at_L5 (Kd.S_reads' HO_4.out).2.2 x9_2 (of_eq_true p324) (of_eq_true q324); cases e_; obtain ⟨s0, s1, s2, s3, s4, s5, s6, s7, s8, s9, s10⟩ := hHeld; have hq_ := Option.some.inj (hx_.symm.trans (by assumption)); injection hq_ with ha_; subst ha_; exact hi_) | (repeat (first | exact (by repeat (first | (with_reducible exact HR324_0.out) | (with_reducible refine Kd.C_alloc ?_ _) | (with_reducible refine Kd.C_drewN ?_ _) | (with_reducible refine Kd.C_drew ?_) | exact HR324_0.out)) | (with_reducible refine Kd.C_alloc ?_ _) | (with_reducible refine Kd.C_drewN ?_ _) | (with_reducible refine Kd.C_drew ?_)); done))
      (case side2 => exact HC324_0.out)
      rintro e w' ⟨rfl, ⟨nd, rfl⟩⟩
      refine ⟨_, rfl, ?_⟩
      refine hK.out _ _ ⟨(blk_cell BK0.out 0).trans rfl, (blk_cell BK0.out 1).trans rfl, (blk_cell BK0.out 2).trans rfl, ((HB.out.cell (World.block_lt_of_cell? w _ hw322_0)).trans hw322_0), ((HB.out.cell (World.block_lt_of_cell? w _ hw322_1)).trans hw322_1), ((HB.out.cell (World.block_lt_of_cell? w _ hw322_2)).trans hw322_2), ((HB.out.cell (World.block_lt_of_cell? w _ hw322_3)).trans hw322_3), ((HB.out.cell (World.block_lt_of_cell? w _ hw322_4)).trans hw322_4), ((HB.out.cell (World.block_lt_of_cell? w _ hw322_5)).trans hw322_5), ((HB.out.cell (World.block_lt_of_cell? w _ hw322_6)).trans hw322_6), hHeld.2.2.2.2.2.2.2.2.2.2⟩ (fun hHeld => ?_)
      clear hK K
      refine norm_ (a' := ?_) ?_ ?_
      rotate_left
      ·show Act.put _ (some 49) _ = _
       simp only [Act.put, List.setIfInBounds_toArray, List.set_cons_zero, List.set_cons_succ, i64_w, i32_w]
       rfl
      refine pz (i := 16) (N := some 50) (bz 18 131071) rfl rfl ?_
      refine pz (i := 17) (N := some 10) (bz 18 262143) rfl rfl ?_
      refine done_ (done_of HT_.out (by kernel_rfl)) ?_
      try go_wp2
      go_meet
      case rel => exact ⟨_, (t325), aq9, H', ⟨by have := HK1.out; have := HK2.out; first | omega | exact Nat.le_refl _⟩, ⟨aq6⟩, ⟨aq16⟩, ⟨aq20⟩, ⟨aq11⟩, ⟨aq10⟩, ⟨aq3⟩⟩
     case rest =>
      clear HC14
      obtain ⟨kq, x10_13, rfl, HA, HJ13, HO_3, HO_4, HO_5, HO_6, BK0, HB⟩ := hcut
      cases kq with
      | zero => exact absurd HA.out (by simp [palingref15_Ranges.j2])
      | succ kj13 =>
       have H := HA.out
       clear HA
       simp only [palingref15_Ranges.j2] at H
       have HC25 := Aside0.mk H
       clear H
       go_upto_region 13 with (fail)
       go_cut [56] (fun v56 wc => ∃ (kq : Nat) (x56_24 : Bool), v56 = .bool x56_24 ∧ Aside0 (palingref15_Ranges.j3 kq l0 x3_1 t308 t311 t314 x7_1 x9_2 x10_13 x56_24 (rd t314 x7_1) x319001_2 x319002_2 = some r) ∧ Aside0 (kq ≤ kj13) ∧ Aside0 (Kd.R k31 31 wc w.heap.size (fun k_ => k_ ≠ gb0) u3 x3_1) ∧ Aside0 (Kd.S (Kd.slice 3 (Kd.int .i64)) 36 wc w.heap.size (fun k_ => some k_ ≠ (v312 : Value).ownBlock ∧ some k_ ≠ ((.slice (some ad317) t314.length co10) : Value).ownBlock) v309 t308) ∧ Aside0 (Kd.S (Kd.slice 3 (Kd.int .i64)) 36 wc w.heap.size (fun k_ => some k_ ≠ (v309 : Value).ownBlock ∧ some k_ ≠ ((.slice (some ad317) t314.length co10) : Value).ownBlock) v312 t311) ∧ Aside0 (Kd.R (Kd.int .i64) 3 wc w.heap.size (fun _ => True) (.slice (some ad317) t314.length co10) t314) ∧ Aside0 (wc.heap[gb0]? = some (.cells #[.int .i64 (rd t314 x7_1), .int .i64 x319001_2, .int .i64 x319002_2] 31 (0, 0))) ∧ Aside0 (Below w.heap.size w wc))
       case first =>
        have H := HC25.out
        clear HC25
        by_cases c26 : x10_13 = true
        rotate_left
        ·replace c26 := Bool.eq_false_iff.mpr c26
         subst c26
         rw [if_neg nf_] at H
         have H' := Aside0.mk H
         clear H
         go_wp2
         go_meet
         case rel => exact ⟨_, (false), aq9, H', ⟨by have := HK1.out; have := HK2.out; have := HJ13.out; first | omega | exact Nat.le_refl _⟩, ⟨aq6⟩, ⟨aq16⟩, ⟨aq20⟩, ⟨aq11⟩, ⟨aq10⟩, ⟨aq3⟩⟩
        subst c26
        rw [if_pos rfl] at H
        have H' := Aside0.mk H
        clear H
        obtain ⟨hcz27_0, hcz27_1, hcz27_2, hfz27_0, hfz27_1, hfz27_2⟩ := czf3 BK0.out
        go_wp2
        go_meet
        case rel => exact ⟨_, (decide (x319001_2 < 0)), aq9, H', ⟨by have := HK1.out; have := HK2.out; have := HJ13.out; first | omega | exact Nat.le_refl _⟩, ⟨aq6⟩, ⟨aq16⟩, ⟨aq20⟩, ⟨aq11⟩, ⟨aq10⟩, ⟨aq3⟩⟩
       case rest =>
        clear HC25
        obtain ⟨kq, x56_24, rfl, HA, HJ24, HO_3, HO_4, HO_5, HO_6, BK0, HB⟩ := hcut
        cases kq with
        | zero => exact absurd HA.out (by simp [palingref15_Ranges.j3])
        | succ kj24 =>
         have H := HA.out
         clear HA
         simp only [palingref15_Ranges.j3] at H
         by_cases c28 : x56_24 = true
         rotate_left
         ·replace c28 := Bool.eq_false_iff.mpr c28
          subst c28
          rw [if_neg nf_] at H
          by_cases c51 : x10_13 = true
          ·subst c51
           rw [if_pos rfl] at H
           have H' := Aside0.mk H
           clear H
           try go_wp2
           replace HO_3 := Aside0.mk (Kd.R_drew HO_3.out)
           replace HO_4 := Aside0.mk (Kd.S_drew HO_4.out)
           replace HO_5 := Aside0.mk (Kd.S_drew HO_5.out)
           replace HO_6 := Aside0.mk (Kd.R_drew HO_6.out)
           replace BK0 := Aside0.mk (blk_drew BK0.out)
           replace HB := Aside0.mk (below_drew1 HB.out)
           refine start_ (n := 15) (S := fun w' => True) (ds := []) #[false, false, false, false, false, false, false, false, false, false, false, false, false, false, false] (by kernel_rfl) rfl rfl trivial (fun hHeld => ?_); refine with_tabW palingref15_Ranges.tab15 palingref15_Ranges.bits15 (fun HT_ HW_ => ?_)
           generalize wc.drew = w52 at HO_3 HO_4 HO_5 HO_6 BK0 HB hHeld ⊢
           refine pz (i := 0) (N := some 59) (bz 15 1) rfl rfl ?_
           refine pz (i := 1) (N := some 60) (bz 15 3) rfl rfl ?_
           refine pu (i := 2) (N := some 61) (bz 15 7) rfl rfl ?_
           refine pu (i := 3) (N := some 62) (bz 15 15) rfl rfl ?_
           refine pu (i := 4) (N := some 63) (bz 15 31) rfl rfl ?_
           refine pu (i := 5) (N := some 64) (bz 15 63) rfl rfl ?_
           refine pu (i := 6) (N := some 65) (bz 15 127) rfl rfl ?_
           refine pu (i := 7) (N := some 66) (bz 15 255) rfl rfl ?_
           refine pu (i := 8) (N := some 67) (bz 15 511) rfl rfl ?_
           refine pu (i := 9) (N := some 68) (bz 15 1023) rfl rfl ?_
           refine pu (i := 10) (N := some 69) (bz 15 2047) rfl rfl ?_
           refine pu (i := 11) (N := some 70) (bz 15 4095) rfl rfl ?_
           refine pu (i := 12) (N := some 71) (bz 15 8191) rfl rfl ?_
           refine pu (i := 13) (N := some 72) (bz 15 16383) rfl rfl ?_
           refine pz (i := 14) (N := some 73) (bz 15 32767) rfl rfl ?_
           refine done_ (done_of HT_.out (by kernel_rfl)) ?_
           obtain ⟨hcz53_0, hcz53_1, hcz53_2, hfz53_0, hfz53_1, hfz53_2⟩ := czf3 BK0.out
           try go_wp2
           go_roundg kj24
           case measure => have := HK1.out; have := HK2.out; have := HJ13.out; have := HJ24.out; omega
           case rel => exact ⟨(wrap64 (x9_2 + 1)), (x319001_2), (x9_2), aq9, H', ⟨aq42⟩, ⟨aq26⟩, ⟨aq29⟩, ⟨aq30⟩, ⟨aq33⟩, ⟨by (with_reducible repeat (first | refine blk_drewN ?_ _ | refine blk_drew ?_ | refine blk_alloc ?_ _)); refine blk_put (cs := #[.int .i64 (rd t314 x7_1), .int .i64 x319001_2, .int .i64 x319002_2]) ?_ 2 _ rfl; (with_reducible repeat (first | refine blk_drewN ?_ _ | refine blk_drew ?_ | refine blk_alloc ?_ _)); exact BK0.out⟩, ⟨aq3⟩⟩
          replace c51 := Bool.eq_false_iff.mpr c51
          subst c51
          rw [if_neg nf_] at H
          by_cases c54 : x319001_2 ≥ 0
          rotate_left
          ·rw [if_neg c54] at H
           have c54b0 : decide (0 ≤ x319001_2) = false := decide_eq_false c54
           clear c54
           have H' := Aside0.mk H
           clear H
           try go_wp2
           replace HO_3 := Aside0.mk (Kd.R_drew HO_3.out)
           replace HO_4 := Aside0.mk (Kd.S_drew HO_4.out)
           replace HO_5 := Aside0.mk (Kd.S_drew HO_5.out)
           replace HO_6 := Aside0.mk (Kd.R_drew HO_6.out)
           replace BK0 := Aside0.mk (blk_drew BK0.out)
           replace HB := Aside0.mk (below_drew1 HB.out)
           refine start_ (n := 15) (S := fun w' => w'.cell? ⟨gb0, 0, none⟩ = some (.int .i64 (rd t314 x7_1)) ∧ w'.cell? ⟨gb0, 1, none⟩ = some (.int .i64 x319001_2) ∧ w'.cell? ⟨gb0, 2, none⟩ = some (.int .i64 x319002_2)) (ds := []) #[false, false, false, false, false, false, false, false, false, false, false, false, false, false, false] (by kernel_rfl) rfl rfl ⟨(blk_cell BK0.out 0).trans rfl, (blk_cell BK0.out 1).trans rfl, (blk_cell BK0.out 2).trans rfl⟩ (fun hHeld => ?_); refine with_tabW palingref15_Ranges.tab15 palingref15_Ranges.bits15 (fun HT_ HW_ => ?_)
           generalize wc.drew = w64 at HO_3 HO_4 HO_5 HO_6 BK0 HB hHeld ⊢
           refine pz (i := 0) (N := some 59) (bz 15 1) rfl rfl ?_
           refine pz (i := 1) (N := some 60) (bz 15 3) rfl rfl ?_
           refine pz (i := 2) (N := some 61) (bz 15 7) rfl rfl ?_
           refine tz3 (i := 3) (N := some 62) (bz 15 15) rfl rfl hHeld ?_
           refine pz (i := 4) (N := some 63) (bz 15 31) rfl rfl ?_
           refine pz (i := 5) (N := some 64) (bz 15 63) rfl rfl ?_
           refine pu (i := 6) (N := some 65) (bz 15 127) rfl rfl ?_
           refine pu (i := 7) (N := some 66) (bz 15 255) rfl rfl ?_
           refine pu (i := 8) (N := some 67) (bz 15 511) rfl rfl ?_
           refine pu (i := 9) (N := some 68) (bz 15 1023) rfl rfl ?_
           refine pu (i := 10) (N := some 69) (bz 15 2047) rfl rfl ?_
           refine pu (i := 11) (N := some 70) (bz 15 4095) rfl rfl ?_
           refine pu (i := 12) (N := some 71) (bz 15 8191) rfl rfl ?_
           refine pz (i := 13) (N := some 72) (bz 15 16383) rfl rfl ?_
           refine pz (i := 14) (N := some 73) (bz 15 32767) rfl rfl ?_
           refine done_ (done_of HT_.out (by kernel_rfl)) ?_
           try go_wp2
           go_roundg kj24
           case measure => have := HK1.out; have := HK2.out; have := HJ13.out; have := HJ24.out; omega
           case rel => exact ⟨(wrap64 (x9_2 + 1)), (x319001_2), (x319002_2), aq9, H', ⟨aq42⟩, ⟨aq6⟩, ⟨aq16⟩, ⟨aq20⟩, ⟨aq11⟩, ⟨aq10⟩, ⟨aq3⟩⟩
          rw [if_pos c54] at H
          have c54b0 : decide (0 ≤ x319001_2) = true := decide_eq_true c54
          clear c54
          by_cases c55 : 0 ≤ x9_2
          rotate_left
          ·rw [if_neg c55] at H
           exact absurd H (by simp)
          rw [if_pos c55] at H
          have c55b0 : decide (0 ≤ x9_2) = true := decide_eq_true c55
          clear c55
          by_cases c56 : x9_2 < (t311.length : Int)
          rotate_left
          ·rw [if_neg c56] at H
           exact absurd H (by simp)
          rw [if_pos c56] at H
          have c56b0 : decide (x9_2 < (t311.length : Int)) = true := decide_eq_true c56
          clear c56
          obtain ⟨t329, A57, H⟩ := bS_ H
          by_cases c58 : t329 = true
          rotate_left
          ·replace c58 := Bool.eq_false_iff.mpr c58
           subst c58
           rw [if_neg nf_] at H
           have H' := Aside0.mk H
           clear H
           try go_wp2
           replace HO_3 := Aside0.mk (Kd.R_drew HO_3.out)
           replace HO_4 := Aside0.mk (Kd.S_drew HO_4.out)
           replace HO_5 := Aside0.mk (Kd.S_drew HO_5.out)
           replace HO_6 := Aside0.mk (Kd.R_drew HO_6.out)
           replace BK0 := Aside0.mk (blk_drew BK0.out)
           replace HB := Aside0.mk (below_drew1 HB.out)
           obtain ⟨Ao63, co63, eo63⟩ := Kd.S_slice HO_5.out
           (first | subst eo63 | (injection eo63 with f1_ f2_ f3_; have f4_ := f1_.symm; have f5_ := f3_.symm; clear f1_ f2_ f3_; subst f4_; subst f5_))
           have p328 : 0 ≤ (x9_2 : Int) := of_decide_eq_true aq1
           have q328 : x9_2 < (t311.length : Int) := of_decide_eq_true aq1
           obtain ⟨ad328, A328_0, c328_0, e328, hx328_0, hl328_0, hi328_0⟩ := at_L5 (Kd.S_reads' HO_5.out).2.2 x9_2 p328 q328
           cases e328
           obtain ⟨ce328, hce328, hMe328, hcc328⟩ := Kd.S_get HO_5.out [] x9_2 p328 (by first | exact q328 | exact of_decide_eq_true aq1 | (have e_ := (Kd.S_reads' HO_5.out).1; omega))
           obtain ⟨ve328_0, rfl, ge328_0⟩ := hMe328
           have hv328_0 := hcc328 0 _ rfl
           rw [Nat.add_zero, show ((Kd.slice 3 (Kd.int .i64))).sz = 1 from rfl, Nat.mul_one] at hv328_0
           replace hv328_0 := Option.some.inj (hv328_0.symm.trans hx328_0)
           rw [hv328_0] at ge328_0
           have HL328_0 := Aside0.mk (show Kd.R (Kd.int .i64) 3 _ _ _ _ (rd_L5 t311 x9_2) from ge328_0)
           clear hv328_0 ge328_0 hcc328 hce328
           have HR328_0 := Aside0.mk hi328_0
           have HC328_0 := Aside0.mk hl328_0
           clear hi328_0 hl328_0
           replace p328 := eq_true p328
           replace q328 := eq_true q328
           refine start_ (n := 15) (S := fun w' => w'.cell? ⟨gb0, 0, none⟩ = some (.int .i64 (rd t314 x7_1)) ∧ w'.cell? ⟨gb0, 1, none⟩ = some (.int .i64 x319001_2) ∧ w'.cell? ⟨gb0, 2, none⟩ = some (.int .i64 x319002_2) ∧ w'.cell? (ad328.add (x9_2).toNat) = some (.slice A328_0 (rd_L5 t311 x9_2).length c328_0)) (ds := []) #[false, false, false, false, false, false, false, false, false, false, false, false, false, false, false] (by kernel_rfl) rfl rfl ⟨(blk_cell BK0.out 0).trans rfl, (blk_cell BK0.out 1).trans rfl, (blk_cell BK0.out 2).trans rfl, hx328_0⟩ (fun hHeld => ?_); refine with_tabW palingref15_Ranges.tab15 palingref15_Ranges.bits15 (fun HT_ HW_ => ?_)
           generalize wc.drew = w62 at HO_3 HO_4 HO_5 HO_6 BK0 HB HL328_0 HR328_0 hx328_0 hHeld ⊢
           refine pz (i := 0) (N := some 59) (bz 15 1) rfl rfl ?_
           refine pz (i := 1) (N := some 60) (bz 15 3) rfl rfl ?_
           refine pz (i := 2) (N := some 61) (bz 15 7) rfl rfl ?_
           refine tz4 (i := 3) (N := some 62) (bz 15 15) rfl rfl hHeld ?_
           refine pz (i := 4) (N := some 63) (bz 15 31) rfl rfl ?_
           refine pz (i := 5) (N := some 64) (bz 15 63) rfl rfl ?_
           refine pz (i := 6) (N := some 65) (bz 15 127) rfl rfl ?_
           refine pz (i := 7) (N := some 66) (bz 15 255) rfl rfl ?_
           refine pz (i := 8) (N := some 67) (bz 15 511) rfl rfl ?_
           refine pz (i := 10) (N := some 69) (bz 15 1535) rfl rfl ?_
           refine tz4 (i := 9) (N := some 68) (bz 15 2047) rfl rfl hHeld ?_
           refine tz4 (i := 11) (N := some 70) (bz 15 4095) rfl rfl hHeld ?_
           refine one_ (i := 12) (N := some 71) #[true, true, true, true, true, true, true, true, true, true, true, true, true, false, false] rfl rfl (one_of HT_.out (by kernel_rfl)) (by decide) (fun K hK => ?_)
           refine goes_ Tryd.func28 (by kernel_rfl) rfl #[.slice A328_0 (rd_L5 t311 x9_2).length c328_0, .int .i64 (rd t314 x7_1)] (by rfl) rfl rfl aq5 ?_
           with_reducible refine (palingref15_has.calls kj24 _ _ (rd_L5 t311 x9_2) (rd t314 x7_1) false _ ?side1 ?side2 A57.out).mono ?_
           (case side1 => first | (obtain ⟨ad_, A_, c_, e_, hx_, hl_, hi_⟩ := at_L5 (Kd.S_reads' HO_5.out).2.2 x9_2 (of_eq_true p328) (of_eq_true q328); cases e_; obtain ⟨s0, s1, s2, s3, s4, s5, s6, s7, s8, s9, s10⟩ := hHeld; have hq_ := Option.some.inj (hx_.symm.trans (by assumption)); injection hq_ with ha_; subst ha_; exact hi_) | (repeat (first | exact (by repeat (first | (with_reducible exact HR328_0.out) | (with_reducible refine Kd.C_alloc ?_ _) | (with_reducible refine Kd.C_drewN ?_ _) | (with_reducible refine Kd.C_drew ?_) | exact HR328_0.out)) | (with_reducible refine Kd.C_alloc ?_ _) | (with_reducible refine Kd.C_drewN ?_ _) | (with_reducible refine Kd.C_drew ?_)); done))
           (case side2 => exact HC328_0.out)
           rintro e w' ⟨rfl, ⟨nd, rfl⟩⟩
           refine ⟨_, rfl, ?_⟩
           refine hK.out _ _ ⟨(blk_cell BK0.out 0).trans rfl, (blk_cell BK0.out 1).trans rfl, (blk_cell BK0.out 2).trans rfl, hHeld.2.2.2⟩ (fun hHeld => ?_)
           clear hK K
           refine norm_ (a' := ?_) ?_ ?_
           rotate_left
           ·show Act.put _ (some 71) _ = _
            simp only [Act.put, List.setIfInBounds_toArray, List.set_cons_zero, List.set_cons_succ, i64_w, i32_w]
            rfl
           refine pz (i := 13) (N := some 72) (bz 15 16383) rfl rfl ?_
           refine pz (i := 14) (N := some 73) (bz 15 32767) rfl rfl ?_
           refine done_ (done_of HT_.out (by kernel_rfl)) ?_
           try go_wp2
           go_roundg kj24
           case measure => have := HK1.out; have := HK2.out; have := HJ13.out; have := HJ24.out; omega
           case rel => exact ⟨(wrap64 (x9_2 + 1)), (x319001_2), (x319002_2), aq9, H', ⟨aq42⟩, ⟨aq6⟩, ⟨aq16⟩, ⟨aq20⟩, ⟨aq11⟩, ⟨aq10⟩, ⟨aq3⟩⟩
          subst c58
          rw [if_pos rfl] at H
          have H' := Aside0.mk H
          clear H
          try go_wp2
          replace HO_3 := Aside0.mk (Kd.R_drew HO_3.out)
          replace HO_4 := Aside0.mk (Kd.S_drew HO_4.out)
          replace HO_5 := Aside0.mk (Kd.S_drew HO_5.out)
          replace HO_6 := Aside0.mk (Kd.R_drew HO_6.out)
          replace BK0 := Aside0.mk (blk_drew BK0.out)
          replace HB := Aside0.mk (below_drew1 HB.out)
          obtain ⟨Ao60, co60, eo60⟩ := Kd.S_slice HO_5.out
          (first | subst eo60 | (injection eo60 with f1_ f2_ f3_; have f4_ := f1_.symm; have f5_ := f3_.symm; clear f1_ f2_ f3_; subst f4_; subst f5_))
          have p328 : 0 ≤ (x9_2 : Int) := of_decide_eq_true aq1
          have q328 : x9_2 < (t311.length : Int) := of_decide_eq_true aq1
          obtain ⟨ad328, A328_0, c328_0, e328, hx328_0, hl328_0, hi328_0⟩ := at_L5 (Kd.S_reads' HO_5.out).2.2 x9_2 p328 q328
          cases e328
          obtain ⟨ce328, hce328, hMe328, hcc328⟩ := Kd.S_get HO_5.out [] x9_2 p328 (by first | exact q328 | exact of_decide_eq_true aq1 | (have e_ := (Kd.S_reads' HO_5.out).1; omega))
          obtain ⟨ve328_0, rfl, ge328_0⟩ := hMe328
          have hv328_0 := hcc328 0 _ rfl
          rw [Nat.add_zero, show ((Kd.slice 3 (Kd.int .i64))).sz = 1 from rfl, Nat.mul_one] at hv328_0
          replace hv328_0 := Option.some.inj (hv328_0.symm.trans hx328_0)
          rw [hv328_0] at ge328_0
          have HL328_0 := Aside0.mk (show Kd.R (Kd.int .i64) 3 _ _ _ _ (rd_L5 t311 x9_2) from ge328_0)
          clear hv328_0 ge328_0 hcc328 hce328
          have HR328_0 := Aside0.mk hi328_0
          have HC328_0 := Aside0.mk hl328_0
          clear hi328_0 hl328_0
          replace p328 := eq_true p328
          replace q328 := eq_true q328
          refine start_ (n := 15) (S := fun w' => w'.cell? ⟨gb0, 0, none⟩ = some (.int .i64 (rd t314 x7_1)) ∧ w'.cell? ⟨gb0, 1, none⟩ = some (.int .i64 x319001_2) ∧ w'.cell? ⟨gb0, 2, none⟩ = some (.int .i64 x319002_2) ∧ w'.cell? (ad328.add (x9_2).toNat) = some (.slice A328_0 (rd_L5 t311 x9_2).length c328_0)) (ds := []) #[false, false, false, false, false, false, false, false, false, false, false, false, false, false, false] (by kernel_rfl) rfl rfl ⟨(blk_cell BK0.out 0).trans rfl, (blk_cell BK0.out 1).trans rfl, (blk_cell BK0.out 2).trans rfl, hx328_0⟩ (fun hHeld => ?_); refine with_tabW palingref15_Ranges.tab15 palingref15_Ranges.bits15 (fun HT_ HW_ => ?_)
          generalize wc.drew = w59 at HO_3 HO_4 HO_5 HO_6 BK0 HB HL328_0 HR328_0 hx328_0 hHeld ⊢
          refine pz (i := 0) (N := some 59) (bz 15 1) rfl rfl ?_
          refine pz (i := 1) (N := some 60) (bz 15 3) rfl rfl ?_
          refine pz (i := 2) (N := some 61) (bz 15 7) rfl rfl ?_
          refine tz4 (i := 3) (N := some 62) (bz 15 15) rfl rfl hHeld ?_
          refine pz (i := 4) (N := some 63) (bz 15 31) rfl rfl ?_
          refine pz (i := 5) (N := some 64) (bz 15 63) rfl rfl ?_
          refine pz (i := 6) (N := some 65) (bz 15 127) rfl rfl ?_
          refine pz (i := 7) (N := some 66) (bz 15 255) rfl rfl ?_
          refine pz (i := 8) (N := some 67) (bz 15 511) rfl rfl ?_
          refine pz (i := 10) (N := some 69) (bz 15 1535) rfl rfl ?_
          refine tz4 (i := 9) (N := some 68) (bz 15 2047) rfl rfl hHeld ?_
          refine tz4 (i := 11) (N := some 70) (bz 15 4095) rfl rfl hHeld ?_
          refine one_ (i := 12) (N := some 71) #[true, true, true, true, true, true, true, true, true, true, true, true, true, false, false] rfl rfl (one_of HT_.out (by kernel_rfl)) (by decide) (fun K hK => ?_)
          refine goes_ Tryd.func28 (by kernel_rfl) rfl #[.slice A328_0 (rd_L5 t311 x9_2).length c328_0, .int .i64 (rd t314 x7_1)] (by rfl) rfl rfl aq5 ?_
          with_reducible refine (palingref15_has.calls kj24 _ _ (rd_L5 t311 x9_2) (rd t314 x7_1) true _ ?side1 ?side2 A57.out).mono ?_
          (case side1 => first | (obtain ⟨ad_, A_, c_, e_, hx_, hl_, hi_⟩ := at_L5 (Kd.S_reads' HO_5.out).2.2 x9_2 (of_eq_true p328) (of_eq_true q328); cases e_; obtain ⟨s0, s1, s2, s3, s4, s5, s6, s7, s8, s9, s10⟩ := hHeld; have hq_ := Option.some.inj (hx_.symm.trans (by assumption)); injection hq_ with ha_; subst ha_; exact hi_) | (repeat (first | exact (by repeat (first | (with_reducible exact HR328_0.out) | (with_reducible refine Kd.C_alloc ?_ _) | (with_reducible refine Kd.C_drewN ?_ _) | (with_reducible refine Kd.C_drew ?_) | exact HR328_0.out)) | (with_reducible refine Kd.C_alloc ?_ _) | (with_reducible refine Kd.C_drewN ?_ _) | (with_reducible refine Kd.C_drew ?_)); done))
          (case side2 => exact HC328_0.out)
          rintro e w' ⟨rfl, ⟨nd, rfl⟩⟩
          refine ⟨_, rfl, ?_⟩
          refine hK.out _ _ ⟨(blk_cell BK0.out 0).trans rfl, (blk_cell BK0.out 1).trans rfl, (blk_cell BK0.out 2).trans rfl, hHeld.2.2.2⟩ (fun hHeld => ?_)
          clear hK K
          refine norm_ (a' := ?_) ?_ ?_
          rotate_left
          ·show Act.put _ (some 71) _ = _
           simp only [Act.put, List.setIfInBounds_toArray, List.set_cons_zero, List.set_cons_succ, i64_w, i32_w]
           rfl
          refine pz (i := 13) (N := some 72) (bz 15 16383) rfl rfl ?_
          refine pz (i := 14) (N := some 73) (bz 15 32767) rfl rfl ?_
          refine done_ (done_of HT_.out (by kernel_rfl)) ?_
          obtain ⟨hcz61_0, hcz61_1, hcz61_2, hfz61_0, hfz61_1, hfz61_2⟩ := czf3 BK0.out
          try go_wp2
          go_roundg kj24
          case measure => have := HK1.out; have := HK2.out; have := HJ13.out; have := HJ24.out; omega
          case rel => exact ⟨(wrap64 (x9_2 + 1)), (x319001_2), (x9_2), aq9, H', ⟨aq42⟩, ⟨aq26⟩, ⟨aq29⟩, ⟨aq30⟩, ⟨aq33⟩, ⟨by (with_reducible repeat (first | refine blk_drewN ?_ _ | refine blk_drew ?_ | refine blk_alloc ?_ _)); refine blk_put (cs := #[.int .i64 (rd t314 x7_1), .int .i64 x319001_2, .int .i64 x319002_2]) ?_ 2 _ rfl; (with_reducible repeat (first | refine blk_drewN ?_ _ | refine blk_drew ?_ | refine blk_alloc ?_ _)); exact BK0.out⟩, ⟨aq3⟩⟩
         subst c28
         rw [if_pos rfl] at H
         by_cases c29 : x10_13 = true
         ·subst c29
          rw [if_pos rfl] at H
          have H' := Aside0.mk H
          clear H
          obtain ⟨hcz30_0, hcz30_1, hcz30_2, hfz30_0, hfz30_1, hfz30_2⟩ := czf3 BK0.out
          try go_wp2
          have n0_ : Aside0 (Kd.R k31 31 (wc.setCell ⟨gb0, 1, none⟩ (.int .i64 x9_2)) w.heap.size (fun k_ => k_ ≠ gb0) u3 x3_1) := ⟨aq27⟩
          have n1_ : Aside0 (Kd.S (Kd.slice 3 (Kd.int .i64)) 36 (wc.setCell ⟨gb0, 1, none⟩ (.int .i64 x9_2)) w.heap.size (fun k_ => some k_ ≠ (v312 : Value).ownBlock ∧ some k_ ≠ (.slice (some ad317) t314.length co10 : Value).ownBlock) v309 t308) := ⟨aq31⟩
          have n2_ : Aside0 (Kd.S (Kd.slice 3 (Kd.int .i64)) 36 (wc.setCell ⟨gb0, 1, none⟩ (.int .i64 x9_2)) w.heap.size (fun k_ => some k_ ≠ (v309 : Value).ownBlock ∧ some k_ ≠ (.slice (some ad317) t314.length co10 : Value).ownBlock) v312 t311) := ⟨aq32⟩
          have n3_ : Aside0 (Kd.R (Kd.int .i64) 3 (wc.setCell ⟨gb0, 1, none⟩ (.int .i64 x9_2)) w.heap.size (fun _ => True) (.slice (some ad317) t314.length co10) t314) := ⟨aq34⟩
          have n4_ : Aside0 ((wc.setCell ⟨gb0, 1, none⟩ (.int .i64 x9_2)).heap[gb0]? = some (.cells #[.int .i64 (rd t314 x7_1), .int .i64 x9_2, .int .i64 x319002_2] 31 (0, 0))) := ⟨aq23⟩
          have n5_ : Aside0 (Below w.heap.size w (wc.setCell ⟨gb0, 1, none⟩ (.int .i64 x9_2))) := ⟨aq3⟩
          (try clear HO_3)
          (try clear HO_4)
          (try clear HO_5)
          (try clear HO_6)
          (try clear BK0)
          (try clear HB)
          generalize (wc.setCell ⟨gb0, 1, none⟩ (.int .i64 x9_2)) = w31 at n0_ n1_ n2_ n3_ n4_ n5_ ⊢
          have HO_3 := n0_
          have HO_4 := n1_
          have HO_5 := n2_
          have HO_6 := n3_
          have BK0 := n4_
          have HB := n5_
          clear n0_ n1_ n2_ n3_ n4_ n5_
          replace HO_3 := Aside0.mk (Kd.R_drew HO_3.out)
          replace HO_4 := Aside0.mk (Kd.S_drew HO_4.out)
          replace HO_5 := Aside0.mk (Kd.S_drew HO_5.out)
          replace HO_6 := Aside0.mk (Kd.R_drew HO_6.out)
          replace BK0 := Aside0.mk (blk_drew BK0.out)
          replace HB := Aside0.mk (below_drew1 HB.out)
          refine start_ (n := 15) (S := fun w' => True) (ds := []) #[false, false, false, false, false, false, false, false, false, false, false, false, false, false, false] (by kernel_rfl) rfl rfl trivial (fun hHeld => ?_); refine with_tabW palingref15_Ranges.tab15 palingref15_Ranges.bits15 (fun HT_ HW_ => ?_)
          generalize w31.drew = w32 at HO_3 HO_4 HO_5 HO_6 BK0 HB hHeld ⊢
          refine pz (i := 0) (N := some 59) (bz 15 1) rfl rfl ?_
          refine pz (i := 1) (N := some 60) (bz 15 3) rfl rfl ?_
          refine pu (i := 2) (N := some 61) (bz 15 7) rfl rfl ?_
          refine pu (i := 3) (N := some 62) (bz 15 15) rfl rfl ?_
          refine pu (i := 4) (N := some 63) (bz 15 31) rfl rfl ?_
          refine pu (i := 5) (N := some 64) (bz 15 63) rfl rfl ?_
          refine pu (i := 6) (N := some 65) (bz 15 127) rfl rfl ?_
          refine pu (i := 7) (N := some 66) (bz 15 255) rfl rfl ?_
          refine pu (i := 8) (N := some 67) (bz 15 511) rfl rfl ?_
          refine pu (i := 9) (N := some 68) (bz 15 1023) rfl rfl ?_
          refine pu (i := 10) (N := some 69) (bz 15 2047) rfl rfl ?_
          refine pu (i := 11) (N := some 70) (bz 15 4095) rfl rfl ?_
          refine pu (i := 12) (N := some 71) (bz 15 8191) rfl rfl ?_
          refine pu (i := 13) (N := some 72) (bz 15 16383) rfl rfl ?_
          refine pz (i := 14) (N := some 73) (bz 15 32767) rfl rfl ?_
          refine done_ (done_of HT_.out (by kernel_rfl)) ?_
          obtain ⟨hcz33_0, hcz33_1, hcz33_2, hfz33_0, hfz33_1, hfz33_2⟩ := czf3 BK0.out
          try go_wp2
          go_roundg kj24
          case measure => have := HK1.out; have := HK2.out; have := HJ13.out; have := HJ24.out; omega
          case rel => exact ⟨(wrap64 (x9_2 + 1)), (x9_2), (x9_2), aq9, H', ⟨aq42⟩, ⟨aq26⟩, ⟨aq29⟩, ⟨aq30⟩, ⟨aq33⟩, ⟨by (with_reducible repeat (first | refine blk_drewN ?_ _ | refine blk_drew ?_ | refine blk_alloc ?_ _)); refine blk_put (cs := #[.int .i64 (rd t314 x7_1), .int .i64 x9_2, .int .i64 x319002_2]) ?_ 2 _ rfl; (with_reducible repeat (first | refine blk_drewN ?_ _ | refine blk_drew ?_ | refine blk_alloc ?_ _)); exact BK0.out⟩, ⟨aq3⟩⟩
         replace c29 := Bool.eq_false_iff.mpr c29
         subst c29
         rw [if_neg nf_] at H
         by_cases c34 : x9_2 ≥ 0
         rotate_left
         ·rw [if_neg c34] at H
          have c34b0 : decide (0 ≤ x9_2) = false := decide_eq_false c34
          clear c34
          have H' := Aside0.mk H
          clear H
          obtain ⟨hcz48_0, hcz48_1, hcz48_2, hfz48_0, hfz48_1, hfz48_2⟩ := czf3 BK0.out
          try go_wp2
          have n0_ : Aside0 (Kd.R k31 31 (wc.setCell ⟨gb0, 1, none⟩ (.int .i64 x9_2)) w.heap.size (fun k_ => k_ ≠ gb0) u3 x3_1) := ⟨aq27⟩
          have n1_ : Aside0 (Kd.S (Kd.slice 3 (Kd.int .i64)) 36 (wc.setCell ⟨gb0, 1, none⟩ (.int .i64 x9_2)) w.heap.size (fun k_ => some k_ ≠ (v312 : Value).ownBlock ∧ some k_ ≠ (.slice (some ad317) t314.length co10 : Value).ownBlock) v309 t308) := ⟨aq31⟩
          have n2_ : Aside0 (Kd.S (Kd.slice 3 (Kd.int .i64)) 36 (wc.setCell ⟨gb0, 1, none⟩ (.int .i64 x9_2)) w.heap.size (fun k_ => some k_ ≠ (v309 : Value).ownBlock ∧ some k_ ≠ (.slice (some ad317) t314.length co10 : Value).ownBlock) v312 t311) := ⟨aq32⟩
          have n3_ : Aside0 (Kd.R (Kd.int .i64) 3 (wc.setCell ⟨gb0, 1, none⟩ (.int .i64 x9_2)) w.heap.size (fun _ => True) (.slice (some ad317) t314.length co10) t314) := ⟨aq34⟩
          have n4_ : Aside0 ((wc.setCell ⟨gb0, 1, none⟩ (.int .i64 x9_2)).heap[gb0]? = some (.cells #[.int .i64 (rd t314 x7_1), .int .i64 x9_2, .int .i64 x319002_2] 31 (0, 0))) := ⟨aq23⟩
          have n5_ : Aside0 (Below w.heap.size w (wc.setCell ⟨gb0, 1, none⟩ (.int .i64 x9_2))) := ⟨aq3⟩
          (try clear HO_3)
          (try clear HO_4)
          (try clear HO_5)
          (try clear HO_6)
          (try clear BK0)
          (try clear HB)
          generalize (wc.setCell ⟨gb0, 1, none⟩ (.int .i64 x9_2)) = w49 at n0_ n1_ n2_ n3_ n4_ n5_ ⊢
          have HO_3 := n0_
          have HO_4 := n1_
          have HO_5 := n2_
          have HO_6 := n3_
          have BK0 := n4_
          have HB := n5_
          clear n0_ n1_ n2_ n3_ n4_ n5_
          replace HO_3 := Aside0.mk (Kd.R_drew HO_3.out)
          replace HO_4 := Aside0.mk (Kd.S_drew HO_4.out)
          replace HO_5 := Aside0.mk (Kd.S_drew HO_5.out)
          replace HO_6 := Aside0.mk (Kd.R_drew HO_6.out)
          replace BK0 := Aside0.mk (blk_drew BK0.out)
          replace HB := Aside0.mk (below_drew1 HB.out)
          refine start_ (n := 15) (S := fun w' => w'.cell? ⟨gb0, 0, none⟩ = some (.int .i64 (rd t314 x7_1)) ∧ w'.cell? ⟨gb0, 1, none⟩ = some (.int .i64 x9_2) ∧ w'.cell? ⟨gb0, 2, none⟩ = some (.int .i64 x319002_2)) (ds := []) #[false, false, false, false, false, false, false, false, false, false, false, false, false, false, false] (by kernel_rfl) rfl rfl ⟨(blk_cell BK0.out 0).trans rfl, (blk_cell BK0.out 1).trans rfl, (blk_cell BK0.out 2).trans rfl⟩ (fun hHeld => ?_); refine with_tabW palingref15_Ranges.tab15 palingref15_Ranges.bits15 (fun HT_ HW_ => ?_)
          generalize w49.drew = w50 at HO_3 HO_4 HO_5 HO_6 BK0 HB hHeld ⊢
          refine pz (i := 0) (N := some 59) (bz 15 1) rfl rfl ?_
          refine pz (i := 1) (N := some 60) (bz 15 3) rfl rfl ?_
          refine pz (i := 2) (N := some 61) (bz 15 7) rfl rfl ?_
          refine tz3 (i := 3) (N := some 62) (bz 15 15) rfl rfl hHeld ?_
          refine pz (i := 4) (N := some 63) (bz 15 31) rfl rfl ?_
          refine pz (i := 5) (N := some 64) (bz 15 63) rfl rfl ?_
          refine pu (i := 6) (N := some 65) (bz 15 127) rfl rfl ?_
          refine pu (i := 7) (N := some 66) (bz 15 255) rfl rfl ?_
          refine pu (i := 8) (N := some 67) (bz 15 511) rfl rfl ?_
          refine pu (i := 9) (N := some 68) (bz 15 1023) rfl rfl ?_
          refine pu (i := 10) (N := some 69) (bz 15 2047) rfl rfl ?_
          refine pu (i := 11) (N := some 70) (bz 15 4095) rfl rfl ?_
          refine pu (i := 12) (N := some 71) (bz 15 8191) rfl rfl ?_
          refine pz (i := 13) (N := some 72) (bz 15 16383) rfl rfl ?_
          refine pz (i := 14) (N := some 73) (bz 15 32767) rfl rfl ?_
          refine done_ (done_of HT_.out (by kernel_rfl)) ?_
          try go_wp2
          go_roundg kj24
          case measure => have := HK1.out; have := HK2.out; have := HJ13.out; have := HJ24.out; omega
          case rel => exact ⟨(wrap64 (x9_2 + 1)), (x9_2), (x319002_2), aq9, H', ⟨aq42⟩, ⟨aq6⟩, ⟨aq16⟩, ⟨aq20⟩, ⟨aq11⟩, ⟨aq10⟩, ⟨aq3⟩⟩
         rw [if_pos c34] at H
         have c34b0 : decide (0 ≤ x9_2) = true := decide_eq_true c34
         clear c34
         by_cases c35 : 0 ≤ x9_2
         rotate_left
         ·rw [if_neg c35] at H
          exact absurd H (by simp)
         rw [if_pos c35] at H
         have c35b0 : decide (0 ≤ x9_2) = true := decide_eq_true c35
         clear c35
         by_cases c36 : x9_2 < (t311.length : Int)
         rotate_left
         ·rw [if_neg c36] at H
          exact absurd H (by simp)
         rw [if_pos c36] at H
         have c36b0 : decide (x9_2 < (t311.length : Int)) = true := decide_eq_true c36
         clear c36
         obtain ⟨t327, A37, H⟩ := bS_ H
         by_cases c38 : t327 = true
         rotate_left
         ·replace c38 := Bool.eq_false_iff.mpr c38
          subst c38
          rw [if_neg nf_] at H
          have H' := Aside0.mk H
          clear H
          obtain ⟨hcz44_0, hcz44_1, hcz44_2, hfz44_0, hfz44_1, hfz44_2⟩ := czf3 BK0.out
          try go_wp2
          have n0_ : Aside0 (Kd.R k31 31 (wc.setCell ⟨gb0, 1, none⟩ (.int .i64 x9_2)) w.heap.size (fun k_ => k_ ≠ gb0) u3 x3_1) := ⟨aq27⟩
          have n1_ : Aside0 (Kd.S (Kd.slice 3 (Kd.int .i64)) 36 (wc.setCell ⟨gb0, 1, none⟩ (.int .i64 x9_2)) w.heap.size (fun k_ => some k_ ≠ (v312 : Value).ownBlock ∧ some k_ ≠ (.slice (some ad317) t314.length co10 : Value).ownBlock) v309 t308) := ⟨aq31⟩
          have n2_ : Aside0 (Kd.S (Kd.slice 3 (Kd.int .i64)) 36 (wc.setCell ⟨gb0, 1, none⟩ (.int .i64 x9_2)) w.heap.size (fun k_ => some k_ ≠ (v309 : Value).ownBlock ∧ some k_ ≠ (.slice (some ad317) t314.length co10 : Value).ownBlock) v312 t311) := ⟨aq32⟩
          have n3_ : Aside0 (Kd.R (Kd.int .i64) 3 (wc.setCell ⟨gb0, 1, none⟩ (.int .i64 x9_2)) w.heap.size (fun _ => True) (.slice (some ad317) t314.length co10) t314) := ⟨aq34⟩
          have n4_ : Aside0 ((wc.setCell ⟨gb0, 1, none⟩ (.int .i64 x9_2)).heap[gb0]? = some (.cells #[.int .i64 (rd t314 x7_1), .int .i64 x9_2, .int .i64 x319002_2] 31 (0, 0))) := ⟨aq23⟩
          have n5_ : Aside0 (Below w.heap.size w (wc.setCell ⟨gb0, 1, none⟩ (.int .i64 x9_2))) := ⟨aq3⟩
          (try clear HO_3)
          (try clear HO_4)
          (try clear HO_5)
          (try clear HO_6)
          (try clear BK0)
          (try clear HB)
          generalize (wc.setCell ⟨gb0, 1, none⟩ (.int .i64 x9_2)) = w45 at n0_ n1_ n2_ n3_ n4_ n5_ ⊢
          have HO_3 := n0_
          have HO_4 := n1_
          have HO_5 := n2_
          have HO_6 := n3_
          have BK0 := n4_
          have HB := n5_
          clear n0_ n1_ n2_ n3_ n4_ n5_
          replace HO_3 := Aside0.mk (Kd.R_drew HO_3.out)
          replace HO_4 := Aside0.mk (Kd.S_drew HO_4.out)
          replace HO_5 := Aside0.mk (Kd.S_drew HO_5.out)
          replace HO_6 := Aside0.mk (Kd.R_drew HO_6.out)
          replace BK0 := Aside0.mk (blk_drew BK0.out)
          replace HB := Aside0.mk (below_drew1 HB.out)
          obtain ⟨Ao47, co47, eo47⟩ := Kd.S_slice HO_5.out
          (first | subst eo47 | (injection eo47 with f1_ f2_ f3_; have f4_ := f1_.symm; have f5_ := f3_.symm; clear f1_ f2_ f3_; subst f4_; subst f5_))
          have p326 : 0 ≤ (x9_2 : Int) := of_decide_eq_true aq1
          have q326 : x9_2 < (t311.length : Int) := of_decide_eq_true aq1
          obtain ⟨ad326, A326_0, c326_0, e326, hx326_0, hl326_0, hi326_0⟩ := at_L5 (Kd.S_reads' HO_5.out).2.2 x9_2 p326 q326
          cases e326
          obtain ⟨ce326, hce326, hMe326, hcc326⟩ := Kd.S_get HO_5.out [] x9_2 p326 (by first | exact q326 | exact of_decide_eq_true aq1 | (have e_ := (Kd.S_reads' HO_5.out).1; omega))
          obtain ⟨ve326_0, rfl, ge326_0⟩ := hMe326
          have hv326_0 := hcc326 0 _ rfl
          rw [Nat.add_zero, show ((Kd.slice 3 (Kd.int .i64))).sz = 1 from rfl, Nat.mul_one] at hv326_0
          replace hv326_0 := Option.some.inj (hv326_0.symm.trans hx326_0)
          rw [hv326_0] at ge326_0
          have HL326_0 := Aside0.mk (show Kd.R (Kd.int .i64) 3 _ _ _ _ (rd_L5 t311 x9_2) from ge326_0)
          clear hv326_0 ge326_0 hcc326 hce326
          have HR326_0 := Aside0.mk hi326_0
          have HC326_0 := Aside0.mk hl326_0
          clear hi326_0 hl326_0
          replace p326 := eq_true p326
          replace q326 := eq_true q326
          refine start_ (n := 15) (S := fun w' => w'.cell? ⟨gb0, 0, none⟩ = some (.int .i64 (rd t314 x7_1)) ∧ w'.cell? ⟨gb0, 1, none⟩ = some (.int .i64 x9_2) ∧ w'.cell? ⟨gb0, 2, none⟩ = some (.int .i64 x319002_2) ∧ w'.cell? (ad326.add (x9_2).toNat) = some (.slice A326_0 (rd_L5 t311 x9_2).length c326_0)) (ds := []) #[false, false, false, false, false, false, false, false, false, false, false, false, false, false, false] (by kernel_rfl) rfl rfl ⟨(blk_cell BK0.out 0).trans rfl, (blk_cell BK0.out 1).trans rfl, (blk_cell BK0.out 2).trans rfl, hx326_0⟩ (fun hHeld => ?_); refine with_tabW palingref15_Ranges.tab15 palingref15_Ranges.bits15 (fun HT_ HW_ => ?_)
          generalize w45.drew = w46 at HO_3 HO_4 HO_5 HO_6 BK0 HB HL326_0 HR326_0 hx326_0 hHeld ⊢
          refine pz (i := 0) (N := some 59) (bz 15 1) rfl rfl ?_
          refine pz (i := 1) (N := some 60) (bz 15 3) rfl rfl ?_
          refine pz (i := 2) (N := some 61) (bz 15 7) rfl rfl ?_
          refine tz4 (i := 3) (N := some 62) (bz 15 15) rfl rfl hHeld ?_
          refine pz (i := 4) (N := some 63) (bz 15 31) rfl rfl ?_
          refine pz (i := 5) (N := some 64) (bz 15 63) rfl rfl ?_
          refine pz (i := 6) (N := some 65) (bz 15 127) rfl rfl ?_
          refine pz (i := 7) (N := some 66) (bz 15 255) rfl rfl ?_
          refine pz (i := 8) (N := some 67) (bz 15 511) rfl rfl ?_
          refine pz (i := 10) (N := some 69) (bz 15 1535) rfl rfl ?_
          refine tz4 (i := 9) (N := some 68) (bz 15 2047) rfl rfl hHeld ?_
          refine tz4 (i := 11) (N := some 70) (bz 15 4095) rfl rfl hHeld ?_
          refine one_ (i := 12) (N := some 71) #[true, true, true, true, true, true, true, true, true, true, true, true, true, false, false] rfl rfl (one_of HT_.out (by kernel_rfl)) (by decide) (fun K hK => ?_)
          refine goes_ Tryd.func28 (by kernel_rfl) rfl #[.slice A326_0 (rd_L5 t311 x9_2).length c326_0, .int .i64 (rd t314 x7_1)] (by rfl) rfl rfl aq5 ?_
          with_reducible refine (palingref15_has.calls kj24 _ _ (rd_L5 t311 x9_2) (rd t314 x7_1) false _ ?side1 ?side2 A37.out).mono ?_
          (case side1 => first | (obtain ⟨ad_, A_, c_, e_, hx_, hl_, hi_⟩ := at_L5 (Kd.S_reads' HO_5.out).2.2 x9_2 (of_eq_true p326) (of_eq_true q326); cases e_; obtain ⟨s0, s1, s2, s3, s4, s5, s6, s7, s8, s9, s10⟩ := hHeld; have hq_ := Option.some.inj (hx_.symm.trans (by assumption)); injection hq_ with ha_; subst ha_; exact hi_) | (repeat (first | exact (by repeat (first | (with_reducible exact HR326_0.out) | (with_reducible refine Kd.C_alloc ?_ _) | (with_reducible refine Kd.C_drewN ?_ _) | (with_reducible refine Kd.C_drew ?_) | exact HR326_0.out)) | (with_reducible refine Kd.C_alloc ?_ _) | (with_reducible refine Kd.C_drewN ?_ _) | (with_reducible refine Kd.C_drew ?_)); done))
          (case side2 => exact HC326_0.out)
          rintro e w' ⟨rfl, ⟨nd, rfl⟩⟩
          refine ⟨_, rfl, ?_⟩
          refine hK.out _ _ ⟨(blk_cell BK0.out 0).trans rfl, (blk_cell BK0.out 1).trans rfl, (blk_cell BK0.out 2).trans rfl, hHeld.2.2.2⟩ (fun hHeld => ?_)
          clear hK K
          refine norm_ (a' := ?_) ?_ ?_
          rotate_left
          ·show Act.put _ (some 71) _ = _
           simp only [Act.put, List.setIfInBounds_toArray, List.set_cons_zero, List.set_cons_succ, i64_w, i32_w]
           rfl
          refine pz (i := 13) (N := some 72) (bz 15 16383) rfl rfl ?_
          refine pz (i := 14) (N := some 73) (bz 15 32767) rfl rfl ?_
          refine done_ (done_of HT_.out (by kernel_rfl)) ?_
          try go_wp2
          go_roundg kj24
          case measure => have := HK1.out; have := HK2.out; have := HJ13.out; have := HJ24.out; omega
          case rel => exact ⟨(wrap64 (x9_2 + 1)), (x9_2), (x319002_2), aq9, H', ⟨aq42⟩, ⟨aq6⟩, ⟨aq16⟩, ⟨aq20⟩, ⟨aq11⟩, ⟨aq10⟩, ⟨aq3⟩⟩
         subst c38
         rw [if_pos rfl] at H
         have H' := Aside0.mk H
         clear H
         obtain ⟨hcz39_0, hcz39_1, hcz39_2, hfz39_0, hfz39_1, hfz39_2⟩ := czf3 BK0.out
         try go_wp2
         have n0_ : Aside0 (Kd.R k31 31 (wc.setCell ⟨gb0, 1, none⟩ (.int .i64 x9_2)) w.heap.size (fun k_ => k_ ≠ gb0) u3 x3_1) := ⟨aq27⟩
         have n1_ : Aside0 (Kd.S (Kd.slice 3 (Kd.int .i64)) 36 (wc.setCell ⟨gb0, 1, none⟩ (.int .i64 x9_2)) w.heap.size (fun k_ => some k_ ≠ (v312 : Value).ownBlock ∧ some k_ ≠ (.slice (some ad317) t314.length co10 : Value).ownBlock) v309 t308) := ⟨aq31⟩
         have n2_ : Aside0 (Kd.S (Kd.slice 3 (Kd.int .i64)) 36 (wc.setCell ⟨gb0, 1, none⟩ (.int .i64 x9_2)) w.heap.size (fun k_ => some k_ ≠ (v309 : Value).ownBlock ∧ some k_ ≠ (.slice (some ad317) t314.length co10 : Value).ownBlock) v312 t311) := ⟨aq32⟩
         have n3_ : Aside0 (Kd.R (Kd.int .i64) 3 (wc.setCell ⟨gb0, 1, none⟩ (.int .i64 x9_2)) w.heap.size (fun _ => True) (.slice (some ad317) t314.length co10) t314) := ⟨aq34⟩
         have n4_ : Aside0 ((wc.setCell ⟨gb0, 1, none⟩ (.int .i64 x9_2)).heap[gb0]? = some (.cells #[.int .i64 (rd t314 x7_1), .int .i64 x9_2, .int .i64 x319002_2] 31 (0, 0))) := ⟨aq23⟩
         have n5_ : Aside0 (Below w.heap.size w (wc.setCell ⟨gb0, 1, none⟩ (.int .i64 x9_2))) := ⟨aq3⟩
         (try clear HO_3)
         (try clear HO_4)
         (try clear HO_5)
         (try clear HO_6)
         (try clear BK0)
         (try clear HB)
         generalize (wc.setCell ⟨gb0, 1, none⟩ (.int .i64 x9_2)) = w40 at n0_ n1_ n2_ n3_ n4_ n5_ ⊢
         have HO_3 := n0_
         have HO_4 := n1_
         have HO_5 := n2_
         have HO_6 := n3_
         have BK0 := n4_
         have HB := n5_
         clear n0_ n1_ n2_ n3_ n4_ n5_
         replace HO_3 := Aside0.mk (Kd.R_drew HO_3.out)
         replace HO_4 := Aside0.mk (Kd.S_drew HO_4.out)
         replace HO_5 := Aside0.mk (Kd.S_drew HO_5.out)
         replace HO_6 := Aside0.mk (Kd.R_drew HO_6.out)
         replace BK0 := Aside0.mk (blk_drew BK0.out)
         replace HB := Aside0.mk (below_drew1 HB.out)
         obtain ⟨Ao42, co42, eo42⟩ := Kd.S_slice HO_5.out
         (first | subst eo42 | (injection eo42 with f1_ f2_ f3_; have f4_ := f1_.symm; have f5_ := f3_.symm; clear f1_ f2_ f3_; subst f4_; subst f5_))
         have p326 : 0 ≤ (x9_2 : Int) := of_decide_eq_true aq1
         have q326 : x9_2 < (t311.length : Int) := of_decide_eq_true aq1
         obtain ⟨ad326, A326_0, c326_0, e326, hx326_0, hl326_0, hi326_0⟩ := at_L5 (Kd.S_reads' HO_5.out).2.2 x9_2 p326 q326
         cases e326
         obtain ⟨ce326, hce326, hMe326, hcc326⟩ := Kd.S_get HO_5.out [] x9_2 p326 (by first | exact q326 | exact of_decide_eq_true aq1 | (have e_ := (Kd.S_reads' HO_5.out).1; omega))
         obtain ⟨ve326_0, rfl, ge326_0⟩ := hMe326
         have hv326_0 := hcc326 0 _ rfl
         rw [Nat.add_zero, show ((Kd.slice 3 (Kd.int .i64))).sz = 1 from rfl, Nat.mul_one] at hv326_0
         replace hv326_0 := Option.some.inj (hv326_0.symm.trans hx326_0)
         rw [hv326_0] at ge326_0
         have HL326_0 := Aside0.mk (show Kd.R (Kd.int .i64) 3 _ _ _ _ (rd_L5 t311 x9_2) from ge326_0)
         clear hv326_0 ge326_0 hcc326 hce326
         have HR326_0 := Aside0.mk hi326_0
         have HC326_0 := Aside0.mk hl326_0
         clear hi326_0 hl326_0
         replace p326 := eq_true p326
         replace q326 := eq_true q326
         refine start_ (n := 15) (S := fun w' => w'.cell? ⟨gb0, 0, none⟩ = some (.int .i64 (rd t314 x7_1)) ∧ w'.cell? ⟨gb0, 1, none⟩ = some (.int .i64 x9_2) ∧ w'.cell? ⟨gb0, 2, none⟩ = some (.int .i64 x319002_2) ∧ w'.cell? (ad326.add (x9_2).toNat) = some (.slice A326_0 (rd_L5 t311 x9_2).length c326_0)) (ds := []) #[false, false, false, false, false, false, false, false, false, false, false, false, false, false, false] (by kernel_rfl) rfl rfl ⟨(blk_cell BK0.out 0).trans rfl, (blk_cell BK0.out 1).trans rfl, (blk_cell BK0.out 2).trans rfl, hx326_0⟩ (fun hHeld => ?_); refine with_tabW palingref15_Ranges.tab15 palingref15_Ranges.bits15 (fun HT_ HW_ => ?_)
         generalize w40.drew = w41 at HO_3 HO_4 HO_5 HO_6 BK0 HB HL326_0 HR326_0 hx326_0 hHeld ⊢
         refine pz (i := 0) (N := some 59) (bz 15 1) rfl rfl ?_
         refine pz (i := 1) (N := some 60) (bz 15 3) rfl rfl ?_
         refine pz (i := 2) (N := some 61) (bz 15 7) rfl rfl ?_
         refine tz4 (i := 3) (N := some 62) (bz 15 15) rfl rfl hHeld ?_
         refine pz (i := 4) (N := some 63) (bz 15 31) rfl rfl ?_
         refine pz (i := 5) (N := some 64) (bz 15 63) rfl rfl ?_
         refine pz (i := 6) (N := some 65) (bz 15 127) rfl rfl ?_
         refine pz (i := 7) (N := some 66) (bz 15 255) rfl rfl ?_
         refine pz (i := 8) (N := some 67) (bz 15 511) rfl rfl ?_
         refine pz (i := 10) (N := some 69) (bz 15 1535) rfl rfl ?_
         refine tz4 (i := 9) (N := some 68) (bz 15 2047) rfl rfl hHeld ?_
         refine tz4 (i := 11) (N := some 70) (bz 15 4095) rfl rfl hHeld ?_
         refine one_ (i := 12) (N := some 71) #[true, true, true, true, true, true, true, true, true, true, true, true, true, false, false] rfl rfl (one_of HT_.out (by kernel_rfl)) (by decide) (fun K hK => ?_)
         refine goes_ Tryd.func28 (by kernel_rfl) rfl #[.slice A326_0 (rd_L5 t311 x9_2).length c326_0, .int .i64 (rd t314 x7_1)] (by rfl) rfl rfl aq5 ?_
         with_reducible refine (palingref15_has.calls kj24 _ _ (rd_L5 t311 x9_2) (rd t314 x7_1) true _ ?side1 ?side2 A37.out).mono ?_
         (case side1 => first | (obtain ⟨ad_, A_, c_, e_, hx_, hl_, hi_⟩ := at_L5 (Kd.S_reads' HO_5.out).2.2 x9_2 (of_eq_true p326) (of_eq_true q326); cases e_; obtain ⟨s0, s1, s2, s3, s4, s5, s6, s7, s8, s9, s10⟩ := hHeld; have hq_ := Option.some.inj (hx_.symm.trans (by assumption)); injection hq_ with ha_; subst ha_; exact hi_) | (repeat (first | exact (by repeat (first | (with_reducible exact HR326_0.out) | (with_reducible refine Kd.C_alloc ?_ _) | (with_reducible refine Kd.C_drewN ?_ _) | (with_reducible refine Kd.C_drew ?_) | exact HR326_0.out)) | (with_reducible refine Kd.C_alloc ?_ _) | (with_reducible refine Kd.C_drewN ?_ _) | (with_reducible refine Kd.C_drew ?_)); done))
         (case side2 => exact HC326_0.out)
         rintro e w' ⟨rfl, ⟨nd, rfl⟩⟩
         refine ⟨_, rfl, ?_⟩
         refine hK.out _ _ ⟨(blk_cell BK0.out 0).trans rfl, (blk_cell BK0.out 1).trans rfl, (blk_cell BK0.out 2).trans rfl, hHeld.2.2.2⟩ (fun hHeld => ?_)
         clear hK K
         refine norm_ (a' := ?_) ?_ ?_
         rotate_left
         ·show Act.put _ (some 71) _ = _
          simp only [Act.put, List.setIfInBounds_toArray, List.set_cons_zero, List.set_cons_succ, i64_w, i32_w]
          rfl
         refine pz (i := 13) (N := some 72) (bz 15 16383) rfl rfl ?_
         refine pz (i := 14) (N := some 73) (bz 15 32767) rfl rfl ?_
         refine done_ (done_of HT_.out (by kernel_rfl)) ?_
         obtain ⟨hcz43_0, hcz43_1, hcz43_2, hfz43_0, hfz43_1, hfz43_2⟩ := czf3 BK0.out
         try go_wp2
         go_roundg kj24
         case measure => have := HK1.out; have := HK2.out; have := HJ13.out; have := HJ24.out; omega
         case rel => exact ⟨(wrap64 (x9_2 + 1)), (x9_2), (x9_2), aq9, H', ⟨aq42⟩, ⟨aq26⟩, ⟨aq29⟩, ⟨aq30⟩, ⟨aq33⟩, ⟨by (with_reducible repeat (first | refine blk_drewN ?_ _ | refine blk_drew ?_ | refine blk_alloc ?_ _)); refine blk_put (cs := #[.int .i64 (rd t314 x7_1), .int .i64 x9_2, .int .i64 x319002_2]) ?_ 2 _ rfl; (with_reducible repeat (first | refine blk_drewN ?_ _ | refine blk_drew ?_ | refine blk_alloc ?_ _)); exact BK0.out⟩, ⟨aq3⟩⟩
end Go.Proofs.YtianfjhhhhmjlaaDoor.PLiveTells
