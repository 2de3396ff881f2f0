-- Written by print2.py over the kit's printer. Not trusted: Lean checks it.
import Derived.Test.YtdopacgaklaaeaaDoorPDeadTellshqq
import Derived.Test.YtdopacgaklaaeaaDoorPDeadTellsx0
import Derived.Test.YtdopacgaklaaeaaDoorPDeadTellsx10
import Derived.Test.YtdopacgaklaaeaaDoorPDeadTellsx11
namespace Go.Proofs.YtdopacgaklaaeaaDoor.PDeadTells
open Go.RowKit Go.Proofs.YtdopacgaklaaeaaDoorW.PrintWords Go.Proofs.YtdopacgaklaaeaaDoorW.PrintLast Go.Proofs.YtdopacgaklaaeaaDoorW.PrintMore
attribute [local go_sem] max2_int min2_int max_two min_two max_three min_three max_four min_four   -- for this text's walks alone
set_option linter.unusedVariables false
set_option linter.unusedSimpArgs false

/-! ### palingref15_Regs: function 55 -/
mutual
def palingref15_Regs.l0 : Nat → List (S28) → List Int → Int → Option (List Int)
  | 0, _, _, _ => none
  | k + 1, x0, x3, x4 => if x4 < (x0.length : Int) then (if 0 ≤ x4 then ((palingref11_Uses.f k ((rd_T28 x0 x4).f0) ((rd_T28 x0 x4).f1) ((rd_T28 x0 x4).f2) ((rd_T28 x0 x4).f3) ((rd_T28 x0 x4).f4) ((rd_T28 x0 x4).f5) ((rd_T28 x0 x4).f6)).bind fun t253 => ((palingref11_Def.f k ((rd_T28 x0 x4).f0) ((rd_T28 x0 x4).f1) ((rd_T28 x0 x4).f2) ((rd_T28 x0 x4).f3) ((rd_T28 x0 x4).f4) ((rd_T28 x0 x4).f5) ((rd_T28 x0 x4).f6)).bind fun t257 => (if t257 ≥ 0 then (if t253.length < 17592186044416 then (palingref15_Regs.j1 k x0 x3 x4 (t253 ++ [t257])) else (none)) else (palingref15_Regs.j1 k x0 x3 x4 t253)))) else (none)) else (some x3)
def palingref15_Regs.j1 : Nat → List (S28) → List Int → Int → List Int → Option (List Int)
  | 0, _, _, _, _ => none
  | k + 1, x0, x3, x4, x5 => palingref15_Regs.l1 k x0 x3 x4 x5 0
def palingref15_Regs.l1 : Nat → List (S28) → List Int → Int → List Int → Int → Option (List Int)
  | 0, _, _, _, _, _ => none
  | k + 1, x0, x3, x4, x5, x7 => if x7 < (x5.length : Int) then (palingref15_Regs.l2 k x0 x3 x4 x5 x7 0) else (palingref15_Regs.l0 k x0 x3 (wrap64 (x4 + 1)))
def palingref15_Regs.l2 : Nat → List (S28) → List Int → Int → List Int → Int → Int → Option (List Int)
  | 0, _, _, _, _, _, _ => none
  | k + 1, x0, x3, x4, x5, x7, x8 => if x8 < (x3.length : Int) then (if 0 ≤ x8 then (if 0 ≤ x7 then (if x7 < (x5.length : Int) then (if (rd x3 x8) < (rd x5 x7) then (palingref15_Regs.l2 k x0 x3 x4 x5 x7 (wrap64 (x8 + 1))) else (if (rd x3 x8) = (rd x5 x7) then (palingref15_Regs.l1 k x0 x3 x4 x5 (wrap64 (x7 + 1))) else (if x8 ≤ (x3.length : Int) then ((some (x3.take (x8 : Int).toNat : List Int)).bind fun y265 => (if ([] : List Int).length + y265.length < 17592186044416 then ((some (([] : List Int) ++ y265 : List Int)).bind fun y269 => (if y269.length < 17592186044416 then ((some (y269 ++ [rd x5 x7] : List Int)).bind fun y273 => ((some (x3.drop (x8 : Int).toNat : List Int)).bind fun y276 => (if y273.length + y276.length < 17592186044416 then (palingref15_Regs.l1 k x0 (y273 ++ y276) x4 x5 (wrap64 (x7 + 1))) else (none)))) else (none))) else (none))) else (none)))) else (none)) else (none)) else (none)) else (if 0 ≤ x8 then (if x8 ≤ (x3.length : Int) then ((some (x3.take (x8 : Int).toNat : List Int)).bind fun y283 => (if ([] : List Int).length + y283.length < 17592186044416 then ((some (([] : List Int) ++ y283 : List Int)).bind fun y287 => (if 0 ≤ x7 then (if x7 < (x5.length : Int) then (if y287.length < 17592186044416 then ((some (y287 ++ [rd x5 x7] : List Int)).bind fun y291 => ((some (x3.drop (x8 : Int).toNat : List Int)).bind fun y294 => (if y291.length + y294.length < 17592186044416 then (palingref15_Regs.l1 k x0 (y291 ++ y294) x4 x5 (wrap64 (x7 + 1))) else (none)))) else (none)) else (none)) else (none))) else (none))) else (none)) else (none))
end
def palingref15_Regs.f (k : Nat) (l0 : List (S28)) : Option (List Int) := palingref15_Regs.l0 k l0 ([] : List Int) 0
theorem palingref15_Regs.mono_l : ∀ k, (∀ y0 y1 y2, LeO (palingref15_Regs.l0 k y0 y1 y2) (palingref15_Regs.l0 (k + 1) y0 y1 y2)) ∧ (∀ y0 y1 y2 y3, LeO (palingref15_Regs.j1 k y0 y1 y2 y3) (palingref15_Regs.j1 (k + 1) y0 y1 y2 y3)) ∧ (∀ y0 y1 y2 y3 y4, LeO (palingref15_Regs.l1 k y0 y1 y2 y3 y4) (palingref15_Regs.l1 (k + 1) y0 y1 y2 y3 y4)) ∧ (∀ y0 y1 y2 y3 y4 y5, LeO (palingref15_Regs.l2 k y0 y1 y2 y3 y4 y5) (palingref15_Regs.l2 (k + 1) y0 y1 y2 y3 y4 y5))
  | 0 => ⟨fun _ _ _ r h => by simp [palingref15_Regs.l0] at h, fun _ _ _ _ r h => by simp [palingref15_Regs.j1] at h, fun _ _ _ _ _ r h => by simp [palingref15_Regs.l1] at h, fun _ _ _ _ _ _ r h => by simp [palingref15_Regs.l2] at h⟩
  | k + 1 => by
    obtain ⟨ih0, ih1, ih2, ih3⟩ := palingref15_Regs.mono_l k
    refine ⟨?_, ?_, ?_, ?_⟩ <;> intros <;> (first | unfold palingref15_Regs.l0 | unfold palingref15_Regs.j1 | unfold palingref15_Regs.l1 | unfold palingref15_Regs.l2) <;> repeat' (first | (with_reducible first | exact ih0 _ _ _ | exact ih1 _ _ _ _ | exact ih2 _ _ _ _ _ | exact ih3 _ _ _ _ _ _ | exact palingref11_Def.mono _ _ _ _ _ _ _ _ | exact palingref11_Uses.mono _ _ _ _ _ _ _ _ | exact LeO.refl _ | exact LeO.none _ | refine LeO.ite ?_ ?_ | refine LeO.bind ?_ (fun _ => ?_)) | exact ih0 _ _ _ | exact ih1 _ _ _ _ | exact ih2 _ _ _ _ _ | exact ih3 _ _ _ _ _ _ | exact palingref11_Def.mono _ _ _ _ _ _ _ _ | exact palingref11_Uses.mono _ _ _ _ _ _ _ _ | exact LeO.none _ | refine LeO.ite ?_ ?_ | refine LeO.bind ?_ (fun _ => ?_))
theorem palingref15_Regs.mono : ∀ a0 k, LeO (palingref15_Regs.f k a0) (palingref15_Regs.f (k + 1) a0) := by
 intro a0 k
 obtain ⟨ih0, ih1, ih2, ih3⟩ := palingref15_Regs.mono_l k
 unfold palingref15_Regs.f
 repeat' (first | (with_reducible first | exact ih0 _ _ _ | exact ih1 _ _ _ _ | exact ih2 _ _ _ _ _ | exact ih3 _ _ _ _ _ _ | exact palingref11_Def.mono _ _ _ _ _ _ _ _ | exact palingref11_Uses.mono _ _ _ _ _ _ _ _ | exact LeO.refl _ | exact LeO.none _ | refine LeO.ite ?_ ?_ | refine LeO.bind ?_ (fun _ => ?_)) | exact ih0 _ _ _ | exact ih1 _ _ _ _ | exact ih2 _ _ _ _ _ | exact ih3 _ _ _ _ _ _ | exact palingref11_Def.mono _ _ _ _ _ _ _ _ | exact palingref11_Uses.mono _ _ _ _ _ _ _ _ | exact LeO.none _ | refine LeO.ite ?_ ?_ | refine LeO.bind ?_ (fun _ => ?_))
set_option maxHeartbeats 8000000 in
set_option maxRecDepth 100000 in
theorem palingref15_Regs.calls (k : Nat) (A0 : Option Addr) (c0 : Nat) (l0 : List (S28)) (r : List Int) (w : World) (hr0 : Kd.C k28 w A0 l0.length l0) (hc0 : l0.length ≤ c0) (h : palingref15_Regs.f k l0 = some r) :
    Calls Tryd.prog 55 #[.slice A0 l0.length c0] w fun e w' => ∃ v0_ : Value, e = .returned (v0_) ∧ Kd.R (Kd.int .i64) 3 w' w.heap.size (fun _ => True) v0_ r ∧ Below w.heap.size w w' := by
 have hu28 := Tryd.underlying28
 have HR0 := Aside0.mk hr0
 have HC0 := Aside0.mk hc0
 clear hr0 hc0
 have HB := Aside0.mk (Below.refl w.heap.size w)
 have H : (palingref15_Regs.l0 k l0 ([] : List Int) 0) = some r := h
 clear h
 have H' := Aside0.mk H
 clear H
 go_enter Tryd.func55, Tryd.ntmps55
 go_wp2
 repeat (go_quiet (fail); try go_wp2)
 go_loopg [3, 4] k (fun kq v3 v4 w' => ∃ (x3_1 : List Int) (x4_1 : Int), v4 = .int .i64 x4_1 ∧ Aside0 (palingref15_Regs.l0 kq l0 x3_1 x4_1 = some r) ∧ Aside0 (kq ≤ k) ∧ Aside0 (Kd.R (Kd.int .i64) 3 w' w.heap.size (fun _ => True) v3 x3_1) ∧ Aside0 (Below w.heap.size w w'))
 case atStart => exact ⟨(([] : List Int)), (0), aq5, H', ⟨Nat.le_refl _⟩, ⟨aq28⟩, ⟨aq0⟩⟩
 case round =>
  clear H'
  obtain ⟨x3_1, x4_1, rfl, HA, HK1, HO_3, HB⟩ := hrel
  cases gk with
  | zero => exact absurd HA.out (by simp [palingref15_Regs.l0])
  | succ k1 =>
   have H := HA.out
   clear HA
   simp only [palingref15_Regs.l0] at H
   by_cases c2 : x4_1 < (l0.length : Int)
   rotate_left
   ·rw [if_neg c2] at H
    have c2b0 : decide (x4_1 < (l0.length : Int)) = false := decide_eq_false c2
    clear c2
    obtain rfl := Option.some.inj H
    go_wp2
    repeat (go_quiet (fail); try go_wp2)
    go_ret
    exact ⟨_, aq11, aq10, aq0⟩
   rw [if_pos c2] at H
   have c2b0 : decide (x4_1 < (l0.length : Int)) = true := decide_eq_true c2
   clear c2
   by_cases c3 : 0 ≤ x4_1
   rotate_left
   ·rw [if_neg c3] at H
    exact absurd H (by simp)
   rw [if_pos c3] at H
   have c3b0 : decide (0 ≤ x4_1) = true := decide_eq_true c3
   clear c3
   obtain ⟨t253, A4, H⟩ := bS_ H
   obtain ⟨t257, A5, H⟩ := bS_ H
   have HC6 := Aside0.mk H
   clear H
   have p252 : 0 ≤ (x4_1 : Int) := of_decide_eq_true aq2
   have q252 : x4_1 < (l0.length : Int) := of_decide_eq_true aq2
   obtain ⟨ad252, e252, hx252_0, hx252_1, hx252_2, hx252_3, hx252_4, hx252_5, hx252_6⟩ := at_T28 HR0.out x4_1 p252 q252
   cases e252
   have n_ := cb7 HB.out hx252_0 hx252_1 hx252_2 hx252_3 hx252_4 hx252_5 hx252_6
   clear hx252_0 hx252_1 hx252_2 hx252_3 hx252_4 hx252_5 hx252_6
   obtain ⟨hx252_0, hx252_1, hx252_2, hx252_3, hx252_4, hx252_5, hx252_6⟩ := n_
   replace p252 := eq_true p252
   replace q252 := eq_true q252
   go_upto_if 27 with (first | (go_at_call 75; (with_reducible refine (palingref11_Uses.calls k1 ((rd_T28 l0 x4_1).f0) ((rd_T28 l0 x4_1).f1) ((rd_T28 l0 x4_1).f2) ((rd_T28 l0 x4_1).f3) ((rd_T28 l0 x4_1).f4) ((rd_T28 l0 x4_1).f5) ((rd_T28 l0 x4_1).f6) t253 _ A4.out).mono ?_); rintro e w7 ⟨v254, rfl, ho0, hb⟩; have HO255 := Aside0.mk (Kd.R_lower (Kd.R_new' ho0 (Kd.R_lt aq10)) (below_size aq0)); replace HO_3 := Aside0.mk (Kd.R_elder' aq10 (Kd.R_base ho0) hb); replace HB := Aside0.mk (below_step aq0 hb); (try clear hb); (try clear hb2); (try clear hk); (try clear hi); (try clear ho0); have p256 : 0 ≤ (x4_1 : Int) := of_decide_eq_true aq2; have q256 : x4_1 < (l0.length : Int) := of_decide_eq_true aq2; obtain ⟨ad256, e256, hx256_0, hx256_1, hx256_2, hx256_3, hx256_4, hx256_5, hx256_6⟩ := at_T28 HR0.out x4_1 p256 q256; obtain rfl : ad252 = ad256 := (by injection e256); replace hx256_0 := (HB.out.cell (World.block_lt_of_cell? w _ hx256_0)).trans hx256_0; replace hx256_1 := (HB.out.cell (World.block_lt_of_cell? w _ hx256_1)).trans hx256_1; replace hx256_2 := (HB.out.cell (World.block_lt_of_cell? w _ hx256_2)).trans hx256_2; replace hx256_3 := (HB.out.cell (World.block_lt_of_cell? w _ hx256_3)).trans hx256_3; replace hx256_4 := (HB.out.cell (World.block_lt_of_cell? w _ hx256_4)).trans hx256_4; replace hx256_5 := (HB.out.cell (World.block_lt_of_cell? w _ hx256_5)).trans hx256_5; replace hx256_6 := (HB.out.cell (World.block_lt_of_cell? w _ hx256_6)).trans hx256_6; replace p256 := eq_true p256; replace q256 := eq_true q256) | (go_at_call 28; (with_reducible refine (palingref11_Def.calls k1 ((rd_T28 l0 x4_1).f0) ((rd_T28 l0 x4_1).f1) ((rd_T28 l0 x4_1).f2) ((rd_T28 l0 x4_1).f3) ((rd_T28 l0 x4_1).f4) ((rd_T28 l0 x4_1).f5) ((rd_T28 l0 x4_1).f6) t257 _ A5.out).mono ?_); rintro e w8 ⟨rfl, hb⟩; replace HO_3 := Aside0.mk (Kd.R_below aq10 hb); replace HO255 := Aside0.mk (Kd.R_below aq52 hb); replace HB := Aside0.mk (below_step aq0 hb); (try clear hb); (try clear hb2); (try clear hk); (try clear hi)))
   repeat (go_quiet (first | (go_at_call 75; (with_reducible refine (palingref11_Uses.calls k1 ((rd_T28 l0 x4_1).f0) ((rd_T28 l0 x4_1).f1) ((rd_T28 l0 x4_1).f2) ((rd_T28 l0 x4_1).f3) ((rd_T28 l0 x4_1).f4) ((rd_T28 l0 x4_1).f5) ((rd_T28 l0 x4_1).f6) t253 _ A4.out).mono ?_); rintro e w7 ⟨v254, rfl, ho0, hb⟩; have HO255 := Aside0.mk (Kd.R_lower (Kd.R_new' ho0 (Kd.R_lt aq10)) (below_size aq0)); replace HO_3 := Aside0.mk (Kd.R_elder' aq10 (Kd.R_base ho0) hb); replace HB := Aside0.mk (below_step aq0 hb); (try clear hb); (try clear hb2); (try clear hk); (try clear hi); (try clear ho0); have p256 : 0 ≤ (x4_1 : Int) := of_decide_eq_true aq2; have q256 : x4_1 < (l0.length : Int) := of_decide_eq_true aq2; obtain ⟨ad256, e256, hx256_0, hx256_1, hx256_2, hx256_3, hx256_4, hx256_5, hx256_6⟩ := at_T28 HR0.out x4_1 p256 q256; obtain rfl : ad252 = ad256 := (by injection e256); replace hx256_0 := (HB.out.cell (World.block_lt_of_cell? w _ hx256_0)).trans hx256_0; replace hx256_1 := (HB.out.cell (World.block_lt_of_cell? w _ hx256_1)).trans hx256_1; replace hx256_2 := (HB.out.cell (World.block_lt_of_cell? w _ hx256_2)).trans hx256_2; replace hx256_3 := (HB.out.cell (World.block_lt_of_cell? w _ hx256_3)).trans hx256_3; replace hx256_4 := (HB.out.cell (World.block_lt_of_cell? w _ hx256_4)).trans hx256_4; replace hx256_5 := (HB.out.cell (World.block_lt_of_cell? w _ hx256_5)).trans hx256_5; replace hx256_6 := (HB.out.cell (World.block_lt_of_cell? w _ hx256_6)).trans hx256_6; replace p256 := eq_true p256; replace q256 := eq_true q256) | (go_at_call 28; (with_reducible refine (palingref11_Def.calls k1 ((rd_T28 l0 x4_1).f0) ((rd_T28 l0 x4_1).f1) ((rd_T28 l0 x4_1).f2) ((rd_T28 l0 x4_1).f3) ((rd_T28 l0 x4_1).f4) ((rd_T28 l0 x4_1).f5) ((rd_T28 l0 x4_1).f6) t257 _ A5.out).mono ?_); rintro e w8 ⟨rfl, hb⟩; replace HO_3 := Aside0.mk (Kd.R_below aq10 hb); replace HO255 := Aside0.mk (Kd.R_below aq52 hb); replace HB := Aside0.mk (below_step aq0 hb); (try clear hb); (try clear hb2); (try clear hk); (try clear hi))); go_upto_if 27 with (first | (go_at_call 75; (with_reducible refine (palingref11_Uses.calls k1 ((rd_T28 l0 x4_1).f0) ((rd_T28 l0 x4_1).f1) ((rd_T28 l0 x4_1).f2) ((rd_T28 l0 x4_1).f3) ((rd_T28 l0 x4_1).f4) ((rd_T28 l0 x4_1).f5) ((rd_T28 l0 x4_1).f6) t253 _ A4.out).mono ?_); rintro e w7 ⟨v254, rfl, ho0, hb⟩; have HO255 := Aside0.mk (Kd.R_lower (Kd.R_new' ho0 (Kd.R_lt aq10)) (below_size aq0)); replace HO_3 := Aside0.mk (Kd.R_elder' aq10 (Kd.R_base ho0) hb); replace HB := Aside0.mk (below_step aq0 hb); (try clear hb); (try clear hb2); (try clear hk); (try clear hi); (try clear ho0); have p256 : 0 ≤ (x4_1 : Int) := of_decide_eq_true aq2; have q256 : x4_1 < (l0.length : Int) := of_decide_eq_true aq2; obtain ⟨ad256, e256, hx256_0, hx256_1, hx256_2, hx256_3, hx256_4, hx256_5, hx256_6⟩ := at_T28 HR0.out x4_1 p256 q256; obtain rfl : ad252 = ad256 := (by injection e256); replace hx256_0 := (HB.out.cell (World.block_lt_of_cell? w _ hx256_0)).trans hx256_0; replace hx256_1 := (HB.out.cell (World.block_lt_of_cell? w _ hx256_1)).trans hx256_1; replace hx256_2 := (HB.out.cell (World.block_lt_of_cell? w _ hx256_2)).trans hx256_2; replace hx256_3 := (HB.out.cell (World.block_lt_of_cell? w _ hx256_3)).trans hx256_3; replace hx256_4 := (HB.out.cell (World.block_lt_of_cell? w _ hx256_4)).trans hx256_4; replace hx256_5 := (HB.out.cell (World.block_lt_of_cell? w _ hx256_5)).trans hx256_5; replace hx256_6 := (HB.out.cell (World.block_lt_of_cell? w _ hx256_6)).trans hx256_6; replace p256 := eq_true p256; replace q256 := eq_true q256) | (go_at_call 28; (with_reducible refine (palingref11_Def.calls k1 ((rd_T28 l0 x4_1).f0) ((rd_T28 l0 x4_1).f1) ((rd_T28 l0 x4_1).f2) ((rd_T28 l0 x4_1).f3) ((rd_T28 l0 x4_1).f4) ((rd_T28 l0 x4_1).f5) ((rd_T28 l0 x4_1).f6) t257 _ A5.out).mono ?_); rintro e w8 ⟨rfl, hb⟩; replace HO_3 := Aside0.mk (Kd.R_below aq10 hb); replace HO255 := Aside0.mk (Kd.R_below aq52 hb); replace HB := Aside0.mk (below_step aq0 hb); (try clear hb); (try clear hb2); (try clear hk); (try clear hi))))
   (try simp only [Act.put, List.setIfInBounds_toArray, List.set_cons_zero, List.set_cons_succ])
   go_cut [5] (fun v5 wc => ∃ (kq : Nat) (x5_5 : List Int), Aside0 (palingref15_Regs.j1 kq l0 x3_1 x4_1 x5_5 = some r) ∧ Aside0 (kq ≤ k1) ∧ Aside0 (Kd.R (Kd.int .i64) 3 wc w.heap.size (fun k_ => some k_ ≠ (v5 : Value).ownBlock) u3 x3_1) ∧ Aside0 (Kd.R (Kd.int .i64) 3 wc w.heap.size (fun k_ => some k_ ≠ (u3 : Value).ownBlock) v5 x5_5) ∧ Aside0 (Below w.heap.size w wc))
   case first =>
    have H := HC6.out
    clear HC6
    by_cases c9 : t257 ≥ 0
    rotate_left
    ·rw [if_neg c9] at H
     have c9b0 : decide (0 ≤ t257) = false := decide_eq_false c9
     clear c9
     (first | rw [c9b0] | (simp only [i64_w, i32_w]; rw [c9b0]) | skip)
     have H' := Aside0.mk H
     clear H
     go_wp2
     repeat (go_quiet (fail); try go_wp2)
     go_meet
     case rel => exact ⟨_, (t253), H', ⟨aq49⟩, ⟨by (with_reducible repeat (first | apply Kd.R_alloc | apply Kd.R_drewN | apply Kd.R_drew)); exact Kd.R_mono HO_3.out (fun _ hk => hk.2)⟩, ⟨by (with_reducible repeat (first | apply Kd.R_alloc | apply Kd.R_drewN | apply Kd.R_drew)); exact Kd.R_mono HO255.out (fun _ hk => hk.2)⟩, ⟨aq0⟩⟩
    rw [if_pos c9] at H
    have c9b0 : decide (0 ≤ t257) = true := decide_eq_true c9
    clear c9
    (first | rw [c9b0] | (simp only [i64_w, i32_w]; rw [c9b0]) | skip)
    by_cases c10 : t253.length < 17592186044416
    rotate_left
    ·rw [if_neg c10] at H
     exact absurd H (by simp)
    rw [if_pos c10] at H
    have LMc10 := Aside0.mk c10
    clear c10
    obtain ⟨y258, hy_⟩ : ∃ y_ : List Int, y_ = (t253 ++ [t257]) := ⟨_, rfl⟩
    replace H : (palingref15_Regs.j1 k1 l0 x3_1 x4_1 y258) = some r := aq1
    have Ny258 := Aside0.mk hy_
    clear hy_
    have H' := Aside0.mk H
    clear H
    go_wp2_with (first | ((with_reducible refine gate_builtin (b := .append) (xs := #[.tmp 28, .tmp 30]) rfl ?_); at_builtin; refine Kd.R_append (Kd.int .i64) (w0 := w) w.heap.size rfl (.tmp 28) (.tmp 30) 57 3 (.int .i64 0) 8 rfl Tryd.underlying57 info3 rfl (by decide) (by omega) v254 t253 t257 [.int .i64 t257] (fun k_ => some k_ ≠ (u3 : Value).ownBlock) (fun _ => False) rfl rfl ?aP (fun _ hk => hk.elim) ?aF ?aO ?aB ?aS ?aL ?_; (case aP => exact rfl); (case aB => exact aq0); (case aF => exact (fun k_ hk => Kd.fresh' (Kd.R_lt aq10) k_ hk)); (case aO => exact (by (with_reducible repeat (first | apply Kd.R_alloc | apply Kd.R_drewN | apply Kd.R_drew)); exact Kd.R_mono HO255.out (fun _ hk => hk.2))); (case aS => exact (below_size aq0)); (case aL => have := LMc10.out; omega); intro v259 w11 ho hb hg hat; rw [← Ny258.out] at ho; replace HO_3 := Aside0.mk (Kd.R_after (ok := (fun _ => True)) aq10 hg hat); replace HB := Aside0.mk (hb); have HO260 := Aside0.mk (ho); clear HO255; clear ho hb hg hat) | (go_quiet (fail)))
    go_meet
    case rel => exact ⟨_, (y258), H', ⟨aq49⟩, ⟨by (with_reducible repeat (first | apply Kd.R_alloc | apply Kd.R_drewN | apply Kd.R_drew)); exact Kd.R_mono HO_3.out (fun _ hk => hk.2)⟩, ⟨by (with_reducible repeat (first | apply Kd.R_alloc | apply Kd.R_drewN | apply Kd.R_drew)); exact HO260.out⟩, ⟨aq0⟩⟩
   case rest =>
    clear HC6
    obtain ⟨kq, x5_5, HA, HJ5, HO_3, HO_5, HB⟩ := hcut
    cases kq with
    | zero => exact absurd HA.out (by simp [palingref15_Regs.j1])
    | succ kj5 =>
     have H := HA.out
     clear HA
     simp only [palingref15_Regs.j1] at H
     have H' := Aside0.mk H
     clear H
     go_wp2
     repeat (go_quiet (fail); try go_wp2)
     go_loopg [3, 7] kj5 (fun kq v3 v7 w' => ∃ (x3_3 : List Int) (x7_3 : Int), v7 = .int .i64 x7_3 ∧ Aside0 (palingref15_Regs.l1 kq l0 x3_3 x4_1 x5_5 x7_3 = some r) ∧ Aside0 (kq ≤ kj5) ∧ Aside0 (Kd.R (Kd.int .i64) 3 w' w.heap.size (fun k_ => some k_ ≠ (u5 : Value).ownBlock) v3 x3_3) ∧ Aside0 (Kd.R (Kd.int .i64) 3 w' w.heap.size (fun k_ => some k_ ≠ (v3 : Value).ownBlock) u5 x5_5) ∧ Aside0 (Below w.heap.size w w'))
     case atStart => exact ⟨(x3_1), (0), aq5, H', ⟨Nat.le_refl _⟩, ⟨aq10⟩, ⟨aq12⟩, ⟨aq0⟩⟩
     case round =>
      clear H'
      obtain ⟨x3_3, x7_3, rfl, HA, HK3, HO_3, HO_5, HB⟩ := hrel
      cases gk with
      | zero => exact absurd HA.out (by simp [palingref15_Regs.l1])
      | succ k3 =>
       have H := HA.out
       clear HA
       simp only [palingref15_Regs.l1] at H
       by_cases c12 : x7_3 < (x5_5.length : Int)
       rotate_left
       ·rw [if_neg c12] at H
        have c12b0 : decide (x7_3 < (x5_5.length : Int)) = false := decide_eq_false c12
        clear c12
        have H' := Aside0.mk H
        clear H
        obtain ⟨Ao50, co50, eo50⟩ := Kd.R_slice HO_5.out
        subst eo50
        go_wp2
        repeat (go_quiet (fail); try go_wp2)
        go_roundg k3
        case measure => have := HK1.out; have := HJ5.out; have := HK3.out; omega
        case rel => exact ⟨(x3_3), (wrap64 (x4_1 + 1)), aq5, H', ⟨by have := HK1.out; have := HJ5.out; have := HK3.out; omega⟩, ⟨by (with_reducible repeat (first | apply Kd.R_alloc | apply Kd.R_drewN | apply Kd.R_drew)); exact Kd.R_mono HO_3.out (fun _ hk => trivial)⟩, ⟨aq0⟩⟩
       rw [if_pos c12] at H
       have c12b0 : decide (x7_3 < (x5_5.length : Int)) = true := decide_eq_true c12
       clear c12
       have H' := Aside0.mk H
       clear H
       obtain ⟨Ao13, co13, eo13⟩ := Kd.R_slice HO_5.out
       subst eo13
       go_wp2
       repeat (go_quiet (fail); try go_wp2)
       go_loopg [8] k3 (fun kq v8 w' => ∃ (x8_4 : Int), v8 = .int .i64 x8_4 ∧ Aside0 (palingref15_Regs.l2 kq l0 x3_3 x4_1 x5_5 x7_3 x8_4 = some r) ∧ Aside0 (kq ≤ k3) ∧ Aside0 (Kd.R (Kd.int .i64) 3 w' w.heap.size (fun k_ => some k_ ≠ ((.slice Ao13 x5_5.length co13) : Value).ownBlock) u3 x3_3) ∧ Aside0 (Kd.R (Kd.int .i64) 3 w' w.heap.size (fun k_ => some k_ ≠ (u3 : Value).ownBlock) (.slice Ao13 x5_5.length co13) x5_5) ∧ Aside0 (Below w.heap.size w w'))
       case atStart => exact ⟨(0), aq5, H', ⟨Nat.le_refl _⟩, ⟨aq10⟩, ⟨aq12⟩, ⟨aq0⟩⟩
       case round =>
        clear H'
        obtain ⟨x8_4, rfl, HA, HK4, HO_3, HO_5, HB⟩ := hrel
        cases gk with
        | zero => exact absurd HA.out (by simp [palingref15_Regs.l2])
        | succ k4 =>
         have H := HA.out
         clear HA
         simp only [palingref15_Regs.l2] at H
         by_cases c14 : x8_4 < (x3_3.length : Int)
         rotate_left
         ·rw [if_neg c14] at H
          have c14b0 : decide (x8_4 < (x3_3.length : Int)) = false := decide_eq_false c14
          clear c14
          by_cases c35 : 0 ≤ x8_4
          rotate_left
          ·rw [if_neg c35] at H
           exact absurd H (by simp)
          rw [if_pos c35] at H
          have c35b0 := eq_true c35
          have c35b1 : decide (0 ≤ x8_4) = true := decide_eq_true c35
          clear c35
          by_cases c36 : x8_4 ≤ (x3_3.length : Int)
          rotate_left
          ·rw [if_neg c36] at H
           exact absurd H (by simp)
          rw [if_pos c36] at H
          have c36b0 := eq_true c36
          have c36b1 : decide (x8_4 ≤ (x3_3.length : Int)) = true := decide_eq_true c36
          clear c36
          obtain ⟨y283, hy_⟩ : ∃ y_ : List Int, y_ = (x3_3.take (x8_4 : Int).toNat) := ⟨_, rfl⟩
          replace H : (if ([] : List Int).length + y283.length < 17592186044416 then ((some (([] : List Int) ++ y283 : List Int)).bind fun y287 => (if 0 ≤ x7_3 then (if x7_3 < (x5_5.length : Int) then (if y287.length < 17592186044416 then ((some (y287 ++ [rd x5_5 x7_3] : List Int)).bind fun y291 => ((some (x3_3.drop (x8_4 : Int).toNat : List Int)).bind fun y294 => (if y291.length + y294.length < 17592186044416 then (palingref15_Regs.l1 k4 l0 (y291 ++ y294) x4_1 x5_5 (wrap64 (x7_3 + 1))) else (none)))) else (none)) else (none)) else (none))) else (none)) = some r := aq1
          have Ny283 := Aside0.mk hy_
          clear hy_
          by_cases c37 : ([] : List Int).length + y283.length < 17592186044416
          rotate_left
          ·rw [if_neg c37] at H
           exact absurd H (by simp)
          rw [if_pos c37] at H
          have LMc37 := Aside0.mk c37
          clear c37
          obtain ⟨y287, hy_⟩ : ∃ y_ : List Int, y_ = (([] : List Int) ++ y283) := ⟨_, rfl⟩
          replace H : (if 0 ≤ x7_3 then (if x7_3 < (x5_5.length : Int) then (if y287.length < 17592186044416 then ((some (y287 ++ [rd x5_5 x7_3] : List Int)).bind fun y291 => ((some (x3_3.drop (x8_4 : Int).toNat : List Int)).bind fun y294 => (if y291.length + y294.length < 17592186044416 then (palingref15_Regs.l1 k4 l0 (y291 ++ y294) x4_1 x5_5 (wrap64 (x7_3 + 1))) else (none)))) else (none)) else (none)) else (none)) = some r := aq1
          have Ny287 := Aside0.mk hy_
          clear hy_
          by_cases c38 : 0 ≤ x7_3
          rotate_left
          ·rw [if_neg c38] at H
           exact absurd H (by simp)
          rw [if_pos c38] at H
          have c38b0 : decide (0 ≤ x7_3) = true := decide_eq_true c38
          clear c38
          by_cases c39 : x7_3 < (x5_5.length : Int)
          rotate_left
          ·rw [if_neg c39] at H
           exact absurd H (by simp)
          rw [if_pos c39] at H
          have c39b0 : decide (x7_3 < (x5_5.length : Int)) = true := decide_eq_true c39
          clear c39
          by_cases c40 : y287.length < 17592186044416
          rotate_left
          ·rw [if_neg c40] at H
           exact absurd H (by simp)
          rw [if_pos c40] at H
          have LMc40 := Aside0.mk c40
          clear c40
          obtain ⟨y291, hy_⟩ : ∃ y_ : List Int, y_ = (y287 ++ [rd x5_5 x7_3]) := ⟨_, rfl⟩
          replace H : ((some (x3_3.drop (x8_4 : Int).toNat : List Int)).bind fun y294 => (if y291.length + y294.length < 17592186044416 then (palingref15_Regs.l1 k4 l0 (y291 ++ y294) x4_1 x5_5 (wrap64 (x7_3 + 1))) else (none))) = some r := aq1
          have Ny291 := Aside0.mk hy_
          clear hy_
          have c41b0 := eq_true (of_decide_eq_true aq2 : 0 ≤ x8_4)
          have c42b0 := eq_true (of_decide_eq_true aq2 : x8_4 ≤ (x3_3.length : Int))
          obtain ⟨y294, hy_⟩ : ∃ y_ : List Int, y_ = (x3_3.drop (x8_4 : Int).toNat) := ⟨_, rfl⟩
          replace H : (if y291.length + y294.length < 17592186044416 then (palingref15_Regs.l1 k4 l0 (y291 ++ y294) x4_1 x5_5 (wrap64 (x7_3 + 1))) else (none)) = some r := aq1
          have Ny294 := Aside0.mk hy_
          clear hy_
          by_cases c43 : y291.length + y294.length < 17592186044416
          rotate_left
          ·rw [if_neg c43] at H
           exact absurd H (by simp)
          rw [if_pos c43] at H
          have LMc43 := Aside0.mk c43
          clear c43
          obtain ⟨y298, hy_⟩ : ∃ y_ : List Int, y_ = (y291 ++ y294) := ⟨_, rfl⟩
          replace H : (palingref15_Regs.l1 k4 l0 y298 x4_1 x5_5 (wrap64 (x7_3 + 1))) = some r := aq1
          have Ny298 := Aside0.mk hy_
          clear hy_
          have H' := Aside0.mk H
          clear H
          obtain ⟨Ao44, co44, eo44⟩ := Kd.R_slice HO_3.out
          subst eo44
          have q45 : (x8_4 : Int) ≤ ((x3_3.length : Int) : Int) := of_decide_eq_true aq2
          obtain ⟨i045, hi045, _, hsz45, _⟩ := info_parts info3
          have hroom45 : x3_3.length ≤ co44 := (Kd.R_reads' HO_3.out).2.1
          have hC45 : Kd.C (Kd.int .i64) _ Ao44 x3_3.length x3_3 := (Kd.R_reads' HO_3.out).2.2
          have hcut45 := cut_to (P := Tryd.prog) 57 3 .i64 Tryd.underlying57 hi045 Ao44 x3_3.length co44 x8_4 (of_decide_eq_true aq2) q45 hroom45
          have hr45 := Kd.C_take (m := (x8_4 : Int).toNat) hC45 (by omega)
          have hy45 : y283.length = (x8_4 : Int).toNat := (by rw [Ny283.out, List.length_take]; omega)
          rw [← Ny283.out] at hr45
          rw [← hy45] at hcut45
          have HR286 := Aside0.mk hr45
          have HC286 := Aside0.mk (show y283.length ≤ co44 from by omega)
          clear hr45 hC45 hroom45 hi045 hsz45
          have KY45 := Aside0.mk hy45
          clear hy45
          have KL45 := Aside0.mk (show (x8_4 : Int).toNat ≤ x3_3.length from by omega)
          replace q45 := eq_true q45
          go_wp2_with (first | ((with_reducible refine gate_builtin (b := .append) (xs := #[.tmp 70, .tmp 73]) rfl ?_); at_builtin; refine Kd.R_append_rows (Kd.int .i64) (w0 := w) w.heap.size rfl (.tmp 70) (.tmp 73) 57 3 (.int .i64 0) 8 rfl Tryd.underlying57 info3 rfl (by decide) (by omega) (.slice none 0 0) ([] : List Int) y283 _ _ _ (fun k_ => some k_ ≠ (.slice Ao44 x3_3.length co44 : Value).ownBlock ∧ some k_ ≠ (.slice Ao13 x5_5.length co13 : Value).ownBlock) (fun _ => False) rfl rfl ?aO ?aR (fun _ _ h => h) (fun _ h => h.elim) ?aF ?aB ?aS ?aL ?_; (case aR => repeat (first | exact (by repeat (first | (with_reducible exact HR286.out) | (with_reducible refine Kd.C_alloc ?_ _) | (with_reducible refine Kd.C_drewN ?_ _) | (with_reducible refine Kd.C_drew ?_) | exact HR286.out)) | (with_reducible refine Kd.C_alloc ?_ _) | (with_reducible refine Kd.C_drewN ?_ _) | (with_reducible refine Kd.C_drew ?_))); (case aB => exact aq0); (case aF => exact (fun k_ hk => ⟨Kd.fresh' (Kd.R_lt aq10) k_ hk, Kd.fresh' (Kd.R_lt aq12) k_ hk⟩)); (case aO => exact ((Kd.R_nil _ _ _ _ (fun k_ => some k_ ≠ (.slice Ao44 x3_3.length co44 : Value).ownBlock ∧ some k_ ≠ (.slice Ao13 x5_5.length co13 : Value).ownBlock)))); (case aS => exact (below_size aq0)); (case aL => have := LMc37.out; omega); intro v288 w46 ho hb hg hat; rw [← Ny287.out] at ho; replace HO_5 := Aside0.mk (Kd.R_after (Kd.R_apart_nil aq12) hg hat); replace HB := Aside0.mk (hb); replace HR286 := Aside0.mk ((show Kd.C (Kd.int .i64) w46 Ao44 y283.length y283 from by rw [Ny283.out]; exact Kd.C_take (m := (x8_4 : Int).toNat) ((Kd.R_reads' (Kd.R_after (Kd.R_apart_nil aq10) hg hat)).2.2) KL45.out)); replace HO_3 := Aside0.mk (Kd.R_after (Kd.R_apart_nil aq10) hg hat); have HO289 := Aside0.mk (ho); clear ho hb hg hat; have p290 : 0 ≤ (x7_3 : Int) := of_decide_eq_true aq2; have q290 : x7_3 < (x5_5.length : Int) := of_decide_eq_true aq2; obtain ⟨ad290, e290, hx290_0⟩ := Kd.at_int (Kd.R_reads' HO_5.out).2.2 x7_3 p290 q290; cases e290; replace p290 := eq_true p290; replace q290 := eq_true q290) | ((with_reducible refine gate_builtin (b := .append) (xs := #[.tmp 75, .tmp 80]) rfl ?_); at_builtin; refine Kd.R_append (Kd.int .i64) (w0 := w) w.heap.size rfl (.tmp 75) (.tmp 80) 57 3 (.int .i64 0) 8 rfl Tryd.underlying57 info3 rfl (by decide) (by omega) v288 y287 (rd x5_5 x7_3) [.int .i64 (rd x5_5 x7_3)] (fun k_ => some k_ ≠ (.slice Ao44 x3_3.length co44 : Value).ownBlock ∧ some k_ ≠ (.slice (some ad290) x5_5.length co13 : Value).ownBlock) (fun _ => False) rfl rfl ?aP (fun _ hk => hk.elim) ?aF ?aO ?aB ?aS ?aL ?_; (case aP => exact rfl); (case aB => exact aq0); (case aF => exact (fun k_ hk => ⟨Kd.fresh' (Kd.R_lt aq10) k_ hk, Kd.fresh' (Kd.R_lt aq12) k_ hk⟩)); (case aO => exact (by (with_reducible repeat (first | apply Kd.R_alloc | apply Kd.R_drewN | apply Kd.R_drew)); exact HO289.out)); (case aS => exact (below_size aq0)); (case aL => have := LMc40.out; omega); intro v292 w47 ho hb hg hat; rw [← Ny291.out] at ho; replace HO_5 := Aside0.mk (Kd.R_after (ok := (fun k_ => some k_ ≠ (.slice Ao44 x3_3.length co44 : Value).ownBlock)) aq12 hg hat); replace HB := Aside0.mk (hb); replace HR286 := Aside0.mk ((show Kd.C (Kd.int .i64) w47 Ao44 y283.length y283 from by rw [Ny283.out]; exact Kd.C_take (m := (x8_4 : Int).toNat) ((Kd.R_reads' (Kd.R_after (ok := (fun k_ => some k_ ≠ (.slice (some ad290) x5_5.length co13 : Value).ownBlock)) aq10 hg hat)).2.2) KL45.out)); replace HO_3 := Aside0.mk (Kd.R_after (ok := (fun k_ => some k_ ≠ (.slice (some ad290) x5_5.length co13 : Value).ownBlock)) aq10 hg hat); have HO293 := Aside0.mk (ho); clear HO289; clear ho hb hg hat; have q48 : (x8_4 : Int) ≤ ((x3_3.length : Int) : Int) := of_decide_eq_true aq2; obtain ⟨i048, hi048, _, hsz48, _⟩ := info_parts info3; have hroom48 : x3_3.length ≤ co44 := (Kd.R_reads' HO_3.out).2.1; have hC48 : Kd.C (Kd.int .i64) _ Ao44 x3_3.length x3_3 := (Kd.R_reads' HO_3.out).2.2; have q048 : (0 : Int) ≤ (x8_4 : Int) := of_decide_eq_true aq2; have hcut48 := cut_from (P := Tryd.prog) 57 3 .i64 Tryd.underlying57 hi048 1 hsz48 Ao44 x3_3.length co44 x8_4 q048 q48; have hr48 := Kd.C_drop (m := (x8_4 : Int).toNat) (c := co44) hC48 (by omega) hroom48; obtain ⟨A48, hA48⟩ : ∃ A1, A1 = (if co44 = (x8_4 : Int).toNat then Ao44 else (Ao44 : Option Addr).map (·.add ((x8_4 : Int).toNat * 1))) := ⟨_, rfl⟩; obtain ⟨c48, hc48⟩ : ∃ c1, c1 = co44 - (x8_4 : Int).toNat := ⟨_, rfl⟩; have hy48 : y294.length = x3_3.length - (x8_4 : Int).toNat := (by rw [Ny294.out, List.length_drop] <;> omega); rw [show (x3_3).drop (x8_4 : Int).toNat = y294 from Ny294.out.symm] at hr48; replace hr48 : Kd.C (Kd.int .i64) _ A48 y294.length y294 := (by rw [hA48]; exact hr48); rw [← hy48, ← hA48, ← hc48] at hcut48; have HR297 := Aside0.mk hr48; have HC297 := Aside0.mk (show y294.length ≤ c48 from by rw [hy48, hc48]; exact Nat.sub_le_sub_right hroom48 _); clear hr48 hC48 hroom48 hi048 hsz48 hc48; have KY48 := Aside0.mk hy48; have KA48 := Aside0.mk hA48; clear hy48 hA48; have KL48 := Aside0.mk (show (x8_4 : Int).toNat ≤ x3_3.length from by omega); replace q48 := eq_true q48) | ((with_reducible refine gate_builtin (b := .append) (xs := #[.tmp 82, .tmp 85]) rfl ?_); at_builtin; refine Kd.R_append_rows (Kd.int .i64) (w0 := w) w.heap.size rfl (.tmp 82) (.tmp 85) 57 3 (.int .i64 0) 8 rfl Tryd.underlying57 info3 rfl (by decide) (by omega) v292 y291 y294 _ _ _ (fun k_ => some k_ ≠ (.slice Ao44 x3_3.length co44 : Value).ownBlock ∧ some k_ ≠ (.slice (some ad290) x5_5.length co13 : Value).ownBlock) (fun _ => False) rfl rfl ?aO ?aR (fun _ _ h => h) (fun _ h => h.elim) ?aF ?aB ?aS ?aL ?_; (case aR => repeat (first | exact (by repeat (first | (with_reducible exact HR297.out) | (with_reducible refine Kd.C_alloc ?_ _) | (with_reducible refine Kd.C_drewN ?_ _) | (with_reducible refine Kd.C_drew ?_) | exact HR297.out)) | (with_reducible refine Kd.C_alloc ?_ _) | (with_reducible refine Kd.C_drewN ?_ _) | (with_reducible refine Kd.C_drew ?_))); (case aB => exact aq0); (case aF => exact (fun k_ hk => ⟨Kd.fresh' (Kd.R_lt aq10) k_ hk, Kd.fresh' (Kd.R_lt aq12) k_ hk⟩)); (case aO => exact (by (with_reducible repeat (first | apply Kd.R_alloc | apply Kd.R_drewN | apply Kd.R_drew)); exact HO293.out)); (case aS => exact (below_size aq0)); (case aL => have := LMc43.out; omega); intro v299 w49 ho hb hg hat; rw [← Ny298.out] at ho; have n0_ := Aside0.mk (Kd.R_after (ok := (fun k_ => some k_ ≠ (.slice (some ad290) x5_5.length co13 : Value).ownBlock)) aq10 hg hat); have n1_ := Aside0.mk (Kd.R_after (ok := (fun k_ => some k_ ≠ (.slice Ao44 x3_3.length co44 : Value).ownBlock)) aq12 hg hat); have n2_ := Aside0.mk (hb); have n3_ := Aside0.mk ((show Kd.C (Kd.int .i64) w49 Ao44 y283.length y283 from by rw [Ny283.out]; exact Kd.C_take (m := (x8_4 : Int).toNat) ((Kd.R_reads' (Kd.R_after (ok := (fun k_ => some k_ ≠ (.slice (some ad290) x5_5.length co13 : Value).ownBlock)) aq10 hg hat)).2.2) KL45.out)); have n4_ := Aside0.mk ((show Kd.C (Kd.int .i64) w49 A48 y294.length y294 from by rw [Ny294.out, KA48.out]; exact Kd.C_drop (m := (x8_4 : Int).toNat) (c := co44) ((Kd.R_reads' (Kd.R_after (ok := (fun k_ => some k_ ≠ (.slice (some ad290) x5_5.length co13 : Value).ownBlock)) aq10 hg hat)).2.2) KL48.out ((Kd.R_reads' (Kd.R_after (ok := (fun k_ => some k_ ≠ (.slice (some ad290) x5_5.length co13 : Value).ownBlock)) aq10 hg hat)).2.1))); have n5_ := Aside0.mk (ho); clear HO_3; clear HO_5; clear HB; clear HR286; clear HR297; clear HO293; have HO_3 := n0_; have HO_5 := n1_; have HB := n2_; have HR286 := n3_; have HR297 := n4_; have HO300 := n5_; clear n0_ n1_ n2_ n3_ n4_ n5_; clear ho hb hg hat) | (go_quiet (fail)))
          go_roundg k4
          case measure => have := HK1.out; have := HJ5.out; have := HK3.out; have := HK4.out; omega
          case rel => exact ⟨(y298), (wrap64 (x7_3 + 1)), aq5, H', ⟨aq53⟩, ⟨by (with_reducible repeat (first | apply Kd.R_alloc | apply Kd.R_drewN | apply Kd.R_drew)); exact Kd.R_mono HO300.out (fun _ hk => hk.2)⟩, ⟨aq32⟩, ⟨aq0⟩⟩
         rw [if_pos c14] at H
         have c14b0 : decide (x8_4 < (x3_3.length : Int)) = true := decide_eq_true c14
         clear c14
         by_cases c15 : 0 ≤ x8_4
         rotate_left
         ·rw [if_neg c15] at H
          exact absurd H (by simp)
         rw [if_pos c15] at H
         have c15b0 : decide (0 ≤ x8_4) = true := decide_eq_true c15
         clear c15
         by_cases c16 : 0 ≤ x7_3
         rotate_left
         ·rw [if_neg c16] at H
          exact absurd H (by simp)
         rw [if_pos c16] at H
         have c16b0 : decide (0 ≤ x7_3) = true := decide_eq_true c16
         clear c16
         by_cases c17 : x7_3 < (x5_5.length : Int)
         rotate_left
         ·rw [if_neg c17] at H
          exact absurd H (by simp)
         rw [if_pos c17] at H
         have c17b0 : decide (x7_3 < (x5_5.length : Int)) = true := decide_eq_true c17
         clear c17
         by_cases c18 : (rd x3_3 x8_4) < (rd x5_5 x7_3)
         ·rw [if_pos c18] at H
          have c18b0 : decide ((rd x3_3 x8_4) < (rd x5_5 x7_3)) = true := decide_eq_true c18
          clear c18
          have H' := Aside0.mk H
          clear H
          obtain ⟨Ao19, co19, eo19⟩ := Kd.R_slice HO_3.out
          subst eo19
          have p261 : 0 ≤ (x8_4 : Int) := of_decide_eq_true aq2
          have q261 : x8_4 < (x3_3.length : Int) := of_decide_eq_true aq2
          obtain ⟨ad261, e261, hx261_0⟩ := Kd.at_int (Kd.R_reads' HO_3.out).2.2 x8_4 p261 q261
          cases e261
          replace p261 := eq_true p261
          replace q261 := eq_true q261
          have p262 : 0 ≤ (x7_3 : Int) := of_decide_eq_true aq2
          have q262 : x7_3 < (x5_5.length : Int) := of_decide_eq_true aq2
          obtain ⟨ad262, e262, hx262_0⟩ := Kd.at_int (Kd.R_reads' HO_5.out).2.2 x7_3 p262 q262
          cases e262
          replace p262 := eq_true p262
          replace q262 := eq_true q262
          go_wp2
          repeat (go_quiet (fail); try go_wp2)
          go_roundg k4
          case measure => have := HK1.out; have := HJ5.out; have := HK3.out; have := HK4.out; omega
          case rel => exact ⟨(wrap64 (x8_4 + 1)), aq5, H', ⟨aq53⟩, ⟨aq10⟩, ⟨aq12⟩, ⟨aq0⟩⟩
         rw [if_neg c18] at H
         have c18b0 : decide ((rd x3_3 x8_4) < (rd x5_5 x7_3)) = false := decide_eq_false c18
         clear c18
         by_cases c20 : (rd x3_3 x8_4) = (rd x5_5 x7_3)
         ·rw [if_pos c20] at H
          have c20b0 : ((rd x3_3 x8_4) == (rd x5_5 x7_3)) = true := beq_iff_eq.mpr c20
          have c20b1 : ((rd x3_3 x8_4) != (rd x5_5 x7_3)) = false := bne_eq_false_iff_eq.mpr c20
          clear c20
          have H' := Aside0.mk H
          clear H
          obtain ⟨Ao21, co21, eo21⟩ := Kd.R_slice HO_3.out
          subst eo21
          have p261 : 0 ≤ (x8_4 : Int) := of_decide_eq_true aq2
          have q261 : x8_4 < (x3_3.length : Int) := of_decide_eq_true aq2
          obtain ⟨ad261, e261, hx261_0⟩ := Kd.at_int (Kd.R_reads' HO_3.out).2.2 x8_4 p261 q261
          cases e261
          replace p261 := eq_true p261
          replace q261 := eq_true q261
          have p262 : 0 ≤ (x7_3 : Int) := of_decide_eq_true aq2
          have q262 : x7_3 < (x5_5.length : Int) := of_decide_eq_true aq2
          obtain ⟨ad262, e262, hx262_0⟩ := Kd.at_int (Kd.R_reads' HO_5.out).2.2 x7_3 p262 q262
          cases e262
          replace p262 := eq_true p262
          replace q262 := eq_true q262
          have p263 : 0 ≤ (x8_4 : Int) := of_decide_eq_true aq2
          have q263 : x8_4 < (x3_3.length : Int) := of_decide_eq_true aq2
          obtain ⟨ad263, e263, hx263_0⟩ := Kd.at_int (Kd.R_reads' HO_3.out).2.2 x8_4 p263 q263
          obtain rfl : ad261 = ad263 := (by injection e263)
          replace p263 := eq_true p263
          replace q263 := eq_true q263
          have p264 : 0 ≤ (x7_3 : Int) := of_decide_eq_true aq2
          have q264 : x7_3 < (x5_5.length : Int) := of_decide_eq_true aq2
          obtain ⟨ad264, e264, hx264_0⟩ := Kd.at_int (Kd.R_reads' HO_5.out).2.2 x7_3 p264 q264
          obtain rfl : ad262 = ad264 := (by injection e264)
          replace p264 := eq_true p264
          replace q264 := eq_true q264
          go_wp2
          repeat (go_quiet (fail); try go_wp2)
          go_roundg k4
          case measure => have := HK1.out; have := HJ5.out; have := HK3.out; have := HK4.out; omega
          case rel => exact ⟨(x3_3), (wrap64 (x7_3 + 1)), aq5, H', ⟨aq53⟩, ⟨aq10⟩, ⟨aq12⟩, ⟨aq0⟩⟩
         rw [if_neg c20] at H
         have c20b0 : ((rd x3_3 x8_4) == (rd x5_5 x7_3)) = false := beq_eq_false_iff_ne.mpr c20
         have c20b1 : ((rd x3_3 x8_4) != (rd x5_5 x7_3)) = true := bne_iff_ne.mpr c20
         have c22b0 := eq_true (of_decide_eq_true aq2 : 0 ≤ x8_4)
         by_cases c23 : x8_4 ≤ (x3_3.length : Int)
         rotate_left
         ·rw [if_neg c23] at H
          exact absurd H (by simp)
         rw [if_pos c23] at H
         have c23b0 := eq_true c23
         have c23b1 : decide (x8_4 ≤ (x3_3.length : Int)) = true := decide_eq_true c23
         clear c23
         obtain ⟨y265, hy_⟩ : ∃ y_ : List Int, y_ = (x3_3.take (x8_4 : Int).toNat) := ⟨_, rfl⟩
         replace H : (if ([] : List Int).length + y265.length < 17592186044416 then ((some (([] : List Int) ++ y265 : List Int)).bind fun y269 => (if y269.length < 17592186044416 then ((some (y269 ++ [rd x5_5 x7_3] : List Int)).bind fun y273 => ((some (x3_3.drop (x8_4 : Int).toNat : List Int)).bind fun y276 => (if y273.length + y276.length < 17592186044416 then (palingref15_Regs.l1 k4 l0 (y273 ++ y276) x4_1 x5_5 (wrap64 (x7_3 + 1))) else (none)))) else (none))) else (none)) = some r := aq1
         have Ny265 := Aside0.mk hy_
         clear hy_
         by_cases c24 : ([] : List Int).length + y265.length < 17592186044416
         rotate_left
         ·rw [if_neg c24] at H
          exact absurd H (by simp)
         rw [if_pos c24] at H
         have LMc24 := Aside0.mk c24
         clear c24
         obtain ⟨y269, hy_⟩ : ∃ y_ : List Int, y_ = (([] : List Int) ++ y265) := ⟨_, rfl⟩
         replace H : (if y269.length < 17592186044416 then ((some (y269 ++ [rd x5_5 x7_3] : List Int)).bind fun y273 => ((some (x3_3.drop (x8_4 : Int).toNat : List Int)).bind fun y276 => (if y273.length + y276.length < 17592186044416 then (palingref15_Regs.l1 k4 l0 (y273 ++ y276) x4_1 x5_5 (wrap64 (x7_3 + 1))) else (none)))) else (none)) = some r := aq1
         have Ny269 := Aside0.mk hy_
         clear hy_
         by_cases c25 : y269.length < 17592186044416
         rotate_left
         ·rw [if_neg c25] at H
          exact absurd H (by simp)
         rw [if_pos c25] at H
         have LMc25 := Aside0.mk c25
         clear c25
         obtain ⟨y273, hy_⟩ : ∃ y_ : List Int, y_ = (y269 ++ [rd x5_5 x7_3]) := ⟨_, rfl⟩
         replace H : ((some (x3_3.drop (x8_4 : Int).toNat : List Int)).bind fun y276 => (if y273.length + y276.length < 17592186044416 then (palingref15_Regs.l1 k4 l0 (y273 ++ y276) x4_1 x5_5 (wrap64 (x7_3 + 1))) else (none))) = some r := aq1
         have Ny273 := Aside0.mk hy_
         clear hy_
         have c26b0 := eq_true (of_decide_eq_true aq2 : 0 ≤ x8_4)
         have c27b0 := eq_true (of_decide_eq_true aq2 : x8_4 ≤ (x3_3.length : Int))
         obtain ⟨y276, hy_⟩ : ∃ y_ : List Int, y_ = (x3_3.drop (x8_4 : Int).toNat) := ⟨_, rfl⟩
         replace H : (if y273.length + y276.length < 17592186044416 then (palingref15_Regs.l1 k4 l0 (y273 ++ y276) x4_1 x5_5 (wrap64 (x7_3 + 1))) else (none)) = some r := aq1
         have Ny276 := Aside0.mk hy_
         clear hy_
         by_cases c28 : y273.length + y276.length < 17592186044416
         rotate_left
         ·rw [if_neg c28] at H
          exact absurd H (by simp)
         rw [if_pos c28] at H
         have LMc28 := Aside0.mk c28
         clear c28
         obtain ⟨y280, hy_⟩ : ∃ y_ : List Int, y_ = (y273 ++ y276) := ⟨_, rfl⟩
         replace H : (palingref15_Regs.l1 k4 l0 y280 x4_1 x5_5 (wrap64 (x7_3 + 1))) = some r := aq1
         have Ny280 := Aside0.mk hy_
         clear hy_
         have H' := Aside0.mk H
         clear H
         obtain ⟨Ao29, co29, eo29⟩ := Kd.R_slice HO_3.out
         subst eo29
         have p261 : 0 ≤ (x8_4 : Int) := of_decide_eq_true aq2
         have q261 : x8_4 < (x3_3.length : Int) := of_decide_eq_true aq2
         obtain ⟨ad261, e261, hx261_0⟩ := Kd.at_int (Kd.R_reads' HO_3.out).2.2 x8_4 p261 q261
         cases e261
         replace p261 := eq_true p261
         replace q261 := eq_true q261
         have p262 : 0 ≤ (x7_3 : Int) := of_decide_eq_true aq2
         have q262 : x7_3 < (x5_5.length : Int) := of_decide_eq_true aq2
         obtain ⟨ad262, e262, hx262_0⟩ := Kd.at_int (Kd.R_reads' HO_5.out).2.2 x7_3 p262 q262
         cases e262
         replace p262 := eq_true p262
         replace q262 := eq_true q262
         have p263 : 0 ≤ (x8_4 : Int) := of_decide_eq_true aq2
         have q263 : x8_4 < (x3_3.length : Int) := of_decide_eq_true aq2
         obtain ⟨ad263, e263, hx263_0⟩ := Kd.at_int (Kd.R_reads' HO_3.out).2.2 x8_4 p263 q263
         obtain rfl : ad261 = ad263 := (by injection e263)
         replace p263 := eq_true p263
         replace q263 := eq_true q263
         have p264 : 0 ≤ (x7_3 : Int) := of_decide_eq_true aq2
         have q264 : x7_3 < (x5_5.length : Int) := of_decide_eq_true aq2
         obtain ⟨ad264, e264, hx264_0⟩ := Kd.at_int (Kd.R_reads' HO_5.out).2.2 x7_3 p264 q264
         obtain rfl : ad262 = ad264 := (by injection e264)
         replace p264 := eq_true p264
         replace q264 := eq_true q264
         have q30 : (x8_4 : Int) ≤ ((x3_3.length : Int) : Int) := of_decide_eq_true aq2
         obtain ⟨i030, hi030, _, hsz30, _⟩ := info_parts info3
         have hroom30 : x3_3.length ≤ co29 := (Kd.R_reads' HO_3.out).2.1
         have hC30 : Kd.C (Kd.int .i64) _ (some ad261) x3_3.length x3_3 := (Kd.R_reads' HO_3.out).2.2
         have hcut30 := cut_to (P := Tryd.prog) 57 3 .i64 Tryd.underlying57 hi030 (some ad261) x3_3.length co29 x8_4 (of_decide_eq_true aq2) q30 hroom30
         have hr30 := Kd.C_take (m := (x8_4 : Int).toNat) hC30 (by omega)
         have hy30 : y265.length = (x8_4 : Int).toNat := (by rw [Ny265.out, List.length_take]; omega)
         rw [← Ny265.out] at hr30
         rw [← hy30] at hcut30
         have HR268 := Aside0.mk hr30
         have HC268 := Aside0.mk (show y265.length ≤ co29 from by omega)
         clear hr30 hC30 hroom30 hi030 hsz30
         have KY30 := Aside0.mk hy30
         clear hy30
         have KL30 := Aside0.mk (show (x8_4 : Int).toNat ≤ x3_3.length from by omega)
         replace q30 := eq_true q30
         go_wp2_with (first | ((with_reducible refine gate_builtin (b := .append) (xs := #[.tmp 70, .tmp 73]) rfl ?_); at_builtin; refine Kd.R_append_rows (Kd.int .i64) (w0 := w) w.heap.size rfl (.tmp 70) (.tmp 73) 57 3 (.int .i64 0) 8 rfl Tryd.underlying57 info3 rfl (by decide) (by omega) (.slice none 0 0) ([] : List Int) y265 _ _ _ (fun k_ => some k_ ≠ (.slice (some ad261) x3_3.length co29 : Value).ownBlock ∧ some k_ ≠ (.slice (some ad262) x5_5.length co13 : Value).ownBlock) (fun _ => False) rfl rfl ?aO ?aR (fun _ _ h => h) (fun _ h => h.elim) ?aF ?aB ?aS ?aL ?_; (case aR => repeat (first | exact (by repeat (first | (with_reducible exact HR268.out) | (with_reducible refine Kd.C_alloc ?_ _) | (with_reducible refine Kd.C_drewN ?_ _) | (with_reducible refine Kd.C_drew ?_) | exact HR268.out)) | (with_reducible refine Kd.C_alloc ?_ _) | (with_reducible refine Kd.C_drewN ?_ _) | (with_reducible refine Kd.C_drew ?_))); (case aB => exact aq0); (case aF => exact (fun k_ hk => ⟨Kd.fresh' (Kd.R_lt aq10) k_ hk, Kd.fresh' (Kd.R_lt aq12) k_ hk⟩)); (case aO => exact ((Kd.R_nil _ _ _ _ (fun k_ => some k_ ≠ (.slice (some ad261) x3_3.length co29 : Value).ownBlock ∧ some k_ ≠ (.slice (some ad262) x5_5.length co13 : Value).ownBlock)))); (case aS => exact (below_size aq0)); (case aL => have := LMc24.out; omega); intro v270 w31 ho hb hg hat; rw [← Ny269.out] at ho; replace HO_5 := Aside0.mk (Kd.R_after (Kd.R_apart_nil aq12) hg hat); replace HB := Aside0.mk (hb); replace HR268 := Aside0.mk ((show Kd.C (Kd.int .i64) w31 (some ad261) y265.length y265 from by rw [Ny265.out]; exact Kd.C_take (m := (x8_4 : Int).toNat) ((Kd.R_reads' (Kd.R_after (Kd.R_apart_nil aq10) hg hat)).2.2) KL30.out)); replace HO_3 := Aside0.mk (Kd.R_after (Kd.R_apart_nil aq10) hg hat); have HO271 := Aside0.mk (ho); clear ho hb hg hat; have p272 : 0 ≤ (x7_3 : Int) := of_decide_eq_true aq2; have q272 : x7_3 < (x5_5.length : Int) := of_decide_eq_true aq2; obtain ⟨ad272, e272, hx272_0⟩ := Kd.at_int (Kd.R_reads' HO_5.out).2.2 x7_3 p272 q272; obtain rfl : ad262 = ad272 := (by injection e272); replace p272 := eq_true p272; replace q272 := eq_true q272) | ((with_reducible refine gate_builtin (b := .append) (xs := #[.tmp 75, .tmp 80]) rfl ?_); at_builtin; refine Kd.R_append (Kd.int .i64) (w0 := w) w.heap.size rfl (.tmp 75) (.tmp 80) 57 3 (.int .i64 0) 8 rfl Tryd.underlying57 info3 rfl (by decide) (by omega) v270 y269 (rd x5_5 x7_3) [.int .i64 (rd x5_5 x7_3)] (fun k_ => some k_ ≠ (.slice (some ad261) x3_3.length co29 : Value).ownBlock ∧ some k_ ≠ (.slice (some ad262) x5_5.length co13 : Value).ownBlock) (fun _ => False) rfl rfl ?aP (fun _ hk => hk.elim) ?aF ?aO ?aB ?aS ?aL ?_; (case aP => exact rfl); (case aB => exact aq0); (case aF => exact (fun k_ hk => ⟨Kd.fresh' (Kd.R_lt aq10) k_ hk, Kd.fresh' (Kd.R_lt aq12) k_ hk⟩)); (case aO => exact (by (with_reducible repeat (first | apply Kd.R_alloc | apply Kd.R_drewN | apply Kd.R_drew)); exact HO271.out)); (case aS => exact (below_size aq0)); (case aL => have := LMc25.out; omega); intro v274 w32 ho hb hg hat; rw [← Ny273.out] at ho; replace HO_5 := Aside0.mk (Kd.R_after (ok := (fun k_ => some k_ ≠ (.slice (some ad261) x3_3.length co29 : Value).ownBlock)) aq12 hg hat); replace HB := Aside0.mk (hb); replace HR268 := Aside0.mk ((show Kd.C (Kd.int .i64) w32 (some ad261) y265.length y265 from by rw [Ny265.out]; exact Kd.C_take (m := (x8_4 : Int).toNat) ((Kd.R_reads' (Kd.R_after (ok := (fun k_ => some k_ ≠ (.slice (some ad262) x5_5.length co13 : Value).ownBlock)) aq10 hg hat)).2.2) KL30.out)); replace HO_3 := Aside0.mk (Kd.R_after (ok := (fun k_ => some k_ ≠ (.slice (some ad262) x5_5.length co13 : Value).ownBlock)) aq10 hg hat); have HO275 := Aside0.mk (ho); clear HO271; clear ho hb hg hat; have q33 : (x8_4 : Int) ≤ ((x3_3.length : Int) : Int) := of_decide_eq_true aq2; obtain ⟨i033, hi033, _, hsz33, _⟩ := info_parts info3; have hroom33 : x3_3.length ≤ co29 := (Kd.R_reads' HO_3.out).2.1; have hC33 : Kd.C (Kd.int .i64) _ (some ad261) x3_3.length x3_3 := (Kd.R_reads' HO_3.out).2.2; have q033 : (0 : Int) ≤ (x8_4 : Int) := of_decide_eq_true aq2; have hcut33 := cut_from (P := Tryd.prog) 57 3 .i64 Tryd.underlying57 hi033 1 hsz33 (some ad261) x3_3.length co29 x8_4 q033 q33; have hr33 := Kd.C_drop (m := (x8_4 : Int).toNat) (c := co29) hC33 (by omega) hroom33; obtain ⟨A33, hA33⟩ : ∃ A1, A1 = (if co29 = (x8_4 : Int).toNat then (some ad261) else ((some ad261) : Option Addr).map (·.add ((x8_4 : Int).toNat * 1))) := ⟨_, rfl⟩; obtain ⟨c33, hc33⟩ : ∃ c1, c1 = co29 - (x8_4 : Int).toNat := ⟨_, rfl⟩; have hy33 : y276.length = x3_3.length - (x8_4 : Int).toNat := (by rw [Ny276.out, List.length_drop] <;> omega); rw [show (x3_3).drop (x8_4 : Int).toNat = y276 from Ny276.out.symm] at hr33; replace hr33 : Kd.C (Kd.int .i64) _ A33 y276.length y276 := (by rw [hA33]; exact hr33); rw [← hy33, ← hA33, ← hc33] at hcut33; have HR279 := Aside0.mk hr33; have HC279 := Aside0.mk (show y276.length ≤ c33 from by rw [hy33, hc33]; exact Nat.sub_le_sub_right hroom33 _); clear hr33 hC33 hroom33 hi033 hsz33 hc33; have KY33 := Aside0.mk hy33; have KA33 := Aside0.mk hA33; clear hy33 hA33; have KL33 := Aside0.mk (show (x8_4 : Int).toNat ≤ x3_3.length from by omega); replace q33 := eq_true q33) | ((with_reducible refine gate_builtin (b := .append) (xs := #[.tmp 82, .tmp 85]) rfl ?_); at_builtin; refine Kd.R_append_rows (Kd.int .i64) (w0 := w) w.heap.size rfl (.tmp 82) (.tmp 85) 57 3 (.int .i64 0) 8 rfl Tryd.underlying57 info3 rfl (by decide) (by omega) v274 y273 y276 _ _ _ (fun k_ => some k_ ≠ (.slice (some ad261) x3_3.length co29 : Value).ownBlock ∧ some k_ ≠ (.slice (some ad262) x5_5.length co13 : Value).ownBlock) (fun _ => False) rfl rfl ?aO ?aR (fun _ _ h => h) (fun _ h => h.elim) ?aF ?aB ?aS ?aL ?_; (case aR => repeat (first | exact (by repeat (first | (with_reducible exact HR279.out) | (with_reducible refine Kd.C_alloc ?_ _) | (with_reducible refine Kd.C_drewN ?_ _) | (with_reducible refine Kd.C_drew ?_) | exact HR279.out)) | (with_reducible refine Kd.C_alloc ?_ _) | (with_reducible refine Kd.C_drewN ?_ _) | (with_reducible refine Kd.C_drew ?_))); (case aB => exact aq0); (case aF => exact (fun k_ hk => ⟨Kd.fresh' (Kd.R_lt aq10) k_ hk, Kd.fresh' (Kd.R_lt aq12) k_ hk⟩)); (case aO => exact (by (with_reducible repeat (first | apply Kd.R_alloc | apply Kd.R_drewN | apply Kd.R_drew)); exact HO275.out)); (case aS => exact (below_size aq0)); (case aL => have := LMc28.out; omega); intro v281 w34 ho hb hg hat; rw [← Ny280.out] at ho; have n0_ := Aside0.mk (Kd.R_after (ok := (fun k_ => some k_ ≠ (.slice (some ad262) x5_5.length co13 : Value).ownBlock)) aq10 hg hat); have n1_ := Aside0.mk (Kd.R_after (ok := (fun k_ => some k_ ≠ (.slice (some ad261) x3_3.length co29 : Value).ownBlock)) aq12 hg hat); have n2_ := Aside0.mk (hb); have n3_ := Aside0.mk ((show Kd.C (Kd.int .i64) w34 (some ad261) y265.length y265 from by rw [Ny265.out]; exact Kd.C_take (m := (x8_4 : Int).toNat) ((Kd.R_reads' (Kd.R_after (ok := (fun k_ => some k_ ≠ (.slice (some ad262) x5_5.length co13 : Value).ownBlock)) aq10 hg hat)).2.2) KL30.out)); have n4_ := Aside0.mk ((show Kd.C (Kd.int .i64) w34 A33 y276.length y276 from by rw [Ny276.out, KA33.out]; exact Kd.C_drop (m := (x8_4 : Int).toNat) (c := co29) ((Kd.R_reads' (Kd.R_after (ok := (fun k_ => some k_ ≠ (.slice (some ad262) x5_5.length co13 : Value).ownBlock)) aq10 hg hat)).2.2) KL33.out ((Kd.R_reads' (Kd.R_after (ok := (fun k_ => some k_ ≠ (.slice (some ad262) x5_5.length co13 : Value).ownBlock)) aq10 hg hat)).2.1))); have n5_ := Aside0.mk (ho); clear HO_3; clear HO_5; clear HB; clear HR268; clear HR279; clear HO275; have HO_3 := n0_; have HO_5 := n1_; have HB := n2_; have HR268 := n3_; have HR279 := n4_; have HO282 := n5_; clear n0_ n1_ n2_ n3_ n4_ n5_; clear ho hb hg hat) | (go_quiet (fail)))
         go_roundg k4
         case measure => have := HK1.out; have := HJ5.out; have := HK3.out; have := HK4.out; omega
         case rel => exact ⟨(y280), (wrap64 (x7_3 + 1)), aq5, H', ⟨aq53⟩, ⟨by (with_reducible repeat (first | apply Kd.R_alloc | apply Kd.R_drewN | apply Kd.R_drew)); exact Kd.R_mono HO282.out (fun _ hk => hk.2)⟩, ⟨aq32⟩, ⟨aq0⟩⟩
/-! ### palingref15_has: function 57 -/
def palingref15_has.l0 : Nat → List Int → Int → Int → Option (Bool)
  | 0, _, _, _ => none
  | k + 1, x0, x1, x5 => if x5 < (x0.length : Int) then (if 0 ≤ x5 then (if (rd x0 x5) = x1 then (some true) else (palingref15_has.l0 k x0 x1 (wrap64 (x5 + 1)))) else (none)) else (some false)
def palingref15_has.f (k : Nat) (l0 : List Int) (a1 : Int) : Option (Bool) := palingref15_has.l0 k l0 a1 0
theorem palingref15_has.mono_l : ∀ k, (∀ y0 y1 y2, LeO (palingref15_has.l0 k y0 y1 y2) (palingref15_has.l0 (k + 1) y0 y1 y2))
  | 0 => fun _ _ _ r h => by simp [palingref15_has.l0] at h
  | k + 1 => by
    have ih0 := palingref15_has.mono_l k
    intros <;> unfold palingref15_has.l0 <;> repeat' (first | (with_reducible first | exact ih0 _ _ _ | exact LeO.refl _ | exact LeO.none _ | refine LeO.ite ?_ ?_ | refine LeO.bind ?_ (fun _ => ?_)) | exact ih0 _ _ _ | exact LeO.none _ | refine LeO.ite ?_ ?_ | refine LeO.bind ?_ (fun _ => ?_))
theorem palingref15_has.mono : ∀ a0 a1 k, LeO (palingref15_has.f k a0 a1) (palingref15_has.f (k + 1) a0 a1) := by
 intro a0 a1 k
 have ih0 := palingref15_has.mono_l k
 unfold palingref15_has.f
 repeat' (first | (with_reducible first | exact ih0 _ _ _ | exact LeO.refl _ | exact LeO.none _ | refine LeO.ite ?_ ?_ | refine LeO.bind ?_ (fun _ => ?_)) | exact ih0 _ _ _ | exact LeO.none _ | refine LeO.ite ?_ ?_ | refine LeO.bind ?_ (fun _ => ?_))
set_option maxHeartbeats 8000000 in
set_option maxRecDepth 100000 in
theorem palingref15_has.calls (k : Nat) (A0 : Option Addr) (c0 : Nat) (l0 : List Int) (a1 : Int) (r : Bool) (w : World) (hr0 : Kd.C (Kd.int .i64) w A0 l0.length l0) (hc0 : l0.length ≤ c0) (h : palingref15_has.f k l0 a1 = some r) :
    Calls Tryd.prog 57 #[.slice A0 l0.length c0, .int .i64 a1] w fun e w' => e = .returned (.bool r) ∧ Drawn0 w w' := by
 have HR0 := Aside0.mk hr0
 have HC0 := Aside0.mk hc0
 clear hr0 hc0
 have H : (palingref15_has.l0 k l0 a1 0) = some r := h
 clear h
 have H' := Aside0.mk H
 clear H
 go_enter Tryd.func57, Tryd.ntmps57
 go_wp2
 go_loopg [5] k (fun kq v5 w' => ∃ (x5_1 : Int), v5 = .int .i64 x5_1 ∧ Aside0 (palingref15_has.l0 kq l0 a1 x5_1 = some r) ∧ Aside0 (kq ≤ k) ∧ Drawn0 w w')
 case atStart => exact ⟨(0), aq5, H', ⟨Nat.le_refl _⟩, aq16⟩
 case round =>
  clear H'
  obtain ⟨x5_1, rfl, HA, HK1, ⟨m1, rfl⟩⟩ := hrel
  cases gk with
  | zero => exact absurd HA.out (by simp [palingref15_has.l0])
  | succ k1 =>
   have H := HA.out
   clear HA
   simp only [palingref15_has.l0] at H
   by_cases c3 : x5_1 < (l0.length : Int)
   rotate_left
   ·rw [if_neg c3] at H
    have c3b0 : decide (x5_1 < (l0.length : Int)) = false := decide_eq_false c3
    clear c3
    obtain rfl := Option.some.inj H
    go_wp2
    go_ret
    exact ⟨aq5, aq16⟩
   rw [if_pos c3] at H
   have c3b0 : decide (x5_1 < (l0.length : Int)) = true := decide_eq_true c3
   clear c3
   by_cases c4 : 0 ≤ x5_1
   rotate_left
   ·rw [if_neg c4] at H
    exact absurd H (by simp)
   rw [if_pos c4] at H
   have c4b0 : decide (0 ≤ x5_1) = true := decide_eq_true c4
   clear c4
   by_cases c5 : (rd l0 x5_1) = a1
   ·rw [if_pos c5] at H
    have c5b0 : ((rd l0 x5_1) == a1) = true := beq_iff_eq.mpr c5
    have c5b1 : ((rd l0 x5_1) != a1) = false := bne_eq_false_iff_eq.mpr c5
    clear c5
    obtain rfl := Option.some.inj H
    have p301 : 0 ≤ (x5_1 : Int) := of_decide_eq_true aq2
    have q301 : x5_1 < (l0.length : Int) := of_decide_eq_true aq2
    obtain ⟨ad301, e301, hx301_0⟩ := Kd.at_int HR0.out x5_1 p301 q301
    cases e301
    replace p301 := eq_true p301
    replace q301 := eq_true q301
    go_wp2
    go_ret
    exact ⟨aq5, aq16⟩
   rw [if_neg c5] at H
   have c5b0 : ((rd l0 x5_1) == a1) = false := beq_eq_false_iff_ne.mpr c5
   have c5b1 : ((rd l0 x5_1) != a1) = true := bne_iff_ne.mpr c5
   have H' := Aside0.mk H
   clear H
   have p301 : 0 ≤ (x5_1 : Int) := of_decide_eq_true aq2
   have q301 : x5_1 < (l0.length : Int) := of_decide_eq_true aq2
   obtain ⟨ad301, e301, hx301_0⟩ := Kd.at_int HR0.out x5_1 p301 q301
   cases e301
   replace p301 := eq_true p301
   replace q301 := eq_true q301
   go_wp2
   go_roundg k1
   case measure => have := HK1.out; omega
   case rel => exact ⟨(wrap64 (x5_1 + 1)), aq5, H', ⟨aq47⟩, aq16⟩
end Go.Proofs.YtdopacgaklaaeaaDoor.PDeadTells
