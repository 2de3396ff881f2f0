-- Written by print2.py over the kit's printer. Not trusted: Lean checks it.
import Derived.Test.YtianfjhhhhmjlaaDoorPLiveTellshqq
import Derived.Test.YtianfjhhhhmjlaaDoorPLiveTellsx0
import Derived.Test.YtianfjhhhhmjlaaDoorPLiveTellsx3
namespace Go.Proofs.YtianfjhhhhmjlaaDoor.PLiveTells
open Go.RowKit Go.Proofs.YtianfjhhhhmjlaaDoorW.PrintWords Go.Proofs.YtianfjhhhhmjlaaDoorW.PrintLast Go.Proofs.YtianfjhhhhmjlaaDoorW.PrintMore
attribute [local go_sem] max2_int min2_int max_two min_two max_three min_three max_four min_four   -- for this text's walks alone
set_option linter.unusedVariables false
set_option linter.unusedSimpArgs false

/-! ### palingref15_Regs: function 22 -/
mutual
def palingref15_Regs.l0 : Nat → List (S39) → List Int → Int → Option (List Int)
  | 0, _, _, _ => none
  | k + 1, x0, x3, x4 => if x4 < (x0.length : Int) then (if 0 ≤ x4 then ((palingref11_Uses.f k ((rd_T39 x0 x4).f0) ((rd_T39 x0 x4).f1) ((rd_T39 x0 x4).f2) ((rd_T39 x0 x4).f3) ((rd_T39 x0 x4).f4) ((rd_T39 x0 x4).f5) ((rd_T39 x0 x4).f6)).bind fun t169 => ((palingref11_Def.f k ((rd_T39 x0 x4).f0) ((rd_T39 x0 x4).f1) ((rd_T39 x0 x4).f2) ((rd_T39 x0 x4).f3) ((rd_T39 x0 x4).f4) ((rd_T39 x0 x4).f5) ((rd_T39 x0 x4).f6)).bind fun t173 => (if t173 ≥ 0 then (if t169.length < 17592186044416 then (palingref15_Regs.j1 k x0 x3 x4 (t169 ++ [t173])) else (none)) else (palingref15_Regs.j1 k x0 x3 x4 t169)))) else (none)) else (some x3)
def palingref15_Regs.j1 : Nat → List (S39) → List Int → Int → List Int → Option (List Int)
  | 0, _, _, _, _ => none
  | k + 1, x0, x3, x4, x5 => palingref15_Regs.l1 k x0 x3 x4 x5 0
def palingref15_Regs.l1 : Nat → List (S39) → List Int → Int → List Int → Int → Option (List Int)
  | 0, _, _, _, _, _ => none
  | k + 1, x0, x3, x4, x5, x7 => if x7 < (x5.length : Int) then (palingref15_Regs.l2 k x0 x3 x4 x5 x7 0) else (palingref15_Regs.l0 k x0 x3 (wrap64 (x4 + 1)))
def palingref15_Regs.l2 : Nat → List (S39) → List Int → Int → List Int → Int → Int → Option (List Int)
  | 0, _, _, _, _, _, _ => none
  | k + 1, x0, x3, x4, x5, x7, x8 => if x8 < (x3.length : Int) then (if 0 ≤ x8 then (if 0 ≤ x7 then (if x7 < (x5.length : Int) then (if (rd x3 x8) < (rd x5 x7) then (palingref15_Regs.l2 k x0 x3 x4 x5 x7 (wrap64 (x8 + 1))) else (if (rd x3 x8) = (rd x5 x7) then (palingref15_Regs.l1 k x0 x3 x4 x5 (wrap64 (x7 + 1))) else (if x8 ≤ (x3.length : Int) then ((some (x3.take (x8 : Int).toNat : List Int)).bind fun y181 => (if ([] : List Int).length + y181.length < 17592186044416 then ((some (([] : List Int) ++ y181 : List Int)).bind fun y185 => (if y185.length < 17592186044416 then ((some (y185 ++ [rd x5 x7] : List Int)).bind fun y189 => ((some (x3.drop (x8 : Int).toNat : List Int)).bind fun y192 => (if y189.length + y192.length < 17592186044416 then (palingref15_Regs.l1 k x0 (y189 ++ y192) x4 x5 (wrap64 (x7 + 1))) else (none)))) else (none))) else (none))) else (none)))) else (none)) else (none)) else (none)) else (if 0 ≤ x8 then (if x8 ≤ (x3.length : Int) then ((some (x3.take (x8 : Int).toNat : List Int)).bind fun y199 => (if ([] : List Int).length + y199.length < 17592186044416 then ((some (([] : List Int) ++ y199 : List Int)).bind fun y203 => (if 0 ≤ x7 then (if x7 < (x5.length : Int) then (if y203.length < 17592186044416 then ((some (y203 ++ [rd x5 x7] : List Int)).bind fun y207 => ((some (x3.drop (x8 : Int).toNat : List Int)).bind fun y210 => (if y207.length + y210.length < 17592186044416 then (palingref15_Regs.l1 k x0 (y207 ++ y210) x4 x5 (wrap64 (x7 + 1))) else (none)))) else (none)) else (none)) else (none))) else (none))) else (none)) else (none))
end
def palingref15_Regs.f (k : Nat) (l0 : List (S39)) : Option (List Int) := palingref15_Regs.l0 k l0 ([] : List Int) 0
theorem palingref15_Regs.mono_l : ∀ k, (∀ y0 y1 y2, LeO (palingref15_Regs.l0 k y0 y1 y2) (palingref15_Regs.l0 (k + 1) y0 y1 y2)) ∧ (∀ y0 y1 y2 y3, LeO (palingref15_Regs.j1 k y0 y1 y2 y3) (palingref15_Regs.j1 (k + 1) y0 y1 y2 y3)) ∧ (∀ y0 y1 y2 y3 y4, LeO (palingref15_Regs.l1 k y0 y1 y2 y3 y4) (palingref15_Regs.l1 (k + 1) y0 y1 y2 y3 y4)) ∧ (∀ y0 y1 y2 y3 y4 y5, LeO (palingref15_Regs.l2 k y0 y1 y2 y3 y4 y5) (palingref15_Regs.l2 (k + 1) y0 y1 y2 y3 y4 y5))
  | 0 => ⟨fun _ _ _ r h => by simp [palingref15_Regs.l0] at h, fun _ _ _ _ r h => by simp [palingref15_Regs.j1] at h, fun _ _ _ _ _ r h => by simp [palingref15_Regs.l1] at h, fun _ _ _ _ _ _ r h => by simp [palingref15_Regs.l2] at h⟩
  | k + 1 => by
    obtain ⟨ih0, ih1, ih2, ih3⟩ := palingref15_Regs.mono_l k
    refine ⟨?_, ?_, ?_, ?_⟩ <;> intros <;> (first | unfold palingref15_Regs.l0 | unfold palingref15_Regs.j1 | unfold palingref15_Regs.l1 | unfold palingref15_Regs.l2) <;> repeat' (first | (with_reducible first | exact ih0 _ _ _ | exact ih1 _ _ _ _ | exact ih2 _ _ _ _ _ | exact ih3 _ _ _ _ _ _ | exact palingref11_Def.mono _ _ _ _ _ _ _ _ | exact palingref11_Uses.mono _ _ _ _ _ _ _ _ | exact LeO.refl _ | exact LeO.none _ | refine LeO.ite ?_ ?_ | refine LeO.bind ?_ (fun _ => ?_)) | exact ih0 _ _ _ | exact ih1 _ _ _ _ | exact ih2 _ _ _ _ _ | exact ih3 _ _ _ _ _ _ | exact palingref11_Def.mono _ _ _ _ _ _ _ _ | exact palingref11_Uses.mono _ _ _ _ _ _ _ _ | exact LeO.none _ | refine LeO.ite ?_ ?_ | refine LeO.bind ?_ (fun _ => ?_))
theorem palingref15_Regs.mono : ∀ a0 k, LeO (palingref15_Regs.f k a0) (palingref15_Regs.f (k + 1) a0) := by
 intro a0 k
 obtain ⟨ih0, ih1, ih2, ih3⟩ := palingref15_Regs.mono_l k
 unfold palingref15_Regs.f
 repeat' (first | (with_reducible first | exact ih0 _ _ _ | exact ih1 _ _ _ _ | exact ih2 _ _ _ _ _ | exact ih3 _ _ _ _ _ _ | exact palingref11_Def.mono _ _ _ _ _ _ _ _ | exact palingref11_Uses.mono _ _ _ _ _ _ _ _ | exact LeO.refl _ | exact LeO.none _ | refine LeO.ite ?_ ?_ | refine LeO.bind ?_ (fun _ => ?_)) | exact ih0 _ _ _ | exact ih1 _ _ _ _ | exact ih2 _ _ _ _ _ | exact ih3 _ _ _ _ _ _ | exact palingref11_Def.mono _ _ _ _ _ _ _ _ | exact palingref11_Uses.mono _ _ _ _ _ _ _ _ | exact LeO.none _ | refine LeO.ite ?_ ?_ | refine LeO.bind ?_ (fun _ => ?_))
set_option maxHeartbeats 8000000 in
set_option maxRecDepth 100000 in
theorem palingref15_Regs.calls (k : Nat) (A0 : Option Addr) (c0 : Nat) (l0 : List (S39)) (r : List Int) (w : World) (hr0 : Kd.C k39 w A0 l0.length l0) (hc0 : l0.length ≤ c0) (h : palingref15_Regs.f k l0 = some r) :
    Calls Tryd.prog 22 #[.slice A0 l0.length c0] w fun e w' => ∃ v0_ : Value, e = .returned (v0_) ∧ Kd.R (Kd.int .i64) 3 w' w.heap.size (fun _ => True) v0_ r ∧ Below w.heap.size w w' := by
 have hu39 := Tryd.underlying39
 have HR0 := Aside0.mk hr0
 have HC0 := Aside0.mk hc0
 clear hr0 hc0
 have HB := Aside0.mk (Below.refl w.heap.size w)
 have H : (palingref15_Regs.l0 k l0 ([] : List Int) 0) = some r := h
 clear h
 have H' := Aside0.mk H
 clear H
 go_enter Tryd.func22, Tryd.ntmps22
 go_wp2
 repeat (go_quiet (fail); try go_wp2)
 go_loopg [3, 4] k (fun kq v3 v4 w' => ∃ (x3_1 : List Int) (x4_1 : Int), v4 = .int .i64 x4_1 ∧ Aside0 (palingref15_Regs.l0 kq l0 x3_1 x4_1 = some r) ∧ Aside0 (kq ≤ k) ∧ Aside0 (Kd.R (Kd.int .i64) 3 w' w.heap.size (fun _ => True) v3 x3_1) ∧ Aside0 (Below w.heap.size w w'))
 case atStart => exact ⟨(([] : List Int)), (0), aq9, H', ⟨Nat.le_refl _⟩, ⟨aq36⟩, ⟨aq0⟩⟩
 case round =>
  clear H'
  obtain ⟨x3_1, x4_1, rfl, HA, HK1, HO_3, HB⟩ := hrel
  cases gk with
  | zero => exact absurd HA.out (by simp [palingref15_Regs.l0])
  | succ k1 =>
   have H := HA.out
   clear HA
   simp only [palingref15_Regs.l0] at H
   by_cases c2 : x4_1 < (l0.length : Int)
   rotate_left
   ·rw [if_neg c2] at H
    have c2b0 : decide (x4_1 < (l0.length : Int)) = false := decide_eq_false c2
    clear c2
    obtain rfl := Option.some.inj H
    go_wp2
    repeat (go_quiet (fail); try go_wp2)
    go_ret
    exact ⟨_, aq13, aq6, aq0⟩
   rw [if_pos c2] at H
   have c2b0 : decide (x4_1 < (l0.length : Int)) = true := decide_eq_true c2
   clear c2
   by_cases c3 : 0 ≤ x4_1
   rotate_left
   ·rw [if_neg c3] at H
    exact absurd H (by simp)
   rw [if_pos c3] at H
   have c3b0 : decide (0 ≤ x4_1) = true := decide_eq_true c3
   clear c3
   obtain ⟨t169, A4, H⟩ := bS_ H
   obtain ⟨t173, A5, H⟩ := bS_ H
   have HC6 := Aside0.mk H
   clear H
   have p168 : 0 ≤ (x4_1 : Int) := of_decide_eq_true aq1
   have q168 : x4_1 < (l0.length : Int) := of_decide_eq_true aq1
   obtain ⟨ad168, e168, hx168_0, hx168_1, hx168_2, hx168_3, hx168_4, hx168_5, hx168_6⟩ := at_T39 HR0.out x4_1 p168 q168
   cases e168
   replace hx168_0 := (HB.out.cell (World.block_lt_of_cell? w _ hx168_0)).trans hx168_0
   replace hx168_1 := (HB.out.cell (World.block_lt_of_cell? w _ hx168_1)).trans hx168_1
   replace hx168_2 := (HB.out.cell (World.block_lt_of_cell? w _ hx168_2)).trans hx168_2
   replace hx168_3 := (HB.out.cell (World.block_lt_of_cell? w _ hx168_3)).trans hx168_3
   replace hx168_4 := (HB.out.cell (World.block_lt_of_cell? w _ hx168_4)).trans hx168_4
   replace hx168_5 := (HB.out.cell (World.block_lt_of_cell? w _ hx168_5)).trans hx168_5
   replace hx168_6 := (HB.out.cell (World.block_lt_of_cell? w _ hx168_6)).trans hx168_6
   replace p168 := eq_true p168
   replace q168 := eq_true q168
   go_upto_if 27 with (first | (go_at_call 18; (with_reducible refine (palingref11_Uses.calls k1 ((rd_T39 l0 x4_1).f0) ((rd_T39 l0 x4_1).f1) ((rd_T39 l0 x4_1).f2) ((rd_T39 l0 x4_1).f3) ((rd_T39 l0 x4_1).f4) ((rd_T39 l0 x4_1).f5) ((rd_T39 l0 x4_1).f6) t169 _ A4.out).mono ?_); rintro e w7 ⟨v170, rfl, ho0, hb⟩; have HO171 := Aside0.mk (Kd.R_lower (Kd.R_new' ho0 (Kd.R_lt aq6)) (below_size aq0)); replace HO_3 := Aside0.mk (Kd.R_elder' aq6 (Kd.R_base ho0) hb); replace HB := Aside0.mk (below_step aq0 hb); (try clear hb); (try clear hb2); (try clear hk); (try clear hi); (try clear ho0); have p172 : 0 ≤ (x4_1 : Int) := of_decide_eq_true aq1; have q172 : x4_1 < (l0.length : Int) := of_decide_eq_true aq1; obtain ⟨ad172, e172, hx172_0, hx172_1, hx172_2, hx172_3, hx172_4, hx172_5, hx172_6⟩ := at_T39 HR0.out x4_1 p172 q172; obtain rfl : ad168 = ad172 := (by injection e172); replace hx172_0 := (HB.out.cell (World.block_lt_of_cell? w _ hx172_0)).trans hx172_0; replace hx172_1 := (HB.out.cell (World.block_lt_of_cell? w _ hx172_1)).trans hx172_1; replace hx172_2 := (HB.out.cell (World.block_lt_of_cell? w _ hx172_2)).trans hx172_2; replace hx172_3 := (HB.out.cell (World.block_lt_of_cell? w _ hx172_3)).trans hx172_3; replace hx172_4 := (HB.out.cell (World.block_lt_of_cell? w _ hx172_4)).trans hx172_4; replace hx172_5 := (HB.out.cell (World.block_lt_of_cell? w _ hx172_5)).trans hx172_5; replace hx172_6 := (HB.out.cell (World.block_lt_of_cell? w _ hx172_6)).trans hx172_6; replace p172 := eq_true p172; replace q172 := eq_true q172) | (go_at_call 19; (with_reducible refine (palingref11_Def.calls k1 ((rd_T39 l0 x4_1).f0) ((rd_T39 l0 x4_1).f1) ((rd_T39 l0 x4_1).f2) ((rd_T39 l0 x4_1).f3) ((rd_T39 l0 x4_1).f4) ((rd_T39 l0 x4_1).f5) ((rd_T39 l0 x4_1).f6) t173 _ A5.out).mono ?_); rintro e w8 ⟨rfl, hb⟩; replace HO_3 := Aside0.mk (Kd.R_below aq6 hb); replace HO171 := Aside0.mk (Kd.R_below aq57 hb); replace HB := Aside0.mk (below_step aq0 hb); (try clear hb); (try clear hb2); (try clear hk); (try clear hi)))
   repeat (go_quiet (first | (go_at_call 18; (with_reducible refine (palingref11_Uses.calls k1 ((rd_T39 l0 x4_1).f0) ((rd_T39 l0 x4_1).f1) ((rd_T39 l0 x4_1).f2) ((rd_T39 l0 x4_1).f3) ((rd_T39 l0 x4_1).f4) ((rd_T39 l0 x4_1).f5) ((rd_T39 l0 x4_1).f6) t169 _ A4.out).mono ?_); rintro e w7 ⟨v170, rfl, ho0, hb⟩; have HO171 := Aside0.mk (Kd.R_lower (Kd.R_new' ho0 (Kd.R_lt aq6)) (below_size aq0)); replace HO_3 := Aside0.mk (Kd.R_elder' aq6 (Kd.R_base ho0) hb); replace HB := Aside0.mk (below_step aq0 hb); (try clear hb); (try clear hb2); (try clear hk); (try clear hi); (try clear ho0); have p172 : 0 ≤ (x4_1 : Int) := of_decide_eq_true aq1; have q172 : x4_1 < (l0.length : Int) := of_decide_eq_true aq1; obtain ⟨ad172, e172, hx172_0, hx172_1, hx172_2, hx172_3, hx172_4, hx172_5, hx172_6⟩ := at_T39 HR0.out x4_1 p172 q172; obtain rfl : ad168 = ad172 := (by injection e172); replace hx172_0 := (HB.out.cell (World.block_lt_of_cell? w _ hx172_0)).trans hx172_0; replace hx172_1 := (HB.out.cell (World.block_lt_of_cell? w _ hx172_1)).trans hx172_1; replace hx172_2 := (HB.out.cell (World.block_lt_of_cell? w _ hx172_2)).trans hx172_2; replace hx172_3 := (HB.out.cell (World.block_lt_of_cell? w _ hx172_3)).trans hx172_3; replace hx172_4 := (HB.out.cell (World.block_lt_of_cell? w _ hx172_4)).trans hx172_4; replace hx172_5 := (HB.out.cell (World.block_lt_of_cell? w _ hx172_5)).trans hx172_5; replace hx172_6 := (HB.out.cell (World.block_lt_of_cell? w _ hx172_6)).trans hx172_6; replace p172 := eq_true p172; replace q172 := eq_true q172) | (go_at_call 19; (with_reducible refine (palingref11_Def.calls k1 ((rd_T39 l0 x4_1).f0) ((rd_T39 l0 x4_1).f1) ((rd_T39 l0 x4_1).f2) ((rd_T39 l0 x4_1).f3) ((rd_T39 l0 x4_1).f4) ((rd_T39 l0 x4_1).f5) ((rd_T39 l0 x4_1).f6) t173 _ A5.out).mono ?_); rintro e w8 ⟨rfl, hb⟩; replace HO_3 := Aside0.mk (Kd.R_below aq6 hb); replace HO171 := Aside0.mk (Kd.R_below aq57 hb); replace HB := Aside0.mk (below_step aq0 hb); (try clear hb); (try clear hb2); (try clear hk); (try clear hi))); go_upto_if 27 with (first | (go_at_call 18; (with_reducible refine (palingref11_Uses.calls k1 ((rd_T39 l0 x4_1).f0) ((rd_T39 l0 x4_1).f1) ((rd_T39 l0 x4_1).f2) ((rd_T39 l0 x4_1).f3) ((rd_T39 l0 x4_1).f4) ((rd_T39 l0 x4_1).f5) ((rd_T39 l0 x4_1).f6) t169 _ A4.out).mono ?_); rintro e w7 ⟨v170, rfl, ho0, hb⟩; have HO171 := Aside0.mk (Kd.R_lower (Kd.R_new' ho0 (Kd.R_lt aq6)) (below_size aq0)); replace HO_3 := Aside0.mk (Kd.R_elder' aq6 (Kd.R_base ho0) hb); replace HB := Aside0.mk (below_step aq0 hb); (try clear hb); (try clear hb2); (try clear hk); (try clear hi); (try clear ho0); have p172 : 0 ≤ (x4_1 : Int) := of_decide_eq_true aq1; have q172 : x4_1 < (l0.length : Int) := of_decide_eq_true aq1; obtain ⟨ad172, e172, hx172_0, hx172_1, hx172_2, hx172_3, hx172_4, hx172_5, hx172_6⟩ := at_T39 HR0.out x4_1 p172 q172; obtain rfl : ad168 = ad172 := (by injection e172); replace hx172_0 := (HB.out.cell (World.block_lt_of_cell? w _ hx172_0)).trans hx172_0; replace hx172_1 := (HB.out.cell (World.block_lt_of_cell? w _ hx172_1)).trans hx172_1; replace hx172_2 := (HB.out.cell (World.block_lt_of_cell? w _ hx172_2)).trans hx172_2; replace hx172_3 := (HB.out.cell (World.block_lt_of_cell? w _ hx172_3)).trans hx172_3; replace hx172_4 := (HB.out.cell (World.block_lt_of_cell? w _ hx172_4)).trans hx172_4; replace hx172_5 := (HB.out.cell (World.block_lt_of_cell? w _ hx172_5)).trans hx172_5; replace hx172_6 := (HB.out.cell (World.block_lt_of_cell? w _ hx172_6)).trans hx172_6; replace p172 := eq_true p172; replace q172 := eq_true q172) | (go_at_call 19; (with_reducible refine (palingref11_Def.calls k1 ((rd_T39 l0 x4_1).f0) ((rd_T39 l0 x4_1).f1) ((rd_T39 l0 x4_1).f2) ((rd_T39 l0 x4_1).f3) ((rd_T39 l0 x4_1).f4) ((rd_T39 l0 x4_1).f5) ((rd_T39 l0 x4_1).f6) t173 _ A5.out).mono ?_); rintro e w8 ⟨rfl, hb⟩; replace HO_3 := Aside0.mk (Kd.R_below aq6 hb); replace HO171 := Aside0.mk (Kd.R_below aq57 hb); replace HB := Aside0.mk (below_step aq0 hb); (try clear hb); (try clear hb2); (try clear hk); (try clear hi))))
   (try simp only [Act.put, List.setIfInBounds_toArray, List.set_cons_zero, List.set_cons_succ])
   go_cut [5] (fun v5 wc => ∃ (kq : Nat) (x5_5 : List Int), Aside0 (palingref15_Regs.j1 kq l0 x3_1 x4_1 x5_5 = some r) ∧ Aside0 (kq ≤ k1) ∧ Aside0 (Kd.R (Kd.int .i64) 3 wc w.heap.size (fun k_ => some k_ ≠ (v5 : Value).ownBlock) u3 x3_1) ∧ Aside0 (Kd.R (Kd.int .i64) 3 wc w.heap.size (fun k_ => some k_ ≠ (u3 : Value).ownBlock) v5 x5_5) ∧ Aside0 (Below w.heap.size w wc))
   case first =>
    have H := HC6.out
    clear HC6
    by_cases c9 : t173 ≥ 0
    rotate_left
    ·rw [if_neg c9] at H
     have c9b0 : decide (0 ≤ t173) = false := decide_eq_false c9
     clear c9
     (first | rw [c9b0] | (simp only [i64_w, i32_w]; rw [c9b0]) | skip)
     have H' := Aside0.mk H
     clear H
     go_wp2
     repeat (go_quiet (fail); try go_wp2)
     go_meet
     case rel => exact ⟨_, (t169), H', ⟨aq62⟩, ⟨by (with_reducible repeat (first | apply Kd.R_alloc | apply Kd.R_drewN | apply Kd.R_drew)); exact Kd.R_mono HO_3.out (fun _ hk => hk.2)⟩, ⟨by (with_reducible repeat (first | apply Kd.R_alloc | apply Kd.R_drewN | apply Kd.R_drew)); exact Kd.R_mono HO171.out (fun _ hk => hk.2)⟩, ⟨aq0⟩⟩
    rw [if_pos c9] at H
    have c9b0 : decide (0 ≤ t173) = true := decide_eq_true c9
    clear c9
    (first | rw [c9b0] | (simp only [i64_w, i32_w]; rw [c9b0]) | skip)
    by_cases c10 : t169.length < 17592186044416
    rotate_left
    ·rw [if_neg c10] at H
     exact absurd H (by simp)
    rw [if_pos c10] at H
    have LMc10 := Aside0.mk c10
    clear c10
    obtain ⟨y174, hy_⟩ : ∃ y_ : List Int, y_ = (t169 ++ [t173]) := ⟨_, rfl⟩
    replace H : (palingref15_Regs.j1 k1 l0 x3_1 x4_1 y174) = some r := aq2
    have Ny174 := Aside0.mk hy_
    clear hy_
    have H' := Aside0.mk H
    clear H
    go_wp2_with (first | ((with_reducible refine gate_builtin (b := .append) (xs := #[.tmp 28, .tmp 30]) rfl ?_); at_builtin; refine Kd.R_append (Kd.int .i64) (w0 := w) w.heap.size rfl (.tmp 28) (.tmp 30) 36 3 (.int .i64 0) 8 rfl Tryd.underlying36 info3 rfl (by decide) (by omega) v170 t169 t173 [.int .i64 t173] (fun k_ => some k_ ≠ (u3 : Value).ownBlock) (fun _ => False) rfl rfl ?aP (fun _ hk => hk.elim) ?aF ?aO ?aB ?aS ?aL ?_; (case aP => exact rfl); (case aB => exact aq0); (case aF => exact (fun k_ hk => Kd.fresh' (Kd.R_lt aq6) k_ hk)); (case aO => exact (by (with_reducible repeat (first | apply Kd.R_alloc | apply Kd.R_drewN | apply Kd.R_drew)); exact Kd.R_mono HO171.out (fun _ hk => hk.2))); (case aS => exact (below_size aq0)); (case aL => have := LMc10.out; omega); intro v175 w11 ho hb hg hat; rw [← Ny174.out] at ho; replace HO_3 := Aside0.mk (Kd.R_after (ok := (fun _ => True)) aq6 hg hat); replace HB := Aside0.mk (hb); have HO176 := Aside0.mk (ho); clear HO171; clear ho hb hg hat) | (go_quiet (fail)))
    go_meet
    case rel => exact ⟨_, (y174), H', ⟨aq62⟩, ⟨by (with_reducible repeat (first | apply Kd.R_alloc | apply Kd.R_drewN | apply Kd.R_drew)); exact Kd.R_mono HO_3.out (fun _ hk => hk.2)⟩, ⟨by (with_reducible repeat (first | apply Kd.R_alloc | apply Kd.R_drewN | apply Kd.R_drew)); exact HO176.out⟩, ⟨aq0⟩⟩
   case rest =>
    clear HC6
    obtain ⟨kq, x5_5, HA, HJ5, HO_3, HO_5, HB⟩ := hcut
    cases kq with
    | zero => exact absurd HA.out (by simp [palingref15_Regs.j1])
    | succ kj5 =>
     have H := HA.out
     clear HA
     simp only [palingref15_Regs.j1] at H
     have H' := Aside0.mk H
     clear H
     go_wp2
     repeat (go_quiet (fail); try go_wp2)
     go_loopg [3, 7] kj5 (fun kq v3 v7 w' => ∃ (x3_3 : List Int) (x7_3 : Int), v7 = .int .i64 x7_3 ∧ Aside0 (palingref15_Regs.l1 kq l0 x3_3 x4_1 x5_5 x7_3 = some r) ∧ Aside0 (kq ≤ kj5) ∧ Aside0 (Kd.R (Kd.int .i64) 3 w' w.heap.size (fun k_ => some k_ ≠ (u5 : Value).ownBlock) v3 x3_3) ∧ Aside0 (Kd.R (Kd.int .i64) 3 w' w.heap.size (fun k_ => some k_ ≠ (v3 : Value).ownBlock) u5 x5_5) ∧ Aside0 (Below w.heap.size w w'))
     case atStart => exact ⟨(x3_1), (0), aq9, H', ⟨Nat.le_refl _⟩, ⟨aq6⟩, ⟨aq7⟩, ⟨aq0⟩⟩
     case round =>
      clear H'
      obtain ⟨x3_3, x7_3, rfl, HA, HK3, HO_3, HO_5, HB⟩ := hrel
      cases gk with
      | zero => exact absurd HA.out (by simp [palingref15_Regs.l1])
      | succ k3 =>
       have H := HA.out
       clear HA
       simp only [palingref15_Regs.l1] at H
       by_cases c12 : x7_3 < (x5_5.length : Int)
       rotate_left
       ·rw [if_neg c12] at H
        have c12b0 : decide (x7_3 < (x5_5.length : Int)) = false := decide_eq_false c12
        clear c12
        have H' := Aside0.mk H
        clear H
        obtain ⟨Ao50, co50, eo50⟩ := Kd.R_slice HO_5.out
        subst eo50
        go_wp2
        repeat (go_quiet (fail); try go_wp2)
        go_roundg k3
        case measure => have := HK1.out; have := HJ5.out; have := HK3.out; omega
        case rel => exact ⟨(x3_3), (wrap64 (x4_1 + 1)), aq9, H', ⟨by have := HK1.out; have := HJ5.out; have := HK3.out; omega⟩, ⟨by (with_reducible repeat (first | apply Kd.R_alloc | apply Kd.R_drewN | apply Kd.R_drew)); exact Kd.R_mono HO_3.out (fun _ hk => trivial)⟩, ⟨aq0⟩⟩
       rw [if_pos c12] at H
       have c12b0 : decide (x7_3 < (x5_5.length : Int)) = true := decide_eq_true c12
       clear c12
       have H' := Aside0.mk H
       clear H
       obtain ⟨Ao13, co13, eo13⟩ := Kd.R_slice HO_5.out
       subst eo13
       go_wp2
       repeat (go_quiet (fail); try go_wp2)
       go_loopg [8] k3 (fun kq v8 w' => ∃ (x8_4 : Int), v8 = .int .i64 x8_4 ∧ Aside0 (palingref15_Regs.l2 kq l0 x3_3 x4_1 x5_5 x7_3 x8_4 = some r) ∧ Aside0 (kq ≤ k3) ∧ Aside0 (Kd.R (Kd.int .i64) 3 w' w.heap.size (fun k_ => some k_ ≠ ((.slice Ao13 x5_5.length co13) : Value).ownBlock) u3 x3_3) ∧ Aside0 (Kd.R (Kd.int .i64) 3 w' w.heap.size (fun k_ => some k_ ≠ (u3 : Value).ownBlock) (.slice Ao13 x5_5.length co13) x5_5) ∧ Aside0 (Below w.heap.size w w'))
       case atStart => exact ⟨(0), aq9, H', ⟨Nat.le_refl _⟩, ⟨aq6⟩, ⟨aq7⟩, ⟨aq0⟩⟩
       case round =>
        clear H'
        obtain ⟨x8_4, rfl, HA, HK4, HO_3, HO_5, HB⟩ := hrel
        cases gk with
        | zero => exact absurd HA.out (by simp [palingref15_Regs.l2])
        | succ k4 =>
         have H := HA.out
         clear HA
         simp only [palingref15_Regs.l2] at H
         by_cases c14 : x8_4 < (x3_3.length : Int)
         rotate_left
         ·rw [if_neg c14] at H
          have c14b0 : decide (x8_4 < (x3_3.length : Int)) = false := decide_eq_false c14
          clear c14
          by_cases c35 : 0 ≤ x8_4
          rotate_left
          ·rw [if_neg c35] at H
           exact absurd H (by simp)
          rw [if_pos c35] at H
          have c35b0 := eq_true c35
          have c35b1 : decide (0 ≤ x8_4) = true := decide_eq_true c35
          clear c35
          by_cases c36 : x8_4 ≤ (x3_3.length : Int)
          rotate_left
          ·rw [if_neg c36] at H
           exact absurd H (by simp)
          rw [if_pos c36] at H
          have c36b0 := eq_true c36
          have c36b1 : decide (x8_4 ≤ (x3_3.length : Int)) = true := decide_eq_true c36
          clear c36
          obtain ⟨y199, hy_⟩ : ∃ y_ : List Int, y_ = (x3_3.take (x8_4 : Int).toNat) := ⟨_, rfl⟩
          replace H : (if ([] : List Int).length + y199.length < 17592186044416 then ((some (([] : List Int) ++ y199 : List Int)).bind fun y203 => (if 0 ≤ x7_3 then (if x7_3 < (x5_5.length : Int) then (if y203.length < 17592186044416 then ((some (y203 ++ [rd x5_5 x7_3] : List Int)).bind fun y207 => ((some (x3_3.drop (x8_4 : Int).toNat : List Int)).bind fun y210 => (if y207.length + y210.length < 17592186044416 then (palingref15_Regs.l1 k4 l0 (y207 ++ y210) x4_1 x5_5 (wrap64 (x7_3 + 1))) else (none)))) else (none)) else (none)) else (none))) else (none)) = some r := aq2
          have Ny199 := Aside0.mk hy_
          clear hy_
          by_cases c37 : ([] : List Int).length + y199.length < 17592186044416
          rotate_left
          ·rw [if_neg c37] at H
           exact absurd H (by simp)
          rw [if_pos c37] at H
          have LMc37 := Aside0.mk c37
          clear c37
          obtain ⟨y203, hy_⟩ : ∃ y_ : List Int, y_ = (([] : List Int) ++ y199) := ⟨_, rfl⟩
          replace H : (if 0 ≤ x7_3 then (if x7_3 < (x5_5.length : Int) then (if y203.length < 17592186044416 then ((some (y203 ++ [rd x5_5 x7_3] : List Int)).bind fun y207 => ((some (x3_3.drop (x8_4 : Int).toNat : List Int)).bind fun y210 => (if y207.length + y210.length < 17592186044416 then (palingref15_Regs.l1 k4 l0 (y207 ++ y210) x4_1 x5_5 (wrap64 (x7_3 + 1))) else (none)))) else (none)) else (none)) else (none)) = some r := aq2
          have Ny203 := Aside0.mk hy_
          clear hy_
          by_cases c38 : 0 ≤ x7_3
          rotate_left
          ·rw [if_neg c38] at H
           exact absurd H (by simp)
          rw [if_pos c38] at H
          have c38b0 : decide (0 ≤ x7_3) = true := decide_eq_true c38
          clear c38
          by_cases c39 : x7_3 < (x5_5.length : Int)
          rotate_left
          ·rw [if_neg c39] at H
           exact absurd H (by simp)
          rw [if_pos c39] at H
          have c39b0 : decide (x7_3 < (x5_5.length : Int)) = true := decide_eq_true c39
          clear c39
          by_cases c40 : y203.length < 17592186044416
          rotate_left
          ·rw [if_neg c40] at H
           exact absurd H (by simp)
          rw [if_pos c40] at H
          have LMc40 := Aside0.mk c40
          clear c40
          obtain ⟨y207, hy_⟩ : ∃ y_ : List Int, y_ = (y203 ++ [rd x5_5 x7_3]) := ⟨_, rfl⟩
          replace H : ((some (x3_3.drop (x8_4 : Int).toNat : List Int)).bind fun y210 => (if y207.length + y210.length < 17592186044416 then (palingref15_Regs.l1 k4 l0 (y207 ++ y210) x4_1 x5_5 (wrap64 (x7_3 + 1))) else (none))) = some r := aq2
          have Ny207 := Aside0.mk hy_
          clear hy_
          have c41b0 := eq_true (of_decide_eq_true aq1 : 0 ≤ x8_4)
          have c42b0 := eq_true (of_decide_eq_true aq1 : x8_4 ≤ (x3_3.length : Int))
          obtain ⟨y210, hy_⟩ : ∃ y_ : List Int, y_ = (x3_3.drop (x8_4 : Int).toNat) := ⟨_, rfl⟩
          replace H : (if y207.length + y210.length < 17592186044416 then (palingref15_Regs.l1 k4 l0 (y207 ++ y210) x4_1 x5_5 (wrap64 (x7_3 + 1))) else (none)) = some r := aq2
          have Ny210 := Aside0.mk hy_
          clear hy_
          by_cases c43 : y207.length + y210.length < 17592186044416
          rotate_left
          ·rw [if_neg c43] at H
           exact absurd H (by simp)
          rw [if_pos c43] at H
          have LMc43 := Aside0.mk c43
          clear c43
          obtain ⟨y214, hy_⟩ : ∃ y_ : List Int, y_ = (y207 ++ y210) := ⟨_, rfl⟩
          replace H : (palingref15_Regs.l1 k4 l0 y214 x4_1 x5_5 (wrap64 (x7_3 + 1))) = some r := aq2
          have Ny214 := Aside0.mk hy_
          clear hy_
          have H' := Aside0.mk H
          clear H
          obtain ⟨Ao44, co44, eo44⟩ := Kd.R_slice HO_3.out
          subst eo44
          have q45 : (x8_4 : Int) ≤ ((x3_3.length : Int) : Int) := of_decide_eq_true aq1
          obtain ⟨i045, hi045, _, hsz45, _⟩ := info_parts info3
          have hroom45 : x3_3.length ≤ co44 := (Kd.R_reads' HO_3.out).2.1
          have hC45 : Kd.C (Kd.int .i64) _ Ao44 x3_3.length x3_3 := (Kd.R_reads' HO_3.out).2.2
          have hcut45 := cut_to (P := Tryd.prog) 36 3 .i64 Tryd.underlying36 hi045 Ao44 x3_3.length co44 x8_4 (of_decide_eq_true aq1) q45 hroom45
          have hr45 := Kd.C_take (m := (x8_4 : Int).toNat) hC45 (by omega)
          have hy45 : y199.length = (x8_4 : Int).toNat := (by rw [Ny199.out, List.length_take]; omega)
          rw [← Ny199.out] at hr45
          rw [← hy45] at hcut45
          have HR202 := Aside0.mk hr45
          have HC202 := Aside0.mk (show y199.length ≤ co44 from by omega)
          clear hr45 hC45 hroom45 hi045 hsz45
          have KY45 := Aside0.mk hy45
          clear hy45
          have KL45 := Aside0.mk (show (x8_4 : Int).toNat ≤ x3_3.length from by omega)
          replace q45 := eq_true q45
          go_wp2_with (first | ((with_reducible refine gate_builtin (b := .append) (xs := #[.tmp 70, .tmp 73]) rfl ?_); at_builtin; refine Kd.R_append_rows (Kd.int .i64) (w0 := w) w.heap.size rfl (.tmp 70) (.tmp 73) 36 3 (.int .i64 0) 8 rfl Tryd.underlying36 info3 rfl (by decide) (by omega) (.slice none 0 0) ([] : List Int) y199 _ _ _ (fun k_ => some k_ ≠ (.slice Ao44 x3_3.length co44 : Value).ownBlock ∧ some k_ ≠ (.slice Ao13 x5_5.length co13 : Value).ownBlock) (fun _ => False) rfl rfl ?aO ?aR (fun _ _ h => h) (fun _ h => h.elim) ?aF ?aB ?aS ?aL ?_; (case aR => repeat (first | exact (by repeat (first | (with_reducible exact HR202.out) | (with_reducible refine Kd.C_alloc ?_ _) | (with_reducible refine Kd.C_drewN ?_ _) | (with_reducible refine Kd.C_drew ?_) | exact HR202.out)) | (with_reducible refine Kd.C_alloc ?_ _) | (with_reducible refine Kd.C_drewN ?_ _) | (with_reducible refine Kd.C_drew ?_))); (case aB => exact aq0); (case aF => exact (fun k_ hk => ⟨Kd.fresh' (Kd.R_lt aq6) k_ hk, Kd.fresh' (Kd.R_lt aq7) k_ hk⟩)); (case aO => exact ((Kd.R_nil _ _ _ _ (fun k_ => some k_ ≠ (.slice Ao44 x3_3.length co44 : Value).ownBlock ∧ some k_ ≠ (.slice Ao13 x5_5.length co13 : Value).ownBlock)))); (case aS => exact (below_size aq0)); (case aL => have := LMc37.out; omega); intro v204 w46 ho hb hg hat; rw [← Ny203.out] at ho; replace HO_5 := Aside0.mk (Kd.R_after (Kd.R_apart_nil aq7) hg hat); replace HB := Aside0.mk (hb); replace HR202 := Aside0.mk ((show Kd.C (Kd.int .i64) w46 Ao44 y199.length y199 from by rw [Ny199.out]; exact Kd.C_take (m := (x8_4 : Int).toNat) ((Kd.R_reads' (Kd.R_after (Kd.R_apart_nil aq6) hg hat)).2.2) KL45.out)); replace HO_3 := Aside0.mk (Kd.R_after (Kd.R_apart_nil aq6) hg hat); have HO205 := Aside0.mk (ho); clear ho hb hg hat; have p206 : 0 ≤ (x7_3 : Int) := of_decide_eq_true aq1; have q206 : x7_3 < (x5_5.length : Int) := of_decide_eq_true aq1; obtain ⟨ad206, e206, hx206_0⟩ := Kd.at_int (Kd.R_reads' HO_5.out).2.2 x7_3 p206 q206; cases e206; replace p206 := eq_true p206; replace q206 := eq_true q206) | ((with_reducible refine gate_builtin (b := .append) (xs := #[.tmp 75, .tmp 80]) rfl ?_); at_builtin; refine Kd.R_append (Kd.int .i64) (w0 := w) w.heap.size rfl (.tmp 75) (.tmp 80) 36 3 (.int .i64 0) 8 rfl Tryd.underlying36 info3 rfl (by decide) (by omega) v204 y203 (rd x5_5 x7_3) [.int .i64 (rd x5_5 x7_3)] (fun k_ => some k_ ≠ (.slice Ao44 x3_3.length co44 : Value).ownBlock ∧ some k_ ≠ (.slice (some ad206) x5_5.length co13 : Value).ownBlock) (fun _ => False) rfl rfl ?aP (fun _ hk => hk.elim) ?aF ?aO ?aB ?aS ?aL ?_; (case aP => exact rfl); (case aB => exact aq0); (case aF => exact (fun k_ hk => ⟨Kd.fresh' (Kd.R_lt aq6) k_ hk, Kd.fresh' (Kd.R_lt aq7) k_ hk⟩)); (case aO => exact (by (with_reducible repeat (first | apply Kd.R_alloc | apply Kd.R_drewN | apply Kd.R_drew)); exact HO205.out)); (case aS => exact (below_size aq0)); (case aL => have := LMc40.out; omega); intro v208 w47 ho hb hg hat; rw [← Ny207.out] at ho; replace HO_5 := Aside0.mk (Kd.R_after (ok := (fun k_ => some k_ ≠ (.slice Ao44 x3_3.length co44 : Value).ownBlock)) aq7 hg hat); replace HB := Aside0.mk (hb); replace HR202 := Aside0.mk ((show Kd.C (Kd.int .i64) w47 Ao44 y199.length y199 from by rw [Ny199.out]; exact Kd.C_take (m := (x8_4 : Int).toNat) ((Kd.R_reads' (Kd.R_after (ok := (fun k_ => some k_ ≠ (.slice (some ad206) x5_5.length co13 : Value).ownBlock)) aq6 hg hat)).2.2) KL45.out)); replace HO_3 := Aside0.mk (Kd.R_after (ok := (fun k_ => some k_ ≠ (.slice (some ad206) x5_5.length co13 : Value).ownBlock)) aq6 hg hat); have HO209 := Aside0.mk (ho); clear HO205; clear ho hb hg hat; have q48 : (x8_4 : Int) ≤ ((x3_3.length : Int) : Int) := of_decide_eq_true aq1; obtain ⟨i048, hi048, _, hsz48, _⟩ := info_parts info3; have hroom48 : x3_3.length ≤ co44 := (Kd.R_reads' HO_3.out).2.1; have hC48 : Kd.C (Kd.int .i64) _ Ao44 x3_3.length x3_3 := (Kd.R_reads' HO_3.out).2.2; have q048 : (0 : Int) ≤ (x8_4 : Int) := of_decide_eq_true aq1; have hcut48 := cut_from (P := Tryd.prog) 36 3 .i64 Tryd.underlying36 hi048 1 hsz48 Ao44 x3_3.length co44 x8_4 q048 q48; have hr48 := Kd.C_drop (m := (x8_4 : Int).toNat) (c := co44) hC48 (by omega) hroom48; obtain ⟨A48, hA48⟩ : ∃ A1, A1 = (if co44 = (x8_4 : Int).toNat then Ao44 else (Ao44 : Option Addr).map (·.add ((x8_4 : Int).toNat * 1))) := ⟨_, rfl⟩; obtain ⟨c48, hc48⟩ : ∃ c1, c1 = co44 - (x8_4 : Int).toNat := ⟨_, rfl⟩; have hy48 : y210.length = x3_3.length - (x8_4 : Int).toNat := (by rw [Ny210.out, List.length_drop] <;> omega); rw [show (x3_3).drop (x8_4 : Int).toNat = y210 from Ny210.out.symm] at hr48; replace hr48 : Kd.C (Kd.int .i64) _ A48 y210.length y210 := (by rw [hA48]; exact hr48); rw [← hy48, ← hA48, ← hc48] at hcut48; have HR213 := Aside0.mk hr48; have HC213 := Aside0.mk (show y210.length ≤ c48 from by rw [hy48, hc48]; exact Nat.sub_le_sub_right hroom48 _); clear hr48 hC48 hroom48 hi048 hsz48 hc48; have KY48 := Aside0.mk hy48; have KA48 := Aside0.mk hA48; clear hy48 hA48; have KL48 := Aside0.mk (show (x8_4 : Int).toNat ≤ x3_3.length from by omega); replace q48 := eq_true q48) | ((with_reducible refine gate_builtin (b := .append) (xs := #[.tmp 82, .tmp 85]) rfl ?_); at_builtin; refine Kd.R_append_rows (Kd.int .i64) (w0 := w) w.heap.size rfl (.tmp 82) (.tmp 85) 36 3 (.int .i64 0) 8 rfl Tryd.underlying36 info3 rfl (by decide) (by omega) v208 y207 y210 _ _ _ (fun k_ => some k_ ≠ (.slice Ao44 x3_3.length co44 : Value).ownBlock ∧ some k_ ≠ (.slice (some ad206) x5_5.length co13 : Value).ownBlock) (fun _ => False) rfl rfl ?aO ?aR (fun _ _ h => h) (fun _ h => h.elim) ?aF ?aB ?aS ?aL ?_; (case aR => repeat (first | exact (by repeat (first | (with_reducible exact HR213.out) | (with_reducible refine Kd.C_alloc ?_ _) | (with_reducible refine Kd.C_drewN ?_ _) | (with_reducible refine Kd.C_drew ?_) | exact HR213.out)) | (with_reducible refine Kd.C_alloc ?_ _) | (with_reducible refine Kd.C_drewN ?_ _) | (with_reducible refine Kd.C_drew ?_))); (case aB => exact aq0); (case aF => exact (fun k_ hk => ⟨Kd.fresh' (Kd.R_lt aq6) k_ hk, Kd.fresh' (Kd.R_lt aq7) k_ hk⟩)); (case aO => exact (by (with_reducible repeat (first | apply Kd.R_alloc | apply Kd.R_drewN | apply Kd.R_drew)); exact HO209.out)); (case aS => exact (below_size aq0)); (case aL => have := LMc43.out; omega); intro v215 w49 ho hb hg hat; rw [← Ny214.out] at ho; have n0_ := Aside0.mk (Kd.R_after (ok := (fun k_ => some k_ ≠ (.slice (some ad206) x5_5.length co13 : Value).ownBlock)) aq6 hg hat); have n1_ := Aside0.mk (Kd.R_after (ok := (fun k_ => some k_ ≠ (.slice Ao44 x3_3.length co44 : Value).ownBlock)) aq7 hg hat); have n2_ := Aside0.mk (hb); have n3_ := Aside0.mk ((show Kd.C (Kd.int .i64) w49 Ao44 y199.length y199 from by rw [Ny199.out]; exact Kd.C_take (m := (x8_4 : Int).toNat) ((Kd.R_reads' (Kd.R_after (ok := (fun k_ => some k_ ≠ (.slice (some ad206) x5_5.length co13 : Value).ownBlock)) aq6 hg hat)).2.2) KL45.out)); have n4_ := Aside0.mk ((show Kd.C (Kd.int .i64) w49 A48 y210.length y210 from by rw [Ny210.out, KA48.out]; exact Kd.C_drop (m := (x8_4 : Int).toNat) (c := co44) ((Kd.R_reads' (Kd.R_after (ok := (fun k_ => some k_ ≠ (.slice (some ad206) x5_5.length co13 : Value).ownBlock)) aq6 hg hat)).2.2) KL48.out ((Kd.R_reads' (Kd.R_after (ok := (fun k_ => some k_ ≠ (.slice (some ad206) x5_5.length co13 : Value).ownBlock)) aq6 hg hat)).2.1))); have n5_ := Aside0.mk (ho); clear HO_3; clear HO_5; clear HB; clear HR202; clear HR213; clear HO209; have HO_3 := n0_; have HO_5 := n1_; have HB := n2_; have HR202 := n3_; have HR213 := n4_; have HO216 := n5_; clear n0_ n1_ n2_ n3_ n4_ n5_; clear ho hb hg hat) | (go_quiet (fail)))
          go_roundg k4
          case measure => have := HK1.out; have := HJ5.out; have := HK3.out; have := HK4.out; omega
          case rel => exact ⟨(y214), (wrap64 (x7_3 + 1)), aq9, H', ⟨aq59⟩, ⟨by (with_reducible repeat (first | apply Kd.R_alloc | apply Kd.R_drewN | apply Kd.R_drew)); exact Kd.R_mono HO216.out (fun _ hk => hk.2)⟩, ⟨aq48⟩, ⟨aq0⟩⟩
         rw [if_pos c14] at H
         have c14b0 : decide (x8_4 < (x3_3.length : Int)) = true := decide_eq_true c14
         clear c14
         by_cases c15 : 0 ≤ x8_4
         rotate_left
         ·rw [if_neg c15] at H
          exact absurd H (by simp)
         rw [if_pos c15] at H
         have c15b0 : decide (0 ≤ x8_4) = true := decide_eq_true c15
         clear c15
         by_cases c16 : 0 ≤ x7_3
         rotate_left
         ·rw [if_neg c16] at H
          exact absurd H (by simp)
         rw [if_pos c16] at H
         have c16b0 : decide (0 ≤ x7_3) = true := decide_eq_true c16
         clear c16
         by_cases c17 : x7_3 < (x5_5.length : Int)
         rotate_left
         ·rw [if_neg c17] at H
          exact absurd H (by simp)
         rw [if_pos c17] at H
         have c17b0 : decide (x7_3 < (x5_5.length : Int)) = true := decide_eq_true c17
         clear c17
         by_cases c18 : (rd x3_3 x8_4) < (rd x5_5 x7_3)
         ·rw [if_pos c18] at H
          have c18b0 : decide ((rd x3_3 x8_4) < (rd x5_5 x7_3)) = true := decide_eq_true c18
          clear c18
          have H' := Aside0.mk H
          clear H
          obtain ⟨Ao19, co19, eo19⟩ := Kd.R_slice HO_3.out
          subst eo19
          have p177 : 0 ≤ (x8_4 : Int) := of_decide_eq_true aq1
          have q177 : x8_4 < (x3_3.length : Int) := of_decide_eq_true aq1
          obtain ⟨ad177, e177, hx177_0⟩ := Kd.at_int (Kd.R_reads' HO_3.out).2.2 x8_4 p177 q177
          cases e177
          replace p177 := eq_true p177
          replace q177 := eq_true q177
          have p178 : 0 ≤ (x7_3 : Int) := of_decide_eq_true aq1
          have q178 : x7_3 < (x5_5.length : Int) := of_decide_eq_true aq1
          obtain ⟨ad178, e178, hx178_0⟩ := Kd.at_int (Kd.R_reads' HO_5.out).2.2 x7_3 p178 q178
          cases e178
          replace p178 := eq_true p178
          replace q178 := eq_true q178
          go_wp2
          repeat (go_quiet (fail); try go_wp2)
          go_roundg k4
          case measure => have := HK1.out; have := HJ5.out; have := HK3.out; have := HK4.out; omega
          case rel => exact ⟨(wrap64 (x8_4 + 1)), aq9, H', ⟨aq59⟩, ⟨aq6⟩, ⟨aq7⟩, ⟨aq0⟩⟩
         rw [if_neg c18] at H
         have c18b0 : decide ((rd x3_3 x8_4) < (rd x5_5 x7_3)) = false := decide_eq_false c18
         clear c18
         by_cases c20 : (rd x3_3 x8_4) = (rd x5_5 x7_3)
         ·rw [if_pos c20] at H
          have c20b0 : ((rd x3_3 x8_4) == (rd x5_5 x7_3)) = true := beq_iff_eq.mpr c20
          have c20b1 : ((rd x3_3 x8_4) != (rd x5_5 x7_3)) = false := bne_eq_false_iff_eq.mpr c20
          clear c20
          have H' := Aside0.mk H
          clear H
          obtain ⟨Ao21, co21, eo21⟩ := Kd.R_slice HO_3.out
          subst eo21
          have p177 : 0 ≤ (x8_4 : Int) := of_decide_eq_true aq1
          have q177 : x8_4 < (x3_3.length : Int) := of_decide_eq_true aq1
          obtain ⟨ad177, e177, hx177_0⟩ := Kd.at_int (Kd.R_reads' HO_3.out).2.2 x8_4 p177 q177
          cases e177
          replace p177 := eq_true p177
          replace q177 := eq_true q177
          have p178 : 0 ≤ (x7_3 : Int) := of_decide_eq_true aq1
          have q178 : x7_3 < (x5_5.length : Int) := of_decide_eq_true aq1
          obtain ⟨ad178, e178, hx178_0⟩ := Kd.at_int (Kd.R_reads' HO_5.out).2.2 x7_3 p178 q178
          cases e178
          replace p178 := eq_true p178
          replace q178 := eq_true q178
          have p179 : 0 ≤ (x8_4 : Int) := of_decide_eq_true aq1
          have q179 : x8_4 < (x3_3.length : Int) := of_decide_eq_true aq1
          obtain ⟨ad179, e179, hx179_0⟩ := Kd.at_int (Kd.R_reads' HO_3.out).2.2 x8_4 p179 q179
          obtain rfl : ad177 = ad179 := (by injection e179)
          replace p179 := eq_true p179
          replace q179 := eq_true q179
          have p180 : 0 ≤ (x7_3 : Int) := of_decide_eq_true aq1
          have q180 : x7_3 < (x5_5.length : Int) := of_decide_eq_true aq1
          obtain ⟨ad180, e180, hx180_0⟩ := Kd.at_int (Kd.R_reads' HO_5.out).2.2 x7_3 p180 q180
          obtain rfl : ad178 = ad180 := (by injection e180)
          replace p180 := eq_true p180
          replace q180 := eq_true q180
          go_wp2
          repeat (go_quiet (fail); try go_wp2)
          go_roundg k4
          case measure => have := HK1.out; have := HJ5.out; have := HK3.out; have := HK4.out; omega
          case rel => exact ⟨(x3_3), (wrap64 (x7_3 + 1)), aq9, H', ⟨aq59⟩, ⟨aq6⟩, ⟨aq7⟩, ⟨aq0⟩⟩
         rw [if_neg c20] at H
         have c20b0 : ((rd x3_3 x8_4) == (rd x5_5 x7_3)) = false := beq_eq_false_iff_ne.mpr c20
         have c20b1 : ((rd x3_3 x8_4) != (rd x5_5 x7_3)) = true := bne_iff_ne.mpr c20
         have c22b0 := eq_true (of_decide_eq_true aq1 : 0 ≤ x8_4)
         by_cases c23 : x8_4 ≤ (x3_3.length : Int)
         rotate_left
         ·rw [if_neg c23] at H
          exact absurd H (by simp)
         rw [if_pos c23] at H
         have c23b0 := eq_true c23
         have c23b1 : decide (x8_4 ≤ (x3_3.length : Int)) = true := decide_eq_true c23
         clear c23
         obtain ⟨y181, hy_⟩ : ∃ y_ : List Int, y_ = (x3_3.take (x8_4 : Int).toNat) := ⟨_, rfl⟩
         replace H : (if ([] : List Int).length + y181.length < 17592186044416 then ((some (([] : List Int) ++ y181 : List Int)).bind fun y185 => (if y185.length < 17592186044416 then ((some (y185 ++ [rd x5_5 x7_3] : List Int)).bind fun y189 => ((some (x3_3.drop (x8_4 : Int).toNat : List Int)).bind fun y192 => (if y189.length + y192.length < 17592186044416 then (palingref15_Regs.l1 k4 l0 (y189 ++ y192) x4_1 x5_5 (wrap64 (x7_3 + 1))) else (none)))) else (none))) else (none)) = some r := aq2
         have Ny181 := Aside0.mk hy_
         clear hy_
         by_cases c24 : ([] : List Int).length + y181.length < 17592186044416
         rotate_left
         ·rw [if_neg c24] at H
          exact absurd H (by simp)
         rw [if_pos c24] at H
         have LMc24 := Aside0.mk c24
         clear c24
         obtain ⟨y185, hy_⟩ : ∃ y_ : List Int, y_ = (([] : List Int) ++ y181) := ⟨_, rfl⟩
         replace H : (if y185.length < 17592186044416 then ((some (y185 ++ [rd x5_5 x7_3] : List Int)).bind fun y189 => ((some (x3_3.drop (x8_4 : Int).toNat : List Int)).bind fun y192 => (if y189.length + y192.length < 17592186044416 then (palingref15_Regs.l1 k4 l0 (y189 ++ y192) x4_1 x5_5 (wrap64 (x7_3 + 1))) else (none)))) else (none)) = some r := aq2
         have Ny185 := Aside0.mk hy_
         clear hy_
         by_cases c25 : y185.length < 17592186044416
         rotate_left
         ·rw [if_neg c25] at H
          exact absurd H (by simp)
         rw [if_pos c25] at H
         have LMc25 := Aside0.mk c25
         clear c25
         obtain ⟨y189, hy_⟩ : ∃ y_ : List Int, y_ = (y185 ++ [rd x5_5 x7_3]) := ⟨_, rfl⟩
         replace H : ((some (x3_3.drop (x8_4 : Int).toNat : List Int)).bind fun y192 => (if y189.length + y192.length < 17592186044416 then (palingref15_Regs.l1 k4 l0 (y189 ++ y192) x4_1 x5_5 (wrap64 (x7_3 + 1))) else (none))) = some r := aq2
         have Ny189 := Aside0.mk hy_
         clear hy_
         have c26b0 := eq_true (of_decide_eq_true aq1 : 0 ≤ x8_4)
         have c27b0 := eq_true (of_decide_eq_true aq1 : x8_4 ≤ (x3_3.length : Int))
         obtain ⟨y192, hy_⟩ : ∃ y_ : List Int, y_ = (x3_3.drop (x8_4 : Int).toNat) := ⟨_, rfl⟩
         replace H : (if y189.length + y192.length < 17592186044416 then (palingref15_Regs.l1 k4 l0 (y189 ++ y192) x4_1 x5_5 (wrap64 (x7_3 + 1))) else (none)) = some r := aq2
         have Ny192 := Aside0.mk hy_
         clear hy_
         by_cases c28 : y189.length + y192.length < 17592186044416
         rotate_left
         ·rw [if_neg c28] at H
          exact absurd H (by simp)
         rw [if_pos c28] at H
         have LMc28 := Aside0.mk c28
         clear c28
         obtain ⟨y196, hy_⟩ : ∃ y_ : List Int, y_ = (y189 ++ y192) := ⟨_, rfl⟩
         replace H : (palingref15_Regs.l1 k4 l0 y196 x4_1 x5_5 (wrap64 (x7_3 + 1))) = some r := aq2
         have Ny196 := Aside0.mk hy_
         clear hy_
         have H' := Aside0.mk H
         clear H
         obtain ⟨Ao29, co29, eo29⟩ := Kd.R_slice HO_3.out
         subst eo29
         have p177 : 0 ≤ (x8_4 : Int) := of_decide_eq_true aq1
         have q177 : x8_4 < (x3_3.length : Int) := of_decide_eq_true aq1
         obtain ⟨ad177, e177, hx177_0⟩ := Kd.at_int (Kd.R_reads' HO_3.out).2.2 x8_4 p177 q177
         cases e177
         replace p177 := eq_true p177
         replace q177 := eq_true q177
         have p178 : 0 ≤ (x7_3 : Int) := of_decide_eq_true aq1
         have q178 : x7_3 < (x5_5.length : Int) := of_decide_eq_true aq1
         obtain ⟨ad178, e178, hx178_0⟩ := Kd.at_int (Kd.R_reads' HO_5.out).2.2 x7_3 p178 q178
         cases e178
         replace p178 := eq_true p178
         replace q178 := eq_true q178
         have p179 : 0 ≤ (x8_4 : Int) := of_decide_eq_true aq1
         have q179 : x8_4 < (x3_3.length : Int) := of_decide_eq_true aq1
         obtain ⟨ad179, e179, hx179_0⟩ := Kd.at_int (Kd.R_reads' HO_3.out).2.2 x8_4 p179 q179
         obtain rfl : ad177 = ad179 := (by injection e179)
         replace p179 := eq_true p179
         replace q179 := eq_true q179
         have p180 : 0 ≤ (x7_3 : Int) := of_decide_eq_true aq1
         have q180 : x7_3 < (x5_5.length : Int) := of_decide_eq_true aq1
         obtain ⟨ad180, e180, hx180_0⟩ := Kd.at_int (Kd.R_reads' HO_5.out).2.2 x7_3 p180 q180
         obtain rfl : ad178 = ad180 := (by injection e180)
         replace p180 := eq_true p180
         replace q180 := eq_true q180
         have q30 : (x8_4 : Int) ≤ ((x3_3.length : Int) : Int) := of_decide_eq_true aq1
         obtain ⟨i030, hi030, _, hsz30, _⟩ := info_parts info3
         have hroom30 : x3_3.length ≤ co29 := (Kd.R_reads' HO_3.out).2.1
         have hC30 : Kd.C (Kd.int .i64) _ (some ad177) x3_3.length x3_3 := (Kd.R_reads' HO_3.out).2.2
         have hcut30 := cut_to (P := Tryd.prog) 36 3 .i64 Tryd.underlying36 hi030 (some ad177) x3_3.length co29 x8_4 (of_decide_eq_true aq1) q30 hroom30
         have hr30 := Kd.C_take (m := (x8_4 : Int).toNat) hC30 (by omega)
         have hy30 : y181.length = (x8_4 : Int).toNat := (by rw [Ny181.out, List.length_take]; omega)
         rw [← Ny181.out] at hr30
         rw [← hy30] at hcut30
         have HR184 := Aside0.mk hr30
         have HC184 := Aside0.mk (show y181.length ≤ co29 from by omega)
         clear hr30 hC30 hroom30 hi030 hsz30
         have KY30 := Aside0.mk hy30
         clear hy30
         have KL30 := Aside0.mk (show (x8_4 : Int).toNat ≤ x3_3.length from by omega)
         replace q30 := eq_true q30
         go_wp2_with (first | ((with_reducible refine gate_builtin (b := .append) (xs := #[.tmp 70, .tmp 73]) rfl ?_); at_builtin; refine Kd.R_append_rows (Kd.int .i64) (w0 := w) w.heap.size rfl (.tmp 70) (.tmp 73) 36 3 (.int .i64 0) 8 rfl Tryd.underlying36 info3 rfl (by decide) (by omega) (.slice none 0 0) ([] : List Int) y181 _ _ _ (fun k_ => some k_ ≠ (.slice (some ad177) x3_3.length co29 : Value).ownBlock ∧ some k_ ≠ (.slice (some ad178) x5_5.length co13 : Value).ownBlock) (fun _ => False) rfl rfl ?aO ?aR (fun _ _ h => h) (fun _ h => h.elim) ?aF ?aB ?aS ?aL ?_; (case aR => repeat (first | exact (by repeat (first | (with_reducible exact HR184.out) | (with_reducible refine Kd.C_alloc ?_ _) | (with_reducible refine Kd.C_drewN ?_ _) | (with_reducible refine Kd.C_drew ?_) | exact HR184.out)) | (with_reducible refine Kd.C_alloc ?_ _) | (with_reducible refine Kd.C_drewN ?_ _) | (with_reducible refine Kd.C_drew ?_))); (case aB => exact aq0); (case aF => exact (fun k_ hk => ⟨Kd.fresh' (Kd.R_lt aq6) k_ hk, Kd.fresh' (Kd.R_lt aq7) k_ hk⟩)); (case aO => exact ((Kd.R_nil _ _ _ _ (fun k_ => some k_ ≠ (.slice (some ad177) x3_3.length co29 : Value).ownBlock ∧ some k_ ≠ (.slice (some ad178) x5_5.length co13 : Value).ownBlock)))); (case aS => exact (below_size aq0)); (case aL => have := LMc24.out; omega); intro v186 w31 ho hb hg hat; rw [← Ny185.out] at ho; replace HO_5 := Aside0.mk (Kd.R_after (Kd.R_apart_nil aq7) hg hat); replace HB := Aside0.mk (hb); replace HR184 := Aside0.mk ((show Kd.C (Kd.int .i64) w31 (some ad177) y181.length y181 from by rw [Ny181.out]; exact Kd.C_take (m := (x8_4 : Int).toNat) ((Kd.R_reads' (Kd.R_after (Kd.R_apart_nil aq6) hg hat)).2.2) KL30.out)); replace HO_3 := Aside0.mk (Kd.R_after (Kd.R_apart_nil aq6) hg hat); have HO187 := Aside0.mk (ho); clear ho hb hg hat; have p188 : 0 ≤ (x7_3 : Int) := of_decide_eq_true aq1; have q188 : x7_3 < (x5_5.length : Int) := of_decide_eq_true aq1; obtain ⟨ad188, e188, hx188_0⟩ := Kd.at_int (Kd.R_reads' HO_5.out).2.2 x7_3 p188 q188; obtain rfl : ad178 = ad188 := (by injection e188); replace p188 := eq_true p188; replace q188 := eq_true q188) | ((with_reducible refine gate_builtin (b := .append) (xs := #[.tmp 75, .tmp 80]) rfl ?_); at_builtin; refine Kd.R_append (Kd.int .i64) (w0 := w) w.heap.size rfl (.tmp 75) (.tmp 80) 36 3 (.int .i64 0) 8 rfl Tryd.underlying36 info3 rfl (by decide) (by omega) v186 y185 (rd x5_5 x7_3) [.int .i64 (rd x5_5 x7_3)] (fun k_ => some k_ ≠ (.slice (some ad177) x3_3.length co29 : Value).ownBlock ∧ some k_ ≠ (.slice (some ad178) x5_5.length co13 : Value).ownBlock) (fun _ => False) rfl rfl ?aP (fun _ hk => hk.elim) ?aF ?aO ?aB ?aS ?aL ?_; (case aP => exact rfl); (case aB => exact aq0); (case aF => exact (fun k_ hk => ⟨Kd.fresh' (Kd.R_lt aq6) k_ hk, Kd.fresh' (Kd.R_lt aq7) k_ hk⟩)); (case aO => exact (by (with_reducible repeat (first | apply Kd.R_alloc | apply Kd.R_drewN | apply Kd.R_drew)); exact HO187.out)); (case aS => exact (below_size aq0)); (case aL => have := LMc25.out; omega); intro v190 w32 ho hb hg hat; rw [← Ny189.out] at ho; replace HO_5 := Aside0.mk (Kd.R_after (ok := (fun k_ => some k_ ≠ (.slice (some ad177) x3_3.length co29 : Value).ownBlock)) aq7 hg hat); replace HB := Aside0.mk (hb); replace HR184 := Aside0.mk ((show Kd.C (Kd.int .i64) w32 (some ad177) y181.length y181 from by rw [Ny181.out]; exact Kd.C_take (m := (x8_4 : Int).toNat) ((Kd.R_reads' (Kd.R_after (ok := (fun k_ => some k_ ≠ (.slice (some ad178) x5_5.length co13 : Value).ownBlock)) aq6 hg hat)).2.2) KL30.out)); replace HO_3 := Aside0.mk (Kd.R_after (ok := (fun k_ => some k_ ≠ (.slice (some ad178) x5_5.length co13 : Value).ownBlock)) aq6 hg hat); have HO191 := Aside0.mk (ho); clear HO187; clear ho hb hg hat; have q33 : (x8_4 : Int) ≤ ((x3_3.length : Int) : Int) := of_decide_eq_true aq1; obtain ⟨i033, hi033, _, hsz33, _⟩ := info_parts info3; have hroom33 : x3_3.length ≤ co29 := (Kd.R_reads' HO_3.out).2.1; have hC33 : Kd.C (Kd.int .i64) _ (some ad177) x3_3.length x3_3 := (Kd.R_reads' HO_3.out).2.2; have q033 : (0 : Int) ≤ (x8_4 : Int) := of_decide_eq_true aq1; have hcut33 := cut_from (P := Tryd.prog) 36 3 .i64 Tryd.underlying36 hi033 1 hsz33 (some ad177) x3_3.length co29 x8_4 q033 q33; have hr33 := Kd.C_drop (m := (x8_4 : Int).toNat) (c := co29) hC33 (by omega) hroom33; obtain ⟨A33, hA33⟩ : ∃ A1, A1 = (if co29 = (x8_4 : Int).toNat then (some ad177) else ((some ad177) : Option Addr).map (·.add ((x8_4 : Int).toNat * 1))) := ⟨_, rfl⟩; obtain ⟨c33, hc33⟩ : ∃ c1, c1 = co29 - (x8_4 : Int).toNat := ⟨_, rfl⟩; have hy33 : y192.length = x3_3.length - (x8_4 : Int).toNat := (by rw [Ny192.out, List.length_drop] <;> omega); rw [show (x3_3).drop (x8_4 : Int).toNat = y192 from Ny192.out.symm] at hr33; replace hr33 : Kd.C (Kd.int .i64) _ A33 y192.length y192 := (by rw [hA33]; exact hr33); rw [← hy33, ← hA33, ← hc33] at hcut33; have HR195 := Aside0.mk hr33; have HC195 := Aside0.mk (show y192.length ≤ c33 from by rw [hy33, hc33]; exact Nat.sub_le_sub_right hroom33 _); clear hr33 hC33 hroom33 hi033 hsz33 hc33; have KY33 := Aside0.mk hy33; have KA33 := Aside0.mk hA33; clear hy33 hA33; have KL33 := Aside0.mk (show (x8_4 : Int).toNat ≤ x3_3.length from by omega); replace q33 := eq_true q33) | ((with_reducible refine gate_builtin (b := .append) (xs := #[.tmp 82, .tmp 85]) rfl ?_); at_builtin; refine Kd.R_append_rows (Kd.int .i64) (w0 := w) w.heap.size rfl (.tmp 82) (.tmp 85) 36 3 (.int .i64 0) 8 rfl Tryd.underlying36 info3 rfl (by decide) (by omega) v190 y189 y192 _ _ _ (fun k_ => some k_ ≠ (.slice (some ad177) x3_3.length co29 : Value).ownBlock ∧ some k_ ≠ (.slice (some ad178) x5_5.length co13 : Value).ownBlock) (fun _ => False) rfl rfl ?aO ?aR (fun _ _ h => h) (fun _ h => h.elim) ?aF ?aB ?aS ?aL ?_; (case aR => repeat (first | exact (by repeat (first | (with_reducible exact HR195.out) | (with_reducible refine Kd.C_alloc ?_ _) | (with_reducible refine Kd.C_drewN ?_ _) | (with_reducible refine Kd.C_drew ?_) | exact HR195.out)) | (with_reducible refine Kd.C_alloc ?_ _) | (with_reducible refine Kd.C_drewN ?_ _) | (with_reducible refine Kd.C_drew ?_))); (case aB => exact aq0); (case aF => exact (fun k_ hk => ⟨Kd.fresh' (Kd.R_lt aq6) k_ hk, Kd.fresh' (Kd.R_lt aq7) k_ hk⟩)); (case aO => exact (by (with_reducible repeat (first | apply Kd.R_alloc | apply Kd.R_drewN | apply Kd.R_drew)); exact HO191.out)); (case aS => exact (below_size aq0)); (case aL => have := LMc28.out; omega); intro v197 w34 ho hb hg hat; rw [← Ny196.out] at ho; have n0_ := Aside0.mk (Kd.R_after (ok := (fun k_ => some k_ ≠ (.slice (some ad178) x5_5.length co13 : Value).ownBlock)) aq6 hg hat); have n1_ := Aside0.mk (Kd.R_after (ok := (fun k_ => some k_ ≠ (.slice (some ad177) x3_3.length co29 : Value).ownBlock)) aq7 hg hat); have n2_ := Aside0.mk (hb); have n3_ := Aside0.mk ((show Kd.C (Kd.int .i64) w34 (some ad177) y181.length y181 from by rw [Ny181.out]; exact Kd.C_take (m := (x8_4 : Int).toNat) ((Kd.R_reads' (Kd.R_after (ok := (fun k_ => some k_ ≠ (.slice (some ad178) x5_5.length co13 : Value).ownBlock)) aq6 hg hat)).2.2) KL30.out)); have n4_ := Aside0.mk ((show Kd.C (Kd.int .i64) w34 A33 y192.length y192 from by rw [Ny192.out, KA33.out]; exact Kd.C_drop (m := (x8_4 : Int).toNat) (c := co29) ((Kd.R_reads' (Kd.R_after (ok := (fun k_ => some k_ ≠ (.slice (some ad178) x5_5.length co13 : Value).ownBlock)) aq6 hg hat)).2.2) KL33.out ((Kd.R_reads' (Kd.R_after (ok := (fun k_ => some k_ ≠ (.slice (some ad178) x5_5.length co13 : Value).ownBlock)) aq6 hg hat)).2.1))); have n5_ := Aside0.mk (ho); clear HO_3; clear HO_5; clear HB; clear HR184; clear HR195; clear HO191; have HO_3 := n0_; have HO_5 := n1_; have HB := n2_; have HR184 := n3_; have HR195 := n4_; have HO198 := n5_; clear n0_ n1_ n2_ n3_ n4_ n5_; clear ho hb hg hat) | (go_quiet (fail)))
         go_roundg k4
         case measure => have := HK1.out; have := HJ5.out; have := HK3.out; have := HK4.out; omega
         case rel => exact ⟨(y196), (wrap64 (x7_3 + 1)), aq9, H', ⟨aq59⟩, ⟨by (with_reducible repeat (first | apply Kd.R_alloc | apply Kd.R_drewN | apply Kd.R_drew)); exact Kd.R_mono HO198.out (fun _ hk => hk.2)⟩, ⟨aq48⟩, ⟨aq0⟩⟩
end Go.Proofs.YtianfjhhhhmjlaaDoor.PLiveTells
