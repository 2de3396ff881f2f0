-- Written by print2.py over the kit's printer. Not trusted: Lean checks it.
import Derived.Test.YtpbhfpbfmpocdaaDoorPSpillNonehqq
import Derived.Test.YtpbhfpbfmpocdaaDoorPSpillNonex0
import Derived.Test.YtpbhfpbfmpocdaaDoorPSpillNonex6
import Derived.Test.YtpbhfpbfmpocdaaDoorPSpillNonex7
import Derived.Test.YtpbhfpbfmpocdaaDoorPSpillNonex8
namespace Go.Proofs.YtpbhfpbfmpocdaaDoor.PSpillNone
open Go.RowKit Go.Proofs.YtpbhfpbfmpocdaaDoorW.PrintWords Go.Proofs.YtpbhfpbfmpocdaaDoorW.PrintLast Go.Proofs.YtpbhfpbfmpocdaaDoorW.PrintMore
attribute [local go_sem] max2_int min2_int max_two min_two max_three min_three max_four min_four   -- for this text's walks alone
set_option linter.unusedVariables false
set_option linter.unusedSimpArgs false

/-! ### palingref15_Needed: function 47 -/
mutual
def palingref15_Needed.l0 : Nat → List (S48) → Int → List Bool → List Int → Int → Option (Bool)
  | 0, _, _, _, _, _ => none
  | k + 1, x0, x1, x7, x8, x9 => if x9 < (x8.length : Int) then (if 0 ≤ x9 then (if 0 ≤ (rd x8 x9) then (if (rd x8 x9) < (x0.length : Int) then ((palingref11_Uses.f k ((rd_T48 x0 (rd x8 x9)).f0) ((rd_T48 x0 (rd x8 x9)).f1) ((rd_T48 x0 (rd x8 x9)).f2) ((rd_T48 x0 (rd x8 x9)).f3) ((rd_T48 x0 (rd x8 x9)).f4) ((rd_T48 x0 (rd x8 x9)).f5) ((rd_T48 x0 (rd x8 x9)).f6)).bind fun t332 => ((palingref15_has.f k t332 x1).bind fun t335 => (if t335 = true then (some true) else ((palingref11_Def.f k ((rd_T48 x0 (rd x8 x9)).f0) ((rd_T48 x0 (rd x8 x9)).f1) ((rd_T48 x0 (rd x8 x9)).f2) ((rd_T48 x0 (rd x8 x9)).f3) ((rd_T48 x0 (rd x8 x9)).f4) ((rd_T48 x0 (rd x8 x9)).f5) ((rd_T48 x0 (rd x8 x9)).f6)).bind fun t336 => (if t336 = x1 then (palingref15_Needed.l0 k x0 x1 x7 x8 (wrap64 (x9 + 1))) else ((palingref14_Next.f k x0 (rd x8 x9)).bind fun t338 => (palingref15_Needed.l1 k x0 x1 x7 x8 x9 t338 0))))))) else (none)) else (none)) else (none)) else (some false)
def palingref15_Needed.l1 : Nat → List (S48) → Int → List Bool → List Int → Int → List Int → Int → Option (Bool)
  | 0, _, _, _, _, _, _, _ => none
  | k + 1, x0, x1, x7, x8, x9, x11, x12 => if x12 < (x11.length : Int) then (if 0 ≤ x12 then (if 0 ≤ (rd x11 x12) then (if (rd x11 x12) < (x7.length : Int) then (if (rdOf false x7 (rd x11 x12) = true) then (palingref15_Needed.l1 k x0 x1 x7 x8 x9 x11 (wrap64 (x12 + 1))) else (if x8.length < 17592186044416 then (palingref15_Needed.l1 k x0 x1 (x7.set ((rd x11 x12) : Int).toNat true) (x8 ++ [rd x11 x12]) x9 x11 (wrap64 (x12 + 1))) else (none))) else (none)) else (none)) else (none)) else (palingref15_Needed.l0 k x0 x1 x7 x8 (wrap64 (x9 + 1)))
end
def palingref15_Needed.f (k : Nat) (l0 : List (S48)) (a1 : Int) (a2 : Int) : Option (Bool) := if 0 ≤ (l0.length : Int) then (if ((l0.length : Int) : Int).toNat ≤ 281474976710656 then ((some (List.replicate ((l0.length : Int) : Int).toNat false : List Bool)).bind fun y322 => (if 0 ≤ a2 then (if a2 < (y322.length : Int) then (palingref15_Needed.l0 k l0 a1 (y322.set (a2 : Int).toNat true) (([a2] : List Int)) 0) else (none)) else (none))) else (none)) else (none)
theorem palingref15_Needed.mono_l : ∀ k, (∀ y0 y1 y2 y3 y4, LeO (palingref15_Needed.l0 k y0 y1 y2 y3 y4) (palingref15_Needed.l0 (k + 1) y0 y1 y2 y3 y4)) ∧ (∀ y0 y1 y2 y3 y4 y5 y6, LeO (palingref15_Needed.l1 k y0 y1 y2 y3 y4 y5 y6) (palingref15_Needed.l1 (k + 1) y0 y1 y2 y3 y4 y5 y6))
  | 0 => ⟨fun _ _ _ _ _ r h => by simp [palingref15_Needed.l0] at h, fun _ _ _ _ _ _ _ r h => by simp [palingref15_Needed.l1] at h⟩
  | k + 1 => by
    obtain ⟨ih0, ih1⟩ := palingref15_Needed.mono_l k
    refine ⟨?_, ?_⟩ <;> intros <;> (first | unfold palingref15_Needed.l0 | unfold palingref15_Needed.l1) <;> repeat' (first | (with_reducible first | exact ih0 _ _ _ _ _ | exact ih1 _ _ _ _ _ _ _ | exact palingref11_Def.mono _ _ _ _ _ _ _ _ | exact palingref11_Uses.mono _ _ _ _ _ _ _ _ | exact palingref14_Next.mono _ _ _ | exact palingref15_has.mono _ _ _ | exact LeO.refl _ | exact LeO.none _ | refine LeO.ite ?_ ?_ | refine LeO.bind ?_ (fun _ => ?_)) | exact ih0 _ _ _ _ _ | exact ih1 _ _ _ _ _ _ _ | exact palingref11_Def.mono _ _ _ _ _ _ _ _ | exact palingref11_Uses.mono _ _ _ _ _ _ _ _ | exact palingref14_Next.mono _ _ _ | exact palingref15_has.mono _ _ _ | exact LeO.none _ | refine LeO.ite ?_ ?_ | refine LeO.bind ?_ (fun _ => ?_))
theorem palingref15_Needed.mono : ∀ a0 a1 a2 k, LeO (palingref15_Needed.f k a0 a1 a2) (palingref15_Needed.f (k + 1) a0 a1 a2) := by
 intro a0 a1 a2 k
 obtain ⟨ih0, ih1⟩ := palingref15_Needed.mono_l k
 unfold palingref15_Needed.f
 repeat' (first | (with_reducible first | exact ih0 _ _ _ _ _ | exact ih1 _ _ _ _ _ _ _ | exact palingref11_Def.mono _ _ _ _ _ _ _ _ | exact palingref11_Uses.mono _ _ _ _ _ _ _ _ | exact palingref14_Next.mono _ _ _ | exact palingref15_has.mono _ _ _ | exact LeO.refl _ | exact LeO.none _ | refine LeO.ite ?_ ?_ | refine LeO.bind ?_ (fun _ => ?_)) | exact ih0 _ _ _ _ _ | exact ih1 _ _ _ _ _ _ _ | exact palingref11_Def.mono _ _ _ _ _ _ _ _ | exact palingref11_Uses.mono _ _ _ _ _ _ _ _ | exact palingref14_Next.mono _ _ _ | exact palingref15_has.mono _ _ _ | exact LeO.none _ | refine LeO.ite ?_ ?_ | refine LeO.bind ?_ (fun _ => ?_))
set_option maxHeartbeats 8000000 in
set_option maxRecDepth 100000 in
theorem palingref15_Needed.calls (k : Nat) (A0 : Option Addr) (c0 : Nat) (l0 : List (S48)) (a1 : Int) (a2 : Int) (r : Bool) (w : World) (hr0 : Kd.C k48 w A0 l0.length l0) (hc0 : l0.length ≤ c0) (h : palingref15_Needed.f k l0 a1 a2 = some r) :
    Calls Tryd.prog 47 #[.slice A0 l0.length c0, .int .i64 a1, .int .i64 a2] w fun e w' => e = .returned (.bool r) ∧ Below w.heap.size w w' := by
 have hu48 := Tryd.underlying48
 have HR0 := Aside0.mk hr0
 have HC0 := Aside0.mk hc0
 clear hr0 hc0
 have HB := Aside0.mk (Below.refl w.heap.size w)
 have H : (if 0 ≤ (l0.length : Int) then (if ((l0.length : Int) : Int).toNat ≤ 281474976710656 then ((some (List.replicate ((l0.length : Int) : Int).toNat false : List Bool)).bind fun y322 => (if 0 ≤ a2 then (if a2 < (y322.length : Int) then (palingref15_Needed.l0 k l0 a1 (y322.set (a2 : Int).toNat true) (([a2] : List Int)) 0) else (none)) else (none))) else (none)) else (none)) = some r := h
 clear h
 by_cases c4 : 0 ≤ (l0.length : Int)
 rotate_left
 ·rw [if_neg c4] at H
  exact absurd H (by simp)
 rw [if_pos c4] at H
 have c4b0 := eq_true c4
 have c4b1 : decide (0 ≤ (l0.length : Int)) = true := decide_eq_true c4
 clear c4
 by_cases c5 : ((l0.length : Int) : Int).toNat ≤ 281474976710656
 rotate_left
 ·rw [if_neg c5] at H
  exact absurd H (by simp)
 rw [if_pos c5] at H
 have c5b0 := eq_true c5
 have c5b1 : decide (((l0.length : Int) : Int).toNat ≤ 281474976710656) = true := decide_eq_true c5
 clear c5
 obtain ⟨y322, hy_⟩ : ∃ y_ : List Bool, y_ = (List.replicate ((l0.length : Int) : Int).toNat false) := ⟨_, rfl⟩
 replace H : (if 0 ≤ a2 then (if a2 < (y322.length : Int) then (palingref15_Needed.l0 k l0 a1 (y322.set (a2 : Int).toNat true) (([a2] : List Int)) 0) else (none)) else (none)) = some r := aq3
 have Ny322 := Aside0.mk hy_
 clear hy_
 obtain ⟨y325, hy_⟩ : ∃ y_ : List Int, y_ = (([a2] : List Int)) := ⟨_, rfl⟩
 replace H : (if 0 ≤ a2 then (if a2 < (y322.length : Int) then (palingref15_Needed.l0 k l0 a1 (y322.set (a2 : Int).toNat true) y325 0) else (none)) else (none)) = some r := aq3
 have Ny325 := Aside0.mk hy_
 clear hy_
 by_cases c6 : 0 ≤ a2
 rotate_left
 ·rw [if_neg c6] at H
  exact absurd H (by simp)
 rw [if_pos c6] at H
 have c6b0 : decide (0 ≤ a2) = true := decide_eq_true c6
 clear c6
 by_cases c7 : a2 < (y322.length : Int)
 rotate_left
 ·rw [if_neg c7] at H
  exact absurd H (by simp)
 rw [if_pos c7] at H
 have c7b0 : decide (a2 < (y322.length : Int)) = true := decide_eq_true c7
 clear c7
 obtain ⟨y328, hy_⟩ : ∃ y_ : List Bool, y_ = (y322.set (a2 : Int).toNat true) := ⟨_, rfl⟩
 replace H : (palingref15_Needed.l0 k l0 a1 y328 y325 0) = some r := aq3
 have Ny328 := Aside0.mk hy_
 clear hy_
 have H' := Aside0.mk H
 clear H
 go_enter Tryd.func47, Tryd.ntmps47
 go_wp2_with (first | ((with_reducible refine gate_dst (N := 15) rfl ?_); refine Kd.R_make Kd.bool _ 4 rfl (N := 15) rfl 87 _ _ rfl (l0.length : Int) rfl rfl Tryd.underlying87 (.bool false) 1 info4 rfl (by decide) (by omega) false (ok := fun _ => True) (okp := fun _ => True) rfl (fun _ hk => hk) trivial (of_decide_eq_true aq2) (Nat.le_trans (Nat.mul_le_mul_right _ (of_decide_eq_true aq2 : (l0.length : Int).toNat ≤ 281474976710656)) (by omega)) (Below.refl _ _) (Nat.le_refl _) ?_; intro v323 w9 ho10 hb hg_ hnew_; clear hg_ hnew_; (first | rw [← Ny322.out] at ho10 | (simp only [Int.reduceToNat] at ho10; rw [← Ny322.out] at ho10)); have HO324 := Aside0.mk (Kd.R_lower ho10 (below_size aq0)); replace HB := Aside0.mk (below_step aq0 hb); clear hb ho10) | ((with_reducible refine gate_dst (N := 17) rfl ?_); refine Kd.R_lit (Kd.int .i64) _ 3 ?hg (N := 17) ?hd (xs := ([a2] : List Int)) (inner := [.int .i64 a2]) (ok := fun _ => True) (okp := fun _ => True) ?hr ?hp (fun _ hk => hk) trivial (Below.refl _ _) (Nat.le_refl _) (by simp) ?_; (case hd => rfl); (case hg => rfl); (case hr => first | (go_simp; done) | (go_simp; rfl)); (case hp => exact (Reps.one (show Kd.M (Kd.int .i64) _ _ _ a2 [.int .i64 a2] from rfl) (Reps.none _ _))); intro v326 w11 ho12 hb hg_ hnew_; clear hg_ hnew_; (first | rw [← Ny325.out] at ho12 | (simp only [Int.reduceToNat] at ho12; rw [← Ny325.out] at ho12)); replace HO324 := Aside0.mk (Kd.R_below (by (with_reducible repeat (first | apply Kd.R_alloc | apply Kd.R_drewN | apply Kd.R_drew)); exact HO324.out) hb); have HO327 := Aside0.mk (Kd.R_lower ho12 (below_size aq0)); replace HB := Aside0.mk (below_step aq0 hb); clear hb ho12; have p8 : 0 ≤ (a2 : Int) := of_decide_eq_true aq2; have q8 : (a2 : Int) < ((y322.length : Int) : Int) := of_decide_eq_true aq2; obtain ⟨go8, co8, eo8, gb0, gl8, cl8, HG8⟩ := Kd.R_form HO324.out (by omega); (first | cases eo8 | (injection eo8 with ea_ en_ ec_; (first | subst ea_ | (injection ea_ with ea_; subst ea_)); subst ec_; clear en_)); have GB8 := Aside0.mk gb0; have GG8 := Aside0.mk HG8; clear gb0 gl8 HG8; obtain ⟨hx8_0, hf8_0⟩ := Kd.R_celln false HO324.out (a2 : Int) p8 q8; replace p8 := eq_true p8; replace q8 := eq_true q8; obtain ⟨hy13_, hz13_⟩ := Kd.R_celln false HO324.out (a2 : Int) (of_decide_eq_true aq2) (of_decide_eq_true aq2); have HP13 := Kd.R_putg HO324.out (a2 : Int) true) | ((with_reducible refine gate_store (t := 4) (p := 20) rfl ?_); refine store_event (t := 4) (p := 20) (v := ?vo_w14) (w1 := (w11.setCell ⟨go8, (a2 : Int).toNat, none⟩ (.bool true))) ?hg ?ho ?hn ?hr ?_; (case ho => rfl); (case hg => rfl); (case hn => rfl); (case hr => first | (go_simp; done) | (go_simp; rfl)); intro w14 hw; have hg : w11.grownBy w14 (some go8) := (by rw [hw]; exact HP13.2); have hp_ : Kd.R Kd.bool 4 w14 w.heap.size (fun _ => True) (.slice (some ⟨go8, 0, none⟩) y322.length co8) y328 := (by rw [hw, Ny328.out]; exact HP13.1); clear HP13; replace HO327 := Aside0.mk (Kd.R_over' (v := (.slice (some ⟨go8, 0, none⟩) y322.length co8)) (by (with_reducible repeat (first | apply Kd.R_alloc | apply Kd.R_drewN | apply Kd.R_drew)); exact HO327.out) (Kd.R_typed HO324.out) (by decide) hg); replace HO324 := Aside0.mk (hp_); replace HB := Aside0.mk ((by rw [hw]; exact below_set (HB.out) GB8.out : Below w.heap.size w w14)); clear hg hw hp_))
 go_loopg [8, 9] k (fun kq v8 v9 w' => ∃ (x7_1 : List Bool) (x8_1 : List Int) (x9_1 : Int), v9 = .int .i64 x9_1 ∧ Aside0 (palingref15_Needed.l0 kq l0 a1 x7_1 x8_1 x9_1 = some r) ∧ Aside0 (kq ≤ k) ∧ Aside0 (Kd.R Kd.bool 4 w' w.heap.size (fun _ => True) (.slice (some ⟨go8, 0, none⟩) y322.length co8) x7_1) ∧ Aside0 (Kd.R (Kd.int .i64) 3 w' w.heap.size (fun _ => True) v8 x8_1) ∧ Aside0 (Below w.heap.size w w'))
 case atStart => exact ⟨(y328), (y325), (0), aq7, H', ⟨Nat.le_refl _⟩, ⟨by (with_reducible repeat (first | apply Kd.R_alloc | apply Kd.R_drewN | apply Kd.R_drew)); exact HO324.out⟩, ⟨by (with_reducible repeat (first | apply Kd.R_alloc | apply Kd.R_drewN | apply Kd.R_drew)); exact HO327.out⟩, ⟨aq0⟩⟩
 case round =>
  clear H'
  try clear hf8
  obtain ⟨x7_1, x8_1, x9_1, rfl, HA, HK1, HO_7, HO_8, HB⟩ := hrel
  have hl7_1 := (Kd.R_reads' HO_7.out).1
  rw [hl7_1] at HO_7
  (try simp only [hl7_1])
  (try simp only [hl7_1] at HO_8)
  cases gk with
  | zero => exact absurd HA.out (by simp [palingref15_Needed.l0])
  | succ k1 =>
   have H := HA.out
   clear HA
   simp only [palingref15_Needed.l0] at H
   by_cases c15 : x9_1 < (x8_1.length : Int)
   rotate_left
   ·rw [if_neg c15] at H
    have c15b0 : decide (x9_1 < (x8_1.length : Int)) = false := decide_eq_false c15
    clear c15
    obtain rfl := Option.some.inj H
    obtain ⟨Ao59, co59, eo59⟩ := Kd.R_slice HO_8.out
    subst eo59
    go_wp2
    go_ret
    exact ⟨aq13, aq0⟩
   rw [if_pos c15] at H
   have c15b0 : decide (x9_1 < (x8_1.length : Int)) = true := decide_eq_true c15
   clear c15
   by_cases c16 : 0 ≤ x9_1
   rotate_left
   ·rw [if_neg c16] at H
    exact absurd H (by simp)
   rw [if_pos c16] at H
   have c16b0 : decide (0 ≤ x9_1) = true := decide_eq_true c16
   clear c16
   by_cases c17 : 0 ≤ (rd x8_1 x9_1)
   rotate_left
   ·rw [if_neg c17] at H
    exact absurd H (by simp)
   rw [if_pos c17] at H
   have c17b0 : decide (0 ≤ (rd x8_1 x9_1)) = true := decide_eq_true c17
   clear c17
   by_cases c18 : (rd x8_1 x9_1) < (l0.length : Int)
   rotate_left
   ·rw [if_neg c18] at H
    exact absurd H (by simp)
   rw [if_pos c18] at H
   have c18b0 : decide ((rd x8_1 x9_1) < (l0.length : Int)) = true := decide_eq_true c18
   clear c18
   obtain ⟨t332, A19, H⟩ := bS_ H
   obtain ⟨t335, A20, H⟩ := bS_ H
   by_cases c21 : t335 = true
   ·subst c21
    rw [if_pos rfl] at H
    obtain rfl := Option.some.inj H
    obtain ⟨Ao22, co22, eo22⟩ := Kd.R_slice HO_8.out
    subst eo22
    have p329 : 0 ≤ (x9_1 : Int) := of_decide_eq_true aq2
    have q329 : x9_1 < (x8_1.length : Int) := of_decide_eq_true aq2
    obtain ⟨ad329, e329, hx329_0⟩ := Kd.at_int (Kd.R_reads' HO_8.out).2.2 x9_1 p329 q329
    cases e329
    replace p329 := eq_true p329
    replace q329 := eq_true q329
    have p330 : 0 ≤ ((rd x8_1 x9_1) : Int) := of_decide_eq_true aq2
    have q330 : (rd x8_1 x9_1) < (l0.length : Int) := of_decide_eq_true aq2
    obtain ⟨ad330, e330, hx330_0, hx330_1, hx330_2, hx330_3, hx330_4, hx330_5, hx330_6⟩ := at_T48 HR0.out (rd x8_1 x9_1) p330 q330
    cases e330
    replace hx330_0 := (HB.out.cell (World.block_lt_of_cell? w _ hx330_0)).trans hx330_0
    replace hx330_1 := (HB.out.cell (World.block_lt_of_cell? w _ hx330_1)).trans hx330_1
    replace hx330_2 := (HB.out.cell (World.block_lt_of_cell? w _ hx330_2)).trans hx330_2
    replace hx330_3 := (HB.out.cell (World.block_lt_of_cell? w _ hx330_3)).trans hx330_3
    replace hx330_4 := (HB.out.cell (World.block_lt_of_cell? w _ hx330_4)).trans hx330_4
    replace hx330_5 := (HB.out.cell (World.block_lt_of_cell? w _ hx330_5)).trans hx330_5
    replace hx330_6 := (HB.out.cell (World.block_lt_of_cell? w _ hx330_6)).trans hx330_6
    replace p330 := eq_true p330
    replace q330 := eq_true q330
    go_wp2_with (first | ((with_reducible refine gate_dst (N := 10) rfl ?_); refine box_event ?hg (N := 10) ?hd (cs := #[.int .i64 0, .int .i64 0, .int .i64 0, .int .i64 0, .int .i64 0, .int .i64 0, .int .i64 0]) (t := 48) ?hr ?_; (case hd => rfl); (case hg => rfl); (case hr => first | (go_simp; done) | (go_simp; rfl)); intro gb1 hg w23 hbox hb; have n0_ := Aside0.mk (Kd.R_below aq18 hb); have n1_ := Aside0.mk (Kd.R_below aq27 hb); have n2_ := Aside0.mk (below_step aq0 hb); have n3_ := Aside0.mk (hbox); have n4_ := Aside0.mk ((by rw [hg]; exact (below_size aq0) : w.heap.size ≤ gb1)); have n5_ := Aside0.mk ((by rw [hg]; exact (below_size aq0) : w.heap.size ≤ gb1)); clear HO_7; clear HO_8; clear HB; have HO_7 := n0_; have HO_8 := n1_; have HB := n2_; have BK1 := n3_; have GW1 := n4_; have GE1 := n5_; clear n0_ n1_ n2_ n3_ n4_ n5_; clear hb hbox hg; obtain ⟨hcz24_0, hcz24_1, hcz24_2, hcz24_3, hcz24_4, hcz24_5, hcz24_6, hfz24_0, hfz24_1, hfz24_2, hfz24_3, hfz24_4, hfz24_5, hfz24_6⟩ := czf7 BK1.out) | ((with_reducible refine gate_callee (f := 45) rfl ?_); refine goesL_ (some 35) rfl rfl Tryd.func45 (by kernel_rfl) rfl #[.agg #[.int .i64 ((rd_T48 l0 (rd x8_1 x9_1)).f0), .int .i64 ((rd_T48 l0 (rd x8_1 x9_1)).f1), .int .i64 ((rd_T48 l0 (rd x8_1 x9_1)).f2), .int .i64 ((rd_T48 l0 (rd x8_1 x9_1)).f3), .int .i64 ((rd_T48 l0 (rd x8_1 x9_1)).f4), .int .i64 ((rd_T48 l0 (rd x8_1 x9_1)).f5), .int .i64 ((rd_T48 l0 (rd x8_1 x9_1)).f6)]] rfl aq8 ?_; (with_reducible refine (palingref11_Uses.calls k1 ((rd_T48 l0 (rd x8_1 x9_1)).f0) ((rd_T48 l0 (rd x8_1 x9_1)).f1) ((rd_T48 l0 (rd x8_1 x9_1)).f2) ((rd_T48 l0 (rd x8_1 x9_1)).f3) ((rd_T48 l0 (rd x8_1 x9_1)).f4) ((rd_T48 l0 (rd x8_1 x9_1)).f5) ((rd_T48 l0 (rd x8_1 x9_1)).f6) t332 _ A19.out).mono ?_); rintro e w25 ⟨v333, rfl, ho0, hb⟩; refine ⟨_, rfl, ?_⟩; replace HO_7 := Aside0.mk (Kd.R_below aq17 hb); have HO334 := Aside0.mk (Kd.R_lower (Kd.R_new' ho0 (Kd.R_lt aq12)) (below_size aq15)); replace HO_8 := Aside0.mk (Kd.R_elder' aq12 (Kd.R_base ho0) hb); replace BK1 := Aside0.mk (blk_below (g := gb1) (o := .cells #[.int .i64 ((rd_T48 l0 (rd x8_1 x9_1)).f0), .int .i64 ((rd_T48 l0 (rd x8_1 x9_1)).f1), .int .i64 ((rd_T48 l0 (rd x8_1 x9_1)).f2), .int .i64 ((rd_T48 l0 (rd x8_1 x9_1)).f3), .int .i64 ((rd_T48 l0 (rd x8_1 x9_1)).f4), .int .i64 ((rd_T48 l0 (rd x8_1 x9_1)).f5), .int .i64 ((rd_T48 l0 (rd x8_1 x9_1)).f6)] 48 (0, 0)) aq9 hb); replace HB := Aside0.mk (below_step aq15 hb); (try clear hb); (try clear hb2); (try clear hk); (try clear hi); (try clear ho0); obtain ⟨Ao26, co26, eo26⟩ := Kd.R_slice HO334.out; subst eo26) | ((with_reducible refine gate_callee (f := 37) rfl ?_); refine goesL_ (some 37) rfl rfl Tryd.func37 (by kernel_rfl) rfl #[.slice Ao26 t332.length co26, .int .i64 a1] rfl aq8 ?_; (with_reducible refine (palingref15_has.calls k1 _ _ t332 a1 true _ ?side1 ?side2 A20.out).mono ?_); (case side1 => repeat (first | exact (Kd.R_reads' HO334.out).2.2 | (with_reducible refine Kd.C_alloc ?_ _) | (with_reducible refine Kd.C_drewN ?_ _) | (with_reducible refine Kd.C_drew ?_))); (case side2 => exact (Kd.R_reads' HO334.out).2.1); rintro e w' ⟨rfl, ⟨nd, rfl⟩⟩; refine ⟨_, rfl, ?_⟩))
    go_ret
    exact ⟨aq13, aq15⟩
   replace c21 := Bool.eq_false_iff.mpr c21
   subst c21
   rw [if_neg nf_] at H
   obtain ⟨t336, A27, H⟩ := bS_ H
   by_cases c28 : t336 = a1
   ·rw [if_pos c28] at H
    have c28b0 : (t336 == a1) = true := beq_iff_eq.mpr c28
    have c28b1 : (t336 != a1) = false := bne_eq_false_iff_eq.mpr c28
    clear c28
    have H' := Aside0.mk H
    clear H
    obtain ⟨Ao29, co29, eo29⟩ := Kd.R_slice HO_8.out
    subst eo29
    have p329 : 0 ≤ (x9_1 : Int) := of_decide_eq_true aq2
    have q329 : x9_1 < (x8_1.length : Int) := of_decide_eq_true aq2
    obtain ⟨ad329, e329, hx329_0⟩ := Kd.at_int (Kd.R_reads' HO_8.out).2.2 x9_1 p329 q329
    cases e329
    replace p329 := eq_true p329
    replace q329 := eq_true q329
    have p330 : 0 ≤ ((rd x8_1 x9_1) : Int) := of_decide_eq_true aq2
    have q330 : (rd x8_1 x9_1) < (l0.length : Int) := of_decide_eq_true aq2
    obtain ⟨ad330, e330, hx330_0, hx330_1, hx330_2, hx330_3, hx330_4, hx330_5, hx330_6⟩ := at_T48 HR0.out (rd x8_1 x9_1) p330 q330
    cases e330
    replace hx330_0 := (HB.out.cell (World.block_lt_of_cell? w _ hx330_0)).trans hx330_0
    replace hx330_1 := (HB.out.cell (World.block_lt_of_cell? w _ hx330_1)).trans hx330_1
    replace hx330_2 := (HB.out.cell (World.block_lt_of_cell? w _ hx330_2)).trans hx330_2
    replace hx330_3 := (HB.out.cell (World.block_lt_of_cell? w _ hx330_3)).trans hx330_3
    replace hx330_4 := (HB.out.cell (World.block_lt_of_cell? w _ hx330_4)).trans hx330_4
    replace hx330_5 := (HB.out.cell (World.block_lt_of_cell? w _ hx330_5)).trans hx330_5
    replace hx330_6 := (HB.out.cell (World.block_lt_of_cell? w _ hx330_6)).trans hx330_6
    replace p330 := eq_true p330
    replace q330 := eq_true q330
    go_wp2_with (first | ((with_reducible refine gate_dst (N := 10) rfl ?_); refine box_event ?hg (N := 10) ?hd (cs := #[.int .i64 0, .int .i64 0, .int .i64 0, .int .i64 0, .int .i64 0, .int .i64 0, .int .i64 0]) (t := 48) ?hr ?_; (case hd => rfl); (case hg => rfl); (case hr => first | (go_simp; done) | (go_simp; rfl)); intro gb1 hg w30 hbox hb; have n0_ := Aside0.mk (Kd.R_below aq18 hb); have n1_ := Aside0.mk (Kd.R_below aq27 hb); have n2_ := Aside0.mk (below_step aq0 hb); have n3_ := Aside0.mk (hbox); have n4_ := Aside0.mk ((by rw [hg]; exact (below_size aq0) : w.heap.size ≤ gb1)); have n5_ := Aside0.mk ((by rw [hg]; exact (below_size aq0) : w.heap.size ≤ gb1)); clear HO_7; clear HO_8; clear HB; have HO_7 := n0_; have HO_8 := n1_; have HB := n2_; have BK1 := n3_; have GW1 := n4_; have GE1 := n5_; clear n0_ n1_ n2_ n3_ n4_ n5_; clear hb hbox hg; obtain ⟨hcz31_0, hcz31_1, hcz31_2, hcz31_3, hcz31_4, hcz31_5, hcz31_6, hfz31_0, hfz31_1, hfz31_2, hfz31_3, hfz31_4, hfz31_5, hfz31_6⟩ := czf7 BK1.out) | ((with_reducible refine gate_callee (f := 45) rfl ?_); refine goesL_ (some 35) rfl rfl Tryd.func45 (by kernel_rfl) rfl #[.agg #[.int .i64 ((rd_T48 l0 (rd x8_1 x9_1)).f0), .int .i64 ((rd_T48 l0 (rd x8_1 x9_1)).f1), .int .i64 ((rd_T48 l0 (rd x8_1 x9_1)).f2), .int .i64 ((rd_T48 l0 (rd x8_1 x9_1)).f3), .int .i64 ((rd_T48 l0 (rd x8_1 x9_1)).f4), .int .i64 ((rd_T48 l0 (rd x8_1 x9_1)).f5), .int .i64 ((rd_T48 l0 (rd x8_1 x9_1)).f6)]] rfl aq8 ?_; (with_reducible refine (palingref11_Uses.calls k1 ((rd_T48 l0 (rd x8_1 x9_1)).f0) ((rd_T48 l0 (rd x8_1 x9_1)).f1) ((rd_T48 l0 (rd x8_1 x9_1)).f2) ((rd_T48 l0 (rd x8_1 x9_1)).f3) ((rd_T48 l0 (rd x8_1 x9_1)).f4) ((rd_T48 l0 (rd x8_1 x9_1)).f5) ((rd_T48 l0 (rd x8_1 x9_1)).f6) t332 _ A19.out).mono ?_); rintro e w32 ⟨v333, rfl, ho0, hb⟩; refine ⟨_, rfl, ?_⟩; replace HO_7 := Aside0.mk (Kd.R_below aq17 hb); have HO334 := Aside0.mk (Kd.R_lower (Kd.R_new' ho0 (Kd.R_lt aq12)) (below_size aq15)); replace HO_8 := Aside0.mk (Kd.R_elder' aq12 (Kd.R_base ho0) hb); replace BK1 := Aside0.mk (blk_below (g := gb1) (o := .cells #[.int .i64 ((rd_T48 l0 (rd x8_1 x9_1)).f0), .int .i64 ((rd_T48 l0 (rd x8_1 x9_1)).f1), .int .i64 ((rd_T48 l0 (rd x8_1 x9_1)).f2), .int .i64 ((rd_T48 l0 (rd x8_1 x9_1)).f3), .int .i64 ((rd_T48 l0 (rd x8_1 x9_1)).f4), .int .i64 ((rd_T48 l0 (rd x8_1 x9_1)).f5), .int .i64 ((rd_T48 l0 (rd x8_1 x9_1)).f6)] 48 (0, 0)) aq9 hb); replace HB := Aside0.mk (below_step aq15 hb); (try clear hb); (try clear hb2); (try clear hk); (try clear hi); (try clear ho0); obtain ⟨Ao33, co33, eo33⟩ := Kd.R_slice HO334.out; subst eo33) | ((with_reducible refine gate_callee (f := 37) rfl ?_); refine goesL_ (some 37) rfl rfl Tryd.func37 (by kernel_rfl) rfl #[.slice Ao33 t332.length co33, .int .i64 a1] rfl aq8 ?_; (with_reducible refine (palingref15_has.calls k1 _ _ t332 a1 false _ ?side1 ?side2 A20.out).mono ?_); (case side1 => repeat (first | exact (Kd.R_reads' HO334.out).2.2 | (with_reducible refine Kd.C_alloc ?_ _) | (with_reducible refine Kd.C_drewN ?_ _) | (with_reducible refine Kd.C_drew ?_))); (case side2 => exact (Kd.R_reads' HO334.out).2.1); rintro e w' ⟨rfl, ⟨nd, rfl⟩⟩; refine ⟨_, rfl, ?_⟩; obtain ⟨hcz34_0, hcz34_1, hcz34_2, hcz34_3, hcz34_4, hcz34_5, hcz34_6, hfz34_0, hfz34_1, hfz34_2, hfz34_3, hfz34_4, hfz34_5, hfz34_6⟩ := czf7 BK1.out) | ((with_reducible refine gate_callee (f := 36) rfl ?_); refine goesL_ (some 39) rfl rfl Tryd.func36 (by kernel_rfl) rfl #[.agg #[.int .i64 ((rd_T48 l0 (rd x8_1 x9_1)).f0), .int .i64 ((rd_T48 l0 (rd x8_1 x9_1)).f1), .int .i64 ((rd_T48 l0 (rd x8_1 x9_1)).f2), .int .i64 ((rd_T48 l0 (rd x8_1 x9_1)).f3), .int .i64 ((rd_T48 l0 (rd x8_1 x9_1)).f4), .int .i64 ((rd_T48 l0 (rd x8_1 x9_1)).f5), .int .i64 ((rd_T48 l0 (rd x8_1 x9_1)).f6)]] rfl aq8 ?_; (with_reducible refine (palingref11_Def.calls k1 ((rd_T48 l0 (rd x8_1 x9_1)).f0) ((rd_T48 l0 (rd x8_1 x9_1)).f1) ((rd_T48 l0 (rd x8_1 x9_1)).f2) ((rd_T48 l0 (rd x8_1 x9_1)).f3) ((rd_T48 l0 (rd x8_1 x9_1)).f4) ((rd_T48 l0 (rd x8_1 x9_1)).f5) ((rd_T48 l0 (rd x8_1 x9_1)).f6) t336 _ A27.out).mono ?_); rintro e w35 ⟨rfl, hb⟩; refine ⟨_, rfl, ?_⟩; replace HO_7 := Aside0.mk (Kd.R_below aq18 hb); replace HO_8 := Aside0.mk (Kd.R_below aq27 hb); replace HO334 := Aside0.mk (Kd.R_below aq56 hb); replace BK1 := Aside0.mk (blk_below (g := gb1) (o := .cells #[.int .i64 ((rd_T48 l0 (rd x8_1 x9_1)).f0), .int .i64 ((rd_T48 l0 (rd x8_1 x9_1)).f1), .int .i64 ((rd_T48 l0 (rd x8_1 x9_1)).f2), .int .i64 ((rd_T48 l0 (rd x8_1 x9_1)).f3), .int .i64 ((rd_T48 l0 (rd x8_1 x9_1)).f4), .int .i64 ((rd_T48 l0 (rd x8_1 x9_1)).f5), .int .i64 ((rd_T48 l0 (rd x8_1 x9_1)).f6)] 48 (0, 0)) aq45 hb); replace HB := Aside0.mk (below_step aq15 hb); (try clear hb); (try clear hb2); (try clear hk); (try clear hi)))
    (try simp only [← hl7_1])
    go_roundg k1
    case measure => have := HK1.out; omega
    case rel => exact ⟨(x7_1), (x8_1), (wrap64 (x9_1 + 1)), aq7, H', ⟨aq55⟩, ⟨by (try simp only [hl7_1]); (with_reducible repeat (first | apply Kd.R_alloc | apply Kd.R_drewN | apply Kd.R_drew)); exact HO_7.out⟩, ⟨by (try simp only [hl7_1]); (with_reducible repeat (first | apply Kd.R_alloc | apply Kd.R_drewN | apply Kd.R_drew)); exact Kd.R_mono HO_8.out (fun _ hk => trivial)⟩, ⟨aq15⟩⟩
   rw [if_neg c28] at H
   have c28b0 : (t336 == a1) = false := beq_eq_false_iff_ne.mpr c28
   have c28b1 : (t336 != a1) = true := bne_iff_ne.mpr c28
   obtain ⟨t338, A36, H⟩ := bS_ H
   have H' := Aside0.mk H
   clear H
   obtain ⟨Ao37, co37, eo37⟩ := Kd.R_slice HO_8.out
   subst eo37
   have p329 : 0 ≤ (x9_1 : Int) := of_decide_eq_true aq2
   have q329 : x9_1 < (x8_1.length : Int) := of_decide_eq_true aq2
   obtain ⟨ad329, e329, hx329_0⟩ := Kd.at_int (Kd.R_reads' HO_8.out).2.2 x9_1 p329 q329
   cases e329
   replace p329 := eq_true p329
   replace q329 := eq_true q329
   have p330 : 0 ≤ ((rd x8_1 x9_1) : Int) := of_decide_eq_true aq2
   have q330 : (rd x8_1 x9_1) < (l0.length : Int) := of_decide_eq_true aq2
   obtain ⟨ad330, e330, hx330_0, hx330_1, hx330_2, hx330_3, hx330_4, hx330_5, hx330_6⟩ := at_T48 HR0.out (rd x8_1 x9_1) p330 q330
   cases e330
   replace hx330_0 := (HB.out.cell (World.block_lt_of_cell? w _ hx330_0)).trans hx330_0
   replace hx330_1 := (HB.out.cell (World.block_lt_of_cell? w _ hx330_1)).trans hx330_1
   replace hx330_2 := (HB.out.cell (World.block_lt_of_cell? w _ hx330_2)).trans hx330_2
   replace hx330_3 := (HB.out.cell (World.block_lt_of_cell? w _ hx330_3)).trans hx330_3
   replace hx330_4 := (HB.out.cell (World.block_lt_of_cell? w _ hx330_4)).trans hx330_4
   replace hx330_5 := (HB.out.cell (World.block_lt_of_cell? w _ hx330_5)).trans hx330_5
   replace hx330_6 := (HB.out.cell (World.block_lt_of_cell? w _ hx330_6)).trans hx330_6
   replace p330 := eq_true p330
   replace q330 := eq_true q330
   go_wp2_with (first | ((with_reducible refine gate_dst (N := 10) rfl ?_); refine box_event ?hg (N := 10) ?hd (cs := #[.int .i64 0, .int .i64 0, .int .i64 0, .int .i64 0, .int .i64 0, .int .i64 0, .int .i64 0]) (t := 48) ?hr ?_; (case hd => rfl); (case hg => rfl); (case hr => first | (go_simp; done) | (go_simp; rfl)); intro gb1 hg w38 hbox hb; have n0_ := Aside0.mk (Kd.R_below aq18 hb); have n1_ := Aside0.mk (Kd.R_below aq27 hb); have n2_ := Aside0.mk (below_step aq0 hb); have n3_ := Aside0.mk (hbox); have n4_ := Aside0.mk ((by rw [hg]; exact (below_size aq0) : w.heap.size ≤ gb1)); have n5_ := Aside0.mk ((by rw [hg]; exact (below_size aq0) : w.heap.size ≤ gb1)); clear HO_7; clear HO_8; clear HB; have HO_7 := n0_; have HO_8 := n1_; have HB := n2_; have BK1 := n3_; have GW1 := n4_; have GE1 := n5_; clear n0_ n1_ n2_ n3_ n4_ n5_; clear hb hbox hg; obtain ⟨hcz39_0, hcz39_1, hcz39_2, hcz39_3, hcz39_4, hcz39_5, hcz39_6, hfz39_0, hfz39_1, hfz39_2, hfz39_3, hfz39_4, hfz39_5, hfz39_6⟩ := czf7 BK1.out) | ((with_reducible refine gate_callee (f := 45) rfl ?_); refine goesL_ (some 35) rfl rfl Tryd.func45 (by kernel_rfl) rfl #[.agg #[.int .i64 ((rd_T48 l0 (rd x8_1 x9_1)).f0), .int .i64 ((rd_T48 l0 (rd x8_1 x9_1)).f1), .int .i64 ((rd_T48 l0 (rd x8_1 x9_1)).f2), .int .i64 ((rd_T48 l0 (rd x8_1 x9_1)).f3), .int .i64 ((rd_T48 l0 (rd x8_1 x9_1)).f4), .int .i64 ((rd_T48 l0 (rd x8_1 x9_1)).f5), .int .i64 ((rd_T48 l0 (rd x8_1 x9_1)).f6)]] rfl aq8 ?_; (with_reducible refine (palingref11_Uses.calls k1 ((rd_T48 l0 (rd x8_1 x9_1)).f0) ((rd_T48 l0 (rd x8_1 x9_1)).f1) ((rd_T48 l0 (rd x8_1 x9_1)).f2) ((rd_T48 l0 (rd x8_1 x9_1)).f3) ((rd_T48 l0 (rd x8_1 x9_1)).f4) ((rd_T48 l0 (rd x8_1 x9_1)).f5) ((rd_T48 l0 (rd x8_1 x9_1)).f6) t332 _ A19.out).mono ?_); rintro e w40 ⟨v333, rfl, ho0, hb⟩; refine ⟨_, rfl, ?_⟩; replace HO_7 := Aside0.mk (Kd.R_below aq17 hb); have HO334 := Aside0.mk (Kd.R_lower (Kd.R_new' ho0 (Kd.R_lt aq12)) (below_size aq15)); replace HO_8 := Aside0.mk (Kd.R_elder' aq12 (Kd.R_base ho0) hb); replace BK1 := Aside0.mk (blk_below (g := gb1) (o := .cells #[.int .i64 ((rd_T48 l0 (rd x8_1 x9_1)).f0), .int .i64 ((rd_T48 l0 (rd x8_1 x9_1)).f1), .int .i64 ((rd_T48 l0 (rd x8_1 x9_1)).f2), .int .i64 ((rd_T48 l0 (rd x8_1 x9_1)).f3), .int .i64 ((rd_T48 l0 (rd x8_1 x9_1)).f4), .int .i64 ((rd_T48 l0 (rd x8_1 x9_1)).f5), .int .i64 ((rd_T48 l0 (rd x8_1 x9_1)).f6)] 48 (0, 0)) aq9 hb); replace HB := Aside0.mk (below_step aq15 hb); (try clear hb); (try clear hb2); (try clear hk); (try clear hi); (try clear ho0); obtain ⟨Ao41, co41, eo41⟩ := Kd.R_slice HO334.out; subst eo41) | ((with_reducible refine gate_callee (f := 37) rfl ?_); refine goesL_ (some 37) rfl rfl Tryd.func37 (by kernel_rfl) rfl #[.slice Ao41 t332.length co41, .int .i64 a1] rfl aq8 ?_; (with_reducible refine (palingref15_has.calls k1 _ _ t332 a1 false _ ?side1 ?side2 A20.out).mono ?_); (case side1 => repeat (first | exact (Kd.R_reads' HO334.out).2.2 | (with_reducible refine Kd.C_alloc ?_ _) | (with_reducible refine Kd.C_drewN ?_ _) | (with_reducible refine Kd.C_drew ?_))); (case side2 => exact (Kd.R_reads' HO334.out).2.1); rintro e w' ⟨rfl, ⟨nd, rfl⟩⟩; refine ⟨_, rfl, ?_⟩; obtain ⟨hcz42_0, hcz42_1, hcz42_2, hcz42_3, hcz42_4, hcz42_5, hcz42_6, hfz42_0, hfz42_1, hfz42_2, hfz42_3, hfz42_4, hfz42_5, hfz42_6⟩ := czf7 BK1.out) | ((with_reducible refine gate_callee (f := 36) rfl ?_); refine goesL_ (some 39) rfl rfl Tryd.func36 (by kernel_rfl) rfl #[.agg #[.int .i64 ((rd_T48 l0 (rd x8_1 x9_1)).f0), .int .i64 ((rd_T48 l0 (rd x8_1 x9_1)).f1), .int .i64 ((rd_T48 l0 (rd x8_1 x9_1)).f2), .int .i64 ((rd_T48 l0 (rd x8_1 x9_1)).f3), .int .i64 ((rd_T48 l0 (rd x8_1 x9_1)).f4), .int .i64 ((rd_T48 l0 (rd x8_1 x9_1)).f5), .int .i64 ((rd_T48 l0 (rd x8_1 x9_1)).f6)]] rfl aq8 ?_; (with_reducible refine (palingref11_Def.calls k1 ((rd_T48 l0 (rd x8_1 x9_1)).f0) ((rd_T48 l0 (rd x8_1 x9_1)).f1) ((rd_T48 l0 (rd x8_1 x9_1)).f2) ((rd_T48 l0 (rd x8_1 x9_1)).f3) ((rd_T48 l0 (rd x8_1 x9_1)).f4) ((rd_T48 l0 (rd x8_1 x9_1)).f5) ((rd_T48 l0 (rd x8_1 x9_1)).f6) t336 _ A27.out).mono ?_); rintro e w43 ⟨rfl, hb⟩; refine ⟨_, rfl, ?_⟩; replace HO_7 := Aside0.mk (Kd.R_below aq18 hb); replace HO_8 := Aside0.mk (Kd.R_below aq27 hb); replace HO334 := Aside0.mk (Kd.R_below aq56 hb); replace BK1 := Aside0.mk (blk_below (g := gb1) (o := .cells #[.int .i64 ((rd_T48 l0 (rd x8_1 x9_1)).f0), .int .i64 ((rd_T48 l0 (rd x8_1 x9_1)).f1), .int .i64 ((rd_T48 l0 (rd x8_1 x9_1)).f2), .int .i64 ((rd_T48 l0 (rd x8_1 x9_1)).f3), .int .i64 ((rd_T48 l0 (rd x8_1 x9_1)).f4), .int .i64 ((rd_T48 l0 (rd x8_1 x9_1)).f5), .int .i64 ((rd_T48 l0 (rd x8_1 x9_1)).f6)] 48 (0, 0)) aq45 hb); replace HB := Aside0.mk (below_step aq15 hb); (try clear hb); (try clear hb2); (try clear hk); (try clear hi); have p337 : 0 ≤ (x9_1 : Int) := of_decide_eq_true aq2; have q337 : x9_1 < (x8_1.length : Int) := of_decide_eq_true aq2; obtain ⟨ad337, e337, hx337_0⟩ := Kd.at_int (Kd.R_reads' HO_8.out).2.2 x9_1 p337 q337; obtain rfl : ad329 = ad337 := (by injection e337); replace p337 := eq_true p337; replace q337 := eq_true q337) | ((with_reducible refine gate_callee (f := 48) rfl ?_); refine goesL_ (some 47) rfl rfl Tryd.func48 (by kernel_rfl) rfl #[.slice (some ad330) l0.length c0, .int .i64 (rd x8_1 x9_1)] rfl aq8 ?_; (with_reducible refine (palingref14_Next.calls k1 _ _ l0 (rd x8_1 x9_1) t338 _ ?side1 ?side2 A36.out).mono ?_); (case side1 => repeat (first | exact (Kd.C_below HR0.out HB.out) | (with_reducible refine Kd.C_alloc ?_ _) | (with_reducible refine Kd.C_drewN ?_ _) | (with_reducible refine Kd.C_drew ?_))); (case side2 => exact HC0.out); rintro e w44 ⟨v339, rfl, ho0, hb⟩; refine ⟨_, rfl, ?_⟩; have n0_ := Aside0.mk (Kd.R_below aq18 hb); have n1_ := Aside0.mk (Kd.R_elder' aq27 (Kd.R_base ho0) hb); have n2_ := Aside0.mk (Kd.R_elder' aq56 (Kd.R_base ho0) hb); have n3_ := Aside0.mk (Kd.R_lower (Kd.R_new' (Kd.R_new' ho0 (Kd.R_lt aq27)) (Kd.R_lt aq56)) (below_size aq15)); have n4_ := Aside0.mk (blk_below (g := gb1) (o := .cells #[.int .i64 ((rd_T48 l0 (rd x8_1 x9_1)).f0), .int .i64 ((rd_T48 l0 (rd x8_1 x9_1)).f1), .int .i64 ((rd_T48 l0 (rd x8_1 x9_1)).f2), .int .i64 ((rd_T48 l0 (rd x8_1 x9_1)).f3), .int .i64 ((rd_T48 l0 (rd x8_1 x9_1)).f4), .int .i64 ((rd_T48 l0 (rd x8_1 x9_1)).f5), .int .i64 ((rd_T48 l0 (rd x8_1 x9_1)).f6)] 48 (0, 0)) aq45 hb); have n5_ := Aside0.mk (below_step aq15 hb); clear HO_7; clear HO_8; clear HO334; clear BK1; clear HB; have HO_7 := n0_; have HO_8 := n1_; have HO334 := n2_; have HO340 := n3_; have BK1 := n4_; have HB := n5_; clear n0_ n1_ n2_ n3_ n4_ n5_; (try clear hb); (try clear hb2); (try clear hk); (try clear hi); (try clear ho0)))
   go_loopg [8, 12] k1 (fun kq v8 v12 w' => ∃ (x7_2 : List Bool) (x8_2 : List Int) (x12_2 : Int), v12 = .int .i64 x12_2 ∧ Aside0 (palingref15_Needed.l1 kq l0 a1 x7_2 x8_2 x9_1 t338 x12_2 = some r) ∧ Aside0 (kq ≤ k1) ∧ Aside0 (Kd.R Kd.bool 4 w' w.heap.size (fun _ => True) (.slice (some ⟨go8, 0, none⟩) x7_1.length co8) x7_2) ∧ Aside0 (Kd.R (Kd.int .i64) 3 w' w.heap.size (fun k_ => some k_ ≠ (v339 : Value).ownBlock) v8 x8_2) ∧ Aside0 (Kd.R (Kd.int .i64) 3 w' w.heap.size (fun k_ => some k_ ≠ (v8 : Value).ownBlock) v339 t338) ∧ Aside0 (w'.heap[gb1]? = some (.cells #[.int .i64 ((rd_T48 l0 (rd x8_1 x9_1)).f0), .int .i64 ((rd_T48 l0 (rd x8_1 x9_1)).f1), .int .i64 ((rd_T48 l0 (rd x8_1 x9_1)).f2), .int .i64 ((rd_T48 l0 (rd x8_1 x9_1)).f3), .int .i64 ((rd_T48 l0 (rd x8_1 x9_1)).f4), .int .i64 ((rd_T48 l0 (rd x8_1 x9_1)).f5), .int .i64 ((rd_T48 l0 (rd x8_1 x9_1)).f6)] 48 (0, 0))) ∧ Aside0 (Below w.heap.size w w'))
   case atStart => exact ⟨(x7_1), (x8_1), (0), aq7, H', ⟨Nat.le_refl _⟩, ⟨by (try simp only [hl7_1]); (with_reducible repeat (first | apply Kd.R_alloc | apply Kd.R_drewN | apply Kd.R_drew)); exact HO_7.out⟩, ⟨by (try simp only [hl7_1]); (with_reducible repeat (first | apply Kd.R_alloc | apply Kd.R_drewN | apply Kd.R_drew)); exact Kd.R_mono HO_8.out (fun _ hk => hk.2)⟩, ⟨by (try simp only [hl7_1]); (with_reducible repeat (first | apply Kd.R_alloc | apply Kd.R_drewN | apply Kd.R_drew)); exact Kd.R_mono HO340.out (fun _ hk => hk.1.2)⟩, ⟨by (try simp only [hl7_1]); (with_reducible repeat (first | refine blk_drewN ?_ _ | refine blk_drew ?_ | refine blk_alloc ?_ _)); exact BK1.out⟩, ⟨aq15⟩⟩
   case round =>
    clear H'
    try clear hf8
    obtain ⟨x7_2, x8_2, x12_2, rfl, HA, HK2, HO_7, HO_8, HO_11, BK1, HB⟩ := hrel
    have hl7_2 := (Kd.R_reads' HO_7.out).1
    rw [hl7_2] at HO_7
    (try simp only [hl7_2])
    (try simp only [hl7_2] at BK1)
    (try simp only [hl7_2] at HO_8)
    (try simp only [hl7_2] at HO_11)
    cases gk with
    | zero => exact absurd HA.out (by simp [palingref15_Needed.l1])
    | succ k2 =>
     have H := HA.out
     clear HA
     simp only [palingref15_Needed.l1] at H
     by_cases c45 : x12_2 < (t338.length : Int)
     rotate_left
     ·rw [if_neg c45] at H
      have c45b0 : decide (x12_2 < (t338.length : Int)) = false := decide_eq_false c45
      clear c45
      have H' := Aside0.mk H
      clear H
      obtain ⟨Ao58, co58, eo58⟩ := Kd.R_slice HO_11.out
      subst eo58
      go_wp2
      (try simp only [← hl7_1, ← hl7_2])
      go_roundg k2
      case measure => have := HK1.out; have := HK2.out; omega
      case rel => exact ⟨(x7_2), (x8_2), (wrap64 (x9_1 + 1)), aq7, H', ⟨aq42⟩, ⟨aq54⟩, ⟨by (try simp only [hl7_1]); (try simp only [hl7_2]); (with_reducible repeat (first | apply Kd.R_alloc | apply Kd.R_drewN | apply Kd.R_drew)); exact Kd.R_mono HO_8.out (fun _ hk => trivial)⟩, ⟨aq15⟩⟩
     rw [if_pos c45] at H
     have c45b0 : decide (x12_2 < (t338.length : Int)) = true := decide_eq_true c45
     clear c45
     by_cases c46 : 0 ≤ x12_2
     rotate_left
     ·rw [if_neg c46] at H
      exact absurd H (by simp)
     rw [if_pos c46] at H
     have c46b0 : decide (0 ≤ x12_2) = true := decide_eq_true c46
     clear c46
     by_cases c47 : 0 ≤ (rd t338 x12_2)
     rotate_left
     ·rw [if_neg c47] at H
      exact absurd H (by simp)
     rw [if_pos c47] at H
     have c47b0 : decide (0 ≤ (rd t338 x12_2)) = true := decide_eq_true c47
     clear c47
     by_cases c48 : (rd t338 x12_2) < (x7_2.length : Int)
     rotate_left
     ·rw [if_neg c48] at H
      exact absurd H (by simp)
     rw [if_pos c48] at H
     have c48b0 : decide ((rd t338 x12_2) < (x7_2.length : Int)) = true := decide_eq_true c48
     clear c48
     obtain ⟨bq49, hbq49⟩ : ∃ b_ : Bool, b_ = (rdOf false x7_2 (rd t338 x12_2)) := ⟨_, rfl⟩
     replace H : (if (bq49 = true) then (palingref15_Needed.l1 k2 l0 a1 x7_2 x8_2 x9_1 t338 (wrap64 (x12_2 + 1))) else (if x8_2.length < 17592186044416 then (palingref15_Needed.l1 k2 l0 a1 (x7_2.set ((rd t338 x12_2) : Int).toNat true) (x8_2 ++ [rd t338 x12_2]) x9_1 t338 (wrap64 (x12_2 + 1))) else (none))) = some r := by rw [← hbq49] at H; exact H
     have Nbq49 := Aside0.mk hbq49
     clear hbq49
     by_cases c50 : (bq49 = true)
     ·subst c50
      rw [if_pos rfl] at H
      have H' := Aside0.mk H
      clear H
      obtain ⟨Ao51, co51, eo51⟩ := Kd.R_slice HO_11.out
      subst eo51
      have p341 : 0 ≤ (x12_2 : Int) := of_decide_eq_true aq2
      have q341 : x12_2 < (t338.length : Int) := of_decide_eq_true aq2
      obtain ⟨ad341, e341, hx341_0⟩ := Kd.at_int (Kd.R_reads' HO_11.out).2.2 x12_2 p341 q341
      cases e341
      replace p341 := eq_true p341
      replace q341 := eq_true q341
      have p342 : 0 ≤ ((rd t338 x12_2) : Int) := of_decide_eq_true aq2
      have q342 : (rd t338 x12_2) < (x7_2.length : Int) := of_decide_eq_true aq2
      obtain ⟨ad342, e342, hx342_0⟩ := Kd.at_bool (Kd.R_reads' HO_7.out).2.2 (rd t338 x12_2) p342 q342
      (try rw [← Nbq49.out] at hx342_0)
      obtain rfl : (⟨go8, 0, none⟩ : Addr) = ad342 := (by injection e342)
      (first | simp only [add_plain] at hx342_0 | simp only [add_at] at hx342_0 | simp only [Addr.add, Nat.zero_add] at hx342_0 | skip)
      replace p342 := eq_true p342
      replace q342 := eq_true q342
      go_wp2
      (try simp only [← hl7_2])
      go_roundg k2
      case measure => have := HK1.out; have := HK2.out; omega
      case rel => exact ⟨(x7_2), (x8_2), (wrap64 (x12_2 + 1)), aq7, H', ⟨aq42⟩, ⟨aq54⟩, ⟨by (try simp only [hl7_1]); (try simp only [hl7_2]); (with_reducible repeat (first | apply Kd.R_alloc | apply Kd.R_drewN | apply Kd.R_drew)); exact HO_8.out⟩, ⟨by (try simp only [hl7_1]); (try simp only [hl7_2]); (with_reducible repeat (first | apply Kd.R_alloc | apply Kd.R_drewN | apply Kd.R_drew)); exact HO_11.out⟩, ⟨by (try simp only [hl7_1]); (try simp only [hl7_2]); (with_reducible repeat (first | refine blk_drewN ?_ _ | refine blk_drew ?_ | refine blk_alloc ?_ _)); exact BK1.out⟩, ⟨aq15⟩⟩
     replace c50 := Bool.eq_false_iff.mpr c50
     subst c50
     rw [if_neg nf_] at H
     obtain ⟨y344, hy_⟩ : ∃ y_ : List Bool, y_ = (x7_2.set ((rd t338 x12_2) : Int).toNat true) := ⟨_, rfl⟩
     replace H : (if x8_2.length < 17592186044416 then (palingref15_Needed.l1 k2 l0 a1 y344 (x8_2 ++ [rd t338 x12_2]) x9_1 t338 (wrap64 (x12_2 + 1))) else (none)) = some r := aq3
     have Ny344 := Aside0.mk hy_
     clear hy_
     by_cases c53 : x8_2.length < 17592186044416
     rotate_left
     ·rw [if_neg c53] at H
      exact absurd H (by simp)
     rw [if_pos c53] at H
     have LMc53 := Aside0.mk c53
     clear c53
     obtain ⟨y346, hy_⟩ : ∃ y_ : List Int, y_ = (x8_2 ++ [rd t338 x12_2]) := ⟨_, rfl⟩
     replace H : (palingref15_Needed.l1 k2 l0 a1 y344 y346 x9_1 t338 (wrap64 (x12_2 + 1))) = some r := aq3
     have Ny346 := Aside0.mk hy_
     clear hy_
     have H' := Aside0.mk H
     clear H
     obtain ⟨Ao54, co54, eo54⟩ := Kd.R_slice HO_11.out
     subst eo54
     have p341 : 0 ≤ (x12_2 : Int) := of_decide_eq_true aq2
     have q341 : x12_2 < (t338.length : Int) := of_decide_eq_true aq2
     obtain ⟨ad341, e341, hx341_0⟩ := Kd.at_int (Kd.R_reads' HO_11.out).2.2 x12_2 p341 q341
     cases e341
     replace p341 := eq_true p341
     replace q341 := eq_true q341
     have p342 : 0 ≤ ((rd t338 x12_2) : Int) := of_decide_eq_true aq2
     have q342 : (rd t338 x12_2) < (x7_2.length : Int) := of_decide_eq_true aq2
     obtain ⟨ad342, e342, hx342_0⟩ := Kd.at_bool (Kd.R_reads' HO_7.out).2.2 (rd t338 x12_2) p342 q342
     (try rw [← Nbq49.out] at hx342_0)
     obtain rfl : (⟨go8, 0, none⟩ : Addr) = ad342 := (by injection e342)
     (first | simp only [add_plain] at hx342_0 | simp only [add_at] at hx342_0 | simp only [Addr.add, Nat.zero_add] at hx342_0 | skip)
     replace p342 := eq_true p342
     replace q342 := eq_true q342
     have p343 : 0 ≤ (x12_2 : Int) := of_decide_eq_true aq2
     have q343 : x12_2 < (t338.length : Int) := of_decide_eq_true aq2
     obtain ⟨ad343, e343, hx343_0⟩ := Kd.at_int (Kd.R_reads' HO_11.out).2.2 x12_2 p343 q343
     obtain rfl : ad341 = ad343 := (by injection e343)
     replace p343 := eq_true p343
     replace q343 := eq_true q343
     have p52 : 0 ≤ ((rd t338 x12_2) : Int) := of_decide_eq_true aq2
     have q52 : ((rd t338 x12_2) : Int) < ((x7_2.length : Int) : Int) := of_decide_eq_true aq2
     obtain ⟨hx52_0, hf52_0⟩ := Kd.R_celln false HO_7.out ((rd t338 x12_2) : Int) p52 q52
     replace p52 := eq_true p52
     replace q52 := eq_true q52
     have HP55 := Kd.R_putg HO_7.out ((rd t338 x12_2) : Int) true
     go_wp2_with (first | ((with_reducible refine gate_store (t := 4) (p := 67) rfl ?_); refine store_event (t := 4) (p := 67) (v := ?vo_w56) (w1 := (wr.setCell ⟨go8, ((rd t338 x12_2) : Int).toNat, none⟩ (.bool true))) ?hg ?ho ?hn ?hr ?_; (case ho => rfl); (case hg => rfl); (case hn => rfl); (case hr => first | (go_simp; done) | (go_simp; rfl)); intro w56 hw; have hg : wr.grownBy w56 (some go8) := (by rw [hw]; exact HP55.2); have hp_ : Kd.R Kd.bool 4 w56 w.heap.size (fun _ => True) (.slice (some ⟨go8, 0, none⟩) x7_2.length co8) y344 := (by rw [hw, Ny344.out]; exact HP55.1); clear HP55; replace HO_8 := Aside0.mk (Kd.R_over' (v := (.slice (some ⟨go8, 0, none⟩) x7_2.length co8)) aq27 (Kd.R_typed HO_7.out) (by decide) hg); replace HO_11 := Aside0.mk (Kd.R_over' (v := (.slice (some ⟨go8, 0, none⟩) x7_2.length co8)) (by (with_reducible repeat (first | apply Kd.R_alloc | apply Kd.R_drewN | apply Kd.R_drew)); exact HO_11.out) (Kd.R_typed HO_7.out) (by decide) hg); replace BK1 := Aside0.mk (blk_grown (g := gb1) (o := .cells #[.int .i64 ((rd_T48 l0 (rd x8_1 x9_1)).f0), .int .i64 ((rd_T48 l0 (rd x8_1 x9_1)).f1), .int .i64 ((rd_T48 l0 (rd x8_1 x9_1)).f2), .int .i64 ((rd_T48 l0 (rd x8_1 x9_1)).f3), .int .i64 ((rd_T48 l0 (rd x8_1 x9_1)).f4), .int .i64 ((rd_T48 l0 (rd x8_1 x9_1)).f5), .int .i64 ((rd_T48 l0 (rd x8_1 x9_1)).f6)] 48 (0, 0)) aq45 hg (Kd.R_ne HO_7.out BK1.out (by decide))); replace HO_7 := Aside0.mk (hp_); replace HB := Aside0.mk ((by rw [hw]; exact below_set (HB.out) GB8.out : Below w.heap.size w w56)); clear hg hw hp_; have p345 : 0 ≤ (x12_2 : Int) := of_decide_eq_true aq2; have q345 : x12_2 < (t338.length : Int) := of_decide_eq_true aq2; obtain ⟨ad345, e345, hx345_0⟩ := Kd.at_int (Kd.R_reads' HO_11.out).2.2 x12_2 p345 q345; obtain rfl : ad341 = ad345 := (by injection e345); replace p345 := eq_true p345; replace q345 := eq_true q345) | ((with_reducible refine gate_builtin (b := .append) (xs := #[.tmp 68, .tmp 73]) rfl ?_); at_builtin; refine Kd.R_append (Kd.int .i64) (w0 := w) w.heap.size rfl (.tmp 68) (.tmp 73) 23 3 (.int .i64 0) 8 rfl Tryd.underlying23 info3 rfl (by decide) (by omega) u8 x8_2 (rd t338 x12_2) [.int .i64 (rd t338 x12_2)] (fun k_ => some k_ ≠ (.slice (some ad341) t338.length co54 : Value).ownBlock) (fun _ => False) rfl rfl ?aP (fun _ hk => hk.elim) ?aF ?aO ?aB ?aS ?aL ?_; (case aP => exact rfl); (case aB => exact aq15); (case aF => exact (fun k_ hk => Kd.fresh' (Kd.R_lt (by (with_reducible repeat (first | apply Kd.R_alloc | apply Kd.R_drewN | apply Kd.R_drew)); exact HO_11.out)) k_ hk)); (case aO => exact aq27); (case aS => exact (below_size aq15)); (case aL => have := LMc53.out; omega); intro v347 w57 ho hb hg hat; rw [← Ny346.out] at ho; replace HO_7 := Aside0.mk (Kd.R_over' aq18 (Kd.R_typed aq27) (by decide) hg); replace HO_11 := Aside0.mk (Kd.R_after (ok := (fun _ => True)) (by (with_reducible repeat (first | apply Kd.R_alloc | apply Kd.R_drewN | apply Kd.R_drew)); exact Kd.R_mono HO_11.out (fun _ hk => ⟨trivial, hk⟩)) hg hat); replace BK1 := Aside0.mk (blk_grown (g := gb1) (o := .cells #[.int .i64 ((rd_T48 l0 (rd x8_1 x9_1)).f0), .int .i64 ((rd_T48 l0 (rd x8_1 x9_1)).f1), .int .i64 ((rd_T48 l0 (rd x8_1 x9_1)).f2), .int .i64 ((rd_T48 l0 (rd x8_1 x9_1)).f3), .int .i64 ((rd_T48 l0 (rd x8_1 x9_1)).f4), .int .i64 ((rd_T48 l0 (rd x8_1 x9_1)).f5), .int .i64 ((rd_T48 l0 (rd x8_1 x9_1)).f6)] 48 (0, 0)) aq45 hg (Kd.R_ne HO_8.out BK1.out (by decide))); replace HB := Aside0.mk (hb); have HO348 := Aside0.mk (ho); clear HO_8; clear ho hb hg hat))
     (try simp only [← hl7_2])
     go_roundg k2
     case measure => have := HK1.out; have := HK2.out; omega
     case rel => exact ⟨(y344), (y346), (wrap64 (x12_2 + 1)), aq7, H', ⟨aq42⟩, ⟨aq54⟩, ⟨by (try simp only [hl7_1]); (try simp only [hl7_2]); (with_reducible repeat (first | apply Kd.R_alloc | apply Kd.R_drewN | apply Kd.R_drew)); exact HO348.out⟩, ⟨by (try simp only [hl7_1]); (try simp only [hl7_2]); (with_reducible repeat (first | apply Kd.R_alloc | apply Kd.R_drewN | apply Kd.R_drew)); exact Kd.R_mono HO_11.out (fun _ hk => hk.2)⟩, ⟨by (try simp only [hl7_1]); (try simp only [hl7_2]); (with_reducible repeat (first | refine blk_drewN ?_ _ | refine blk_drew ?_ | refine blk_alloc ?_ _)); exact BK1.out⟩, ⟨aq15⟩⟩
end Go.Proofs.YtpbhfpbfmpocdaaDoor.PSpillNone
