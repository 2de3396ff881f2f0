-- Written by print2.py over the kit's printer. Not trusted: Lean checks it.
import Derived.Test.YtdopacgaklaaeaaDoorPDeadTellshqq
import Derived.Test.YtdopacgaklaaeaaDoorPDeadTellsx0
import Derived.Test.YtdopacgaklaaeaaDoorPDeadTellsx9
import Derived.Test.YtdopacgaklaaeaaDoorPDeadTellsx10
import Derived.Test.YtdopacgaklaaeaaDoorPDeadTellsx11
import Derived.Test.YtdopacgaklaaeaaDoorPDeadTellsx12
namespace Go.Proofs.YtdopacgaklaaeaaDoor.PDeadTells
open Go.RowKit Go.Proofs.YtdopacgaklaaeaaDoorW.PrintWords Go.Proofs.YtdopacgaklaaeaaDoorW.PrintLast Go.Proofs.YtdopacgaklaaeaaDoorW.PrintMore
attribute [local go_sem] max2_int min2_int max_two min_two max_three min_three max_four min_four   -- for this text's walks alone
set_option linter.unusedVariables false
set_option linter.unusedSimpArgs false

/-! ### palingref15_Needed: function 74 -/
mutual
def palingref15_Needed.l0 : Nat → List (S28) → Int → List Bool → List Int → Int → Option (Bool)
  | 0, _, _, _, _, _ => none
  | k + 1, x0, x1, x7, x8, x9 => if x9 < (x8.length : Int) then (if 0 ≤ x9 then (if 0 ≤ (rd x8 x9) then (if (rd x8 x9) < (x0.length : Int) then ((palingref11_Uses.f k ((rd_T28 x0 (rd x8 x9)).f0) ((rd_T28 x0 (rd x8 x9)).f1) ((rd_T28 x0 (rd x8 x9)).f2) ((rd_T28 x0 (rd x8 x9)).f3) ((rd_T28 x0 (rd x8 x9)).f4) ((rd_T28 x0 (rd x8 x9)).f5) ((rd_T28 x0 (rd x8 x9)).f6)).bind fun t312 => ((palingref15_has.f k t312 x1).bind fun t315 => (if t315 = true then (some true) else ((palingref11_Def.f k ((rd_T28 x0 (rd x8 x9)).f0) ((rd_T28 x0 (rd x8 x9)).f1) ((rd_T28 x0 (rd x8 x9)).f2) ((rd_T28 x0 (rd x8 x9)).f3) ((rd_T28 x0 (rd x8 x9)).f4) ((rd_T28 x0 (rd x8 x9)).f5) ((rd_T28 x0 (rd x8 x9)).f6)).bind fun t316 => (if t316 = x1 then (palingref15_Needed.l0 k x0 x1 x7 x8 (wrap64 (x9 + 1))) else ((palingref14_Next.f k x0 (rd x8 x9)).bind fun t318 => (palingref15_Needed.l1 k x0 x1 x7 x8 x9 t318 0))))))) else (none)) else (none)) else (none)) else (some false)
def palingref15_Needed.l1 : Nat → List (S28) → Int → List Bool → List Int → Int → List Int → Int → Option (Bool)
  | 0, _, _, _, _, _, _, _ => none
  | k + 1, x0, x1, x7, x8, x9, x11, x12 => if x12 < (x11.length : Int) then (if 0 ≤ x12 then (if 0 ≤ (rd x11 x12) then (if (rd x11 x12) < (x7.length : Int) then (if (rdOf false x7 (rd x11 x12) = true) then (palingref15_Needed.l1 k x0 x1 x7 x8 x9 x11 (wrap64 (x12 + 1))) else (if x8.length < 17592186044416 then (palingref15_Needed.l1 k x0 x1 (x7.set ((rd x11 x12) : Int).toNat true) (x8 ++ [rd x11 x12]) x9 x11 (wrap64 (x12 + 1))) else (none))) else (none)) else (none)) else (none)) else (palingref15_Needed.l0 k x0 x1 x7 x8 (wrap64 (x9 + 1)))
end
def palingref15_Needed.f (k : Nat) (l0 : List (S28)) (a1 : Int) (a2 : Int) : Option (Bool) := if 0 ≤ (l0.length : Int) then (if ((l0.length : Int) : Int).toNat ≤ 281474976710656 then ((some (List.replicate ((l0.length : Int) : Int).toNat false : List Bool)).bind fun y302 => (if 0 ≤ a2 then (if a2 < (y302.length : Int) then (palingref15_Needed.l0 k l0 a1 (y302.set (a2 : Int).toNat true) (([a2] : List Int)) 0) else (none)) else (none))) else (none)) else (none)
theorem palingref15_Needed.mono_l : ∀ k, (∀ y0 y1 y2 y3 y4, LeO (palingref15_Needed.l0 k y0 y1 y2 y3 y4) (palingref15_Needed.l0 (k + 1) y0 y1 y2 y3 y4)) ∧ (∀ y0 y1 y2 y3 y4 y5 y6, LeO (palingref15_Needed.l1 k y0 y1 y2 y3 y4 y5 y6) (palingref15_Needed.l1 (k + 1) y0 y1 y2 y3 y4 y5 y6))
  | 0 => ⟨fun _ _ _ _ _ r h => by simp [palingref15_Needed.l0] at h, fun _ _ _ _ _ _ _ r h => by simp [palingref15_Needed.l1] at h⟩
  | k + 1 => by
    obtain ⟨ih0, ih1⟩ := palingref15_Needed.mono_l k
    refine ⟨?_, ?_⟩ <;> intros <;> (first | unfold palingref15_Needed.l0 | unfold palingref15_Needed.l1) <;> repeat' (first | (with_reducible first | exact ih0 _ _ _ _ _ | exact ih1 _ _ _ _ _ _ _ | exact palingref11_Def.mono _ _ _ _ _ _ _ _ | exact palingref11_Uses.mono _ _ _ _ _ _ _ _ | exact palingref14_Next.mono _ _ _ | exact palingref15_has.mono _ _ _ | exact LeO.refl _ | exact LeO.none _ | refine LeO.ite ?_ ?_ | refine LeO.bind ?_ (fun _ => ?_)) | exact ih0 _ _ _ _ _ | exact ih1 _ _ _ _ _ _ _ | exact palingref11_Def.mono _ _ _ _ _ _ _ _ | exact palingref11_Uses.mono _ _ _ _ _ _ _ _ | exact palingref14_Next.mono _ _ _ | exact palingref15_has.mono _ _ _ | exact LeO.none _ | refine LeO.ite ?_ ?_ | refine LeO.bind ?_ (fun _ => ?_))
theorem palingref15_Needed.mono : ∀ a0 a1 a2 k, LeO (palingref15_Needed.f k a0 a1 a2) (palingref15_Needed.f (k + 1) a0 a1 a2) := by
 intro a0 a1 a2 k
 obtain ⟨ih0, ih1⟩ := palingref15_Needed.mono_l k
 unfold palingref15_Needed.f
 repeat' (first | (with_reducible first | exact ih0 _ _ _ _ _ | exact ih1 _ _ _ _ _ _ _ | exact palingref11_Def.mono _ _ _ _ _ _ _ _ | exact palingref11_Uses.mono _ _ _ _ _ _ _ _ | exact palingref14_Next.mono _ _ _ | exact palingref15_has.mono _ _ _ | exact LeO.refl _ | exact LeO.none _ | refine LeO.ite ?_ ?_ | refine LeO.bind ?_ (fun _ => ?_)) | exact ih0 _ _ _ _ _ | exact ih1 _ _ _ _ _ _ _ | exact palingref11_Def.mono _ _ _ _ _ _ _ _ | exact palingref11_Uses.mono _ _ _ _ _ _ _ _ | exact palingref14_Next.mono _ _ _ | exact palingref15_has.mono _ _ _ | exact LeO.none _ | refine LeO.ite ?_ ?_ | refine LeO.bind ?_ (fun _ => ?_))
set_option maxHeartbeats 8000000 in
set_option maxRecDepth 100000 in
theorem palingref15_Needed.calls (k : Nat) (A0 : Option Addr) (c0 : Nat) (l0 : List (S28)) (a1 : Int) (a2 : Int) (r : Bool) (w : World) (hr0 : Kd.C k28 w A0 l0.length l0) (hc0 : l0.length ≤ c0) (h : palingref15_Needed.f k l0 a1 a2 = some r) :
    Calls Tryd.prog 74 #[.slice A0 l0.length c0, .int .i64 a1, .int .i64 a2] w fun e w' => e = .returned (.bool r) ∧ Below w.heap.size w w' := by
 have hu28 := Tryd.underlying28
 have HR0 := Aside0.mk hr0
 have HC0 := Aside0.mk hc0
 clear hr0 hc0
 have HB := Aside0.mk (Below.refl w.heap.size w)
 have H : (if 0 ≤ (l0.length : Int) then (if ((l0.length : Int) : Int).toNat ≤ 281474976710656 then ((some (List.replicate ((l0.length : Int) : Int).toNat false : List Bool)).bind fun y302 => (if 0 ≤ a2 then (if a2 < (y302.length : Int) then (palingref15_Needed.l0 k l0 a1 (y302.set (a2 : Int).toNat true) (([a2] : List Int)) 0) else (none)) else (none))) else (none)) else (none)) = some r := h
 clear h
 by_cases c4 : 0 ≤ (l0.length : Int)
 rotate_left
 ·rw [if_neg c4] at H
  exact absurd H (by simp)
 rw [if_pos c4] at H
 have c4b0 := eq_true c4
 have c4b1 : decide (0 ≤ (l0.length : Int)) = true := decide_eq_true c4
 clear c4
 by_cases c5 : ((l0.length : Int) : Int).toNat ≤ 281474976710656
 rotate_left
 ·rw [if_neg c5] at H
  exact absurd H (by simp)
 rw [if_pos c5] at H
 have c5b0 := eq_true c5
 have c5b1 : decide (((l0.length : Int) : Int).toNat ≤ 281474976710656) = true := decide_eq_true c5
 clear c5
 obtain ⟨y302, hy_⟩ : ∃ y_ : List Bool, y_ = (List.replicate ((l0.length : Int) : Int).toNat false) := ⟨_, rfl⟩
 replace H : (if 0 ≤ a2 then (if a2 < (y302.length : Int) then (palingref15_Needed.l0 k l0 a1 (y302.set (a2 : Int).toNat true) (([a2] : List Int)) 0) else (none)) else (none)) = some r := aq1
 have Ny302 := Aside0.mk hy_
 clear hy_
 obtain ⟨y305, hy_⟩ : ∃ y_ : List Int, y_ = (([a2] : List Int)) := ⟨_, rfl⟩
 replace H : (if 0 ≤ a2 then (if a2 < (y302.length : Int) then (palingref15_Needed.l0 k l0 a1 (y302.set (a2 : Int).toNat true) y305 0) else (none)) else (none)) = some r := aq1
 have Ny305 := Aside0.mk hy_
 clear hy_
 by_cases c6 : 0 ≤ a2
 rotate_left
 ·rw [if_neg c6] at H
  exact absurd H (by simp)
 rw [if_pos c6] at H
 have c6b0 : decide (0 ≤ a2) = true := decide_eq_true c6
 clear c6
 by_cases c7 : a2 < (y302.length : Int)
 rotate_left
 ·rw [if_neg c7] at H
  exact absurd H (by simp)
 rw [if_pos c7] at H
 have c7b0 : decide (a2 < (y302.length : Int)) = true := decide_eq_true c7
 clear c7
 obtain ⟨y308, hy_⟩ : ∃ y_ : List Bool, y_ = (y302.set (a2 : Int).toNat true) := ⟨_, rfl⟩
 replace H : (palingref15_Needed.l0 k l0 a1 y308 y305 0) = some r := aq1
 have Ny308 := Aside0.mk hy_
 clear hy_
 have H' := Aside0.mk H
 clear H
 go_enter Tryd.func74, Tryd.ntmps74
 go_wp2_with (first | ((with_reducible refine gate_dst (N := 15) rfl ?_); refine Kd.R_make Kd.bool _ 4 rfl (N := 15) rfl 26 _ _ rfl (l0.length : Int) rfl rfl Tryd.underlying26 (.bool false) 1 info4 rfl (by decide) (by omega) false (ok := fun _ => True) (okp := fun _ => True) rfl (fun _ hk => hk) trivial (of_decide_eq_true aq2) (Nat.le_trans (Nat.mul_le_mul_right _ (of_decide_eq_true aq2 : (l0.length : Int).toNat ≤ 281474976710656)) (by omega)) (Below.refl _ _) (Nat.le_refl _) ?_; intro v303 w9 ho10 hb hg_ hnew_; clear hg_ hnew_; (first | rw [← Ny302.out] at ho10 | (simp only [Int.reduceToNat] at ho10; rw [← Ny302.out] at ho10)); have HO304 := Aside0.mk (Kd.R_lower ho10 (below_size aq0)); replace HB := Aside0.mk (below_step aq0 hb); clear hb ho10) | ((with_reducible refine gate_dst (N := 17) rfl ?_); refine Kd.R_lit (Kd.int .i64) _ 3 ?hg (N := 17) ?hd (xs := ([a2] : List Int)) (inner := [.int .i64 a2]) (ok := fun _ => True) (okp := fun _ => True) ?hr ?hp (fun _ hk => hk) trivial (Below.refl _ _) (Nat.le_refl _) (by simp) ?_; (case hd => rfl); (case hg => rfl); (case hr => first | (go_simp; done) | (go_simp; rfl)); (case hp => exact (Reps.one (show Kd.M (Kd.int .i64) _ _ _ a2 [.int .i64 a2] from rfl) (Reps.none _ _))); intro v306 w11 ho12 hb hg_ hnew_; clear hg_ hnew_; (first | rw [← Ny305.out] at ho12 | (simp only [Int.reduceToNat] at ho12; rw [← Ny305.out] at ho12)); replace HO304 := Aside0.mk (Kd.R_below (by (with_reducible repeat (first | apply Kd.R_alloc | apply Kd.R_drewN | apply Kd.R_drew)); exact HO304.out) hb); have HO307 := Aside0.mk (Kd.R_lower ho12 (below_size aq0)); replace HB := Aside0.mk (below_step aq0 hb); clear hb ho12; have p8 : 0 ≤ (a2 : Int) := of_decide_eq_true aq2; have q8 : (a2 : Int) < ((y302.length : Int) : Int) := of_decide_eq_true aq2; obtain ⟨go8, co8, eo8, gb0, gl8, cl8, HG8⟩ := Kd.R_form HO304.out (by omega); (first | cases eo8 | (injection eo8 with ea_ en_ ec_; (first | subst ea_ | (injection ea_ with ea_; subst ea_)); subst ec_; clear en_)); have GB8 := Aside0.mk gb0; have GG8 := Aside0.mk HG8; clear gb0 gl8 HG8; obtain ⟨hx8_0, hf8_0⟩ := Kd.R_celln false HO304.out (a2 : Int) p8 q8; replace p8 := eq_true p8; replace q8 := eq_true q8; obtain ⟨hy13_, hz13_⟩ := Kd.R_celln false HO304.out (a2 : Int) (of_decide_eq_true aq2) (of_decide_eq_true aq2); have HP13 := Kd.R_putg HO304.out (a2 : Int) true) | ((with_reducible refine gate_store (t := 4) (p := 20) rfl ?_); refine store_event (t := 4) (p := 20) (v := ?vo_w14) (w1 := (w11.setCell ⟨go8, (a2 : Int).toNat, none⟩ (.bool true))) ?hg ?ho ?hn ?hr ?_; (case ho => rfl); (case hg => rfl); (case hn => rfl); (case hr => first | (go_simp; done) | (go_simp; rfl)); intro w14 hw; have hg : w11.grownBy w14 (some go8) := (by rw [hw]; exact HP13.2); have hp_ : Kd.R Kd.bool 4 w14 w.heap.size (fun _ => True) (.slice (some ⟨go8, 0, none⟩) y302.length co8) y308 := (by rw [hw, Ny308.out]; exact HP13.1); clear HP13; replace HO307 := Aside0.mk (Kd.R_over' (v := (.slice (some ⟨go8, 0, none⟩) y302.length co8)) (by (with_reducible repeat (first | apply Kd.R_alloc | apply Kd.R_drewN | apply Kd.R_drew)); exact HO307.out) (Kd.R_typed HO304.out) (by decide) hg); replace HO304 := Aside0.mk (hp_); replace HB := Aside0.mk ((by rw [hw]; exact below_set (HB.out) GB8.out : Below w.heap.size w w14)); clear hg hw hp_))
 go_loopg [8, 9] k (fun kq v8 v9 w' => ∃ (x7_1 : List Bool) (x8_1 : List Int) (x9_1 : Int), v9 = .int .i64 x9_1 ∧ Aside0 (palingref15_Needed.l0 kq l0 a1 x7_1 x8_1 x9_1 = some r) ∧ Aside0 (kq ≤ k) ∧ Aside0 (Kd.R Kd.bool 4 w' w.heap.size (fun _ => True) (.slice (some ⟨go8, 0, none⟩) y302.length co8) x7_1) ∧ Aside0 (Kd.R (Kd.int .i64) 3 w' w.heap.size (fun _ => True) v8 x8_1) ∧ Aside0 (Below w.heap.size w w'))
 case atStart => exact ⟨(y308), (y305), (0), aq5, H', ⟨Nat.le_refl _⟩, ⟨by (with_reducible repeat (first | apply Kd.R_alloc | apply Kd.R_drewN | apply Kd.R_drew)); exact HO304.out⟩, ⟨by (with_reducible repeat (first | apply Kd.R_alloc | apply Kd.R_drewN | apply Kd.R_drew)); exact HO307.out⟩, ⟨aq0⟩⟩
 case round =>
  clear H'
  try clear hf8
  obtain ⟨x7_1, x8_1, x9_1, rfl, HA, HK1, HO_7, HO_8, HB⟩ := hrel
  have hl7_1 := (Kd.R_reads' HO_7.out).1
  rw [hl7_1] at HO_7
  (try simp only [hl7_1])
  (try simp only [hl7_1] at HO_8)
  cases gk with
  | zero => exact absurd HA.out (by simp [palingref15_Needed.l0])
  | succ k1 =>
   have H := HA.out
   clear HA
   simp only [palingref15_Needed.l0] at H
   by_cases c15 : x9_1 < (x8_1.length : Int)
   rotate_left
   ·rw [if_neg c15] at H
    have c15b0 : decide (x9_1 < (x8_1.length : Int)) = false := decide_eq_false c15
    clear c15
    obtain rfl := Option.some.inj H
    obtain ⟨Ao59, co59, eo59⟩ := Kd.R_slice HO_8.out
    subst eo59
    go_wp2
    go_ret
    exact ⟨aq11, aq0⟩
   rw [if_pos c15] at H
   have c15b0 : decide (x9_1 < (x8_1.length : Int)) = true := decide_eq_true c15
   clear c15
   by_cases c16 : 0 ≤ x9_1
   rotate_left
   ·rw [if_neg c16] at H
    exact absurd H (by simp)
   rw [if_pos c16] at H
   have c16b0 : decide (0 ≤ x9_1) = true := decide_eq_true c16
   clear c16
   by_cases c17 : 0 ≤ (rd x8_1 x9_1)
   rotate_left
   ·rw [if_neg c17] at H
    exact absurd H (by simp)
   rw [if_pos c17] at H
   have c17b0 : decide (0 ≤ (rd x8_1 x9_1)) = true := decide_eq_true c17
   clear c17
   by_cases c18 : (rd x8_1 x9_1) < (l0.length : Int)
   rotate_left
   ·rw [if_neg c18] at H
    exact absurd H (by simp)
   rw [if_pos c18] at H
   have c18b0 : decide ((rd x8_1 x9_1) < (l0.length : Int)) = true := decide_eq_true c18
   clear c18
   obtain ⟨t312, A19, H⟩ := bS_ H
   obtain ⟨t315, A20, H⟩ := bS_ H
   by_cases c21 : t315 = true
   ·subst c21
    rw [if_pos rfl] at H
    obtain rfl := Option.some.inj H
    obtain ⟨Ao22, co22, eo22⟩ := Kd.R_slice HO_8.out
    subst eo22
    have p309 : 0 ≤ (x9_1 : Int) := of_decide_eq_true aq2
    have q309 : x9_1 < (x8_1.length : Int) := of_decide_eq_true aq2
    obtain ⟨ad309, e309, hx309_0⟩ := Kd.at_int (Kd.R_reads' HO_8.out).2.2 x9_1 p309 q309
    cases e309
    replace p309 := eq_true p309
    replace q309 := eq_true q309
    have p310 : 0 ≤ ((rd x8_1 x9_1) : Int) := of_decide_eq_true aq2
    have q310 : (rd x8_1 x9_1) < (l0.length : Int) := of_decide_eq_true aq2
    obtain ⟨ad310, e310, hx310_0, hx310_1, hx310_2, hx310_3, hx310_4, hx310_5, hx310_6⟩ := at_T28 HR0.out (rd x8_1 x9_1) p310 q310
    cases e310
    have n_ := cb7 HB.out hx310_0 hx310_1 hx310_2 hx310_3 hx310_4 hx310_5 hx310_6
    clear hx310_0 hx310_1 hx310_2 hx310_3 hx310_4 hx310_5 hx310_6
    obtain ⟨hx310_0, hx310_1, hx310_2, hx310_3, hx310_4, hx310_5, hx310_6⟩ := n_
    replace p310 := eq_true p310
    replace q310 := eq_true q310
    go_wp2_with (first | ((with_reducible refine gate_dst (N := 10) rfl ?_); refine box_event ?hg (N := 10) ?hd (cs := #[.int .i64 0, .int .i64 0, .int .i64 0, .int .i64 0, .int .i64 0, .int .i64 0, .int .i64 0]) (t := 28) ?hr ?_; (case hd => rfl); (case hg => rfl); (case hr => first | (go_simp; done) | (go_simp; rfl)); intro gb1 hg w23 hbox hb; have n0_ := Aside0.mk (Kd.R_below aq14 hb); have n1_ := Aside0.mk (Kd.R_below aq22 hb); have n2_ := Aside0.mk (below_step aq0 hb); have n3_ := Aside0.mk (hbox); have n4_ := Aside0.mk ((by rw [hg]; exact (below_size aq0) : w.heap.size ≤ gb1)); have n5_ := Aside0.mk ((by rw [hg]; exact (below_size aq0) : w.heap.size ≤ gb1)); clear HO_7; clear HO_8; clear HB; have HO_7 := n0_; have HO_8 := n1_; have HB := n2_; have BK1 := n3_; have GW1 := n4_; have GE1 := n5_; clear n0_ n1_ n2_ n3_ n4_ n5_; clear hb hbox hg; obtain ⟨hcz24_0, hcz24_1, hcz24_2, hcz24_3, hcz24_4, hcz24_5, hcz24_6, hfz24_0, hfz24_1, hfz24_2, hfz24_3, hfz24_4, hfz24_5, hfz24_6⟩ := czf7 BK1.out) | ((with_reducible refine gate_callee (f := 75) rfl ?_); refine goesL_ (some 35) rfl rfl Tryd.func75 (by kernel_rfl) rfl #[.agg #[.int .i64 ((rd_T28 l0 (rd x8_1 x9_1)).f0), .int .i64 ((rd_T28 l0 (rd x8_1 x9_1)).f1), .int .i64 ((rd_T28 l0 (rd x8_1 x9_1)).f2), .int .i64 ((rd_T28 l0 (rd x8_1 x9_1)).f3), .int .i64 ((rd_T28 l0 (rd x8_1 x9_1)).f4), .int .i64 ((rd_T28 l0 (rd x8_1 x9_1)).f5), .int .i64 ((rd_T28 l0 (rd x8_1 x9_1)).f6)]] rfl aq4 ?_; (with_reducible refine (palingref11_Uses.calls k1 ((rd_T28 l0 (rd x8_1 x9_1)).f0) ((rd_T28 l0 (rd x8_1 x9_1)).f1) ((rd_T28 l0 (rd x8_1 x9_1)).f2) ((rd_T28 l0 (rd x8_1 x9_1)).f3) ((rd_T28 l0 (rd x8_1 x9_1)).f4) ((rd_T28 l0 (rd x8_1 x9_1)).f5) ((rd_T28 l0 (rd x8_1 x9_1)).f6) t312 _ A19.out).mono ?_); rintro e w25 ⟨v313, rfl, ho0, hb⟩; refine ⟨_, rfl, ?_⟩; replace HO_7 := Aside0.mk (Kd.R_below aq15 hb); have HO314 := Aside0.mk (Kd.R_lower (Kd.R_new' ho0 (Kd.R_lt aq9)) (below_size aq7)); replace HO_8 := Aside0.mk (Kd.R_elder' aq9 (Kd.R_base ho0) hb); replace BK1 := Aside0.mk (blk_below (g := gb1) (o := .cells #[.int .i64 ((rd_T28 l0 (rd x8_1 x9_1)).f0), .int .i64 ((rd_T28 l0 (rd x8_1 x9_1)).f1), .int .i64 ((rd_T28 l0 (rd x8_1 x9_1)).f2), .int .i64 ((rd_T28 l0 (rd x8_1 x9_1)).f3), .int .i64 ((rd_T28 l0 (rd x8_1 x9_1)).f4), .int .i64 ((rd_T28 l0 (rd x8_1 x9_1)).f5), .int .i64 ((rd_T28 l0 (rd x8_1 x9_1)).f6)] 28 (0, 0)) aq6 hb); replace HB := Aside0.mk (below_step aq7 hb); (try clear hb); (try clear hb2); (try clear hk); (try clear hi); (try clear ho0); obtain ⟨Ao26, co26, eo26⟩ := Kd.R_slice HO314.out; subst eo26) | ((with_reducible refine gate_callee (f := 57) rfl ?_); refine goesL_ (some 37) rfl rfl Tryd.func57 (by kernel_rfl) rfl #[.slice Ao26 t312.length co26, .int .i64 a1] rfl aq4 ?_; (with_reducible refine (palingref15_has.calls k1 _ _ t312 a1 true _ ?side1 ?side2 A20.out).mono ?_); (case side1 => repeat (first | exact (Kd.R_reads' HO314.out).2.2 | (with_reducible refine Kd.C_alloc ?_ _) | (with_reducible refine Kd.C_drewN ?_ _) | (with_reducible refine Kd.C_drew ?_))); (case side2 => exact (Kd.R_reads' HO314.out).2.1); rintro e w' ⟨rfl, ⟨nd, rfl⟩⟩; refine ⟨_, rfl, ?_⟩))
    go_ret
    exact ⟨aq11, aq7⟩
   replace c21 := Bool.eq_false_iff.mpr c21
   subst c21
   rw [if_neg nf_] at H
   obtain ⟨t316, A27, H⟩ := bS_ H
   by_cases c28 : t316 = a1
   ·rw [if_pos c28] at H
    have c28b0 : (t316 == a1) = true := beq_iff_eq.mpr c28
    have c28b1 : (t316 != a1) = false := bne_eq_false_iff_eq.mpr c28
    clear c28
    have H' := Aside0.mk H
    clear H
    obtain ⟨Ao29, co29, eo29⟩ := Kd.R_slice HO_8.out
    subst eo29
    have p309 : 0 ≤ (x9_1 : Int) := of_decide_eq_true aq2
    have q309 : x9_1 < (x8_1.length : Int) := of_decide_eq_true aq2
    obtain ⟨ad309, e309, hx309_0⟩ := Kd.at_int (Kd.R_reads' HO_8.out).2.2 x9_1 p309 q309
    cases e309
    replace p309 := eq_true p309
    replace q309 := eq_true q309
    have p310 : 0 ≤ ((rd x8_1 x9_1) : Int) := of_decide_eq_true aq2
    have q310 : (rd x8_1 x9_1) < (l0.length : Int) := of_decide_eq_true aq2
    obtain ⟨ad310, e310, hx310_0, hx310_1, hx310_2, hx310_3, hx310_4, hx310_5, hx310_6⟩ := at_T28 HR0.out (rd x8_1 x9_1) p310 q310
    cases e310
    have n_ := cb7 HB.out hx310_0 hx310_1 hx310_2 hx310_3 hx310_4 hx310_5 hx310_6
    clear hx310_0 hx310_1 hx310_2 hx310_3 hx310_4 hx310_5 hx310_6
    obtain ⟨hx310_0, hx310_1, hx310_2, hx310_3, hx310_4, hx310_5, hx310_6⟩ := n_
    replace p310 := eq_true p310
    replace q310 := eq_true q310
    go_wp2_with (first | ((with_reducible refine gate_dst (N := 10) rfl ?_); refine box_event ?hg (N := 10) ?hd (cs := #[.int .i64 0, .int .i64 0, .int .i64 0, .int .i64 0, .int .i64 0, .int .i64 0, .int .i64 0]) (t := 28) ?hr ?_; (case hd => rfl); (case hg => rfl); (case hr => first | (go_simp; done) | (go_simp; rfl)); intro gb1 hg w30 hbox hb; have n0_ := Aside0.mk (Kd.R_below aq14 hb); have n1_ := Aside0.mk (Kd.R_below aq22 hb); have n2_ := Aside0.mk (below_step aq0 hb); have n3_ := Aside0.mk (hbox); have n4_ := Aside0.mk ((by rw [hg]; exact (below_size aq0) : w.heap.size ≤ gb1)); have n5_ := Aside0.mk ((by rw [hg]; exact (below_size aq0) : w.heap.size ≤ gb1)); clear HO_7; clear HO_8; clear HB; have HO_7 := n0_; have HO_8 := n1_; have HB := n2_; have BK1 := n3_; have GW1 := n4_; have GE1 := n5_; clear n0_ n1_ n2_ n3_ n4_ n5_; clear hb hbox hg; obtain ⟨hcz31_0, hcz31_1, hcz31_2, hcz31_3, hcz31_4, hcz31_5, hcz31_6, hfz31_0, hfz31_1, hfz31_2, hfz31_3, hfz31_4, hfz31_5, hfz31_6⟩ := czf7 BK1.out) | ((with_reducible refine gate_callee (f := 75) rfl ?_); refine goesL_ (some 35) rfl rfl Tryd.func75 (by kernel_rfl) rfl #[.agg #[.int .i64 ((rd_T28 l0 (rd x8_1 x9_1)).f0), .int .i64 ((rd_T28 l0 (rd x8_1 x9_1)).f1), .int .i64 ((rd_T28 l0 (rd x8_1 x9_1)).f2), .int .i64 ((rd_T28 l0 (rd x8_1 x9_1)).f3), .int .i64 ((rd_T28 l0 (rd x8_1 x9_1)).f4), .int .i64 ((rd_T28 l0 (rd x8_1 x9_1)).f5), .int .i64 ((rd_T28 l0 (rd x8_1 x9_1)).f6)]] rfl aq4 ?_; (with_reducible refine (palingref11_Uses.calls k1 ((rd_T28 l0 (rd x8_1 x9_1)).f0) ((rd_T28 l0 (rd x8_1 x9_1)).f1) ((rd_T28 l0 (rd x8_1 x9_1)).f2) ((rd_T28 l0 (rd x8_1 x9_1)).f3) ((rd_T28 l0 (rd x8_1 x9_1)).f4) ((rd_T28 l0 (rd x8_1 x9_1)).f5) ((rd_T28 l0 (rd x8_1 x9_1)).f6) t312 _ A19.out).mono ?_); rintro e w32 ⟨v313, rfl, ho0, hb⟩; refine ⟨_, rfl, ?_⟩; replace HO_7 := Aside0.mk (Kd.R_below aq15 hb); have HO314 := Aside0.mk (Kd.R_lower (Kd.R_new' ho0 (Kd.R_lt aq9)) (below_size aq7)); replace HO_8 := Aside0.mk (Kd.R_elder' aq9 (Kd.R_base ho0) hb); replace BK1 := Aside0.mk (blk_below (g := gb1) (o := .cells #[.int .i64 ((rd_T28 l0 (rd x8_1 x9_1)).f0), .int .i64 ((rd_T28 l0 (rd x8_1 x9_1)).f1), .int .i64 ((rd_T28 l0 (rd x8_1 x9_1)).f2), .int .i64 ((rd_T28 l0 (rd x8_1 x9_1)).f3), .int .i64 ((rd_T28 l0 (rd x8_1 x9_1)).f4), .int .i64 ((rd_T28 l0 (rd x8_1 x9_1)).f5), .int .i64 ((rd_T28 l0 (rd x8_1 x9_1)).f6)] 28 (0, 0)) aq6 hb); replace HB := Aside0.mk (below_step aq7 hb); (try clear hb); (try clear hb2); (try clear hk); (try clear hi); (try clear ho0); obtain ⟨Ao33, co33, eo33⟩ := Kd.R_slice HO314.out; subst eo33) | ((with_reducible refine gate_callee (f := 57) rfl ?_); refine goesL_ (some 37) rfl rfl Tryd.func57 (by kernel_rfl) rfl #[.slice Ao33 t312.length co33, .int .i64 a1] rfl aq4 ?_; (with_reducible refine (palingref15_has.calls k1 _ _ t312 a1 false _ ?side1 ?side2 A20.out).mono ?_); (case side1 => repeat (first | exact (Kd.R_reads' HO314.out).2.2 | (with_reducible refine Kd.C_alloc ?_ _) | (with_reducible refine Kd.C_drewN ?_ _) | (with_reducible refine Kd.C_drew ?_))); (case side2 => exact (Kd.R_reads' HO314.out).2.1); rintro e w' ⟨rfl, ⟨nd, rfl⟩⟩; refine ⟨_, rfl, ?_⟩; obtain ⟨hcz34_0, hcz34_1, hcz34_2, hcz34_3, hcz34_4, hcz34_5, hcz34_6, hfz34_0, hfz34_1, hfz34_2, hfz34_3, hfz34_4, hfz34_5, hfz34_6⟩ := czf7 BK1.out) | ((with_reducible refine gate_callee (f := 28) rfl ?_); refine goesL_ (some 39) rfl rfl Tryd.func28 (by kernel_rfl) rfl #[.agg #[.int .i64 ((rd_T28 l0 (rd x8_1 x9_1)).f0), .int .i64 ((rd_T28 l0 (rd x8_1 x9_1)).f1), .int .i64 ((rd_T28 l0 (rd x8_1 x9_1)).f2), .int .i64 ((rd_T28 l0 (rd x8_1 x9_1)).f3), .int .i64 ((rd_T28 l0 (rd x8_1 x9_1)).f4), .int .i64 ((rd_T28 l0 (rd x8_1 x9_1)).f5), .int .i64 ((rd_T28 l0 (rd x8_1 x9_1)).f6)]] rfl aq4 ?_; (with_reducible refine (palingref11_Def.calls k1 ((rd_T28 l0 (rd x8_1 x9_1)).f0) ((rd_T28 l0 (rd x8_1 x9_1)).f1) ((rd_T28 l0 (rd x8_1 x9_1)).f2) ((rd_T28 l0 (rd x8_1 x9_1)).f3) ((rd_T28 l0 (rd x8_1 x9_1)).f4) ((rd_T28 l0 (rd x8_1 x9_1)).f5) ((rd_T28 l0 (rd x8_1 x9_1)).f6) t316 _ A27.out).mono ?_); rintro e w35 ⟨rfl, hb⟩; refine ⟨_, rfl, ?_⟩; replace HO_7 := Aside0.mk (Kd.R_below aq14 hb); replace HO_8 := Aside0.mk (Kd.R_below aq22 hb); replace HO314 := Aside0.mk (Kd.R_below aq45 hb); replace BK1 := Aside0.mk (blk_below (g := gb1) (o := .cells #[.int .i64 ((rd_T28 l0 (rd x8_1 x9_1)).f0), .int .i64 ((rd_T28 l0 (rd x8_1 x9_1)).f1), .int .i64 ((rd_T28 l0 (rd x8_1 x9_1)).f2), .int .i64 ((rd_T28 l0 (rd x8_1 x9_1)).f3), .int .i64 ((rd_T28 l0 (rd x8_1 x9_1)).f4), .int .i64 ((rd_T28 l0 (rd x8_1 x9_1)).f5), .int .i64 ((rd_T28 l0 (rd x8_1 x9_1)).f6)] 28 (0, 0)) aq13 hb); replace HB := Aside0.mk (below_step aq7 hb); (try clear hb); (try clear hb2); (try clear hk); (try clear hi)))
    (try simp only [← hl7_1])
    go_roundg k1
    case measure => have := HK1.out; omega
    case rel => exact ⟨(x7_1), (x8_1), (wrap64 (x9_1 + 1)), aq5, H', ⟨aq47⟩, ⟨by (try simp only [hl7_1]); (with_reducible repeat (first | apply Kd.R_alloc | apply Kd.R_drewN | apply Kd.R_drew)); exact HO_7.out⟩, ⟨by (try simp only [hl7_1]); (with_reducible repeat (first | apply Kd.R_alloc | apply Kd.R_drewN | apply Kd.R_drew)); exact Kd.R_mono HO_8.out (fun _ hk => trivial)⟩, ⟨aq7⟩⟩
   rw [if_neg c28] at H
   have c28b0 : (t316 == a1) = false := beq_eq_false_iff_ne.mpr c28
   have c28b1 : (t316 != a1) = true := bne_iff_ne.mpr c28
   obtain ⟨t318, A36, H⟩ := bS_ H
   have H' := Aside0.mk H
   clear H
   obtain ⟨Ao37, co37, eo37⟩ := Kd.R_slice HO_8.out
   subst eo37
   have p309 : 0 ≤ (x9_1 : Int) := of_decide_eq_true aq2
   have q309 : x9_1 < (x8_1.length : Int) := of_decide_eq_true aq2
   obtain ⟨ad309, e309, hx309_0⟩ := Kd.at_int (Kd.R_reads' HO_8.out).2.2 x9_1 p309 q309
   cases e309
   replace p309 := eq_true p309
   replace q309 := eq_true q309
   have p310 : 0 ≤ ((rd x8_1 x9_1) : Int) := of_decide_eq_true aq2
   have q310 : (rd x8_1 x9_1) < (l0.length : Int) := of_decide_eq_true aq2
   obtain ⟨ad310, e310, hx310_0, hx310_1, hx310_2, hx310_3, hx310_4, hx310_5, hx310_6⟩ := at_T28 HR0.out (rd x8_1 x9_1) p310 q310
   cases e310
   have n_ := cb7 HB.out hx310_0 hx310_1 hx310_2 hx310_3 hx310_4 hx310_5 hx310_6
   clear hx310_0 hx310_1 hx310_2 hx310_3 hx310_4 hx310_5 hx310_6
   obtain ⟨hx310_0, hx310_1, hx310_2, hx310_3, hx310_4, hx310_5, hx310_6⟩ := n_
   replace p310 := eq_true p310
   replace q310 := eq_true q310
   go_wp2_with (first | ((with_reducible refine gate_dst (N := 10) rfl ?_); refine box_event ?hg (N := 10) ?hd (cs := #[.int .i64 0, .int .i64 0, .int .i64 0, .int .i64 0, .int .i64 0, .int .i64 0, .int .i64 0]) (t := 28) ?hr ?_; (case hd => rfl); (case hg => rfl); (case hr => first | (go_simp; done) | (go_simp; rfl)); intro gb1 hg w38 hbox hb; have n0_ := Aside0.mk (Kd.R_below aq14 hb); have n1_ := Aside0.mk (Kd.R_below aq22 hb); have n2_ := Aside0.mk (below_step aq0 hb); have n3_ := Aside0.mk (hbox); have n4_ := Aside0.mk ((by rw [hg]; exact (below_size aq0) : w.heap.size ≤ gb1)); have n5_ := Aside0.mk ((by rw [hg]; exact (below_size aq0) : w.heap.size ≤ gb1)); clear HO_7; clear HO_8; clear HB; have HO_7 := n0_; have HO_8 := n1_; have HB := n2_; have BK1 := n3_; have GW1 := n4_; have GE1 := n5_; clear n0_ n1_ n2_ n3_ n4_ n5_; clear hb hbox hg; obtain ⟨hcz39_0, hcz39_1, hcz39_2, hcz39_3, hcz39_4, hcz39_5, hcz39_6, hfz39_0, hfz39_1, hfz39_2, hfz39_3, hfz39_4, hfz39_5, hfz39_6⟩ := czf7 BK1.out) | ((with_reducible refine gate_callee (f := 75) rfl ?_); refine goesL_ (some 35) rfl rfl Tryd.func75 (by kernel_rfl) rfl #[.agg #[.int .i64 ((rd_T28 l0 (rd x8_1 x9_1)).f0), .int .i64 ((rd_T28 l0 (rd x8_1 x9_1)).f1), .int .i64 ((rd_T28 l0 (rd x8_1 x9_1)).f2), .int .i64 ((rd_T28 l0 (rd x8_1 x9_1)).f3), .int .i64 ((rd_T28 l0 (rd x8_1 x9_1)).f4), .int .i64 ((rd_T28 l0 (rd x8_1 x9_1)).f5), .int .i64 ((rd_T28 l0 (rd x8_1 x9_1)).f6)]] rfl aq4 ?_; (with_reducible refine (palingref11_Uses.calls k1 ((rd_T28 l0 (rd x8_1 x9_1)).f0) ((rd_T28 l0 (rd x8_1 x9_1)).f1) ((rd_T28 l0 (rd x8_1 x9_1)).f2) ((rd_T28 l0 (rd x8_1 x9_1)).f3) ((rd_T28 l0 (rd x8_1 x9_1)).f4) ((rd_T28 l0 (rd x8_1 x9_1)).f5) ((rd_T28 l0 (rd x8_1 x9_1)).f6) t312 _ A19.out).mono ?_); rintro e w40 ⟨v313, rfl, ho0, hb⟩; refine ⟨_, rfl, ?_⟩; replace HO_7 := Aside0.mk (Kd.R_below aq15 hb); have HO314 := Aside0.mk (Kd.R_lower (Kd.R_new' ho0 (Kd.R_lt aq9)) (below_size aq7)); replace HO_8 := Aside0.mk (Kd.R_elder' aq9 (Kd.R_base ho0) hb); replace BK1 := Aside0.mk (blk_below (g := gb1) (o := .cells #[.int .i64 ((rd_T28 l0 (rd x8_1 x9_1)).f0), .int .i64 ((rd_T28 l0 (rd x8_1 x9_1)).f1), .int .i64 ((rd_T28 l0 (rd x8_1 x9_1)).f2), .int .i64 ((rd_T28 l0 (rd x8_1 x9_1)).f3), .int .i64 ((rd_T28 l0 (rd x8_1 x9_1)).f4), .int .i64 ((rd_T28 l0 (rd x8_1 x9_1)).f5), .int .i64 ((rd_T28 l0 (rd x8_1 x9_1)).f6)] 28 (0, 0)) aq6 hb); replace HB := Aside0.mk (below_step aq7 hb); (try clear hb); (try clear hb2); (try clear hk); (try clear hi); (try clear ho0); obtain ⟨Ao41, co41, eo41⟩ := Kd.R_slice HO314.out; subst eo41) | ((with_reducible refine gate_callee (f := 57) rfl ?_); refine goesL_ (some 37) rfl rfl Tryd.func57 (by kernel_rfl) rfl #[.slice Ao41 t312.length co41, .int .i64 a1] rfl aq4 ?_; (with_reducible refine (palingref15_has.calls k1 _ _ t312 a1 false _ ?side1 ?side2 A20.out).mono ?_); (case side1 => repeat (first | exact (Kd.R_reads' HO314.out).2.2 | (with_reducible refine Kd.C_alloc ?_ _) | (with_reducible refine Kd.C_drewN ?_ _) | (with_reducible refine Kd.C_drew ?_))); (case side2 => exact (Kd.R_reads' HO314.out).2.1); rintro e w' ⟨rfl, ⟨nd, rfl⟩⟩; refine ⟨_, rfl, ?_⟩; obtain ⟨hcz42_0, hcz42_1, hcz42_2, hcz42_3, hcz42_4, hcz42_5, hcz42_6, hfz42_0, hfz42_1, hfz42_2, hfz42_3, hfz42_4, hfz42_5, hfz42_6⟩ := czf7 BK1.out) | ((with_reducible refine gate_callee (f := 28) rfl ?_); refine goesL_ (some 39) rfl rfl Tryd.func28 (by kernel_rfl) rfl #[.agg #[.int .i64 ((rd_T28 l0 (rd x8_1 x9_1)).f0), .int .i64 ((rd_T28 l0 (rd x8_1 x9_1)).f1), .int .i64 ((rd_T28 l0 (rd x8_1 x9_1)).f2), .int .i64 ((rd_T28 l0 (rd x8_1 x9_1)).f3), .int .i64 ((rd_T28 l0 (rd x8_1 x9_1)).f4), .int .i64 ((rd_T28 l0 (rd x8_1 x9_1)).f5), .int .i64 ((rd_T28 l0 (rd x8_1 x9_1)).f6)]] rfl aq4 ?_; (with_reducible refine (palingref11_Def.calls k1 ((rd_T28 l0 (rd x8_1 x9_1)).f0) ((rd_T28 l0 (rd x8_1 x9_1)).f1) ((rd_T28 l0 (rd x8_1 x9_1)).f2) ((rd_T28 l0 (rd x8_1 x9_1)).f3) ((rd_T28 l0 (rd x8_1 x9_1)).f4) ((rd_T28 l0 (rd x8_1 x9_1)).f5) ((rd_T28 l0 (rd x8_1 x9_1)).f6) t316 _ A27.out).mono ?_); rintro e w43 ⟨rfl, hb⟩; refine ⟨_, rfl, ?_⟩; replace HO_7 := Aside0.mk (Kd.R_below aq14 hb); replace HO_8 := Aside0.mk (Kd.R_below aq22 hb); replace HO314 := Aside0.mk (Kd.R_below aq45 hb); replace BK1 := Aside0.mk (blk_below (g := gb1) (o := .cells #[.int .i64 ((rd_T28 l0 (rd x8_1 x9_1)).f0), .int .i64 ((rd_T28 l0 (rd x8_1 x9_1)).f1), .int .i64 ((rd_T28 l0 (rd x8_1 x9_1)).f2), .int .i64 ((rd_T28 l0 (rd x8_1 x9_1)).f3), .int .i64 ((rd_T28 l0 (rd x8_1 x9_1)).f4), .int .i64 ((rd_T28 l0 (rd x8_1 x9_1)).f5), .int .i64 ((rd_T28 l0 (rd x8_1 x9_1)).f6)] 28 (0, 0)) aq13 hb); replace HB := Aside0.mk (below_step aq7 hb); (try clear hb); (try clear hb2); (try clear hk); (try clear hi); have p317 : 0 ≤ (x9_1 : Int) := of_decide_eq_true aq2; have q317 : x9_1 < (x8_1.length : Int) := of_decide_eq_true aq2; obtain ⟨ad317, e317, hx317_0⟩ := Kd.at_int (Kd.R_reads' HO_8.out).2.2 x9_1 p317 q317; obtain rfl : ad309 = ad317 := (by injection e317); replace p317 := eq_true p317; replace q317 := eq_true q317) | ((with_reducible refine gate_callee (f := 56) rfl ?_); refine goesL_ (some 47) rfl rfl Tryd.func56 (by kernel_rfl) rfl #[.slice (some ad310) l0.length c0, .int .i64 (rd x8_1 x9_1)] rfl aq4 ?_; (with_reducible refine (palingref14_Next.calls k1 _ _ l0 (rd x8_1 x9_1) t318 _ ?side1 ?side2 A36.out).mono ?_); (case side1 => repeat (first | exact (Kd.C_below HR0.out HB.out) | (with_reducible refine Kd.C_alloc ?_ _) | (with_reducible refine Kd.C_drewN ?_ _) | (with_reducible refine Kd.C_drew ?_))); (case side2 => exact HC0.out); rintro e w44 ⟨v319, rfl, ho0, hb⟩; refine ⟨_, rfl, ?_⟩; have n0_ := Aside0.mk (Kd.R_below aq14 hb); have n1_ := Aside0.mk (Kd.R_elder' aq22 (Kd.R_base ho0) hb); have n2_ := Aside0.mk (Kd.R_elder' aq45 (Kd.R_base ho0) hb); have n3_ := Aside0.mk (Kd.R_lower (Kd.R_new' (Kd.R_new' ho0 (Kd.R_lt aq22)) (Kd.R_lt aq45)) (below_size aq7)); have n4_ := Aside0.mk (blk_below (g := gb1) (o := .cells #[.int .i64 ((rd_T28 l0 (rd x8_1 x9_1)).f0), .int .i64 ((rd_T28 l0 (rd x8_1 x9_1)).f1), .int .i64 ((rd_T28 l0 (rd x8_1 x9_1)).f2), .int .i64 ((rd_T28 l0 (rd x8_1 x9_1)).f3), .int .i64 ((rd_T28 l0 (rd x8_1 x9_1)).f4), .int .i64 ((rd_T28 l0 (rd x8_1 x9_1)).f5), .int .i64 ((rd_T28 l0 (rd x8_1 x9_1)).f6)] 28 (0, 0)) aq13 hb); have n5_ := Aside0.mk (below_step aq7 hb); clear HO_7; clear HO_8; clear HO314; clear BK1; clear HB; have HO_7 := n0_; have HO_8 := n1_; have HO314 := n2_; have HO320 := n3_; have BK1 := n4_; have HB := n5_; clear n0_ n1_ n2_ n3_ n4_ n5_; (try clear hb); (try clear hb2); (try clear hk); (try clear hi); (try clear ho0)))
   go_loopg [8, 12] k1 (fun kq v8 v12 w' => ∃ (x7_2 : List Bool) (x8_2 : List Int) (x12_2 : Int), v12 = .int .i64 x12_2 ∧ Aside0 (palingref15_Needed.l1 kq l0 a1 x7_2 x8_2 x9_1 t318 x12_2 = some r) ∧ Aside0 (kq ≤ k1) ∧ Aside0 (Kd.R Kd.bool 4 w' w.heap.size (fun _ => True) (.slice (some ⟨go8, 0, none⟩) x7_1.length co8) x7_2) ∧ Aside0 (Kd.R (Kd.int .i64) 3 w' w.heap.size (fun k_ => some k_ ≠ (v319 : Value).ownBlock) v8 x8_2) ∧ Aside0 (Kd.R (Kd.int .i64) 3 w' w.heap.size (fun k_ => some k_ ≠ (v8 : Value).ownBlock) v319 t318) ∧ Aside0 (w'.heap[gb1]? = some (.cells #[.int .i64 ((rd_T28 l0 (rd x8_1 x9_1)).f0), .int .i64 ((rd_T28 l0 (rd x8_1 x9_1)).f1), .int .i64 ((rd_T28 l0 (rd x8_1 x9_1)).f2), .int .i64 ((rd_T28 l0 (rd x8_1 x9_1)).f3), .int .i64 ((rd_T28 l0 (rd x8_1 x9_1)).f4), .int .i64 ((rd_T28 l0 (rd x8_1 x9_1)).f5), .int .i64 ((rd_T28 l0 (rd x8_1 x9_1)).f6)] 28 (0, 0))) ∧ Aside0 (Below w.heap.size w w'))
   case atStart => exact ⟨(x7_1), (x8_1), (0), aq5, H', ⟨Nat.le_refl _⟩, ⟨by (try simp only [hl7_1]); (with_reducible repeat (first | apply Kd.R_alloc | apply Kd.R_drewN | apply Kd.R_drew)); exact HO_7.out⟩, ⟨by (try simp only [hl7_1]); (with_reducible repeat (first | apply Kd.R_alloc | apply Kd.R_drewN | apply Kd.R_drew)); exact Kd.R_mono HO_8.out (fun _ hk => hk.2)⟩, ⟨by (try simp only [hl7_1]); (with_reducible repeat (first | apply Kd.R_alloc | apply Kd.R_drewN | apply Kd.R_drew)); exact Kd.R_mono HO320.out (fun _ hk => hk.1.2)⟩, ⟨by (try simp only [hl7_1]); (with_reducible repeat (first | refine blk_drewN ?_ _ | refine blk_drew ?_ | refine blk_alloc ?_ _)); exact BK1.out⟩, ⟨aq7⟩⟩
   case round =>
    clear H'
    try clear hf8
    obtain ⟨x7_2, x8_2, x12_2, rfl, HA, HK2, HO_7, HO_8, HO_11, BK1, HB⟩ := hrel
    have hl7_2 := (Kd.R_reads' HO_7.out).1
    rw [hl7_2] at HO_7
    (try simp only [hl7_2])
    (try simp only [hl7_2] at BK1)
    (try simp only [hl7_2] at HO_8)
    (try simp only [hl7_2] at HO_11)
    cases gk with
    | zero => exact absurd HA.out (by simp [palingref15_Needed.l1])
    | succ k2 =>
     have H := HA.out
     clear HA
     simp only [palingref15_Needed.l1] at H
     by_cases c45 : x12_2 < (t318.length : Int)
     rotate_left
     ·rw [if_neg c45] at H
      have c45b0 : decide (x12_2 < (t318.length : Int)) = false := decide_eq_false c45
      clear c45
      have H' := Aside0.mk H
      clear H
      obtain ⟨Ao58, co58, eo58⟩ := Kd.R_slice HO_11.out
      subst eo58
      go_wp2
      (try simp only [← hl7_1, ← hl7_2])
      go_roundg k2
      case measure => have := HK1.out; have := HK2.out; omega
      case rel => exact ⟨(x7_2), (x8_2), (wrap64 (x9_1 + 1)), aq5, H', ⟨aq39⟩, ⟨aq43⟩, ⟨by (try simp only [hl7_1]); (try simp only [hl7_2]); (with_reducible repeat (first | apply Kd.R_alloc | apply Kd.R_drewN | apply Kd.R_drew)); exact Kd.R_mono HO_8.out (fun _ hk => trivial)⟩, ⟨aq7⟩⟩
     rw [if_pos c45] at H
     have c45b0 : decide (x12_2 < (t318.length : Int)) = true := decide_eq_true c45
     clear c45
     by_cases c46 : 0 ≤ x12_2
     rotate_left
     ·rw [if_neg c46] at H
      exact absurd H (by simp)
     rw [if_pos c46] at H
     have c46b0 : decide (0 ≤ x12_2) = true := decide_eq_true c46
     clear c46
     by_cases c47 : 0 ≤ (rd t318 x12_2)
     rotate_left
     ·rw [if_neg c47] at H
      exact absurd H (by simp)
     rw [if_pos c47] at H
     have c47b0 : decide (0 ≤ (rd t318 x12_2)) = true := decide_eq_true c47
     clear c47
     by_cases c48 : (rd t318 x12_2) < (x7_2.length : Int)
     rotate_left
     ·rw [if_neg c48] at H
      exact absurd H (by simp)
     rw [if_pos c48] at H
     have c48b0 : decide ((rd t318 x12_2) < (x7_2.length : Int)) = true := decide_eq_true c48
     clear c48
     obtain ⟨bq49, hbq49⟩ : ∃ b_ : Bool, b_ = (rdOf false x7_2 (rd t318 x12_2)) := ⟨_, rfl⟩
     replace H : (if (bq49 = true) then (palingref15_Needed.l1 k2 l0 a1 x7_2 x8_2 x9_1 t318 (wrap64 (x12_2 + 1))) else (if x8_2.length < 17592186044416 then (palingref15_Needed.l1 k2 l0 a1 (x7_2.set ((rd t318 x12_2) : Int).toNat true) (x8_2 ++ [rd t318 x12_2]) x9_1 t318 (wrap64 (x12_2 + 1))) else (none))) = some r := by rw [← hbq49] at H; exact H
     have Nbq49 := Aside0.mk hbq49
     clear hbq49
     by_cases c50 : (bq49 = true)
     ·subst c50
      rw [if_pos rfl] at H
      have H' := Aside0.mk H
      clear H
      obtain ⟨Ao51, co51, eo51⟩ := Kd.R_slice HO_11.out
      subst eo51
      have p321 : 0 ≤ (x12_2 : Int) := of_decide_eq_true aq2
      have q321 : x12_2 < (t318.length : Int) := of_decide_eq_true aq2
      obtain ⟨ad321, e321, hx321_0⟩ := Kd.at_int (Kd.R_reads' HO_11.out).2.2 x12_2 p321 q321
      cases e321
      replace p321 := eq_true p321
      replace q321 := eq_true q321
      have p322 : 0 ≤ ((rd t318 x12_2) : Int) := of_decide_eq_true aq2
      have q322 : (rd t318 x12_2) < (x7_2.length : Int) := of_decide_eq_true aq2
      obtain ⟨ad322, e322, hx322_0⟩ := Kd.at_bool (Kd.R_reads' HO_7.out).2.2 (rd t318 x12_2) p322 q322
      (try rw [← Nbq49.out] at hx322_0)
      obtain rfl : (⟨go8, 0, none⟩ : Addr) = ad322 := (by injection e322)
      (first | simp only [add_plain] at hx322_0 | simp only [add_at] at hx322_0 | simp only [Addr.add, Nat.zero_add] at hx322_0 | skip)
      replace p322 := eq_true p322
      replace q322 := eq_true q322
      go_wp2
      (try simp only [← hl7_2])
      go_roundg k2
      case measure => have := HK1.out; have := HK2.out; omega
      case rel => exact ⟨(x7_2), (x8_2), (wrap64 (x12_2 + 1)), aq5, H', ⟨aq39⟩, ⟨aq43⟩, ⟨by (try simp only [hl7_1]); (try simp only [hl7_2]); (with_reducible repeat (first | apply Kd.R_alloc | apply Kd.R_drewN | apply Kd.R_drew)); exact HO_8.out⟩, ⟨by (try simp only [hl7_1]); (try simp only [hl7_2]); (with_reducible repeat (first | apply Kd.R_alloc | apply Kd.R_drewN | apply Kd.R_drew)); exact HO_11.out⟩, ⟨by (try simp only [hl7_1]); (try simp only [hl7_2]); (with_reducible repeat (first | refine blk_drewN ?_ _ | refine blk_drew ?_ | refine blk_alloc ?_ _)); exact BK1.out⟩, ⟨aq7⟩⟩
     replace c50 := Bool.eq_false_iff.mpr c50
     subst c50
     rw [if_neg nf_] at H
     obtain ⟨y324, hy_⟩ : ∃ y_ : List Bool, y_ = (x7_2.set ((rd t318 x12_2) : Int).toNat true) := ⟨_, rfl⟩
     replace H : (if x8_2.length < 17592186044416 then (palingref15_Needed.l1 k2 l0 a1 y324 (x8_2 ++ [rd t318 x12_2]) x9_1 t318 (wrap64 (x12_2 + 1))) else (none)) = some r := aq1
     have Ny324 := Aside0.mk hy_
     clear hy_
     by_cases c53 : x8_2.length < 17592186044416
     rotate_left
     ·rw [if_neg c53] at H
      exact absurd H (by simp)
     rw [if_pos c53] at H
     have LMc53 := Aside0.mk c53
     clear c53
     obtain ⟨y326, hy_⟩ : ∃ y_ : List Int, y_ = (x8_2 ++ [rd t318 x12_2]) := ⟨_, rfl⟩
     replace H : (palingref15_Needed.l1 k2 l0 a1 y324 y326 x9_1 t318 (wrap64 (x12_2 + 1))) = some r := aq1
     have Ny326 := Aside0.mk hy_
     clear hy_
     have H' := Aside0.mk H
     clear H
     obtain ⟨Ao54, co54, eo54⟩ := Kd.R_slice HO_11.out
     subst eo54
     have p321 : 0 ≤ (x12_2 : Int) := of_decide_eq_true aq2
     have q321 : x12_2 < (t318.length : Int) := of_decide_eq_true aq2
     obtain ⟨ad321, e321, hx321_0⟩ := Kd.at_int (Kd.R_reads' HO_11.out).2.2 x12_2 p321 q321
     cases e321
     replace p321 := eq_true p321
     replace q321 := eq_true q321
     have p322 : 0 ≤ ((rd t318 x12_2) : Int) := of_decide_eq_true aq2
     have q322 : (rd t318 x12_2) < (x7_2.length : Int) := of_decide_eq_true aq2
     obtain ⟨ad322, e322, hx322_0⟩ := Kd.at_bool (Kd.R_reads' HO_7.out).2.2 (rd t318 x12_2) p322 q322
     (try rw [← Nbq49.out] at hx322_0)
     obtain rfl : (⟨go8, 0, none⟩ : Addr) = ad322 := (by injection e322)
     (first | simp only [add_plain] at hx322_0 | simp only [add_at] at hx322_0 | simp only [Addr.add, Nat.zero_add] at hx322_0 | skip)
     replace p322 := eq_true p322
     replace q322 := eq_true q322
     have p323 : 0 ≤ (x12_2 : Int) := of_decide_eq_true aq2
     have q323 : x12_2 < (t318.length : Int) := of_decide_eq_true aq2
     obtain ⟨ad323, e323, hx323_0⟩ := Kd.at_int (Kd.R_reads' HO_11.out).2.2 x12_2 p323 q323
     obtain rfl : ad321 = ad323 := (by injection e323)
     replace p323 := eq_true p323
     replace q323 := eq_true q323
     have p52 : 0 ≤ ((rd t318 x12_2) : Int) := of_decide_eq_true aq2
     have q52 : ((rd t318 x12_2) : Int) < ((x7_2.length : Int) : Int) := of_decide_eq_true aq2
     obtain ⟨hx52_0, hf52_0⟩ := Kd.R_celln false HO_7.out ((rd t318 x12_2) : Int) p52 q52
     replace p52 := eq_true p52
     replace q52 := eq_true q52
     have HP55 := Kd.R_putg HO_7.out ((rd t318 x12_2) : Int) true
     go_wp2_with (first | ((with_reducible refine gate_store (t := 4) (p := 67) rfl ?_); refine store_event (t := 4) (p := 67) (v := ?vo_w56) (w1 := (wr.setCell ⟨go8, ((rd t318 x12_2) : Int).toNat, none⟩ (.bool true))) ?hg ?ho ?hn ?hr ?_; (case ho => rfl); (case hg => rfl); (case hn => rfl); (case hr => first | (go_simp; done) | (go_simp; rfl)); intro w56 hw; have hg : wr.grownBy w56 (some go8) := (by rw [hw]; exact HP55.2); have hp_ : Kd.R Kd.bool 4 w56 w.heap.size (fun _ => True) (.slice (some ⟨go8, 0, none⟩) x7_2.length co8) y324 := (by rw [hw, Ny324.out]; exact HP55.1); clear HP55; replace HO_8 := Aside0.mk (Kd.R_over' (v := (.slice (some ⟨go8, 0, none⟩) x7_2.length co8)) aq22 (Kd.R_typed HO_7.out) (by decide) hg); replace HO_11 := Aside0.mk (Kd.R_over' (v := (.slice (some ⟨go8, 0, none⟩) x7_2.length co8)) (by (with_reducible repeat (first | apply Kd.R_alloc | apply Kd.R_drewN | apply Kd.R_drew)); exact HO_11.out) (Kd.R_typed HO_7.out) (by decide) hg); replace BK1 := Aside0.mk (blk_grown (g := gb1) (o := .cells #[.int .i64 ((rd_T28 l0 (rd x8_1 x9_1)).f0), .int .i64 ((rd_T28 l0 (rd x8_1 x9_1)).f1), .int .i64 ((rd_T28 l0 (rd x8_1 x9_1)).f2), .int .i64 ((rd_T28 l0 (rd x8_1 x9_1)).f3), .int .i64 ((rd_T28 l0 (rd x8_1 x9_1)).f4), .int .i64 ((rd_T28 l0 (rd x8_1 x9_1)).f5), .int .i64 ((rd_T28 l0 (rd x8_1 x9_1)).f6)] 28 (0, 0)) aq13 hg (Kd.R_ne HO_7.out BK1.out (by decide))); replace HO_7 := Aside0.mk (hp_); replace HB := Aside0.mk ((by rw [hw]; exact below_set (HB.out) GB8.out : Below w.heap.size w w56)); clear hg hw hp_; have p325 : 0 ≤ (x12_2 : Int) := of_decide_eq_true aq2; have q325 : x12_2 < (t318.length : Int) := of_decide_eq_true aq2; obtain ⟨ad325, e325, hx325_0⟩ := Kd.at_int (Kd.R_reads' HO_11.out).2.2 x12_2 p325 q325; obtain rfl : ad321 = ad325 := (by injection e325); replace p325 := eq_true p325; replace q325 := eq_true q325) | ((with_reducible refine gate_builtin (b := .append) (xs := #[.tmp 68, .tmp 73]) rfl ?_); at_builtin; refine Kd.R_append (Kd.int .i64) (w0 := w) w.heap.size rfl (.tmp 68) (.tmp 73) 57 3 (.int .i64 0) 8 rfl Tryd.underlying57 info3 rfl (by decide) (by omega) u8 x8_2 (rd t318 x12_2) [.int .i64 (rd t318 x12_2)] (fun k_ => some k_ ≠ (.slice (some ad321) t318.length co54 : Value).ownBlock) (fun _ => False) rfl rfl ?aP (fun _ hk => hk.elim) ?aF ?aO ?aB ?aS ?aL ?_; (case aP => exact rfl); (case aB => exact aq7); (case aF => exact (fun k_ hk => Kd.fresh' (Kd.R_lt (by (with_reducible repeat (first | apply Kd.R_alloc | apply Kd.R_drewN | apply Kd.R_drew)); exact HO_11.out)) k_ hk)); (case aO => exact aq22); (case aS => exact (below_size aq7)); (case aL => have := LMc53.out; omega); intro v327 w57 ho hb hg hat; rw [← Ny326.out] at ho; replace HO_7 := Aside0.mk (Kd.R_over' aq14 (Kd.R_typed aq22) (by decide) hg); replace HO_11 := Aside0.mk (Kd.R_after (ok := (fun _ => True)) (by (with_reducible repeat (first | apply Kd.R_alloc | apply Kd.R_drewN | apply Kd.R_drew)); exact Kd.R_mono HO_11.out (fun _ hk => ⟨trivial, hk⟩)) hg hat); replace BK1 := Aside0.mk (blk_grown (g := gb1) (o := .cells #[.int .i64 ((rd_T28 l0 (rd x8_1 x9_1)).f0), .int .i64 ((rd_T28 l0 (rd x8_1 x9_1)).f1), .int .i64 ((rd_T28 l0 (rd x8_1 x9_1)).f2), .int .i64 ((rd_T28 l0 (rd x8_1 x9_1)).f3), .int .i64 ((rd_T28 l0 (rd x8_1 x9_1)).f4), .int .i64 ((rd_T28 l0 (rd x8_1 x9_1)).f5), .int .i64 ((rd_T28 l0 (rd x8_1 x9_1)).f6)] 28 (0, 0)) aq13 hg (Kd.R_ne HO_8.out BK1.out (by decide))); replace HB := Aside0.mk (hb); have HO328 := Aside0.mk (ho); clear HO_8; clear ho hb hg hat))
     (try simp only [← hl7_2])
     go_roundg k2
     case measure => have := HK1.out; have := HK2.out; omega
     case rel => exact ⟨(y324), (y326), (wrap64 (x12_2 + 1)), aq5, H', ⟨aq39⟩, ⟨aq43⟩, ⟨by (try simp only [hl7_1]); (try simp only [hl7_2]); (with_reducible repeat (first | apply Kd.R_alloc | apply Kd.R_drewN | apply Kd.R_drew)); exact HO328.out⟩, ⟨by (try simp only [hl7_1]); (try simp only [hl7_2]); (with_reducible repeat (first | apply Kd.R_alloc | apply Kd.R_drewN | apply Kd.R_drew)); exact Kd.R_mono HO_11.out (fun _ hk => hk.2)⟩, ⟨by (try simp only [hl7_1]); (try simp only [hl7_2]); (with_reducible repeat (first | refine blk_drewN ?_ _ | refine blk_drew ?_ | refine blk_alloc ?_ _)); exact BK1.out⟩, ⟨aq7⟩⟩
end Go.Proofs.YtdopacgaklaaeaaDoor.PDeadTells
