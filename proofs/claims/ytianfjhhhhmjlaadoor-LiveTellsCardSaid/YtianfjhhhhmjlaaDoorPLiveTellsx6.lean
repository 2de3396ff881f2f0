-- Written by print2.py over the kit's printer. Not trusted: Lean checks it.
import Derived.Test.YtianfjhhhhmjlaaDoorPLiveTellshqq
import Derived.Test.YtianfjhhhhmjlaaDoorPLiveTellsx0
import Derived.Test.YtianfjhhhhmjlaaDoorPLiveTellsx3
import Derived.Test.YtianfjhhhhmjlaaDoorPLiveTellsx5
namespace Go.Proofs.YtianfjhhhhmjlaaDoor.PLiveTells
open Go.RowKit Go.Proofs.YtianfjhhhhmjlaaDoorW.PrintWords Go.Proofs.YtianfjhhhhmjlaaDoorW.PrintLast Go.Proofs.YtianfjhhhhmjlaaDoorW.PrintMore
attribute [local go_sem] max2_int min2_int max_two min_two max_three min_three max_four min_four   -- for this text's walks alone
set_option linter.unusedVariables false
set_option linter.unusedSimpArgs false

/-! ### palingref15_has: function 28 -/
def palingref15_has.l0 : Nat → List Int → Int → Int → Option (Bool)
  | 0, _, _, _ => none
  | k + 1, x0, x1, x5 => if x5 < (x0.length : Int) then (if 0 ≤ x5 then (if (rd x0 x5) = x1 then (some true) else (palingref15_has.l0 k x0 x1 (wrap64 (x5 + 1)))) else (none)) else (some false)
def palingref15_has.f (k : Nat) (l0 : List Int) (a1 : Int) : Option (Bool) := palingref15_has.l0 k l0 a1 0
theorem palingref15_has.mono_l : ∀ k, (∀ y0 y1 y2, LeO (palingref15_has.l0 k y0 y1 y2) (palingref15_has.l0 (k + 1) y0 y1 y2))
  | 0 => fun _ _ _ r h => by simp [palingref15_has.l0] at h
  | k + 1 => by
    have ih0 := palingref15_has.mono_l k
    intros <;> unfold palingref15_has.l0 <;> repeat' (first | (with_reducible first | exact ih0 _ _ _ | exact LeO.refl _ | exact LeO.none _ | refine LeO.ite ?_ ?_ | refine LeO.bind ?_ (fun _ => ?_)) | exact ih0 _ _ _ | exact LeO.none _ | refine LeO.ite ?_ ?_ | refine LeO.bind ?_ (fun _ => ?_))
theorem palingref15_has.mono : ∀ a0 a1 k, LeO (palingref15_has.f k a0 a1) (palingref15_has.f (k + 1) a0 a1) := by
 intro a0 a1 k
 have ih0 := palingref15_has.mono_l k
 unfold palingref15_has.f
 repeat' (first | (with_reducible first | exact ih0 _ _ _ | exact LeO.refl _ | exact LeO.none _ | refine LeO.ite ?_ ?_ | refine LeO.bind ?_ (fun _ => ?_)) | exact ih0 _ _ _ | exact LeO.none _ | refine LeO.ite ?_ ?_ | refine LeO.bind ?_ (fun _ => ?_))
set_option maxHeartbeats 8000000 in
set_option maxRecDepth 100000 in
theorem palingref15_has.calls (k : Nat) (A0 : Option Addr) (c0 : Nat) (l0 : List Int) (a1 : Int) (r : Bool) (w : World) (hr0 : Kd.C (Kd.int .i64) w A0 l0.length l0) (hc0 : l0.length ≤ c0) (h : palingref15_has.f k l0 a1 = some r) :
    Calls Tryd.prog 28 #[.slice A0 l0.length c0, .int .i64 a1] w fun e w' => e = .returned (.bool r) ∧ Drawn0 w w' := by
 have HR0 := Aside0.mk hr0
 have HC0 := Aside0.mk hc0
 clear hr0 hc0
 have H : (palingref15_has.l0 k l0 a1 0) = some r := h
 clear h
 have H' := Aside0.mk H
 clear H
 go_enter Tryd.func28, Tryd.ntmps28
 go_wp2
 go_loopg [5] k (fun kq v5 w' => ∃ (x5_1 : Int), v5 = .int .i64 x5_1 ∧ Aside0 (palingref15_has.l0 kq l0 a1 x5_1 = some r) ∧ Aside0 (kq ≤ k) ∧ Drawn0 w w')
 case atStart => exact ⟨(0), aq9, H', ⟨Nat.le_refl _⟩, aq21⟩
 case round =>
  clear H'
  obtain ⟨x5_1, rfl, HA, HK1, ⟨m1, rfl⟩⟩ := hrel
  cases gk with
  | zero => exact absurd HA.out (by simp [palingref15_has.l0])
  | succ k1 =>
   have H := HA.out
   clear HA
   simp only [palingref15_has.l0] at H
   by_cases c3 : x5_1 < (l0.length : Int)
   rotate_left
   ·rw [if_neg c3] at H
    have c3b0 : decide (x5_1 < (l0.length : Int)) = false := decide_eq_false c3
    clear c3
    obtain rfl := Option.some.inj H
    go_wp2
    go_ret
    exact ⟨aq9, aq21⟩
   rw [if_pos c3] at H
   have c3b0 : decide (x5_1 < (l0.length : Int)) = true := decide_eq_true c3
   clear c3
   by_cases c4 : 0 ≤ x5_1
   rotate_left
   ·rw [if_neg c4] at H
    exact absurd H (by simp)
   rw [if_pos c4] at H
   have c4b0 : decide (0 ≤ x5_1) = true := decide_eq_true c4
   clear c4
   by_cases c5 : (rd l0 x5_1) = a1
   ·rw [if_pos c5] at H
    have c5b0 : ((rd l0 x5_1) == a1) = true := beq_iff_eq.mpr c5
    have c5b1 : ((rd l0 x5_1) != a1) = false := bne_eq_false_iff_eq.mpr c5
    clear c5
    obtain rfl := Option.some.inj H
    have p244 : 0 ≤ (x5_1 : Int) := of_decide_eq_true aq1
    have q244 : x5_1 < (l0.length : Int) := of_decide_eq_true aq1
    obtain ⟨ad244, e244, hx244_0⟩ := Kd.at_int HR0.out x5_1 p244 q244
    cases e244
    replace p244 := eq_true p244
    replace q244 := eq_true q244
    go_wp2
    go_ret
    exact ⟨aq9, aq21⟩
   rw [if_neg c5] at H
   have c5b0 : ((rd l0 x5_1) == a1) = false := beq_eq_false_iff_ne.mpr c5
   have c5b1 : ((rd l0 x5_1) != a1) = true := bne_iff_ne.mpr c5
   have H' := Aside0.mk H
   clear H
   have p244 : 0 ≤ (x5_1 : Int) := of_decide_eq_true aq1
   have q244 : x5_1 < (l0.length : Int) := of_decide_eq_true aq1
   obtain ⟨ad244, e244, hx244_0⟩ := Kd.at_int HR0.out x5_1 p244 q244
   cases e244
   replace p244 := eq_true p244
   replace q244 := eq_true q244
   go_wp2
   go_roundg k1
   case measure => have := HK1.out; omega
   case rel => exact ⟨(wrap64 (x5_1 + 1)), aq9, H', ⟨aq60⟩, aq21⟩
/-! ### palingref15_Needed: function 30 -/
mutual
def palingref15_Needed.l0 : Nat → List (S39) → Int → List Bool → List Int → Int → Option (Bool)
  | 0, _, _, _, _, _ => none
  | k + 1, x0, x1, x7, x8, x9 => if x9 < (x8.length : Int) then (if 0 ≤ x9 then (if 0 ≤ (rd x8 x9) then (if (rd x8 x9) < (x0.length : Int) then ((palingref11_Uses.f k ((rd_T39 x0 (rd x8 x9)).f0) ((rd_T39 x0 (rd x8 x9)).f1) ((rd_T39 x0 (rd x8 x9)).f2) ((rd_T39 x0 (rd x8 x9)).f3) ((rd_T39 x0 (rd x8 x9)).f4) ((rd_T39 x0 (rd x8 x9)).f5) ((rd_T39 x0 (rd x8 x9)).f6)).bind fun t255 => ((palingref15_has.f k t255 x1).bind fun t258 => (if t258 = true then (some true) else ((palingref11_Def.f k ((rd_T39 x0 (rd x8 x9)).f0) ((rd_T39 x0 (rd x8 x9)).f1) ((rd_T39 x0 (rd x8 x9)).f2) ((rd_T39 x0 (rd x8 x9)).f3) ((rd_T39 x0 (rd x8 x9)).f4) ((rd_T39 x0 (rd x8 x9)).f5) ((rd_T39 x0 (rd x8 x9)).f6)).bind fun t259 => (if t259 = x1 then (palingref15_Needed.l0 k x0 x1 x7 x8 (wrap64 (x9 + 1))) else ((palingref14_Next.f k x0 (rd x8 x9)).bind fun t261 => (palingref15_Needed.l1 k x0 x1 x7 x8 x9 t261 0))))))) else (none)) else (none)) else (none)) else (some false)
def palingref15_Needed.l1 : Nat → List (S39) → Int → List Bool → List Int → Int → List Int → Int → Option (Bool)
  | 0, _, _, _, _, _, _, _ => none
  | k + 1, x0, x1, x7, x8, x9, x11, x12 => if x12 < (x11.length : Int) then (if 0 ≤ x12 then (if 0 ≤ (rd x11 x12) then (if (rd x11 x12) < (x7.length : Int) then (if (rdOf false x7 (rd x11 x12) = true) then (palingref15_Needed.l1 k x0 x1 x7 x8 x9 x11 (wrap64 (x12 + 1))) else (if x8.length < 17592186044416 then (palingref15_Needed.l1 k x0 x1 (x7.set ((rd x11 x12) : Int).toNat true) (x8 ++ [rd x11 x12]) x9 x11 (wrap64 (x12 + 1))) else (none))) else (none)) else (none)) else (none)) else (palingref15_Needed.l0 k x0 x1 x7 x8 (wrap64 (x9 + 1)))
end
def palingref15_Needed.f (k : Nat) (l0 : List (S39)) (a1 : Int) (a2 : Int) : Option (Bool) := if 0 ≤ (l0.length : Int) then (if ((l0.length : Int) : Int).toNat ≤ 281474976710656 then ((some (List.replicate ((l0.length : Int) : Int).toNat false : List Bool)).bind fun y245 => (if 0 ≤ a2 then (if a2 < (y245.length : Int) then (palingref15_Needed.l0 k l0 a1 (y245.set (a2 : Int).toNat true) (([a2] : List Int)) 0) else (none)) else (none))) else (none)) else (none)
theorem palingref15_Needed.mono_l : ∀ k, (∀ y0 y1 y2 y3 y4, LeO (palingref15_Needed.l0 k y0 y1 y2 y3 y4) (palingref15_Needed.l0 (k + 1) y0 y1 y2 y3 y4)) ∧ (∀ y0 y1 y2 y3 y4 y5 y6, LeO (palingref15_Needed.l1 k y0 y1 y2 y3 y4 y5 y6) (palingref15_Needed.l1 (k + 1) y0 y1 y2 y3 y4 y5 y6))
  | 0 => ⟨fun _ _ _ _ _ r h => by simp [palingref15_Needed.l0] at h, fun _ _ _ _ _ _ _ r h => by simp [palingref15_Needed.l1] at h⟩
  | k + 1 => by
    obtain ⟨ih0, ih1⟩ := palingref15_Needed.mono_l k
    refine ⟨?_, ?_⟩ <;> intros <;> (first | unfold palingref15_Needed.l0 | unfold palingref15_Needed.l1) <;> repeat' (first | (with_reducible first | exact ih0 _ _ _ _ _ | exact ih1 _ _ _ _ _ _ _ | exact palingref11_Def.mono _ _ _ _ _ _ _ _ | exact palingref11_Uses.mono _ _ _ _ _ _ _ _ | exact palingref14_Next.mono _ _ _ | exact palingref15_has.mono _ _ _ | exact LeO.refl _ | exact LeO.none _ | refine LeO.ite ?_ ?_ | refine LeO.bind ?_ (fun _ => ?_)) | exact ih0 _ _ _ _ _ | exact ih1 _ _ _ _ _ _ _ | exact palingref11_Def.mono _ _ _ _ _ _ _ _ | exact palingref11_Uses.mono _ _ _ _ _ _ _ _ | exact palingref14_Next.mono _ _ _ | exact palingref15_has.mono _ _ _ | exact LeO.none _ | refine LeO.ite ?_ ?_ | refine LeO.bind ?_ (fun _ => ?_))
theorem palingref15_Needed.mono : ∀ a0 a1 a2 k, LeO (palingref15_Needed.f k a0 a1 a2) (palingref15_Needed.f (k + 1) a0 a1 a2) := by
 intro a0 a1 a2 k
 obtain ⟨ih0, ih1⟩ := palingref15_Needed.mono_l k
 unfold palingref15_Needed.f
 repeat' (first | (with_reducible first | exact ih0 _ _ _ _ _ | exact ih1 _ _ _ _ _ _ _ | exact palingref11_Def.mono _ _ _ _ _ _ _ _ | exact palingref11_Uses.mono _ _ _ _ _ _ _ _ | exact palingref14_Next.mono _ _ _ | exact palingref15_has.mono _ _ _ | exact LeO.refl _ | exact LeO.none _ | refine LeO.ite ?_ ?_ | refine LeO.bind ?_ (fun _ => ?_)) | exact ih0 _ _ _ _ _ | exact ih1 _ _ _ _ _ _ _ | exact palingref11_Def.mono _ _ _ _ _ _ _ _ | exact palingref11_Uses.mono _ _ _ _ _ _ _ _ | exact palingref14_Next.mono _ _ _ | exact palingref15_has.mono _ _ _ | exact LeO.none _ | refine LeO.ite ?_ ?_ | refine LeO.bind ?_ (fun _ => ?_))
set_option maxHeartbeats 8000000 in
set_option maxRecDepth 100000 in
theorem palingref15_Needed.calls (k : Nat) (A0 : Option Addr) (c0 : Nat) (l0 : List (S39)) (a1 : Int) (a2 : Int) (r : Bool) (w : World) (hr0 : Kd.C k39 w A0 l0.length l0) (hc0 : l0.length ≤ c0) (h : palingref15_Needed.f k l0 a1 a2 = some r) :
    Calls Tryd.prog 30 #[.slice A0 l0.length c0, .int .i64 a1, .int .i64 a2] w fun e w' => e = .returned (.bool r) ∧ Below w.heap.size w w' := by
 have hu39 := Tryd.underlying39
 have HR0 := Aside0.mk hr0
 have HC0 := Aside0.mk hc0
 clear hr0 hc0
 have HB := Aside0.mk (Below.refl w.heap.size w)
 have H : (if 0 ≤ (l0.length : Int) then (if ((l0.length : Int) : Int).toNat ≤ 281474976710656 then ((some (List.replicate ((l0.length : Int) : Int).toNat false : List Bool)).bind fun y245 => (if 0 ≤ a2 then (if a2 < (y245.length : Int) then (palingref15_Needed.l0 k l0 a1 (y245.set (a2 : Int).toNat true) (([a2] : List Int)) 0) else (none)) else (none))) else (none)) else (none)) = some r := h
 clear h
 by_cases c4 : 0 ≤ (l0.length : Int)
 rotate_left
 ·rw [if_neg c4] at H
  exact absurd H (by simp)
 rw [if_pos c4] at H
 have c4b0 := eq_true c4
 have c4b1 : decide (0 ≤ (l0.length : Int)) = true := decide_eq_true c4
 clear c4
 by_cases c5 : ((l0.length : Int) : Int).toNat ≤ 281474976710656
 rotate_left
 ·rw [if_neg c5] at H
  exact absurd H (by simp)
 rw [if_pos c5] at H
 have c5b0 := eq_true c5
 have c5b1 : decide (((l0.length : Int) : Int).toNat ≤ 281474976710656) = true := decide_eq_true c5
 clear c5
 obtain ⟨y245, hy_⟩ : ∃ y_ : List Bool, y_ = (List.replicate ((l0.length : Int) : Int).toNat false) := ⟨_, rfl⟩
 replace H : (if 0 ≤ a2 then (if a2 < (y245.length : Int) then (palingref15_Needed.l0 k l0 a1 (y245.set (a2 : Int).toNat true) (([a2] : List Int)) 0) else (none)) else (none)) = some r := aq2
 have Ny245 := Aside0.mk hy_
 clear hy_
 obtain ⟨y248, hy_⟩ : ∃ y_ : List Int, y_ = (([a2] : List Int)) := ⟨_, rfl⟩
 replace H : (if 0 ≤ a2 then (if a2 < (y245.length : Int) then (palingref15_Needed.l0 k l0 a1 (y245.set (a2 : Int).toNat true) y248 0) else (none)) else (none)) = some r := aq2
 have Ny248 := Aside0.mk hy_
 clear hy_
 by_cases c6 : 0 ≤ a2
 rotate_left
 ·rw [if_neg c6] at H
  exact absurd H (by simp)
 rw [if_pos c6] at H
 have c6b0 : decide (0 ≤ a2) = true := decide_eq_true c6
 clear c6
 by_cases c7 : a2 < (y245.length : Int)
 rotate_left
 ·rw [if_neg c7] at H
  exact absurd H (by simp)
 rw [if_pos c7] at H
 have c7b0 : decide (a2 < (y245.length : Int)) = true := decide_eq_true c7
 clear c7
 obtain ⟨y251, hy_⟩ : ∃ y_ : List Bool, y_ = (y245.set (a2 : Int).toNat true) := ⟨_, rfl⟩
 replace H : (palingref15_Needed.l0 k l0 a1 y251 y248 0) = some r := aq2
 have Ny251 := Aside0.mk hy_
 clear hy_
 have H' := Aside0.mk H
 clear H
 go_enter Tryd.func30, Tryd.ntmps30
 go_wp2_with (first | ((with_reducible refine gate_dst (N := 15) rfl ?_); refine Kd.R_make Kd.bool _ 4 rfl (N := 15) rfl 72 _ _ rfl (l0.length : Int) rfl rfl Tryd.underlying72 (.bool false) 1 info4 rfl (by decide) (by omega) false (ok := fun _ => True) (okp := fun _ => True) rfl (fun _ hk => hk) trivial (of_decide_eq_true aq1) (Nat.le_trans (Nat.mul_le_mul_right _ (of_decide_eq_true aq1 : (l0.length : Int).toNat ≤ 281474976710656)) (by omega)) (Below.refl _ _) (Nat.le_refl _) ?_; intro v246 w9 ho10 hb hg_ hnew_; clear hg_ hnew_; (first | rw [← Ny245.out] at ho10 | (simp only [Int.reduceToNat] at ho10; rw [← Ny245.out] at ho10)); have HO247 := Aside0.mk (Kd.R_lower ho10 (below_size aq0)); replace HB := Aside0.mk (below_step aq0 hb); clear hb ho10) | ((with_reducible refine gate_dst (N := 17) rfl ?_); refine Kd.R_lit (Kd.int .i64) _ 3 ?hg (N := 17) ?hd (xs := ([a2] : List Int)) (inner := [.int .i64 a2]) (ok := fun _ => True) (okp := fun _ => True) ?hr ?hp (fun _ hk => hk) trivial (Below.refl _ _) (Nat.le_refl _) (by simp) ?_; (case hd => rfl); (case hg => rfl); (case hr => first | (go_simp; done) | (go_simp; rfl)); (case hp => exact (Reps.one (show Kd.M (Kd.int .i64) _ _ _ a2 [.int .i64 a2] from rfl) (Reps.none _ _))); intro v249 w11 ho12 hb hg_ hnew_; clear hg_ hnew_; (first | rw [← Ny248.out] at ho12 | (simp only [Int.reduceToNat] at ho12; rw [← Ny248.out] at ho12)); replace HO247 := Aside0.mk (Kd.R_below (by (with_reducible repeat (first | apply Kd.R_alloc | apply Kd.R_drewN | apply Kd.R_drew)); exact HO247.out) hb); have HO250 := Aside0.mk (Kd.R_lower ho12 (below_size aq0)); replace HB := Aside0.mk (below_step aq0 hb); clear hb ho12; have p8 : 0 ≤ (a2 : Int) := of_decide_eq_true aq1; have q8 : (a2 : Int) < ((y245.length : Int) : Int) := of_decide_eq_true aq1; obtain ⟨go8, co8, eo8, gb0, gl8, cl8, HG8⟩ := Kd.R_form HO247.out (by omega); (first | cases eo8 | (injection eo8 with ea_ en_ ec_; (first | subst ea_ | (injection ea_ with ea_; subst ea_)); subst ec_; clear en_)); have GB8 := Aside0.mk gb0; have GG8 := Aside0.mk HG8; clear gb0 gl8 HG8; obtain ⟨hx8_0, hf8_0⟩ := Kd.R_celln false HO247.out (a2 : Int) p8 q8; replace p8 := eq_true p8; replace q8 := eq_true q8; obtain ⟨hy13_, hz13_⟩ := Kd.R_celln false HO247.out (a2 : Int) (of_decide_eq_true aq1) (of_decide_eq_true aq1); have HP13 := Kd.R_putg HO247.out (a2 : Int) true) | ((with_reducible refine gate_store (t := 4) (p := 20) rfl ?_); refine store_event (t := 4) (p := 20) (v := ?vo_w14) (w1 := (w11.setCell ⟨go8, (a2 : Int).toNat, none⟩ (.bool true))) ?hg ?ho ?hn ?hr ?_; (case ho => rfl); (case hg => rfl); (case hn => rfl); (case hr => first | (go_simp; done) | (go_simp; rfl)); intro w14 hw; have hg : w11.grownBy w14 (some go8) := (by rw [hw]; exact HP13.2); have hp_ : Kd.R Kd.bool 4 w14 w.heap.size (fun _ => True) (.slice (some ⟨go8, 0, none⟩) y245.length co8) y251 := (by rw [hw, Ny251.out]; exact HP13.1); clear HP13; replace HO250 := Aside0.mk (Kd.R_over' (v := (.slice (some ⟨go8, 0, none⟩) y245.length co8)) (by (with_reducible repeat (first | apply Kd.R_alloc | apply Kd.R_drewN | apply Kd.R_drew)); exact HO250.out) (Kd.R_typed HO247.out) (by decide) hg); replace HO247 := Aside0.mk (hp_); replace HB := Aside0.mk ((by rw [hw]; exact below_set (HB.out) GB8.out : Below w.heap.size w w14)); clear hg hw hp_))
 go_loopg [8, 9] k (fun kq v8 v9 w' => ∃ (x7_1 : List Bool) (x8_1 : List Int) (x9_1 : Int), v9 = .int .i64 x9_1 ∧ Aside0 (palingref15_Needed.l0 kq l0 a1 x7_1 x8_1 x9_1 = some r) ∧ Aside0 (kq ≤ k) ∧ Aside0 (Kd.R Kd.bool 4 w' w.heap.size (fun _ => True) (.slice (some ⟨go8, 0, none⟩) y245.length co8) x7_1) ∧ Aside0 (Kd.R (Kd.int .i64) 3 w' w.heap.size (fun _ => True) v8 x8_1) ∧ Aside0 (Below w.heap.size w w'))
 case atStart => exact ⟨(y251), (y248), (0), aq9, H', ⟨Nat.le_refl _⟩, ⟨by (with_reducible repeat (first | apply Kd.R_alloc | apply Kd.R_drewN | apply Kd.R_drew)); exact HO247.out⟩, ⟨by (with_reducible repeat (first | apply Kd.R_alloc | apply Kd.R_drewN | apply Kd.R_drew)); exact HO250.out⟩, ⟨aq0⟩⟩
 case round =>
  clear H'
  try clear hf8
  obtain ⟨x7_1, x8_1, x9_1, rfl, HA, HK1, HO_7, HO_8, HB⟩ := hrel
  have hl7_1 := (Kd.R_reads' HO_7.out).1
  rw [hl7_1] at HO_7
  (try simp only [hl7_1])
  (try simp only [hl7_1] at HO_8)
  cases gk with
  | zero => exact absurd HA.out (by simp [palingref15_Needed.l0])
  | succ k1 =>
   have H := HA.out
   clear HA
   simp only [palingref15_Needed.l0] at H
   by_cases c15 : x9_1 < (x8_1.length : Int)
   rotate_left
   ·rw [if_neg c15] at H
    have c15b0 : decide (x9_1 < (x8_1.length : Int)) = false := decide_eq_false c15
    clear c15
    obtain rfl := Option.some.inj H
    obtain ⟨Ao59, co59, eo59⟩ := Kd.R_slice HO_8.out
    subst eo59
    go_wp2
    go_ret
    exact ⟨aq13, aq0⟩
   rw [if_pos c15] at H
   have c15b0 : decide (x9_1 < (x8_1.length : Int)) = true := decide_eq_true c15
   clear c15
   by_cases c16 : 0 ≤ x9_1
   rotate_left
   ·rw [if_neg c16] at H
    exact absurd H (by simp)
   rw [if_pos c16] at H
   have c16b0 : decide (0 ≤ x9_1) = true := decide_eq_true c16
   clear c16
   by_cases c17 : 0 ≤ (rd x8_1 x9_1)
   rotate_left
   ·rw [if_neg c17] at H
    exact absurd H (by simp)
   rw [if_pos c17] at H
   have c17b0 : decide (0 ≤ (rd x8_1 x9_1)) = true := decide_eq_true c17
   clear c17
   by_cases c18 : (rd x8_1 x9_1) < (l0.length : Int)
   rotate_left
   ·rw [if_neg c18] at H
    exact absurd H (by simp)
   rw [if_pos c18] at H
   have c18b0 : decide ((rd x8_1 x9_1) < (l0.length : Int)) = true := decide_eq_true c18
   clear c18
   obtain ⟨t255, A19, H⟩ := bS_ H
   obtain ⟨t258, A20, H⟩ := bS_ H
   by_cases c21 : t258 = true
   ·subst c21
    rw [if_pos rfl] at H
    obtain rfl := Option.some.inj H
    obtain ⟨Ao22, co22, eo22⟩ := Kd.R_slice HO_8.out
    subst eo22
    have p252 : 0 ≤ (x9_1 : Int) := of_decide_eq_true aq1
    have q252 : x9_1 < (x8_1.length : Int) := of_decide_eq_true aq1
    obtain ⟨ad252, e252, hx252_0⟩ := Kd.at_int (Kd.R_reads' HO_8.out).2.2 x9_1 p252 q252
    cases e252
    replace p252 := eq_true p252
    replace q252 := eq_true q252
    have p253 : 0 ≤ ((rd x8_1 x9_1) : Int) := of_decide_eq_true aq1
    have q253 : (rd x8_1 x9_1) < (l0.length : Int) := of_decide_eq_true aq1
    obtain ⟨ad253, e253, hx253_0, hx253_1, hx253_2, hx253_3, hx253_4, hx253_5, hx253_6⟩ := at_T39 HR0.out (rd x8_1 x9_1) p253 q253
    cases e253
    replace hx253_0 := (HB.out.cell (World.block_lt_of_cell? w _ hx253_0)).trans hx253_0
    replace hx253_1 := (HB.out.cell (World.block_lt_of_cell? w _ hx253_1)).trans hx253_1
    replace hx253_2 := (HB.out.cell (World.block_lt_of_cell? w _ hx253_2)).trans hx253_2
    replace hx253_3 := (HB.out.cell (World.block_lt_of_cell? w _ hx253_3)).trans hx253_3
    replace hx253_4 := (HB.out.cell (World.block_lt_of_cell? w _ hx253_4)).trans hx253_4
    replace hx253_5 := (HB.out.cell (World.block_lt_of_cell? w _ hx253_5)).trans hx253_5
    replace hx253_6 := (HB.out.cell (World.block_lt_of_cell? w _ hx253_6)).trans hx253_6
    replace p253 := eq_true p253
    replace q253 := eq_true q253
    go_wp2_with (first | ((with_reducible refine gate_dst (N := 10) rfl ?_); refine box_event ?hg (N := 10) ?hd (cs := #[.int .i64 0, .int .i64 0, .int .i64 0, .int .i64 0, .int .i64 0, .int .i64 0, .int .i64 0]) (t := 39) ?hr ?_; (case hd => rfl); (case hg => rfl); (case hr => first | (go_simp; done) | (go_simp; rfl)); intro gb1 hg w23 hbox hb; have n0_ := Aside0.mk (Kd.R_below aq22 hb); have n1_ := Aside0.mk (Kd.R_below aq25 hb); have n2_ := Aside0.mk (below_step aq0 hb); have n3_ := Aside0.mk (hbox); have n4_ := Aside0.mk ((by rw [hg]; exact (below_size aq0) : w.heap.size ≤ gb1)); have n5_ := Aside0.mk ((by rw [hg]; exact (below_size aq0) : w.heap.size ≤ gb1)); clear HO_7; clear HO_8; clear HB; have HO_7 := n0_; have HO_8 := n1_; have HB := n2_; have BK1 := n3_; have GW1 := n4_; have GE1 := n5_; clear n0_ n1_ n2_ n3_ n4_ n5_; clear hb hbox hg; obtain ⟨hcz24_0, hcz24_1, hcz24_2, hcz24_3, hcz24_4, hcz24_5, hcz24_6, hfz24_0, hfz24_1, hfz24_2, hfz24_3, hfz24_4, hfz24_5, hfz24_6⟩ := czf7 BK1.out) | ((with_reducible refine gate_callee (f := 18) rfl ?_); refine goesL_ (some 35) rfl rfl Tryd.func18 (by kernel_rfl) rfl #[.agg #[.int .i64 ((rd_T39 l0 (rd x8_1 x9_1)).f0), .int .i64 ((rd_T39 l0 (rd x8_1 x9_1)).f1), .int .i64 ((rd_T39 l0 (rd x8_1 x9_1)).f2), .int .i64 ((rd_T39 l0 (rd x8_1 x9_1)).f3), .int .i64 ((rd_T39 l0 (rd x8_1 x9_1)).f4), .int .i64 ((rd_T39 l0 (rd x8_1 x9_1)).f5), .int .i64 ((rd_T39 l0 (rd x8_1 x9_1)).f6)]] rfl aq5 ?_; (with_reducible refine (palingref11_Uses.calls k1 ((rd_T39 l0 (rd x8_1 x9_1)).f0) ((rd_T39 l0 (rd x8_1 x9_1)).f1) ((rd_T39 l0 (rd x8_1 x9_1)).f2) ((rd_T39 l0 (rd x8_1 x9_1)).f3) ((rd_T39 l0 (rd x8_1 x9_1)).f4) ((rd_T39 l0 (rd x8_1 x9_1)).f5) ((rd_T39 l0 (rd x8_1 x9_1)).f6) t255 _ A19.out).mono ?_); rintro e w25 ⟨v256, rfl, ho0, hb⟩; refine ⟨_, rfl, ?_⟩; replace HO_7 := Aside0.mk (Kd.R_below aq15 hb); have HO257 := Aside0.mk (Kd.R_lower (Kd.R_new' ho0 (Kd.R_lt aq8)) (below_size aq12)); replace HO_8 := Aside0.mk (Kd.R_elder' aq8 (Kd.R_base ho0) hb); replace BK1 := Aside0.mk (blk_below (g := gb1) (o := .cells #[.int .i64 ((rd_T39 l0 (rd x8_1 x9_1)).f0), .int .i64 ((rd_T39 l0 (rd x8_1 x9_1)).f1), .int .i64 ((rd_T39 l0 (rd x8_1 x9_1)).f2), .int .i64 ((rd_T39 l0 (rd x8_1 x9_1)).f3), .int .i64 ((rd_T39 l0 (rd x8_1 x9_1)).f4), .int .i64 ((rd_T39 l0 (rd x8_1 x9_1)).f5), .int .i64 ((rd_T39 l0 (rd x8_1 x9_1)).f6)] 39 (0, 0)) aq4 hb); replace HB := Aside0.mk (below_step aq12 hb); (try clear hb); (try clear hb2); (try clear hk); (try clear hi); (try clear ho0); obtain ⟨Ao26, co26, eo26⟩ := Kd.R_slice HO257.out; subst eo26) | ((with_reducible refine gate_callee (f := 28) rfl ?_); refine goesL_ (some 37) rfl rfl Tryd.func28 (by kernel_rfl) rfl #[.slice Ao26 t255.length co26, .int .i64 a1] rfl aq5 ?_; (with_reducible refine (palingref15_has.calls k1 _ _ t255 a1 true _ ?side1 ?side2 A20.out).mono ?_); (case side1 => repeat (first | exact (Kd.R_reads' HO257.out).2.2 | (with_reducible refine Kd.C_alloc ?_ _) | (with_reducible refine Kd.C_drewN ?_ _) | (with_reducible refine Kd.C_drew ?_))); (case side2 => exact (Kd.R_reads' HO257.out).2.1); rintro e w' ⟨rfl, ⟨nd, rfl⟩⟩; refine ⟨_, rfl, ?_⟩))
    go_ret
    exact ⟨aq13, aq12⟩
   replace c21 := Bool.eq_false_iff.mpr c21
   subst c21
   rw [if_neg nf_] at H
   obtain ⟨t259, A27, H⟩ := bS_ H
   by_cases c28 : t259 = a1
   ·rw [if_pos c28] at H
    have c28b0 : (t259 == a1) = true := beq_iff_eq.mpr c28
    have c28b1 : (t259 != a1) = false := bne_eq_false_iff_eq.mpr c28
    clear c28
    have H' := Aside0.mk H
    clear H
    obtain ⟨Ao29, co29, eo29⟩ := Kd.R_slice HO_8.out
    subst eo29
    have p252 : 0 ≤ (x9_1 : Int) := of_decide_eq_true aq1
    have q252 : x9_1 < (x8_1.length : Int) := of_decide_eq_true aq1
    obtain ⟨ad252, e252, hx252_0⟩ := Kd.at_int (Kd.R_reads' HO_8.out).2.2 x9_1 p252 q252
    cases e252
    replace p252 := eq_true p252
    replace q252 := eq_true q252
    have p253 : 0 ≤ ((rd x8_1 x9_1) : Int) := of_decide_eq_true aq1
    have q253 : (rd x8_1 x9_1) < (l0.length : Int) := of_decide_eq_true aq1
    obtain ⟨ad253, e253, hx253_0, hx253_1, hx253_2, hx253_3, hx253_4, hx253_5, hx253_6⟩ := at_T39 HR0.out (rd x8_1 x9_1) p253 q253
    cases e253
    replace hx253_0 := (HB.out.cell (World.block_lt_of_cell? w _ hx253_0)).trans hx253_0
    replace hx253_1 := (HB.out.cell (World.block_lt_of_cell? w _ hx253_1)).trans hx253_1
    replace hx253_2 := (HB.out.cell (World.block_lt_of_cell? w _ hx253_2)).trans hx253_2
    replace hx253_3 := (HB.out.cell (World.block_lt_of_cell? w _ hx253_3)).trans hx253_3
    replace hx253_4 := (HB.out.cell (World.block_lt_of_cell? w _ hx253_4)).trans hx253_4
    replace hx253_5 := (HB.out.cell (World.block_lt_of_cell? w _ hx253_5)).trans hx253_5
    replace hx253_6 := (HB.out.cell (World.block_lt_of_cell? w _ hx253_6)).trans hx253_6
    replace p253 := eq_true p253
    replace q253 := eq_true q253
    go_wp2_with (first | ((with_reducible refine gate_dst (N := 10) rfl ?_); refine box_event ?hg (N := 10) ?hd (cs := #[.int .i64 0, .int .i64 0, .int .i64 0, .int .i64 0, .int .i64 0, .int .i64 0, .int .i64 0]) (t := 39) ?hr ?_; (case hd => rfl); (case hg => rfl); (case hr => first | (go_simp; done) | (go_simp; rfl)); intro gb1 hg w30 hbox hb; have n0_ := Aside0.mk (Kd.R_below aq22 hb); have n1_ := Aside0.mk (Kd.R_below aq25 hb); have n2_ := Aside0.mk (below_step aq0 hb); have n3_ := Aside0.mk (hbox); have n4_ := Aside0.mk ((by rw [hg]; exact (below_size aq0) : w.heap.size ≤ gb1)); have n5_ := Aside0.mk ((by rw [hg]; exact (below_size aq0) : w.heap.size ≤ gb1)); clear HO_7; clear HO_8; clear HB; have HO_7 := n0_; have HO_8 := n1_; have HB := n2_; have BK1 := n3_; have GW1 := n4_; have GE1 := n5_; clear n0_ n1_ n2_ n3_ n4_ n5_; clear hb hbox hg; obtain ⟨hcz31_0, hcz31_1, hcz31_2, hcz31_3, hcz31_4, hcz31_5, hcz31_6, hfz31_0, hfz31_1, hfz31_2, hfz31_3, hfz31_4, hfz31_5, hfz31_6⟩ := czf7 BK1.out) | ((with_reducible refine gate_callee (f := 18) rfl ?_); refine goesL_ (some 35) rfl rfl Tryd.func18 (by kernel_rfl) rfl #[.agg #[.int .i64 ((rd_T39 l0 (rd x8_1 x9_1)).f0), .int .i64 ((rd_T39 l0 (rd x8_1 x9_1)).f1), .int .i64 ((rd_T39 l0 (rd x8_1 x9_1)).f2), .int .i64 ((rd_T39 l0 (rd x8_1 x9_1)).f3), .int .i64 ((rd_T39 l0 (rd x8_1 x9_1)).f4), .int .i64 ((rd_T39 l0 (rd x8_1 x9_1)).f5), .int .i64 ((rd_T39 l0 (rd x8_1 x9_1)).f6)]] rfl aq5 ?_; (with_reducible refine (palingref11_Uses.calls k1 ((rd_T39 l0 (rd x8_1 x9_1)).f0) ((rd_T39 l0 (rd x8_1 x9_1)).f1) ((rd_T39 l0 (rd x8_1 x9_1)).f2) ((rd_T39 l0 (rd x8_1 x9_1)).f3) ((rd_T39 l0 (rd x8_1 x9_1)).f4) ((rd_T39 l0 (rd x8_1 x9_1)).f5) ((rd_T39 l0 (rd x8_1 x9_1)).f6) t255 _ A19.out).mono ?_); rintro e w32 ⟨v256, rfl, ho0, hb⟩; refine ⟨_, rfl, ?_⟩; replace HO_7 := Aside0.mk (Kd.R_below aq15 hb); have HO257 := Aside0.mk (Kd.R_lower (Kd.R_new' ho0 (Kd.R_lt aq8)) (below_size aq12)); replace HO_8 := Aside0.mk (Kd.R_elder' aq8 (Kd.R_base ho0) hb); replace BK1 := Aside0.mk (blk_below (g := gb1) (o := .cells #[.int .i64 ((rd_T39 l0 (rd x8_1 x9_1)).f0), .int .i64 ((rd_T39 l0 (rd x8_1 x9_1)).f1), .int .i64 ((rd_T39 l0 (rd x8_1 x9_1)).f2), .int .i64 ((rd_T39 l0 (rd x8_1 x9_1)).f3), .int .i64 ((rd_T39 l0 (rd x8_1 x9_1)).f4), .int .i64 ((rd_T39 l0 (rd x8_1 x9_1)).f5), .int .i64 ((rd_T39 l0 (rd x8_1 x9_1)).f6)] 39 (0, 0)) aq4 hb); replace HB := Aside0.mk (below_step aq12 hb); (try clear hb); (try clear hb2); (try clear hk); (try clear hi); (try clear ho0); obtain ⟨Ao33, co33, eo33⟩ := Kd.R_slice HO257.out; subst eo33) | ((with_reducible refine gate_callee (f := 28) rfl ?_); refine goesL_ (some 37) rfl rfl Tryd.func28 (by kernel_rfl) rfl #[.slice Ao33 t255.length co33, .int .i64 a1] rfl aq5 ?_; (with_reducible refine (palingref15_has.calls k1 _ _ t255 a1 false _ ?side1 ?side2 A20.out).mono ?_); (case side1 => repeat (first | exact (Kd.R_reads' HO257.out).2.2 | (with_reducible refine Kd.C_alloc ?_ _) | (with_reducible refine Kd.C_drewN ?_ _) | (with_reducible refine Kd.C_drew ?_))); (case side2 => exact (Kd.R_reads' HO257.out).2.1); rintro e w' ⟨rfl, ⟨nd, rfl⟩⟩; refine ⟨_, rfl, ?_⟩; obtain ⟨hcz34_0, hcz34_1, hcz34_2, hcz34_3, hcz34_4, hcz34_5, hcz34_6, hfz34_0, hfz34_1, hfz34_2, hfz34_3, hfz34_4, hfz34_5, hfz34_6⟩ := czf7 BK1.out) | ((with_reducible refine gate_callee (f := 19) rfl ?_); refine goesL_ (some 39) rfl rfl Tryd.func19 (by kernel_rfl) rfl #[.agg #[.int .i64 ((rd_T39 l0 (rd x8_1 x9_1)).f0), .int .i64 ((rd_T39 l0 (rd x8_1 x9_1)).f1), .int .i64 ((rd_T39 l0 (rd x8_1 x9_1)).f2), .int .i64 ((rd_T39 l0 (rd x8_1 x9_1)).f3), .int .i64 ((rd_T39 l0 (rd x8_1 x9_1)).f4), .int .i64 ((rd_T39 l0 (rd x8_1 x9_1)).f5), .int .i64 ((rd_T39 l0 (rd x8_1 x9_1)).f6)]] rfl aq5 ?_; (with_reducible refine (palingref11_Def.calls k1 ((rd_T39 l0 (rd x8_1 x9_1)).f0) ((rd_T39 l0 (rd x8_1 x9_1)).f1) ((rd_T39 l0 (rd x8_1 x9_1)).f2) ((rd_T39 l0 (rd x8_1 x9_1)).f3) ((rd_T39 l0 (rd x8_1 x9_1)).f4) ((rd_T39 l0 (rd x8_1 x9_1)).f5) ((rd_T39 l0 (rd x8_1 x9_1)).f6) t259 _ A27.out).mono ?_); rintro e w35 ⟨rfl, hb⟩; refine ⟨_, rfl, ?_⟩; replace HO_7 := Aside0.mk (Kd.R_below aq22 hb); replace HO_8 := Aside0.mk (Kd.R_below aq25 hb); replace HO257 := Aside0.mk (Kd.R_below aq51 hb); replace BK1 := Aside0.mk (blk_below (g := gb1) (o := .cells #[.int .i64 ((rd_T39 l0 (rd x8_1 x9_1)).f0), .int .i64 ((rd_T39 l0 (rd x8_1 x9_1)).f1), .int .i64 ((rd_T39 l0 (rd x8_1 x9_1)).f2), .int .i64 ((rd_T39 l0 (rd x8_1 x9_1)).f3), .int .i64 ((rd_T39 l0 (rd x8_1 x9_1)).f4), .int .i64 ((rd_T39 l0 (rd x8_1 x9_1)).f5), .int .i64 ((rd_T39 l0 (rd x8_1 x9_1)).f6)] 39 (0, 0)) aq45 hb); replace HB := Aside0.mk (below_step aq12 hb); (try clear hb); (try clear hb2); (try clear hk); (try clear hi)))
    (try simp only [← hl7_1])
    go_roundg k1
    case measure => have := HK1.out; omega
    case rel => exact ⟨(x7_1), (x8_1), (wrap64 (x9_1 + 1)), aq9, H', ⟨aq60⟩, ⟨by (try simp only [hl7_1]); (with_reducible repeat (first | apply Kd.R_alloc | apply Kd.R_drewN | apply Kd.R_drew)); exact HO_7.out⟩, ⟨by (try simp only [hl7_1]); (with_reducible repeat (first | apply Kd.R_alloc | apply Kd.R_drewN | apply Kd.R_drew)); exact Kd.R_mono HO_8.out (fun _ hk => trivial)⟩, ⟨aq12⟩⟩
   rw [if_neg c28] at H
   have c28b0 : (t259 == a1) = false := beq_eq_false_iff_ne.mpr c28
   have c28b1 : (t259 != a1) = true := bne_iff_ne.mpr c28
   obtain ⟨t261, A36, H⟩ := bS_ H
   have H' := Aside0.mk H
   clear H
   obtain ⟨Ao37, co37, eo37⟩ := Kd.R_slice HO_8.out
   subst eo37
   have p252 : 0 ≤ (x9_1 : Int) := of_decide_eq_true aq1
   have q252 : x9_1 < (x8_1.length : Int) := of_decide_eq_true aq1
   obtain ⟨ad252, e252, hx252_0⟩ := Kd.at_int (Kd.R_reads' HO_8.out).2.2 x9_1 p252 q252
   cases e252
   replace p252 := eq_true p252
   replace q252 := eq_true q252
   have p253 : 0 ≤ ((rd x8_1 x9_1) : Int) := of_decide_eq_true aq1
   have q253 : (rd x8_1 x9_1) < (l0.length : Int) := of_decide_eq_true aq1
   obtain ⟨ad253, e253, hx253_0, hx253_1, hx253_2, hx253_3, hx253_4, hx253_5, hx253_6⟩ := at_T39 HR0.out (rd x8_1 x9_1) p253 q253
   cases e253
   replace hx253_0 := (HB.out.cell (World.block_lt_of_cell? w _ hx253_0)).trans hx253_0
   replace hx253_1 := (HB.out.cell (World.block_lt_of_cell? w _ hx253_1)).trans hx253_1
   replace hx253_2 := (HB.out.cell (World.block_lt_of_cell? w _ hx253_2)).trans hx253_2
   replace hx253_3 := (HB.out.cell (World.block_lt_of_cell? w _ hx253_3)).trans hx253_3
   replace hx253_4 := (HB.out.cell (World.block_lt_of_cell? w _ hx253_4)).trans hx253_4
   replace hx253_5 := (HB.out.cell (World.block_lt_of_cell? w _ hx253_5)).trans hx253_5
   replace hx253_6 := (HB.out.cell (World.block_lt_of_cell? w _ hx253_6)).trans hx253_6
   replace p253 := eq_true p253
   replace q253 := eq_true q253
   go_wp2_with (first | ((with_reducible refine gate_dst (N := 10) rfl ?_); refine box_event ?hg (N := 10) ?hd (cs := #[.int .i64 0, .int .i64 0, .int .i64 0, .int .i64 0, .int .i64 0, .int .i64 0, .int .i64 0]) (t := 39) ?hr ?_; (case hd => rfl); (case hg => rfl); (case hr => first | (go_simp; done) | (go_simp; rfl)); intro gb1 hg w38 hbox hb; have n0_ := Aside0.mk (Kd.R_below aq22 hb); have n1_ := Aside0.mk (Kd.R_below aq25 hb); have n2_ := Aside0.mk (below_step aq0 hb); have n3_ := Aside0.mk (hbox); have n4_ := Aside0.mk ((by rw [hg]; exact (below_size aq0) : w.heap.size ≤ gb1)); have n5_ := Aside0.mk ((by rw [hg]; exact (below_size aq0) : w.heap.size ≤ gb1)); clear HO_7; clear HO_8; clear HB; have HO_7 := n0_; have HO_8 := n1_; have HB := n2_; have BK1 := n3_; have GW1 := n4_; have GE1 := n5_; clear n0_ n1_ n2_ n3_ n4_ n5_; clear hb hbox hg; obtain ⟨hcz39_0, hcz39_1, hcz39_2, hcz39_3, hcz39_4, hcz39_5, hcz39_6, hfz39_0, hfz39_1, hfz39_2, hfz39_3, hfz39_4, hfz39_5, hfz39_6⟩ := czf7 BK1.out) | ((with_reducible refine gate_callee (f := 18) rfl ?_); refine goesL_ (some 35) rfl rfl Tryd.func18 (by kernel_rfl) rfl #[.agg #[.int .i64 ((rd_T39 l0 (rd x8_1 x9_1)).f0), .int .i64 ((rd_T39 l0 (rd x8_1 x9_1)).f1), .int .i64 ((rd_T39 l0 (rd x8_1 x9_1)).f2), .int .i64 ((rd_T39 l0 (rd x8_1 x9_1)).f3), .int .i64 ((rd_T39 l0 (rd x8_1 x9_1)).f4), .int .i64 ((rd_T39 l0 (rd x8_1 x9_1)).f5), .int .i64 ((rd_T39 l0 (rd x8_1 x9_1)).f6)]] rfl aq5 ?_; (with_reducible refine (palingref11_Uses.calls k1 ((rd_T39 l0 (rd x8_1 x9_1)).f0) ((rd_T39 l0 (rd x8_1 x9_1)).f1) ((rd_T39 l0 (rd x8_1 x9_1)).f2) ((rd_T39 l0 (rd x8_1 x9_1)).f3) ((rd_T39 l0 (rd x8_1 x9_1)).f4) ((rd_T39 l0 (rd x8_1 x9_1)).f5) ((rd_T39 l0 (rd x8_1 x9_1)).f6) t255 _ A19.out).mono ?_); rintro e w40 ⟨v256, rfl, ho0, hb⟩; refine ⟨_, rfl, ?_⟩; replace HO_7 := Aside0.mk (Kd.R_below aq15 hb); have HO257 := Aside0.mk (Kd.R_lower (Kd.R_new' ho0 (Kd.R_lt aq8)) (below_size aq12)); replace HO_8 := Aside0.mk (Kd.R_elder' aq8 (Kd.R_base ho0) hb); replace BK1 := Aside0.mk (blk_below (g := gb1) (o := .cells #[.int .i64 ((rd_T39 l0 (rd x8_1 x9_1)).f0), .int .i64 ((rd_T39 l0 (rd x8_1 x9_1)).f1), .int .i64 ((rd_T39 l0 (rd x8_1 x9_1)).f2), .int .i64 ((rd_T39 l0 (rd x8_1 x9_1)).f3), .int .i64 ((rd_T39 l0 (rd x8_1 x9_1)).f4), .int .i64 ((rd_T39 l0 (rd x8_1 x9_1)).f5), .int .i64 ((rd_T39 l0 (rd x8_1 x9_1)).f6)] 39 (0, 0)) aq4 hb); replace HB := Aside0.mk (below_step aq12 hb); (try clear hb); (try clear hb2); (try clear hk); (try clear hi); (try clear ho0); obtain ⟨Ao41, co41, eo41⟩ := Kd.R_slice HO257.out; subst eo41) | ((with_reducible refine gate_callee (f := 28) rfl ?_); refine goesL_ (some 37) rfl rfl Tryd.func28 (by kernel_rfl) rfl #[.slice Ao41 t255.length co41, .int .i64 a1] rfl aq5 ?_; (with_reducible refine (palingref15_has.calls k1 _ _ t255 a1 false _ ?side1 ?side2 A20.out).mono ?_); (case side1 => repeat (first | exact (Kd.R_reads' HO257.out).2.2 | (with_reducible refine Kd.C_alloc ?_ _) | (with_reducible refine Kd.C_drewN ?_ _) | (with_reducible refine Kd.C_drew ?_))); (case side2 => exact (Kd.R_reads' HO257.out).2.1); rintro e w' ⟨rfl, ⟨nd, rfl⟩⟩; refine ⟨_, rfl, ?_⟩; obtain ⟨hcz42_0, hcz42_1, hcz42_2, hcz42_3, hcz42_4, hcz42_5, hcz42_6, hfz42_0, hfz42_1, hfz42_2, hfz42_3, hfz42_4, hfz42_5, hfz42_6⟩ := czf7 BK1.out) | ((with_reducible refine gate_callee (f := 19) rfl ?_); refine goesL_ (some 39) rfl rfl Tryd.func19 (by kernel_rfl) rfl #[.agg #[.int .i64 ((rd_T39 l0 (rd x8_1 x9_1)).f0), .int .i64 ((rd_T39 l0 (rd x8_1 x9_1)).f1), .int .i64 ((rd_T39 l0 (rd x8_1 x9_1)).f2), .int .i64 ((rd_T39 l0 (rd x8_1 x9_1)).f3), .int .i64 ((rd_T39 l0 (rd x8_1 x9_1)).f4), .int .i64 ((rd_T39 l0 (rd x8_1 x9_1)).f5), .int .i64 ((rd_T39 l0 (rd x8_1 x9_1)).f6)]] rfl aq5 ?_; (with_reducible refine (palingref11_Def.calls k1 ((rd_T39 l0 (rd x8_1 x9_1)).f0) ((rd_T39 l0 (rd x8_1 x9_1)).f1) ((rd_T39 l0 (rd x8_1 x9_1)).f2) ((rd_T39 l0 (rd x8_1 x9_1)).f3) ((rd_T39 l0 (rd x8_1 x9_1)).f4) ((rd_T39 l0 (rd x8_1 x9_1)).f5) ((rd_T39 l0 (rd x8_1 x9_1)).f6) t259 _ A27.out).mono ?_); rintro e w43 ⟨rfl, hb⟩; refine ⟨_, rfl, ?_⟩; replace HO_7 := Aside0.mk (Kd.R_below aq22 hb); replace HO_8 := Aside0.mk (Kd.R_below aq25 hb); replace HO257 := Aside0.mk (Kd.R_below aq51 hb); replace BK1 := Aside0.mk (blk_below (g := gb1) (o := .cells #[.int .i64 ((rd_T39 l0 (rd x8_1 x9_1)).f0), .int .i64 ((rd_T39 l0 (rd x8_1 x9_1)).f1), .int .i64 ((rd_T39 l0 (rd x8_1 x9_1)).f2), .int .i64 ((rd_T39 l0 (rd x8_1 x9_1)).f3), .int .i64 ((rd_T39 l0 (rd x8_1 x9_1)).f4), .int .i64 ((rd_T39 l0 (rd x8_1 x9_1)).f5), .int .i64 ((rd_T39 l0 (rd x8_1 x9_1)).f6)] 39 (0, 0)) aq45 hb); replace HB := Aside0.mk (below_step aq12 hb); (try clear hb); (try clear hb2); (try clear hk); (try clear hi); have p260 : 0 ≤ (x9_1 : Int) := of_decide_eq_true aq1; have q260 : x9_1 < (x8_1.length : Int) := of_decide_eq_true aq1; obtain ⟨ad260, e260, hx260_0⟩ := Kd.at_int (Kd.R_reads' HO_8.out).2.2 x9_1 p260 q260; obtain rfl : ad252 = ad260 := (by injection e260); replace p260 := eq_true p260; replace q260 := eq_true q260) | ((with_reducible refine gate_callee (f := 21) rfl ?_); refine goesL_ (some 47) rfl rfl Tryd.func21 (by kernel_rfl) rfl #[.slice (some ad253) l0.length c0, .int .i64 (rd x8_1 x9_1)] rfl aq5 ?_; (with_reducible refine (palingref14_Next.calls k1 _ _ l0 (rd x8_1 x9_1) t261 _ ?side1 ?side2 A36.out).mono ?_); (case side1 => repeat (first | exact (Kd.C_below HR0.out HB.out) | (with_reducible refine Kd.C_alloc ?_ _) | (with_reducible refine Kd.C_drewN ?_ _) | (with_reducible refine Kd.C_drew ?_))); (case side2 => exact HC0.out); rintro e w44 ⟨v262, rfl, ho0, hb⟩; refine ⟨_, rfl, ?_⟩; have n0_ := Aside0.mk (Kd.R_below aq22 hb); have n1_ := Aside0.mk (Kd.R_elder' aq25 (Kd.R_base ho0) hb); have n2_ := Aside0.mk (Kd.R_elder' aq51 (Kd.R_base ho0) hb); have n3_ := Aside0.mk (Kd.R_lower (Kd.R_new' (Kd.R_new' ho0 (Kd.R_lt aq25)) (Kd.R_lt aq51)) (below_size aq12)); have n4_ := Aside0.mk (blk_below (g := gb1) (o := .cells #[.int .i64 ((rd_T39 l0 (rd x8_1 x9_1)).f0), .int .i64 ((rd_T39 l0 (rd x8_1 x9_1)).f1), .int .i64 ((rd_T39 l0 (rd x8_1 x9_1)).f2), .int .i64 ((rd_T39 l0 (rd x8_1 x9_1)).f3), .int .i64 ((rd_T39 l0 (rd x8_1 x9_1)).f4), .int .i64 ((rd_T39 l0 (rd x8_1 x9_1)).f5), .int .i64 ((rd_T39 l0 (rd x8_1 x9_1)).f6)] 39 (0, 0)) aq45 hb); have n5_ := Aside0.mk (below_step aq12 hb); clear HO_7; clear HO_8; clear HO257; clear BK1; clear HB; have HO_7 := n0_; have HO_8 := n1_; have HO257 := n2_; have HO263 := n3_; have BK1 := n4_; have HB := n5_; clear n0_ n1_ n2_ n3_ n4_ n5_; (try clear hb); (try clear hb2); (try clear hk); (try clear hi); (try clear ho0)))
   go_loopg [8, 12] k1 (fun kq v8 v12 w' => ∃ (x7_2 : List Bool) (x8_2 : List Int) (x12_2 : Int), v12 = .int .i64 x12_2 ∧ Aside0 (palingref15_Needed.l1 kq l0 a1 x7_2 x8_2 x9_1 t261 x12_2 = some r) ∧ Aside0 (kq ≤ k1) ∧ Aside0 (Kd.R Kd.bool 4 w' w.heap.size (fun _ => True) (.slice (some ⟨go8, 0, none⟩) x7_1.length co8) x7_2) ∧ Aside0 (Kd.R (Kd.int .i64) 3 w' w.heap.size (fun k_ => some k_ ≠ (v262 : Value).ownBlock) v8 x8_2) ∧ Aside0 (Kd.R (Kd.int .i64) 3 w' w.heap.size (fun k_ => some k_ ≠ (v8 : Value).ownBlock) v262 t261) ∧ Aside0 (w'.heap[gb1]? = some (.cells #[.int .i64 ((rd_T39 l0 (rd x8_1 x9_1)).f0), .int .i64 ((rd_T39 l0 (rd x8_1 x9_1)).f1), .int .i64 ((rd_T39 l0 (rd x8_1 x9_1)).f2), .int .i64 ((rd_T39 l0 (rd x8_1 x9_1)).f3), .int .i64 ((rd_T39 l0 (rd x8_1 x9_1)).f4), .int .i64 ((rd_T39 l0 (rd x8_1 x9_1)).f5), .int .i64 ((rd_T39 l0 (rd x8_1 x9_1)).f6)] 39 (0, 0))) ∧ Aside0 (Below w.heap.size w w'))
   case atStart => exact ⟨(x7_1), (x8_1), (0), aq9, H', ⟨Nat.le_refl _⟩, ⟨by (try simp only [hl7_1]); (with_reducible repeat (first | apply Kd.R_alloc | apply Kd.R_drewN | apply Kd.R_drew)); exact HO_7.out⟩, ⟨by (try simp only [hl7_1]); (with_reducible repeat (first | apply Kd.R_alloc | apply Kd.R_drewN | apply Kd.R_drew)); exact Kd.R_mono HO_8.out (fun _ hk => hk.2)⟩, ⟨by (try simp only [hl7_1]); (with_reducible repeat (first | apply Kd.R_alloc | apply Kd.R_drewN | apply Kd.R_drew)); exact Kd.R_mono HO263.out (fun _ hk => hk.1.2)⟩, ⟨by (try simp only [hl7_1]); (with_reducible repeat (first | refine blk_drewN ?_ _ | refine blk_drew ?_ | refine blk_alloc ?_ _)); exact BK1.out⟩, ⟨aq12⟩⟩
   case round =>
    clear H'
    try clear hf8
    obtain ⟨x7_2, x8_2, x12_2, rfl, HA, HK2, HO_7, HO_8, HO_11, BK1, HB⟩ := hrel
    have hl7_2 := (Kd.R_reads' HO_7.out).1
    rw [hl7_2] at HO_7
    (try simp only [hl7_2])
    (try simp only [hl7_2] at BK1)
    (try simp only [hl7_2] at HO_8)
    (try simp only [hl7_2] at HO_11)
    cases gk with
    | zero => exact absurd HA.out (by simp [palingref15_Needed.l1])
    | succ k2 =>
     have H := HA.out
     clear HA
     simp only [palingref15_Needed.l1] at H
     by_cases c45 : x12_2 < (t261.length : Int)
     rotate_left
     ·rw [if_neg c45] at H
      have c45b0 : decide (x12_2 < (t261.length : Int)) = false := decide_eq_false c45
      clear c45
      have H' := Aside0.mk H
      clear H
      obtain ⟨Ao58, co58, eo58⟩ := Kd.R_slice HO_11.out
      subst eo58
      go_wp2
      (try simp only [← hl7_1, ← hl7_2])
      go_roundg k2
      case measure => have := HK1.out; have := HK2.out; omega
      case rel => exact ⟨(x7_2), (x8_2), (wrap64 (x9_1 + 1)), aq9, H', ⟨aq53⟩, ⟨aq49⟩, ⟨by (try simp only [hl7_1]); (try simp only [hl7_2]); (with_reducible repeat (first | apply Kd.R_alloc | apply Kd.R_drewN | apply Kd.R_drew)); exact Kd.R_mono HO_8.out (fun _ hk => trivial)⟩, ⟨aq12⟩⟩
     rw [if_pos c45] at H
     have c45b0 : decide (x12_2 < (t261.length : Int)) = true := decide_eq_true c45
     clear c45
     by_cases c46 : 0 ≤ x12_2
     rotate_left
     ·rw [if_neg c46] at H
      exact absurd H (by simp)
     rw [if_pos c46] at H
     have c46b0 : decide (0 ≤ x12_2) = true := decide_eq_true c46
     clear c46
     by_cases c47 : 0 ≤ (rd t261 x12_2)
     rotate_left
     ·rw [if_neg c47] at H
      exact absurd H (by simp)
     rw [if_pos c47] at H
     have c47b0 : decide (0 ≤ (rd t261 x12_2)) = true := decide_eq_true c47
     clear c47
     by_cases c48 : (rd t261 x12_2) < (x7_2.length : Int)
     rotate_left
     ·rw [if_neg c48] at H
      exact absurd H (by simp)
     rw [if_pos c48] at H
     have c48b0 : decide ((rd t261 x12_2) < (x7_2.length : Int)) = true := decide_eq_true c48
     clear c48
     obtain ⟨bq49, hbq49⟩ : ∃ b_ : Bool, b_ = (rdOf false x7_2 (rd t261 x12_2)) := ⟨_, rfl⟩
     replace H : (if (bq49 = true) then (palingref15_Needed.l1 k2 l0 a1 x7_2 x8_2 x9_1 t261 (wrap64 (x12_2 + 1))) else (if x8_2.length < 17592186044416 then (palingref15_Needed.l1 k2 l0 a1 (x7_2.set ((rd t261 x12_2) : Int).toNat true) (x8_2 ++ [rd t261 x12_2]) x9_1 t261 (wrap64 (x12_2 + 1))) else (none))) = some r := by rw [← hbq49] at H; exact H
     have Nbq49 := Aside0.mk hbq49
     clear hbq49
     by_cases c50 : (bq49 = true)
     ·subst c50
      rw [if_pos rfl] at H
      have H' := Aside0.mk H
      clear H
      obtain ⟨Ao51, co51, eo51⟩ := Kd.R_slice HO_11.out
      subst eo51
      have p264 : 0 ≤ (x12_2 : Int) := of_decide_eq_true aq1
      have q264 : x12_2 < (t261.length : Int) := of_decide_eq_true aq1
      obtain ⟨ad264, e264, hx264_0⟩ := Kd.at_int (Kd.R_reads' HO_11.out).2.2 x12_2 p264 q264
      cases e264
      replace p264 := eq_true p264
      replace q264 := eq_true q264
      have p265 : 0 ≤ ((rd t261 x12_2) : Int) := of_decide_eq_true aq1
      have q265 : (rd t261 x12_2) < (x7_2.length : Int) := of_decide_eq_true aq1
      obtain ⟨ad265, e265, hx265_0⟩ := Kd.at_bool (Kd.R_reads' HO_7.out).2.2 (rd t261 x12_2) p265 q265
      (try rw [← Nbq49.out] at hx265_0)
      obtain rfl : (⟨go8, 0, none⟩ : Addr) = ad265 := (by injection e265)
      (first | simp only [add_plain] at hx265_0 | simp only [add_at] at hx265_0 | simp only [Addr.add, Nat.zero_add] at hx265_0 | skip)
      replace p265 := eq_true p265
      replace q265 := eq_true q265
      go_wp2
      (try simp only [← hl7_2])
      go_roundg k2
      case measure => have := HK1.out; have := HK2.out; omega
      case rel => exact ⟨(x7_2), (x8_2), (wrap64 (x12_2 + 1)), aq9, H', ⟨aq53⟩, ⟨aq49⟩, ⟨by (try simp only [hl7_1]); (try simp only [hl7_2]); (with_reducible repeat (first | apply Kd.R_alloc | apply Kd.R_drewN | apply Kd.R_drew)); exact HO_8.out⟩, ⟨by (try simp only [hl7_1]); (try simp only [hl7_2]); (with_reducible repeat (first | apply Kd.R_alloc | apply Kd.R_drewN | apply Kd.R_drew)); exact HO_11.out⟩, ⟨by (try simp only [hl7_1]); (try simp only [hl7_2]); (with_reducible repeat (first | refine blk_drewN ?_ _ | refine blk_drew ?_ | refine blk_alloc ?_ _)); exact BK1.out⟩, ⟨aq12⟩⟩
     replace c50 := Bool.eq_false_iff.mpr c50
     subst c50
     rw [if_neg nf_] at H
     obtain ⟨y267, hy_⟩ : ∃ y_ : List Bool, y_ = (x7_2.set ((rd t261 x12_2) : Int).toNat true) := ⟨_, rfl⟩
     replace H : (if x8_2.length < 17592186044416 then (palingref15_Needed.l1 k2 l0 a1 y267 (x8_2 ++ [rd t261 x12_2]) x9_1 t261 (wrap64 (x12_2 + 1))) else (none)) = some r := aq2
     have Ny267 := Aside0.mk hy_
     clear hy_
     by_cases c53 : x8_2.length < 17592186044416
     rotate_left
     ·rw [if_neg c53] at H
      exact absurd H (by simp)
     rw [if_pos c53] at H
     have LMc53 := Aside0.mk c53
     clear c53
     obtain ⟨y269, hy_⟩ : ∃ y_ : List Int, y_ = (x8_2 ++ [rd t261 x12_2]) := ⟨_, rfl⟩
     replace H : (palingref15_Needed.l1 k2 l0 a1 y267 y269 x9_1 t261 (wrap64 (x12_2 + 1))) = some r := aq2
     have Ny269 := Aside0.mk hy_
     clear hy_
     have H' := Aside0.mk H
     clear H
     obtain ⟨Ao54, co54, eo54⟩ := Kd.R_slice HO_11.out
     subst eo54
     have p264 : 0 ≤ (x12_2 : Int) := of_decide_eq_true aq1
     have q264 : x12_2 < (t261.length : Int) := of_decide_eq_true aq1
     obtain ⟨ad264, e264, hx264_0⟩ := Kd.at_int (Kd.R_reads' HO_11.out).2.2 x12_2 p264 q264
     cases e264
     replace p264 := eq_true p264
     replace q264 := eq_true q264
     have p265 : 0 ≤ ((rd t261 x12_2) : Int) := of_decide_eq_true aq1
     have q265 : (rd t261 x12_2) < (x7_2.length : Int) := of_decide_eq_true aq1
     obtain ⟨ad265, e265, hx265_0⟩ := Kd.at_bool (Kd.R_reads' HO_7.out).2.2 (rd t261 x12_2) p265 q265
     (try rw [← Nbq49.out] at hx265_0)
     obtain rfl : (⟨go8, 0, none⟩ : Addr) = ad265 := (by injection e265)
     (first | simp only [add_plain] at hx265_0 | simp only [add_at] at hx265_0 | simp only [Addr.add, Nat.zero_add] at hx265_0 | skip)
     replace p265 := eq_true p265
     replace q265 := eq_true q265
     have p266 : 0 ≤ (x12_2 : Int) := of_decide_eq_true aq1
     have q266 : x12_2 < (t261.length : Int) := of_decide_eq_true aq1
     obtain ⟨ad266, e266, hx266_0⟩ := Kd.at_int (Kd.R_reads' HO_11.out).2.2 x12_2 p266 q266
     obtain rfl : ad264 = ad266 := (by injection e266)
     replace p266 := eq_true p266
     replace q266 := eq_true q266
     have p52 : 0 ≤ ((rd t261 x12_2) : Int) := of_decide_eq_true aq1
     have q52 : ((rd t261 x12_2) : Int) < ((x7_2.length : Int) : Int) := of_decide_eq_true aq1
     obtain ⟨hx52_0, hf52_0⟩ := Kd.R_celln false HO_7.out ((rd t261 x12_2) : Int) p52 q52
     replace p52 := eq_true p52
     replace q52 := eq_true q52
     have HP55 := Kd.R_putg HO_7.out ((rd t261 x12_2) : Int) true
     go_wp2_with (first | ((with_reducible refine gate_store (t := 4) (p := 67) rfl ?_); refine store_event (t := 4) (p := 67) (v := ?vo_w56) (w1 := (wr.setCell ⟨go8, ((rd t261 x12_2) : Int).toNat, none⟩ (.bool true))) ?hg ?ho ?hn ?hr ?_; (case ho => rfl); (case hg => rfl); (case hn => rfl); (case hr => first | (go_simp; done) | (go_simp; rfl)); intro w56 hw; have hg : wr.grownBy w56 (some go8) := (by rw [hw]; exact HP55.2); have hp_ : Kd.R Kd.bool 4 w56 w.heap.size (fun _ => True) (.slice (some ⟨go8, 0, none⟩) x7_2.length co8) y267 := (by rw [hw, Ny267.out]; exact HP55.1); clear HP55; replace HO_8 := Aside0.mk (Kd.R_over' (v := (.slice (some ⟨go8, 0, none⟩) x7_2.length co8)) aq25 (Kd.R_typed HO_7.out) (by decide) hg); replace HO_11 := Aside0.mk (Kd.R_over' (v := (.slice (some ⟨go8, 0, none⟩) x7_2.length co8)) (by (with_reducible repeat (first | apply Kd.R_alloc | apply Kd.R_drewN | apply Kd.R_drew)); exact HO_11.out) (Kd.R_typed HO_7.out) (by decide) hg); replace BK1 := Aside0.mk (blk_grown (g := gb1) (o := .cells #[.int .i64 ((rd_T39 l0 (rd x8_1 x9_1)).f0), .int .i64 ((rd_T39 l0 (rd x8_1 x9_1)).f1), .int .i64 ((rd_T39 l0 (rd x8_1 x9_1)).f2), .int .i64 ((rd_T39 l0 (rd x8_1 x9_1)).f3), .int .i64 ((rd_T39 l0 (rd x8_1 x9_1)).f4), .int .i64 ((rd_T39 l0 (rd x8_1 x9_1)).f5), .int .i64 ((rd_T39 l0 (rd x8_1 x9_1)).f6)] 39 (0, 0)) aq45 hg (Kd.R_ne HO_7.out BK1.out (by decide))); replace HO_7 := Aside0.mk (hp_); replace HB := Aside0.mk ((by rw [hw]; exact below_set (HB.out) GB8.out : Below w.heap.size w w56)); clear hg hw hp_; have p268 : 0 ≤ (x12_2 : Int) := of_decide_eq_true aq1; have q268 : x12_2 < (t261.length : Int) := of_decide_eq_true aq1; obtain ⟨ad268, e268, hx268_0⟩ := Kd.at_int (Kd.R_reads' HO_11.out).2.2 x12_2 p268 q268; obtain rfl : ad264 = ad268 := (by injection e268); replace p268 := eq_true p268; replace q268 := eq_true q268) | ((with_reducible refine gate_builtin (b := .append) (xs := #[.tmp 68, .tmp 73]) rfl ?_); at_builtin; refine Kd.R_append (Kd.int .i64) (w0 := w) w.heap.size rfl (.tmp 68) (.tmp 73) 36 3 (.int .i64 0) 8 rfl Tryd.underlying36 info3 rfl (by decide) (by omega) u8 x8_2 (rd t261 x12_2) [.int .i64 (rd t261 x12_2)] (fun k_ => some k_ ≠ (.slice (some ad264) t261.length co54 : Value).ownBlock) (fun _ => False) rfl rfl ?aP (fun _ hk => hk.elim) ?aF ?aO ?aB ?aS ?aL ?_; (case aP => exact rfl); (case aB => exact aq12); (case aF => exact (fun k_ hk => Kd.fresh' (Kd.R_lt (by (with_reducible repeat (first | apply Kd.R_alloc | apply Kd.R_drewN | apply Kd.R_drew)); exact HO_11.out)) k_ hk)); (case aO => exact aq25); (case aS => exact (below_size aq12)); (case aL => have := LMc53.out; omega); intro v270 w57 ho hb hg hat; rw [← Ny269.out] at ho; replace HO_7 := Aside0.mk (Kd.R_over' aq22 (Kd.R_typed aq25) (by decide) hg); replace HO_11 := Aside0.mk (Kd.R_after (ok := (fun _ => True)) (by (with_reducible repeat (first | apply Kd.R_alloc | apply Kd.R_drewN | apply Kd.R_drew)); exact Kd.R_mono HO_11.out (fun _ hk => ⟨trivial, hk⟩)) hg hat); replace BK1 := Aside0.mk (blk_grown (g := gb1) (o := .cells #[.int .i64 ((rd_T39 l0 (rd x8_1 x9_1)).f0), .int .i64 ((rd_T39 l0 (rd x8_1 x9_1)).f1), .int .i64 ((rd_T39 l0 (rd x8_1 x9_1)).f2), .int .i64 ((rd_T39 l0 (rd x8_1 x9_1)).f3), .int .i64 ((rd_T39 l0 (rd x8_1 x9_1)).f4), .int .i64 ((rd_T39 l0 (rd x8_1 x9_1)).f5), .int .i64 ((rd_T39 l0 (rd x8_1 x9_1)).f6)] 39 (0, 0)) aq45 hg (Kd.R_ne HO_8.out BK1.out (by decide))); replace HB := Aside0.mk (hb); have HO271 := Aside0.mk (ho); clear HO_8; clear ho hb hg hat))
     (try simp only [← hl7_2])
     go_roundg k2
     case measure => have := HK1.out; have := HK2.out; omega
     case rel => exact ⟨(y267), (y269), (wrap64 (x12_2 + 1)), aq9, H', ⟨aq53⟩, ⟨aq49⟩, ⟨by (try simp only [hl7_1]); (try simp only [hl7_2]); (with_reducible repeat (first | apply Kd.R_alloc | apply Kd.R_drewN | apply Kd.R_drew)); exact HO271.out⟩, ⟨by (try simp only [hl7_1]); (try simp only [hl7_2]); (with_reducible repeat (first | apply Kd.R_alloc | apply Kd.R_drewN | apply Kd.R_drew)); exact Kd.R_mono HO_11.out (fun _ hk => hk.2)⟩, ⟨by (try simp only [hl7_1]); (try simp only [hl7_2]); (with_reducible repeat (first | refine blk_drewN ?_ _ | refine blk_drew ?_ | refine blk_alloc ?_ _)); exact BK1.out⟩, ⟨aq12⟩⟩
end Go.Proofs.YtianfjhhhhmjlaaDoor.PLiveTells
