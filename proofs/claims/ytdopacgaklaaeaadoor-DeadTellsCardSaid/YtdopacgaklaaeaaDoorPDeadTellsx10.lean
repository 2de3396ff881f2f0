-- Written by print2.py over the kit's printer. Not trusted: Lean checks it.
import Derived.Test.YtdopacgaklaaeaaDoorPDeadTellshqq
import Derived.Test.YtdopacgaklaaeaaDoorPDeadTellsx0
import Derived.Test.YtdopacgaklaaeaaDoorPDeadTellsx7
import Derived.Test.YtdopacgaklaaeaaDoorPDeadTellsx9
namespace Go.Proofs.YtdopacgaklaaeaaDoor.PDeadTells
open Go.RowKit Go.Proofs.YtdopacgaklaaeaaDoorW.PrintWords Go.Proofs.YtdopacgaklaaeaaDoorW.PrintLast Go.Proofs.YtdopacgaklaaeaaDoorW.PrintMore
attribute [local go_sem] max2_int min2_int max_two min_two max_three min_three max_four min_four   -- for this text's walks alone
set_option linter.unusedVariables false
set_option linter.unusedSimpArgs false

/-! ### palingref14_without: function 42 -/
mutual
def palingref14_without.j0 : Nat → List (S28) → Int → Int → List Bool → Bool → Option (List Bool)
  | 0, _, _, _, _, _ => none
  | k + 1, x0, x1, x2, x7, x27 => if x27 = true then (some x7) else (if 0 ≤ x1 then (if x1 < (x7.length : Int) then (palingref14_without.l0 k x0 x2 (x7.set (x1 : Int).toNat true) (([x1] : List Int)) 0) else (none)) else (none))
def palingref14_without.l0 : Nat → List (S28) → Int → List Bool → List Int → Int → Option (List Bool)
  | 0, _, _, _, _, _ => none
  | k + 1, x0, x2, x7, x8, x9 => if x9 < (x8.length : Int) then (if 0 ≤ x9 then ((palingref14_Next.f k x0 (rd x8 x9)).bind fun t204 => (palingref14_without.l1 k x0 x2 x7 x8 x9 t204 0)) else (none)) else (some x7)
def palingref14_without.l1 : Nat → List (S28) → Int → List Bool → List Int → Int → List Int → Int → Option (List Bool)
  | 0, _, _, _, _, _, _, _ => none
  | k + 1, x0, x2, x7, x8, x9, x10, x11 => if x11 < (x10.length : Int) then (if 0 ≤ x11 then (if 0 ≤ (rd x10 x11) then (if (rd x10 x11) < (x7.length : Int) then (if (rdOf false x7 (rd x10 x11) = true) then (palingref14_without.l1 k x0 x2 x7 x8 x9 x10 (wrap64 (x11 + 1))) else (if (rd x10 x11) = x2 then (palingref14_without.l1 k x0 x2 x7 x8 x9 x10 (wrap64 (x11 + 1))) else (if x8.length < 17592186044416 then (palingref14_without.l1 k x0 x2 (x7.set ((rd x10 x11) : Int).toNat true) (x8 ++ [rd x10 x11]) x9 x10 (wrap64 (x11 + 1))) else (none)))) else (none)) else (none)) else (none)) else (palingref14_without.l0 k x0 x2 x7 x8 (wrap64 (x9 + 1)))
end
def palingref14_without.f (k : Nat) (l0 : List (S28)) (a1 : Int) (a2 : Int) : Option (List Bool) := if 0 ≤ (l0.length : Int) then (if ((l0.length : Int) : Int).toNat ≤ 281474976710656 then ((some (List.replicate ((l0.length : Int) : Int).toNat false : List Bool)).bind fun y196 => (if a1 < 0 then (palingref14_without.j0 k l0 a1 a2 y196 true) else (if a1 ≥ (l0.length : Int) then (palingref14_without.j0 k l0 a1 a2 y196 true) else (palingref14_without.j0 k l0 a1 a2 y196 (a1 == a2))))) else (none)) else (none)
theorem palingref14_without.mono_l : ∀ k, (∀ y0 y1 y2 y3 y4, LeO (palingref14_without.j0 k y0 y1 y2 y3 y4) (palingref14_without.j0 (k + 1) y0 y1 y2 y3 y4)) ∧ (∀ y0 y1 y2 y3 y4, LeO (palingref14_without.l0 k y0 y1 y2 y3 y4) (palingref14_without.l0 (k + 1) y0 y1 y2 y3 y4)) ∧ (∀ y0 y1 y2 y3 y4 y5 y6, LeO (palingref14_without.l1 k y0 y1 y2 y3 y4 y5 y6) (palingref14_without.l1 (k + 1) y0 y1 y2 y3 y4 y5 y6))
  | 0 => ⟨fun _ _ _ _ _ r h => by simp [palingref14_without.j0] at h, fun _ _ _ _ _ r h => by simp [palingref14_without.l0] at h, fun _ _ _ _ _ _ _ r h => by simp [palingref14_without.l1] at h⟩
  | k + 1 => by
    obtain ⟨ih0, ih1, ih2⟩ := palingref14_without.mono_l k
    refine ⟨?_, ?_, ?_⟩ <;> intros <;> (first | unfold palingref14_without.j0 | unfold palingref14_without.l0 | unfold palingref14_without.l1) <;> repeat' (first | (with_reducible first | exact ih0 _ _ _ _ _ | exact ih1 _ _ _ _ _ | exact ih2 _ _ _ _ _ _ _ | exact palingref14_Next.mono _ _ _ | exact LeO.refl _ | exact LeO.none _ | refine LeO.ite ?_ ?_ | refine LeO.bind ?_ (fun _ => ?_)) | exact ih0 _ _ _ _ _ | exact ih1 _ _ _ _ _ | exact ih2 _ _ _ _ _ _ _ | exact palingref14_Next.mono _ _ _ | exact LeO.none _ | refine LeO.ite ?_ ?_ | refine LeO.bind ?_ (fun _ => ?_))
theorem palingref14_without.mono : ∀ a0 a1 a2 k, LeO (palingref14_without.f k a0 a1 a2) (palingref14_without.f (k + 1) a0 a1 a2) := by
 intro a0 a1 a2 k
 obtain ⟨ih0, ih1, ih2⟩ := palingref14_without.mono_l k
 unfold palingref14_without.f
 repeat' (first | (with_reducible first | exact ih0 _ _ _ _ _ | exact ih1 _ _ _ _ _ | exact ih2 _ _ _ _ _ _ _ | exact palingref14_Next.mono _ _ _ | exact LeO.refl _ | exact LeO.none _ | refine LeO.ite ?_ ?_ | refine LeO.bind ?_ (fun _ => ?_)) | exact ih0 _ _ _ _ _ | exact ih1 _ _ _ _ _ | exact ih2 _ _ _ _ _ _ _ | exact palingref14_Next.mono _ _ _ | exact LeO.none _ | refine LeO.ite ?_ ?_ | refine LeO.bind ?_ (fun _ => ?_))
set_option maxHeartbeats 8000000 in
set_option maxRecDepth 100000 in
theorem palingref14_without.calls (k : Nat) (A0 : Option Addr) (c0 : Nat) (l0 : List (S28)) (a1 : Int) (a2 : Int) (r : List Bool) (w : World) (hr0 : Kd.C k28 w A0 l0.length l0) (hc0 : l0.length ≤ c0) (h : palingref14_without.f k l0 a1 a2 = some r) :
    Calls Tryd.prog 42 #[.slice A0 l0.length c0, .int .i64 a1, .int .i64 a2] w fun e w' => ∃ v0_ : Value, e = .returned (v0_) ∧ Kd.R Kd.bool 4 w' w.heap.size (fun _ => True) v0_ r ∧ Below w.heap.size w w' := by
 have HR0 := Aside0.mk hr0
 have HC0 := Aside0.mk hc0
 clear hr0 hc0
 have HB := Aside0.mk (Below.refl w.heap.size w)
 have H : (if 0 ≤ (l0.length : Int) then (if ((l0.length : Int) : Int).toNat ≤ 281474976710656 then ((some (List.replicate ((l0.length : Int) : Int).toNat false : List Bool)).bind fun y196 => (if a1 < 0 then (palingref14_without.j0 k l0 a1 a2 y196 true) else (if a1 ≥ (l0.length : Int) then (palingref14_without.j0 k l0 a1 a2 y196 true) else (palingref14_without.j0 k l0 a1 a2 y196 (a1 == a2))))) else (none)) else (none)) = some r := h
 clear h
 by_cases c4 : 0 ≤ (l0.length : Int)
 rotate_left
 ·rw [if_neg c4] at H
  exact absurd H (by simp)
 rw [if_pos c4] at H
 have c4b0 := eq_true c4
 have c4b1 : decide (0 ≤ (l0.length : Int)) = true := decide_eq_true c4
 clear c4
 by_cases c5 : ((l0.length : Int) : Int).toNat ≤ 281474976710656
 rotate_left
 ·rw [if_neg c5] at H
  exact absurd H (by simp)
 rw [if_pos c5] at H
 have c5b0 := eq_true c5
 have c5b1 : decide (((l0.length : Int) : Int).toNat ≤ 281474976710656) = true := decide_eq_true c5
 clear c5
 obtain ⟨y196, hy_⟩ : ∃ y_ : List Bool, y_ = (List.replicate ((l0.length : Int) : Int).toNat false) := ⟨_, rfl⟩
 replace H : (if a1 < 0 then (palingref14_without.j0 k l0 a1 a2 y196 true) else (if a1 ≥ (l0.length : Int) then (palingref14_without.j0 k l0 a1 a2 y196 true) else (palingref14_without.j0 k l0 a1 a2 y196 (a1 == a2)))) = some r := aq1
 have Ny196 := Aside0.mk hy_
 clear hy_
 have HC6 := Aside0.mk H
 clear H
 go_enter Tryd.func42, Tryd.ntmps42
 go_upto_region 2 with (first | ((with_reducible refine gate_dst (N := 14) rfl ?_); (try (refine gate_guard (by rfl) ?_; dsimp only)); refine Kd.R_make Kd.bool _ 4 rfl (N := 14) rfl 26 _ _ rfl (l0.length : Int) rfl rfl Tryd.underlying26 (.bool false) 1 info4 rfl (by decide) (by omega) false (ok := fun _ => True) (okp := fun _ => True) rfl (fun _ hk => hk) trivial (of_decide_eq_true aq2) (Nat.le_trans (Nat.mul_le_mul_right _ (of_decide_eq_true aq2 : (l0.length : Int).toNat ≤ 281474976710656)) (by omega)) (Below.refl _ _) (Nat.le_refl _) ?_; intro v197 w7 ho8 hb hg_ hnew_; clear hg_ hnew_; (first | rw [← Ny196.out] at ho8 | (simp only [Int.reduceToNat] at ho8; rw [← Ny196.out] at ho8)); have HO198 := Aside0.mk (Kd.R_lower ho8 (below_size aq0)); replace HB := Aside0.mk (below_step aq0 hb); clear hb ho8))
 (try simp only [Act.put, List.setIfInBounds_toArray, List.set_cons_zero, List.set_cons_succ])
 go_cut [27] (fun v27 wc => ∃ (kq : Nat) (x27_5 : Bool), v27 = .bool x27_5 ∧ Aside0 (palingref14_without.j0 kq l0 a1 a2 y196 x27_5 = some r) ∧ Aside0 (kq ≤ k) ∧ Aside0 (Kd.R Kd.bool 4 wc w.heap.size (fun _ => True) v197 y196) ∧ Aside0 (Below w.heap.size w wc))
 case first =>
  have H := HC6.out
  clear HC6
  by_cases c9 : a1 < 0
  ·rw [if_pos c9] at H
   have c9b0 : decide (a1 < 0) = true := decide_eq_true c9
   clear c9
   (first | rw [c9b0] | (simp only [i64_w, i32_w]; rw [c9b0]) | skip)
   have H' := Aside0.mk H
   clear H
   go_wp2
   go_meet
   case rel => exact ⟨_, (true), aq5, H', ⟨aq41⟩, ⟨aq51⟩, ⟨aq0⟩⟩
  rw [if_neg c9] at H
  have c9b0 : decide (a1 < 0) = false := decide_eq_false c9
  clear c9
  (first | rw [c9b0] | (simp only [i64_w, i32_w]; rw [c9b0]) | skip)
  by_cases c10 : a1 ≥ (l0.length : Int)
  ·rw [if_pos c10] at H
   have c10b0 : decide ((l0.length : Int) ≤ a1) = true := decide_eq_true c10
   clear c10
   have H' := Aside0.mk H
   clear H
   go_wp2
   go_meet
   case rel => exact ⟨_, (true), aq5, H', ⟨aq41⟩, ⟨aq51⟩, ⟨aq0⟩⟩
  rw [if_neg c10] at H
  have c10b0 : decide ((l0.length : Int) ≤ a1) = false := decide_eq_false c10
  clear c10
  have H' := Aside0.mk H
  clear H
  go_wp2
  go_meet
  case rel => exact ⟨_, ((a1 == a2)), aq5, H', ⟨aq41⟩, ⟨aq51⟩, ⟨aq0⟩⟩
 case rest =>
  clear HC6
  obtain ⟨kq, x27_5, rfl, HA, HJ5, HO_7, HB⟩ := hcut
  cases kq with
  | zero => exact absurd HA.out (by simp [palingref14_without.j0])
  | succ kj5 =>
   have H := HA.out
   clear HA
   simp only [palingref14_without.j0] at H
   by_cases c11 : x27_5 = true
   ·subst c11
    rw [if_pos rfl] at H
    obtain rfl := Option.some.inj H
    go_wp2
    go_ret
    exact ⟨_, aq11, aq14, aq0⟩
   replace c11 := Bool.eq_false_iff.mpr c11
   subst c11
   rw [if_neg nf_] at H
   obtain ⟨y199, hy_⟩ : ∃ y_ : List Int, y_ = (([a1] : List Int)) := ⟨_, rfl⟩
   replace H : (if 0 ≤ a1 then (if a1 < (y196.length : Int) then (palingref14_without.l0 kj5 l0 a2 (y196.set (a1 : Int).toNat true) y199 0) else (none)) else (none)) = some r := aq1
   have Ny199 := Aside0.mk hy_
   clear hy_
   by_cases c12 : 0 ≤ a1
   rotate_left
   ·rw [if_neg c12] at H
    exact absurd H (by simp)
   rw [if_pos c12] at H
   have c12b0 : decide (0 ≤ a1) = true := decide_eq_true c12
   clear c12
   by_cases c13 : a1 < (y196.length : Int)
   rotate_left
   ·rw [if_neg c13] at H
    exact absurd H (by simp)
   rw [if_pos c13] at H
   have c13b0 : decide (a1 < (y196.length : Int)) = true := decide_eq_true c13
   clear c13
   obtain ⟨y202, hy_⟩ : ∃ y_ : List Bool, y_ = (y196.set (a1 : Int).toNat true) := ⟨_, rfl⟩
   replace H : (palingref14_without.l0 kj5 l0 a2 y202 y199 0) = some r := aq1
   have Ny202 := Aside0.mk hy_
   clear hy_
   have H' := Aside0.mk H
   clear H
   go_wp2_with (first | ((with_reducible refine gate_dst (N := 30) rfl ?_); (try (refine gate_guard (by rfl) ?_; dsimp only)); refine Kd.R_lit (Kd.int .i64) _ 3 ?hg (N := 30) ?hd (xs := ([a1] : List Int)) (inner := [.int .i64 a1]) (ok := fun _ => True) (okp := fun _ => True) ?hr ?hp (fun _ hk => hk) trivial (Below.refl _ _) (Nat.le_refl _) (by simp) ?_; (case hd => rfl); (case hg => rfl); (case hr => first | (go_simp; done) | (go_simp; rfl)); (case hp => exact (Reps.one (show Kd.M (Kd.int .i64) _ _ _ a1 [.int .i64 a1] from rfl) (Reps.none _ _))); intro v200 w15 ho16 hb hg_ hnew_; clear hg_ hnew_; (first | rw [← Ny199.out] at ho16 | (simp only [Int.reduceToNat] at ho16; rw [← Ny199.out] at ho16)); replace HO_7 := Aside0.mk (Kd.R_below aq14 hb); have HO201 := Aside0.mk (Kd.R_lower ho16 (below_size aq0)); replace HB := Aside0.mk (below_step aq0 hb); clear hb ho16; have p14 : 0 ≤ (a1 : Int) := of_decide_eq_true aq2; have q14 : (a1 : Int) < ((y196.length : Int) : Int) := of_decide_eq_true aq2; obtain ⟨go14, co14, eo14, gb0, gl14, cl14, HG14⟩ := Kd.R_form HO_7.out (by omega); (first | cases eo14 | (injection eo14 with ea_ en_ ec_; (first | subst ea_ | (injection ea_ with ea_; subst ea_)); subst ec_; clear en_)); have GB14 := Aside0.mk gb0; have GG14 := Aside0.mk HG14; clear gb0 gl14 HG14; obtain ⟨hx14_0, hf14_0⟩ := Kd.R_celln false HO_7.out (a1 : Int) p14 q14; replace p14 := eq_true p14; replace q14 := eq_true q14; obtain ⟨hy17_, hz17_⟩ := Kd.R_celln false HO_7.out (a1 : Int) (of_decide_eq_true aq2) (of_decide_eq_true aq2); have HP17 := Kd.R_putg HO_7.out (a1 : Int) true) | ((with_reducible refine gate_store (t := 4) (p := 33) rfl ?_); refine store_event (t := 4) (p := 33) (v := ?vo_w18) (w1 := (w15.setCell ⟨go14, (a1 : Int).toNat, none⟩ (.bool true))) ?hg ?ho ?hn ?hr ?_; (case ho => rfl); (case hg => rfl); (case hn => rfl); (case hr => first | (go_simp; done) | (go_simp; rfl)); intro w18 hw; have hg : w15.grownBy w18 (some go14) := (by rw [hw]; exact HP17.2); have hp_ : Kd.R Kd.bool 4 w18 w.heap.size (fun _ => True) (.slice (some ⟨go14, 0, none⟩) y196.length co14) y202 := (by rw [hw, Ny202.out]; exact HP17.1); clear HP17; replace HO201 := Aside0.mk (Kd.R_over' (v := (.slice (some ⟨go14, 0, none⟩) y196.length co14)) (by (with_reducible repeat (first | apply Kd.R_alloc | apply Kd.R_drewN | apply Kd.R_drew)); exact HO201.out) (Kd.R_typed HO_7.out) (by decide) hg); replace HO_7 := Aside0.mk (hp_); replace HB := Aside0.mk ((by rw [hw]; exact below_set (HB.out) GB14.out : Below w.heap.size w w18)); clear hg hw hp_))
   go_loopg [8, 9] kj5 (fun kq v8 v9 w' => ∃ (x7_2 : List Bool) (x8_2 : List Int) (x9_2 : Int), v9 = .int .i64 x9_2 ∧ Aside0 (palingref14_without.l0 kq l0 a2 x7_2 x8_2 x9_2 = some r) ∧ Aside0 (kq ≤ kj5) ∧ Aside0 (Kd.R Kd.bool 4 w' w.heap.size (fun _ => True) (.slice (some ⟨go14, 0, none⟩) y196.length co14) x7_2) ∧ Aside0 (Kd.R (Kd.int .i64) 3 w' w.heap.size (fun _ => True) v8 x8_2) ∧ Aside0 (Below w.heap.size w w'))
   case atStart => exact ⟨(y202), (y199), (0), aq5, H', ⟨Nat.le_refl _⟩, ⟨aq14⟩, ⟨by (with_reducible repeat (first | apply Kd.R_alloc | apply Kd.R_drewN | apply Kd.R_drew)); exact HO201.out⟩, ⟨aq0⟩⟩
   case round =>
    clear H'
    try clear hf14
    obtain ⟨x7_2, x8_2, x9_2, rfl, HA, HK2, HO_7, HO_8, HB⟩ := hrel
    have hl7_2 := (Kd.R_reads' HO_7.out).1
    rw [hl7_2] at HO_7
    (try simp only [hl7_2])
    (try simp only [hl7_2] at HO_8)
    cases gk with
    | zero => exact absurd HA.out (by simp [palingref14_without.l0])
    | succ k2 =>
     have H := HA.out
     clear HA
     simp only [palingref14_without.l0] at H
     by_cases c19 : x9_2 < (x8_2.length : Int)
     rotate_left
     ·rw [if_neg c19] at H
      have c19b0 : decide (x9_2 < (x8_2.length : Int)) = false := decide_eq_false c19
      clear c19
      obtain rfl := Option.some.inj H
      obtain ⟨Ao40, co40, eo40⟩ := Kd.R_slice HO_8.out
      subst eo40
      go_wp2
      go_ret
      exact ⟨_, aq11, aq14, aq0⟩
     rw [if_pos c19] at H
     have c19b0 : decide (x9_2 < (x8_2.length : Int)) = true := decide_eq_true c19
     clear c19
     by_cases c20 : 0 ≤ x9_2
     rotate_left
     ·rw [if_neg c20] at H
      exact absurd H (by simp)
     rw [if_pos c20] at H
     have c20b0 : decide (0 ≤ x9_2) = true := decide_eq_true c20
     clear c20
     obtain ⟨t204, A21, H⟩ := bS_ H
     have H' := Aside0.mk H
     clear H
     obtain ⟨Ao22, co22, eo22⟩ := Kd.R_slice HO_8.out
     subst eo22
     have p203 : 0 ≤ (x9_2 : Int) := of_decide_eq_true aq2
     have q203 : x9_2 < (x8_2.length : Int) := of_decide_eq_true aq2
     obtain ⟨ad203, e203, hx203_0⟩ := Kd.at_int (Kd.R_reads' HO_8.out).2.2 x9_2 p203 q203
     cases e203
     replace p203 := eq_true p203
     replace q203 := eq_true q203
     go_wp2_with (first | ((with_reducible refine gate_callee (f := 56) rfl ?_); refine goesL_ (some 45) rfl rfl Tryd.func56 (by kernel_rfl) rfl #[.slice A0 l0.length c0, .int .i64 (rd x8_2 x9_2)] rfl aq4 ?_; (with_reducible refine (palingref14_Next.calls k2 _ _ l0 (rd x8_2 x9_2) t204 _ ?side1 ?side2 A21.out).mono ?_); (case side1 => repeat (first | exact (Kd.C_below HR0.out HB.out) | (with_reducible refine Kd.C_alloc ?_ _) | (with_reducible refine Kd.C_drewN ?_ _) | (with_reducible refine Kd.C_drew ?_))); (case side2 => exact HC0.out); rintro e w23 ⟨v205, rfl, ho0, hb⟩; refine ⟨_, rfl, ?_⟩; replace HO_7 := Aside0.mk (Kd.R_below aq14 hb); have HO206 := Aside0.mk (Kd.R_lower (Kd.R_new' ho0 (Kd.R_lt aq22)) (below_size aq0)); replace HO_8 := Aside0.mk (Kd.R_elder' aq22 (Kd.R_base ho0) hb); replace HB := Aside0.mk (below_step aq0 hb); (try clear hb); (try clear hb2); (try clear hk); (try clear hi); (try clear ho0)))
     go_loopg [8, 11] k2 (fun kq v8 v11 w' => ∃ (x7_3 : List Bool) (x8_3 : List Int) (x11_3 : Int), v11 = .int .i64 x11_3 ∧ Aside0 (palingref14_without.l1 kq l0 a2 x7_3 x8_3 x9_2 t204 x11_3 = some r) ∧ Aside0 (kq ≤ k2) ∧ Aside0 (Kd.R Kd.bool 4 w' w.heap.size (fun _ => True) (.slice (some ⟨go14, 0, none⟩) x7_2.length co14) x7_3) ∧ Aside0 (Kd.R (Kd.int .i64) 3 w' w.heap.size (fun k_ => some k_ ≠ (v205 : Value).ownBlock) v8 x8_3) ∧ Aside0 (Kd.R (Kd.int .i64) 3 w' w.heap.size (fun k_ => some k_ ≠ (v8 : Value).ownBlock) v205 t204) ∧ Aside0 (Below w.heap.size w w'))
     case atStart => exact ⟨(x7_2), (x8_2), (0), aq5, H', ⟨Nat.le_refl _⟩, ⟨by (try simp only [hl7_2]); (with_reducible repeat (first | apply Kd.R_alloc | apply Kd.R_drewN | apply Kd.R_drew)); exact HO_7.out⟩, ⟨by (try simp only [hl7_2]); (with_reducible repeat (first | apply Kd.R_alloc | apply Kd.R_drewN | apply Kd.R_drew)); exact Kd.R_mono HO_8.out (fun _ hk => hk.2)⟩, ⟨by (try simp only [hl7_2]); (with_reducible repeat (first | apply Kd.R_alloc | apply Kd.R_drewN | apply Kd.R_drew)); exact Kd.R_mono HO206.out (fun _ hk => hk.2)⟩, ⟨aq0⟩⟩
     case round =>
      clear H'
      try clear hf14
      obtain ⟨x7_3, x8_3, x11_3, rfl, HA, HK3, HO_7, HO_8, HO_10, HB⟩ := hrel
      have hl7_3 := (Kd.R_reads' HO_7.out).1
      rw [hl7_3] at HO_7
      (try simp only [hl7_3])
      (try simp only [hl7_3] at HO_8)
      (try simp only [hl7_3] at HO_10)
      cases gk with
      | zero => exact absurd HA.out (by simp [palingref14_without.l1])
      | succ k3 =>
       have H := HA.out
       clear HA
       simp only [palingref14_without.l1] at H
       by_cases c24 : x11_3 < (t204.length : Int)
       rotate_left
       ·rw [if_neg c24] at H
        have c24b0 : decide (x11_3 < (t204.length : Int)) = false := decide_eq_false c24
        clear c24
        have H' := Aside0.mk H
        clear H
        obtain ⟨Ao39, co39, eo39⟩ := Kd.R_slice HO_10.out
        subst eo39
        go_wp2
        (try simp only [← hl7_2, ← hl7_3])
        go_roundg k3
        case measure => have := HJ5.out; have := HK2.out; have := HK3.out; omega
        case rel => exact ⟨(x7_3), (x8_3), (wrap64 (x9_2 + 1)), aq5, H', ⟨aq54⟩, ⟨aq38⟩, ⟨by (try simp only [hl7_2]); (try simp only [hl7_3]); (with_reducible repeat (first | apply Kd.R_alloc | apply Kd.R_drewN | apply Kd.R_drew)); exact Kd.R_mono HO_8.out (fun _ hk => trivial)⟩, ⟨aq0⟩⟩
       rw [if_pos c24] at H
       have c24b0 : decide (x11_3 < (t204.length : Int)) = true := decide_eq_true c24
       clear c24
       by_cases c25 : 0 ≤ x11_3
       rotate_left
       ·rw [if_neg c25] at H
        exact absurd H (by simp)
       rw [if_pos c25] at H
       have c25b0 : decide (0 ≤ x11_3) = true := decide_eq_true c25
       clear c25
       by_cases c26 : 0 ≤ (rd t204 x11_3)
       rotate_left
       ·rw [if_neg c26] at H
        exact absurd H (by simp)
       rw [if_pos c26] at H
       have c26b0 : decide (0 ≤ (rd t204 x11_3)) = true := decide_eq_true c26
       clear c26
       by_cases c27 : (rd t204 x11_3) < (x7_3.length : Int)
       rotate_left
       ·rw [if_neg c27] at H
        exact absurd H (by simp)
       rw [if_pos c27] at H
       have c27b0 : decide ((rd t204 x11_3) < (x7_3.length : Int)) = true := decide_eq_true c27
       clear c27
       obtain ⟨bq28, hbq28⟩ : ∃ b_ : Bool, b_ = (rdOf false x7_3 (rd t204 x11_3)) := ⟨_, rfl⟩
       replace H : (if (bq28 = true) then (palingref14_without.l1 k3 l0 a2 x7_3 x8_3 x9_2 t204 (wrap64 (x11_3 + 1))) else (if (rd t204 x11_3) = a2 then (palingref14_without.l1 k3 l0 a2 x7_3 x8_3 x9_2 t204 (wrap64 (x11_3 + 1))) else (if x8_3.length < 17592186044416 then (palingref14_without.l1 k3 l0 a2 (x7_3.set ((rd t204 x11_3) : Int).toNat true) (x8_3 ++ [rd t204 x11_3]) x9_2 t204 (wrap64 (x11_3 + 1))) else (none)))) = some r := by rw [← hbq28] at H; exact H
       have Nbq28 := Aside0.mk hbq28
       clear hbq28
       by_cases c29 : (bq28 = true)
       ·subst c29
        rw [if_pos rfl] at H
        have H' := Aside0.mk H
        clear H
        obtain ⟨Ao30, co30, eo30⟩ := Kd.R_slice HO_10.out
        subst eo30
        have p207 : 0 ≤ (x11_3 : Int) := of_decide_eq_true aq2
        have q207 : x11_3 < (t204.length : Int) := of_decide_eq_true aq2
        obtain ⟨ad207, e207, hx207_0⟩ := Kd.at_int (Kd.R_reads' HO_10.out).2.2 x11_3 p207 q207
        cases e207
        replace p207 := eq_true p207
        replace q207 := eq_true q207
        have p208 : 0 ≤ ((rd t204 x11_3) : Int) := of_decide_eq_true aq2
        have q208 : (rd t204 x11_3) < (x7_3.length : Int) := of_decide_eq_true aq2
        obtain ⟨ad208, e208, hx208_0⟩ := Kd.at_bool (Kd.R_reads' HO_7.out).2.2 (rd t204 x11_3) p208 q208
        (try rw [← Nbq28.out] at hx208_0)
        obtain rfl : (⟨go14, 0, none⟩ : Addr) = ad208 := (by injection e208)
        (first | simp only [add_plain] at hx208_0 | simp only [add_at] at hx208_0 | simp only [Addr.add, Nat.zero_add] at hx208_0 | skip)
        replace p208 := eq_true p208
        replace q208 := eq_true q208
        go_wp2
        (try simp only [← hl7_3])
        go_roundg k3
        case measure => have := HJ5.out; have := HK2.out; have := HK3.out; omega
        case rel => exact ⟨(x7_3), (x8_3), (wrap64 (x11_3 + 1)), aq5, H', ⟨aq54⟩, ⟨aq38⟩, ⟨by (try simp only [hl7_2]); (try simp only [hl7_3]); (with_reducible repeat (first | apply Kd.R_alloc | apply Kd.R_drewN | apply Kd.R_drew)); exact HO_8.out⟩, ⟨by (try simp only [hl7_2]); (try simp only [hl7_3]); (with_reducible repeat (first | apply Kd.R_alloc | apply Kd.R_drewN | apply Kd.R_drew)); exact HO_10.out⟩, ⟨aq0⟩⟩
       replace c29 := Bool.eq_false_iff.mpr c29
       subst c29
       rw [if_neg nf_] at H
       by_cases c31 : (rd t204 x11_3) = a2
       ·rw [if_pos c31] at H
        have c31b0 : ((rd t204 x11_3) == a2) = true := beq_iff_eq.mpr c31
        have c31b1 : ((rd t204 x11_3) != a2) = false := bne_eq_false_iff_eq.mpr c31
        clear c31
        have H' := Aside0.mk H
        clear H
        obtain ⟨Ao32, co32, eo32⟩ := Kd.R_slice HO_10.out
        subst eo32
        have p207 : 0 ≤ (x11_3 : Int) := of_decide_eq_true aq2
        have q207 : x11_3 < (t204.length : Int) := of_decide_eq_true aq2
        obtain ⟨ad207, e207, hx207_0⟩ := Kd.at_int (Kd.R_reads' HO_10.out).2.2 x11_3 p207 q207
        cases e207
        replace p207 := eq_true p207
        replace q207 := eq_true q207
        have p208 : 0 ≤ ((rd t204 x11_3) : Int) := of_decide_eq_true aq2
        have q208 : (rd t204 x11_3) < (x7_3.length : Int) := of_decide_eq_true aq2
        obtain ⟨ad208, e208, hx208_0⟩ := Kd.at_bool (Kd.R_reads' HO_7.out).2.2 (rd t204 x11_3) p208 q208
        (try rw [← Nbq28.out] at hx208_0)
        obtain rfl : (⟨go14, 0, none⟩ : Addr) = ad208 := (by injection e208)
        (first | simp only [add_plain] at hx208_0 | simp only [add_at] at hx208_0 | simp only [Addr.add, Nat.zero_add] at hx208_0 | skip)
        replace p208 := eq_true p208
        replace q208 := eq_true q208
        have p209 : 0 ≤ (x11_3 : Int) := of_decide_eq_true aq2
        have q209 : x11_3 < (t204.length : Int) := of_decide_eq_true aq2
        obtain ⟨ad209, e209, hx209_0⟩ := Kd.at_int (Kd.R_reads' HO_10.out).2.2 x11_3 p209 q209
        obtain rfl : ad207 = ad209 := (by injection e209)
        replace p209 := eq_true p209
        replace q209 := eq_true q209
        go_wp2
        (try simp only [← hl7_3])
        go_roundg k3
        case measure => have := HJ5.out; have := HK2.out; have := HK3.out; omega
        case rel => exact ⟨(x7_3), (x8_3), (wrap64 (x11_3 + 1)), aq5, H', ⟨aq54⟩, ⟨aq38⟩, ⟨by (try simp only [hl7_2]); (try simp only [hl7_3]); (with_reducible repeat (first | apply Kd.R_alloc | apply Kd.R_drewN | apply Kd.R_drew)); exact HO_8.out⟩, ⟨by (try simp only [hl7_2]); (try simp only [hl7_3]); (with_reducible repeat (first | apply Kd.R_alloc | apply Kd.R_drewN | apply Kd.R_drew)); exact HO_10.out⟩, ⟨aq0⟩⟩
       rw [if_neg c31] at H
       have c31b0 : ((rd t204 x11_3) == a2) = false := beq_eq_false_iff_ne.mpr c31
       have c31b1 : ((rd t204 x11_3) != a2) = true := bne_iff_ne.mpr c31
       obtain ⟨y211, hy_⟩ : ∃ y_ : List Bool, y_ = (x7_3.set ((rd t204 x11_3) : Int).toNat true) := ⟨_, rfl⟩
       replace H : (if x8_3.length < 17592186044416 then (palingref14_without.l1 k3 l0 a2 y211 (x8_3 ++ [rd t204 x11_3]) x9_2 t204 (wrap64 (x11_3 + 1))) else (none)) = some r := aq1
       have Ny211 := Aside0.mk hy_
       clear hy_
       by_cases c34 : x8_3.length < 17592186044416
       rotate_left
       ·rw [if_neg c34] at H
        exact absurd H (by simp)
       rw [if_pos c34] at H
       have LMc34 := Aside0.mk c34
       clear c34
       obtain ⟨y213, hy_⟩ : ∃ y_ : List Int, y_ = (x8_3 ++ [rd t204 x11_3]) := ⟨_, rfl⟩
       replace H : (palingref14_without.l1 k3 l0 a2 y211 y213 x9_2 t204 (wrap64 (x11_3 + 1))) = some r := aq1
       have Ny213 := Aside0.mk hy_
       clear hy_
       have H' := Aside0.mk H
       clear H
       obtain ⟨Ao35, co35, eo35⟩ := Kd.R_slice HO_10.out
       subst eo35
       have p207 : 0 ≤ (x11_3 : Int) := of_decide_eq_true aq2
       have q207 : x11_3 < (t204.length : Int) := of_decide_eq_true aq2
       obtain ⟨ad207, e207, hx207_0⟩ := Kd.at_int (Kd.R_reads' HO_10.out).2.2 x11_3 p207 q207
       cases e207
       replace p207 := eq_true p207
       replace q207 := eq_true q207
       have p208 : 0 ≤ ((rd t204 x11_3) : Int) := of_decide_eq_true aq2
       have q208 : (rd t204 x11_3) < (x7_3.length : Int) := of_decide_eq_true aq2
       obtain ⟨ad208, e208, hx208_0⟩ := Kd.at_bool (Kd.R_reads' HO_7.out).2.2 (rd t204 x11_3) p208 q208
       (try rw [← Nbq28.out] at hx208_0)
       obtain rfl : (⟨go14, 0, none⟩ : Addr) = ad208 := (by injection e208)
       (first | simp only [add_plain] at hx208_0 | simp only [add_at] at hx208_0 | simp only [Addr.add, Nat.zero_add] at hx208_0 | skip)
       replace p208 := eq_true p208
       replace q208 := eq_true q208
       have p209 : 0 ≤ (x11_3 : Int) := of_decide_eq_true aq2
       have q209 : x11_3 < (t204.length : Int) := of_decide_eq_true aq2
       obtain ⟨ad209, e209, hx209_0⟩ := Kd.at_int (Kd.R_reads' HO_10.out).2.2 x11_3 p209 q209
       obtain rfl : ad207 = ad209 := (by injection e209)
       replace p209 := eq_true p209
       replace q209 := eq_true q209
       have p210 : 0 ≤ (x11_3 : Int) := of_decide_eq_true aq2
       have q210 : x11_3 < (t204.length : Int) := of_decide_eq_true aq2
       obtain ⟨ad210, e210, hx210_0⟩ := Kd.at_int (Kd.R_reads' HO_10.out).2.2 x11_3 p210 q210
       obtain rfl : ad207 = ad210 := (by injection e210)
       replace p210 := eq_true p210
       replace q210 := eq_true q210
       have p33 : 0 ≤ ((rd t204 x11_3) : Int) := of_decide_eq_true aq2
       have q33 : ((rd t204 x11_3) : Int) < ((x7_3.length : Int) : Int) := of_decide_eq_true aq2
       obtain ⟨hx33_0, hf33_0⟩ := Kd.R_celln false HO_7.out ((rd t204 x11_3) : Int) p33 q33
       replace p33 := eq_true p33
       replace q33 := eq_true q33
       have HP36 := Kd.R_putg HO_7.out ((rd t204 x11_3) : Int) true
       go_wp2_with (first | ((with_reducible refine gate_store (t := 4) (p := 73) rfl ?_); refine store_event (t := 4) (p := 73) (v := ?vo_w37) (w1 := (wr.setCell ⟨go14, ((rd t204 x11_3) : Int).toNat, none⟩ (.bool true))) ?hg ?ho ?hn ?hr ?_; (case ho => rfl); (case hg => rfl); (case hn => rfl); (case hr => first | (go_simp; done) | (go_simp; rfl)); intro w37 hw; have hg : wr.grownBy w37 (some go14) := (by rw [hw]; exact HP36.2); have hp_ : Kd.R Kd.bool 4 w37 w.heap.size (fun _ => True) (.slice (some ⟨go14, 0, none⟩) x7_3.length co14) y211 := (by rw [hw, Ny211.out]; exact HP36.1); clear HP36; replace HO_8 := Aside0.mk (Kd.R_over' (v := (.slice (some ⟨go14, 0, none⟩) x7_3.length co14)) aq22 (Kd.R_typed HO_7.out) (by decide) hg); replace HO_10 := Aside0.mk (Kd.R_over' (v := (.slice (some ⟨go14, 0, none⟩) x7_3.length co14)) (by (with_reducible repeat (first | apply Kd.R_alloc | apply Kd.R_drewN | apply Kd.R_drew)); exact HO_10.out) (Kd.R_typed HO_7.out) (by decide) hg); replace HO_7 := Aside0.mk (hp_); replace HB := Aside0.mk ((by rw [hw]; exact below_set (HB.out) GB14.out : Below w.heap.size w w37)); clear hg hw hp_; have p212 : 0 ≤ (x11_3 : Int) := of_decide_eq_true aq2; have q212 : x11_3 < (t204.length : Int) := of_decide_eq_true aq2; obtain ⟨ad212, e212, hx212_0⟩ := Kd.at_int (Kd.R_reads' HO_10.out).2.2 x11_3 p212 q212; obtain rfl : ad207 = ad212 := (by injection e212); replace p212 := eq_true p212; replace q212 := eq_true q212) | ((with_reducible refine gate_builtin (b := .append) (xs := #[.tmp 74, .tmp 79]) rfl ?_); (try (refine gate_guard (by rfl) ?_; dsimp only)); at_builtin; refine Kd.R_append (Kd.int .i64) (w0 := w) w.heap.size rfl (.tmp 74) (.tmp 79) 57 3 (.int .i64 0) 8 rfl Tryd.underlying57 info3 rfl (by decide) (by omega) u8 x8_3 (rd t204 x11_3) [.int .i64 (rd t204 x11_3)] (fun k_ => some k_ ≠ (.slice (some ad207) t204.length co35 : Value).ownBlock) (fun _ => False) rfl rfl ?aP (fun _ hk => hk.elim) ?aF ?aO ?aB ?aS ?aL ?_; (case aP => exact rfl); (case aB => exact aq0); (case aF => exact (fun k_ hk => Kd.fresh' (Kd.R_lt (by (with_reducible repeat (first | apply Kd.R_alloc | apply Kd.R_drewN | apply Kd.R_drew)); exact HO_10.out)) k_ hk)); (case aO => exact aq22); (case aS => exact (below_size aq0)); (case aL => have := LMc34.out; omega); intro v214 w38 ho hb hg hat; rw [← Ny213.out] at ho; replace HO_7 := Aside0.mk (Kd.R_over' aq14 (Kd.R_typed aq22) (by decide) hg); replace HO_10 := Aside0.mk (Kd.R_after (ok := (fun _ => True)) (by (with_reducible repeat (first | apply Kd.R_alloc | apply Kd.R_drewN | apply Kd.R_drew)); exact Kd.R_mono HO_10.out (fun _ hk => ⟨trivial, hk⟩)) hg hat); replace HB := Aside0.mk (hb); have HO215 := Aside0.mk (ho); clear HO_8; clear ho hb hg hat))
       (try simp only [← hl7_3])
       go_roundg k3
       case measure => have := HJ5.out; have := HK2.out; have := HK3.out; omega
       case rel => exact ⟨(y211), (y213), (wrap64 (x11_3 + 1)), aq5, H', ⟨aq54⟩, ⟨aq38⟩, ⟨by (try simp only [hl7_2]); (try simp only [hl7_3]); (with_reducible repeat (first | apply Kd.R_alloc | apply Kd.R_drewN | apply Kd.R_drew)); exact HO215.out⟩, ⟨by (try simp only [hl7_2]); (try simp only [hl7_3]); (with_reducible repeat (first | apply Kd.R_alloc | apply Kd.R_drewN | apply Kd.R_drew)); exact Kd.R_mono HO_10.out (fun _ hk => hk.2)⟩, ⟨aq0⟩⟩
/-! ### palingref14_Reach: function 21 -/
def palingref14_Reach.f (k : Nat) (l0 : List (S28)) : Option (List Bool) := (palingref14_without.f k l0 0 (-1)).bind fun t216 => (some t216)
theorem palingref14_Reach.mono : ∀ a0 k, LeO (palingref14_Reach.f k a0) (palingref14_Reach.f (k + 1) a0) := by
 intro a0 k
 unfold palingref14_Reach.f
 repeat' (first | (with_reducible first | exact palingref14_without.mono _ _ _ _ | exact LeO.refl _ | exact LeO.none _ | refine LeO.ite ?_ ?_ | refine LeO.bind ?_ (fun _ => ?_)) | exact palingref14_without.mono _ _ _ _ | exact LeO.none _ | refine LeO.ite ?_ ?_ | refine LeO.bind ?_ (fun _ => ?_))
set_option maxHeartbeats 8000000 in
set_option maxRecDepth 100000 in
theorem palingref14_Reach.calls (k : Nat) (A0 : Option Addr) (c0 : Nat) (l0 : List (S28)) (r : List Bool) (w : World) (hr0 : Kd.C k28 w A0 l0.length l0) (hc0 : l0.length ≤ c0) (h : palingref14_Reach.f k l0 = some r) :
    Calls Tryd.prog 21 #[.slice A0 l0.length c0] w fun e w' => ∃ v0_ : Value, e = .returned (v0_) ∧ Kd.R Kd.bool 4 w' w.heap.size (fun _ => True) v0_ r ∧ Below w.heap.size w w' := by
 have HR0 := Aside0.mk hr0
 have HC0 := Aside0.mk hc0
 clear hr0 hc0
 have HB := Aside0.mk (Below.refl w.heap.size w)
 have H : ((palingref14_without.f k l0 0 (-1)).bind fun t216 => (some t216)) = some r := h
 clear h
 obtain ⟨t216, A2, H⟩ := bS_ H
 obtain rfl := Option.some.inj H
 go_enter Tryd.func21, Tryd.ntmps21
 go_wp2_with (first | ((with_reducible refine gate_callee (f := 42) rfl ?_); refine goesL_ (some 4) rfl rfl Tryd.func42 (by kernel_rfl) rfl #[.slice A0 l0.length c0, .int .i64 0, .int .i64 (-1)] rfl aq4 ?_; (with_reducible refine (palingref14_without.calls k _ _ l0 0 (-1) t216 _ ?side1 ?side2 A2.out).mono ?_); (case side1 => repeat (first | exact HR0.out | (with_reducible refine Kd.C_alloc ?_ _) | (with_reducible refine Kd.C_drewN ?_ _) | (with_reducible refine Kd.C_drew ?_))); (case side2 => exact HC0.out); rintro e w3 ⟨v217, rfl, ho0, hb⟩; refine ⟨_, rfl, ?_⟩; have HO218 := Aside0.mk (Kd.R_lower ho0 (below_size aq0)); replace HB := Aside0.mk (below_step aq0 hb); (try clear hb); (try clear hb2); (try clear hk); (try clear hi); (try clear ho0)))
 go_ret
 exact ⟨_, aq11, by (with_reducible repeat (first | apply Kd.R_alloc | apply Kd.R_drewN | apply Kd.R_drew)); exact HO218.out, aq0⟩
/-! ### palingref11_Def: function 28 -/
def palingref11_Def.f (k : Nat) (a0_0 : Int) (a0_1 : Int) (a0_2 : Int) (a0_3 : Int) (a0_4 : Int) (a0_5 : Int) (a0_6 : Int) : Option (Int) := (palingref11_fields.f a0_0).bind fun t220 => ((palingref11_Has.f k t220 68).bind fun t221 => (if t221 = true then (some a0_2) else (some (-1))))
theorem palingref11_Def.mono : ∀ a0 a1 a2 a3 a4 a5 a6 k, LeO (palingref11_Def.f k a0 a1 a2 a3 a4 a5 a6) (palingref11_Def.f (k + 1) a0 a1 a2 a3 a4 a5 a6) := by
 intro a0 a1 a2 a3 a4 a5 a6 k
 unfold palingref11_Def.f
 repeat' (first | (with_reducible first | exact palingref11_Has.mono _ _ _ | exact LeO.refl _ | exact LeO.none _ | refine LeO.ite ?_ ?_ | refine LeO.bind ?_ (fun _ => ?_)) | exact palingref11_Has.mono _ _ _ | exact LeO.none _ | refine LeO.ite ?_ ?_ | refine LeO.bind ?_ (fun _ => ?_))
set_option maxHeartbeats 8000000 in
set_option maxRecDepth 100000 in
theorem palingref11_Def.calls (k : Nat) (a0_0 : Int) (a0_1 : Int) (a0_2 : Int) (a0_3 : Int) (a0_4 : Int) (a0_5 : Int) (a0_6 : Int) (r : Int) (w : World) (h : palingref11_Def.f k a0_0 a0_1 a0_2 a0_3 a0_4 a0_5 a0_6 = some r) :
    Calls Tryd.prog 28 #[.agg #[.int .i64 a0_0, .int .i64 a0_1, .int .i64 a0_2, .int .i64 a0_3, .int .i64 a0_4, .int .i64 a0_5, .int .i64 a0_6]] w fun e w' => e = .returned (.int .i64 r) ∧ Below w.heap.size w w' := by
 have hu28 := Tryd.underlying28
 have HB := Aside0.mk (Below.refl w.heap.size w)
 have H : ((palingref11_fields.f a0_0).bind fun t220 => ((palingref11_Has.f k t220 68).bind fun t221 => (if t221 = true then (some a0_2) else (some (-1))))) = some r := h
 clear h
 obtain ⟨t220, A2, H⟩ := bS_ H
 obtain ⟨t221, A3, H⟩ := bS_ H
 by_cases c4 : t221 = true
 rotate_left
 ·replace c4 := Bool.eq_false_iff.mpr c4
  subst c4
  rw [if_neg nf_] at H
  obtain rfl := Option.some.inj H
  go_enter Tryd.func28, Tryd.ntmps28
  go_wp2_with (first | ((with_reducible refine gate_dst (N := 1) rfl ?_); refine box_event ?hg (N := 1) ?hd (cs := #[.int .i64 a0_0, .int .i64 a0_1, .int .i64 a0_2, .int .i64 a0_3, .int .i64 a0_4, .int .i64 a0_5, .int .i64 a0_6]) (t := 28) ?hr ?_; (case hd => rfl); (case hg => rfl); (case hr => first | (go_simp; done) | (go_simp; rfl)); intro gb0 hg w9 hbox hb; have BK0 := Aside0.mk (hbox); have GW0 := Aside0.mk ((by rw [hg]; exact (below_size aq0) : w.heap.size ≤ gb0)); have GE0 := Aside0.mk ((by rw [hg]; exact (below_size aq0) : w.heap.size ≤ gb0)); replace HB := Aside0.mk (below_step aq0 hb); clear hb hbox hg; obtain ⟨hcz10_0, hcz10_1, hcz10_2, hcz10_3, hcz10_4, hcz10_5, hcz10_6, hfz10_0, hfz10_1, hfz10_2, hfz10_3, hfz10_4, hfz10_5, hfz10_6⟩ := czf7 BK0.out) | ((with_reducible refine gate_callee (f := 43) rfl ?_); refine goesL_ (some 5) rfl rfl Tryd.func43 (by kernel_rfl) rfl #[.int .i64 a0_0] rfl aq4 ?_; (with_reducible refine (palingref11_fields.calls a0_0 t220 _ A2.out).mono ?_); rintro e w11 ⟨rfl, hb⟩; refine ⟨_, rfl, ?_⟩; replace BK0 := Aside0.mk (blk_below (g := gb0) (o := .cells #[.int .i64 a0_0, .int .i64 a0_1, .int .i64 a0_2, .int .i64 a0_3, .int .i64 a0_4, .int .i64 a0_5, .int .i64 a0_6] 28 (0, 0)) aq8 hb); replace HB := Aside0.mk (below_step aq3 hb); (try clear hb); (try clear hb2); (try clear hk); (try clear hi)) | ((with_reducible refine gate_callee (f := 45) rfl ?_); refine goesL_ (some 6) rfl rfl Tryd.func45 (by kernel_rfl) rfl #[.string t220, .int .u8 68] rfl aq4 ?_; (with_reducible refine (palingref11_Has.calls k t220 68 false _ A3.out).mono ?_); rintro e w' ⟨rfl, ⟨nd, rfl⟩⟩; refine ⟨_, rfl, ?_⟩))
  go_ret
  exact ⟨aq11, aq3⟩
 subst c4
 rw [if_pos rfl] at H
 obtain rfl := Option.some.inj H
 go_enter Tryd.func28, Tryd.ntmps28
 go_wp2_with (first | ((with_reducible refine gate_dst (N := 1) rfl ?_); refine box_event ?hg (N := 1) ?hd (cs := #[.int .i64 a0_0, .int .i64 a0_1, .int .i64 a0_2, .int .i64 a0_3, .int .i64 a0_4, .int .i64 a0_5, .int .i64 a0_6]) (t := 28) ?hr ?_; (case hd => rfl); (case hg => rfl); (case hr => first | (go_simp; done) | (go_simp; rfl)); intro gb0 hg w5 hbox hb; have BK0 := Aside0.mk (hbox); have GW0 := Aside0.mk ((by rw [hg]; exact (below_size aq0) : w.heap.size ≤ gb0)); have GE0 := Aside0.mk ((by rw [hg]; exact (below_size aq0) : w.heap.size ≤ gb0)); replace HB := Aside0.mk (below_step aq0 hb); clear hb hbox hg; obtain ⟨hcz6_0, hcz6_1, hcz6_2, hcz6_3, hcz6_4, hcz6_5, hcz6_6, hfz6_0, hfz6_1, hfz6_2, hfz6_3, hfz6_4, hfz6_5, hfz6_6⟩ := czf7 BK0.out) | ((with_reducible refine gate_callee (f := 43) rfl ?_); refine goesL_ (some 5) rfl rfl Tryd.func43 (by kernel_rfl) rfl #[.int .i64 a0_0] rfl aq4 ?_; (with_reducible refine (palingref11_fields.calls a0_0 t220 _ A2.out).mono ?_); rintro e w7 ⟨rfl, hb⟩; refine ⟨_, rfl, ?_⟩; replace BK0 := Aside0.mk (blk_below (g := gb0) (o := .cells #[.int .i64 a0_0, .int .i64 a0_1, .int .i64 a0_2, .int .i64 a0_3, .int .i64 a0_4, .int .i64 a0_5, .int .i64 a0_6] 28 (0, 0)) aq8 hb); replace HB := Aside0.mk (below_step aq3 hb); (try clear hb); (try clear hb2); (try clear hk); (try clear hi)) | ((with_reducible refine gate_callee (f := 45) rfl ?_); refine goesL_ (some 6) rfl rfl Tryd.func45 (by kernel_rfl) rfl #[.string t220, .int .u8 68] rfl aq4 ?_; (with_reducible refine (palingref11_Has.calls k t220 68 true _ A3.out).mono ?_); rintro e w' ⟨rfl, ⟨nd, rfl⟩⟩; refine ⟨_, rfl, ?_⟩; obtain ⟨hcz8_0, hcz8_1, hcz8_2, hcz8_3, hcz8_4, hcz8_5, hcz8_6, hfz8_0, hfz8_1, hfz8_2, hfz8_3, hfz8_4, hfz8_5, hfz8_6⟩ := czf7 BK0.out))
 go_ret
 exact ⟨aq11, aq3⟩
end Go.Proofs.YtdopacgaklaaeaaDoor.PDeadTells
