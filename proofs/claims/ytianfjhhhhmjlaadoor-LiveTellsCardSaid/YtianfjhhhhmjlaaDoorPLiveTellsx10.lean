-- Written by print2.py over the kit's printer. Not trusted: Lean checks it.
import Derived.Test.YtianfjhhhhmjlaaDoorPLiveTellshqq
import Derived.Test.YtianfjhhhhmjlaaDoorPLiveTellshmid
import Derived.Test.YtianfjhhhhmjlaaDoorPLiveTellsx0
import Derived.Test.YtianfjhhhhmjlaaDoorPLiveTellsx2
import Derived.Test.YtianfjhhhhmjlaaDoorPLiveTellsx7
import Derived.Test.YtianfjhhhhmjlaaDoorPLiveTellsx8
import Derived.Test.YtianfjhhhhmjlaaDoorPLiveTellsx9
import Derived.Test.YtianfjhhhhmjlaaDoorPLiveTellshlahead
import Derived.Test.YtianfjhhhhmjlaaDoorPLiveTellshlmost
import Derived.Test.YtianfjhhhhmjlaaDoorPLiveTellshlranges
namespace Go.Proofs.YtianfjhhhhmjlaaDoor.PLiveTells
open Go.RowKit Go.Proofs.YtianfjhhhhmjlaaDoorW.PrintWords Go.Proofs.YtianfjhhhhmjlaaDoorW.PrintLast Go.Proofs.YtianfjhhhhmjlaaDoorW.PrintMore
attribute [local go_sem] max2_int min2_int max_two min_two max_three min_three max_four min_four   -- for this text's walks alone
set_option linter.unusedVariables false
set_option linter.unusedSimpArgs false

/-! ### palinglaw15_rows: function 11 -/
def palinglaw15_rows.l0 : Nat → List (List Int) → List (List Int) → Int → Option (Bool)
  | 0, _, _, _ => none
  | k + 1, x0, x1, x5 => if x5 < (x0.length : Int) then (if 0 ≤ x5 then (if x5 < (x1.length : Int) then ((palingref14_Ints.f k (rd_L5 x0 x5) (rd_L5 x1 x5)).bind fun t332 => (if t332 = true then (palinglaw15_rows.l0 k x0 x1 (wrap64 (x5 + 1))) else (some false))) else (none)) else (none)) else (some true)
def palinglaw15_rows.f (k : Nat) (l0 : List (List Int)) (l1 : List (List Int)) : Option (Bool) := if (l0.length : Int) = (l1.length : Int) then (palinglaw15_rows.l0 k l0 l1 0) else (some false)
theorem palinglaw15_rows.mono_l : ∀ k, (∀ y0 y1 y2, LeO (palinglaw15_rows.l0 k y0 y1 y2) (palinglaw15_rows.l0 (k + 1) y0 y1 y2))
  | 0 => fun _ _ _ r h => by simp [palinglaw15_rows.l0] at h
  | k + 1 => by
    have ih0 := palinglaw15_rows.mono_l k
    intros <;> unfold palinglaw15_rows.l0 <;> repeat' (first | (with_reducible first | exact ih0 _ _ _ | exact palingref14_Ints.mono _ _ _ | exact LeO.refl _ | exact LeO.none _ | refine LeO.ite ?_ ?_ | refine LeO.bind ?_ (fun _ => ?_)) | exact ih0 _ _ _ | exact palingref14_Ints.mono _ _ _ | exact LeO.none _ | refine LeO.ite ?_ ?_ | refine LeO.bind ?_ (fun _ => ?_))
theorem palinglaw15_rows.mono : ∀ a0 a1 k, LeO (palinglaw15_rows.f k a0 a1) (palinglaw15_rows.f (k + 1) a0 a1) := by
 intro a0 a1 k
 have ih0 := palinglaw15_rows.mono_l k
 unfold palinglaw15_rows.f
 repeat' (first | (with_reducible first | exact ih0 _ _ _ | exact palingref14_Ints.mono _ _ _ | exact LeO.refl _ | exact LeO.none _ | refine LeO.ite ?_ ?_ | refine LeO.bind ?_ (fun _ => ?_)) | exact ih0 _ _ _ | exact palingref14_Ints.mono _ _ _ | exact LeO.none _ | refine LeO.ite ?_ ?_ | refine LeO.bind ?_ (fun _ => ?_))
set_option maxHeartbeats 8000000 in
set_option maxRecDepth 100000 in
theorem palinglaw15_rows.calls (k : Nat) (A0 : Option Addr) (c0 : Nat) (l0 : List (List Int)) (A1 : Option Addr) (c1 : Nat) (l1 : List (List Int)) (r : Bool) (w : World) (hr0 : Kd.C (Kd.slice 3 (Kd.int .i64)) w A0 l0.length l0) (hc0 : l0.length ≤ c0) (hr1 : Kd.C (Kd.slice 3 (Kd.int .i64)) w A1 l1.length l1) (hc1 : l1.length ≤ c1) (h : palinglaw15_rows.f k l0 l1 = some r) :
    Calls Tryd.prog 11 #[.slice A0 l0.length c0, .slice A1 l1.length c1] w fun e w' => e = .returned (.bool r) ∧ Drawn0 w w' := by
 have HR0 := Aside0.mk hr0
 have HC0 := Aside0.mk hc0
 clear hr0 hc0
 have HR1 := Aside0.mk hr1
 have HC1 := Aside0.mk hc1
 clear hr1 hc1
 have H : (if (l0.length : Int) = (l1.length : Int) then (palinglaw15_rows.l0 k l0 l1 0) else (some false)) = some r := h
 clear h
 by_cases c3 : (l0.length : Int) = (l1.length : Int)
 rotate_left
 ·rw [if_neg c3] at H
  have c3b0 : ((l0.length : Int) == (l1.length : Int)) = false := beq_eq_false_iff_ne.mpr c3
  have c3b1 : ((l0.length : Int) != (l1.length : Int)) = true := bne_iff_ne.mpr c3
  have c3b2 : (l0.length == l1.length) = false := by first | simpa using c3 | (simp at c3 ⊢; omega)
  obtain rfl := Option.some.inj H
  go_enter Tryd.func11, Tryd.ntmps11
  go_wp2
  repeat (go_quiet (fail); try go_wp2)
  go_ret
  exact ⟨aq9, aq21⟩
 rw [if_pos c3] at H
 have c3b0 : ((l0.length : Int) == (l1.length : Int)) = true := beq_iff_eq.mpr c3
 have c3b1 : ((l0.length : Int) != (l1.length : Int)) = false := bne_eq_false_iff_eq.mpr c3
 have c3b2 : (l0.length == l1.length) = true := by first | simpa using c3 | (simp at c3 ⊢; omega)
 clear c3
 have H' := Aside0.mk H
 clear H
 go_enter Tryd.func11, Tryd.ntmps11
 go_wp2
 repeat (go_quiet (fail); try go_wp2)
 go_loopg [5] k (fun kq v5 w' => ∃ (x5_1 : Int), v5 = .int .i64 x5_1 ∧ Aside0 (palinglaw15_rows.l0 kq l0 l1 x5_1 = some r) ∧ Aside0 (kq ≤ k) ∧ Drawn0 w w')
 case atStart => exact ⟨(0), aq9, H', ⟨Nat.le_refl _⟩, aq21⟩
 case round =>
  clear H'
  obtain ⟨x5_1, rfl, HA, HK1, ⟨m1, rfl⟩⟩ := hrel
  cases gk with
  | zero => exact absurd HA.out (by simp [palinglaw15_rows.l0])
  | succ k1 =>
   have H := HA.out
   clear HA
   simp only [palinglaw15_rows.l0] at H
   by_cases c4 : x5_1 < (l0.length : Int)
   rotate_left
   ·rw [if_neg c4] at H
    have c4b0 : decide (x5_1 < (l0.length : Int)) = false := decide_eq_false c4
    clear c4
    obtain rfl := Option.some.inj H
    go_wp2
    repeat (go_quiet (fail); try go_wp2)
    go_ret
    exact ⟨aq9, aq21⟩
   rw [if_pos c4] at H
   have c4b0 : decide (x5_1 < (l0.length : Int)) = true := decide_eq_true c4
   clear c4
   by_cases c5 : 0 ≤ x5_1
   rotate_left
   ·rw [if_neg c5] at H
    exact absurd H (by simp)
   rw [if_pos c5] at H
   have c5b0 : decide (0 ≤ x5_1) = true := decide_eq_true c5
   clear c5
   by_cases c6 : x5_1 < (l1.length : Int)
   rotate_left
   ·rw [if_neg c6] at H
    exact absurd H (by simp)
   rw [if_pos c6] at H
   have c6b0 : decide (x5_1 < (l1.length : Int)) = true := decide_eq_true c6
   clear c6
   obtain ⟨t332, A7, H⟩ := bS_ H
   by_cases c8 : t332 = true
   rotate_left
   ·replace c8 := Bool.eq_false_iff.mpr c8
    subst c8
    rw [if_neg nf_] at H
    obtain rfl := Option.some.inj H
    have p330 : 0 ≤ (x5_1 : Int) := of_decide_eq_true aq1
    have q330 : x5_1 < (l0.length : Int) := of_decide_eq_true aq1
    obtain ⟨ad330, A330_0, c330_0, e330, hx330_0, hl330_0, hi330_0⟩ := at_L5 HR0.out x5_1 p330 q330
    cases e330
    have HR330_0 := Aside0.mk hi330_0
    have HC330_0 := Aside0.mk hl330_0
    clear hi330_0 hl330_0
    replace p330 := eq_true p330
    replace q330 := eq_true q330
    have p331 : 0 ≤ (x5_1 : Int) := of_decide_eq_true aq1
    have q331 : x5_1 < (l1.length : Int) := of_decide_eq_true aq1
    obtain ⟨ad331, A331_0, c331_0, e331, hx331_0, hl331_0, hi331_0⟩ := at_L5 HR1.out x5_1 p331 q331
    cases e331
    have HR331_0 := Aside0.mk hi331_0
    have HC331_0 := Aside0.mk hl331_0
    clear hi331_0 hl331_0
    replace p331 := eq_true p331
    replace q331 := eq_true q331
    go_wp2_with (first | (go_at_call 23; (with_reducible refine (palingref14_Ints.calls k1 _ _ (rd_L5 l0 x5_1) _ _ (rd_L5 l1 x5_1) false _ ?side1 ?side2 ?side3 ?side4 A7.out).mono ?_); (case side1 => repeat (first | exact HR330_0.out | (with_reducible refine Kd.C_alloc ?_ _) | (with_reducible refine Kd.C_drewN ?_ _) | (with_reducible refine Kd.C_drew ?_))); (case side2 => exact HC330_0.out); (case side3 => repeat (first | exact HR331_0.out | (with_reducible refine Kd.C_alloc ?_ _) | (with_reducible refine Kd.C_drewN ?_ _) | (with_reducible refine Kd.C_drew ?_))); (case side4 => exact HC331_0.out); rintro e w' ⟨rfl, ⟨nd, rfl⟩⟩; (try first | exact ⟨rfl, _, World.drewN_drewN _ _ _⟩ | exact ⟨rfl, _, Eq.trans (World.drewN_drewN _ _ _) (congrArg (World.drewN _) (Nat.add_assoc _ _ _))⟩)))
    repeat (go_quiet (first | (go_at_call 23; (with_reducible refine (palingref14_Ints.calls k1 _ _ (rd_L5 l0 x5_1) _ _ (rd_L5 l1 x5_1) false _ ?side1 ?side2 ?side3 ?side4 A7.out).mono ?_); (case side1 => repeat (first | exact HR330_0.out | (with_reducible refine Kd.C_alloc ?_ _) | (with_reducible refine Kd.C_drewN ?_ _) | (with_reducible refine Kd.C_drew ?_))); (case side2 => exact HC330_0.out); (case side3 => repeat (first | exact HR331_0.out | (with_reducible refine Kd.C_alloc ?_ _) | (with_reducible refine Kd.C_drewN ?_ _) | (with_reducible refine Kd.C_drew ?_))); (case side4 => exact HC331_0.out); rintro e w' ⟨rfl, ⟨nd, rfl⟩⟩; (try first | exact ⟨rfl, _, World.drewN_drewN _ _ _⟩ | exact ⟨rfl, _, Eq.trans (World.drewN_drewN _ _ _) (congrArg (World.drewN _) (Nat.add_assoc _ _ _))⟩))); try go_wp2_with (first | (go_at_call 23; (with_reducible refine (palingref14_Ints.calls k1 _ _ (rd_L5 l0 x5_1) _ _ (rd_L5 l1 x5_1) false _ ?side1 ?side2 ?side3 ?side4 A7.out).mono ?_); (case side1 => repeat (first | exact HR330_0.out | (with_reducible refine Kd.C_alloc ?_ _) | (with_reducible refine Kd.C_drewN ?_ _) | (with_reducible refine Kd.C_drew ?_))); (case side2 => exact HC330_0.out); (case side3 => repeat (first | exact HR331_0.out | (with_reducible refine Kd.C_alloc ?_ _) | (with_reducible refine Kd.C_drewN ?_ _) | (with_reducible refine Kd.C_drew ?_))); (case side4 => exact HC331_0.out); rintro e w' ⟨rfl, ⟨nd, rfl⟩⟩; (try first | exact ⟨rfl, _, World.drewN_drewN _ _ _⟩ | exact ⟨rfl, _, Eq.trans (World.drewN_drewN _ _ _) (congrArg (World.drewN _) (Nat.add_assoc _ _ _))⟩))))
    go_ret
    exact ⟨aq9, aq21⟩
   subst c8
   rw [if_pos rfl] at H
   have H' := Aside0.mk H
   clear H
   have p330 : 0 ≤ (x5_1 : Int) := of_decide_eq_true aq1
   have q330 : x5_1 < (l0.length : Int) := of_decide_eq_true aq1
   obtain ⟨ad330, A330_0, c330_0, e330, hx330_0, hl330_0, hi330_0⟩ := at_L5 HR0.out x5_1 p330 q330
   cases e330
   have HR330_0 := Aside0.mk hi330_0
   have HC330_0 := Aside0.mk hl330_0
   clear hi330_0 hl330_0
   replace p330 := eq_true p330
   replace q330 := eq_true q330
   have p331 : 0 ≤ (x5_1 : Int) := of_decide_eq_true aq1
   have q331 : x5_1 < (l1.length : Int) := of_decide_eq_true aq1
   obtain ⟨ad331, A331_0, c331_0, e331, hx331_0, hl331_0, hi331_0⟩ := at_L5 HR1.out x5_1 p331 q331
   cases e331
   have HR331_0 := Aside0.mk hi331_0
   have HC331_0 := Aside0.mk hl331_0
   clear hi331_0 hl331_0
   replace p331 := eq_true p331
   replace q331 := eq_true q331
   go_wp2_with (first | (go_at_call 23; (with_reducible refine (palingref14_Ints.calls k1 _ _ (rd_L5 l0 x5_1) _ _ (rd_L5 l1 x5_1) true _ ?side1 ?side2 ?side3 ?side4 A7.out).mono ?_); (case side1 => repeat (first | exact HR330_0.out | (with_reducible refine Kd.C_alloc ?_ _) | (with_reducible refine Kd.C_drewN ?_ _) | (with_reducible refine Kd.C_drew ?_))); (case side2 => exact HC330_0.out); (case side3 => repeat (first | exact HR331_0.out | (with_reducible refine Kd.C_alloc ?_ _) | (with_reducible refine Kd.C_drewN ?_ _) | (with_reducible refine Kd.C_drew ?_))); (case side4 => exact HC331_0.out); rintro e w' ⟨rfl, ⟨nd, rfl⟩⟩; (try first | exact ⟨rfl, _, World.drewN_drewN _ _ _⟩ | exact ⟨rfl, _, Eq.trans (World.drewN_drewN _ _ _) (congrArg (World.drewN _) (Nat.add_assoc _ _ _))⟩)))
   repeat (go_quiet (first | (go_at_call 23; (with_reducible refine (palingref14_Ints.calls k1 _ _ (rd_L5 l0 x5_1) _ _ (rd_L5 l1 x5_1) true _ ?side1 ?side2 ?side3 ?side4 A7.out).mono ?_); (case side1 => repeat (first | exact HR330_0.out | (with_reducible refine Kd.C_alloc ?_ _) | (with_reducible refine Kd.C_drewN ?_ _) | (with_reducible refine Kd.C_drew ?_))); (case side2 => exact HC330_0.out); (case side3 => repeat (first | exact HR331_0.out | (with_reducible refine Kd.C_alloc ?_ _) | (with_reducible refine Kd.C_drewN ?_ _) | (with_reducible refine Kd.C_drew ?_))); (case side4 => exact HC331_0.out); rintro e w' ⟨rfl, ⟨nd, rfl⟩⟩; (try first | exact ⟨rfl, _, World.drewN_drewN _ _ _⟩ | exact ⟨rfl, _, Eq.trans (World.drewN_drewN _ _ _) (congrArg (World.drewN _) (Nat.add_assoc _ _ _))⟩))); try go_wp2_with (first | (go_at_call 23; (with_reducible refine (palingref14_Ints.calls k1 _ _ (rd_L5 l0 x5_1) _ _ (rd_L5 l1 x5_1) true _ ?side1 ?side2 ?side3 ?side4 A7.out).mono ?_); (case side1 => repeat (first | exact HR330_0.out | (with_reducible refine Kd.C_alloc ?_ _) | (with_reducible refine Kd.C_drewN ?_ _) | (with_reducible refine Kd.C_drew ?_))); (case side2 => exact HC330_0.out); (case side3 => repeat (first | exact HR331_0.out | (with_reducible refine Kd.C_alloc ?_ _) | (with_reducible refine Kd.C_drewN ?_ _) | (with_reducible refine Kd.C_drew ?_))); (case side4 => exact HC331_0.out); rintro e w' ⟨rfl, ⟨nd, rfl⟩⟩; (try first | exact ⟨rfl, _, World.drewN_drewN _ _ _⟩ | exact ⟨rfl, _, Eq.trans (World.drewN_drewN _ _ _) (congrArg (World.drewN _) (Nat.add_assoc _ _ _))⟩))))
   go_roundg k1
   case measure => have := HK1.out; omega
   case rel => exact ⟨(wrap64 (x5_1 + 1)), aq9, H', ⟨aq60⟩, aq21⟩
/-! ### palingref15_Most: function 17 -/
def palingref15_Most.l0 : Nat → List (S39) → Int → List (List Int) → Int → Option (Int)
  | 0, _, _, _, _ => none
  | k + 1, x0, x3, x4, x5 => if x5 < (x0.length : Int) then (if 0 ≤ x5 then (if x5 < (x4.length : Int) then (palingref15_Most.l0 k x0 (mx x3 ((rd_L5 x4 x5).length : Int)) x4 (wrap64 (x5 + 1))) else (none)) else (none)) else (some x3)
def palingref15_Most.f (k : Nat) (l0 : List (S39)) : Option (Int) := (palingref15_Ahead.f k l0).bind fun t333 => (palingref15_Most.l0 k l0 0 t333 0)
theorem palingref15_Most.mono_l : ∀ k, (∀ y0 y1 y2 y3, LeO (palingref15_Most.l0 k y0 y1 y2 y3) (palingref15_Most.l0 (k + 1) y0 y1 y2 y3))
  | 0 => fun _ _ _ _ r h => by simp [palingref15_Most.l0] at h
  | k + 1 => by
    have ih0 := palingref15_Most.mono_l k
    intros <;> unfold palingref15_Most.l0 <;> repeat' (first | (with_reducible first | exact ih0 _ _ _ _ | exact palingref15_Ahead.mono _ _ | exact LeO.refl _ | exact LeO.none _ | refine LeO.ite ?_ ?_ | refine LeO.bind ?_ (fun _ => ?_)) | exact ih0 _ _ _ _ | exact palingref15_Ahead.mono _ _ | exact LeO.none _ | refine LeO.ite ?_ ?_ | refine LeO.bind ?_ (fun _ => ?_))
theorem palingref15_Most.mono : ∀ a0 k, LeO (palingref15_Most.f k a0) (palingref15_Most.f (k + 1) a0) := by
 intro a0 k
 have ih0 := palingref15_Most.mono_l k
 unfold palingref15_Most.f
 repeat' (first | (with_reducible first | exact ih0 _ _ _ _ | exact palingref15_Ahead.mono _ _ | exact LeO.refl _ | exact LeO.none _ | refine LeO.ite ?_ ?_ | refine LeO.bind ?_ (fun _ => ?_)) | exact ih0 _ _ _ _ | exact palingref15_Ahead.mono _ _ | exact LeO.none _ | refine LeO.ite ?_ ?_ | refine LeO.bind ?_ (fun _ => ?_))
set_option maxHeartbeats 8000000 in
set_option maxRecDepth 100000 in
theorem palingref15_Most.calls (k : Nat) (A0 : Option Addr) (c0 : Nat) (l0 : List (S39)) (r : Int) (w : World) (hr0 : Kd.C k39 w A0 l0.length l0) (hc0 : l0.length ≤ c0) (h : palingref15_Most.f k l0 = some r) :
    Calls Tryd.prog 17 #[.slice A0 l0.length c0] w fun e w' => e = .returned (.int .i64 r) ∧ Below w.heap.size w w' := by
 have HR0 := Aside0.mk hr0
 have HC0 := Aside0.mk hc0
 clear hr0 hc0
 have HB := Aside0.mk (Below.refl w.heap.size w)
 have H : ((palingref15_Ahead.f k l0).bind fun t333 => (palingref15_Most.l0 k l0 0 t333 0)) = some r := h
 clear h
 obtain ⟨t333, A2, H⟩ := bS_ H
 have H' := Aside0.mk H
 clear H
 go_enter Tryd.func17, Tryd.ntmps17
 go_wp2_with (first | ((with_reducible refine gate_callee (f := 13) rfl ?_); refine goesL_ (some 7) rfl rfl Tryd.func13 (by kernel_rfl) rfl #[.slice A0 l0.length c0] rfl aq5 ?_; (with_reducible refine (palingref15_Ahead.calls k _ _ l0 t333 _ ?side1 ?side2 A2.out).mono ?_); (case side1 => repeat (first | exact HR0.out | (with_reducible refine Kd.C_alloc ?_ _) | (with_reducible refine Kd.C_drewN ?_ _) | (with_reducible refine Kd.C_drew ?_))); (case side2 => exact HC0.out); rintro e w3 ⟨v334, rfl, ho0, hb⟩; refine ⟨_, rfl, ?_⟩; have HO335 := Aside0.mk (Kd.S_lower ho0 (below_size aq0)); replace HB := Aside0.mk (below_step aq0 hb); (try clear hb); (try clear hb2); (try clear hk); (try clear hi); (try clear ho0)))
 go_loopg [3, 5] k (fun kq v3 v5 w' => ∃ (x3_1 : Int) (x5_1 : Int), v3 = .int .i64 x3_1 ∧ v5 = .int .i64 x5_1 ∧ Aside0 (palingref15_Most.l0 kq l0 x3_1 t333 x5_1 = some r) ∧ Aside0 (kq ≤ k) ∧ Aside0 (Kd.S (Kd.slice 3 (Kd.int .i64)) 36 w' w.heap.size (fun _ => True) v334 t333) ∧ Aside0 (Below w.heap.size w w'))
 case atStart => exact ⟨(0), (0), aq9, aq9, H', ⟨Nat.le_refl _⟩, ⟨by (with_reducible repeat (first | apply Kd.S_alloc | apply Kd.S_drewN | apply Kd.S_drew)); exact HO335.out⟩, ⟨aq0⟩⟩
 case round =>
  clear H'
  obtain ⟨x3_1, x5_1, rfl, rfl, HA, HK1, HO_4, HB⟩ := hrel
  cases gk with
  | zero => exact absurd HA.out (by simp [palingref15_Most.l0])
  | succ k1 =>
   have H := HA.out
   clear HA
   simp only [palingref15_Most.l0] at H
   by_cases c4 : x5_1 < (l0.length : Int)
   rotate_left
   ·rw [if_neg c4] at H
    have c4b0 : decide (x5_1 < (l0.length : Int)) = false := decide_eq_false c4
    clear c4
    obtain rfl := Option.some.inj H
    go_wp2
    go_ret
    exact ⟨aq13, aq0⟩
   rw [if_pos c4] at H
   have c4b0 : decide (x5_1 < (l0.length : Int)) = true := decide_eq_true c4
   clear c4
   by_cases c5 : 0 ≤ x5_1
   rotate_left
   ·rw [if_neg c5] at H
    exact absurd H (by simp)
   rw [if_pos c5] at H
   have c5b0 : decide (0 ≤ x5_1) = true := decide_eq_true c5
   clear c5
   by_cases c6 : x5_1 < (t333.length : Int)
   rotate_left
   ·rw [if_neg c6] at H
    exact absurd H (by simp)
   rw [if_pos c6] at H
   have c6b0 : decide (x5_1 < (t333.length : Int)) = true := decide_eq_true c6
   clear c6
   obtain ⟨ji7, hji7⟩ : ∃ j_ : Int, (mx x3_1 ((rd_L5 t333 x5_1).length : Int)) = j_ := ⟨_, rfl⟩
   replace H : (palingref15_Most.l0 k1 l0 ji7 t333 (wrap64 (x5_1 + 1))) = some r := by first | (rw [hji7] at H; exact H) | (simp only [hji7] at H ⊢; exact H)
   have hji7_ : (if x3_1 < ((rd_L5 t333 x5_1).length : Int) then ((rd_L5 t333 x5_1).length : Int) else x3_1) = ji7 := hji7
   have H' := Aside0.mk H
   clear H
   obtain ⟨Ao8, co8, eo8⟩ := Kd.S_slice HO_4.out
   subst eo8
   have p336 : 0 ≤ (x5_1 : Int) := of_decide_eq_true aq1
   have q336 : x5_1 < (t333.length : Int) := of_decide_eq_true aq1
   obtain ⟨ad336, A336_0, c336_0, e336, hx336_0, hl336_0, hi336_0⟩ := at_L5 (Kd.S_reads' HO_4.out).2.2 x5_1 p336 q336
   cases e336
   obtain ⟨ce336, hce336, hMe336, hcc336⟩ := Kd.S_get HO_4.out [] x5_1 p336 (by first | exact q336 | exact of_decide_eq_true aq1 | (have e_ := (Kd.S_reads' HO_4.out).1; omega))
   obtain ⟨ve336_0, rfl, ge336_0⟩ := hMe336
   have hv336_0 := hcc336 0 _ rfl
   rw [Nat.add_zero, show ((Kd.slice 3 (Kd.int .i64))).sz = 1 from rfl, Nat.mul_one] at hv336_0
   replace hv336_0 := Option.some.inj (hv336_0.symm.trans hx336_0)
   rw [hv336_0] at ge336_0
   have HL336_0 := Aside0.mk (show Kd.R (Kd.int .i64) 3 _ _ _ _ (rd_L5 t333 x5_1) from ge336_0)
   clear hv336_0 ge336_0 hcc336 hce336
   have HR336_0 := Aside0.mk hi336_0
   have HC336_0 := Aside0.mk hl336_0
   clear hi336_0 hl336_0
   replace p336 := eq_true p336
   replace q336 := eq_true q336
   go_wp2
   go_roundg k1
   case measure => have := HK1.out; omega
   case rel => exact ⟨(ji7), (wrap64 (x5_1 + 1)), (by first | rfl | (simp; done) | (simp only [← hji7] <;> (first | rfl | simp)) | (simp [*]; done)), aq9, H', ⟨aq60⟩, ⟨aq16⟩, ⟨aq0⟩⟩
/-! ### palinglaw15_LiveTells: function 3 -/
def palinglaw15_LiveTells.l0 : Nat → List (S39) → List (S30) → List (S31) → Int → Option (Bool)
  | 0, _, _, _, _ => none
  | k + 1, x0, x5, x6, x7 => if x7 < (x5.length : Int) then (if 0 ≤ x7 then (if x7 < (x6.length : Int) then (if ((rd_T30 x5 x7).f0) = ((rd_T31 x6 x7).f0) then (if ((rd_T30 x5 x7).f1) = ((rd_T31 x6 x7).f1) then (if ((rd_T30 x5 x7).f2) = ((rd_T31 x6 x7).f2) then (palinglaw15_LiveTells.l0 k x0 x5 x6 (wrap64 (x7 + 1))) else (none)) else (none)) else (none)) else (none)) else (none)) else ((live_Ahead.f k x0).bind fun t351 => ((palingref15_Ahead.f k x0).bind fun t354 => ((palinglaw15_rows.f k t351 t354).bind fun t357 => (if t357 = true then ((live_Behind.f k x0).bind fun t358 => ((palingref15_Behind.f k x0).bind fun t361 => ((palinglaw15_rows.f k t358 t361).bind fun t364 => (if t364 = true then ((live_Most.f k x0).bind fun t365 => ((palingref15_Most.f k x0).bind fun t366 => (some (t365 == t366)))) else (none))))) else (none)))))
def palinglaw15_LiveTells.f (k : Nat) (l0 : List (S39)) : Option (Bool) := (palinglaw15_awake.f k).bind fun t337 => (if t337 = true then ((palinglaw15_small.f k l0).bind fun t338 => (if t338 = true then ((live_Ranges.f k l0).bind fun t339 => ((palingref15_Ranges.f k l0).bind fun t342 => (if (t339.length : Int) = (t342.length : Int) then (palinglaw15_LiveTells.l0 k l0 t339 t342 0) else (none)))) else (some true))) else (none))
theorem palinglaw15_LiveTells.mono_l : ∀ k, (∀ y0 y1 y2 y3, LeO (palinglaw15_LiveTells.l0 k y0 y1 y2 y3) (palinglaw15_LiveTells.l0 (k + 1) y0 y1 y2 y3))
  | 0 => fun _ _ _ _ r h => by simp [palinglaw15_LiveTells.l0] at h
  | k + 1 => by
    have ih0 := palinglaw15_LiveTells.mono_l k
    intros <;> unfold palinglaw15_LiveTells.l0 <;> repeat' (first | (with_reducible first | exact ih0 _ _ _ _ | exact live_Ahead.mono _ _ | exact live_Behind.mono _ _ | exact live_Most.mono _ _ | exact live_Ranges.mono _ _ | exact palinglaw15_awake.mono _ | exact palinglaw15_rows.mono _ _ _ | exact palinglaw15_small.mono _ _ | exact palingref15_Ahead.mono _ _ | exact palingref15_Behind.mono _ _ | exact palingref15_Most.mono _ _ | exact palingref15_Ranges.mono _ _ | exact LeO.refl _ | exact LeO.none _ | refine LeO.ite ?_ ?_ | refine LeO.bind ?_ (fun _ => ?_)) | exact ih0 _ _ _ _ | exact live_Ahead.mono _ _ | exact live_Behind.mono _ _ | exact live_Most.mono _ _ | exact live_Ranges.mono _ _ | exact palinglaw15_awake.mono _ | exact palinglaw15_rows.mono _ _ _ | exact palinglaw15_small.mono _ _ | exact palingref15_Ahead.mono _ _ | exact palingref15_Behind.mono _ _ | exact palingref15_Most.mono _ _ | exact palingref15_Ranges.mono _ _ | exact LeO.none _ | refine LeO.ite ?_ ?_ | refine LeO.bind ?_ (fun _ => ?_))
theorem palinglaw15_LiveTells.mono : ∀ a0 k, LeO (palinglaw15_LiveTells.f k a0) (palinglaw15_LiveTells.f (k + 1) a0) := by
 intro a0 k
 have ih0 := palinglaw15_LiveTells.mono_l k
 unfold palinglaw15_LiveTells.f
 repeat' (first | (with_reducible first | exact ih0 _ _ _ _ | exact live_Ahead.mono _ _ | exact live_Behind.mono _ _ | exact live_Most.mono _ _ | exact live_Ranges.mono _ _ | exact palinglaw15_awake.mono _ | exact palinglaw15_rows.mono _ _ _ | exact palinglaw15_small.mono _ _ | exact palingref15_Ahead.mono _ _ | exact palingref15_Behind.mono _ _ | exact palingref15_Most.mono _ _ | exact palingref15_Ranges.mono _ _ | exact LeO.refl _ | exact LeO.none _ | refine LeO.ite ?_ ?_ | refine LeO.bind ?_ (fun _ => ?_)) | exact ih0 _ _ _ _ | exact live_Ahead.mono _ _ | exact live_Behind.mono _ _ | exact live_Most.mono _ _ | exact live_Ranges.mono _ _ | exact palinglaw15_awake.mono _ | exact palinglaw15_rows.mono _ _ _ | exact palinglaw15_small.mono _ _ | exact palingref15_Ahead.mono _ _ | exact palingref15_Behind.mono _ _ | exact palingref15_Most.mono _ _ | exact palingref15_Ranges.mono _ _ | exact LeO.none _ | refine LeO.ite ?_ ?_ | refine LeO.bind ?_ (fun _ => ?_))
set_option maxHeartbeats 8000000 in
set_option maxRecDepth 100000 in
theorem palinglaw15_LiveTells.calls (k : Nat) (A0 : Option Addr) (c0 : Nat) (l0 : List (S39)) (r : Bool) (w : World) (hr0 : Kd.C k39 w A0 l0.length l0) (hc0 : l0.length ≤ c0) (h : palinglaw15_LiveTells.f k l0 = some r) (hgl : GlobOK w) :
    Calls Tryd.prog 3 #[.slice A0 l0.length c0] w fun e w' => e = .returned (.bool r) ∧ Below w.heap.size w w' := by
 have HR0 := Aside0.mk hr0
 have HC0 := Aside0.mk hc0
 clear hr0 hc0
 have HB := Aside0.mk (Below.refl w.heap.size w)
 have HGL := Aside0.mk hgl
 clear hgl
 have H : ((palinglaw15_awake.f k).bind fun t337 => (if t337 = true then ((palinglaw15_small.f k l0).bind fun t338 => (if t338 = true then ((live_Ranges.f k l0).bind fun t339 => ((palingref15_Ranges.f k l0).bind fun t342 => (if (t339.length : Int) = (t342.length : Int) then (palinglaw15_LiveTells.l0 k l0 t339 t342 0) else (none)))) else (some true))) else (none))) = some r := h
 clear h
 obtain ⟨t337, A2, H⟩ := bS_ H
 by_cases c3 : t337 = true
 rotate_left
 ·replace c3 := Bool.eq_false_iff.mpr c3
  subst c3
  rw [if_neg nf_] at H
  exact absurd H (by simp)
 subst c3
 rw [if_pos rfl] at H
 obtain ⟨t338, A4, H⟩ := bS_ H
 by_cases c5 : t338 = true
 rotate_left
 ·replace c5 := Bool.eq_false_iff.mpr c5
  subst c5
  rw [if_neg nf_] at H
  obtain rfl := Option.some.inj H
  go_enter Tryd.func3, Tryd.ntmps3
  go_wp2_with (first | (go_at_call 7; (with_reducible refine (palinglaw15_awake.calls k  true _ A2.out (GlobOK.step HGL.out aq0)).mono ?_); rintro e w57 ⟨rfl, hb⟩; replace HB := Aside0.mk (below_step aq0 hb); (try clear hb); (try clear hb2); (try clear hk); (try clear hi)) | (go_at_call 8; (with_reducible refine (palinglaw15_small.calls k _ _ l0 false _ ?side1 ?side2 A4.out).mono ?_); (case side1 => repeat (first | exact (Kd.C_below HR0.out HB.out) | (with_reducible refine Kd.C_alloc ?_ _) | (with_reducible refine Kd.C_drewN ?_ _) | (with_reducible refine Kd.C_drew ?_))); (case side2 => exact HC0.out); rintro e w' ⟨rfl, ⟨nd, rfl⟩⟩; (try first | exact ⟨rfl, _, World.drewN_drewN _ _ _⟩ | exact ⟨rfl, _, Eq.trans (World.drewN_drewN _ _ _) (congrArg (World.drewN _) (Nat.add_assoc _ _ _))⟩)))
  repeat (go_quiet (first | (go_at_call 7; (with_reducible refine (palinglaw15_awake.calls k  true _ A2.out (GlobOK.step HGL.out aq0)).mono ?_); rintro e w57 ⟨rfl, hb⟩; replace HB := Aside0.mk (below_step aq0 hb); (try clear hb); (try clear hb2); (try clear hk); (try clear hi)) | (go_at_call 8; (with_reducible refine (palinglaw15_small.calls k _ _ l0 false _ ?side1 ?side2 A4.out).mono ?_); (case side1 => repeat (first | exact (Kd.C_below HR0.out HB.out) | (with_reducible refine Kd.C_alloc ?_ _) | (with_reducible refine Kd.C_drewN ?_ _) | (with_reducible refine Kd.C_drew ?_))); (case side2 => exact HC0.out); rintro e w' ⟨rfl, ⟨nd, rfl⟩⟩; (try first | exact ⟨rfl, _, World.drewN_drewN _ _ _⟩ | exact ⟨rfl, _, Eq.trans (World.drewN_drewN _ _ _) (congrArg (World.drewN _) (Nat.add_assoc _ _ _))⟩))); try go_wp2_with (first | (go_at_call 7; (with_reducible refine (palinglaw15_awake.calls k  true _ A2.out (GlobOK.step HGL.out aq0)).mono ?_); rintro e w57 ⟨rfl, hb⟩; replace HB := Aside0.mk (below_step aq0 hb); (try clear hb); (try clear hb2); (try clear hk); (try clear hi)) | (go_at_call 8; (with_reducible refine (palinglaw15_small.calls k _ _ l0 false _ ?side1 ?side2 A4.out).mono ?_); (case side1 => repeat (first | exact (Kd.C_below HR0.out HB.out) | (with_reducible refine Kd.C_alloc ?_ _) | (with_reducible refine Kd.C_drewN ?_ _) | (with_reducible refine Kd.C_drew ?_))); (case side2 => exact HC0.out); rintro e w' ⟨rfl, ⟨nd, rfl⟩⟩; (try first | exact ⟨rfl, _, World.drewN_drewN _ _ _⟩ | exact ⟨rfl, _, Eq.trans (World.drewN_drewN _ _ _) (congrArg (World.drewN _) (Nat.add_assoc _ _ _))⟩))))
  go_ret
  exact ⟨aq13, aq0⟩
 subst c5
 rw [if_pos rfl] at H
 obtain ⟨t339, A6, H⟩ := bS_ H
 obtain ⟨t342, A7, H⟩ := bS_ H
 by_cases c8 : (t339.length : Int) = (t342.length : Int)
 rotate_left
 ·rw [if_neg c8] at H
  have c8b0 : ((t339.length : Int) == (t342.length : Int)) = false := beq_eq_false_iff_ne.mpr c8
  have c8b1 : ((t339.length : Int) != (t342.length : Int)) = true := bne_iff_ne.mpr c8
  have c8b2 : (t339.length == t342.length) = false := by first | simpa using c8 | (simp at c8 ⊢; omega)
  exact absurd H (by simp)
 rw [if_pos c8] at H
 have c8b0 : ((t339.length : Int) == (t342.length : Int)) = true := beq_iff_eq.mpr c8
 have c8b1 : ((t339.length : Int) != (t342.length : Int)) = false := bne_eq_false_iff_eq.mpr c8
 have c8b2 : (t339.length == t342.length) = true := by first | simpa using c8 | (simp at c8 ⊢; omega)
 clear c8
 have H' := Aside0.mk H
 clear H
 go_enter Tryd.func3, Tryd.ntmps3
 go_wp2_with (first | (go_at_call 7; (with_reducible refine (palinglaw15_awake.calls k  true _ A2.out (GlobOK.step HGL.out aq0)).mono ?_); rintro e w9 ⟨rfl, hb⟩; replace HB := Aside0.mk (below_step aq0 hb); (try clear hb); (try clear hb2); (try clear hk); (try clear hi)) | (go_at_call 8; (with_reducible refine (palinglaw15_small.calls k _ _ l0 true _ ?side1 ?side2 A4.out).mono ?_); (case side1 => repeat (first | exact (Kd.C_below HR0.out HB.out) | (with_reducible refine Kd.C_alloc ?_ _) | (with_reducible refine Kd.C_drewN ?_ _) | (with_reducible refine Kd.C_drew ?_))); (case side2 => exact HC0.out); rintro e w' ⟨rfl, ⟨nd, rfl⟩⟩; (try first | exact ⟨rfl, _, World.drewN_drewN _ _ _⟩ | exact ⟨rfl, _, Eq.trans (World.drewN_drewN _ _ _) (congrArg (World.drewN _) (Nat.add_assoc _ _ _))⟩)) | (go_at_call 9; (with_reducible refine (live_Ranges.calls k _ _ l0 t339 _ ?side1 ?side2 A6.out (GlobOK.step HGL.out aq0)).mono ?_); (case side1 => repeat (first | exact (Kd.C_below HR0.out aq0) | (with_reducible refine Kd.C_alloc ?_ _) | (with_reducible refine Kd.C_drewN ?_ _) | (with_reducible refine Kd.C_drew ?_))); (case side2 => exact HC0.out); rintro e w10 ⟨v340, rfl, ho0, hb⟩; have HO341 := Aside0.mk (Kd.R_lower ho0 (below_size aq0)); replace HB := Aside0.mk (below_step aq0 hb); (try clear hb); (try clear hb2); (try clear hk); (try clear hi); (try clear ho0)) | (go_at_call 10; (with_reducible refine (palingref15_Ranges.calls k _ _ l0 t342 _ ?side1 ?side2 A7.out).mono ?_); (case side1 => repeat (first | exact (Kd.C_below HR0.out HB.out) | (with_reducible refine Kd.C_alloc ?_ _) | (with_reducible refine Kd.C_drewN ?_ _) | (with_reducible refine Kd.C_drew ?_))); (case side2 => exact HC0.out); rintro e w11 ⟨v343, rfl, ho0, hb⟩; replace HO341 := Aside0.mk (Kd.R_below aq52 hb); have HO344 := Aside0.mk (Kd.R_lower ho0 (below_size aq0)); replace HB := Aside0.mk (below_step aq0 hb); (try clear hb); (try clear hb2); (try clear hk); (try clear hi); (try clear ho0); obtain ⟨Ao12, co12, eo12⟩ := Kd.R_slice HO341.out; subst eo12; obtain ⟨Ao13, co13, eo13⟩ := Kd.R_slice HO344.out; subst eo13))
 repeat (go_quiet (first | (go_at_call 7; (with_reducible refine (palinglaw15_awake.calls k  true _ A2.out (GlobOK.step HGL.out aq0)).mono ?_); rintro e w9 ⟨rfl, hb⟩; replace HB := Aside0.mk (below_step aq0 hb); (try clear hb); (try clear hb2); (try clear hk); (try clear hi)) | (go_at_call 8; (with_reducible refine (palinglaw15_small.calls k _ _ l0 true _ ?side1 ?side2 A4.out).mono ?_); (case side1 => repeat (first | exact (Kd.C_below HR0.out HB.out) | (with_reducible refine Kd.C_alloc ?_ _) | (with_reducible refine Kd.C_drewN ?_ _) | (with_reducible refine Kd.C_drew ?_))); (case side2 => exact HC0.out); rintro e w' ⟨rfl, ⟨nd, rfl⟩⟩; (try first | exact ⟨rfl, _, World.drewN_drewN _ _ _⟩ | exact ⟨rfl, _, Eq.trans (World.drewN_drewN _ _ _) (congrArg (World.drewN _) (Nat.add_assoc _ _ _))⟩)) | (go_at_call 9; (with_reducible refine (live_Ranges.calls k _ _ l0 t339 _ ?side1 ?side2 A6.out (GlobOK.step HGL.out aq0)).mono ?_); (case side1 => repeat (first | exact (Kd.C_below HR0.out aq0) | (with_reducible refine Kd.C_alloc ?_ _) | (with_reducible refine Kd.C_drewN ?_ _) | (with_reducible refine Kd.C_drew ?_))); (case side2 => exact HC0.out); rintro e w10 ⟨v340, rfl, ho0, hb⟩; have HO341 := Aside0.mk (Kd.R_lower ho0 (below_size aq0)); replace HB := Aside0.mk (below_step aq0 hb); (try clear hb); (try clear hb2); (try clear hk); (try clear hi); (try clear ho0)) | (go_at_call 10; (with_reducible refine (palingref15_Ranges.calls k _ _ l0 t342 _ ?side1 ?side2 A7.out).mono ?_); (case side1 => repeat (first | exact (Kd.C_below HR0.out HB.out) | (with_reducible refine Kd.C_alloc ?_ _) | (with_reducible refine Kd.C_drewN ?_ _) | (with_reducible refine Kd.C_drew ?_))); (case side2 => exact HC0.out); rintro e w11 ⟨v343, rfl, ho0, hb⟩; replace HO341 := Aside0.mk (Kd.R_below aq52 hb); have HO344 := Aside0.mk (Kd.R_lower ho0 (below_size aq0)); replace HB := Aside0.mk (below_step aq0 hb); (try clear hb); (try clear hb2); (try clear hk); (try clear hi); (try clear ho0); obtain ⟨Ao12, co12, eo12⟩ := Kd.R_slice HO341.out; subst eo12; obtain ⟨Ao13, co13, eo13⟩ := Kd.R_slice HO344.out; subst eo13)); try go_wp2_with (first | (go_at_call 7; (with_reducible refine (palinglaw15_awake.calls k  true _ A2.out (GlobOK.step HGL.out aq0)).mono ?_); rintro e w9 ⟨rfl, hb⟩; replace HB := Aside0.mk (below_step aq0 hb); (try clear hb); (try clear hb2); (try clear hk); (try clear hi)) | (go_at_call 8; (with_reducible refine (palinglaw15_small.calls k _ _ l0 true _ ?side1 ?side2 A4.out).mono ?_); (case side1 => repeat (first | exact (Kd.C_below HR0.out HB.out) | (with_reducible refine Kd.C_alloc ?_ _) | (with_reducible refine Kd.C_drewN ?_ _) | (with_reducible refine Kd.C_drew ?_))); (case side2 => exact HC0.out); rintro e w' ⟨rfl, ⟨nd, rfl⟩⟩; (try first | exact ⟨rfl, _, World.drewN_drewN _ _ _⟩ | exact ⟨rfl, _, Eq.trans (World.drewN_drewN _ _ _) (congrArg (World.drewN _) (Nat.add_assoc _ _ _))⟩)) | (go_at_call 9; (with_reducible refine (live_Ranges.calls k _ _ l0 t339 _ ?side1 ?side2 A6.out (GlobOK.step HGL.out aq0)).mono ?_); (case side1 => repeat (first | exact (Kd.C_below HR0.out aq0) | (with_reducible refine Kd.C_alloc ?_ _) | (with_reducible refine Kd.C_drewN ?_ _) | (with_reducible refine Kd.C_drew ?_))); (case side2 => exact HC0.out); rintro e w10 ⟨v340, rfl, ho0, hb⟩; have HO341 := Aside0.mk (Kd.R_lower ho0 (below_size aq0)); replace HB := Aside0.mk (below_step aq0 hb); (try clear hb); (try clear hb2); (try clear hk); (try clear hi); (try clear ho0)) | (go_at_call 10; (with_reducible refine (palingref15_Ranges.calls k _ _ l0 t342 _ ?side1 ?side2 A7.out).mono ?_); (case side1 => repeat (first | exact (Kd.C_below HR0.out HB.out) | (with_reducible refine Kd.C_alloc ?_ _) | (with_reducible refine Kd.C_drewN ?_ _) | (with_reducible refine Kd.C_drew ?_))); (case side2 => exact HC0.out); rintro e w11 ⟨v343, rfl, ho0, hb⟩; replace HO341 := Aside0.mk (Kd.R_below aq52 hb); have HO344 := Aside0.mk (Kd.R_lower ho0 (below_size aq0)); replace HB := Aside0.mk (below_step aq0 hb); (try clear hb); (try clear hb2); (try clear hk); (try clear hi); (try clear ho0); obtain ⟨Ao12, co12, eo12⟩ := Kd.R_slice HO341.out; subst eo12; obtain ⟨Ao13, co13, eo13⟩ := Kd.R_slice HO344.out; subst eo13)))
 go_loopg [7] k (fun kq v7 w' => ∃ (x7_1 : Int), v7 = .int .i64 x7_1 ∧ Aside0 (palinglaw15_LiveTells.l0 kq l0 t339 t342 x7_1 = some r) ∧ Aside0 (kq ≤ k) ∧ Aside0 (Kd.R k30 30 w' w.heap.size (fun _ => True) (.slice Ao12 t339.length co12) t339) ∧ Aside0 (Kd.R k31 31 w' w.heap.size (fun _ => True) (.slice Ao13 t342.length co13) t342) ∧ Aside0 (Below w.heap.size w w'))
 case atStart => exact ⟨(0), aq9, H', ⟨Nat.le_refl _⟩, ⟨aq52⟩, ⟨by (with_reducible repeat (first | apply Kd.R_alloc | apply Kd.R_drewN | apply Kd.R_drew)); exact HO344.out⟩, ⟨aq0⟩⟩
 case round =>
  clear H'
  obtain ⟨x7_1, rfl, HA, HK1, HO_5, HO_6, HB⟩ := hrel
  cases gk with
  | zero => exact absurd HA.out (by simp [palinglaw15_LiveTells.l0])
  | succ k1 =>
   have H := HA.out
   clear HA
   simp only [palinglaw15_LiveTells.l0] at H
   by_cases c14 : x7_1 < (t339.length : Int)
   ·rw [if_pos c14] at H
    have c14b0 : decide (x7_1 < (t339.length : Int)) = true := decide_eq_true c14
    clear c14
    by_cases c15 : 0 ≤ x7_1
    rotate_left
    ·rw [if_neg c15] at H
     exact absurd H (by simp)
    rw [if_pos c15] at H
    have c15b0 : decide (0 ≤ x7_1) = true := decide_eq_true c15
    clear c15
    by_cases c16 : x7_1 < (t342.length : Int)
    rotate_left
    ·rw [if_neg c16] at H
     exact absurd H (by simp)
    rw [if_pos c16] at H
    have c16b0 : decide (x7_1 < (t342.length : Int)) = true := decide_eq_true c16
    clear c16
    by_cases c17 : ((rd_T30 t339 x7_1).f0) = ((rd_T31 t342 x7_1).f0)
    rotate_left
    ·rw [if_neg c17] at H
     have c17b0 : (((rd_T30 t339 x7_1).f0) == ((rd_T31 t342 x7_1).f0)) = false := beq_eq_false_iff_ne.mpr c17
     have c17b1 : (((rd_T30 t339 x7_1).f0) != ((rd_T31 t342 x7_1).f0)) = true := bne_iff_ne.mpr c17
     exact absurd H (by simp)
    rw [if_pos c17] at H
    have c17b0 : (((rd_T30 t339 x7_1).f0) == ((rd_T31 t342 x7_1).f0)) = true := beq_iff_eq.mpr c17
    have c17b1 : (((rd_T30 t339 x7_1).f0) != ((rd_T31 t342 x7_1).f0)) = false := bne_eq_false_iff_eq.mpr c17
    clear c17
    by_cases c18 : ((rd_T30 t339 x7_1).f1) = ((rd_T31 t342 x7_1).f1)
    rotate_left
    ·rw [if_neg c18] at H
     have c18b0 : (((rd_T30 t339 x7_1).f1) == ((rd_T31 t342 x7_1).f1)) = false := beq_eq_false_iff_ne.mpr c18
     have c18b1 : (((rd_T30 t339 x7_1).f1) != ((rd_T31 t342 x7_1).f1)) = true := bne_iff_ne.mpr c18
     exact absurd H (by simp)
    rw [if_pos c18] at H
    have c18b0 : (((rd_T30 t339 x7_1).f1) == ((rd_T31 t342 x7_1).f1)) = true := beq_iff_eq.mpr c18
    have c18b1 : (((rd_T30 t339 x7_1).f1) != ((rd_T31 t342 x7_1).f1)) = false := bne_eq_false_iff_eq.mpr c18
    clear c18
    by_cases c19 : ((rd_T30 t339 x7_1).f2) = ((rd_T31 t342 x7_1).f2)
    rotate_left
    ·rw [if_neg c19] at H
     have c19b0 : (((rd_T30 t339 x7_1).f2) == ((rd_T31 t342 x7_1).f2)) = false := beq_eq_false_iff_ne.mpr c19
     have c19b1 : (((rd_T30 t339 x7_1).f2) != ((rd_T31 t342 x7_1).f2)) = true := bne_iff_ne.mpr c19
     exact absurd H (by simp)
    rw [if_pos c19] at H
    have c19b0 : (((rd_T30 t339 x7_1).f2) == ((rd_T31 t342 x7_1).f2)) = true := beq_iff_eq.mpr c19
    have c19b1 : (((rd_T30 t339 x7_1).f2) != ((rd_T31 t342 x7_1).f2)) = false := bne_eq_false_iff_eq.mpr c19
    clear c19
    have H' := Aside0.mk H
    clear H
    have p345 : 0 ≤ (x7_1 : Int) := of_decide_eq_true aq1
    have q345 : x7_1 < (t339.length : Int) := of_decide_eq_true aq1
    obtain ⟨ad345, e345, hx345_0, hx345_1, hx345_2⟩ := at_T30 (Kd.R_reads' HO_5.out).2.2 x7_1 p345 q345
    cases e345
    replace p345 := eq_true p345
    replace q345 := eq_true q345
    have p346 : 0 ≤ (x7_1 : Int) := of_decide_eq_true aq1
    have q346 : x7_1 < (t342.length : Int) := of_decide_eq_true aq1
    obtain ⟨ad346, e346, hx346_0, hx346_1, hx346_2⟩ := at_T31 (Kd.R_reads' HO_6.out).2.2 x7_1 p346 q346
    cases e346
    replace p346 := eq_true p346
    replace q346 := eq_true q346
    have p347 : 0 ≤ (x7_1 : Int) := of_decide_eq_true aq1
    have q347 : x7_1 < (t339.length : Int) := of_decide_eq_true aq1
    obtain ⟨ad347, e347, hx347_0, hx347_1, hx347_2⟩ := at_T30 (Kd.R_reads' HO_5.out).2.2 x7_1 p347 q347
    obtain rfl : ad345 = ad347 := (by injection e347)
    replace p347 := eq_true p347
    replace q347 := eq_true q347
    have p348 : 0 ≤ (x7_1 : Int) := of_decide_eq_true aq1
    have q348 : x7_1 < (t342.length : Int) := of_decide_eq_true aq1
    obtain ⟨ad348, e348, hx348_0, hx348_1, hx348_2⟩ := at_T31 (Kd.R_reads' HO_6.out).2.2 x7_1 p348 q348
    obtain rfl : ad346 = ad348 := (by injection e348)
    replace p348 := eq_true p348
    replace q348 := eq_true q348
    have p349 : 0 ≤ (x7_1 : Int) := of_decide_eq_true aq1
    have q349 : x7_1 < (t339.length : Int) := of_decide_eq_true aq1
    obtain ⟨ad349, e349, hx349_0, hx349_1, hx349_2⟩ := at_T30 (Kd.R_reads' HO_5.out).2.2 x7_1 p349 q349
    obtain rfl : ad345 = ad349 := (by injection e349)
    replace p349 := eq_true p349
    replace q349 := eq_true q349
    have p350 : 0 ≤ (x7_1 : Int) := of_decide_eq_true aq1
    have q350 : x7_1 < (t342.length : Int) := of_decide_eq_true aq1
    obtain ⟨ad350, e350, hx350_0, hx350_1, hx350_2⟩ := at_T31 (Kd.R_reads' HO_6.out).2.2 x7_1 p350 q350
    obtain rfl : ad346 = ad350 := (by injection e350)
    replace p350 := eq_true p350
    replace q350 := eq_true q350
    go_wp2
    repeat (go_quiet (fail); try go_wp2)
    go_roundg k1
    case measure => have := HK1.out; omega
    case rel => exact ⟨(wrap64 (x7_1 + 1)), aq9, H', ⟨aq60⟩, ⟨aq7⟩, ⟨aq11⟩, ⟨aq0⟩⟩
   rw [if_neg c14] at H
   have c14b0 : decide (x7_1 < (t339.length : Int)) = false := decide_eq_false c14
   clear c14
   obtain ⟨t351, A20, H⟩ := bS_ H
   obtain ⟨t354, A21, H⟩ := bS_ H
   obtain ⟨t357, A22, H⟩ := bS_ H
   by_cases c23 : t357 = true
   rotate_left
   ·replace c23 := Bool.eq_false_iff.mpr c23
    subst c23
    rw [if_neg nf_] at H
    exact absurd H (by simp)
   subst c23
   rw [if_pos rfl] at H
   obtain ⟨t358, A24, H⟩ := bS_ H
   obtain ⟨t361, A25, H⟩ := bS_ H
   obtain ⟨t364, A26, H⟩ := bS_ H
   by_cases c27 : t364 = true
   rotate_left
   ·replace c27 := Bool.eq_false_iff.mpr c27
    subst c27
    rw [if_neg nf_] at H
    exact absurd H (by simp)
   subst c27
   rw [if_pos rfl] at H
   obtain ⟨t365, A28, H⟩ := bS_ H
   obtain ⟨t366, A29, H⟩ := bS_ H
   obtain rfl := Option.some.inj H
   go_wp2_with (first | (go_at_call 12; (with_reducible refine (live_Ahead.calls k1 _ _ l0 t351 _ ?side1 ?side2 A20.out (GlobOK.step HGL.out aq0)).mono ?_); (case side1 => repeat (first | exact (Kd.C_below HR0.out HB.out) | (with_reducible refine Kd.C_alloc ?_ _) | (with_reducible refine Kd.C_drewN ?_ _) | (with_reducible refine Kd.C_drew ?_))); (case side2 => exact HC0.out); rintro e w30 ⟨v352, rfl, ho0, hb⟩; replace HO_5 := Aside0.mk (Kd.R_below aq7 hb); replace HO_6 := Aside0.mk (Kd.R_below aq11 hb); have HO353 := Aside0.mk (Kd.S_lower ho0 (below_size aq0)); replace HB := Aside0.mk (below_step aq0 hb); (try clear hb); (try clear hb2); (try clear hk); (try clear hi); (try clear ho0)) | (go_at_call 13; (with_reducible refine (palingref15_Ahead.calls k1 _ _ l0 t354 _ ?side1 ?side2 A21.out).mono ?_); (case side1 => repeat (first | exact (Kd.C_below HR0.out HB.out) | (with_reducible refine Kd.C_alloc ?_ _) | (with_reducible refine Kd.C_drewN ?_ _) | (with_reducible refine Kd.C_drew ?_))); (case side2 => exact HC0.out); rintro e w31 ⟨v355, rfl, ho0, hb⟩; replace HO_5 := Aside0.mk (Kd.R_below aq7 hb); replace HO_6 := Aside0.mk (Kd.R_below aq11 hb); have HO356 := Aside0.mk (Kd.S_lower (Kd.S_new' ho0 (Kd.S_lt aq14)) (below_size aq0)); replace HO353 := Aside0.mk (Kd.S_elder' aq14 (Kd.S_base ho0) hb); replace HB := Aside0.mk (below_step aq0 hb); (try clear hb); (try clear hb2); (try clear hk); (try clear hi); (try clear ho0); obtain ⟨Ao32, co32, eo32⟩ := Kd.S_slice HO353.out; subst eo32; obtain ⟨Ao33, co33, eo33⟩ := Kd.S_slice HO356.out; subst eo33) | (go_at_call 11; (with_reducible refine (palinglaw15_rows.calls k1 _ _ t351 _ _ t354 true _ ?side1 ?side2 ?side3 ?side4 A22.out).mono ?_); (case side1 => repeat (first | exact (Kd.S_reads' HO353.out).2.2 | (with_reducible refine Kd.C_alloc ?_ _) | (with_reducible refine Kd.C_drewN ?_ _) | (with_reducible refine Kd.C_drew ?_))); (case side2 => exact (Kd.S_reads' HO353.out).2.1); (case side3 => repeat (first | exact (Kd.S_reads' HO356.out).2.2 | (with_reducible refine Kd.C_alloc ?_ _) | (with_reducible refine Kd.C_drewN ?_ _) | (with_reducible refine Kd.C_drew ?_))); (case side4 => exact (Kd.S_reads' HO356.out).2.1); rintro e w' ⟨rfl, ⟨nd, rfl⟩⟩; (try first | exact ⟨rfl, _, World.drewN_drewN _ _ _⟩ | exact ⟨rfl, _, Eq.trans (World.drewN_drewN _ _ _) (congrArg (World.drewN _) (Nat.add_assoc _ _ _))⟩)) | (go_at_call 14; (with_reducible refine (live_Behind.calls k1 _ _ l0 t358 _ ?side1 ?side2 A24.out (GlobOK.step HGL.out aq0)).mono ?_); (case side1 => repeat (first | exact (Kd.C_below HR0.out aq0) | (with_reducible refine Kd.C_alloc ?_ _) | (with_reducible refine Kd.C_drewN ?_ _) | (with_reducible refine Kd.C_drew ?_))); (case side2 => exact HC0.out); rintro e w34 ⟨v359, rfl, ho0, hb⟩; have n0_ := Aside0.mk (Kd.R_below aq7 hb); have n1_ := Aside0.mk (Kd.R_below aq11 hb); have n2_ := Aside0.mk (Kd.S_elder' aq14 (Kd.S_base ho0) hb); have n3_ := Aside0.mk (Kd.S_elder' aq17 (Kd.S_base ho0) hb); have n4_ := Aside0.mk (Kd.S_lower (Kd.S_new' (Kd.S_new' ho0 (Kd.S_lt aq14)) (Kd.S_lt aq17)) (below_size aq0)); have n5_ := Aside0.mk (below_step aq0 hb); clear HO_5; clear HO_6; clear HO353; clear HO356; clear HB; have HO_5 := n0_; have HO_6 := n1_; have HO353 := n2_; have HO356 := n3_; have HO360 := n4_; have HB := n5_; clear n0_ n1_ n2_ n3_ n4_ n5_; (try clear hb); (try clear hb2); (try clear hk); (try clear hi); (try clear ho0)) | (go_at_call 15; (with_reducible refine (palingref15_Behind.calls k1 _ _ l0 t361 _ ?side1 ?side2 A25.out).mono ?_); (case side1 => repeat (first | exact (Kd.C_below HR0.out HB.out) | (with_reducible refine Kd.C_alloc ?_ _) | (with_reducible refine Kd.C_drewN ?_ _) | (with_reducible refine Kd.C_drew ?_))); (case side2 => exact HC0.out); rintro e w35 ⟨v362, rfl, ho0, hb⟩; have n0_ := Aside0.mk (Kd.R_below aq7 hb); have n1_ := Aside0.mk (Kd.R_below aq11 hb); have n2_ := Aside0.mk (Kd.S_elder' aq14 (Kd.S_base ho0) hb); have n3_ := Aside0.mk (Kd.S_elder' aq17 (Kd.S_base ho0) hb); have n4_ := Aside0.mk (Kd.S_elder' aq24 (Kd.S_base ho0) hb); have n5_ := Aside0.mk (Kd.S_lower (Kd.S_new' (Kd.S_new' (Kd.S_new' ho0 (Kd.S_lt aq14)) (Kd.S_lt aq17)) (Kd.S_lt aq24)) (below_size aq0)); have n6_ := Aside0.mk (below_step aq0 hb); clear HO_5; clear HO_6; clear HO353; clear HO356; clear HO360; clear HB; have HO_5 := n0_; have HO_6 := n1_; have HO353 := n2_; have HO356 := n3_; have HO360 := n4_; have HO363 := n5_; have HB := n6_; clear n0_ n1_ n2_ n3_ n4_ n5_ n6_; (try clear hb); (try clear hb2); (try clear hk); (try clear hi); (try clear ho0); obtain ⟨Ao36, co36, eo36⟩ := Kd.S_slice HO360.out; subst eo36; obtain ⟨Ao37, co37, eo37⟩ := Kd.S_slice HO363.out; subst eo37) | (go_at_call 11; (with_reducible refine (palinglaw15_rows.calls k1 _ _ t358 _ _ t361 true _ ?side1 ?side2 ?side3 ?side4 A26.out).mono ?_); (case side1 => repeat (first | exact (Kd.S_reads' HO360.out).2.2 | (with_reducible refine Kd.C_alloc ?_ _) | (with_reducible refine Kd.C_drewN ?_ _) | (with_reducible refine Kd.C_drew ?_))); (case side2 => exact (Kd.S_reads' HO360.out).2.1); (case side3 => repeat (first | exact (Kd.S_reads' HO363.out).2.2 | (with_reducible refine Kd.C_alloc ?_ _) | (with_reducible refine Kd.C_drewN ?_ _) | (with_reducible refine Kd.C_drew ?_))); (case side4 => exact (Kd.S_reads' HO363.out).2.1); rintro e w' ⟨rfl, ⟨nd, rfl⟩⟩; (try first | exact ⟨rfl, _, World.drewN_drewN _ _ _⟩ | exact ⟨rfl, _, Eq.trans (World.drewN_drewN _ _ _) (congrArg (World.drewN _) (Nat.add_assoc _ _ _))⟩)) | (go_at_call 16; (with_reducible refine (live_Most.calls k1 _ _ l0 t365 _ ?side1 ?side2 A28.out (GlobOK.step HGL.out aq0)).mono ?_); (case side1 => repeat (first | exact (Kd.C_below HR0.out aq0) | (with_reducible refine Kd.C_alloc ?_ _) | (with_reducible refine Kd.C_drewN ?_ _) | (with_reducible refine Kd.C_drew ?_))); (case side2 => exact HC0.out); rintro e w38 ⟨rfl, hb⟩; replace HO_5 := Aside0.mk (Kd.R_below aq7 hb); replace HO_6 := Aside0.mk (Kd.R_below aq11 hb); replace HO353 := Aside0.mk (Kd.S_below aq14 hb); replace HO356 := Aside0.mk (Kd.S_below aq17 hb); replace HO360 := Aside0.mk (Kd.S_below aq24 hb); replace HO363 := Aside0.mk (Kd.S_below aq41 hb); replace HB := Aside0.mk (below_step aq0 hb); (try clear hb); (try clear hb2); (try clear hk); (try clear hi)) | (go_at_call 17; (with_reducible refine (palingref15_Most.calls k1 _ _ l0 t366 _ ?side1 ?side2 A29.out).mono ?_); (case side1 => repeat (first | exact (Kd.C_below HR0.out HB.out) | (with_reducible refine Kd.C_alloc ?_ _) | (with_reducible refine Kd.C_drewN ?_ _) | (with_reducible refine Kd.C_drew ?_))); (case side2 => exact HC0.out); rintro e w39 ⟨rfl, hb⟩; replace HO_5 := Aside0.mk (Kd.R_below aq7 hb); replace HO_6 := Aside0.mk (Kd.R_below aq11 hb); replace HO353 := Aside0.mk (Kd.S_below aq14 hb); replace HO356 := Aside0.mk (Kd.S_below aq17 hb); replace HO360 := Aside0.mk (Kd.S_below aq24 hb); replace HO363 := Aside0.mk (Kd.S_below aq41 hb); replace HB := Aside0.mk (below_step aq0 hb); (try clear hb); (try clear hb2); (try clear hk); (try clear hi)))
   repeat (go_quiet (first | (go_at_call 12; (with_reducible refine (live_Ahead.calls k1 _ _ l0 t351 _ ?side1 ?side2 A20.out (GlobOK.step HGL.out aq0)).mono ?_); (case side1 => repeat (first | exact (Kd.C_below HR0.out HB.out) | (with_reducible refine Kd.C_alloc ?_ _) | (with_reducible refine Kd.C_drewN ?_ _) | (with_reducible refine Kd.C_drew ?_))); (case side2 => exact HC0.out); rintro e w30 ⟨v352, rfl, ho0, hb⟩; replace HO_5 := Aside0.mk (Kd.R_below aq7 hb); replace HO_6 := Aside0.mk (Kd.R_below aq11 hb); have HO353 := Aside0.mk (Kd.S_lower ho0 (below_size aq0)); replace HB := Aside0.mk (below_step aq0 hb); (try clear hb); (try clear hb2); (try clear hk); (try clear hi); (try clear ho0)) | (go_at_call 13; (with_reducible refine (palingref15_Ahead.calls k1 _ _ l0 t354 _ ?side1 ?side2 A21.out).mono ?_); (case side1 => repeat (first | exact (Kd.C_below HR0.out HB.out) | (with_reducible refine Kd.C_alloc ?_ _) | (with_reducible refine Kd.C_drewN ?_ _) | (with_reducible refine Kd.C_drew ?_))); (case side2 => exact HC0.out); rintro e w31 ⟨v355, rfl, ho0, hb⟩; replace HO_5 := Aside0.mk (Kd.R_below aq7 hb); replace HO_6 := Aside0.mk (Kd.R_below aq11 hb); have HO356 := Aside0.mk (Kd.S_lower (Kd.S_new' ho0 (Kd.S_lt aq14)) (below_size aq0)); replace HO353 := Aside0.mk (Kd.S_elder' aq14 (Kd.S_base ho0) hb); replace HB := Aside0.mk (below_step aq0 hb); (try clear hb); (try clear hb2); (try clear hk); (try clear hi); (try clear ho0); obtain ⟨Ao32, co32, eo32⟩ := Kd.S_slice HO353.out; subst eo32; obtain ⟨Ao33, co33, eo33⟩ := Kd.S_slice HO356.out; subst eo33) | (go_at_call 11; (with_reducible refine (palinglaw15_rows.calls k1 _ _ t351 _ _ t354 true _ ?side1 ?side2 ?side3 ?side4 A22.out).mono ?_); (case side1 => repeat (first | exact (Kd.S_reads' HO353.out).2.2 | (with_reducible refine Kd.C_alloc ?_ _) | (with_reducible refine Kd.C_drewN ?_ _) | (with_reducible refine Kd.C_drew ?_))); (case side2 => exact (Kd.S_reads' HO353.out).2.1); (case side3 => repeat (first | exact (Kd.S_reads' HO356.out).2.2 | (with_reducible refine Kd.C_alloc ?_ _) | (with_reducible refine Kd.C_drewN ?_ _) | (with_reducible refine Kd.C_drew ?_))); (case side4 => exact (Kd.S_reads' HO356.out).2.1); rintro e w' ⟨rfl, ⟨nd, rfl⟩⟩; (try first | exact ⟨rfl, _, World.drewN_drewN _ _ _⟩ | exact ⟨rfl, _, Eq.trans (World.drewN_drewN _ _ _) (congrArg (World.drewN _) (Nat.add_assoc _ _ _))⟩)) | (go_at_call 14; (with_reducible refine (live_Behind.calls k1 _ _ l0 t358 _ ?side1 ?side2 A24.out (GlobOK.step HGL.out aq0)).mono ?_); (case side1 => repeat (first | exact (Kd.C_below HR0.out aq0) | (with_reducible refine Kd.C_alloc ?_ _) | (with_reducible refine Kd.C_drewN ?_ _) | (with_reducible refine Kd.C_drew ?_))); (case side2 => exact HC0.out); rintro e w34 ⟨v359, rfl, ho0, hb⟩; have n0_ := Aside0.mk (Kd.R_below aq7 hb); have n1_ := Aside0.mk (Kd.R_below aq11 hb); have n2_ := Aside0.mk (Kd.S_elder' aq14 (Kd.S_base ho0) hb); have n3_ := Aside0.mk (Kd.S_elder' aq17 (Kd.S_base ho0) hb); have n4_ := Aside0.mk (Kd.S_lower (Kd.S_new' (Kd.S_new' ho0 (Kd.S_lt aq14)) (Kd.S_lt aq17)) (below_size aq0)); have n5_ := Aside0.mk (below_step aq0 hb); clear HO_5; clear HO_6; clear HO353; clear HO356; clear HB; have HO_5 := n0_; have HO_6 := n1_; have HO353 := n2_; have HO356 := n3_; have HO360 := n4_; have HB := n5_; clear n0_ n1_ n2_ n3_ n4_ n5_; (try clear hb); (try clear hb2); (try clear hk); (try clear hi); (try clear ho0)) | (go_at_call 15; (with_reducible refine (palingref15_Behind.calls k1 _ _ l0 t361 _ ?side1 ?side2 A25.out).mono ?_); (case side1 => repeat (first | exact (Kd.C_below HR0.out HB.out) | (with_reducible refine Kd.C_alloc ?_ _) | (with_reducible refine Kd.C_drewN ?_ _) | (with_reducible refine Kd.C_drew ?_))); (case side2 => exact HC0.out); rintro e w35 ⟨v362, rfl, ho0, hb⟩; have n0_ := Aside0.mk (Kd.R_below aq7 hb); have n1_ := Aside0.mk (Kd.R_below aq11 hb); have n2_ := Aside0.mk (Kd.S_elder' aq14 (Kd.S_base ho0) hb); have n3_ := Aside0.mk (Kd.S_elder' aq17 (Kd.S_base ho0) hb); have n4_ := Aside0.mk (Kd.S_elder' aq24 (Kd.S_base ho0) hb); have n5_ := Aside0.mk (Kd.S_lower (Kd.S_new' (Kd.S_new' (Kd.S_new' ho0 (Kd.S_lt aq14)) (Kd.S_lt aq17)) (Kd.S_lt aq24)) (below_size aq0)); have n6_ := Aside0.mk (below_step aq0 hb); clear HO_5; clear HO_6; clear HO353; clear HO356; clear HO360; clear HB; have HO_5 := n0_; have HO_6 := n1_; have HO353 := n2_; have HO356 := n3_; have HO360 := n4_; have HO363 := n5_; have HB := n6_; clear n0_ n1_ n2_ n3_ n4_ n5_ n6_; (try clear hb); (try clear hb2); (try clear hk); (try clear hi); (try clear ho0); obtain ⟨Ao36, co36, eo36⟩ := Kd.S_slice HO360.out; subst eo36; obtain ⟨Ao37, co37, eo37⟩ := Kd.S_slice HO363.out; subst eo37) | (go_at_call 11; (with_reducible refine (palinglaw15_rows.calls k1 _ _ t358 _ _ t361 true _ ?side1 ?side2 ?side3 ?side4 A26.out).mono ?_); (case side1 => repeat (first | exact (Kd.S_reads' HO360.out).2.2 | (with_reducible refine Kd.C_alloc ?_ _) | (with_reducible refine Kd.C_drewN ?_ _) | (with_reducible refine Kd.C_drew ?_))); (case side2 => exact (Kd.S_reads' HO360.out).2.1); (case side3 => repeat (first | exact (Kd.S_reads' HO363.out).2.2 | (with_reducible refine Kd.C_alloc ?_ _) | (with_reducible refine Kd.C_drewN ?_ _) | (with_reducible refine Kd.C_drew ?_))); (case side4 => exact (Kd.S_reads' HO363.out).2.1); rintro e w' ⟨rfl, ⟨nd, rfl⟩⟩; (try first | exact ⟨rfl, _, World.drewN_drewN _ _ _⟩ | exact ⟨rfl, _, Eq.trans (World.drewN_drewN _ _ _) (congrArg (World.drewN _) (Nat.add_assoc _ _ _))⟩)) | (go_at_call 16; (with_reducible refine (live_Most.calls k1 _ _ l0 t365 _ ?side1 ?side2 A28.out (GlobOK.step HGL.out aq0)).mono ?_); (case side1 => repeat (first | exact (Kd.C_below HR0.out aq0) | (with_reducible refine Kd.C_alloc ?_ _) | (with_reducible refine Kd.C_drewN ?_ _) | (with_reducible refine Kd.C_drew ?_))); (case side2 => exact HC0.out); rintro e w38 ⟨rfl, hb⟩; replace HO_5 := Aside0.mk (Kd.R_below aq7 hb); replace HO_6 := Aside0.mk (Kd.R_below aq11 hb); replace HO353 := Aside0.mk (Kd.S_below aq14 hb); replace HO356 := Aside0.mk (Kd.S_below aq17 hb); replace HO360 := Aside0.mk (Kd.S_below aq24 hb); replace HO363 := Aside0.mk (Kd.S_below aq41 hb); replace HB := Aside0.mk (below_step aq0 hb); (try clear hb); (try clear hb2); (try clear hk); (try clear hi)) | (go_at_call 17; (with_reducible refine (palingref15_Most.calls k1 _ _ l0 t366 _ ?side1 ?side2 A29.out).mono ?_); (case side1 => repeat (first | exact (Kd.C_below HR0.out HB.out) | (with_reducible refine Kd.C_alloc ?_ _) | (with_reducible refine Kd.C_drewN ?_ _) | (with_reducible refine Kd.C_drew ?_))); (case side2 => exact HC0.out); rintro e w39 ⟨rfl, hb⟩; replace HO_5 := Aside0.mk (Kd.R_below aq7 hb); replace HO_6 := Aside0.mk (Kd.R_below aq11 hb); replace HO353 := Aside0.mk (Kd.S_below aq14 hb); replace HO356 := Aside0.mk (Kd.S_below aq17 hb); replace HO360 := Aside0.mk (Kd.S_below aq24 hb); replace HO363 := Aside0.mk (Kd.S_below aq41 hb); replace HB := Aside0.mk (below_step aq0 hb); (try clear hb); (try clear hb2); (try clear hk); (try clear hi))); try go_wp2_with (first | (go_at_call 12; (with_reducible refine (live_Ahead.calls k1 _ _ l0 t351 _ ?side1 ?side2 A20.out (GlobOK.step HGL.out aq0)).mono ?_); (case side1 => repeat (first | exact (Kd.C_below HR0.out HB.out) | (with_reducible refine Kd.C_alloc ?_ _) | (with_reducible refine Kd.C_drewN ?_ _) | (with_reducible refine Kd.C_drew ?_))); (case side2 => exact HC0.out); rintro e w30 ⟨v352, rfl, ho0, hb⟩; replace HO_5 := Aside0.mk (Kd.R_below aq7 hb); replace HO_6 := Aside0.mk (Kd.R_below aq11 hb); have HO353 := Aside0.mk (Kd.S_lower ho0 (below_size aq0)); replace HB := Aside0.mk (below_step aq0 hb); (try clear hb); (try clear hb2); (try clear hk); (try clear hi); (try clear ho0)) | (go_at_call 13; (with_reducible refine (palingref15_Ahead.calls k1 _ _ l0 t354 _ ?side1 ?side2 A21.out).mono ?_); (case side1 => repeat (first | exact (Kd.C_below HR0.out HB.out) | (with_reducible refine Kd.C_alloc ?_ _) | (with_reducible refine Kd.C_drewN ?_ _) | (with_reducible refine Kd.C_drew ?_))); (case side2 => exact HC0.out); rintro e w31 ⟨v355, rfl, ho0, hb⟩; replace HO_5 := Aside0.mk (Kd.R_below aq7 hb); replace HO_6 := Aside0.mk (Kd.R_below aq11 hb); have HO356 := Aside0.mk (Kd.S_lower (Kd.S_new' ho0 (Kd.S_lt aq14)) (below_size aq0)); replace HO353 := Aside0.mk (Kd.S_elder' aq14 (Kd.S_base ho0) hb); replace HB := Aside0.mk (below_step aq0 hb); (try clear hb); (try clear hb2); (try clear hk); (try clear hi); (try clear ho0); obtain ⟨Ao32, co32, eo32⟩ := Kd.S_slice HO353.out; subst eo32; obtain ⟨Ao33, co33, eo33⟩ := Kd.S_slice HO356.out; subst eo33) | (go_at_call 11; (with_reducible refine (palinglaw15_rows.calls k1 _ _ t351 _ _ t354 true _ ?side1 ?side2 ?side3 ?side4 A22.out).mono ?_); (case side1 => repeat (first | exact (Kd.S_reads' HO353.out).2.2 | (with_reducible refine Kd.C_alloc ?_ _) | (with_reducible refine Kd.C_drewN ?_ _) | (with_reducible refine Kd.C_drew ?_))); (case side2 => exact (Kd.S_reads' HO353.out).2.1); (case side3 => repeat (first | exact (Kd.S_reads' HO356.out).2.2 | (with_reducible refine Kd.C_alloc ?_ _) | (with_reducible refine Kd.C_drewN ?_ _) | (with_reducible refine Kd.C_drew ?_))); (case side4 => exact (Kd.S_reads' HO356.out).2.1); rintro e w' ⟨rfl, ⟨nd, rfl⟩⟩; (try first | exact ⟨rfl, _, World.drewN_drewN _ _ _⟩ | exact ⟨rfl, _, Eq.trans (World.drewN_drewN _ _ _) (congrArg (World.drewN _) (Nat.add_assoc _ _ _))⟩)) | (go_at_call 14; (with_reducible refine (live_Behind.calls k1 _ _ l0 t358 _ ?side1 ?side2 A24.out (GlobOK.step HGL.out aq0)).mono ?_); (case side1 => repeat (first | exact (Kd.C_below HR0.out aq0) | (with_reducible refine Kd.C_alloc ?_ _) | (with_reducible refine Kd.C_drewN ?_ _) | (with_reducible refine Kd.C_drew ?_))); (case side2 => exact HC0.out); rintro e w34 ⟨v359, rfl, ho0, hb⟩; have n0_ := Aside0.mk (Kd.R_below aq7 hb); have n1_ := Aside0.mk (Kd.R_below aq11 hb); have n2_ := Aside0.mk (Kd.S_elder' aq14 (Kd.S_base ho0) hb); have n3_ := Aside0.mk (Kd.S_elder' aq17 (Kd.S_base ho0) hb); have n4_ := Aside0.mk (Kd.S_lower (Kd.S_new' (Kd.S_new' ho0 (Kd.S_lt aq14)) (Kd.S_lt aq17)) (below_size aq0)); have n5_ := Aside0.mk (below_step aq0 hb); clear HO_5; clear HO_6; clear HO353; clear HO356; clear HB; have HO_5 := n0_; have HO_6 := n1_; have HO353 := n2_; have HO356 := n3_; have HO360 := n4_; have HB := n5_; clear n0_ n1_ n2_ n3_ n4_ n5_; (try clear hb); (try clear hb2); (try clear hk); (try clear hi); (try clear ho0)) | (go_at_call 15; (with_reducible refine (palingref15_Behind.calls k1 _ _ l0 t361 _ ?side1 ?side2 A25.out).mono ?_); (case side1 => repeat (first | exact (Kd.C_below HR0.out HB.out) | (with_reducible refine Kd.C_alloc ?_ _) | (with_reducible refine Kd.C_drewN ?_ _) | (with_reducible refine Kd.C_drew ?_))); (case side2 => exact HC0.out); rintro e w35 ⟨v362, rfl, ho0, hb⟩; have n0_ := Aside0.mk (Kd.R_below aq7 hb); have n1_ := Aside0.mk (Kd.R_below aq11 hb); have n2_ := Aside0.mk (Kd.S_elder' aq14 (Kd.S_base ho0) hb); have n3_ := Aside0.mk (Kd.S_elder' aq17 (Kd.S_base ho0) hb); have n4_ := Aside0.mk (Kd.S_elder' aq24 (Kd.S_base ho0) hb); have n5_ := Aside0.mk (Kd.S_lower (Kd.S_new' (Kd.S_new' (Kd.S_new' ho0 (Kd.S_lt aq14)) (Kd.S_lt aq17)) (Kd.S_lt aq24)) (below_size aq0)); have n6_ := Aside0.mk (below_step aq0 hb); clear HO_5; clear HO_6; clear HO353; clear HO356; clear HO360; clear HB; have HO_5 := n0_; have HO_6 := n1_; have HO353 := n2_; have HO356 := n3_; have HO360 := n4_; have HO363 := n5_; have HB := n6_; clear n0_ n1_ n2_ n3_ n4_ n5_ n6_; (try clear hb); (try clear hb2); (try clear hk); (try clear hi); (try clear ho0); obtain ⟨Ao36, co36, eo36⟩ := Kd.S_slice HO360.out; subst eo36; obtain ⟨Ao37, co37, eo37⟩ := Kd.S_slice HO363.out; subst eo37) | (go_at_call 11; (with_reducible refine (palinglaw15_rows.calls k1 _ _ t358 _ _ t361 true _ ?side1 ?side2 ?side3 ?side4 A26.out).mono ?_); (case side1 => repeat (first | exact (Kd.S_reads' HO360.out).2.2 | (with_reducible refine Kd.C_alloc ?_ _) | (with_reducible refine Kd.C_drewN ?_ _) | (with_reducible refine Kd.C_drew ?_))); (case side2 => exact (Kd.S_reads' HO360.out).2.1); (case side3 => repeat (first | exact (Kd.S_reads' HO363.out).2.2 | (with_reducible refine Kd.C_alloc ?_ _) | (with_reducible refine Kd.C_drewN ?_ _) | (with_reducible refine Kd.C_drew ?_))); (case side4 => exact (Kd.S_reads' HO363.out).2.1); rintro e w' ⟨rfl, ⟨nd, rfl⟩⟩; (try first | exact ⟨rfl, _, World.drewN_drewN _ _ _⟩ | exact ⟨rfl, _, Eq.trans (World.drewN_drewN _ _ _) (congrArg (World.drewN _) (Nat.add_assoc _ _ _))⟩)) | (go_at_call 16; (with_reducible refine (live_Most.calls k1 _ _ l0 t365 _ ?side1 ?side2 A28.out (GlobOK.step HGL.out aq0)).mono ?_); (case side1 => repeat (first | exact (Kd.C_below HR0.out aq0) | (with_reducible refine Kd.C_alloc ?_ _) | (with_reducible refine Kd.C_drewN ?_ _) | (with_reducible refine Kd.C_drew ?_))); (case side2 => exact HC0.out); rintro e w38 ⟨rfl, hb⟩; replace HO_5 := Aside0.mk (Kd.R_below aq7 hb); replace HO_6 := Aside0.mk (Kd.R_below aq11 hb); replace HO353 := Aside0.mk (Kd.S_below aq14 hb); replace HO356 := Aside0.mk (Kd.S_below aq17 hb); replace HO360 := Aside0.mk (Kd.S_below aq24 hb); replace HO363 := Aside0.mk (Kd.S_below aq41 hb); replace HB := Aside0.mk (below_step aq0 hb); (try clear hb); (try clear hb2); (try clear hk); (try clear hi)) | (go_at_call 17; (with_reducible refine (palingref15_Most.calls k1 _ _ l0 t366 _ ?side1 ?side2 A29.out).mono ?_); (case side1 => repeat (first | exact (Kd.C_below HR0.out HB.out) | (with_reducible refine Kd.C_alloc ?_ _) | (with_reducible refine Kd.C_drewN ?_ _) | (with_reducible refine Kd.C_drew ?_))); (case side2 => exact HC0.out); rintro e w39 ⟨rfl, hb⟩; replace HO_5 := Aside0.mk (Kd.R_below aq7 hb); replace HO_6 := Aside0.mk (Kd.R_below aq11 hb); replace HO353 := Aside0.mk (Kd.S_below aq14 hb); replace HO356 := Aside0.mk (Kd.S_below aq17 hb); replace HO360 := Aside0.mk (Kd.S_below aq24 hb); replace HO363 := Aside0.mk (Kd.S_below aq41 hb); replace HB := Aside0.mk (below_step aq0 hb); (try clear hb); (try clear hb2); (try clear hk); (try clear hi))))
   go_ret
   exact ⟨aq13, aq0⟩
end Go.Proofs.YtianfjhhhhmjlaaDoor.PLiveTells
