-- Written by print2.py over the kit's printer. Not trusted: Lean checks it.
import Derived.Test.YtoncneglplglhaaDoorPGraphLoopsx0
import Derived.Test.YtoncneglplglhaaDoorPGraphLoopsx4
import Derived.Test.YtoncneglplglhaaDoorPGraphLoopsx5
namespace Go.Proofs.YtoncneglplglhaaDoor.PGraphLoops
open Go.RowKit Go.Proofs.YtoncneglplglhaaDoorW.PrintWords Go.Proofs.YtoncneglplglhaaDoorW.PrintLast Go.Proofs.YtoncneglplglhaaDoorW.PrintMore
attribute [local go_sem] max2_int min2_int max_two min_two max_three min_three max_four min_four   -- for this text's walks alone
set_option linter.unusedVariables false
set_option linter.unusedSimpArgs false

/-! ### palingref14_loop: function 33 -/
mutual
def palingref14_loop.l0 : Nat → List (S37) → Int → List (List Bool) → List Bool → List Bool → Int → Option (List Int)
  | 0, _, _, _, _, _, _ => none
  | k + 1, x0, x1, x2, x3, x10, x11 => if x11 < (x0.length : Int) then ((palingref14_Next.f k x0 x11).bind fun t235 => (palingref14_loop.l1 k x0 x1 x2 x3 x10 x11 t235 false 0)) else (palingref14_loop.l3 k x0 ([] : List Int) x10 0)
def palingref14_loop.l1 : Nat → List (S37) → Int → List (List Bool) → List Bool → List Bool → Int → List Int → Bool → Int → Option (List Int)
  | 0, _, _, _, _, _, _, _, _, _ => none
  | k + 1, x0, x1, x2, x3, x10, x11, x12, x13, x14 => if x14 < (x12.length : Int) then (if x13 = true then (palingref14_loop.l1 k x0 x1 x2 x3 x10 x11 x12 true (wrap64 (x14 + 1))) else (if 0 ≤ x14 then (palingref14_loop.l1 k x0 x1 x2 x3 x10 x11 x12 ((rd x12 x14) == x1) (wrap64 (x14 + 1))) else (none))) else (if x13 = true then (if 0 ≤ x11 then (if x11 < (x3.length : Int) then (if rdOf false x3 x11 = true then (if x11 < (x2.length : Int) then (if 0 ≤ x1 then (if x1 < ((rd_L7 x2 x11).length : Int) then (palingref14_loop.j2 k x0 x1 x2 x3 x10 x11 (!(rdOf false (rd_L7 x2 x11) x1))) else (none)) else (none)) else (none)) else (palingref14_loop.j2 k x0 x1 x2 x3 x10 x11 true)) else (none)) else (none)) else (palingref14_loop.j2 k x0 x1 x2 x3 x10 x11 true))
def palingref14_loop.j2 : Nat → List (S37) → Int → List (List Bool) → List Bool → List Bool → Int → Bool → Option (List Int)
  | 0, _, _, _, _, _, _, _ => none
  | k + 1, x0, x1, x2, x3, x10, x11, x63 => if x63 = true then (palingref14_loop.l0 k x0 x1 x2 x3 x10 (wrap64 (x11 + 1))) else (if 0 ≤ x1 then (if x1 < (x10.length : Int) then (palingref14_loop.l2 k x0 x1 x2 x3 (x10.set (x1 : Int).toNat true) x11 0) else (none)) else (none))
def palingref14_loop.l2 : Nat → List (S37) → Int → List (List Bool) → List Bool → List Bool → Int → Int → Option (List Int)
  | 0, _, _, _, _, _, _, _ => none
  | k + 1, x0, x1, x2, x3, x10, x11, x15 => if x15 < (x0.length : Int) then ((palingref14_without.f k x0 x15 x1).bind fun t243 => (if 0 ≤ x15 then (if x15 < (x3.length : Int) then (if rdOf false x3 x15 = true then (if 0 ≤ x11 then (if x11 < (t243.length : Int) then (if rdOf false t243 x11 = true then (if x15 < (x10.length : Int) then (palingref14_loop.l2 k x0 x1 x2 x3 (x10.set (x15 : Int).toNat true) x11 (wrap64 (x15 + 1))) else (none)) else (palingref14_loop.l2 k x0 x1 x2 x3 x10 x11 (wrap64 (x15 + 1)))) else (none)) else (none)) else (palingref14_loop.l2 k x0 x1 x2 x3 x10 x11 (wrap64 (x15 + 1)))) else (none)) else (none))) else (palingref14_loop.l0 k x0 x1 x2 x3 x10 (wrap64 (x11 + 1)))
def palingref14_loop.l3 : Nat → List (S37) → List Int → List Bool → Int → Option (List Int)
  | 0, _, _, _, _ => none
  | k + 1, x0, x9, x10, x17 => if x17 < (x0.length : Int) then (if 0 ≤ x17 then (if x17 < (x10.length : Int) then (if rdOf false x10 x17 = true then (if x9.length < 17592186044416 then (palingref14_loop.l3 k x0 (x9 ++ [x17]) x10 (wrap64 (x17 + 1))) else (none)) else (palingref14_loop.l3 k x0 x9 x10 (wrap64 (x17 + 1)))) else (none)) else (none)) else (some x9)
end
def palingref14_loop.f (k : Nat) (l0 : List (S37)) (a1 : Int) (l2 : List (List Bool)) (l3 : List Bool) : Option (List Int) := if 0 ≤ (l0.length : Int) then (if ((l0.length : Int) : Int).toNat ≤ 281474976710656 then (palingref14_loop.l0 k l0 a1 l2 l3 (List.replicate ((l0.length : Int) : Int).toNat false) 0) else (none)) else (none)
theorem palingref14_loop.mono_l : ∀ k, (∀ y0 y1 y2 y3 y4 y5, LeO (palingref14_loop.l0 k y0 y1 y2 y3 y4 y5) (palingref14_loop.l0 (k + 1) y0 y1 y2 y3 y4 y5)) ∧ (∀ y0 y1 y2 y3 y4 y5 y6 y7 y8, LeO (palingref14_loop.l1 k y0 y1 y2 y3 y4 y5 y6 y7 y8) (palingref14_loop.l1 (k + 1) y0 y1 y2 y3 y4 y5 y6 y7 y8)) ∧ (∀ y0 y1 y2 y3 y4 y5 y6, LeO (palingref14_loop.j2 k y0 y1 y2 y3 y4 y5 y6) (palingref14_loop.j2 (k + 1) y0 y1 y2 y3 y4 y5 y6)) ∧ (∀ y0 y1 y2 y3 y4 y5 y6, LeO (palingref14_loop.l2 k y0 y1 y2 y3 y4 y5 y6) (palingref14_loop.l2 (k + 1) y0 y1 y2 y3 y4 y5 y6)) ∧ (∀ y0 y1 y2 y3, LeO (palingref14_loop.l3 k y0 y1 y2 y3) (palingref14_loop.l3 (k + 1) y0 y1 y2 y3))
  | 0 => ⟨fun _ _ _ _ _ _ r h => by simp [palingref14_loop.l0] at h, fun _ _ _ _ _ _ _ _ _ r h => by simp [palingref14_loop.l1] at h, fun _ _ _ _ _ _ _ r h => by simp [palingref14_loop.j2] at h, fun _ _ _ _ _ _ _ r h => by simp [palingref14_loop.l2] at h, fun _ _ _ _ r h => by simp [palingref14_loop.l3] at h⟩
  | k + 1 => by
    obtain ⟨ih0, ih1, ih2, ih3, ih4⟩ := palingref14_loop.mono_l k
    refine ⟨?_, ?_, ?_, ?_, ?_⟩
    · intro y0 y1 y2 y3 y4 y5
      unfold palingref14_loop.l0
      repeat' first
      | (with_reducible exact ih0 _ _ _ _ _ _)
      | (with_reducible exact ih1 _ _ _ _ _ _ _ _ _)
      | (with_reducible exact ih2 _ _ _ _ _ _ _)
      | (with_reducible exact ih3 _ _ _ _ _ _ _)
      | (with_reducible exact ih4 _ _ _ _)
      | (with_reducible exact palingref14_Next.mono _ _ _)
      | (with_reducible exact palingref14_without.mono _ _ _ _)
      | (with_reducible exact LeO.refl _)
      | (with_reducible exact LeO.none _)
      | (with_reducible refine LeO.ite ?_ ?_)
      | (with_reducible refine LeO.bind ?_ (fun _ => ?_))
      | exact ih0 _ _ _ _ _ _
      | exact ih1 _ _ _ _ _ _ _ _ _
      | exact ih2 _ _ _ _ _ _ _
      | exact ih3 _ _ _ _ _ _ _
      | exact ih4 _ _ _ _
      | exact palingref14_Next.mono _ _ _
      | exact palingref14_without.mono _ _ _ _
      | exact LeO.none _
      | refine LeO.ite ?_ ?_
      | refine LeO.bind ?_ (fun _ => ?_)
    · intro y0 y1 y2 y3 y4 y5 y6 y7 y8
      unfold palingref14_loop.l1
      repeat' first
      | (with_reducible exact ih0 _ _ _ _ _ _)
      | (with_reducible exact ih1 _ _ _ _ _ _ _ _ _)
      | (with_reducible exact ih2 _ _ _ _ _ _ _)
      | (with_reducible exact ih3 _ _ _ _ _ _ _)
      | (with_reducible exact ih4 _ _ _ _)
      | (with_reducible exact palingref14_Next.mono _ _ _)
      | (with_reducible exact palingref14_without.mono _ _ _ _)
      | (with_reducible exact LeO.refl _)
      | (with_reducible exact LeO.none _)
      | (with_reducible refine LeO.ite ?_ ?_)
      | (with_reducible refine LeO.bind ?_ (fun _ => ?_))
      | exact ih0 _ _ _ _ _ _
      | exact ih1 _ _ _ _ _ _ _ _ _
      | exact ih2 _ _ _ _ _ _ _
      | exact ih3 _ _ _ _ _ _ _
      | exact ih4 _ _ _ _
      | exact palingref14_Next.mono _ _ _
      | exact palingref14_without.mono _ _ _ _
      | exact LeO.none _
      | refine LeO.ite ?_ ?_
      | refine LeO.bind ?_ (fun _ => ?_)
    · intro y0 y1 y2 y3 y4 y5 y6
      unfold palingref14_loop.j2
      repeat' first
      | (with_reducible exact ih0 _ _ _ _ _ _)
      | (with_reducible exact ih1 _ _ _ _ _ _ _ _ _)
      | (with_reducible exact ih2 _ _ _ _ _ _ _)
      | (with_reducible exact ih3 _ _ _ _ _ _ _)
      | (with_reducible exact ih4 _ _ _ _)
      | (with_reducible exact palingref14_Next.mono _ _ _)
      | (with_reducible exact palingref14_without.mono _ _ _ _)
      | (with_reducible exact LeO.refl _)
      | (with_reducible exact LeO.none _)
      | (with_reducible refine LeO.ite ?_ ?_)
      | (with_reducible refine LeO.bind ?_ (fun _ => ?_))
      | exact ih0 _ _ _ _ _ _
      | exact ih1 _ _ _ _ _ _ _ _ _
      | exact ih2 _ _ _ _ _ _ _
      | exact ih3 _ _ _ _ _ _ _
      | exact ih4 _ _ _ _
      | exact palingref14_Next.mono _ _ _
      | exact palingref14_without.mono _ _ _ _
      | exact LeO.none _
      | refine LeO.ite ?_ ?_
      | refine LeO.bind ?_ (fun _ => ?_)
    · intro y0 y1 y2 y3 y4 y5 y6
      unfold palingref14_loop.l2
      repeat' first
      | (with_reducible exact ih0 _ _ _ _ _ _)
      | (with_reducible exact ih1 _ _ _ _ _ _ _ _ _)
      | (with_reducible exact ih2 _ _ _ _ _ _ _)
      | (with_reducible exact ih3 _ _ _ _ _ _ _)
      | (with_reducible exact ih4 _ _ _ _)
      | (with_reducible exact palingref14_Next.mono _ _ _)
      | (with_reducible exact palingref14_without.mono _ _ _ _)
      | (with_reducible exact LeO.refl _)
      | (with_reducible exact LeO.none _)
      | (with_reducible refine LeO.ite ?_ ?_)
      | (with_reducible refine LeO.bind ?_ (fun _ => ?_))
      | exact ih0 _ _ _ _ _ _
      | exact ih1 _ _ _ _ _ _ _ _ _
      | exact ih2 _ _ _ _ _ _ _
      | exact ih3 _ _ _ _ _ _ _
      | exact ih4 _ _ _ _
      | exact palingref14_Next.mono _ _ _
      | exact palingref14_without.mono _ _ _ _
      | exact LeO.none _
      | refine LeO.ite ?_ ?_
      | refine LeO.bind ?_ (fun _ => ?_)
    · intro y0 y1 y2 y3
      unfold palingref14_loop.l3
      repeat' first
      | (with_reducible exact ih0 _ _ _ _ _ _)
      | (with_reducible exact ih1 _ _ _ _ _ _ _ _ _)
      | (with_reducible exact ih2 _ _ _ _ _ _ _)
      | (with_reducible exact ih3 _ _ _ _ _ _ _)
      | (with_reducible exact ih4 _ _ _ _)
      | (with_reducible exact palingref14_Next.mono _ _ _)
      | (with_reducible exact palingref14_without.mono _ _ _ _)
      | (with_reducible exact LeO.refl _)
      | (with_reducible exact LeO.none _)
      | (with_reducible refine LeO.ite ?_ ?_)
      | (with_reducible refine LeO.bind ?_ (fun _ => ?_))
      | exact ih0 _ _ _ _ _ _
      | exact ih1 _ _ _ _ _ _ _ _ _
      | exact ih2 _ _ _ _ _ _ _
      | exact ih3 _ _ _ _ _ _ _
      | exact ih4 _ _ _ _
      | exact palingref14_Next.mono _ _ _
      | exact palingref14_without.mono _ _ _ _
      | exact LeO.none _
      | refine LeO.ite ?_ ?_
      | refine LeO.bind ?_ (fun _ => ?_)
theorem palingref14_loop.mono : ∀ a0 a1 a2 a3 k, LeO (palingref14_loop.f k a0 a1 a2 a3) (palingref14_loop.f (k + 1) a0 a1 a2 a3) := by
  intro a0 a1 a2 a3 k
  obtain ⟨ih0, ih1, ih2, ih3, ih4⟩ := palingref14_loop.mono_l k
  unfold palingref14_loop.f
  repeat' first
      | (with_reducible exact ih0 _ _ _ _ _ _)
      | (with_reducible exact ih1 _ _ _ _ _ _ _ _ _)
      | (with_reducible exact ih2 _ _ _ _ _ _ _)
      | (with_reducible exact ih3 _ _ _ _ _ _ _)
      | (with_reducible exact ih4 _ _ _ _)
      | (with_reducible exact palingref14_Next.mono _ _ _)
      | (with_reducible exact palingref14_without.mono _ _ _ _)
      | (with_reducible exact LeO.refl _)
      | (with_reducible exact LeO.none _)
      | (with_reducible refine LeO.ite ?_ ?_)
      | (with_reducible refine LeO.bind ?_ (fun _ => ?_))
      | exact ih0 _ _ _ _ _ _
      | exact ih1 _ _ _ _ _ _ _ _ _
      | exact ih2 _ _ _ _ _ _ _
      | exact ih3 _ _ _ _ _ _ _
      | exact ih4 _ _ _ _
      | exact palingref14_Next.mono _ _ _
      | exact palingref14_without.mono _ _ _ _
      | exact LeO.none _
      | refine LeO.ite ?_ ?_
      | refine LeO.bind ?_ (fun _ => ?_)
set_option maxHeartbeats 8000000 in
set_option maxRecDepth 100000 in
theorem palingref14_loop.calls (k : Nat) (A0 : Option Addr) (c0 : Nat) (l0 : List (S37)) (a1 : Int) (A2 : Option Addr) (c2 : Nat) (l2 : List (List Bool)) (A3 : Option Addr) (c3 : Nat) (l3 : List Bool) (r : List Int) (w : World) (hr0 : Kd.C k37 w A0 l0.length l0) (hc0 : l0.length ≤ c0) (hr2 : Kd.C (Kd.slice 4 Kd.bool) w A2 l2.length l2) (hc2 : l2.length ≤ c2) (hr3 : Kd.C Kd.bool w A3 l3.length l3) (hc3 : l3.length ≤ c3) (h : palingref14_loop.f k l0 a1 l2 l3 = some r) :
    Calls Tryd.prog 33 #[.slice A0 l0.length c0, .int .i64 a1, .slice A2 l2.length c2, .slice A3 l3.length c3] w fun e w' => ∃ v0_ : Value, e = .returned (v0_) ∧ Kd.R (Kd.int .i64) 3 w' w.heap.size (fun _ => True) v0_ r ∧ Below w.heap.size w w' := by
  have HR0 := Aside0.mk hr0
  have HC0 := Aside0.mk hc0
  clear hr0 hc0
  have HR2 := Aside0.mk hr2
  have HC2 := Aside0.mk hc2
  clear hr2 hc2
  have HR3 := Aside0.mk hr3
  have HC3 := Aside0.mk hc3
  clear hr3 hc3
  have HB := Aside0.mk (Below.refl w.heap.size w)
  have H : (if 0 ≤ (l0.length : Int) then (if ((l0.length : Int) : Int).toNat ≤ 281474976710656 then (palingref14_loop.l0 k l0 a1 l2 l3 (List.replicate ((l0.length : Int) : Int).toNat false) 0) else (none)) else (none)) = some r := h
  clear h
  by_cases c5 : 0 ≤ (l0.length : Int)
  · rw [if_pos c5] at H
    have c5b0 := eq_true c5
    have c5b1 : decide (0 ≤ (l0.length : Int)) = true := decide_eq_true c5
    clear c5
    by_cases c6 : ((l0.length : Int) : Int).toNat ≤ 281474976710656
    · rw [if_pos c6] at H
      have c6b0 := eq_true c6
      have c6b1 : decide (((l0.length : Int) : Int).toNat ≤ 281474976710656) = true := decide_eq_true c6
      clear c6
      obtain ⟨y232, hy232⟩ : ∃ y_ : List Bool, y_ = (List.replicate ((l0.length : Int) : Int).toNat false) := ⟨_, rfl⟩
      replace H : (palingref14_loop.l0 k l0 a1 l2 l3 y232 0) = some r := by first | (rw [hy232]; with_reducible exact H) | (have H2_ := (Option.bind_some _ _).symm.trans H; rw [hy232]; with_reducible exact H2_) | (have H2_ := (Option.bind_some _ _).symm.trans H; with_reducible exact H2_) | with_reducible exact H | (rw [hy232]; exact H) | exact H
      have Ny232 := Aside0.mk hy232
      clear hy232
      have H' := Aside0.mk H
      clear H
      go_enter Tryd.func33, Tryd.ntmps33
      go_wp2_with (first | ((with_reducible refine gate_dst (N := 20) rfl ?_); refine Kd.R_make Kd.bool _ 4 rfl (N := 20) rfl 25 _ _ rfl (l0.length : Int) rfl rfl Tryd.underlying25 (.bool false) 1 info4 rfl (by decide) (by omega) false (ok := fun _ => True) (okp := fun _ => True) rfl (fun _ hk => hk) trivial (of_decide_eq_true (by first | (with_reducible assumption) | assumption)) (Nat.le_trans (Nat.mul_le_mul_right _ (of_decide_eq_true (by first | (with_reducible assumption) | assumption) : (l0.length : Int).toNat ≤ 281474976710656)) (by omega)) (Below.refl _ _) (Nat.le_refl _) ?_; intro v233 w7 ho8 hb hg_ hnew_; clear hg_ hnew_; (first | rw [← Ny232.out] at ho8 | (simp only [Int.reduceToNat] at ho8; rw [← Ny232.out] at ho8)); have n0_ := Aside0.mk (Kd.R_lower ho8 (below_size (by repeat (first | (with_reducible first | exact HB.out | apply below_alloc | apply pw_below_drewN | apply below_drew1) | exact HB.out)))); have n1_ := Aside0.mk (below_step (by repeat (first | (with_reducible first | exact HB.out | apply below_alloc | apply pw_below_drewN | apply below_drew1) | exact HB.out)) hb); clear HB; have HO234 := n0_; have HB := n1_; clear n0_ n1_; clear hb ho8))
      go_loopg [11] k (fun kq v11 w' => ∃ (x10_1 : List Bool) (x11_1 : Int), v11 = .int .i64 x11_1 ∧ Aside0 (palingref14_loop.l0 kq l0 a1 l2 l3 x10_1 x11_1 = some r) ∧ Aside0 (kq ≤ k) ∧ Aside0 (Kd.R Kd.bool 4 w' w.heap.size (fun _ => True) v233 x10_1) ∧ Aside0 (Below w.heap.size w w'))
      case atStart => exact ⟨(y232), (0), (by first | rfl | (simp; done) | (simp [*]; done)), H', ⟨Nat.le_refl _⟩, ⟨by (with_reducible repeat (first | apply Kd.R_alloc | apply Kd.R_drewN | apply Kd.R_drew)); exact HO234.out⟩, ⟨by repeat (first | (with_reducible first | exact HB.out | apply below_alloc | apply pw_below_drewN | apply below_drew1) | exact HB.out)⟩⟩
      case round =>
        clear H'
        try clear c2
        try clear p2
        try clear c3
        try clear c5
        try clear c5b0
        try clear c5b1
        try clear c6
        try clear c6b0
        try clear c6b1
        obtain ⟨x10_1, x11_1, rfl, HA, HK1, HO_10, HB⟩ := hrel
        cases gk with
        | zero => exact absurd HA.out (by simp [palingref14_loop.l0])
        | succ k1 =>
          have H := HA.out
          clear HA
          simp only [palingref14_loop.l0] at H
          by_cases c9 : x11_1 < (l0.length : Int)
          · rw [if_pos c9] at H
            have c9b0 : decide (x11_1 < (l0.length : Int)) = true := decide_eq_true c9
            clear c9
            replace H := Option.bind_eq_some_iff.mp H
            obtain ⟨t235, A100, H⟩ := H
            replace H : (palingref14_loop.l1 k1 l0 a1 l2 l3 x10_1 x11_1 t235 false 0) = some r := H
            have A10 := Aside0.mk A100
            clear A100
            have H' := Aside0.mk H
            clear H
            go_wp2_with (first | ((with_reducible refine gate_callee (f := 25) rfl ?_); refine goesL_ (some 29) rfl rfl Tryd.func25 (by kernel_rfl) rfl #[.slice A0 l0.length c0, .int .i64 x11_1] rfl (by (try simp only [List.map_toArray, List.map_cons, List.map_nil]); first | done | rfl | (simp only [List.length_drop, List.length_take]; rfl)) ?_; (with_reducible refine (palingref14_Next.calls k1 _ _ l0 x11_1 t235 _ ?side1 ?side2 A10.out).mono ?_); (case side1 => repeat (first | exact (Kd.C_below HR0.out HB.out) | (with_reducible refine Kd.C_alloc ?_ _) | (with_reducible refine Kd.C_drewN ?_ _) | (with_reducible refine Kd.C_drew ?_))); (case side2 => exact HC0.out); rintro e w11 ⟨v236, rfl, ho0, hb⟩; refine ⟨_, rfl, ?_⟩; have n0_ := Aside0.mk (Kd.R_below (by (with_reducible repeat (first | apply Kd.R_alloc | apply Kd.R_drewN | apply Kd.R_drew)); exact HO_10.out) hb); have n1_ := Aside0.mk (Kd.R_lower ho0 (below_size (by repeat (first | (with_reducible first | exact HB.out | apply below_alloc | apply pw_below_drewN | apply below_drew1) | exact HB.out)))); have n2_ := Aside0.mk (below_step (by repeat (first | (with_reducible first | exact HB.out | apply below_alloc | apply pw_below_drewN | apply below_drew1) | exact HB.out)) hb); clear HO_10; clear HB; have HO_10 := n0_; have HO237 := n1_; have HB := n2_; clear n0_ n1_ n2_; (try clear hb); (try clear hb2); (try clear hk); (try clear hi); (try clear ho0)))
            go_loopg [13, 14] k1 (fun kq v13 v14 w' => ∃ (x13_2 : Bool) (x14_2 : Int), v13 = .bool x13_2 ∧ v14 = .int .i64 x14_2 ∧ Aside0 (palingref14_loop.l1 kq l0 a1 l2 l3 x10_1 x11_1 t235 x13_2 x14_2 = some r) ∧ Aside0 (kq ≤ k1) ∧ Aside0 (Kd.R Kd.bool 4 w' w.heap.size (fun _ => True) v233 x10_1) ∧ Aside0 (Kd.R (Kd.int .i64) 3 w' w.heap.size (fun _ => True) v236 t235) ∧ Aside0 (Below w.heap.size w w'))
            case atStart => exact ⟨(false), (0), (by first | rfl | (simp; done) | (simp [*]; done)), (by first | rfl | (simp; done) | (simp [*]; done)), H', ⟨Nat.le_refl _⟩, ⟨by (with_reducible repeat (first | apply Kd.R_alloc | apply Kd.R_drewN | apply Kd.R_drew)); exact HO_10.out⟩, ⟨by (with_reducible repeat (first | apply Kd.R_alloc | apply Kd.R_drewN | apply Kd.R_drew)); exact HO237.out⟩, ⟨by repeat (first | (with_reducible first | exact HB.out | apply below_alloc | apply pw_below_drewN | apply below_drew1) | exact HB.out)⟩⟩
            case round =>
              clear H'
              try clear c2
              try clear p2
              try clear c3
              try clear c5
              try clear c5b0
              try clear c5b1
              try clear c6
              try clear c6b0
              try clear c6b1
              try clear c9
              try clear c9b0
              try clear p2
              obtain ⟨x13_2, x14_2, rfl, rfl, HA, HK2, HO_10, HO_12, HB⟩ := hrel
              cases gk with
              | zero => exact absurd HA.out (by simp [palingref14_loop.l1])
              | succ k2 =>
                have H := HA.out
                clear HA
                simp only [palingref14_loop.l1] at H
                by_cases c12 : x14_2 < (t235.length : Int)
                · rw [if_pos c12] at H
                  have c12b0 : decide (x14_2 < (t235.length : Int)) = true := decide_eq_true c12
                  clear c12
                  by_cases c13 : x13_2 = true
                  · subst c13
                    have H1 : (palingref14_loop.l1 k2 l0 a1 l2 l3 x10_1 x11_1 t235 true (wrap64 (x14_2 + 1))) = some r := by rw [if_pos rfl] at H; exact H
                    clear H
                    have H := H1
                    clear H1
                    have H' := Aside0.mk H
                    clear H
                    obtain ⟨Ao14, co14, eo14⟩ := Kd.R_slice HO_12.out
                    subst eo14
                    go_wp2
                    go_roundg k2
                    case measure => have := HK1.out; have := HK2.out; omega
                    case rel => exact ⟨(true), (wrap64 (x14_2 + 1)), (by first | rfl | (simp; done) | (simp [*]; done)), (by first | rfl | (simp; done) | (simp [*]; done)), H', ⟨by have := HK1.out; have := HK2.out; omega⟩, ⟨by (with_reducible repeat (first | apply Kd.R_alloc | apply Kd.R_drewN | apply Kd.R_drew)); exact HO_10.out⟩, ⟨by (with_reducible repeat (first | apply Kd.R_alloc | apply Kd.R_drewN | apply Kd.R_drew)); exact HO_12.out⟩, ⟨by repeat (first | (with_reducible first | exact HB.out | apply below_alloc | apply pw_below_drewN | apply below_drew1) | exact HB.out)⟩⟩
                  · replace c13 := Bool.eq_false_iff.mpr c13
                    subst c13
                    have H1 : (if 0 ≤ x14_2 then (palingref14_loop.l1 k2 l0 a1 l2 l3 x10_1 x11_1 t235 ((rd t235 x14_2) == a1) (wrap64 (x14_2 + 1))) else (none)) = some r := by rw [if_neg (show ¬ (false = true) by decide)] at H; exact H
                    clear H
                    have H := H1
                    clear H1
                    by_cases c15 : 0 ≤ x14_2
                    · rw [if_pos c15] at H
                      have c15b0 : decide (0 ≤ x14_2) = true := decide_eq_true c15
                      clear c15
                      have H' := Aside0.mk H
                      clear H
                      obtain ⟨Ao16, co16, eo16⟩ := Kd.R_slice HO_12.out
                      subst eo16
                      have p238 : 0 ≤ (x14_2 : Int) := of_decide_eq_true (by first | (with_reducible assumption) | assumption)
                      have q238 : x14_2 < (t235.length : Int) := of_decide_eq_true (by first | (with_reducible assumption) | assumption)
                      obtain ⟨ad238, e238, hx238_0⟩ := Kd.at_int (Kd.R_reads' HO_12.out).2.2 x14_2 p238 q238
                      cases e238
                      replace p238 := eq_true p238
                      replace q238 := eq_true q238
                      go_wp2
                      go_roundg k2
                      case measure => have := HK1.out; have := HK2.out; omega
                      case rel => exact ⟨(((rd t235 x14_2) == a1)), (wrap64 (x14_2 + 1)), (by first | rfl | (simp; done) | (simp [*]; done)), (by first | rfl | (simp; done) | (simp [*]; done)), H', ⟨by have := HK1.out; have := HK2.out; omega⟩, ⟨by (with_reducible repeat (first | apply Kd.R_alloc | apply Kd.R_drewN | apply Kd.R_drew)); exact HO_10.out⟩, ⟨by (with_reducible repeat (first | apply Kd.R_alloc | apply Kd.R_drewN | apply Kd.R_drew)); exact HO_12.out⟩, ⟨by repeat (first | (with_reducible first | exact HB.out | apply below_alloc | apply pw_below_drewN | apply below_drew1) | exact HB.out)⟩⟩
                    · rw [if_neg c15] at H
                      exact absurd H (by simp)
                · rw [if_neg c12] at H
                  have c12b0 : decide (x14_2 < (t235.length : Int)) = false := decide_eq_false c12
                  clear c12
                  have HC17 := Aside0.mk H
                  clear H
                  obtain ⟨Ao18, co18, eo18⟩ := Kd.R_slice HO_12.out
                  subst eo18
                  go_upto_region 12 with (fail)
                  go_cut [63] (fun v63 wc => ∃ (kq : Nat) (x63_16 : Bool), v63 = .bool x63_16 ∧ Aside0 (palingref14_loop.j2 kq l0 a1 l2 l3 x10_1 x11_1 x63_16 = some r) ∧ Aside0 (kq ≤ k2) ∧ Aside0 (Kd.R Kd.bool 4 wc w.heap.size (fun _ => True) v233 x10_1) ∧ Aside0 (Below w.heap.size w wc))
                  case first =>
                    have H := HC17.out
                    clear HC17
                    by_cases c19 : x13_2 = true
                    · subst c19
                      have H1 : (if 0 ≤ x11_1 then (if x11_1 < (l3.length : Int) then (if rdOf false l3 x11_1 = true then (if x11_1 < (l2.length : Int) then (if 0 ≤ a1 then (if a1 < ((rd_L7 l2 x11_1).length : Int) then (palingref14_loop.j2 k2 l0 a1 l2 l3 x10_1 x11_1 (!(rdOf false (rd_L7 l2 x11_1) a1))) else (none)) else (none)) else (none)) else (palingref14_loop.j2 k2 l0 a1 l2 l3 x10_1 x11_1 true)) else (none)) else (none)) = some r := by rw [if_pos rfl] at H; exact H
                      clear H
                      have H := H1
                      clear H1
                      by_cases c20 : 0 ≤ x11_1
                      · rw [if_pos c20] at H
                        have c20b0 : decide (0 ≤ x11_1) = true := decide_eq_true c20
                        clear c20
                        (first | rw [c20b0] | (simp only [i64_w, i32_w]; rw [c20b0]) | skip)
                        by_cases c21 : x11_1 < (l3.length : Int)
                        · rw [if_pos c21] at H
                          have c21b0 : decide (x11_1 < (l3.length : Int)) = true := decide_eq_true c21
                          clear c21
                          obtain ⟨bq22, hbq22⟩ : ∃ b_ : Bool, b_ = (rdOf false l3 x11_1) := ⟨_, rfl⟩
                          replace H : (if bq22 = true then (if x11_1 < (l2.length : Int) then (if 0 ≤ a1 then (if a1 < ((rd_L7 l2 x11_1).length : Int) then (palingref14_loop.j2 k2 l0 a1 l2 l3 x10_1 x11_1 (!(rdOf false (rd_L7 l2 x11_1) a1))) else (none)) else (none)) else (none)) else (palingref14_loop.j2 k2 l0 a1 l2 l3 x10_1 x11_1 true)) = some r := by rw [← hbq22] at H; exact H
                          have Nbq22 := Aside0.mk hbq22
                          clear hbq22
                          by_cases c23 : bq22 = true
                          · subst c23
                            have H1 : (if x11_1 < (l2.length : Int) then (if 0 ≤ a1 then (if a1 < ((rd_L7 l2 x11_1).length : Int) then (palingref14_loop.j2 k2 l0 a1 l2 l3 x10_1 x11_1 (!(rdOf false (rd_L7 l2 x11_1) a1))) else (none)) else (none)) else (none)) = some r := by rw [if_pos rfl] at H; exact H
                            clear H
                            have H := H1
                            clear H1
                            by_cases c24 : x11_1 < (l2.length : Int)
                            · rw [if_pos c24] at H
                              have c24b0 : decide (x11_1 < (l2.length : Int)) = true := decide_eq_true c24
                              clear c24
                              by_cases c25 : 0 ≤ a1
                              · rw [if_pos c25] at H
                                have c25b0 : decide (0 ≤ a1) = true := decide_eq_true c25
                                clear c25
                                by_cases c26 : a1 < ((rd_L7 l2 x11_1).length : Int)
                                · rw [if_pos c26] at H
                                  have c26b0 : decide (a1 < ((rd_L7 l2 x11_1).length : Int)) = true := decide_eq_true c26
                                  clear c26
                                  have H' := Aside0.mk H
                                  clear H
                                  have p239 : 0 ≤ (x11_1 : Int) := of_decide_eq_true (by first | (with_reducible assumption) | assumption)
                                  have q239 : x11_1 < (l3.length : Int) := of_decide_eq_true (by first | (with_reducible assumption) | assumption)
                                  obtain ⟨ad239, e239, hx239_0⟩ := Kd.at_bool HR3.out x11_1 p239 q239
                                  (try rw [← Nbq22.out] at hx239_0)
                                  cases e239
                                  replace hx239_0 := (HB.out.cell (World.block_lt_of_cell? w _ hx239_0)).trans hx239_0
                                  replace p239 := eq_true p239
                                  replace q239 := eq_true q239
                                  have p240 : 0 ≤ (x11_1 : Int) := of_decide_eq_true (by first | (with_reducible assumption) | assumption)
                                  have q240 : x11_1 < (l2.length : Int) := of_decide_eq_true (by first | (with_reducible assumption) | assumption)
                                  obtain ⟨ad240, A240_0, c240_0, e240, hx240_0, hl240_0, hi240_0⟩ := at_L7 HR2.out x11_1 p240 q240
                                  cases e240
                                  replace hx240_0 := (HB.out.cell (World.block_lt_of_cell? w _ hx240_0)).trans hx240_0
                                  have HR240_0 := Aside0.mk hi240_0
                                  have HC240_0 := Aside0.mk hl240_0
                                  clear hi240_0 hl240_0
                                  replace p240 := eq_true p240
                                  replace q240 := eq_true q240
                                  have p241 : 0 ≤ (a1 : Int) := of_decide_eq_true (by first | (with_reducible assumption) | assumption)
                                  have q241 : a1 < ((rd_L7 l2 x11_1).length : Int) := of_decide_eq_true (by first | (with_reducible assumption) | assumption)
                                  obtain ⟨ad241, e241, hx241_0⟩ := Kd.at_bool HR240_0.out a1 p241 q241
                                  (try rw [← Nbq22.out] at hx241_0)
                                  cases e241
                                  replace hx241_0 := (HB.out.cell (World.block_lt_of_cell? w _ hx241_0)).trans hx241_0
                                  replace p241 := eq_true p241
                                  replace q241 := eq_true q241
                                  go_wp2
                                  go_meet
                                  case rel => exact ⟨_, (!(rdOf false (rd_L7 l2 x11_1) a1)), (by first | rfl | (simp; done) | (simp [*]; done)), H', ⟨by have := HK1.out; have := HK2.out; first | omega | exact Nat.le_refl _⟩, ⟨by (with_reducible repeat (first | apply Kd.R_alloc | apply Kd.R_drewN | apply Kd.R_drew)); exact HO_10.out⟩, ⟨by repeat (first | (with_reducible first | exact HB.out | apply below_alloc | apply pw_below_drewN | apply below_drew1) | exact HB.out)⟩⟩
                                · rw [if_neg c26] at H
                                  exact absurd H (by simp)
                              · rw [if_neg c25] at H
                                exact absurd H (by simp)
                            · rw [if_neg c24] at H
                              exact absurd H (by simp)
                          · replace c23 := Bool.eq_false_iff.mpr c23
                            subst c23
                            have H1 : (palingref14_loop.j2 k2 l0 a1 l2 l3 x10_1 x11_1 true) = some r := by rw [if_neg (show ¬ (false = true) by decide)] at H; exact H
                            clear H
                            have H := H1
                            clear H1
                            have H' := Aside0.mk H
                            clear H
                            have p239 : 0 ≤ (x11_1 : Int) := of_decide_eq_true (by first | (with_reducible assumption) | assumption)
                            have q239 : x11_1 < (l3.length : Int) := of_decide_eq_true (by first | (with_reducible assumption) | assumption)
                            obtain ⟨ad239, e239, hx239_0⟩ := Kd.at_bool HR3.out x11_1 p239 q239
                            (try rw [← Nbq22.out] at hx239_0)
                            cases e239
                            replace hx239_0 := (HB.out.cell (World.block_lt_of_cell? w _ hx239_0)).trans hx239_0
                            replace p239 := eq_true p239
                            replace q239 := eq_true q239
                            go_wp2
                            go_meet
                            case rel => exact ⟨_, (true), (by first | rfl | (simp; done) | (simp [*]; done)), H', ⟨by have := HK1.out; have := HK2.out; first | omega | exact Nat.le_refl _⟩, ⟨by (with_reducible repeat (first | apply Kd.R_alloc | apply Kd.R_drewN | apply Kd.R_drew)); exact HO_10.out⟩, ⟨by repeat (first | (with_reducible first | exact HB.out | apply below_alloc | apply pw_below_drewN | apply below_drew1) | exact HB.out)⟩⟩
                        · rw [if_neg c21] at H
                          exact absurd H (by simp)
                      · rw [if_neg c20] at H
                        exact absurd H (by simp)
                    · replace c19 := Bool.eq_false_iff.mpr c19
                      subst c19
                      have H1 : (palingref14_loop.j2 k2 l0 a1 l2 l3 x10_1 x11_1 true) = some r := by rw [if_neg (show ¬ (false = true) by decide)] at H; exact H
                      clear H
                      have H := H1
                      clear H1
                      have H' := Aside0.mk H
                      clear H
                      go_wp2
                      go_meet
                      case rel => exact ⟨_, (true), (by first | rfl | (simp; done) | (simp [*]; done)), H', ⟨by have := HK1.out; have := HK2.out; first | omega | exact Nat.le_refl _⟩, ⟨by (with_reducible repeat (first | apply Kd.R_alloc | apply Kd.R_drewN | apply Kd.R_drew)); exact HO_10.out⟩, ⟨by repeat (first | (with_reducible first | exact HB.out | apply below_alloc | apply pw_below_drewN | apply below_drew1) | exact HB.out)⟩⟩
                  case rest =>
                    clear HC17
                    try clear c1
                    try clear c2
                    try clear p2
                    try clear q2
                    try clear hx2
                    try clear c3
                    try clear c5
                    try clear c5b0
                    try clear c5b1
                    try clear c6
                    try clear c6b0
                    try clear c6b1
                    try clear p6
                    try clear c9
                    try clear c9b0
                    try clear c12
                    try clear c12b0
                    try clear c13
                    try clear c15
                    try clear c15b0
                    try clear c19
                    try clear c20
                    try clear c20b0
                    try clear c21
                    try clear c21b0
                    try clear q22
                    try clear c23
                    try clear p23
                    try clear q23
                    try clear hx23
                    try clear c24
                    try clear c24b0
                    try clear p24
                    try clear q24
                    try clear hx24
                    try clear c25
                    try clear c25b0
                    try clear c26
                    try clear c26b0
                    try clear hx238_0
                    try clear hx239_0
                    try clear hx240_0
                    try clear hx241_0
                    try clear p2
                    try clear p238
                    try clear p239
                    try clear p240
                    try clear p241
                    try clear q238
                    try clear q239
                    try clear q240
                    try clear q241
                    obtain ⟨kq, x63_16, rfl, HA, HJ16, HO_10, HB⟩ := hcut
                    cases kq with
                    | zero => exact absurd HA.out (by simp [palingref14_loop.j2])
                    | succ kj16 =>
                      have H := HA.out
                      clear HA
                      simp only [palingref14_loop.j2] at H
                      by_cases c27 : x63_16 = true
                      · subst c27
                        have H1 : (palingref14_loop.l0 kj16 l0 a1 l2 l3 x10_1 (wrap64 (x11_1 + 1))) = some r := by rw [if_pos rfl] at H; exact H
                        clear H
                        have H := H1
                        clear H1
                        have H' := Aside0.mk H
                        clear H
                        go_wp2
                        go_roundg kj16
                        case measure => have := HK1.out; have := HK2.out; have := HJ16.out; omega
                        case rel => exact ⟨(x10_1), (wrap64 (x11_1 + 1)), (by first | rfl | (simp; done) | (simp [*]; done)), H', ⟨by have := HK1.out; have := HK2.out; have := HJ16.out; omega⟩, ⟨by (with_reducible repeat (first | apply Kd.R_alloc | apply Kd.R_drewN | apply Kd.R_drew)); exact HO_10.out⟩, ⟨by repeat (first | (with_reducible first | exact HB.out | apply below_alloc | apply pw_below_drewN | apply below_drew1) | exact HB.out)⟩⟩
                      · replace c27 := Bool.eq_false_iff.mpr c27
                        subst c27
                        have H1 : (if 0 ≤ a1 then (if a1 < (x10_1.length : Int) then (palingref14_loop.l2 kj16 l0 a1 l2 l3 (x10_1.set (a1 : Int).toNat true) x11_1 0) else (none)) else (none)) = some r := by rw [if_neg (show ¬ (false = true) by decide)] at H; exact H
                        clear H
                        have H := H1
                        clear H1
                        by_cases c28 : 0 ≤ a1
                        · rw [if_pos c28] at H
                          have c28b0 : decide (0 ≤ a1) = true := decide_eq_true c28
                          clear c28
                          by_cases c29 : a1 < (x10_1.length : Int)
                          · rw [if_pos c29] at H
                            have c29b0 : decide (a1 < (x10_1.length : Int)) = true := decide_eq_true c29
                            clear c29
                            obtain ⟨y242, hy242⟩ : ∃ y_ : List Bool, y_ = (x10_1.set (a1 : Int).toNat true) := ⟨_, rfl⟩
                            replace H : (palingref14_loop.l2 kj16 l0 a1 l2 l3 y242 x11_1 0) = some r := by first | (rw [hy242]; with_reducible exact H) | (have H2_ := (Option.bind_some _ _).symm.trans H; rw [hy242]; with_reducible exact H2_) | (have H2_ := (Option.bind_some _ _).symm.trans H; with_reducible exact H2_) | with_reducible exact H | (rw [hy242]; exact H) | exact H
                            have Ny242 := Aside0.mk hy242
                            clear hy242
                            have H' := Aside0.mk H
                            clear H
                            have p30 : 0 ≤ (a1 : Int) := of_decide_eq_true (by first | (with_reducible assumption) | assumption)
                            have q30 : (a1 : Int) < ((x10_1.length : Int) : Int) := of_decide_eq_true (by first | (with_reducible assumption) | assumption)
                            obtain ⟨go30, co30, eo30, gb30, gl30, cl30, HG30⟩ := Kd.R_form HO_10.out (by omega)
                            (first | cases eo30 | (injection eo30 with ea_ en_ ec_; (first | subst ea_ | (injection ea_ with ea_; subst ea_)); subst ec_; clear en_))
                            have GB30 := Aside0.mk gb30
                            have GG30 := Aside0.mk HG30
                            clear gb30 gl30 HG30
                            obtain ⟨hx30_0, hf30_0⟩ := Kd.R_celln false HO_10.out (a1 : Int) p30 q30
                            replace p30 := eq_true p30
                            replace q30 := eq_true q30
                            have HP31 := Kd.R_putg HO_10.out (a1 : Int) true
                            go_wp2_with (first | ((with_reducible refine gate_store (t := 4) (p := 66) rfl ?_); refine store_event (t := 4) (p := 66) (v := ?vo_w32) (w1 := (wc.setCell ⟨go30, (a1 : Int).toNat, none⟩ (.bool true))) ?hg ?ho ?hn ?hr ?_; (case ho => rfl); (case hg => rfl); (case hn => rfl); (case hr => first | (go_simp; done) | (go_simp; rfl)); intro w32 hw; have hg : wc.grownBy w32 (some go30) := (by rw [hw]; exact HP31.2); have hp_ : Kd.R Kd.bool 4 w32 w.heap.size (fun _ => True) (.slice (some ⟨go30, 0, none⟩) x10_1.length co30) y242 := (by rw [hw, Ny242.out]; exact HP31.1); clear HP31; have n0_ := Aside0.mk (hp_); have n1_ := Aside0.mk ((by rw [hw]; exact below_set (HB.out) GB30.out : Below w.heap.size w w32)); clear HO_10; clear HB; have HO_10 := n0_; have HB := n1_; clear n0_ n1_; clear hg hw hp_))
                            go_loopg [15] kj16 (fun kq v15 w' => ∃ (x10_4 : List Bool) (x15_4 : Int), v15 = .int .i64 x15_4 ∧ Aside0 (palingref14_loop.l2 kq l0 a1 l2 l3 x10_4 x11_1 x15_4 = some r) ∧ Aside0 (kq ≤ kj16) ∧ Aside0 (Kd.R Kd.bool 4 w' w.heap.size (fun _ => True) (.slice (some ⟨go30, 0, none⟩) x10_1.length co30) x10_4) ∧ Aside0 (Below w.heap.size w w'))
                            case atStart => exact ⟨(y242), (0), (by first | rfl | (simp; done) | (simp [*]; done)), H', ⟨Nat.le_refl _⟩, ⟨by (with_reducible repeat (first | apply Kd.R_alloc | apply Kd.R_drewN | apply Kd.R_drew)); exact HO_10.out⟩, ⟨by repeat (first | (with_reducible first | exact HB.out | apply below_alloc | apply pw_below_drewN | apply below_drew1) | exact HB.out)⟩⟩
                            case round =>
                              clear H'
                              try clear c1
                              try clear c2
                              try clear p2
                              try clear q2
                              try clear hx2
                              try clear c3
                              try clear p3
                              try clear q3
                              try clear hx3
                              try clear c5
                              try clear c5b0
                              try clear c5b1
                              try clear c6
                              try clear c6b0
                              try clear c6b1
                              try clear p6
                              try clear c9
                              try clear c9b0
                              try clear c12
                              try clear c12b0
                              try clear c13
                              try clear c15
                              try clear c15b0
                              try clear c19
                              try clear c20
                              try clear c20b0
                              try clear c21
                              try clear c21b0
                              try clear q22
                              try clear c23
                              try clear p23
                              try clear q23
                              try clear hx23
                              try clear c24
                              try clear c24b0
                              try clear p24
                              try clear q24
                              try clear hx24
                              try clear c25
                              try clear c25b0
                              try clear c26
                              try clear c26b0
                              try clear c27
                              try clear c28
                              try clear c28b0
                              try clear c29
                              try clear c29b0
                              try clear p30
                              try clear q30
                              try clear hx30
                              try clear hf30
                              try clear hx238_0
                              try clear hx239_0
                              try clear hx240_0
                              try clear hx241_0
                              try clear hx30_0
                              try clear p2
                              try clear p23
                              try clear p238
                              try clear p239
                              try clear p24
                              try clear p240
                              try clear p241
                              try clear p30
                              try clear p6
                              try clear q2
                              try clear q22
                              try clear q23
                              try clear q238
                              try clear q239
                              try clear q24
                              try clear q240
                              try clear q241
                              try clear q30
                              obtain ⟨x10_4, x15_4, rfl, HA, HK4, HO_10, HB⟩ := hrel
                              have hl10_4 := (Kd.R_reads' HO_10.out).1
                              rw [hl10_4] at HO_10
                              (try simp only [hl10_4])
                              cases gk with
                              | zero => exact absurd HA.out (by simp [palingref14_loop.l2])
                              | succ k4 =>
                                have H := HA.out
                                clear HA
                                simp only [palingref14_loop.l2] at H
                                by_cases c33 : x15_4 < (l0.length : Int)
                                · rw [if_pos c33] at H
                                  have c33b0 : decide (x15_4 < (l0.length : Int)) = true := decide_eq_true c33
                                  clear c33
                                  replace H := Option.bind_eq_some_iff.mp H
                                  obtain ⟨t243, A340, H⟩ := H
                                  replace H : (if 0 ≤ x15_4 then (if x15_4 < (l3.length : Int) then (if rdOf false l3 x15_4 = true then (if 0 ≤ x11_1 then (if x11_1 < (t243.length : Int) then (if rdOf false t243 x11_1 = true then (if x15_4 < (x10_4.length : Int) then (palingref14_loop.l2 k4 l0 a1 l2 l3 (x10_4.set (x15_4 : Int).toNat true) x11_1 (wrap64 (x15_4 + 1))) else (none)) else (palingref14_loop.l2 k4 l0 a1 l2 l3 x10_4 x11_1 (wrap64 (x15_4 + 1)))) else (none)) else (none)) else (palingref14_loop.l2 k4 l0 a1 l2 l3 x10_4 x11_1 (wrap64 (x15_4 + 1)))) else (none)) else (none)) = some r := H
                                  have A34 := Aside0.mk A340
                                  clear A340
                                  by_cases c35 : 0 ≤ x15_4
                                  · rw [if_pos c35] at H
                                    have c35b0 : decide (0 ≤ x15_4) = true := decide_eq_true c35
                                    clear c35
                                    by_cases c36 : x15_4 < (l3.length : Int)
                                    · rw [if_pos c36] at H
                                      have c36b0 : decide (x15_4 < (l3.length : Int)) = true := decide_eq_true c36
                                      clear c36
                                      obtain ⟨bq37, hbq37⟩ : ∃ b_ : Bool, b_ = (rdOf false l3 x15_4) := ⟨_, rfl⟩
                                      replace H : (if bq37 = true then (if 0 ≤ x11_1 then (if x11_1 < (t243.length : Int) then (if rdOf false t243 x11_1 = true then (if x15_4 < (x10_4.length : Int) then (palingref14_loop.l2 k4 l0 a1 l2 l3 (x10_4.set (x15_4 : Int).toNat true) x11_1 (wrap64 (x15_4 + 1))) else (none)) else (palingref14_loop.l2 k4 l0 a1 l2 l3 x10_4 x11_1 (wrap64 (x15_4 + 1)))) else (none)) else (none)) else (palingref14_loop.l2 k4 l0 a1 l2 l3 x10_4 x11_1 (wrap64 (x15_4 + 1)))) = some r := by rw [← hbq37] at H; exact H
                                      have Nbq37 := Aside0.mk hbq37
                                      clear hbq37
                                      by_cases c38 : bq37 = true
                                      · subst c38
                                        have H1 : (if 0 ≤ x11_1 then (if x11_1 < (t243.length : Int) then (if rdOf false t243 x11_1 = true then (if x15_4 < (x10_4.length : Int) then (palingref14_loop.l2 k4 l0 a1 l2 l3 (x10_4.set (x15_4 : Int).toNat true) x11_1 (wrap64 (x15_4 + 1))) else (none)) else (palingref14_loop.l2 k4 l0 a1 l2 l3 x10_4 x11_1 (wrap64 (x15_4 + 1)))) else (none)) else (none)) = some r := by rw [if_pos rfl] at H; exact H
                                        clear H
                                        have H := H1
                                        clear H1
                                        by_cases c39 : 0 ≤ x11_1
                                        · rw [if_pos c39] at H
                                          have c39b0 : decide (0 ≤ x11_1) = true := decide_eq_true c39
                                          clear c39
                                          by_cases c40 : x11_1 < (t243.length : Int)
                                          · rw [if_pos c40] at H
                                            have c40b0 : decide (x11_1 < (t243.length : Int)) = true := decide_eq_true c40
                                            clear c40
                                            obtain ⟨bq41, hbq41⟩ : ∃ b_ : Bool, b_ = (rdOf false t243 x11_1) := ⟨_, rfl⟩
                                            replace H : (if bq41 = true then (if x15_4 < (x10_4.length : Int) then (palingref14_loop.l2 k4 l0 a1 l2 l3 (x10_4.set (x15_4 : Int).toNat true) x11_1 (wrap64 (x15_4 + 1))) else (none)) else (palingref14_loop.l2 k4 l0 a1 l2 l3 x10_4 x11_1 (wrap64 (x15_4 + 1)))) = some r := by rw [← hbq41] at H; exact H
                                            have Nbq41 := Aside0.mk hbq41
                                            clear hbq41
                                            by_cases c42 : bq41 = true
                                            · subst c42
                                              have H1 : (if x15_4 < (x10_4.length : Int) then (palingref14_loop.l2 k4 l0 a1 l2 l3 (x10_4.set (x15_4 : Int).toNat true) x11_1 (wrap64 (x15_4 + 1))) else (none)) = some r := by rw [if_pos rfl] at H; exact H
                                              clear H
                                              have H := H1
                                              clear H1
                                              by_cases c43 : x15_4 < (x10_4.length : Int)
                                              · rw [if_pos c43] at H
                                                have c43b0 : decide (x15_4 < (x10_4.length : Int)) = true := decide_eq_true c43
                                                clear c43
                                                obtain ⟨y248, hy248⟩ : ∃ y_ : List Bool, y_ = (x10_4.set (x15_4 : Int).toNat true) := ⟨_, rfl⟩
                                                replace H : (palingref14_loop.l2 k4 l0 a1 l2 l3 y248 x11_1 (wrap64 (x15_4 + 1))) = some r := by first | (rw [hy248]; with_reducible exact H) | (have H2_ := (Option.bind_some _ _).symm.trans H; rw [hy248]; with_reducible exact H2_) | (have H2_ := (Option.bind_some _ _).symm.trans H; with_reducible exact H2_) | with_reducible exact H | (rw [hy248]; exact H) | exact H
                                                have Ny248 := Aside0.mk hy248
                                                clear hy248
                                                have H' := Aside0.mk H
                                                clear H
                                                go_wp2_with (first | ((with_reducible refine gate_callee (f := 24) rfl ?_); refine goesL_ (some 76) rfl rfl Tryd.func24 (by kernel_rfl) rfl #[.slice A0 l0.length c0, .int .i64 x15_4, .int .i64 a1] rfl (by (try simp only [List.map_toArray, List.map_cons, List.map_nil]); first | done | rfl | (simp only [List.length_drop, List.length_take]; rfl)) ?_; (with_reducible refine (palingref14_without.calls k4 _ _ l0 x15_4 a1 t243 _ ?side1 ?side2 A34.out).mono ?_); (case side1 => repeat (first | exact (Kd.C_below HR0.out HB.out) | (with_reducible refine Kd.C_alloc ?_ _) | (with_reducible refine Kd.C_drewN ?_ _) | (with_reducible refine Kd.C_drew ?_))); (case side2 => exact HC0.out); rintro e w45 ⟨v244, rfl, ho0, hb⟩; refine ⟨_, rfl, ?_⟩; have n0_ := Aside0.mk (Kd.R_elder' (by (with_reducible repeat (first | apply Kd.R_alloc | apply Kd.R_drewN | apply Kd.R_drew)); exact HO_10.out) (Kd.R_base ho0) hb); have n1_ := Aside0.mk (Kd.R_lower (Kd.R_new' ho0 (Kd.R_lt (by (with_reducible repeat (first | apply Kd.R_alloc | apply Kd.R_drewN | apply Kd.R_drew)); exact HO_10.out))) (below_size (by repeat (first | (with_reducible first | exact HB.out | apply below_alloc | apply pw_below_drewN | apply below_drew1) | exact HB.out)))); have n2_ := Aside0.mk (below_step (by repeat (first | (with_reducible first | exact HB.out | apply below_alloc | apply pw_below_drewN | apply below_drew1) | exact HB.out)) hb); clear HO_10; clear HB; have HO_10 := n0_; have HO245 := n1_; have HB := n2_; clear n0_ n1_ n2_; (try clear hb); (try clear hb2); (try clear hk); (try clear hi); (try clear ho0); have p246 : 0 ≤ (x15_4 : Int) := of_decide_eq_true (by first | (with_reducible assumption) | assumption); have q246 : x15_4 < (l3.length : Int) := of_decide_eq_true (by first | (with_reducible assumption) | assumption); obtain ⟨ad246, e246, hx246_0⟩ := Kd.at_bool HR3.out x15_4 p246 q246; (try rw [← Nbq37.out] at hx246_0); (try rw [← Nbq41.out] at hx246_0); cases e246; replace hx246_0 := (HB.out.cell (World.block_lt_of_cell? w _ hx246_0)).trans hx246_0; replace p246 := eq_true p246; replace q246 := eq_true q246; obtain ⟨Ao46, co46, eo46⟩ := Kd.R_slice HO245.out; subst eo46; have p247 : 0 ≤ (x11_1 : Int) := of_decide_eq_true (by first | (with_reducible assumption) | assumption); have q247 : x11_1 < (t243.length : Int) := of_decide_eq_true (by first | (with_reducible assumption) | assumption); obtain ⟨ad247, e247, hx247_0⟩ := Kd.at_bool (Kd.R_reads' HO245.out).2.2 x11_1 p247 q247; (try rw [← Nbq37.out] at hx247_0); (try rw [← Nbq41.out] at hx247_0); cases e247; replace p247 := eq_true p247; replace q247 := eq_true q247; have p44 : 0 ≤ (x15_4 : Int) := of_decide_eq_true (by first | (with_reducible assumption) | assumption); have q44 : (x15_4 : Int) < ((x10_4.length : Int) : Int) := of_decide_eq_true (by first | (with_reducible assumption) | assumption); obtain ⟨hx44_0, hf44_0⟩ := Kd.R_celln false HO_10.out (x15_4 : Int) p44 q44; replace p44 := eq_true p44; replace q44 := eq_true q44; have n_ := Aside0.mk (Kd.R_mono (ok' := (fun k_ => some k_ ≠ (.slice (some ad247) t243.length co46 : Value).ownBlock)) HO_10.out (fun k_ hk => hk.2)); clear HO_10; have HO_10 := n_; clear n_; obtain ⟨hy47_, hz47_⟩ := Kd.R_celln false HO_10.out (x15_4 : Int) (of_decide_eq_true (by first | (with_reducible assumption) | assumption)) (of_decide_eq_true (by first | (with_reducible assumption) | assumption)); have HP47 := Kd.R_putg HO_10.out (x15_4 : Int) true) | ((with_reducible refine gate_store (t := 4) (p := 89) rfl ?_); refine store_event (t := 4) (p := 89) (v := ?vo_w48) (w1 := (w45.setCell ⟨go30, (x15_4 : Int).toNat, none⟩ (.bool true))) ?hg ?ho ?hn ?hr ?_; (case ho => rfl); (case hg => rfl); (case hn => rfl); (case hr => first | (go_simp; done) | (go_simp; rfl)); intro w48 hw; have hg : w45.grownBy w48 (some go30) := (by rw [hw]; exact HP47.2); have hp_ : Kd.R Kd.bool 4 w48 w.heap.size (fun k_ => some k_ ≠ (.slice (some ad247) t243.length co46 : Value).ownBlock) (.slice (some ⟨go30, 0, none⟩) x10_4.length co30) y248 := (by rw [hw, Ny248.out]; exact HP47.1); clear HP47; have n0_ := Aside0.mk (hp_); have n1_ := Aside0.mk (Kd.R_after (v := (.slice (some ⟨go30, 0, none⟩) x10_4.length co30)) (v1 := (.slice (some ⟨go30, 0, none⟩) x10_4.length co30)) (ok := (fun _ => True)) (by (with_reducible repeat (first | apply Kd.R_alloc | apply Kd.R_drewN | apply Kd.R_drew)); exact HO245.out) hg (.inl rfl)); have n2_ := Aside0.mk ((by rw [hw]; exact below_set (HB.out) GB30.out : Below w.heap.size w w48)); clear HO_10; clear HO245; clear HB; have HO_10 := n0_; have HO245 := n1_; have HB := n2_; clear n0_ n1_ n2_; clear hg hw hp_))
                                                (try simp only [← hl10_4])
                                                go_roundg k4
                                                case measure => have := HK1.out; have := HK2.out; have := HJ16.out; have := HK4.out; omega
                                                case rel => exact ⟨(y248), (wrap64 (x15_4 + 1)), (by first | rfl | (simp; done) | (simp [*]; done)), H', ⟨by have := HK1.out; have := HK2.out; have := HJ16.out; have := HK4.out; omega⟩, ⟨by (try simp only [hl10_4]); (with_reducible repeat (first | apply Kd.R_alloc | apply Kd.R_drewN | apply Kd.R_drew)); exact Kd.R_mono HO_10.out (fun _ hk => trivial)⟩, ⟨by repeat (first | (with_reducible first | exact HB.out | apply below_alloc | apply pw_below_drewN | apply below_drew1) | exact HB.out)⟩⟩
                                              · rw [if_neg c43] at H
                                                exact absurd H (by simp)
                                            · replace c42 := Bool.eq_false_iff.mpr c42
                                              subst c42
                                              have H1 : (palingref14_loop.l2 k4 l0 a1 l2 l3 x10_4 x11_1 (wrap64 (x15_4 + 1))) = some r := by rw [if_neg (show ¬ (false = true) by decide)] at H; exact H
                                              clear H
                                              have H := H1
                                              clear H1
                                              have H' := Aside0.mk H
                                              clear H
                                              go_wp2_with (first | ((with_reducible refine gate_callee (f := 24) rfl ?_); refine goesL_ (some 76) rfl rfl Tryd.func24 (by kernel_rfl) rfl #[.slice A0 l0.length c0, .int .i64 x15_4, .int .i64 a1] rfl (by (try simp only [List.map_toArray, List.map_cons, List.map_nil]); first | done | rfl | (simp only [List.length_drop, List.length_take]; rfl)) ?_; (with_reducible refine (palingref14_without.calls k4 _ _ l0 x15_4 a1 t243 _ ?side1 ?side2 A34.out).mono ?_); (case side1 => repeat (first | exact (Kd.C_below HR0.out HB.out) | (with_reducible refine Kd.C_alloc ?_ _) | (with_reducible refine Kd.C_drewN ?_ _) | (with_reducible refine Kd.C_drew ?_))); (case side2 => exact HC0.out); rintro e w49 ⟨v244, rfl, ho0, hb⟩; refine ⟨_, rfl, ?_⟩; have n0_ := Aside0.mk (Kd.R_elder' (by (with_reducible repeat (first | apply Kd.R_alloc | apply Kd.R_drewN | apply Kd.R_drew)); exact HO_10.out) (Kd.R_base ho0) hb); have n1_ := Aside0.mk (Kd.R_lower (Kd.R_new' ho0 (Kd.R_lt (by (with_reducible repeat (first | apply Kd.R_alloc | apply Kd.R_drewN | apply Kd.R_drew)); exact HO_10.out))) (below_size (by repeat (first | (with_reducible first | exact HB.out | apply below_alloc | apply pw_below_drewN | apply below_drew1) | exact HB.out)))); have n2_ := Aside0.mk (below_step (by repeat (first | (with_reducible first | exact HB.out | apply below_alloc | apply pw_below_drewN | apply below_drew1) | exact HB.out)) hb); clear HO_10; clear HB; have HO_10 := n0_; have HO245 := n1_; have HB := n2_; clear n0_ n1_ n2_; (try clear hb); (try clear hb2); (try clear hk); (try clear hi); (try clear ho0); have p246 : 0 ≤ (x15_4 : Int) := of_decide_eq_true (by first | (with_reducible assumption) | assumption); have q246 : x15_4 < (l3.length : Int) := of_decide_eq_true (by first | (with_reducible assumption) | assumption); obtain ⟨ad246, e246, hx246_0⟩ := Kd.at_bool HR3.out x15_4 p246 q246; (try rw [← Nbq37.out] at hx246_0); (try rw [← Nbq41.out] at hx246_0); cases e246; replace hx246_0 := (HB.out.cell (World.block_lt_of_cell? w _ hx246_0)).trans hx246_0; replace p246 := eq_true p246; replace q246 := eq_true q246; obtain ⟨Ao50, co50, eo50⟩ := Kd.R_slice HO245.out; subst eo50; have p247 : 0 ≤ (x11_1 : Int) := of_decide_eq_true (by first | (with_reducible assumption) | assumption); have q247 : x11_1 < (t243.length : Int) := of_decide_eq_true (by first | (with_reducible assumption) | assumption); obtain ⟨ad247, e247, hx247_0⟩ := Kd.at_bool (Kd.R_reads' HO245.out).2.2 x11_1 p247 q247; (try rw [← Nbq37.out] at hx247_0); (try rw [← Nbq41.out] at hx247_0); cases e247; replace p247 := eq_true p247; replace q247 := eq_true q247))
                                              (try simp only [← hl10_4])
                                              go_roundg k4
                                              case measure => have := HK1.out; have := HK2.out; have := HJ16.out; have := HK4.out; omega
                                              case rel => exact ⟨(x10_4), (wrap64 (x15_4 + 1)), (by first | rfl | (simp; done) | (simp [*]; done)), H', ⟨by have := HK1.out; have := HK2.out; have := HJ16.out; have := HK4.out; omega⟩, ⟨by (try simp only [hl10_4]); (with_reducible repeat (first | apply Kd.R_alloc | apply Kd.R_drewN | apply Kd.R_drew)); exact Kd.R_mono HO_10.out (fun _ hk => trivial)⟩, ⟨by repeat (first | (with_reducible first | exact HB.out | apply below_alloc | apply pw_below_drewN | apply below_drew1) | exact HB.out)⟩⟩
                                          · rw [if_neg c40] at H
                                            exact absurd H (by simp)
                                        · rw [if_neg c39] at H
                                          exact absurd H (by simp)
                                      · replace c38 := Bool.eq_false_iff.mpr c38
                                        subst c38
                                        have H1 : (palingref14_loop.l2 k4 l0 a1 l2 l3 x10_4 x11_1 (wrap64 (x15_4 + 1))) = some r := by rw [if_neg (show ¬ (false = true) by decide)] at H; exact H
                                        clear H
                                        have H := H1
                                        clear H1
                                        have H' := Aside0.mk H
                                        clear H
                                        go_wp2_with (first | ((with_reducible refine gate_callee (f := 24) rfl ?_); refine goesL_ (some 76) rfl rfl Tryd.func24 (by kernel_rfl) rfl #[.slice A0 l0.length c0, .int .i64 x15_4, .int .i64 a1] rfl (by (try simp only [List.map_toArray, List.map_cons, List.map_nil]); first | done | rfl | (simp only [List.length_drop, List.length_take]; rfl)) ?_; (with_reducible refine (palingref14_without.calls k4 _ _ l0 x15_4 a1 t243 _ ?side1 ?side2 A34.out).mono ?_); (case side1 => repeat (first | exact (Kd.C_below HR0.out HB.out) | (with_reducible refine Kd.C_alloc ?_ _) | (with_reducible refine Kd.C_drewN ?_ _) | (with_reducible refine Kd.C_drew ?_))); (case side2 => exact HC0.out); rintro e w51 ⟨v244, rfl, ho0, hb⟩; refine ⟨_, rfl, ?_⟩; have n0_ := Aside0.mk (Kd.R_elder' (by (with_reducible repeat (first | apply Kd.R_alloc | apply Kd.R_drewN | apply Kd.R_drew)); exact HO_10.out) (Kd.R_base ho0) hb); have n1_ := Aside0.mk (Kd.R_lower (Kd.R_new' ho0 (Kd.R_lt (by (with_reducible repeat (first | apply Kd.R_alloc | apply Kd.R_drewN | apply Kd.R_drew)); exact HO_10.out))) (below_size (by repeat (first | (with_reducible first | exact HB.out | apply below_alloc | apply pw_below_drewN | apply below_drew1) | exact HB.out)))); have n2_ := Aside0.mk (below_step (by repeat (first | (with_reducible first | exact HB.out | apply below_alloc | apply pw_below_drewN | apply below_drew1) | exact HB.out)) hb); clear HO_10; clear HB; have HO_10 := n0_; have HO245 := n1_; have HB := n2_; clear n0_ n1_ n2_; (try clear hb); (try clear hb2); (try clear hk); (try clear hi); (try clear ho0); have p246 : 0 ≤ (x15_4 : Int) := of_decide_eq_true (by first | (with_reducible assumption) | assumption); have q246 : x15_4 < (l3.length : Int) := of_decide_eq_true (by first | (with_reducible assumption) | assumption); obtain ⟨ad246, e246, hx246_0⟩ := Kd.at_bool HR3.out x15_4 p246 q246; (try rw [← Nbq37.out] at hx246_0); cases e246; replace hx246_0 := (HB.out.cell (World.block_lt_of_cell? w _ hx246_0)).trans hx246_0; replace p246 := eq_true p246; replace q246 := eq_true q246))
                                        (try simp only [← hl10_4])
                                        go_roundg k4
                                        case measure => have := HK1.out; have := HK2.out; have := HJ16.out; have := HK4.out; omega
                                        case rel => exact ⟨(x10_4), (wrap64 (x15_4 + 1)), (by first | rfl | (simp; done) | (simp [*]; done)), H', ⟨by have := HK1.out; have := HK2.out; have := HJ16.out; have := HK4.out; omega⟩, ⟨by (try simp only [hl10_4]); (with_reducible repeat (first | apply Kd.R_alloc | apply Kd.R_drewN | apply Kd.R_drew)); exact Kd.R_mono HO_10.out (fun _ hk => trivial)⟩, ⟨by repeat (first | (with_reducible first | exact HB.out | apply below_alloc | apply pw_below_drewN | apply below_drew1) | exact HB.out)⟩⟩
                                    · rw [if_neg c36] at H
                                      exact absurd H (by simp)
                                  · rw [if_neg c35] at H
                                    exact absurd H (by simp)
                                · rw [if_neg c33] at H
                                  have c33b0 : decide (x15_4 < (l0.length : Int)) = false := decide_eq_false c33
                                  clear c33
                                  have H' := Aside0.mk H
                                  clear H
                                  go_wp2
                                  (try simp only [← hl10_4])
                                  go_roundg k4
                                  case measure => have := HK1.out; have := HK2.out; have := HJ16.out; have := HK4.out; omega
                                  case rel => exact ⟨(x10_4), (wrap64 (x11_1 + 1)), (by first | rfl | (simp; done) | (simp [*]; done)), H', ⟨by have := HK1.out; have := HK2.out; have := HJ16.out; have := HK4.out; omega⟩, ⟨by (try simp only [hl10_4]); (with_reducible repeat (first | apply Kd.R_alloc | apply Kd.R_drewN | apply Kd.R_drew)); exact HO_10.out⟩, ⟨by repeat (first | (with_reducible first | exact HB.out | apply below_alloc | apply pw_below_drewN | apply below_drew1) | exact HB.out)⟩⟩
                          · rw [if_neg c29] at H
                            exact absurd H (by simp)
                        · rw [if_neg c28] at H
                          exact absurd H (by simp)
          · rw [if_neg c9] at H
            have c9b0 : decide (x11_1 < (l0.length : Int)) = false := decide_eq_false c9
            clear c9
            have H' := Aside0.mk H
            clear H
            go_wp2
            go_loopg [9, 17] k1 (fun kq v9 v17 w' => ∃ (x9_2 : List Int) (x17_2 : Int), v17 = .int .i64 x17_2 ∧ Aside0 (palingref14_loop.l3 kq l0 x9_2 x10_1 x17_2 = some r) ∧ Aside0 (kq ≤ k1) ∧ Aside0 (Kd.R (Kd.int .i64) 3 w' w.heap.size (fun _ => True) v9 x9_2) ∧ Aside0 (Kd.R Kd.bool 4 w' w.heap.size (fun _ => True) v233 x10_1) ∧ Aside0 (Below w.heap.size w w'))
            case atStart => exact ⟨(([] : List Int)), (0), (by first | rfl | (simp; done) | (simp [*]; done)), H', ⟨Nat.le_refl _⟩, ⟨by first | exact Kd.R_nil _ _ _ _ _ | exact Kd.N_nil _ _ _ _ _ | exact Kd.V_nil _ _ _ _ _ | exact Kd.Q_nil _ _ _ _ _ | exact Kd.S_nil _ _ _ _ _⟩, ⟨by (with_reducible repeat (first | apply Kd.R_alloc | apply Kd.R_drewN | apply Kd.R_drew)); exact HO_10.out⟩, ⟨by repeat (first | (with_reducible first | exact HB.out | apply below_alloc | apply pw_below_drewN | apply below_drew1) | exact HB.out)⟩⟩
            case round =>
              clear H'
              try clear c1
              try clear c2
              try clear p2
              try clear q2
              try clear hx2
              try clear c3
              try clear p3
              try clear q3
              try clear hx3
              try clear c4
              try clear p4
              try clear q4
              try clear hx4
              try clear hf4
              try clear c5
              try clear c5b0
              try clear c5b1
              try clear c6
              try clear c6b0
              try clear c6b1
              try clear p6
              try clear c9
              try clear c9b0
              try clear c12
              try clear c12b0
              try clear c13
              try clear c15
              try clear c15b0
              try clear c19
              try clear c20
              try clear c20b0
              try clear c21
              try clear c21b0
              try clear q22
              try clear c23
              try clear p23
              try clear q23
              try clear hx23
              try clear c24
              try clear c24b0
              try clear p24
              try clear q24
              try clear hx24
              try clear c25
              try clear c25b0
              try clear c26
              try clear c26b0
              try clear c27
              try clear c28
              try clear c28b0
              try clear c29
              try clear c29b0
              try clear p30
              try clear q30
              try clear hx30
              try clear hf30
              try clear c33
              try clear c33b0
              try clear c35
              try clear c35b0
              try clear c36
              try clear c36b0
              try clear q37
              try clear c38
              try clear c39
              try clear c39b0
              try clear c40
              try clear c40b0
              try clear q41
              try clear c42
              try clear c43
              try clear c43b0
              try clear p44
              try clear q44
              try clear hx44
              try clear hf44
              try clear hx238_0
              try clear hx239_0
              try clear hx240_0
              try clear hx241_0
              try clear hx246_0
              try clear hx247_0
              try clear hx30_0
              try clear hx44_0
              try clear p2
              try clear p23
              try clear p238
              try clear p239
              try clear p24
              try clear p240
              try clear p241
              try clear p246
              try clear p247
              try clear p3
              try clear p30
              try clear p44
              try clear p6
              try clear q2
              try clear q22
              try clear q23
              try clear q238
              try clear q239
              try clear q24
              try clear q240
              try clear q241
              try clear q246
              try clear q247
              try clear q3
              try clear q30
              try clear q44
              obtain ⟨x9_2, x17_2, rfl, HA, HK2, HO_9, HO_10, HB⟩ := hrel
              cases gk with
              | zero => exact absurd HA.out (by simp [palingref14_loop.l3])
              | succ k2 =>
                have H := HA.out
                clear HA
                simp only [palingref14_loop.l3] at H
                by_cases c52 : x17_2 < (l0.length : Int)
                · rw [if_pos c52] at H
                  have c52b0 : decide (x17_2 < (l0.length : Int)) = true := decide_eq_true c52
                  clear c52
                  by_cases c53 : 0 ≤ x17_2
                  · rw [if_pos c53] at H
                    have c53b0 : decide (0 ≤ x17_2) = true := decide_eq_true c53
                    clear c53
                    by_cases c54 : x17_2 < (x10_1.length : Int)
                    · rw [if_pos c54] at H
                      have c54b0 : decide (x17_2 < (x10_1.length : Int)) = true := decide_eq_true c54
                      clear c54
                      obtain ⟨bq55, hbq55⟩ : ∃ b_ : Bool, b_ = (rdOf false x10_1 x17_2) := ⟨_, rfl⟩
                      replace H : (if bq55 = true then (if x9_2.length < 17592186044416 then (palingref14_loop.l3 k2 l0 (x9_2 ++ [x17_2]) x10_1 (wrap64 (x17_2 + 1))) else (none)) else (palingref14_loop.l3 k2 l0 x9_2 x10_1 (wrap64 (x17_2 + 1)))) = some r := by rw [← hbq55] at H; exact H
                      have Nbq55 := Aside0.mk hbq55
                      clear hbq55
                      by_cases c56 : bq55 = true
                      · subst c56
                        have H1 : (if x9_2.length < 17592186044416 then (palingref14_loop.l3 k2 l0 (x9_2 ++ [x17_2]) x10_1 (wrap64 (x17_2 + 1))) else (none)) = some r := by rw [if_pos rfl] at H; exact H
                        clear H
                        have H := H1
                        clear H1
                        by_cases c57 : x9_2.length < 17592186044416
                        · rw [if_pos c57] at H
                          have LMc57 := Aside0.mk c57
                          clear c57
                          obtain ⟨y250, hy250⟩ : ∃ y_ : List Int, y_ = (x9_2 ++ [x17_2]) := ⟨_, rfl⟩
                          replace H : (palingref14_loop.l3 k2 l0 y250 x10_1 (wrap64 (x17_2 + 1))) = some r := by first | (rw [hy250]; with_reducible exact H) | (have H2_ := (Option.bind_some _ _).symm.trans H; rw [hy250]; with_reducible exact H2_) | (have H2_ := (Option.bind_some _ _).symm.trans H; with_reducible exact H2_) | with_reducible exact H | (rw [hy250]; exact H) | exact H
                          have Ny250 := Aside0.mk hy250
                          clear hy250
                          have H' := Aside0.mk H
                          clear H
                          obtain ⟨Ao58, co58, eo58⟩ := Kd.R_slice HO_10.out
                          subst eo58
                          have p249 : 0 ≤ (x17_2 : Int) := of_decide_eq_true (by first | (with_reducible assumption) | assumption)
                          have q249 : x17_2 < (x10_1.length : Int) := of_decide_eq_true (by first | (with_reducible assumption) | assumption)
                          obtain ⟨ad249, e249, hx249_0⟩ := Kd.at_bool (Kd.R_reads' HO_10.out).2.2 x17_2 p249 q249
                          (try rw [← Nbq55.out] at hx249_0)
                          cases e249
                          replace p249 := eq_true p249
                          replace q249 := eq_true q249
                          go_wp2_with (first | ((with_reducible refine gate_builtin (b := .append) (xs := #[.tmp 100, .tmp 102]) rfl ?_); at_builtin; refine Kd.R_append (Kd.int .i64) (w0 := w) w.heap.size rfl (.tmp 100) (.tmp 102) 34 3 (.int .i64 0) 8 rfl Tryd.underlying34 info3 rfl (by decide) (by omega) u9 x9_2 x17_2 [.int .i64 x17_2] (fun _ => True) (fun _ => False) rfl rfl ?aP (fun _ hk => hk.elim) ?aF ?aO ?aB ?aS ?aL ?_; (case aP => exact rfl); (case aB => exact (by repeat (first | (with_reducible first | exact HB.out | apply below_alloc | apply pw_below_drewN | apply below_drew1) | exact HB.out))); (case aF => exact (fun _ _ => trivial)); (case aO => exact (by (with_reducible repeat (first | apply Kd.R_alloc | apply Kd.R_drewN | apply Kd.R_drew)); exact HO_9.out)); (case aS => exact (below_size (by repeat (first | (with_reducible first | exact HB.out | apply below_alloc | apply pw_below_drewN | apply below_drew1) | exact HB.out)))); (case aL => have := LMc57.out; omega); intro v251 w59 ho hb hg hat; rw [← Ny250.out] at ho; have n0_ := Aside0.mk (Kd.R_over' (by (with_reducible repeat (first | apply Kd.R_alloc | apply Kd.R_drewN | apply Kd.R_drew)); exact HO_10.out) (Kd.R_typed (by (with_reducible repeat (first | apply Kd.R_alloc | apply Kd.R_drewN | apply Kd.R_drew)); exact HO_9.out)) (by decide) hg); have n1_ := Aside0.mk (hb); have n2_ := Aside0.mk (ho); clear HO_10; clear HB; clear HO_9; have HO_10 := n0_; have HB := n1_; have HO252 := n2_; clear n0_ n1_ n2_; clear ho hb hg hat))
                          go_roundg k2
                          case measure => have := HK1.out; have := HK2.out; omega
                          case rel => exact ⟨(y250), (wrap64 (x17_2 + 1)), (by first | rfl | (simp; done) | (simp [*]; done)), H', ⟨by have := HK1.out; have := HK2.out; omega⟩, ⟨by (with_reducible repeat (first | apply Kd.R_alloc | apply Kd.R_drewN | apply Kd.R_drew)); exact HO252.out⟩, ⟨by (with_reducible repeat (first | apply Kd.R_alloc | apply Kd.R_drewN | apply Kd.R_drew)); exact HO_10.out⟩, ⟨by repeat (first | (with_reducible first | exact HB.out | apply below_alloc | apply pw_below_drewN | apply below_drew1) | exact HB.out)⟩⟩
                        · rw [if_neg c57] at H
                          exact absurd H (by simp)
                      · replace c56 := Bool.eq_false_iff.mpr c56
                        subst c56
                        have H1 : (palingref14_loop.l3 k2 l0 x9_2 x10_1 (wrap64 (x17_2 + 1))) = some r := by rw [if_neg (show ¬ (false = true) by decide)] at H; exact H
                        clear H
                        have H := H1
                        clear H1
                        have H' := Aside0.mk H
                        clear H
                        obtain ⟨Ao60, co60, eo60⟩ := Kd.R_slice HO_10.out
                        subst eo60
                        have p249 : 0 ≤ (x17_2 : Int) := of_decide_eq_true (by first | (with_reducible assumption) | assumption)
                        have q249 : x17_2 < (x10_1.length : Int) := of_decide_eq_true (by first | (with_reducible assumption) | assumption)
                        obtain ⟨ad249, e249, hx249_0⟩ := Kd.at_bool (Kd.R_reads' HO_10.out).2.2 x17_2 p249 q249
                        (try rw [← Nbq55.out] at hx249_0)
                        cases e249
                        replace p249 := eq_true p249
                        replace q249 := eq_true q249
                        go_wp2
                        go_roundg k2
                        case measure => have := HK1.out; have := HK2.out; omega
                        case rel => exact ⟨(x9_2), (wrap64 (x17_2 + 1)), (by first | rfl | (simp; done) | (simp [*]; done)), H', ⟨by have := HK1.out; have := HK2.out; omega⟩, ⟨by (with_reducible repeat (first | apply Kd.R_alloc | apply Kd.R_drewN | apply Kd.R_drew)); exact HO_9.out⟩, ⟨by (with_reducible repeat (first | apply Kd.R_alloc | apply Kd.R_drewN | apply Kd.R_drew)); exact HO_10.out⟩, ⟨by repeat (first | (with_reducible first | exact HB.out | apply below_alloc | apply pw_below_drewN | apply below_drew1) | exact HB.out)⟩⟩
                    · rw [if_neg c54] at H
                      exact absurd H (by simp)
                  · rw [if_neg c53] at H
                    exact absurd H (by simp)
                · rw [if_neg c52] at H
                  have c52b0 : decide (x17_2 < (l0.length : Int)) = false := decide_eq_false c52
                  clear c52
                  obtain rfl := Option.some.inj H
                  go_wp2
                  go_ret
                  exact ⟨_, by first | rfl | (simp [errW_none, errW_some] <;> rfl) | (simp [*, errW_none, errW_some] <;> rfl), by (with_reducible repeat (first | apply Kd.R_alloc | apply Kd.R_drewN | apply Kd.R_drew)); exact HO_9.out, by repeat (first | (with_reducible first | exact HB.out | apply below_alloc | apply pw_below_drewN | apply below_drew1) | exact HB.out)⟩
    · rw [if_neg c6] at H
      exact absurd H (by simp)
  · rw [if_neg c5] at H
    exact absurd H (by simp)

end Go.Proofs.YtoncneglplglhaaDoor.PGraphLoops
