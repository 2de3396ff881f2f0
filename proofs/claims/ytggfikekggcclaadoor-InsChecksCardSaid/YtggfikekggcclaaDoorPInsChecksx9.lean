-- Written by print2.py over the kit's printer. Not trusted: Lean checks it.
import Derived.Test.YtggfikekggcclaaDoorPInsChecksx0
import Derived.Test.YtggfikekggcclaaDoorPInsChecksx5
import Derived.Test.YtggfikekggcclaaDoorPInsChecksx7
import Derived.Test.YtggfikekggcclaaDoorPInsCheckshdigits01
import Derived.Test.YtggfikekggcclaaDoorPInsCheckshinscheck
import Derived.Test.YtggfikekggcclaaDoorPInsCheckshinstext
import Derived.Test.YtggfikekggcclaaDoorPInsCheckshshowref
namespace Go.Proofs.YtggfikekggcclaaDoor.PInsChecks
open Go.RowKit Go.Proofs.YtggfikekggcclaaDoorW.PrintWords Go.Proofs.YtggfikekggcclaaDoorW.PrintLast Go.Proofs.YtggfikekggcclaaDoorW.PrintMore
attribute [local go_sem] max2_int min2_int max_two min_two max_three min_three max_four min_four   -- for this text's walks alone
set_option linter.unusedVariables false
set_option linter.unusedSimpArgs false

/-! ### palingref11_Text: function 20 -/
def palingref11_Text.l0 : Nat → List (S23) → ByteArray → Int → Option (ByteArray)
  | 0, _, _, _ => none
  | k + 1, x0, x3, x4 => if x4 < (x0.length : Int) then ((palingref01_Digits.f x4).bind fun t223 => (if t223.size + 1 ≤ 9223372036854775807 then (if 0 ≤ x4 then ((palingref11_Show.f ((rd_T23 x0 x4).f0) ((rd_T23 x0 x4).f1) ((rd_T23 x0 x4).f2) ((rd_T23 x0 x4).f3) ((rd_T23 x0 x4).f4) ((rd_T23 x0 x4).f5) ((rd_T23 x0 x4).f6)).bind fun t225 => (if (t223 ++ (⟨#[32]⟩ : ByteArray)).size + t225.size ≤ 9223372036854775807 then (if ((t223 ++ (⟨#[32]⟩ : ByteArray)) ++ t225).size + 1 ≤ 9223372036854775807 then (if x3.size + (((t223 ++ (⟨#[32]⟩ : ByteArray)) ++ t225) ++ (⟨#[10]⟩ : ByteArray)).size ≤ 9223372036854775807 then (palingref11_Text.l0 k x0 (x3 ++ (((t223 ++ (⟨#[32]⟩ : ByteArray)) ++ t225) ++ (⟨#[10]⟩ : ByteArray))) (wrap64 (x4 + 1))) else (none)) else (none)) else (none))) else (none)) else (none))) else (some x3)
def palingref11_Text.f (k : Nat) (l0 : List (S23)) : Option (ByteArray) := palingref11_Text.l0 k l0 (⟨#[]⟩ : ByteArray) 0
theorem palingref11_Text.mono_l : ∀ k, (∀ y0 y1 y2, LeO (palingref11_Text.l0 k y0 y1 y2) (palingref11_Text.l0 (k + 1) y0 y1 y2))
  | 0 => fun _ _ _ r h => by simp [palingref11_Text.l0] at h
  | k + 1 => by
    have ih0 := palingref11_Text.mono_l k
    · intro y0 y1 y2
      unfold palingref11_Text.l0
      repeat' first
      | (with_reducible exact ih0 _ _ _)
      | (with_reducible exact LeO.refl _)
      | (with_reducible exact LeO.none _)
      | (with_reducible refine LeO.ite ?_ ?_)
      | (with_reducible refine LeO.bind ?_ (fun _ => ?_))
      | exact ih0 _ _ _
      | exact LeO.none _
      | refine LeO.ite ?_ ?_
      | refine LeO.bind ?_ (fun _ => ?_)
theorem palingref11_Text.mono : ∀ a0 k, LeO (palingref11_Text.f k a0) (palingref11_Text.f (k + 1) a0) := by
  intro a0 k
  have ih0 := palingref11_Text.mono_l k
  unfold palingref11_Text.f
  repeat' first
      | (with_reducible exact ih0 _ _ _)
      | (with_reducible exact LeO.refl _)
      | (with_reducible exact LeO.none _)
      | (with_reducible refine LeO.ite ?_ ?_)
      | (with_reducible refine LeO.bind ?_ (fun _ => ?_))
      | exact ih0 _ _ _
      | exact LeO.none _
      | refine LeO.ite ?_ ?_
      | refine LeO.bind ?_ (fun _ => ?_)
def palingref11_Text.T5 : Bool × List (List Nat × List Nat) := (true, [([], []), ([], []), ([1], [1]), ([2], [2]), ([], []), ([], []), ([4, 5], [4, 5]), ([6], [6]), ([7, 2], [7]), ([3, 8], [3, 8]), ([9], [9]), ([0, 10], [0, 10]), ([11, 8, 0, 1, 2, 3, 4, 5, 6, 7, 8, 9, 10, 11], [0, 11])])
def palingref11_Text.B5 : List Nat := [0, 0, 2, 6, 0, 0, 48, 112, 246, 510, 1022, 2047, 4095]
theorem palingref11_Text.tab5 : rtab .any (opsOf Tryd.f20 5) = palingref11_Text.T5 := by kernel_rfl
theorem palingref11_Text.bits5 : waitsOk palingref11_Text.T5.2 palingref11_Text.B5 = true := by kernel_rfl
set_option maxHeartbeats 8000000 in
set_option maxRecDepth 100000 in
theorem palingref11_Text.calls (k : Nat) (A0 : Option Addr) (c0 : Nat) (l0 : List (S23)) (r : ByteArray) (w : World) (hr0 : Kd.C k23 w A0 l0.length l0) (hc0 : l0.length ≤ c0) (h : palingref11_Text.f k l0 = some r) :
    Calls Tryd.prog 20 #[.slice A0 l0.length c0] w fun e w' => e = .returned (.string r) ∧ Below w.heap.size w w' := by
  have hu23 := Tryd.underlying23
  have HR0 := Aside0.mk hr0
  have HC0 := Aside0.mk hc0
  clear hr0 hc0
  have HB := Aside0.mk (Below.refl w.heap.size w)
  have H : (palingref11_Text.l0 k l0 (⟨#[]⟩ : ByteArray) 0) = some r := h
  clear h
  have H' := Aside0.mk H
  clear H
  go_enter Tryd.func20, Tryd.ntmps20
  go_wp2
  go_loopg [3, 4] k (fun kq v3 v4 w' => ∃ (x3_1 : ByteArray) (x4_1 : Int), v3 = .string x3_1 ∧ v4 = .int .i64 x4_1 ∧ Aside0 (palingref11_Text.l0 kq l0 x3_1 x4_1 = some r) ∧ Aside0 (kq ≤ k) ∧ Aside0 (Below w.heap.size w w'))
  case atStart => exact ⟨((⟨#[]⟩ : ByteArray)), (0), (by first | rfl | (simp; done) | (simp [*]; done)), (by first | rfl | (simp; done) | (simp [*]; done)), H', ⟨Nat.le_refl _⟩, ⟨by repeat (first | (with_reducible first | exact HB.out | apply below_alloc | apply pw_below_drewN | apply below_drew1) | exact HB.out)⟩⟩
  case round =>
    clear H'
    obtain ⟨x3_1, x4_1, rfl, rfl, HA, HK1, HB⟩ := hrel
    cases gk with
    | zero => exact absurd HA.out (by simp [palingref11_Text.l0])
    | succ k1 =>
      have H := HA.out
      clear HA
      simp only [palingref11_Text.l0] at H
      by_cases c2 : x4_1 < (l0.length : Int)
      · rw [if_pos c2] at H
        have c2b0 : decide (x4_1 < (l0.length : Int)) = true := decide_eq_true c2
        clear c2
        replace H := Option.bind_eq_some_iff.mp H
        obtain ⟨t223, A30, H⟩ := H
        replace H : (if t223.size + 1 ≤ 9223372036854775807 then (if 0 ≤ x4_1 then ((palingref11_Show.f ((rd_T23 l0 x4_1).f0) ((rd_T23 l0 x4_1).f1) ((rd_T23 l0 x4_1).f2) ((rd_T23 l0 x4_1).f3) ((rd_T23 l0 x4_1).f4) ((rd_T23 l0 x4_1).f5) ((rd_T23 l0 x4_1).f6)).bind fun t225 => (if (t223 ++ (⟨#[32]⟩ : ByteArray)).size + t225.size ≤ 9223372036854775807 then (if ((t223 ++ (⟨#[32]⟩ : ByteArray)) ++ t225).size + 1 ≤ 9223372036854775807 then (if x3_1.size + (((t223 ++ (⟨#[32]⟩ : ByteArray)) ++ t225) ++ (⟨#[10]⟩ : ByteArray)).size ≤ 9223372036854775807 then (palingref11_Text.l0 k1 l0 (x3_1 ++ (((t223 ++ (⟨#[32]⟩ : ByteArray)) ++ t225) ++ (⟨#[10]⟩ : ByteArray))) (wrap64 (x4_1 + 1))) else (none)) else (none)) else (none))) else (none)) else (none)) = some r := H
        have A3 := Aside0.mk A30
        clear A30
        by_cases c4 : t223.size + 1 ≤ 9223372036854775807
        · rw [if_pos c4] at H
          have c4b0 := eq_true c4
          have c4b1 : decide (t223.size + 1 ≤ 9223372036854775807) = true := decide_eq_true c4
          try have c4b2 : (9223372036854775807 < t223.size + 1) = False := eq_false (Nat.not_lt.2 c4)
          by_cases c5 : 0 ≤ x4_1
          · rw [if_pos c5] at H
            have c5b0 : decide (0 ≤ x4_1) = true := decide_eq_true c5
            clear c5
            replace H := Option.bind_eq_some_iff.mp H
            obtain ⟨t225, A60, H⟩ := H
            replace H : (if (t223 ++ (⟨#[32]⟩ : ByteArray)).size + t225.size ≤ 9223372036854775807 then (if ((t223 ++ (⟨#[32]⟩ : ByteArray)) ++ t225).size + 1 ≤ 9223372036854775807 then (if x3_1.size + (((t223 ++ (⟨#[32]⟩ : ByteArray)) ++ t225) ++ (⟨#[10]⟩ : ByteArray)).size ≤ 9223372036854775807 then (palingref11_Text.l0 k1 l0 (x3_1 ++ (((t223 ++ (⟨#[32]⟩ : ByteArray)) ++ t225) ++ (⟨#[10]⟩ : ByteArray))) (wrap64 (x4_1 + 1))) else (none)) else (none)) else (none)) = some r := H
            have A6 := Aside0.mk A60
            clear A60
            by_cases c7 : (t223 ++ (⟨#[32]⟩ : ByteArray)).size + t225.size ≤ 9223372036854775807
            · rw [if_pos c7] at H
              have c7b0 := eq_true c7
              have c7b1 : decide ((t223 ++ (⟨#[32]⟩ : ByteArray)).size + t225.size ≤ 9223372036854775807) = true := decide_eq_true c7
              try have c7b2 : (9223372036854775807 < (t223 ++ (⟨#[32]⟩ : ByteArray)).size + t225.size) = False := eq_false (Nat.not_lt.2 c7)
              have c7n := c7
              simp only [ByteArray.size_append, (show ∀ a : UInt8, (⟨#[a]⟩ : ByteArray).size = 1 from fun _ => rfl)] at c7n
              have c7n1 := eq_true c7n
              have c7n2 := eq_false (Nat.not_lt.2 c7n)
              clear c7n
              by_cases c8 : ((t223 ++ (⟨#[32]⟩ : ByteArray)) ++ t225).size + 1 ≤ 9223372036854775807
              · rw [if_pos c8] at H
                have c8b0 := eq_true c8
                have c8b1 : decide (((t223 ++ (⟨#[32]⟩ : ByteArray)) ++ t225).size + 1 ≤ 9223372036854775807) = true := decide_eq_true c8
                try have c8b2 : (9223372036854775807 < ((t223 ++ (⟨#[32]⟩ : ByteArray)) ++ t225).size + 1) = False := eq_false (Nat.not_lt.2 c8)
                have c8n := c8
                simp only [ByteArray.size_append, (show ∀ a : UInt8, (⟨#[a]⟩ : ByteArray).size = 1 from fun _ => rfl)] at c8n
                have c8n1 := eq_true c8n
                have c8n2 := eq_false (Nat.not_lt.2 c8n)
                clear c8n
                by_cases c9 : x3_1.size + (((t223 ++ (⟨#[32]⟩ : ByteArray)) ++ t225) ++ (⟨#[10]⟩ : ByteArray)).size ≤ 9223372036854775807
                · rw [if_pos c9] at H
                  have c9b0 := eq_true c9
                  have c9b1 : decide (x3_1.size + (((t223 ++ (⟨#[32]⟩ : ByteArray)) ++ t225) ++ (⟨#[10]⟩ : ByteArray)).size ≤ 9223372036854775807) = true := decide_eq_true c9
                  try have c9b2 : (9223372036854775807 < x3_1.size + (((t223 ++ (⟨#[32]⟩ : ByteArray)) ++ t225) ++ (⟨#[10]⟩ : ByteArray)).size) = False := eq_false (Nat.not_lt.2 c9)
                  have c9n := c9
                  simp only [ByteArray.size_append, (show ∀ a : UInt8, (⟨#[a]⟩ : ByteArray).size = 1 from fun _ => rfl)] at c9n
                  have c9n1 := eq_true c9n
                  have c9n2 := eq_false (Nat.not_lt.2 c9n)
                  clear c9n
                  have H' := Aside0.mk H
                  clear H
                  try go_wp2
                  have n0_ := Aside0.mk (below_drew1 HB.out)
                  clear HB
                  have HB := n0_
                  clear n0_
                  have p224 : 0 ≤ (x4_1 : Int) := of_decide_eq_true (by first | (with_reducible assumption) | assumption)
                  have q224 : x4_1 < (l0.length : Int) := of_decide_eq_true (by first | (with_reducible assumption) | assumption)
                  obtain ⟨ad224, e224, hx224_0, hx224_1, hx224_2, hx224_3, hx224_4, hx224_5, hx224_6⟩ := at_T23 HR0.out x4_1 p224 q224
                  have hw224_6 := hx224_6
                  have hw224_5 := hx224_5
                  have hw224_4 := hx224_4
                  have hw224_3 := hx224_3
                  have hw224_2 := hx224_2
                  have hw224_1 := hx224_1
                  have hw224_0 := hx224_0
                  cases e224
                  replace hx224_0 := (HB.out.cell (World.block_lt_of_cell? w _ hx224_0)).trans hx224_0
                  replace hx224_1 := (HB.out.cell (World.block_lt_of_cell? w _ hx224_1)).trans hx224_1
                  replace hx224_2 := (HB.out.cell (World.block_lt_of_cell? w _ hx224_2)).trans hx224_2
                  replace hx224_3 := (HB.out.cell (World.block_lt_of_cell? w _ hx224_3)).trans hx224_3
                  replace hx224_4 := (HB.out.cell (World.block_lt_of_cell? w _ hx224_4)).trans hx224_4
                  replace hx224_5 := (HB.out.cell (World.block_lt_of_cell? w _ hx224_5)).trans hx224_5
                  replace hx224_6 := (HB.out.cell (World.block_lt_of_cell? w _ hx224_6)).trans hx224_6
                  replace p224 := eq_true p224
                  replace q224 := eq_true q224
                  refine start_ (n := 13) (S := fun w' => w'.cell? (ad224.add ((x4_1).toNat * 7)) = some (.int .i64 ((rd_T23 l0 x4_1).f0)) ∧ w'.cell? ⟨(ad224.add ((x4_1).toNat * 7)).block, (ad224.add ((x4_1).toNat * 7)).off + 1, none⟩ = some (.int .i64 ((rd_T23 l0 x4_1).f1)) ∧ w'.cell? ⟨(ad224.add ((x4_1).toNat * 7)).block, (ad224.add ((x4_1).toNat * 7)).off + 2, none⟩ = some (.int .i64 ((rd_T23 l0 x4_1).f2)) ∧ w'.cell? ⟨(ad224.add ((x4_1).toNat * 7)).block, (ad224.add ((x4_1).toNat * 7)).off + 3, none⟩ = some (.int .i64 ((rd_T23 l0 x4_1).f3)) ∧ w'.cell? ⟨(ad224.add ((x4_1).toNat * 7)).block, (ad224.add ((x4_1).toNat * 7)).off + 4, none⟩ = some (.int .i64 ((rd_T23 l0 x4_1).f4)) ∧ w'.cell? ⟨(ad224.add ((x4_1).toNat * 7)).block, (ad224.add ((x4_1).toNat * 7)).off + 5, none⟩ = some (.int .i64 ((rd_T23 l0 x4_1).f5)) ∧ w'.cell? ⟨(ad224.add ((x4_1).toNat * 7)).block, (ad224.add ((x4_1).toNat * 7)).off + 6, none⟩ = some (.int .i64 ((rd_T23 l0 x4_1).f6))) (ds := []) #[false, false, false, false, false, false, false, false, false, false, false, false, false] (by kernel_rfl) rfl rfl ⟨((HB.out.cell (World.block_lt_of_cell? w _ hw224_0)).trans hw224_0), ((HB.out.cell (World.block_lt_of_cell? w _ hw224_1)).trans hw224_1), ((HB.out.cell (World.block_lt_of_cell? w _ hw224_2)).trans hw224_2), ((HB.out.cell (World.block_lt_of_cell? w _ hw224_3)).trans hw224_3), ((HB.out.cell (World.block_lt_of_cell? w _ hw224_4)).trans hw224_4), ((HB.out.cell (World.block_lt_of_cell? w _ hw224_5)).trans hw224_5), ((HB.out.cell (World.block_lt_of_cell? w _ hw224_6)).trans hw224_6)⟩ (fun hHeld => ?_); refine with_tabW palingref11_Text.tab5 palingref11_Text.bits5 (fun HT_ HW_ => ?_)
                  generalize wr.drew = w10 at HB hx224_0 hx224_1 hx224_2 hx224_3 hx224_4 hx224_5 hx224_6 hHeld ⊢
                  refine pure_ (i := 0) (N := some 11) (v := ?_) (a' := ?_) #[true, false, false, false, false, false, false, false, false, false, false, false, false] rfl rfl (any_of HT_.out (by kernel_rfl)) (fun _ _ _ h => h) (Or.inl ⟨by rfl, ?_⟩) ?_ ?_
                  rotate_left
                  · intro w'
                    go_simp
                    with_reducible rfl
                  rotate_left
                  · simp only [Act.put, List.setIfInBounds_toArray, List.set_cons_zero, List.set_cons_succ, i64_w, i32_w]
                    rfl
                  refine pure_ (i := 1) (N := some 12) (v := ?_) (a' := ?_) #[true, true, false, false, false, false, false, false, false, false, false, false, false] rfl rfl (any_of HT_.out (by kernel_rfl)) (fun _ _ _ h => h) (Or.inl ⟨by rfl, ?_⟩) ?_ ?_
                  rotate_left
                  · intro w'
                    go_simp
                    with_reducible rfl
                  rotate_left
                  · simp only [Act.put, List.setIfInBounds_toArray, List.set_cons_zero, List.set_cons_succ, i64_w, i32_w]
                    rfl
                  refine pure_ (i := 4) (N := some 15) (v := ?_) (a' := ?_) #[true, true, false, false, true, false, false, false, false, false, false, false, false] rfl rfl (any_of HT_.out (by kernel_rfl)) (fun _ _ _ h => h) (Or.inl ⟨by rfl, ?_⟩) ?_ ?_
                  rotate_left
                  · intro w'
                    go_simp
                    with_reducible rfl
                  rotate_left
                  · simp only [Act.put, List.setIfInBounds_toArray, List.set_cons_zero, List.set_cons_succ, i64_w, i32_w]
                    rfl
                  refine pure_ (i := 5) (N := some 16) (v := ?_) (a' := ?_) #[true, true, false, false, true, true, false, false, false, false, false, false, false] rfl rfl (any_of HT_.out (by kernel_rfl)) (fun _ _ _ h => h) (Or.inl ⟨by rfl, ?_⟩) ?_ ?_
                  rotate_left
                  · intro w'
                    go_simp
                    with_reducible rfl
                  rotate_left
                  · simp only [Act.put, List.setIfInBounds_toArray, List.set_cons_zero, List.set_cons_succ, i64_w, i32_w]
                    rfl
                  refine pure_ (i := 6) (N := some 17) (v := ?_) (a' := ?_) #[true, true, false, false, true, true, true, false, false, false, false, false, false] rfl rfl (any_of HT_.out (by kernel_rfl)) (fun _ _ _ h => h) (Or.inl ⟨by rfl, ?_⟩) ?_ ?_
                  rotate_left
                  · intro w'
                    go_simp
                    with_reducible rfl
                  rotate_left
                  · simp only [Act.put, List.setIfInBounds_toArray, List.set_cons_zero, List.set_cons_succ, i64_w, i32_w]
                    rfl
                  refine take_ (i := 7) (N := some 18) (v := ?_) (a' := ?_) #[true, true, false, false, true, true, true, true, false, false, false, false, false] rfl rfl (take_ofW HT_.out HW_.out (by kernel_rfl)) (fun _ _ _ h => h) (Or.inl ⟨by rfl, ?_⟩) hHeld ?_ ?_
                  rotate_left
                  · rintro w' ⟨s0, s1, s2, s3, s4, s5, s6⟩
                    go_simp
                    with_reducible rfl
                  rotate_left
                  · simp only [Act.put, List.setIfInBounds_toArray, List.set_cons_zero, List.set_cons_succ, i64_w, i32_w]
                    rfl
                  refine one_ (i := 2) (N := some 13) #[true, true, true, false, true, true, true, true, false, false, false, false, false] rfl rfl (one_of HT_.out (by kernel_rfl)) (by decide) (fun K hK => ?_)
                  refine goes_ Tryd.func32 (by kernel_rfl) rfl #[.int .i64 x4_1] (by rfl) rfl rfl (by (try simp only [List.map_toArray, List.map_cons, List.map_nil]); first | done | rfl | (simp only [List.length_drop, List.length_take]; rfl)) ?_
                  with_reducible refine (palingref01_Digits.calls x4_1 t223 _ A3.out).mono ?_
                  rintro e w11 ⟨rfl, hb⟩
                  refine ⟨_, rfl, ?_⟩
                  have n0_ := Aside0.mk (below_step (by repeat (first | (with_reducible first | exact HB.out | apply below_alloc | apply pw_below_drewN | apply below_drew1) | exact HB.out)) hb)
                  clear HB
                  have HB := n0_
                  clear n0_
                  (try clear hb)
                  (try clear hb2)
                  (try clear hk)
                  (try clear hi)
                  refine hK.out _ _ ⟨((HB.out.cell (World.block_lt_of_cell? w _ hw224_0)).trans hw224_0), ((HB.out.cell (World.block_lt_of_cell? w _ hw224_1)).trans hw224_1), ((HB.out.cell (World.block_lt_of_cell? w _ hw224_2)).trans hw224_2), ((HB.out.cell (World.block_lt_of_cell? w _ hw224_3)).trans hw224_3), ((HB.out.cell (World.block_lt_of_cell? w _ hw224_4)).trans hw224_4), ((HB.out.cell (World.block_lt_of_cell? w _ hw224_5)).trans hw224_5), ((HB.out.cell (World.block_lt_of_cell? w _ hw224_6)).trans hw224_6)⟩ (fun hHeld => ?_)
                  clear hK K
                  refine norm_ (a' := ?_) ?_ ?_
                  rotate_left
                  · show Act.put _ (some 13) _ = _
                    simp only [Act.put, List.setIfInBounds_toArray, List.set_cons_zero, List.set_cons_succ, i64_w, i32_w]
                    rfl
                  refine pure_ (i := 3) (N := some 14) (v := ?_) (a' := ?_) #[true, true, true, true, true, true, true, true, false, false, false, false, false] rfl rfl (any_of HT_.out (by kernel_rfl)) (fun _ _ _ h => h) (Or.inl ⟨by rfl, ?_⟩) ?_ ?_
                  rotate_left
                  · intro w'
                    go_simp
                    with_reducible rfl
                  rotate_left
                  · simp only [Act.put, List.setIfInBounds_toArray, List.set_cons_zero, List.set_cons_succ, i64_w, i32_w]
                    rfl
                  refine one_ (i := 8) (N := some 19) #[true, true, true, true, true, true, true, true, true, false, false, false, false] rfl rfl (one_of HT_.out (by kernel_rfl)) (by decide) (fun K hK => ?_)
                  refine goes_ Tryd.func16 (by kernel_rfl) rfl #[.agg #[.int .i64 ((rd_T23 l0 x4_1).f0), .int .i64 ((rd_T23 l0 x4_1).f1), .int .i64 ((rd_T23 l0 x4_1).f2), .int .i64 ((rd_T23 l0 x4_1).f3), .int .i64 ((rd_T23 l0 x4_1).f4), .int .i64 ((rd_T23 l0 x4_1).f5), .int .i64 ((rd_T23 l0 x4_1).f6)]] (by rfl) rfl rfl (by (try simp only [List.map_toArray, List.map_cons, List.map_nil]); first | done | rfl | (simp only [List.length_drop, List.length_take]; rfl)) ?_
                  with_reducible refine (palingref11_Show.calls ((rd_T23 l0 x4_1).f0) ((rd_T23 l0 x4_1).f1) ((rd_T23 l0 x4_1).f2) ((rd_T23 l0 x4_1).f3) ((rd_T23 l0 x4_1).f4) ((rd_T23 l0 x4_1).f5) ((rd_T23 l0 x4_1).f6) t225 _ A6.out).mono ?_
                  rintro e w12 ⟨rfl, hb⟩
                  refine ⟨_, rfl, ?_⟩
                  have n0_ := Aside0.mk (below_step (by repeat (first | (with_reducible first | exact HB.out | apply below_alloc | apply pw_below_drewN | apply below_drew1) | exact HB.out)) hb)
                  clear HB
                  have HB := n0_
                  clear n0_
                  (try clear hb)
                  (try clear hb2)
                  (try clear hk)
                  (try clear hi)
                  refine hK.out _ _ ⟨((HB.out.cell (World.block_lt_of_cell? w _ hw224_0)).trans hw224_0), ((HB.out.cell (World.block_lt_of_cell? w _ hw224_1)).trans hw224_1), ((HB.out.cell (World.block_lt_of_cell? w _ hw224_2)).trans hw224_2), ((HB.out.cell (World.block_lt_of_cell? w _ hw224_3)).trans hw224_3), ((HB.out.cell (World.block_lt_of_cell? w _ hw224_4)).trans hw224_4), ((HB.out.cell (World.block_lt_of_cell? w _ hw224_5)).trans hw224_5), ((HB.out.cell (World.block_lt_of_cell? w _ hw224_6)).trans hw224_6)⟩ (fun hHeld => ?_)
                  clear hK K
                  refine norm_ (a' := ?_) ?_ ?_
                  rotate_left
                  · show Act.put _ (some 19) _ = _
                    simp only [Act.put, List.setIfInBounds_toArray, List.set_cons_zero, List.set_cons_succ, i64_w, i32_w]
                    rfl
                  refine pure_ (i := 9) (N := some 20) (v := ?_) (a' := ?_) #[true, true, true, true, true, true, true, true, true, true, false, false, false] rfl rfl (any_of HT_.out (by kernel_rfl)) (fun _ _ _ h => h) (Or.inl ⟨by rfl, ?_⟩) ?_ ?_
                  rotate_left
                  · intro w'
                    go_simp
                    with_reducible rfl
                  rotate_left
                  · simp only [Act.put, List.setIfInBounds_toArray, List.set_cons_zero, List.set_cons_succ, i64_w, i32_w]
                    rfl
                  refine pure_ (i := 10) (N := some 21) (v := ?_) (a' := ?_) #[true, true, true, true, true, true, true, true, true, true, true, false, false] rfl rfl (any_of HT_.out (by kernel_rfl)) (fun _ _ _ h => h) (Or.inl ⟨by rfl, ?_⟩) ?_ ?_
                  rotate_left
                  · intro w'
                    go_simp
                    with_reducible rfl
                  rotate_left
                  · simp only [Act.put, List.setIfInBounds_toArray, List.set_cons_zero, List.set_cons_succ, i64_w, i32_w]
                    rfl
                  refine pure_ (i := 11) (N := some 22) (v := ?_) (a' := ?_) #[true, true, true, true, true, true, true, true, true, true, true, true, false] rfl rfl (any_of HT_.out (by kernel_rfl)) (fun _ _ _ h => h) (Or.inl ⟨by rfl, ?_⟩) ?_ ?_
                  rotate_left
                  · intro w'
                    go_simp
                    with_reducible rfl
                  rotate_left
                  · simp only [Act.put, List.setIfInBounds_toArray, List.set_cons_zero, List.set_cons_succ, i64_w, i32_w]
                    rfl
                  refine pure_ (i := 12) (N := some 3) (v := ?_) (a' := ?_) #[true, true, true, true, true, true, true, true, true, true, true, true, true] rfl rfl (any_of HT_.out (by kernel_rfl)) (fun _ _ _ h => h) (Or.inl ⟨by rfl, ?_⟩) ?_ ?_
                  rotate_left
                  · intro w'
                    go_simp
                    with_reducible rfl
                  rotate_left
                  · simp only [Act.put, List.setIfInBounds_toArray, List.set_cons_zero, List.set_cons_succ, i64_w, i32_w]
                    rfl
                  refine done_ (done_of HT_.out (by kernel_rfl)) ?_
                  try go_wp2
                  go_roundg k1
                  case measure => have := HK1.out; omega
                  case rel => exact ⟨(x3_1 ++ (((t223 ++ (⟨#[32]⟩ : ByteArray)) ++ t225) ++ (⟨#[10]⟩ : ByteArray))), (wrap64 (x4_1 + 1)), (by first | rfl | (simp; done) | (simp [*]; done)), (by first | rfl | (simp; done) | (simp [*]; done)), H', ⟨by have := HK1.out; omega⟩, ⟨by repeat (first | (with_reducible first | exact HB.out | apply below_alloc | apply pw_below_drewN | apply below_drew1) | exact HB.out)⟩⟩
                · rw [if_neg c9] at H
                  exact absurd H (by simp)
              · rw [if_neg c8] at H
                exact absurd H (by simp)
            · rw [if_neg c7] at H
              exact absurd H (by simp)
          · rw [if_neg c5] at H
            exact absurd H (by simp)
        · rw [if_neg c4] at H
          exact absurd H (by simp)
      · rw [if_neg c2] at H
        have c2b0 : decide (x4_1 < (l0.length : Int)) = false := decide_eq_false c2
        clear c2
        obtain rfl := Option.some.inj H
        go_wp2
        go_ret
        exact ⟨by first | rfl | (simp [errW_none, errW_some] <;> rfl) | (simp [*, errW_none, errW_some] <;> rfl), by repeat (first | (with_reducible first | exact HB.out | apply below_alloc | apply pw_below_drewN | apply below_drew1) | exact HB.out)⟩

/-! ### palinglaw11_InsChecks: function 4 -/
def palinglaw11_InsChecks.f (k : Nat) (l0 : List (S23)) (a1 : Int) (a2 : Int) : Option (Bool) := (palinglaw11_awake.f k).bind fun t226 => (if t226 = true then (if (l0.length : Int) > 5000 then (some true) else ((ins_Check.f l0 a1 a2).bind fun t227 => ((palingref11_Check.f k l0 a1 a2).bind fun t228 => (if (t227 == t228) = true then ((ins_Text.f k l0).bind fun t229 => ((palingref11_Text.f k l0).bind fun t230 => (some (t229.toList == t230.toList)))) else (some false))))) else (some false))
theorem palinglaw11_InsChecks.mono : ∀ a0 a1 a2 k, LeO (palinglaw11_InsChecks.f k a0 a1 a2) (palinglaw11_InsChecks.f (k + 1) a0 a1 a2) := by
  intro a0 a1 a2 k
  unfold palinglaw11_InsChecks.f
  repeat' first
      | (with_reducible exact ins_Text.mono _ _)
      | (with_reducible exact palinglaw11_awake.mono _)
      | (with_reducible exact palingref11_Check.mono _ _ _ _)
      | (with_reducible exact palingref11_Text.mono _ _)
      | (with_reducible exact LeO.refl _)
      | (with_reducible exact LeO.none _)
      | (with_reducible refine LeO.ite ?_ ?_)
      | (with_reducible refine LeO.bind ?_ (fun _ => ?_))
      | exact ins_Text.mono _ _
      | exact palinglaw11_awake.mono _
      | exact palingref11_Check.mono _ _ _ _
      | exact palingref11_Text.mono _ _
      | exact LeO.none _
      | refine LeO.ite ?_ ?_
      | refine LeO.bind ?_ (fun _ => ?_)
set_option maxHeartbeats 8000000 in
set_option maxRecDepth 100000 in
theorem palinglaw11_InsChecks.calls (k : Nat) (A0 : Option Addr) (c0 : Nat) (l0 : List (S23)) (a1 : Int) (a2 : Int) (r : Bool) (w : World) (hr0 : Kd.C k23 w A0 l0.length l0) (hc0 : l0.length ≤ c0) (h : palinglaw11_InsChecks.f k l0 a1 a2 = some r) (hgl : GlobOK w) :
    Calls Tryd.prog 4 #[.slice A0 l0.length c0, .int .i64 a1, .int .i64 a2] w fun e w' => e = .returned (.bool r) ∧ Below w.heap.size w w' := by
  have hu35 := Tryd.underlying35
  have HR0 := Aside0.mk hr0
  have HC0 := Aside0.mk hc0
  clear hr0 hc0
  have HB := Aside0.mk (Below.refl w.heap.size w)
  have HGL := Aside0.mk hgl
  clear hgl
  have H : ((palinglaw11_awake.f k).bind fun t226 => (if t226 = true then (if (l0.length : Int) > 5000 then (some true) else ((ins_Check.f l0 a1 a2).bind fun t227 => ((palingref11_Check.f k l0 a1 a2).bind fun t228 => (if (t227 == t228) = true then ((ins_Text.f k l0).bind fun t229 => ((palingref11_Text.f k l0).bind fun t230 => (some (t229.toList == t230.toList)))) else (some false))))) else (some false))) = some r := h
  clear h
  replace H := Option.bind_eq_some_iff.mp H
  obtain ⟨t226, A40, H⟩ := H
  replace H : (if t226 = true then (if (l0.length : Int) > 5000 then (some true) else ((ins_Check.f l0 a1 a2).bind fun t227 => ((palingref11_Check.f k l0 a1 a2).bind fun t228 => (if (t227 == t228) = true then ((ins_Text.f k l0).bind fun t229 => ((palingref11_Text.f k l0).bind fun t230 => (some (t229.toList == t230.toList)))) else (some false))))) else (some false)) = some r := H
  have A4 := Aside0.mk A40
  clear A40
  by_cases c5 : t226 = true
  · subst c5
    have H1 : (if (l0.length : Int) > 5000 then (some true) else ((ins_Check.f l0 a1 a2).bind fun t227 => ((palingref11_Check.f k l0 a1 a2).bind fun t228 => (if (t227 == t228) = true then ((ins_Text.f k l0).bind fun t229 => ((palingref11_Text.f k l0).bind fun t230 => (some (t229.toList == t230.toList)))) else (some false))))) = some r := by rw [if_pos rfl] at H; exact H
    clear H
    have H := H1
    clear H1
    by_cases c6 : (l0.length : Int) > 5000
    · rw [if_pos c6] at H
      have c6b0 : decide (5000 < (l0.length : Int)) = true := decide_eq_true c6
      have c6b1 : decide (5000 < l0.length) = true := decide_eq_true (by omega)
      clear c6
      obtain rfl := Option.some.inj H
      go_enter Tryd.func4, Tryd.ntmps4
      go_wp2_with (first | ((with_reducible refine gate_callee (f := 7) rfl ?_); refine goesL_ (some 8) rfl rfl Tryd.func7 (by kernel_rfl) rfl #[] rfl (by (try simp only [List.map_toArray, List.map_cons, List.map_nil]); first | done | rfl | (simp only [List.length_drop, List.length_take]; rfl)) ?_; (with_reducible refine (palinglaw11_awake.calls k  true _ A4.out (GlobOK.step HGL.out (by repeat (first | (with_reducible first | exact HB.out | apply below_alloc | apply pw_below_drewN | apply below_drew1) | exact HB.out)))).mono ?_); rintro e w7 ⟨rfl, hb⟩; refine ⟨_, rfl, ?_⟩; have n0_ := Aside0.mk (below_step (by repeat (first | (with_reducible first | exact HB.out | apply below_alloc | apply pw_below_drewN | apply below_drew1) | exact HB.out)) hb); clear HB; have HB := n0_; clear n0_; (try clear hb); (try clear hb2); (try clear hk); (try clear hi)))
      go_ret
      exact ⟨by first | rfl | (simp [errW_none, errW_some] <;> rfl) | (simp [*, errW_none, errW_some] <;> rfl), by repeat (first | (with_reducible first | exact HB.out | apply below_alloc | apply pw_below_drewN | apply below_drew1) | exact HB.out)⟩
    · rw [if_neg c6] at H
      have c6b0 : decide (5000 < (l0.length : Int)) = false := decide_eq_false c6
      have c6b1 : decide (5000 < l0.length) = false := decide_eq_false (by omega)
      clear c6
      replace H := Option.bind_eq_some_iff.mp H
      obtain ⟨t227, A80, H⟩ := H
      replace H : ((palingref11_Check.f k l0 a1 a2).bind fun t228 => (if (t227 == t228) = true then ((ins_Text.f k l0).bind fun t229 => ((palingref11_Text.f k l0).bind fun t230 => (some (t229.toList == t230.toList)))) else (some false))) = some r := H
      have A8 := Aside0.mk A80
      clear A80
      replace H := Option.bind_eq_some_iff.mp H
      obtain ⟨t228, A90, H⟩ := H
      replace H : (if (t227 == t228) = true then ((ins_Text.f k l0).bind fun t229 => ((palingref11_Text.f k l0).bind fun t230 => (some (t229.toList == t230.toList)))) else (some false)) = some r := H
      have A9 := Aside0.mk A90
      clear A90
      by_cases c10 : (t227 == t228) = true
      · rw [if_pos c10] at H
        have c10b0 : (t227 == t228) = true := c10
        (try (have c10b1 : decide (t227 = t228) = true := by simpa using c10))
        (try (have c10b2 : (t227 == t228) = true := by simpa using c10))
        clear c10
        replace H := Option.bind_eq_some_iff.mp H
        obtain ⟨t229, A110, H⟩ := H
        replace H : ((palingref11_Text.f k l0).bind fun t230 => (some (t229.toList == t230.toList))) = some r := H
        have A11 := Aside0.mk A110
        clear A110
        replace H := Option.bind_eq_some_iff.mp H
        obtain ⟨t230, A120, H⟩ := H
        replace H : (some (t229.toList == t230.toList)) = some r := H
        have A12 := Aside0.mk A120
        clear A120
        obtain rfl := Option.some.inj H
        go_enter Tryd.func4, Tryd.ntmps4
        go_wp2_with (first | ((with_reducible refine gate_callee (f := 7) rfl ?_); refine goesL_ (some 8) rfl rfl Tryd.func7 (by kernel_rfl) rfl #[] rfl (by (try simp only [List.map_toArray, List.map_cons, List.map_nil]); first | done | rfl | (simp only [List.length_drop, List.length_take]; rfl)) ?_; (with_reducible refine (palinglaw11_awake.calls k  true _ A4.out (GlobOK.step HGL.out (by repeat (first | (with_reducible first | exact HB.out | apply below_alloc | apply pw_below_drewN | apply below_drew1) | exact HB.out)))).mono ?_); rintro e w13 ⟨rfl, hb⟩; refine ⟨_, rfl, ?_⟩; have n0_ := Aside0.mk (below_step (by repeat (first | (with_reducible first | exact HB.out | apply below_alloc | apply pw_below_drewN | apply below_drew1) | exact HB.out)) hb); clear HB; have HB := n0_; clear n0_; (try clear hb); (try clear hb2); (try clear hk); (try clear hi)) | ((with_reducible refine gate_callee (f := 17) rfl ?_); refine goesL_ (some 18) rfl rfl Tryd.func17 (by kernel_rfl) rfl #[.slice A0 l0.length c0, .agg #[.int .i64 a1, .int .i64 a2]] rfl (by (try simp only [List.map_toArray, List.map_cons, List.map_nil]); first | done | rfl | (simp only [List.length_drop, List.length_take]; rfl)) ?_; (with_reducible refine (ins_Check.calls _ _ l0 a1 a2 t227 _ ?side1 ?side2 A8.out (GlobOK.step HGL.out (by repeat (first | (with_reducible first | exact HB.out | apply below_alloc | apply pw_below_drewN | apply below_drew1) | exact HB.out)))).mono ?_); (case side1 => repeat (first | exact (Kd.C_below HR0.out HB.out) | (with_reducible refine Kd.C_alloc ?_ _) | (with_reducible refine Kd.C_drewN ?_ _) | (with_reducible refine Kd.C_drew ?_))); (case side2 => exact HC0.out); rintro e w14 ⟨rfl, hb⟩; refine ⟨_, rfl, ?_⟩; have n0_ := Aside0.mk (below_step (by repeat (first | (with_reducible first | exact HB.out | apply below_alloc | apply pw_below_drewN | apply below_drew1) | exact HB.out)) hb); clear HB; have HB := n0_; clear n0_; (try clear hb); (try clear hb2); (try clear hk); (try clear hi)) | ((with_reducible refine gate_callee (f := 18) rfl ?_); refine goesL_ (some 22) rfl rfl Tryd.func18 (by kernel_rfl) rfl #[.slice A0 l0.length c0, .int .i64 a1, .int .i64 a2] rfl (by (try simp only [List.map_toArray, List.map_cons, List.map_nil]); first | done | rfl | (simp only [List.length_drop, List.length_take]; rfl)) ?_; (with_reducible refine (palingref11_Check.calls k _ _ l0 a1 a2 t228 _ ?side1 ?side2 A9.out).mono ?_); (case side1 => repeat (first | exact (Kd.C_below HR0.out HB.out) | (with_reducible refine Kd.C_alloc ?_ _) | (with_reducible refine Kd.C_drewN ?_ _) | (with_reducible refine Kd.C_drew ?_))); (case side2 => exact HC0.out); rintro e w15 ⟨rfl, hb⟩; refine ⟨_, rfl, ?_⟩; have n0_ := Aside0.mk (below_step (by repeat (first | (with_reducible first | exact HB.out | apply below_alloc | apply pw_below_drewN | apply below_drew1) | exact HB.out)) hb); clear HB; have HB := n0_; clear n0_; (try clear hb); (try clear hb2); (try clear hk); (try clear hi)) | (go_at_call 19; (with_reducible refine (ins_Text.calls k _ _ l0 t229 _ ?side1 ?side2 A11.out (GlobOK.step HGL.out (by repeat (first | (with_reducible first | exact HB.out | apply below_alloc | apply pw_below_drewN | apply below_drew1) | exact HB.out)))).mono ?_); (case side1 => repeat (first | exact (Kd.C_below HR0.out HB.out) | (with_reducible refine Kd.C_alloc ?_ _) | (with_reducible refine Kd.C_drewN ?_ _) | (with_reducible refine Kd.C_drew ?_))); (case side2 => exact HC0.out); rintro e w16 ⟨rfl, hb⟩; have n0_ := Aside0.mk (below_step (by repeat (first | (with_reducible first | exact HB.out | apply below_alloc | apply pw_below_drewN | apply below_drew1) | exact HB.out)) hb); clear HB; have HB := n0_; clear n0_; (try clear hb); (try clear hb2); (try clear hk); (try clear hi)) | (go_at_call 20; (with_reducible refine (palingref11_Text.calls k _ _ l0 t230 _ ?side1 ?side2 A12.out).mono ?_); (case side1 => repeat (first | exact (Kd.C_below HR0.out HB.out) | (with_reducible refine Kd.C_alloc ?_ _) | (with_reducible refine Kd.C_drewN ?_ _) | (with_reducible refine Kd.C_drew ?_))); (case side2 => exact HC0.out); rintro e w17 ⟨rfl, hb⟩; have n0_ := Aside0.mk (below_step (by repeat (first | (with_reducible first | exact HB.out | apply below_alloc | apply pw_below_drewN | apply below_drew1) | exact HB.out)) hb); clear HB; have HB := n0_; clear n0_; (try clear hb); (try clear hb2); (try clear hk); (try clear hi)))
        go_ret
        exact ⟨by first | rfl | (simp [errW_none, errW_some] <;> rfl) | (simp [*, errW_none, errW_some] <;> rfl), by repeat (first | (with_reducible first | exact HB.out | apply below_alloc | apply pw_below_drewN | apply below_drew1) | exact HB.out)⟩
      · rw [if_neg c10] at H
        have c10b0 : (t227 == t228) = false := by simpa using c10
        (try (have c10b1 : decide (t227 = t228) = false := by simpa using c10))
        (try (have c10b2 : (t227 == t228) = false := by simpa using c10))
        (try (have c10b3 : ¬ (t227 = t228) := by simpa using c10))
        clear c10
        obtain rfl := Option.some.inj H
        go_enter Tryd.func4, Tryd.ntmps4
        go_wp2_with (first | ((with_reducible refine gate_callee (f := 7) rfl ?_); refine goesL_ (some 8) rfl rfl Tryd.func7 (by kernel_rfl) rfl #[] rfl (by (try simp only [List.map_toArray, List.map_cons, List.map_nil]); first | done | rfl | (simp only [List.length_drop, List.length_take]; rfl)) ?_; (with_reducible refine (palinglaw11_awake.calls k  true _ A4.out (GlobOK.step HGL.out (by repeat (first | (with_reducible first | exact HB.out | apply below_alloc | apply pw_below_drewN | apply below_drew1) | exact HB.out)))).mono ?_); rintro e w18 ⟨rfl, hb⟩; refine ⟨_, rfl, ?_⟩; have n0_ := Aside0.mk (below_step (by repeat (first | (with_reducible first | exact HB.out | apply below_alloc | apply pw_below_drewN | apply below_drew1) | exact HB.out)) hb); clear HB; have HB := n0_; clear n0_; (try clear hb); (try clear hb2); (try clear hk); (try clear hi)) | ((with_reducible refine gate_callee (f := 17) rfl ?_); refine goesL_ (some 18) rfl rfl Tryd.func17 (by kernel_rfl) rfl #[.slice A0 l0.length c0, .agg #[.int .i64 a1, .int .i64 a2]] rfl (by (try simp only [List.map_toArray, List.map_cons, List.map_nil]); first | done | rfl | (simp only [List.length_drop, List.length_take]; rfl)) ?_; (with_reducible refine (ins_Check.calls _ _ l0 a1 a2 t227 _ ?side1 ?side2 A8.out (GlobOK.step HGL.out (by repeat (first | (with_reducible first | exact HB.out | apply below_alloc | apply pw_below_drewN | apply below_drew1) | exact HB.out)))).mono ?_); (case side1 => repeat (first | exact (Kd.C_below HR0.out HB.out) | (with_reducible refine Kd.C_alloc ?_ _) | (with_reducible refine Kd.C_drewN ?_ _) | (with_reducible refine Kd.C_drew ?_))); (case side2 => exact HC0.out); rintro e w19 ⟨rfl, hb⟩; refine ⟨_, rfl, ?_⟩; have n0_ := Aside0.mk (below_step (by repeat (first | (with_reducible first | exact HB.out | apply below_alloc | apply pw_below_drewN | apply below_drew1) | exact HB.out)) hb); clear HB; have HB := n0_; clear n0_; (try clear hb); (try clear hb2); (try clear hk); (try clear hi)) | ((with_reducible refine gate_callee (f := 18) rfl ?_); refine goesL_ (some 22) rfl rfl Tryd.func18 (by kernel_rfl) rfl #[.slice A0 l0.length c0, .int .i64 a1, .int .i64 a2] rfl (by (try simp only [List.map_toArray, List.map_cons, List.map_nil]); first | done | rfl | (simp only [List.length_drop, List.length_take]; rfl)) ?_; (with_reducible refine (palingref11_Check.calls k _ _ l0 a1 a2 t228 _ ?side1 ?side2 A9.out).mono ?_); (case side1 => repeat (first | exact (Kd.C_below HR0.out HB.out) | (with_reducible refine Kd.C_alloc ?_ _) | (with_reducible refine Kd.C_drewN ?_ _) | (with_reducible refine Kd.C_drew ?_))); (case side2 => exact HC0.out); rintro e w20 ⟨rfl, hb⟩; refine ⟨_, rfl, ?_⟩; have n0_ := Aside0.mk (below_step (by repeat (first | (with_reducible first | exact HB.out | apply below_alloc | apply pw_below_drewN | apply below_drew1) | exact HB.out)) hb); clear HB; have HB := n0_; clear n0_; (try clear hb); (try clear hb2); (try clear hk); (try clear hi)))
        go_ret
        exact ⟨by first | rfl | (simp [errW_none, errW_some] <;> rfl) | (simp [*, errW_none, errW_some] <;> rfl), by repeat (first | (with_reducible first | exact HB.out | apply below_alloc | apply pw_below_drewN | apply below_drew1) | exact HB.out)⟩
  · replace c5 := Bool.eq_false_iff.mpr c5
    subst c5
    have H1 : (some false) = some r := by rw [if_neg (show ¬ (false = true) by decide)] at H; exact H
    clear H
    have H := H1
    clear H1
    obtain rfl := Option.some.inj H
    go_enter Tryd.func4, Tryd.ntmps4
    go_wp2_with (first | ((with_reducible refine gate_callee (f := 7) rfl ?_); refine goesL_ (some 8) rfl rfl Tryd.func7 (by kernel_rfl) rfl #[] rfl (by (try simp only [List.map_toArray, List.map_cons, List.map_nil]); first | done | rfl | (simp only [List.length_drop, List.length_take]; rfl)) ?_; (with_reducible refine (palinglaw11_awake.calls k  false _ A4.out (GlobOK.step HGL.out (by repeat (first | (with_reducible first | exact HB.out | apply below_alloc | apply pw_below_drewN | apply below_drew1) | exact HB.out)))).mono ?_); rintro e w21 ⟨rfl, hb⟩; refine ⟨_, rfl, ?_⟩; have n0_ := Aside0.mk (below_step (by repeat (first | (with_reducible first | exact HB.out | apply below_alloc | apply pw_below_drewN | apply below_drew1) | exact HB.out)) hb); clear HB; have HB := n0_; clear n0_; (try clear hb); (try clear hb2); (try clear hk); (try clear hi)))
    go_ret
    exact ⟨by first | rfl | (simp [errW_none, errW_some] <;> rfl) | (simp [*, errW_none, errW_some] <;> rfl), by repeat (first | (with_reducible first | exact HB.out | apply below_alloc | apply pw_below_drewN | apply below_drew1) | exact HB.out)⟩

end Go.Proofs.YtggfikekggcclaaDoor.PInsChecks
