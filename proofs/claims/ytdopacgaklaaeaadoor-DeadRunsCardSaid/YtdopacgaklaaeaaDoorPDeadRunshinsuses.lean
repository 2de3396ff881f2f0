-- HAND paling/ins.Uses rounds=0 making=1 needs=paling/ins.of
import Derived.Test.YtdopacgaklaaeaaDoorPDeadRunsx0
import Derived.Test.YtdopacgaklaaeaaDoorPDeadRunshforms
import Derived.Test.YtdopacgaklaaeaaDoorPDeadRunshg7
namespace Go.Proofs.YtdopacgaklaaeaaDoor.PDeadRuns
open Go.RowKit Go.Proofs.YtdopacgaklaaeaaDoorW.PrintWords Go.Proofs.YtdopacgaklaaeaaDoorW.PrintLast Go.Proofs.YtdopacgaklaaeaaDoorW.PrintMore
set_option linter.unusedVariables false
set_option linter.unusedSimpArgs false
open Go.Shelf
/-! ins.Uses: the registers that an instruction reads. -/
set_option maxRecDepth 100000 in
theorem fmTab : (List.range 14).all (fun k => (fmB 2 (k : Int) || !fmB 3 (k : Int)) && (fmB 3 (k : Int) || !fmB 8 (k : Int))) = true := by kernel_rfl
theorem fmTab_at (k : Int) (h : 0 ≤ k ∧ k < 14) : (fmB 2 k = false → fmB 3 k = false) ∧ (fmB 3 k = false → fmB 8 k = false) := by
  have h1 := List.all_eq_true.1 fmTab k.toNat (by rw [List.mem_range]; omega)
  rw [show ((k.toNat : Nat) : Int) = k by omega] at h1
  generalize fmB 2 k = x at h1 ⊢
  generalize fmB 3 k = y at h1 ⊢
  generalize fmB 8 k = z at h1 ⊢
  revert h1
  cases x <;> cases y <;> cases z <;> simp
theorem fm32 (k : Int) : fmB 2 k = false → fmB 3 k = false := by
  by_cases h : 0 ≤ k ∧ k < 14
  · exact (fmTab_at k h).1
  · intro _; exact fmB_out 3 (by decide) k h
theorem fm83 (k : Int) : fmB 3 k = false → fmB 8 k = false := by
  by_cases h : 0 ≤ k ∧ k < 14
  · exact (fmTab_at k h).2
  · intro _; exact fmB_out 8 (by decide) k h
theorem infoInt : (Tryd.prog.info? 3).map (fun i => (i.zero, i.size, i.bytes)) = some (some (.int .i64 0), 1, 8) := by kernel_rfl
theorem own_lower {w : World} {base base' e size n : Nat} {v : Value} {xs : List Value} (h : w.ownsRow base e size v n xs) (hb : base' ≤ base) : w.ownsRow base' e size v n xs := by
  refine ⟨h.1, h.2.imp id ?_⟩
  rintro ⟨g, cap, cur, h1, h2, h3⟩
  exact ⟨g, cap, cur, h1, Nat.le_trans hb h2, h3⟩
def useL (k d a b : Int) : List Int := (if fmB 2 k = true then [a] else []) ++ (if fmB 3 k = true then [b] else []) ++ (if fmB 8 k = true then [d] else [])
def ins_Uses.f (a0_0 : Int) (a0_1 : Int) (a0_2 : Int) (a0_3 : Int) (a0_4 : Int) (a0_5 : Int) (a0_6 : Int) : Option (List Int) := some (useRegs (useL a0_0 a0_2 a0_3 a0_4))
set_option maxHeartbeats 4000000 in
set_option maxRecDepth 100000 in
theorem ins_Uses.calls (a0_0 : Int) (a0_1 : Int) (a0_2 : Int) (a0_3 : Int) (a0_4 : Int) (a0_5 : Int) (a0_6 : Int) (r : List Int) (w : World) (h : ins_Uses.f a0_0 a0_1 a0_2 a0_3 a0_4 a0_5 a0_6 = some r) (hgl : GlobOK w) :
    Calls Tryd.prog 72 #[.agg #[.int .i64 a0_0, .int .i64 a0_1, .int .i64 a0_2, .int .i64 a0_3, .int .i64 a0_4, .int .i64 a0_5, .int .i64 a0_6]] w fun e w' => ∃ v0_ : Value, e = .returned (v0_) ∧ Kd.R (Kd.int .i64) 3 w' w.heap.size (fun _ => True) v0_ r ∧ Below w.heap.size w w' := by
  unfold ins_Uses.f at h
  replace h := Option.some.inj h
  subst h
  have HGL := Aside0.mk hgl
  clear hgl
  unfold useL
  obtain ⟨q0, h0⟩ : ∃ b, b = fmW a0_0 := ⟨_, rfl⟩
  obtain ⟨q1, h1⟩ : ∃ b, b = fmB 1 a0_0 := ⟨_, rfl⟩
  obtain ⟨q2, h2⟩ : ∃ b, b = fmB 2 a0_0 := ⟨_, rfl⟩
  obtain ⟨q3, h3⟩ : ∃ b, b = fmB 3 a0_0 := ⟨_, rfl⟩
  obtain ⟨q4, h4⟩ : ∃ b, b = fmB 4 a0_0 := ⟨_, rfl⟩
  obtain ⟨q5, h5⟩ : ∃ b, b = fmB 5 a0_0 := ⟨_, rfl⟩
  obtain ⟨q6, h6⟩ : ∃ b, b = fmB 6 a0_0 := ⟨_, rfl⟩
  obtain ⟨q7, h7⟩ : ∃ b, b = fmB 7 a0_0 := ⟨_, rfl⟩
  obtain ⟨q8, h8⟩ : ∃ b, b = fmB 8 a0_0 := ⟨_, rfl⟩
  obtain ⟨q9, h9⟩ : ∃ b, b = fmB 9 a0_0 := ⟨_, rfl⟩
  rw [← h2, ← h3, ← h8]
  have HV := Aside0.mk (show formV a0_0 = .agg #[.string q0, .bool q1, .bool q2, .bool q3, .bool q4, .bool q5, .bool q6, .bool q7, .bool q8, .bool q9] by unfold formV; rw [← h0, ← h1, ← h2, ← h3, ← h4, ← h5, ← h6, ← h7, ← h8, ← h9])
  have H32 := Aside0.mk (show q2 = false → q3 = false by rw [h2, h3]; exact fm32 a0_0)
  have H83 := Aside0.mk (show q3 = false → q8 = false by rw [h3, h8]; exact fm83 a0_0)
  clear h0 h1 h2 h3 h4 h5 h6 h7 h8 h9
  go_enter Tryd.func72, Tryd.ntmps72
  go_wp2_with fail
  refine (ins_ofV.calls a0_0 _ (HGL.out.alloc _)).mono ?_
  rintro e w' ⟨rfl, hb⟩
  rw [HV.out]
  have BK1 := Aside0.mk (blk_below (blk_new w (.cells #[.int .i64 a0_0, .int .i64 a0_1, .int .i64 a0_2, .int .i64 a0_3, .int .i64 a0_4, .int .i64 a0_5, .int .i64 a0_6] 28 (0, 0))) hb)
  have HB := Aside0.mk (below_step ((Below.refl _ _).alloc (Nat.le_refl _) _) hb)
  clear hb HGL HV
  go_upto_if 9 with fail
  have BK3 := Aside0.mk (blk_new w' (.cells #[.string q0, .bool q1, .bool q2, .bool q3, .bool q4, .bool q5, .bool q6, .bool q7, .bool q8, .bool q9] 83 (0, 0)))
  have BK2 := Aside0.mk (blk_alloc BK1.out (.cells #[.string q0, .bool q1, .bool q2, .bool q3, .bool q4, .bool q5, .bool q6, .bool q7, .bool q8, .bool q9] 83 (0, 0)))
  have HB1 := Aside0.mk (below_alloc HB.out (.cells #[.string q0, .bool q1, .bool q2, .bool q3, .bool q4, .bool q5, .bool q6, .bool q7, .bool q8, .bool q9] 83 (0, 0)))
  clear BK1 HB
  generalize (w'.alloc (.cells #[.string q0, .bool q1, .bool q2, .bool q3, .bool q4, .bool q5, .bool q6, .bool q7, .bool q8, .bool q9] 83 (0, 0))) = W1 at BK3 BK2 HB1 ⊢
  generalize w'.heap.size = g3 at BK3 ⊢
  obtain ⟨g1, hg1⟩ : ∃ g, g = w.heap.size := ⟨_, rfl⟩
  rw [← hg1] at BK2 ⊢
  have HG1 := Aside0.mk hg1
  clear hg1
  have HO : Aside0 (Kd.R (Kd.int .i64) 3 W1 W1.heap.size (fun _ => True) (.slice none 0 0) []) := ⟨Kd.R_nil _ _ _ _ _⟩
  have HW := Aside0.mk (Below.refl W1.heap.size W1)
  have HS : Aside0 (W1.heap.size ≤ W1.heap.size) := ⟨Nat.le_refl _⟩
  have BK20 := BK2
  have BK30 := BK3
  have ca_ : W1.cell? ⟨g1, 3, none⟩ = some (.int .i64 a0_3) := (blk_cell BK2.out 3).trans rfl
  have cb_ : W1.cell? ⟨g1, 4, none⟩ = some (.int .i64 a0_4) := (blk_cell BK2.out 4).trans rfl
  have cd_ : W1.cell? ⟨g1, 2, none⟩ = some (.int .i64 a0_2) := (blk_cell BK2.out 2).trans rfl
  have c3_ : W1.cell? ⟨g3, 3, none⟩ = some (.bool q3) := (blk_cell BK3.out 3).trans rfl
  have c8_ : W1.cell? ⟨g3, 8, none⟩ = some (.bool q8) := (blk_cell BK3.out 8).trans rfl
  cases q2 with
  | false =>
    obtain rfl : q3 = false := H32.out rfl
    obtain rfl : q8 = false := H83.out rfl
    go_wp2_with fail
    refine (ins_regs.calls W1.heap.size (.slice none 0 0) [] _ (Kd.own_of_R HO.out) (by simp) HS.out).mono ?_
    rintro e w9 ⟨v9, rfl, ho, hb⟩
    replace HO := Aside0.mk ho
    replace HW := Aside0.mk (HW.out.trans hb)
    clear ho hb
    go_wp2_with fail
    go_ret
    refine ⟨_, rfl, ?_, ?_⟩
    · exact Kd.R_of_own (own_lower HO.out HB1.out.size) (fun _ _ => trivial)
    · exact HB1.out.trans (HW.out.mono HB1.out.size)
  | true =>
    cases q3 with
    | false =>
      obtain rfl : q8 = false := H83.out rfl
      go_wp2_with (first | ((with_reducible refine gate_builtin (b := .append) (xs := #[.tmp 10, .tmp 13]) rfl ?_); (try (refine gate_guard (by rfl) ?_; dsimp only)); at_builtin; refine Kd.R_append (Kd.int .i64) (w0 := W1) W1.heap.size rfl (.tmp 10) (.tmp 13) 57 3 (.int .i64 0) 8 rfl Tryd.underlying57 infoInt rfl (by decide) (by omega) (.slice none 0 0) [] a0_3 [.int .i64 a0_3] (fun _ => True) (fun _ => False) rfl (by first | (go_simp; done) | (go_simp; rfl)) rfl (fun _ hk => hk.elim) (fun _ _ => trivial) HO.out HW.out HS.out (by simp) ?_; intro v1 W2 ho hb hg hat; replace HO := Aside0.mk ho; replace HW := Aside0.mk hb; replace HS := Aside0.mk hb.size; replace BK2 := Aside0.mk (blk_below BK20.out hb); replace BK3 := Aside0.mk (blk_below BK30.out hb); clear ho hb hg hat ca_ cb_ cd_ c3_ c8_; have ca_ : W2.cell? ⟨g1, 3, none⟩ = some (.int .i64 a0_3) := (blk_cell BK2.out 3).trans rfl; have cb_ : W2.cell? ⟨g1, 4, none⟩ = some (.int .i64 a0_4) := (blk_cell BK2.out 4).trans rfl; have cd_ : W2.cell? ⟨g1, 2, none⟩ = some (.int .i64 a0_2) := (blk_cell BK2.out 2).trans rfl; have c3_ : W2.cell? ⟨g3, 3, none⟩ = some (.bool false) := (blk_cell BK3.out 3).trans rfl; have c8_ : W2.cell? ⟨g3, 8, none⟩ = some (.bool false) := (blk_cell BK3.out 8).trans rfl))
      refine (ins_regs.calls W1.heap.size v1 ([] ++ [a0_3]) _ (Kd.own_of_R HO.out) (by simp) HS.out).mono ?_
      rintro e w9 ⟨v9, rfl, ho, hb⟩
      replace HO := Aside0.mk ho
      replace HW := Aside0.mk (HW.out.trans hb)
      clear ho hb
      go_wp2_with fail
      go_ret
      refine ⟨_, rfl, ?_, ?_⟩
      · exact Kd.R_of_own (own_lower HO.out HB1.out.size) (fun _ _ => trivial)
      · exact HB1.out.trans (HW.out.mono HB1.out.size)
    | true =>
      cases q8 with
      | false =>
        go_wp2_with (first | ((with_reducible refine gate_builtin (b := .append) (xs := #[.tmp 10, .tmp 13]) rfl ?_); (try (refine gate_guard (by rfl) ?_; dsimp only)); at_builtin; refine Kd.R_append (Kd.int .i64) (w0 := W1) W1.heap.size rfl (.tmp 10) (.tmp 13) 57 3 (.int .i64 0) 8 rfl Tryd.underlying57 infoInt rfl (by decide) (by omega) (.slice none 0 0) [] a0_3 [.int .i64 a0_3] (fun _ => True) (fun _ => False) rfl (by first | (go_simp; done) | (go_simp; rfl)) rfl (fun _ hk => hk.elim) (fun _ _ => trivial) HO.out HW.out HS.out (by simp) ?_; intro v1 W2 ho hb hg hat; replace HO := Aside0.mk ho; replace HW := Aside0.mk hb; replace HS := Aside0.mk hb.size; replace BK2 := Aside0.mk (blk_below BK20.out hb); replace BK3 := Aside0.mk (blk_below BK30.out hb); clear ho hb hg hat ca_ cb_ cd_ c3_ c8_; have ca_ : W2.cell? ⟨g1, 3, none⟩ = some (.int .i64 a0_3) := (blk_cell BK2.out 3).trans rfl; have cb_ : W2.cell? ⟨g1, 4, none⟩ = some (.int .i64 a0_4) := (blk_cell BK2.out 4).trans rfl; have cd_ : W2.cell? ⟨g1, 2, none⟩ = some (.int .i64 a0_2) := (blk_cell BK2.out 2).trans rfl; have c3_ : W2.cell? ⟨g3, 3, none⟩ = some (.bool true) := (blk_cell BK3.out 3).trans rfl; have c8_ : W2.cell? ⟨g3, 8, none⟩ = some (.bool false) := (blk_cell BK3.out 8).trans rfl) | ((with_reducible refine gate_builtin (b := .append) (xs := #[.tmp 17, .tmp 20]) rfl ?_); (try (refine gate_guard (by rfl) ?_; dsimp only)); at_builtin; refine Kd.R_append (Kd.int .i64) (w0 := W1) W1.heap.size rfl (.tmp 17) (.tmp 20) 57 3 (.int .i64 0) 8 rfl Tryd.underlying57 infoInt rfl (by decide) (by omega) v1 ([] ++ [a0_3]) a0_4 [.int .i64 a0_4] (fun _ => True) (fun _ => False) rfl (by first | (go_simp; done) | (go_simp; rfl)) rfl (fun _ hk => hk.elim) (fun _ _ => trivial) HO.out HW.out HS.out (by simp) ?_; intro v2 W3 ho hb hg hat; replace HO := Aside0.mk ho; replace HW := Aside0.mk hb; replace HS := Aside0.mk hb.size; replace BK2 := Aside0.mk (blk_below BK20.out hb); replace BK3 := Aside0.mk (blk_below BK30.out hb); clear ho hb hg hat ca_ cb_ cd_ c3_ c8_; have ca_ : W3.cell? ⟨g1, 3, none⟩ = some (.int .i64 a0_3) := (blk_cell BK2.out 3).trans rfl; have cb_ : W3.cell? ⟨g1, 4, none⟩ = some (.int .i64 a0_4) := (blk_cell BK2.out 4).trans rfl; have cd_ : W3.cell? ⟨g1, 2, none⟩ = some (.int .i64 a0_2) := (blk_cell BK2.out 2).trans rfl; have c3_ : W3.cell? ⟨g3, 3, none⟩ = some (.bool true) := (blk_cell BK3.out 3).trans rfl; have c8_ : W3.cell? ⟨g3, 8, none⟩ = some (.bool false) := (blk_cell BK3.out 8).trans rfl))
        refine (ins_regs.calls W1.heap.size v2 (([] ++ [a0_3]) ++ [a0_4]) _ (Kd.own_of_R HO.out) (by simp) HS.out).mono ?_
        rintro e w9 ⟨v9, rfl, ho, hb⟩
        replace HO := Aside0.mk ho
        replace HW := Aside0.mk (HW.out.trans hb)
        clear ho hb
        go_wp2_with fail
        go_ret
        refine ⟨_, rfl, ?_, ?_⟩
        · exact Kd.R_of_own (own_lower HO.out HB1.out.size) (fun _ _ => trivial)
        · exact HB1.out.trans (HW.out.mono HB1.out.size)
      | true =>
        go_wp2_with (first | ((with_reducible refine gate_builtin (b := .append) (xs := #[.tmp 10, .tmp 13]) rfl ?_); (try (refine gate_guard (by rfl) ?_; dsimp only)); at_builtin; refine Kd.R_append (Kd.int .i64) (w0 := W1) W1.heap.size rfl (.tmp 10) (.tmp 13) 57 3 (.int .i64 0) 8 rfl Tryd.underlying57 infoInt rfl (by decide) (by omega) (.slice none 0 0) [] a0_3 [.int .i64 a0_3] (fun _ => True) (fun _ => False) rfl (by first | (go_simp; done) | (go_simp; rfl)) rfl (fun _ hk => hk.elim) (fun _ _ => trivial) HO.out HW.out HS.out (by simp) ?_; intro v1 W2 ho hb hg hat; replace HO := Aside0.mk ho; replace HW := Aside0.mk hb; replace HS := Aside0.mk hb.size; replace BK2 := Aside0.mk (blk_below BK20.out hb); replace BK3 := Aside0.mk (blk_below BK30.out hb); clear ho hb hg hat ca_ cb_ cd_ c3_ c8_; have ca_ : W2.cell? ⟨g1, 3, none⟩ = some (.int .i64 a0_3) := (blk_cell BK2.out 3).trans rfl; have cb_ : W2.cell? ⟨g1, 4, none⟩ = some (.int .i64 a0_4) := (blk_cell BK2.out 4).trans rfl; have cd_ : W2.cell? ⟨g1, 2, none⟩ = some (.int .i64 a0_2) := (blk_cell BK2.out 2).trans rfl; have c3_ : W2.cell? ⟨g3, 3, none⟩ = some (.bool true) := (blk_cell BK3.out 3).trans rfl; have c8_ : W2.cell? ⟨g3, 8, none⟩ = some (.bool true) := (blk_cell BK3.out 8).trans rfl) | ((with_reducible refine gate_builtin (b := .append) (xs := #[.tmp 17, .tmp 20]) rfl ?_); (try (refine gate_guard (by rfl) ?_; dsimp only)); at_builtin; refine Kd.R_append (Kd.int .i64) (w0 := W1) W1.heap.size rfl (.tmp 17) (.tmp 20) 57 3 (.int .i64 0) 8 rfl Tryd.underlying57 infoInt rfl (by decide) (by omega) v1 ([] ++ [a0_3]) a0_4 [.int .i64 a0_4] (fun _ => True) (fun _ => False) rfl (by first | (go_simp; done) | (go_simp; rfl)) rfl (fun _ hk => hk.elim) (fun _ _ => trivial) HO.out HW.out HS.out (by simp) ?_; intro v2 W3 ho hb hg hat; replace HO := Aside0.mk ho; replace HW := Aside0.mk hb; replace HS := Aside0.mk hb.size; replace BK2 := Aside0.mk (blk_below BK20.out hb); replace BK3 := Aside0.mk (blk_below BK30.out hb); clear ho hb hg hat ca_ cb_ cd_ c3_ c8_; have ca_ : W3.cell? ⟨g1, 3, none⟩ = some (.int .i64 a0_3) := (blk_cell BK2.out 3).trans rfl; have cb_ : W3.cell? ⟨g1, 4, none⟩ = some (.int .i64 a0_4) := (blk_cell BK2.out 4).trans rfl; have cd_ : W3.cell? ⟨g1, 2, none⟩ = some (.int .i64 a0_2) := (blk_cell BK2.out 2).trans rfl; have c3_ : W3.cell? ⟨g3, 3, none⟩ = some (.bool true) := (blk_cell BK3.out 3).trans rfl; have c8_ : W3.cell? ⟨g3, 8, none⟩ = some (.bool true) := (blk_cell BK3.out 8).trans rfl) | ((with_reducible refine gate_builtin (b := .append) (xs := #[.tmp 24, .tmp 27]) rfl ?_); (try (refine gate_guard (by rfl) ?_; dsimp only)); at_builtin; refine Kd.R_append (Kd.int .i64) (w0 := W1) W1.heap.size rfl (.tmp 24) (.tmp 27) 57 3 (.int .i64 0) 8 rfl Tryd.underlying57 infoInt rfl (by decide) (by omega) v2 (([] ++ [a0_3]) ++ [a0_4]) a0_2 [.int .i64 a0_2] (fun _ => True) (fun _ => False) rfl (by first | (go_simp; done) | (go_simp; rfl)) rfl (fun _ hk => hk.elim) (fun _ _ => trivial) HO.out HW.out HS.out (by simp) ?_; intro v3 W4 ho hb hg hat; replace HO := Aside0.mk ho; replace HW := Aside0.mk hb; replace HS := Aside0.mk hb.size; replace BK2 := Aside0.mk (blk_below BK20.out hb); replace BK3 := Aside0.mk (blk_below BK30.out hb); clear ho hb hg hat ca_ cb_ cd_ c3_ c8_; have ca_ : W4.cell? ⟨g1, 3, none⟩ = some (.int .i64 a0_3) := (blk_cell BK2.out 3).trans rfl; have cb_ : W4.cell? ⟨g1, 4, none⟩ = some (.int .i64 a0_4) := (blk_cell BK2.out 4).trans rfl; have cd_ : W4.cell? ⟨g1, 2, none⟩ = some (.int .i64 a0_2) := (blk_cell BK2.out 2).trans rfl; have c3_ : W4.cell? ⟨g3, 3, none⟩ = some (.bool true) := (blk_cell BK3.out 3).trans rfl; have c8_ : W4.cell? ⟨g3, 8, none⟩ = some (.bool true) := (blk_cell BK3.out 8).trans rfl))
        refine (ins_regs.calls W1.heap.size v3 ((([] ++ [a0_3]) ++ [a0_4]) ++ [a0_2]) _ (Kd.own_of_R HO.out) (by simp) HS.out).mono ?_
        rintro e w9 ⟨v9, rfl, ho, hb⟩
        replace HO := Aside0.mk ho
        replace HW := Aside0.mk (HW.out.trans hb)
        clear ho hb
        go_wp2_with fail
        go_ret
        refine ⟨_, rfl, ?_, ?_⟩
        · exact Kd.R_of_own (own_lower HO.out HB1.out.size) (fun _ _ => trivial)
        · exact HB1.out.trans (HW.out.mono HB1.out.size)
end Go.Proofs.YtdopacgaklaaeaaDoor.PDeadRuns
