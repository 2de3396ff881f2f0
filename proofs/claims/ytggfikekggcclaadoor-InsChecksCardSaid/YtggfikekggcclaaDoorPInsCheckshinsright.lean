-- HAND paling/ins.right rounds=0 making=1 needs=paling/ins.of;paling/ins.reg;paling/ins.number
import Derived.Test.YtggfikekggcclaaDoorPInsChecksx0
import Derived.Test.YtggfikekggcclaaDoorPInsChecksx4
import Derived.Test.YtggfikekggcclaaDoorPInsCheckshforms
import Derived.Test.YtggfikekggcclaaDoorPInsCheckshinsnext
namespace Go.Proofs.YtggfikekggcclaaDoor.PInsChecks
open Go.RowKit Go.Proofs.YtggfikekggcclaaDoorW.PrintWords Go.Proofs.YtggfikekggcclaaDoorW.PrintLast Go.Proofs.YtggfikekggcclaaDoorW.PrintMore
set_option linter.unusedVariables false
set_option linter.unusedSimpArgs false
open Go.Shelf
/-! ins.right: may an instruction be? -/
def iregB (n regs : Int) (own bare : Bool) : Bool := if own = true then (decide (n ≥ 0) && decide (n < regs)) || (bare && n == -1) else n == 0
theorem iregB_f (n regs : Int) (own bare : Bool) : ins_reg.f n regs own bare = some (iregB n regs own bare) := by
  unfold ins_reg.f iregB
  cases own with
  | false => rfl
  | true =>
    simp only [if_true]
    by_cases h0 : n ≥ 0
    · by_cases h1 : n < regs
      · simp [h0, h1]
      · cases bare <;> simp [h0, h1]
    · cases bare <;> simp [h0]
def inumB (kd n locks : Int) : Bool :=
  if kd = 4 ∨ kd = 5 then decide (n ≥ 0) && decide (n ≤ 65535) else if kd = 9 ∨ kd = 10 then decide (n ≥ 0) && decide (n ≤ wrap64 (mx locks 0 - 1)) else if kd = 12 then decide (n ≥ 1) && decide (n ≤ 2) else true
theorem inumB_f (kd op d a b n to_ locks : Int) : ins_number.f 2 kd op d a b n to_ locks = some (inumB kd n locks) := by
  unfold ins_number.f inumB
  simp only [ins_number.j0, ins_number.j1]
  by_cases h4 : kd = 4
  · subst h4
    by_cases h0 : n ≥ 0 <;> simp [h0]
  · by_cases h5 : kd = 5
    · subst h5
      by_cases h0 : n ≥ 0 <;> simp [h0]
    · by_cases h9 : kd = 9
      · subst h9
        by_cases h0 : n ≥ 0 <;> simp [h0]
      · by_cases h10 : kd = 10
        · subst h10
          by_cases h0 : n ≥ 0 <;> simp [h0]
        · by_cases h12 : kd = 12
          · subst h12
            by_cases h0 : n ≥ 1 <;> simp [h0]
          · simp [h4, h5, h9, h10, h12]
set_option maxHeartbeats 1000000 in
theorem ireg.calls (n regs : Int) (own bare r : Bool) (w : World) (h : iregB n regs own bare = r) :
    Calls Tryd.prog 47 #[.int .i64 n, .int .i64 regs, .bool own, .bool bare] w fun e w' => e = .returned (.bool r) ∧ w = w' := by
  unfold iregB at h
  cases own with
  | false =>
    have H := Aside0.mk h
    clear h
    go_enter Tryd.func47, Tryd.ntmps47
    go_wp2
    go_ret
    refine ⟨?_, rfl⟩
    rw [← H.out]
    rfl
  | true =>
    rw [if_pos rfl] at h
    by_cases h0 : 0 ≤ n
    · by_cases h1 : n < regs
      · have h0' : decide (0 ≤ n) = true := decide_eq_true h0
        have h1' : decide (n < regs) = true := decide_eq_true h1
        have hr : r = true := by rw [← h]; simp [h0, h1]
        subst hr
        clear h h0 h1
        go_enter Tryd.func47, Tryd.ntmps47
        go_wp2
        go_ret
        exact ⟨rfl, rfl⟩
      · have h0' : decide (0 ≤ n) = true := decide_eq_true h0
        have h1' : decide (n < regs) = false := decide_eq_false h1
        have hr : r = (bare && n == -1) := by rw [← h]; simp [h1]
        have HR := Aside0.mk hr
        clear h h0 h1 hr
        cases bare
        all_goals
          go_enter Tryd.func47, Tryd.ntmps47
          go_wp2
          go_ret
          exact ⟨by rw [HR.out]; rfl, rfl⟩
    · have h0' : decide (0 ≤ n) = false := decide_eq_false h0
      have hr : r = (bare && n == -1) := by rw [← h]; simp [h0]
      have HR := Aside0.mk hr
      clear h h0 hr
      cases bare
      all_goals
        go_enter Tryd.func47, Tryd.ntmps47
        go_wp2
        go_ret
        exact ⟨by rw [HR.out]; rfl, rfl⟩
/-- what the last test says of Op, N, and To -/
def opB (k op n to_ size locks : Int) : Bool := decide (0 ≤ op) && decide (op ≤ 18) && inumB k n locks && decide (0 ≤ to_) && decide (to_ < size)
def rightB (k op d a b n to_ size regs locks : Int) : Bool :=
  decide (0 ≤ k ∧ k < 14) && (iregB d regs (fmB 1 k) false && iregB a regs (fmB 2 k) (fmB 7 k) && iregB b regs (fmB 3 k) false) && ((fmB 4 k || op == 0) && (fmB 5 k || n == 0) && (fmB 6 k || to_ == 0)) && opB k op n to_ size locks
def ins_right.f (k op d a b n to_ size regs locks : Int) : Option Bool := some (rightB k op d a b n to_ size regs locks)
set_option maxHeartbeats 8000000 in
set_option maxRecDepth 100000 in
theorem ins_right.calls (k op d a b n to_ size regs locks : Int) (r : Bool) (w : World) (h : ins_right.f k op d a b n to_ size regs locks = some r) (hgl : GlobOK w) :
    Calls Tryd.prog 36 #[.agg #[.int .i64 k, .int .i64 op, .int .i64 d, .int .i64 a, .int .i64 b, .int .i64 n, .int .i64 to_], .int .i64 size, .agg #[.int .i64 regs, .int .i64 locks]] w fun e w' => e = .returned (.bool r) ∧ Below w.heap.size w w' := by
  replace h := Option.some.inj h
  have HGL := Aside0.mk hgl
  clear hgl
  unfold rightB at h
  obtain ⟨q0, h0⟩ : ∃ b, b = fmW k := ⟨_, rfl⟩
  obtain ⟨q1, h1⟩ : ∃ b, b = fmB 1 k := ⟨_, rfl⟩
  obtain ⟨q2, h2⟩ : ∃ b, b = fmB 2 k := ⟨_, rfl⟩
  obtain ⟨q3, h3⟩ : ∃ b, b = fmB 3 k := ⟨_, rfl⟩
  obtain ⟨q4, h4⟩ : ∃ b, b = fmB 4 k := ⟨_, rfl⟩
  obtain ⟨q5, h5⟩ : ∃ b, b = fmB 5 k := ⟨_, rfl⟩
  obtain ⟨q6, h6⟩ : ∃ b, b = fmB 6 k := ⟨_, rfl⟩
  obtain ⟨q7, h7⟩ : ∃ b, b = fmB 7 k := ⟨_, rfl⟩
  obtain ⟨q8, h8⟩ : ∃ b, b = fmB 8 k := ⟨_, rfl⟩
  obtain ⟨q9, h9⟩ : ∃ b, b = fmB 9 k := ⟨_, rfl⟩
  rw [← h1, ← h2, ← h3, ← h4, ← h5, ← h6, ← h7] at h
  have HV := Aside0.mk (show formV k = .agg #[.string q0, .bool q1, .bool q2, .bool q3, .bool q4, .bool q5, .bool q6, .bool q7, .bool q8, .bool q9] by unfold formV; rw [← h0, ← h1, ← h2, ← h3, ← h4, ← h5, ← h6, ← h7, ← h8, ← h9])
  have H0 := Aside0.mk h0
  have HR := Aside0.mk h
  clear h0 h1 h2 h3 h4 h5 h6 h7 h8 h9 h
  go_enter Tryd.func36, Tryd.ntmps36
  go_wp2_with fail
  refine (ins_ofV.calls k _ ((HGL.out.alloc _).alloc _)).mono ?_
  rintro e w' ⟨rfl, hb⟩
  rw [HV.out]
  have BI0 := Aside0.mk (blk_below (blk_alloc (blk_new w (.cells #[.int .i64 k, .int .i64 op, .int .i64 d, .int .i64 a, .int .i64 b, .int .i64 n, .int .i64 to_] 23 (0, 0))) (.cells #[.int .i64 regs, .int .i64 locks] 35 (0, 0))) hb)
  have BB0 := Aside0.mk (blk_below (blk_new (w.alloc (.cells #[.int .i64 k, .int .i64 op, .int .i64 d, .int .i64 a, .int .i64 b, .int .i64 n, .int .i64 to_] 23 (0, 0))) (.cells #[.int .i64 regs, .int .i64 locks] 35 (0, 0))) hb)
  have HB0 := Aside0.mk (below_step (below_alloc ((Below.refl _ _).alloc (Nat.le_refl _) _) _) hb)
  clear hb HGL HV
  have BF := Aside0.mk (blk_new w' (.cells #[.string q0, .bool q1, .bool q2, .bool q3, .bool q4, .bool q5, .bool q6, .bool q7, .bool q8, .bool q9] 43 (0, 0)))
  have BI := Aside0.mk (blk_alloc BI0.out (.cells #[.string q0, .bool q1, .bool q2, .bool q3, .bool q4, .bool q5, .bool q6, .bool q7, .bool q8, .bool q9] 43 (0, 0)))
  have BB := Aside0.mk (blk_alloc BB0.out (.cells #[.string q0, .bool q1, .bool q2, .bool q3, .bool q4, .bool q5, .bool q6, .bool q7, .bool q8, .bool q9] 43 (0, 0)))
  have HB1 := Aside0.mk (below_alloc HB0.out (.cells #[.string q0, .bool q1, .bool q2, .bool q3, .bool q4, .bool q5, .bool q6, .bool q7, .bool q8, .bool q9] 43 (0, 0)))
  clear BI0 BB0 HB0
  by_cases hk : 0 ≤ k ∧ k < 14
  · have hq : ¬ q0.toList = [] := by rw [H0.out]; exact fmW_in _ hk
    have he : q0.toList.isEmpty = false := by cases hh : q0.toList with
      | nil => exact absurd hh hq
      | cons a l => rfl
    have HQ := Aside0.mk (And.intro hq he)
    clear hq he
    have hr := HR.out
    rw [show decide (0 ≤ k ∧ k < 14) = true from decide_eq_true hk, Bool.true_and] at hr
    replace HR := Aside0.mk hr
    clear hr hk H0
    go_upto_if 11 with fail
    rw [HQ.out.2]
    clear HQ
    generalize (w'.alloc (.cells #[.string q0, .bool q1, .bool q2, .bool q3, .bool q4, .bool q5, .bool q6, .bool q7, .bool q8, .bool q9] 43 (0, 0))) = W1 at BF BI BB HB1 ⊢
    generalize w'.heap.size = g7 at BF ⊢
    obtain ⟨g3, hg3⟩ : ∃ g, g = w.heap.size := ⟨_, rfl⟩
    obtain ⟨g5, hg5⟩ : ∃ g, g = (w.alloc (.cells #[.int .i64 k, .int .i64 op, .int .i64 d, .int .i64 a, .int .i64 b, .int .i64 n, .int .i64 to_] 23 (0, 0))).heap.size := ⟨_, rfl⟩
    rw [← hg5] at BB
    rw [← hg3] at BI
    have hg5' : w.heap.size + 1 = g5 := by rw [hg5]; simp
    rw [hg5', ← hg3]
    have HG := Aside0.mk hg3
    clear hg3 hg5 hg5'
    have i1 : W1.cell? ⟨g3, 1, none⟩ = some (.int .i64 op) := (blk_cell BI.out 1).trans rfl
    have i2 : W1.cell? ⟨g3, 2, none⟩ = some (.int .i64 d) := (blk_cell BI.out 2).trans rfl
    have i3 : W1.cell? ⟨g3, 3, none⟩ = some (.int .i64 a) := (blk_cell BI.out 3).trans rfl
    have i4 : W1.cell? ⟨g3, 4, none⟩ = some (.int .i64 b) := (blk_cell BI.out 4).trans rfl
    have i5 : W1.cell? ⟨g3, 5, none⟩ = some (.int .i64 n) := (blk_cell BI.out 5).trans rfl
    have i6 : W1.cell? ⟨g3, 6, none⟩ = some (.int .i64 to_) := (blk_cell BI.out 6).trans rfl
    have b0 : W1.cell? ⟨g5, 0, none⟩ = some (.int .i64 regs) := (blk_cell BB.out 0).trans rfl
    have b1 : W1.cell? ⟨g5, 1, none⟩ = some (.int .i64 locks) := (blk_cell BB.out 1).trans rfl
    have f1 : W1.cell? ⟨g7, 1, none⟩ = some (.bool q1) := (blk_cell BF.out 1).trans rfl
    have f2 : W1.cell? ⟨g7, 2, none⟩ = some (.bool q2) := (blk_cell BF.out 2).trans rfl
    have f3 : W1.cell? ⟨g7, 3, none⟩ = some (.bool q3) := (blk_cell BF.out 3).trans rfl
    have f4 : W1.cell? ⟨g7, 4, none⟩ = some (.bool q4) := (blk_cell BF.out 4).trans rfl
    have f5 : W1.cell? ⟨g7, 5, none⟩ = some (.bool q5) := (blk_cell BF.out 5).trans rfl
    have f6 : W1.cell? ⟨g7, 6, none⟩ = some (.bool q6) := (blk_cell BF.out 6).trans rfl
    have f7 : W1.cell? ⟨g7, 7, none⟩ = some (.bool q7) := (blk_cell BF.out 7).trans rfl
    obtain ⟨r1, hr1⟩ : ∃ r, iregB d regs q1 false = r := ⟨_, rfl⟩
    obtain ⟨r2, hr2⟩ : ∃ r, iregB a regs q2 q7 = r := ⟨_, rfl⟩
    obtain ⟨r3, hr3⟩ : ∃ r, iregB b regs q3 false = r := ⟨_, rfl⟩
    have C1 := Aside0.mk (fun W => ireg.calls d regs q1 false r1 W hr1)
    have C2 := Aside0.mk (fun W => ireg.calls a regs q2 q7 r2 W hr2)
    have C3 := Aside0.mk (fun W => ireg.calls b regs q3 false r3 W hr3)
    have hr := HR.out
    rw [hr1, hr2, hr3] at hr
    replace HR := Aside0.mk hr
    clear hr hr1 hr2 hr3
    cases r1 with
    | false =>
      go_wp2_with (go_at_call 47; first | ((with_reducible refine (C1.out _).mono ?_); rintro e w2 ⟨rfl, rfl⟩) | ((with_reducible refine (C2.out _).mono ?_); rintro e w2 ⟨rfl, rfl⟩) | ((with_reducible refine (C3.out _).mono ?_); rintro e w2 ⟨rfl, rfl⟩))
      go_ret
      exact ⟨by rw [← HR.out]; rfl, HB1.out⟩
    | true =>
    cases r2 with
    | false =>
      go_wp2_with (go_at_call 47; first | ((with_reducible refine (C1.out _).mono ?_); rintro e w2 ⟨rfl, rfl⟩) | ((with_reducible refine (C2.out _).mono ?_); rintro e w2 ⟨rfl, rfl⟩) | ((with_reducible refine (C3.out _).mono ?_); rintro e w2 ⟨rfl, rfl⟩))
      go_ret
      exact ⟨by rw [← HR.out]; rfl, HB1.out⟩
    | true =>
    cases r3 with
    | false =>
      go_wp2_with (go_at_call 47; first | ((with_reducible refine (C1.out _).mono ?_); rintro e w2 ⟨rfl, rfl⟩) | ((with_reducible refine (C2.out _).mono ?_); rintro e w2 ⟨rfl, rfl⟩) | ((with_reducible refine (C3.out _).mono ?_); rintro e w2 ⟨rfl, rfl⟩))
      go_ret
      exact ⟨by rw [← HR.out]; rfl, HB1.out⟩
    | true =>
    have hr := HR.out
    rw [Bool.true_and, Bool.true_and, Bool.true_and] at hr
    go_upto_region 6 with (go_at_call 47; first | ((with_reducible refine (C1.out _).mono ?_); rintro e w2 ⟨rfl, rfl⟩) | ((with_reducible refine (C2.out _).mono ?_); rintro e w2 ⟨rfl, rfl⟩) | ((with_reducible refine (C3.out _).mono ?_); rintro e w2 ⟨rfl, rfl⟩))
    clear C1 C2 C3 f1 f2 f3 f7 i2 i3 i4 b0 HR
    obtain ⟨x, hx⟩ : ∃ x, x = ((q4 || op == 0) && (q5 || n == 0) && (q6 || to_ == 0)) := ⟨_, rfl⟩
    rw [← hx] at hr
    have HR := Aside0.mk hr
    have HX := Aside0.mk hx
    clear hr hx
    go_cut [46] (fun s46 wx => s46 = .bool (!x) ∧ W1 = wx)
    case first =>
      clear HR
      have e4 : (q4 = false ∧ (op == 0) = false) ∨ (q4 = true) ∨ (q4 = false ∧ op = 0) := by
        cases q4
        · by_cases h : op = 0
          · exact .inr (.inr ⟨rfl, h⟩)
          · exact .inl ⟨rfl, by simpa using h⟩
        · exact .inr (.inl rfl)
      have e5 : (q5 = false ∧ (n == 0) = false) ∨ (q5 = true) ∨ (q5 = false ∧ n = 0) := by
        cases q5
        · by_cases h : n = 0
          · exact .inr (.inr ⟨rfl, h⟩)
          · exact .inl ⟨rfl, by simpa using h⟩
        · exact .inr (.inl rfl)
      have e6 : (q6 = false ∧ (to_ == 0) = false) ∨ (q6 = true) ∨ (q6 = false ∧ to_ = 0) := by
        cases q6
        · by_cases h : to_ = 0
          · exact .inr (.inr ⟨rfl, h⟩)
          · exact .inl ⟨rfl, by simpa using h⟩
        · exact .inr (.inl rfl)
      rcases e4 with ⟨rfl, h4⟩ | rfl | ⟨rfl, rfl⟩
      · have h4' : (op != 0) = true := by simp [bne, h4]
        clear e5 e6
        go_wp2_with fail
        go_meet
        exact ⟨by rw [HX.out]; simp [h4], rfl⟩
      all_goals
        rcases e5 with ⟨rfl, h5⟩ | rfl | ⟨rfl, rfl⟩
        · have h5' : (n != 0) = true := by simp [bne, h5]
          clear e6
          go_wp2_with fail
          go_meet
          exact ⟨by rw [HX.out]; simp [h5], rfl⟩
        all_goals
          rcases e6 with ⟨rfl, h6⟩ | rfl | ⟨rfl, rfl⟩
          · have h6' : (to_ != 0) = true := by simp [bne, h6]
            go_wp2_with fail
            go_meet
            exact ⟨by rw [HX.out]; simp [h6], rfl⟩
          all_goals
            go_wp2_with fail
            go_meet
            exact ⟨by rw [HX.out]; simp, rfl⟩
    case rest =>
      obtain ⟨rfl, rfl⟩ := hcut
      clear HX
      cases x with
      | false =>
        go_wp2_with fail
        go_ret
        exact ⟨by rw [← HR.out]; rfl, HB1.out⟩
      | true =>
        have hr := HR.out
        rw [Bool.true_and] at hr
        unfold opB at hr
        replace HR := Aside0.mk hr
        clear hr
        by_cases o0 : 0 ≤ op
        case neg =>
          have hr := HR.out
          rw [decide_eq_false o0] at hr
          replace HR := Aside0.mk hr
          have o0' : decide (0 ≤ op) = false := decide_eq_false o0
          clear hr o0
          go_wp2_with fail
          go_ret
          exact ⟨by rw [← HR.out]; rfl, HB1.out⟩
        by_cases o1 : op ≤ 18
        case neg =>
          have hr := HR.out
          rw [decide_eq_false o1, decide_eq_true o0] at hr
          replace HR := Aside0.mk hr
          have o0' : decide (0 ≤ op) = true := decide_eq_true o0
          have o1' : decide (op ≤ 18) = false := decide_eq_false o1
          clear hr o0 o1
          go_wp2_with fail
          go_ret
          exact ⟨by rw [← HR.out]; rfl, HB1.out⟩
        have hr := HR.out
        rw [decide_eq_true o1, decide_eq_true o0] at hr
        have o0' : decide (0 ≤ op) = true := decide_eq_true o0
        have o1' : decide (op ≤ 18) = true := decide_eq_true o1
        obtain ⟨m, hm⟩ : ∃ m, m = inumB k n locks := ⟨_, rfl⟩
        rw [← hm, Bool.true_and, Bool.true_and] at hr
        replace HR := Aside0.mk hr
        have CN := Aside0.mk (fun W => ins_number.calls 2 k op d a b n to_ locks m W (by rw [inumB_f, hm]))
        clear hr o0 o1 hm
        have i0 : W1.cell? ⟨g3, 0, none⟩ = some (.int .i64 k) := (blk_cell BI.out 0).trans rfl
        have i2 : W1.cell? ⟨g3, 2, none⟩ = some (.int .i64 d) := (blk_cell BI.out 2).trans rfl
        have i3 : W1.cell? ⟨g3, 3, none⟩ = some (.int .i64 a) := (blk_cell BI.out 3).trans rfl
        have i4 : W1.cell? ⟨g3, 4, none⟩ = some (.int .i64 b) := (blk_cell BI.out 4).trans rfl
        cases m with
        | false =>
          go_wp2_with (go_at_call 48; (with_reducible refine (CN.out _).mono ?_); rintro e w2 ⟨rfl, hb⟩; have HB2 := Aside0.mk (below_step HB1.out hb); clear hb)
          go_ret
          exact ⟨by rw [← HR.out]; rfl, HB2.out⟩
        | true =>
          have hr := HR.out
          rw [Bool.true_and] at hr
          replace HR := Aside0.mk hr
          clear hr
          by_cases t0 : 0 ≤ to_
          case neg =>
            have hr := HR.out
            rw [decide_eq_false t0] at hr
            replace HR := Aside0.mk hr
            have t0' : decide (0 ≤ to_) = false := decide_eq_false t0
            clear hr t0
            go_wp2_with (go_at_call 48; (with_reducible refine (CN.out _).mono ?_); rintro e w2 ⟨rfl, hb⟩; have HB2 := Aside0.mk (below_step HB1.out hb); have i6' : w2.cell? ⟨g3, 6, none⟩ = some (.int .i64 to_) := (blk_cell (blk_below BI.out hb) 6).trans rfl; clear hb)
            go_ret
            exact ⟨by rw [← HR.out]; rfl, HB2.out⟩
          have t0' : decide (0 ≤ to_) = true := decide_eq_true t0
          have hr := HR.out
          rw [decide_eq_true t0, Bool.true_and] at hr
          replace HR := Aside0.mk hr
          clear hr t0
          go_wp2_with (go_at_call 48; (with_reducible refine (CN.out _).mono ?_); rintro e w2 ⟨rfl, hb⟩; have HB2 := Aside0.mk (below_step HB1.out hb); have i6' : w2.cell? ⟨g3, 6, none⟩ = some (.int .i64 to_) := (blk_cell (blk_below BI.out hb) 6).trans rfl; clear hb)
          go_ret
          exact ⟨by rw [← HR.out]; rfl, HB2.out⟩
  · have hq : q0.toList = [] := by rw [H0.out]; exact out_empty _ hk
    have hr := HR.out
    rw [show decide (0 ≤ k ∧ k < 14) = false from decide_eq_false hk] at hr
    replace HR := Aside0.mk hr
    clear hr hk
    go_wp2_with fail
    go_ret
    exact ⟨by rw [← HR.out]; rfl, HB1.out⟩
end Go.Proofs.YtggfikekggcclaaDoor.PInsChecks
