-- HAND paling/ins.Check rounds=0 making=1 needs=paling/ins.right;paling/ins.of
import Derived.Test.YtggfikekggcclaaDoorPInsChecksx0
import Derived.Test.YtggfikekggcclaaDoorPInsCheckshforms
import Derived.Test.YtggfikekggcclaaDoorPInsCheckshidxCode
import Derived.Test.YtggfikekggcclaaDoorPInsCheckshinsright
import Derived.Test.YtggfikekggcclaaDoorPInsCheckshscan
import Derived.OneCell
namespace Go.Proofs.YtggfikekggcclaaDoor.PInsChecks
open Go.RowKit Go.Proofs.YtggfikekggcclaaDoorW.PrintWords Go.Proofs.YtggfikekggcclaaDoorW.PrintLast Go.Proofs.YtggfikekggcclaaDoorW.PrintMore
set_option linter.unusedVariables false
set_option linter.unusedSimpArgs false
open Go.Shelf
/-! ins.Check: may a code be? -/
def rightS (x : S23) (size regs locks : Int) : Bool := rightB x.f0 x.f1 x.f2 x.f3 x.f4 x.f5 x.f6 size regs locks
set_option maxHeartbeats 1000000 in
theorem ins_check1.calls (x : S23) (A0 : Option Addr) (len c0 g2 g3 : Nat) (regs locks : Int) (r : Bool) (W : World) (hr : (!rightS x len regs locks) = r) (hgl : GlobOK W)
    (h2 : W.heap[g2]? = some (.cells #[.slice A0 len c0] 40 (0, 0))) (h3 : W.heap[g3]? = some (.cells #[.int .i64 regs, .int .i64 locks] 35 (0, 0))) :
    Calls Tryd.prog 35 #[.agg #[.int .i64 x.f0, .int .i64 x.f1, .int .i64 x.f2, .int .i64 x.f3, .int .i64 x.f4, .int .i64 x.f5, .int .i64 x.f6], .pointer (some ⟨g2, 0, none⟩), .pointer (some ⟨g3, 0, none⟩)] W fun e w' => e = .returned (.bool r) ∧ Below W.heap.size W w' := by
  obtain ⟨k, op, d, a, b, n, to_⟩ := x
  have CR := Aside0.mk (fun w hg => ins_right.calls k op d a b n to_ len regs locks _ w rfl hg)
  have HR := Aside0.mk hr
  have HGL := Aside0.mk (hgl.alloc (.cells #[.int .i64 k, .int .i64 op, .int .i64 d, .int .i64 a, .int .i64 b, .int .i64 n, .int .i64 to_] 23 (0, 0)))
  have hc2 : W.cell? ⟨g2, 0, none⟩ = some (.slice A0 len c0) := cell_of_one h2
  have hc30 : W.cell? ⟨g3, 0, none⟩ = some (.int .i64 regs) := (blk_cell h3 0).trans rfl
  have hc31 : W.cell? ⟨g3, 1, none⟩ = some (.int .i64 locks) := (blk_cell h3 1).trans rfl
  have l2 := blk_lt h2
  have l3 := blk_lt h3
  clear hr hgl h2 h3
  go_enter Tryd.func35, Tryd.ntmps35
  go_wp2_with fail
  refine (CR.out _ HGL.out).mono ?_
  rintro e w' ⟨rfl, hb⟩
  have HB := Aside0.mk (below_step ((Below.refl _ _).alloc (Nat.le_refl _) _) hb)
  clear hb CR HGL
  go_wp2_with fail
  go_ret
  exact ⟨by rw [← HR.out]; rfl, HB.out⟩
def icheckB (l : List S23) (regs locks : Int) : Bool :=
  decide (1 ≤ l.length ∧ l.length ≤ 4096) && l.all (fun x => rightS x l.length regs locks) && ((l.getD (l.length - 1) z23).f0 == 6 || fmB 9 (l.getD (l.length - 1) z23).f0)
def ins_Check.f (l0 : List S23) (a1_0 a1_1 : Int) : Option Bool := some (icheckB l0 a1_0 a1_1)
theorem scan_any {α : Type} (p : α → Bool) (l : List α) : decide ((scanIdx (σ := Unit) (fun _ x => !p x) (fun _ _ => ()) () l 0).1 ≥ 0) = !l.all p := by
  rw [scanIdx_unit]
  cases h : l.findIdx? (fun x => !p x) with
  | none =>
    have := List.findIdx?_eq_none_iff.1 h
    have h2 : l.all p = true := List.all_eq_true.2 (fun x hx => by simpa using this x hx)
    rw [h2]
    rfl
  | some i =>
    have h1 : l.all p = false := by
      rw [Bool.eq_false_iff]
      intro h2
      obtain ⟨hi, hp, _⟩ := List.findIdx?_eq_some_iff_getElem.1 h
      rw [List.all_eq_true] at h2
      rw [h2 _ (List.getElem_mem hi)] at hp
      exact absurd hp (by simp)
    rw [h1]
    simp
set_option maxHeartbeats 4000000 in
set_option maxRecDepth 100000 in
theorem ins_Check.calls (A0 : Option Addr) (c0 : Nat) (l0 : List S23) (a1_0 a1_1 : Int) (r : Bool) (w : World) (hr0 : Kd.C k23 w A0 l0.length l0) (hc0 : l0.length ≤ c0) (h : ins_Check.f l0 a1_0 a1_1 = some r) (hgl : GlobOK w) :
    Calls Tryd.prog 17 #[.slice A0 l0.length c0, .agg #[.int .i64 a1_0, .int .i64 a1_1]] w fun e w' => e = .returned (.bool r) ∧ Below w.heap.size w w' := by
  replace h := Option.some.inj h
  unfold icheckB at h
  have hmf : ∀ (fn : Fn) (first cap : Array Value) (w : World), (Instr.makeFunc fn first cap).run Tryd.prog w = .ok (.func fn first cap) w := fun _ _ _ _ => rfl
  by_cases h1 : 1 ≤ l0.length
  · by_cases h2 : l0.length ≤ 4096
    · rw [show decide (1 ≤ l0.length ∧ l0.length ≤ 4096) = true from decide_eq_true ⟨h1, h2⟩, Bool.true_and] at h
      have HR := Aside0.mk h
      have HGL := Aside0.mk hgl
      have HRow := Aside0.mk hr0
      have hk0 : (0 : Int) ≤ (l0.length : Int) - 1 := by omega
      have hk1 : (l0.length : Int) - 1 < (l0.length : Int) := by omega
      have hB2 := Below.alloc (below_alloc (Below.refl w.heap.size w) (.cells #[.slice A0 l0.length c0] 40 (0, 0))) (by simp) (.cells #[.int .i64 a1_0, .int .i64 a1_1] 35 (0, 0))
      have hRow2 := Kd.C_below hr0 hB2
      obtain ⟨ad, e101, c_0, c_1, c_2, c_3, c_4, c_5, c_6⟩ := at_T23 hRow2 ((l0.length : Int) - 1) hk0 hk1
      subst e101
      obtain ⟨y, hy⟩ : ∃ y, y = rd_T23 l0 ((l0.length : Int) - 1) := ⟨_, rfl⟩
      rw [← hy] at c_0 c_1 c_2 c_3 c_4 c_5 c_6
      rw [show ((l0.length : Int) - 1).toNat = l0.length - 1 by omega] at c_0 c_1 c_2 c_3 c_4 c_5 c_6
      have hy' : y = l0.getD (l0.length - 1) z23 := by rw [hy]; unfold rd_T23; rw [show ((l0.length : Int) - 1).toNat = l0.length - 1 by omega]
      have HY := Aside0.mk hy'
      clear hy'
      have hd1 : decide ((l0.length : Int) < 1) = false := decide_eq_false (by omega)
      have hd2 : decide ((4096 : Int) < (l0.length : Int)) = false := decide_eq_false (by omega)
      clear hgl hr0 h hRow2 hB2 hy
      go_enter Tryd.func17, Tryd.ntmps17
      go_wp2_with fail
      obtain ⟨W3, hW3⟩ : ∃ W, W = ((w.alloc (.cells #[.slice (some ad) l0.length c0] 40 (0, 0))).alloc (.cells #[.int .i64 a1_0, .int .i64 a1_1] 35 (0, 0))).alloc (.cells #[.int .i64 y.f0, .int .i64 y.f1, .int .i64 y.f2, .int .i64 y.f3, .int .i64 y.f4, .int .i64 y.f5, .int .i64 y.f6] 23 (0, 0)) := ⟨_, rfl⟩
      have hs1 : (w.alloc (.cells #[.slice (some ad) l0.length c0] 40 (0, 0))).heap.size = w.heap.size + 1 := by simp
      have hs2 : ((w.alloc (.cells #[.slice (some ad) l0.length c0] 40 (0, 0))).alloc (.cells #[.int .i64 a1_0, .int .i64 a1_1] 35 (0, 0))).heap.size = w.heap.size + 2 := by simp
      have B1 : W3.heap[w.heap.size]? = some (.cells #[.slice (some ad) l0.length c0] 40 (0, 0)) := by rw [hW3]; exact blk_alloc (blk_alloc (blk_new w _) _) _
      have B2 : W3.heap[w.heap.size + 1]? = some (.cells #[.int .i64 a1_0, .int .i64 a1_1] 35 (0, 0)) := by rw [hW3, ← hs1]; exact blk_alloc (blk_new _ _) _
      have B3 : W3.heap[w.heap.size + 2]? = some (.cells #[.int .i64 y.f0, .int .i64 y.f1, .int .i64 y.f2, .int .i64 y.f3, .int .i64 y.f4, .int .i64 y.f5, .int .i64 y.f6] 23 (0, 0)) := by rw [hW3, ← hs2]; exact blk_new _ _
      have HB := Aside0.mk (show Below w.heap.size w W3 by rw [hW3]; exact below_alloc (below_alloc (below_alloc (Below.refl w.heap.size w) _) _) _)
      rw [← hW3]
      clear hW3 hs1 hs2 c_0 c_1 c_2 c_3 c_4 c_5 c_6
      have hcl := hasCode.calls (σ := Unit) (fun _ x => !rightS x l0.length a1_0 a1_1) (fun _ _ => ()) (fun _ W => Below W3.heap.size W3 W) #[.pointer (some ⟨w.heap.size, 0, none⟩), .pointer (some ⟨w.heap.size + 1, 0, none⟩)] 35 (some ad) c0 l0 () W3 (by omega)
        (enters_ Tryd.func35 (by kernel_rfl) rfl) (fun _ W hb => Kd.C_below (Kd.C_below HRow.out HB.out) hb) (Below.refl _ _)
        (fun s x W hb => (ins_check1.calls x (some ad) l0.length c0 w.heap.size (w.heap.size + 1) a1_0 a1_1 _ W rfl ((HGL.out.step HB.out).step hb) (blk_below B1 hb) (blk_below B2 hb)).mono (fun e w' ⟨h1, h2⟩ => ⟨h1, below_step hb h2⟩))
      rw [scan_any (fun x => rightS x l0.length a1_0 a1_1) l0] at hcl
      obtain ⟨q, hq⟩ : ∃ q, q = l0.all (fun x => rightS x l0.length a1_0 a1_1) := ⟨_, rfl⟩
      have hr := HR.out
      rw [← hq] at hcl hr
      replace HR := Aside0.mk hr
      have HC := Aside0.mk hcl
      clear hcl hr hq
      refine HC.out.mono ?_
      rintro e w4 ⟨rfl, hb⟩
      have c40 : w4.cell? ⟨w.heap.size + 2, 0, none⟩ = some (.int .i64 y.f0) := (blk_cell (blk_below B3 hb) 0).trans rfl
      have HB4 := Aside0.mk (below_step HB.out hb)
      have HG4 := Aside0.mk ((HGL.out.step HB.out).step hb)
      have hyy := HY.out
      have hr := HR.out
      rw [← hyy] at hr
      clear HC hb HB HGL HR HRow B1 B2 B3 HY hyy
      obtain ⟨kk, hkk⟩ : ∃ kk, kk = y.f0 := ⟨_, rfl⟩
      rw [← hkk] at hr c40
      clear hkk
      have HR := Aside0.mk hr
      clear hr
      cases q with
      | false =>
        go_wp2_with fail
        go_ret
        exact ⟨by rw [← HR.out]; rfl, HB4.out⟩
      | true =>
        have hr := HR.out
        rw [Bool.true_and] at hr
        by_cases hj : kk = 6
        · subst hj
          have hr' : r = true := by rw [← hr]; rfl
          subst hr'
          clear hr HR
          go_wp2_with fail
          go_ret
          exact ⟨rfl, HB4.out⟩
        · have hj' : (kk == 6) = false := by simpa using hj
          rw [hj', Bool.false_or] at hr
          have HFF := form_field9
          obtain ⟨q0, h0⟩ : ∃ b, b = fmW kk := ⟨_, rfl⟩
          obtain ⟨q1, h1⟩ : ∃ b, b = fmB 1 kk := ⟨_, rfl⟩
          obtain ⟨q2, h2⟩ : ∃ b, b = fmB 2 kk := ⟨_, rfl⟩
          obtain ⟨q3, h3⟩ : ∃ b, b = fmB 3 kk := ⟨_, rfl⟩
          obtain ⟨q4, h4⟩ : ∃ b, b = fmB 4 kk := ⟨_, rfl⟩
          obtain ⟨q5, h5⟩ : ∃ b, b = fmB 5 kk := ⟨_, rfl⟩
          obtain ⟨q6, h6⟩ : ∃ b, b = fmB 6 kk := ⟨_, rfl⟩
          obtain ⟨q7, h7⟩ : ∃ b, b = fmB 7 kk := ⟨_, rfl⟩
          obtain ⟨q8, h8⟩ : ∃ b, b = fmB 8 kk := ⟨_, rfl⟩
          obtain ⟨q9, h9⟩ : ∃ b, b = fmB 9 kk := ⟨_, rfl⟩
          have HV := Aside0.mk (show formV kk = .agg #[.string q0, .bool q1, .bool q2, .bool q3, .bool q4, .bool q5, .bool q6, .bool q7, .bool q8, .bool q9] by unfold formV; rw [← h0, ← h1, ← h2, ← h3, ← h4, ← h5, ← h6, ← h7, ← h8, ← h9])
          rw [← h9] at hr
          subst hr
          clear HR h0 h1 h2 h3 h4 h5 h6 h7 h8 h9 hj
          go_wp2_with (go_at_call 21; (with_reducible refine (ins_ofV.calls kk _ HG4.out).mono ?_); rintro e w5 ⟨rfl, hb⟩; rw [HV.out]; have HB5 := Aside0.mk (below_step HB4.out hb); clear hb)
          go_ret
          exact ⟨rfl, HB5.out⟩
    · have hr : r = false := by rw [← h]; simp [h2]
      subst hr
      have hd1 : decide ((l0.length : Int) < 1) = false := decide_eq_false (by omega)
      have hd2 : decide ((4096 : Int) < (l0.length : Int)) = true := decide_eq_true (by omega)
      clear h h1 h2 hgl hr0
      go_enter Tryd.func17, Tryd.ntmps17
      go_wp2_with fail
      go_ret
      exact ⟨rfl, ((Below.refl _ _).alloc (Nat.le_refl _) _).alloc (by simp) _⟩
  · have hl : l0 = [] := List.eq_nil_of_length_eq_zero (by omega)
    subst hl
    have hr : r = false := by rw [← h]; rfl
    subst hr
    clear h h1 hgl hr0
    go_enter Tryd.func17, Tryd.ntmps17
    go_wp2_with fail
    go_ret
    exact ⟨rfl, ((Below.refl _ _).alloc (Nat.le_refl _) _).alloc (by simp) _⟩
end Go.Proofs.YtggfikekggcclaaDoor.PInsChecks
