import Derived.Test.YtdopacgaklaaeaaDoorPDeadRunsx0
import Derived.Test.YtdopacgaklaaeaaDoorPDeadRunshforms
import Derived.Test.YtdopacgaklaaeaaDoorPDeadRunshg7
import Derived.Test.YtdopacgaklaaeaaDoorShelf
import Derived.Lib.OwnBridge
import Derived.OneCell
-- HAND paling/ins.Next rounds=0 making=1 needs=paling/ins.of
namespace Go.Proofs.YtdopacgaklaaeaaDoor.PDeadRuns
open Go.RowKit Go.Proofs.YtdopacgaklaaeaaDoorW.PrintWords Go.Proofs.YtdopacgaklaaeaaDoorW.PrintLast Go.Proofs.YtdopacgaklaaeaaDoorW.PrintMore
set_option linter.unusedVariables false
set_option linter.unusedSimpArgs false
open Go.Shelf Go.Sort
/-! ins.Next: where an instruction may go to. -/
def twoL (a b : Int) : List Int := Lib.compact ([a, b].mergeSort (fun x y => decide (x ≤ y)))
def ins_Next.f (a0_0 : Int) (a0_1 : Int) (a0_2 : Int) (a0_3 : Int) (a0_4 : Int) (a0_5 : Int) (a0_6 : Int) (a1 : Int) : Option (List Int) :=
  some (if ¬ (0 ≤ a0_0 ∧ a0_0 < 14) ∨ fmB 9 a0_0 = true then [] else if a0_0 = 6 then [a0_6] else if a0_0 = 7 then twoL (wrap64 (a1 + 1)) a0_6 else [wrap64 (a1 + 1)])
set_option maxRecDepth 100000 in
theorem fmWTab : (List.range 14).all (fun k => !(fmW (k : Int)).toList.isEmpty) = true := by kernel_rfl
theorem fmW_in (k : Int) (h : 0 ≤ k ∧ k < 14) : ¬ (fmW k).toList = [] := by
  have h1 := List.all_eq_true.1 fmWTab k.toNat (by rw [List.mem_range]; omega)
  rw [show ((k.toNat : Nat) : Int) = k by omega] at h1
  intro h2
  rw [h2] at h1
  exact absurd h1 (by simp)
theorem own_lit (W : World) (base e : Nat) (cs : List Value) (hb : base ≤ W.heap.size) (hl : cs.length ≤ 1000) : (W.alloc (.cells cs.toArray e (0, 0))).ownsRow base e 1 (.slice (some ⟨W.heap.size, 0, none⟩) cs.length cs.length) cs.length cs :=
  ⟨by omega, .inr ⟨W.heap.size, cs.length, cs.toArray, rfl, hb, blk_new W _, Nat.le_refl _, by unfold maxLen; omega, by simp, by simp⟩⟩
theorem out_empty (k : Int) (h : ¬ (0 ≤ k ∧ k < 14)) : (fmW k).toList = [] := by rw [fmW_out k h, ByteArray.toList, ByteArray.toList.loop]; rfl
set_option maxHeartbeats 4000000 in
set_option maxRecDepth 100000 in
theorem ins_Next.calls (a0_0 : Int) (a0_1 : Int) (a0_2 : Int) (a0_3 : Int) (a0_4 : Int) (a0_5 : Int) (a0_6 : Int) (a1 : Int) (r : List Int) (w : World) (h : ins_Next.f a0_0 a0_1 a0_2 a0_3 a0_4 a0_5 a0_6 a1 = some r) (hgl : GlobOK w) :
    Calls Tryd.prog 67 #[.agg #[.int .i64 a0_0, .int .i64 a0_1, .int .i64 a0_2, .int .i64 a0_3, .int .i64 a0_4, .int .i64 a0_5, .int .i64 a0_6], .int .i64 a1] w fun e w' => ∃ v0_ : Value, e = .returned (v0_) ∧ Kd.R (Kd.int .i64) 3 w' w.heap.size (fun _ => True) v0_ r ∧ Below w.heap.size w w' := by
  unfold ins_Next.f at h
  replace h := Option.some.inj h
  have HGL := Aside0.mk hgl
  clear hgl
  obtain ⟨q0, h0⟩ : ∃ b, b = fmW a0_0 := ⟨_, rfl⟩
  obtain ⟨q1, h1⟩ : ∃ b, b = fmB 1 a0_0 := ⟨_, rfl⟩
  obtain ⟨q2, h2⟩ : ∃ b, b = fmB 2 a0_0 := ⟨_, rfl⟩
  obtain ⟨q3, h3⟩ : ∃ b, b = fmB 3 a0_0 := ⟨_, rfl⟩
  obtain ⟨q4, h4⟩ : ∃ b, b = fmB 4 a0_0 := ⟨_, rfl⟩
  obtain ⟨q5, h5⟩ : ∃ b, b = fmB 5 a0_0 := ⟨_, rfl⟩
  obtain ⟨q6, h6⟩ : ∃ b, b = fmB 6 a0_0 := ⟨_, rfl⟩
  obtain ⟨q7, h7⟩ : ∃ b, b = fmB 7 a0_0 := ⟨_, rfl⟩
  obtain ⟨q8, h8⟩ : ∃ b, b = fmB 8 a0_0 := ⟨_, rfl⟩
  obtain ⟨q9, h9⟩ : ∃ b, b = fmB 9 a0_0 := ⟨_, rfl⟩
  rw [← h9] at h
  have HR := Aside0.mk h
  clear h
  have HV := Aside0.mk (show formV a0_0 = .agg #[.string q0, .bool q1, .bool q2, .bool q3, .bool q4, .bool q5, .bool q6, .bool q7, .bool q8, .bool q9] by unfold formV; rw [← h0, ← h1, ← h2, ← h3, ← h4, ← h5, ← h6, ← h7, ← h8, ← h9])
  have H0 := Aside0.mk h0
  have H9 := Aside0.mk h9
  clear h0 h1 h2 h3 h4 h5 h6 h7 h8 h9
  go_enter Tryd.func67, Tryd.ntmps67
  go_wp2_with fail
  refine (ins_ofV.calls a0_0 _ (HGL.out.alloc _)).mono ?_
  rintro e w' ⟨rfl, hb⟩
  rw [HV.out]
  have BK1 := Aside0.mk (blk_below (blk_new w (.cells #[.int .i64 a0_0, .int .i64 a0_1, .int .i64 a0_2, .int .i64 a0_3, .int .i64 a0_4, .int .i64 a0_5, .int .i64 a0_6] 28 (0, 0))) hb)
  have HB := Aside0.mk (below_step ((Below.refl _ _).alloc (Nat.le_refl _) _) hb)
  clear hb HGL HV
  have BK3 := Aside0.mk (blk_new w' (.cells #[.string q0, .bool q1, .bool q2, .bool q3, .bool q4, .bool q5, .bool q6, .bool q7, .bool q8, .bool q9] 83 (0, 0)))
  have BK2 := Aside0.mk (blk_alloc BK1.out (.cells #[.string q0, .bool q1, .bool q2, .bool q3, .bool q4, .bool q5, .bool q6, .bool q7, .bool q8, .bool q9] 83 (0, 0)))
  have HB1 := Aside0.mk (below_alloc HB.out (.cells #[.string q0, .bool q1, .bool q2, .bool q3, .bool q4, .bool q5, .bool q6, .bool q7, .bool q8, .bool q9] 83 (0, 0)))
  by_cases hk : 0 ≤ a0_0 ∧ a0_0 < 14
  · have hq : ¬ q0.toList = [] := by rw [H0.out]; exact fmW_in _ hk
    go_upto_if 10 with fail
    have he : q0.toList.isEmpty = false := by cases hh : q0.toList with
      | nil => exact absurd hh hq
      | cons a l => rfl
    rw [he, Bool.false_or]
    clear he hq
    clear BK1 HB
    generalize (w'.alloc (.cells #[.string q0, .bool q1, .bool q2, .bool q3, .bool q4, .bool q5, .bool q6, .bool q7, .bool q8, .bool q9] 83 (0, 0))) = W1 at BK3 BK2 HB1 ⊢
    have ck_ : W1.cell? ⟨w.heap.size, 0, none⟩ = some (.int .i64 a0_0) := (blk_cell BK2.out 0).trans rfl
    have ct_ : W1.cell? ⟨w.heap.size, 6, none⟩ = some (.int .i64 a0_6) := (blk_cell BK2.out 6).trans rfl
    cases q9 with
    | true =>
      have hr := HR.out
      rw [if_pos (Or.inr rfl)] at hr
      replace HR := Aside0.mk hr
      clear hr hk
      go_wp2_with fail
      go_ret
      exact ⟨_, rfl, by rw [← HR.out]; exact Kd.R_nil _ _ _ _ _, HB1.out⟩
    | false =>
      have hr := HR.out
      rw [if_neg (by intro h_; rcases h_ with h_ | h_; exact h_ hk; exact absurd h_ (by simp))] at hr
      clear hk
      by_cases h6 : a0_0 = 6
      · rw [if_pos h6] at hr
        replace HR := Aside0.mk hr
        clear hr
        go_wp2_with fail
        go_ret
        refine ⟨_, rfl, by rw [← HR.out]; exact Kd.R_of_own (own_lit _ _ _ [.int .i64 a0_6] HB1.out.size (by simp)) (fun _ _ => trivial), below_alloc HB1.out _⟩
      · rw [if_neg h6] at hr
        by_cases h7 : a0_0 = 7
        · rw [if_pos h7] at hr
          replace HR := Aside0.mk hr
          clear hr
          go_wp2_with fail
          obtain ⟨W2, hW2⟩ : ∃ W2, W2 = W1.alloc (.cells #[.int .i64 (wrap64 (a1 + 1)), .int .i64 a0_6] 3 (0, 0)) := ⟨_, rfl⟩
          obtain ⟨x, hx⟩ : ∃ x, x = wrap64 (a1 + 1) := ⟨_, rfl⟩
          obtain ⟨S, hS⟩ : ∃ S, S = [x, a0_6].mergeSort (fun x y => decide (x ≤ y)) := ⟨_, rfl⟩
          have hSl : S.length = 2 := by rw [hS, List.length_mergeSort]; rfl
          have hcl := compact_len S
          have hr := HR.out
          rw [twoL, ← hx, ← hS] at hr
          replace HR := Aside0.mk hr
          have own2 : W2.ownsRow w.heap.size 3 1 (.slice (some ⟨W1.heap.size, 0, none⟩) 2 2) 2 ([x, a0_6].map (Value.int .i64)) := by
            rw [hW2, hx]
            exact own_lit W1 w.heap.size 3 [.int .i64 (wrap64 (a1 + 1)), .int .i64 a0_6] HB1.out.size (by simp)
          have B2 := Aside0.mk (show Below w.heap.size w W2 by rw [hW2]; exact below_alloc HB1.out _)
          have hg : w.heap.size ≤ W1.heap.size := HB1.out.size
          rw [← hW2]
          clear hW2 hx hr
          obtain ⟨g1, cap1, e1, _, hlt1, hn1, _, _, hH1⟩ := Lib.holds_of_ownsRow own2 (by simp)
          injection e1 with ea _ ec
          injection ea with ea
          injection ea with ea
          subst ec
          rw [← ea] at hlt1 hH1
          have c2 := Tryd.slices_Sort_int W1.heap.size 0 2 [x, a0_6] W2 hH1 hlt1 (by simp)
          rw [← hS] at c2
          change Calls Tryd.prog 79 #[.slice (some ⟨W1.heap.size, 0, none⟩) 2 2] _ _ at c2
          refine c2.mono ?_
          rintro e w3 ⟨rfl, n, os, hw3⟩
          have o3 : w3.ownsRow w.heap.size 3 1 (.slice (some ⟨W1.heap.size, 0, none⟩) 2 2) 2 (S.map (Value.int .i64)) := by
            rw [hw3]
            have := Lib.ownsRow_putRow (q := n) (k := 2) (ys := S) own2 hSl (Nat.le_refl _)
            rw [List.take_of_length_le (by omega)] at this
            exact own_grow this os
          have b3 := Aside0.mk (show Below w.heap.size w w3 by
            rw [hw3]
            exact below_grow' (Lib.below_putRow (enc := Value.int .i64) (q := n) (d := S.toArray) B2.out hg) os (by have := B2.out.size; simp [putRow, mapBlock, Sort.ahead]; omega))
          clear hw3 c2 hH1 hlt1 hn1 own2 B2
          obtain ⟨g1, cap1, e1, _, hlt1, hn1, _, _, hH1⟩ := Lib.holds_of_ownsRow o3 (by simp)
          injection e1 with eb _ ec
          injection eb with eb
          injection eb with eb
          subst ec
          rw [← eb] at hlt1 hH1
          have c3 := Tryd.slices_Compact_int W1.heap.size 0 2 S w3 hH1 (by omega) (by omega)
          rw [hSl] at c3
          change Calls Tryd.prog 80 #[.slice (some ⟨W1.heap.size, 0, none⟩) 2 2] _ _ at c3
          have O3 := Aside0.mk (fun (q : Nat) => (by
            have := Lib.ownsRow_putRow (q := q) (k := (Lib.compact S).length) (ys := Lib.compact S ++ List.replicate (2 - (Lib.compact S).length) 0) o3 (by simp; omega) (by omega)
            simpa using this : (putRow (Value.int .i64) (Sort.ahead w3 q) W1.heap.size 0 (Lib.compact S ++ List.replicate (2 - (Lib.compact S).length) 0).toArray).ownsRow w.heap.size 3 1 (.slice (some ⟨W1.heap.size, 0, none⟩) (Lib.compact S).length 2) (Lib.compact S).length ((Lib.compact S).map (Value.int .i64))))
          have B3 := Aside0.mk (fun (q : Nat) => Lib.below_putRow (enc := Value.int .i64) (q := q) (d := (Lib.compact S ++ List.replicate (2 - (Lib.compact S).length) 0).toArray) b3.out hg)
          have HS := Aside0.mk hS
          clear hH1 hlt1 hn1 o3 hS hSl hcl hg ea eb
          go_wp2_with fail
          refine c3.mono ?_
          rintro e w4 ⟨rfl, q, hw4⟩
          have o4 := Aside0.mk (O3.out q)
          have b4 := Aside0.mk (B3.out q)
          rw [← hw4] at o4 b4
          clear hw4 c3 O3 B3
          go_wp2_with fail
          go_ret
          exact ⟨_, rfl, by rw [← HR.out]; exact Kd.R_of_own o4.out (fun _ _ => trivial), b4.out⟩
        · rw [if_neg h7] at hr
          replace HR := Aside0.mk hr
          clear hr
          go_wp2_with fail
          go_ret
          refine ⟨_, rfl, by rw [← HR.out]; exact Kd.R_of_own (own_lit _ _ _ [.int .i64 (wrap64 (a1 + 1))] HB1.out.size (by simp)) (fun _ _ => trivial), below_alloc HB1.out _⟩
  · have hq : q0.toList = [] := by rw [H0.out]; exact out_empty _ hk
    have hr := HR.out
    rw [if_pos (Or.inl hk)] at hr
    replace HR := Aside0.mk hr
    clear hr hk
    go_wp2_with fail
    go_ret
    exact ⟨_, rfl, by rw [← HR.out]; exact Kd.R_nil _ _ _ _ _, HB1.out⟩
end Go.Proofs.YtdopacgaklaaeaaDoor.PDeadRuns

-- HAND paling/graph.next rounds=0 making=1 needs=paling/ins.Next
namespace Go.Proofs.YtdopacgaklaaeaaDoor.PDeadRuns
open Go.RowKit Go.Proofs.YtdopacgaklaaeaaDoorW.PrintWords Go.Proofs.YtdopacgaklaaeaaDoorW.PrintLast Go.Proofs.YtdopacgaklaaeaaDoorW.PrintMore
set_option linter.unusedVariables false
set_option linter.unusedSimpArgs false
open Go.Shelf Go.Sort
/-! graph.next: where an instruction goes to in its code. -/
def inB (n : Nat) (x : Int) : Bool := decide (x < 0) || decide (x ≥ (n : Int))
def graph_next.f (l0 : List S28) (a1 : Int) : Option (List Int) :=
  if 0 ≤ a1 ∧ a1 < (l0.length : Int) then (ins_Next.f (rd_T28 l0 a1).f0 (rd_T28 l0 a1).f1 (rd_T28 l0 a1).f2 (rd_T28 l0 a1).f3 (rd_T28 l0 a1).f4 (rd_T28 l0 a1).f5 (rd_T28 l0 a1).f6 a1).bind fun l => if l.length ≤ 1000000 then some (l.filter (fun x => !inB l0.length x)) else none
  else none
theorem own_lower' {w : World} {base base' e size n : Nat} {v : Value} {xs : List Value} (h : w.ownsRow base e size v n xs) (hb : base' ≤ base) : w.ownsRow base' e size v n xs := by
  refine ⟨h.1, h.2.imp id ?_⟩
  rintro ⟨g, cap, cur, h1, h2, h3⟩
  exact ⟨g, cap, cur, h1, Nat.le_trans hb h2, h3⟩
theorem sw_other {α : Type} [Inhabited α] {enc : α → Value} {w : World} {g off n b : Nat} {os : Array Obj} (d : Array α) (hb : b < w.heap.size) (hne : g ≠ b) : (sortWorld enc w g off n d os).heap[b]? = w.heap[b]? := by
  unfold sortWorld
  rw [heap_grow_old _ _ (by simpa using hb)]
  simp [putRow, mapBlock, Sort.ahead, Array.getElem?_modify, hne]
theorem next1.gives (x : Int) (W : World) (A0 : Option Addr) (n c B : Nat) (hB : W.heap[B]? = some (.cells #[.slice A0 n c] 32 (0, 0))) : FnGives Tryd.prog 68 #[.pointer (some ⟨B, 0, none⟩)] #[.int .i64 x] (.bool (inB n x)) W := by
  show Calls Tryd.prog 68 #[.int .i64 x, .pointer (some ⟨B, 0, none⟩)] W _
  have hc : W.cell? ⟨B, 0, none⟩ = some (.slice A0 n c) := cell_of_one hB
  unfold inB
  by_cases h0 : x < 0
  · have h0' : decide (x < 0) = true := decide_eq_true h0
    clear hB h0
    go_enter Tryd.func68, Tryd.ntmps68
    go_wp2
    go_ret
    exact ⟨by rw [h0']; rfl, 0, rfl⟩
  · have h0' : decide (x < 0) = false := decide_eq_false h0
    clear hB h0
    go_enter Tryd.func68, Tryd.ntmps68
    go_wp2
    go_ret
    exact ⟨by rw [h0', Bool.false_or]; rfl, 0, rfl⟩
set_option maxHeartbeats 1000000 in
theorem gdelete_nil (lb : Array Value) (w : World) : Calls Tryd.prog 66 #[.slice none 0 0, .func (.func 68) #[] lb] w fun e w' => e = .returned (.slice none 0 0) ∧ Below w.heap.size w w' := by
  have hcon := fun W => Tryd.slices_IndexFunc_empty (α := Int) none 0 (.func (.func 68) #[] lb) W
  go_enter Tryd.func66, Tryd.ntmps66
  go_wp2_with (go_at_call 78; refine (hcon _).mono ?_; rintro e w' ⟨rfl, rfl⟩)
  go_ret
  exact ⟨rfl, Below.refl _ _⟩
set_option maxHeartbeats 4000000 in
set_option maxRecDepth 100000 in
theorem graph_next.calls (A0 : Option Addr) (c0 : Nat) (l0 : List S28) (a1 : Int) (r : List Int) (w : World) (hr0 : Kd.C k28 w A0 l0.length l0) (hc0 : l0.length ≤ c0) (h : graph_next.f l0 a1 = some r) (hgl : GlobOK w) :
    Calls Tryd.prog 49 #[.slice A0 l0.length c0, .int .i64 a1] w fun e w' => ∃ v0_ : Value, e = .returned (v0_) ∧ Kd.R (Kd.int .i64) 3 w' w.heap.size (fun _ => True) v0_ r ∧ Below w.heap.size w w' := by
  unfold graph_next.f at h
  by_cases hr : 0 ≤ a1 ∧ a1 < (l0.length : Int)
  case neg => rw [if_neg hr] at h; exact absurd h (by simp)
  rw [if_pos hr] at h
  obtain ⟨L, h1, h2⟩ := Option.bind_eq_some_iff.1 h
  by_cases hL : L.length ≤ 1000000
  case neg => rw [if_neg hL] at h2; exact absurd h2 (by simp)
  rw [if_pos hL] at h2
  replace h2 := Option.some.inj h2
  obtain ⟨hk0, hlt⟩ := hr
  have BX := Aside0.mk (blk_new w (.cells #[.slice A0 l0.length c0] 32 (0, 0)))
  have HB1 := Aside0.mk ((Below.refl w.heap.size w).alloc (Nat.le_refl _) (.cells #[.slice A0 l0.length c0] 32 (0, 0)))
  obtain ⟨ad, e101, c_0, c_1, c_2, c_3, c_4, c_5, c_6⟩ := at_T28 (Kd.C_below hr0 HB1.out) a1 hk0 hlt
  cases e101
  obtain ⟨y, hy⟩ : ∃ y, y = rd_T28 l0 a1 := ⟨_, rfl⟩
  rw [← hy] at c_0 c_1 c_2 c_3 c_4 c_5 c_6 h1
  have CN := Aside0.mk (fun W hg => ins_Next.calls y.f0 y.f1 y.f2 y.f3 y.f4 y.f5 y.f6 a1 L W h1 hg)
  have HGL := Aside0.mk (hgl.step HB1.out)
  have HR := Aside0.mk h2
  have HL := Aside0.mk hL
  clear h h1 h2 hL hr0 hgl hy
  go_enter Tryd.func49, Tryd.ntmps49
  go_wp2_with fail
  refine (CN.out _ HGL.out).mono ?_
  rintro e w1 ⟨v1, rfl, hR, hb⟩
  have hown := Kd.own_of_R hR
  have HB2 := Aside0.mk (below_step HB1.out hb)
  have BX2 := Aside0.mk (blk_below BX.out hb)
  have HS := Aside0.mk HB1.out.size
  clear hb hR CN HGL BX c_0 c_1 c_2 c_3 c_4 c_5 c_6
  by_cases hv : v1 = .slice none 0 0
  · subst hv
    have hl : L = [] := by
      rcases hown.2 with ⟨_, h0⟩ | ⟨g, cap, cur, e0, _⟩
      · exact List.eq_nil_of_length_eq_zero h0
      · cases e0
    subst hl
    have hr := HR.out
    clear hown
    go_wp2_with (go_at_call 66; refine (gdelete_nil _ _).mono ?_; rintro e w2 ⟨rfl, hb1⟩; have HB3 := Aside0.mk (below_step HB2.out hb1); clear hb1)
    go_ret
    exact ⟨_, rfl, by rw [← hr]; exact Kd.R_nil _ _ _ _ _, HB3.out⟩
  · obtain ⟨g, cap, rfl, hg, hlt1, hn, hm, hl, hH⟩ := Lib.holds_of_ownsRow hown hv
    obtain ⟨F, hF⟩ : ∃ F, F = L.filter (fun x => !inB l0.length x) := ⟨_, rfl⟩
    have hFl : F.length ≤ L.length := by rw [hF]; exact List.length_filter_le _ _
    have hBlt : w.heap.size < w1.heap.size := blk_lt BX2.out
    have hne : g ≠ w.heap.size := by have : (w.alloc (.cells #[.slice (some ad) l0.length c0] 32 (0, 0))).heap.size = w.heap.size + 1 := by simp
                                     omega
    have c1 := Tryd.slices_DeleteFunc (Value.int .i64) (fun _ => rfl) (fun x => inB l0.length x) 68 #[.pointer (some ⟨w.heap.size, 0, none⟩)] (enters_of Tryd.func68 (by kernel_rfl) rfl) 0 Tryd.zeroValue3 g 0 cap L.toArray w1
      (fun W x hb => next1.gives x W (some ad) l0.length c0 w.heap.size (blk_below BX2.out hb))
      (fun n os dk x hs => next1.gives x _ (some ad) l0.length c0 w.heap.size ((sw_other dk hBlt hne).trans BX2.out)) hH (by have := HL.out; simp; omega) (by simpa using hn)
    change Calls Tryd.prog 66 _ _ _ at c1
    simp only [List.size_toArray, List.toList_toArray] at c1
    rw [← hF] at c1
    have hbase : w.heap.size ≤ g := by have : (w.alloc (.cells #[.slice (some ad) l0.length c0] 32 (0, 0))).heap.size = w.heap.size + 1 := by simp
                                       omega
    have own1 := Aside0.mk (fun (q : Nat) => (by
      have := Lib.ownsRow_putRow (q := q) (k := F.length) (ys := F ++ List.replicate (L.length - F.length) 0) hown (by simp; omega) hFl
      simpa using this : (putRow (Value.int .i64) (Sort.ahead w1 q) g 0 (F ++ List.replicate (L.length - F.length) 0).toArray).ownsRow _ 3 1 (.slice (some ⟨g, 0, none⟩) F.length cap) F.length (F.map (Value.int .i64))))
    have below1 := Aside0.mk (fun (q : Nat) => Lib.below_putRow (enc := Value.int .i64) (q := q) (d := (F ++ List.replicate (L.length - F.length) 0).toArray) HB2.out hbase)
    have C1 := Aside0.mk c1
    have HF := Aside0.mk (hF.trans HR.out)
    clear c1 hown hv hH hF hFl hBlt hne hbase hg hlt1 hn hm hl HR
    go_wp2_with (go_at_call 66; refine C1.out.mono ?_; rintro e w2 ⟨rfl, q, hw⟩; have o1 := Aside0.mk (own1.out q); have b1 := Aside0.mk (below1.out q); rw [← hw] at o1 b1; clear hw C1 own1 below1)
    go_ret
    exact ⟨_, rfl, by rw [← HF.out]; exact Kd.R_of_own (own_lower' o1.out (by simp)) (fun _ _ => trivial), b1.out⟩
end Go.Proofs.YtdopacgaklaaeaaDoor.PDeadRuns

-- HAND paling/live.next rounds=0 making=1 needs=paling/ins.Next
namespace Go.Proofs.YtdopacgaklaaeaaDoor.PDeadRuns
open Go.RowKit Go.Proofs.YtdopacgaklaaeaaDoorW.PrintWords Go.Proofs.YtdopacgaklaaeaaDoorW.PrintLast Go.Proofs.YtdopacgaklaaeaaDoorW.PrintMore
set_option linter.unusedVariables false
set_option linter.unusedSimpArgs false
open Go.Shelf Go.Sort
/-! live.next: where an instruction goes to in its code. -/
def linB (n : Nat) (x : Int) : Bool := decide (x < 0) || decide (x ≥ (n : Int))
def live_next.f (l0 : List S28) (a1 : Int) : Option (List Int) :=
  if 0 ≤ a1 ∧ a1 < (l0.length : Int) then (ins_Next.f (rd_T28 l0 a1).f0 (rd_T28 l0 a1).f1 (rd_T28 l0 a1).f2 (rd_T28 l0 a1).f3 (rd_T28 l0 a1).f4 (rd_T28 l0 a1).f5 (rd_T28 l0 a1).f6 a1).bind fun l => if l.length ≤ 1000000 then some (l.filter (fun x => !linB l0.length x)) else none
  else none
theorem lown_lower {w : World} {base base' e size n : Nat} {v : Value} {xs : List Value} (h : w.ownsRow base e size v n xs) (hb : base' ≤ base) : w.ownsRow base' e size v n xs := by
  refine ⟨h.1, h.2.imp id ?_⟩
  rintro ⟨g, cap, cur, h1, h2, h3⟩
  exact ⟨g, cap, cur, h1, Nat.le_trans hb h2, h3⟩
theorem lsw_other {α : Type} [Inhabited α] {enc : α → Value} {w : World} {g off n b : Nat} {os : Array Obj} (d : Array α) (hb : b < w.heap.size) (hne : g ≠ b) : (sortWorld enc w g off n d os).heap[b]? = w.heap[b]? := by
  unfold sortWorld
  rw [heap_grow_old _ _ (by simpa using hb)]
  simp [putRow, mapBlock, Sort.ahead, Array.getElem?_modify, hne]
theorem lnext1.gives (x : Int) (W : World) (A0 : Option Addr) (n c B : Nat) (hB : W.heap[B]? = some (.cells #[.slice A0 n c] 32 (0, 0))) : FnGives Tryd.prog 81 #[.pointer (some ⟨B, 0, none⟩)] #[.int .i64 x] (.bool (linB n x)) W := by
  show Calls Tryd.prog 81 #[.int .i64 x, .pointer (some ⟨B, 0, none⟩)] W _
  have hc : W.cell? ⟨B, 0, none⟩ = some (.slice A0 n c) := cell_of_one hB
  unfold linB
  by_cases h0 : x < 0
  · have h0' : decide (x < 0) = true := decide_eq_true h0
    clear hB h0
    go_enter Tryd.func81, Tryd.ntmps81
    go_wp2
    go_ret
    exact ⟨by rw [h0']; rfl, 0, rfl⟩
  · have h0' : decide (x < 0) = false := decide_eq_false h0
    clear hB h0
    go_enter Tryd.func81, Tryd.ntmps81
    go_wp2
    go_ret
    exact ⟨by rw [h0', Bool.false_or]; rfl, 0, rfl⟩
set_option maxHeartbeats 1000000 in
theorem ldelete_nil (lb : Array Value) (w : World) : Calls Tryd.prog 66 #[.slice none 0 0, .func (.func 81) #[] lb] w fun e w' => e = .returned (.slice none 0 0) ∧ Below w.heap.size w w' := by
  have hcon := fun W => Tryd.slices_IndexFunc_empty (α := Int) none 0 (.func (.func 81) #[] lb) W
  go_enter Tryd.func66, Tryd.ntmps66
  go_wp2_with (go_at_call 78; refine (hcon _).mono ?_; rintro e w' ⟨rfl, rfl⟩)
  go_ret
  exact ⟨rfl, Below.refl _ _⟩
set_option maxHeartbeats 4000000 in
set_option maxRecDepth 100000 in
theorem live_next.calls (A0 : Option Addr) (c0 : Nat) (l0 : List S28) (a1 : Int) (r : List Int) (w : World) (hr0 : Kd.C k28 w A0 l0.length l0) (hc0 : l0.length ≤ c0) (h : live_next.f l0 a1 = some r) (hgl : GlobOK w) :
    Calls Tryd.prog 70 #[.slice A0 l0.length c0, .int .i64 a1] w fun e w' => ∃ v0_ : Value, e = .returned (v0_) ∧ Kd.R (Kd.int .i64) 3 w' w.heap.size (fun _ => True) v0_ r ∧ Below w.heap.size w w' := by
  unfold live_next.f at h
  by_cases hr : 0 ≤ a1 ∧ a1 < (l0.length : Int)
  case neg => rw [if_neg hr] at h; exact absurd h (by simp)
  rw [if_pos hr] at h
  obtain ⟨L, h1, h2⟩ := Option.bind_eq_some_iff.1 h
  by_cases hL : L.length ≤ 1000000
  case neg => rw [if_neg hL] at h2; exact absurd h2 (by simp)
  rw [if_pos hL] at h2
  replace h2 := Option.some.inj h2
  obtain ⟨hk0, hlt⟩ := hr
  have BX := Aside0.mk (blk_new w (.cells #[.slice A0 l0.length c0] 32 (0, 0)))
  have HB1 := Aside0.mk ((Below.refl w.heap.size w).alloc (Nat.le_refl _) (.cells #[.slice A0 l0.length c0] 32 (0, 0)))
  obtain ⟨ad, e101, c_0, c_1, c_2, c_3, c_4, c_5, c_6⟩ := at_T28 (Kd.C_below hr0 HB1.out) a1 hk0 hlt
  cases e101
  obtain ⟨y, hy⟩ : ∃ y, y = rd_T28 l0 a1 := ⟨_, rfl⟩
  rw [← hy] at c_0 c_1 c_2 c_3 c_4 c_5 c_6 h1
  have CN := Aside0.mk (fun W hg => ins_Next.calls y.f0 y.f1 y.f2 y.f3 y.f4 y.f5 y.f6 a1 L W h1 hg)
  have HGL := Aside0.mk (hgl.step HB1.out)
  have HR := Aside0.mk h2
  have HL := Aside0.mk hL
  clear h h1 h2 hL hr0 hgl hy
  go_enter Tryd.func70, Tryd.ntmps70
  go_wp2_with fail
  refine (CN.out _ HGL.out).mono ?_
  rintro e w1 ⟨v1, rfl, hR, hb⟩
  have hown := Kd.own_of_R hR
  have HB2 := Aside0.mk (below_step HB1.out hb)
  have BX2 := Aside0.mk (blk_below BX.out hb)
  have HS := Aside0.mk HB1.out.size
  clear hb hR CN HGL BX c_0 c_1 c_2 c_3 c_4 c_5 c_6
  by_cases hv : v1 = .slice none 0 0
  · subst hv
    have hl : L = [] := by
      rcases hown.2 with ⟨_, h0⟩ | ⟨g, cap, cur, e0, _⟩
      · exact List.eq_nil_of_length_eq_zero h0
      · cases e0
    subst hl
    have hr := HR.out
    clear hown
    go_wp2_with (go_at_call 66; refine (ldelete_nil _ _).mono ?_; rintro e w2 ⟨rfl, hb1⟩; have HB3 := Aside0.mk (below_step HB2.out hb1); clear hb1)
    go_ret
    exact ⟨_, rfl, by rw [← hr]; exact Kd.R_nil _ _ _ _ _, HB3.out⟩
  · obtain ⟨g, cap, rfl, hg, hlt1, hn, hm, hl, hH⟩ := Lib.holds_of_ownsRow hown hv
    obtain ⟨F, hF⟩ : ∃ F, F = L.filter (fun x => !linB l0.length x) := ⟨_, rfl⟩
    have hFl : F.length ≤ L.length := by rw [hF]; exact List.length_filter_le _ _
    have hBlt : w.heap.size < w1.heap.size := blk_lt BX2.out
    have hne : g ≠ w.heap.size := by have : (w.alloc (.cells #[.slice (some ad) l0.length c0] 32 (0, 0))).heap.size = w.heap.size + 1 := by simp
                                     omega
    have c1 := Tryd.slices_DeleteFunc (Value.int .i64) (fun _ => rfl) (fun x => linB l0.length x) 81 #[.pointer (some ⟨w.heap.size, 0, none⟩)] (enters_of Tryd.func81 (by kernel_rfl) rfl) 0 Tryd.zeroValue3 g 0 cap L.toArray w1
      (fun W x hb => lnext1.gives x W (some ad) l0.length c0 w.heap.size (blk_below BX2.out hb))
      (fun n os dk x hs => lnext1.gives x _ (some ad) l0.length c0 w.heap.size ((lsw_other dk hBlt hne).trans BX2.out)) hH (by have := HL.out; simp; omega) (by simpa using hn)
    change Calls Tryd.prog 66 _ _ _ at c1
    simp only [List.size_toArray, List.toList_toArray] at c1
    rw [← hF] at c1
    have hbase : w.heap.size ≤ g := by have : (w.alloc (.cells #[.slice (some ad) l0.length c0] 32 (0, 0))).heap.size = w.heap.size + 1 := by simp
                                       omega
    have own1 := Aside0.mk (fun (q : Nat) => (by
      have := Lib.ownsRow_putRow (q := q) (k := F.length) (ys := F ++ List.replicate (L.length - F.length) 0) hown (by simp; omega) hFl
      simpa using this : (putRow (Value.int .i64) (Sort.ahead w1 q) g 0 (F ++ List.replicate (L.length - F.length) 0).toArray).ownsRow _ 3 1 (.slice (some ⟨g, 0, none⟩) F.length cap) F.length (F.map (Value.int .i64))))
    have below1 := Aside0.mk (fun (q : Nat) => Lib.below_putRow (enc := Value.int .i64) (q := q) (d := (F ++ List.replicate (L.length - F.length) 0).toArray) HB2.out hbase)
    have C1 := Aside0.mk c1
    have HF := Aside0.mk (hF.trans HR.out)
    clear c1 hown hv hH hF hFl hBlt hne hbase hg hlt1 hn hm hl HR
    go_wp2_with (go_at_call 66; refine C1.out.mono ?_; rintro e w2 ⟨rfl, q, hw⟩; have o1 := Aside0.mk (own1.out q); have b1 := Aside0.mk (below1.out q); rw [← hw] at o1 b1; clear hw C1 own1 below1)
    go_ret
    exact ⟨_, rfl, by rw [← HF.out]; exact Kd.R_of_own (lown_lower o1.out (by simp)) (fun _ _ => trivial), b1.out⟩
end Go.Proofs.YtdopacgaklaaeaaDoor.PDeadRuns
