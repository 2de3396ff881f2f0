import Derived.Test.YtdopacgaklaaeaaDoorPDeadRunsx0
import Derived.Test.YtdopacgaklaaeaaDoorPDeadRunshforms
import Derived.Test.YtdopacgaklaaeaaDoorPDeadRunshgnx
import Derived.Test.YtdopacgaklaaeaaDoorPDeadRunshgwalk
import Derived.Test.YtdopacgaklaaeaaDoorPDeadRunshplain0
import Derived.OneCell
import Derived.Test.YtdopacgaklaaeaaDoorPDeadRunshmaps
import Derived.Test.YtdopacgaklaaeaaDoorShelfS
import Derived.Lib.RowBridge
-- HAND paling/graph.Reach rounds=1 making=1 needs=paling/graph.next
namespace Go.Proofs.YtdopacgaklaaeaaDoor.PDeadRuns
open Go.RowKit Go.Proofs.YtdopacgaklaaeaaDoorW.PrintWords Go.Proofs.YtdopacgaklaaeaaDoorW.PrintLast Go.Proofs.YtdopacgaklaaeaaDoorW.PrintMore
set_option linter.unusedVariables false
set_option linter.unusedSimpArgs false
open Go.Shelf
/-! graph.Reach: which instructions can be come to. -/
def graph_Reach.f (k : Nat) (l0 : List S28) : Option (List Bool) := if l0 = [] then some [] else if l0.length ≤ 1000000 then walkGo (graph_next.f l0) k (List.replicate l0.length false) [0] else none
theorem walkGo.mono (st : Int → Option (List Int)) : ∀ k s w, LeO (walkGo st k s w) (walkGo st (k + 1) s w)
  | 0, s, w, r, h => by simp [walkGo] at h
  | k + 1, s, w, r, h => by
    rw [walkGo] at h ⊢
    by_cases h1 : w = []
    · rw [if_pos h1] at h ⊢; exact h
    · rw [if_neg h1] at h ⊢
      by_cases h2 : 0 ≤ w.getLastD 0 ∧ w.getLastD 0 < (s.length : Int)
      · rw [if_pos h2] at h ⊢
        by_cases h3 : at_ s (w.getLastD 0) = true
        · rw [if_pos h3] at h ⊢; exact walkGo.mono st k _ _ r h
        · rw [if_neg h3] at h ⊢
          obtain ⟨l, hl, h4⟩ := Option.bind_eq_some_iff.1 h
          refine Option.bind_eq_some_iff.2 ⟨l, hl, ?_⟩
          by_cases h5 : w.length + l.length ≤ 1000000000
          · rw [if_pos h5] at h4 ⊢; exact walkGo.mono st k _ _ r h4
          · rw [if_neg h5] at h4; exact absurd h4 (by simp)
      · rw [if_neg h2] at h; exact absurd h (by simp)
theorem graph_Reach.mono : ∀ a0 k, LeO (graph_Reach.f k a0) (graph_Reach.f (k + 1) a0) := fun a0 k r h => by
  unfold graph_Reach.f at h ⊢
  by_cases h1 : a0 = []
  · rw [if_pos h1] at h ⊢; exact h
  · rw [if_neg h1] at h ⊢
    by_cases h2 : a0.length ≤ 1000000
    · rw [if_pos h2] at h ⊢; exact walkGo.mono _ k _ _ r h
    · rw [if_neg h2] at h; exact absurd h (by simp)
theorem reach1.calls (A0 : Option Addr) (c0 : Nat) (l0 : List S28) (a : Int) (r : List Int) (B : Nat) (W : World) (hr : graph_next.f l0 a = some r) (hB : W.heap[B]? = some (.cells #[.slice A0 l0.length c0] 32 (0, 0))) (hC : Kd.C k28 W A0 l0.length l0) (hc : l0.length ≤ c0) (hgl : GlobOK W) :
    Calls Tryd.prog 48 #[.int .i64 a, .pointer (some ⟨B, 0, none⟩)] W fun e W' => ∃ (A : Option Addr) (c : Nat), e = .returned (.slice A r.length c) ∧ Kd.C (Kd.int .i64) W' A r.length r ∧ Below W.heap.size W W' := by
  have hcell : W.cell? ⟨B, 0, none⟩ = some (.slice A0 l0.length c0) := cell_of_one hB
  have CN := Aside0.mk (graph_next.calls A0 c0 l0 a r W hC hc hr hgl)
  clear hr hB hC hgl
  go_enter Tryd.func48, Tryd.ntmps48
  go_wp2_with (go_at_call 49; (with_reducible refine CN.out.mono ?_); rintro e w' ⟨v, rfl, hR, hb⟩; have HR := Aside0.mk hR; have HB := Aside0.mk hb; clear hR hb CN)
  go_ret
  obtain ⟨A, c, e⟩ := Kd.R_slice HR.out
  have h2 := HR.out
  rw [e] at h2
  exact ⟨A, c, by rw [← e]; rfl, (Kd.R_reads' h2).2.2, HB.out⟩
set_option maxHeartbeats 4000000 in
theorem graph_Reach.calls (k : Nat) (A0 : Option Addr) (c0 : Nat) (l0 : List S28) (r : List Bool) (w : World) (hr0 : Kd.C k28 w A0 l0.length l0) (hc0 : l0.length ≤ c0) (h : graph_Reach.f k l0 = some r) (hgl : GlobOK w) :
    Calls Tryd.prog 23 #[.slice A0 l0.length c0] w fun e w' => ∃ v0_ : Value, e = .returned (v0_) ∧ Kd.R Kd.bool 4 w' w.heap.size (fun _ => True) v0_ r ∧ Below w.heap.size w w' := by
  unfold graph_Reach.f at h
  have hmf : ∀ (fn : Fn) (first cap : Array Value) (w : World), (Instr.makeFunc fn first cap).run Tryd.prog w = .ok (.func fn first cap) w := fun _ _ _ _ => rfl
  by_cases h0 : l0 = []
  · rw [if_pos h0] at h
    obtain rfl := Option.some.inj h
    subst h0
    clear h hr0 hgl
    go_enter Tryd.func23, Tryd.ntmps23
    go_wp2_with fail
    go_ret
    exact ⟨_, rfl, Kd.R_nil _ _ _ _ _, (Below.refl _ _).alloc (Nat.le_refl _) _⟩
  · rw [if_neg h0] at h
    by_cases h1 : l0.length ≤ 1000000
    case neg => rw [if_neg h1] at h; exact absurd h (by simp)
    rw [if_pos h1] at h
    have hne : ((l0.length : Int) == 0) = false := by
      have := List.length_pos_iff.2 h0
      simp; omega
    have BX := Aside0.mk (blk_new w (.cells #[.slice A0 l0.length c0] 32 (0, 0)))
    have HB1 := Aside0.mk ((Below.refl w.heap.size w).alloc (Nat.le_refl _) (.cells #[.slice A0 l0.length c0] 32 (0, 0)))
    obtain ⟨W1, hW1⟩ : ∃ W, W = (w.alloc (.cells #[.slice A0 l0.length c0] 32 (0, 0))).alloc (.cells #[.int .i64 0] 3 (0, 0)) := ⟨_, rfl⟩
    have B1 : W1.heap[w.heap.size]? = some (.cells #[.slice A0 l0.length c0] 32 (0, 0)) := by rw [hW1]; exact blk_alloc BX.out _
    have HB2 := Aside0.mk (show Below w.heap.size w W1 by rw [hW1]; exact below_alloc HB1.out _)
    have hs1 : (w.alloc (.cells #[.slice A0 l0.length c0] 32 (0, 0))).heap.size = w.heap.size + 1 := by simp
    have hown := own_lit (w.alloc (.cells #[.slice A0 l0.length c0] 32 (0, 0))) w.heap.size 3 [.int .i64 0] HB1.out.size (by simp)
    have hCl : Kd.C (Kd.int .i64) W1 (some ⟨w.heap.size + 1, 0, none⟩) ([0] : List Int).length [0] := by
      rw [hW1, ← hs1]
      exact (Kd.R_reads' (Kd.R_of_own (enc := Value.int .i64) (h1 := fun _ => rfl) (xs := [(0 : Int)]) (ok := fun _ => True) hown (fun _ _ => trivial))).2.2
    have CW := Aside0.mk (gwalk.calls (graph_next.f l0) k 48 #[.pointer (some ⟨w.heap.size, 0, none⟩)] l0.length (some ⟨w.heap.size + 1, 0, none⟩) 1 [0] r W1 h1 (by simp) hCl (enters_ Tryd.func48 (by kernel_rfl) rfl)
      (fun a r W hr hb => reach1.calls A0 c0 l0 a r w.heap.size W hr (blk_below B1 hb) (Kd.C_below (Kd.C_below hr0 HB2.out) hb) hc0 ((hgl.step HB2.out).step hb)) h)
    have HW1 := Aside0.mk hW1
    clear h h0 h1 hr0 hgl B1 hs1 hown hCl hW1
    go_enter Tryd.func23, Tryd.ntmps23
    go_wp2_with fail
    rw [← HW1.out]
    refine CW.out.mono ?_
    rintro e w' ⟨v, rfl, hR, hb⟩
    have HR := Aside0.mk (Kd.R_lower hR HB2.out.size)
    have HB := Aside0.mk (below_step HB2.out hb)
    clear hR hb CW HW1
    go_wp2_with fail
    go_ret
    exact ⟨_, rfl, HR.out, HB.out⟩
end Go.Proofs.YtdopacgaklaaeaaDoor.PDeadRuns

namespace Go.Proofs.YtdopacgaklaaeaaDoor.PDeadRuns
open Go.RowKit Go.Proofs.YtdopacgaklaaeaaDoorW.PrintWords Go.Proofs.YtdopacgaklaaeaaDoorW.PrintLast Go.Proofs.YtdopacgaklaaeaaDoorW.PrintMore
set_option linter.unusedVariables false
set_option linter.unusedSimpArgs false
open Go.Maps Go.Sort Go.Shelf

theorem lsorted_of {ss : List Int} (hn : ss.Nodup) : ((ss.mergeSort (fun x y => decide (x ≤ y))).Pairwise (· < ·)) ∧ (∀ i, i ∈ ss.mergeSort (fun x y => decide (x ≤ y)) ↔ i ∈ ss) ∧ (ss.mergeSort (fun x y => decide (x ≤ y))).length = ss.length := by
  have hp := List.mergeSort_perm ss (fun x y => decide (x ≤ y))
  refine ⟨?_, fun i => hp.mem_iff, hp.length_eq⟩
  have h1 : (ss.mergeSort (fun x y => decide (x ≤ y))).Pairwise (fun x y => decide (x ≤ y) = true) := List.pairwise_mergeSort (fun a b c h1 h2 => by simp at *; omega) (fun a b => by simp; omega) ss
  have h2 : (ss.mergeSort (fun x y => decide (x ≤ y))).Nodup := hp.nodup_iff.2 hn
  have h3 := h1.and (List.nodup_iff_pairwise_ne.1 h2)
  exact h3.imp (fun ⟨a, b⟩ => by simp at a; omega)

theorem keysRegs.calls (b : Nat) (W : World) : Calls Tryd.prog 84 #[.map (some b)] W fun e w' => e = .returned (.func (.func 93) #[] #[.pointer (some ⟨W.heap.size, 0, none⟩)]) ∧ w' = W.alloc (.cells #[.map (some b)] 102) :=
  (callsIn_wide (n := 6)).1 (AnyZI.keys_in Tryd.lay_maps_Keys_paling_live_regs_int_bool Fence.wide 6 trivial rfl (some b) W)
theorem sortsRegs (m : Nat) : AnyZI.SortsIn Tryd.prog Tryd.lay_slices_Sorted_int_ren Fence.wide m :=
  ⟨fun blk off cap ss W hH hblk hsz => callsIn_wide.2 (AnyM.slices_Sort_int Tryd.lay_slices_Sort_int_int blk off cap ss W hH hblk hsz),
   fun p cap W => callsIn_wide.2 (AnyM.slices_Sort_int_none Tryd.lay_slices_Sort_int_int p cap W)⟩
theorem lR_ints {w : World} {base : Nat} {v : Value} {xs : List Int} (h : w.ownsRow base 3 1 v xs.length (xs.map encZ)) : Kd.R (Kd.int .i64) 3 w base (fun _ => True) v xs :=
  Kd.R_of_own h (fun _ _ => trivial)
set_option maxHeartbeats 1000000 in
/-- slices.Sorted(maps.Keys(m)): the keys, rising, each once. -/
theorem sortedRegs.calls (b n : Nat) (f : Int → Option Value) (w : World) (h : IM w b f n) (hwf : ∀ i, (f i).isSome = true → (Lit.int .i64 i).wf = true) (hn : n * 8 ≤ 140737488355328) :
    Calls Tryd.prog 83 #[.func (.func 93) #[] #[.pointer (some ⟨w.heap.size, 0, none⟩)]] (w.alloc (.cells #[.map (some b)] 102)) fun e w' => ∃ (v : Value) (L : List Int), e = .returned v ∧ L.Pairwise (· < ·) ∧ (∀ i, i ∈ L ↔ (f i).isSome = true) ∧ L.length = n ∧ Kd.R (Kd.int .i64) 3 w' (w.heap.size + 1) (fun _ => True) v L ∧ Below (w.heap.size + 1) (w.alloc (.cells #[.map (some b)] 102)) w' := by
  obtain ⟨D0, hown, hsz, hlen, hnd, hmem⟩ := h.owns (P := Tryd.prog) (kt := 3) Tryd.underlying3 hwf (by unfold maxLen; omega)
  have hbl := hown.lt
  have hseq : SeqGives Fence.wide 2 Tryd.prog 93 #[.pointer (some ⟨w.heap.size, 0, none⟩)] encZ (fun ss => ss.Perm (intKeys D0)) (Maps.size D0) (w.alloc (.cells #[.map (some b)] 102)) :=
    AnyZI.keys_gives (ρ := Tryd.lay_maps_Keys_paling_live_regs_int_bool_ren) { Tryd.lay_maps_Keys_paling_live_regs_int_bool with } Fence.wide _ trivial rfl (by omega) w.heap.size b n D0 _ (by simp) (by simp) (by
      obtain ⟨es, clock, hb, Ft, hs, hD⟩ := hown
      exact ⟨es, clock, (Below.heap_alloc _ _ b hbl).trans hb, Ft, hs, hD⟩)
  have cS := AnyZI.sorted_in Tryd.lay_slices_Sorted_int Fence.wide 5 trivial trivial trivial trivial rfl (by omega) (sortsRegs _) (enters_ Tryd.func79 (by kernel_rfl) rfl) 93 #[.pointer (some ⟨w.heap.size, 0, none⟩)] trivial (enters_ Tryd.func93 (by kernel_rfl) rfl) _ _ (by rw [hsz]; unfold maxLen; omega) (by rw [hsz]; exact hn) _ hseq
  change CallsIn _ _ Tryd.prog 83 _ _ _ at cS
  refine ((callsIn_wide (n := 5)).1 cS).mono ?_
  rintro e w' ⟨v, ss, rfl, hS, hrow, hnil, hb⟩
  obtain ⟨h1, h2, h3⟩ := lsorted_of (hS.nodup_iff.2 hnd)
  refine ⟨v, _, rfl, h1, fun i => by rw [h2, hS.mem_iff, hmem], by rw [h3, hS.length_eq, hlen], lR_ints (by rw [h3]; have h' : w'.ownsRow _ 3 1 v ss.length _ := hrow; simpa using h'), by simpa using hb⟩
end Go.Proofs.YtdopacgaklaaeaaDoor.PDeadRuns

namespace Go.Proofs.YtdopacgaklaaeaaDoor.PDeadRuns
open Go.RowKit Go.Proofs.YtdopacgaklaaeaaDoorW.PrintWords Go.Proofs.YtdopacgaklaaeaaDoorW.PrintLast Go.Proofs.YtdopacgaklaaeaaDoorW.PrintMore
set_option linter.unusedVariables false
set_option linter.unusedSimpArgs false
open Go.Shelf
/-! Where an instruction goes to, by package live and by the document. -/
/-- where the instruction at i goes to in its code -/
def nxL (l : List S28) (i : Int) : List Int := if 0 ≤ i ∧ i < (l.length : Int) then (live_next.f l i).getD [] else []
theorem twoL_len15 (a b : Int) : (twoL a b).length ≤ 2 := by
  unfold twoL
  refine Nat.le_trans (Lib.compact_length_le _) ?_
  rw [List.length_mergeSort]; simp
theorem live_next_some (l : List S28) (i : Int) (h0 : 0 ≤ i) (h1 : i < (l.length : Int)) : live_next.f l i = some (nxL l i) := by
  unfold nxL
  rw [if_pos ⟨h0, h1⟩]
  unfold live_next.f ins_Next.f
  rw [if_pos ⟨h0, h1⟩, Option.bind_some]
  rw [if_pos ?_]
  · rfl
  · split
    · simp
    · split
      · simp
      · split
        · have := twoL_len15 (wrap64 (i + 1)) (rd_T28 l i).f6; omega
        · simp
theorem nxL_in (l : List S28) (i : Int) : ∀ j ∈ nxL l i, 0 ≤ j ∧ j < (l.length : Int) := by
  intro j hj
  by_cases h : 0 ≤ i ∧ i < (l.length : Int)
  · have he := live_next_some l i h.1 h.2
    unfold live_next.f at he
    rw [if_pos h] at he
    obtain ⟨L, _, h2⟩ := Option.bind_eq_some_iff.1 he
    by_cases hL : L.length ≤ 1000000
    · rw [if_pos hL] at h2
      rw [← Option.some.inj h2] at hj
      have := (List.mem_filter.1 hj).2
      unfold linB at this
      simp at this
      omega
    · rw [if_neg hL] at h2; exact absurd h2 (by simp)
  · unfold nxL at hj
    rw [if_neg h] at hj
    exact absurd hj (by simp)
theorem insNext_len15 {a0 a1 a2 a3 a4 a5 a6 b : Int} {L : List Int} (h : ins_Next.f a0 a1 a2 a3 a4 a5 a6 b = some L) : L.length ≤ 2 := by
  unfold ins_Next.f at h
  rw [← Option.some.inj h]
  split
  · simp
  · split
    · simp
    · split
      · exact twoL_len15 _ _
      · simp
theorem nxL_len (l : List S28) (i : Int) : (nxL l i).length ≤ 2 := by
  by_cases h : 0 ≤ i ∧ i < (l.length : Int)
  · have he := live_next_some l i h.1 h.2
    unfold live_next.f at he
    rw [if_pos h] at he
    obtain ⟨L, h1, h2⟩ := Option.bind_eq_some_iff.1 he
    by_cases hL : L.length ≤ 1000000
    · rw [if_pos hL] at h2
      rw [← Option.some.inj h2]
      exact Nat.le_trans (List.length_filter_le _ _) (insNext_len15 h1)
    · rw [if_neg hL] at h2; exact absurd h2 (by simp)
  · unfold nxL
    rw [if_neg h]
    simp
/-- where an instruction goes to -/
def nyV (y : S28) (i : Int) : List Int := if ¬ (0 ≤ y.f0 ∧ y.f0 < 14) ∨ fmB 9 y.f0 = true then [] else if y.f0 = 6 then [y.f6] else if y.f0 = 7 then twoL (i + 1) y.f6 else [i + 1]
theorem nyV_f (y : S28) (i : Int) (h : wrap64 (i + 1) = i + 1) : ins_Next.f y.f0 y.f1 y.f2 y.f3 y.f4 y.f5 y.f6 i = some (nyV y i) := by
  unfold ins_Next.f nyV
  rw [h]
theorem nyV_len (y : S28) (i : Int) : (nyV y i).length ≤ 2 := by
  unfold nyV
  split
  · simp
  · split
    · simp
    · split
      · exact twoL_len15 _ _
      · simp
theorem nxL_nyV (l : List S28) (hl : l.length ≤ 1000) (i : Int) (h0 : 0 ≤ i) (h1 : i < (l.length : Int)) : nxL l i = (nyV (rd_T28 l i) i).filter fun x => !linB l.length x := by
  have hw : wrap64 (i + 1) = i + 1 := wrap_up h0 h1 (by omega)
  have h := live_next_some l i h0 h1
  unfold live_next.f at h
  rw [if_pos ⟨h0, h1⟩, nyV_f _ i hw, Option.bind_some, if_pos (by have := nyV_len (rd_T28 l i) i; omega)] at h
  exact (Option.some.inj h).symm
end Go.Proofs.YtdopacgaklaaeaaDoor.PDeadRuns
