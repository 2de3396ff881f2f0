import Derived.Test.YtdopacgaklaaeaaDoorPDeadBackx0
import Derived.Test.YtdopacgaklaaeaaDoorPDeadBackhgnx
import Derived.Lib.SlicesCompact
import Derived.Test.YtdopacgaklaaeaaDoorPDeadBackhforms
import Derived.Test.YtdopacgaklaaeaaDoorPDeadBackhgwalk
import Derived.Test.YtdopacgaklaaeaaDoorPDeadBackhplain0
import Derived.OneCell
namespace Go.Proofs.YtdopacgaklaaeaaDoor.PDeadBack
open Go.RowKit Go.Proofs.YtdopacgaklaaeaaDoorW.PrintWords Go.Proofs.YtdopacgaklaaeaaDoorW.PrintLast Go.Proofs.YtdopacgaklaaeaaDoorW.PrintMore
set_option linter.unusedVariables false
set_option linter.unusedSimpArgs false
/-! Sorted and compacted: rising, each once. -/
theorem compactUpTo_spec (d : Array Int) (hs : ∀ i j, i ≤ j → j < d.size → d[i]! ≤ d[j]!) : ∀ m, m ≤ d.size → (Lib.compactUpTo d m).Pairwise (· < ·) ∧ ∀ i, i ∈ Lib.compactUpTo d m ↔ ∃ j, j < m ∧ d[j]! = i
  | 0, _ => by simp [Lib.compactUpTo]
  | m + 1, hm => by
    obtain ⟨h1, h2⟩ := compactUpTo_spec d hs m (by omega)
    rw [Lib.compactUpTo_succ]
    by_cases hk : Lib.keeps d m = true
    · rw [if_pos hk]
      constructor
      · rw [List.pairwise_append]
        refine ⟨h1, by simp, ?_⟩
        intro a ha b hb
        obtain rfl : b = d[m]! := by simpa using hb
        obtain ⟨j, hj, rfl⟩ := (h2 a).1 ha
        have e1 := hs j (m - 1) (by omega) (by omega)
        have e2 := hs (m - 1) m (by omega) (by omega)
        have e3 : d[m]! ≠ d[m - 1]! := by
          intro e
          rw [Lib.keeps_neg (by omega) e] at hk
          exact absurd hk (by simp)
        omega
      · intro i
        rw [List.mem_append, h2]
        constructor
        · rintro (⟨j, hj, e⟩ | h)
          · exact ⟨j, by omega, e⟩
          · exact ⟨m, by omega, (by simpa using h : i = d[m]!).symm⟩
        · rintro ⟨j, hj, e⟩
          by_cases hjm : j = m
          · subst hjm; exact .inr (by simp [e])
          · exact .inl ⟨j, by omega, e⟩
    · rw [if_neg hk, List.append_nil]
      refine ⟨h1, fun i => ?_⟩
      rw [h2]
      have hm0 : 0 < m := by
        rcases Nat.eq_zero_or_pos m with h0 | h0
        · subst h0; exact absurd (Lib.keeps_lt_one d 0 (by omega)) hk
        · exact h0
      have e3 : d[m]! = d[m - 1]! := by
        by_cases e : d[m]! = d[m - 1]!
        · exact e
        · exact absurd (Lib.keeps_pos e) hk
      constructor
      · rintro ⟨j, hj, e⟩; exact ⟨j, by omega, e⟩
      · rintro ⟨j, hj, e⟩
        by_cases hjm : j = m
        · subst hjm; exact ⟨j - 1, by omega, by rw [← e, e3]⟩
        · exact ⟨j, by omega, e⟩
theorem compact_sorted (S : List Int) (hp : S.Pairwise (· ≤ ·)) : (Lib.compact S).Pairwise (· < ·) ∧ ∀ i, i ∈ Lib.compact S ↔ i ∈ S := by
  have hg : ∀ j, j < S.length → S.toArray[j]! = S.getD j 0 := fun j hj => by simp [hj]
  have h := compactUpTo_spec S.toArray (fun i j hij hj => by
    have hj' : j < S.length := by simpa using hj
    rw [hg i (by omega), hg j hj']
    by_cases e : i = j
    · subst e; omega
    · have := List.pairwise_iff_getElem.1 hp i j (by omega) hj' (by omega)
      simpa [List.getD_eq_getElem?_getD, hj', show i < S.length by omega] using this) S.length (by simp)
  refine ⟨h.1, fun i => ?_⟩
  unfold Lib.compact
  rw [h.2, List.mem_iff_getElem]
  constructor
  · rintro ⟨j, hj, e⟩
    refine ⟨j, hj, ?_⟩
    rw [← e, hg j hj]
    simp [hj]
  · rintro ⟨j, hj, e⟩
    refine ⟨j, hj, ?_⟩
    rw [← e, hg j hj]
    simp [hj]
theorem sort_le (L : List Int) : (L.mergeSort (fun x y => decide (x ≤ y))).Pairwise (· ≤ ·) := by
  have := List.pairwise_mergeSort (le := fun x y : Int => decide (x ≤ y)) (fun a b c h1 h2 => by simp at *; omega) (fun a b => by simp; omega) L
  exact this.imp (fun h => by simpa using h)
theorem compact_sort (L : List Int) : (Lib.compact (L.mergeSort (fun x y => decide (x ≤ y)))).Pairwise (· < ·) ∧ ∀ i, i ∈ Lib.compact (L.mergeSort (fun x y => decide (x ≤ y))) ↔ i ∈ L := by
  have h := compact_sorted _ (sort_le L)
  exact ⟨h.1, fun i => by rw [h.2, List.mem_mergeSort]⟩
theorem rising_ext : ∀ {L M : List Int}, L.Pairwise (· < ·) → M.Pairwise (· < ·) → (∀ i, i ∈ L ↔ i ∈ M) → L = M
  | [], [], _, _, _ => rfl
  | [], m :: M, _, _, h => absurd ((h m).2 (by simp)) (by simp)
  | l :: L, [], _, _, h => absurd ((h l).1 (by simp)) (by simp)
  | l :: L, m :: M, hl, hm, h => by
    rw [List.pairwise_cons] at hl hm
    have e : l = m := by
      have h1 := (h l).1 (by simp)
      have h2 := (h m).2 (by simp)
      rw [List.mem_cons] at h1 h2
      rcases h1 with h1 | h1
      · exact h1
      · rcases h2 with h2 | h2
        · exact h2.symm
        · have := hl.1 m h2; have := hm.1 l h1; omega
    subst e
    rw [rising_ext hl.2 hm.2 (fun i => by
      have := h i
      rw [List.mem_cons, List.mem_cons] at this
      constructor
      · intro hi
        rcases this.1 (.inr hi) with rfl | hx
        · exact absurd (hl.1 _ hi) (by omega)
        · exact hx
      · intro hi
        rcases this.2 (.inr hi) with rfl | hx
        · exact absurd (hm.1 _ hi) (by omega)
        · exact hx)]
theorem twoL_spec (a b : Int) : (twoL a b).Pairwise (· < ·) ∧ ∀ i, i ∈ twoL a b ↔ i = a ∨ i = b := by
  have h := compact_sort [a, b]
  refine ⟨h.1, fun i => ?_⟩
  unfold twoL
  rw [h.2]
  simp
end Go.Proofs.YtdopacgaklaaeaaDoor.PDeadBack

-- HAND paling/graph.Reach rounds=1 making=1 needs=paling/graph.next
namespace Go.Proofs.YtdopacgaklaaeaaDoor.PDeadBack
open Go.RowKit Go.Proofs.YtdopacgaklaaeaaDoorW.PrintWords Go.Proofs.YtdopacgaklaaeaaDoorW.PrintLast Go.Proofs.YtdopacgaklaaeaaDoorW.PrintMore
set_option linter.unusedVariables false
set_option linter.unusedSimpArgs false
open Go.Shelf
/-! graph.Reach: which instructions can be come to. -/
def graph_Reach.f (k : Nat) (l0 : List S28) : Option (List Bool) := if l0 = [] then some [] else if l0.length ≤ 1000000 then walkGo (graph_next.f l0) k (List.replicate l0.length false) [0] else none
theorem walkGo.mono (st : Int → Option (List Int)) : ∀ k s w, LeO (walkGo st k s w) (walkGo st (k + 1) s w)
  | 0, s, w, r, h => by simp [walkGo] at h
  | k + 1, s, w, r, h => by
    rw [walkGo] at h ⊢
    by_cases h1 : w = []
    · rw [if_pos h1] at h ⊢; exact h
    · rw [if_neg h1] at h ⊢
      by_cases h2 : 0 ≤ w.getLastD 0 ∧ w.getLastD 0 < (s.length : Int)
      · rw [if_pos h2] at h ⊢
        by_cases h3 : at_ s (w.getLastD 0) = true
        · rw [if_pos h3] at h ⊢; exact walkGo.mono st k _ _ r h
        · rw [if_neg h3] at h ⊢
          obtain ⟨l, hl, h4⟩ := Option.bind_eq_some_iff.1 h
          refine Option.bind_eq_some_iff.2 ⟨l, hl, ?_⟩
          by_cases h5 : w.length + l.length ≤ 1000000000
          · rw [if_pos h5] at h4 ⊢; exact walkGo.mono st k _ _ r h4
          · rw [if_neg h5] at h4; exact absurd h4 (by simp)
      · rw [if_neg h2] at h; exact absurd h (by simp)
theorem graph_Reach.mono : ∀ a0 k, LeO (graph_Reach.f k a0) (graph_Reach.f (k + 1) a0) := fun a0 k r h => by
  unfold graph_Reach.f at h ⊢
  by_cases h1 : a0 = []
  · rw [if_pos h1] at h ⊢; exact h
  · rw [if_neg h1] at h ⊢
    by_cases h2 : a0.length ≤ 1000000
    · rw [if_pos h2] at h ⊢; exact walkGo.mono _ k _ _ r h
    · rw [if_neg h2] at h; exact absurd h (by simp)
theorem reach1.calls (A0 : Option Addr) (c0 : Nat) (l0 : List S28) (a : Int) (r : List Int) (B : Nat) (W : World) (hr : graph_next.f l0 a = some r) (hB : W.heap[B]? = some (.cells #[.slice A0 l0.length c0] 32 (0, 0))) (hC : Kd.C k28 W A0 l0.length l0) (hc : l0.length ≤ c0) (hgl : GlobOK W) :
    Calls Tryd.prog 48 #[.int .i64 a, .pointer (some ⟨B, 0, none⟩)] W fun e W' => ∃ (A : Option Addr) (c : Nat), e = .returned (.slice A r.length c) ∧ Kd.C (Kd.int .i64) W' A r.length r ∧ Below W.heap.size W W' := by
  have hcell : W.cell? ⟨B, 0, none⟩ = some (.slice A0 l0.length c0) := cell_of_one hB
  have CN := Aside0.mk (graph_next.calls A0 c0 l0 a r W hC hc hr hgl)
  clear hr hB hC hgl
  go_enter Tryd.func48, Tryd.ntmps48
  go_wp2_with (go_at_call 49; (with_reducible refine CN.out.mono ?_); rintro e w' ⟨v, rfl, hR, hb⟩; have HR := Aside0.mk hR; have HB := Aside0.mk hb; clear hR hb CN)
  go_ret
  obtain ⟨A, c, e⟩ := Kd.R_slice HR.out
  have h2 := HR.out
  rw [e] at h2
  exact ⟨A, c, by rw [← e]; rfl, (Kd.R_reads' h2).2.2, HB.out⟩
set_option maxHeartbeats 4000000 in
theorem graph_Reach.calls (k : Nat) (A0 : Option Addr) (c0 : Nat) (l0 : List S28) (r : List Bool) (w : World) (hr0 : Kd.C k28 w A0 l0.length l0) (hc0 : l0.length ≤ c0) (h : graph_Reach.f k l0 = some r) (hgl : GlobOK w) :
    Calls Tryd.prog 23 #[.slice A0 l0.length c0] w fun e w' => ∃ v0_ : Value, e = .returned (v0_) ∧ Kd.R Kd.bool 4 w' w.heap.size (fun _ => True) v0_ r ∧ Below w.heap.size w w' := by
  unfold graph_Reach.f at h
  have hmf : ∀ (fn : Fn) (first cap : Array Value) (w : World), (Instr.makeFunc fn first cap).run Tryd.prog w = .ok (.func fn first cap) w := fun _ _ _ _ => rfl
  by_cases h0 : l0 = []
  · rw [if_pos h0] at h
    obtain rfl := Option.some.inj h
    subst h0
    clear h hr0 hgl
    go_enter Tryd.func23, Tryd.ntmps23
    go_wp2_with fail
    go_ret
    exact ⟨_, rfl, Kd.R_nil _ _ _ _ _, (Below.refl _ _).alloc (Nat.le_refl _) _⟩
  · rw [if_neg h0] at h
    by_cases h1 : l0.length ≤ 1000000
    case neg => rw [if_neg h1] at h; exact absurd h (by simp)
    rw [if_pos h1] at h
    have hne : ((l0.length : Int) == 0) = false := by
      have := List.length_pos_iff.2 h0
      simp; omega
    have BX := Aside0.mk (blk_new w (.cells #[.slice A0 l0.length c0] 32 (0, 0)))
    have HB1 := Aside0.mk ((Below.refl w.heap.size w).alloc (Nat.le_refl _) (.cells #[.slice A0 l0.length c0] 32 (0, 0)))
    obtain ⟨W1, hW1⟩ : ∃ W, W = (w.alloc (.cells #[.slice A0 l0.length c0] 32 (0, 0))).alloc (.cells #[.int .i64 0] 3 (0, 0)) := ⟨_, rfl⟩
    have B1 : W1.heap[w.heap.size]? = some (.cells #[.slice A0 l0.length c0] 32 (0, 0)) := by rw [hW1]; exact blk_alloc BX.out _
    have HB2 := Aside0.mk (show Below w.heap.size w W1 by rw [hW1]; exact below_alloc HB1.out _)
    have hs1 : (w.alloc (.cells #[.slice A0 l0.length c0] 32 (0, 0))).heap.size = w.heap.size + 1 := by simp
    have hown := own_lit (w.alloc (.cells #[.slice A0 l0.length c0] 32 (0, 0))) w.heap.size 3 [.int .i64 0] HB1.out.size (by simp)
    have hCl : Kd.C (Kd.int .i64) W1 (some ⟨w.heap.size + 1, 0, none⟩) ([0] : List Int).length [0] := by
      rw [hW1, ← hs1]
      exact (Kd.R_reads' (Kd.R_of_own (enc := Value.int .i64) (h1 := fun _ => rfl) (xs := [(0 : Int)]) (ok := fun _ => True) hown (fun _ _ => trivial))).2.2
    have CW := Aside0.mk (gwalk.calls (graph_next.f l0) k 48 #[.pointer (some ⟨w.heap.size, 0, none⟩)] l0.length (some ⟨w.heap.size + 1, 0, none⟩) 1 [0] r W1 h1 (by simp) hCl (enters_ Tryd.func48 (by kernel_rfl) rfl)
      (fun a r W hr hb => reach1.calls A0 c0 l0 a r w.heap.size W hr (blk_below B1 hb) (Kd.C_below (Kd.C_below hr0 HB2.out) hb) hc0 ((hgl.step HB2.out).step hb)) h)
    have HW1 := Aside0.mk hW1
    clear h h0 h1 hr0 hgl B1 hs1 hown hCl hW1
    go_enter Tryd.func23, Tryd.ntmps23
    go_wp2_with fail
    rw [← HW1.out]
    refine CW.out.mono ?_
    rintro e w' ⟨v, rfl, hR, hb⟩
    have HR := Aside0.mk (Kd.R_lower hR HB2.out.size)
    have HB := Aside0.mk (below_step HB2.out hb)
    clear hR hb CW HW1
    go_wp2_with fail
    go_ret
    exact ⟨_, rfl, HR.out, HB.out⟩
end Go.Proofs.YtdopacgaklaaeaaDoor.PDeadBack
