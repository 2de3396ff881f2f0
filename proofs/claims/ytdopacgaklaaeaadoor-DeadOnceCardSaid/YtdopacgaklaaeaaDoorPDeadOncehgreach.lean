-- HAND paling/graph.Reach rounds=1 making=1 needs=paling/graph.next
import Derived.Test.YtdopacgaklaaeaaDoorPDeadOncex0
import Derived.Test.YtdopacgaklaaeaaDoorPDeadOncehforms
import Derived.Test.YtdopacgaklaaeaaDoorPDeadOncehgnx
import Derived.Test.YtdopacgaklaaeaaDoorPDeadOncehgwalk
import Derived.Test.YtdopacgaklaaeaaDoorPDeadOncehplain0
import Derived.OneCell
namespace Go.Proofs.YtdopacgaklaaeaaDoor.PDeadOnce
open Go.RowKit Go.Proofs.YtdopacgaklaaeaaDoorW.PrintWords Go.Proofs.YtdopacgaklaaeaaDoorW.PrintLast Go.Proofs.YtdopacgaklaaeaaDoorW.PrintMore
set_option linter.unusedVariables false
set_option linter.unusedSimpArgs false
open Go.Shelf
/-! graph.Reach: which instructions can be come to. -/
def graph_Reach.f (k : Nat) (l0 : List S28) : Option (List Bool) := if l0 = [] then some [] else if l0.length ≤ 1000000 then walkGo (graph_next.f l0) k (List.replicate l0.length false) [0] else none
theorem walkGo.mono (st : Int → Option (List Int)) : ∀ k s w, LeO (walkGo st k s w) (walkGo st (k + 1) s w)
  | 0, s, w, r, h => by simp [walkGo] at h
  | k + 1, s, w, r, h => by
    rw [walkGo] at h ⊢
    by_cases h1 : w = []
    · rw [if_pos h1] at h ⊢; exact h
    · rw [if_neg h1] at h ⊢
      by_cases h2 : 0 ≤ w.getLastD 0 ∧ w.getLastD 0 < (s.length : Int)
      · rw [if_pos h2] at h ⊢
        by_cases h3 : at_ s (w.getLastD 0) = true
        · rw [if_pos h3] at h ⊢; exact walkGo.mono st k _ _ r h
        · rw [if_neg h3] at h ⊢
          obtain ⟨l, hl, h4⟩ := Option.bind_eq_some_iff.1 h
          refine Option.bind_eq_some_iff.2 ⟨l, hl, ?_⟩
          by_cases h5 : w.length + l.length ≤ 1000000000
          · rw [if_pos h5] at h4 ⊢; exact walkGo.mono st k _ _ r h4
          · rw [if_neg h5] at h4; exact absurd h4 (by simp)
      · rw [if_neg h2] at h; exact absurd h (by simp)
theorem graph_Reach.mono : ∀ a0 k, LeO (graph_Reach.f k a0) (graph_Reach.f (k + 1) a0) := fun a0 k r h => by
  unfold graph_Reach.f at h ⊢
  by_cases h1 : a0 = []
  · rw [if_pos h1] at h ⊢; exact h
  · rw [if_neg h1] at h ⊢
    by_cases h2 : a0.length ≤ 1000000
    · rw [if_pos h2] at h ⊢; exact walkGo.mono _ k _ _ r h
    · rw [if_neg h2] at h; exact absurd h (by simp)
theorem reach1.calls (A0 : Option Addr) (c0 : Nat) (l0 : List S28) (a : Int) (r : List Int) (B : Nat) (W : World) (hr : graph_next.f l0 a = some r) (hB : W.heap[B]? = some (.cells #[.slice A0 l0.length c0] 32 (0, 0))) (hC : Kd.C k28 W A0 l0.length l0) (hc : l0.length ≤ c0) (hgl : GlobOK W) :
    Calls Tryd.prog 48 #[.int .i64 a, .pointer (some ⟨B, 0, none⟩)] W fun e W' => ∃ (A : Option Addr) (c : Nat), e = .returned (.slice A r.length c) ∧ Kd.C (Kd.int .i64) W' A r.length r ∧ Below W.heap.size W W' := by
  have hcell : W.cell? ⟨B, 0, none⟩ = some (.slice A0 l0.length c0) := cell_of_one hB
  have CN := Aside0.mk (graph_next.calls A0 c0 l0 a r W hC hc hr hgl)
  clear hr hB hC hgl
  go_enter Tryd.func48, Tryd.ntmps48
  go_wp2_with (go_at_call 49; (with_reducible refine CN.out.mono ?_); rintro e w' ⟨v, rfl, hR, hb⟩; have HR := Aside0.mk hR; have HB := Aside0.mk hb; clear hR hb CN)
  go_ret
  obtain ⟨A, c, e⟩ := Kd.R_slice HR.out
  have h2 := HR.out
  rw [e] at h2
  exact ⟨A, c, by rw [← e]; rfl, (Kd.R_reads' h2).2.2, HB.out⟩
set_option maxHeartbeats 4000000 in
theorem graph_Reach.calls (k : Nat) (A0 : Option Addr) (c0 : Nat) (l0 : List S28) (r : List Bool) (w : World) (hr0 : Kd.C k28 w A0 l0.length l0) (hc0 : l0.length ≤ c0) (h : graph_Reach.f k l0 = some r) (hgl : GlobOK w) :
    Calls Tryd.prog 23 #[.slice A0 l0.length c0] w fun e w' => ∃ v0_ : Value, e = .returned (v0_) ∧ Kd.R Kd.bool 4 w' w.heap.size (fun _ => True) v0_ r ∧ Below w.heap.size w w' := by
  unfold graph_Reach.f at h
  have hmf : ∀ (fn : Fn) (first cap : Array Value) (w : World), (Instr.makeFunc fn first cap).run Tryd.prog w = .ok (.func fn first cap) w := fun _ _ _ _ => rfl
  by_cases h0 : l0 = []
  · rw [if_pos h0] at h
    obtain rfl := Option.some.inj h
    subst h0
    clear h hr0 hgl
    go_enter Tryd.func23, Tryd.ntmps23
    go_wp2_with fail
    go_ret
    exact ⟨_, rfl, Kd.R_nil _ _ _ _ _, (Below.refl _ _).alloc (Nat.le_refl _) _⟩
  · rw [if_neg h0] at h
    by_cases h1 : l0.length ≤ 1000000
    case neg => rw [if_neg h1] at h; exact absurd h (by simp)
    rw [if_pos h1] at h
    have hne : ((l0.length : Int) == 0) = false := by
      have := List.length_pos_iff.2 h0
      simp; omega
    have BX := Aside0.mk (blk_new w (.cells #[.slice A0 l0.length c0] 32 (0, 0)))
    have HB1 := Aside0.mk ((Below.refl w.heap.size w).alloc (Nat.le_refl _) (.cells #[.slice A0 l0.length c0] 32 (0, 0)))
    obtain ⟨W1, hW1⟩ : ∃ W, W = (w.alloc (.cells #[.slice A0 l0.length c0] 32 (0, 0))).alloc (.cells #[.int .i64 0] 3 (0, 0)) := ⟨_, rfl⟩
    have B1 : W1.heap[w.heap.size]? = some (.cells #[.slice A0 l0.length c0] 32 (0, 0)) := by rw [hW1]; exact blk_alloc BX.out _
    have HB2 := Aside0.mk (show Below w.heap.size w W1 by rw [hW1]; exact below_alloc HB1.out _)
    have hs1 : (w.alloc (.cells #[.slice A0 l0.length c0] 32 (0, 0))).heap.size = w.heap.size + 1 := by simp
    have hown := own_lit (w.alloc (.cells #[.slice A0 l0.length c0] 32 (0, 0))) w.heap.size 3 [.int .i64 0] HB1.out.size (by simp)
    have hCl : Kd.C (Kd.int .i64) W1 (some ⟨w.heap.size + 1, 0, none⟩) ([0] : List Int).length [0] := by
      rw [hW1, ← hs1]
      exact (Kd.R_reads' (Kd.R_of_own (enc := Value.int .i64) (h1 := fun _ => rfl) (xs := [(0 : Int)]) (ok := fun _ => True) hown (fun _ _ => trivial))).2.2
    have CW := Aside0.mk (gwalk.calls (graph_next.f l0) k 48 #[.pointer (some ⟨w.heap.size, 0, none⟩)] l0.length (some ⟨w.heap.size + 1, 0, none⟩) 1 [0] r W1 h1 (by simp) hCl (enters_ Tryd.func48 (by kernel_rfl) rfl)
      (fun a r W hr hb => reach1.calls A0 c0 l0 a r w.heap.size W hr (blk_below B1 hb) (Kd.C_below (Kd.C_below hr0 HB2.out) hb) hc0 ((hgl.step HB2.out).step hb)) h)
    have HW1 := Aside0.mk hW1
    clear h h0 h1 hr0 hgl B1 hs1 hown hCl hW1
    go_enter Tryd.func23, Tryd.ntmps23
    go_wp2_with fail
    rw [← HW1.out]
    refine CW.out.mono ?_
    rintro e w' ⟨v, rfl, hR, hb⟩
    have HR := Aside0.mk (Kd.R_lower hR HB2.out.size)
    have HB := Aside0.mk (below_step HB2.out hb)
    clear hR hb CW HW1
    go_wp2_with fail
    go_ret
    exact ⟨_, rfl, HR.out, HB.out⟩
end Go.Proofs.YtdopacgaklaaeaaDoor.PDeadOnce
