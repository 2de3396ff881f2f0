import Derived.Test.YtdopacgaklaaeaaDoorPDeadBackx0
import Derived.Test.YtdopacgaklaaeaaDoorPDeadBackhg3
import Derived.Test.YtdopacgaklaaeaaDoorPDeadBackhg8
import Derived.Test.YtdopacgaklaaeaaDoorPDeadBackx4
import Derived.Test.YtdopacgaklaaeaaDoorPDeadBackhplain0
import Derived.Test.YtdopacgaklaaeaaDoorPDeadBackhmach
import Derived.Test.YtdopacgaklaaeaaDoorPDeadBackhgnx
import Derived.Lib.RowBridge
namespace Go.Proofs.YtdopacgaklaaeaaDoor.PDeadBack
open Go.RowKit Go.Proofs.YtdopacgaklaaeaaDoorW.PrintWords Go.Proofs.YtdopacgaklaaeaaDoorW.PrintLast Go.Proofs.YtdopacgaklaaeaaDoorW.PrintMore
set_option linter.unusedVariables false
set_option linter.unusedSimpArgs false
/-! useRegs: rising, each once, none below 0. -/
theorem useRegs_spec (L : List Int) : (useRegs L).Pairwise (· < ·) ∧ ∀ i, i ∈ useRegs L ↔ i ∈ L ∧ 0 ≤ i := by
  have h := compact_sort (L.filter (fun x => !decide (x < 0)))
  refine ⟨h.1, fun i => ?_⟩
  unfold useRegs
  rw [h.2, List.mem_filter]
  simp
end Go.Proofs.YtdopacgaklaaeaaDoor.PDeadBack

namespace Go.Proofs.YtdopacgaklaaeaaDoor.PDeadBack
open Go.RowKit Go.Proofs.YtdopacgaklaaeaaDoorW.PrintWords Go.Proofs.YtdopacgaklaaeaaDoorW.PrintLast Go.Proofs.YtdopacgaklaaeaaDoorW.PrintMore
set_option linter.unusedVariables false
set_option linter.unusedSimpArgs false
theorem same13_spec (a : List S28) (ha : a.length ≤ 1000000) : Ev (fun k => palingref13_Same.f k a a) true := by
  have main : ∀ i : Int, 0 ≤ i → i ≤ a.length → Ev (fun k => palingref13_Same.l0 k a a i) true := by
    refine up_ind ?_ ?_
    · exact Ev.step (fun k => rfl) (Ev.neg (by omega) (Ev.now _))
    · intro i i0 i1 ih
      have hw : wrap64 (i + 1) = i + 1 := wrap_up i0 i1 (by omega)
      rw [← hw] at ih
      exact Ev.step (fun k => rfl) (Ev.pos i1 (Ev.pos i0 (Ev.pos i1 (Ev.neg (by simp) ih))))
  exact Ev.congr (fun k => rfl) (Ev.pos rfl (main 0 (by omega) (by omega)))
end Go.Proofs.YtdopacgaklaaeaaDoor.PDeadBack

namespace Go.Proofs.YtdopacgaklaaeaaDoor.PDeadBack
open Go.RowKit Go.Proofs.YtdopacgaklaaeaaDoorW.PrintWords Go.Proofs.YtdopacgaklaaeaaDoorW.PrintLast Go.Proofs.YtdopacgaklaaeaaDoorW.PrintMore
set_option linter.unusedVariables false
set_option linter.unusedSimpArgs false
/-! The machine's events, as results. -/
theorem res_event {fn : Func} (h : fn.results = #[.cell 6 42, .tmp 7]) (tmps : Array Value) (w : World) (g : Nat) (k th n : Int) (h6 : tmps.getD 6 undef = .pointer (some ⟨g, 0, none⟩)) (hc : w.heap[g]? = some (.cells #[.int .i64 k, .int .i64 th, .int .i64 n] 42 (0, 0))) :
    (results fn tmps).run Tryd.prog w = .ok (.tuple #[.agg #[.int .i64 k, .int .i64 th, .int .i64 n], tmps.getD 7 undef]) w := by
  have c0 : w.cell? ⟨g, 0, none⟩ = some (.int .i64 k) := (blk_cell hc 0).trans rfl
  have c1 : w.cell? ⟨g, 1, none⟩ = some (.int .i64 th) := (blk_cell hc 1).trans rfl
  have c2 : w.cell? ⟨g, 2, none⟩ = some (.int .i64 n) := (blk_cell hc 2).trans rfl
  have hl : (loadVar 42 ⟨g, 0, none⟩).run Tryd.prog w = .ok (.agg #[.int .i64 k, .int .i64 th, .int .i64 n]) w := by
    go_simp
  have h6' : tmps[6]?.getD undef = .pointer (some ⟨g, 0, none⟩) := by simpa using h6
  simp [results, h, h6', asAddr, hl]
end Go.Proofs.YtdopacgaklaaeaaDoor.PDeadBack

namespace Go.Proofs.YtdopacgaklaaeaaDoor.PDeadBack
open Go.RowKit Go.Proofs.YtdopacgaklaaeaaDoorW.PrintWords Go.Proofs.YtdopacgaklaaeaaDoorW.PrintLast Go.Proofs.YtdopacgaklaaeaaDoorW.PrintMore
set_option linter.unusedVariables false
set_option linter.unusedSimpArgs false
open Go.Shelf
/-! Package graph in plain words: Reach. -/
/-- where the instruction at i goes to in its code -/
def nxOf (l : List S28) (i : Int) : List Int := if 0 ≤ i ∧ i < (l.length : Int) then (graph_next.f l i).getD [] else []
theorem twoL_len (a b : Int) : (twoL a b).length ≤ 2 := by
  unfold twoL
  refine Nat.le_trans (Lib.compact_length_le _) ?_
  rw [List.length_mergeSort]; simp
theorem graph_next_some (l : List S28) (i : Int) (h0 : 0 ≤ i) (h1 : i < (l.length : Int)) : graph_next.f l i = some (nxOf l i) := by
  unfold nxOf
  rw [if_pos ⟨h0, h1⟩]
  unfold graph_next.f ins_Next.f
  rw [if_pos ⟨h0, h1⟩, Option.bind_some]
  rw [if_pos ?_]
  · rfl
  · split
    · simp
    · split
      · simp
      · split
        · have := twoL_len (wrap64 (i + 1)) (rd_T28 l i).f6; omega
        · simp
theorem nxOf_in (l : List S28) (i : Int) : ∀ j ∈ nxOf l i, 0 ≤ j ∧ j < (l.length : Int) := by
  intro j hj
  by_cases h : 0 ≤ i ∧ i < (l.length : Int)
  · have he := graph_next_some l i h.1 h.2
    unfold graph_next.f at he
    rw [if_pos h] at he
    obtain ⟨L, _, h2⟩ := Option.bind_eq_some_iff.1 he
    by_cases hL : L.length ≤ 1000000
    · rw [if_pos hL] at h2
      rw [← Option.some.inj h2] at hj
      have := (List.mem_filter.1 hj).2
      unfold inB at this
      simp at this
      omega
    · rw [if_neg hL] at h2; exact absurd h2 (by simp)
  · unfold nxOf at hj
    rw [if_neg h] at hj
    exact absurd hj (by simp)
theorem insNext_len {a0 a1 a2 a3 a4 a5 a6 b : Int} {L : List Int} (h : ins_Next.f a0 a1 a2 a3 a4 a5 a6 b = some L) : L.length ≤ 2 := by
  unfold ins_Next.f at h
  rw [← Option.some.inj h]
  split
  · simp
  · split
    · simp
    · split
      · exact twoL_len _ _
      · simp
theorem nxOf_len (l : List S28) (i : Int) : (nxOf l i).length ≤ 2 := by
  by_cases h : 0 ≤ i ∧ i < (l.length : Int)
  · have he := graph_next_some l i h.1 h.2
    unfold graph_next.f at he
    rw [if_pos h] at he
    obtain ⟨L, h1, h2⟩ := Option.bind_eq_some_iff.1 he
    by_cases hL : L.length ≤ 1000000
    · rw [if_pos hL] at h2
      rw [← Option.some.inj h2]
      exact Nat.le_trans (List.length_filter_le _ _) (insNext_len h1)
    · rw [if_neg hL] at h2; exact absurd h2 (by simp)
  · unfold nxOf
    rw [if_neg h]
    simp
theorem un_none (n : Nat) : un (List.replicate n false) = n := by simp [un]
theorem at_none (n : Nat) (i : Int) : at_ (List.replicate n false) i = false := by
  unfold at_
  rw [List.getD_eq_getElem?_getD, List.getElem?_replicate]
  split <;> rfl
/-- Reach tells just the places that ways from the first one lead to. -/
theorem graph_Reach_spec (l : List S28) (hn : 0 < l.length) (hl : l.length ≤ 1000) (k : Nat) (hk : 4000 < k) :
    ∃ re, graph_Reach.f k l = some re ∧ re.length = l.length ∧ ∀ i, 0 ≤ i → (at_ re i = true ↔ Way (nxOf l) 0 i) := by
  have hne : l ≠ [] := List.length_pos_iff.1 hn
  obtain ⟨R, h1, hI⟩ := walk_go (nxOf l) (graph_next.f l) l.length 2 [0] (fun i h0 h1 => graph_next_some l i h0 h1) (fun i _ _ => ⟨nxOf_len l i, nxOf_in l i⟩) 4000 (List.replicate l.length false) [0]
    ⟨by simp, fun i hi => by rw [List.mem_singleton.1 hi]; omega, fun i _ hh => by
        rcases hh with hh | hh
        · rw [at_none] at hh; exact absurd hh (by simp)
        · rw [List.mem_singleton.1 hh]; exact ⟨0, by simp, .refl 0⟩, fun i _ hh => by rw [at_none] at hh; exact absurd hh (by simp), fun s hs => .inr hs⟩
    (by rw [un_none]; simp; omega) (by rw [un_none]; simp; omega) k hk
  refine ⟨R, by unfold graph_Reach.f; rw [if_neg hne, if_pos (by omega)]; exact h1, hI.len, fun i hi => ?_⟩
  rw [hI.done (fun i _ _ => nxOf_in l i) (fun s hs => by rw [List.mem_singleton.1 hs]; omega) i hi]
  constructor
  · rintro ⟨s, hs, hw⟩; rw [List.mem_singleton.1 hs] at hw; exact hw
  · intro hw; exact ⟨0, by simp, hw⟩
theorem graph_Reach_ev (l : List S28) (hn : 0 < l.length) (hl : l.length ≤ 1000) : ∃ re, Ev (fun k => graph_Reach.f k l) re ∧ re.length = l.length ∧ ∀ i, 0 ≤ i → (at_ re i = true ↔ Way (nxOf l) 0 i) := by
  obtain ⟨re, h1, h2⟩ := graph_Reach_spec l hn hl 4001 (by omega)
  exact ⟨re, Ev.of (graph_Reach.mono l) h1, h2⟩
end Go.Proofs.YtdopacgaklaaeaaDoor.PDeadBack
