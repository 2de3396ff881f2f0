import Derived.Test.YtdopacgaklaaeaaDoorPDeadBackx0
import Derived.Test.YtdopacgaklaaeaaDoorPDeadBackx7
import Derived.Test.YtdopacgaklaaeaaDoorPDeadBackhg2
import Derived.Test.YtdopacgaklaaeaaDoorPDeadBackhg5
import Derived.Test.YtdopacgaklaaeaaDoorPDeadBackhforms
import Derived.Test.YtdopacgaklaaeaaDoorPDeadBackhg7
import Derived.KernelRfl
import Derived.Test.YtdopacgaklaaeaaDoorPDeadBackhg6
import Derived.Test.YtdopacgaklaaeaaDoorPDeadBackhdback2
import Derived.Test.YtdopacgaklaaeaaDoorPDeadBackhmpure
import Derived.Test.YtdopacgaklaaeaaDoorPDeadBackhplain0
import Derived.Test.YtdopacgaklaaeaaDoorPDeadBackx4
import Derived.Test.YtdopacgaklaaeaaDoorPDeadBackx8
import Derived.Test.YtdopacgaklaaeaaDoorPDeadBackhdcode
import Derived.Test.YtdopacgaklaaeaaDoorPDeadBackhdmv
import Derived.Test.YtdopacgaklaaeaaDoorPDeadBackhg4
namespace Go.Proofs.YtdopacgaklaaeaaDoor.PDeadBack
open Go.RowKit Go.Proofs.YtdopacgaklaaeaaDoorW.PrintWords Go.Proofs.YtdopacgaklaaeaaDoorW.PrintLast Go.Proofs.YtdopacgaklaaeaaDoorW.PrintMore
set_option linter.unusedVariables false
set_option linter.unusedSimpArgs false
/-! The document's example of chapter 18, and what a checked code is. -/
theorem awake18 : Ev (fun k => palinglaw18_awake.f k) true := Ev.of palinglaw18_awake.mono (k := 20) (by decide +kernel)
theorem ok_of_check {l : List S28} (h : checkB l 30 9 = true) : OK18 l ∧ (∀ x ∈ l, 0 ≤ x.f0 ∧ x.f0 < 14) ∧ 0 < l.length := by
  obtain ⟨h1, _, h3, _⟩ := check_facts h
  have key : ∀ x ∈ l, (0 ≤ x.f0 ∧ x.f0 < 14) ∧ (0 ≤ x.f2 ∧ x.f2 ≤ 30 ∧ x.f3 ≤ 30 ∧ x.f4 ≤ 30) ∧ (¬ (x.f0 = 6 ∨ x.f0 = 7) → x.f6 = 0) ∧ 0 ≤ x.f6 ∧ x.f6 < (l.length : Int) := by
    intro x hx
    have h := h3 x hx
    simp only [oneB, Bool.and_eq_true, decide_eq_true_eq] at h
    obtain ⟨a1, a2, a3, a4, _, _, _, _, a5, _, a6, a7⟩ := h
    refine ⟨a1, ⟨?_, ?_, ?_, ?_⟩, fun hk => ?_, a6, a7⟩
    · unfold regB at a2; split at a2 <;> simp at a2 <;> omega
    · unfold regB at a2; split at a2 <;> simp at a2 <;> omega
    · unfold regB at a3; split at a3 <;> simp at a3 <;> omega
    · unfold regB at a4; split at a4 <;> simp at a4 <;> omega
    · unfold fT at a5
      simp at a5
      omega
  exact ⟨fun x hx => (key x hx).2, fun x hx => (key x hx).1, by omega⟩
theorem def_none (k : Int) (h : 5 ≤ k ∧ k < 14) : fmB 1 k = false := by
  have : k = 5 ∨ k = 6 ∨ k = 7 ∨ k = 8 ∨ k = 9 ∨ k = 10 ∨ k = 11 ∨ k = 12 ∨ k = 13 := by omega
  rcases this with rfl | rfl | rfl | rfl | rfl | rfl | rfl | rfl | rfl <;> decide +kernel
end Go.Proofs.YtdopacgaklaaeaaDoor.PDeadBack

namespace Go.Proofs.YtdopacgaklaaeaaDoor.PDeadBack
open Go.RowKit Go.Proofs.YtdopacgaklaaeaaDoorW.PrintWords Go.Proofs.YtdopacgaklaaeaaDoorW.PrintLast Go.Proofs.YtdopacgaklaaeaaDoorW.PrintMore
set_option linter.unusedVariables false
set_option linter.unusedSimpArgs false
/-! A code with fences runs as without: the eight turns of the law. -/
def backL (c d : List S28) : Nat → MSt → MSt → Bool
  | 0, _, _ => true
  | n + 1, s, t => if (nextS c 100 s).2.2 = 3 ∨ (nextS d 300 t).2.2 = 3 then true else if (nextS c 100 s).2.1 = (nextS d 300 t).2.1 ∧ (nextS c 100 s).2.2 = (nextS d 300 t).2.2 then backL c d n (nextS c 100 s).1 (nextS d 300 t).1 else false
section
variable {c : List S28} {g : List Bool}
theorem back_turns (hg : g.length = c.length) (hl : c.length ≤ 1000) (hok : ∀ x ∈ c, 0 ≤ x.f6 ∧ x.f6 < (c.length : Int)) : ∀ (n : Nat) (s : MSt) (p e : Nat), s.pc = (p : Int) → p ≤ c.length → Off g p e → backL c (fenced c g) n s (atS g s e) = true
  | 0, s, p, e, hp, hpl, he => rfl
  | n + 1, s, p, e, hp, hpl, he => by
    rw [backL]
    by_cases h3 : (nextS c 100 s).2.2 = 3
    · rw [if_pos (.inl h3)]
    · have key : ∃ p' e' : Nat, (nextS c 100 s).1.pc = (p' : Int) ∧ p' ≤ c.length ∧ Off g p' e' ∧ nextS (fenced c g) 300 (atS g s e) = (atS g (nextS c 100 s).1 e', (nextS c 100 s).2) := by
        unfold nextS at h3 ⊢
        have ho : (atS g s e).over = s.over := rfl
        rw [ho]
        by_cases hv : s.over = true
        · rw [if_pos hv, if_pos hv]
          exact ⟨p, e, hp, hpl, he, rfl⟩
        · rw [if_neg hv] at h3
          rw [if_neg hv, if_neg hv]
          exact run_fenced hg hl hok 100 s p e 300 hp hpl he (by decide) h3
      obtain ⟨p', e', k1, k2, k3, k4⟩ := key
      rw [k4, if_neg (by rintro (h | h) <;> exact h3 h), if_pos ⟨rfl, rfl⟩]
      exact back_turns hg hl hok n _ p' e' k1 k2 k3
end
end Go.Proofs.YtdopacgaklaaeaaDoor.PDeadBack

namespace Go.Proofs.YtdopacgaklaaeaaDoor.PDeadBack
open Go.RowKit Go.Proofs.YtdopacgaklaaeaaDoorW.PrintWords Go.Proofs.YtdopacgaklaaeaaDoorW.PrintLast Go.Proofs.YtdopacgaklaaeaaDoorW.PrintMore
set_option linter.unusedVariables false
set_option linter.unusedSimpArgs false
/-! DeadBack: what the law comes to, and that it holds. -/
def someB (n : Nat) (l : List Int) : List Bool := (List.range n).map fun i => decide (i < l.length) && (Int.tmod (l.getD i 0) 2 == 1)
def palinglaw18_DeadBack.f (k : Nat) (l0 : List S28) (l1 : List Int) (l2 : List Int) : Option Bool :=
  (palinglaw18_awake.f k).bind fun up => if up = true then (if l0.length ≤ 60 ∧ l1.length ≤ 60 then (palingref11_Check.f k l0 30 9).bind fun ok => if ok = true then (dead_Insert.f k l0 8 0 0 0 0 0 0 (someB l0.length l2)).bind fun d =>
    (if d.length = (goneB (someB l0.length l2)).length then (dead_Less.f k d (goneB (someB l0.length l2))).bind fun e => (palingref13_Same.f k e l0).bind fun sm => (if sm = true ∧ backL l0 d 8 ⟨l1, [], [], 0, false⟩ ⟨l1, [], [], 0, false⟩ = true then some true else none) else none) else some true else some true) else none
theorem insM_ev (c : List S28) (g : List Bool) (hc : c.length ≤ 1000000) (hg : g.length = c.length) : Ev (fun k => dead_Insert.f k c 8 0 0 0 0 0 0 g) (fenced c g) := by
  refine Ev.congr (f := fun k => (movedL (insGo k g) c).map (insertL fenceI g 0)) (fun k => by unfold dead_Insert.f; rw [if_pos ⟨hc, by omega⟩]; rfl) (Ev.map (movedL_ev (fun a => ?_) c))
  exact Ev.map (count_ev g (by omega) a true)
theorem back_holds (l0 : List S28) (l1 l2 : List Int) : Ev (fun k => palinglaw18_DeadBack.f k l0 l1 l2) true := by
  unfold palinglaw18_DeadBack.f
  refine Ev.bind awake18 (Ev.tt ?_)
  by_cases hs : l0.length ≤ 60 ∧ l1.length ≤ 60
  · refine Ev.pos hs (Ev.bind (check_spec l0 30 9) ?_)
    cases hc : checkB l0 30 9 with
    | false => exact Ev.neg (by simp) (Ev.now _)
    | true =>
      obtain ⟨hok, _, hpos⟩ := ok_of_check hc
      have hok' : ∀ x ∈ l0, 0 ≤ x.f6 ∧ x.f6 < (l0.length : Int) := fun x hx => (hok x hx).2.2
      have hg : (someB l0.length l2).length = l0.length := by simp [someB]
      generalize someB l0.length l2 = g at hg ⊢
      have hl := fenced_len hg
      have hp := posL_le hg l0.length (Nat.le_refl _)
      have hgl := goneB_len g
      rw [hg] at hgl
      refine Ev.pos rfl (Ev.bind (insM_ev l0 g (by omega) hg) (Ev.pos (by rw [hl, hgl]) ?_))
      have hL := less_ev (fenced l0 g) (goneB g) (by omega) (by rw [hl, hgl]) (by intro h; rw [h] at hl; simp at hl; unfold posL at hl; omega)
      rw [less_fenced hg (by omega) hok'] at hL
      refine Ev.bind hL (Ev.bind (same13_spec l0 (by omega)) (Ev.pos ⟨rfl, ?_⟩ (Ev.now _)))
      exact back_turns hg (by omega) hok' 8 ⟨l1, [], [], 0, false⟩ 0 0 rfl (by omega) (.inl rfl)
  · exact Ev.neg hs (Ev.now _)
end Go.Proofs.YtdopacgaklaaeaaDoor.PDeadBack
