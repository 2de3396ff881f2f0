import Derived.Test.YtdopacgaklaaeaaDoorPDeadRunsx0
import Derived.Test.YtdopacgaklaaeaaDoorPDeadRunsx7
import Derived.Test.YtdopacgaklaaeaaDoorPDeadRunshg2
import Derived.Test.YtdopacgaklaaeaaDoorPDeadRunshg4
import Derived.Test.YtdopacgaklaaeaaDoorPDeadRunshforms
import Derived.Test.YtdopacgaklaaeaaDoorPDeadRunshg3
import Derived.KernelRfl
import Derived.Test.YtdopacgaklaaeaaDoorPDeadRunshdcode
import Derived.Test.YtdopacgaklaaeaaDoorPDeadRunshdcl
import Derived.Test.YtdopacgaklaaeaaDoorPDeadRunshgnx
import Derived.Test.YtdopacgaklaaeaaDoorPDeadRunshg1
import Derived.Test.YtdopacgaklaaeaaDoorPDeadRunshg6
import Derived.Test.YtdopacgaklaaeaaDoorPDeadRunshplain0
import Derived.Test.YtdopacgaklaaeaaDoorPDeadRunshdback2
import Derived.Test.YtdopacgaklaaeaaDoorPDeadRunshg5
import Derived.Test.YtdopacgaklaaeaaDoorPDeadRunshmnext
import Derived.Test.YtdopacgaklaaeaaDoorPDeadRunshmplain
namespace Go.Proofs.YtdopacgaklaaeaaDoor.PDeadRuns
open Go.RowKit Go.Proofs.YtdopacgaklaaeaaDoorW.PrintWords Go.Proofs.YtdopacgaklaaeaaDoorW.PrintLast Go.Proofs.YtdopacgaklaaeaaDoorW.PrintMore
set_option linter.unusedVariables false
set_option linter.unusedSimpArgs false
/-! The document's example of chapter 18, and what a checked code is. -/
theorem awake18 : Ev (fun k => palinglaw18_awake.f k) true := Ev.of palinglaw18_awake.mono (k := 20) (by decide +kernel)
theorem ok_of_check {l : List S28} (h : checkB l 30 9 = true) : OK18 l ∧ (∀ x ∈ l, 0 ≤ x.f0 ∧ x.f0 < 14) ∧ 0 < l.length := by
  obtain ⟨h1, _, h3, _⟩ := check_facts h
  have key : ∀ x ∈ l, (0 ≤ x.f0 ∧ x.f0 < 14) ∧ (0 ≤ x.f2 ∧ x.f2 ≤ 30 ∧ x.f3 ≤ 30 ∧ x.f4 ≤ 30) ∧ (¬ (x.f0 = 6 ∨ x.f0 = 7) → x.f6 = 0) ∧ 0 ≤ x.f6 ∧ x.f6 < (l.length : Int) := by
    intro x hx
    have h := h3 x hx
    simp only [oneB, Bool.and_eq_true, decide_eq_true_eq] at h
    obtain ⟨a1, a2, a3, a4, _, _, _, _, a5, _, a6, a7⟩ := h
    refine ⟨a1, ⟨?_, ?_, ?_, ?_⟩, fun hk => ?_, a6, a7⟩
    · unfold regB at a2; split at a2 <;> simp at a2 <;> omega
    · unfold regB at a2; split at a2 <;> simp at a2 <;> omega
    · unfold regB at a3; split at a3 <;> simp at a3 <;> omega
    · unfold regB at a4; split at a4 <;> simp at a4 <;> omega
    · unfold fT at a5
      simp at a5
      omega
  exact ⟨fun x hx => (key x hx).2, fun x hx => (key x hx).1, by omega⟩
theorem def_none (k : Int) (h : 5 ≤ k ∧ k < 14) : fmB 1 k = false := by
  have : k = 5 ∨ k = 6 ∨ k = 7 ∨ k = 8 ∨ k = 9 ∨ k = 10 ∨ k = 11 ∨ k = 12 ∨ k = 13 := by omega
  rcases this with rfl | rfl | rfl | rfl | rfl | rfl | rfl | rfl | rfl <;> decide +kernel
end Go.Proofs.YtdopacgaklaaeaaDoor.PDeadRuns

namespace Go.Proofs.YtdopacgaklaaeaaDoor.PDeadRuns
open Go.RowKit Go.Proofs.YtdopacgaklaaeaaDoorW.PrintWords Go.Proofs.YtdopacgaklaaeaaDoorW.PrintLast Go.Proofs.YtdopacgaklaaeaaDoorW.PrintMore
set_option linter.unusedVariables false
set_option linter.unusedSimpArgs false
open Go.Shelf
/-! A code without what nobody needs runs as with it. -/
theorem cntF_drop (g : List Bool) (n i : Nat) (h : n < g.length) : cntD (g.drop n) false (i + 1) = (if g.getD n false = false then 1 else 0) + cntD (g.drop (n + 1)) false i := by
  unfold cntD
  rw [getD_drop g false n h, List.take_succ_cons, List.count_cons]
  cases g.getD n false <;> simp <;> omega
theorem keep_at (g : List Bool) : ∀ (l : List S28) (n i : Nat), n + l.length = g.length → i < l.length → g.getD (n + i) false = false →
    (keepL (fun j _ => g.getD j false) n l).getD (cntD (g.drop n) false i) z28 = l.getD i z28
  | [], n, i, hn, hi, hg => by simp at hi
  | a :: tl, n, 0, hn, hi, hg => by
    have h0 : cntD (g.drop n) false 0 = 0 := by simp [cntD]
    rw [Nat.add_zero] at hg
    rw [h0, keepL, if_neg (by rw [hg]; simp)]
    rfl
  | a :: tl, n, i + 1, hn, hi, hg => by
    have ih := keep_at g tl (n + 1) i (by simp at hn; omega) (by simp at hi; omega) (by rw [show n + 1 + i = n + (i + 1) by omega]; exact hg)
    rw [cntF_drop g n i (by simp at hn; omega), keepL]
    cases hq : g.getD n false with
    | true => rw [if_pos rfl, if_neg (by simp), Nat.zero_add]; simpa using ih
    | false => rw [if_neg (by simp), if_pos rfl, show 1 + cntD (g.drop (n + 1)) false i = cntD (g.drop (n + 1)) false i + 1 from Nat.add_comm _ _, List.getD_cons_succ, List.getD_cons_succ]; exact ih
theorem cntF_lt (g : List Bool) (p : Nat) (h : p < g.length) (hg : g.getD p false = false) : cntD g false p < g.count false := by
  have h1 : cntD g false (p + 1) = cntD g false p + 1 := by have := cntD_succ g false p h; rw [hg] at this; exact this
  have h2 : cntD g false (p + 1) ≤ g.count false := (List.take_sublist (p + 1) g).count_le false
  omega
theorem cntF_mono (g : List Bool) (p q : Nat) (h : p ≤ q) : cntD g false p ≤ cntD g false q := by
  unfold cntD
  rw [show p = min p q by omega, ← List.take_take]
  exact (List.take_sublist p (g.take q)).count_le false
section
variable {c : List S28} {g : List Bool}
theorem less_at (hg : g.length = c.length) (p : Nat) (h : p < c.length) (hk : g.getD p false = false) : (lessL c g).getD (cntD g false p) z28 = mvx (tgt g) (c.getD p z28) ∧ cntD g false p < (lessL c g).length := by
  refine ⟨?_, by rw [lessL_len hg]; exact cntF_lt g p (by omega) hk⟩
  have := keep_at g (c.map (mvx (tgt g))) 0 p (by simp; omega) (by simpa using h) (by rw [Nat.zero_add]; exact hk)
  rw [List.drop_zero] at this
  unfold lessL
  rw [this, List.getD_eq_getElem?_getD, List.getElem?_map, List.getD_eq_getElem?_getD, List.getElem?_eq_getElem h]
  rfl
end
section
variable {c : List S28}
theorem succ_mem (hn : c.length ≤ 1000) {i : Nat} (hi : i < c.length) (hk : 0 ≤ (c.getD i z28).f0 ∧ (c.getD i z28).f0 < 14) {j : Int} (hj : j ∈ succL (c.getD i z28) i) (h : 0 ≤ j ∧ j < (c.length : Int)) : j ∈ nxOf c i ∧ j ∈ nxL c i := by
  obtain ⟨L, hL, hm⟩ := next_succ _ hk (i : Int) (by omega) (by omega)
  have hm := hm j hj
  have hr : rd_T28 c (i : Int) = c.getD i z28 := by unfold rd_T28; rw [Int.toNat_natCast]
  have hlen := insNext_len15 hL
  constructor
  · have e := graph_next_some c (i : Int) (by omega) (by omega)
    unfold graph_next.f at e
    rw [if_pos ⟨by omega, by omega⟩, hr, hL, Option.bind_some, if_pos (by omega)] at e
    rw [← Option.some.inj e, List.mem_filter]
    refine ⟨hm, ?_⟩
    unfold inB; simp; omega
  · have e := live_next_some c (i : Int) (by omega) (by omega)
    unfold live_next.f at e
    rw [if_pos ⟨by omega, by omega⟩, hr, hL, Option.bind_some, if_pos (by omega)] at e
    rw [← Option.some.inj e, List.mem_filter]
    refine ⟨hm, ?_⟩
    unfold linB; simp; omega
end
end Go.Proofs.YtdopacgaklaaeaaDoor.PDeadRuns

namespace Go.Proofs.YtdopacgaklaaeaaDoor.PDeadRuns
open Go.RowKit Go.Proofs.YtdopacgaklaaeaaDoorW.PrintWords Go.Proofs.YtdopacgaklaaeaaDoorW.PrintLast Go.Proofs.YtdopacgaklaaeaaDoorW.PrintMore
set_option linter.unusedVariables false
set_option linter.unusedSimpArgs false
/-! Two of the document's machines beside each other. -/
theorem eqEvent (d : Nat) (w : World) (x0 y0 x1 y1 x2 y2 : Int) : (Op.equalIn (d + 2) 42 (.agg #[.int .i64 x0, .int .i64 x1, .int .i64 x2]) (.agg #[.int .i64 y0, .int .i64 y1, .int .i64 y2])).run Tryd.prog w = .ok (x0 == y0 && (x1 == y1 && x2 == y2)) w := by
  refine eqA_of Tryd.underlying42 (by kernel_rfl) ?_
  refine eqf_cons (by rfl) (by go_simp; rfl) (by go_simp; rfl) (by go_simp) ?_
  refine eqf_cons (by rfl) (by go_simp; rfl) (by go_simp; rfl) (by go_simp) ?_
  exact eqf_last (by rfl) (by go_simp; rfl) (by go_simp; rfl) (by go_simp)
theorem runS_len (c : List S28) : ∀ (f : Nat) (s : MSt), (runS c f s).1.regs.length ≤ s.regs.length + f ∧ (runS c f s).1.own.length ≤ s.own.length + 1 ∧ (runS c f s).1.mem.length = s.mem.length
  | 0, s => ⟨Nat.le_refl _, Nat.le_succ _, rfl⟩
  | f + 1, s => by
    rw [show runS c (f + 1) s = if (fetchS c s).f0 = 11 then ({ s with pc := wrap64 (s.pc + 1) }, (0, getG s.regs (fetchS c s).f3), 0)
    else if (fetchS c s).f0 = 9 ∨ (fetchS c s).f0 = 10 then lockS (fetchS c s) s
    else if (fetchS c s).f0 = 12 then ({ s with over := true }, (3, (fetchS c s).f5), 0)
    else if (fetchS c s).f0 = 13 then ({ s with over := true }, (4, 0), 0)
    else runS c f (plainS (fetchS c s) s) from rfl]
    split
    · exact ⟨Nat.le_add_right _ _, Nat.le_succ _, rfl⟩
    split
    · unfold lockS
      split
      · exact ⟨Nat.le_add_right _ _, Nat.le_succ _, rfl⟩
      · refine ⟨Nat.le_add_right _ _, ?_, rfl⟩
        have := List.length_filter_le (fun y : S93 => !(y.f0 == (fetchS c s).f5)) s.own
        show (List.filter _ _ ++ _).length ≤ _
        rw [List.length_append]
        split <;> simp <;> omega
    split
    · exact ⟨Nat.le_add_right _ _, Nat.le_succ _, rfl⟩
    split
    · exact ⟨Nat.le_add_right _ _, Nat.le_succ _, rfl⟩
    · have ih := runS_len c f (plainS (fetchS c s) s)
      have hp := plainS_len (fetchS c s) s
      rw [plainS_own] at ih
      omega
theorem nextS_len (c : List S28) (f : Nat) (s : MSt) : (nextS c f s).1.regs.length ≤ s.regs.length + f ∧ (nextS c f s).1.own.length ≤ s.own.length + 1 ∧ (nextS c f s).1.mem.length = s.mem.length := by
  unfold nextS
  split
  · exact ⟨Nat.le_add_right _ _, Nat.le_succ _, rfl⟩
  · exact runS_len c f s
/-- a machine, and the blocks that are its own -/
def MS (W w0 : World) (F : Nat → Prop) (b gC gT : Nat) (A0 : Option Addr) (n0 c0 : Nat) (vM : Value) (s : MSt) : Prop := ∃ vO vG, MO W w0.heap.size F b gC gT A0 n0 c0 vM vO s.mem s.own ∧ MT W w0.heap.size F gT vG s.regs s.pc s.over ∧ ∀ k, F k → k < W.heap.size
section
variable {W W' w0 : World} {F F' : Nat → Prop} {b gC gT : Nat} {A0 : Option Addr} {n0 c0 : Nat} {vM : Value} {s : MSt}
theorem MS.below (h : MS W w0 F b gC gT A0 n0 c0 vM s) (hb : Below W.heap.size W W') : MS W' w0 F b gC gT A0 n0 c0 vM s := by
  obtain ⟨vO, vG, h1, h2, h3⟩ := h
  exact ⟨vO, vG, h1.below hb, h2.below hb, fun k hk => Nat.lt_of_lt_of_le (h3 k hk) hb.size⟩
theorem MS.other (h : MS W w0 F b gC gT A0 n0 c0 vM s) (hk : Kept W W' F') (hd : ∀ k, F k → ¬ F' k) : MS W' w0 F b gC gT A0 n0 c0 vM s := by
  obtain ⟨vO, vG, h1, h2, h3⟩ := h
  have hm : ∀ k, F k → k < W.heap.size → W'.heap[k]? = W.heap[k]? := fun k h h' => hk.2 k h' (hd k h)
  exact ⟨vO, vG, h1.move hm, h2.move h1.fb.2.2 hm, fun k hk' => Nat.lt_of_lt_of_le (h3 k hk') hk.1⟩
theorem MS.tight (hO : ∃ vO vG, MO W w0.heap.size F b gC gT A0 n0 c0 vM vO s.mem s.own ∧ MT W w0.heap.size F gT vG s.regs s.pc s.over) : MS W w0 (fun k => F k ∧ k < W.heap.size) b gC gT A0 n0 c0 vM s := by
  obtain ⟨vO, vG, h1, h2⟩ := hO
  exact ⟨vO, vG, h1.tight (blk_lt h2.hT), h2.tight, fun k hk => hk.2⟩
theorem MS.mem (h : MS W w0 F b gC gT A0 n0 c0 vM s) : W.heap[b]? = W.heap[b]? ∧ W.cell? ⟨b, 1, none⟩ = some vM ∧ Kd.R (Kd.int .i64) 2 W w0.heap.size F vM s.mem := by
  obtain ⟨vO, vG, h1, h2, h3⟩ := h
  exact ⟨rfl, (blk_cell h1.hb 1).trans rfl, h1.rM⟩
end
/-- a new one -/
theorem ms_new (w0 W : World) (gC : Nat) (A0 : Option Addr) (n0 c0 : Nat) (A1 : Option Addr) (c1 : Nat) (mem : List Int) (hC : W.heap[gC]? = some (.cells #[.slice A0 n0 c0] 32 (0, 0))) (hg : w0.heap.size ≤ gC)
    (hm : Kd.C (Kd.int .i64) W A1 mem.length mem) (hc1 : mem.length ≤ c1) (hB : Below w0.heap.size w0 W) (hl : mem.length ≤ 1000000) :
    Calls Tryd.prog 19 #[.slice (some ⟨gC, 0, none⟩) 1 1, .slice A1 mem.length c1] W fun e W' => ∃ (b gT : Nat) (vM : Value) (F : Nat → Prop), e = .returned (.pointer (some ⟨b, 0, none⟩)) ∧ Aside0 (MS W' w0 F b gC gT A0 n0 c0 vM ⟨mem, [], [], 0, false⟩) ∧ Aside0 (∀ k, F k → k = gC ∨ W.heap.size ≤ k) ∧ Aside0 (Below W.heap.size W W') := by
  refine (mnew.calls w0 W gC A0 n0 c0 A1 c1 mem hC hg hm hc1 hB hl).mono ?_
  rintro e W' ⟨b, gT, vM, he, h1, h2, h3⟩
  exact ⟨b, gT, vM, _, he, ⟨MS.tight (s := ⟨mem, [], [], 0, false⟩) ⟨_, _, h1, h2⟩⟩, ⟨fun k hk => hk.1⟩, ⟨h3⟩⟩
/-- its turn -/
theorem ms_next (c : List S28) (f : Nat) (fI : Int) (w0 W : World) (F : Nat → Prop) (b gC gT : Nat) (A0 : Option Addr) (c0 : Nat) (vM : Value) (s : MSt) (N : MSt × (Int × Int) × Int) (hc : Kd.C k28 w0 A0 c.length c) (hc0 : c.length ≤ c0)
    (hM : MS W w0 F b gC gT A0 c.length c0 vM s) (hB : Below w0.heap.size w0 W) (hl : s.regs.length + f ≤ 800000) (ho : s.own.length ≤ 800000) (hm : s.mem.length ≤ 1000000) (hf : f ≤ 800000) (hfI : fI = (f : Int)) (hN : N = nextS c f s) :
    Calls Tryd.prog 20 #[.pointer (some ⟨b, 0, none⟩), .int .i64 0, .int .i64 fI] W fun e W' => e = .returned (.tuple #[.agg #[.int .i64 N.2.1.1, .int .i64 0, .int .i64 N.2.1.2], .int .i64 N.2.2]) ∧
      ∃ F', Aside0 (MS W' w0 F' b gC gT A0 c.length c0 vM N.1) ∧ Aside0 (∀ k, F' k → F k ∨ W.heap.size ≤ k) ∧ Aside0 (Below w0.heap.size w0 W') ∧ Aside0 (Kept W W' F) := by
  subst hfI
  subst hN
  obtain ⟨vO, vG, h1, h2, h3⟩ := hM
  refine (mnext.calls c f w0 W F b gC gT A0 c0 vM vO vG s hc hc0 h1 h2 hB hl ho hm hf).mono ?_
  rintro e W' ⟨he, vO', vG', k1, k2, k3, k4⟩
  exact ⟨he, _, ⟨MS.tight ⟨vO', vG', k1, k2⟩⟩, ⟨fun k hk => hk.1⟩, ⟨k3⟩, ⟨k4⟩⟩
end Go.Proofs.YtdopacgaklaaeaaDoor.PDeadRuns
