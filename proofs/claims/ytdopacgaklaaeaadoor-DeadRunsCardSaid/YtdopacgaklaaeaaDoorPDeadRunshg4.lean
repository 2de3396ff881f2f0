import Derived.Test.YtdopacgaklaaeaaDoorPDeadRunsx0
import Derived.Test.YtdopacgaklaaeaaDoorPDeadRunsx3
import Derived.Test.YtdopacgaklaaeaaDoorPDeadRunsx6
import Derived.Test.YtdopacgaklaaeaaDoorPDeadRunshplain0
import Derived.Test.YtdopacgaklaaeaaDoorPDeadRunshlro
import Derived.Test.YtdopacgaklaaeaaDoorPDeadRunshlsp
import Derived.Test.YtdopacgaklaaeaaDoorPDeadRunshg2
import Derived.Test.YtdopacgaklaaeaaDoorPDeadRunshdmv
import Derived.Test.YtdopacgaklaaeaaDoorPDeadRunshdneed
import Derived.Test.YtdopacgaklaaeaaDoorPDeadRunshg6
import Derived.Test.YtdopacgaklaaeaaDoorPDeadRunshg1
import Derived.Test.YtdopacgaklaaeaaDoorPDeadRunshlgrow
namespace Go.Proofs.YtdopacgaklaaeaaDoor.PDeadRuns
open Go.RowKit Go.Proofs.YtdopacgaklaaeaaDoorW.PrintWords Go.Proofs.YtdopacgaklaaeaaDoorW.PrintLast Go.Proofs.YtdopacgaklaaeaaDoorW.PrintMore
set_option linter.unusedVariables false
set_option linter.unusedSimpArgs false
/-! slices.Contains of whole numbers and of marks, in plain words. -/
theorem rd_drop18 (l : List Int) (i : Int) (h0 : 0 ≤ i) (h : i < l.length) : l.drop i.toNat = rd l i :: l.drop (i + 1).toNat := by
  rw [show (i + 1).toNat = i.toNat + 1 by omega, List.drop_eq_getElem_cons (by omega)]
  congr 1
  unfold rd
  rw [List.getD_eq_getElem?_getD, List.getElem?_eq_getElem (by omega)]; rfl
theorem rdB_drop18 (l : List Bool) (i : Int) (h0 : 0 ≤ i) (h : i < l.length) : l.drop i.toNat = rdOf false l i :: l.drop (i + 1).toNat := by
  rw [show (i + 1).toNat = i.toNat + 1 by omega, List.drop_eq_getElem_cons (by omega)]
  congr 1
  unfold rdOf
  rw [List.getD_eq_getElem?_getD, List.getElem?_eq_getElem (by omega)]; rfl
theorem index18 (l : List Int) (a : Int) (hl : l.length ≤ 4611686018427387904) : ∃ r : Int, Ev (fun k => slices_Index_int_int.f k l a) r ∧ (decide (r ≥ 0)) = l.contains a := by
  suffices key : ∀ i : Int, 0 ≤ i → i ≤ l.length → ∃ r : Int, Ev (fun k => slices_Index_int_int.l0 k l a (l.length : Int) i) r ∧ (decide (r ≥ 0)) = (l.drop i.toNat).contains a by
    simpa [slices_Index_int_int.f] using key 0 (by omega) (by omega)
  refine up_ind ?_ ?_
  · refine ⟨-1, Ev.step (fun k => rfl) (Ev.neg (by omega) (Ev.con rfl)), ?_⟩
    rw [List.drop_eq_nil_of_le (by omega)]; rfl
  · intro i h0 h1 ⟨r, hr, hd⟩
    rw [rd_drop18 l i h0 h1, List.contains_cons]
    by_cases hq : a = rd l i
    · refine ⟨i, Ev.step (fun k => rfl) (Ev.pos h1 (Ev.pos h0 (Ev.pos h1 (Ev.pos hq (Ev.con rfl))))), ?_⟩
      rw [show (a == rd l i) = true by simpa using hq, Bool.true_or]
      simpa using h0
    · refine ⟨r, Ev.step (fun k => rfl) (Ev.pos h1 (Ev.pos h0 (Ev.pos h1 (Ev.neg hq ?_)))), ?_⟩
      · rw [wrap_up h0 h1 hl]; exact hr
      · rw [show (a == rd l i) = false by simpa using hq, Bool.false_or]; exact hd
theorem contains18 (l : List Int) (a : Int) (hl : l.length ≤ 4611686018427387904) : Ev (fun k => slices_Contains_int_int.f k l a) (l.contains a) := by
  obtain ⟨r, hr, hd⟩ := index18 l a hl
  unfold slices_Contains_int_int.f
  refine Ev.bind hr (Ev.con ?_)
  rw [hd]
theorem bindex18 (l : List Bool) (a : Bool) (hl : l.length ≤ 4611686018427387904) : ∃ r : Int, Ev (fun k => slices_Index_bool_bool.f k l a) r ∧ (decide (r ≥ 0)) = l.contains a := by
  suffices key : ∀ i : Int, 0 ≤ i → i ≤ l.length → ∃ r : Int, Ev (fun k => slices_Index_bool_bool.l0 k l a (l.length : Int) i) r ∧ (decide (r ≥ 0)) = (l.drop i.toNat).contains a by
    simpa [slices_Index_bool_bool.f] using key 0 (by omega) (by omega)
  refine up_ind ?_ ?_
  · refine ⟨-1, Ev.step (fun k => rfl) (Ev.neg (by omega) (Ev.con rfl)), ?_⟩
    rw [List.drop_eq_nil_of_le (by omega)]; rfl
  · intro i h0 h1 ⟨r, hr, hd⟩
    rw [rdB_drop18 l i h0 h1, List.contains_cons]
    cases hq : (a == rdOf false l i) with
    | true =>
      refine ⟨i, Ev.step (fun k => rfl) (Ev.pos h1 (Ev.pos h0 (Ev.pos h1 (Ev.pos hq (Ev.con rfl))))), ?_⟩
      rw [Bool.true_or]
      simpa using h0
    | false =>
      refine ⟨r, Ev.step (fun k => rfl) (Ev.pos h1 (Ev.pos h0 (Ev.pos h1 (Ev.neg (by rw [hq]; simp) ?_)))), ?_⟩
      · rw [wrap_up h0 h1 hl]; exact hr
      · rw [Bool.false_or]; exact hd
theorem bcontains18 (l : List Bool) (a : Bool) (hl : l.length ≤ 4611686018427387904) : Ev (fun k => slices_Contains_bool_bool.f k l a) (l.contains a) := by
  obtain ⟨r, hr, hd⟩ := bindex18 l a hl
  unfold slices_Contains_bool_bool.f
  refine Ev.bind hr (Ev.con ?_)
  rw [hd]
end Go.Proofs.YtdopacgaklaaeaaDoor.PDeadRuns

namespace Go.Proofs.YtdopacgaklaaeaaDoor.PDeadRuns
open Go.RowKit Go.Proofs.YtdopacgaklaaeaaDoorW.PrintWords Go.Proofs.YtdopacgaklaaeaaDoorW.PrintLast Go.Proofs.YtdopacgaklaaeaaDoorW.PrintMore
set_option linter.unusedVariables false
set_option linter.unusedSimpArgs false
/-! The rows of a small code. -/
theorem small_used {c : List S28} (h : ∀ x ∈ c, x.f2 ≤ 30 ∧ x.f3 ≤ 30 ∧ x.f4 ≤ 30) : ∀ r ∈ usedQ c, 0 ≤ r ∧ r ≤ 30 := by
  intro r hr
  obtain ⟨i, hi, h1⟩ := List.mem_flatMap.1 hr
  have hil := List.mem_range.1 hi
  have hx : c.getD i z28 ∈ c := by rw [List.getD_eq_getElem?_getD, List.getElem?_eq_getElem hil]; exact List.getElem_mem _
  obtain ⟨h0, h2⟩ := (useQ_mem _ r).1 h1
  have := h _ hx
  rcases h2 with ⟨_, rfl⟩ | ⟨_, rfl⟩ | ⟨_, rfl⟩ <;> omega
section
variable {c : List S28} {A B : List (List Int)}
theorem FlowS.wfA (hF : FlowS c A B) (hc : c.length ≤ 1000) (h : ∀ x ∈ c, x.f2 ≤ 30 ∧ x.f3 ≤ 30 ∧ x.f4 ≤ 30) : wfRows A := by
  refine ⟨by rw [hF.lA]; omega, fun l hl => ?_⟩
  obtain ⟨i, _, rfl⟩ := row_of hl
  refine ⟨by have := hF.nA i; omega, fun x hx => ?_⟩
  have := small_used h x (hF.sgA i x hx)
  omega
theorem FlowS.wfB (hF : FlowS c A B) (hc : c.length ≤ 1000) (h : ∀ x ∈ c, x.f2 ≤ 30 ∧ x.f3 ≤ 30 ∧ x.f4 ≤ 30) : wfRows B := by
  refine ⟨by rw [hF.lB]; omega, fun l hl => ?_⟩
  obtain ⟨i, _, rfl⟩ := row_of hl
  refine ⟨by have := hF.nB i; omega, fun x hx => ?_⟩
  have := small_used h x (hF.sgB i x hx)
  omega
theorem behind_spec (he : Ev (fun k => live_flow.f k c) (A, B)) (hw : wfRows B) : Ev (fun k => live_Behind.f k c) B := Ev.bind he (Ev.con (if_pos hw))
end
end Go.Proofs.YtdopacgaklaaeaaDoor.PDeadRuns

namespace Go.Proofs.YtdopacgaklaaeaaDoor.PDeadRuns
open Go.RowKit Go.Proofs.YtdopacgaklaaeaaDoorW.PrintWords Go.Proofs.YtdopacgaklaaeaaDoorW.PrintLast Go.Proofs.YtdopacgaklaaeaaDoorW.PrintMore
set_option linter.unusedVariables false
set_option linter.unusedSimpArgs false
/-! The machine's events, as results. -/
theorem res_event {fn : Func} (h : fn.results = #[.cell 6 42, .tmp 7]) (tmps : Array Value) (w : World) (g : Nat) (k th n : Int) (h6 : tmps.getD 6 undef = .pointer (some ⟨g, 0, none⟩)) (hc : w.heap[g]? = some (.cells #[.int .i64 k, .int .i64 th, .int .i64 n] 42 (0, 0))) :
    (results fn tmps).run Tryd.prog w = .ok (.tuple #[.agg #[.int .i64 k, .int .i64 th, .int .i64 n], tmps.getD 7 undef]) w := by
  have c0 : w.cell? ⟨g, 0, none⟩ = some (.int .i64 k) := (blk_cell hc 0).trans rfl
  have c1 : w.cell? ⟨g, 1, none⟩ = some (.int .i64 th) := (blk_cell hc 1).trans rfl
  have c2 : w.cell? ⟨g, 2, none⟩ = some (.int .i64 n) := (blk_cell hc 2).trans rfl
  have hl : (loadVar 42 ⟨g, 0, none⟩).run Tryd.prog w = .ok (.agg #[.int .i64 k, .int .i64 th, .int .i64 n]) w := by
    go_simp
  have h6' : tmps[6]?.getD undef = .pointer (some ⟨g, 0, none⟩) := by simpa using h6
  simp [results, h, h6', asAddr, hl]
end Go.Proofs.YtdopacgaklaaeaaDoor.PDeadRuns

namespace Go.Proofs.YtdopacgaklaaeaaDoor.PDeadRuns
open Go.RowKit Go.Proofs.YtdopacgaklaaeaaDoorW.PrintWords Go.Proofs.YtdopacgaklaaeaaDoorW.PrintLast Go.Proofs.YtdopacgaklaaeaaDoorW.PrintMore
set_option linter.unusedVariables false
set_option linter.unusedSimpArgs false
/-! Chapter 18 in plain words: what nobody needs, and the code without it. -/
/-- what an instruction of a code of so many may be -/
def OK18 (c : List S28) : Prop := ∀ x ∈ c, (0 ≤ x.f2 ∧ x.f2 ≤ 30 ∧ x.f3 ≤ 30 ∧ x.f4 ≤ 30) ∧ (¬ (x.f0 = 6 ∨ x.f0 = 7) → x.f6 = 0) ∧ 0 ≤ x.f6 ∧ x.f6 < (c.length : Int)
theorem OK18.regs {c : List S28} (h : OK18 c) : ∀ x ∈ c, x.f2 ≤ 30 ∧ x.f3 ≤ 30 ∧ x.f4 ≤ 30 := fun x hx => (h x hx).1.2
def nl (re : List Bool) (B : List (List Int)) (i : Nat) (x : S28) : Bool :=
  if re.getD i false = true then (if defQ x ≥ 0 then (if (B.getD i []).contains (defQ x) = true then (if x.f0 = 1 then x.f3 == defQ x else false) else true) else (if x.f0 = 6 then x.f6 == (i : Int) + 1 else false)) else true
def NL (re : List Bool) (B : List (List Int)) (c : List S28) : List Bool := (List.range c.length).map (fun i => nl re B i (c.getD i z28))
theorem NL_len (re : List Bool) (B : List (List Int)) (c : List S28) : (NL re B c).length = c.length := by simp [NL]
theorem NL_get (re : List Bool) (B : List (List Int)) (c : List S28) (i : Nat) (h : i < c.length) : (NL re B c).getD i false = nl re B i (c.getD i z28) := by
  unfold NL
  rw [List.getD_eq_getElem?_getD, List.getElem?_map, List.getElem?_range h]
  rfl
theorem fill_set {P : List Bool} {n i : Nat} (h : i < n) (hP : P.length = n) : (P.take i ++ List.replicate (n - i) false).set i (P.getD i false) = P.take (i + 1) ++ List.replicate (n - (i + 1)) false := by
  rw [show n - i = (n - (i + 1)) + 1 by omega, List.replicate_succ, mv_set _ _ _ _ _ (by simp; omega), List.take_succ_eq_append_getElem (by omega)]
  rw [List.getD_eq_getElem?_getD, List.getElem?_eq_getElem (by omega), List.append_assoc]
  rfl
theorem fill_stay {P : List Bool} {n i : Nat} (h : i < n) (hP : P.length = n) (hv : P.getD i false = false) : P.take i ++ List.replicate (n - i) false = P.take (i + 1) ++ List.replicate (n - (i + 1)) false := by
  rw [show n - i = (n - (i + 1)) + 1 by omega, List.replicate_succ, List.take_succ_eq_append_getElem (by omega)]
  rw [List.getD_eq_getElem?_getD, List.getElem?_eq_getElem (by omega)] at hv
  simp at hv
  simp [hv]
theorem needless_ev (c : List S28) (h0 : 0 < c.length) (hc : c.length ≤ 1000) (hok : OK18 c) : ∃ re A B, Ev (fun k => graph_Reach.f k c) re ∧ re.length = c.length ∧ (∀ i, 0 ≤ i → (at_ re i = true ↔ Way (nxOf c) 0 i)) ∧ FlowS c A B ∧ Ev (fun k => dead_Needless.f k c) (NL re B c) := by
  obtain ⟨re, hre, hrel, hway⟩ := graph_Reach_ev c h0 hc
  obtain ⟨A, B, he, hF⟩ := flow_spec c hc
  have hwB := hF.wfB hc hok.regs
  have hB := hF.lB
  have hN := NL_len re B c
  refine ⟨re, A, B, hre, hrel, hway, hF, ?_⟩
  refine Ev.congr (f := fun k => (graph_Reach.f k c).bind fun re => (live_Behind.f k c).bind fun B => dead_Needless.l0 k c (List.replicate (c.length : Int).toNat false) re B 0) (fun k => by unfold dead_Needless.f; rw [if_pos (by omega)]) (Ev.bind hre (Ev.bind (behind_spec he hwB) ?_))
  have key : ∀ i : Int, 0 ≤ i → i ≤ (c.length : Int) → Ev (fun k => dead_Needless.l0 k c ((NL re B c).take i.toNat ++ List.replicate (c.length - i.toNat) false) re B i) (NL re B c) := by
    refine up_ind ?_ ?_
    · refine Ev.step (fun k => rfl) (Ev.neg (by omega) (Ev.con ?_))
      rw [Int.toNat_natCast, Nat.sub_self, List.take_of_length_le (by omega)]
      simp
    · intro i i0 i1 ih
      have hw := wrap_up i0 i1 (by omega)
      have hi : i.toNat < c.length := by omega
      have hlen : i < (((NL re B c).take i.toNat ++ List.replicate (c.length - i.toNat) false).length : Int) := by simp [hN]; omega
      have hx : (NL re B c).getD i.toNat false = nl re B i.toNat (c.getD i.toNat z28) := NL_get re B c i.toNat hi
      have hset : ∀ v, (NL re B c).getD i.toNat false = v → ((NL re B c).take i.toNat ++ List.replicate (c.length - i.toNat) false).set i.toNat v = (NL re B c).take (i + 1).toNat ++ List.replicate (c.length - (i + 1).toNat) false := fun v hv => by
        rw [← hv, fill_set hi hN, show i.toNat + 1 = (i + 1).toNat by omega]
      have hsty : (NL re B c).getD i.toNat false = false → (NL re B c).take i.toNat ++ List.replicate (c.length - i.toNat) false = (NL re B c).take (i + 1).toNat ++ List.replicate (c.length - (i + 1).toNat) false := fun hv => by
        rw [fill_stay hi hN hv, show i.toNat + 1 = (i + 1).toNat by omega]
      rw [hx] at hset hsty
      refine Ev.step (fun k => rfl) (Ev.pos i1 (Ev.pos ⟨i0, by omega, by omega, hlen⟩ ?_))
      rw [show rd_T28 c i = c.getD i.toNat z28 from rfl, show rd_L5 B i = B.getD i.toNat [] from rfl, show rdOf false re i = re.getD i.toNat false from rfl]
      refine Ev.bind (contains18 _ _ (by have := hF.nB i.toNat; omega)) ?_
      generalize (NL re B c).take i.toNat ++ List.replicate (c.length - i.toNat) false = P at hset hsty ⊢
      generalize c.getD i.toNat z28 = x at hset hsty ⊢
      rw [hw]
      suffices hq : nxtD P i.toNat (re.getD i.toNat false) (defQ x) ((B.getD i.toNat []).contains (defQ x)) x.f0 x.f3 (x.f6 == i + 1) = (NL re B c).take (i + 1).toNat ++ List.replicate (c.length - (i + 1).toNat) false by
        rw [hq]; exact ih
      rw [show (x.f6 == i + 1) = (x.f6 == ((i.toNat : Nat) : Int) + 1) by rw [show ((i.toNat : Nat) : Int) + 1 = i + 1 by omega]]
      unfold nxtD
      unfold nl at hset hsty
      cases hr : re.getD i.toNat false with
      | false =>
        rw [hr] at hset
        exact hset true (by simp)
      | true =>
        rw [hr] at hset hsty
        simp only [if_true] at hset hsty ⊢
        by_cases hd : 0 ≤ defQ x
        · rw [if_pos hd]
          rw [if_pos (show defQ x ≥ 0 from hd)] at hset
          refine hset _ ?_
          cases (B.getD i.toNat []).contains (defQ x) with
          | false => rfl
          | true =>
            by_cases hk : x.f0 = 1
            · simp [hk]
            · simp [hk]
        · rw [if_neg hd]
          rw [if_neg (show ¬ defQ x ≥ 0 from hd)] at hset hsty
          by_cases h6 : x.f0 = 6
          · rw [if_pos (by simp [h6])]
            exact hset _ (by rw [if_pos h6])
          · rw [if_neg (by simp [h6])]
            exact hsty (by rw [if_neg h6])
  have := key 0 (by omega) (by omega)
  rw [show (0 : Int).toNat = 0 from rfl, List.take_zero, List.nil_append, Nat.sub_zero] at this
  rw [Int.toNat_natCast]
  exact this
end Go.Proofs.YtdopacgaklaaeaaDoor.PDeadRuns
