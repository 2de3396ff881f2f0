import Derived.Test.YtoncneglplglhaaDoorPGraphLoopsx0
import Derived.Test.YtoncneglplglhaaDoorPGraphLoopsx4
import Derived.Test.YtoncneglplglhaaDoorPGraphLoopsx5
import Derived.Test.YtoncneglplglhaaDoorPGraphLoopsx6
import Derived.Test.YtoncneglplglhaaDoorPGraphLoopsx7
import Derived.Test.YtoncneglplglhaaDoorPGraphLoopshgdepth
import Derived.Test.YtoncneglplglhaaDoorPGraphLoopshgdom
import Derived.Test.YtoncneglplglhaaDoorPGraphLoopshgloops
import Derived.Test.YtoncneglplglhaaDoorPGraphLoopshgreach
import Derived.Test.YtoncneglplglhaaDoorPGraphLoopshgref14
import Derived.Test.YtoncneglplglhaaDoorPGraphLoopshgrefdom
import Derived.Test.YtoncneglplglhaaDoorPGraphLoopshgspec
import Derived.Test.YtoncneglplglhaaDoorPGraphLoopshpure
import Derived.Test.YtoncneglplglhaaDoorPGraphLoopshway
namespace Go.Proofs.YtoncneglplglhaaDoor.PGraphLoops
open Go.RowKit Go.Proofs.YtoncneglplglhaaDoorW.PrintWords Go.Proofs.YtoncneglplglhaaDoorW.PrintLast Go.Proofs.YtoncneglplglhaaDoorW.PrintMore
set_option linter.unusedVariables false
set_option linter.unusedSimpArgs false
/-! The document's Dominates, Loops and Depth in plain words. -/
theorem sq_ext {n : Nat} {A B : List (List Bool)} (hA : Sq n A) (hB : Sq n B) (h : ∀ i k : Int, 0 ≤ i → i < (n : Int) → 0 ≤ k → k < (n : Int) → val A i k = val B i k) : A = B := by
  refine List.ext_getElem (hA.1.trans hB.1.symm) (fun i h1 h2 => ?_)
  have hi : (i : Int) < (n : Int) := by have := hA.1; omega
  have e1 : A.getD ((i : Int)).toNat [] = A[i] := by rw [Int.toNat_natCast, List.getD_eq_getElem?_getD, List.getElem?_eq_getElem h1]; rfl
  have e2 : B.getD ((i : Int)).toNat [] = B[i] := by rw [Int.toNat_natCast, List.getD_eq_getElem?_getD, List.getElem?_eq_getElem h2]; rfl
  refine bools_ext (n := n) (hA.2 _ (List.getElem_mem h1)) (hB.2 _ (List.getElem_mem h2)) (fun k k0 k1 => ?_)
  have := h (i : Int) k (by omega) hi k0 k1
  unfold val at this
  rw [e1, e2] at this
  exact this
theorem graph_facts (l : List S37) (hl : l.length ≤ 1000) : ∃ re D b S, Ev (fun k => graph_Reach.f k l) re ∧ re.length = l.length ∧ (0 < l.length → ∀ i, 0 ≤ i → (at_ re i = true ↔ Way (nxOf l) 0 i)) ∧
    Ev (fun k => graph_Dominates.f k l) D ∧ Sq l.length D ∧ (∀ i k, 0 ≤ i → i < (l.length : Int) → 0 ≤ k → k < (l.length : Int) → (val D i k = true ↔ Dom (nxOf l) i k)) ∧
    Ev (fun k => graph_Loops.f k l) (loopsOf l.length b S) ∧ LoopS (nxOf l) l.length b S := by
  by_cases hn : 0 < l.length
  · obtain ⟨re, h1, h2, h3⟩ := graph_Reach_ev l hn hl
    obtain ⟨D, h4, h5, h6⟩ := graph_Dominates_spec l hn hl
    obtain ⟨b, S, h7, h8⟩ := graph_Loops_spec l hn hl
    exact ⟨re, D, b, S, h1, h2, fun _ => h3, h4, h5, h6, h7, h8⟩
  · have hnil : l = [] := List.eq_nil_of_length_eq_zero (by omega)
    subst hnil
    refine ⟨[], [], fun _ => false, fun _ => [], Ev.con rfl, rfl, fun h => absurd h (by simp), Ev.of (graph_Dominates.mono []) (k := 5) (by kernel_rfl), ⟨rfl, by simp⟩, fun i k a b => by simp at b; omega, Ev.of (graph_Loops.mono []) (k := 5) (by kernel_rfl), ⟨fun h hh => absurd hh (by simp), fun h hh => absurd hh (by simp), fun h hh => absurd hh (by simp)⟩⟩
theorem colSet_spec {re w : List Bool} {n : Nat} {d : Int} (d0 : 0 ≤ d) (d1 : d < (n : Int)) : ∀ (m i : Nat) (T : List (List Bool)), i + m ≤ n → Sq n T → Sq n (colSet re w d m i T) ∧ ∀ i' k' : Int, 0 ≤ i' → 0 ≤ k' → val (colSet re w d m i T) i' k' = if k' = d ∧ (i : Int) ≤ i' ∧ i' < ((i + m : Nat) : Int) then (at_ re i' && !at_ w i') else val T i' k'
  | 0, i, T, _, hT => ⟨hT, fun i' k' _ _ => by rw [colSet, if_neg (by omega)]⟩
  | m + 1, i, T, hm, hT => by
    have hS := sq_set (v := (at_ re (i : Int) && !at_ w (i : Int))) (k := d) hT (show (0 : Int) ≤ (i : Int) by omega) (by omega)
    obtain ⟨h1, h2⟩ := colSet_spec d0 d1 m (i + 1) _ (by omega) hS
    rw [colSet]
    refine ⟨h1, fun i' k' a c => ?_⟩
    rw [h2 i' k' a c, val_set hT (by omega) (by omega) d0 d1 a c]
    by_cases hk : k' = d
    · by_cases hi : i' = (i : Int)
      · rw [if_neg (by omega), if_pos ⟨hi, hk⟩, if_pos ⟨hk, by omega, by omega⟩, hi]
      · by_cases hr : ((i + 1 : Nat) : Int) ≤ i' ∧ i' < ((i + 1 + m : Nat) : Int)
        · rw [if_pos ⟨hk, hr⟩, if_pos ⟨hk, by omega, by omega⟩]
        · rw [if_neg (fun hh => hr hh.2), if_neg (fun hh => hi hh.1), if_neg (fun hh => hr ⟨by omega, by omega⟩)]
    · rw [if_neg (fun hh => hk hh.1), if_neg (fun hh => hk hh.2), if_neg (fun hh => hk hh.1)]
theorem refdom_spec (l : List S37) (hl : l.length ≤ 1000) (re : List Bool) (hre : Ev (fun k => palingref14_Reach.f k l) re) (hrel : re.length = l.length) (D : List (List Bool)) (hsq : Sq l.length D)
    (hv : ∀ i d : Int, 0 ≤ i → i < (l.length : Int) → 0 ≤ d → d < (l.length : Int) → val D i d = (at_ re i && !at_ (without (nxOf l) l.length 0 d) i)) : Ev (fun k => palingref14_Dominates.f k l) D := by
  have hin := nxOf_in l
  have key : ∀ (m d : Nat) (T : List (List Bool)), d + m = l.length → Sq l.length T → (∀ i e : Int, 0 ≤ i → i < (l.length : Int) → 0 ≤ e → e < (d : Int) → val T i e = val D i e) → Ev (fun k => palingref14_Dominates.l k l re l.length m d T) D := by
    intro m
    induction m with
    | zero =>
      intro d T hm hT h
      have e : T = D := sq_ext hT hsq (fun i k i0 i1 k0 k1 => h i k i0 i1 k0 (by omega))
      subst e
      exact Ev.congr (f := fun _ => some T) (fun k => rfl) (Ev.now _)
    | succ m ih =>
      intro d T hm hT h
      have hwl : (without (nxOf l) l.length 0 (d : Int)).length = l.length := without_len _ _ _ _ (fun i _ _ => hin i)
      obtain ⟨h1, h2⟩ := colSet_spec (re := re) (w := without (nxOf l) l.length 0 (d : Int)) (n := l.length) (d := (d : Int)) (by omega) (by omega) l.length 0 T (by omega) hT
      refine Ev.congr (f := fun k => (palingref14_without.f k l 0 (d : Int)).bind fun w => if w.length = l.length then palingref14_Dominates.l k l re l.length m (d + 1) (colSet re w (d : Int) l.length 0 T) else none) (fun k => rfl) ?_
      refine Ev.bind (refwithout_spec l hl 0 (d : Int)) (Ev.pos hwl (ih (d + 1) _ (by omega) h1 (fun i e i0 i1 e0 e1 => ?_)))
      rw [h2 i e i0 e0]
      by_cases he : e = (d : Int)
      · subst he
        rw [if_pos ⟨rfl, by omega, by omega⟩, hv i (d : Int) i0 i1 (by omega) (by omega)]
      · rw [if_neg (fun hh => he hh.1)]; exact h i e i0 i1 e0 (by omega)
  refine Ev.congr (f := fun k => if l.length ≤ 1000000 then (palingref14_Reach.f k l).bind fun re => if re.length = l.length then palingref14_Dominates.l k l re l.length l.length 0 (List.replicate l.length (List.replicate l.length false)) else none else none) (fun k => rfl) ?_
  refine Ev.pos (by omega) (Ev.bind hre (Ev.pos hrel (key l.length 0 _ (by omega) ⟨by simp, fun r hr => ?_⟩ (fun i e _ _ a b => by omega))))
  rw [(List.mem_replicate.1 hr).2]; simp
theorem refloop_spec (l : List S37) (hl : l.length ≤ 1000) (re : List Bool) (hrel : re.length = l.length) (hway : ∀ i, 0 ≤ i → (at_ re i = true ↔ Way (nxOf l) 0 i)) (D : List (List Bool)) (hsq : Sq l.length D)
    (hdom : ∀ i k, 0 ≤ i → i < (l.length : Int) → 0 ≤ k → k < (l.length : Int) → (val D i k = true ↔ Dom (nxOf l) i k)) {b : Nat → Bool} {S : Nat → List Bool} (hLS : LoopS (nxOf l) l.length b S) (h : Nat) (hh : h < l.length) :
    Ev (fun k => palingref14_loop.f k l (h : Int) D re) (if b h = true then memb (S h) else []) := by
  have hin := nxOf_in l
  have h0 : (0 : Int) ≤ (h : Int) := by omega
  have h1 : (h : Int) < (l.length : Int) := by omega
  have hwspec : ∀ i j : Int, 0 ≤ i → i < (l.length : Int) → 0 ≤ j → (at_ (without (nxOf l) l.length i (h : Int)) j = true ↔ i ≠ (h : Int) ∧ Way (no (nxOf l) (h : Int)) i j) := fun i j i0 i1 j0 => without_spec (fun i _ _ => hin i) i (h : Int) j j0 ⟨i0, i1⟩
  obtain ⟨cond, hcond⟩ : ∃ cond : Int → Prop, cond = fun j => (h : Int) ∈ nxOf l j ∧ at_ re j = true ∧ val D j (h : Int) = true := ⟨_, rfl⟩
  obtain ⟨In, hIn⟩ : ∃ In : Int → Int → Prop, In = fun i j => i = (h : Int) ∨ (at_ re i = true ∧ at_ (without (nxOf l) l.length i (h : Int)) j = true) := ⟨_, rfl⟩
  have hcb : ∀ j : Int, (0 ≤ j ∧ j < (l.length : Int)) ∧ cond j ↔ BackE (nxOf l) l.length j (h : Int) := fun j => by
    rw [hcond]
    unfold BackE
    constructor
    · rintro ⟨a, c1, c2, c3⟩; exact ⟨a, (hway j a.1).1 c2, c1, (hdom j h a.1 a.2 h0 h1).1 c3⟩
    · rintro ⟨a, c1, c2, c3⟩; exact ⟨a, c2, (hway j a.1).2 c1, (hdom j h a.1 a.2 h0 h1).2 c3⟩
  -- the last loop
  have collect : ∀ (X : List Bool), X.length = l.length → ∀ t : Int, 0 ≤ t → t ≤ (l.length : Int) → Ev (fun k => palingref14_loop.l3 k l (membP X t.toNat) X t) (memb X) := by
    intro X hX
    refine up_ind (n := l.length) ?_ ?_
    · refine Ev.step (f := fun _ => some (membP X ((l.length : Nat) : Int).toNat)) (fun k => ?_) (Ev.con ?_)
      · simp only [palingref14_loop.l3]
        rw [if_neg (by omega)]
      · rw [Int.toNat_natCast, ← hX, membP_done]
    · intro t t0 t1 ih
      have hwt : wrap64 (t + 1) = t + 1 := wrap_up t0 t1 (by omega)
      have hml := membP_len X t.toNat
      have e1 : (t + 1).toNat = t.toNat + 1 := by omega
      rw [e1] at ih
      refine Ev.step (f := fun k => if t < (l.length : Int) then (if 0 ≤ t then (if t < (X.length : Int) then (if at_ X t = true then (if (membP X t.toNat).length < 17592186044416 then palingref14_loop.l3 k l (membP X t.toNat ++ [t]) X (wrap64 (t + 1)) else none) else palingref14_loop.l3 k l (membP X t.toNat) X (wrap64 (t + 1))) else none) else none) else some (membP X t.toNat)) (fun k => rfl) ?_
      rw [hwt]
      refine Ev.pos t1 (Ev.pos t0 (Ev.pos (by rw [hX]; exact t1) ?_))
      by_cases hx : at_ X t = true
      · refine Ev.pos hx (Ev.pos (by omega) ?_)
        rw [membP_yes X t.toNat hx, show ((t.toNat : Nat) : Int) = t by omega] at ih
        exact ih
      · refine Ev.neg hx ?_
        rw [membP_no X t.toNat (Bool.eq_false_iff.2 hx)] at ih
        exact ih
  -- what is left over is the loop
  have final : ∀ X : List Bool, X.length = l.length → (∀ i : Int, 0 ≤ i → i < (l.length : Int) → (at_ X i = true ↔ ∃ j : Int, (0 ≤ j ∧ j < (l.length : Int)) ∧ cond j ∧ In i j)) → memb X = if b h = true then memb (S h) else [] := by
    intro X hX hXm
    by_cases hb : b h = true
    · rw [if_pos hb]
      congr 1
      refine bools_ext hX (hLS.len h hh hb) (fun i i0 i1 => ?_)
      rw [Bool.eq_iff_iff, hXm i i0 i1, hLS.mem h hh hb i i0 i1]
      constructor
      · rintro ⟨j, hj, hc, hi⟩
        have hbe := (hcb j).1 ⟨hj, hc⟩
        rw [hIn] at hi
        rcases hi with e | ⟨hr, hw⟩
        · exact .inl e
        · exact .inr ⟨j, hbe, (hway i i0).1 hr, ((hwspec i j i0 i1 hj.1).1 hw).2⟩
      · intro hi
        by_cases e : i = (h : Int)
        · obtain ⟨j, hj⟩ := (hLS.is h hh).1 hb
          have := (hcb j).2 hj
          exact ⟨j, this.1, this.2, by rw [hIn]; exact .inl e⟩
        · obtain ⟨j, hj, hr, hw⟩ := hi.resolve_left e
          have := (hcb j).2 hj
          exact ⟨j, this.1, this.2, by rw [hIn]; exact .inr ⟨(hway i i0).2 hr, (hwspec i j i0 i1 this.1.1).2 ⟨e, hw⟩⟩⟩
    · rw [if_neg hb]
      have hno : ∀ i : Int, 0 ≤ i → at_ X i = true → False := fun i i0 hx => by
        have i1 : i < (l.length : Int) := by
          rcases Int.lt_or_le i (l.length : Int) with h1 | h1
          · exact h1
          · unfold at_ at hx
            rw [List.getD_eq_getElem?_getD, List.getElem?_eq_none (by omega)] at hx
            exact absurd hx (by simp)
        obtain ⟨j, hj, hc, _⟩ := (hXm i i0 i1).1 hx
        exact hb ((hLS.is h hh).2 ⟨j, (hcb j).1 ⟨hj, hc⟩⟩)
      refine List.eq_nil_iff_forall_not_mem.2 (fun x hx => ?_)
      rw [memb_in] at hx
      exact hno x hx.1 hx.2
  have outer : ∀ j : Int, 0 ≤ j → j ≤ (l.length : Int) → ∀ X : List Bool, X.length = l.length → (∀ i : Int, 0 ≤ i → i < (l.length : Int) → (at_ X i = true ↔ ∃ j' : Int, (0 ≤ j' ∧ j' < j) ∧ cond j' ∧ In i j')) → Ev (fun k => palingref14_loop.l0 k l (h : Int) D re X j) (if b h = true then memb (S h) else []) := by
    refine up_ind (n := l.length) ?_ ?_
    · intro X hX hXm
      rw [← final X hX hXm]
      refine Ev.step (f := fun k => palingref14_loop.l3 k l [] X 0) (fun k => ?_) (collect X hX 0 (by omega) (by omega))
      simp only [palingref14_loop.l0]
      rw [if_neg (by omega)]
    · intro j j0 j1 ih X hX hXm
      have hwj : wrap64 (j + 1) = j + 1 := wrap_up j0 j1 (by omega)
      obtain ⟨js, hjs⟩ : ∃ js, js = nxOf l j := ⟨_, rfl⟩
      have hjl : js.length ≤ 2 := by rw [hjs]; exact nxOf_len l j
      have hn := refnext_spec l hl j j0 j1
      rw [← hjs] at hn
      have skip : ¬ cond j → Ev (fun k => palingref14_loop.j2 k l (h : Int) D re X j true) (if b h = true then memb (S h) else []) := fun hc => by
        refine Ev.step (f := fun k => palingref14_loop.l0 k l (h : Int) D re X (wrap64 (j + 1))) (fun k => rfl) ?_
        rw [hwj]
        refine ih X hX (fun i i0 i1 => ?_)
        rw [hXm i i0 i1]
        constructor
        · rintro ⟨j', a, c, d⟩; exact ⟨j', ⟨a.1, by omega⟩, c, d⟩
        · rintro ⟨j', a, c, d⟩
          by_cases e : j' = j
          · subst e; exact absurd c hc
          · exact ⟨j', ⟨a.1, by omega⟩, c, d⟩
      have take : cond j → Ev (fun k => palingref14_loop.j2 k l (h : Int) D re X j false) (if b h = true then memb (S h) else []) := fun hc => by
        refine Ev.step (f := fun k => if 0 ≤ (h : Int) then (if (h : Int) < (X.length : Int) then palingref14_loop.l2 k l (h : Int) D re (X.set ((h : Int)).toNat true) j 0 else none) else none) (fun k => rfl) (Ev.pos h0 (Ev.pos (by rw [hX]; exact h1) ?_))
        have inner : ∀ i : Int, 0 ≤ i → i ≤ (l.length : Int) → ∀ Y : List Bool, Y.length = l.length → (∀ x : Int, 0 ≤ x → x < (l.length : Int) → (at_ Y x = true ↔ at_ X x = true ∨ x = (h : Int) ∨ (x < i ∧ at_ re x = true ∧ at_ (without (nxOf l) l.length x (h : Int)) j = true))) → Ev (fun k => palingref14_loop.l2 k l (h : Int) D re Y j i) (if b h = true then memb (S h) else []) := by
          refine up_ind (n := l.length) ?_ ?_
          · intro Y hY hYm
            refine Ev.step (f := fun k => palingref14_loop.l0 k l (h : Int) D re Y (wrap64 (j + 1))) (fun k => ?_) ?_
            · simp only [palingref14_loop.l2]
              rw [if_neg (by omega)]
            · rw [hwj]
              refine ih Y hY (fun i i0 i1 => ?_)
              rw [hYm i i0 i1, hXm i i0 i1]
              constructor
              · rintro (⟨j', a, c, d⟩ | e | ⟨_, d, e⟩)
                · exact ⟨j', ⟨a.1, by omega⟩, c, d⟩
                · exact ⟨j, ⟨j0, by omega⟩, hc, by rw [hIn]; exact .inl e⟩
                · exact ⟨j, ⟨j0, by omega⟩, hc, by rw [hIn]; exact .inr ⟨d, e⟩⟩
              · rintro ⟨j', a, c, d⟩
                by_cases e : j' = j
                · subst e
                  rw [hIn] at d
                  rcases d with d | d
                  · exact .inr (.inl d)
                  · exact .inr (.inr ⟨i1, d⟩)
                · exact .inl ⟨j', ⟨a.1, by omega⟩, c, d⟩
          · intro i i0 i1 ihi Y hY hYm
            have hwi : wrap64 (i + 1) = i + 1 := wrap_up i0 i1 (by omega)
            obtain ⟨w, hw⟩ : ∃ w, w = without (nxOf l) l.length i (h : Int) := ⟨_, rfl⟩
            have hwl : w.length = l.length := by rw [hw]; exact without_len _ _ _ _ (fun i _ _ => hin i)
            have hwe := refwithout_spec l hl i (h : Int)
            rw [← hw] at hwe
            have keep : ¬ (at_ re i = true ∧ at_ w j = true) → Ev (fun k => palingref14_loop.l2 k l (h : Int) D re Y j (i + 1)) (if b h = true then memb (S h) else []) := fun hc => by
              refine ihi Y hY (fun x x0 x1 => ?_)
              rw [hYm x x0 x1]
              constructor
              · rintro (a | a | ⟨a, c⟩)
                · exact .inl a
                · exact .inr (.inl a)
                · exact .inr (.inr ⟨by omega, c⟩)
              · rintro (a | a | ⟨a, c⟩)
                · exact .inl a
                · exact .inr (.inl a)
                · by_cases e : x = i
                  · subst e; rw [hw] at hc; exact absurd c hc
                  · exact .inr (.inr ⟨by omega, c⟩)
            refine Ev.step (f := fun k => if i < (l.length : Int) then ((palingref14_without.f k l i (h : Int)).bind fun t => (if 0 ≤ i then (if i < (re.length : Int) then (if at_ re i = true then (if 0 ≤ j then (if j < (t.length : Int) then (if at_ t j = true then (if i < (Y.length : Int) then palingref14_loop.l2 k l (h : Int) D re (Y.set i.toNat true) j (wrap64 (i + 1)) else none) else palingref14_loop.l2 k l (h : Int) D re Y j (wrap64 (i + 1))) else none) else none) else palingref14_loop.l2 k l (h : Int) D re Y j (wrap64 (i + 1))) else none) else none)) else palingref14_loop.l0 k l (h : Int) D re Y (wrap64 (j + 1))) (fun k => rfl) ?_
            rw [hwi]
            refine Ev.pos i1 (Ev.bind hwe (Ev.pos i0 (Ev.pos (by rw [hrel]; exact i1) ?_)))
            by_cases c1 : at_ re i = true
            · refine Ev.pos c1 (Ev.pos j0 (Ev.pos (by rw [hwl]; exact j1) ?_))
              by_cases c2 : at_ w j = true
              · refine Ev.pos c2 (Ev.pos (by rw [hY]; exact i1) (ihi _ (by rw [List.length_set]; exact hY) (fun x x0 x1 => ?_)))
                rw [at_set i0 (by rw [hY]; exact i1) x0]
                by_cases e : x = i
                · rw [if_pos e, e]
                  refine ⟨fun _ => .inr (.inr ⟨by omega, c1, by rw [← hw]; exact c2⟩), fun _ => rfl⟩
                · rw [if_neg e, hYm x x0 x1]
                  constructor
                  · rintro (a | a | ⟨a, c⟩)
                    · exact .inl a
                    · exact .inr (.inl a)
                    · exact .inr (.inr ⟨by omega, c⟩)
                  · rintro (a | a | ⟨a, c⟩)
                    · exact .inl a
                    · exact .inr (.inl a)
                    · exact .inr (.inr ⟨by omega, c⟩)
              · exact Ev.neg c2 (keep (fun hc => c2 hc.2))
            · exact Ev.neg c1 (keep (fun hc => c1 hc.1))
        refine inner 0 (by omega) (by omega) _ (by rw [List.length_set]; exact hX) (fun x x0 x1 => ?_)
        rw [at_set h0 (by rw [hX]; exact h1) x0]
        by_cases e : x = (h : Int)
        · rw [if_pos e]; exact ⟨fun _ => .inr (.inl e), fun _ => rfl⟩
        · rw [if_neg e]
          refine ⟨fun a => .inl a, ?_⟩
          rintro (a | a | a)
          · exact a
          · exact absurd a e
          · omega
      have scan : ∀ m : Int, 0 ≤ m → m ≤ (js.length : Int) → ∀ c : Bool, (c = true ↔ (h : Int) ∈ js.take m.toNat) → Ev (fun k => palingref14_loop.l1 k l (h : Int) D re X j js c m) (if b h = true then memb (S h) else []) := by
        refine up_ind (n := js.length) ?_ ?_
        · intro c hc
          rw [Int.toNat_natCast, List.take_length, hjs] at hc
          refine Ev.step (f := fun k => if c = true then (if 0 ≤ j then (if j < (re.length : Int) then (if at_ re j = true then (if j < (D.length : Int) then (if 0 ≤ (h : Int) then (if (h : Int) < ((D.getD j.toNat []).length : Int) then palingref14_loop.j2 k l (h : Int) D re X j (!val D j (h : Int)) else none) else none) else none) else palingref14_loop.j2 k l (h : Int) D re X j true) else none) else none) else palingref14_loop.j2 k l (h : Int) D re X j true) (fun k => ?_) ?_
          · simp only [palingref14_loop.l1]
            rw [if_neg (by omega)]
            rfl
          · by_cases c1 : c = true
            · refine Ev.pos c1 (Ev.pos j0 (Ev.pos (by rw [hrel]; exact j1) ?_))
              by_cases c2 : at_ re j = true
              · refine Ev.pos c2 (Ev.pos (by rw [hsq.1]; exact j1) (Ev.pos h0 (Ev.pos (by rw [sq_row hsq j0 j1]; exact h1) ?_)))
                cases hvd : val D j (h : Int) with
                | true => exact take (by rw [hcond]; exact ⟨hc.1 c1, c2, hvd⟩)
                | false => exact skip (by rw [hcond]; rintro ⟨_, _, hh⟩; rw [hvd] at hh; exact absurd hh (by simp))
              · exact Ev.neg c2 (skip (by rw [hcond]; exact fun hh => c2 hh.2.1))
            · exact Ev.neg c1 (skip (by rw [hcond]; exact fun hh => c1 (hc.2 hh.1)))
        · intro m m0 m1 ihm c hc
          have hml : m.toNat < js.length := by omega
          obtain ⟨x, hx⟩ : ∃ x, x = js.getD m.toNat 0 := ⟨_, rfl⟩
          have hwm : wrap64 (m + 1) = m + 1 := wrap_up m0 m1 (by omega)
          have htk : js.take (m + 1).toNat = js.take m.toNat ++ [x] := by
            rw [show (m + 1).toNat = m.toNat + 1 by omega, List.take_add_one, List.getElem?_eq_getElem hml, hx, List.getD_eq_getElem?_getD, List.getElem?_eq_getElem hml]; rfl
          refine Ev.step (f := fun k => if m < (js.length : Int) then (if c = true then palingref14_loop.l1 k l (h : Int) D re X j js true (wrap64 (m + 1)) else (if 0 ≤ m then palingref14_loop.l1 k l (h : Int) D re X j js (x == (h : Int)) (wrap64 (m + 1)) else none)) else (if c = true then (if 0 ≤ j then (if j < (re.length : Int) then (if at_ re j = true then (if j < (D.length : Int) then (if 0 ≤ (h : Int) then (if (h : Int) < ((D.getD j.toNat []).length : Int) then palingref14_loop.j2 k l (h : Int) D re X j (!val D j (h : Int)) else none) else none) else none) else palingref14_loop.j2 k l (h : Int) D re X j true) else none) else none) else palingref14_loop.j2 k l (h : Int) D re X j true)) (fun k => by rw [hx]; rfl) ?_
          rw [hwm]
          refine Ev.pos m1 ?_
          by_cases c1 : c = true
          · refine Ev.pos c1 (ihm true ?_)
            rw [htk, List.mem_append]
            exact ⟨fun _ => .inl (hc.1 c1), fun _ => rfl⟩
          · refine Ev.neg c1 (Ev.pos m0 (ihm _ ?_))
            rw [htk, List.mem_append, List.mem_singleton, beq_iff_eq]
            constructor
            · intro e; exact .inr e.symm
            · rintro (a | a)
              · exact absurd (hc.2 a) c1
              · exact a.symm
      refine Ev.step (f := fun k => if j < (l.length : Int) then ((palingref14_Next.f k l j).bind fun t => palingref14_loop.l1 k l (h : Int) D re X j t false 0) else palingref14_loop.l3 k l [] X 0) (fun k => rfl) (Ev.pos j1 (Ev.bind hn (scan 0 (by omega) (by omega) false (by simp))))
  refine Ev.congr (f := fun k => if 0 ≤ (l.length : Int) then (if l.length ≤ 281474976710656 then palingref14_loop.l0 k l (h : Int) D re (List.replicate l.length false) 0 else none) else none) (fun k => rfl) ?_
  refine Ev.pos (by omega) (Ev.pos (by omega) (outer 0 (by omega) (by omega) _ (by simp) (fun i i0 i1 => ?_)))
  rw [at_rep]
  constructor
  · intro e; exact absurd e (by simp)
  · rintro ⟨j', a, _⟩; omega
theorem refloops_spec (l : List S37) (hl : l.length ≤ 1000) (re : List Bool) (hre : Ev (fun k => palingref14_Reach.f k l) re) (hrel : re.length = l.length) (hway : 0 < l.length → ∀ i, 0 ≤ i → (at_ re i = true ↔ Way (nxOf l) 0 i)) (D : List (List Bool)) (hD : Ev (fun k => palingref14_Dominates.f k l) D) (hsq : Sq l.length D)
    (hdom : ∀ i k, 0 ≤ i → i < (l.length : Int) → 0 ≤ k → k < (l.length : Int) → (val D i k = true ↔ Dom (nxOf l) i k)) {b : Nat → Bool} {S : Nat → List Bool} (hLS : LoopS (nxOf l) l.length b S) :
    Ev (fun k => palingref14_Loops.f k l) (loopsOf l.length b S) := by
  refine Ev.congr (f := fun k => (palingref14_Dominates.f k l).bind fun t => (palingref14_Reach.f k l).bind fun t2 => palingref14_Loops.l0 k l [] t t2 0) (fun k => rfl) (Ev.bind hD (Ev.bind hre ?_))
  have key : ∀ (m h : Nat) (acc : List (List Int)), h + m = l.length → acc.length ≤ h → Ev (fun k => palingref14_Loops.l0 k l acc D re (h : Int)) (acc ++ ((List.range' h m).filter b).map fun h => memb (S h)) := by
    intro m
    induction m with
    | zero =>
      intro h acc hm _
      refine Ev.step (f := fun _ => some acc) (fun k => ?_) (Ev.con (by simp))
      simp only [palingref14_Loops.l0]
      rw [if_neg (by omega)]
    | succ m ih =>
      intro h acc hm hacc
      have hh : h < l.length := by omega
      have hwh : wrap64 ((h : Int) + 1) = ((h + 1 : Nat) : Int) := by rw [wrap_in (by omega) (by omega)]; omega
      have hlp := refloop_spec l hl re hrel (hway (by omega)) D hsq hdom hLS h hh
      rw [List.range'_succ, List.filter_cons]
      refine Ev.step (f := fun k => if (h : Int) < (l.length : Int) then ((palingref14_loop.f k l (h : Int) D re).bind fun t => (if (t.length : Int) > 0 then (if acc.length < 5864062014805 then palingref14_Loops.l0 k l (acc ++ [t]) D re (wrap64 ((h : Int) + 1)) else none) else palingref14_Loops.l0 k l acc D re (wrap64 ((h : Int) + 1)))) else some acc) (fun k => rfl) (Ev.pos (by omega) (Ev.bind hlp ?_))
      rw [hwh]
      by_cases hb : b h = true
      · rw [if_pos hb, if_pos hb]
        have hpos : 0 < (memb (S h)).length := by
          refine List.length_pos_of_mem (a := (h : Int)) ?_
          rw [memb_in]
          exact ⟨by omega, (hLS.mem h hh hb (h : Int) (by omega) (by omega)).2 (.inl rfl)⟩
        refine Ev.pos (by omega) (Ev.pos (by omega) ?_)
        have := ih (h + 1) (acc ++ [memb (S h)]) (by omega) (by rw [List.length_append, List.length_singleton]; omega)
        rw [List.append_assoc] at this
        rw [List.map_cons]
        exact this
      · rw [if_neg hb, if_neg hb]
        exact Ev.neg (by simp) (ih (h + 1) acc (by omega) (by omega))
  have := key l.length 0 [] (by omega) (by simp)
  rw [List.nil_append, ← List.range_eq_range'] at this
  exact this
theorem refdepth_spec (l : List S37) (hl : l.length ≤ 1000) (L : List (List Int)) (hL : Ev (fun k => palingref14_Loops.f k l) L) (hin : ∀ r ∈ L, r.length ≤ 1000000 ∧ ∀ x ∈ r, 0 ≤ x ∧ x < (l.length : Int)) (hLl : L.length ≤ 1000000) : Ev (fun k => palingref14_Depth.f k l) (depthOf l.length L) := by
  have main : ∀ i : Int, 0 ≤ i → i ≤ (L.length : Int) → ∀ o : List Int, o.length = l.length → Ev (fun k => palingref14_Depth.l0 k o L i) ((L.drop i.toNat).foldl depthRow o) := by
    refine up_ind (n := L.length) ?_ ?_
    · intro o ho
      rw [show ((L.length : Nat) : Int).toNat = L.length by omega, List.drop_length]
      refine Ev.step (f := fun _ => some o) (fun k => ?_) (Ev.con rfl)
      simp only [palingref14_Depth.l0]
      rw [if_neg (by omega)]
    · intro i h0 h1 ih o ho
      have hil : i.toNat < L.length := by omega
      have hw : wrap64 (i + 1) = i + 1 := wrap_up h0 h1 (by omega)
      obtain ⟨js, hjs⟩ : ∃ js, js = L.getD i.toNat [] := ⟨_, rfl⟩
      have hjm : js ∈ L := by rw [hjs, List.getD_eq_getElem?_getD, List.getElem?_eq_getElem hil]; exact List.getElem_mem hil
      obtain ⟨hj1, hj2⟩ := hin js hjm
      rw [getD_drop L [] i.toNat hil, ← hjs, show i.toNat + 1 = (i + 1).toNat by omega]
      refine Ev.step (f := fun k => if i < (L.length : Int) then palingref14_Depth.l1 k o L i 0 else some o) (fun k => rfl) (Ev.pos h1 ?_)
      have inner : ∀ m : Int, 0 ≤ m → m ≤ (js.length : Int) → ∀ o : List Int, o.length = l.length → Ev (fun k => palingref14_Depth.l1 k o L i m) ((L.drop (i + 1).toNat).foldl depthRow (depthRow o (js.drop m.toNat))) := by
        refine up_ind (n := js.length) ?_ ?_
        · intro o ho
          rw [show ((js.length : Nat) : Int).toNat = js.length by omega, List.drop_length]
          refine Ev.step (f := fun k => if 0 ≤ i then (if i < (L.length : Int) then palingref14_Depth.l0 k o L (wrap64 (i + 1)) else none) else none) (fun k => ?_) (Ev.pos h0 (Ev.pos h1 ?_))
          · show (if 0 ≤ i then (if i < (L.length : Int) then (if ((js.length : Nat) : Int) < ((L.getD i.toNat []).length : Int) then _ else palingref14_Depth.l0 k o L (wrap64 (i + 1))) else none) else none) = _
            rw [← hjs, if_pos h0, if_pos h1, if_neg (by omega), if_pos h0, if_pos h1]
          · rw [hw]; exact ih o ho
        · intro m m0 m1 ihm o ho
          have hml : m.toNat < js.length := by omega
          obtain ⟨j, hj⟩ : ∃ j, j = js.getD m.toNat 0 := ⟨_, rfl⟩
          have hjr := hj2 j (by rw [hj, List.getD_eq_getElem?_getD, List.getElem?_eq_getElem hml]; exact List.getElem_mem hml)
          have hwm : wrap64 (m + 1) = m + 1 := wrap_up m0 m1 (by omega)
          rw [getD_drop js 0 m.toNat hml, ← hj, show m.toNat + 1 = (m + 1).toNat by omega]
          refine Ev.step (f := fun k => if 0 ≤ i then (if i < (L.length : Int) then (if m < (js.length : Int) then (if 0 ≤ m then (if 0 ≤ j then (if j < (o.length : Int) then palingref14_Depth.l1 k (o.set j.toNat (wrap64 (o.getD j.toNat 0 + 1))) L i (wrap64 (m + 1)) else none) else none) else none) else palingref14_Depth.l0 k o L (wrap64 (i + 1))) else none) else none) (fun k => by rw [hj, hjs]; rfl) ?_
          refine Ev.pos h0 (Ev.pos h1 (Ev.pos m1 (Ev.pos m0 (Ev.pos hjr.1 (Ev.pos (by omega) ?_)))))
          rw [hwm]
          exact ihm _ (by rw [List.length_set]; exact ho)
      have := inner 0 (by omega) (by omega) o ho
      simpa using this
  have := main 0 (by omega) (by omega) (List.replicate l.length 0) (by simp)
  refine Ev.congr (f := fun k => if 0 ≤ (l.length : Int) then (if l.length ≤ 35184372088832 then ((palingref14_Loops.f k l).bind fun t => palingref14_Depth.l0 k (List.replicate l.length 0) t 0) else none) else none) (fun k => rfl) ?_
  refine Ev.pos (by omega) (Ev.pos (by omega) (Ev.bind hL ?_))
  exact this
theorem loops_bound {nx : Int → List Int} {n : Nat} (hn : n ≤ 1000) {b : Nat → Bool} {S : Nat → List Bool} (h : LoopS nx n b S) : (loopsOf n b S).length ≤ 1000000 ∧ ∀ r ∈ loopsOf n b S, r.length ≤ 1000000 ∧ ∀ x ∈ r, 0 ≤ x ∧ x < (n : Int) := by
  constructor
  · unfold loopsOf
    rw [List.length_map]
    have := List.length_filter_le b (List.range n)
    rw [List.length_range] at this
    omega
  · intro r hr
    unfold loopsOf at hr
    obtain ⟨q, hq, rfl⟩ := List.mem_map.1 hr
    obtain ⟨h1, h2⟩ := List.mem_filter.1 hq
    have hS := h.len q (List.mem_range.1 h1) h2
    constructor
    · have := membP_len (S q) (S q).length
      rw [membP_done] at this
      omega
    · intro x hx
      rw [memb_in] at hx
      refine ⟨hx.1, ?_⟩
      rcases Int.lt_or_le x (n : Int) with h1 | h1
      · exact h1
      · have h2 := hx.2
        unfold at_ at h2
        rw [List.getD_eq_getElem?_getD, List.getElem?_eq_none (by omega)] at h2
        exact absurd h2 (by simp)
end Go.Proofs.YtoncneglplglhaaDoor.PGraphLoops
