import Derived.Test.YtoncneglplglhaaDoorPGraphLoopsx0
import Derived.Test.YtoncneglplglhaaDoorPGraphLoopsx1
import Derived.Test.YtoncneglplglhaaDoorPGraphLoopsx2
import Derived.Test.YtoncneglplglhaaDoorPGraphLoopsx3
import Derived.Test.YtoncneglplglhaaDoorPGraphLoopshcompact
import Derived.Test.YtoncneglplglhaaDoorPGraphLoopshgdepth
import Derived.Test.YtoncneglplglhaaDoorPGraphLoopshgdom
import Derived.Test.YtoncneglplglhaaDoorPGraphLoopshgloops
import Derived.Test.YtoncneglplglhaaDoorPGraphLoopshgnext
import Derived.Test.YtoncneglplglhaaDoorPGraphLoopshgreach
import Derived.Test.YtoncneglplglhaaDoorPGraphLoopshgspec
import Derived.Test.YtoncneglplglhaaDoorPGraphLoopshinsnext
import Derived.Test.YtoncneglplglhaaDoorPGraphLoopshpure
import Derived.Test.YtoncneglplglhaaDoorPGraphLoopshway
namespace Go.Proofs.YtoncneglplglhaaDoor.PGraphLoops
open Go.RowKit Go.Proofs.YtoncneglplglhaaDoorW.PrintWords Go.Proofs.YtoncneglplglhaaDoorW.PrintLast Go.Proofs.YtoncneglplglhaaDoorW.PrintMore
set_option linter.unusedVariables false
set_option linter.unusedSimpArgs false
/-! The chapter's own example. -/
def code14 : List S37 := [(⟨7, 0, 0, 0, 0, 0, 3⟩ : S37), (⟨0, 0, 0, 0, 0, 0, 0⟩ : S37), (⟨6, 0, 0, 0, 0, 0, 0⟩ : S37), (⟨13, 0, 0, 0, 0, 0, 0⟩ : S37), (⟨0, 0, 0, 0, 0, 0, 0⟩ : S37)]
def next14 (i : Int) : List Int := if i = 0 then [1, 3] else if i = 1 then [2] else if i = 2 then [0] else []
theorem two13 : twoL (wrap64 (0 + 1)) 3 = [1, 3] := by
  have h := twoL_spec (wrap64 (0 + 1)) 3
  have e : wrap64 (0 + 1) = 1 := wrap_in (by omega) (by omega)
  rw [e] at h ⊢
  refine rising_ext h.1 (by simp) (fun i => ?_)
  rw [h.2]; simp
theorem five (P : Int → Prop) (h0 : P 0) (h1 : P 1) (h2 : P 2) (h3 : P 3) (h4 : P 4) : ∀ i, 0 ≤ i → i < 5 → P i := fun i a b => by
  have : i = 0 ∨ i = 1 ∨ i = 2 ∨ i = 3 ∨ i = 4 := by omega
  rcases this with rfl | rfl | rfl | rfl | rfl <;> assumption
theorem gnext14 : ∀ i, 0 ≤ i → i < 5 → graph_next.f code14 i = some (next14 i) := by
  have e0 : graph_next.f code14 0 = (some (twoL (wrap64 (0 + 1)) 3)).bind fun l => if l.length ≤ 1000000 then some (l.filter (fun x => !inB 5 x)) else none := by kernel_rfl
  refine five _ ?_ (by kernel_rfl) (by kernel_rfl) (by kernel_rfl) (by kernel_rfl)
  rw [e0, two13]
  kernel_rfl
theorem nx14 : nxOf code14 = next14 := by
  funext i
  by_cases h : 0 ≤ i ∧ i < 5
  · have h1 := gnext14 i h.1 h.2
    have h2 := graph_next_some code14 i h.1 (by exact h.2)
    exact Option.some.inj (h2.symm.trans h1)
  · unfold nxOf
    rw [if_neg (fun hh => h ⟨hh.1, by exact hh.2⟩)]
    unfold next14
    rw [if_neg (by omega), if_neg (by omega), if_neg (by omega)]
theorem walk14 : ∀ k, 30 ≤ k → walkGo (graph_next.f code14) k (List.replicate 5 false) [0] = walkGo (fun i => some (next14 i)) k (List.replicate 5 false) [0] := by
  have key : ∀ (k : Nat) (s : List Bool) (w : List Int), s.length = 5 → walkGo (graph_next.f code14) k s w = walkGo (fun i => some (next14 i)) k s w := by
    intro k
    induction k with
    | zero => intro s w _; rfl
    | succ k ih =>
      intro s w hs
      rw [walkGo, walkGo]
      by_cases h1 : w = []
      · rw [if_pos h1, if_pos h1]
      · rw [if_neg h1, if_neg h1]
        by_cases h2 : 0 ≤ w.getLastD 0 ∧ w.getLastD 0 < (s.length : Int)
        · rw [if_pos h2, if_pos h2, gnext14 _ h2.1 (by have := h2.2; omega), ih s w.dropLast hs]
          have e : (fun l : List Int => if w.length + l.length ≤ 1000000000 then walkGo (graph_next.f code14) k (s.set (w.getLastD 0).toNat true) (w.dropLast ++ l) else none) = fun l : List Int => if w.length + l.length ≤ 1000000000 then walkGo (fun i => some (next14 i)) k (s.set (w.getLastD 0).toNat true) (w.dropLast ++ l) else none := by
            funext l; rw [ih _ _ (by rw [List.length_set]; exact hs)]
          rw [e]
        · rw [if_neg h2, if_neg h2]
  exact fun k _ => key k _ _ (by simp)
def reach14 : List Bool := [true, true, true, true, false]
def preds14 : List (List Int) := [[2], [0], [1], [0], []]
def doms14 : List (List Bool) := [[true, false, false, false, false], [true, true, false, false, false], [true, true, true, false, false], [true, false, false, true, false], [false, false, false, false, false]]
theorem reach14_ev : Ev (fun k => graph_Reach.f k code14) reach14 := by
  refine Ev.of (graph_Reach.mono code14) (k := 40) ?_
  have e : graph_Reach.f 40 code14 = walkGo (graph_next.f code14) 40 (List.replicate 5 false) [0] := by
    unfold graph_Reach.f
    rw [if_neg (by unfold code14; simp), if_pos (by unfold code14; simp)]
    rfl
  have e2 : walkGo (fun i => some (next14 i)) 40 (List.replicate 5 false) [0] = some reach14 := by kernel_rfl
  show graph_Reach.f 40 code14 = some reach14
  rw [e, walk14 40 (by omega)]
  exact e2
theorem preds14_ev : Ev (fun k => graph_Preds.f k code14) preds14 := by
  have h := graph_Preds_spec code14 (by decide) reach14 reach14_ev (by rfl)
  rw [nx14] at h
  have e : predsOf next14 reach14 code14.length = preds14 := by kernel_rfl
  rw [e] at h
  exact h
theorem doms14_ev : Ev (fun k => graph_Dominates.f k code14) doms14 := by
  refine Ev.congr (f := fun k => if code14.length ≤ 1000000 then (graph_Reach.f k code14).bind fun re => (graph_Preds.f k code14).bind fun P => if P.length = code14.length ∧ re.length = code14.length ∧ (∀ r ∈ P, ∀ x ∈ r, 0 ≤ x ∧ x < (code14.length : Int)) then domGo (fun j => P.getD j.toNat []) re code14.length k (iniT re code14.length) else none else none) (fun k => rfl) ?_
  refine Ev.pos (by decide) (Ev.bind reach14_ev (Ev.bind preds14_ev (Ev.pos (by decide) ?_)))
  exact Ev.of (fun k => domGo.mono _ _ _ k _) (k := 40) (by kernel_rfl)
theorem loops14_ev : Ev (fun k => graph_Loops.f k code14) [[0, 1, 2]] := by
  refine Ev.congr (f := fun k => (graph_Preds.f k code14).bind fun P => (graph_Dominates.f k code14).bind fun D => if code14.length ≤ 1000000 ∧ P.length = code14.length ∧ D.length = code14.length ∧ (∀ r ∈ D, r.length = code14.length) ∧ (∀ r ∈ P, r.length ≤ 1000000 ∧ ∀ x ∈ r, 0 ≤ x ∧ x < (code14.length : Int)) then graph_Loops.l P D code14.length k code14.length 0 [] else none) (fun k => rfl) ?_
  refine Ev.bind preds14_ev (Ev.bind doms14_ev (Ev.pos (by decide) ?_))
  exact Ev.of (fun k => graph_Loops.l_mono _ _ _ k _ _ _) (k := 40) (by kernel_rfl)
theorem depth14_ev : Ev (fun k => graph_Depth.f k code14) [1, 1, 1, 0, 0] := by
  have h := graph_Depth_spec code14 (by decide) _ loops14_ev (by decide) (by decide)
  have e : depthOf code14.length [[0, 1, 2]] = [1, 1, 1, 0, 0] := by kernel_rfl
  rw [e] at h
  exact h
theorem awake14 : Ev (fun k => palinglaw14_awake.f k) true := by
  have r1 : Ev (fun k => palinglaw14_rows.f k [[0, 1, 2]] [[0, 1, 2]]) true := Ev.of (palinglaw14_rows.mono _ _) (k := 40) (by kernel_rfl)
  have r2 : Ev (fun k => palinglaw14_rows.f k preds14 [[2], [0], [1], [0], []]) true := Ev.of (palinglaw14_rows.mono _ _) (k := 40) (by kernel_rfl)
  have i1 : Ev (fun k => palingref14_Ints.f k [1, 1, 1, 0, 0] [1, 1, 1, 0, 0]) true := Ev.of (palingref14_Ints.mono _ _) (k := 40) (by kernel_rfl)
  have b1 : Ev (fun k => palingref14_Bools.f k reach14 [true, true, true, true, false]) true := Ev.of (palingref14_Bools.mono _ _) (k := 40) (by kernel_rfl)
  have b2 : Ev (fun k => palingref14_Bools.f k [true, true, true, false, false] [true, true, true, false, false]) true := Ev.of (palingref14_Bools.mono _ _) (k := 40) (by kernel_rfl)
  refine Ev.congr (f := fun k => (graph_Dominates.f k code14).bind fun d => (graph_Loops.f k code14).bind fun t => (palinglaw14_rows.f k t [[0, 1, 2]]).bind fun q => if q = true then ((graph_Depth.f k code14).bind fun t => (palingref14_Ints.f k t [1, 1, 1, 0, 0]).bind fun q => if q = true then ((graph_Reach.f k code14).bind fun t => (palingref14_Bools.f k t [true, true, true, true, false]).bind fun q => if q = true then ((graph_Preds.f k code14).bind fun t => (palinglaw14_rows.f k t [[2], [0], [1], [0], []]).bind fun q => if q = true then (if (d.length : Int) = 5 then (if 2 < (d.length : Int) then ((palingref14_Bools.f k (d.getD (2 : Int).toNat []) [true, true, true, false, false]).bind fun q => some q) else none) else none) else none) else none) else none) else none) (fun k => rfl) ?_
  refine Ev.bind doms14_ev (Ev.bind loops14_ev (Ev.bind r1 (Ev.tt (Ev.bind depth14_ev (Ev.bind i1 (Ev.tt (Ev.bind reach14_ev (Ev.bind b1 (Ev.tt (Ev.bind preds14_ev (Ev.bind r2 (Ev.tt ?_))))))))))))
  exact Ev.pos (by decide) (Ev.pos (by decide) (Ev.bind b2 (Ev.now true)))
end Go.Proofs.YtoncneglplglhaaDoor.PGraphLoops
