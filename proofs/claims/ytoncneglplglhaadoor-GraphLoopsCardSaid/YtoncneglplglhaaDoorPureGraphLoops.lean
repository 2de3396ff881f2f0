/- What is above what, the loops, and in how many each place is, of any code, are the document's. -/
import Derived.Test.YtoncneglplglhaaDoorStmGraphLoops
import Derived.Test.YtoncneglplglhaaDoorPGraphLoopsx1
import Derived.Test.YtoncneglplglhaaDoorPGraphLoopsx2
import Derived.Test.YtoncneglplglhaaDoorPGraphLoopsx7
import Derived.Test.YtoncneglplglhaaDoorPGraphLoopshawake14
import Derived.Test.YtoncneglplglhaaDoorPGraphLoopshgdepth
import Derived.Test.YtoncneglplglhaaDoorPGraphLoopshgloops
import Derived.Test.YtoncneglplglhaaDoorPGraphLoopshgref14
import Derived.Test.YtoncneglplglhaaDoorPGraphLoopshgref14b
import Derived.Test.YtoncneglplglhaaDoorPGraphLoopshgspec
import Derived.Test.YtoncneglplglhaaDoorPGraphLoopshpure
import Derived.Test.YtoncneglplglhaaDoorPGraphLoopshway
namespace Go.Proofs.YtoncneglplglhaaDoor.Pure
open Go.RowKit Go.Proofs.YtoncneglplglhaaDoor.PGraphLoops Go.Proofs.YtoncneglplglhaaDoorW.PrintWords Go.Proofs.YtoncneglplglhaaDoorW.PrintLast Go.Proofs.YtoncneglplglhaaDoorW.PrintMore
set_option linter.unusedVariables false
set_option linter.unusedSimpArgs false
theorem GraphLoops : palinglaw14_GraphLoops.Pure := by
  intro l hl0 hw0
  suffices h : Ev (fun k => palinglaw14_GraphLoops.f k l) true from h.rounds
  refine Ev.congr (fun k => rfl) (Ev.bind awake14 (Ev.tt ?_))
  by_cases c1 : (l.length : Int) > 40
  · exact Ev.pos c1 (Ev.con rfl)
  refine Ev.neg c1 ?_
  have hlen : l.length ≤ 1000 := by omega
  have hin := nxOf_in l
  obtain ⟨re, D, b, S, hre, hrel, hway, hD, hsq, hdom, hL, hLS⟩ := graph_facts l hlen
  have hrr := refreach_spec l hlen re hrel hway
  have hrd := refdom_spec l hlen re hrr hrel D hsq (fun i d i0 i1 d0 d1 => by
    rw [Bool.eq_iff_iff, hdom i d i0 i1 d0 d1, Bool.and_eq_true, hway (by omega) i i0, Bool.not_eq_true']
    unfold Dom
    have := without_spec (n := l.length) (fun i _ _ => hin i) 0 d i i0 ⟨by omega, by omega⟩
    constructor
    · rintro ⟨a, c⟩
      refine ⟨a, ?_⟩
      cases hx : at_ (without (nxOf l) l.length 0 d) i with
      | false => rfl
      | true => exact absurd (this.1 hx) c
    · rintro ⟨a, c⟩
      refine ⟨a, fun hh => ?_⟩
      rw [this.2 hh] at c
      exact absurd c (by simp))
  have hrl := refloops_spec l hlen re hrr hrel hway D hrd hsq hdom hLS
  obtain ⟨hb1, hb2⟩ := loops_bound hlen hLS
  obtain ⟨L, hLe⟩ : ∃ L, L = loopsOf l.length b S := ⟨_, rfl⟩
  rw [← hLe] at hL hrl hb1 hb2
  have hde := graph_Depth_spec l hlen L hL hb2 hb1
  have hrde := refdepth_spec l hlen L hrl hb2 hb1
  have hdl : (depthOf l.length L).length = l.length := by
    unfold depthOf
    have : ∀ (L : List (List Int)) (o : List Int), (L.foldl depthRow o).length = o.length := by
      intro L
      induction L with
      | nil => intro o; rfl
      | cons r L ih => intro o; rw [List.foldl_cons, ih, depthRow_len]
    rw [this]; simp
  refine Ev.bind hD (Ev.bind hrd (Ev.pos rfl ?_))
  have main : ∀ i : Int, 0 ≤ i → i ≤ (D.length : Int) → Ev (fun k => palinglaw14_GraphLoops.l0 k l D D i) true := by
    refine up_ind (n := D.length) ?_ ?_
    · refine Ev.step (f := fun k => (graph_Loops.f k l).bind fun t308 => ((palingref14_Loops.f k l).bind fun t311 => ((palinglaw14_rows.f k t308 t311).bind fun t314 => (if t314 = true then ((graph_Depth.f k l).bind fun t315 => ((palingref14_Depth.f k l).bind fun t318 => ((palingref14_Ints.f k t315 t318).bind fun t321 => (some t321)))) else (some false))))) (fun k => ?_) ?_
      · simp only [palinglaw14_GraphLoops.l0]
        rw [if_neg (by omega)]
      · exact Ev.bind hL (Ev.bind hrl (Ev.bind (rows_same L hb1 (fun r hr => (hb2 r hr).1)) (Ev.tt (Ev.bind hde (Ev.bind hrde (Ev.bind (ints_same _ (by omega)) (Ev.now true)))))))
    · intro i i0 i1 ih
      have hwi : wrap64 (i + 1) = i + 1 := wrap_up i0 i1 (by have := hsq.1; omega)
      have hrow := sq_row hsq i0 (by rw [← hsq.1]; exact i1)
      refine Ev.step (f := fun k => if i < (D.length : Int) then (if 0 ≤ i then (if i < (D.length : Int) then ((palingref14_Bools.f k (D.getD i.toNat []) (D.getD i.toNat [])).bind fun t307 => (if t307 = true then (palinglaw14_GraphLoops.l0 k l D D (wrap64 (i + 1))) else (some false))) else (none)) else (none)) else ((graph_Loops.f k l).bind fun t308 => ((palingref14_Loops.f k l).bind fun t311 => ((palinglaw14_rows.f k t308 t311).bind fun t314 => (if t314 = true then ((graph_Depth.f k l).bind fun t315 => ((palingref14_Depth.f k l).bind fun t318 => ((palingref14_Ints.f k t315 t318).bind fun t321 => (some t321)))) else (some false)))))) (fun k => rfl) ?_
      rw [hwi]
      exact Ev.pos i1 (Ev.pos i0 (Ev.pos i1 (Ev.bind (bools_same _ (by omega)) (Ev.tt ih))))
  exact main 0 (by omega) (by omega)
end Go.Proofs.YtoncneglplglhaaDoor.Pure
