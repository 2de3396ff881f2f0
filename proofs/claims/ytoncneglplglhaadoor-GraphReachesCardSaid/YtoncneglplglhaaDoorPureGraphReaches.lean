/- Where ways lead, and from where each place can be come to, of any code, are the document's. -/
import Derived.Test.YtoncneglplglhaaDoorStmGraphReaches
import Derived.Test.YtoncneglplglhaaDoorPGraphReachesx4
import Derived.Test.YtoncneglplglhaaDoorPGraphReachesx5
import Derived.Test.YtoncneglplglhaaDoorPGraphReachesx6
import Derived.Test.YtoncneglplglhaaDoorPGraphReacheshawake14
import Derived.Test.YtoncneglplglhaaDoorPGraphReacheshgreach
import Derived.Test.YtoncneglplglhaaDoorPGraphReacheshgref14
import Derived.Test.YtoncneglplglhaaDoorPGraphReacheshgrefpreds
import Derived.Test.YtoncneglplglhaaDoorPGraphReacheshgspec
import Derived.Test.YtoncneglplglhaaDoorPGraphReacheshpure
import Derived.Test.YtoncneglplglhaaDoorPGraphReacheshway
namespace Go.Proofs.YtoncneglplglhaaDoor.Pure
open Go.RowKit Go.Proofs.YtoncneglplglhaaDoor.PGraphReaches Go.Proofs.YtoncneglplglhaaDoorW.PrintWords Go.Proofs.YtoncneglplglhaaDoorW.PrintLast Go.Proofs.YtoncneglplglhaaDoorW.PrintMore
set_option linter.unusedVariables false
set_option linter.unusedSimpArgs false
theorem addAll_same (P : List (List Int)) (js : List Int) (a : Int) : addAllR P js a = addAll P js a := rfl
theorem rows_of {P : List (List Int)} {B : Nat} (h : ∀ j : Int, 0 ≤ j → (P.getD j.toNat []).length ≤ B) : ∀ r ∈ P, r.length ≤ B := by
  intro r hr
  obtain ⟨i, hi, he⟩ := List.mem_iff_getElem.1 hr
  have := h (i : Int) (by omega)
  rw [Int.toNat_natCast, List.getD_eq_getElem?_getD, List.getElem?_eq_getElem hi] at this
  rw [← he]; exact this
theorem refpreds_spec (l : List S37) (hl : l.length ≤ 1000) (re : List Bool) (hre : Ev (fun k => palingref14_Reach.f k l) re) (hrel : re.length = l.length) : Ev (fun k => palingref14_Preds.f k l) (predsOf (nxOf l) re l.length) := by
  have key : ∀ (m i : Nat) (P : List (List Int)), i + m = l.length → P.length = l.length → (∀ j : Int, 0 ≤ j → (P.getD j.toNat []).length ≤ 2 * i) → Ev (fun k => palingref14_Preds.l k l re m i P) (predsGo (nxOf l) re m (i : Int) P) := by
    intro m
    induction m with
    | zero => intro i P _ _ _; exact Ev.congr (f := fun _ => some P) (fun k => rfl) (Ev.now _)
    | succ m ih =>
      intro i P hm hP hrow
      have hjs : ∀ j ∈ nxOf l (i : Int), 0 ≤ j ∧ j < (l.length : Int) := nxOf_in l (i : Int)
      have hj2 := nxOf_len l (i : Int)
      refine Ev.congr (f := fun k => (palingref14_Next.f k l (i : Int)).bind fun js => if js.length ≤ 1000000 ∧ (∀ j ∈ js, 0 ≤ j ∧ j < (l.length : Int)) ∧ (∀ r ∈ P, r.length ≤ 1000000) then palingref14_Preds.l k l re m (i + 1) (if rdOf false re (i : Int) = true then addAllR P js (i : Int) else P) else none) (fun k => rfl) ?_
      refine Ev.bind (refnext_spec l hl (i : Int) (by omega) (by omega)) (Ev.pos ⟨by omega, hjs, fun r hr => by have := rows_of hrow r hr; omega⟩ ?_)
      rw [predsGo, addAll_same, show ((i : Int) + 1) = ((i + 1 : Nat) : Int) by omega]
      have e : rdOf false re (i : Int) = at_ re (i : Int) := rfl
      rw [e]
      refine ih (i + 1) _ (by omega) ?_ ?_
      · split
        · rw [addAll_len]; exact hP
        · exact hP
      · intro j j0
        split
        · rw [addAll_row _ _ _ _ (by rw [hP]; exact hjs) j0, List.length_append, List.length_replicate]
          have := hrow j j0
          have := List.count_le_length (a := j) (l := nxOf l (i : Int))
          omega
        · have := hrow j j0; omega
  have := key l.length 0 (List.replicate l.length []) (by omega) (by simp) (fun j j0 => by
    rw [List.getD_eq_getElem?_getD, List.getElem?_replicate]
    split <;> simp)
  refine Ev.congr (f := fun k => if l.length ≤ 1000000 then (palingref14_Reach.f k l).bind fun r => if r.length = l.length then palingref14_Preds.l k l r l.length 0 (List.replicate l.length []) else none else none) (fun k => rfl) ?_
  exact Ev.pos (by omega) (Ev.bind hre (Ev.pos hrel this))
theorem GraphReaches : palinglaw14_GraphReaches.Pure := by
  intro l hl0 hw0
  suffices h : Ev (fun k => palinglaw14_GraphReaches.f k l) true from h.rounds
  refine Ev.congr (fun k => rfl) (Ev.bind awake14 (Ev.tt ?_))
  by_cases c1 : (l.length : Int) > 60
  · exact Ev.pos c1 (Ev.con rfl)
  refine Ev.neg c1 ?_
  have hlen : l.length ≤ 1000 := by omega
  obtain ⟨re, hre, hrel, hway⟩ : ∃ re, Ev (fun k => graph_Reach.f k l) re ∧ re.length = l.length ∧ (0 < l.length → ∀ i, 0 ≤ i → (at_ re i = true ↔ PGraphReaches.Way (nxOf l) 0 i)) := by
    by_cases hn : 0 < l.length
    · obtain ⟨re, h1, h2, h3⟩ := graph_Reach_ev l hn hlen
      exact ⟨re, h1, h2, fun _ => h3⟩
    · have hnil : l = [] := List.eq_nil_of_length_eq_zero (by omega)
      subst hnil
      exact ⟨[], Ev.con rfl, rfl, fun h => absurd h (by simp)⟩
  have hrr := refreach_spec l hlen re hrel hway
  have hP := graph_Preds_spec l hlen re hre hrel
  have hrP := refpreds_spec l hlen re hrr hrel
  have hPl : (predsOf (nxOf l) re l.length).length = l.length := predsOf_len _ _ _
  have hPr : ∀ r ∈ predsOf (nxOf l) re l.length, r.length ≤ 1000000 := rows_of (fun j j0 => by
    rw [predsOf_row (fun i => nxOf_in l i) j j0]
    have := row_len (re := re) (fun i => nxOf_len l i) l.length 0 j
    omega)
  refine Ev.bind hre (Ev.bind hrr (Ev.bind (bools_same re (by omega)) (Ev.tt (Ev.bind hP (Ev.bind hrP (Ev.bind (rows_same _ (by omega) hPr) (Ev.now true)))))))
end Go.Proofs.YtoncneglplglhaaDoor.Pure
