/- What is needed ahead of each place of any code, and behind it, the ranges of registers, and how many are needed at once, are the document's. -/
import Derived.Test.YtianfjhhhhmjlaaDoorStmLiveTells
import Derived.Test.YtianfjhhhhmjlaaDoorPLiveTellsx7
import Derived.Test.YtianfjhhhhmjlaaDoorPLiveTellsx8
import Derived.Test.YtianfjhhhhmjlaaDoorPLiveTellsx10
import Derived.Test.YtianfjhhhhmjlaaDoorPLiveTellshawake15
import Derived.Test.YtianfjhhhhmjlaaDoorPLiveTellshlahead
import Derived.Test.YtianfjhhhhmjlaaDoorPLiveTellshlmost
import Derived.Test.YtianfjhhhhmjlaaDoorPLiveTellshlranges
import Derived.Test.YtianfjhhhhmjlaaDoorPLiveTellshrefs
import Derived.Test.YtianfjhhhhmjlaaDoorPLiveTellshlsp
import Derived.Test.YtianfjhhhhmjlaaDoorPLiveTellshplain0
namespace Go.Proofs.YtianfjhhhhmjlaaDoor.Pure
open Go.RowKit Go.Proofs.YtianfjhhhhmjlaaDoor.PLiveTells Go.Proofs.YtianfjhhhhmjlaaDoorW.PrintWords Go.Proofs.YtianfjhhhhmjlaaDoorW.PrintLast Go.Proofs.YtianfjhhhhmjlaaDoorW.PrintMore
set_option linter.unusedVariables false
set_option linter.unusedSimpArgs false
theorem LiveTells : palinglaw15_LiveTells.Pure := by
  intro l hl0 hw0
  suffices h : Ev (fun k => palinglaw15_LiveTells.f k l) true from h.rounds
  refine Ev.congr (fun k => rfl) (Ev.bind awake15 (Ev.tt (Ev.bind (small_spec l (by omega)) ?_)))
  cases hs : smallB l with
  | false => exact Ev.neg (by simp) (Ev.con rfl)
  | true =>
    obtain ⟨h30, hsm⟩ := small_facts hs
    have hc : l.length ≤ 1000 := by omega
    obtain ⟨A, B, he, hF⟩ := flow_spec l hc
    have hwA := hF.wfA hc hsm
    have hwB := hF.wfB hc hsm
    have hwR := hF.wfR hc hsm
    have hMl := hwR.1
    have hA := hF.lA
    have hB := hF.lB
    refine Ev.pos rfl (Ev.bind (ranges_spec he hc hwR) (Ev.bind (refranges_spec hc hF) (Ev.pos (by rw [List.length_map]) ?_)))
    have tail : Ev (fun k => (live_Ahead.f k l).bind fun t351 => ((palingref15_Ahead.f k l).bind fun t354 => ((palinglaw15_rows.f k t351 t354).bind fun t357 => (if t357 = true then ((live_Behind.f k l).bind fun t358 => ((palingref15_Behind.f k l).bind fun t361 => ((palinglaw15_rows.f k t358 t361).bind fun t364 => (if t364 = true then ((live_Most.f k l).bind fun t365 => ((palingref15_Most.f k l).bind fun t366 => (some (t365 == t366)))) else (none))))) else (none))))) true := by
      refine Ev.bind (ahead_spec he hwA) (Ev.bind (refahead_spec hc hF) (Ev.bind (lrows_same A (by omega) (fun i => by have := hF.nA i; omega)) (Ev.pos rfl (Ev.bind (behind_spec he hwB) (Ev.bind (refbehind_spec hc hF) (Ev.bind (lrows_same B (by omega) (fun i => by have := hF.nB i; omega)) (Ev.pos rfl (Ev.bind (most_spec he hwA) (Ev.bind (refmost_spec hc hF) (Ev.con ?_))))))))))
      simp
    generalize rangesL l A B = M at hMl ⊢
    refine (up_ind (n := M.length) (P := fun i => Ev (fun k => palinglaw15_LiveTells.l0 k l M (M.map convG) i) true) ?_ ?_) 0 (by omega) (by omega)
    · exact Ev.step (fun k => rfl) (Ev.neg (by omega) tail)
    · intro i i0 i1 ih
      rw [← wrap_up i0 i1 (by omega)] at ih
      have e : rd_T31 (M.map convG) i = convG (rd_T30 M i) := by
        have hil : i.toNat < M.length := by omega
        unfold rd_T31 rd_T30
        simp only [List.getD_eq_getElem?_getD]
        rw [List.getElem?_map, List.getElem?_eq_getElem hil]
        rfl
      refine Ev.step (fun k => rfl) (Ev.pos i1 (Ev.pos i0 (Ev.pos (by rw [List.length_map]; exact i1) ?_)))
      rw [e]
      exact Ev.pos rfl (Ev.pos rfl (Ev.pos rfl ih))
end Go.Proofs.YtianfjhhhhmjlaaDoor.Pure
