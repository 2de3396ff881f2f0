/- The areas' places, whether areas may be, and the secret registers of any code that may be are the document's: a code of at most 60 instructions, at most 30 areas, numbers within 2^40. -/
import Derived.Test.YtndhhnhhnkkpbaaStmLevelTells
import Derived.Test.YtndhhnhhnkkpbaaPLevelTellsx2
import Derived.Test.YtndhhnhhnkkpbaaPLevelTellsx9
import Derived.Test.YtndhhnhhnkkpbaaPLevelTellsharea
import Derived.Test.YtndhhnhhnkkpbaaPLevelTellshawake20
import Derived.Test.YtndhhnhhnkkpbaaPLevelTellshcheck
import Derived.Test.YtndhhnhhnkkpbaaPLevelTellshints
import Derived.Test.YtndhhnhhnkkpbaaPLevelTellshlevel
import Derived.Test.YtndhhnhhnkkpbaaPLevelTellshpure
import Derived.Test.YtndhhnhhnkkpbaaPLevelTellshright
import Derived.Test.YtndhhnhhnkkpbaaPLevelTellshscan
import Derived.Test.YtndhhnhhnkkpbaaPLevelTellshsecret
import Derived.Test.YtndhhnhhnkkpbaaPLevelTellshsecretp
namespace Go.Proofs.Ytndhhnhhnkkpbaa.Pure
open Go.RowKit Go.Proofs.Ytndhhnhhnkkpbaa.PLevelTells Go.Proofs.YtndhhnhhnkkpbaaW.PrintWords Go.Proofs.YtndhhnhhnkkpbaaW.PrintLast Go.Proofs.YtndhhnhhnkkpbaaW.PrintMore
set_option linter.unusedVariables false
set_option linter.unusedSimpArgs false
theorem LevelTells : palinglaw20_LevelTells.Pure := by
  intro l0 l1 a2 hl0 hw0 hl1 hw1 hw2
  suffices h : Ev (fun k => palinglaw20_LevelTells.f k l0 l1 a2) true from h.rounds
  refine Ev.congr (fun k => rfl) (Ev.bind awake20 (Ev.tt ?_))
  by_cases c1 : (l0.length : Int) > 60
  · exact Ev.pos c1 (Ev.step (f := fun _ => some true) (fun k => rfl) (Ev.con rfl))
  · refine Ev.neg c1 ?_
    by_cases c2 : (l1.length : Int) > 30
    · refine Ev.step (f := fun _ => some true) (fun k => ?_) (Ev.con rfl)
      rw [decide_eq_true c2]; rfl
    · have c2' : decide ((l1.length : Int) > 30) = false := decide_eq_false c2
      simp only [c2']
      have rest : Ev (fun k => (level_Area.f l1 a2).bind fun t272 => ((palingref20_Area.f k l1 a2).bind fun t273 => (if t272 = t273 then ((level_Right.f l1 (Go.bits .and .i64 a2 131071)).bind fun t274 => ((palingref20_Right.f k l1 (Go.bits .and .i64 a2 131071)).bind fun t275 => (if (t274 != t275) = true then (palinglaw20_LevelTells.j2 k l0 l1 true) else ((level_Right.f l1 (-1)).bind fun t276 => (palinglaw20_LevelTells.j2 k l0 l1 t276))))) else (palinglaw20_LevelTells.j2 k l0 l1 true)))) true := by
        have hA : level_Area.f l1 a2 = some (areaIdx l1 a2) := by unfold level_Area.f; rw [if_pos (by omega)]; rfl
        have hR : ∀ w, level_Right.f l1 w = some (decide (w ≥ 0) && (decide (w ≤ 65536) && !decide ((scanIdx (badArea w) (endArea w) 0 l1 0).1 ≥ 0))) := fun w => by unfold level_Right.f; rw [if_pos (by omega)]
        refine Ev.bind (Ev.con hA) (Ev.bind (area_spec l1 a2 (by omega)) (Ev.pos rfl (Ev.bind (Ev.con (hR _)) (Ev.bind (right_spec l1 _ (by omega)) (Ev.neg (by simp) (Ev.bind (Ev.con (hR _)) ?_))))))
        have hm : (decide ((-1 : Int) ≥ 0) && (decide ((-1 : Int) ≤ 65536) && !decide ((scanIdx (badArea (-1)) (endArea (-1)) 0 l1 0).1 ≥ 0))) = false := by simp
        rw [hm]
        refine Ev.step (fun k => rfl) (Ev.bind (check_spec l0 30 9) ?_)
        cases hck : checkB l0 30 9 with
        | false => exact Ev.ff (Ev.con rfl)
        | true =>
          obtain ⟨k1, k2, k3, _⟩ := check_facts hck
          obtain ⟨Sf, _, _, e1, e2⟩ := secret_both l0 l1 30 9 k2 (by omega) (fun x hx => (hw0 x hx).2.2.1) k3
          have hlen : (sortI Sf).length ≤ 4611686018427387904 := by
            have := inv_len ‹SecI l0 Sf›
            rw [sortI, List.length_mergeSort]
            omega
          refine Ev.tt (Ev.bind e1 (Ev.bind e2 (Ev.bind (ints_spec _ _ hlen) (Ev.con ?_))))
          simp
      have key : ∀ i : Int, 0 ≤ i → i ≤ l1.length → Ev (fun k => palinglaw20_LevelTells.l0 k l0 l1 a2 i) true := by
        refine up_ind ?_ ?_
        · exact Ev.step (fun k => rfl) (Ev.neg (by omega) rest)
        · intro i h0 hi ih
          refine Ev.step (fun k => rfl) (Ev.pos hi (Ev.pos h0 ?_))
          by_cases d1 : (rd_T26 l1 i).f0 > 1099511627776
          · exact Ev.pos d1 (Ev.con rfl)
          · refine Ev.neg d1 ?_
            by_cases d2 : (rd_T26 l1 i).f0 < (-1099511627776)
            · exact Ev.pos d2 (Ev.con rfl)
            · refine Ev.neg d2 ?_
              by_cases d3 : (rd_T26 l1 i).f1 > 1099511627776
              · exact Ev.pos d3 (Ev.con rfl)
              · refine Ev.neg d3 ?_
                by_cases d4 : (rd_T26 l1 i).f1 < (-1099511627776)
                · exact Ev.pos d4 (Ev.con rfl)
                · refine Ev.neg d4 ?_
                  rw [wrap_up h0 hi (by omega)]
                  exact ih
      exact Ev.step (fun k => rfl) (key 0 (by omega) (by omega))
end Go.Proofs.Ytndhhnhhnkkpbaa.Pure
