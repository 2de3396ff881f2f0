/- What is left stays, when it is done once more; fences, Stores and events at which a way ends are never needless. -/
import Derived.Test.YtdopacgaklaaeaaDoorStmDeadOnce
import Derived.Test.YtdopacgaklaaeaaDoorPDeadOncex3
import Derived.Test.YtdopacgaklaaeaaDoorPDeadOncex9
import Derived.Test.YtdopacgaklaaeaaDoorPDeadOncex10
import Derived.Test.YtdopacgaklaaeaaDoorPDeadOncehawake18
import Derived.Test.YtdopacgaklaaeaaDoorPDeadOncehcheck
import Derived.Test.YtdopacgaklaaeaaDoorPDeadOncehdcode
import Derived.Test.YtdopacgaklaaeaaDoorPDeadOncehdspec
import Derived.Test.YtdopacgaklaaeaaDoorPDeadOncehgref14
import Derived.Test.YtdopacgaklaaeaaDoorPDeadOncehlgrow
import Derived.Test.YtdopacgaklaaeaaDoorPDeadOncehplain0
import Derived.Test.YtdopacgaklaaeaaDoorPDeadOncehsame13
namespace Go.Proofs.YtdopacgaklaaeaaDoor.Pure
open Go.RowKit Go.Proofs.YtdopacgaklaaeaaDoor.PDeadOnce Go.Proofs.YtdopacgaklaaeaaDoorW.PrintWords Go.Proofs.YtdopacgaklaaeaaDoorW.PrintLast Go.Proofs.YtdopacgaklaaeaaDoorW.PrintMore
set_option linter.unusedVariables false
set_option linter.unusedSimpArgs false
theorem nl_stays (re : List Bool) (B : List (List Int)) (i : Nat) (x : S28) (h : x.f0 ≥ 8 ∨ x.f0 = 5 ∨ x.f0 = 7) (h14 : x.f0 < 14) : nl re B i x = !(re.getD i false) := by
  have hd : defQ x = -1 := by unfold defQ; rw [def_none x.f0 (by omega)]; rfl
  unfold nl
  rw [hd]
  cases re.getD i false with
  | false => rfl
  | true => rw [if_pos rfl, if_neg (by omega), if_neg (by omega)]; rfl
theorem DeadOnce : palinglaw18_DeadOnce.Pure := by
  intro l hl0 hw0
  suffices h : Ev (fun k => palinglaw18_DeadOnce.f k l) true from h.rounds
  have out : Ev (fun k => palinglaw18_DeadOnce.j0 k l true) true := Ev.step (f := fun _ => some true) (fun k => rfl) (Ev.con rfl)
  refine Ev.congr (fun k => rfl) (Ev.bind awake18 (Ev.tt ?_))
  by_cases h40 : (l.length : Int) > 40
  · exact Ev.pos h40 out
  refine Ev.neg h40 (Ev.bind (check_spec l 30 9) ?_)
  cases hc : checkB l 30 9 with
  | false => exact out
  | true =>
    obtain ⟨hok, hk, hpos⟩ := ok_of_check hc
    obtain ⟨re, A, B, hre, hrel, hway, hF, hn⟩ := needless_ev l hpos (by omega) hok
    have hrr := refreach_spec l (by omega) re hrel (fun _ => hway)
    obtain ⟨d, _, hd, q1, q2, q3, g, hg, hgl, hgt⟩ := code_steps l.length l (Nat.le_refl _) (by omega) hpos hok
    refine Ev.step (f := fun k => (dead_Needless.f k l).bind fun t => (palingref14_Reach.f k l).bind fun t2 => palinglaw18_DeadOnce.l0 k l t t2 0) (fun k => rfl) (Ev.bind hn (Ev.bind hrr ?_))
    have hN := NL_len re B l
    refine (up_ind (n := l.length) (P := fun i => Ev (fun k => palinglaw18_DeadOnce.l0 k l (NL re B l) re i) true) ?_ ?_) 0 (by omega) (by omega)
    · exact Ev.step (fun k => rfl) (Ev.neg (by omega) (Ev.bind hd (Ev.bind (code_again (by omega) hg hgl hgt) (Ev.bind (same13_spec d (by omega)) (Ev.now _)))))
    · intro i i0 i1 ih
      have hw := wrap_up i0 i1 (by omega)
      rw [← hw] at ih
      have hx : (NL re B l).getD i.toNat false = nl re B i.toNat (l.getD i.toNat z28) := NL_get re B l i.toNat (by omega)
      have hm : l.getD i.toNat z28 ∈ l := by rw [List.getD_eq_getElem?_getD, List.getElem?_eq_getElem (by omega)]; exact List.getElem_mem _
      have h14 := hk _ hm
      have same : ∀ h : (l.getD i.toNat z28).f0 ≥ 8 ∨ (l.getD i.toNat z28).f0 = 5 ∨ (l.getD i.toNat z28).f0 = 7, Ev (fun k => if i < ((NL re B l).length : Int) then (if i < (re.length : Int) then (if (((NL re B l).getD i.toNat false) != (!(re.getD i.toNat false))) = true then none else (palinglaw18_DeadOnce.l0 k l (NL re B l) re (wrap64 (i + 1)))) else none) else none) true := fun h => by
        rw [hx, nl_stays _ _ _ _ h h14.2]
        exact Ev.pos (by omega) (Ev.pos (by omega) (Ev.neg (by simp) ih))
      refine Ev.step (fun k => rfl) (Ev.pos i1 (Ev.pos i0 ?_))
      rw [show rd_T28 l i = l.getD i.toNat z28 from rfl]
      by_cases c1 : (l.getD i.toNat z28).f0 ≥ 8
      · exact Ev.pos c1 (same (.inl c1))
      · refine Ev.neg c1 ?_
        by_cases c2 : (l.getD i.toNat z28).f0 = 5
        · exact Ev.pos c2 (same (.inr (.inl c2)))
        · refine Ev.neg c2 ?_
          by_cases c3 : (l.getD i.toNat z28).f0 = 7
          · exact Ev.pos c3 (same (.inr (.inr c3)))
          · exact Ev.neg c3 ih
end Go.Proofs.YtdopacgaklaaeaaDoor.Pure
