/- What nobody needs of any code that may be, the code without that, and without any others, and with an instruction ahead of any places, are the document's. -/
import Derived.Test.YtdopacgaklaaeaaDoorStmDeadTells
import Derived.Test.YtdopacgaklaaeaaDoorPDeadTellsx4
import Derived.Test.YtdopacgaklaaeaaDoorPDeadTellsx17
import Derived.Test.YtdopacgaklaaeaaDoorPDeadTellsx19
import Derived.Test.YtdopacgaklaaeaaDoorPDeadTellshsmb
import Derived.Test.YtdopacgaklaaeaaDoorPDeadTellshchk
import Derived.Test.YtdopacgaklaaeaaDoorPDeadTellshdsp
import Derived.Test.YtdopacgaklaaeaaDoorPDeadTellshdmv
import Derived.Test.YtdopacgaklaaeaaDoorPDeadTellshdrefs
import Derived.Test.YtdopacgaklaaeaaDoorPDeadTellshplain0
namespace Go.Proofs.YtdopacgaklaaeaaDoor.Pure
open Go.RowKit Go.Proofs.YtdopacgaklaaeaaDoor.PDeadTells Go.Proofs.YtdopacgaklaaeaaDoorW.PrintWords Go.Proofs.YtdopacgaklaaeaaDoorW.PrintLast Go.Proofs.YtdopacgaklaaeaaDoorW.PrintMore
set_option linter.unusedVariables false
set_option linter.unusedSimpArgs false
theorem DeadTells : palinglaw18_DeadTells.Pure := by
  intro l marks hl0 hw0 hm0 hm1
  suffices h : Ev (fun k => palinglaw18_DeadTells.f k l marks) true from h.rounds
  have out : Ev (fun k => palinglaw18_DeadTells.j0 k l marks true) true := Ev.step (f := fun _ => some true) (fun k => rfl) (Ev.con rfl)
  refine Ev.congr (fun k => rfl) (Ev.bind awake18 (Ev.tt ?_))
  by_cases h30 : (l.length : Int) > 30
  · exact Ev.pos h30 out
  refine Ev.neg h30 (Ev.bind (check_spec l 30 9) ?_)
  cases hc : checkB l 30 9 with
  | false => exact out
  | true =>
    obtain ⟨hok, hk, hpos⟩ := ok_of_check hc
    obtain ⟨re, A, B, hre, hrel, hway, hF, hn⟩ := needless_ev l hpos (by omega) hok
    have hN := NL_len re B l
    obtain ⟨d, hs, hd, q1, q2, q3, _⟩ := code_steps l.length l (Nat.le_refl _) (by omega) hpos hok
    have tail : ∀ S : List Bool, S.length = l.length → Ev (fun k => palinglaw18_DeadTells.j2 k l S) true := fun S hS => by
      have hI := insertL_len (⟨8, 0, 0, 0, 0, 0, 0⟩ : S28) S (l.map (mvx (insT S))) 0
      rw [List.length_map] at hI
      have hL : (lessL l (S.set (S.length - 1) false)).length ≤ 1000000 := by
        rw [lessL_len (by simpa using hS)]
        have : (S.set (S.length - 1) false).count false ≤ (S.set (S.length - 1) false).length := List.count_le_length
        simp at this
        omega
      have last : Ev (fun k => palinglaw18_DeadTells.j3 k l S false) true := by
        refine Ev.step (f := fun k => if 0 ≤ (wrap64 ((S.length : Int) - 1)) then (if (wrap64 ((S.length : Int) - 1)) < (S.length : Int) then ((some (S.set ((wrap64 ((S.length : Int) - 1)) : Int).toNat false : List Bool)).bind fun y482 => ((dead_Less.f k l y482).bind fun t483 => ((palingref18_Less.f k l y482).bind fun t486 => ((palingref13_Same.f k t483 t486).bind fun t489 => (some t489))))) else (none)) else (none)) (fun k => rfl) ?_
        rw [wrap_in (x := (S.length : Int) - 1) (by omega) (by omega), show ((S.length : Int) - 1).toNat = S.length - 1 by omega]
        refine Ev.pos (by omega) (Ev.pos (by omega) (Ev.bind (Ev.now _) ?_))
        exact Ev.bind (less_ev l _ (by omega) (by simpa using hS) (by rintro rfl; simp at hpos)) (Ev.bind (refless_ev l _ (by omega) (by simpa using hS) hok) (Ev.bind (same13_spec _ hL) (Ev.now _)))
      refine Ev.step (fun k => rfl) (Ev.bind hn (Ev.bind (refneedless_ev l hpos (by omega) hok hn) (Ev.bind (bools_same _ (by omega)) (Ev.pos rfl ?_))))
      refine Ev.bind hd (Ev.bind (refcode_ev hs hpos (by omega) hok) (Ev.bind (same13_spec d (by omega)) (Ev.pos rfl ?_)))
      exact Ev.bind (insert_ev l ⟨8, 0, 0, 0, 0, 0, 0⟩ S (by omega) hS) (Ev.bind (refinsert_ev l ⟨8, 0, 0, 0, 0, 0, 0⟩ S (by omega) hS hok) (Ev.bind (same13_spec _ (by omega)) last))
    refine Ev.step (f := fun k => if 0 ≤ (l.length : Int) then (if ((l.length : Int) : Int).toNat ≤ 281474976710656 then (palinglaw18_DeadTells.l0 k l marks (List.replicate ((l.length : Int) : Int).toNat false) 0) else (none)) else (none)) (fun k => rfl) (Ev.pos (by omega) (Ev.pos (by omega) ?_))
    rw [Int.toNat_natCast]
    have key : ∀ i : Int, 0 ≤ i → i ≤ (l.length : Int) → ∀ S : List Bool, S.length = l.length → Ev (fun k => palinglaw18_DeadTells.l0 k l marks S i) true := by
      refine up_ind ?_ ?_
      · intro S hS
        exact Ev.step (fun k => rfl) (Ev.neg (by omega) (tail S hS))
      · intro i i0 i1 ih S hS
        have hw := wrap_up i0 i1 (by omega)
        refine Ev.step (fun k => rfl) (Ev.pos i1 ?_)
        by_cases hi : i < (marks.length : Int)
        · refine Ev.pos hi (Ev.pos i0 (Ev.pos (by omega) ?_))
          rw [hw]
          exact ih _ (by simpa using hS)
        · exact Ev.neg hi (tail S hS)
    exact key 0 (by omega) (by omega) _ (by simp)
end Go.Proofs.YtdopacgaklaaeaaDoor.Pure
