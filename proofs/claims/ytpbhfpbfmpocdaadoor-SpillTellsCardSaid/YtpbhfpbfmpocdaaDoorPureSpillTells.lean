/- How many slots any code needs, with any number of registers, the word of each, and the code for them, are the document's. -/
import Derived.Test.YtpbhfpbfmpocdaaDoorStmSpillTells
import Derived.Test.YtpbhfpbfmpocdaaDoorPSpillTellsx14
import Derived.Test.YtpbhfpbfmpocdaaDoorPSpillTellsx15
import Derived.Test.YtpbhfpbfmpocdaaDoorPSpillTellsx19
import Derived.Test.YtpbhfpbfmpocdaaDoorPSpillTellshawake22
import Derived.Test.YtpbhfpbfmpocdaaDoorPSpillTellshcheck
import Derived.Test.YtpbhfpbfmpocdaaDoorPSpillTellshcodefacts
import Derived.Test.YtpbhfpbfmpocdaaDoorPSpillTellshplain0
import Derived.Test.YtpbhfpbfmpocdaaDoorPSpillTellshputspec
import Derived.Test.YtpbhfpbfmpocdaaDoorPSpillTellshrefspill
import Derived.Test.YtpbhfpbfmpocdaaDoorPSpillTellshrefspill2
import Derived.Test.YtpbhfpbfmpocdaaDoorPSpillTellshscanspec3
import Derived.Test.YtpbhfpbfmpocdaaDoorPSpillTellshspillcode
import Derived.Test.YtpbhfpbfmpocdaaDoorPSpillTellshspillpure
import Derived.Test.YtpbhfpbfmpocdaaDoorPSpillTellshspillslots
namespace Go.Proofs.YtpbhfpbfmpocdaaDoor.Pure
open Go.RowKit Go.Proofs.YtpbhfpbfmpocdaaDoor.PSpillTells Go.Proofs.YtpbhfpbfmpocdaaDoorW.PrintWords Go.Proofs.YtpbhfpbfmpocdaaDoorW.PrintLast Go.Proofs.YtpbhfpbfmpocdaaDoorW.PrintMore
set_option linter.unusedVariables false
set_option linter.unusedSimpArgs false
theorem SpillTells : palinglaw22_SpillTells.Pure := by
  intro c r s hl0 hw0 hw1 hl2 hw2
  suffices h : Ev (fun k => palinglaw22_SpillTells.f k c r s) true from h.rounds
  have out : Ev (fun k => palinglaw22_SpillTells.j0 k c r s true) true := Ev.step (f := fun _ => some true) (fun k => rfl) (Ev.con rfl)
  have hr : 0 ≤ r ∧ r ≤ 255 := by simpa [Lit.wf, IntKind.min, IntKind.max, IntKind.signed, IntKind.bits] using hw1
  refine Ev.congr (fun k => rfl) (Ev.bind awake22 (Ev.tt ?_))
  by_cases c1 : (c.length : Int) > 60
  · exact Ev.pos c1 out
  refine Ev.neg c1 ?_
  by_cases c2 : (s.length : Int) > 60
  · exact Ev.pos c2 out
  refine Ev.neg c2 (Ev.bind (check_spec c 60 9) ?_)
  cases hck : checkB c 60 9 with
  | false => exact out
  | true =>
    obtain ⟨h1, h2, h3, h4⟩ := check_facts hck
    have hregs : wrap64 (wrap64 (Int.tmod r 13) + 1) = (((r.toNat % 13 + 1 : Nat)) : Int) := by
      have e : Int.tmod r 13 = ((r.toNat % 13 : Nat) : Int) := by
        obtain ⟨n, rfl⟩ : ∃ n : Nat, r = (n : Int) := ⟨r.toNat, by omega⟩
        rfl
      rw [e, wrap_in (x := ((r.toNat % 13 : Nat) : Int)) (by omega) (by omega), wrap_in (by omega) (by omega)]
      omega
    obtain ⟨l, hs, hll, hlr⟩ := scan_some c (by omega) (r.toNat % 13 + 1) (by omega) (by omega)
    have hfacts := code_facts h3 hlr
    have hm : (mOf l).length ≤ 100000 := by rw [mOf_len]; omega
    refine Ev.step (f := fun k => (palingref21_Scan.f k c (wrap64 (wrap64 (Int.tmod r 13) + 1))).bind fun t591 => (palinglaw22_places.f k t591).bind fun t594 => (spill_Slots.f k t594 s).bind fun bt598 => (palingref22_Slots.f k t591 s).bind fun bt600 => if bt598.1 = bt600.1 then palinglaw22_SpillTells.j1 k c s t591 t594 (bt598.2 != bt600.2) 20 200 else palinglaw22_SpillTells.j1 k c s t591 t594 true 20 200) (fun k => rfl) ?_
    rw [hregs]
    refine Ev.bind hs (Ev.bind (places_spec l (by omega)) (Ev.bind (slots_spec (mOf l) s (by omega) (by omega)) (Ev.bind (refslots_spec l s (by omega) (by omega)) (Ev.pos rfl ?_))))
    rw [show ((cntN s (spilledOf (mOf l)), cntS s (spilledOf (mOf l))).2 != (cntN s (spilledOf (mOf l)), cntS s (spilledOf (mOf l))).2) = false by simp]
    refine Ev.step (f := fun k => palinglaw22_SpillTells.l0 k c s l (mOf l) (-1) 20 200) (fun k => rfl) ?_
    have words : ∀ i : Int, 0 ≤ i → i ≤ (62 : Nat) → Ev (fun k => palinglaw22_SpillTells.l0 k c s l (mOf l) (i - 1) 20 200) true := by
      refine up_ind ?_ ?_
      · have hcs := code_spec (mOf l) s 20 200 hm (by omega) c (by omega) (fun x hx => ⟨(hfacts x hx).1, fun a b => ((hfacts x hx).2.1 a).2, (hfacts x hx).2.2⟩) (fun x hx => one_to (h3 x hx))
        have hrc := refcode_spec l s 20 200 (by omega) (by omega) c (by omega) hfacts (fun x hx => one_to (h3 x hx))
        have hlen : ((allL (mOf l) s 20 200 c).map (fixTo (atsL (mOf l) s 20 200 c 0))).length ≤ 1000000 := by
          rw [List.length_map]
          have : ∀ c : List S48, (allL (mOf l) s 20 200 c).length ≤ 5 * c.length := by
            intro c
            induction c with
            | nil => simp [allL]
            | cons x c ih =>
              have := putL_len (mOf l) s 20 200 x
              rw [show allL (mOf l) s 20 200 (x :: c) = putL (mOf l) s 20 200 x ++ allL (mOf l) s 20 200 c from rfl, List.length_append, List.length_cons]
              omega
          have := this c
          omega
        exact Ev.step (fun k => rfl) (Ev.neg (by omega) (Ev.bind hcs (Ev.bind hrc (Ev.bind (same13_spec _ hlen) (Ev.now _)))))
      · intro i i0 i1 ih
        have hw : wrap64 (i - 1 + 1) = i + 1 - 1 := by rw [wrap_in (by omega) (by omega)]; omega
        rw [← hw] at ih
        exact Ev.step (fun k => rfl) (Ev.pos (by omega) (Ev.bind (wordOf_spec (mOf l) s 20 200 (i - 1) hm (by omega)) (Ev.bind (refword_spec l s 20 200 (i - 1) (by omega) (by omega)) (Ev.pos rfl ih))))
    exact words 0 (by omega) (by omega)
end Go.Proofs.YtpbhfpbfmpocdaaDoor.Pure
