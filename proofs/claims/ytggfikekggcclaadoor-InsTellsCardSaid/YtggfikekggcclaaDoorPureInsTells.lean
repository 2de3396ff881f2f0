/- What any instruction reads, writes, where it may go, and its text, are the document's. -/
import Derived.Test.YtggfikekggcclaaDoorStmInsTells
import Derived.Test.YtggfikekggcclaaDoorPInsTellsx1
import Derived.Test.YtggfikekggcclaaDoorPInsTellsx3
import Derived.Test.YtggfikekggcclaaDoorPInsTellsx6
import Derived.Test.YtggfikekggcclaaDoorPInsTellsx7
import Derived.Test.YtggfikekggcclaaDoorPInsTellsx9
import Derived.Test.YtggfikekggcclaaDoorPInsTellshbytes
import Derived.Test.YtggfikekggcclaaDoorPInsTellshcompact
import Derived.Test.YtggfikekggcclaaDoorPInsTellshtop
import Derived.Test.YtggfikekggcclaaDoorPInsTellshforms
import Derived.Test.YtggfikekggcclaaDoorPInsTellshinsnext
import Derived.Test.YtggfikekggcclaaDoorPInsTellshinsregs
import Derived.Test.YtggfikekggcclaaDoorPInsTellshinsshow
import Derived.Test.YtggfikekggcclaaDoorPInsTellshinsuses
import Derived.Test.YtggfikekggcclaaDoorPInsTellshpure
import Derived.Test.YtggfikekggcclaaDoorPInsTellshref11
import Derived.Test.YtggfikekggcclaaDoorPInsTellshshowref
namespace Go.Proofs.YtggfikekggcclaaDoor.Pure
open Go.RowKit Go.Proofs.YtggfikekggcclaaDoor.PInsTells Go.Proofs.YtggfikekggcclaaDoorW.PrintWords Go.Proofs.YtggfikekggcclaaDoorW.PrintLast Go.Proofs.YtggfikekggcclaaDoorW.PrintMore
set_option linter.unusedVariables false
set_option linter.unusedSimpArgs false
open Go.Shelf
theorem uses_eq (x : S23) : useRegs (useL x.f0 x.f2 x.f3 x.f4) = usesL x := by
  obtain ⟨h1, h2, h3, h4, h5, h6, h7, _⟩ := form_tab x.f0
  refine rising_ext (useRegs_spec _).1 (usesL_spec x).1 (fun i => ?_)
  rw [(useRegs_spec _).2, (usesL_spec x).2.1, h2, h3]
  unfold useL
  rw [form_pick, List.mem_append, List.mem_append]
  have e : ∀ (c : Bool) (v : Int), i ∈ (if c = true then [v] else []) ↔ (c = true ∧ i = v) := fun c v => by cases c <;> simp
  rw [e, e, e]
  simp only [beq_iff_eq]
  constructor
  · rintro ⟨(h | h) | h, h0⟩
    · exact ⟨h0, .inr (.inl h)⟩
    · exact ⟨h0, .inr (.inr h)⟩
    · exact ⟨h0, .inl h⟩
  · rintro ⟨h0, h | h | h⟩
    · exact ⟨.inr h, h0⟩
    · exact ⟨.inl (.inl h), h0⟩
    · exact ⟨.inl (.inr h), h0⟩
theorem def_eq (x : S23) : (if fmB 1 x.f0 = true then x.f2 else -1) = defL x := by
  unfold defL
  rw [(form_tab x.f0).1]
theorem two_lt {a b : Int} (h : a < b) : twoL a b = [a, b] ∧ twoL b a = [a, b] := by
  refine ⟨rising_ext (twoL_spec _ _).1 (by simpa using h) (fun i => ?_), rising_ext (twoL_spec _ _).1 (by simpa using h) (fun i => ?_)⟩
  · rw [(twoL_spec _ _).2]; simp
  · rw [(twoL_spec _ _).2]; simp; omega
theorem two_eq (a : Int) : twoL a a = [a] := by
  refine rising_ext (twoL_spec _ _).1 (by simp) (fun i => ?_)
  rw [(twoL_spec _ _).2]; simp
theorem nextref_spec (x : S23) (i : Int) (h : wrap64 (i + 1) = i + 1) : Ev (fun k => palingref11_Next.f k x.f0 x.f1 x.f2 x.f3 x.f4 x.f5 x.f6 i) (nextV x i) := by
  obtain ⟨_, _, _, _, _, _, e7⟩ := fld_has x.f0
  have hend := (form_tab x.f0).2.2.2.2.2.2.2
  refine Ev.congr (fun k => rfl) (Ev.bind (Ev.con (fields_spec x.f0)) ?_)
  unfold nextV
  rw [← hend]
  have stop : Ev (fun k => palingref11_Next.j0 k i true x.f0 x.f1 x.f2 x.f3 x.f4 x.f5 x.f6) [] := Ev.step (f := fun _ => some []) (fun k => rfl) (Ev.now _)
  by_cases hk : 0 ≤ x.f0 ∧ x.f0 < 14
  · have hne : ¬ ((fldB x.f0).toList = []) := by rw [toList_data, e7]; simpa using hk
    refine Ev.neg hne ?_
    by_cases h12 : x.f0 = 12
    · refine Ev.pos h12 ?_
      rw [if_pos (by simp [h12])]
      exact stop
    · refine Ev.neg h12 ?_
      by_cases h13 : x.f0 = 13
      · rw [show (x.f0 == 13) = true by simpa using h13, if_pos (by simp)]
        exact stop
      · rw [show (x.f0 == 13) = false by simpa using h13, if_neg (by simp [hk, h12])]
        refine Ev.step (fun k => rfl) ?_
        by_cases h6 : x.f0 = 6
        · rw [if_pos h6]; exact Ev.pos h6 (Ev.now _)
        · rw [if_neg h6]
          refine Ev.neg h6 ?_
          by_cases h7 : x.f0 = 7
          · rw [if_pos h7]
            refine Ev.pos h7 ?_
            rw [h]
            by_cases hlt : x.f6 < i + 1
            · rw [show decide (x.f6 < i + 1) = true from decide_eq_true hlt, (two_lt hlt).2]
              refine Ev.step (f := fun _ => some [x.f6, wrap64 (i + 1)]) (fun k => rfl) ?_
              rw [h]; exact Ev.now _
            · rw [show decide (x.f6 < i + 1) = false from decide_eq_false hlt]
              refine Ev.step (fun k => rfl) (Ev.pos h7 ?_)
              rw [h]
              by_cases hgt : x.f6 > i + 1
              · rw [(two_lt (show i + 1 < x.f6 from hgt)).1]
                exact Ev.pos hgt (Ev.now _)
              · have he : x.f6 = i + 1 := by omega
                rw [he, two_eq]
                exact Ev.neg (by omega) (Ev.now _)
          · rw [if_neg h7]
            refine Ev.neg h7 (Ev.step (fun k => rfl) (Ev.neg h7 ?_))
            rw [h]; exact Ev.now _
  · have he : (fldB x.f0).toList = [] := by rw [toList_data, e7]; exact hk
    rw [if_pos (.inl hk)]
    exact Ev.pos he stop
theorem InsTells : palinglaw11_InsTells.Pure := by
  intro a0 a1 a2 a3 a4 a5 a6 i w0 w1 w2 w3 w4 w5 w6 wi
  refine Ev.rounds ?_
  refine Ev.congr (fun k => rfl) (Ev.bind awake_ev (Ev.tt ?_))
  have stop : Ev (fun k => palinglaw11_InsTells.j0 k i true a0 a1 a2 a3 a4 a5 a6) true := Ev.step (f := fun _ => some true) (fun k => rfl) (Ev.now true)
  by_cases h0 : i < 0
  · exact Ev.pos h0 stop
  refine Ev.neg h0 ?_
  by_cases h1 : i > 1099511627776
  · rw [show decide (i > 1099511627776) = true from decide_eq_true h1]; exact stop
  rw [show decide (i > 1099511627776) = false from decide_eq_false h1]
  have hw : wrap64 (i + 1) = i + 1 := wrap_in (by omega) (by omega)
  have hu := uses_spec (⟨a0, a1, a2, a3, a4, a5, a6⟩ : S23)
  have hue := uses_eq (⟨a0, a1, a2, a3, a4, a5, a6⟩ : S23)
  have hul := (usesL_spec (⟨a0, a1, a2, a3, a4, a5, a6⟩ : S23)).2.2
  have hd := def_spec (⟨a0, a1, a2, a3, a4, a5, a6⟩ : S23)
  have hde := def_eq (⟨a0, a1, a2, a3, a4, a5, a6⟩ : S23)
  have hn := nextref_spec (⟨a0, a1, a2, a3, a4, a5, a6⟩ : S23) i hw
  have hnf := nextV_f (⟨a0, a1, a2, a3, a4, a5, a6⟩ : S23) i hw
  have hnl := nextV_len (⟨a0, a1, a2, a3, a4, a5, a6⟩ : S23) i
  have s2 := wf64 w2; have s3 := wf64 w3; have s4 := wf64 w4; have s5 := wf64 w5; have s6 := wf64 w6
  refine Ev.step (f := fun k => (ins_Uses.f a0 a1 a2 a3 a4 a5 a6).bind fun t267 => ((palingref11_Uses.f k a0 a1 a2 a3 a4 a5 a6).bind fun t270 => ((palinglaw11_ints.f k t267 t270).bind fun t273 => (if t273 = true then ((ins_Def.f a0 a1 a2 a3 a4 a5 a6).bind fun t274 => ((palingref11_Def.f k a0 a1 a2 a3 a4 a5 a6).bind fun t275 => (if t274 = t275 then ((ins_Next.f a0 a1 a2 a3 a4 a5 a6 i).bind fun t276 => ((palingref11_Next.f k a0 a1 a2 a3 a4 a5 a6 i).bind fun t279 => ((palinglaw11_ints.f k t276 t279).bind fun t282 => (if t282 = true then ((ins_Show.f k a0 a1 a2 a3 a4 a5 a6).bind fun t283 => ((palingref11_Show.f a0 a1 a2 a3 a4 a5 a6).bind fun t284 => (some (t283.toList == t284.toList)))) else (some false))))) else (some false)))) else (some false))))) (fun k => rfl) ?_
  refine Ev.bind (g := fun _ => ins_Uses.f a0 a1 a2 a3 a4 a5 a6) (Ev.con (show ins_Uses.f a0 a1 a2 a3 a4 a5 a6 = some _ from congrArg some hue)) (Ev.bind (g := fun k => palingref11_Uses.f k a0 a1 a2 a3 a4 a5 a6) hu (Ev.bind (ints11_spec _ _ (by omega)) (Ev.pos (by simp) ?_)))
  refine Ev.bind (Ev.con (show ins_Def.f a0 a1 a2 a3 a4 a5 a6 = some _ from congrArg some hde)) (Ev.bind hd (Ev.pos rfl ?_))
  refine Ev.bind (Ev.con hnf) (Ev.bind hn (Ev.bind (ints11_spec _ _ (by omega)) (Ev.pos (by simp) ?_)))
  refine Ev.bind (Ev.of (k := 8) (ins_Show.mono _ _ _ _ _ _ _) (show_f a0 a1 a2 a3 a4 a5 a6 0 s2 s3 s4 s5 s6)) (Ev.bind (showref_spec a0 a1 a2 a3 a4 a5 a6 s2 s3 s4 s5 s6) ?_)
  exact Ev.con (by simp)
end Go.Proofs.YtggfikekggcclaaDoor.Pure
