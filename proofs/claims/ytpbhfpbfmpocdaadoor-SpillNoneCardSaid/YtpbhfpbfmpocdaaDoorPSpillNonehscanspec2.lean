import Derived.Test.YtpbhfpbfmpocdaaDoorPSpillNonex0
import Derived.Test.YtpbhfpbfmpocdaaDoorPSpillNonex6
import Derived.Test.YtpbhfpbfmpocdaaDoorPSpillNonex7
import Derived.Test.YtpbhfpbfmpocdaaDoorPSpillNonex10
import Derived.Test.YtpbhfpbfmpocdaaDoorPSpillNonex11
import Derived.Test.YtpbhfpbfmpocdaaDoorPSpillNonex12
import Derived.Test.YtpbhfpbfmpocdaaDoorPSpillNonehplain0
import Derived.Test.YtpbhfpbfmpocdaaDoorPSpillNonehregs15
import Derived.Test.YtpbhfpbfmpocdaaDoorPSpillNonehscanspec
import Derived.Test.YtpbhfpbfmpocdaaDoorPSpillNonehuses
namespace Go.Proofs.YtpbhfpbfmpocdaaDoor.PSpillNone
open Go.RowKit Go.Proofs.YtpbhfpbfmpocdaaDoorW.PrintWords Go.Proofs.YtpbhfpbfmpocdaaDoorW.PrintLast Go.Proofs.YtpbhfpbfmpocdaaDoorW.PrintMore
set_option linter.unusedVariables false
set_option linter.unusedSimpArgs false
/-! The document's places, on: Behind, Ranges, order, free, worst, Scan. -/
theorem behind_some (c : List S48) (hc : c.length ≤ 1000) : ∃ B : List (List Int), Ev (fun k => palingref15_Behind.f k c) B ∧ B.length = c.length ∧ ∀ j : Nat, (B.getD j []).length ≤ 4000 := by
  have hR := regsL_le c hc
  obtain ⟨A, hA, hAl, hAr, _⟩ := ahead_some c hc
  have main : ∀ i : Int, 0 ≤ i → i ≤ c.length → ∀ B : List (List Int), B.length = c.length → (∀ j : Nat, (B.getD j []).length ≤ 4000) → (∀ j : Nat, i.toNat ≤ j → B.getD j [] = []) → ∃ B' : List (List Int), Ev (fun k => palingref15_Behind.l0 k c B A (regsL c) i) B' ∧ B'.length = c.length ∧ ∀ j : Nat, (B'.getD j []).length ≤ 4000 := by
    refine up_ind ?_ ?_
    · intro B hB hl _
      exact ⟨B, Ev.step (fun k => rfl) (Ev.neg (by omega) (Ev.now _)), hB, hl⟩
    · intro i i0 i1 ih B hB hl he
      have hw : wrap64 (i + 1) = i + 1 := wrap_up i0 i1 (by omega)
      obtain ⟨js, hn, hjl, hjr⟩ := next14_some c i i0 i1
      have inner : ∀ m : Int, 0 ≤ m → m ≤ (regsL c).length → ∀ B : List (List Int), B.length = c.length → (∀ j : Nat, (B.getD j []).length ≤ 4000) → (B.getD i.toNat []).length ≤ m.toNat → (∀ j : Nat, i.toNat < j → B.getD j [] = []) → ∃ B' : List (List Int), Ev (fun k => palingref15_Behind.l1 k c B A (regsL c) i js m) B' ∧ B'.length = c.length ∧ ∀ j : Nat, (B'.getD j []).length ≤ 4000 := by
        refine up_ind ?_ ?_
        · intro B hB hl _ he
          obtain ⟨B', h, h2⟩ := ih B hB hl (fun j hj => he j (by omega))
          rw [← hw] at h
          exact ⟨B', Ev.step (fun k => rfl) (Ev.neg (by omega) h), h2⟩
        · intro m m0 m1 ihm B hB hl hrow he
          have hwm : wrap64 (m + 1) = m + 1 := wrap_up m0 m1 (by omega)
          have hiB : i.toNat < B.length := by omega
          have hg : ∀ j : Nat, (B.set i.toNat (B.getD i.toNat [] ++ [rd (regsL c) m])).getD j [] = if j = i.toNat then B.getD i.toNat [] ++ [rd (regsL c) m] else B.getD j [] := fun j => getD_set1 hiB
          have yes : ∃ B' : List (List Int), Ev (fun k => palingref15_Behind.l1 k c (B.set i.toNat (B.getD i.toNat [] ++ [rd (regsL c) m])) A (regsL c) i js (wrap64 (m + 1))) B' ∧ B'.length = c.length ∧ ∀ j : Nat, (B'.getD j []).length ≤ 4000 := by
            rw [hwm]
            exact ihm _ (by rw [List.length_set]; exact hB) (fun j => by
              rw [hg]
              split
              · rw [List.length_append, List.length_singleton]; omega
              · exact hl j) (by rw [hg, if_pos rfl, List.length_append, List.length_singleton]; omega) (fun j hj => by rw [hg, if_neg (by omega)]; exact he j hj)
          have no' : ∃ B' : List (List Int), Ev (fun k => palingref15_Behind.l1 k c B A (regsL c) i js (wrap64 (m + 1))) B' ∧ B'.length = c.length ∧ ∀ j : Nat, (B'.getD j []).length ≤ 4000 := by
            rw [hwm]
            exact ihm B hB hl (by omega) he
          have scan : ∀ t : Int, 0 ≤ t → t ≤ js.length → ∀ b : Bool, ∃ B' : List (List Int), Ev (fun k => palingref15_Behind.l2 k c B A (regsL c) i js m b t) B' ∧ B'.length = c.length ∧ ∀ j : Nat, (B'.getD j []).length ≤ 4000 := by
            refine up_ind ?_ ?_
            · intro b
              cases b with
              | true =>
                obtain ⟨B', h, h2⟩ := yes
                refine ⟨B', Ev.step (f := fun k => if 0 ≤ i then (if i < (B.length : Int) then (if 0 ≤ m then (if m < ((regsL c).length : Int) then (if (B.getD i.toNat []).length < 17592186044416 then palingref15_Behind.l1 k c (B.set i.toNat (B.getD i.toNat [] ++ [rd (regsL c) m])) A (regsL c) i js (wrap64 (m + 1)) else none) else none) else none) else none) else none) (fun k => ?_) (Ev.pos i0 (Ev.pos (by omega) (Ev.pos m0 (Ev.pos m1 (Ev.pos (by have := hl i.toNat; omega) h))))), h2⟩
                simp only [palingref15_Behind.l2]
                rw [if_neg (by omega)]
                rfl
              | false =>
                obtain ⟨B', h, h2⟩ := no'
                exact ⟨B', Ev.step (fun k => rfl) (Ev.neg (by omega) (Ev.ff h)), h2⟩
            · intro t t0 t1 iht b
              have hwt : wrap64 (t + 1) = t + 1 := wrap_up t0 t1 (by omega)
              rw [← hwt] at iht
              cases b with
              | true =>
                obtain ⟨B', h, h2⟩ := iht true
                exact ⟨B', Ev.step (fun k => rfl) (Ev.pos t1 (Ev.tt h)), h2⟩
              | false =>
                obtain ⟨j0, j1⟩ := hjr _ (rdI_mem js t t0 t1)
                have hh := has15_spec (A.getD (rd js t).toNat []) (rd (regsL c) m) (by have := hAr (rd js t).toNat; omega)
                obtain ⟨B', h, h2⟩ := iht ((A.getD (rd js t).toNat []).contains (rd (regsL c) m))
                exact ⟨B', Ev.step (f := fun k => if t < (js.length : Int) then (if false = true then palingref15_Behind.l2 k c B A (regsL c) i js m true (wrap64 (t + 1)) else (if 0 ≤ t then (if 0 ≤ rd js t then (if rd js t < (A.length : Int) then (if 0 ≤ m then (if m < ((regsL c).length : Int) then ((palingref15_has.f k (A.getD (rd js t).toNat []) (rd (regsL c) m)).bind fun t401 => palingref15_Behind.l2 k c B A (regsL c) i js m t401 (wrap64 (t + 1))) else none) else none) else none) else none) else none)) else (if false = true then (if 0 ≤ i then (if i < (B.length : Int) then (if 0 ≤ m then (if m < ((regsL c).length : Int) then (if (B.getD i.toNat []).length < 17592186044416 then palingref15_Behind.l1 k c (B.set i.toNat (B.getD i.toNat [] ++ [rd (regsL c) m])) A (regsL c) i js (wrap64 (m + 1)) else none) else none) else none) else none) else none) else palingref15_Behind.l1 k c B A (regsL c) i js (wrap64 (m + 1)))) (fun k => rfl) (Ev.pos t1 (Ev.ff (Ev.pos t0 (Ev.pos j0 (Ev.pos (by omega) (Ev.pos m0 (Ev.pos m1 (Ev.bind hh h)))))))), h2⟩
          obtain ⟨B', h, h2⟩ := scan 0 (by omega) (by omega) false
          exact ⟨B', Ev.step (fun k => rfl) (Ev.pos m1 h), h2⟩
      obtain ⟨B', h, h2⟩ := inner 0 (by omega) (by omega) B hB hl (by rw [he i.toNat (Nat.le_refl _)]; simp) (fun j hj => he j (by omega))
      exact ⟨B', Ev.step (fun k => rfl) (Ev.pos i1 (Ev.bind hn h)), h2⟩
  have hrep : ∀ j : Nat, (List.replicate c.length ([] : List Int)).getD j [] = [] := fun j => by
    rw [List.getD_eq_getElem?_getD, List.getElem?_replicate]
    split <;> rfl
  obtain ⟨B, hB, h2⟩ := main 0 (by omega) (by omega) (List.replicate c.length []) (by simp) (fun j => by rw [hrep]; simp) (fun j _ => hrep j)
  exact ⟨B, Ev.congr (f := fun k => if 0 ≤ (c.length : Int) then (if c.length ≤ 11728124029610 then ((palingref15_Ahead.f k c).bind fun t => (palingref15_Regs.f k c).bind fun t2 => palingref15_Behind.l0 k c (List.replicate c.length []) t t2 0) else none) else none) (fun k => rfl) (Ev.pos (by omega) (Ev.pos (by omega) (Ev.bind hA (Ev.bind (regs_spec c (by omega)) hB)))), h2⟩
theorem ranges_some (c : List S48) (hc : c.length ≤ 1000) : ∃ gs, Ev (fun k => palingref15_Ranges.f k c) gs ∧ gs.length ≤ 4000 ∧ ∀ r ∈ regsL c, ∃ g ∈ gs, g.f0 = r := by
  have hR := regsL_le c hc
  obtain ⟨A, hA, hAl, hAr, hAu⟩ := ahead_some c hc
  obtain ⟨B, hB, hBl, hBr⟩ := behind_some c hc
  have main : ∀ q : Int, 0 ≤ q → q ≤ (regsL c).length → ∀ acc : List S54, acc.length ≤ q.toNat → (∀ q' : Int, 0 ≤ q' → q' < q → ∃ g ∈ acc, g.f0 = rd (regsL c) q') → ∃ gs, Ev (fun k => palingref15_Ranges.l0 k c acc A B (regsL c) q) gs ∧ gs.length ≤ 4000 ∧ ∀ q' : Int, 0 ≤ q' → q' < ((regsL c).length : Int) → ∃ g ∈ gs, g.f0 = rd (regsL c) q' := by
    refine up_ind ?_ ?_
    · intro acc ha h
      exact ⟨acc, Ev.step (fun k => rfl) (Ev.neg (by omega) (Ev.now _)), by omega, h⟩
    · intro q q0 q1 ih acc ha h
      have hw : wrap64 (q + 1) = q + 1 := wrap_up q0 q1 (by omega)
      rw [← hw] at ih
      obtain ⟨x0, hx0, htouch⟩ := (regsL_spec c).2 (rd (regsL c) q) |>.1 (rdI_mem _ q q0 q1)
      have inner : ∀ i : Int, 0 ≤ i → i ≤ c.length → ∀ F La : Int, (∀ i' : Int, 0 ≤ i' → i' < i → (rd (regsL c) q ∈ usesL (rd_T48 c i') ∨ defL (rd_T48 c i') = rd (regsL c) q) → 0 ≤ F) → ∃ gs, Ev (fun k => palingref15_Ranges.l1 k c acc A B (regsL c) q i (rd (regsL c) q) F La) gs ∧ gs.length ≤ 4000 ∧ ∀ q' : Int, 0 ≤ q' → q' < ((regsL c).length : Int) → ∃ g ∈ gs, g.f0 = rd (regsL c) q' := by
        refine up_ind ?_ ?_
        · intro F La hF
          have hpos : 0 ≤ F := by
            obtain ⟨i, hi, he⟩ := List.mem_iff_getElem.1 hx0
            have hrd : rd_T48 c (i : Int) = x0 := by
              unfold rd_T48
              rw [Int.toNat_natCast, List.getD_eq_getElem?_getD, List.getElem?_eq_getElem hi]; exact he
            refine hF (i : Int) (by omega) (by omega) ?_
            rw [hrd]
            exact htouch.imp id (fun hh => hh.1.symm)
          obtain ⟨gs, hg, h2⟩ := ih (acc ++ [⟨rd (regsL c) q, F, La⟩]) (by rw [hw, List.length_append, List.length_singleton]; omega) (fun q' a b => by
            rw [hw] at b
            by_cases e : q' = q
            · exact ⟨⟨rd (regsL c) q, F, La⟩, by simp, by rw [e]⟩
            · obtain ⟨g, hg, he⟩ := h q' a (by omega)
              exact ⟨g, List.mem_append.2 (.inl hg), he⟩)
          exact ⟨gs, Ev.step (fun k => rfl) (Ev.neg (by omega) (Ev.pos hpos (Ev.pos (by omega) hg))), h2⟩
        · intro i i0 i1 ihi F La hF
          have hwi : wrap64 (i + 1) = i + 1 := wrap_up i0 i1 (by omega)
          rw [← hwi] at ihi
          have hd := def_spec (rd_T48 c i)
          have hhB := has15_spec (B.getD i.toNat []) (rd (regsL c) q) (by have := hBr i.toNat; omega)
          have J3 : ∀ b : Bool, ((rd (regsL c) q ∈ usesL (rd_T48 c i) ∨ defL (rd_T48 c i) = rd (regsL c) q) → b = true) → ∃ gs, Ev (fun k => palingref15_Ranges.j2 k c acc A B (regsL c) q i b (rd (regsL c) q) F La) gs ∧ gs.length ≤ 4000 ∧ ∀ q' : Int, 0 ≤ q' → q' < ((regsL c).length : Int) → ∃ g ∈ gs, g.f0 = rd (regsL c) q' := by
            intro b hb
            cases b with
            | true =>
              by_cases hF0 : F < 0
              · obtain ⟨gs, hg, h2⟩ := ihi i i (fun i' a b' _ => i0)
                refine ⟨gs, Ev.step (f := fun k => palingref15_Ranges.j3 k c acc A B (regsL c) q i true (decide (F < 0)) (rd (regsL c) q) F La) (fun k => rfl) ?_, h2⟩
                rw [decide_eq_true hF0]
                exact Ev.step (f := fun k => palingref15_Ranges.l1 k c acc A B (regsL c) q (wrap64 (i + 1)) (rd (regsL c) q) i i) (fun k => rfl) hg
              · obtain ⟨gs, hg, h2⟩ := ihi F i (fun i' a b' _ => by omega)
                refine ⟨gs, Ev.step (f := fun k => palingref15_Ranges.j3 k c acc A B (regsL c) q i true (decide (F < 0)) (rd (regsL c) q) F La) (fun k => rfl) ?_, h2⟩
                rw [decide_eq_false hF0]
                exact Ev.step (f := fun k => palingref15_Ranges.l1 k c acc A B (regsL c) q (wrap64 (i + 1)) (rd (regsL c) q) F i) (fun k => rfl) hg
            | false =>
              have hF' : ∀ i' : Int, 0 ≤ i' → i' < wrap64 (i + 1) → (rd (regsL c) q ∈ usesL (rd_T48 c i') ∨ defL (rd_T48 c i') = rd (regsL c) q) → 0 ≤ F := fun i' a b' ht => by
                rw [hwi] at b'
                by_cases e : i' = i
                · subst e; exact absurd (hb ht) (by simp)
                · exact hF i' a (by omega) ht
              have J3' : ∀ gs, Ev (fun k => if F ≥ 0 then (if 0 ≤ i then (if i < (B.length : Int) then ((palingref15_has.f k (B.getD i.toNat []) (rd (regsL c) q)).bind fun t => (if t = true then palingref15_Ranges.l1 k c acc A B (regsL c) q (wrap64 (i + 1)) (rd (regsL c) q) F i else palingref15_Ranges.l1 k c acc A B (regsL c) q (wrap64 (i + 1)) (rd (regsL c) q) F La)) else none) else none) else palingref15_Ranges.l1 k c acc A B (regsL c) q (wrap64 (i + 1)) (rd (regsL c) q) F La) gs → Ev (fun k => palingref15_Ranges.j2 k c acc A B (regsL c) q i false (rd (regsL c) q) F La) gs := fun gs h =>
                Ev.step (f := fun k => palingref15_Ranges.j3 k c acc A B (regsL c) q i false false (rd (regsL c) q) F La) (fun k => rfl) (Ev.step (f := fun k => if F ≥ 0 then (if 0 ≤ i then (if i < (B.length : Int) then ((palingref15_has.f k (B.getD i.toNat []) (rd (regsL c) q)).bind fun t => (if t = true then palingref15_Ranges.l1 k c acc A B (regsL c) q (wrap64 (i + 1)) (rd (regsL c) q) F i else palingref15_Ranges.l1 k c acc A B (regsL c) q (wrap64 (i + 1)) (rd (regsL c) q) F La)) else none) else none) else palingref15_Ranges.l1 k c acc A B (regsL c) q (wrap64 (i + 1)) (rd (regsL c) q) F La) (fun k => rfl) h)
              by_cases hF0 : F ≥ 0
              · by_cases hBc : (B.getD i.toNat []).contains (rd (regsL c) q) = true
                · rw [hBc] at hhB
                  obtain ⟨gs, hg, h2⟩ := ihi F i hF'
                  exact ⟨gs, J3' gs (Ev.pos hF0 (Ev.pos i0 (Ev.pos (by omega) (Ev.bind hhB (Ev.tt hg))))), h2⟩
                · rw [show (B.getD i.toNat []).contains (rd (regsL c) q) = false by simpa using hBc] at hhB
                  obtain ⟨gs, hg, h2⟩ := ihi F La hF'
                  exact ⟨gs, J3' gs (Ev.pos hF0 (Ev.pos i0 (Ev.pos (by omega) (Ev.bind hhB (Ev.ff hg))))), h2⟩
              · obtain ⟨gs, hg, h2⟩ := ihi F La hF'
                exact ⟨gs, J3' gs (Ev.neg hF0 hg), h2⟩
          by_cases hde : defL (rd_T48 c i) = rd (regsL c) q
          · obtain ⟨gs, hg, h2⟩ := J3 true (fun _ => rfl)
            exact ⟨gs, Ev.step (fun k => rfl) (Ev.pos i1 (Ev.pos i0 (Ev.bind hd (Ev.pos hde hg)))), h2⟩
          · have hhA := has15_spec (A.getD i.toNat []) (rd (regsL c) q) (by have := hAr i.toNat; omega)
            obtain ⟨gs, hg, h2⟩ := J3 ((A.getD i.toNat []).contains (rd (regsL c) q)) (fun ht => by
              rcases ht with ht | ht
              · exact List.contains_iff_mem.2 (hAu i i0 i1 _ ht (rdI_mem _ q q0 q1))
              · exact absurd ht hde)
            refine ⟨gs, Ev.step (f := fun k => if i < (c.length : Int) then (if 0 ≤ i then ((palingref11_Def.f k (rd_T48 c i).f0 (rd_T48 c i).f1 (rd_T48 c i).f2 (rd_T48 c i).f3 (rd_T48 c i).f4 (rd_T48 c i).f5 (rd_T48 c i).f6).bind fun t => (if t = rd (regsL c) q then palingref15_Ranges.j2 k c acc A B (regsL c) q i true (rd (regsL c) q) F La else (if i < (A.length : Int) then ((palingref15_has.f k (A.getD i.toNat []) (rd (regsL c) q)).bind fun t2 => palingref15_Ranges.j2 k c acc A B (regsL c) q i t2 (rd (regsL c) q) F La) else none))) else none) else none) (fun k => ?_) (Ev.pos i1 (Ev.pos i0 (Ev.bind hd (Ev.neg hde (Ev.pos (by omega) (Ev.bind hhA hg)))))), h2⟩
            simp only [palingref15_Ranges.l1]
            rw [if_pos i1, if_pos i1]
            rfl
      obtain ⟨gs, hg, h2⟩ := inner 0 (by omega) (by omega) (-1) (-1) (fun i' a b => by omega)
      exact ⟨gs, Ev.step (fun k => rfl) (Ev.pos q1 (Ev.pos q0 hg)), h2⟩
  obtain ⟨gs, hg, hl, h2⟩ := main 0 (by omega) (by omega) [] (by simp) (fun q' a b => by omega)
  refine ⟨gs, Ev.congr (fun k => rfl) (Ev.bind hA (Ev.bind hB (Ev.bind (regs_spec c (by omega)) hg))), hl, fun r hr => ?_⟩
  obtain ⟨q, ⟨a, b⟩, rfl⟩ := mem_rd hr
  exact h2 q a b
end Go.Proofs.YtpbhfpbfmpocdaaDoor.PSpillNone
