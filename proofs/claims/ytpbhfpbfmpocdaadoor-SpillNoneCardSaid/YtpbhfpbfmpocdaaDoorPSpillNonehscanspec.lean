import Derived.Test.YtpbhfpbfmpocdaaDoorPSpillNonex0
import Derived.Test.YtpbhfpbfmpocdaaDoorPSpillNonex7
import Derived.Test.YtpbhfpbfmpocdaaDoorPSpillNonex8
import Derived.Test.YtpbhfpbfmpocdaaDoorPSpillNonex9
import Derived.Test.YtpbhfpbfmpocdaaDoorPSpillNonex10
import Derived.Test.YtpbhfpbfmpocdaaDoorPSpillNonehplain0
import Derived.Test.YtpbhfpbfmpocdaaDoorPSpillNonehref11
import Derived.Test.YtpbhfpbfmpocdaaDoorPSpillNonehregs15
import Derived.Test.YtpbhfpbfmpocdaaDoorPSpillNonehuses
namespace Go.Proofs.YtpbhfpbfmpocdaaDoor.PSpillNone
open Go.RowKit Go.Proofs.YtpbhfpbfmpocdaaDoorW.PrintWords Go.Proofs.YtpbhfpbfmpocdaaDoorW.PrintLast Go.Proofs.YtpbhfpbfmpocdaaDoorW.PrintMore
set_option linter.unusedVariables false
set_option linter.unusedSimpArgs false
/-! The document's places in plain words: Scan ends, and each register that is read or written has its place. -/
theorem has15_spec (L : List Int) (x : Int) (hL : L.length ≤ 1000000) : Ev (fun k => palingref15_has.f k L x) (L.contains x) := by
  have key : ∀ i : Int, 0 ≤ i → i ≤ L.length → Ev (fun k => palingref15_has.l0 k L x i) ((L.drop i.toNat).contains x) := by
    refine up_ind ?_ ?_
    · rw [List.drop_eq_nil_of_le (by omega)]
      exact Ev.step (fun k => rfl) (Ev.neg (by omega) (Ev.con (by simp)))
    · intro i i0 i1 ih
      have hw : wrap64 (i + 1) = i + 1 := wrap_up i0 i1 (by omega)
      rw [getD_drop L 0 i.toNat (by omega), show L.getD i.toNat 0 = rd L i from rfl, show i.toNat + 1 = (i + 1).toNat by omega, List.contains_cons]
      refine Ev.step (fun k => rfl) (Ev.pos i1 (Ev.pos i0 ?_))
      by_cases h : rd L i = x
      · refine Ev.pos h (Ev.con ?_)
        rw [h]; simp
      · refine Ev.neg h ?_
        rw [hw, show (x == rd L i) = false from beq_eq_false_iff_ne.2 (fun e => h e.symm), Bool.false_or]
        exact ih
  simpa [palingref15_has.f] using key 0 (by omega) (by omega)
theorem next11_some (x : S48) (i : Int) : ∃ js, Ev (fun k => palingref11_Next.f k x.f0 x.f1 x.f2 x.f3 x.f4 x.f5 x.f6 i) js ∧ js.length ≤ 2 := by
  have J1 : ∀ b : Bool, ∃ js, Ev (fun k => palingref11_Next.j1 k i b x.f0 x.f1 x.f2 x.f3 x.f4 x.f5 x.f6) js ∧ js.length ≤ 2 := by
    intro b
    cases b with
    | true => exact ⟨_, Ev.step (f := fun _ => some [x.f6, wrap64 (i + 1)]) (fun k => rfl) (Ev.now _), by simp⟩
    | false =>
      by_cases h7 : x.f0 = 7
      · by_cases h : x.f6 > wrap64 (i + 1)
        · exact ⟨_, Ev.step (fun k => rfl) (Ev.pos h7 (Ev.pos h (Ev.now _))), by simp⟩
        · exact ⟨_, Ev.step (fun k => rfl) (Ev.pos h7 (Ev.neg h (Ev.now _))), by simp⟩
      · exact ⟨_, Ev.step (fun k => rfl) (Ev.neg h7 (Ev.now _)), by simp⟩
  have J0 : ∀ b : Bool, ∃ js, Ev (fun k => palingref11_Next.j0 k i b x.f0 x.f1 x.f2 x.f3 x.f4 x.f5 x.f6) js ∧ js.length ≤ 2 := by
    intro b
    cases b with
    | true => exact ⟨_, Ev.step (f := fun _ => some []) (fun k => rfl) (Ev.now _), by simp⟩
    | false =>
      by_cases h6 : x.f0 = 6
      · exact ⟨_, Ev.step (fun k => rfl) (Ev.pos h6 (Ev.now _)), by simp⟩
      · by_cases h7 : x.f0 = 7
        · obtain ⟨js, h, hl⟩ := J1 (decide (x.f6 < wrap64 (i + 1)))
          exact ⟨js, Ev.step (fun k => rfl) (Ev.neg h6 (Ev.pos h7 h)), hl⟩
        · obtain ⟨js, h, hl⟩ := J1 false
          exact ⟨js, Ev.step (fun k => rfl) (Ev.neg h6 (Ev.neg h7 h)), hl⟩
  by_cases c : (fldB x.f0).toList = []
  · obtain ⟨js, h, hl⟩ := J0 true
    exact ⟨js, Ev.congr (fun k => rfl) (Ev.bind (Ev.con (fields_spec x.f0)) (Ev.pos c h)), hl⟩
  · by_cases c2 : x.f0 = 12
    · obtain ⟨js, h, hl⟩ := J0 true
      exact ⟨js, Ev.congr (fun k => rfl) (Ev.bind (Ev.con (fields_spec x.f0)) (Ev.neg c (Ev.pos c2 h))), hl⟩
    · obtain ⟨js, h, hl⟩ := J0 (x.f0 == 13)
      exact ⟨js, Ev.congr (fun k => rfl) (Ev.bind (Ev.con (fields_spec x.f0)) (Ev.neg c (Ev.neg c2 h))), hl⟩
theorem next14_some (c : List S48) (i : Int) (i0 : 0 ≤ i) (i1 : i < (c.length : Int)) : ∃ js, Ev (fun k => palingref14_Next.f k c i) js ∧ js.length ≤ 2 ∧ ∀ j ∈ js, 0 ≤ j ∧ j < (c.length : Int) := by
  obtain ⟨t, ht, htl⟩ := next11_some (rd_T48 c i) i
  have key : ∀ m : Int, 0 ≤ m → m ≤ t.length → ∀ acc : List Int, acc.length ≤ m.toNat → (∀ j ∈ acc, 0 ≤ j ∧ j < (c.length : Int)) → ∃ js, Ev (fun k => palingref14_Next.l0 k c t acc m) js ∧ js.length ≤ 2 ∧ ∀ j ∈ js, 0 ≤ j ∧ j < (c.length : Int) := by
    refine up_ind ?_ ?_
    · intro acc ha hj
      exact ⟨acc, Ev.step (fun k => rfl) (Ev.neg (by omega) (Ev.now _)), by omega, hj⟩
    · intro m m0 m1 ih acc ha hj
      have hw : wrap64 (m + 1) = m + 1 := wrap_up m0 m1 (by omega)
      rw [← hw] at ih
      by_cases a : rd t m ≥ 0
      · by_cases b : rd t m < (c.length : Int)
        · obtain ⟨js, h, h2⟩ := ih (acc ++ [rd t m]) (by rw [hw, List.length_append, List.length_singleton]; omega) (fun j hj' => by
            rcases List.mem_append.1 hj' with h | h
            · exact hj j h
            · rw [List.mem_singleton.1 h]; exact ⟨a, b⟩)
          exact ⟨js, Ev.step (fun k => rfl) (Ev.pos m1 (Ev.pos m0 (Ev.pos a (Ev.pos b (Ev.pos (by omega) h))))), h2⟩
        · obtain ⟨js, h, h2⟩ := ih acc (by rw [hw]; omega) hj
          exact ⟨js, Ev.step (fun k => rfl) (Ev.pos m1 (Ev.pos m0 (Ev.pos a (Ev.neg b h)))), h2⟩
      · obtain ⟨js, h, h2⟩ := ih acc (by rw [hw]; omega) hj
        exact ⟨js, Ev.step (fun k => rfl) (Ev.pos m1 (Ev.pos m0 (Ev.neg a h))), h2⟩
  obtain ⟨js, h, h2⟩ := key 0 (by omega) (by omega) [] (by simp) (by simp)
  exact ⟨js, Ev.congr (fun k => rfl) (Ev.pos i0 (Ev.pos i1 (Ev.bind ht h))), h2⟩
theorem rd_setb {s : List Bool} {j i : Int} (hj : 0 ≤ j) (hl : j < (s.length : Int)) (hi : 0 ≤ i) : rdOf false (s.set j.toNat true) i = if i = j then true else rdOf false s i := by
  unfold rdOf
  rw [List.getD_eq_getElem?_getD, List.getElem?_set, List.getD_eq_getElem?_getD]
  by_cases e : i = j
  · subst e; rw [if_pos rfl, if_pos rfl, if_pos (by omega)]; rfl
  · rw [if_neg (by omega), if_neg e]
structure NI (n : Nat) (s : List Bool) (L : List Int) : Prop where
  len : s.length = n
  nd : L.Nodup
  rng : ∀ j ∈ L, (0 ≤ j ∧ j < (n : Int)) ∧ rdOf false s j = true
theorem NI.le {n : Nat} {s : List Bool} {L : List Int} (h : NI n s L) : L.length ≤ n := by
  have := nodup_len (T := (List.range n).map fun (t : Nat) => (t : Int)) h.nd (fun j hj => by
    have := (h.rng j hj).1
    exact List.mem_map.2 ⟨j.toNat, List.mem_range.2 (by omega), by omega⟩)
  simpa using this
theorem NI.push {n : Nat} {s : List Bool} {L : List Int} (h : NI n s L) {j : Int} (j0 : 0 ≤ j) (j1 : j < (n : Int)) (hj : ¬ rdOf false s j = true) : NI n (s.set j.toNat true) (L ++ [j]) := by
  refine ⟨by rw [List.length_set]; exact h.len, ?_, fun x hx => ?_⟩
  · rw [List.nodup_append]
    refine ⟨h.nd, by simp, fun a ha b hb => ?_⟩
    rw [List.mem_singleton.1 hb]
    rintro rfl
    exact hj (h.rng a ha).2
  · rcases List.mem_append.1 hx with hx | hx
    · have := h.rng x hx
      refine ⟨this.1, ?_⟩
      rw [rd_setb j0 (by rw [h.len]; exact j1) this.1.1]
      split
      · rfl
      · exact this.2
    · rw [List.mem_singleton.1 hx]
      exact ⟨⟨j0, j1⟩, by rw [rd_setb j0 (by rw [h.len]; exact j1) j0, if_pos rfl]⟩
theorem needed_some (c : List S48) (hc : c.length ≤ 1000) (r at' : Int) (a0 : 0 ≤ at') (a1 : at' < (c.length : Int)) : ∃ b, Ev (fun k => palingref15_Needed.f k c r at') b ∧ (r ∈ usesL (rd_T48 c at') → b = true) := by
  have main : ∀ (d : Nat) (i : Int) (s : List Bool) (L : List Int), NI c.length s L → 0 ≤ i → i ≤ (L.length : Int) → (c.length : Int) < i + d → ∃ b, Ev (fun k => palingref15_Needed.l0 k c r s L i) b ∧ (i < (L.length : Int) → r ∈ usesL (rd_T48 c (rd L i)) → b = true) := by
    intro d
    induction d with
    | zero => intro i s L h i0 i1 hd; have := h.le; omega
    | succ d ih =>
      intro i s L h i0 i1 hd
      have hle := h.le
      by_cases hlt : i < (L.length : Int)
      · have hmem : rd L i ∈ L := by
          unfold rd
          rw [List.getD_eq_getElem?_getD, List.getElem?_eq_getElem (by omega)]; exact List.getElem_mem _
        obtain ⟨⟨r0, r1⟩, _⟩ := h.rng _ hmem
        have hw : wrap64 (i + 1) = i + 1 := wrap_up i0 hlt (by omega)
        have hu := uses_spec (rd_T48 c (rd L i))
        have hul := (usesL_spec (rd_T48 c (rd L i))).2.2
        have hh := has15_spec (usesL (rd_T48 c (rd L i))) r (by omega)
        by_cases hc1 : (usesL (rd_T48 c (rd L i))).contains r = true
        · rw [hc1] at hh
          exact ⟨true, Ev.step (fun k => rfl) (Ev.pos hlt (Ev.pos i0 (Ev.pos r0 (Ev.pos r1 (Ev.bind hu (Ev.bind hh (Ev.tt (Ev.now _)))))))), fun _ _ => rfl⟩
        · rw [show (usesL (rd_T48 c (rd L i))).contains r = false by simpa using hc1] at hh
          have hnu : r ∉ usesL (rd_T48 c (rd L i)) := fun hm => hc1 (List.contains_iff_mem.2 hm)
          have hd' := def_spec (rd_T48 c (rd L i))
          by_cases hde : defL (rd_T48 c (rd L i)) = r
          · obtain ⟨b, hb, _⟩ := ih (i + 1) s L h (by omega) (by omega) (by omega)
            rw [← hw] at hb
            exact ⟨b, Ev.step (fun k => rfl) (Ev.pos hlt (Ev.pos i0 (Ev.pos r0 (Ev.pos r1 (Ev.bind hu (Ev.bind hh (Ev.ff (Ev.bind hd' (Ev.pos hde hb))))))))), fun _ hm => absurd hm hnu⟩
          · obtain ⟨js, hn, hjl, hjr⟩ := next14_some c (rd L i) r0 r1
            have inner : ∀ m : Int, 0 ≤ m → m ≤ js.length → ∀ (s : List Bool) (L : List Int), NI c.length s L → i + 1 ≤ (L.length : Int) → ∃ b, Ev (fun k => palingref15_Needed.l1 k c r s L i js m) b := by
              refine up_ind ?_ ?_
              · intro s L h hi
                obtain ⟨b, hb, _⟩ := ih (i + 1) s L h (by omega) hi (by omega)
                rw [← hw] at hb
                exact ⟨b, Ev.step (fun k => rfl) (Ev.neg (by omega) hb)⟩
              · intro m m0 m1 ihm s L h hi
                have hwm : wrap64 (m + 1) = m + 1 := wrap_up m0 m1 (by omega)
                rw [← hwm] at ihm
                have hjm : rd js m ∈ js := by
                  unfold rd
                  rw [List.getD_eq_getElem?_getD, List.getElem?_eq_getElem (by omega)]; exact List.getElem_mem _
                obtain ⟨j0, j1⟩ := hjr _ hjm
                have hle := h.le
                by_cases hs : rdOf false s (rd js m) = true
                · obtain ⟨b, hb⟩ := ihm s L h hi
                  exact ⟨b, Ev.step (fun k => rfl) (Ev.pos m1 (Ev.pos m0 (Ev.pos j0 (Ev.pos (by rw [h.len]; exact j1) (Ev.pos hs hb)))))⟩
                · obtain ⟨b, hb⟩ := ihm _ _ (h.push j0 j1 hs) (by rw [List.length_append]; omega)
                  exact ⟨b, Ev.step (fun k => rfl) (Ev.pos m1 (Ev.pos m0 (Ev.pos j0 (Ev.pos (by rw [h.len]; exact j1) (Ev.neg hs (Ev.pos (by omega) hb))))))⟩
            obtain ⟨b, hb⟩ := inner 0 (by omega) (by omega) s L h (by omega)
            exact ⟨b, Ev.step (fun k => rfl) (Ev.pos hlt (Ev.pos i0 (Ev.pos r0 (Ev.pos r1 (Ev.bind hu (Ev.bind hh (Ev.ff (Ev.bind hd' (Ev.neg hde (Ev.bind hn hb)))))))))), fun _ hm => absurd hm hnu⟩
      · exact ⟨false, Ev.step (fun k => rfl) (Ev.neg hlt (Ev.now _)), fun h' => absurd h' hlt⟩
  have h0 : NI c.length ((List.replicate c.length false).set at'.toNat true) [at'] := by
    refine ⟨by simp, by simp, fun j hj => ?_⟩
    rw [List.mem_singleton.1 hj]
    exact ⟨⟨a0, a1⟩, by rw [rd_setb a0 (by simpa using a1) a0, if_pos rfl]⟩
  obtain ⟨b, hb, hb2⟩ := main (c.length + 1) 0 _ _ h0 (by omega) (by simp) (by omega)
  refine ⟨b, Ev.congr (f := fun k => if 0 ≤ (c.length : Int) then (if c.length ≤ 281474976710656 then (if 0 ≤ at' then (if at' < ((List.replicate c.length false).length : Int) then palingref15_Needed.l0 k c r ((List.replicate c.length false).set at'.toNat true) [at'] 0 else none) else none) else none) else none) (fun k => rfl) (Ev.pos (by omega) (Ev.pos (by omega) (Ev.pos a0 (Ev.pos (by rw [List.length_replicate]; exact a1) hb)))), fun hm => hb2 (by simp) hm⟩
theorem getD_set1 {α : Type} {A : List α} {x z : α} {j i : Nat} (h : j < A.length) : (A.set j x).getD i z = if i = j then x else A.getD i z := by
  rw [List.getD_eq_getElem?_getD, List.getElem?_set, List.getD_eq_getElem?_getD]
  by_cases e : i = j
  · subst e; rw [if_pos rfl, if_pos rfl, if_pos h]; rfl
  · rw [if_neg (fun h => e h.symm), if_neg e]
theorem regsL_le (c : List S48) (hc : c.length ≤ 1000) : (regsL c).length ≤ 4000 := by
  have key : ∀ (c : List S48) (out : List Int), out.Pairwise (· < ·) → (c.foldl (fun out x => (touchL x).foldl insL out) out).length ≤ out.length + 4 * c.length := by
    intro c
    induction c with
    | nil => intro out _; simp
    | cons x c ih =>
      intro out hp
      obtain ⟨h1, _, h3⟩ := foldIns (touchL x) out hp
      have h4 := touchL_len x
      have := ih _ h1
      rw [List.foldl_cons, List.length_cons]
      omega
  have := key c [] List.Pairwise.nil
  unfold regsL
  rw [List.length_nil] at this
  omega
theorem rdI_mem (L : List Int) (i : Int) (i0 : 0 ≤ i) (i1 : i < (L.length : Int)) : rd L i ∈ L := by
  unfold rd
  rw [List.getD_eq_getElem?_getD, List.getElem?_eq_getElem (by omega)]; exact List.getElem_mem _
theorem mem_rd {L : List Int} {x : Int} (h : x ∈ L) : ∃ i : Int, (0 ≤ i ∧ i < (L.length : Int)) ∧ rd L i = x := by
  obtain ⟨i, hi, he⟩ := List.mem_iff_getElem.1 h
  refine ⟨(i : Int), ⟨by omega, by omega⟩, ?_⟩
  unfold rd
  rw [Int.toNat_natCast, List.getD_eq_getElem?_getD, List.getElem?_eq_getElem hi]; exact he
theorem ahead_some (c : List S48) (hc : c.length ≤ 1000) : ∃ A : List (List Int), Ev (fun k => palingref15_Ahead.f k c) A ∧ A.length = c.length ∧ (∀ j : Nat, (A.getD j []).length ≤ 4000) ∧ ∀ i : Int, 0 ≤ i → i < (c.length : Int) → ∀ r ∈ usesL (rd_T48 c i), r ∈ regsL c → r ∈ A.getD i.toNat [] := by
  have hR := regsL_le c hc
  have main : ∀ i : Int, 0 ≤ i → i ≤ c.length → ∀ A : List (List Int), A.length = c.length → (∀ j : Nat, (A.getD j []).length ≤ 4000) → (∀ j : Nat, i.toNat ≤ j → A.getD j [] = []) → (∀ i' : Int, 0 ≤ i' → i' < i → ∀ r ∈ usesL (rd_T48 c i'), r ∈ regsL c → r ∈ A.getD i'.toNat []) →
      ∃ B : List (List Int), Ev (fun k => palingref15_Ahead.l0 k c A (regsL c) i) B ∧ B.length = c.length ∧ (∀ j : Nat, (B.getD j []).length ≤ 4000) ∧ ∀ i : Int, 0 ≤ i → i < (c.length : Int) → ∀ r ∈ usesL (rd_T48 c i), r ∈ regsL c → r ∈ B.getD i.toNat [] := by
    refine up_ind ?_ ?_
    · intro A hA hl _ h
      exact ⟨A, Ev.step (fun k => rfl) (Ev.neg (by omega) (Ev.now _)), hA, hl, h⟩
    · intro i i0 i1 ih A hA hl he h
      have hw : wrap64 (i + 1) = i + 1 := wrap_up i0 i1 (by omega)
      have inner : ∀ m : Int, 0 ≤ m → m ≤ (regsL c).length → ∀ A : List (List Int), A.length = c.length → (∀ j : Nat, (A.getD j []).length ≤ 4000) → (A.getD i.toNat []).length ≤ m.toNat → (∀ j : Nat, i.toNat < j → A.getD j [] = []) → (∀ i' : Int, 0 ≤ i' → i' < i → ∀ r ∈ usesL (rd_T48 c i'), r ∈ regsL c → r ∈ A.getD i'.toNat []) → (∀ m' : Int, 0 ≤ m' → m' < m → rd (regsL c) m' ∈ usesL (rd_T48 c i) → rd (regsL c) m' ∈ A.getD i.toNat []) →
          ∃ B : List (List Int), Ev (fun k => palingref15_Ahead.l1 k c A (regsL c) i m) B ∧ B.length = c.length ∧ (∀ j : Nat, (B.getD j []).length ≤ 4000) ∧ ∀ i : Int, 0 ≤ i → i < (c.length : Int) → ∀ r ∈ usesL (rd_T48 c i), r ∈ regsL c → r ∈ B.getD i.toNat [] := by
        refine up_ind ?_ ?_
        · intro A hA hl _ he h hm
          obtain ⟨B, hB, h2⟩ := ih A hA hl (fun j hj => he j (by omega)) (fun i' a b r hr hr2 => by
            by_cases e : i' = i
            · subst e
              obtain ⟨m', ⟨b0, b1⟩, rfl⟩ := mem_rd hr2
              exact hm m' b0 b1 hr
            · exact h i' a (by omega) r hr hr2)
          rw [← hw] at hB
          exact ⟨B, Ev.step (fun k => rfl) (Ev.neg (by omega) hB), h2⟩
        · intro m m0 m1 ihm A hA hl hrow he h hm
          have hwm : wrap64 (m + 1) = m + 1 := wrap_up m0 m1 (by omega)
          obtain ⟨b, hb, hb2⟩ := needed_some c hc (rd (regsL c) m) i i0 i1
          have hiA : i.toNat < A.length := by omega
          by_cases hbt : b = true
          · subst hbt
            have hg : ∀ j : Nat, (A.set i.toNat (A.getD i.toNat [] ++ [rd (regsL c) m])).getD j [] = if j = i.toNat then A.getD i.toNat [] ++ [rd (regsL c) m] else A.getD j [] := fun j => getD_set1 hiA
            obtain ⟨B, hB, h2⟩ := ihm (A.set i.toNat (A.getD i.toNat [] ++ [rd (regsL c) m])) (by rw [List.length_set]; exact hA) (fun j => by
                rw [hg]
                split
                · rw [List.length_append, List.length_singleton]; omega
                · exact hl j) (by rw [hg, if_pos rfl, List.length_append, List.length_singleton]; omega) (fun j hj => by rw [hg, if_neg (by omega)]; exact he j hj) (fun i' a b r hr hr2 => by rw [hg, if_neg (by omega)]; exact h i' a b r hr hr2) (fun m' a b hr => by
                rw [hg, if_pos rfl, List.mem_append]
                by_cases e : m' = m
                · subst e; exact .inr (by simp)
                · exact .inl (hm m' a (by omega) hr))
            rw [← hwm] at hB
            exact ⟨B, Ev.step (f := fun k => if m < ((regsL c).length : Int) then (if 0 ≤ m then ((palingref15_Needed.f k c (rd (regsL c) m) i).bind fun t => (if t = true then (if 0 ≤ i then (if i < (A.length : Int) then (if (A.getD i.toNat []).length < 17592186044416 then palingref15_Ahead.l1 k c (A.set i.toNat (A.getD i.toNat [] ++ [rd (regsL c) m])) (regsL c) i (wrap64 (m + 1)) else none) else none) else none) else palingref15_Ahead.l1 k c A (regsL c) i (wrap64 (m + 1)))) else none) else palingref15_Ahead.l0 k c A (regsL c) (wrap64 (i + 1))) (fun k => rfl) (Ev.pos m1 (Ev.pos m0 (Ev.bind hb (Ev.tt (Ev.pos i0 (Ev.pos (by omega) (Ev.pos (by have := hl i.toNat; omega) hB))))))), h2⟩
          · have hbf : b = false := by simpa using hbt
            subst hbf
            obtain ⟨B, hB, h2⟩ := ihm A hA hl (by omega) he h (fun m' a b hr => by
              by_cases e : m' = m
              · subst e; exact absurd (hb2 hr) (by simp)
              · exact hm m' a (by omega) hr)
            rw [← hwm] at hB
            exact ⟨B, Ev.step (fun k => rfl) (Ev.pos m1 (Ev.pos m0 (Ev.bind hb (Ev.ff hB)))), h2⟩
      obtain ⟨B, hB, h2⟩ := inner 0 (by omega) (by omega) A hA hl (by rw [he i.toNat (Nat.le_refl _)]; simp) (fun j hj => he j (by omega)) h (fun m' a b => by omega)
      exact ⟨B, Ev.step (fun k => rfl) (Ev.pos i1 hB), h2⟩
  have hrep : ∀ j : Nat, (List.replicate c.length ([] : List Int)).getD j [] = [] := fun j => by
    rw [List.getD_eq_getElem?_getD, List.getElem?_replicate]
    split <;> rfl
  obtain ⟨B, hB, h2⟩ := main 0 (by omega) (by omega) (List.replicate c.length []) (by simp) (fun j => by rw [hrep]; simp) (fun j _ => hrep j) (fun i' a b => by omega)
  refine ⟨B, Ev.congr (f := fun k => if 0 ≤ (c.length : Int) then (if c.length ≤ 11728124029610 then ((palingref15_Regs.f k c).bind fun t => palingref15_Ahead.l0 k c (List.replicate c.length []) t 0) else none) else none) (fun k => rfl) (Ev.pos (by omega) (Ev.pos (by omega) (Ev.bind (regs_spec c (by omega)) hB))), h2⟩
end Go.Proofs.YtpbhfpbfmpocdaaDoor.PSpillNone
