/- Where nothing is spilled registers alone have other names, and a code is as long; else what is put besides is Loads and Stores of slots alone. -/
import Derived.Test.YtpbhfpbfmpocdaaDoorStmSpillNone
import Derived.Test.YtpbhfpbfmpocdaaDoorPSpillNonex16
import Derived.Test.YtpbhfpbfmpocdaaDoorPSpillNonehawake22
import Derived.Test.YtpbhfpbfmpocdaaDoorPSpillNonehcheck
import Derived.Test.YtpbhfpbfmpocdaaDoorPSpillNonehcodefacts
import Derived.Test.YtpbhfpbfmpocdaaDoorPSpillNonehplain0
import Derived.Test.YtpbhfpbfmpocdaaDoorPSpillNonehputspec
import Derived.Test.YtpbhfpbfmpocdaaDoorPSpillNonehrefspill
import Derived.Test.YtpbhfpbfmpocdaaDoorPSpillNonehscanspec3
import Derived.Test.YtpbhfpbfmpocdaaDoorPSpillNonehspillcode
import Derived.Test.YtpbhfpbfmpocdaaDoorPSpillNonehplaces
import Derived.Test.YtpbhfpbfmpocdaaDoorPSpillNonehspillpure
import Derived.Test.YtpbhfpbfmpocdaaDoorPSpillNonehuses
namespace Go.Proofs.YtpbhfpbfmpocdaaDoor.Pure
open Go.RowKit Go.Proofs.YtpbhfpbfmpocdaaDoor.PSpillNone Go.Proofs.YtpbhfpbfmpocdaaDoorW.PrintWords Go.Proofs.YtpbhfpbfmpocdaaDoorW.PrintLast Go.Proofs.YtpbhfpbfmpocdaaDoorW.PrintMore
set_option linter.unusedVariables false
set_option linter.unusedSimpArgs false
theorem rdI48_drop (l : List S48) (i : Int) (h0 : 0 ≤ i) (h : i < l.length) : l.drop i.toNat = rd_T48 l i :: l.drop (i + 1).toNat := by
  have := getD_drop l z48 i.toNat (by omega)
  rw [this, show (i + 1).toNat = i.toNat + 1 by omega]
  rfl
def slotB (a b : Int) (x : S48) : Bool := (x.f0 == 4 || x.f0 == 5) && (x.f3 == -1 && (decide (40000 ≤ x.f5) && decide (x.f5 < 40000 + a) || decide (50000 ≤ x.f5) && decide (x.f5 < 50000 + b)))
def walkB (a b : Int) : List S48 → List S48 → Bool
  | [], c => c.isEmpty
  | x :: d, c => if slotB a b x = true then walkB a b d c else match c with
    | [] => false
    | y :: c' => x.f0 == y.f0 && (x.f1 == y.f1 && (x.f5 == y.f5 && walkB a b d c'))
theorem walkB_slot {a b : Int} {x : S48} (h : slotB a b x = true) (d c : List S48) : walkB a b (x :: d) c = walkB a b d c := by
  cases c with
  | nil => simp only [walkB, h, if_true]
  | cons y c => simp only [walkB, h, if_true]
theorem l1_step (k : Nat) (c d : List S48) (a b kk i : Int) (ha : 0 ≤ a ∧ a ≤ 100000) (hb : 0 ≤ b ∧ b ≤ 100000) (h0 : 0 ≤ i) (h1 : i < d.length) :
    palinglaw22_SpillNone.l1 (k + 1) c d a b kk i = palinglaw22_SpillNone.j3 k c d a b kk i (slotB a b (rd_T48 d i)) (rd_T48 d i).f0 (rd_T48 d i).f1 (rd_T48 d i).f2 (rd_T48 d i).f3 (rd_T48 d i).f4 (rd_T48 d i).f5 (rd_T48 d i).f6 := by
  simp only [palinglaw22_SpillNone.l1]
  rw [if_pos h1, if_pos h0, wrap_in (x := 40000 + a) (by omega) (by omega), wrap_in (x := 50000 + b) (by omega) (by omega)]
  generalize rd_T48 d i = x
  have hs : ∀ v, slotB a b x = v → palinglaw22_SpillNone.j3 k c d a b kk i (slotB a b x) x.f0 x.f1 x.f2 x.f3 x.f4 x.f5 x.f6 = palinglaw22_SpillNone.j3 k c d a b kk i v x.f0 x.f1 x.f2 x.f3 x.f4 x.f5 x.f6 := fun v h => by rw [h]
  by_cases c3 : x.f3 = -1
  · by_cases q1 : x.f5 ≥ 40000
    · by_cases q2 : x.f5 < 40000 + a
      · by_cases c4 : x.f0 = 4
        · rw [if_pos c4, if_pos c3, if_pos q1, if_pos q2, hs true (by simp only [slotB, c4, c3, decide_eq_true q1, decide_eq_true q2]; rfl)]
        · rw [if_neg c4]
          by_cases c5 : x.f0 = 5
          · rw [if_pos c5, if_pos c3, if_pos q1, if_pos q2, hs true (by simp only [slotB, c5, c3, decide_eq_true q1, decide_eq_true q2]; rfl)]
          · rw [if_neg c5, hs false (by simp [slotB, c4, c5])]
      · by_cases q3 : x.f5 ≥ 50000
        · by_cases c4 : x.f0 = 4
          · rw [if_pos c4, if_pos c3, if_pos q1, if_neg q2, if_pos q3, hs (decide (x.f5 < 50000 + b)) (by simp [slotB, c4, c3, q1, q2, q3])]
          · rw [if_neg c4]
            by_cases c5 : x.f0 = 5
            · rw [if_pos c5, if_pos c3, if_pos q1, if_neg q2, if_pos q3, hs (decide (x.f5 < 50000 + b)) (by simp [slotB, c5, c3, q1, q2, q3])]
            · rw [if_neg c5, hs false (by simp [slotB, c4, c5])]
        · by_cases c4 : x.f0 = 4
          · rw [if_pos c4, if_pos c3, if_pos q1, if_neg q2, if_neg q3, hs false (by simp [slotB, c4, c3, q1, q2, q3])]
          · rw [if_neg c4]
            by_cases c5 : x.f0 = 5
            · rw [if_pos c5, if_pos c3, if_pos q1, if_neg q2, if_neg q3, hs false (by simp [slotB, c5, c3, q1, q2, q3])]
            · rw [if_neg c5, hs false (by simp [slotB, c4, c5])]
    · have q3 : ¬ x.f5 ≥ 50000 := by omega
      by_cases c4 : x.f0 = 4
      · rw [if_pos c4, if_pos c3, if_neg q1, if_neg q3, hs false (by simp [slotB, c4, c3, q1, q3])]
      · rw [if_neg c4]
        by_cases c5 : x.f0 = 5
        · rw [if_pos c5, if_pos c3, if_neg q1, if_neg q3, hs false (by simp [slotB, c5, c3, q1, q3])]
        · rw [if_neg c5, hs false (by simp [slotB, c4, c5])]
  · by_cases c4 : x.f0 = 4
    · rw [if_pos c4, if_neg c3, hs false (by simp [slotB, c3])]
    · rw [if_neg c4]
      by_cases c5 : x.f0 = 5
      · rw [if_pos c5, if_neg c3, hs false (by simp [slotB, c3])]
      · rw [if_neg c5, hs false (by simp [slotB, c3])]
theorem walk_spec (c d : List S48) (a b : Int) (ha : 0 ≤ a ∧ a ≤ 100000) (hb : 0 ≤ b ∧ b ≤ 100000) (hc : c.length ≤ 1000) (hd : d.length ≤ 1000000) (hfin : 0 < a + b ∨ d.length = c.length) :
    ∀ i : Int, 0 ≤ i → i ≤ d.length → ∀ kk : Int, 0 ≤ kk → kk ≤ c.length → walkB a b (d.drop i.toNat) (c.drop kk.toNat) = true → Ev (fun k => palinglaw22_SpillNone.l1 k c d a b kk i) true := by
  refine up_ind ?_ ?_
  · intro kk k0 k1 h
    rw [List.drop_eq_nil_of_le (show d.length ≤ ((d.length : Int)).toNat by omega)] at h
    have hk : kk = (c.length : Int) := by
      have : (c.drop kk.toNat) = [] := by simpa [walkB] using h
      have := congrArg List.length this
      rw [List.length_drop, List.length_nil] at this
      omega
    refine Ev.step (fun k => rfl) (Ev.neg (by omega) (Ev.pos hk ?_))
    rw [wrap_in (x := a + b) (by omega) (by omega)]
    rcases hfin with h | h
    · exact Ev.pos h (Ev.con rfl)
    · by_cases h2 : a + b > 0
      · exact Ev.pos h2 (Ev.con rfl)
      · exact Ev.neg h2 (Ev.con (by rw [h]; simp))
  · intro i h0 h1 ih kk k0 k1 h
    refine Ev.step (fun k => l1_step k c d a b kk i ha hb h0 h1) ?_
    rw [rdI48_drop d i h0 h1] at h
    simp only [walkB] at h
    cases hs : slotB a b (rd_T48 d i) with
    | true =>
      rw [hs, if_pos rfl] at h
      refine Ev.step (f := fun k => palinglaw22_SpillNone.l1 k c d a b kk (wrap64 (i + 1))) (fun k => rfl) ?_
      rw [wrap_up h0 h1 (by omega)]
      exact ih kk k0 k1 h
    | false =>
      rw [hs, if_neg (by simp)] at h
      have hk : kk < c.length := by
        refine Int.not_le.1 fun hle => ?_
        rw [List.drop_eq_nil_of_le (show c.length ≤ kk.toNat by omega)] at h
        exact absurd h (by simp)
      rw [rdI48_drop c kk k0 hk] at h
      simp only [Bool.and_eq_true, beq_iff_eq] at h
      obtain ⟨e0, e1, e5, h'⟩ := h
      refine Ev.step (f := fun k => if kk ≥ (c.length : Int) then some false else if 0 ≤ kk then (if kk < (c.length : Int) then (if (rd_T48 d i).f0 = (rd_T48 c kk).f0 then (if (rd_T48 d i).f1 = (rd_T48 c kk).f1 then (if (rd_T48 d i).f5 = (rd_T48 c kk).f5 then palinglaw22_SpillNone.l1 k c d a b (wrap64 (kk + 1)) (wrap64 (i + 1)) else none) else none) else none) else none) else none) (fun k => rfl) ?_
      refine Ev.neg (by omega) (Ev.pos k0 (Ev.pos hk (Ev.pos e0 (Ev.pos e1 (Ev.pos e5 ?_)))))
      rw [wrap_up h0 h1 (by omega), wrap_up k0 hk (by omega)]
      exact ih (kk + 1) (by omega) (by omega) h'
theorem spilledOf_app (l l' : List S45) : spilledOf (l ++ l') = spilledOf l ++ spilledOf l' := by simp [spilledOf]
theorem cntS_app (s u v : List Int) : cntS s (u ++ v) = cntS s u + cntS s v := by simp [cntS]
theorem cntN_app (s u v : List Int) : cntN s (u ++ v) = cntN s u + cntN s v := by simp [cntN]
theorem word_slot (m : List S45) (s : List Int) (hm : m.length ≤ 100000) (r : Int) : wordOf m s 40000 50000 r < 0 ∨ (40000 ≤ wordOf m s 40000 50000 r ∧ wordOf m s 40000 50000 r < 40000 + cntN s (spilledOf m)) ∨ (50000 ≤ wordOf m s 40000 50000 r ∧ wordOf m s 40000 50000 r < 50000 + cntS s (spilledOf m)) := by
  obtain ⟨i0, i1, i2⟩ := idx_bd m r
  unfold wordOf
  by_cases c0 : findIdx m r < 0
  · rw [if_pos c0]; omega
  rw [if_neg c0]
  by_cases c1 : (rd_T45 m (findIdx m r)).f1 ≥ 0
  · rw [if_pos c1]; omega
  rw [if_neg c1]
  have hr := i2 (by omega)
  generalize hi : findIdx m r = i at *
  have hsplit : spilledOf m = spilledOf (m.take i.toNat) ++ (r :: spilledOf (m.drop (i + 1).toNat)) := by
    have e := rdP_drop m i (by omega) (by omega)
    have e2 : spilledOf (m.drop i.toNat) = r :: spilledOf (m.drop (i + 1).toNat) := by rw [e, spilledOf_cons, if_pos (by omega), hr]
    rw [← e2, ← spilledOf_app, List.take_append_drop]
  have b1 := cnt_bd s (spilledOf (m.take i.toNat))
  have b2 := spilledOf_len (m.take i.toNat)
  have b3 : (m.take i.toNat).length ≤ m.length := by rw [List.length_take]; omega
  have b4 := cnt_bd s (spilledOf (m.drop (i + 1).toNat))
  rw [hsplit, cntN_app, cntS_app, cntN_cons, cntS_cons]
  cases hsr : s.contains r with
  | true => rw [if_pos rfl, if_pos rfl, if_pos rfl, wrap_in (by omega) (by omega)]; omega
  | false => rw [if_neg (by simp), if_neg (by simp), if_neg (by simp), wrap_in (by omega) (by omega)]; omega
theorem fix_f (ats : List Int) (y : S48) : (fixTo ats y).f0 = y.f0 ∧ (fixTo ats y).f1 = y.f1 ∧ (fixTo ats y).f5 = y.f5 := by
  unfold fixTo
  split <;> exact ⟨rfl, rfl, rfl⟩
theorem walk_load (m : List S45) (s : List Int) (hm : m.length ≤ 100000) (ats : List Int) (r by_ : Int) (hw : ¬ wordOf m s 40000 50000 r < 0) (D C : List S48) :
    walkB (cntN s (spilledOf m)) (cntS s (spilledOf m)) (fixTo ats (loadI by_ (wordOf m s 40000 50000 r)) :: D) C = walkB (cntN s (spilledOf m)) (cntS s (spilledOf m)) D C := by
  have h := word_slot m s hm r
  have hs : slotB (cntN s (spilledOf m)) (cntS s (spilledOf m)) (fixTo ats (loadI by_ (wordOf m s 40000 50000 r))) = true := by
    rw [show fixTo ats (loadI by_ (wordOf m s 40000 50000 r)) = loadI by_ (wordOf m s 40000 50000 r) from if_neg (by simp [loadI])]
    simp only [slotB, loadI]
    simp only [Bool.and_eq_true, Bool.or_eq_true, decide_eq_true_eq, beq_iff_eq]
    refine ⟨by simp, by simp, ?_⟩
    rcases h with h | h | h
    · exact absurd h hw
    · exact Or.inl ⟨decide_eq_true h.1, decide_eq_true h.2⟩
    · exact Or.inr ⟨decide_eq_true h.1, decide_eq_true h.2⟩
  exact walkB_slot hs D C
theorem walk_store (m : List S45) (s : List Int) (hm : m.length ≤ 100000) (ats : List Int) (r : Int) (hw : ¬ wordOf m s 40000 50000 r < 0) (D C : List S48) :
    walkB (cntN s (spilledOf m)) (cntS s (spilledOf m)) (fixTo ats (storeI (wordOf m s 40000 50000 r)) :: D) C = walkB (cntN s (spilledOf m)) (cntS s (spilledOf m)) D C := by
  have h := word_slot m s hm r
  have hs : slotB (cntN s (spilledOf m)) (cntS s (spilledOf m)) (fixTo ats (storeI (wordOf m s 40000 50000 r))) = true := by
    rw [show fixTo ats (storeI (wordOf m s 40000 50000 r)) = storeI (wordOf m s 40000 50000 r) from if_neg (by simp [storeI])]
    simp only [slotB, storeI]
    simp only [Bool.and_eq_true, Bool.or_eq_true, decide_eq_true_eq, beq_iff_eq]
    refine ⟨by simp, by simp, ?_⟩
    rcases h with h | h | h
    · exact absurd h hw
    · exact Or.inl ⟨decide_eq_true h.1, decide_eq_true h.2⟩
    · exact Or.inr ⟨decide_eq_true h.1, decide_eq_true h.2⟩
  exact walkB_slot hs D C
theorem walk_own (a b : Int) (ats : List Int) (x : S48) (hx : x.f5 < 40000) (u v w : Int) (D C : List S48) : walkB a b (fixTo ats ⟨x.f0, x.f1, u, v, w, x.f5, x.f6⟩ :: D) (x :: C) = walkB a b D C := by
  obtain ⟨e0, e1, e5⟩ := fix_f ats ⟨x.f0, x.f1, u, v, w, x.f5, x.f6⟩
  have hs : slotB a b (fixTo ats ⟨x.f0, x.f1, u, v, w, x.f5, x.f6⟩) = false := by
    unfold slotB
    rw [e5]
    have n1 : decide (40000 ≤ x.f5) = false := decide_eq_false (by omega)
    have n2 : decide (50000 ≤ x.f5) = false := decide_eq_false (by omega)
    simp only [n1, n2, Bool.false_and, Bool.or_false, Bool.and_false]
  rw [walkB, if_neg (by rw [hs]; simp), e0, e1, e5]
  simp
theorem read_walk (m : List S45) (s : List Int) (hm : m.length ≤ 100000) (ats : List Int) (t : Bool) (r by_ : Int) (D C : List S48) :
    walkB (cntN s (spilledOf m)) (cntS s (spilledOf m)) ((readL m s 40000 50000 t r by_).1.map (fixTo ats) ++ D) C = walkB (cntN s (spilledOf m)) (cntS s (spilledOf m)) D C := by
  unfold readL
  by_cases c0 : t = true ∧ 0 ≤ r
  · rw [if_pos c0]
    by_cases c1 : wordOf m s 40000 50000 r < 0
    · rw [if_pos c1]; rfl
    · rw [if_neg c1]; exact walk_load m s hm ats r by_ c1 D C
  · rw [if_neg c0]; rfl
theorem put_walk (m : List S45) (s : List Int) (hm : m.length ≤ 100000) (ats : List Int) (x : S48) (hx : x.f5 < 40000) (D C : List S48) :
    walkB (cntN s (spilledOf m)) (cntS s (spilledOf m)) ((putL m s 40000 50000 x).map (fixTo ats) ++ D) (x :: C) = walkB (cntN s (spilledOf m)) (cntS s (spilledOf m)) D C := by
  unfold putL
  simp only []
  rw [List.map_append, List.append_assoc, read_walk m s hm, List.map_append, List.append_assoc, read_walk m s hm]
  by_cases c0 : defL x < 0
  · rw [if_pos c0]; exact walk_own _ _ ats x hx _ _ _ D C
  rw [if_neg c0]
  by_cases c1 : wordOf m s 40000 50000 (defL x) < 0
  · rw [if_pos c1]; exact walk_own _ _ ats x hx _ _ _ D C
  rw [if_neg c1]
  by_cases c2 : x.f0 = 3
  · rw [if_pos c2]
    refine (walk_load m s hm ats (defL x) 15 c1 _ _).trans ?_
    refine (walk_own _ _ ats x hx _ _ _ _ C).trans ?_
    exact walk_store m s hm ats (defL x) c1 D C
  · rw [if_neg c2]
    refine (walk_own _ _ ats x hx _ _ _ _ C).trans ?_
    exact walk_store m s hm ats (defL x) c1 D C
theorem all_walk (m : List S45) (s : List Int) (hm : m.length ≤ 100000) (ats : List Int) : ∀ c : List S48, (∀ x ∈ c, x.f5 < 40000) →
    walkB (cntN s (spilledOf m)) (cntS s (spilledOf m)) ((allL m s 40000 50000 c).map (fixTo ats)) c = true
  | [], _ => rfl
  | x :: c, h => by
    rw [show allL m s 40000 50000 (x :: c) = putL m s 40000 50000 x ++ allL m s 40000 50000 c from rfl, List.map_append, put_walk m s hm ats x (h x (by simp))]
    exact all_walk m s hm ats c (fun y hy => h y (by simp [hy]))
theorem put_one (m : List S45) (s : List Int) (p q : Int) (hw : ∀ r, wordOf m s p q r < 0) (x : S48) : (putL m s p q x).length = 1 := by
  have hr : ∀ t r b, (readL m s p q t r b).1 = [] := fun t r b => by
    unfold readL
    by_cases c0 : t = true ∧ 0 ≤ r
    · rw [if_pos c0, if_pos (hw r)]
    · rw [if_neg c0]
  unfold putL
  simp only [hr, List.nil_append]
  by_cases c0 : defL x < 0
  · rw [if_pos c0]; rfl
  · rw [if_neg c0, if_pos (hw _)]; rfl
theorem all_one (m : List S45) (s : List Int) (p q : Int) (hw : ∀ r, wordOf m s p q r < 0) : ∀ c : List S48, (allL m s p q c).length = c.length
  | [] => rfl
  | x :: c => by
    rw [show allL m s p q (x :: c) = putL m s p q x ++ allL m s p q c from rfl, List.length_append, put_one m s p q hw, all_one m s p q hw c, List.length_cons]
    omega
theorem SpillNone : palinglaw22_SpillNone.Pure := by
  intro c r s hl0 hw0 hw1 hl2 hw2
  suffices h : Ev (fun k => palinglaw22_SpillNone.f k c r s) true from h.rounds
  have out : Ev (fun k => palinglaw22_SpillNone.j0 k c r s true) true := Ev.step (f := fun _ => some true) (fun k => rfl) (Ev.con rfl)
  have hr : 0 ≤ r ∧ r ≤ 255 := by simpa [Lit.wf, IntKind.min, IntKind.max, IntKind.signed, IntKind.bits] using hw1
  refine Ev.congr (fun k => rfl) (Ev.bind awake22 (Ev.tt ?_))
  by_cases c1 : (c.length : Int) > 60
  · exact Ev.pos c1 out
  refine Ev.neg c1 ?_
  by_cases c2 : (s.length : Int) > 60
  · exact Ev.pos c2 out
  refine Ev.neg c2 (Ev.bind (check_spec c 60 9) ?_)
  cases hck : checkB c 60 9 with
  | false => exact out
  | true =>
    obtain ⟨h1, h2, h3, h4⟩ := check_facts hck
    refine Ev.step (f := fun k => palinglaw22_SpillNone.l0 k c r s 0) (fun k => rfl) ?_
    by_cases hN : ∀ x ∈ c, x.f5 < 40000
    · have hregs : wrap64 (wrap64 (Int.tmod r 13) + 1) = (((r.toNat % 13 + 1 : Nat)) : Int) := by
        have e : Int.tmod r 13 = ((r.toNat % 13 : Nat) : Int) := by
          obtain ⟨n, rfl⟩ : ∃ n : Nat, r = (n : Int) := ⟨r.toNat, by omega⟩
          rfl
        rw [e, wrap_in (x := ((r.toNat % 13 : Nat) : Int)) (by omega) (by omega), wrap_in (by omega) (by omega)]
        omega
      obtain ⟨l, hs, hll, hlr⟩ := scan_some c (by omega) (r.toNat % 13 + 1) (by omega) (by omega)
      have hfacts := code_facts h3 hlr
      have hm : (mOf l).length ≤ 100000 := by rw [mOf_len]; omega
      have key : ∀ i : Int, 0 ≤ i → i ≤ c.length → Ev (fun k => palinglaw22_SpillNone.l0 k c r s i) true := by
        refine up_ind ?_ ?_
        · refine Ev.step (fun k => rfl) (Ev.neg (by omega) ?_)
          rw [hregs]
          have hcs := code_spec (mOf l) s 40000 50000 hm (by omega) c (by omega) (fun x hx => ⟨(hfacts x hx).1, fun a b => ((hfacts x hx).2.1 a).2, (hfacts x hx).2.2⟩) (fun x hx => one_to (h3 x hx))
          refine Ev.bind hs (Ev.bind (places_spec l (by omega)) (Ev.bind hcs (Ev.bind (refslots_spec l s (by omega) (by omega)) ?_)))
          have hb := cnt_bd s (spilledOf (mOf l))
          have hb2 := spilledOf_len (mOf l)
          have hlen : ((allL (mOf l) s 40000 50000 c).map (fixTo (atsL (mOf l) s 40000 50000 c 0))).length ≤ 1000000 := by
            rw [List.length_map]
            have : ∀ c : List S48, (allL (mOf l) s 40000 50000 c).length ≤ 5 * c.length := by
              intro c
              induction c with
              | nil => simp [allL]
              | cons x c ih =>
                have := putL_len (mOf l) s 40000 50000 x
                rw [show allL (mOf l) s 40000 50000 (x :: c) = putL (mOf l) s 40000 50000 x ++ allL (mOf l) s 40000 50000 c from rfl, List.length_append, List.length_cons]
                omega
            have := this c
            omega
          refine walk_spec c _ (cntN s (spilledOf (mOf l))) (cntS s (spilledOf (mOf l))) (by omega) (by omega) (by omega) hlen ?_ 0 (by omega) (by omega) 0 (by omega) (by omega) ?_
          · by_cases hab : 0 < cntN s (spilledOf (mOf l)) + cntS s (spilledOf (mOf l))
            · exact Or.inl hab
            · refine Or.inr ?_
              rw [List.length_map]
              refine all_one _ _ _ _ (fun q => ?_) c
              have := word_slot (mOf l) s hm q
              omega
          · exact all_walk (mOf l) s hm _ c hN
        · intro i h0 h1 ih
          have hx : rd_T48 c i ∈ c := by
            have := rdI48_drop c i h0 h1
            have hmem : rd_T48 c i ∈ c.drop i.toNat := by rw [this]; simp
            exact List.mem_of_mem_drop hmem
          refine Ev.step (fun k => rfl) (Ev.pos h1 (Ev.pos h0 (Ev.neg (by have := hN _ hx; omega) ?_)))
          rw [wrap_up h0 h1 (by omega)]
          exact ih
      exact key 0 (by omega) (by omega)
    · have key : ∀ i : Int, 0 ≤ i → i ≤ c.length → (∃ x ∈ c.drop i.toNat, 40000 ≤ x.f5) → Ev (fun k => palinglaw22_SpillNone.l0 k c r s i) true := by
        refine up_ind ?_ ?_
        · rintro ⟨x, hx, _⟩
          rw [List.drop_eq_nil_of_le (by omega)] at hx
          exact absurd hx (by simp)
        · rintro i h0 h1 ih ⟨x, hx, hx5⟩
          refine Ev.step (fun k => rfl) (Ev.pos h1 (Ev.pos h0 ?_))
          by_cases hq : (rd_T48 c i).f5 ≥ 40000
          · exact Ev.pos hq (Ev.con rfl)
          · refine Ev.neg hq ?_
            rw [wrap_up h0 h1 (by omega)]
            refine ih ⟨x, ?_, hx5⟩
            rw [rdI48_drop c i h0 h1] at hx
            rcases List.mem_cons.1 hx with rfl | hx
            · exact absurd hx5 hq
            · exact hx
      refine key 0 (by omega) (by omega) ?_
      refine Classical.byContradiction fun hcon => hN fun x hx => ?_
      refine Int.not_le.1 fun hle => hcon ⟨x, by simpa using hx, hle⟩
end Go.Proofs.YtpbhfpbfmpocdaaDoor.Pure
