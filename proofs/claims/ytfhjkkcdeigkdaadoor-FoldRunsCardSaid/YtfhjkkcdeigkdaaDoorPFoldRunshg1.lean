import Derived.Test.YtfhjkkcdeigkdaaDoorPFoldRunsx0
import Derived.Test.YtfhjkkcdeigkdaaDoorPFoldRunsx2
import Derived.Test.YtfhjkkcdeigkdaaDoorPFoldRunsx3
import Derived.Test.YtfhjkkcdeigkdaaDoorPFoldRunshg0
import Derived.Test.YtfhjkkcdeigkdaaDoorPFoldRunshone11
import Derived.Test.YtfhjkkcdeigkdaaDoorPFoldRunshg6
import Derived.Lib.SlicesCompact
import Derived.Test.YtfhjkkcdeigkdaaDoorPFoldRunshg3
import Derived.Test.YtfhjkkcdeigkdaaDoorPFoldRunshfcalc2
namespace Go.Proofs.YtfhjkkcdeigkdaaDoor.PFoldRuns
open Go.RowKit Go.Proofs.YtfhjkkcdeigkdaaDoorW.PrintWords Go.Proofs.YtfhjkkcdeigkdaaDoorW.PrintLast Go.Proofs.YtfhjkkcdeigkdaaDoorW.PrintMore
set_option linter.unusedVariables false
set_option linter.unusedSimpArgs false
/-! palingref11.Check, in plain words. -/
def regB (a0 a1 : Int) (a2 a3 : Bool) : Bool := if a2 = true then (decide (a0 ≥ 0) && decide (a0 < a1) || (a3 && a0 == -1)) else a0 == 0
theorem reg_spec (a0 a1 : Int) (a2 a3 : Bool) : palingref11_reg.f a0 a1 a2 a3 = some (regB a0 a1 a2 a3) := by
  unfold palingref11_reg.f regB
  by_cases h0 : a0 ≥ 0 <;> by_cases h1 : a0 < a1 <;> cases a2 <;> cases a3 <;> simp [h0, h1]
  all_goals omega
def numB (kind n locks : Int) : Bool := if kind = 4 ∨ kind = 5 then decide (n ≥ 0) && decide (n ≤ 65535) else if kind = 9 ∨ kind = 10 then decide (n ≥ 0) && decide (n < locks) else if kind = 12 then n == 1 || n == 2 else true
theorem number_spec (a0 a1 a2 a3 a4 a5 a6 x : Int) : ∀ k, 2 ≤ k → palingref11_number.f k a0 a1 a2 a3 a4 a5 a6 x = some (numB a0 a5 x) := by
  intro k hk
  obtain ⟨k, rfl⟩ : ∃ m, k = m + 2 := ⟨k - 2, by omega⟩
  simp only [palingref11_number.f, palingref11_number.j0, palingref11_number.j1, numB]
  by_cases h4 : a0 = 4
  · subst h4; by_cases h : a5 ≥ 0 <;> simp [h]
  · by_cases h5 : a0 = 5
    · subst h5; by_cases h : a5 ≥ 0 <;> simp [h]
    · by_cases h9 : a0 = 9
      · subst h9; by_cases h : a5 ≥ 0 <;> simp [h]
      · by_cases h10 : a0 = 10
        · subst h10; by_cases h : a5 ≥ 0 <;> simp [h]
        · by_cases h12 : a0 = 12
          · subst h12; by_cases h : a5 = 1 <;> simp [h]
          · simp [h4, h5, h9, h10, h12]
def oneB (x : S53) (size regs locks : Int) : Bool :=
  decide (0 ≤ x.f0 ∧ x.f0 < 14) && (regB x.f2 regs (fD x.f0) false && (regB x.f3 regs (fA x.f0) (x.f0 == 4 || x.f0 == 5) && (regB x.f4 regs (fB x.f0) false &&
    ((fO x.f0 || x.f1 == 0) && (decide (0 ≤ x.f1) && (decide (x.f1 ≤ 18) && ((fN x.f0 || x.f5 == 0) && ((fT x.f0 || x.f6 == 0) && (numB x.f0 x.f5 locks && (decide (0 ≤ x.f6) && decide (x.f6 < size)))))))))))
set_option maxHeartbeats 4000000 in
theorem one_spec (x : S53) (size regs locks : Int) : Ev (fun k => palingref11_one.f k x.f0 x.f1 x.f2 x.f3 x.f4 x.f5 x.f6 size regs locks) (oneB x size regs locks) := by
  obtain ⟨e1, e2, e3, e4, e5, e6, e7⟩ := fld_has x.f0
  have hsz : (fldB x.f0).size ≤ 4611686018427387904 := by have := fld_size x.f0; omega
  obtain ⟨k1, g1⟩ := has_spec (fldB x.f0) 68 hsz
  obtain ⟨k2, g2⟩ := has_spec (fldB x.f0) 65 hsz
  obtain ⟨k3, g3⟩ := has_spec (fldB x.f0) 66 hsz
  obtain ⟨k4, g4⟩ := has_spec (fldB x.f0) 79 hsz
  obtain ⟨k5, g5⟩ := has_spec (fldB x.f0) 78 hsz
  obtain ⟨k6, g6⟩ := has_spec (fldB x.f0) 84 hsz
  rw [e1] at g1; rw [e2] at g2; rw [e3] at g3; rw [e4] at g4; rw [e5] at g5; rw [e6] at g6
  refine ⟨k1 + k2 + k3 + k4 + k5 + k6 + 5, fun k hk => ?_⟩
  have q1 := g1 k (by omega)
  have q2 := g2 k (by omega)
  have q3 := g3 k (by omega)
  have q4 := g4 k (by omega)
  have q5 := g5 k (by omega)
  have q6 := g6 k (by omega)
  have q7 := number_spec x.f0 x.f1 x.f2 x.f3 x.f4 x.f5 x.f6 locks k (by omega)
  simp only [palingref11_one.f, fields_spec, Option.bind_some, q1, q2, q3, q4, q5, q6, q7, reg_spec]
  refine congrArg some ?_
  have he : ((fldB x.f0).toList == ([] : List UInt8)) = !decide (0 ≤ x.f0 ∧ x.f0 < 14) := by
    by_cases hk : 0 ≤ x.f0 ∧ x.f0 < 14
    · have hne : ¬ ((fldB x.f0).toList = []) := by rw [toList_data, e7]; simpa using hk
      rw [beq_eq_false_iff_ne.mpr hne, decide_eq_true hk]; rfl
    · have he : (fldB x.f0).toList = [] := by rw [toList_data, e7]; exact hk
      rw [beq_iff_eq.mpr he, decide_eq_false hk]; rfl
  have d1 : ∀ z : Int, decide (18 < z) = !decide (z ≤ 18) := fun z => by by_cases h : z ≤ 18 <;> simp [h]; omega
  have d2 : ∀ z : Int, decide (z < 0) = !decide (0 ≤ z) := fun z => by by_cases h : 0 ≤ z <;> simp [h]; omega
  simp only [oneV, oneB, he, bne, d1, d2, Bool.not_or, Bool.not_and, Bool.not_not, Bool.and_assoc]
def endsB (l : List S53) : Bool := (rd_T53 l ((l.length : Int) - 1)).f0 == 6 || ((rd_T53 l ((l.length : Int) - 1)).f0 == 12 || (rd_T53 l ((l.length : Int) - 1)).f0 == 13)
def checkB (l : List S53) (regs locks : Int) : Bool := decide (1 ≤ l.length) && (decide (l.length ≤ 4096) && (l.all (fun x => oneB x l.length regs locks) && endsB l))
theorem check_spec (l : List S53) (regs locks : Int) : Ev (fun k => palingref11_Check.f k l regs locks) (checkB l regs locks) := by
  by_cases h1 : (l.length : Int) < 1
  · refine Ev.congr (fun k => rfl) (Ev.pos h1 (Ev.step (f := fun _ => some false) (fun k => rfl) (Ev.con ?_)))
    have : ¬ 1 ≤ l.length := by omega
    simp [checkB, this]
  · refine Ev.congr (fun k => rfl) (Ev.neg h1 (Ev.step (fun k => rfl) ?_))
    by_cases h2 : (l.length : Int) > 4096
    · refine Ev.pos (decide_eq_true h2) (Ev.con ?_)
      have : ¬ l.length ≤ 4096 := by omega
      simp [checkB, this]
    · refine Ev.neg (by simpa using h2) ?_
      have key : ∀ i : Int, 0 ≤ i → i ≤ l.length → Ev (fun k => palingref11_Check.l0 k l regs locks i) ((l.drop i.toNat).all (fun x => oneB x l.length regs locks) && endsB l) := by
        refine up_ind ?_ ?_
        · refine Ev.step (fun k => rfl) (Ev.neg (by omega) ?_)
          rw [wrap_in (x := (l.length : Int) - 1) (by omega) (by omega)]
          refine Ev.pos (by omega) (Ev.pos (by omega) ?_)
          rw [List.drop_eq_nil_of_le (by omega), List.all_nil, Bool.true_and]
          unfold endsB
          by_cases c1 : (rd_T53 l ((l.length : Int) - 1)).f0 = 6
          · exact Ev.pos c1 (Ev.con (by simp [c1]))
          · refine Ev.neg c1 ?_
            by_cases c2 : (rd_T53 l ((l.length : Int) - 1)).f0 = 12
            · exact Ev.pos c2 (Ev.con (by simp [c2]))
            · exact Ev.neg c2 (Ev.con (by rw [show ((rd_T53 l ((l.length : Int) - 1)).f0 == 6) = false by simpa using c1, show ((rd_T53 l ((l.length : Int) - 1)).f0 == 12) = false by simpa using c2]; rfl))
        · intro i h0 hi ih
          refine Ev.step (fun k => rfl) (Ev.pos hi (Ev.pos h0 (Ev.bind (one_spec _ _ _ _) ?_)))
          rw [getD_drop l z53 i.toNat (by omega), List.all_cons, show l.getD i.toNat z53 = rd_T53 l i from rfl]
          cases hq : oneB (rd_T53 l i) l.length regs locks with
          | true =>
            refine Ev.tt ?_
            rw [wrap_up h0 hi (by omega), Bool.true_and]
            rw [show (i + 1).toNat = i.toNat + 1 by omega] at ih
            exact ih
          | false =>
            refine Ev.ff (Ev.con ?_)
            simp
      have h3 : 1 ≤ l.length := by omega
      have h4 : l.length ≤ 4096 := by omega
      simpa [checkB, h3, h4] using key 0 (by omega) (by omega)
theorem check_facts {l : List S53} {regs locks : Int} (h : checkB l regs locks = true) : 1 ≤ l.length ∧ l.length ≤ 4096 ∧ (∀ x ∈ l, oneB x l.length regs locks = true) ∧ endsB l = true := by
  simp only [checkB, Bool.and_eq_true, decide_eq_true_eq, List.all_eq_true] at h
  exact ⟨h.1, h.2.1, h.2.2.1, h.2.2.2⟩
end Go.Proofs.YtfhjkkcdeigkdaaDoor.PFoldRuns

namespace Go.Proofs.YtfhjkkcdeigkdaaDoor.PFoldRuns
open Go.RowKit Go.Proofs.YtfhjkkcdeigkdaaDoorW.PrintWords Go.Proofs.YtfhjkkcdeigkdaaDoorW.PrintLast Go.Proofs.YtfhjkkcdeigkdaaDoorW.PrintMore
set_option linter.unusedVariables false
set_option linter.unusedSimpArgs false
/-! fold.all in plain words: a list of what waits; it ends, and its answer is the greatest. -/
abbrev KL := List (Int × Int)
def kgetL : KL → KF
  | [], _ => none
  | x :: xs, r => if x.1 = r then some x.2 else kgetL xs r
def kdelL (l : KL) (r : Int) : KL := l.filter (fun x => !(x.1 == r))
def kmeetL (a b : KL) : KL := a.filter (fun x => kgetL b x.1 == some x.2)
def kbehL (l : KL) (x : S53) : KL := if 0 ≤ defI x then (if (valQ (kgetL l) x).2 = true then kdelL l (defI x) ++ [(defI x, (valQ (kgetL l) x).1)] else kdelL l (defI x)) else l
theorem kget_del (l : KL) (r q : Int) : kgetL (kdelL l r) q = if q = r then none else kgetL l q := by
  induction l with
  | nil => unfold kdelL; simp [kgetL]
  | cons y ys ih =>
    unfold kdelL at ih ⊢
    rw [List.filter_cons]
    by_cases hy : y.1 = r
    · rw [if_neg (by simp [hy]), ih, kgetL]
      by_cases h : q = r
      · rw [if_pos h, if_pos h]
      · rw [if_neg h, if_neg h, if_neg (by rw [hy]; exact fun e => h e.symm)]
    · rw [if_pos (by simp [hy]), kgetL, ih, kgetL]
      by_cases hq : y.1 = q
      · rw [if_pos hq, if_pos hq, if_neg (by rw [← hq]; exact hy)]
      · rw [if_neg hq, if_neg hq]
theorem kget_app (a b : KL) (q : Int) : kgetL (a ++ b) q = match kgetL a q with | some v => some v | none => kgetL b q := by
  induction a with
  | nil => rfl
  | cons y ys ih =>
    rw [List.cons_append, kgetL, kgetL]
    by_cases h : y.1 = q
    · rw [if_pos h, if_pos h]
    · rw [if_neg h, if_neg h, ih]
theorem kget_beh (l : KL) (x : S53) : kgetL (kbehL l x) = behK (kgetL l) x := by
  funext r
  unfold kbehL behK valK
  by_cases hd : 0 ≤ defI x
  · rw [if_pos hd, if_pos hd]
    by_cases hv : (valQ (kgetL l) x).2 = true
    · rw [if_pos hv, if_pos hv, kget_app, kget_del]
      by_cases hr : r = defI x
      · simp [hr, kgetL]
      · rw [if_neg hr, if_neg hr]
        cases kgetL l r with
        | some v => rfl
        | none => show kgetL _ _ = none; rw [kgetL, if_neg (fun e => hr e.symm)]; rfl
    · rw [if_neg hv, if_neg hv, kget_del]
  · rw [if_neg hd, if_neg hd]
def NdK (l : KL) : Prop := (l.map Prod.fst).Nodup
theorem kget_mem {l : KL} (h : NdK l) (r v : Int) : kgetL l r = some v ↔ (r, v) ∈ l := by
  unfold NdK at h
  induction l with
  | nil => simp [kgetL]
  | cons y ys ih =>
    rw [List.map_cons, List.nodup_cons] at h
    rw [kgetL]
    by_cases hy : y.1 = r
    · rw [if_pos hy]
      constructor
      · intro e
        rw [← hy, ← Option.some.inj e]
        exact List.mem_cons_self
      · intro e
        rcases List.mem_cons.1 e with e | e
        · rw [← e]
        · exact absurd (List.mem_map.2 ⟨_, e, hy.symm⟩) h.1
    · rw [if_neg hy, ih h.2]
      constructor
      · exact fun e => List.mem_cons_of_mem _ e
      · intro e
        rcases List.mem_cons.1 e with e | e
        · exact absurd (congrArg Prod.fst e).symm hy
        · exact e
theorem nd_filter {l : KL} (h : NdK l) (p : Int × Int → Bool) : NdK (l.filter p) := List.Nodup.sublist (List.filter_sublist.map _) h
theorem nd_beh {l : KL} (h : NdK l) (x : S53) : NdK (kbehL l x) := by
  unfold kbehL
  split
  · split
    · unfold NdK
      rw [List.map_append, List.nodup_append]
      refine ⟨nd_filter h _, by simp, ?_⟩
      intro a ha b hb
      obtain ⟨y, hy, rfl⟩ := List.mem_map.1 ha
      have := (List.mem_filter.1 hy).2
      simp at hb this
      omega
    · exact nd_filter h _
  · exact h
theorem kget_meet {a : KL} (h : NdK a) (b : KL) : kgetL (kmeetL a b) = metK (kgetL a) (kgetL b) := by
  have hn := nd_filter h (fun x => kgetL b x.1 == some x.2)
  have key : ∀ r v, kgetL (kmeetL a b) r = some v ↔ metK (kgetL a) (kgetL b) r = some v := by
    intro r v
    unfold kmeetL metK
    rw [kget_mem hn, List.mem_filter, ← kget_mem h]
    constructor
    · rintro ⟨h1, h2⟩
      have h3 : kgetL b r = some v := by simpa using h2
      rw [h1, h3, if_pos rfl]
    · intro h1
      split at h1
      · rename_i e
        refine ⟨h1, ?_⟩
        rw [e] at h1
        simp [h1]
      · cases h1
  funext r
  cases h1 : kgetL (kmeetL a b) r with
  | some v => exact ((key r v).1 h1).symm
  | none =>
    cases h2 : metK (kgetL a) (kgetL b) r with
    | none => rfl
    | some v => rw [(key r v).2 h2] at h1; cases h1
theorem meet_len (a b : KL) : (kmeetL a b).length ≤ a.length := List.length_filter_le _ _
theorem meet_same {a b : KL} (h : ¬ (kmeetL a b).length < a.length) : kmeetL a b = a := by
  have h1 := meet_len a b
  exact List.filter_eq_self.2 (List.length_filter_eq_length_iff.1 (show (kmeetL a b).length = a.length by omega))
def DS (c : List S53) : List Int := c.map (fun x => x.f2)
def KeyOK (c : List S53) (y : Int × Int) : Prop := y.1 ∈ DS c ∧ inR y.2
/-- the sum of known ones is reckoned on numbers of 64 bits -/
def okV (m : KL) (x : S53) : Prop := x.f0 ≠ 2 ∨ inR (knQ (kgetL m) x.f3).1
instance (m : KL) (x : S53) : Decidable (okV m x) := inferInstanceAs (Decidable (_ ∨ _))
def fold_value.f (m : KL) (x : S53) : Option (Int × Bool) := if okV m x then some (valQ (kgetL m) x) else none
def fold_behind.f (m : KL) (x : S53) : Option KL := if okV m x then some (kbehL m x) else none
abbrev OS := List (Option KL)
def fStep (o : OS) (wt : List Int) (kk : KL) (n : Int) : OS × List Int :=
  match o.getD n.toNat none with
  | none => (o.set n.toNat (some kk), if wt.contains n = true then wt else wt ++ [n])
  | some m => (o.set n.toNat (some (kmeetL m kk)), if (kmeetL m kk).length < m.length then (if wt.contains n = true then wt else wt ++ [n]) else wt)
def fSteps (kk : KL) : List Int → OS → List Int → Option (OS × List Int)
  | [], o, wt => some (o, wt)
  | n :: ns, o, wt => if 0 ≤ n ∧ n < (o.length : Int) then fSteps kk ns (fStep o wt kk n).1 (fStep o wt kk n).2 else none
def fold_all.l (c : List S53) : Nat → OS → List Int → Option OS
  | 0, _, _ => none
  | k + 1, o, [] => some o
  | k + 1, o, a :: wt => if 0 ≤ a ∧ a < (c.length : Int) ∧ o.length = c.length ∧ wt.length ≤ 1500000 then (o.getD a.toNat none).bind fun m => (ins_Next.f (c.getD a.toNat z53).f0 (c.getD a.toNat z53).f1 (c.getD a.toNat z53).f2 (c.getD a.toNat z53).f3 (c.getD a.toNat z53).f4 (c.getD a.toNat z53).f5 (c.getD a.toNat z53).f6 a).bind fun L =>
      (fold_behind.f m (c.getD a.toNat z53)).bind fun kk => (fSteps kk L o wt).bind fun p => fold_all.l c k p.1 p.2 else none
def fold_all.f (k : Nat) (c : List S53) : Option OS := if c.length ≤ 1000 then (if c = [] then some [] else fold_all.l c k ((List.replicate c.length none).set 0 (some [])) [0]) else none
end Go.Proofs.YtfhjkkcdeigkdaaDoor.PFoldRuns

namespace Go.Proofs.YtfhjkkcdeigkdaaDoor.PFoldRuns
open Go.RowKit Go.Proofs.YtfhjkkcdeigkdaaDoorW.PrintWords Go.Proofs.YtfhjkkcdeigkdaaDoorW.PrintLast Go.Proofs.YtfhjkkcdeigkdaaDoorW.PrintMore
set_option linter.unusedVariables false
set_option linter.unusedSimpArgs false
/-! Sorted and compacted: rising, each once. -/
theorem compactUpTo_spec (d : Array Int) (hs : ∀ i j, i ≤ j → j < d.size → d[i]! ≤ d[j]!) : ∀ m, m ≤ d.size → (Lib.compactUpTo d m).Pairwise (· < ·) ∧ ∀ i, i ∈ Lib.compactUpTo d m ↔ ∃ j, j < m ∧ d[j]! = i
  | 0, _ => by simp [Lib.compactUpTo]
  | m + 1, hm => by
    obtain ⟨h1, h2⟩ := compactUpTo_spec d hs m (by omega)
    rw [Lib.compactUpTo_succ]
    by_cases hk : Lib.keeps d m = true
    · rw [if_pos hk]
      constructor
      · rw [List.pairwise_append]
        refine ⟨h1, by simp, ?_⟩
        intro a ha b hb
        obtain rfl : b = d[m]! := by simpa using hb
        obtain ⟨j, hj, rfl⟩ := (h2 a).1 ha
        have e1 := hs j (m - 1) (by omega) (by omega)
        have e2 := hs (m - 1) m (by omega) (by omega)
        have e3 : d[m]! ≠ d[m - 1]! := by
          intro e
          rw [Lib.keeps_neg (by omega) e] at hk
          exact absurd hk (by simp)
        omega
      · intro i
        rw [List.mem_append, h2]
        constructor
        · rintro (⟨j, hj, e⟩ | h)
          · exact ⟨j, by omega, e⟩
          · exact ⟨m, by omega, (by simpa using h : i = d[m]!).symm⟩
        · rintro ⟨j, hj, e⟩
          by_cases hjm : j = m
          · subst hjm; exact .inr (by simp [e])
          · exact .inl ⟨j, by omega, e⟩
    · rw [if_neg hk, List.append_nil]
      refine ⟨h1, fun i => ?_⟩
      rw [h2]
      have hm0 : 0 < m := by
        rcases Nat.eq_zero_or_pos m with h0 | h0
        · subst h0; exact absurd (Lib.keeps_lt_one d 0 (by omega)) hk
        · exact h0
      have e3 : d[m]! = d[m - 1]! := by
        by_cases e : d[m]! = d[m - 1]!
        · exact e
        · exact absurd (Lib.keeps_pos e) hk
      constructor
      · rintro ⟨j, hj, e⟩; exact ⟨j, by omega, e⟩
      · rintro ⟨j, hj, e⟩
        by_cases hjm : j = m
        · subst hjm; exact ⟨j - 1, by omega, by rw [← e, e3]⟩
        · exact ⟨j, by omega, e⟩
theorem compact_sorted (S : List Int) (hp : S.Pairwise (· ≤ ·)) : (Lib.compact S).Pairwise (· < ·) ∧ ∀ i, i ∈ Lib.compact S ↔ i ∈ S := by
  have hg : ∀ j, j < S.length → S.toArray[j]! = S.getD j 0 := fun j hj => by simp [hj]
  have h := compactUpTo_spec S.toArray (fun i j hij hj => by
    have hj' : j < S.length := by simpa using hj
    rw [hg i (by omega), hg j hj']
    by_cases e : i = j
    · subst e; omega
    · have := List.pairwise_iff_getElem.1 hp i j (by omega) hj' (by omega)
      simpa [List.getD_eq_getElem?_getD, hj', show i < S.length by omega] using this) S.length (by simp)
  refine ⟨h.1, fun i => ?_⟩
  unfold Lib.compact
  rw [h.2, List.mem_iff_getElem]
  constructor
  · rintro ⟨j, hj, e⟩
    refine ⟨j, hj, ?_⟩
    rw [← e, hg j hj]
    simp [hj]
  · rintro ⟨j, hj, e⟩
    refine ⟨j, hj, ?_⟩
    rw [← e, hg j hj]
    simp [hj]
theorem sort_le (L : List Int) : (L.mergeSort (fun x y => decide (x ≤ y))).Pairwise (· ≤ ·) := by
  have := List.pairwise_mergeSort (le := fun x y : Int => decide (x ≤ y)) (fun a b c h1 h2 => by simp at *; omega) (fun a b => by simp; omega) L
  exact this.imp (fun h => by simpa using h)
theorem compact_sort (L : List Int) : (Lib.compact (L.mergeSort (fun x y => decide (x ≤ y)))).Pairwise (· < ·) ∧ ∀ i, i ∈ Lib.compact (L.mergeSort (fun x y => decide (x ≤ y))) ↔ i ∈ L := by
  have h := compact_sorted _ (sort_le L)
  exact ⟨h.1, fun i => by rw [h.2, List.mem_mergeSort]⟩
theorem rising_ext : ∀ {L M : List Int}, L.Pairwise (· < ·) → M.Pairwise (· < ·) → (∀ i, i ∈ L ↔ i ∈ M) → L = M
  | [], [], _, _, _ => rfl
  | [], m :: M, _, _, h => absurd ((h m).2 (by simp)) (by simp)
  | l :: L, [], _, _, h => absurd ((h l).1 (by simp)) (by simp)
  | l :: L, m :: M, hl, hm, h => by
    rw [List.pairwise_cons] at hl hm
    have e : l = m := by
      have h1 := (h l).1 (by simp)
      have h2 := (h m).2 (by simp)
      rw [List.mem_cons] at h1 h2
      rcases h1 with h1 | h1
      · exact h1
      · rcases h2 with h2 | h2
        · exact h2.symm
        · have := hl.1 m h2; have := hm.1 l h1; omega
    subst e
    rw [rising_ext hl.2 hm.2 (fun i => by
      have := h i
      rw [List.mem_cons, List.mem_cons] at this
      constructor
      · intro hi
        rcases this.1 (.inr hi) with rfl | hx
        · exact absurd (hl.1 _ hi) (by omega)
        · exact hx
      · intro hi
        rcases this.2 (.inr hi) with rfl | hx
        · exact absurd (hm.1 _ hi) (by omega)
        · exact hx)]
theorem twoL_spec (a b : Int) : (twoL a b).Pairwise (· < ·) ∧ ∀ i, i ∈ twoL a b ↔ i = a ∨ i = b := by
  have h := compact_sort [a, b]
  refine ⟨h.1, fun i => ?_⟩
  unfold twoL
  rw [h.2]
  simp
end Go.Proofs.YtfhjkkcdeigkdaaDoor.PFoldRuns

-- HAND paling/calc.Eval rounds=0 making=1 needs=paling/calc.divide;paling/calc.told;paling/palingref12.Get;paling/palingref12.Put
namespace Go.Proofs.YtfhjkkcdeigkdaaDoor.PFoldRuns
open Go.RowKit Go.Proofs.YtfhjkkcdeigkdaaDoorW.PrintWords Go.Proofs.YtfhjkkcdeigkdaaDoorW.PrintLast Go.Proofs.YtfhjkkcdeigkdaaDoorW.PrintMore
set_option linter.unusedVariables false
set_option linter.unusedSimpArgs false
open Go.MapKept Go.RowKit
/-! calc.Eval, walked. -/
/-- behind so many inserts -/
structure EvS (W w0 : World) (g1 g2 gM : Nat) (a b : Int) (f : Int → Option Value) : Prop where
  b1 : W.heap[g1]? = some (.cells #[.int .i64 a] 2 (0, 0))
  b2 : W.heap[g2]? = some (.cells #[.int .i64 b] 2 (0, 0))
  im : ∃ n, IM W gM f n
  n1 : g1 ≠ gM
  n2 : g2 ≠ gM
  lb : w0.heap.size ≤ gM
  bel : Below w0.heap.size w0 W
theorem EvS.ins {W W' w0 : World} {g1 g2 gM : Nat} {a b : Int} {f f' : Int → Option Value} (h : EvS W w0 g1 g2 gM a b f) (hi : ∃ n, IM W' gM f' n) (hg : W.grownBy W' (some gM)) : EvS W' w0 g1 g2 gM a b f' :=
  ⟨blk_grown h.b1 hg (fun e => h.n1 (Option.some.inj e)), blk_grown h.b2 hg (fun e => h.n2 (Option.some.inj e)), hi, h.n1, h.n2, h.lb, h.bel.grown hg h.bel.size (fun k hk => by rw [← Option.some.inj hk]; exact h.lb)⟩
section
variable {P : Program} {ops : Array Oper} {rest : List Oper} {o : Oper} {a : Act} {Q : Exit → Act → World → Prop}
theorem wpList_insert_ev (w w0 : World) (g1 g2 gM : Nat) (u1 u2 : Int) (f : Int → Option Value) (hg : o.guard = none) (m x v : Operand) (t : TypeId) (hop : o.op = Op.insert t m x v) (kt et : TypeId) (ht : P.underlying t = some (.map kt et)) (hd : P.underlying kt = some (.int .i64))
    (hm : a.eval m = .map (some gM)) (h : EvS w w0 g1 g2 gM u1 u2 f) (i : Int) (u : Value) (hx : a.eval x = .int .i64 i) (hv : a.eval v = u)
    (hK : ∀ w', EvS w' w0 g1 g2 gM u1 u2 (upd f i u) → wpList P ops Q rest (a.put o.dst undef) w') :
    wpList P ops Q (o :: rest) a w := by
  obtain ⟨n, hn⟩ := h.im
  exact wpList_insert_im w hg m x v t hop kt et ht hd gM n f hm hn i u hx hv (fun w' h1 h2 _ => hK w' (h.ins ⟨_, h1⟩ h2))
end
theorem zeroFn (w : World) : (zeroValue 106).run Tryd.prog w = .ok .nilFunc w := by kernel_rfl
def calc_Eval.f (a0 a1 a2 : Int) : Option Int := if inR a1 then some (evalL a0 a1 a2) else none
set_option maxRecDepth 100000 in
set_option maxHeartbeats 8000000 in
theorem calc_Eval.calls (a0 a1 a2 r : Int) (w : World) (h : calc_Eval.f a0 a1 a2 = some r) :
    Calls Tryd.prog 52 #[.int .i64 a0, .int .i64 a1, .int .i64 a2] w fun e w' => e = .returned (.int .i64 r) ∧ Below w.heap.size w w' := by
  unfold calc_Eval.f at h
  by_cases ha : inR a1
  case neg => rw [if_neg ha] at h; cases h
  rw [if_pos ha] at h
  obtain rfl := Option.some.inj h
  have hmm := @run_makeMap Tryd.prog
  have HT := Aside0.mk (evTab w.heap.size (w.heap.size + 1) a0 a1 a2 ha)
  clear h ha
  go_enter Tryd.func52, Tryd.ntmps52
  go_upto_region 1 with fail
  have k1 := blk_alloc (blk_new w (.cells #[.int .i64 a1] 2)) (.cells #[.int .i64 a2] 2)
  have k2 := blk_new (w.alloc (.cells #[.int .i64 a1] 2)) (.cells #[.int .i64 a2] 2)
  have k3 : Below w.heap.size w ((w.alloc (.cells #[.int .i64 a1] 2)).alloc (.cells #[.int .i64 a2] 2)) := ((Below.refl _ _).alloc (Nat.le_refl _) _).alloc (by simp) _
  have k4 : ((w.alloc (.cells #[.int .i64 a1] 2)).alloc (.cells #[.int .i64 a2] 2)).heap.size = w.heap.size + 2 := by simp
  have k5 : (w.alloc (.cells #[.int .i64 a1] 2)).heap.size = w.heap.size + 1 := by simp
  rw [k5] at k2
  generalize hW1 : ((w.alloc (.cells #[.int .i64 a1] 2)).alloc (.cells #[.int .i64 a2] 2)) = W1 at k1 k2 k3 k4 ⊢
  have HS := Aside0.mk (show EvS (W1.alloc (.map #[] 0)) w w.heap.size (w.heap.size + 1) W1.heap.size a1 a2 (fun _ => none) from ⟨blk_alloc k1 _, blk_alloc k2 _, ⟨0, IM.made W1⟩, by omega, by omega, by omega, k3.alloc k3.size _⟩)
  clear k1 k2 k3 k4 k5 hW1
  go_upto_region 2 with (first | (refine wpList_insert_ev _ w _ _ _ _ _ _ rfl _ _ _ 110 rfl 3 106 Tryd.underlying110 rfl rfl HS.out _ _ rfl rfl ?_; intro w_ hs_; replace HS := Aside0.mk hs_; clear hs_))
  obtain ⟨nM, hM⟩ := HS.out.im
  have HIM := Aside0.mk (show IM _ W1.heap.size (evF w.heap.size (w.heap.size + 1)) nM from hM)
  have c1 := (blk_cell HS.out.b1 0).trans rfl
  have c2 := (blk_cell HS.out.b2 0).trans rfl
  clear hM
  rcases HT.out with ⟨hn, he⟩ | ⟨N, hN, eg, hC⟩
  · have HN := Aside0.mk hn
    have HE := Aside0.mk he
    clear hn he
    go_wp2_with (first | (at_lookup; refine wpList_lookup_ok_im _ rfl _ _ 110 rfl 3 106 Tryd.underlying110 rfl _ (zeroFn _) W1.heap.size nM (evF w.heap.size (w.heap.size + 1)) rfl HIM.out a0 rfl ?_; simp only [HN.out, Option.getD_none, Option.isSome_none]))
    go_ret
    exact ⟨by rw [HE.out]; rfl, HS.out.bel⟩
  · have HN := Aside0.mk hN
    have HC := Aside0.mk (hC _ c1 c2)
    clear hN hC
    go_wp2_with (first | (at_lookup; refine wpList_lookup_ok_im _ rfl _ _ 110 rfl 3 106 Tryd.underlying110 rfl _ (zeroFn _) W1.heap.size nM (evF w.heap.size (w.heap.size + 1)) rfl HIM.out a0 rfl ?_; simp only [HN.out, Option.getD_some, Option.isSome_some]))
    refine HC.out.mono ?_
    rintro e w2 ⟨rfl, hb2⟩
    have HB2 := Aside0.mk (HS.out.bel.trans (hb2.mono HS.out.bel.size))
    clear hb2
    go_wp2_with fail
    go_ret
    exact ⟨rfl, HB2.out⟩
end Go.Proofs.YtfhjkkcdeigkdaaDoor.PFoldRuns

namespace Go.Proofs.YtfhjkkcdeigkdaaDoor.PFoldRuns
open Go.RowKit Go.Proofs.YtfhjkkcdeigkdaaDoorW.PrintWords Go.Proofs.YtfhjkkcdeigkdaaDoorW.PrintLast Go.Proofs.YtfhjkkcdeigkdaaDoorW.PrintMore
set_option linter.unusedVariables false
set_option linter.unusedSimpArgs false
/-! fold.all ends, and its answer is the greatest. -/
def wK (L : Nat) : Option KL → Nat
  | none => L + 1
  | some m => m.length
def szK (L : Nat) (o : OS) : Nat := (o.map (wK L)).sum
theorem szK_set (L : Nat) : ∀ (o : OS) (i : Nat) (v : Option KL), i < o.length → szK L (o.set i v) + wK L (o.getD i none) = szK L o + wK L v
  | [], i, v, h => by simp at h
  | x :: o, 0, v, h => by simp [szK]; omega
  | x :: o, i + 1, v, h => by
    have := szK_set L o i v (by simpa using h)
    simp only [szK, List.set_cons_succ, List.map_cons, List.sum_cons, List.getD_cons_succ] at *
    omega
theorem osGet_set (o : OS) (i j : Nat) (v : Option KL) (hi : i < o.length) : (o.set i v).getD j none = if j = i then v else o.getD j none := by
  by_cases h : j = i
  · subst h
    rw [if_pos rfl, List.getD_eq_getElem?_getD, List.getElem?_set, if_pos rfl, if_pos hi]; rfl
  · rw [if_neg h]
    simp only [List.getD_eq_getElem?_getD]
    rw [List.getElem?_set, if_neg (fun e => h e.symm)]
structure PInv (c : List S53) (a : Nat) (m0 : KL) (ds : List Int) (o : OS) (wt : List Int) : Prop where
  len : o.length = c.length
  z0 : o.getD 0 none = some []
  ok : ∀ i m, o.getD i none = some m → NdK m ∧ ∀ y ∈ m, KeyOK c y
  wt_ : ∀ b ∈ wt, 0 ≤ b ∧ b < (c.length : Int) ∧ ∃ m, o.getD b.toNat none = some m
  top : ∀ Y, PostK c Y → ∀ i m, o.getD i none = some m → ∃ y, Y i = some y ∧ leK y (kgetL m)
  fix : ∀ i : Nat, i < c.length → i ≠ a → (i : Int) ∉ wt → ∀ m, o.getD i none = some m → ∀ n ∈ nxI c (i : Int), ∃ m', o.getD n.toNat none = some m' ∧ leK (kgetL m') (behK (kgetL m) (c.getD i z53))
  fixa : (a : Int) ∉ wt → o.getD a none = some m0 ∧ ∀ n ∈ ds, ∃ m', o.getD n.toNat none = some m' ∧ leK (kgetL m') (behK (kgetL m0) (c.getD a z53))
structure FInv (c : List S53) (o : OS) (wt : List Int) : Prop where
  len : o.length = c.length
  z0 : o.getD 0 none = some []
  ok : ∀ i m, o.getD i none = some m → NdK m ∧ ∀ y ∈ m, KeyOK c y
  wt_ : ∀ b ∈ wt, 0 ≤ b ∧ b < (c.length : Int) ∧ ∃ m, o.getD b.toNat none = some m
  top : ∀ Y, PostK c Y → ∀ i m, o.getD i none = some m → ∃ y, Y i = some y ∧ leK y (kgetL m)
  fix : ∀ i : Nat, i < c.length → (i : Int) ∉ wt → ∀ m, o.getD i none = some m → ∀ n ∈ nxI c (i : Int), ∃ m', o.getD n.toNat none = some m' ∧ leK (kgetL m') (behK (kgetL m) (c.getD i z53))
theorem keys_len {c : List S53} {m : KL} (h : NdK m) (hk : ∀ y ∈ m, KeyOK c y) : m.length ≤ c.length := by
  have := nodup_len (S := m.map Prod.fst) (T := DS c) h (fun r hr => by
    obtain ⟨y, hy, rfl⟩ := List.mem_map.1 hr
    exact (hk y hy).1)
  simpa [DS] using this
theorem known_in {c : List S53} {m : KL} (h : NdK m) (hk : ∀ y ∈ m, KeyOK c y) (r v : Int) (hv : kgetL m r = some v) : inR v := (hk _ ((kget_mem h r v).1 hv)).2
theorem zeroR : inR 0 := by unfold inR; omega
theorem kn_in {F : KF} (h : ∀ r v, F r = some v → inR v) (r : Int) : inR (knQ F r).1 := by
  unfold knQ
  cases hf : F r with
  | none => exact zeroR
  | some v => exact h r v hf
theorem wrap_inR (x : Int) : inR (wrap64 x) := by unfold inR wrap64; omega
theorem bits_inR (op : BinOp) (a b : Int) (h : op = .and ∨ op = .or ∨ op = .xor) : inR (bits op .i64 a b) := by
  have key : ∀ x : Int, inR (IntKind.i64.wrap x) := fun x => by rw [Go.IntWalk.i64_left]; exact wrap_inR x
  rcases h with rfl | rfl | rfl <;> exact key _
theorem told_inR (b : Bool) : inR (toldL b) := by unfold toldL inR; cases b <;> decide
theorem ev_inR (o a b : Int) (ha : inR a) : inR (evalL o a b) := by
  by_cases h : 0 ≤ o ∧ o ≤ 18
  · have : o = 0 ∨ o = 1 ∨ o = 2 ∨ o = 3 ∨ o = 4 ∨ o = 5 ∨ o = 6 ∨ o = 7 ∨ o = 8 ∨ o = 9 ∨ o = 10 ∨ o = 11 ∨ o = 12 ∨ o = 13 ∨ o = 14 ∨ o = 15 ∨ o = 16 ∨ o = 17 ∨ o = 18 := by omega
    have hd : inR (divL a b) := by unfold divL; split; exact zeroR; split <;> exact wrap_inR _
    rcases this with rfl | rfl | rfl | rfl | rfl | rfl | rfl | rfl | rfl | rfl | rfl | rfl | rfl | rfl | rfl | rfl | rfl | rfl | rfl
    · rw [ev0_eq]; exact wrap_inR _
    · rw [ev1_eq]; exact wrap_inR _
    · rw [ev2_eq]; exact wrap_inR _
    · rw [ev3_eq]; exact hd
    · rw [ev4_eq]; exact wrap_inR _
    · rw [ev5_eq]; exact bits_inR _ _ _ (.inl rfl)
    · rw [ev6_eq]; exact bits_inR _ _ _ (.inr (.inl rfl))
    · rw [ev7_eq]; exact bits_inR _ _ _ (.inr (.inr rfl))
    · rw [ev_shl a b ha]; exact wrap_inR _
    · rw [ev_shr a b ha]
      have hp : (1 : Int) ≤ 2 ^ shN b := by exact_mod_cast Nat.one_le_two_pow
      unfold inR at ha ⊢
      generalize (2 : Int) ^ shN b = p at hp ⊢
      rw [Int.fdiv_eq_ediv_of_nonneg _ (by omega)]
      have e := Int.emod_add_mul_ediv a p
      have e0 := Int.emod_nonneg a (show p ≠ 0 by omega)
      have e1 := Int.emod_lt_of_pos a (show 0 < p by omega)
      constructor
      · refine Int.le_ediv_of_mul_le (by omega) ?_
        have : (9223372036854775808 : Int) * 1 ≤ 9223372036854775808 * p := Int.mul_le_mul_of_nonneg_left hp (by omega)
        rw [Int.neg_mul]
        omega
      · by_cases hneg : a < 0
        · have : a / p < 0 := Int.ediv_neg_of_neg_of_pos hneg (by omega)
          omega
        · have := Int.ediv_le_self p (show 0 ≤ a by omega)
          omega
    · rw [ev10_eq]; exact told_inR _
    · rw [ev11_eq]; exact told_inR _
    · rw [ev12_eq]; exact told_inR _
    · rw [ev13_eq]; exact told_inR _
    · rw [ev14_eq]; exact told_inR _
    · rw [ev15_eq]; exact told_inR _
    · rw [ev16_eq]; exact told_inR _
    · rw [ev17_eq]; exact told_inR _
    · rw [ev18_eq]; exact told_inR _
  · rw [ev_none o a b h]; exact zeroR
theorem val_inR {F : KF} (h : ∀ r v, F r = some v → inR v) {x : S53} (hx : inR x.f5) : inR (valQ F x).1 := by
  have k := kn_in h
  unfold valQ
  repeat' split
  all_goals first | exact hx | exact k _ | exact ev_inR _ _ _ (k _) | exact zeroR
theorem keys_beh {c : List S53} {m : KL} (hn : NdK m) (hk : ∀ y ∈ m, KeyOK c y) {x : S53} (hx : x ∈ c) (hx5 : inR x.f5) : ∀ y ∈ kbehL m x, KeyOK c y := by
  intro y hy
  unfold kbehL at hy
  split at hy
  · rename_i hd
    have hdx : defI x ∈ DS c := by
      have : defI x = x.f2 := by unfold defI at hd ⊢; split <;> simp_all
      rw [this]
      exact List.mem_map.2 ⟨x, hx, rfl⟩
    split at hy
    · rcases List.mem_append.1 hy with hy | hy
      · exact hk y (List.mem_filter.1 hy).1
      · rw [List.mem_singleton.1 hy]; exact ⟨hdx, val_inR (known_in hn hk) hx5⟩
    · exact hk y (List.mem_filter.1 hy).1
  · exact hk y hy
theorem okV_of {c : List S53} {m : KL} (hn : NdK m) (hk : ∀ y ∈ m, KeyOK c y) (x : S53) : okV m x := .inr (kn_in (known_in hn hk) _)
section
variable {c : List S53} {o : OS} {wt : List Int} {a : Nat} {m0 : KL} {ds : List Int}
/-- one place that is gone to -/
theorem PInv.step (h5 : ∀ x ∈ c, inR x.f5) (hN : NextOK c) (h : PInv c a m0 ds o wt) (ha : a < c.length) (hm0 : NdK m0 ∧ ∀ y ∈ m0, KeyOK c y) (hY : ∀ Y, PostK c Y → ∃ y, Y a = some y ∧ leK y (kgetL m0)) {n : Int} (hn : n ∈ nxI c (a : Int)) :
    PInv c a m0 (n :: ds) (fStep o wt (kbehL m0 (c.getD a z53)) n).1 (fStep o wt (kbehL m0 (c.getD a z53)) n).2 ∧
    szK c.length (fStep o wt (kbehL m0 (c.getD a z53)) n).1 + (fStep o wt (kbehL m0 (c.getD a z53)) n).2.length ≤ szK c.length o + wt.length := by
  obtain ⟨n0, n1⟩ := hN a ha n hn
  have hnl : n.toNat < o.length := by rw [h.len]; omega
  have hx : c.getD a z53 ∈ c := by rw [List.getD_eq_getElem?_getD, List.getElem?_eq_getElem ha]; exact List.getElem_mem _
  obtain ⟨kk, hkk⟩ : ∃ kk, kk = kbehL m0 (c.getD a z53) := ⟨_, rfl⟩
  have hkn : NdK kk := hkk ▸ nd_beh hm0.1 _
  have hkd : ∀ y ∈ kk, KeyOK c y := hkk ▸ keys_beh hm0.1 hm0.2 hx (h5 _ hx)
  have hkl := keys_len hkn hkd
  have hkg : kgetL kk = behK (kgetL m0) (c.getD a z53) := by rw [hkk]; exact kget_beh _ _
  rw [← hkk]
  -- what the step does
  have key : ∃ (v : KL) (wt' : List Int), fStep o wt kk n = (o.set n.toNat (some v), wt') ∧ leK (kgetL v) (kgetL kk) ∧ (∀ m, o.getD n.toNat none = some m → leK (kgetL v) (kgetL m)) ∧ (n ∈ wt' ∨ o.getD n.toNat none = some v) ∧ (∀ b ∈ wt, b ∈ wt') ∧ (∀ b ∈ wt', b ∈ wt ∨ b = n) ∧
      NdK v ∧ (∀ y ∈ v, KeyOK c y) ∧ (∀ y, leK y (kgetL kk) → (∀ m, o.getD n.toNat none = some m → leK y (kgetL m)) → leK y (kgetL v)) ∧ szK c.length (o.set n.toNat (some v)) + wt'.length ≤ szK c.length o + wt.length ∧ (n.toNat = 0 → v = []) := by
    have push : ∀ {w : List Int}, w = (if wt.contains n = true then wt else wt ++ [n]) → n ∈ w ∧ (∀ b ∈ wt, b ∈ w) ∧ (∀ b ∈ w, b ∈ wt ∨ b = n) ∧ w.length ≤ wt.length + 1 := by
      intro w hw
      by_cases hc : wt.contains n = true
      · rw [if_pos hc] at hw
        subst hw
        exact ⟨by simpa using hc, fun b hb => hb, fun b hb => .inl hb, by omega⟩
      · rw [if_neg hc] at hw
        subst hw
        exact ⟨by simp, fun b hb => by simp [hb], fun b hb => by simpa using hb, by simp⟩
    have hsz := szK_set c.length o n.toNat
    unfold fStep
    cases hon : o.getD n.toNat none with
    | none =>
      obtain ⟨p1, p2, p3, p4⟩ := push rfl
      have := hsz (some kk) hnl
      rw [hon] at this
      simp only [wK] at this
      refine ⟨kk, _, rfl, leK.refl _, fun m hm => (by cases hm), .inl p1, p2, p3, hkn, hkd, fun y hy _ => hy, by omega, fun hz => ?_⟩
      rw [hz, h.z0] at hon; cases hon
    | some m =>
      have hmok := h.ok _ _ hon
      have hg := kget_meet hmok.1 kk
      have := hsz (some (kmeetL m kk)) hnl
      rw [hon] at this
      simp only [wK] at this
      have hle := meet_len m kk
      have hz : n.toNat = 0 → kmeetL m kk = [] := fun hz => by
        rw [hz, h.z0] at hon
        rw [← Option.some.inj hon]; rfl
      by_cases hlt : (kmeetL m kk).length < m.length
      · obtain ⟨p1, p2, p3, p4⟩ := push rfl
        refine ⟨kmeetL m kk, _, by simp only [if_pos hlt], hg ▸ meet_le2 _ _, fun m' hm' => ?_, .inl p1, p2, p3, nd_filter hmok.1 _, fun y hy => hmok.2 y (List.mem_filter.1 hy).1, fun y h1 h2 => hg ▸ le_meet (h2 m rfl) h1, by omega, hz⟩
        obtain rfl := Option.some.inj hm'
        exact hg ▸ meet_le1 _ _
      · have hs := meet_same hlt
        refine ⟨kmeetL m kk, wt, by simp only [if_neg hlt], hg ▸ meet_le2 _ _, fun m' hm' => ?_, .inr (by rw [hs]), fun b hb => hb, fun b hb => .inl hb, nd_filter hmok.1 _, fun y hy => hmok.2 y (List.mem_filter.1 hy).1, fun y h1 h2 => hg ▸ le_meet (h2 m rfl) h1, by omega, hz⟩
        obtain rfl := Option.some.inj hm'
        exact hg ▸ meet_le1 _ _
  obtain ⟨v, wt', he, v1, v2, v3, w1, w2, v4, v5, v6, v7, v8⟩ := key
  rw [he]
  dsimp only
  have gs := fun j => osGet_set o n.toNat j (some v) hnl
  refine ⟨⟨by rw [List.length_set]; exact h.len, ?_, ?_, ?_, ?_, ?_, ?_⟩, v7⟩
  · rw [gs]
    split
    · rename_i hz; rw [v8 hz.symm]
    · exact h.z0
  · intro i m hm
    rw [gs] at hm
    split at hm
    · rw [← Option.some.inj hm]; exact ⟨v4, v5⟩
    · exact h.ok i m hm
  · intro b hb
    have hbn : 0 ≤ b ∧ b < (c.length : Int) := by
      rcases w2 b hb with hb | rfl
      · exact ⟨(h.wt_ b hb).1, (h.wt_ b hb).2.1⟩
      · exact ⟨n0, n1⟩
    refine ⟨hbn.1, hbn.2, ?_⟩
    rw [gs]
    split
    · exact ⟨v, rfl⟩
    · rename_i hne
      rcases w2 b hb with hb | rfl
      · exact (h.wt_ b hb).2.2
      · exact absurd rfl hne
  · intro Y hPY i m hm
    rw [gs] at hm
    split at hm
    · rename_i hi
      rw [← Option.some.inj hm, hi]
      obtain ⟨y0, hy0, hle0⟩ := hY Y hPY
      obtain ⟨y, hy, hle⟩ := hPY.go a ha y0 hy0 n hn
      refine ⟨y, hy, v6 y (hkg ▸ hle.trans (beh_le hle0 _)) (fun m hm => ?_)⟩
      obtain ⟨y', hy', hle'⟩ := h.top Y hPY _ m hm
      rw [hy] at hy'
      obtain rfl := Option.some.inj hy'
      exact hle'
    · exact h.top Y hPY i m hm
  · intro i hi hia hiw m hm q hq
    have hiw0 : (i : Int) ∉ wt := fun hb => hiw (w1 _ hb)
    rw [gs] at hm
    have hm' : o.getD i none = some m := by
      split at hm
      · rename_i hin
        rcases v3 with v3 | v3
        · exact absurd (show (i : Int) ∈ wt' by rw [show (i : Int) = n by omega]; exact v3) hiw
        · rw [hin, v3]; exact hm
      · exact hm
    obtain ⟨m', e1, e2⟩ := h.fix i hi hia hiw0 m hm' q hq
    rw [gs]
    split
    · rename_i hqn
      rw [hqn] at e1
      exact ⟨v, rfl, (v2 m' e1).trans e2⟩
    · exact ⟨m', e1, e2⟩
  · intro haw
    have haw0 : (a : Int) ∉ wt := fun hb => haw (w1 _ hb)
    obtain ⟨e1, e2⟩ := h.fixa haw0
    constructor
    · rw [gs]
      split
      · rename_i han
        rcases v3 with v3 | v3
        · exact absurd (show (a : Int) ∈ wt' by rw [show (a : Int) = n by omega]; exact v3) haw
        · rw [han] at e1; rw [← e1, v3]
      · exact e1
    · intro q hq
      rcases List.mem_cons.1 hq with rfl | hq
      · rw [gs, if_pos rfl]
        exact ⟨v, rfl, hkg ▸ v1⟩
      · obtain ⟨m', f1, f2⟩ := e2 q hq
        rw [gs]
        split
        · rename_i hqn
          rw [hqn] at f1
          exact ⟨v, rfl, (v2 m' f1).trans f2⟩
        · exact ⟨m', f1, f2⟩
theorem PInv.steps (h5 : ∀ x ∈ c, inR x.f5) (hN : NextOK c) (ha : a < c.length) (hm0 : NdK m0 ∧ ∀ y ∈ m0, KeyOK c y) (hY : ∀ Y, PostK c Y → ∃ y, Y a = some y ∧ leK y (kgetL m0)) : ∀ (ns : List Int) (ds : List Int) (o : OS) (wt : List Int), (∀ n ∈ ns, n ∈ nxI c (a : Int)) → PInv c a m0 ds o wt →
    ∃ p, fSteps (kbehL m0 (c.getD a z53)) ns o wt = some p ∧ PInv c a m0 (ns.reverse ++ ds) p.1 p.2 ∧ szK c.length p.1 + p.2.length ≤ szK c.length o + wt.length
  | [], ds, o, wt, hn, h => ⟨(o, wt), rfl, h, Nat.le_refl _⟩
  | n :: ns, ds, o, wt, hn, h => by
    obtain ⟨n0, n1⟩ := hN a ha n (hn n List.mem_cons_self)
    obtain ⟨h1, h2⟩ := PInv.step h5 hN h ha hm0 hY (hn n List.mem_cons_self)
    obtain ⟨p, q1, q2, q3⟩ := PInv.steps h5 hN ha hm0 hY ns (n :: ds) _ _ (fun m hm => hn m (List.mem_cons_of_mem _ hm)) h1
    refine ⟨p, ?_, ?_, by omega⟩
    · rw [fSteps, if_pos ⟨n0, by rw [h.len]; exact n1⟩]; exact q1
    · rw [List.reverse_cons, List.append_assoc]; exact q2
theorem FInv.run (h5 : ∀ x ∈ c, inR x.f5) (hN : NextOK c) : ∀ (d : Nat) (o : OS) (wt : List Int), d ≤ 1500000 → FInv c o wt → szK c.length o + wt.length ≤ d → ∃ r, (∀ k, d < k → fold_all.l c k o wt = some r) ∧ FInv c r []
  | d, o, [], hD, h, hd => ⟨o, fun k hk => by
      cases k with
      | zero => omega
      | succ k => rfl, h⟩
  | 0, o, a :: wt, hD, h, hd => by simp at hd
  | d + 1, o, a :: wt, hD, h, hd => by
    obtain ⟨a0, a1, m0, hm0⟩ := h.wt_ a List.mem_cons_self
    have hat : a.toNat < c.length := by omega
    have hia : ((a.toNat : Nat) : Int) = a := by omega
    have hP : PInv c a.toNat m0 [] o wt := ⟨h.len, h.z0, h.ok, fun b hb => h.wt_ b (List.mem_cons_of_mem _ hb), h.top, fun i hi hne hw m hm => h.fix i hi (by
      intro hb
      rcases List.mem_cons.1 hb with hb | hb
      · exact hne (by omega)
      · exact hw hb) m hm, fun _ => ⟨hm0, fun n hn => by cases hn⟩⟩
    obtain ⟨p, q1, q2, q3⟩ := PInv.steps h5 hN hat (h.ok _ _ hm0) (fun Y hY => h.top Y hY _ _ hm0) (nxI c ((a.toNat : Nat) : Int)) [] o wt (fun n hn => hn) hP
    have hW : FInv c p.1 p.2 := ⟨q2.len, q2.z0, q2.ok, q2.wt_, q2.top, fun i hi hw m hm n hn => by
      by_cases hne : i = a.toNat
      · subst hne
        obtain ⟨e1, e2⟩ := q2.fixa hw
        rw [e1] at hm
        obtain rfl := Option.some.inj hm
        exact e2 n (by simpa using hn)
      · exact q2.fix i hi hne hw m hm n hn⟩
    obtain ⟨r, r1, r2⟩ := FInv.run h5 hN d p.1 p.2 (by omega) hW (by simp at hd; omega)
    refine ⟨r, fun k hk => ?_, r2⟩
    obtain ⟨k, rfl⟩ : ∃ k', k = k' + 1 := ⟨k - 1, by omega⟩
    rw [fold_all.l, if_pos ⟨a0, a1, h.len, by simp at hd; omega⟩, hm0, Option.bind_some]
    rw [hia] at q1
    rw [show ins_Next.f (c.getD a.toNat z53).f0 (c.getD a.toNat z53).f1 (c.getD a.toNat z53).f2 (c.getD a.toNat z53).f3 (c.getD a.toNat z53).f4 (c.getD a.toNat z53).f5 (c.getD a.toNat z53).f6 a = some (nxI c a) from rfl, Option.bind_some, show fold_behind.f m0 (c.getD a.toNat z53) = some (kbehL m0 (c.getD a.toNat z53)) from if_pos (okV_of (h.ok _ _ hm0).1 (h.ok _ _ hm0).2 _), Option.bind_some, q1, Option.bind_some]
    exact r1 k (by omega)
theorem sumRep (a : Nat) : ∀ n : Nat, (List.replicate n a).sum = n * a
  | 0 => by simp
  | n + 1 => by rw [List.replicate_succ, List.sum_cons, sumRep a n, Nat.succ_mul]; omega
theorem all_ev (h5 : ∀ x ∈ c, inR x.f5) (hN : NextOK c) (h0 : 0 < c.length) (hl : c.length ≤ 1000) : ∃ r, Ev (fun k => fold_all.f k c) r ∧ r.length = c.length ∧ GreatK c (fun i => (r.getD i none).map kgetL) ∧ ∀ i m, r.getD i none = some m → NdK m ∧ ∀ y ∈ m, KeyOK c y := by
  have gi := fun j => osGet_set (List.replicate c.length none) 0 j (some []) (by simpa using h0)
  have gn : ∀ j, (List.replicate c.length (none : Option KL)).getD j none = none := fun j => by
    rw [List.getD_eq_getElem?_getD, List.getElem?_replicate]; split <;> rfl
  have hz : ∀ (i : Nat) (m : KL), ((List.replicate c.length (none : Option KL)).set 0 (some [])).getD i none = some m → i = 0 ∧ m = [] := by
    intro i m hm
    rw [gi] at hm
    split at hm
    · rename_i e; exact ⟨e, (Option.some.inj hm).symm⟩
    · rw [gn] at hm; cases hm
  have hW : FInv c ((List.replicate c.length none).set 0 (some [])) [0] := by
    refine ⟨by simp, by rw [gi, if_pos rfl], fun i m hm => ?_, fun b hb => ?_, fun Y hY i m hm => ?_, fun i hi hw m hm => ?_⟩
    · rw [(hz i m hm).2]; exact ⟨List.nodup_nil, fun y hy => by cases hy⟩
    · rw [List.mem_singleton.1 hb]; exact ⟨by omega, by omega, [], by rw [gi]; rfl⟩
    · obtain ⟨rfl, rfl⟩ := hz i m hm
      obtain ⟨y, hy, hyn⟩ := hY.zero
      exact ⟨y, hy, fun r v hv => by rw [hyn] at hv; cases hv⟩
    · exact absurd (by rw [(hz i m hm).1]; simp) hw
  have hsz : szK c.length ((List.replicate c.length none).set 0 (some [])) + [(0 : Int)].length ≤ 1500000 := by
    have h1 := szK_set c.length (List.replicate c.length none) 0 (some []) (by simpa using h0)
    rw [gn] at h1
    have h2 : szK c.length (List.replicate c.length none) = c.length * (c.length + 1) := by
      unfold szK
      rw [List.map_replicate, sumRep]
      rfl
    have h3 : c.length * (c.length + 1) ≤ 1000 * 1001 := Nat.mul_le_mul hl (by omega)
    simp only [wK, List.length_nil] at h1
    simp only [List.length_singleton]
    omega
  obtain ⟨d, hd1, hd⟩ : ∃ d, d ≤ 1500000 ∧ szK c.length ((List.replicate c.length none).set 0 (some [])) + [(0 : Int)].length ≤ d := ⟨_, hsz, Nat.le_refl _⟩
  obtain ⟨r, r1, r2⟩ := FInv.run h5 hN d _ _ hd1 hW hd
  refine ⟨r, ⟨d + 1, fun k hk => ?_⟩, r2.len, ⟨⟨⟨_, by show (r.getD 0 none).map kgetL = _; rw [r2.z0]; rfl, fun _ => rfl⟩, fun i hi z hzz n hn => ?_⟩, fun Y hY i z hzz => ?_⟩, r2.ok⟩
  · show fold_all.f k c = some r
    unfold fold_all.f
    rw [if_pos hl, if_neg (by rintro rfl; simp at h0)]
    exact r1 k hk
  · obtain ⟨m, hm, rfl⟩ := Option.map_eq_some_iff.1 hzz
    obtain ⟨m', e1, e2⟩ := r2.fix i hi (by simp) m hm n hn
    exact ⟨kgetL m', by show (r.getD n.toNat none).map kgetL = _; rw [e1]; rfl, e2⟩
  · obtain ⟨m, hm, rfl⟩ := Option.map_eq_some_iff.1 hzz
    exact r2.top Y hY i m hm
end
end Go.Proofs.YtfhjkkcdeigkdaaDoor.PFoldRuns
