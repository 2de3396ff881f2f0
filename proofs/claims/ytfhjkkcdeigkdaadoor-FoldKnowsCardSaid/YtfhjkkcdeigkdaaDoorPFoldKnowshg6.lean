import Derived.Test.YtfhjkkcdeigkdaaDoorPFoldKnowsx0
import Derived.Test.YtfhjkkcdeigkdaaDoorPFoldKnowsx3
import Derived.Test.YtfhjkkcdeigkdaaDoorPFoldKnowsx6
import Derived.Test.YtfhjkkcdeigkdaaDoorPFoldKnowshg1
import Derived.Test.YtfhjkkcdeigkdaaDoorPFoldKnowshg5
import Derived.Test.YtfhjkkcdeigkdaaDoorPFoldKnowshg3
import Derived.Test.YtfhjkkcdeigkdaaDoorPFoldKnowshg2
import Derived.Test.YtfhjkkcdeigkdaaDoorPFoldKnowshforms
import Derived.Test.YtfhjkkcdeigkdaaDoorPFoldKnowshg7
import Derived.Test.YtfhjkkcdeigkdaaDoorPFoldKnowshg8
import Derived.Test.YtfhjkkcdeigkdaaDoorPFoldKnowshg0
import Derived.KernelRfl
namespace Go.Proofs.YtfhjkkcdeigkdaaDoor.PFoldKnows
open Go.RowKit Go.Proofs.YtfhjkkcdeigkdaaDoorW.PrintWords Go.Proofs.YtfhjkkcdeigkdaaDoorW.PrintLast Go.Proofs.YtfhjkkcdeigkdaaDoorW.PrintMore
set_option linter.unusedVariables false
set_option linter.unusedSimpArgs false
open Go.Shelf
/-! Chapter 16: the document's example; a checked code; the code in which what is known stands may be. -/
def twoM (a b : Int) : List Int := if a < b then [a, b] else if a = b then [a] else [b, a]
theorem pair_sorted {a b : Int} {l : List Int} (h : l.Pairwise (· < ·)) (hm : ∀ i, i ∈ l ↔ i = a ∨ i = b) : l = twoM a b := by
  have ha := (hm a).2 (.inl rfl)
  have hb := (hm b).2 (.inr rfl)
  unfold twoM
  match l, h, hm, ha, hb with
  | [], _, _, ha, _ => cases ha
  | [x], _, _, ha, hb =>
    have e1 := List.mem_singleton.1 ha
    have e2 := List.mem_singleton.1 hb
    rw [if_neg (by omega), if_pos (by omega), e1]
  | [x, y], h, hm, ha, hb =>
    have hxy : x < y := by simpa using h
    have h1 := (hm x).1 (by simp)
    have h2 := (hm y).1 (by simp)
    by_cases hab : a < b
    · rw [if_pos hab, show x = a by omega, show y = b by omega]
    · rw [if_neg hab, if_neg (by omega), show x = b by omega, show y = a by omega]
  | x :: y :: z :: t, h, hm, _, _ =>
    have h1 := (hm x).1 (by simp)
    have h2 := (hm y).1 (by simp)
    have h3 := (hm z).1 (by simp)
    simp only [List.pairwise_cons] at h
    have k1 := h.1 y (by simp)
    have k2 := h.2.1 z (by simp)
    omega
theorem twoL_eq (a b : Int) : twoL a b = twoM a b := pair_sorted (twoL_spec a b).1 (twoL_spec a b).2
def nextM (x : S53) (a1 : Int) : Option (List Int) := some (if ¬ (0 ≤ x.f0 ∧ x.f0 < 14) ∨ fmB 9 x.f0 = true then [] else if x.f0 = 6 then [x.f6] else if x.f0 = 7 then twoM (wrap64 (a1 + 1)) x.f6 else [wrap64 (a1 + 1)])
theorem nextM_eq (x : S53) (a1 : Int) : ins_Next.f x.f0 x.f1 x.f2 x.f3 x.f4 x.f5 x.f6 a1 = nextM x a1 := by
  unfold ins_Next.f nextM
  rw [twoL_eq]
def allM.l (c : List S53) : Nat → OS → List Int → Option OS
  | 0, _, _ => none
  | k + 1, o, [] => some o
  | k + 1, o, a :: wt => if 0 ≤ a ∧ a < (c.length : Int) ∧ o.length = c.length ∧ wt.length ≤ 1500000 then (o.getD a.toNat none).bind fun m => (nextM (c.getD a.toNat z53) a).bind fun L =>
      (fold_behind.f m (c.getD a.toNat z53)).bind fun kk => (fSteps kk L o wt).bind fun p => allM.l c k p.1 p.2 else none
theorem allM.eq (c : List S53) : ∀ (k : Nat) (o : OS) (wt : List Int), fold_all.l c k o wt = allM.l c k o wt
  | 0, _, _ => rfl
  | k + 1, o, [] => rfl
  | k + 1, o, a :: wt => by
    rw [fold_all.l, allM.l, nextM_eq]
    have ih : fold_all.l c k = allM.l c k := by funext o wt; exact allM.eq c k o wt
    rw [ih]
def allM.f (k : Nat) (c : List S53) : Option OS := if c.length ≤ 1000 then (if c = [] then some [] else allM.l c k ((List.replicate c.length none).set 0 (some [])) [0]) else none
theorem allM.same : fold_all.f = allM.f := by
  funext k c
  unfold fold_all.f allM.f
  rw [allM.eq]
def codeM (k : Nat) (l0 : List S53) : Option (List S53) := if l0.length ≤ 1000 then (allM.f k l0).bind fun o => if o.length = l0.length ∧ (List.range l0.length).all (fun i => okO (o.getD i none) (l0.getD i z53)) = true then some (codeL l0 o) else none else none
theorem codeM_same : fold_Code.f = codeM := by
  funext k c
  unfold fold_Code.f codeM
  rw [allM.same]
def knownM (k : Nat) (l0 : List S53) (a1 a2 : Int) : Option (Int × Bool) := if 0 ≤ a1 ∧ a1 < (l0.length : Int) then (allM.f k l0).bind fun o => if o.length = l0.length then some (knO (o.getD a1.toNat none) a2) else none else some (0, false)
theorem knownM_same : fold_Known.f = knownM := by
  funext k c a b
  unfold fold_Known.f knownM
  rw [allM.same]
theorem awake16 : Ev (fun k => palinglaw16_awake.f k) true := Ev.of palinglaw16_awake.mono (k := 20) (by
  unfold palinglaw16_awake.f
  rw [codeM_same, knownM_same]
  decide +kernel)
theorem check_unique {k : Nat} {l : List S53} {a b : Int} {v : Bool} (h : palingref11_Check.f k l a b = some v) : checkB l a b = v := by
  obtain ⟨k0, h0⟩ := check_spec l a b
  have h1 := h0 (k + k0) (by omega)
  have up : ∀ j, palingref11_Check.f (k + j) l a b = some v := fun j => by
    induction j with
    | zero => exact h
    | succ j ih => exact palingref11_Check.mono l a b (k + j) v ih
  exact Option.some.inj (h1.symm.trans (up k0))
theorem all_unique {k : Nat} {c : List S53} {o r : OS} (h : fold_all.f k c = some o) (hr : Ev (fun k => fold_all.f k c) r) : o = r := by
  obtain ⟨k0, h0⟩ := hr
  have h1 := h0 (k + k0) (by omega)
  have up : ∀ j, fold_all.f (k + j) c = some o := fun j => by
    induction j with
    | zero => exact h
    | succ j ih => exact fold_all.mono c (k + j) o ih
  exact Option.some.inj ((up k0).symm.trans h1)
theorem codeK_of {c : List S53} {R : Int} (hc : checkB c R 9 = true) (hl : c.length ≤ 1000) (h5 : ∀ x ∈ c, inR x.f5) : ∃ o, Ev (fun k => fold_all.f k c) o ∧ o.length = c.length ∧ CodeK c (fun i => (o.getD i none).map kgetL) ∧ ∀ i m, o.getD i none = some m → NdK m ∧ ∀ y ∈ m, KeyOK c y := by
  obtain ⟨h1, _, h3, h4⟩ := check_facts hc
  have hn := nextOK_of hc hl
  obtain ⟨o, ho, hol, hg, hk⟩ := all_ev h5 hn (by omega) hl
  have hx : ∀ i, i < c.length → oneB (c.getD i z53) c.length R 9 = true := fun i hi => h3 _ (by rw [List.getD_eq_getElem?_getD, List.getElem?_eq_getElem hi]; exact List.getElem_mem _)
  refine ⟨o, ho, hol, ⟨hl, by omega, hn, fun i hi => ?_, fun i hi hk5 => ?_, hg.post⟩, hk⟩
  · have h := hx i hi
    simp only [oneB, Bool.and_eq_true, decide_eq_true_eq] at h
    exact h.1
  · have h := hx i hi
    generalize c.getD i z53 = x at h hk5 ⊢
    simp only [oneB, Bool.and_eq_true, decide_eq_true_eq] at h
    obtain ⟨_, a2, _⟩ := h
    unfold regB at a2
    split at a2 <;> simp at a2 <;> omega
theorem one_check {m : KL} {x : S53} {n : Nat} {p : Int} (h : oneB x n 30 9 = true) (hp : x.f0 = 7 → 0 ≤ wrap64 (p + 1) ∧ wrap64 (p + 1) < (n : Int)) : oneB (oneQ m x p) n 30 9 = true := by
  have h0 := h
  simp only [oneB, Bool.and_eq_true, decide_eq_true_eq] at h
  obtain ⟨a1, a2, a3, a4, _, _, _, _, _, _, a6, a7⟩ := h
  have set_ok : ∀ v : Int, (x.f0 = 1 ∨ x.f0 = 2 ∨ x.f0 = 3) → oneB ⟨0, 0, x.f2, 0, 0, v, 0⟩ n 30 9 = true := fun v hk => by
    have hD : fD x.f0 = true := by unfold fD; rcases hk with h | h | h <;> rw [h] <;> rfl
    rw [hD] at a2
    simp only [oneB, Bool.and_eq_true, decide_eq_true_eq]
    refine ⟨by omega, ?_, by rfl, by rfl, by rfl, by omega, by omega, by rfl, by rfl, by rfl, by omega, by omega⟩
    exact a2
  have move_ok : ∀ r : Int, regB r 30 true false = true → (x.f0 = 1 ∨ x.f0 = 2 ∨ x.f0 = 3) → oneB ⟨1, 0, x.f2, r, 0, 0, 0⟩ n 30 9 = true := fun r hr hk => by
    have hD : fD x.f0 = true := by unfold fD; rcases hk with h | h | h <;> rw [h] <;> rfl
    rw [hD] at a2
    simp only [oneB, Bool.and_eq_true, decide_eq_true_eq]
    refine ⟨by omega, ?_, ?_, by rfl, by rfl, by omega, by omega, by rfl, by rfl, by rfl, by omega, by omega⟩
    · exact a2
    · exact hr
  have jump_ok : ∀ t : Int, 0 ≤ t ∧ t < (n : Int) → oneB ⟨6, 0, 0, 0, 0, 0, t⟩ n 30 9 = true := fun t ht => by
    simp only [oneB, Bool.and_eq_true, decide_eq_true_eq]
    refine ⟨by omega, by rfl, by rfl, by rfl, by rfl, by omega, by omega, by rfl, ?_, by rfl, ht.1, ht.2⟩
    have : fT 6 = true := rfl
    simp [this]
  unfold oneQ
  by_cases h12 : x.f0 = 1 ∨ x.f0 = 2
  · rw [if_pos h12]
    split
    · exact set_ok _ (by omega)
    · exact h0
  rw [if_neg h12]
  by_cases h3 : x.f0 = 3
  · rw [if_pos h3]
    split
    · exact h0
    · split
      · refine move_ok _ ?_ (by omega)
        have hD : fD x.f0 = true := by unfold fD; rw [h3]; rfl
        rw [hD] at a2
        exact a2
      · split
        · exact set_ok _ (by omega)
        · refine move_ok _ ?_ (by omega)
          have hB : fB x.f0 = true := by unfold fB; rw [h3]; rfl
          rw [hB] at a4
          exact a4
  rw [if_neg h3]
  by_cases h7 : x.f0 = 7
  · rw [if_pos h7]
    split
    · exact h0
    · split
      · exact jump_ok _ ⟨a6, a7⟩
      · exact jump_ok _ (hp h7)
  · rw [if_neg h7]; exact h0
theorem code_check {c : List S53} {o : OS} (hc : checkB c 30 9 = true) (hl : c.length ≤ 1000) : checkB (codeL c o) 30 9 = true := by
  obtain ⟨h1, h2, h3, h4⟩ := check_facts hc
  have hn := nextOK_of hc hl
  have hx : ∀ i, i < c.length → oneB (c.getD i z53) c.length 30 9 = true := fun i hi => h3 _ (by rw [List.getD_eq_getElem?_getD, List.getElem?_eq_getElem hi]; exact List.getElem_mem _)
  have hkind : ∀ i, i < c.length → 0 ≤ (c.getD i z53).f0 ∧ (c.getD i z53).f0 < 14 := fun i hi => by
    have h := hx i hi
    simp only [oneB, Bool.and_eq_true, decide_eq_true_eq] at h
    exact h.1
  have hlen := codeL_len c o
  simp only [checkB, Bool.and_eq_true, decide_eq_true_eq, List.all_eq_true]
  refine ⟨by omega, by omega, fun y hy => ?_, ?_⟩
  · obtain ⟨i, hi, rfl⟩ := List.mem_iff_getElem.1 hy
    have hi' : i < c.length := by omega
    have e : (codeL c o)[i] = oneO (o.getD i none) (c.getD i z53) (i : Int) := by
      rw [← codeL_get c o i hi', List.getD_eq_getElem?_getD, List.getElem?_eq_getElem hi]; rfl
    rw [e, hlen]
    cases o.getD i none with
    | none => exact hx i hi'
    | some m =>
      refine one_check (hx i hi') (fun h7 => ?_)
      have hs : ((i : Int) + 1) ∈ succL (c.getD i z53) i := by unfold succL; rw [if_neg (by omega), if_neg (by omega), if_pos h7]; exact List.mem_cons_self
      have := hn i hi' _ (succ_nxI hl hi' (hkind i hi') hs)
      rw [wrap_in (x := (i : Int) + 1) (by omega) (by omega)]
      exact this
  · have hp : c.length - 1 < c.length := by omega
    have e := codeL_get c o (c.length - 1) hp
    unfold endsB at h4 ⊢
    rw [show rd_T53 (codeL c o) (((codeL c o).length : Int) - 1) = (codeL c o).getD (c.length - 1) z53 by unfold rd_T53; rw [hlen, show ((c.length : Int) - 1).toNat = c.length - 1 by omega], e]
    rw [show rd_T53 c ((c.length : Int) - 1) = c.getD (c.length - 1) z53 by unfold rd_T53; rw [show ((c.length : Int) - 1).toNat = c.length - 1 by omega]] at h4
    simp only [Bool.or_eq_true, beq_iff_eq] at h4
    have hk : oneO (o.getD (c.length - 1) none) (c.getD (c.length - 1) z53) ((c.length - 1 : Nat) : Int) = c.getD (c.length - 1) z53 := by
      cases o.getD (c.length - 1) none with
      | none => rfl
      | some m =>
        show oneQ m _ _ = _
        unfold oneQ
        rw [if_neg (by omega), if_neg (by omega), if_neg (by omega)]
    rw [hk]
    simp only [Bool.or_eq_true, beq_iff_eq]
    exact h4
theorem code_unique {k : Nat} {c d e : List S53} (h : fold_Code.f k c = some d) (hr : Ev (fun k => fold_Code.f k c) e) : d = e := by
  obtain ⟨k0, h0⟩ := hr
  have h1 := h0 (k + k0) (by omega)
  have up : ∀ j, fold_Code.f (k + j) c = some d := fun j => by
    induction j with
    | zero => exact h
    | succ j ih => exact fold_Code.mono c (k + j) d ih
  exact Option.some.inj ((up k0).symm.trans h1)
/-- the law FoldKnows -/
def palinglaw16_FoldKnows.f (k : Nat) (l0 : List S53) (l1 : List Int) (_a2 : Int) : Option Bool :=
  (palinglaw16_awake.f k).bind fun up => if up = true then (if l0.length ≤ 40 ∧ l1.length ≤ 60 then (palingref11_Check.f k l0 12 9).bind fun ok => if ok = true then (if ∀ x ∈ l0, inR x.f5 then (fold_all.f k l0).bind fun _ => some true else none) else some true else some true) else none
theorem knows_holds (l0 : List S53) (l1 : List Int) (a2 : Int) (h5 : ∀ x ∈ l0, inR x.f5) : Ev (fun k => palinglaw16_FoldKnows.f k l0 l1 a2) true := by
  unfold palinglaw16_FoldKnows.f
  refine Ev.bind awake16 (Ev.tt ?_)
  by_cases hs : l0.length ≤ 40 ∧ l1.length ≤ 60
  · refine Ev.pos hs (Ev.bind (check_spec l0 12 9) ?_)
    cases hc : checkB l0 12 9 with
    | false => exact Ev.neg (by simp) (Ev.now _)
    | true =>
      obtain ⟨o, ho, _⟩ := codeK_of hc (by omega) h5
      exact Ev.pos rfl (Ev.pos h5 (Ev.bind ho (Ev.now _)))
  · exact Ev.neg hs (Ev.now _)
/-- the law FoldRuns -/
def palinglaw16_FoldRuns.f (k : Nat) (l0 : List S53) (l1 : List Int) (l2 : List Int) : Option Bool :=
  (palinglaw16_awake.f k).bind fun up => if up = true then (if l0.length ≤ 60 ∧ l1.length ≤ 60 ∧ l2.length ≤ 20 then (palingref11_Check.f k l0 30 9).bind fun ok => if ok = true then (if (∀ x ∈ l0, inR x.f5) ∧ (∀ x ∈ l2, 0 ≤ x ∧ x < 256) then (fold_Code.f k l0).bind fun d => (palingref11_Check.f k d 30 9).bind fun ok2 => if ok2 = true then some true else none else none) else some true else some true) else none
theorem fold_code_ev {c : List S53} {o : OS} (hl : c.length ≤ 1000) (ho : Ev (fun k => fold_all.f k c) o) (hol : o.length = c.length) (hk : ∀ i m, o.getD i none = some m → NdK m ∧ ∀ y ∈ m, KeyOK c y) : Ev (fun k => fold_Code.f k c) (codeL c o) := by
  unfold fold_Code.f
  refine Ev.pos hl (Ev.bind ho (Ev.pos ⟨hol, ?_⟩ (Ev.now _)))
  refine List.all_eq_true.2 fun i hi => ?_
  cases hq : o.getD i none with
  | none => rfl
  | some m => exact decide_eq_true (okV_of (hk i m hq).1 (hk i m hq).2 _)
theorem truns_holds (l0 : List S53) (l1 l2 : List Int) (h5 : ∀ x ∈ l0, inR x.f5) (h8 : ∀ x ∈ l2, 0 ≤ x ∧ x < 256) : Ev (fun k => palinglaw16_FoldRuns.f k l0 l1 l2) true := by
  unfold palinglaw16_FoldRuns.f
  refine Ev.bind awake16 (Ev.tt ?_)
  by_cases hs : l0.length ≤ 60 ∧ l1.length ≤ 60 ∧ l2.length ≤ 20
  · refine Ev.pos hs (Ev.bind (check_spec l0 30 9) ?_)
    cases hc : checkB l0 30 9 with
    | false => exact Ev.neg (by simp) (Ev.now _)
    | true =>
      obtain ⟨o, ho, hol, _, hk⟩ := codeK_of hc (by omega) h5
      have hck := check_spec (codeL l0 o) 30 9
      rw [code_check hc (by omega)] at hck
      exact Ev.pos rfl (Ev.pos ⟨h5, h8⟩ (Ev.bind (fold_code_ev (by omega) ho hol hk) (Ev.bind hck (Ev.pos rfl (Ev.now _)))))
  · exact Ev.neg hs (Ev.now _)
end Go.Proofs.YtfhjkkcdeigkdaaDoor.PFoldKnows

namespace Go.Proofs.YtfhjkkcdeigkdaaDoor.PFoldKnows
open Go.RowKit Go.Proofs.YtfhjkkcdeigkdaaDoorW.PrintWords Go.Proofs.YtfhjkkcdeigkdaaDoorW.PrintLast Go.Proofs.YtfhjkkcdeigkdaaDoorW.PrintMore
set_option linter.unusedVariables false
set_option linter.unusedSimpArgs false
open Go.MapKept Go.RowKit
/-! The law FoldKnows, walked. -/
set_option maxHeartbeats 8000000 in
set_option maxRecDepth 100000 in
theorem palinglaw16_FoldKnows.calls (k : Nat) (A0 : Option Addr) (c0 : Nat) (l0 : List S53) (A1 : Option Addr) (c1 : Nat) (l1 : List Int) (a2 : Int) (r : Bool) (w : World) (hr0 : Kd.C k53 w A0 l0.length l0) (hc0 : l0.length ≤ c0) (hr1 : Kd.C (Kd.int .i64) w A1 l1.length l1) (hc1 : l1.length ≤ c1) (h : palinglaw16_FoldKnows.f k l0 l1 a2 = some r) (hgl : GlobOK w) :
    Calls Tryd.prog 5 #[.slice A0 l0.length c0, .slice A1 l1.length c1, .int .u8 a2] w fun e w' => e = .returned (.bool r) ∧ Below w.heap.size w w' := by
  unfold palinglaw16_FoldKnows.f at h
  obtain ⟨up, h1, h⟩ := Option.bind_eq_some_iff.1 h
  cases up with
  | false => simp at h
  | true =>
  rw [if_pos rfl] at h
  have HR0 := Aside0.mk hr0
  have HC0 := Aside0.mk hc0
  have HR1 := Aside0.mk hr1
  have HC1 := Aside0.mk hc1
  have HGL := Aside0.mk hgl
  have A4 := Aside0.mk h1
  clear hr0 hc0 hr1 hc1 hgl h1
  by_cases hs : l0.length ≤ 40 ∧ l1.length ≤ 60
  case neg =>
    rw [if_neg hs] at h
    obtain rfl := Option.some.inj h
    clear h
    go_enter Tryd.func5, Tryd.ntmps5
    go_wp2_with fail
    refine (palinglaw16_awake.calls k true w A4.out HGL.out).mono ?_
    rintro e w1 ⟨rfl, hb1⟩
    have HB1 := Aside0.mk hb1
    clear hb1
    by_cases h60 : l0.length ≤ 40
    · have g0 : decide (40 < (l0.length : Int)) = false := decide_eq_false (by omega)
      have g1 : decide (60 < (l1.length : Int)) = true := decide_eq_true (by omega)
      clear hs h60
      go_wp2_with fail
      go_ret
      exact ⟨rfl, HB1.out⟩
    · have g0 : decide (40 < (l0.length : Int)) = true := decide_eq_true (by omega)
      clear hs h60
      go_wp2_with fail
      go_ret
      exact ⟨rfl, HB1.out⟩
  rw [if_pos hs] at h
  obtain ⟨ok, h1, h⟩ := Option.bind_eq_some_iff.1 h
  have A5 := Aside0.mk h1
  have HS := Aside0.mk hs
  have g0 : decide (40 < (l0.length : Int)) = false := decide_eq_false (by omega)
  have g1 : decide (60 < (l1.length : Int)) = false := decide_eq_false (by omega)
  cases ok with
  | false =>
    clear h1 hs
    rw [if_neg (by simp)] at h
    obtain rfl := Option.some.inj h
    clear h
    go_enter Tryd.func5, Tryd.ntmps5
    go_wp2_with fail
    refine (palinglaw16_awake.calls k true w A4.out HGL.out).mono ?_
    rintro e w1 ⟨rfl, hb1⟩
    have HB1 := Aside0.mk hb1
    clear hb1
    go_wp2_with fail
    refine (palingref11_Check.calls k A0 c0 l0 12 9 false w1 (Kd.C_below HR0.out HB1.out) HC0.out A5.out).mono ?_
    rintro e w2 ⟨rfl, hb2⟩
    have HB2 := Aside0.mk (HB1.out.trans (hb2.mono HB1.out.size))
    clear hb2
    go_wp2_with fail
    go_ret
    exact ⟨rfl, HB2.out⟩
  | true =>
  rw [if_pos rfl] at h
  by_cases h5 : ∀ x ∈ l0, inR x.f5
  case neg => rw [if_neg h5] at h; cases h
  rw [if_pos h5] at h
  obtain ⟨o, h2, h⟩ := Option.bind_eq_some_iff.1 h
  obtain rfl := Option.some.inj h
  obtain ⟨o', ho', hol, hK, _⟩ := codeK_of (check_unique h1) (by omega) h5
  obtain rfl := all_unique h2 ho'
  have A6 := Aside0.mk h2
  have HOL := Aside0.mk hol
  have HK := Aside0.mk hK
  have HT1 := Int.tmod_lt_of_pos a2 (show (0 : Int) < 60 by omega)
  have HT0 := Int.lt_tmod_of_pos a2 (show (0 : Int) < 60 by omega)
  obtain ⟨Tm, hTm⟩ : ∃ Tm, Tm = Int.tmod a2 60 := ⟨_, rfl⟩
  rw [← hTm] at HT0 HT1
  have HTM := Aside0.mk hTm.symm
  have HTB := Aside0.mk (And.intro HT0 HT1)
  have HTW := Aside0.mk (show wrap64 Tm = Tm from wrap_in (by omega) (by omega))
  clear h h1 h2 h5 ho' hol hK hTm HT0 HT1 hs
  go_enter Tryd.func5, Tryd.ntmps5
  go_wp2_with fail
  refine (palinglaw16_awake.calls k true w A4.out HGL.out).mono ?_
  rintro e w1 ⟨rfl, hb1⟩
  have HB1 := Aside0.mk hb1
  clear hb1
  go_wp2_with fail
  refine (palingref11_Check.calls k A0 c0 l0 12 9 true w1 (Kd.C_below HR0.out HB1.out) HC0.out A5.out).mono ?_
  rintro e w2 ⟨rfl, hb2⟩
  have HB2 := Aside0.mk (HB1.out.trans (hb2.mono HB1.out.size))
  clear hb2 HB1
  go_wp2_with fail
  have gc1 := blk_new w2 (.cells #[.slice A0 l0.length c0] 28)
  have hbA : Below w2.heap.size w2 (w2.alloc (.cells #[.slice A0 l0.length c0] 28)) := (Below.refl _ _).alloc (Nat.le_refl _) _
  refine (ms_new w2 _ w2.heap.size A0 l0.length c0 A1 c1 l1 gc1 (Nat.le_refl _) (Kd.C_below HR1.out (HB2.out.trans (hbA.mono HB2.out.size))) HC1.out hbA (by have := HS.out; omega)).mono ?_
  rintro e w3 ⟨b, gT, vM, F, rfl, HMa, HFa, HBa⟩
  have HB3 := Aside0.mk (hbA.trans (HBa.out.mono hbA.size))
  clear gc1 hbA HBa
  obtain ⟨gC, hgC⟩ : ∃ q, q = w2.heap.size := ⟨_, rfl⟩
  rw [← hgC] at HMa HFa
  clear hgC HFa
  have HKI := Aside0.mk (HK.out.start l1)
  clear g0 g1
  go_wp2_with fail
  go_loopg [9, 10, 11, 12, 13] Tm.toNat (fun gg v9 _ _ _ _ wr => ∃ (i : Nat) (s : MSt) (F : Nat → Prop), v9 = .int .i64 (i : Int) ∧ i ≤ Tm.toNat ∧ Tm.toNat - i ≤ gg ∧ Aside0 (KInv l0 (fun i => (o.getD i none).map kgetL) s) ∧ Aside0 (s.regs.length ≤ i ∧ s.own.length ≤ i ∧ s.mem.length = l1.length) ∧ Aside0 (MS wr w2 F b gC gT A0 l0.length c0 vM s) ∧ Aside0 (Below w2.heap.size w2 wr))
  case atStart => exact ⟨0, _, F, rfl, by omega, by omega, HKI, ⟨by simp⟩, HMa, HB3⟩
  case round =>
    clear HKI HMa HB3
    obtain ⟨i, s, F, rfl, hi1, hig, HKI, HLN, HMs, HBr⟩ := hrel
    generalize wr = wo at *
    by_cases hlt : i < Tm.toNat
    · have hd : decide ((i : Int) < Tm) = true := decide_eq_true (by omega)
      have htm : Int.tmod a2 60 = Tm := HTM.out
      have htw : wrap64 Tm = Tm := HTW.out
      have HI := Aside0.mk (And.intro hi1 (And.intro hig hlt))
      obtain ⟨N, hN⟩ : ∃ N, N = nextS l0 1 s := ⟨_, rfl⟩
      have HNL := Aside0.mk (show N.1.regs.length ≤ s.regs.length + 1 ∧ N.1.own.length ≤ s.own.length + 1 ∧ N.1.mem.length = s.mem.length by rw [hN]; exact nextS_len l0 1 s)
      have HKN := Aside0.mk (show KInv l0 (fun i => (o.getD i none).map kgetL) N.1 by rw [hN]; exact HK.out.nexts 1 s HKI.out)
      have HN := Aside0.mk hN
      obtain ⟨Ag, cg, s3, s0, s1, s2, sR, sC⟩ := HMs.out.see
      obtain ⟨G0, hG0⟩ : ∃ G0, G0 = gk := ⟨gk, rfl⟩
      have HG0 := Aside0.mk hG0
      have HSR := Aside0.mk sR
      have HSC := Aside0.mk sC
      clear hN hG0 hi1 hig hlt sR sC
      go_wp2_with fail
      clear s0 s1 s2 s3 hd htm htw
      go_loopg [11, 12, 13] 12 (fun gg v11 _ _ wr => ∃ q : Nat, v11 = .int .i64 (q : Int) ∧ q ≤ 12 ∧ 12 - q ≤ gg ∧ Aside0 (Below wo.heap.size wo wr))
      case atStart => exact ⟨0, rfl, by omega, by omega, ⟨Below.refl _ _⟩⟩
      case round =>
        obtain ⟨q, rfl, hq1, hqg, HBq⟩ := hrel
        obtain ⟨Ag, cg, s3, s0, s1, s2, sR, sC⟩ := (HMs.out.below HBq.out).see
        have HSR := Aside0.mk sR
        have HSC := Aside0.mk sC
        clear sR sC
        by_cases hlt : q < 12
        · have hd1 : decide ((q : Int) < 12) = true := decide_eq_true (by omega)
          have hd1n : decide (q < 12) = true := decide_eq_true hlt
          have HQ := Aside0.mk (And.intro hlt hqg)
          clear hlt hqg hq1
          by_cases hpc : s.pc < (l0.length : Int)
          · have hd2 : decide (s.pc < (l0.length : Int)) = true := decide_eq_true hpc
            cases hov : s.over with
            | true =>
              rw [hov] at s2
              clear hpc hov
              go_wp2_with fail
              refine (ms_next l0 1 1 w2 wr F b gC gT A0 c0 vM s N (Kd.C_below HR0.out HB2.out) HC0.out (HMs.out.below HBq.out) (HBr.out.trans (HBq.out.mono HBr.out.size)) (by have := HLN.out; have := HI.out; have := HTB.out; omega) (by have := HLN.out; have := HI.out; have := HTB.out; omega) (by have := HLN.out; have := HS.out; omega) (by omega) rfl HN.out).mono ?_
              rintro e w8 ⟨rfl, F', HM8, HF8, HB8, HK8⟩
              go_wp2_with fail
              go_roundg (G0 - 1)
              case measure => have := HI.out; have := HG0.out; omega
              case rel => exact ⟨i + 1, N.1, F', by first | rfl | (congr 1; unfold wrap64; have := HI.out; have := HTB.out; omega), HI.out.2.2, by have := HI.out; have := HG0.out; omega, HKN, ⟨by have h1 := HLN.out; have h2 := HNL.out; omega⟩, HM8, HB8⟩
            | false =>
              obtain ⟨p, hp, hpl, z, hz, hsr⟩ := HKI.out hov
              obtain ⟨m, hm, rfl⟩ := Option.map_eq_some_iff.1 hz
              rw [hov] at s2
              obtain ⟨kn, hkn⟩ : ∃ kn, kn = knQ (kgetL m) (q : Int) := ⟨_, rfl⟩
              have hkf : fold_Known.f k l0 s.pc (q : Int) = some (kn.1, kn.2) := by
                unfold fold_Known.f
                rw [if_pos ⟨by omega, hpc⟩, A6.out, Option.bind_some, if_pos HOL.out, hp, Int.toNat_natCast, hm, hkn]
                rfl
              have hks : kn.2 = true → kn.1 = getG s.regs (q : Int) := by rw [hkn]; exact hsr.kn (q : Int)
              have HKF := Aside0.mk hkf
              have HKS := Aside0.mk hks
              have HWQ := Aside0.mk (show wrap64 ((q : Int) + 1) = ((q + 1 : Nat) : Int) by have := HQ.out; rw [wrap_in (by omega) (by omega)]; omega)
              clear hpc hov hkf hks hkn hm hz hsr hp hpl
              go_wp2_with fail
              refine (fold_Known.calls k A0 c0 l0 s.pc (q : Int) kn.1 kn.2 wr (Kd.C_below HR0.out (HB2.out.trans ((HBr.out.trans (HBq.out.mono HBr.out.size)).mono HB2.out.size))) HC0.out HKF.out (HGL.out.step (HB2.out.trans ((HBr.out.trans (HBq.out.mono HBr.out.size)).mono HB2.out.size)))).mono ?_
              rintro e w6 ⟨rfl, hb6⟩
              have HB6 := Aside0.mk (HBq.out.trans (hb6.mono HBq.out.size))
              clear s0 s1 s2 s3 HSR HSC hd1 hd1n hd2 hb6
              obtain ⟨Ag, cg, s3, s0, s1, s2, sR, sC⟩ := (HMs.out.below HB6.out).see
              have HSR := Aside0.mk sR
              have HSC := Aside0.mk sC
              clear sR sC
              cases hk2 : kn.2 with
              | false =>
                clear hk2
                go_wp2_with fail
                go_roundg (gk - 1)
                case measure => have := HQ.out; omega
                case rel => exact ⟨q + 1, by first | rfl | rw [HWQ.out], HQ.out.1, by have := HQ.out; omega, HB6⟩
              | true =>
                have hk1 := HKS.out hk2
                have HGE := Aside0.mk (mget.calls s.regs (q : Int) Ag cg w6 HSR.out HSC.out (by have := HLN.out; have := HI.out; have := HTB.out; omega))
                rw [hk1]
                obtain ⟨gv, hgv⟩ : ∃ gv, gv = getG s.regs (q : Int) := ⟨_, rfl⟩
                rw [← hgv] at HGE ⊢
                clear hk2 hk1 hgv
                go_wp2_with fail
                refine HGE.out.mono ?_
                rintro e w7 ⟨rfl, hb7⟩
                have HB7 := Aside0.mk (HB6.out.trans (hb7.mono HB6.out.size))
                have hne : (gv != gv) = false := by simp
                clear hb7 HGE s0 s1 s2 s3 HSR HSC
                go_wp2_with fail
                go_roundg (gk - 1)
                case measure => have := HQ.out; omega
                case rel => exact ⟨q + 1, by first | rfl | rw [HWQ.out], HQ.out.1, by have := HQ.out; omega, HB7⟩
          · have hd2 : decide (s.pc < (l0.length : Int)) = false := decide_eq_false hpc
            clear hpc
            go_wp2_with fail
            refine (ms_next l0 1 1 w2 wr F b gC gT A0 c0 vM s N (Kd.C_below HR0.out HB2.out) HC0.out (HMs.out.below HBq.out) (HBr.out.trans (HBq.out.mono HBr.out.size)) (by have := HLN.out; have := HI.out; have := HTB.out; omega) (by have := HLN.out; have := HI.out; have := HTB.out; omega) (by have := HLN.out; have := HS.out; omega) (by omega) rfl HN.out).mono ?_
            rintro e w8 ⟨rfl, F', HM8, HF8, HB8, HK8⟩
            go_wp2_with fail
            go_roundg (G0 - 1)
            case measure => have := HI.out; have := HG0.out; omega
            case rel => exact ⟨i + 1, N.1, F', by first | rfl | (congr 1; unfold wrap64; have := HI.out; have := HTB.out; omega), HI.out.2.2, by have := HI.out; have := HG0.out; omega, HKN, ⟨by have h1 := HLN.out; have h2 := HNL.out; omega⟩, HM8, HB8⟩
        · have hd1 : decide ((q : Int) < 12) = false := decide_eq_false (by omega)
          have hd1n : decide (q < 12) = false := decide_eq_false hlt
          have hd2 : True := trivial
          clear hlt hqg hq1
          go_wp2_with fail
          refine (ms_next l0 1 1 w2 wr F b gC gT A0 c0 vM s N (Kd.C_below HR0.out HB2.out) HC0.out (HMs.out.below HBq.out) (HBr.out.trans (HBq.out.mono HBr.out.size)) (by have := HLN.out; have := HI.out; have := HTB.out; omega) (by have := HLN.out; have := HI.out; have := HTB.out; omega) (by have := HLN.out; have := HS.out; omega) (by omega) rfl HN.out).mono ?_
          rintro e w8 ⟨rfl, F', HM8, HF8, HB8, HK8⟩
          go_wp2_with fail
          go_roundg (G0 - 1)
          case measure => have := HI.out; have := HG0.out; omega
          case rel => exact ⟨i + 1, N.1, F', by first | rfl | (congr 1; unfold wrap64; have := HI.out; have := HTB.out; omega), HI.out.2.2, by have := HI.out; have := HG0.out; omega, HKN, ⟨by have h1 := HLN.out; have h2 := HNL.out; omega⟩, HM8, HB8⟩
    · have hd : decide ((i : Int) < Tm) = false := decide_eq_false (by omega)
      have htm : Int.tmod a2 60 = Tm := HTM.out
      have htw : wrap64 Tm = Tm := HTW.out
      go_wp2_with fail
      go_ret
      exact ⟨rfl, HB2.out.trans (HBr.out.mono HB2.out.size)⟩
end Go.Proofs.YtfhjkkcdeigkdaaDoor.PFoldKnows
