import Derived.Test.YtfhjkkcdeigkdaaDoorPFoldKnowsx0
import Derived.Test.YtfhjkkcdeigkdaaDoorPFoldKnowshg2
import Derived.Test.YtfhjkkcdeigkdaaDoorPFoldKnowshforms
import Derived.Test.YtfhjkkcdeigkdaaDoorPFoldKnowshg7
import Derived.Test.YtfhjkkcdeigkdaaDoorPFoldKnowshg8
import Derived.Test.YtfhjkkcdeigkdaaDoorPFoldKnowshg1
import Derived.Test.YtfhjkkcdeigkdaaDoorPFoldKnowshg4
import Derived.Test.YtfhjkkcdeigkdaaDoorPFoldKnowshg0
import Derived.Test.YtfhjkkcdeigkdaaDoorPFoldKnowshg3
import Derived.Laws.Cover3
import Derived.Test.YtfhjkkcdeigkdaaDoorPFoldKnowshmplain
-- HAND paling/fold.Known rounds=1 making=1 needs=paling/calc.divide;paling/calc.told;paling/palingref01.Eval;slices.Contains[[]int,int];paling/palingref12.Get;paling/palingref12.Put;paling/palingref11.Check
namespace Go.Proofs.YtfhjkkcdeigkdaaDoor.PFoldKnows
open Go.RowKit Go.Proofs.YtfhjkkcdeigkdaaDoorW.PrintWords Go.Proofs.YtfhjkkcdeigkdaaDoorW.PrintLast Go.Proofs.YtfhjkkcdeigkdaaDoorW.PrintMore
set_option linter.unusedVariables false
set_option linter.unusedSimpArgs false
open Go.MapKept Go.RowKit
/-! fold.Known. -/
def knO (q : Option KL) (r : Int) : Int × Bool := match q with | none => (0, false) | some m => knQ (kgetL m) r
def fold_Known.f (k : Nat) (l0 : List S53) (a1 a2 : Int) : Option (Int × Bool) := if 0 ≤ a1 ∧ a1 < (l0.length : Int) then (fold_all.f k l0).bind fun o => if o.length = l0.length then some (knO (o.getD a1.toNat none) a2) else none else some (0, false)
theorem fold_all.mono_l (c : List S53) : ∀ (k : Nat) (o : OS) (wt : List Int), LeO (fold_all.l c k o wt) (fold_all.l c (k + 1) o wt)
  | 0, o, wt => fun r h => by cases h
  | k + 1, o, [] => LeO.refl _
  | k + 1, o, a :: wt => by
    rw [fold_all.l, fold_all.l]
    refine LeO.ite ?_ (LeO.none _)
    refine LeO.bind (LeO.refl _) (fun m => LeO.bind (LeO.refl _) (fun L => LeO.bind (LeO.refl _) (fun kk => LeO.bind (LeO.refl _) (fun p => fold_all.mono_l c k p.1 p.2))))
theorem fold_all.mono : ∀ c k, LeO (fold_all.f k c) (fold_all.f (k + 1) c) := by
  intro c k
  unfold fold_all.f
  exact LeO.ite (LeO.ite (LeO.refl _) (fold_all.mono_l c k _ _)) (LeO.none _)
theorem fold_Known.mono : ∀ a0 a1 a2 k, LeO (fold_Known.f k a0 a1 a2) (fold_Known.f (k + 1) a0 a1 a2) := by
  intro a0 a1 a2 k
  unfold fold_Known.f
  exact LeO.ite (LeO.bind (fold_all.mono _ _) (fun _ => LeO.refl _)) (LeO.refl _)
set_option maxRecDepth 100000 in
set_option maxHeartbeats 8000000 in
theorem fold_Known.calls (k : Nat) (A0 : Option Addr) (c0 : Nat) (l0 : List S53) (a1 a2 : Int) (r1 : Int) (r2 : Bool) (w : World) (hr0 : Kd.C k53 w A0 l0.length l0) (hc0 : l0.length ≤ c0) (h : fold_Known.f k l0 a1 a2 = some (r1, r2)) (hgl : GlobOK w) :
    Calls Tryd.prog 9 #[.slice A0 l0.length c0, .int .i64 a1, .int .i64 a2] w fun e w' => e = .returned (.tuple #[.int .i64 r1, .bool r2]) ∧ Below w.heap.size w w' := by
  unfold fold_Known.f at h
  have hnil := fun w => lookup_nil (P := Tryd.prog) (w := w) (t := 60) Tryd.underlying60 (by rfl) (zeroI64 w) a2 true
  by_cases hr : 0 ≤ a1 ∧ a1 < (l0.length : Int)
  case neg =>
    rw [if_neg hr] at h
    simp only [Option.some.injEq, Prod.mk.injEq] at h
    obtain ⟨rfl, rfl⟩ := h
    clear hr0 hc0 hgl hnil
    by_cases h0 : a1 < 0
    · have e0 : decide (a1 < 0) = true := decide_eq_true h0
      clear hr h0
      go_enter Tryd.func9, Tryd.ntmps9
      go_wp2_with fail
      refine bodyPost_ret (results_tmp2 rfl _ _ _) rfl ?_
      exact ⟨rfl, Below.refl _ _⟩
    · have e0 : decide (a1 < 0) = false := decide_eq_false h0
      have e1 : decide (a1 ≥ (l0.length : Int)) = true := decide_eq_true (by omega)
      have e2 : decide ((l0.length : Int) ≤ a1) = true := decide_eq_true (by omega)
      clear hr h0
      go_enter Tryd.func9, Tryd.ntmps9
      go_wp2_with fail
      refine bodyPost_ret (results_tmp2 rfl _ _ _) rfl ?_
      exact ⟨rfl, Below.refl _ _⟩
  rw [if_pos hr] at h
  obtain ⟨o, ho, h⟩ := Option.bind_eq_some_iff.1 h
  by_cases hol : o.length = l0.length
  case neg => rw [if_neg hol] at h; cases h
  rw [if_pos hol] at h
  obtain ⟨h0, h1⟩ := hr
  have H := Aside0.mk (Option.some.inj h)
  have HOL := Aside0.mk hol
  have HC := Aside0.mk (fall.calls k A0 c0 l0 o w hr0 hc0 ho hgl)
  have e0 : decide (a1 < 0) = false := decide_eq_false (by omega)
  have e1 : decide (a1 ≥ (l0.length : Int)) = false := decide_eq_false (by omega)
  have e2 : decide ((l0.length : Int) ≤ a1) = false := decide_eq_false (by omega)
  clear h ho hol hr0 hc0 hgl
  go_enter Tryd.func9, Tryd.ntmps9
  go_wp2_with fail
  refine HC.out.mono ?_
  rintro e w1 ⟨g, xb, rfl, hf, hb⟩
  obtain ⟨q, hq, cq, fq, km, kn⟩ := hf.cell (i := a1.toNat) (by have := HOL.out; omega)
  have HB := Aside0.mk hb
  cases q with
  | none =>
    have H2 := Aside0.mk (show (0, false) = (r1, r2) by rw [← H.out, kn rfl]; rfl)
    clear km kn hf hb hq HC H
    go_wp2_with fail
    refine bodyPost_ret (results_tmp2 rfl _ _ _) rfl ?_
    have h2 := H2.out
    simp only [Prod.mk.injEq] at h2
    exact ⟨by rw [← h2.1, ← h2.2]; rfl, HB.out⟩
  | some b =>
    obtain ⟨m, hm, hkm⟩ := km b rfl
    have H2 := Aside0.mk (show knQ (kgetL m) a2 = (r1, r2) by rw [← H.out, hm]; rfl)
    have HM := Aside0.mk hkm.1
    have G := Aside0.mk (kv_get m a2)
    rw [H2.out] at G
    clear km kn hf hb hq HC H hm hkm H2
    dsimp only at G
    go_wp2_with (first | (at_lookup; refine wpList_lookup_ok_im _ rfl _ _ 60 rfl 3 2 Tryd.underlying60 rfl _ (zeroI64 _) b m.length (kvL m) rfl HM.out a2 rfl ?_; rw [G.out.1, G.out.2]))
    refine bodyPost_ret (results_tmp2 rfl _ _ _) rfl ?_
    exact ⟨rfl, HB.out⟩
end Go.Proofs.YtfhjkkcdeigkdaaDoor.PFoldKnows

-- HAND paling/fold.Code rounds=1 making=1 needs=paling/calc.divide;paling/calc.told;paling/palingref01.Eval;slices.Contains[[]int,int];paling/palingref12.Get;paling/palingref12.Put;paling/palingref11.Check;slices.Clone[paling/api.Code,paling/api.Ins]
namespace Go.Proofs.YtfhjkkcdeigkdaaDoor.PFoldKnows
open Go.RowKit Go.Proofs.YtfhjkkcdeigkdaaDoorW.PrintWords Go.Proofs.YtfhjkkcdeigkdaaDoorW.PrintLast Go.Proofs.YtfhjkkcdeigkdaaDoorW.PrintMore
set_option linter.unusedVariables false
set_option linter.unusedSimpArgs false
open Go.MapKept Go.RowKit
/-! fold.Code. -/
def oneO (q : Option KL) (x : S53) (i : Int) : S53 := match q with | none => x | some m => oneQ m x i
def okO (q : Option KL) (x : S53) : Bool := match q with | none => true | some m => decide (okV m x)
def codeL (c : List S53) (o : OS) : List S53 := (List.range c.length).map (fun i => oneO (o.getD i none) (c.getD i z53) (i : Int))
def fold_Code.f (k : Nat) (l0 : List S53) : Option (List S53) := if l0.length ≤ 1000 then (fold_all.f k l0).bind fun o => if o.length = l0.length ∧ (List.range l0.length).all (fun i => okO (o.getD i none) (l0.getD i z53)) = true then some (codeL l0 o) else none else none
theorem fold_Code.mono : ∀ a0 k, LeO (fold_Code.f k a0) (fold_Code.f (k + 1) a0) := by
  intro a0 k
  unfold fold_Code.f
  exact LeO.ite (LeO.bind (fold_all.mono _ _) (fun _ => LeO.refl _)) (LeO.none _)
theorem codeL_len (c : List S53) (o : OS) : (codeL c o).length = c.length := by simp [codeL]
theorem codeL_get (c : List S53) (o : OS) (i : Nat) (h : i < c.length) : (codeL c o).getD i z53 = oneO (o.getD i none) (c.getD i z53) (i : Int) := by
  unfold codeL
  rw [List.getD_eq_getElem?_getD, List.getElem?_map, List.getElem?_range h]
  rfl
theorem fill_next {R c : List S53} {i : Nat} (h : i < c.length) (hR : R.length = c.length) : (R.take i ++ c.drop i).set i (R.getD i z53) = R.take (i + 1) ++ c.drop (i + 1) := by
  rw [List.drop_eq_getElem_cons h, List.set_append_right _ _ (by simp; omega)]
  rw [show i - (R.take i).length = 0 by simp; omega, List.set_cons_zero, List.take_succ_eq_append_getElem (by omega), List.append_assoc]
  rw [List.getD_eq_getElem?_getD, List.getElem?_eq_getElem (by omega)]
  rfl
theorem fill_same {R c : List S53} {i : Nat} (h : i < c.length) (hR : R.length = c.length) (he : R.getD i z53 = c.getD i z53) : R.take i ++ c.drop i = R.take (i + 1) ++ c.drop (i + 1) := by
  rw [← fill_next h hR, he]
  rw [List.drop_eq_getElem_cons h, List.set_append_right _ _ (by simp; omega)]
  rw [show i - (R.take i).length = 0 by simp; omega, List.set_cons_zero, List.getD_eq_getElem?_getD, List.getElem?_eq_getElem h]
  rfl
set_option maxRecDepth 100000 in
set_option maxHeartbeats 8000000 in
theorem fold_Code.calls (k : Nat) (A0 : Option Addr) (c0 : Nat) (l0 : List S53) (r : List S53) (w : World) (hr0 : Kd.C k53 w A0 l0.length l0) (hc0 : l0.length ≤ c0) (h : fold_Code.f k l0 = some r) (hgl : GlobOK w) :
    Calls Tryd.prog 12 #[.slice A0 l0.length c0] w fun e w' => ∃ v0_ : Value, e = .returned (v0_) ∧ Kd.R k53 53 w' w.heap.size (fun _ => True) v0_ r ∧ Below w.heap.size w w' := by
  unfold fold_Code.f at h
  by_cases hl : l0.length ≤ 1000
  case neg => rw [if_neg hl] at h; cases h
  rw [if_pos hl] at h
  obtain ⟨o, ho, h⟩ := Option.bind_eq_some_iff.1 h
  by_cases hq : o.length = l0.length ∧ (List.range l0.length).all (fun i => okO (o.getD i none) (l0.getD i z53)) = true
  case neg => rw [if_neg hq] at h; cases h
  rw [if_pos hq] at h
  have HRR := Aside0.mk (Option.some.inj h).symm
  have HRL := Aside0.mk (show r.length = l0.length by rw [← Option.some.inj h]; exact codeL_len _ _)
  have HL := Aside0.mk hl
  have HOL := Aside0.mk hq.1
  have HOK := Aside0.mk hq.2
  have HR0 := Aside0.mk hr0
  have HC0 := Aside0.mk hc0
  have HC1 := Aside0.mk (api_Ins.calls A0 c0 l0 l0 w hr0 hc0 (by unfold api_Ins.f; rw [if_pos (by omega)]))
  have HC2 := Aside0.mk (fun W (hb : Below w.heap.size w W) => fall.calls k A0 c0 l0 o W (Kd.C_below hr0 hb) hc0 ho (hgl.step hb))
  clear h hl hq hr0 hc0 ho hgl
  go_enter Tryd.func12, Tryd.ntmps12
  go_wp2_with fail
  refine HC1.out.mono ?_
  rintro e w1 ⟨v3, rfl, hr1, hb1⟩
  go_wp2_with fail
  refine (HC2.out w1 hb1).mono ?_
  rintro e w2 ⟨g, xb, rfl, hf, hb2⟩
  have HF := Aside0.mk hf
  have HR := Aside0.mk (Kd.R_below hr1 hb2)
  have HB := Aside0.mk (hb1.trans (hb2.mono hb1.size))
  clear hr1 hb1 hb2 hf HC1 HC2
  go_wp2_with fail
  go_loopg [4, 5, 11] l0.length (fun gg _ _ s11 wr => ∃ (i : Nat), s11 = .int .i64 (i : Int) ∧ i ≤ l0.length ∧ l0.length - i ≤ gg ∧ Aside0 (Kd.R k53 53 wr w.heap.size (fun _ => True) v3 (r.take i ++ l0.drop i)) ∧ Aside0 (FE wr w1.heap.size g xb o) ∧ Aside0 (Below w.heap.size w wr))
  case atStart => exact ⟨0, rfl, by omega, by omega, ⟨by simpa using HR.out⟩, HF, HB⟩
  case round =>
    clear HR HF HB
    obtain ⟨i, rfl, hi1, hig, HR, HF, HB⟩ := hrel
    by_cases hlt : i < l0.length
    · have d0 : decide ((i : Int) < (l0.length : Int)) = true := decide_eq_true (by omega)
      have d1 : decide (i < l0.length) = true := decide_eq_true hlt
      have d2 : (i : Int) < (l0.length : Int) := by omega
      have d3 : i < l0.length := hlt
      obtain ⟨q, hq, cq, fq, km, kn⟩ := HF.out.cell (i := i) (by have := HOL.out; omega)
      have hqn := fun w => run_neq_map_nil (P := Tryd.prog) w 60 3 2 q Tryd.underlying60
      have HWI := Aside0.mk (show wrap64 ((i : Int) + 1) = ((i + 1 : Nat) : Int) by have := HL.out; rw [wrap_in (by omega) (by omega)]; omega)
      have HI := Aside0.mk (And.intro hlt hig)
      have hRi : r.getD i z53 = oneO (o.getD i none) (l0.getD i z53) (i : Int) := by rw [HRR.out]; exact codeL_get _ _ _ hlt
      cases q with
      | none =>
        rw [kn rfl] at hRi
        have HR2 := Aside0.mk (fill_same hlt HRL.out hRi ▸ HR.out)
        clear kn km hq hRi hi1 hig hlt
        go_wp2_with fail
        go_roundg (gk - 1)
        case measure => have := HI.out; omega
        case rel => exact ⟨i + 1, by first | rfl | rw [HWI.out], HI.out.1, by have := HI.out; omega, HR2, HF, HB⟩
      | some b =>
        obtain ⟨m, hm, hkm⟩ := km b rfl
        rw [hm] at hRi
        obtain ⟨ad, e1, q0, q1, q2, q3, q4, q5, q6⟩ := at_T53 (Kd.C_below HR0.out HB.out) (i : Int) (by omega) (by omega)
        cases e1
        obtain ⟨x, hx⟩ : ∃ x, x = rd_T53 l0 (i : Int) := ⟨_, rfl⟩
        have hx2 : l0.getD i z53 = x := by rw [hx]; unfold rd_T53; rw [Int.toNat_natCast]
        rw [← hx] at q0 q1 q2 q3 q4 q5 q6
        simp only [Int.toNat_natCast] at q0 q1 q2 q3 q4 q5 q6
        rw [hx2] at hRi
        have hov := List.all_eq_true.1 HOK.out i (List.mem_range.2 hlt)
        rw [hm, hx2] at hov
        have HC := Aside0.mk (fone.calls b m x (i : Int) wr hkm (of_decide_eq_true hov))
        have HRI := Aside0.mk hRi
        clear hov hRi hx hx2 km kn hm hkm hq hi1 hig hlt
        have hln : (r.take i ++ l0.drop i).length = l0.length := by simp [HRL.out]; omega
        obtain ⟨gR, capR, ev, hbR, hlR, cR, hcR⟩ := Kd.R_form HR.out (by rw [hln]; omega)
        rw [hln] at ev
        cases ev
        have HCR := Aside0.mk hcR
        have HLN := Aside0.mk hln
        have NE : gR ≠ g := fun e => by
          have h2 := HF.out.hg
          rw [← e, hcR] at h2
          injection h2 with h2
          injection h2 with _ h3 _
          exact absurd h3 (by decide)
        have NM : ∀ j : Nat, xb[j]? ≠ some (some gR) := fun j hj => by
          obtain ⟨m', _, h2⟩ := HF.out.km j gR hj
          exact h2.noCells hcR
        have HNE := Aside0.mk NE
        have HNM := Aside0.mk NM
        clear hcR hln NE NM
        go_wp2_with fail
        refine HC.out.mono ?_
        rintro e w3 ⟨y, hy, rfl, hb3⟩
        have HR3 := Aside0.mk (Kd.R_below HR.out hb3)
        have HF3 := Aside0.mk (HF.out.below hb3)
        have HB3 := Aside0.mk (HB.out.trans (hb3.mono HB.out.size))
        clear HR HF HB HC q0 q1 q2 q3 q4 q5 q6 hb3
        have HY := Aside0.mk hy
        clear hy
        have hCr := (Kd.R_reads' HR3.out).2.2
        rw [HLN.out] at hCr
        obtain ⟨ad5, c5, e5, _, hK5, hc5⟩ := Kd.C_get hCr z53 (i : Int) (by omega) (by have := HI.out.1; omega)
        cases e5
        obtain ⟨z, hz⟩ : ∃ z, z = (r.take i ++ l0.drop i).getD (i : Int).toNat z53 := ⟨_, rfl⟩
        rw [← hz] at hK5
        obtain rfl := k53_open hK5
        have HC5 : Aside0 (∀ (j : Nat) (u : Value), [.int .i64 z.f0, .int .i64 z.f1, .int .i64 z.f2, .int .i64 z.f3, .int .i64 z.f4, .int .i64 z.f5, .int .i64 z.f6][j]? = some u → w3.cell? ⟨gR, (i : Int).toNat * 7 + j, none⟩ = some u) := ⟨fun j u hj => by
          have h5 := hc5 j u hj
          rw [show ∀ n : Nat, (⟨gR, 0, none⟩ : Addr).add n = ⟨gR, n, none⟩ from fun n => by unfold Addr.add; split <;> simp_all] at h5
          exact h5⟩
        clear hc5 hK5 hz hCr
        go_wp2_with (first | ((with_reducible refine gate_store (t := 53) (p := 27) rfl ?_); refine Kd.R_store k53 (w0 := w) w.heap.size rfl rfl 53 (.tmp 27) (.tmp 26) rfl 53 (o' := i * 7) (i : Int) 0 (r.take i ++ l0.drop i) y (.agg #[.int .i64 y.f0, .int .i64 y.f1, .int .i64 y.f2, .int .i64 y.f3, .int .i64 y.f4, .int .i64 y.f5, .int .i64 y.f6]) [.int .i64 y.f0, .int .i64 y.f1, .int .i64 y.f2, .int .i64 y.f3, .int .i64 y.f4, .int .i64 y.f5, .int .i64 y.f6] [.int .i64 z.f0, .int .i64 z.f1, .int .i64 z.f2, .int .i64 z.f3, .int .i64 z.f4, .int .i64 z.f5, .int .i64 z.f6] (fun _ => True) (fun _ => False) rfl rfl rfl rfl (by kernel_rfl) (by simp [Value.oneCell']) HR3.out (by omega) (by have := HI.out.1; omega) rfl HC5.out (Nat.le_refl _) (k53_mkM _ _ _ _) (fun _ hk => hk.elim) HB3.out ?_) | fail)
        intro w4 hR4 hB4 hG4
        have HR4 := Aside0.mk (show Kd.R k53 53 w4 w.heap.size (fun _ => True) (.slice (some ⟨gR, 0, none⟩) l0.length capR) (r.take (i + 1) ++ l0.drop (i + 1)) by
          rw [HY.out, show oneQ m x (i : Int) = r.getD i z53 from HRI.out.symm, Int.toNat_natCast, fill_next HI.out.1 HRL.out] at hR4
          exact hR4)
        have HB4 := Aside0.mk hB4
        have HF4 := Aside0.mk (HF3.out.grown hG4 (fun k hk => by
          cases hk
          exact ⟨HNE.out, HNM.out⟩))
        clear hR4 hB4 hG4 HR3 HF3 HB3 HC5
        go_wp2_with fail
        go_roundg (gk - 1)
        case measure => have := HI.out; omega
        case rel => exact ⟨i + 1, by first | rfl | rw [HWI.out], HI.out.1, by have := HI.out; omega, HR4, HF4, HB4⟩
    · have d0 : decide ((i : Int) < (l0.length : Int)) = false := decide_eq_false (by omega)
      have d1 : decide (i < l0.length) = false := decide_eq_false hlt
      have HE := Aside0.mk (show r.take i ++ l0.drop i = r by rw [List.drop_eq_nil_of_le (by omega), List.append_nil, List.take_of_length_le (by have := HRL.out; omega)])
      clear hlt hi1 hig
      go_wp2_with fail
      go_ret
      exact ⟨_, rfl, HE.out ▸ HR.out, HB.out⟩
end Go.Proofs.YtfhjkkcdeigkdaaDoor.PFoldKnows

namespace Go.Proofs.YtfhjkkcdeigkdaaDoor.PFoldKnows
open Go.RowKit Go.Proofs.YtfhjkkcdeigkdaaDoorW.PrintWords Go.Proofs.YtfhjkkcdeigkdaaDoorW.PrintLast Go.Proofs.YtfhjkkcdeigkdaaDoorW.PrintMore
set_option linter.unusedVariables false
set_option linter.unusedSimpArgs false
/-! What is known is so, and the code in which it stands runs as the code does. -/
def SoundR (F : KF) (l : List S69) : Prop := ∀ r v, F r = some v → getG l r = v
theorem SoundR.le {F F' : KF} {l : List S69} (h : SoundR F l) (k : leK F' F) : SoundR F' l := fun r v e => h r v (k r v e)
theorem SoundR.kn {F : KF} {l : List S69} (h : SoundR F l) (r : Int) (hk : (knQ F r).2 = true) : (knQ F r).1 = getG l r := by
  unfold knQ at hk ⊢
  cases hf : F r with
  | none => rw [hf] at hk; cases hk
  | some v => exact (h r v hf).symm
theorem SoundR.val {F : KF} {l : List S69} (h : SoundR F l) (x : S53) (hk : (valQ F x).2 = true) : (x.f0 = 0 ∨ x.f0 = 1 ∨ x.f0 = 2 ∨ x.f0 = 3) ∧ (valQ F x).1 = valueL l x := by
  unfold valQ at hk ⊢
  unfold valueL
  by_cases k0 : x.f0 = 0
  · rw [if_pos k0, if_pos k0]; exact ⟨.inl k0, rfl⟩
  rw [if_neg k0] at hk ⊢
  rw [if_neg k0]
  by_cases k1 : x.f0 = 1
  · rw [if_pos k1] at hk ⊢
    rw [if_pos k1]
    exact ⟨.inr (.inl k1), h.kn _ hk⟩
  rw [if_neg k1] at hk ⊢
  rw [if_neg k1]
  by_cases k2 : x.f0 = 2
  · rw [if_pos k2] at hk ⊢
    rw [if_pos k2]
    rw [Bool.and_eq_true] at hk
    refine ⟨.inr (.inr (.inl k2)), ?_⟩
    dsimp only
    rw [h.kn _ hk.1, h.kn _ hk.2]
  rw [if_neg k2] at hk ⊢
  rw [if_neg k2]
  by_cases k3 : x.f0 = 3
  · rw [if_pos k3] at hk ⊢
    refine ⟨.inr (.inr (.inr k3)), ?_⟩
    cases ha : (knQ F x.f3).2 with
    | false =>
      simp only [ha, if_true, Bool.and_eq_true] at hk ⊢
      obtain ⟨t1, t2, t3⟩ := hk
      have e := eq_of_beq t3
      rw [h.kn _ t1, h.kn _ t2] at e
      rw [h.kn _ t1]
      split
      · rfl
      · exact e
    | true =>
      have e3 := h.kn _ ha
      simp only [ha, Bool.true_eq_false, if_false] at hk ⊢
      by_cases hz : (knQ F x.f3).1 ≠ 0
      · simp only [if_pos hz] at hk ⊢
        rw [if_neg (by rw [← e3]; exact hz)]
        exact h.kn _ hk
      · simp only [if_neg hz] at hk ⊢
        rw [if_pos (by rw [← e3]; exact Classical.not_not.1 hz)]
        exact h.kn _ hk
  · rw [if_neg k3] at hk; cases hk
theorem defI_kind {x : S53} (hk : 0 ≤ x.f0 ∧ x.f0 < 14) : defI x = if x.f0 < 5 then x.f2 else -1 := by
  unfold defI
  have : ∀ k : Int, 0 ≤ k ∧ k < 14 → fmB 1 k = decide (k < 5) := fun k hk => kind_cases' (P := fun k => fmB 1 k = decide (k < 5)) k hk (by decide +kernel) (by decide +kernel) (by decide +kernel) (by decide +kernel) (by decide +kernel) (by decide +kernel) (by decide +kernel) (by decide +kernel) (by decide +kernel) (by decide +kernel) (by decide +kernel) (by decide +kernel) (by decide +kernel) (by decide +kernel)
  rw [this _ hk]
  simp
theorem beh_id {x : S53} (hk : 0 ≤ x.f0 ∧ x.f0 < 14) (h5 : ¬ x.f0 < 5) (F : KF) : behK F x = F := by
  unfold behK
  rw [defI_kind hk, if_neg h5, if_neg (by omega)]
theorem plainS_regs {x : S53} (h5 : 5 ≤ x.f0) (s : MSt) : (plainS x s).regs = s.regs := by
  unfold plainS
  rw [if_neg (by omega), if_neg (by omega)]
  split
  · rfl
  · split
    · rfl
    · split <;> rfl
theorem SoundR.plain {F : KF} {s : MSt} (h : SoundR F s.regs) {x : S53} (hk : 0 ≤ x.f0 ∧ x.f0 < 14) (hd : x.f0 < 5 → 0 ≤ x.f2) : SoundR (behK F x) (plainS x s).regs := by
  by_cases h5 : x.f0 < 5
  · have h2 := hd h5
    intro r v hv
    unfold behK at hv
    rw [defI_kind hk, if_pos h5, if_pos h2] at hv
    have key : ∃ u, (plainS x s).regs = putG s.regs x.f2 u ∧ ((x.f0 = 0 ∨ x.f0 = 1 ∨ x.f0 = 2 ∨ x.f0 = 3) → u = valueL s.regs x) := by
      unfold plainS
      by_cases h4 : x.f0 = 4
      · rw [if_neg (by omega), if_pos h4]; exact ⟨_, rfl, fun h => by omega⟩
      · rw [if_pos (by omega)]; exact ⟨_, rfl, fun _ => rfl⟩
    obtain ⟨u, hu, hw⟩ := key
    rw [hu, get_put _ _ _ _ h2]
    by_cases hr : r = x.f2
    · rw [if_pos hr] at hv ⊢
      unfold valK at hv
      by_cases ht : (valQ F x).2 = true
      · rw [if_pos ht] at hv
        obtain ⟨t1, t2⟩ := h.val x ht
        rw [hw t1, ← t2]
        exact Option.some.inj hv
      · rw [if_neg ht] at hv; cases hv
    · rw [if_neg hr] at hv ⊢
      exact h r v hv
  · rw [beh_id hk h5, plainS_regs (by omega)]
    exact h
theorem plain_succ {x : S53} (hk : 0 ≤ x.f0 ∧ x.f0 < 9) {s : MSt} {i : Nat} (hi : s.pc = (i : Int)) (h1 : i ≤ 100000) : (plainS x s).pc ∈ succL x i := by
  have hw : wrap64 (s.pc + 1) = (i : Int) + 1 := by rw [hi]; exact wrap_in (by omega) (by omega)
  have hS : succL x i = if x.f0 = 6 then [x.f6] else if x.f0 = 7 then [(i : Int) + 1, x.f6] else [(i : Int) + 1] := by unfold succL; rw [if_neg (show ¬ (x.f0 = 12 ∨ x.f0 = 13) by omega)]
  rw [hS]
  by_cases h6 : x.f0 = 6
  · have e : (plainS x s).pc = x.f6 := by unfold plainS; rw [if_neg (by omega), if_neg (by omega), if_neg (by omega), if_pos h6]
    rw [if_pos h6, e]; exact List.mem_singleton.2 rfl
  rw [if_neg h6]
  have key : (plainS x s).pc = (i : Int) + 1 ∨ (x.f0 = 7 ∧ (plainS x s).pc = x.f6) := by
    unfold plainS
    rw [hw]
    split
    · exact .inl rfl
    · split
      · exact .inl rfl
      · split
        · exact .inl rfl
        · split
          · rename_i e; exact .inr ⟨e.1, rfl⟩
          · exact .inl rfl
  by_cases h7 : x.f0 = 7
  · rw [if_pos h7]
    rcases key with e | ⟨_, e⟩
    · rw [e]; exact List.mem_cons_self
    · rw [e]; exact List.mem_cons_of_mem _ (List.mem_singleton.2 rfl)
  · rw [if_neg h7]
    rcases key with e | ⟨e, _⟩
    · rw [e]; exact List.mem_singleton.2 rfl
    · exact absurd e h7
/-- where it stands, what is known there is so -/
def KInv (c : List S53) (Z : Nat → Option KF) (s : MSt) : Prop := s.over = false → ∃ p : Nat, s.pc = (p : Int) ∧ p < c.length ∧ ∃ z, Z p = some z ∧ SoundR z s.regs
structure CodeK (c : List S53) (Z : Nat → Option KF) : Prop where
  len : c.length ≤ 1000
  pos : 0 < c.length
  next : NextOK c
  kind : ∀ i, i < c.length → 0 ≤ (c.getD i z53).f0 ∧ (c.getD i z53).f0 < 14
  dest : ∀ i, i < c.length → (c.getD i z53).f0 < 5 → 0 ≤ (c.getD i z53).f2
  post : PostK c Z
section
variable {c : List S53} {Z : Nat → Option KF}
theorem CodeK.start (h : CodeK c Z) (m : List Int) : KInv c Z ⟨m, [], [], 0, false⟩ := fun _ => by
  obtain ⟨z, hz, hn⟩ := h.post.zero
  exact ⟨0, rfl, h.pos, z, hz, fun r v e => by rw [hn r] at e; cases e⟩
theorem CodeK.move (h : CodeK c Z) {p : Nat} (hp : p < c.length) {z : KF} (hz : Z p = some z) {s' : MSt} (hs : s'.pc ∈ succL (c.getD p z53) p) (hr : SoundR (behK z (c.getD p z53)) s'.regs) : KInv c Z s' := fun _ => by
  have hn := succ_nxI h.len hp (h.kind p hp) hs
  obtain ⟨h0, h1⟩ := h.next p hp _ hn
  obtain ⟨z', hz', hle⟩ := h.post.go p hp z hz _ hn
  exact ⟨s'.pc.toNat, by omega, by omega, z', hz', hr.le hle⟩
theorem CodeK.fetch {s : MSt} {p : Nat} (hp : s.pc = (p : Int)) (hl : p < c.length) : fetchS c s = c.getD p z53 := by
  unfold fetchS
  rw [hp, if_pos ⟨by omega, by omega⟩, Int.toNat_natCast]
theorem CodeK.run (h : CodeK c Z) : ∀ (f : Nat) (s : MSt), s.over = false → KInv c Z s → KInv c Z (runS c f s).1
  | 0, s, _, hs => hs
  | f + 1, s, ho, hs => by
    obtain ⟨p, hp, hl, z, hz, hr⟩ := hs ho
    have hk := h.kind p hl
    have hlen := h.len
    have hw : wrap64 (s.pc + 1) = (p : Int) + 1 := by rw [hp]; exact wrap_in (by omega) (by omega)
    have one : ∀ {s' : MSt}, 5 ≤ (c.getD p z53).f0 → (c.getD p z53).f0 ≠ 12 → (c.getD p z53).f0 ≠ 13 → (c.getD p z53).f0 ≠ 6 → s'.pc = wrap64 (s.pc + 1) → s'.regs = s.regs → KInv c Z s' := fun {s'} h5 h12 h13 h6 h1 h2 => by
      refine h.move hl hz ?_ ?_
      · rw [h1, hw]; unfold succL; rw [if_neg (by omega), if_neg h6]; split <;> simp
      · rw [beh_id hk (by omega), h2]; exact hr
    unfold runS
    rw [CodeK.fetch hp hl]
    by_cases h11 : (c.getD p z53).f0 = 11
    · rw [if_pos h11]; exact one (by omega) (by omega) (by omega) (by omega) rfl rfl
    rw [if_neg h11]
    by_cases h9 : (c.getD p z53).f0 = 9 ∨ (c.getD p z53).f0 = 10
    · rw [if_pos h9]
      unfold lockS
      split
      · exact hs
      · exact one (by omega) (by omega) (by omega) (by omega) rfl rfl
    rw [if_neg h9]
    by_cases h12 : (c.getD p z53).f0 = 12
    · rw [if_pos h12]; exact fun e => by cases e
    rw [if_neg h12]
    by_cases h13 : (c.getD p z53).f0 = 13
    · rw [if_pos h13]; exact fun e => by cases e
    rw [if_neg h13]
    refine CodeK.run h f _ (by rw [plainS_over]; exact ho) (h.move hl hz (plain_succ (by omega) hp (by omega)) (hr.plain hk (h.dest p hl)))
theorem CodeK.nexts (h : CodeK c Z) (f : Nat) (s : MSt) (hs : KInv c Z s) : KInv c Z (nextS c f s).1 := by
  unfold nextS
  by_cases ho : s.over = true
  · rw [if_pos ho]; exact hs
  · rw [if_neg ho]; exact h.run f s (by simpa using ho) hs
end
theorem kplain6 (x : S53) (s : MSt) (h : x.f0 = 6) : plainS x s = { s with pc := x.f6 } := by
  unfold plainS; rw [if_neg (by omega), if_neg (by omega), if_neg (by omega), if_pos h]
theorem kplain7 (x : S53) (s : MSt) (h : x.f0 = 7 ∧ getG s.regs x.f3 = 0) : plainS x s = { s with pc := x.f6 } := by
  have h7 := h.1
  unfold plainS; rw [if_neg (by omega), if_neg (by omega), if_neg (by omega), if_neg (by omega), if_pos h]
theorem kplainE (x : S53) (s : MSt) (h7 : 7 ≤ x.f0) (h : ¬ (x.f0 = 7 ∧ getG s.regs x.f3 = 0)) : plainS x s = { s with pc := wrap64 (s.pc + 1) } := by
  unfold plainS; rw [if_neg (by omega), if_neg (by omega), if_neg (by omega), if_neg (by omega), if_neg h]
/-- an instruction of which something is known does as it did -/
theorem one_plain {m : KL} {s : MSt} (h : SoundR (kgetL m) s.regs) (x : S53) {p : Int} (hp : s.pc = p) (hk : 0 ≤ x.f0 ∧ x.f0 < 9) : plainS (oneQ m x p) s = plainS x s ∧ 0 ≤ (oneQ m x p).f0 ∧ (oneQ m x p).f0 < 9 := by
  unfold oneQ
  by_cases h12 : x.f0 = 1 ∨ x.f0 = 2
  · rw [if_pos h12]
    by_cases hv : (valQ (kgetL m) x).2 = true
    · rw [if_pos hv]
      refine ⟨?_, by dsimp only; omega, by dsimp only; omega⟩
      unfold plainS
      rw [if_pos (.inl rfl), if_pos (by omega)]
      dsimp only
      rw [← (h.val x hv).2]
      rfl
    · rw [if_neg hv]; exact ⟨rfl, hk⟩
  rw [if_neg h12]
  by_cases h3 : x.f0 = 3
  · rw [if_pos h3]
    cases ha : (knQ (kgetL m) x.f3).2 with
    | false => rw [if_pos rfl]; exact ⟨rfl, hk⟩
    | true =>
      rw [if_neg (by simp)]
      have e3 := h.kn _ ha
      have hx : plainS x s = { s with regs := putG s.regs x.f2 (valueL s.regs x), pc := wrap64 (s.pc + 1) } := by unfold plainS; rw [if_pos (by omega)]
      have hv3 : valueL s.regs x = if getG s.regs x.f3 = 0 then getG s.regs x.f2 else getG s.regs x.f4 := by unfold valueL; rw [if_neg (by omega), if_neg (by omega), if_neg (by omega)]
      by_cases hz : (knQ (kgetL m) x.f3).1 = 0
      · rw [if_pos hz]
        refine ⟨?_, by dsimp only; omega, by dsimp only; omega⟩
        rw [hx, hv3, if_pos (by rw [← e3]; exact hz)]
        unfold plainS
        rw [if_pos (.inr (.inl rfl))]
        rfl
      · rw [if_neg hz]
        by_cases hv : (valQ (kgetL m) x).2 = true
        · rw [if_pos hv]
          refine ⟨?_, by dsimp only; omega, by dsimp only; omega⟩
          rw [hx, ← (h.val x hv).2]
          unfold plainS
          rw [if_pos (.inl rfl)]
          rfl
        · rw [if_neg hv]
          refine ⟨?_, by dsimp only; omega, by dsimp only; omega⟩
          rw [hx, hv3, if_neg (by rw [← e3]; exact hz)]
          unfold plainS
          rw [if_pos (.inr (.inl rfl))]
          rfl
  rw [if_neg h3]
  by_cases h7 : x.f0 = 7
  · rw [if_pos h7]
    cases ha : (knQ (kgetL m) x.f3).2 with
    | false => rw [if_pos rfl]; exact ⟨rfl, hk⟩
    | true =>
      rw [if_neg (by simp)]
      have e3 := h.kn _ ha
      by_cases hz : (knQ (kgetL m) x.f3).1 = 0
      · rw [if_pos hz]
        refine ⟨?_, by dsimp only; omega, by dsimp only; omega⟩
        rw [kplain6 _ s rfl, kplain7 x s ⟨h7, by rw [← e3]; exact hz⟩]
      · rw [if_neg hz]
        refine ⟨?_, by dsimp only; omega, by dsimp only; omega⟩
        rw [kplain6 _ s rfl, kplainE x s (by omega) (fun e => hz (by rw [e3]; exact e.2)), hp]
  · rw [if_neg h7]; exact ⟨rfl, hk⟩
theorem one_event {m : KL} (x : S53) (p : Int) (hk : 9 ≤ x.f0) : oneQ m x p = x := by
  unfold oneQ
  rw [if_neg (by omega), if_neg (by omega), if_neg (by omega)]
theorem code_run {c : List S53} {o : OS} (h : CodeK c (fun i => (o.getD i none).map kgetL)) : ∀ (f : Nat) (s : MSt), s.over = false → KInv c (fun i => (o.getD i none).map kgetL) s → runS (codeL c o) f s = runS c f s
  | 0, s, _, _ => rfl
  | f + 1, s, ho, hs => by
    obtain ⟨p, hp, hl, z, hz, hr⟩ := hs ho
    obtain ⟨m, hm, rfl⟩ := Option.map_eq_some_iff.1 hz
    have hk := h.kind p hl
    have hlen := h.len
    unfold runS
    rw [CodeK.fetch (c := codeL c o) hp (by rw [codeL_len]; exact hl), codeL_get c o p hl, CodeK.fetch hp hl, hm]
    show (if (oneQ m _ _).f0 = 11 then _ else if (oneQ m _ _).f0 = 9 ∨ (oneQ m _ _).f0 = 10 then lockS (oneQ m _ _) s else if (oneQ m _ _).f0 = 12 then _ else if (oneQ m _ _).f0 = 13 then _ else _) = _
    by_cases h9 : (c.getD p z53).f0 < 9
    · obtain ⟨e1, e2, e3⟩ := one_plain hr (c.getD p z53) hp ⟨hk.1, h9⟩
      rw [if_neg (by omega), if_neg (by omega), if_neg (by omega), if_neg (by omega), if_neg (by omega), if_neg (by omega), if_neg (by omega), if_neg (by omega)]
      show runS (codeL c o) f (plainS (oneQ m _ _) s) = _
      rw [e1]
      exact code_run h f _ (by rw [plainS_over]; exact ho) (h.move hl hz (plain_succ ⟨hk.1, h9⟩ hp (by omega)) (hr.plain hk (h.dest p hl)))
    · have e := one_event (m := m) (c.getD p z53) (p : Int) (by omega)
      show _ = _
      simp only [oneO, e]
      by_cases h11 : (c.getD p z53).f0 = 11
      · rw [if_pos h11, if_pos h11]
      rw [if_neg h11, if_neg h11]
      by_cases h9 : (c.getD p z53).f0 = 9 ∨ (c.getD p z53).f0 = 10
      · rw [if_pos h9, if_pos h9]
      rw [if_neg h9, if_neg h9]
      by_cases h12 : (c.getD p z53).f0 = 12
      · rw [if_pos h12, if_pos h12]
      rw [if_neg h12, if_neg h12, if_pos (by omega), if_pos (by omega)]
theorem code_next {c : List S53} {o : OS} (h : CodeK c (fun i => (o.getD i none).map kgetL)) (f : Nat) (s : MSt) (hs : KInv c (fun i => (o.getD i none).map kgetL) s) : nextS (codeL c o) f s = nextS c f s := by
  unfold nextS
  by_cases ho : s.over = true
  · rw [if_pos ho, if_pos ho]
  · rw [if_neg ho, if_neg ho]; exact code_run h f s (by simpa using ho) hs
end Go.Proofs.YtfhjkkcdeigkdaaDoor.PFoldKnows
