import Derived.Test.YtfhjkkcdeigkdaaDoorPFoldRunsx0
import Derived.Test.YtfhjkkcdeigkdaaDoorPFoldRunshfall
import Derived.Test.YtfhjkkcdeigkdaaDoorPFoldRunshforms
import Derived.Test.YtfhjkkcdeigkdaaDoorPFoldRunshg6
import Derived.Test.YtfhjkkcdeigkdaaDoorPFoldRunshg7
import Derived.Test.YtfhjkkcdeigkdaaDoorPFoldRunshg1
import Derived.Test.YtfhjkkcdeigkdaaDoorPFoldRunshg3
import Derived.Test.YtfhjkkcdeigkdaaDoorPFoldRunshway
import Derived.Test.YtfhjkkcdeigkdaaDoorPFoldRunshg0
import Derived.Test.YtfhjkkcdeigkdaaDoorPFoldRunshg2
import Derived.Laws.Cover3
-- HAND paling/fold.Known rounds=1 making=1 needs=paling/calc.divide;paling/calc.told;paling/palingref01.Eval;slices.Contains[[]int,int];paling/palingref12.Get;paling/palingref12.Put;paling/palingref11.Check
namespace Go.Proofs.YtfhjkkcdeigkdaaDoor.PFoldRuns
open Go.RowKit Go.Proofs.YtfhjkkcdeigkdaaDoorW.PrintWords Go.Proofs.YtfhjkkcdeigkdaaDoorW.PrintLast Go.Proofs.YtfhjkkcdeigkdaaDoorW.PrintMore
set_option linter.unusedVariables false
set_option linter.unusedSimpArgs false
open Go.MapKept Go.RowKit
/-! fold.Known. -/
def knO (q : Option KL) (r : Int) : Int × Bool := match q with | none => (0, false) | some m => knQ (kgetL m) r
def fold_Known.f (k : Nat) (l0 : List S53) (a1 a2 : Int) : Option (Int × Bool) := if 0 ≤ a1 ∧ a1 < (l0.length : Int) then (fold_all.f k l0).bind fun o => if o.length = l0.length then some (knO (o.getD a1.toNat none) a2) else none else some (0, false)
theorem fold_all.mono_l (c : List S53) : ∀ (k : Nat) (o : OS) (wt : List Int), LeO (fold_all.l c k o wt) (fold_all.l c (k + 1) o wt)
  | 0, o, wt => fun r h => by cases h
  | k + 1, o, [] => LeO.refl _
  | k + 1, o, a :: wt => by
    rw [fold_all.l, fold_all.l]
    refine LeO.ite ?_ (LeO.none _)
    refine LeO.bind (LeO.refl _) (fun m => LeO.bind (LeO.refl _) (fun L => LeO.bind (LeO.refl _) (fun kk => LeO.bind (LeO.refl _) (fun p => fold_all.mono_l c k p.1 p.2))))
theorem fold_all.mono : ∀ c k, LeO (fold_all.f k c) (fold_all.f (k + 1) c) := by
  intro c k
  unfold fold_all.f
  exact LeO.ite (LeO.ite (LeO.refl _) (fold_all.mono_l c k _ _)) (LeO.none _)
theorem fold_Known.mono : ∀ a0 a1 a2 k, LeO (fold_Known.f k a0 a1 a2) (fold_Known.f (k + 1) a0 a1 a2) := by
  intro a0 a1 a2 k
  unfold fold_Known.f
  exact LeO.ite (LeO.bind (fold_all.mono _ _) (fun _ => LeO.refl _)) (LeO.refl _)
set_option maxRecDepth 100000 in
set_option maxHeartbeats 8000000 in
theorem fold_Known.calls (k : Nat) (A0 : Option Addr) (c0 : Nat) (l0 : List S53) (a1 a2 : Int) (r1 : Int) (r2 : Bool) (w : World) (hr0 : Kd.C k53 w A0 l0.length l0) (hc0 : l0.length ≤ c0) (h : fold_Known.f k l0 a1 a2 = some (r1, r2)) (hgl : GlobOK w) :
    Calls Tryd.prog 9 #[.slice A0 l0.length c0, .int .i64 a1, .int .i64 a2] w fun e w' => e = .returned (.tuple #[.int .i64 r1, .bool r2]) ∧ Below w.heap.size w w' := by
  unfold fold_Known.f at h
  have hnil := fun w => lookup_nil (P := Tryd.prog) (w := w) (t := 60) Tryd.underlying60 (by rfl) (zeroI64 w) a2 true
  by_cases hr : 0 ≤ a1 ∧ a1 < (l0.length : Int)
  case neg =>
    rw [if_neg hr] at h
    simp only [Option.some.injEq, Prod.mk.injEq] at h
    obtain ⟨rfl, rfl⟩ := h
    clear hr0 hc0 hgl hnil
    by_cases h0 : a1 < 0
    · have e0 : decide (a1 < 0) = true := decide_eq_true h0
      clear hr h0
      go_enter Tryd.func9, Tryd.ntmps9
      go_wp2_with fail
      refine bodyPost_ret (results_tmp2 rfl _ _ _) rfl ?_
      exact ⟨rfl, Below.refl _ _⟩
    · have e0 : decide (a1 < 0) = false := decide_eq_false h0
      have e1 : decide (a1 ≥ (l0.length : Int)) = true := decide_eq_true (by omega)
      have e2 : decide ((l0.length : Int) ≤ a1) = true := decide_eq_true (by omega)
      clear hr h0
      go_enter Tryd.func9, Tryd.ntmps9
      go_wp2_with fail
      refine bodyPost_ret (results_tmp2 rfl _ _ _) rfl ?_
      exact ⟨rfl, Below.refl _ _⟩
  rw [if_pos hr] at h
  obtain ⟨o, ho, h⟩ := Option.bind_eq_some_iff.1 h
  by_cases hol : o.length = l0.length
  case neg => rw [if_neg hol] at h; cases h
  rw [if_pos hol] at h
  obtain ⟨h0, h1⟩ := hr
  have H := Aside0.mk (Option.some.inj h)
  have HOL := Aside0.mk hol
  have HC := Aside0.mk (fall.calls k A0 c0 l0 o w hr0 hc0 ho hgl)
  have e0 : decide (a1 < 0) = false := decide_eq_false (by omega)
  have e1 : decide (a1 ≥ (l0.length : Int)) = false := decide_eq_false (by omega)
  have e2 : decide ((l0.length : Int) ≤ a1) = false := decide_eq_false (by omega)
  clear h ho hol hr0 hc0 hgl
  go_enter Tryd.func9, Tryd.ntmps9
  go_wp2_with fail
  refine HC.out.mono ?_
  rintro e w1 ⟨g, xb, rfl, hf, hb⟩
  obtain ⟨q, hq, cq, fq, km, kn⟩ := hf.cell (i := a1.toNat) (by have := HOL.out; omega)
  have HB := Aside0.mk hb
  cases q with
  | none =>
    have H2 := Aside0.mk (show (0, false) = (r1, r2) by rw [← H.out, kn rfl]; rfl)
    clear km kn hf hb hq HC H
    go_wp2_with fail
    refine bodyPost_ret (results_tmp2 rfl _ _ _) rfl ?_
    have h2 := H2.out
    simp only [Prod.mk.injEq] at h2
    exact ⟨by rw [← h2.1, ← h2.2]; rfl, HB.out⟩
  | some b =>
    obtain ⟨m, hm, hkm⟩ := km b rfl
    have H2 := Aside0.mk (show knQ (kgetL m) a2 = (r1, r2) by rw [← H.out, hm]; rfl)
    have HM := Aside0.mk hkm.1
    have G := Aside0.mk (kv_get m a2)
    rw [H2.out] at G
    clear km kn hf hb hq HC H hm hkm H2
    dsimp only at G
    go_wp2_with (first | (at_lookup; refine wpList_lookup_ok_im _ rfl _ _ 60 rfl 3 2 Tryd.underlying60 rfl _ (zeroI64 _) b m.length (kvL m) rfl HM.out a2 rfl ?_; rw [G.out.1, G.out.2]))
    refine bodyPost_ret (results_tmp2 rfl _ _ _) rfl ?_
    exact ⟨rfl, HB.out⟩
end Go.Proofs.YtfhjkkcdeigkdaaDoor.PFoldRuns

namespace Go.Proofs.YtfhjkkcdeigkdaaDoor.PFoldRuns
open Go.RowKit Go.Proofs.YtfhjkkcdeigkdaaDoorW.PrintWords Go.Proofs.YtfhjkkcdeigkdaaDoorW.PrintLast Go.Proofs.YtfhjkkcdeigkdaaDoorW.PrintMore
set_option linter.unusedVariables false
set_option linter.unusedSimpArgs false
open Go.MapKept Go.RowKit
/-! fold: an instruction of which something is known. -/
def oneQ (m : KL) (x : S53) (at_ : Int) : S53 :=
  if x.f0 = 1 ∨ x.f0 = 2 then (if (valQ (kgetL m) x).2 = true then ⟨0, 0, x.f2, 0, 0, (valQ (kgetL m) x).1, 0⟩ else x)
  else if x.f0 = 3 then (if (knQ (kgetL m) x.f3).2 = false then x else if (knQ (kgetL m) x.f3).1 = 0 then ⟨1, 0, x.f2, x.f2, 0, 0, 0⟩ else if (valQ (kgetL m) x).2 = true then ⟨0, 0, x.f2, 0, 0, (valQ (kgetL m) x).1, 0⟩ else ⟨1, 0, x.f2, x.f4, 0, 0, 0⟩)
  else if x.f0 = 7 then (if (knQ (kgetL m) x.f3).2 = false then x else if (knQ (kgetL m) x.f3).1 = 0 then ⟨6, 0, 0, 0, 0, 0, x.f6⟩ else ⟨6, 0, 0, 0, 0, 0, wrap64 (at_ + 1)⟩)
  else x
theorem res_ins {fn : Func} (h : fn.results = #[.cell 6 53]) (tmps : Array Value) (w : World) (g : Nat) (y : S53) (h6 : tmps.getD 6 undef = .pointer (some ⟨g, 0, none⟩)) (hc : w.heap[g]? = some (.cells #[.int .i64 y.f0, .int .i64 y.f1, .int .i64 y.f2, .int .i64 y.f3, .int .i64 y.f4, .int .i64 y.f5, .int .i64 y.f6] 53 (0, 0))) :
    (results fn tmps).run Tryd.prog w = .ok (.agg #[.int .i64 y.f0, .int .i64 y.f1, .int .i64 y.f2, .int .i64 y.f3, .int .i64 y.f4, .int .i64 y.f5, .int .i64 y.f6]) w := by
  have c0 : w.cell? ⟨g, 0, none⟩ = some (.int .i64 y.f0) := (blk_cell hc 0).trans rfl
  have c1 : w.cell? ⟨g, 1, none⟩ = some (.int .i64 y.f1) := (blk_cell hc 1).trans rfl
  have c2 : w.cell? ⟨g, 2, none⟩ = some (.int .i64 y.f2) := (blk_cell hc 2).trans rfl
  have c3 : w.cell? ⟨g, 3, none⟩ = some (.int .i64 y.f3) := (blk_cell hc 3).trans rfl
  have c4 : w.cell? ⟨g, 4, none⟩ = some (.int .i64 y.f4) := (blk_cell hc 4).trans rfl
  have c5 : w.cell? ⟨g, 5, none⟩ = some (.int .i64 y.f5) := (blk_cell hc 5).trans rfl
  have c6 : w.cell? ⟨g, 6, none⟩ = some (.int .i64 y.f6) := (blk_cell hc 6).trans rfl
  have hl : (loadVar 53 ⟨g, 0, none⟩).run Tryd.prog w = .ok (.agg #[.int .i64 y.f0, .int .i64 y.f1, .int .i64 y.f2, .int .i64 y.f3, .int .i64 y.f4, .int .i64 y.f5, .int .i64 y.f6]) w := by
    go_simp
  have h6' : tmps[6]?.getD undef = .pointer (some ⟨g, 0, none⟩) := by simpa using h6
  simp [results, h, h6', asAddr, hl]
theorem set7 {w w0 : World} {g base : Nat} {t : TypeId} {u0 u1 u2 u3 u4 u5 u6 : Value} (h : w.heap[g]? = some (.cells #[u0, u1, u2, u3, u4, u5, u6] t (0, 0))) (hb : Below base w0 w) (hg : base ≤ g) (v0 v1 v2 v3 v4 v5 v6 : Value) :
    (((((((w.setCell ⟨g, 0, none⟩ v0).setCell ⟨g, 1, none⟩ v1).setCell ⟨g, 2, none⟩ v2).setCell ⟨g, 3, none⟩ v3).setCell ⟨g, 4, none⟩ v4).setCell ⟨g, 5, none⟩ v5).setCell ⟨g, 6, none⟩ v6).heap[g]? = some (.cells #[v0, v1, v2, v3, v4, v5, v6] t (0, 0)) ∧ Below base w0 (((((((w.setCell ⟨g, 0, none⟩ v0).setCell ⟨g, 1, none⟩ v1).setCell ⟨g, 2, none⟩ v2).setCell ⟨g, 3, none⟩ v3).setCell ⟨g, 4, none⟩ v4).setCell ⟨g, 5, none⟩ v5).setCell ⟨g, 6, none⟩ v6) := by
  have h1 : (w.setCell ⟨g, 0, none⟩ v0).heap[g]? = some (.cells #[v0, u1, u2, u3, u4, u5, u6] t (0, 0)) := blk_put h 0 v0 (by simp)
  have b1 : Below base w0 (w.setCell ⟨g, 0, none⟩ v0) := Below.setCell hb (p := ⟨g, 0, none⟩) hg v0
  have h2 : ((w.setCell ⟨g, 0, none⟩ v0).setCell ⟨g, 1, none⟩ v1).heap[g]? = some (.cells #[v0, v1, u2, u3, u4, u5, u6] t (0, 0)) := blk_put h1 1 v1 (by simp)
  have b2 : Below base w0 ((w.setCell ⟨g, 0, none⟩ v0).setCell ⟨g, 1, none⟩ v1) := Below.setCell b1 (p := ⟨g, 1, none⟩) hg v1
  have h3 : (((w.setCell ⟨g, 0, none⟩ v0).setCell ⟨g, 1, none⟩ v1).setCell ⟨g, 2, none⟩ v2).heap[g]? = some (.cells #[v0, v1, v2, u3, u4, u5, u6] t (0, 0)) := blk_put h2 2 v2 (by simp)
  have b3 : Below base w0 (((w.setCell ⟨g, 0, none⟩ v0).setCell ⟨g, 1, none⟩ v1).setCell ⟨g, 2, none⟩ v2) := Below.setCell b2 (p := ⟨g, 2, none⟩) hg v2
  have h4 : ((((w.setCell ⟨g, 0, none⟩ v0).setCell ⟨g, 1, none⟩ v1).setCell ⟨g, 2, none⟩ v2).setCell ⟨g, 3, none⟩ v3).heap[g]? = some (.cells #[v0, v1, v2, v3, u4, u5, u6] t (0, 0)) := blk_put h3 3 v3 (by simp)
  have b4 : Below base w0 ((((w.setCell ⟨g, 0, none⟩ v0).setCell ⟨g, 1, none⟩ v1).setCell ⟨g, 2, none⟩ v2).setCell ⟨g, 3, none⟩ v3) := Below.setCell b3 (p := ⟨g, 3, none⟩) hg v3
  have h5 : (((((w.setCell ⟨g, 0, none⟩ v0).setCell ⟨g, 1, none⟩ v1).setCell ⟨g, 2, none⟩ v2).setCell ⟨g, 3, none⟩ v3).setCell ⟨g, 4, none⟩ v4).heap[g]? = some (.cells #[v0, v1, v2, v3, v4, u5, u6] t (0, 0)) := blk_put h4 4 v4 (by simp)
  have b5 : Below base w0 (((((w.setCell ⟨g, 0, none⟩ v0).setCell ⟨g, 1, none⟩ v1).setCell ⟨g, 2, none⟩ v2).setCell ⟨g, 3, none⟩ v3).setCell ⟨g, 4, none⟩ v4) := Below.setCell b4 (p := ⟨g, 4, none⟩) hg v4
  have h6 : ((((((w.setCell ⟨g, 0, none⟩ v0).setCell ⟨g, 1, none⟩ v1).setCell ⟨g, 2, none⟩ v2).setCell ⟨g, 3, none⟩ v3).setCell ⟨g, 4, none⟩ v4).setCell ⟨g, 5, none⟩ v5).heap[g]? = some (.cells #[v0, v1, v2, v3, v4, v5, u6] t (0, 0)) := blk_put h5 5 v5 (by simp)
  have b6 : Below base w0 ((((((w.setCell ⟨g, 0, none⟩ v0).setCell ⟨g, 1, none⟩ v1).setCell ⟨g, 2, none⟩ v2).setCell ⟨g, 3, none⟩ v3).setCell ⟨g, 4, none⟩ v4).setCell ⟨g, 5, none⟩ v5) := Below.setCell b5 (p := ⟨g, 5, none⟩) hg v5
  have h7 : (((((((w.setCell ⟨g, 0, none⟩ v0).setCell ⟨g, 1, none⟩ v1).setCell ⟨g, 2, none⟩ v2).setCell ⟨g, 3, none⟩ v3).setCell ⟨g, 4, none⟩ v4).setCell ⟨g, 5, none⟩ v5).setCell ⟨g, 6, none⟩ v6).heap[g]? = some (.cells #[v0, v1, v2, v3, v4, v5, v6] t (0, 0)) := blk_put h6 6 v6 (by simp)
  have b7 : Below base w0 (((((((w.setCell ⟨g, 0, none⟩ v0).setCell ⟨g, 1, none⟩ v1).setCell ⟨g, 2, none⟩ v2).setCell ⟨g, 3, none⟩ v3).setCell ⟨g, 4, none⟩ v4).setCell ⟨g, 5, none⟩ v5).setCell ⟨g, 6, none⟩ v6) := Below.setCell b6 (p := ⟨g, 6, none⟩) hg v6
  exact ⟨h7, b7⟩
set_option maxRecDepth 100000 in
set_option maxHeartbeats 8000000 in
theorem fone.calls (b : Nat) (m : KL) (x : S53) (p : Int) (w : World) (hk : KM w b m) (hok : okV m x) :
    Calls Tryd.prog 22 #[.map (some b), .agg #[.int .i64 x.f0, .int .i64 x.f1, .int .i64 x.f2, .int .i64 x.f3, .int .i64 x.f4, .int .i64 x.f5, .int .i64 x.f6], .int .i64 p] w fun e w' => ∃ y, y = oneQ m x p ∧ e = .returned (.agg #[.int .i64 y.f0, .int .i64 y.f1, .int .i64 y.f2, .int .i64 y.f3, .int .i64 y.f4, .int .i64 y.f5, .int .i64 y.f6]) ∧ Below w.heap.size w w' := by
  have HK := Aside0.mk hk
  have HOK := Aside0.mk hok
  have G3 := Aside0.mk (kv_get m x.f3)
  obtain ⟨⟨a, ia⟩, hq3⟩ : ∃ q, q = knQ (kgetL m) x.f3 := ⟨_, rfl⟩
  obtain ⟨⟨v, iv⟩, hqv⟩ : ∃ q, q = valQ (kgetL m) x := ⟨_, rfl⟩
  rw [← hq3] at G3
  have HO := Aside0.mk (show oneQ m x p = if x.f0 = 1 ∨ x.f0 = 2 then (if iv = true then ⟨0, 0, x.f2, 0, 0, v, 0⟩ else x) else if x.f0 = 3 then (if ia = false then x else if a = 0 then ⟨1, 0, x.f2, x.f2, 0, 0, 0⟩ else if iv = true then ⟨0, 0, x.f2, 0, 0, v, 0⟩ else ⟨1, 0, x.f2, x.f4, 0, 0, 0⟩) else if x.f0 = 7 then (if ia = false then x else if a = 0 then ⟨6, 0, 0, 0, 0, 0, x.f6⟩ else ⟨6, 0, 0, 0, 0, 0, wrap64 (p + 1)⟩) else x by unfold oneQ; rw [← hq3, ← hqv])
  have HV := Aside0.mk (fun W (hb : Below w.heap.size w W) => fvalue.calls b m x W (hk.below hb) hok)
  rw [← hqv] at HV
  dsimp only at G3 HV
  clear hk hok hq3 hqv
  go_enter Tryd.func22, Tryd.ntmps22
  go_upto_region 1 with fail
  have hbx := blk_alloc (blk_new w (.cells #[.int .i64 x.f0, .int .i64 x.f1, .int .i64 x.f2, .int .i64 x.f3, .int .i64 x.f4, .int .i64 x.f5, .int .i64 x.f6] 53)) (.cells #[.int .i64 0, .int .i64 0, .int .i64 0, .int .i64 0, .int .i64 0, .int .i64 0, .int .i64 0] 53)
  have hbz := blk_new (w.alloc (.cells #[.int .i64 x.f0, .int .i64 x.f1, .int .i64 x.f2, .int .i64 x.f3, .int .i64 x.f4, .int .i64 x.f5, .int .i64 x.f6] 53)) (.cells #[.int .i64 0, .int .i64 0, .int .i64 0, .int .i64 0, .int .i64 0, .int .i64 0, .int .i64 0] 53)
  have hsz : (w.alloc (.cells #[.int .i64 x.f0, .int .i64 x.f1, .int .i64 x.f2, .int .i64 x.f3, .int .i64 x.f4, .int .i64 x.f5, .int .i64 x.f6] 53)).heap.size = w.heap.size + 1 := by simp
  rw [hsz] at hbz
  have hB : Below w.heap.size w ((w.alloc (.cells #[.int .i64 x.f0, .int .i64 x.f1, .int .i64 x.f2, .int .i64 x.f3, .int .i64 x.f4, .int .i64 x.f5, .int .i64 x.f6] 53)).alloc (.cells #[.int .i64 0, .int .i64 0, .int .i64 0, .int .i64 0, .int .i64 0, .int .i64 0, .int .i64 0] 53)) := ((Below.refl _ _).alloc (Nat.le_refl _) _).alloc (by simp) _
  obtain ⟨gX, hgX⟩ : ∃ g, g = w.heap.size := ⟨_, rfl⟩
  obtain ⟨gR, hgR⟩ : ∃ g, g = w.heap.size + 1 := ⟨_, rfl⟩
  rw [← hgR] at hbz
  rw [← hgX] at hbx
  have HB := Aside0.mk hB
  have HX := Aside0.mk hbx
  have HR := Aside0.mk hbz
  have HLR := Aside0.mk (show w.heap.size ≤ gR ∧ gX ≠ gR by omega)
  rw [← hgR, ← hgX]
  clear hbx hbz hsz hB hgX hgR
  generalize ((w.alloc (.cells #[.int .i64 x.f0, .int .i64 x.f1, .int .i64 x.f2, .int .i64 x.f3, .int .i64 x.f4, .int .i64 x.f5, .int .i64 x.f6] 53)).alloc (.cells #[.int .i64 0, .int .i64 0, .int .i64 0, .int .i64 0, .int .i64 0, .int .i64 0, .int .i64 0] 53)) = w1 at HB HX HR ⊢
  have HK1 := Aside0.mk (HK.out.below HB.out).1
  have x0 : w1.cell? ⟨gX, 0, none⟩ = some (.int .i64 x.f0) := (blk_cell HX.out 0).trans rfl
  have x1 : w1.cell? ⟨gX, 1, none⟩ = some (.int .i64 x.f1) := (blk_cell HX.out 1).trans rfl
  have x2 : w1.cell? ⟨gX, 2, none⟩ = some (.int .i64 x.f2) := (blk_cell HX.out 2).trans rfl
  have x3 : w1.cell? ⟨gX, 3, none⟩ = some (.int .i64 x.f3) := (blk_cell HX.out 3).trans rfl
  have x4 : w1.cell? ⟨gX, 4, none⟩ = some (.int .i64 x.f4) := (blk_cell HX.out 4).trans rfl
  have x5 : w1.cell? ⟨gX, 5, none⟩ = some (.int .i64 x.f5) := (blk_cell HX.out 5).trans rfl
  have x6 : w1.cell? ⟨gX, 6, none⟩ = some (.int .i64 x.f6) := (blk_cell HX.out 6).trans rfl
  go_wp2_with (first | (at_lookup; refine wpList_lookup_ok_im _ rfl _ _ 60 rfl 3 2 Tryd.underlying60 rfl _ (zeroI64 _) b m.length (kvL m) rfl HK1.out x.f3 rfl ?_; rw [G3.out.1, G3.out.2]))
  refine (HV.out _ HB.out).mono ?_
  rintro e w2 ⟨rfl, hb2⟩
  replace HX := Aside0.mk (blk_below HX.out hb2)
  replace HR := Aside0.mk (blk_below HR.out hb2)
  replace HB := Aside0.mk (HB.out.trans (hb2.mono HB.out.size))
  clear hb2 x0 x1 x2 x3 x4 x5 x6 HV HK HK1 G3 HOK
  have x0 : w2.cell? ⟨gX, 0, none⟩ = some (.int .i64 x.f0) := (blk_cell HX.out 0).trans rfl
  have x1 : w2.cell? ⟨gX, 1, none⟩ = some (.int .i64 x.f1) := (blk_cell HX.out 1).trans rfl
  have x2 : w2.cell? ⟨gX, 2, none⟩ = some (.int .i64 x.f2) := (blk_cell HX.out 2).trans rfl
  have x3 : w2.cell? ⟨gX, 3, none⟩ = some (.int .i64 x.f3) := (blk_cell HX.out 3).trans rfl
  have x4 : w2.cell? ⟨gX, 4, none⟩ = some (.int .i64 x.f4) := (blk_cell HX.out 4).trans rfl
  have x5 : w2.cell? ⟨gX, 5, none⟩ = some (.int .i64 x.f5) := (blk_cell HX.out 5).trans rfl
  have x6 : w2.cell? ⟨gX, 6, none⟩ = some (.int .i64 x.f6) := (blk_cell HX.out 6).trans rfl
  have r0 : w2.cell? ⟨gR, 0, none⟩ = some (.int .i64 0) := (blk_cell HR.out 0).trans rfl
  have r1 : w2.cell? ⟨gR, 1, none⟩ = some (.int .i64 0) := (blk_cell HR.out 1).trans rfl
  have r2 : w2.cell? ⟨gR, 2, none⟩ = some (.int .i64 0) := (blk_cell HR.out 2).trans rfl
  have r3 : w2.cell? ⟨gR, 3, none⟩ = some (.int .i64 0) := (blk_cell HR.out 3).trans rfl
  have r4 : w2.cell? ⟨gR, 4, none⟩ = some (.int .i64 0) := (blk_cell HR.out 4).trans rfl
  have r5 : w2.cell? ⟨gR, 5, none⟩ = some (.int .i64 0) := (blk_cell HR.out 5).trans rfl
  have r6 : w2.cell? ⟨gR, 6, none⟩ = some (.int .i64 0) := (blk_cell HR.out 6).trans rfl
  have f0 : w2.frozen? ⟨gR, 0, none⟩ = false := blk_frozen HR.out 0
  have f1 : w2.frozen? ⟨gR, 1, none⟩ = false := blk_frozen HR.out 1
  have f2 : w2.frozen? ⟨gR, 2, none⟩ = false := blk_frozen HR.out 2
  have f3 : w2.frozen? ⟨gR, 3, none⟩ = false := blk_frozen HR.out 3
  have f4 : w2.frozen? ⟨gR, 4, none⟩ = false := blk_frozen HR.out 4
  have f5 : w2.frozen? ⟨gR, 5, none⟩ = false := blk_frozen HR.out 5
  have f6 : w2.frozen? ⟨gR, 6, none⟩ = false := blk_frozen HR.out 6
  by_cases k1 : x.f0 = 1
  · have e1 : (x.f0 == 1) = true := beq_iff_eq.2 k1
    have K1 := Aside0.mk k1
    cases iv
    · clear k1
      have HY := Aside0.mk (show oneQ m x p = x by rw [HO.out, if_pos (.inl K1.out), if_neg (by simp)])
      go_wp2_with fail
      obtain ⟨m1, m2⟩ := set7 HR.out HB.out HLR.out.1 (.int .i64 x.f0) (.int .i64 x.f1) (.int .i64 x.f2) (.int .i64 x.f3) (.int .i64 x.f4) (.int .i64 x.f5) (.int .i64 x.f6)
      refine bodyPost_ret (res_ins rfl _ _ gR x rfl m1) rfl ?_
      exact ⟨_, HY.out.symm, rfl, m2⟩
    · clear k1
      have HY := Aside0.mk (show oneQ m x p = ⟨0, 0, x.f2, 0, 0, v, 0⟩ by rw [HO.out, if_pos (.inl K1.out), if_pos rfl])
      go_wp2_with fail
      obtain ⟨m1, m2⟩ := set7 HR.out HB.out HLR.out.1 (.int .i64 0) (.int .i64 0) (.int .i64 x.f2) (.int .i64 0) (.int .i64 0) (.int .i64 v) (.int .i64 0)
      refine bodyPost_ret (res_ins rfl _ _ gR ⟨0, 0, x.f2, 0, 0, v, 0⟩ rfl m1) rfl ?_
      exact ⟨_, HY.out.symm, rfl, m2⟩
  have e1 : (x.f0 == 1) = false := beq_eq_false_iff_ne.2 k1
  by_cases k2 : x.f0 = 2
  · have e2 : (x.f0 == 2) = true := beq_iff_eq.2 k2
    have K2 := Aside0.mk k2
    clear k1 k2
    cases iv
    · skip
      have HY := Aside0.mk (show oneQ m x p = x by rw [HO.out, if_pos (.inr K2.out), if_neg (by simp)])
      go_wp2_with fail
      obtain ⟨m1, m2⟩ := set7 HR.out HB.out HLR.out.1 (.int .i64 x.f0) (.int .i64 x.f1) (.int .i64 x.f2) (.int .i64 x.f3) (.int .i64 x.f4) (.int .i64 x.f5) (.int .i64 x.f6)
      refine bodyPost_ret (res_ins rfl _ _ gR x rfl m1) rfl ?_
      exact ⟨_, HY.out.symm, rfl, m2⟩
    · skip
      have HY := Aside0.mk (show oneQ m x p = ⟨0, 0, x.f2, 0, 0, v, 0⟩ by rw [HO.out, if_pos (.inr K2.out), if_pos rfl])
      go_wp2_with fail
      obtain ⟨m1, m2⟩ := set7 HR.out HB.out HLR.out.1 (.int .i64 0) (.int .i64 0) (.int .i64 x.f2) (.int .i64 0) (.int .i64 0) (.int .i64 v) (.int .i64 0)
      refine bodyPost_ret (res_ins rfl _ _ gR ⟨0, 0, x.f2, 0, 0, v, 0⟩ rfl m1) rfl ?_
      exact ⟨_, HY.out.symm, rfl, m2⟩
  have e2 : (x.f0 == 2) = false := beq_eq_false_iff_ne.2 k2
  have K12 := Aside0.mk (show ¬ (x.f0 = 1 ∨ x.f0 = 2) by omega)
  clear k1 k2
  by_cases k3 : x.f0 = 3
  · have e3 : (x.f0 == 3) = true := beq_iff_eq.2 k3
    have K3 := Aside0.mk k3
    clear k3
    cases ia
    · skip
      have HY := Aside0.mk (show oneQ m x p = x by rw [HO.out, if_neg K12.out, if_pos K3.out, if_pos rfl])
      go_wp2_with fail
      obtain ⟨m1, m2⟩ := set7 HR.out HB.out HLR.out.1 (.int .i64 x.f0) (.int .i64 x.f1) (.int .i64 x.f2) (.int .i64 x.f3) (.int .i64 x.f4) (.int .i64 x.f5) (.int .i64 x.f6)
      refine bodyPost_ret (res_ins rfl _ _ gR x rfl m1) rfl ?_
      exact ⟨_, HY.out.symm, rfl, m2⟩
    · by_cases ha : a = 0
      · have e4 : (a == 0) = true := beq_iff_eq.2 ha
        have HA := Aside0.mk ha
        clear ha
        have HY := Aside0.mk (show oneQ m x p = ⟨1, 0, x.f2, x.f2, 0, 0, 0⟩ by rw [HO.out, if_neg K12.out, if_pos K3.out, if_neg (by simp), if_pos HA.out])
        go_wp2_with fail
        obtain ⟨m1, m2⟩ := set7 HR.out HB.out HLR.out.1 (.int .i64 1) (.int .i64 0) (.int .i64 x.f2) (.int .i64 x.f2) (.int .i64 0) (.int .i64 0) (.int .i64 0)
        refine bodyPost_ret (res_ins rfl _ _ gR ⟨1, 0, x.f2, x.f2, 0, 0, 0⟩ rfl m1) rfl ?_
        exact ⟨_, HY.out.symm, rfl, m2⟩
      · have e4 : (a == 0) = false := beq_eq_false_iff_ne.2 ha
        have HA := Aside0.mk ha
        clear ha
        cases iv
        · skip
          have HY := Aside0.mk (show oneQ m x p = ⟨1, 0, x.f2, x.f4, 0, 0, 0⟩ by rw [HO.out, if_neg K12.out, if_pos K3.out, if_neg (by simp), if_neg HA.out, if_neg (by simp)])
          go_wp2_with fail
          obtain ⟨m1, m2⟩ := set7 HR.out HB.out HLR.out.1 (.int .i64 1) (.int .i64 0) (.int .i64 x.f2) (.int .i64 x.f4) (.int .i64 0) (.int .i64 0) (.int .i64 0)
          refine bodyPost_ret (res_ins rfl _ _ gR ⟨1, 0, x.f2, x.f4, 0, 0, 0⟩ rfl m1) rfl ?_
          exact ⟨_, HY.out.symm, rfl, m2⟩
        · skip
          have HY := Aside0.mk (show oneQ m x p = ⟨0, 0, x.f2, 0, 0, v, 0⟩ by rw [HO.out, if_neg K12.out, if_pos K3.out, if_neg (by simp), if_neg HA.out, if_pos rfl])
          go_wp2_with fail
          obtain ⟨m1, m2⟩ := set7 HR.out HB.out HLR.out.1 (.int .i64 0) (.int .i64 0) (.int .i64 x.f2) (.int .i64 0) (.int .i64 0) (.int .i64 v) (.int .i64 0)
          refine bodyPost_ret (res_ins rfl _ _ gR ⟨0, 0, x.f2, 0, 0, v, 0⟩ rfl m1) rfl ?_
          exact ⟨_, HY.out.symm, rfl, m2⟩
  have e3 : (x.f0 == 3) = false := beq_eq_false_iff_ne.2 k3
  have K3 := Aside0.mk k3
  clear k3
  by_cases k7 : x.f0 = 7
  · have e7 : (x.f0 == 7) = true := beq_iff_eq.2 k7
    have K7 := Aside0.mk k7
    clear k7
    cases ia
    · skip
      have HY := Aside0.mk (show oneQ m x p = x by rw [HO.out, if_neg K12.out, if_neg K3.out, if_pos K7.out, if_pos rfl])
      go_wp2_with fail
      obtain ⟨m1, m2⟩ := set7 HR.out HB.out HLR.out.1 (.int .i64 x.f0) (.int .i64 x.f1) (.int .i64 x.f2) (.int .i64 x.f3) (.int .i64 x.f4) (.int .i64 x.f5) (.int .i64 x.f6)
      refine bodyPost_ret (res_ins rfl _ _ gR x rfl m1) rfl ?_
      exact ⟨_, HY.out.symm, rfl, m2⟩
    · by_cases ha : a = 0
      · have e4 : (a == 0) = true := beq_iff_eq.2 ha
        have HA := Aside0.mk ha
        clear ha
        have HY := Aside0.mk (show oneQ m x p = ⟨6, 0, 0, 0, 0, 0, x.f6⟩ by rw [HO.out, if_neg K12.out, if_neg K3.out, if_pos K7.out, if_neg (by simp), if_pos HA.out])
        go_wp2_with fail
        obtain ⟨m1, m2⟩ := set7 HR.out HB.out HLR.out.1 (.int .i64 6) (.int .i64 0) (.int .i64 0) (.int .i64 0) (.int .i64 0) (.int .i64 0) (.int .i64 x.f6)
        refine bodyPost_ret (res_ins rfl _ _ gR ⟨6, 0, 0, 0, 0, 0, x.f6⟩ rfl m1) rfl ?_
        exact ⟨_, HY.out.symm, rfl, m2⟩
      · have e4 : (a == 0) = false := beq_eq_false_iff_ne.2 ha
        have HA := Aside0.mk ha
        clear ha
        have HY := Aside0.mk (show oneQ m x p = ⟨6, 0, 0, 0, 0, 0, wrap64 (p + 1)⟩ by rw [HO.out, if_neg K12.out, if_neg K3.out, if_pos K7.out, if_neg (by simp), if_neg HA.out])
        go_wp2_with fail
        obtain ⟨m1, m2⟩ := set7 HR.out HB.out HLR.out.1 (.int .i64 6) (.int .i64 0) (.int .i64 0) (.int .i64 0) (.int .i64 0) (.int .i64 0) (.int .i64 (wrap64 (p + 1)))
        refine bodyPost_ret (res_ins rfl _ _ gR ⟨6, 0, 0, 0, 0, 0, wrap64 (p + 1)⟩ rfl m1) rfl ?_
        exact ⟨_, HY.out.symm, rfl, m2⟩
  · have e7 : (x.f0 == 7) = false := beq_eq_false_iff_ne.2 k7
    have K7 := Aside0.mk k7
    clear k7
    have HY := Aside0.mk (show oneQ m x p = x by rw [HO.out, if_neg K12.out, if_neg K3.out, if_neg K7.out])
    go_wp2_with fail
    obtain ⟨m1, m2⟩ := set7 HR.out HB.out HLR.out.1 (.int .i64 x.f0) (.int .i64 x.f1) (.int .i64 x.f2) (.int .i64 x.f3) (.int .i64 x.f4) (.int .i64 x.f5) (.int .i64 x.f6)
    refine bodyPost_ret (res_ins rfl _ _ gR x rfl m1) rfl ?_
    exact ⟨_, HY.out.symm, rfl, m2⟩
end Go.Proofs.YtfhjkkcdeigkdaaDoor.PFoldRuns

-- HAND paling/fold.Code rounds=1 making=1 needs=paling/calc.divide;paling/calc.told;paling/palingref01.Eval;slices.Contains[[]int,int];paling/palingref12.Get;paling/palingref12.Put;paling/palingref11.Check;slices.Clone[paling/api.Code,paling/api.Ins]
namespace Go.Proofs.YtfhjkkcdeigkdaaDoor.PFoldRuns
open Go.RowKit Go.Proofs.YtfhjkkcdeigkdaaDoorW.PrintWords Go.Proofs.YtfhjkkcdeigkdaaDoorW.PrintLast Go.Proofs.YtfhjkkcdeigkdaaDoorW.PrintMore
set_option linter.unusedVariables false
set_option linter.unusedSimpArgs false
open Go.MapKept Go.RowKit
/-! fold.Code. -/
def oneO (q : Option KL) (x : S53) (i : Int) : S53 := match q with | none => x | some m => oneQ m x i
def okO (q : Option KL) (x : S53) : Bool := match q with | none => true | some m => decide (okV m x)
def codeL (c : List S53) (o : OS) : List S53 := (List.range c.length).map (fun i => oneO (o.getD i none) (c.getD i z53) (i : Int))
def fold_Code.f (k : Nat) (l0 : List S53) : Option (List S53) := if l0.length ≤ 1000 then (fold_all.f k l0).bind fun o => if o.length = l0.length ∧ (List.range l0.length).all (fun i => okO (o.getD i none) (l0.getD i z53)) = true then some (codeL l0 o) else none else none
theorem fold_Code.mono : ∀ a0 k, LeO (fold_Code.f k a0) (fold_Code.f (k + 1) a0) := by
  intro a0 k
  unfold fold_Code.f
  exact LeO.ite (LeO.bind (fold_all.mono _ _) (fun _ => LeO.refl _)) (LeO.none _)
theorem codeL_len (c : List S53) (o : OS) : (codeL c o).length = c.length := by simp [codeL]
theorem codeL_get (c : List S53) (o : OS) (i : Nat) (h : i < c.length) : (codeL c o).getD i z53 = oneO (o.getD i none) (c.getD i z53) (i : Int) := by
  unfold codeL
  rw [List.getD_eq_getElem?_getD, List.getElem?_map, List.getElem?_range h]
  rfl
theorem fill_next {R c : List S53} {i : Nat} (h : i < c.length) (hR : R.length = c.length) : (R.take i ++ c.drop i).set i (R.getD i z53) = R.take (i + 1) ++ c.drop (i + 1) := by
  rw [List.drop_eq_getElem_cons h, List.set_append_right _ _ (by simp; omega)]
  rw [show i - (R.take i).length = 0 by simp; omega, List.set_cons_zero, List.take_succ_eq_append_getElem (by omega), List.append_assoc]
  rw [List.getD_eq_getElem?_getD, List.getElem?_eq_getElem (by omega)]
  rfl
theorem fill_same {R c : List S53} {i : Nat} (h : i < c.length) (hR : R.length = c.length) (he : R.getD i z53 = c.getD i z53) : R.take i ++ c.drop i = R.take (i + 1) ++ c.drop (i + 1) := by
  rw [← fill_next h hR, he]
  rw [List.drop_eq_getElem_cons h, List.set_append_right _ _ (by simp; omega)]
  rw [show i - (R.take i).length = 0 by simp; omega, List.set_cons_zero, List.getD_eq_getElem?_getD, List.getElem?_eq_getElem h]
  rfl
set_option maxRecDepth 100000 in
set_option maxHeartbeats 8000000 in
theorem fold_Code.calls (k : Nat) (A0 : Option Addr) (c0 : Nat) (l0 : List S53) (r : List S53) (w : World) (hr0 : Kd.C k53 w A0 l0.length l0) (hc0 : l0.length ≤ c0) (h : fold_Code.f k l0 = some r) (hgl : GlobOK w) :
    Calls Tryd.prog 12 #[.slice A0 l0.length c0] w fun e w' => ∃ v0_ : Value, e = .returned (v0_) ∧ Kd.R k53 53 w' w.heap.size (fun _ => True) v0_ r ∧ Below w.heap.size w w' := by
  unfold fold_Code.f at h
  by_cases hl : l0.length ≤ 1000
  case neg => rw [if_neg hl] at h; cases h
  rw [if_pos hl] at h
  obtain ⟨o, ho, h⟩ := Option.bind_eq_some_iff.1 h
  by_cases hq : o.length = l0.length ∧ (List.range l0.length).all (fun i => okO (o.getD i none) (l0.getD i z53)) = true
  case neg => rw [if_neg hq] at h; cases h
  rw [if_pos hq] at h
  have HRR := Aside0.mk (Option.some.inj h).symm
  have HRL := Aside0.mk (show r.length = l0.length by rw [← Option.some.inj h]; exact codeL_len _ _)
  have HL := Aside0.mk hl
  have HOL := Aside0.mk hq.1
  have HOK := Aside0.mk hq.2
  have HR0 := Aside0.mk hr0
  have HC0 := Aside0.mk hc0
  have HC1 := Aside0.mk (api_Ins.calls A0 c0 l0 l0 w hr0 hc0 (by unfold api_Ins.f; rw [if_pos (by omega)]))
  have HC2 := Aside0.mk (fun W (hb : Below w.heap.size w W) => fall.calls k A0 c0 l0 o W (Kd.C_below hr0 hb) hc0 ho (hgl.step hb))
  clear h hl hq hr0 hc0 ho hgl
  go_enter Tryd.func12, Tryd.ntmps12
  go_wp2_with fail
  refine HC1.out.mono ?_
  rintro e w1 ⟨v3, rfl, hr1, hb1⟩
  go_wp2_with fail
  refine (HC2.out w1 hb1).mono ?_
  rintro e w2 ⟨g, xb, rfl, hf, hb2⟩
  have HF := Aside0.mk hf
  have HR := Aside0.mk (Kd.R_below hr1 hb2)
  have HB := Aside0.mk (hb1.trans (hb2.mono hb1.size))
  clear hr1 hb1 hb2 hf HC1 HC2
  go_wp2_with fail
  go_loopg [4, 5, 11] l0.length (fun gg _ _ s11 wr => ∃ (i : Nat), s11 = .int .i64 (i : Int) ∧ i ≤ l0.length ∧ l0.length - i ≤ gg ∧ Aside0 (Kd.R k53 53 wr w.heap.size (fun _ => True) v3 (r.take i ++ l0.drop i)) ∧ Aside0 (FE wr w1.heap.size g xb o) ∧ Aside0 (Below w.heap.size w wr))
  case atStart => exact ⟨0, rfl, by omega, by omega, ⟨by simpa using HR.out⟩, HF, HB⟩
  case round =>
    clear HR HF HB
    obtain ⟨i, rfl, hi1, hig, HR, HF, HB⟩ := hrel
    by_cases hlt : i < l0.length
    · have d0 : decide ((i : Int) < (l0.length : Int)) = true := decide_eq_true (by omega)
      have d1 : decide (i < l0.length) = true := decide_eq_true hlt
      have d2 : (i : Int) < (l0.length : Int) := by omega
      have d3 : i < l0.length := hlt
      obtain ⟨q, hq, cq, fq, km, kn⟩ := HF.out.cell (i := i) (by have := HOL.out; omega)
      have hqn := fun w => run_neq_map_nil (P := Tryd.prog) w 60 3 2 q Tryd.underlying60
      have HWI := Aside0.mk (show wrap64 ((i : Int) + 1) = ((i + 1 : Nat) : Int) by have := HL.out; rw [wrap_in (by omega) (by omega)]; omega)
      have HI := Aside0.mk (And.intro hlt hig)
      have hRi : r.getD i z53 = oneO (o.getD i none) (l0.getD i z53) (i : Int) := by rw [HRR.out]; exact codeL_get _ _ _ hlt
      cases q with
      | none =>
        rw [kn rfl] at hRi
        have HR2 := Aside0.mk (fill_same hlt HRL.out hRi ▸ HR.out)
        clear kn km hq hRi hi1 hig hlt
        go_wp2_with fail
        go_roundg (gk - 1)
        case measure => have := HI.out; omega
        case rel => exact ⟨i + 1, by first | rfl | rw [HWI.out], HI.out.1, by have := HI.out; omega, HR2, HF, HB⟩
      | some b =>
        obtain ⟨m, hm, hkm⟩ := km b rfl
        rw [hm] at hRi
        obtain ⟨ad, e1, q0, q1, q2, q3, q4, q5, q6⟩ := at_T53 (Kd.C_below HR0.out HB.out) (i : Int) (by omega) (by omega)
        cases e1
        obtain ⟨x, hx⟩ : ∃ x, x = rd_T53 l0 (i : Int) := ⟨_, rfl⟩
        have hx2 : l0.getD i z53 = x := by rw [hx]; unfold rd_T53; rw [Int.toNat_natCast]
        rw [← hx] at q0 q1 q2 q3 q4 q5 q6
        simp only [Int.toNat_natCast] at q0 q1 q2 q3 q4 q5 q6
        rw [hx2] at hRi
        have hov := List.all_eq_true.1 HOK.out i (List.mem_range.2 hlt)
        rw [hm, hx2] at hov
        have HC := Aside0.mk (fone.calls b m x (i : Int) wr hkm (of_decide_eq_true hov))
        have HRI := Aside0.mk hRi
        clear hov hRi hx hx2 km kn hm hkm hq hi1 hig hlt
        have hln : (r.take i ++ l0.drop i).length = l0.length := by simp [HRL.out]; omega
        obtain ⟨gR, capR, ev, hbR, hlR, cR, hcR⟩ := Kd.R_form HR.out (by rw [hln]; omega)
        rw [hln] at ev
        cases ev
        have HCR := Aside0.mk hcR
        have HLN := Aside0.mk hln
        have NE : gR ≠ g := fun e => by
          have h2 := HF.out.hg
          rw [← e, hcR] at h2
          injection h2 with h2
          injection h2 with _ h3 _
          exact absurd h3 (by decide)
        have NM : ∀ j : Nat, xb[j]? ≠ some (some gR) := fun j hj => by
          obtain ⟨m', _, h2⟩ := HF.out.km j gR hj
          exact h2.noCells hcR
        have HNE := Aside0.mk NE
        have HNM := Aside0.mk NM
        clear hcR hln NE NM
        go_wp2_with fail
        refine HC.out.mono ?_
        rintro e w3 ⟨y, hy, rfl, hb3⟩
        have HR3 := Aside0.mk (Kd.R_below HR.out hb3)
        have HF3 := Aside0.mk (HF.out.below hb3)
        have HB3 := Aside0.mk (HB.out.trans (hb3.mono HB.out.size))
        clear HR HF HB HC q0 q1 q2 q3 q4 q5 q6 hb3
        have HY := Aside0.mk hy
        clear hy
        have hCr := (Kd.R_reads' HR3.out).2.2
        rw [HLN.out] at hCr
        obtain ⟨ad5, c5, e5, _, hK5, hc5⟩ := Kd.C_get hCr z53 (i : Int) (by omega) (by have := HI.out.1; omega)
        cases e5
        obtain ⟨z, hz⟩ : ∃ z, z = (r.take i ++ l0.drop i).getD (i : Int).toNat z53 := ⟨_, rfl⟩
        rw [← hz] at hK5
        obtain rfl := k53_open hK5
        have HC5 : Aside0 (∀ (j : Nat) (u : Value), [.int .i64 z.f0, .int .i64 z.f1, .int .i64 z.f2, .int .i64 z.f3, .int .i64 z.f4, .int .i64 z.f5, .int .i64 z.f6][j]? = some u → w3.cell? ⟨gR, (i : Int).toNat * 7 + j, none⟩ = some u) := ⟨fun j u hj => by
          have h5 := hc5 j u hj
          rw [show ∀ n : Nat, (⟨gR, 0, none⟩ : Addr).add n = ⟨gR, n, none⟩ from fun n => by unfold Addr.add; split <;> simp_all] at h5
          exact h5⟩
        clear hc5 hK5 hz hCr
        go_wp2_with (first | ((with_reducible refine gate_store (t := 53) (p := 27) rfl ?_); refine Kd.R_store k53 (w0 := w) w.heap.size rfl rfl 53 (.tmp 27) (.tmp 26) rfl 53 (o' := i * 7) (i : Int) 0 (r.take i ++ l0.drop i) y (.agg #[.int .i64 y.f0, .int .i64 y.f1, .int .i64 y.f2, .int .i64 y.f3, .int .i64 y.f4, .int .i64 y.f5, .int .i64 y.f6]) [.int .i64 y.f0, .int .i64 y.f1, .int .i64 y.f2, .int .i64 y.f3, .int .i64 y.f4, .int .i64 y.f5, .int .i64 y.f6] [.int .i64 z.f0, .int .i64 z.f1, .int .i64 z.f2, .int .i64 z.f3, .int .i64 z.f4, .int .i64 z.f5, .int .i64 z.f6] (fun _ => True) (fun _ => False) rfl rfl rfl rfl (by kernel_rfl) (by simp [Value.oneCell']) HR3.out (by omega) (by have := HI.out.1; omega) rfl HC5.out (Nat.le_refl _) (k53_mkM _ _ _ _) (fun _ hk => hk.elim) HB3.out ?_) | fail)
        intro w4 hR4 hB4 hG4
        have HR4 := Aside0.mk (show Kd.R k53 53 w4 w.heap.size (fun _ => True) (.slice (some ⟨gR, 0, none⟩) l0.length capR) (r.take (i + 1) ++ l0.drop (i + 1)) by
          rw [HY.out, show oneQ m x (i : Int) = r.getD i z53 from HRI.out.symm, Int.toNat_natCast, fill_next HI.out.1 HRL.out] at hR4
          exact hR4)
        have HB4 := Aside0.mk hB4
        have HF4 := Aside0.mk (HF3.out.grown hG4 (fun k hk => by
          cases hk
          exact ⟨HNE.out, HNM.out⟩))
        clear hR4 hB4 hG4 HR3 HF3 HB3 HC5
        go_wp2_with fail
        go_roundg (gk - 1)
        case measure => have := HI.out; omega
        case rel => exact ⟨i + 1, by first | rfl | rw [HWI.out], HI.out.1, by have := HI.out; omega, HR4, HF4, HB4⟩
    · have d0 : decide ((i : Int) < (l0.length : Int)) = false := decide_eq_false (by omega)
      have d1 : decide (i < l0.length) = false := decide_eq_false hlt
      have HE := Aside0.mk (show r.take i ++ l0.drop i = r by rw [List.drop_eq_nil_of_le (by omega), List.append_nil, List.take_of_length_le (by have := HRL.out; omega)])
      clear hlt hi1 hig
      go_wp2_with fail
      go_ret
      exact ⟨_, rfl, HE.out ▸ HR.out, HB.out⟩
end Go.Proofs.YtfhjkkcdeigkdaaDoor.PFoldRuns
