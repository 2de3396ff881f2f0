-- The row of the law paling/palinglaw16.FoldRuns, out of its plain theorem and the printed walk, by wip/row2.py.
import Derived.Test.YtfhjkkcdeigkdaaDoorRows
import Derived.Test.YtfhjkkcdeigkdaaDoorPFoldRunshg5
import Derived.Test.YtfhjkkcdeigkdaaDoorPureFoldRuns
import Derived.Test.YtfhjkkcdeigkdaaDoorCards
import Derived.Test.YtfhjkkcdeigkdaaDoorTie
import Derived.Test.YtfhjkkcdeigkdaaDoorLaidFoldRuns
import Derived.WalkKit
import Derived.ProofKit
import Derived.OpenShut
import Derived.ShutString
import Derived.ChangeOld
import Derived.Below
import Derived.SizedLaws
import Derived.Deep.Slices
import Derived.Deep.Fields
import Derived.ChangeSame
import Derived.Test.YtfhjkkcdeigkdaaDoorPFoldRunsWSized
namespace Go.Proofs.YtfhjkkcdeigkdaaDoor.foldRuns
open Go.ChangeShapes Go.WideShapes Go.ChangeAt Go.RowKit Go.Deep
open Go.ChangeMaps (open_string shut_string)
open Go.Proofs.YtfhjkkcdeigkdaaDoor.PFoldRuns Go.Proofs.YtfhjkkcdeigkdaaDoorW.PrintWords Go.Proofs.YtfhjkkcdeigkdaaDoorW.PrintLast
set_option linter.unusedVariables false
set_option linter.unusedSimpArgs false
theorem own : ownKnob Tryd.prog.godebug = none := by kernel_rfl
theorem laidOut : laidOutB Tryd.prog = true := by kernel_rfl
def IsRow (k : IntKind) (w : World) (a : Option Addr) (len cap : Nat) (zs : List Int) : Prop :=
  (a = none ∧ len = 0 ∧ cap = 0 ∧ zs = []) ∨
  ∃ x, a = some x ∧ len ≤ cap ∧ cap ≤ maxLen ∧ zs.length = cap ∧ (∀ i, i < zs.length → w.cell? (x.add i) = some (.int k (zs.getD i 0))) ∧ ∀ n ∈ zs, (Lit.int k n).wf = true
section
variable {H : Type} {enc : TypeId × Value → H} {P : Program} {w : World} {base : Nat} {spare : Nat → Bool} {held : Bool}
theorem open_slice_fields {t e : TypeId} {fs : Array Field} {fuel : Nat} {cs : List Value} {x : DataW H × List MemPlace} (ht : P.underlying t = some (.slice e)) (he : P.underlying e = some (.struct fs))
    (hone : oneCellFields P fs = true) (hC : P.cellsOf e = fs.size) (h : DataW.trod enc P w base spare held fuel t cs = some x) :
    (cs = [.slice none 0 0] ∧ x = (.nil, [])) ∨
    ∃ (a : Addr) (len cap m : Nat) (D : Nat → DataW H) (Pl : Nat → List MemPlace), cs = [.slice (some a) len cap] ∧ len ≤ cap ∧ cap ≤ maxLen ∧ m = (if spare a.block then cap else len) ∧
      x = (.slice ((List.range len).map D) ((List.range (m - len)).map fun j => D (len + j)), MemPlace.row a (m * fs.size) ++ (List.range m).flatMap Pl) ∧
      ∀ i, i < m → ∃ n, ∀ (j : Nat) (f : Field), fs[j]? = some f → ∃ (v : Value) (y : DataW H × List MemPlace), w.cell? (a.add (i * fs.size + j)) = some v ∧ DataW.trod enc P w base spare held n f.type [v] = some y := by
  rcases open_slice ht h with h0 | ⟨a, len, cap, m, n, D, Pl, hcs, hb, hl, hm, hmm, hx, hi⟩
  · exact .inl h0
  · refine .inr ⟨a, len, cap, m, D, Pl, hcs, hl, hm, hmm, by rw [hC] at hx; exact hx, fun i him => ?_⟩
    obtain ⟨cs', hc, ht'⟩ := hi i him
    rw [hC] at hc
    obtain ⟨ys, n', hn', hy, hlen, hyl, hf⟩ := DataW.trod_struct he ht'
    obtain ⟨_, hcl, hat⟩ := World.cells?_some hc
    refine ⟨n', fun j f hj => ?_⟩
    obtain ⟨ho, hk⟩ := hone_of hone j f hj
    have hjl : j < fs.size := (Array.getElem?_eq_some_iff.1 hj).1
    have hcell := hat j hjl
    have hv : cs'[j]? = some (cs'[j]'(by omega)) := List.getElem?_eq_getElem (by omega)
    have h1 := hf j f hj
    rw [ho, hk] at h1
    have hone' : (cs'.drop j).take 1 = [cs'[j]'(by omega)] := by
      rw [List.drop_eq_getElem_cons (by omega)]
      rfl
    rw [hone'] at h1
    have hys : ys[j]? = some (ys[j]'(by omega)) := List.getElem?_eq_getElem (by omega)
    refine ⟨_, _, ?_, h1.trans hys⟩
    rw [← Go.Deep.add_add, hcell, hv]
end
theorem openS53 {H : Type} {enc : TypeId × Value → H} {w : World} {t : TypeId} {A0 : Option Addr} {len cap : Nat} {d : DataW H} {ps : List MemPlace} {ts : List TypeId} {ds : List (DataW H)} {j : Nat}
    (hsz : (DataW.weightsEach Tryd.prog ts ds).all (· ≤ reachBytes) = true) (ht : ts[j]? = some t) (hd : ds[j]? = some d) (hu : Tryd.prog.underlying t = some (.slice 53))
    (h : DataW.Trod enc Tryd.prog w 0 (fun _ => true) true t (.slice A0 len cap) d ps) : ∃ l : List S53, l.length = len ∧ Kd.C k53 w A0 l.length l ∧ l.length ≤ cap ∧ (∀ x ∈ l, wfS53 x) ∧ l.length * 56 ≤ 140737488351232 := by
  obtain ⟨fuel, hf⟩ := h
  rcases open_slice_fields hu Tryd.underlying53 (by kernel_rfl) (by kernel_rfl) hf with ⟨hcs, _⟩ | ⟨a, len2, cap2, m, D, Pl, hcs, hl, hm, hmm, hx, hi⟩
  · simp [Value.cells] at hcs
    obtain ⟨rfl, rfl, rfl⟩ := hcs
    exact ⟨[], rfl, ⟨rfl, by simp, fun h => absurd h (by simp)⟩, by simp, by simp, by simp⟩
  · simp [Value.cells] at hcs
    obtain ⟨rfl, rfl, rfl⟩ := hcs
    simp only [if_true] at hmm
    subst hmm
    have hall : ∀ i, ∃ x : S53, i < len → wfS53 x ∧ w.cell? (a.add (i * 7 + 0)) = some (.int .i64 x.f0) ∧ w.cell? (a.add (i * 7 + 1)) = some (.int .i64 x.f1) ∧ w.cell? (a.add (i * 7 + 2)) = some (.int .i64 x.f2) ∧ w.cell? (a.add (i * 7 + 3)) = some (.int .i64 x.f3) ∧ w.cell? (a.add (i * 7 + 4)) = some (.int .i64 x.f4) ∧ w.cell? (a.add (i * 7 + 5)) = some (.int .i64 x.f5) ∧ w.cell? (a.add (i * 7 + 6)) = some (.int .i64 x.f6) := fun i => by
      by_cases hil : i < len
      · obtain ⟨n0, hfl⟩ := hi i (by omega)
        obtain ⟨v0, y0, c0, t0⟩ := hfl 0 _ rfl
        obtain ⟨x0, e0, _, w0⟩ := DataW.trod_int Tryd.underlying3 t0
        simp only [List.cons.injEq, and_true] at e0
        subst e0
        obtain ⟨v1, y1, c1, t1⟩ := hfl 1 _ rfl
        obtain ⟨x1, e1, _, w1⟩ := DataW.trod_int Tryd.underlying3 t1
        simp only [List.cons.injEq, and_true] at e1
        subst e1
        obtain ⟨v2, y2, c2, t2⟩ := hfl 2 _ rfl
        obtain ⟨x2, e2, _, w2⟩ := DataW.trod_int Tryd.underlying3 t2
        simp only [List.cons.injEq, and_true] at e2
        subst e2
        obtain ⟨v3, y3, c3, t3⟩ := hfl 3 _ rfl
        obtain ⟨x3, e3, _, w3⟩ := DataW.trod_int Tryd.underlying3 t3
        simp only [List.cons.injEq, and_true] at e3
        subst e3
        obtain ⟨v4, y4, c4, t4⟩ := hfl 4 _ rfl
        obtain ⟨x4, e4, _, w4⟩ := DataW.trod_int Tryd.underlying3 t4
        simp only [List.cons.injEq, and_true] at e4
        subst e4
        obtain ⟨v5, y5, c5, t5⟩ := hfl 5 _ rfl
        obtain ⟨x5, e5, _, w5⟩ := DataW.trod_int Tryd.underlying2 t5
        simp only [List.cons.injEq, and_true] at e5
        subst e5
        obtain ⟨v6, y6, c6, t6⟩ := hfl 6 _ rfl
        obtain ⟨x6, e6, _, w6⟩ := DataW.trod_int Tryd.underlying3 t6
        simp only [List.cons.injEq, and_true] at e6
        subst e6
        exact ⟨⟨x0, x1, x2, x3, x4, x5, x6⟩, fun _ => ⟨⟨w0, w1, w2, w3, w4, w5, w6⟩, c0, c1, c2, c3, c4, c5, c6⟩⟩
      · exact ⟨z53, fun h => absurd h hil⟩
    obtain ⟨f, hfx⟩ := Classical.axiomOfChoice hall
    have hlen : ((List.range len).map f).length = len := by simp
    refine ⟨(List.range len).map f, hlen, ?_, by rw [hlen]; exact hl, ?_, ?_⟩
    · rw [hlen]
      refine ⟨hlen, by unfold maxLen at hm; omega, fun _ => ⟨a, rfl, fun q p hq => ?_⟩⟩
      have hql : q < len := by
        have := (List.getElem?_eq_some_iff.1 hq).1
        omega
      have hp : p = f q := by simpa [hql] using hq.symm
      subst hp
      obtain ⟨x, hxx⟩ : ∃ x, x = f q := ⟨_, rfl⟩
      have hc := (hfx q hql).2
      rw [← hxx] at hc ⊢
      obtain ⟨h0, h1, h2, h3, h4, h5, h6⟩ := hc
      refine ⟨[.int .i64 x.f0, .int .i64 x.f1, .int .i64 x.f2, .int .i64 x.f3, .int .i64 x.f4, .int .i64 x.f5, .int .i64 x.f6], rfl, k53_mk w x, fun i u hu => ?_⟩
      show w.cell? (a.add (q * 7 + i)) = some u
      match i, hu with
      | 0, hu => simp at hu; subst hu; exact h0
      | 1, hu => simp at hu; subst hu; exact h1
      | 2, hu => simp at hu; subst hu; exact h2
      | 3, hu => simp at hu; subst hu; exact h3
      | 4, hu => simp at hu; subst hu; exact h4
      | 5, hu => simp at hu; subst hu; exact h5
      | 6, hu => simp at hu; subst hu; exact h6
      | i + 7, hu => simp at hu
    · intro x hx
      obtain ⟨q, hq, rfl⟩ := List.mem_map.1 hx
      exact (hfx q (List.mem_range.1 hq)).1
    · obtain ⟨hx, _⟩ := Prod.mk.inj hx
      subst hx
      have z := sized_slice hsz ht hd hu
      rw [show Tryd.prog.bytesOf 53 = 56 by kernel_rfl] at z
      simp only [List.length_map, List.length_range] at z ⊢
      exact Nat.le_trans (Nat.mul_le_mul_right _ (by omega)) z
set_option maxRecDepth 100000 in
set_option maxHeartbeats 1000000 in
theorem lifted (os : Os) (started : os.Started) (H : Type) (enc : TypeId × Value → H) :
    ReturnsInHanded {} Tryd.checked os 4 .any (fun w args => (Rows.foldRunsSpec.pre enc Tryd.prog Tryd.f4 [] false w args ∧ laidMetH Tryd.prog LaidFoldRuns.laid w) ∧ sizedMet enc Tryd.prog Tryd.f4 (OpenSpec.ofChange Rows.foldRunsSpec) false w args) (Rows.foldRunsSpec.post enc Tryd.prog Tryd.f4 false true false false) := by
  refine returnsInHanded_of_change_and (C := Tryd.checked) (X := fun w _ => laidMetH Tryd.prog LaidFoldRuns.laid w) (fun _ _ _ hh h => h.of_heap hh) own started (by kernel_rfl) Tryd.func4
    (ChangeSpec.witness_shaped (enc := enc) (C := Tryd.checked) (os := os) (X := fun w _ => laidMetH Tryd.prog LaidFoldRuns.laid w) false (World.doorLaid Tryd.prog 400 os) #[.slice none 0 0, .slice none 0 0, .slice none 0 0] 8 rfl (World.shaped_of_RefB (by kernel_rfl) (by kernel_rfl)) (by kernel_rfl) (by kernel_rfl) (by kernel_rfl) (LaidFoldRuns.door_met os _)) ?_
  intro W base args ds gs before hval0 hW hcnd hsz0 hL _
  have hgl := LaidFoldRuns.globOK hL
  have hsz : (DataW.weightsEach Tryd.prog (Tryd.f4.params.toList ++ Rows.foldRunsSpec.plain.varTypes Tryd.prog) (ds ++ gs)).all (· ≤ reachBytes) = true := hsz0
  have hval : ∀ (j : Nat) t v, Tryd.f4.params[j]? = some t → args[j]? = some v → Value.okWide Tryd.prog W .any base t v := hval0
  have hW' := hW
  obtain ⟨p, q, hA0, hV, rfl, hfz, hnd⟩ := hW
  have hA : DataW.TrodAll enc Tryd.prog W 0 (fun _ => true) true Tryd.f4.params.toList args.toList ds p := hA0
  rw [Tryd.params4] at hA hval hsz
  obtain ⟨v0, vs0, d0, ds0, p0, q0, hargs, rfl, rfl, h0, r0⟩ := trodAll_cons hA
  obtain ⟨v1, vs1, d1, ds1, p1, q1, rfl, rfl, rfl, h1, r1⟩ := trodAll_cons r0
  obtain ⟨v2, vs2, d2, ds2, p2, q2, rfl, rfl, rfl, h2, r2⟩ := trodAll_cons r1
  obtain ⟨rfl, rfl, rfl⟩ := trodAll_nil r2
  obtain rfl : args = #[v0, v1, v2] := by cases args; simp_all
  obtain ⟨rfl, rfl⟩ := trodVars_none hV
  obtain ⟨a0, len0, cap0, rfl⟩ := okWide_slice Tryd.underlying22 (hval 0 22 v0 rfl rfl)
  have k0 := h0
  have lt0 : ∀ x ∈ p0, x.block < W.heap.size := by obtain ⟨m, hm⟩ := k0; exact DataW.trod_lt m _ _ _ hm
  obtain ⟨l0, rfl, hr0, hc0, hw0, y0⟩ := openS53 hsz (j := 0) (t := 22) rfl rfl Tryd.underlying22 h0
  obtain ⟨a1, len1, cap1, rfl⟩ := okWide_slice Tryd.underlying31 (hval 1 31 v1 rfl rfl)
  have k1 := h1
  have lt1 : ∀ x ∈ p1, x.block < W.heap.size := by obtain ⟨m, hm⟩ := k1; exact DataW.trod_lt m _ _ _ hm
  obtain ⟨z1, w1⟩ : ∃ zs, IsRow .i64 W a1 len1 cap1 zs := by
    obtain ⟨fuel, hf⟩ := h1
    rcases open_ints Tryd.underlying31 Tryd.underlying2 (by kernel_rfl) hf with ⟨hcs, _⟩ | ⟨x, l, c, zs, hcs, _, hl, hm, hz, _, hcell, hwz⟩
    · simp [Value.cells] at hcs
      obtain ⟨rfl, rfl, rfl⟩ := hcs
      exact ⟨[], .inl ⟨rfl, rfl, rfl, rfl⟩⟩
    · simp [Value.cells] at hcs
      obtain ⟨rfl, rfl, rfl⟩ := hcs
      exact ⟨zs, .inr ⟨_, rfl, hl, hm, by simpa using hz, hcell, hwz⟩⟩
  have y1 : len1 * 8 ≤ 140737488351232 := sized_ints hsz (j := 1) (t := 31) rfl rfl Tryd.underlying31 Tryd.underlying2 (by kernel_rfl) (by kernel_rfl) h1
  obtain ⟨l1, rfl, hr10, hm1, hw1, hc1⟩ := ReadsInt.ofRowC w1
  have hr1 := Kd.C_of_reads (d := (0 : Int)) (h1 := fun _ => rfl) hr10
  obtain ⟨a2, len2, cap2, rfl⟩ := okWide_slice Tryd.underlying32 (hval 2 32 v2 rfl rfl)
  have k2 := h2
  have lt2 : ∀ x ∈ p2, x.block < W.heap.size := by obtain ⟨m, hm⟩ := k2; exact DataW.trod_lt m _ _ _ hm
  obtain ⟨z2, w2⟩ : ∃ zs, IsRow .u8 W a2 len2 cap2 zs := by
    obtain ⟨fuel, hf⟩ := h2
    rcases open_ints Tryd.underlying32 Tryd.underlying5 (by kernel_rfl) hf with ⟨hcs, _⟩ | ⟨x, l, c, zs, hcs, _, hl, hm, hz, _, hcell, hwz⟩
    · simp [Value.cells] at hcs
      obtain ⟨rfl, rfl, rfl⟩ := hcs
      exact ⟨[], .inl ⟨rfl, rfl, rfl, rfl⟩⟩
    · simp [Value.cells] at hcs
      obtain ⟨rfl, rfl, rfl⟩ := hcs
      exact ⟨zs, .inr ⟨_, rfl, hl, hm, by simpa using hz, hcell, hwz⟩⟩
  have y2 : len2 * 1 ≤ 140737488351232 := sized_ints hsz (j := 2) (t := 32) rfl rfl Tryd.underlying32 Tryd.underlying5 (by kernel_rfl) (by kernel_rfl) h2
  obtain ⟨l2, rfl, hr20, hm2, hw2, hc2⟩ := ReadsInt.ofRowC w2
  have hr2 := Kd.C_of_reads (d := (0 : Int)) (h1 := fun _ => rfl) hr20
  clear hA0 hval0 hsz0 hsz
  obtain ⟨k, hp⟩ := Pure.FoldRuns l0 l1 l2 y0 hw0 y1 hw1 y2 hw2
  refine (palinglaw16_FoldRuns.calls k _ _ l0 _ _ l1 _ _ l2 true W hr0 hc0 hr1 hc1 hr2 hc2 hp hgl).mono fun e W' ⟨he, bel⟩ => ?_
  subst he
  exact ⟨_, rfl, _, _, _, [], _, [], hW', trodAll_mk1 (shut_bool Tryd.underlying4 _), (trodAll_cons_mk (Below.trod laidOut (by kernel_rfl) (of_decide_eq_true (by kernel_rfl)) k0 bel lt0) (trodAll_cons_mk (Below.trod laidOut (by kernel_rfl) (of_decide_eq_true (by kernel_rfl)) k1 bel lt1) (trodAll_cons_mk (Below.trod laidOut (by kernel_rfl) (of_decide_eq_true (by kernel_rfl)) k2 bel lt2) trodAll_mk0))), rfl, bel.frame _, fun h => by cases h⟩
theorem over : Rows.foldRunsRow.holds Tryd.pinned (OpenSpec.ofChange Rows.foldRunsSpec) :=
  OpenClaim.holds_of_wide 4 Tryd.f4 rfl rfl rfl rfl rfl rfl rfl ⟨rfl, rfl, rfl, rfl, rfl⟩ rfl rfl rfl rfl rfl (by kernel_rfl) Tryd.func4 (by kernel_rfl)
    (of_decide_eq_true (by kernel_rfl)) (by unfold Func.isWrapper; first | (rw [if_pos (by decide +kernel)]; kernel_rfl) | (rw [if_neg (by decide +kernel)]; exact ⟨rfl, rfl⟩))
    (fun os started H enc _ => lifted os started H enc)
theorem proved : Rows.FoldRunsSaid := over
theorem card_holds : Rows.FoldRunsCardSaid :=
  Claim7.holds_tied_plain_at .later [] [.data] true (true, "86a0d3571d2dd8e863fde22c3d8de259098049cb8fab2c0591bf546b9e2d1d5e") true
    proved (fun _ h => by cases h) (by kernel_rfl) (fun _ h => by cases h) foldRuns_row_tie rfl ⟨rfl, rfl⟩ (by kernel_rfl) rfl
    (fun f fn hf hfn => by
      obtain rfl : f = 4 := Option.some.inj ((show Tryd.prog.funcNamed "paling/palinglaw16.FoldRuns" = some 4 by kernel_rfl).symm.trans hf) |>.symm
      obtain rfl : fn = Tryd.f4 := (Option.some.inj (Tryd.func4.symm.trans hfn)).symm
      exact ⟨by kernel_rfl, fun j t ht => by
        rw [Tryd.params4] at ht
        have h3 : t = 22 ∨ t = 31 ∨ t = 32 := by
          match j, ht with
          | 0, ht => simp at ht; simp [ht.symm]
          | 1, ht => simp at ht; simp [ht.symm]
          | 2, ht => simp at ht; simp [ht.symm]
          | _ + 3, ht => simp at ht
        rcases h3 with rfl | rfl | rfl
        · exact (show Tryd.prog.wantsStandIn 22 = false by kernel_rfl)
        · exact (show Tryd.prog.wantsStandIn 31 = false by kernel_rfl)
        · exact (show Tryd.prog.wantsStandIn 32 = false by kernel_rfl)⟩)
    (by kernel_rfl)
#print axioms card_holds
end Go.Proofs.YtfhjkkcdeigkdaaDoor.foldRuns
namespace Go.Proofs.YtfhjkkcdeigkdaaDoor
/-- The card, under a short name, for the claim. -/
theorem foldRuns_holds : Rows.FoldRunsCardSaid := foldRuns.card_holds
end Go.Proofs.YtfhjkkcdeigkdaaDoor
