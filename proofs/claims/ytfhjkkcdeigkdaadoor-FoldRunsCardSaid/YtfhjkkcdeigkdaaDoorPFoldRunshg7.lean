import Derived.Test.YtfhjkkcdeigkdaaDoorPFoldRunsx0
import Derived.Test.YtfhjkkcdeigkdaaDoorPFoldRunshg1
import Derived.Test.YtfhjkkcdeigkdaaDoorPFoldRunshg6
import Derived.Test.YtfhjkkcdeigkdaaDoorPFoldRunshg3
import Derived.Test.YtfhjkkcdeigkdaaDoorPFoldRunshg0
import Derived.Maps.RangeWalk
import Derived.Test.YtfhjkkcdeigkdaaDoorPFoldRunshforms
namespace Go.Proofs.YtfhjkkcdeigkdaaDoor.PFoldRuns
open Go.RowKit Go.Proofs.YtfhjkkcdeigkdaaDoorW.PrintWords Go.Proofs.YtfhjkkcdeigkdaaDoorW.PrintLast Go.Proofs.YtfhjkkcdeigkdaaDoorW.PrintMore
set_option linter.unusedVariables false
set_option linter.unusedSimpArgs false
open Go.MapKept Go.RowKit
/-! fold: a map of what is known, in memory; what D is known to be. -/
def kvL (l : KL) : Int → Option Value := fun i => (kgetL l i).map (.int .i64)
/-- a map of what is known -/
def KM (w : World) (b : Nat) (l : KL) : Prop := IM w b (kvL l) l.length ∧ NdK l
theorem zeroI64 (w : World) : (zeroValue 2).run Tryd.prog w = .ok (.int .i64 0) w := by kernel_rfl
theorem kv_get (l : KL) (r : Int) : (kvL l r).getD (.int .i64 0) = .int .i64 (knQ (kgetL l) r).1 ∧ (kvL l r).isSome = (knQ (kgetL l) r).2 := by
  unfold kvL knQ
  cases kgetL l r <;> exact ⟨rfl, rfl⟩
theorem KM.below {w w' : World} {b : Nat} {l : KL} (h : KM w b l) (hb : Below w.heap.size w w') : KM w' b l := ⟨h.1.move (hb.block b h.1.lt), h.2⟩
theorem KM.move {w w' : World} {b : Nat} {l : KL} (h : KM w b l) (hm : w'.heap[b]? = w.heap[b]?) : KM w' b l := ⟨h.1.move hm, h.2⟩
set_option maxRecDepth 100000 in
set_option maxHeartbeats 8000000 in
theorem fvalue.calls (b : Nat) (l : KL) (x : S53) (w : World) (hk : KM w b l) (h : okV l x) :
    Calls Tryd.prog 38 #[.map (some b), .agg #[.int .i64 x.f0, .int .i64 x.f1, .int .i64 x.f2, .int .i64 x.f3, .int .i64 x.f4, .int .i64 x.f5, .int .i64 x.f6]] w fun e w' => e = .returned (.tuple #[.int .i64 (valQ (kgetL l) x).1, .bool (valQ (kgetL l) x).2]) ∧ Below w.heap.size w w' := by
  obtain ⟨⟨a, ia⟩, hq3⟩ : ∃ q, q = knQ (kgetL l) x.f3 := ⟨_, rfl⟩
  obtain ⟨⟨bb, ib⟩, hq4⟩ : ∃ q, q = knQ (kgetL l) x.f4 := ⟨_, rfl⟩
  obtain ⟨⟨d, id_⟩, hq2⟩ : ∃ q, q = knQ (kgetL l) x.f2 := ⟨_, rfl⟩
  have G3 := Aside0.mk (kv_get l x.f3)
  have G4 := Aside0.mk (kv_get l x.f4)
  have G2 := Aside0.mk (kv_get l x.f2)
  rw [← hq3] at G3
  rw [← hq4] at G4
  rw [← hq2] at G2
  have HV := Aside0.mk (show valQ (kgetL l) x = if x.f0 = 0 then (x.f5, true) else if x.f0 = 1 then (a, ia) else if x.f0 = 2 then (evalL x.f1 a bb, ia && ib) else if x.f0 = 3 then (if ia = false then (d, id_ && (ib && (d == bb))) else if a ≠ 0 then (bb, ib) else (d, id_)) else (0, false) by unfold valQ; rw [← hq3, ← hq4, ← hq2])
  have HE := Aside0.mk (show x.f0 = 2 → calc_Eval.f x.f1 a bb = some (evalL x.f1 a bb) from fun h2 => by
    rcases h with h | h
    · exact absurd h2 h
    · unfold calc_Eval.f; rw [← hq3] at h; rw [if_pos h])
  have HK := Aside0.mk hk.1
  clear h hk hq3 hq4 hq2
  go_enter Tryd.func38, Tryd.ntmps38
  go_upto_region 1 with fail
  have hb := blk_new w (.cells #[.int .i64 x.f0, .int .i64 x.f1, .int .i64 x.f2, .int .i64 x.f3, .int .i64 x.f4, .int .i64 x.f5, .int .i64 x.f6] 53)
  have hB : Below w.heap.size w (w.alloc (.cells #[.int .i64 x.f0, .int .i64 x.f1, .int .i64 x.f2, .int .i64 x.f3, .int .i64 x.f4, .int .i64 x.f5, .int .i64 x.f6] 53)) := (Below.refl _ _).alloc (Nat.le_refl _) _
  have hK1 := HK.out.move (hB.block b HK.out.lt)
  obtain ⟨gX, hgX⟩ : ∃ g, g = w.heap.size := ⟨_, rfl⟩
  rw [← hgX] at hb
  have HB := Aside0.mk hB
  replace HK := Aside0.mk hK1
  have HX := Aside0.mk hb
  have HGX := Aside0.mk hgX
  clear hB hK1 hb
  rw [← hgX]
  clear hgX
  generalize (w.alloc (.cells #[.int .i64 x.f0, .int .i64 x.f1, .int .i64 x.f2, .int .i64 x.f3, .int .i64 x.f4, .int .i64 x.f5, .int .i64 x.f6] 53)) = w1 at HB HK HX ⊢
  have x0 : w1.cell? ⟨gX, 0, none⟩ = some (.int .i64 x.f0) := (blk_cell HX.out 0).trans rfl
  have x1 : w1.cell? ⟨gX, 1, none⟩ = some (.int .i64 x.f1) := (blk_cell HX.out 1).trans rfl
  have x2 : w1.cell? ⟨gX, 2, none⟩ = some (.int .i64 x.f2) := (blk_cell HX.out 2).trans rfl
  have x3 : w1.cell? ⟨gX, 3, none⟩ = some (.int .i64 x.f3) := (blk_cell HX.out 3).trans rfl
  have x4 : w1.cell? ⟨gX, 4, none⟩ = some (.int .i64 x.f4) := (blk_cell HX.out 4).trans rfl
  have x5 : w1.cell? ⟨gX, 5, none⟩ = some (.int .i64 x.f5) := (blk_cell HX.out 5).trans rfl
  go_upto_region 4 with (first | (at_lookup; refine wpList_lookup_ok_im _ rfl _ _ 60 rfl 3 2 Tryd.underlying60 rfl _ (zeroI64 _) b l.length (kvL l) rfl HK.out x.f3 rfl ?_; rw [G3.out.1, G3.out.2]) | (at_lookup; refine wpList_lookup_ok_im _ rfl _ _ 60 rfl 3 2 Tryd.underlying60 rfl _ (zeroI64 _) b l.length (kvL l) rfl HK.out x.f4 rfl ?_; rw [G4.out.1, G4.out.2]) | (at_lookup; refine wpList_lookup_ok_im _ rfl _ _ 60 rfl 3 2 Tryd.underlying60 rfl _ (zeroI64 _) b l.length (kvL l) rfl HK.out x.f2 rfl ?_; rw [G2.out.1, G2.out.2]))
  dsimp only at *
  clear x2 x3 x4 G2 G3 G4
  by_cases k0 : x.f0 = 0
  · have e0 : (x.f0 == 0) = true := beq_iff_eq.2 k0
    have HV' := Aside0.mk (show valQ (kgetL l) x = (x.f5, true) by rw [HV.out, if_pos k0])
    clear k0 x1
    go_wp2_with fail
    refine bodyPost_ret (results_tmp2 rfl _ _ _) rfl ?_
    exact ⟨by rw [HV'.out]; rfl, HB.out⟩
  have e0 : (x.f0 == 0) = false := beq_eq_false_iff_ne.2 k0
  clear x5
  by_cases k1 : x.f0 = 1
  · have e1 : (x.f0 == 1) = true := beq_iff_eq.2 k1
    have HV' := Aside0.mk (show valQ (kgetL l) x = (a, ia) by rw [HV.out, if_neg k0, if_pos k1])
    clear k0 k1 x1
    go_wp2_with fail
    refine bodyPost_ret (results_tmp2 rfl _ _ _) rfl ?_
    exact ⟨by rw [HV'.out]; rfl, HB.out⟩
  have e1 : (x.f0 == 1) = false := beq_eq_false_iff_ne.2 k1
  by_cases k2 : x.f0 = 2
  · have e2 : (x.f0 == 2) = true := beq_iff_eq.2 k2
    have HV' := Aside0.mk (show valQ (kgetL l) x = (evalL x.f1 a bb, ia && ib) by rw [HV.out, if_neg k0, if_neg k1, if_pos k2])
    have HC := Aside0.mk (HE.out k2)
    clear k0 k1 k2
    cases ia
    all_goals
      go_wp2_with fail
      refine (calc_Eval.calls _ _ _ _ _ HC.out).mono ?_
      rintro e w2 ⟨rfl, hb2⟩
      have HB2 := Aside0.mk (HB.out.trans (hb2.mono HB.out.size))
      clear hb2
      go_wp2_with fail
      refine bodyPost_ret (results_tmp2 rfl _ _ _) rfl ?_
      exact ⟨by rw [HV'.out]; rfl, HB2.out⟩
  have e2 : (x.f0 == 2) = false := beq_eq_false_iff_ne.2 k2
  clear x1
  by_cases k3 : x.f0 = 3
  · have e3 : (x.f0 == 3) = true := beq_iff_eq.2 k3
    have hv := HV.out
    rw [if_neg k0, if_neg k1, if_neg k2, if_pos k3] at hv
    clear k0 k1 k2 k3
    cases ia with
    | false =>
      rw [if_pos rfl] at hv
      have HV' := Aside0.mk hv
      clear hv
      cases id_ <;> cases ib
      all_goals
        go_wp2_with fail
        refine bodyPost_ret (results_tmp2 rfl _ _ _) rfl ?_
        exact ⟨by rw [HV'.out]; rfl, HB.out⟩
    | true =>
      rw [if_neg (by simp)] at hv
      by_cases ha : a ≠ 0
      · rw [if_pos ha] at hv
        have HV' := Aside0.mk hv
        have e4 : (a != 0) = true := bne_iff_ne.2 ha
        clear hv ha
        go_wp2_with fail
        refine bodyPost_ret (results_tmp2 rfl _ _ _) rfl ?_
        exact ⟨by rw [HV'.out]; rfl, HB.out⟩
      · rw [if_neg ha] at hv
        have HV' := Aside0.mk hv
        have e4 : (a != 0) = false := by simpa using ha
        clear hv ha
        go_wp2_with fail
        refine bodyPost_ret (results_tmp2 rfl _ _ _) rfl ?_
        exact ⟨by rw [HV'.out]; rfl, HB.out⟩
  · have e3 : (x.f0 == 3) = false := beq_eq_false_iff_ne.2 k3
    have HV' := Aside0.mk (show valQ (kgetL l) x = (0, false) by rw [HV.out, if_neg k0, if_neg k1, if_neg k2, if_neg k3])
    clear k0 k1 k2 k3
    go_wp2_with fail
    refine bodyPost_ret (results_tmp2 rfl _ _ _) rfl ?_
    exact ⟨by rw [HV'.out]; rfl, HB.out⟩
end Go.Proofs.YtfhjkkcdeigkdaaDoor.PFoldRuns

namespace Go.Proofs.YtfhjkkcdeigkdaaDoor.PFoldRuns
open Go.RowKit Go.Proofs.YtfhjkkcdeigkdaaDoorW.PrintWords Go.Proofs.YtfhjkkcdeigkdaaDoorW.PrintLast Go.Proofs.YtfhjkkcdeigkdaaDoorW.PrintMore
set_option linter.unusedVariables false
set_option linter.unusedSimpArgs false
open Go.MapKept Go.RowKit
open Go.ChangeMaps (setBlock)
/-- 'for i, v := range m' under way: block b is a map from ints, block r its iterator; left i: is what stands at i still to come? -/
def IR (w : World) (b r : Nat) (f : Int → Option Value) (n : Nat) (left : Int → Bool) (cnt : Nat) : Prop :=
  ∃ es clock since seen c0, w.heap[b]? = some (.map es clock) ∧ Stamped es clock ∧ es.size = n ∧ (∀ e ∈ es.toList, ∃ i, e.key = .int .i64 i) ∧ (∀ i v, f i = some v ↔ ∃ e ∈ es.toList, e.key = .int .i64 i ∧ e.val = v) ∧
    w.heap[r]? = some (.mapIter (some b) since seen c0) ∧ (∀ x ∈ es.toList, x.born < since) ∧ since ≤ c0 ∧ since ≤ clock ∧ (leftOf es seen).size = cnt ∧
    (∀ x ∈ es.toList, ∀ i, x.key = .int .i64 i → left i = !seen.contains x.born) ∧ (∀ i, left i = true → ∃ x ∈ es.toList, x.key = .int .i64 i)
section
variable {P : Program} {w w' : World} {b r n cnt : Nat} {f : Int → Option Value} {left : Int → Bool}
theorem IR.im (h : IR w b r f n left cnt) : IM w b f n := by
  obtain ⟨es, clock, since, seen, c0, hb, hs, hn, hk, hf, _⟩ := h
  exact ⟨es, clock, hb, hs, hn, hk, hf⟩
theorem IR.lt (h : IR w b r f n left cnt) : r < w.heap.size := by
  obtain ⟨es, clock, since, seen, c0, hb, hs, hn, hk, hf, hr, _⟩ := h
  exact (Array.getElem?_eq_some_iff.1 hr).1
theorem IR.ne (h : IR w b r f n left cnt) : r ≠ b := by
  obtain ⟨es, clock, since, seen, c0, hb, hs, hn, hk, hf, hr, _⟩ := h
  intro e
  rw [e, hb] at hr
  cases hr
theorem IR.left_eq (h : IR w b r f n left cnt) : w.rangeLeft b r = cnt := by
  obtain ⟨es, clock, since, seen, c0, hb, hs, hn, hk, hf, hr, _, _, _, hc, _⟩ := h
  simp only [World.rangeLeft, hb, hr]
  exact hc
theorem IR.move (h : IR w b r f n left cnt) (hb' : w'.heap[b]? = w.heap[b]?) (hr' : w'.heap[r]? = w.heap[r]?) : IR w' b r f n left cnt := by
  obtain ⟨es, clock, since, seen, c0, hb, hs, hn, hk, hf, hr, rest⟩ := h
  exact ⟨es, clock, since, seen, c0, hb'.trans hb, hs, hn, hk, hf, hr'.trans hr, rest⟩
theorem IR.kept {row : Option Nat} (h : IR w b r f n left cnt) (hg : w.grownBy w' row) (hb' : some b ≠ row) (hr' : some r ≠ row) : IR w' b r f n left cnt :=
  h.move (hg.block b h.im.lt hb') (hg.block r h.lt hr')
theorem IR.done (h : IR w b r f n left 0) (i : Int) : left i = false := by
  obtain ⟨es, clock, since, seen, c0, hb, hs, hn, hk, hf, hr, _, _, _, hc, hl1, hl2⟩ := h
  cases hl : left i with
  | false => rfl
  | true =>
    obtain ⟨x, hx, hxi⟩ := hl2 i hl
    rw [hl1 x hx i hxi, all_seen es seen hc x hx] at hl
    exact absurd hl (by simp)
theorem IM.range {t kt et : TypeId} (h : IM w b f n) (ht : P.underlying t = some (.map kt et)) :
    ∃ w', (Instr.range t (.map (some b))).run P w = .ok (.pointer (some ⟨w.heap.size, 0, none⟩)) w' ∧ IR w' b w.heap.size f n (fun i => (f i).isSome) n ∧ w.grownBy w' none ∧ w'.heap.size = w.heap.size + 1 := by
  have hlt := h.lt
  obtain ⟨es, clock, hb, hs, hn, hk, hf⟩ := h
  refine ⟨_, run_range_map w t kt et b es clock ht hb, ⟨es, clock, clock, #[], clock, ((MapKept.heap_alloc w _).2 b hlt).trans hb, hs, hn, hk, hf, (MapKept.heap_alloc w _).1, hs.1, Nat.le_refl _, Nat.le_refl _, ?_, ?_, ?_⟩, World.grownBy_alloc w _ none, by simp⟩
  · rw [← hn]; simp [leftOf]
  · intro x hx i hi
    show (f i).isSome = _
    rw [(hf i x.val).2 ⟨x, hx, hi, rfl⟩]
    simp
  · intro i hi
    obtain ⟨v, hv⟩ := Option.isSome_iff_exists.1 hi
    obtain ⟨x, hx, hxi, _⟩ := (hf i v).1 hv
    exact ⟨x, hx, hxi⟩
theorem IR.next (h : IR w b r f n left cnt) (ty : TypeId) :
    (cnt = 0 ∧ (∀ i, left i = false) ∧ (Instr.next (.pointer (some ⟨r, 0, none⟩)) false ty).run P w = .ok (.tuple #[.bool false]) w) ∨
    ∃ i v w' cnt', left i = true ∧ f i = some v ∧ (Instr.next (.pointer (some ⟨r, 0, none⟩)) false ty).run P w = .ok (.tuple #[.bool true, .int .i64 i, v]) w' ∧
      IR w' b r f n (fun j => left j && !(j == i)) cnt' ∧ cnt' < cnt ∧ w.grownBy w' (some r) ∧ w'.heap.size = w.heap.size ∧ (Instr.entry (.pointer (some ⟨r, 0, none⟩))).run P w' = .ok (.tuple #[.int .i64 i, v]) w' := by
  have hne := h.ne
  have hdone := h
  obtain ⟨es, clock, since, seen, c0, hb, hs, hn, hk, hf, hr, hold, hsc, hsk, hc, hl1, hl2⟩ := h
  rcases run_next_at (P := P) w ty r b since c0 seen es clock hr hb hold hsc with ⟨h0, hrun⟩ | ⟨e, he, w1, hal, hrun⟩
  · have : cnt = 0 := by rw [← hc]; exact h0
    subst this
    exact Or.inl ⟨rfl, hdone.done, hrun⟩
  · obtain ⟨hem, hes⟩ := mem_left he
    obtain ⟨i, hi⟩ := hk e hem
    have hr1 : w1.heap[r]? = some (.mapIter (some b) since seen c0) := by rcases hal with rfl | rfl <;> exact hr
    have hb1 : w1.heap[b]? = some (.map es clock) := by rcases hal with rfl | rfl <;> exact hb
    have hsz1 : w1.heap.size = w.heap.size := by rcases hal with rfl | rfl <;> rfl
    have hg1 : w.grownBy w1 none := by
      rcases hal with rfl | rfl
      · exact ⟨rfl, rfl, rfl, Nat.le_refl _, fun _ _ _ => rfl⟩
      · exact ⟨rfl, rfl, rfl, Nat.le_refl _, fun _ _ _ => rfl⟩
    rw [hi] at hrun
    have hb2 : (setBlock w1 r (.mapIter (some b) since (seen.push e.born) clock)).heap[b]? = some (.map es clock) := (heap_setBlock_ne (Ne.symm hne)).trans hb1
    have hr2 : (setBlock w1 r (.mapIter (some b) since (seen.push e.born) clock)).heap[r]? = some (.mapIter (some b) since (seen.push e.born) clock) := heap_setBlock hr1
    refine Or.inr ⟨i, e.val, _, (leftOf es (seen.push e.born)).size, ?_, (hf i e.val).2 ⟨e, hem, hi, rfl⟩, hrun, ⟨es, clock, since, seen.push e.born, clock, hb2, hs, hn, hk, hf, hr2, hold, hsk, hsk, rfl, ?_, ?_⟩, ?_, ?_, (setBlock_size ..).trans hsz1, ?_⟩
    · rw [hl1 e hem i hi, hes]; rfl
    · intro x hx j hj
      show (left j && !(j == i)) = _
      rw [hl1 x hx j hj, contains_push]
      by_cases hji : j = i
      · subst hji
        have : x = e := one_at hs hx hem (hj.trans hi.symm)
        subst this
        simp
      · have : (x.born == e.born) = false := by
          refine beq_eq_false_iff_ne.2 fun hbb => hji ?_
          have := born_inj hs.2.1 hx hem hbb
          subst this
          have := hj.symm.trans hi
          simpa using this
        rw [this, show (j == i) = false by simpa using hji]
        simp
    · intro j hj
      have hj' : left j = true := by
        have : (left j && !(j == i)) = true := hj
        revert this
        cases left j <;> simp
      exact hl2 j hj'
    · rw [← hc]; exact left_shrinks es seen e he
    · have h2 := grown_setBlock w1 r (.mapIter (some b) since (seen.push e.born) clock)
      exact (hg1.but (some r)).andThen h2 (fun j hj => by cases hj; exact Or.inr rfl)
    · have := run_entry_at (P := P) _ r b since seen es clock e hr2 hb2 hem hs.2.1
      rw [hi] at this
      exact this
end
section
variable {P : Program} {ops : Array Oper} {rest : List Oper} {o : Oper} {a : Act} {Q : Exit → Act → World → Prop}
theorem wpList_range_im (w : World) (hg : o.guard = none) (m : Operand) (t : TypeId) (hop : o.op = Op.range t m) (kt et : TypeId) (ht : P.underlying t = some (.map kt et)) (b n : Nat) (f : Int → Option Value) (hm : a.eval m = .map (some b)) (h : IM w b f n)
    (hK : ∀ w', IR w' b w.heap.size f n (fun i => (f i).isSome) n → w.grownBy w' none → w'.heap.size = w.heap.size + 1 → wpList P ops Q rest (a.put o.dst (.pointer (some ⟨w.heap.size, 0, none⟩))) w') :
    wpList P ops Q (o :: rest) a w := by
  refine wpList_plain hg fun K' hK' => ?_
  obtain ⟨w', hrun, r1, r2, r3⟩ := h.range ht
  unfold Oper.wp
  simp [execOp, hop, hm, hrun, Result.andThen]
  exact hK' _ _ (hK w' r1 r2 r3)
theorem wpList_next_im (w : World) (hg : o.guard = none) (it : Operand) (hop : o.op = Op.next it false) (b r n : Nat) (f : Int → Option Value) (left : Int → Bool) (cnt : Nat) (hit : a.eval it = .pointer (some ⟨r, 0, none⟩)) (h : IR w b r f n left cnt)
    (hDone : cnt = 0 → (∀ i, left i = false) → wpList P ops Q rest (a.put o.dst (.tuple #[.bool false])) w)
    (hMore : ∀ (i : Int) (v : Value) (w' : World) (cnt' : Nat), left i = true → f i = some v → IR w' b r f n (fun j => left j && !(j == i)) cnt' → cnt' < cnt → w.grownBy w' (some r) → w'.heap.size = w.heap.size →
      (Instr.entry (.pointer (some ⟨r, 0, none⟩))).run P w' = .ok (.tuple #[.int .i64 i, v]) w' → wpList P ops Q rest (a.put o.dst (.tuple #[.bool true, .int .i64 i, v])) w') :
    wpList P ops Q (o :: rest) a w := by
  refine wpList_plain hg fun K' hK' => ?_
  unfold Oper.wp
  rcases IR.next (P := P) h o.type with ⟨h0, hl, hrun⟩ | ⟨i, v, w', cnt', hl, hf, hrun, hir, hlt, hgr, hsz, hen⟩
  · simp [execOp, hop, hit, hrun, Result.andThen]
    exact hK' _ _ (hDone h0 hl)
  · simp [execOp, hop, hit, hrun, Result.andThen]
    exact hK' _ _ (hMore i v w' cnt' hl hf hir hlt hgr hsz hen)
end
end Go.Proofs.YtfhjkkcdeigkdaaDoor.PFoldRuns

-- HAND paling/ins.Def rounds=0 making=1 needs=paling/ins.of
namespace Go.Proofs.YtfhjkkcdeigkdaaDoor.PFoldRuns
open Go.RowKit Go.Proofs.YtfhjkkcdeigkdaaDoorW.PrintWords Go.Proofs.YtfhjkkcdeigkdaaDoorW.PrintLast Go.Proofs.YtfhjkkcdeigkdaaDoorW.PrintMore
set_option linter.unusedVariables false
set_option linter.unusedSimpArgs false
/-! ins.Def: the register that an instruction writes. -/
def ins_Def.f (a0_0 : Int) (a0_1 : Int) (a0_2 : Int) (a0_3 : Int) (a0_4 : Int) (a0_5 : Int) (a0_6 : Int) : Option Int := some (if fmB 1 a0_0 = true then a0_2 else -1)
theorem ins_Def.calls (a0_0 : Int) (a0_1 : Int) (a0_2 : Int) (a0_3 : Int) (a0_4 : Int) (a0_5 : Int) (a0_6 : Int) (r : Int) (w : World) (h : ins_Def.f a0_0 a0_1 a0_2 a0_3 a0_4 a0_5 a0_6 = some r) (hgl : GlobOK w) :
    Calls Tryd.prog 46 #[.agg #[.int .i64 a0_0, .int .i64 a0_1, .int .i64 a0_2, .int .i64 a0_3, .int .i64 a0_4, .int .i64 a0_5, .int .i64 a0_6]] w fun e w' => e = .returned (.int .i64 r) ∧ Below w.heap.size w w' := by
  unfold ins_Def.f at h
  replace h := Option.some.inj h
  have HGL := Aside0.mk hgl
  clear hgl
  obtain ⟨q, hq⟩ : ∃ q, q = fmB 1 a0_0 := ⟨_, rfl⟩
  rw [← hq] at h
  have HQ := Aside0.mk hq
  clear hq
  go_enter Tryd.func46, Tryd.ntmps46
  go_wp2_with fail
  refine (ins_ofV.calls a0_0 _ (HGL.out.alloc _)).mono ?_
  rintro e w' ⟨rfl, hb⟩
  unfold formV
  rw [← HQ.out]
  have hx2 : w'.cell? ⟨w.heap.size, 2, none⟩ = some (.int .i64 a0_2) := (blk_cell (blk_below (blk_new w _) hb) 2).trans rfl
  have HB := Aside0.mk (below_step ((Below.refl _ _).alloc (Nat.le_refl _) _) hb)
  have hfl := form_field1
  clear hb HGL HQ
  cases q with
  | true =>
    rw [if_pos rfl] at h
    subst h
    go_wp2_with fail
    go_ret
    exact ⟨rfl, HB.out⟩
  | false =>
    rw [if_neg (by simp)] at h
    subst h
    go_wp2_with fail
    go_ret
    exact ⟨rfl, HB.out⟩
end Go.Proofs.YtfhjkkcdeigkdaaDoor.PFoldRuns

namespace Go.Proofs.YtfhjkkcdeigkdaaDoor.PFoldRuns
open Go.RowKit Go.Proofs.YtfhjkkcdeigkdaaDoorW.PrintWords Go.Proofs.YtfhjkkcdeigkdaaDoorW.PrintLast Go.Proofs.YtfhjkkcdeigkdaaDoorW.PrintMore
set_option linter.unusedVariables false
set_option linter.unusedSimpArgs false
/-! The machine's events, as results. -/
theorem res_event {fn : Func} (h : fn.results = #[.cell 6 37, .tmp 7]) (tmps : Array Value) (w : World) (g : Nat) (k th n : Int) (h6 : tmps.getD 6 undef = .pointer (some ⟨g, 0, none⟩)) (hc : w.heap[g]? = some (.cells #[.int .i64 k, .int .i64 th, .int .i64 n] 37 (0, 0))) :
    (results fn tmps).run Tryd.prog w = .ok (.tuple #[.agg #[.int .i64 k, .int .i64 th, .int .i64 n], tmps.getD 7 undef]) w := by
  have c0 : w.cell? ⟨g, 0, none⟩ = some (.int .i64 k) := (blk_cell hc 0).trans rfl
  have c1 : w.cell? ⟨g, 1, none⟩ = some (.int .i64 th) := (blk_cell hc 1).trans rfl
  have c2 : w.cell? ⟨g, 2, none⟩ = some (.int .i64 n) := (blk_cell hc 2).trans rfl
  have hl : (loadVar 37 ⟨g, 0, none⟩).run Tryd.prog w = .ok (.agg #[.int .i64 k, .int .i64 th, .int .i64 n]) w := by
    go_simp
  have h6' : tmps[6]?.getD undef = .pointer (some ⟨g, 0, none⟩) := by simpa using h6
  simp [results, h, h6', asAddr, hl]
end Go.Proofs.YtfhjkkcdeigkdaaDoor.PFoldRuns

namespace Go.Proofs.YtfhjkkcdeigkdaaDoor.PFoldRuns
open Go.RowKit Go.Proofs.YtfhjkkcdeigkdaaDoorW.PrintWords Go.Proofs.YtfhjkkcdeigkdaaDoorW.PrintLast Go.Proofs.YtfhjkkcdeigkdaaDoorW.PrintMore
set_option linter.unusedVariables false
set_option linter.unusedSimpArgs false
open Go.Shelf
/-! Where an instruction leads, and what a register has behind a Put. -/
/-- where an instruction leads -/
def succL (x : S53) (i : Int) : List Int := if x.f0 = 12 ∨ x.f0 = 13 then [] else if x.f0 = 6 then [x.f6] else if x.f0 = 7 then [i + 1, x.f6] else [i + 1]
theorem next_succ (x : S53) (hk : 0 ≤ x.f0 ∧ x.f0 < 14) (i : Int) (h0 : 0 ≤ i) (h1 : i ≤ 100000) : ∃ L, ins_Next.f x.f0 x.f1 x.f2 x.f3 x.f4 x.f5 x.f6 i = some L ∧ ∀ j ∈ succL x i, j ∈ L := by
  refine ⟨_, rfl, fun j hj => ?_⟩
  have hw : wrap64 (i + 1) = i + 1 := wrap_in (by omega) (by omega)
  have h9 : ∀ k : Int, 0 ≤ k ∧ k < 14 → (fmB 9 k = true ↔ (k = 12 ∨ k = 13)) := fun k hk => kind_cases' (P := fun k => fmB 9 k = true ↔ (k = 12 ∨ k = 13)) k hk (by decide +kernel) (by decide +kernel) (by decide +kernel) (by decide +kernel) (by decide +kernel) (by decide +kernel) (by decide +kernel) (by decide +kernel) (by decide +kernel) (by decide +kernel) (by decide +kernel) (by decide +kernel) (by decide +kernel) (by decide +kernel)
  unfold succL at hj
  rw [hw]
  by_cases he : x.f0 = 12 ∨ x.f0 = 13
  · rw [if_pos he] at hj; cases hj
  rw [if_neg he] at hj
  rw [if_neg (by rw [h9 _ hk]; rintro (h | h); exact h hk; exact he h)]
  by_cases h6 : x.f0 = 6
  · rw [if_pos h6] at hj ⊢; exact hj
  rw [if_neg h6] at hj ⊢
  by_cases h7 : x.f0 = 7
  · rw [if_pos h7] at hj ⊢
    rw [(twoL_spec _ _).2]
    simpa using hj
  · rw [if_neg h7] at hj ⊢; exact hj
theorem get_put (l : List S69) (n x r : Int) (hn : 0 ≤ n) : getG (putG l n x) r = if r = n then x else getG l r := by
  unfold putG
  rw [if_neg (by omega)]
  induction l with
  | nil =>
    simp only [List.filter_nil, List.nil_append, getG]
    by_cases h : r = n
    · rw [if_pos h, if_pos h.symm]
    · rw [if_neg h, if_neg (fun e => h e.symm)]
  | cons y ys ih =>
    rw [List.filter_cons]
    by_cases hy : y.f0 = n
    · rw [if_neg (by simp [hy]), ih, getG]
      by_cases h : r = n
      · rw [if_pos h, if_pos h]
      · rw [if_neg h, if_neg h, if_neg (by rw [hy]; exact fun e => h e.symm)]
    · rw [if_pos (by simp [hy]), List.cons_append, getG, ih, getG]
      by_cases hr : y.f0 = r
      · rw [if_pos hr, if_pos hr, if_neg (by rw [← hr]; exact hy)]
      · rw [if_neg hr, if_neg hr]
end Go.Proofs.YtfhjkkcdeigkdaaDoor.PFoldRuns

namespace Go.Proofs.YtfhjkkcdeigkdaaDoor.PFoldRuns
open Go.RowKit Go.Proofs.YtfhjkkcdeigkdaaDoorW.PrintWords Go.Proofs.YtfhjkkcdeigkdaaDoorW.PrintLast Go.Proofs.YtfhjkkcdeigkdaaDoorW.PrintMore
set_option linter.unusedVariables false
set_option linter.unusedSimpArgs false
open Go.MapKept Go.RowKit
open Go.ChangeMaps (setBlock)
/-! 'delete(m, k)' of what was visited, while m is ranged over. -/
theorem filter_erase {α : Type} (p : α → Bool) (l : List α) (j : Nat) (h : j < l.length) (hp : p l[j] = false) : (l.eraseIdx j).filter p = l.filter p := by
  have e : l = l.take j ++ l[j] :: l.drop (j + 1) := by
    rw [← List.drop_eq_getElem_cons h, List.take_append_drop]
  rw [List.eraseIdx_eq_take_drop_succ]
  conv => rhs; rw [e]
  rw [List.filter_append, List.filter_append, List.filter_cons, hp]
  rfl
section
variable {P : Program} {w w' : World} {b r n cnt : Nat} {f : Int → Option Value} {left : Int → Bool}
theorem IR.delete {t kt et : TypeId} (h : IR w b r f n left cnt) (ht : P.underlying t = some (.map kt et)) (hd : P.underlying kt = some (.int .i64)) (i : Int) (ty : TypeId) (hl : left i = false) :
    ∃ w' n', (Builtin.delete_ #[t, kt] ty #[.map (some b), .int .i64 i]).run P w = .ok (.tuple #[]) w' ∧ IR w' b r (del f i) n' left cnt ∧ w.grownBy w' (some b) := by
  have hne := h.ne
  obtain ⟨es, clock, since, seen, c0, hb, hs, hn, hk, hf, hr, hold, hsc, hsk, hc, hl1, hl2⟩ := h
  rcases find_either (w := w) hd hs hk hf i with ⟨h0, h1, h2⟩ | ⟨j, e, h0, h1, h2, h3⟩
  · refine ⟨setBlock w b (.map es clock), n, ?_, ⟨es, clock, since, seen, c0, heap_setBlock hb, hs, hn, hk, ?_, (heap_setBlock_ne hne).trans hr, hold, hsc, hsk, hc, hl1, hl2⟩, grown_setBlock ..⟩
    · simp [Builtin.delete_, run_underlying ht, MapKept.run_getObj_map hb, run_checkKey hd (k := .int .i64 i) rfl, h1, Result.andThen, run_setObj_map _ hb, setBlock]
    · intro i' v'
      simp only [del]
      by_cases hi : i' = i
      · subst hi
        simp only [if_true, reduceCtorEq, false_iff, not_exists, not_and]
        intro e he hke
        exact absurd hke (h2 e he)
      · rw [if_neg hi, hf]
  · have hjl : j < es.size := by simpa using (List.getElem?_eq_some_iff.1 h2).1
    have hej : es.toList[j]'(by simpa using hjl) = e := (List.getElem?_eq_some_iff.1 h2).2
    have hsub : (es.eraseIdxIfInBounds j).toList = es.toList.eraseIdx j := by
      unfold Array.eraseIdxIfInBounds
      rw [dif_pos hjl]
      simp
    have hmem : ∀ x, x ∈ (es.eraseIdxIfInBounds j).toList ↔ x ∈ es.toList ∧ x.key ≠ .int .i64 i := by
      intro x
      rw [hsub, List.mem_eraseIdx_iff_getElem]
      have hp := ((stamped_iff es clock).1 hs).2.2
      constructor
      · rintro ⟨k, hkl, hkj, rfl⟩
        refine ⟨List.getElem_mem _, fun hxk => ?_⟩
        rcases Nat.lt_or_gt_of_ne hkj with hlt | hlt
        · exact absurd (by rw [hxk, hej, h3]) (List.pairwise_iff_getElem.1 hp k j hkl (by simpa using hjl) hlt)
        · exact absurd (by rw [hxk, hej, h3]) (List.pairwise_iff_getElem.1 hp j k (by simpa using hjl) hkl hlt)
      · rintro ⟨hx, hxk⟩
        obtain ⟨k, hkl, rfl⟩ := List.mem_iff_getElem.1 hx
        refine ⟨k, hkl, ?_, rfl⟩
        rintro rfl
        rw [hej] at hxk
        exact hxk h3
    have hem : e ∈ es.toList := hej ▸ List.getElem_mem _
    have hse : (!seen.contains e.born) = false := (hl1 e hem i h3).symm.trans hl
    refine ⟨setBlock w b (.map (es.eraseIdxIfInBounds j) clock), (es.eraseIdxIfInBounds j).size, ?_, ⟨_, clock, since, seen, c0, heap_setBlock hb, stamped_erase hs j, rfl, ?_, ?_, (heap_setBlock_ne hne).trans hr, fun x hx => hold x ((hmem x).1 hx).1, hsc, hsk, ?_, fun x hx => hl1 x ((hmem x).1 hx).1, ?_⟩, grown_setBlock ..⟩
    · simp [Builtin.delete_, run_underlying ht, MapKept.run_getObj_map hb, run_checkKey hd (k := .int .i64 i) rfl, h1, Result.andThen, run_setObj_map _ hb, setBlock]
    · intro x hx
      exact hk x ((hmem x).1 hx).1
    · intro i' v'
      simp only [del]
      by_cases hi : i' = i
      · subst hi
        simp only [if_true, reduceCtorEq, false_iff, not_exists, not_and]
        intro x hx hxk
        exact absurd hxk ((hmem x).1 hx).2
      · rw [if_neg hi, hf]
        constructor
        · rintro ⟨x, hx, hxk, hxv⟩
          exact ⟨x, (hmem x).2 ⟨hx, by rw [hxk]; simp; exact hi⟩, hxk, hxv⟩
        · rintro ⟨x, hx, hxk, hxv⟩
          exact ⟨x, ((hmem x).1 hx).1, hxk, hxv⟩
    · rw [← hc]
      unfold leftOf
      have k : ∀ es : Array MapEntry, (es.filter (fun e => !seen.contains e.born)).size = (es.toList.filter (fun e => !seen.contains e.born)).length := fun es => by rw [← Array.length_toList, Array.toList_filter]
      rw [k, k, hsub, filter_erase _ _ j (by simpa using hjl) (by rw [hej]; exact hse)]
    · intro k hkl
      obtain ⟨x, hx, hxk⟩ := hl2 k hkl
      refine ⟨x, (hmem x).2 ⟨hx, fun hxi => ?_⟩, hxk⟩
      rw [hxk] at hxi
      have : k = i := by simpa using hxi
      rw [this, hl] at hkl
      cases hkl
end
section
variable {P : Program} {ops : Array Oper} {rest : List Oper} {o : Oper} {a : Act} {Q : Exit → Act → World → Prop}
theorem wpList_delete_ir (w : World) (hg : o.guard = none) (m x : Operand) (t kt et : TypeId) (hop : o.op = Op.call { callee := Callee.builtin Builtin.delete, args := #[m, x], argTypes := #[t, kt] }) (ht : P.underlying t = some (.map kt et)) (hd : P.underlying kt = some (.int .i64))
    (b r n cnt : Nat) (f : Int → Option Value) (left : Int → Bool) (hm : a.eval m = .map (some b)) (h : IR w b r f n left cnt) (i : Int) (hl : left i = false) (hx : a.eval x = .int .i64 i)
    (hK : ∀ w' n', IR w' b r (del f i) n' left cnt → w.grownBy w' (some b) → wpList P ops Q rest (a.put o.dst (.tuple #[])) w') :
    wpList P ops Q (o :: rest) a w := by
  refine wpList_plain hg fun K' hK' => ?_
  obtain ⟨w', n', hrun, r1, r2⟩ := h.delete ht hd i o.type hl
  unfold Oper.wp
  simp [execOp, hop, hm, hx, hrun, Result.andThen, resolve, invoke, builtin]
  exact hK' _ _ (hK w' n' r1 r2)
end
end Go.Proofs.YtfhjkkcdeigkdaaDoor.PFoldRuns
