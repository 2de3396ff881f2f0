import Derived.Test.YtdopacgaklaaeaaDoorPDeadRunsx0
import Derived.Lib.SliceRun
import Derived.Laws.IdiomCopy
-- HAND slices.Clone[paling/api.Code,paling/api.Ins] rounds=0 making=1
namespace Go.Proofs.YtdopacgaklaaeaaDoor.PDeadRuns
open Go.RowKit Go.Proofs.YtdopacgaklaaeaaDoorW.PrintWords Go.Proofs.YtdopacgaklaaeaaDoorW.PrintLast Go.Proofs.YtdopacgaklaaeaaDoorW.PrintMore
set_option linter.unusedVariables false
set_option linter.unusedSimpArgs false
/-! slices.Clone of a code. -/
def api_Ins.f (l0 : List S28) : Option (List S28) := if l0.length ≤ 1000000 then some l0 else none
theorem dInsInfo : (Tryd.prog.info? 28).map (fun i => (i.zero, i.size, i.bytes)) = some (some (.agg #[(.int .i64 0), (.int .i64 0), (.int .i64 0), (.int .i64 0), (.int .i64 0), (.int .i64 0), (.int .i64 0)]), 7, 56) := by kernel_rfl
theorem dC_none {n : Nat} {l0 : List S28} {w : World} (h : Kd.C k28 w none n l0) : l0 = [] := by
  obtain ⟨h1, _, h3⟩ := h
  cases l0 with
  | nil => rfl
  | cons x xs => obtain ⟨ad, e, _⟩ := h3 (by rw [← h1]; simp); cases e
theorem dR_empty (w : World) (b : Nat) (hb : b ≤ w.heap.size) : Kd.R k28 28 (w.alloc (.cells #[] 28)) b (fun _ => True) (.slice (some ⟨w.heap.size, 0, none⟩) 0 0) [] :=
  ⟨fun _ _ => trivial, [], World.ownsRow_lit w #[] 0 hb (by unfold maxLen; omega) rfl, Reps.none _ _⟩
theorem dBuild0 (w : World) : (Instr.buildSlice 32 0 #[]).run Tryd.prog w = .ok (.slice (some ⟨w.heap.size, 0, none⟩) 0 0) (w.alloc (.cells #[] 28)) := by
  obtain ⟨i, hi, hh⟩ := Option.map_eq_some_iff.1 dInsInfo
  simp [Instr.buildSlice, run_underlying Tryd.underlying32, sizeOf, typeInfo, hi, newRow, Instr.fill]
  rw [show (Array.map (fun _ => (default : Value)) (Array.range 0)) = #[] from Array.eq_empty_of_size_eq_zero (by simp)]
set_option maxRecDepth 100000 in
set_option maxHeartbeats 2000000 in
theorem api_Ins.calls (A0 : Option Addr) (c0 : Nat) (l0 : List S28) (r : List S28) (w : World) (hr0 : Kd.C k28 w A0 l0.length l0) (hc0 : l0.length ≤ c0) (h : api_Ins.f l0 = some r) :
    Calls Tryd.prog 31 #[.slice A0 l0.length c0] w fun e w' => ∃ v0_ : Value, e = .returned (v0_) ∧ Kd.R k28 28 w' w.heap.size (fun _ => True) v0_ r ∧ Below w.heap.size w w' := by
  unfold api_Ins.f at h
  have hlen : l0.length ≤ 1000000 := by
    by_cases hq : l0.length ≤ 1000000
    · exact hq
    · rw [if_neg hq] at h; cases h
  rw [if_pos hlen] at h
  obtain rfl := Option.some.inj h
  clear h
  have hq := fun (w : World) (a : Option Addr) (n c n' c' : Nat) => Lib.run_eql_slice_nil (P := Tryd.prog) w 32 28 a n c n' c' Tryd.underlying32
  have hbd := dBuild0
  have HR0 := Aside0.mk hr0
  have HC0 := Aside0.mk hc0
  have HL := Aside0.mk hlen
  clear hr0 hc0 hlen
  cases A0 with
  | none =>
    obtain rfl := dC_none HR0.out
    go_enter Tryd.func31, Tryd.ntmps31
    go_wp2_with fail
    go_ret
    exact ⟨_, rfl, Kd.R_nil _ _ _ _ _, Below.refl _ _⟩
  | some ad =>
    have HO := Aside0.mk (dR_empty w w.heap.size (Nat.le_refl _))
    have HX := Aside0.mk (Kd.C_below HR0.out ((Below.refl w.heap.size w).alloc (Nat.le_refl _) (.cells #[] 28)))
    have HB := Aside0.mk ((Below.refl w.heap.size w).alloc (Nat.le_refl _) (.cells #[] 28))
    go_enter Tryd.func31, Tryd.ntmps31
    go_wp2_with (first | ((with_reducible refine gate_builtin (b := .append) (xs := #[.tmp 5, .tmp 6]) rfl ?_); (try (refine gate_guard (by rfl) ?_; dsimp only)); at_builtin; refine Kd.R_append_rows k28 (Rr := k28.K (w.alloc (.cells #[] 28))) (w0 := w) w.heap.size rfl (.tmp 5) (.tmp 6) 32 28 (.agg #[(.int .i64 0), (.int .i64 0), (.int .i64 0), (.int .i64 0), (.int .i64 0), (.int .i64 0), (.int .i64 0)]) 56 rfl Tryd.underlying32 dInsInfo rfl (by decide) (by omega) (.slice (some ⟨w.heap.size, 0, none⟩) 0 0) [] l0 (some ad) l0.length c0 (fun _ => True) (fun _ => False) rfl rfl HO.out HX.out (fun x cs h => by rw [k28_open h]; exact k28_mkM _ _ _ x) (fun _ hk => hk.elim) (fun _ _ => trivial) HB.out HB.out.size (by have := HL.out; simp; omega) ?_; intro v1 w1 ho hb hg hat; have HO1 := Aside0.mk ho; have HB1 := Aside0.mk hb; clear ho hb hg hat HO HX HB))
    go_ret
    exact ⟨_, rfl, by simpa using HO1.out, HB1.out⟩
end Go.Proofs.YtdopacgaklaaeaaDoor.PDeadRuns

namespace Go.Proofs.YtdopacgaklaaeaaDoor.PDeadRuns
open Go.RowKit Go.Proofs.YtdopacgaklaaeaaDoorW.PrintWords Go.Proofs.YtdopacgaklaaeaaDoorW.PrintLast Go.Proofs.YtdopacgaklaaeaaDoorW.PrintMore
set_option linter.unusedVariables false
set_option linter.unusedSimpArgs false

/-- The first place at which a predicate with a state says yes, and the state behind. -/
def scanIdx {σ α : Type} (p : σ → α → Bool) (nx : σ → α → σ) : σ → List α → Nat → Int × σ
  | s, [], _ => (-1, s)
  | s, x :: xs, k => if p s x = true then ((k : Int), nx s x) else scanIdx p nx (nx s x) xs (k + 1)
theorem drop_one {α : Type} (l : List α) (z : α) (k : Nat) (h : k < l.length) : l.drop k = l.getD k z :: l.drop (k + 1) := by
  rw [List.drop_eq_getElem_cons h]
  congr 1
  simp [h]
theorem scanIdx_unit {α : Type} (p : α → Bool) : ∀ (l : List α) (k : Nat), (scanIdx (σ := Unit) (fun _ x => p x) (fun _ _ => ()) () l k).1 = match l.findIdx? p with | some i => ((k + i : Nat) : Int) | none => -1
  | [], k => rfl
  | x :: xs, k => by
    unfold scanIdx
    rw [List.findIdx?_cons]
    by_cases h : p x = true
    · simp [h]
    · simp only [h, Bool.false_eq_true, if_false]
      rw [scanIdx_unit p xs (k + 1)]
      cases xs.findIdx? p with
      | none => rfl
      | some i =>
        show ((k + 1 + i : Nat) : Int) = ((k + (i + 1) : Nat) : Int)
        congr 1
        omega
theorem scanIdx_has {σ α : Type} (p : σ → α → Bool) (nx : σ → α → σ) : ∀ (s : σ) (l : List α) (k : Nat), -1 ≤ (scanIdx p nx s l k).1
  | s, [], k => by simp [scanIdx]
  | s, x :: xs, k => by
    unfold scanIdx
    split
    · show (-1 : Int) ≤ (k : Int)
      omega
    · exact scanIdx_has p nx _ xs _
/-- a row of ints, read -/
theorem at_int {w : World} {A : Option Addr} {n : Nat} {xs : List Int} (h : Kd.C (Kd.int .i64) w A n xs) (i : Int) (h0 : 0 ≤ i) (h1 : i < n) : ∃ ad, A = some ad ∧ w.cell? (ad.add i.toNat) = some (.int .i64 (rd xs i)) := by
  obtain ⟨ad, c, e, _, hK, hc0⟩ := Kd.C_get h (0 : Int) i h0 h1
  have hc : c = [.int .i64 (xs.getD i.toNat 0)] := hK
  subst hc
  have := hc0 0 _ rfl
  rw [show (Kd.int IntKind.i64).sz = 1 from rfl] at this
  exact ⟨ad, e, by simpa [rd] using this⟩
end Go.Proofs.YtdopacgaklaaeaaDoor.PDeadRuns

namespace Go.Proofs.YtdopacgaklaaeaaDoor.PDeadRuns
open Go.RowKit Go.Proofs.YtdopacgaklaaeaaDoorW.PrintWords Go.Proofs.YtdopacgaklaaeaaDoorW.PrintLast Go.Proofs.YtdopacgaklaaeaaDoorW.PrintMore
set_option linter.unusedVariables false
set_option linter.unusedSimpArgs false
/-! What DeleteFunc keeps, and how its memory stands. -/
def keepL (p : Nat → S28 → Bool) : Nat → List S28 → List S28
  | _, [] => []
  | n, x :: xs => if p n x = true then keepL p (n + 1) xs else x :: keepL p (n + 1) xs
theorem keepL_scan (p : Nat → S28 → Bool) : ∀ (l : List S28) (n k : Nat), ((scanIdx p (fun n _ => n + 1) n l k).1 = -1 ∧ keepL p n l = l) ∨ ∃ m, m < l.length ∧ scanIdx p (fun n _ => n + 1) n l k = (((k + m : Nat) : Int), n + m + 1) ∧ keepL p n l = l.take m ++ keepL p (n + m + 1) (l.drop (m + 1))
  | [], n, k => .inl ⟨rfl, rfl⟩
  | x :: xs, n, k => by
    by_cases hq : p n x = true
    · refine .inr ⟨0, by simp, ?_, ?_⟩
      · simp [scanIdx, hq]
      · simp [keepL, hq]
    · rcases keepL_scan p xs (n + 1) (k + 1) with ⟨h1, h2⟩ | ⟨m, h1, h2, h3⟩
      · exact .inl ⟨by simp [scanIdx, hq, h1], by simp [keepL, hq, h2]⟩
      · refine .inr ⟨m + 1, by simp; omega, ?_, ?_⟩
        · rw [scanIdx, if_neg hq, h2]
          congr 1
          · congr 1; omega
          · omega
        · rw [keepL, if_neg hq, h3, show n + 1 + m + 1 = n + (m + 1) + 1 by omega]
          simp
theorem own_out {w : World} {base : Nat} {e : TypeId} {size n m c g : Nat} {xs : List Value} (h : w.ownsRow base e size (.slice (some ⟨g, 0, none⟩) m c) n xs) (j : Nat) (hj : n * size ≤ j) (u : Value) : (w.setCell ⟨g, j, none⟩ u).ownsRow base e size (.slice (some ⟨g, 0, none⟩) m c) n xs := by
  obtain ⟨h1, h2⟩ := h
  refine ⟨h1, ?_⟩
  rcases h2 with ⟨h2, _⟩ | ⟨g', cap, cur, hv, hg, hh, hn, hc, hs, ht⟩
  · cases h2
  · simp only [Value.slice.injEq, Option.some.injEq, Addr.mk.injEq, and_true, true_and] at hv
    obtain ⟨rfl, rfl, rfl⟩ := hv
    refine .inr ⟨g, c, cur.setIfInBounds j u, rfl, hg, blk_set hh j u, hn, hc, by simpa using hs, ?_⟩
    rw [← ht, Array.toList_setIfInBounds]
    exact List.take_set_of_le hj
theorem own_outs {base : Nat} {e : TypeId} {size n m c g : Nat} {xs : List Value} : ∀ (vs : List Value) (o : Nat) {w : World}, w.ownsRow base e size (.slice (some ⟨g, 0, none⟩) m c) n xs → n * size ≤ o → (w.setCells g o vs).ownsRow base e size (.slice (some ⟨g, 0, none⟩) m c) n xs
  | [], _, _, h, _ => h
  | v :: vs, o, w, h, ho => own_outs vs (o + 1) (own_out h o ho v) (by omega)
theorem below_sets {B g : Nat} (hg : B ≤ g) {w0 : World} : ∀ (vs : List Value) (o : Nat) {w : World}, Below B w0 w → Below B w0 (w.setCells g o vs)
  | [], _, _, h => h
  | v :: vs, o, w, h => below_sets hg vs (o + 1) (h.setCell (p := ⟨g, o, none⟩) hg v)
theorem R_outs {w : World} {base m c g : Nat} {xs : List S28} (h : Kd.R k28 28 w base (fun _ => True) (.slice (some ⟨g, 0, none⟩) m c) xs) (vs : List Value) (o : Nat) (ho : xs.length * 7 ≤ o) :
    Kd.R k28 28 (w.setCells g o vs) base (fun _ => True) (.slice (some ⟨g, 0, none⟩) m c) xs := by
  obtain ⟨h1, inner, h2, h3⟩ := h
  exact ⟨fun _ _ => trivial, inner, own_outs vs o h2 ho, h3.imp_ (fun x cs hx => by rw [k28_openM hx]; exact k28_mkM _ _ _ x)⟩
end Go.Proofs.YtdopacgaklaaeaaDoor.PDeadRuns

namespace Go.Proofs.YtdopacgaklaaeaaDoor.PDeadRuns
open Go.RowKit Go.Proofs.YtdopacgaklaaeaaDoorW.PrintWords Go.Proofs.YtdopacgaklaaeaaDoorW.PrintLast Go.Proofs.YtdopacgaklaaeaaDoorW.PrintMore
set_option linter.unusedVariables false
set_option linter.unusedSimpArgs false
/-! slices.DeleteFunc of a code, at a closure that counts its calls. -/
def KeepAt (p : Nat → S28 → Bool) (l0 o2 : List S28) (i j : Int) : Prop := o2.length = l0.length ∧ o2.drop j.toNat = l0.drop j.toNat ∧ o2.take i.toNat ++ keepL p j.toNat (l0.drop j.toNat) = keepL p 0 l0
theorem KeepAt.elem {p : Nat → S28 → Bool} {l0 o2 : List S28} {i j : Int} (h : KeepAt p l0 o2 i j) (h0 : 0 ≤ j) (h1 : j < l0.length) (z : S28) : o2.getD j.toNat z = l0.getD j.toNat z := by
  have e := congrArg (fun l => l.getD 0 z) h.2.1
  simpa [List.getD_eq_getElem?_getD, List.getElem?_drop] using e
theorem KeepAt.skip {p : Nat → S28 → Bool} {l0 o2 : List S28} {i j : Int} (h : KeepAt p l0 o2 i j) (h0 : 0 ≤ j) (h1 : j < l0.length) (z x : S28) (hx : l0.getD j.toNat z = x) (hp : p j.toNat x = true) : KeepAt p l0 o2 i (j + 1) := by
  obtain ⟨a1, a2, a3⟩ := h
  have e : (j + 1).toNat = j.toNat + 1 := by omega
  refine ⟨a1, ?_, ?_⟩
  · rw [e, ← List.drop_drop, ← List.drop_drop (l := l0), a2]
  · rw [drop_one l0 z j.toNat (by omega), hx, keepL, if_pos hp] at a3
    rw [e]; exact a3
theorem KeepAt.keep {p : Nat → S28 → Bool} {l0 o2 : List S28} {i j : Int} (h : KeepAt p l0 o2 i j) (hi : 0 ≤ i) (hij : i < j) (h1 : j < l0.length) (z x : S28) (hx : l0.getD j.toNat z = x) (hp : p j.toNat x = false) : KeepAt p l0 (o2.set i.toNat x) (i + 1) (j + 1) := by
  obtain ⟨a1, a2, a3⟩ := h
  have e : (j + 1).toNat = j.toNat + 1 := by omega
  have e' : (i + 1).toNat = i.toNat + 1 := by omega
  refine ⟨by simpa using a1, ?_, ?_⟩
  · rw [e, List.drop_set_of_lt (by omega), ← List.drop_drop, ← List.drop_drop (l := l0), a2]
  · rw [drop_one l0 z j.toNat (by omega), hx, keepL, if_neg (by simp [hp])] at a3
    rw [e, e', ← a3, List.take_add_one, List.getElem?_set_self (by omega), List.take_set_of_le (Nat.le_refl _)]
    simp
theorem KeepAt.done {p : Nat → S28 → Bool} {l0 o2 : List S28} {i j : Int} (h : KeepAt p l0 o2 i j) (h1 : (l0.length : Int) ≤ j) : o2.take i.toNat = keepL p 0 l0 := by
  obtain ⟨a1, a2, a3⟩ := h
  rw [List.drop_eq_nil_of_le (by omega)] at a3
  simpa [keepL] using a3
theorem R_ctr {W w' : World} {base go n c b0 : Nat} {xs : List S28} (h : Kd.R k28 28 W base (fun _ => True) (.slice (some ⟨go, 0, none⟩) n c) xs) (hk : KeepBut W w' b0 none) (hne : b0 ≠ go) : Kd.R k28 28 w' base (fun _ => True) (.slice (some ⟨go, 0, none⟩) n c) xs :=
  Kd.R_mono (Kd.R_step (Kd.R_far1 h rfl (g := b0) (by show some b0 ≠ some go; intro e; exact hne (Option.some.inj e))) (fun k ho hlt => hk.2 k hlt ho.2 (by simp))) (fun _ _ => trivial)
theorem dZeroIns : ∀ w, (zeroValue 28).run Tryd.prog w = .ok (.agg #[(.int .i64 0), (.int .i64 0), (.int .i64 0), (.int .i64 0), (.int .i64 0), (.int .i64 0), (.int .i64 0)]) w := by
  intro w
  obtain ⟨i, hi, hh⟩ := Option.map_eq_some_iff.1 dInsInfo
  simp only [Prod.mk.injEq] at hh
  simp [zeroValue, typeInfo, hi, hh.1]
theorem dClear {W : World} {base go n c : Nat} {xs : List S28} (h : Kd.R k28 28 W base (fun _ => True) (.slice (some ⟨go, 0, none⟩) n c) xs) (i m c' : Nat) (hm : i + m = n) (hm0 : 0 < m) :
    ∃ vs : List Value, ∀ ty, (Builtin.clear_ #[32] ty #[.slice (some ⟨go, i * 7, none⟩) m c']).run Tryd.prog W = .ok (.tuple #[]) (W.setCells go (i * 7) vs) := by
  refine ⟨(Builtin.zeroCells #[(.int .i64 0), (.int .i64 0), (.int .i64 0), (.int .i64 0), (.int .i64 0), (.int .i64 0), (.int .i64 0)] m).toList, fun ty => ?_⟩
  have hel : ∀ j, j < m * 7 → (W.cell? ⟨go, i * 7 + j, none⟩).isSome = true ∧ W.frozen? ⟨go, i * 7 + j, none⟩ = false := by
    intro j hj
    obtain ⟨ce, hcl, hM, hcc, hfr⟩ := Kd.R_elem h z28 ((i + j / 7 : Nat) : Int) (by omega) (by omega)
    have e : ((i + j / 7 : Nat) : Int).toNat * 7 + j % 7 = i * 7 + j := by rw [Int.toNat_natCast]; omega
    have hcl' : ce.length = 7 := hcl
    have h2 := hcc (j % 7) (ce[j % 7]'(by omega)) (List.getElem?_eq_getElem _)
    have h3 := hfr (j % 7)
    have e7 : k28.sz = 7 := rfl
    rw [e7, e] at h2 h3
    exact ⟨by rw [h2]; rfl, h3⟩
  have hz1 : ∀ v ∈ (Builtin.zeroCells #[(.int .i64 0), (.int .i64 0), (.int .i64 0), (.int .i64 0), (.int .i64 0), (.int .i64 0), (.int .i64 0)] m).toList, v = .int .i64 0 := by
    intro v hv
    simp only [Builtin.zeroCells, Array.toList_map, List.mem_map] at hv
    obtain ⟨q, _, rfl⟩ := hv
    have hq : q % 7 < 7 := Nat.mod_lt _ (by omega)
    show #[(Value.int .i64 0), (.int .i64 0), (.int .i64 0), (.int .i64 0), (.int .i64 0), (.int .i64 0), (.int .i64 0)][q % 7]! = _
    generalize q % 7 = t at hq
    match t, hq with
    | 0, _ => rfl
    | 1, _ => rfl
    | 2, _ => rfl
    | 3, _ => rfl
    | 4, _ => rfl
    | 5, _ => rfl
    | 6, _ => rfl
  have hlen : (Builtin.zeroCells #[(.int .i64 0), (.int .i64 0), (.int .i64 0), (.int .i64 0), (.int .i64 0), (.int .i64 0), (.int .i64 0)] m).toList.length = m * 7 := by simp [Builtin.zeroCells]
  have hst := run_storeCells_cells (P := Tryd.prog) go (i * 7) (Builtin.zeroCells #[(.int .i64 0), (.int .i64 0), (.int .i64 0), (.int .i64 0), (.int .i64 0), (.int .i64 0), (.int .i64 0)] m).toList 0 W (fun j hj => (hel j (by omega)).1) (fun j hj => (hel j (by omega)).2) (fun v hv => by rw [hz1 v hv]; rfl)
  simp only [Nat.add_zero] at hst
  obtain ⟨q, rfl⟩ : ∃ q, m = q + 1 := ⟨m - 1, by omega⟩
  simp [Builtin.clear_, run_underlying Tryd.underlying32, dZeroIns, Value.cells, hst]
end Go.Proofs.YtdopacgaklaaeaaDoor.PDeadRuns

namespace Go.Proofs.YtdopacgaklaaeaaDoor.PDeadRuns
open Go.RowKit Go.Proofs.YtdopacgaklaaeaaDoorW.PrintWords Go.Proofs.YtdopacgaklaaeaaDoorW.PrintLast Go.Proofs.YtdopacgaklaaeaaDoorW.PrintMore
set_option linter.unusedVariables false
set_option linter.unusedSimpArgs false
/-! slices.IndexFunc of a code, at a closure that counts its calls: the state is how many there were; it is asked at most once for each element. -/
set_option maxHeartbeats 4000000 in
theorem didx.calls (p : Nat → S28 → Bool) (I : Nat → World → Prop) (lb : Array Value) (g : Nat) (A0 : Option Addr) (c0 : Nat) (l0 : List S28) (w : World) (hlen : l0.length ≤ 9223372036854775807)
    (eg : ∀ args w, (callFunc g args).run Tryd.prog w = .ok (.enter g args) w) (hC : ∀ s W, I s W → Kd.C k28 W A0 l0.length l0) (h0 : I 0 w)
    (hp : ∀ (s : Nat) (x : S28) (W : World), s < l0.length → I s W → Calls Tryd.prog g (#[.agg #[.int .i64 x.f0, .int .i64 x.f1, .int .i64 x.f2, .int .i64 x.f3, .int .i64 x.f4, .int .i64 x.f5, .int .i64 x.f6]] ++ lb) W fun e w' => e = .returned (.bool (p s x)) ∧ I (s + 1) w') :
    Calls Tryd.prog 60 #[.slice A0 l0.length c0, .func (.func g) #[] lb] w fun e w' => e = .returned (.int .i64 (scanIdx p (fun n _ => n + 1) 0 l0 0).1) ∧ I (scanIdx p (fun n _ => n + 1) 0 l0 0).2 w' := by
  have HC := Aside0.mk hC
  clear hC
  have HP := Aside0.mk hp
  clear hp
  have HI0 := Aside0.mk h0
  clear h0
  go_enter Tryd.func60, Tryd.ntmps60
  go_wp2
  go_loopg [5, 8] l0.length (fun gg _ s8 wr => ∃ (kk : Int), 0 ≤ kk ∧ kk ≤ l0.length ∧ l0.length - kk ≤ gg ∧ s8 = .int .i64 kk ∧ Aside0 (I kk.toNat wr) ∧ Aside0 (scanIdx p (fun n _ => n + 1) 0 l0 0 = scanIdx p (fun n _ => n + 1) kk.toNat (l0.drop kk.toNat) kk.toNat))
  case atStart => exact ⟨0, by omega, by omega, by omega, rfl, HI0, ⟨rfl⟩⟩
  case round =>
    clear HI0
    obtain ⟨kk, hk0, hkk, hg, rfl, HI, HS⟩ := hrel
    by_cases hlt : kk < l0.length
    · have hdrop := drop_one l0 (z28) kk.toNat (by omega)
      obtain ⟨ad, e101, h0, h1, h2, h3, h4, h5, h6⟩ := at_T28 (HC.out _ _ HI.out) kk hk0 hlt
      cases e101
      have hcall := HP.out kk.toNat (rd_T28 l0 kk) wr (by omega) HI.out
      have hrd : l0.getD kk.toNat (z28) = rd_T28 l0 kk := rfl
      rw [hrd] at hdrop
      clear HP hrd
      obtain ⟨y, hy⟩ : ∃ y, y = rd_T28 l0 kk := ⟨_, rfl⟩
      rw [← hy] at h0 h1 h2 h3 h4 h5 h6 hcall hdrop
      clear hy
      have HS' := Aside0.mk (HS.out.trans (by rw [hdrop, scanIdx]))
      clear hdrop HS
      cases hq : p kk.toNat y with
      | true =>
        rw [hq] at hcall HS'
        clear hq
        have HCL := Aside0.mk hcall
        clear hcall
        go_wp2_with fail
        refine HCL.out.mono ?_
        rintro e w' ⟨rfl, hb'⟩
        have HB := Aside0.mk hb'
        clear hb' HCL HI eg
        go_wp2
        go_ret
        rw [HS'.out]
        refine ⟨?_, HB.out⟩
        show Ending.returned (.int .i64 kk) = .returned (.int .i64 ((kk.toNat : Nat) : Int))
        rw [show ((kk.toNat : Nat) : Int) = kk by omega]
      | false =>
        rw [hq] at hcall HS'
        clear hq
        have HCL := Aside0.mk hcall
        clear hcall
        go_wp2_with fail
        refine HCL.out.mono ?_
        rintro e w' ⟨rfl, hb'⟩
        have HB := Aside0.mk hb'
        clear hb' HCL HI eg
        go_wp2
        go_roundg (l0.length - (kk.toNat + 1))
        case measure => omega
        case rel => exact ⟨kk + 1, by omega, by omega, by omega, by go_num, ⟨by rw [show (kk + 1).toNat = kk.toNat + 1 by omega]; exact HB.out⟩, ⟨HS'.out.trans (by simp only [Bool.false_eq_true, if_false]; rw [show (kk + 1).toNat = kk.toNat + 1 by omega])⟩⟩
    · clear HP eg
      have hd : l0.drop kk.toNat = [] := List.drop_eq_nil_of_le (by omega)
      have HS' := Aside0.mk (HS.out.trans (by rw [hd, scanIdx]))
      clear hd HS
      go_wp2
      go_ret
      rw [HS'.out]
      exact ⟨rfl, HI.out⟩
end Go.Proofs.YtdopacgaklaaeaaDoor.PDeadRuns

namespace Go.Proofs.YtdopacgaklaaeaaDoor.PDeadRuns
open Go.RowKit Go.Proofs.YtdopacgaklaaeaaDoorW.PrintWords Go.Proofs.YtdopacgaklaaeaaDoorW.PrintLast Go.Proofs.YtdopacgaklaaeaaDoorW.PrintMore
set_option linter.unusedVariables false
set_option linter.unusedSimpArgs false
/-! The walk of slices.DeleteFunc of a code. -/
set_option maxRecDepth 100000 in
set_option maxHeartbeats 8000000 in
theorem ddel.calls (p : Nat → S28 → Bool) (I : Nat → World → Prop) (lb : Array Value) (g go c base b0 : Nat) (l0 : List S28) (w0 w : World) (hlen : l0.length ≤ 1000000) (hne : b0 ≠ go)
    (eg : ∀ args w, (callFunc g args).run Tryd.prog w = .ok (.enter g args) w) (hO : Kd.R k28 28 w base (fun _ => True) (.slice (some ⟨go, 0, none⟩) l0.length c) l0) (hgo : base ≤ go) (hbw : base ≤ w0.heap.size) (h0 : I 0 w) (hB : Below base w0 w)
    (hst : ∀ (s : Nat) (W W' : World), I s W → KeepBut W W' go none → Below base W W' → I s W') (hb0 : ∀ (s : Nat) (W : World), I s W → b0 < W.heap.size)
    (hp : ∀ (s : Nat) (x : S28) (W : World), s < l0.length → I s W → Calls Tryd.prog g (#[.agg #[.int .i64 x.f0, .int .i64 x.f1, .int .i64 x.f2, .int .i64 x.f3, .int .i64 x.f4, .int .i64 x.f5, .int .i64 x.f6]] ++ lb) W fun e w' => e = .returned (.bool (p s x)) ∧ I (s + 1) w' ∧ KeepBut W w' b0 none ∧ (base ≤ W.heap.size → Below base W w')) :
    Calls Tryd.prog 37 #[.slice (some ⟨go, 0, none⟩) l0.length c, .func (.func g) #[] lb] w fun e w' => ∃ v0_ : Value, e = .returned (v0_) ∧ Kd.R k28 28 w' base (fun _ => True) v0_ (keepL p 0 l0) ∧ Below base w0 w' := by
  have hIF := didx.calls p (fun s W => I s W ∧ Kd.R k28 28 W base (fun _ => True) (.slice (some ⟨go, 0, none⟩) l0.length c) l0 ∧ Below base w0 W) lb g (some ⟨go, 0, none⟩) c l0 w (by omega) eg (fun s W h => (Kd.R_reads' h.2.1).2.2) ⟨h0, hO, hB⟩
    (fun s x W hs h => (hp s x W hs h.1).mono fun e w' ⟨q1, q2, q3, q4⟩ => ⟨q1, q2, R_ctr h.2.1 q3 hne, h.2.2.trans (q4 (Nat.le_trans hbw h.2.2.size))⟩)
  have HIF := Aside0.mk hIF
  have HL := Aside0.mk hlen
  have HP := Aside0.mk hp
  have HST := Aside0.mk hst
  have HBI := Aside0.mk hb0
  have HCC := Aside0.mk (Kd.R_reads' hO).2.1
  clear hIF hlen hp hst hb0 h0 hO hB
  go_enter Tryd.func37, Tryd.ntmps37
  go_wp2_with fail
  refine HIF.out.mono ?_
  rintro e w1 ⟨rfl, hi1, ho1, hb1⟩
  clear HIF
  rcases keepL_scan p l0 0 0 with ⟨h1, h2⟩ | ⟨m, hm, h1, h2⟩
  · rw [h1]
    have HO := Aside0.mk (show Kd.R k28 28 w1 base (fun _ => True) (.slice (some ⟨go, 0, none⟩) l0.length c) (keepL p 0 l0) by rw [h2]; exact ho1)
    have HB := Aside0.mk hb1
    clear h1 h2 hi1 ho1 hb1 eg HP HST HBI
    go_wp2_with fail
    go_ret
    exact ⟨_, rfl, HO.out, HB.out⟩
  · rw [h1] at hi1 ⊢
    have HI1 := Aside0.mk hi1
    have HO1 := Aside0.mk ho1
    have HB1 := Aside0.mk hb1
    have HK := Aside0.mk h2
    clear h1 h2 hi1 ho1 hb1
    obtain ⟨mi, hmi⟩ : ∃ mi : Int, mi = ((0 + m : Nat) : Int) := ⟨_, rfl⟩
    rw [← hmi]
    have hm0 : 0 ≤ mi := by omega
    have hm1 : mi < l0.length := by omega
    have HMI := Aside0.mk hmi
    have hne1 : (mi == -1) = false := beq_eq_false_iff_ne.mpr (by omega)
    have HW1 := Aside0.mk (show wrap64 (mi + 1) = mi + 1 by have := HL.out; unfold wrap64; omega)
    clear hmi
    go_wp2_with fail
    go_loopg [5, 6, 7] l0.length (fun gg s5 s6 _ wr => ∃ (i j : Int) (o2 : List S28), s5 = .int .i64 i ∧ s6 = .int .i64 j ∧ 0 ≤ i ∧ i < j ∧ j ≤ l0.length ∧ l0.length - j ≤ gg ∧ Aside0 (KeepAt p l0 o2 i j) ∧ Aside0 (I j.toNat wr) ∧ Aside0 (Kd.R k28 28 wr base (fun _ => True) (.slice (some ⟨go, 0, none⟩) l0.length c) o2) ∧ Aside0 (Below base w0 wr))
    case atStart =>
      have hmi := HMI.out
      refine ⟨mi, mi + 1, l0, rfl, by first | rfl | rw [HW1.out], by omega, by omega, by omega, by omega, ⟨rfl, rfl, ?_⟩, ⟨?_⟩, HO1, HB1⟩
      · rw [HK.out, show mi.toNat = m by omega, show (mi + 1).toNat = 0 + m + 1 by omega, show 0 + m + 1 = m + 1 by omega]
      · rw [show (mi + 1).toNat = 0 + m + 1 by omega]; exact HI1.out
    case round =>
      clear HI1 HO1 HB1 HK HW1 hne1 HMI hm0 hm1
      obtain ⟨i, j, o2, rfl, rfl, hi0, hij, hjn, hgg, HK, HI, HO, HB⟩ := hrel
      by_cases hlt : j < l0.length
      · have hel := HK.out.elem (by omega) hlt z28
        obtain ⟨ce, hcl, hM, hcc, hfr⟩ := Kd.R_elem HO.out z28 j (by omega) hlt
        obtain rfl := k28_openM hM
        rw [hel] at hcc
        obtain ⟨x, hx⟩ : ∃ x, x = l0.getD j.toNat z28 := ⟨_, rfl⟩
        rw [← hx] at hcc
        have q0 : wr.cell? ⟨go, j.toNat * 7, none⟩ = some (.int .i64 x.f0) := hcc 0 _ rfl
        have q1 : wr.cell? ⟨go, j.toNat * 7 + 1, none⟩ = some (.int .i64 x.f1) := hcc 1 _ rfl
        have q2 : wr.cell? ⟨go, j.toNat * 7 + 2, none⟩ = some (.int .i64 x.f2) := hcc 2 _ rfl
        have q3 : wr.cell? ⟨go, j.toNat * 7 + 3, none⟩ = some (.int .i64 x.f3) := hcc 3 _ rfl
        have q4 : wr.cell? ⟨go, j.toNat * 7 + 4, none⟩ = some (.int .i64 x.f4) := hcc 4 _ rfl
        have q5 : wr.cell? ⟨go, j.toNat * 7 + 5, none⟩ = some (.int .i64 x.f5) := hcc 5 _ rfl
        have q6 : wr.cell? ⟨go, j.toNat * 7 + 6, none⟩ = some (.int .i64 x.f6) := hcc 6 _ rfl
        have HX := Aside0.mk hx.symm
        clear hx hcc hcl hM hfr hel
        have HWj := Aside0.mk (show wrap64 (j + 1) = j + 1 by have := HL.out; unfold wrap64; omega)
        have HWi := Aside0.mk (show wrap64 (i + 1) = i + 1 by have := HL.out; unfold wrap64; omega)
        have hb0s := HBI.out _ _ HI.out
        obtain ⟨W1, hW1⟩ : ∃ W1, W1 = wr.alloc (.cells #[.int .i64 x.f0, .int .i64 x.f1, .int .i64 x.f2, .int .i64 x.f3, .int .i64 x.f4, .int .i64 x.f5, .int .i64 x.f6] 28) := ⟨_, rfl⟩
        have hbx : W1.heap[wr.heap.size]? = some (.cells #[.int .i64 x.f0, .int .i64 x.f1, .int .i64 x.f2, .int .i64 x.f3, .int .i64 x.f4, .int .i64 x.f5, .int .i64 x.f6] 28 (0, 0)) := by rw [hW1]; exact blk_new wr _
        have hI1 : I j.toNat W1 := HST.out _ _ _ HI.out (by rw [hW1]; exact KeepBut.of_below ((Below.refl _ _).alloc (Nat.le_refl _) _) _ _) (by rw [hW1]; exact (Below.refl _ _).alloc (Nat.le_trans hbw HB.out.size) _)
        have hcall := HP.out j.toNat x W1 (by omega) hI1
        have HO1 := Aside0.mk (show Kd.R k28 28 W1 base (fun _ => True) (.slice (some ⟨go, 0, none⟩) l0.length c) o2 by rw [hW1]; exact Kd.R_alloc HO.out _)
        have HB1 := Aside0.mk (show Below base w0 W1 by rw [hW1]; exact HB.out.alloc (Nat.le_trans hbw HB.out.size) _)
        have HBX := Aside0.mk hbx
        rw [hW1] at hcall
        have HW := Aside0.mk hW1
        have HCL := Aside0.mk hcall
        clear hbx hI1 hcall hW1 HO HB HI
        go_wp2_with fail
        refine HCL.out.mono ?_
        rw [← HW.out]
        rintro e w2 ⟨rfl, hi2, hk2, hbl⟩
        have hb2 := hbl (Nat.le_trans hbw HB1.out.size)
        have HI2 := Aside0.mk hi2
        have HO2 := Aside0.mk (R_ctr HO1.out hk2 hne)
        have HB2 := Aside0.mk (HB1.out.trans hb2)
        have hbx2 := hk2.blk HBX.out (by omega) (by simp)
        have y0 : w2.cell? ⟨wr.heap.size, 0, none⟩ = some (.int .i64 x.f0) := (blk_cell hbx2 0).trans rfl
        have y1 : w2.cell? ⟨wr.heap.size, 1, none⟩ = some (.int .i64 x.f1) := (blk_cell hbx2 1).trans rfl
        have y2 : w2.cell? ⟨wr.heap.size, 2, none⟩ = some (.int .i64 x.f2) := (blk_cell hbx2 2).trans rfl
        have y3 : w2.cell? ⟨wr.heap.size, 3, none⟩ = some (.int .i64 x.f3) := (blk_cell hbx2 3).trans rfl
        have y4 : w2.cell? ⟨wr.heap.size, 4, none⟩ = some (.int .i64 x.f4) := (blk_cell hbx2 4).trans rfl
        have y5 : w2.cell? ⟨wr.heap.size, 5, none⟩ = some (.int .i64 x.f5) := (blk_cell hbx2 5).trans rfl
        have y6 : w2.cell? ⟨wr.heap.size, 6, none⟩ = some (.int .i64 x.f6) := (blk_cell hbx2 6).trans rfl
        clear hi2 hk2 hbl hb2 hbx2 HCL HBX HB1 HO1 HW q0 q1 q2 q3 q4 q5 q6
        cases hq : p j.toNat x with
        | true =>
          have HK2 := Aside0.mk (HK.out.skip (by omega) hlt z28 x HX.out hq)
          clear hq HK HX HP HST HBI eg y0 y1 y2 y3 y4 y5 y6
          go_wp2_with fail
          go_roundg (gk - 1)
          case measure => omega
          case rel => exact ⟨i, j + 1, o2, rfl, by first | rfl | rw [HWj.out], by omega, by omega, by omega, by omega, HK2, ⟨by rw [show (j + 1).toNat = j.toNat + 1 by omega]; exact HI2.out⟩, HO2, HB2⟩
        | false =>
          have HK2 := Aside0.mk (HK.out.keep hi0 hij hlt z28 x HX.out hq)
          clear hq HK HX HP HBI eg
          obtain ⟨ce, hcl, hM, hcc, hfr⟩ := Kd.R_elem HO2.out z28 i hi0 (by omega)
          have f0 : w2.frozen? ⟨go, i.toNat * 7, none⟩ = false := hfr 0
          have f1 : w2.frozen? ⟨go, i.toNat * 7 + 1, none⟩ = false := hfr 1
          have f2 : w2.frozen? ⟨go, i.toNat * 7 + 2, none⟩ = false := hfr 2
          have f3 : w2.frozen? ⟨go, i.toNat * 7 + 3, none⟩ = false := hfr 3
          have f4 : w2.frozen? ⟨go, i.toNat * 7 + 4, none⟩ = false := hfr 4
          have f5 : w2.frozen? ⟨go, i.toNat * 7 + 5, none⟩ = false := hfr 5
          have f6 : w2.frozen? ⟨go, i.toNat * 7 + 6, none⟩ = false := hfr 6
          obtain rfl := k28_openM hM
          obtain ⟨u, hu⟩ : ∃ u, u = o2.getD i.toNat z28 := ⟨_, rfl⟩
          rw [← hu] at hcc hM hcl
          have v0 : w2.cell? ⟨go, i.toNat * 7, none⟩ = some (.int .i64 u.f0) := hcc 0 _ rfl
          have v1 : w2.cell? ⟨go, i.toNat * 7 + 1, none⟩ = some (.int .i64 u.f1) := hcc 1 _ rfl
          have v2 : w2.cell? ⟨go, i.toNat * 7 + 2, none⟩ = some (.int .i64 u.f2) := hcc 2 _ rfl
          have v3 : w2.cell? ⟨go, i.toNat * 7 + 3, none⟩ = some (.int .i64 u.f3) := hcc 3 _ rfl
          have v4 : w2.cell? ⟨go, i.toNat * 7 + 4, none⟩ = some (.int .i64 u.f4) := hcc 4 _ rfl
          have v5 : w2.cell? ⟨go, i.toNat * 7 + 5, none⟩ = some (.int .i64 u.f5) := hcc 5 _ rfl
          have v6 : w2.cell? ⟨go, i.toNat * 7 + 6, none⟩ = some (.int .i64 u.f6) := hcc 6 _ rfl
          have hS2 := Aside0.mk (Kd.R_seg HO2.out i hi0 (by omega) (seg := [.int .i64 x.f0, .int .i64 x.f1, .int .i64 x.f2, .int .i64 x.f3, .int .i64 x.f4, .int .i64 x.f5, .int .i64 x.f6]) (j := 0) hcl hcc (show 7 ≤ 7 from by decide) (x' := x) (k28_mkM _ base (fun _ => False) x) (fun _ hk => hk.elim))
          have HIS := Aside0.mk (HST.out _ _ _ HI2.out ((((((((KeepBut.refl w2 go none).set_ (i.toNat * 7) (.int .i64 x.f0)).set_ (i.toNat * 7 + 1) (.int .i64 x.f1)).set_ (i.toNat * 7 + 2) (.int .i64 x.f2)).set_ (i.toNat * 7 + 3) (.int .i64 x.f3)).set_ (i.toNat * 7 + 4) (.int .i64 x.f4)).set_ (i.toNat * 7 + 5) (.int .i64 x.f5)).set_ (i.toNat * 7 + 6) (.int .i64 x.f6)) (below_sets hgo [.int .i64 x.f0, .int .i64 x.f1, .int .i64 x.f2, .int .i64 x.f3, .int .i64 x.f4, .int .i64 x.f5, .int .i64 x.f6] (i.toNat * 7) (Below.refl _ _)))
          have HBS := Aside0.mk (below_sets hgo [.int .i64 x.f0, .int .i64 x.f1, .int .i64 x.f2, .int .i64 x.f3, .int .i64 x.f4, .int .i64 x.f5, .int .i64 x.f6] (i.toNat * 7) HB2.out)
          clear hcl hM hcc hfr hu HST
          go_wp2_with fail
          go_roundg (gk - 1)
          case measure => omega
          case rel => exact ⟨i + 1, j + 1, _, by first | rfl | rw [HWi.out], by first | rfl | rw [HWj.out], by omega, by omega, by omega, by omega, HK2, ⟨by rw [show (j + 1).toNat = j.toNat + 1 by omega]; exact HIS.out⟩, ⟨hS2.out.1⟩, ⟨HBS.out⟩⟩
      · have hjn' : j = l0.length := by omega
        have hk := HK.out.done (by omega)
        have hlen2 : o2.length = l0.length := HK.out.1
        obtain ⟨i', rfl⟩ := Int.eq_ofNat_of_zero_le hi0
        rw [Int.toNat_natCast] at hk
        obtain ⟨vs, hcl⟩ := dClear HO.out i' (l0.length - i') (c - i') (by omega) (by omega)
        have HT := Aside0.mk (R_outs (Kd.R_take HO.out (m := i') (by omega)) vs (i' * 7) (by simp; omega))
        have HBT := Aside0.mk (below_sets hgo vs (i' * 7) HB.out)
        have HKK := Aside0.mk hk
        clear HK HI HO HB HP HST HBI eg hk hlen2
        have hcc := HCC.out
        go_wp2_with fail
        go_ret
        exact ⟨_, rfl, HKK.out ▸ HT.out, HBT.out⟩
end Go.Proofs.YtdopacgaklaaeaaDoor.PDeadRuns
