import Derived.Test.YtdopacgaklaaeaaDoorPDeadRunsx0
import Derived.Test.YtdopacgaklaaeaaDoorPDeadRunshdcode
import Derived.Test.YtdopacgaklaaeaaDoorPDeadRunshdmv
import Derived.Test.YtdopacgaklaaeaaDoorPDeadRunshg1
import Derived.Test.YtdopacgaklaaeaaDoorPDeadRunshplain0
import Derived.Test.YtdopacgaklaaeaaDoorPDeadRunshg2
import Derived.Test.YtdopacgaklaaeaaDoorPDeadRunshmword
namespace Go.Proofs.YtdopacgaklaaeaaDoor.PDeadRuns
open Go.RowKit Go.Proofs.YtdopacgaklaaeaaDoorW.PrintWords Go.Proofs.YtdopacgaklaaeaaDoorW.PrintLast Go.Proofs.YtdopacgaklaaeaaDoorW.PrintMore
set_option linter.unusedVariables false
set_option linter.unusedSimpArgs false
/-! A code with fences runs as without. -/
def fenceI : S28 := ⟨8, 0, 0, 0, 0, 0, 0⟩
def insM (g : List Bool) (a : Int) : Int := wrap64 (a + ((cntD g true a.toNat : Nat) : Int))
theorem cnt_drop (g : List Bool) (n i : Nat) (h : n < g.length) : cntD (g.drop n) true (i + 1) = (if g.getD n false = true then 1 else 0) + cntD (g.drop (n + 1)) true i := by
  unfold cntD
  rw [getD_drop g false n h, List.take_succ_cons, List.count_cons]
  cases g.getD n false <;> simp <;> omega
theorem ins_at (y : S28) (g : List Bool) : ∀ (l : List S28) (n i : Nat), n + l.length = g.length → i < l.length →
    (insertL y g n l).getD (i + cntD (g.drop n) true i + (if g.getD (n + i) false = true then 1 else 0)) z28 = l.getD i z28 ∧
    (g.getD (n + i) false = true → (insertL y g n l).getD (i + cntD (g.drop n) true i) z28 = y)
  | [], n, i, hn, hi => by simp at hi
  | a :: tl, n, 0, hn, hi => by
    have h0 : cntD (g.drop n) true 0 = 0 := by simp [cntD]
    rw [h0, insertL]
    simp only [Nat.add_zero, Nat.zero_add]
    cases hg : g.getD n false with
    | true => simp
    | false => simp
  | a :: tl, n, i + 1, hn, hi => by
    have hl : n < g.length := by simp at hn; omega
    obtain ⟨i1, i2⟩ := ins_at y g tl (n + 1) i (by simp at hn; omega) (by simp at hi; omega)
    rw [cnt_drop g n i hl, insertL]
    rw [show n + (i + 1) = n + 1 + i by omega]
    cases hg : g.getD n false with
    | true =>
      simp only [if_true]
      refine ⟨?_, fun h => ?_⟩
      · rw [show i + 1 + (1 + cntD (g.drop (n + 1)) true i) + (if g.getD (n + 1 + i) false = true then 1 else 0) = (i + cntD (g.drop (n + 1)) true i + (if g.getD (n + 1 + i) false = true then 1 else 0)) + 1 + 1 by omega, List.getD_cons_succ, List.getD_cons_succ, List.getD_cons_succ]
        exact i1
      · rw [show i + 1 + (1 + cntD (g.drop (n + 1)) true i) = (i + cntD (g.drop (n + 1)) true i) + 1 + 1 by omega, List.getD_cons_succ, List.getD_cons_succ]
        exact i2 h
    | false =>
      simp only [Bool.false_eq_true, if_false, Nat.zero_add]
      refine ⟨?_, fun h => ?_⟩
      · rw [show i + 1 + cntD (g.drop (n + 1)) true i + (if g.getD (n + 1 + i) false = true then 1 else 0) = (i + cntD (g.drop (n + 1)) true i + (if g.getD (n + 1 + i) false = true then 1 else 0)) + 1 by omega, List.getD_cons_succ, List.getD_cons_succ]
        exact i1
      · rw [show i + 1 + cntD (g.drop (n + 1)) true i = (i + cntD (g.drop (n + 1)) true i) + 1 by omega, List.getD_cons_succ]
        exact i2 h
theorem ins_len (y : S28) (g : List Bool) : ∀ (l : List S28) (n : Nat), n + l.length = g.length → (insertL y g n l).length = l.length + (g.drop n).count true
  | [], n, h => by rw [List.drop_eq_nil_of_le (by simp at h; omega)]; rfl
  | a :: tl, n, h => by
    have ih := ins_len y g tl (n + 1) (by simp at h; omega)
    rw [getD_drop g false n (by simp at h; omega), insertL, List.count_cons]
    cases hq : g.getD n false with
    | true => simp [ih]; omega
    | false => simp [ih]; omega
def posL (g : List Bool) (p : Nat) : Nat := p + cntD g true p
def liftS (g : List Bool) (s : MSt) : MSt := { s with pc := (posL g s.pc.toNat : Nat) }
section
variable {c : List S28} {g : List Bool}
def fenced (c : List S28) (g : List Bool) : List S28 := insertL fenceI g 0 (c.map (mvx (insM g)))
theorem fenced_len (hg : g.length = c.length) : (fenced c g).length = posL g c.length := by
  unfold fenced posL
  rw [ins_len _ _ _ 0 (by simp; omega), List.length_map, List.drop_zero, ← hg, cntD_full]
theorem posL_succ (g : List Bool) (p : Nat) (h : p < g.length) : posL g (p + 1) = posL g p + 1 + (if g.getD p false = true then 1 else 0) := by
  unfold posL
  rw [cntD_succ g true p h]
  cases g.getD p false <;> simp <;> omega
theorem posL_mono (g : List Bool) : ∀ (d p : Nat), p + d ≤ g.length → posL g p ≤ posL g (p + d)
  | 0, p, h => Nat.le_refl _
  | d + 1, p, h => Nat.le_trans (posL_mono g d p (by omega)) (by rw [show p + (d + 1) = (p + d) + 1 by omega, posL_succ g (p + d) (by omega)]; omega)
theorem fenced_at (hg : g.length = c.length) (p : Nat) (h : p < c.length) :
    (fenced c g).getD (posL g p + (if g.getD p false = true then 1 else 0)) z28 = mvx (insM g) (c.getD p z28) ∧ (g.getD p false = true → (fenced c g).getD (posL g p) z28 = fenceI) ∧ posL g p + (if g.getD p false = true then 1 else 0) < (fenced c g).length := by
  obtain ⟨h1, h2⟩ := ins_at fenceI g (c.map (mvx (insM g))) 0 p (by simp; omega) (by simpa using h)
  simp only [Nat.zero_add, List.drop_zero] at h1 h2
  refine ⟨?_, h2, ?_⟩
  · unfold fenced posL
    rw [h1, List.getD_eq_getElem?_getD, List.getElem?_map, List.getD_eq_getElem?_getD, List.getElem?_eq_getElem h]
    rfl
  · rw [fenced_len hg]
    have := posL_mono g (c.length - (p + 1)) (p + 1) (by omega)
    rw [show p + 1 + (c.length - (p + 1)) = c.length by omega, posL_succ g p (by omega)] at this
    omega
end
end Go.Proofs.YtdopacgaklaaeaaDoor.PDeadRuns

namespace Go.Proofs.YtdopacgaklaaeaaDoor.PDeadRuns
open Go.RowKit Go.Proofs.YtdopacgaklaaeaaDoorW.PrintWords Go.Proofs.YtdopacgaklaaeaaDoorW.PrintLast Go.Proofs.YtdopacgaklaaeaaDoorW.PrintMore
set_option linter.unusedVariables false
set_option linter.unusedSimpArgs false
/-! The document's machine: a new one. -/
theorem mHInfo : (Tryd.prog.info? 66).map (fun i => (i.zero, i.size, i.bytes)) = some (some (.agg #[(.int .i64 0), (.slice none 0 0), (.bool false)]), 3, 40) := by kernel_rfl
theorem mMakeT (w : World) : (Instr.makeSlice 46 (.int .i64 1) (.int .i64 1)).run Tryd.prog w = .ok (.slice (some ⟨w.heap.size, 0, none⟩) 1 1) (w.alloc (.cells #[.int .i64 0, .slice none 0 0, .bool false] 66)) := by
  obtain ⟨i, hi, hh⟩ := Option.map_eq_some_iff.1 mHInfo
  simp only [Prod.mk.injEq] at hh
  obtain ⟨h1, h2, h3⟩ := hh
  have h := run_make (P := Tryd.prog) w 46 66 i _ Tryd.underlying46 hi h1 .i64 .i64 1 1 (by decide) (by decide) (by rw [h3]; decide) (by decide)
  have hm : madeCells (Value.agg #[Value.int IntKind.i64 0, Value.slice none 0 0, Value.bool false]).cells ((1 : Int).toNat * 3) = #[.int .i64 0, .slice none 0 0, .bool false] := by
    unfold madeCells
    rw [show (Value.agg #[Value.int IntKind.i64 0, Value.slice none 0 0, Value.bool false]).cells = #[.int .i64 0, .slice none 0 0, .bool false] by simp [Value.cells], show Array.range ((1 : Int).toNat * 3) = #[0, 1, 2] from by decide]
    simp only [List.map_toArray, List.map_cons, List.map_nil]
    rfl
  rw [h, h2, hm]
  rfl
set_option maxRecDepth 100000 in
set_option maxHeartbeats 8000000 in
theorem mnew.calls (w0 W : World) (gC : Nat) (A0 : Option Addr) (n0 c0 : Nat) (A1 : Option Addr) (c1 : Nat) (mem : List Int) (hC : W.heap[gC]? = some (.cells #[.slice A0 n0 c0] 32 (0, 0))) (hg : w0.heap.size ≤ gC)
    (hm : Kd.C (Kd.int .i64) W A1 mem.length mem) (hc1 : mem.length ≤ c1) (hB : Below w0.heap.size w0 W) (hl : mem.length ≤ 1000000) :
    Calls Tryd.prog 19 #[.slice (some ⟨gC, 0, none⟩) 1 1, .slice A1 mem.length c1] W fun e W' => ∃ (b gT : Nat) (vM : Value), e = .returned (.pointer (some ⟨b, 0, none⟩)) ∧ MO W' w0.heap.size (fun k => k = gC ∨ W.heap.size ≤ k) b gC gT A0 n0 c0 vM (.slice none 0 0) mem [] ∧ MT W' w0.heap.size (fun k => k = gC ∨ W.heap.size ≤ k) gT (.slice none 0 0) [] 0 false ∧ Below W.heap.size W W' := by
  have HC := Aside0.mk hC
  have HG := Aside0.mk hg
  have HM := Aside0.mk hm
  have HC1 := Aside0.mk hc1
  have HB := Aside0.mk hB
  have HL := Aside0.mk hl
  clear hC hg hm hc1 hB hl
  have hmk := mMakeT W
  have hb1 : Below W.heap.size W (W.alloc (.cells #[.int .i64 0, .slice none 0 0, .bool false] 66)) := (Below.refl _ _).alloc (Nat.le_refl _) _
  have hb2 : Below W.heap.size W ((W.alloc (.cells #[.int .i64 0, .slice none 0 0, .bool false] 66)).alloc (.cells #[.slice (some ⟨gC, 0, none⟩) 1 1, .slice none 0 0, .slice none 0 0, .slice (some ⟨W.heap.size, 0, none⟩) 1 1] 48)) := hb1.alloc hb1.size _
  have hs1 : (W.alloc (.cells #[.int .i64 0, .slice none 0 0, .bool false] 66)).heap.size = W.heap.size + 1 := by simp
  have GT := Aside0.mk (blk_alloc (blk_new W (.cells #[.int .i64 0, .slice none 0 0, .bool false] 66)) (.cells #[.slice (some ⟨gC, 0, none⟩) 1 1, .slice none 0 0, .slice none 0 0, .slice (some ⟨W.heap.size, 0, none⟩) 1 1] 48))
  have gb := blk_new (W.alloc (.cells #[.int .i64 0, .slice none 0 0, .bool false] 66)) (.cells #[.slice (some ⟨gC, 0, none⟩) 1 1, .slice none 0 0, .slice none 0 0, .slice (some ⟨W.heap.size, 0, none⟩) 1 1] 48)
  rw [hs1] at gb
  have GB := Aside0.mk gb
  have HB2 := Aside0.mk hb2
  have HS2 := Aside0.mk (show ((W.alloc (.cells #[.int .i64 0, .slice none 0 0, .bool false] 66)).alloc (.cells #[.slice (some ⟨gC, 0, none⟩) 1 1, .slice none 0 0, .slice none 0 0, .slice (some ⟨W.heap.size, 0, none⟩) 1 1] 48)).heap.size = W.heap.size + 2 by simp)
  have HBW := Aside0.mk (HB.out.trans (hb2.mono HB.out.size))
  have HM2 := Aside0.mk (Kd.C_below HM.out hb2)
  clear hb1 hb2 hs1 gb
  go_enter Tryd.func19, Tryd.ntmps19
  go_wp2_with (first | ((with_reducible refine gate_builtin (b := .append) (xs := #[.tmp 16, .tmp 17]) rfl ?_); at_builtin; (refine Kd.R_append_rows (Kd.int .i64) (w0 := w0) w0.heap.size rfl (.tmp 16) (.tmp 17) 37 2 (.int .i64 0) 8 rfl Tryd.underlying37 info2 rfl (by decide) (by omega) (.slice none 0 0) ([] : List Int) mem _ _ _ (fun k => k = gC ∨ W.heap.size ≤ k) (fun _ => False) rfl rfl (Kd.R_nil _ _ _ _ _) HM2.out (fun _ _ h => h) (fun _ h => h.elim) (fun k_ hk => .inr (by have := HS2.out; omega)) HBW.out HBW.out.size (by have := HL.out; simp; omega) ?_; intro vM w3 ho hb hg hat; have HR3 := Aside0.mk (show Kd.R (Kd.int .i64) 2 w3 w0.heap.size (fun k => k = gC ∨ W.heap.size ≤ k) vM mem from ho); have hold : ∀ k, k < W.heap.size + 2 → w3.heap[k]? = ((W.alloc (.cells #[.int .i64 0, .slice none 0 0, .bool false] 66)).alloc (.cells #[.slice (some ⟨gC, 0, none⟩) 1 1, .slice none 0 0, .slice none 0 0, .slice (some ⟨W.heap.size, 0, none⟩) 1 1] 48)).heap[k]? := fun k hk => hg.block k (by have := HS2.out; omega) (by simp [Value.ownBlock]); have HBn := Aside0.mk (show Below W.heap.size W w3 from ⟨hb.os.trans HB.out.os.symm, hb.tape.trans HB.out.tape.symm, hb.output.trans HB.out.output.symm, Nat.le_trans HB2.out.size hg.size, fun k hk => (hold k (by omega)).trans (HB2.out.block k hk)⟩); have GT3 := Aside0.mk ((hold W.heap.size (by omega)).trans GT.out); have GB3 := Aside0.mk ((hold (W.heap.size + 1) (by omega)).trans GB.out); clear ho hb hg hat hold; obtain ⟨AM, cM, eM⟩ := Kd.R_slice HR3.out; subst eM; have b1 : w3.cell? ⟨W.heap.size + 1, 1, none⟩ = some (.slice none 0 0) := (blk_cell GB3.out 1).trans rfl; have bf : w3.frozen? ⟨W.heap.size + 1, 1, none⟩ = false := blk_frozen GB3.out 1)))
  go_ret
  have s1 : ∀ T : List Nat, 48 ∉ T → Stay T w3 (w3.setCell ⟨W.heap.size + 1, 1, none⟩ (.slice AM mem.length cM)) := fun T hT => Stay.set GB3.out hT 1 _
  have hCW : w3.heap[gC]? = some (.cells #[.slice A0 n0 c0] 32 (0, 0)) := blk_below HC.out HBn.out
  have hWl : w0.heap.size ≤ W.heap.size := HB.out.size
  refine ⟨W.heap.size + 1, W.heap.size, .slice AM mem.length cM, rfl, ⟨⟨.inr (by omega), .inl rfl, .inr (Nat.le_refl _)⟩, ⟨by omega, HG.out, hWl⟩, blk_set GB3.out 1 _, (s1 [32] (by decide)).blk hCW (by decide), (s1 [2] (by decide)).row HR3.out (by decide), Kd.R_nil _ _ _ _ _⟩, ⟨(s1 [66] (by decide)).blk GT3.out (by decide), Kd.R_nil _ _ _ _ _⟩, ?_⟩
  exact HBn.out.setCell (p := ⟨W.heap.size + 1, 1, none⟩) (by show W.heap.size ≤ W.heap.size + 1; omega) _
end Go.Proofs.YtdopacgaklaaeaaDoor.PDeadRuns
