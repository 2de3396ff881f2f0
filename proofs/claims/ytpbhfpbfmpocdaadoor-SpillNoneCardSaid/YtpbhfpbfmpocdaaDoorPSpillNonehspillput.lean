-- HANDNOT put
import Derived.Test.YtpbhfpbfmpocdaaDoorPSpillNonex0
import Derived.Test.YtpbhfpbfmpocdaaDoorPSpillNonehspillread
namespace Go.Proofs.YtpbhfpbfmpocdaaDoor.PSpillNone
open Go.RowKit Go.Proofs.YtpbhfpbfmpocdaaDoorW.PrintWords Go.Proofs.YtpbhfpbfmpocdaaDoorW.PrintLast Go.Proofs.YtpbhfpbfmpocdaaDoorW.PrintMore
set_option linter.unusedVariables false
set_option linter.unusedSimpArgs false

def insCells (x : S48) : Array Value := #[.int .i64 x.f0, .int .i64 x.f1, .int .i64 x.f2, .int .i64 x.f3, .int .i64 x.f4, .int .i64 x.f5, .int .i64 x.f6]
def insB (x : S48) : Array Value := #[.int .i64 x.f0, .int .i64 x.f1, .int .i64 x.f2, .int .i64 x.f3, .int .i64 x.f4, .int .i64 x.f5, .int .i64 x.f6]
/-- The state of 'put' in its midst: entry world w, world W; B: the first block of its own (w, i, x lie in B, B + 1, B + 2). -/
def PutSt (w : World) (g : Nat) (A0 : Option Addr) (n0 c0 : Nat) (A1 : Option Addr) (n1 c1 : Nat) (p s : Int) (ov ov2 : Value) (x y : S48) (out : List S48) (W : World) : Prop :=
  WrAt W g A0 n0 c0 A1 n1 c1 p s ov2 ∧ Kd.R k48 48 W (g + 1) (fun _ => True) ov2 out ∧ Below g w W ∧ KeepBut w W g ov.ownBlock ∧
  (ov2.ownBlock = ov.ownBlock ∨ ∃ b, ov2.ownBlock = some b ∧ w.heap.size + 3 ≤ b) ∧ (∀ k, ov.ownBlock = some k → k < w.heap.size) ∧
  W.heap[w.heap.size]? = some (.cells #[.pointer (some ⟨g, 0, none⟩)] 63 (0, 0)) ∧ W.heap[w.heap.size + 1]? = some (.cells (insCells x) 48 (0, 0)) ∧ W.heap[w.heap.size + 1 + 1]? = some (.cells (insCells y) 48 (0, 0)) ∧ g < w.heap.size
section
variable {w W w' : World} {g : Nat} {A0 : Option Addr} {n0 c0 : Nat} {A1 : Option Addr} {n1 c1 : Nat} {p s : Int} {ov ov2 : Value} {x y : S48} {out out' : List S48}
theorem PutSt.below (h : PutSt w g A0 n0 c0 A1 n1 c1 p s ov ov2 x y out W) (hb : Below W.heap.size W w') : PutSt w g A0 n0 c0 A1 n1 c1 p s ov ov2 x y out w' := by
  obtain ⟨h1, h2, h3, h4, h5, h6, h7, h8, h9, h0⟩ := h
  exact ⟨blk_below h1 hb, Kd.R_below h2 hb, h3.trans (hb.mono (Nat.le_of_lt (blk_lt h1))), h4.trans (row1 := ov.ownBlock) (KeepBut.of_below hb g _) (.inl rfl), h5, h6, blk_below h7 hb, blk_below h8 hb, blk_below h9 hb, h0⟩
theorem PutSt.after {v : Option Value} {e : Ending} (h : PutSt w g A0 n0 c0 A1 n1 c1 p s ov ov2 x y out W) (hp : WrPost W g A0 n0 c0 A1 n1 c1 p s ov2 out' v e w') : ∃ ov3, PutSt w g A0 n0 c0 A1 n1 c1 p s ov ov3 x y out' w' := by
  obtain ⟨h1, h2, h3, h4, h5, h6, h7, h8, h9, h0⟩ := h
  obtain ⟨_, ov3, q1, q2, q3, q4, q5⟩ := hp
  have hs : w.heap.size + 1 + 1 < W.heap.size := blk_lt h9
  have far : ∀ b, w.heap.size ≤ b → b < w.heap.size + 3 → some b ≠ ov2.ownBlock := by
    intro b hb1 hb2 he
    rcases h5 with h5 | ⟨b', e', hb'⟩
    · have := h6 b (by rw [← h5, ← he]); omega
    · rw [e'] at he; cases he; omega
  refine ⟨ov3, q1, q2, h3.trans q3, ?_, ?_, h6, q4.blk h7 (by omega) (far _ (by omega) (by omega)), q4.blk h8 (by omega) (far _ (by omega) (by omega)), q4.blk h9 (by omega) (far _ (by omega) (by omega)), h0⟩
  · exact h4.trans q4 (h5.imp id fun ⟨b, e, hb⟩ => ⟨b, e, by omega⟩)
  · rcases q5 with q5 | ⟨b, e, hb⟩
    · rw [q5]; exact h5
    · exact .inr ⟨b, e, by omega⟩
theorem PutSt.set_ {y' : S48} (h : PutSt w g A0 n0 c0 A1 n1 c1 p s ov ov2 x y out W) (j : Nat) (u : Value) (hy : (insCells y).setIfInBounds j u = insCells y') : PutSt w g A0 n0 c0 A1 n1 c1 p s ov ov2 x y' out (W.setCell ⟨w.heap.size + 1 + 1, j, none⟩ u) := by
  obtain ⟨h1, h2, h3, h4, h5, h6, h7, h8, h9, h0⟩ := h
  have far : ∀ k, ov2.ownBlock = some k → k ≠ w.heap.size + 1 + 1 := by
    intro k hk he
    rcases h5 with h5 | ⟨b', e', hb'⟩
    · have := h6 k (by rw [← h5, hk]); omega
    · rw [e'] at hk; cases hk; omega
  refine ⟨blk_far h1 (by show g ≠ w.heap.size + 1 + 1; omega) u, ?_, h3.setCell (p := ⟨w.heap.size + 1 + 1, j, none⟩) (by show g ≤ w.heap.size + 1 + 1; omega) u, ?_, h5, h6, blk_far h7 (by show w.heap.size ≠ w.heap.size + 1 + 1; omega) u, blk_far h8 (by show w.heap.size + 1 ≠ w.heap.size + 1 + 1; omega) u, ?_, h0⟩
  · have h2' : Kd.R k48 48 W (g + 1) (fun k => True ∧ k ≠ w.heap.size + 1 + 1) ov2 out := by
      obtain ⟨ha, inner, hb, hc⟩ := h2
      exact ⟨fun k hk => ⟨trivial, far k hk⟩, inner, hb, hc.imp_ (fun q c hq => hq)⟩
    exact Kd.R_mono (Kd.R_far h2' (p := ⟨w.heap.size + 1 + 1, j, none⟩) (fun k hk => hk.2) u) (fun _ _ => trivial)
  · exact ⟨by simpa [World.setCell] using h4.1, fun i hi hg hr => (Below.heap_setCell W ⟨w.heap.size + 1 + 1, j, none⟩ u i (by show i ≠ w.heap.size + 1 + 1; omega)).trans (h4.2 i hi hg hr)⟩
  · rw [← hy]; exact blk_set h9 j u
end
end Go.Proofs.YtpbhfpbfmpocdaaDoor.PSpillNone
