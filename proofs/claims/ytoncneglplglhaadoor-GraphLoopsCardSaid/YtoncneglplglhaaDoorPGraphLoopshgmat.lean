import Derived.Test.YtoncneglplglhaaDoorPGraphLoopsx0
import Derived.Test.YtoncneglplglhaaDoorPGraphLoopshway
import Derived.OneCell
import Derived.Deep.QuietTactic
import Derived.BigQuiet
namespace Go.Proofs.YtoncneglplglhaaDoor.PGraphLoops
open Go.RowKit Go.Proofs.YtoncneglplglhaaDoorW.PrintWords Go.Proofs.YtoncneglplglhaaDoorW.PrintLast Go.Proofs.YtoncneglplglhaaDoorW.PrintMore
set_option linter.unusedVariables false
set_option linter.unusedSimpArgs false
theorem nodup_same {α : Type} {l : List α} (h : l.Nodup) {i j : Nat} (hi : i < l.length) (hj : j < l.length) (e : l[i] = l[j]) : i = j := by
  have hp := List.pairwise_iff_getElem.1 h
  rcases Nat.lt_trichotomy i j with hl | hl | hl
  · exact absurd e (hp i j hi hj hl)
  · exact hl
  · exact absurd e.symm (hp j i hj hi hl)
/-! A square table of bools of the call's own: a row of rows. -/
def rowV (n : Nat) (b : Nat) : Value := .slice (some ⟨b, 0, none⟩) n n
structure Mat (W : World) (g : Nat) (gs : List Nat) (n : Nat) (R : List (List Bool)) : Prop where
  len : gs.length = n
  sq : Sq n R
  nd : gs.Nodup
  top : W.heap[g]? = some (.cells ((gs.map (rowV n)).toArray) 25 (0, 0))
  row : ∀ (i : Nat) (b : Nat), gs[i]? = some b → W.heap[b]? = some (.cells (((R.getD i []).map Value.bool).toArray) 4 (0, 0))
section
variable {W W' : World} {g n : Nat} {gs : List Nat} {R : List (List Bool)}
theorem Mat.move (h : Mat W g gs n R) (hm : ∀ b, b = g ∨ b ∈ gs → W'.heap[b]? = W.heap[b]?) : Mat W' g gs n R :=
  ⟨h.len, h.sq, h.nd, (hm g (.inl rfl)).trans h.top, fun i b hb => (hm b (.inr (List.mem_of_getElem? hb))).trans (h.row i b hb)⟩
theorem Mat.lt (h : Mat W g gs n R) : ∀ b, b = g ∨ b ∈ gs → b < W.heap.size := by
  intro b hb
  rcases hb with rfl | hb
  · exact blk_lt h.top
  · obtain ⟨i, hi, he⟩ := List.mem_iff_getElem.1 hb
    exact blk_lt (h.row i b (by rw [List.getElem?_eq_getElem hi, he]))
theorem Mat.below (h : Mat W g gs n R) (hb : Below W.heap.size W W') : Mat W' g gs n R := h.move (fun b hbb => hb.block b (h.lt b hbb))
theorem Mat.at (h : Mat W g gs n R) {i : Int} (h0 : 0 ≤ i) (h1 : i < (n : Int)) : ∃ b, gs[i.toNat]? = some b ∧ W.cell? ⟨g, i.toNat, none⟩ = some (rowV n b) := by
  have hl : i.toNat < gs.length := by have := h.len; omega
  refine ⟨gs[i.toNat], List.getElem?_eq_getElem hl, ?_⟩
  rw [blk_cell h.top i.toNat]
  simp [hl]
theorem Mat.cell (h : Mat W g gs n R) {i k : Int} (h0 : 0 ≤ i) (h1 : i < (n : Int)) (k0 : 0 ≤ k) (k1 : k < (n : Int)) {b : Nat} (hb : gs[i.toNat]? = some b) : W.cell? ⟨b, k.toNat, none⟩ = some (.bool (val R i k)) ∧ W.frozen? ⟨b, k.toNat, none⟩ = false := by
  have hr := h.row i.toNat b hb
  refine ⟨?_, blk_frozen hr _⟩
  rw [blk_cell hr k.toNat]
  have hl : k.toNat < (R.getD i.toNat []).length := by rw [sq_row h.sq h0 h1]; omega
  unfold val at_
  simp only [List.getElem?_toArray, List.getElem?_map]
  rw [List.getElem?_eq_getElem hl]
  generalize R.getD i.toNat [] = row at hl ⊢
  simp [List.getD_eq_getElem?_getD, hl]
theorem Mat.ne (h : Mat W g gs n R) {b B : Nat} (hb : b ∈ gs) {t : TypeId} {cs : Array Value} (hB : W.heap[B]? = some (.cells cs t (0, 0))) (ht : 4 ≠ t) : b ≠ B := by
  obtain ⟨i, hi, he⟩ := List.mem_iff_getElem.1 hb
  exact blk_ne (h.row i b (by rw [List.getElem?_eq_getElem hi, he])) hB ht
theorem Mat.store (h : Mat W g gs n R) {i k : Int} (h0 : 0 ≤ i) (h1 : i < (n : Int)) (k0 : 0 ≤ k) (k1 : k < (n : Int)) {b : Nat} (hb : gs[i.toNat]? = some b) (v : Bool) : Mat (W.setCell ⟨b, k.toNat, none⟩ (.bool v)) g gs n (setv R i k v) := by
  have hmem := List.mem_of_getElem? hb
  refine ⟨h.len, sq_set h.sq h0 h1, h.nd, ?_, fun j c hc => ?_⟩
  · exact blk_far h.top (fun e => h.ne hmem h.top (by decide) e.symm) _
  · unfold setv
    by_cases e : j = i.toNat
    · subst e
      have hcb : c = b := by rw [hb] at hc; exact (Option.some.inj hc).symm
      subst hcb
      have hl : i.toNat < R.length := by have := h.sq.1; omega
      have := blk_set (h.row _ c hb) k.toNat (.bool v)
      rw [this]
      congr 2
      have hg : (R.set i.toNat ((R.getD i.toNat []).set k.toNat v)).getD i.toNat [] = (R.getD i.toNat []).set k.toNat v := by
        rw [List.getD_eq_getElem?_getD]
        rw [List.getElem?_set, if_pos rfl, if_pos hl]
        rfl
      rw [hg]
      simp [List.map_set]
    · have hne : c ≠ b := by
        intro he
        subst he
        have hj := (List.getElem?_eq_some_iff.1 hc).1
        have hi := (List.getElem?_eq_some_iff.1 hb).1
        have e1 : gs[j] = c := (List.getElem?_eq_some_iff.1 hc).2
        have e2 : gs[i.toNat] = c := (List.getElem?_eq_some_iff.1 hb).2
        exact e (nodup_same h.nd hj hi (e1.trans e2.symm))
      have hg : (R.set i.toNat ((R.getD i.toNat []).set k.toNat v)).getD j [] = R.getD j [] := by
        simp only [List.getD_eq_getElem?_getD]
        rw [List.getElem?_set, if_neg (fun he => e he.symm)]
      rw [hg]
      exact blk_far (h.row j c hc) hne _
end
set_option maxHeartbeats 2000000 in
theorem missing.calls (W : World) (g n B5 B6 : Nat) (gs : List Nat) (R : List (List Bool)) (p k : Int) (h : Mat W g gs n R) (h5 : W.heap[B5]? = some (.cells #[.slice (some ⟨g, 0, none⟩) n n] 31 (0, 0))) (h6 : W.heap[B6]? = some (.cells #[.int .i64 k] 3 (0, 0))) (p0 : 0 ≤ p) (p1 : p < (n : Int)) (k0 : 0 ≤ k) (k1 : k < (n : Int)) :
    Calls Tryd.prog 27 #[.int .i64 p, .pointer (some ⟨B5, 0, none⟩), .pointer (some ⟨B6, 0, none⟩)] W fun e w' => e = .returned (.bool (!val R p k)) ∧ ∃ q, w' = W.drewN q := by
  obtain ⟨b, hb, c1⟩ := h.at p0 p1
  obtain ⟨c2, _⟩ := h.cell p0 p1 k0 k1 hb
  have c5 : W.cell? ⟨B5, 0, none⟩ = some (.slice (some ⟨g, 0, none⟩) n n) := cell_of_one h5
  have c6 : W.cell? ⟨B6, 0, none⟩ = some (.int .i64 k) := cell_of_one h6
  unfold rowV at c1
  clear h h5 h6 hb
  go_enter Tryd.func27, Tryd.ntmps27
  go_wp2_with fail
  go_quiet (fail)
  go_wp2_with fail
  go_ret
  exact ⟨rfl, _, rfl⟩
end Go.Proofs.YtoncneglplglhaaDoor.PGraphLoops
