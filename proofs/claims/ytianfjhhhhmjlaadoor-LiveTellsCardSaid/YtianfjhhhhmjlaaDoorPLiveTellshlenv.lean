import Derived.Test.YtianfjhhhhmjlaaDoorPLiveTellsx0
import Derived.Test.YtianfjhhhhmjlaaDoorPLiveTellshmaps
namespace Go.Proofs.YtianfjhhhhmjlaaDoor.PLiveTells
open Go.RowKit Go.Proofs.YtianfjhhhhmjlaaDoorW.PrintWords Go.Proofs.YtianfjhhhhmjlaaDoorW.PrintLast Go.Proofs.YtianfjhhhhmjlaaDoorW.PrintMore
set_option linter.unusedVariables false
set_option linter.unusedSimpArgs false
open Go.MapKept Go.RowKit
/-! live.flow: its two rows of sets in memory. -/
def lv (l : List Int) : Int → Option Value := setV (fun i => decide (i ∈ l))
theorem up_nodup {l : List Int} (h : l.Pairwise (· < ·)) : l.Nodup := by
  rw [List.nodup_iff_pairwise_ne]
  exact h.imp (fun hab e => by omega)
theorem IM.listed {w : World} {b m : Nat} {S : Int → Bool} (h : IM w b (setV S) m) {l : List Int} (hl : l.Pairwise (· < ·)) (hS : ∀ i, S i = decide (i ∈ l)) : IM w b (lv l) l.length := by
  have hm : ∀ i, i ∈ l ↔ (setV S i).isSome = true := fun i => by rw [setV_isSome, hS]; simp
  refine h.congr (fun i => ?_) (h.count (up_nodup hl) hm)
  unfold lv setV
  rw [hS]
theorem IM.kept {w w' : World} {b n : Nat} {f : Int → Option Value} {row : Option Nat} (h : IM w b f n) (hg : w.grownBy w' row) (hb : some b ≠ row) : IM w' b f n := h.move (hg.block b h.lt hb)
/-- each of some blocks is a set, and which one -/
def MapsOK (W : World) (xb : List Nat) (L : List (List Int)) : Prop := ∀ (i b : Nat), xb[i]? = some b → IM W b (lv (L.getD i [])) (L.getD i []).length
structure LEnv (W : World) (B1 B2 B3 ga gb n ca cb c0 : Nat) (A0 : Option Addr) (xa xb : List Nat) : Prop where
  hA : W.heap[B2]? = some (.cells #[.slice (some ⟨ga, 0, none⟩) n ca] 46 (0, 0))
  hB : W.heap[B3]? = some (.cells #[.slice (some ⟨gb, 0, none⟩) n cb] 46 (0, 0))
  hC : W.heap[B1]? = some (.cells #[.slice A0 n c0] 44 (0, 0))
  tA : ∃ cs, W.heap[ga]? = some (.cells cs 51 (0, 0)) ∧ ∀ (i b : Nat), xa[i]? = some b → cs[i]? = some (.map (some b))
  tB : ∃ cs, W.heap[gb]? = some (.cells cs 51 (0, 0)) ∧ ∀ (i b : Nat), xb[i]? = some b → cs[i]? = some (.map (some b))
  lA : xa.length = n
  lB : xb.length = n
  out : ∀ k, k ∈ xa ∨ k ∈ xb → k ≠ B1 ∧ k ≠ B2 ∧ k ≠ B3 ∧ k ≠ ga ∧ k ≠ gb
  nd : (xa ++ xb).Nodup
section
variable {W W' : World} {B1 B2 B3 ga gb n ca cb c0 : Nat} {A0 : Option Addr} {xa xb : List Nat}
theorem LEnv.step (h : LEnv W B1 B2 B3 ga gb n ca cb c0 A0 xa xb) (hm : ∀ k, k < W.heap.size → k ∉ xa → k ∉ xb → W'.heap[k]? = W.heap[k]?) : LEnv W' B1 B2 B3 ga gb n ca cb c0 A0 xa xb := by
  obtain ⟨h1, h2, h3, ⟨cs, h4, h4'⟩, ⟨ds, h5, h5'⟩, h6, h7, h8, h9⟩ := h
  have o : ∀ k, (k = B1 ∨ k = B2 ∨ k = B3 ∨ k = ga ∨ k = gb) → k ∉ xa ∧ k ∉ xb := fun k hk => by
    refine ⟨fun hm => ?_, fun hm => ?_⟩
    · have := h8 k (.inl hm); omega
    · have := h8 k (.inr hm); omega
  have mv : ∀ {k : Nat} {ob : Obj}, (k = B1 ∨ k = B2 ∨ k = B3 ∨ k = ga ∨ k = gb) → W.heap[k]? = some ob → W'.heap[k]? = some ob := fun {k ob} hk hb => (hm k (blk_lt hb) (o k hk).1 (o k hk).2).trans hb
  exact ⟨mv (by simp) h1, mv (by simp) h2, mv (by simp) h3, ⟨cs, mv (by simp) h4, h4'⟩, ⟨ds, mv (by simp) h5, h5'⟩, h6, h7, h8, h9⟩
theorem LEnv.grown (h : LEnv W B1 B2 B3 ga gb n ca cb c0 A0 xa xb) {k : Nat} (hg : W.grownBy W' (some k)) (hk : k ∈ xa ∨ k ∈ xb ∨ W.heap.size ≤ k) : LEnv W' B1 B2 B3 ga gb n ca cb c0 A0 xa xb :=
  h.step (fun j hj ha hb => hg.block j hj (fun e => by
    have e := Option.some.inj e
    subst e
    rcases hk with hk | hk | hk
    · exact ha hk
    · exact hb hk
    · omega))
theorem LEnv.below (h : LEnv W B1 B2 B3 ga gb n ca cb c0 A0 xa xb) (hb : Below W.heap.size W W') : LEnv W' B1 B2 B3 ga gb n ca cb c0 A0 xa xb := h.step (fun j hj _ _ => hb.block j hj)
theorem LEnv.atA (h : LEnv W B1 B2 B3 ga gb n ca cb c0 A0 xa xb) {i : Int} (h0 : 0 ≤ i) (h1 : i < (n : Int)) : ∃ a, xa[i.toNat]? = some a ∧ W.cell? ⟨ga, i.toNat, none⟩ = some (.map (some a)) := by
  have hl : i.toNat < xa.length := by have := h.lA; omega
  obtain ⟨cs, h2, h3⟩ := h.tA
  refine ⟨xa[i.toNat], List.getElem?_eq_getElem hl, ?_⟩
  rw [blk_cell h2]
  exact h3 _ _ (List.getElem?_eq_getElem hl)
theorem LEnv.atB (h : LEnv W B1 B2 B3 ga gb n ca cb c0 A0 xa xb) {i : Int} (h0 : 0 ≤ i) (h1 : i < (n : Int)) : ∃ a, xb[i.toNat]? = some a ∧ W.cell? ⟨gb, i.toNat, none⟩ = some (.map (some a)) := by
  have hl : i.toNat < xb.length := by have := h.lB; omega
  obtain ⟨cs, h2, h3⟩ := h.tB
  refine ⟨xb[i.toNat], List.getElem?_eq_getElem hl, ?_⟩
  rw [blk_cell h2]
  exact h3 _ _ (List.getElem?_eq_getElem hl)
theorem LEnv.apart (h : LEnv W B1 B2 B3 ga gb n ca cb c0 A0 xa xb) {a b : Nat} (ha : a ∈ xa) (hb : b ∈ xb) : a ≠ b := by
  have := (List.nodup_append.1 h.nd).2.2 a ha b hb
  exact this
theorem MapsOK.step {L : List (List Int)} (h : MapsOK W xa L) (hm : ∀ k ∈ xa, W'.heap[k]? = W.heap[k]?) : MapsOK W' xa L := fun i b hb => (h i b hb).move (hm b (List.mem_of_getElem? hb))
theorem MapsOK.lt {L : List (List Int)} (h : MapsOK W xa L) : ∀ k ∈ xa, k < W.heap.size := fun k hk => by
  obtain ⟨i, hi, he⟩ := List.mem_iff_getElem.1 hk
  exact (h i k (by rw [List.getElem?_eq_getElem hi, he])).lt
theorem MapsOK.put {L : List (List Int)} (h : MapsOK W xa L) (hnd : xa.Nodup) (hlen : xa.length = L.length) {i a : Nat} (ha : xa[i]? = some a) {l : List Int} (hi : IM W' a (lv l) l.length) (hm : ∀ k ∈ xa, k ≠ a → W'.heap[k]? = W.heap[k]?) : MapsOK W' xa (L.set i l) := fun j b hb => by
  have hil := (List.getElem?_eq_some_iff.1 ha).1
  by_cases e : j = i
  · subst e
    have hab : a = b := by rw [ha] at hb; exact Option.some.inj hb
    subst hab
    have : (L.set j l).getD j [] = l := by rw [List.getD_eq_getElem?_getD, List.getElem?_set, if_pos rfl, if_pos (by omega)]; rfl
    rw [this]
    exact hi
  · have hne : b ≠ a := fun hab => by
      subst hab
      have hjl := (List.getElem?_eq_some_iff.1 hb).1
      have e1 := (List.getElem?_eq_some_iff.1 ha).2
      have e2 := (List.getElem?_eq_some_iff.1 hb).2
      exact e ((List.getElem_inj hnd).1 (e2.trans e1.symm))
    have : (L.set i l).getD j [] = L.getD j [] := by simp only [List.getD_eq_getElem?_getD]; rw [List.getElem?_set, if_neg (fun h => e h.symm)]
    rw [this]
    exact (h j b hb).move (hm b (List.mem_of_getElem? hb) hne)
end
end Go.Proofs.YtianfjhhhhmjlaaDoor.PLiveTells
