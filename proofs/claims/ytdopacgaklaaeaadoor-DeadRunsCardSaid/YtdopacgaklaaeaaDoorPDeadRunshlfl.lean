import Derived.Test.YtdopacgaklaaeaaDoorPDeadRunsx0
import Derived.Test.YtdopacgaklaaeaaDoorPDeadRunshmaps
import Derived.Maps.AppendAt
namespace Go.Proofs.YtdopacgaklaaeaaDoor.PDeadRuns
open Go.RowKit Go.Proofs.YtdopacgaklaaeaaDoorW.PrintWords Go.Proofs.YtdopacgaklaaeaaDoorW.PrintLast Go.Proofs.YtdopacgaklaaeaaDoorW.PrintMore
set_option linter.unusedVariables false
set_option linter.unusedSimpArgs false
open Go.MapKept Go.RowKit
/-! live.flow: its two rows of sets in memory. -/
def lv (l : List Int) : Int → Option Value := setV (fun i => decide (i ∈ l))
theorem up_nodup {l : List Int} (h : l.Pairwise (· < ·)) : l.Nodup := by
  rw [List.nodup_iff_pairwise_ne]
  exact h.imp (fun hab e => by omega)
theorem IM.listed {w : World} {b m : Nat} {S : Int → Bool} (h : IM w b (setV S) m) {l : List Int} (hl : l.Pairwise (· < ·)) (hS : ∀ i, S i = decide (i ∈ l)) : IM w b (lv l) l.length := by
  have hm : ∀ i, i ∈ l ↔ (setV S i).isSome = true := fun i => by rw [setV_isSome, hS]; simp
  refine h.congr (fun i => ?_) (h.count (up_nodup hl) hm)
  unfold lv setV
  rw [hS]
theorem IM.kept {w w' : World} {b n : Nat} {f : Int → Option Value} {row : Option Nat} (h : IM w b f n) (hg : w.grownBy w' row) (hb : some b ≠ row) : IM w' b f n := h.move (hg.block b h.lt hb)
/-- each of some blocks is a set, and which one -/
def MapsOK (W : World) (xb : List Nat) (L : List (List Int)) : Prop := ∀ (i b : Nat), xb[i]? = some b → IM W b (lv (L.getD i [])) (L.getD i []).length
structure LEnv (W : World) (B1 B2 B3 ga gb n ca cb c0 : Nat) (A0 : Option Addr) (xa xb : List Nat) : Prop where
  hA : W.heap[B2]? = some (.cells #[.slice (some ⟨ga, 0, none⟩) n ca] 78 (0, 0))
  hB : W.heap[B3]? = some (.cells #[.slice (some ⟨gb, 0, none⟩) n cb] 78 (0, 0))
  hC : W.heap[B1]? = some (.cells #[.slice A0 n c0] 32 (0, 0))
  tA : ∃ cs, W.heap[ga]? = some (.cells cs 102 (0, 0)) ∧ ∀ (i b : Nat), xa[i]? = some b → cs[i]? = some (.map (some b))
  tB : ∃ cs, W.heap[gb]? = some (.cells cs 102 (0, 0)) ∧ ∀ (i b : Nat), xb[i]? = some b → cs[i]? = some (.map (some b))
  lA : xa.length = n
  lB : xb.length = n
  out : ∀ k, k ∈ xa ∨ k ∈ xb → k ≠ B1 ∧ k ≠ B2 ∧ k ≠ B3 ∧ k ≠ ga ∧ k ≠ gb
  nd : (xa ++ xb).Nodup
section
variable {W W' : World} {B1 B2 B3 ga gb n ca cb c0 : Nat} {A0 : Option Addr} {xa xb : List Nat}
theorem LEnv.step (h : LEnv W B1 B2 B3 ga gb n ca cb c0 A0 xa xb) (hm : ∀ k, k < W.heap.size → k ∉ xa → k ∉ xb → W'.heap[k]? = W.heap[k]?) : LEnv W' B1 B2 B3 ga gb n ca cb c0 A0 xa xb := by
  obtain ⟨h1, h2, h3, ⟨cs, h4, h4'⟩, ⟨ds, h5, h5'⟩, h6, h7, h8, h9⟩ := h
  have o : ∀ k, (k = B1 ∨ k = B2 ∨ k = B3 ∨ k = ga ∨ k = gb) → k ∉ xa ∧ k ∉ xb := fun k hk => by
    refine ⟨fun hm => ?_, fun hm => ?_⟩
    · have := h8 k (.inl hm); omega
    · have := h8 k (.inr hm); omega
  have mv : ∀ {k : Nat} {ob : Obj}, (k = B1 ∨ k = B2 ∨ k = B3 ∨ k = ga ∨ k = gb) → W.heap[k]? = some ob → W'.heap[k]? = some ob := fun {k ob} hk hb => (hm k (blk_lt hb) (o k hk).1 (o k hk).2).trans hb
  exact ⟨mv (by simp) h1, mv (by simp) h2, mv (by simp) h3, ⟨cs, mv (by simp) h4, h4'⟩, ⟨ds, mv (by simp) h5, h5'⟩, h6, h7, h8, h9⟩
theorem LEnv.grown (h : LEnv W B1 B2 B3 ga gb n ca cb c0 A0 xa xb) {k : Nat} (hg : W.grownBy W' (some k)) (hk : k ∈ xa ∨ k ∈ xb ∨ W.heap.size ≤ k) : LEnv W' B1 B2 B3 ga gb n ca cb c0 A0 xa xb :=
  h.step (fun j hj ha hb => hg.block j hj (fun e => by
    have e := Option.some.inj e
    subst e
    rcases hk with hk | hk | hk
    · exact ha hk
    · exact hb hk
    · omega))
theorem LEnv.below (h : LEnv W B1 B2 B3 ga gb n ca cb c0 A0 xa xb) (hb : Below W.heap.size W W') : LEnv W' B1 B2 B3 ga gb n ca cb c0 A0 xa xb := h.step (fun j hj _ _ => hb.block j hj)
theorem LEnv.atA (h : LEnv W B1 B2 B3 ga gb n ca cb c0 A0 xa xb) {i : Int} (h0 : 0 ≤ i) (h1 : i < (n : Int)) : ∃ a, xa[i.toNat]? = some a ∧ W.cell? ⟨ga, i.toNat, none⟩ = some (.map (some a)) := by
  have hl : i.toNat < xa.length := by have := h.lA; omega
  obtain ⟨cs, h2, h3⟩ := h.tA
  refine ⟨xa[i.toNat], List.getElem?_eq_getElem hl, ?_⟩
  rw [blk_cell h2]
  exact h3 _ _ (List.getElem?_eq_getElem hl)
theorem LEnv.atB (h : LEnv W B1 B2 B3 ga gb n ca cb c0 A0 xa xb) {i : Int} (h0 : 0 ≤ i) (h1 : i < (n : Int)) : ∃ a, xb[i.toNat]? = some a ∧ W.cell? ⟨gb, i.toNat, none⟩ = some (.map (some a)) := by
  have hl : i.toNat < xb.length := by have := h.lB; omega
  obtain ⟨cs, h2, h3⟩ := h.tB
  refine ⟨xb[i.toNat], List.getElem?_eq_getElem hl, ?_⟩
  rw [blk_cell h2]
  exact h3 _ _ (List.getElem?_eq_getElem hl)
theorem LEnv.apart (h : LEnv W B1 B2 B3 ga gb n ca cb c0 A0 xa xb) {a b : Nat} (ha : a ∈ xa) (hb : b ∈ xb) : a ≠ b := by
  have := (List.nodup_append.1 h.nd).2.2 a ha b hb
  exact this
theorem MapsOK.step {L : List (List Int)} (h : MapsOK W xa L) (hm : ∀ k ∈ xa, W'.heap[k]? = W.heap[k]?) : MapsOK W' xa L := fun i b hb => (h i b hb).move (hm b (List.mem_of_getElem? hb))
theorem MapsOK.lt {L : List (List Int)} (h : MapsOK W xa L) : ∀ k ∈ xa, k < W.heap.size := fun k hk => by
  obtain ⟨i, hi, he⟩ := List.mem_iff_getElem.1 hk
  exact (h i k (by rw [List.getElem?_eq_getElem hi, he])).lt
theorem MapsOK.put {L : List (List Int)} (h : MapsOK W xa L) (hnd : xa.Nodup) (hlen : xa.length = L.length) {i a : Nat} (ha : xa[i]? = some a) {l : List Int} (hi : IM W' a (lv l) l.length) (hm : ∀ k ∈ xa, k ≠ a → W'.heap[k]? = W.heap[k]?) : MapsOK W' xa (L.set i l) := fun j b hb => by
  have hil := (List.getElem?_eq_some_iff.1 ha).1
  by_cases e : j = i
  · subst e
    have hab : a = b := by rw [ha] at hb; exact Option.some.inj hb
    subst hab
    have : (L.set j l).getD j [] = l := by rw [List.getD_eq_getElem?_getD, List.getElem?_set, if_pos rfl, if_pos (by omega)]; rfl
    rw [this]
    exact hi
  · have hne : b ≠ a := fun hab => by
      subst hab
      have hjl := (List.getElem?_eq_some_iff.1 hb).1
      have e1 := (List.getElem?_eq_some_iff.1 ha).2
      have e2 := (List.getElem?_eq_some_iff.1 hb).2
      exact e ((List.getElem_inj hnd).1 (e2.trans e1.symm))
    have : (L.set i l).getD j [] = L.getD j [] := by simp only [List.getD_eq_getElem?_getD]; rw [List.getElem?_set, if_neg (fun h => e h.symm)]
    rw [this]
    exact (h j b hb).move (hm b (List.mem_of_getElem? hb) hne)
end
end Go.Proofs.YtdopacgaklaaeaaDoor.PDeadRuns

namespace Go.Proofs.YtdopacgaklaaeaaDoor.PDeadRuns
open Go.RowKit Go.Proofs.YtdopacgaklaaeaaDoorW.PrintWords Go.Proofs.YtdopacgaklaaeaaDoorW.PrintLast Go.Proofs.YtdopacgaklaaeaaDoorW.PrintMore
set_option linter.unusedVariables false
set_option linter.unusedSimpArgs false
open Go.MapKept Go.RowKit
/-! 'a, b = append(a, M{}), append(b, M{})': a region that draws its order: two makings of maps, two appends; the stores follow. -/
def mpV (b : Nat) : Value := .map (some b)
structure GS (W0 W : World) (base B2 B3 : Nat) (oA oB : Value) (tb e : TypeId) (vA vB : Value) (xa xb : List Nat) (a m1 g1 b m2 g2 : Nat) : Prop where
  bl : Below base W0 W
  hb : base ≤ W.heap.size
  bA : W.heap[B2]? = some (.cells #[oA] tb (0, 0))
  bB : W.heap[B3]? = some (.cells #[oB] tb (0, 0))
  ra : W.ownsRow base e 1 vA xa.length (xa.map mpV)
  rb : W.ownsRow base e 1 vB xb.length (xb.map mpV)
  ap : NeRow vA vB
  maps : ∀ k ∈ xa ++ xb, base ≤ k ∧ IM W k (fun _ => none) 0
  nd : (xa ++ xb).Nodup
  pA1 : 1 ≤ a → base ≤ m1 ∧ IM W m1 (fun _ => none) 0 ∧ m1 ∉ xa ++ xb
  pA2 : 2 ≤ a → W.heap[g1]? = some (.cells #[mpV m1] e (0, 0)) ∧ some g1 ≠ vA.ownBlock ∧ some g1 ≠ vB.ownBlock
  pB1 : 1 ≤ b → base ≤ m2 ∧ IM W m2 (fun _ => none) 0 ∧ m2 ∉ xa ++ xb
  pB2 : 2 ≤ b → W.heap[g2]? = some (.cells #[mpV m2] e (0, 0)) ∧ some g2 ≠ vA.ownBlock ∧ some g2 ≠ vB.ownBlock
  pp : 1 ≤ a → 1 ≤ b → m1 ≠ m2
theorem own_map_ne {W : World} {base s n m k : Nat} {e : TypeId} {v : Value} {xs : List Value} {f : Int → Option Value} (h : W.ownsRow base e s v n xs) (hm : IM W m f k) : some m ≠ v.ownBlock := by
  intro he
  rcases h.2 with ⟨rfl, _⟩ | ⟨g, cap, cur, rfl, _, hg, _⟩
  · simp [Value.ownBlock] at he
  · simp [Value.ownBlock] at he
    subst he
    obtain ⟨es, c, h1, _⟩ := hm
    rw [hg] at h1
    cases h1
section
variable {W0 W w1 : World} {base B2 B3 : Nat} {oA oB : Value} {tb e : TypeId} {vA vB v1 : Value} {xa xb : List Nat} {a m1 g1 b m2 g2 : Nat}
theorem GS.swap (h : GS W0 W base B2 B3 oA oB tb e vA vB xa xb a m1 g1 b m2 g2) : GS W0 W base B3 B2 oB oA tb e vB vA xb xa b m2 g2 a m1 g1 :=
  ⟨h.bl, h.hb, h.bB, h.bA, h.rb, h.ra, ne_symm h.ap, fun k hk => h.maps k (by simp at hk ⊢; exact hk.symm), List.perm_append_comm.nodup_iff.1 h.nd,
   fun c => ⟨(h.pB1 c).1, (h.pB1 c).2.1, by have := (h.pB1 c).2.2; simp at this ⊢; exact ⟨this.2, this.1⟩⟩, fun c => ⟨(h.pB2 c).1, (h.pB2 c).2.2, (h.pB2 c).2.1⟩,
   fun c => ⟨(h.pA1 c).1, (h.pA1 c).2.1, by have := (h.pA1 c).2.2; simp at this ⊢; exact ⟨this.2, this.1⟩⟩, fun c => ⟨(h.pA2 c).1, (h.pA2 c).2.2, (h.pA2 c).2.1⟩,
   fun c d => (h.pp d c).symm⟩
theorem GS.step (h : GS W0 W base B2 B3 oA oB tb e vA vB xa xb a m1 g1 b m2 g2) (hb : Below W.heap.size W w1) : GS W0 w1 base B2 B3 oA oB tb e vA vB xa xb a m1 g1 b m2 g2 :=
  ⟨h.bl.trans (hb.mono h.hb), Nat.le_trans h.hb hb.size, blk_below h.bA hb, blk_below h.bB hb, pw_own_below h.ra hb, pw_own_below h.rb hb, h.ap, fun k hk => ⟨(h.maps k hk).1, (h.maps k hk).2.below hb (h.maps k hk).2.lt⟩, h.nd,
   fun c => ⟨(h.pA1 c).1, (h.pA1 c).2.1.below hb (h.pA1 c).2.1.lt, (h.pA1 c).2.2⟩, fun c => ⟨blk_below (h.pA2 c).1 hb, (h.pA2 c).2⟩,
   fun c => ⟨(h.pB1 c).1, (h.pB1 c).2.1.below hb (h.pB1 c).2.1.lt, (h.pB1 c).2.2⟩, fun c => ⟨blk_below (h.pB2 c).1 hb, (h.pB2 c).2⟩, h.pp⟩
theorem GS.mkA (h : GS W0 W base B2 B3 oA oB tb e vA vB xa xb 0 m1 g1 b m2 g2) : GS W0 (W.alloc (.map #[] 0)) base B2 B3 oA oB tb e vA vB xa xb 1 W.heap.size g1 b m2 g2 := by
  have k := h.step (w1 := W.alloc (.map #[] 0)) (below_alloc (Below.refl _ _) _)
  exact ⟨k.bl, k.hb, k.bA, k.bB, k.ra, k.rb, k.ap, k.maps, k.nd, fun _ => ⟨h.hb, IM.made W, fun hm => absurd (h.maps _ hm).2.lt (Nat.lt_irrefl _)⟩, fun c => absurd c (by omega), k.pB1, k.pB2,
    fun _ c => by have := (h.pB1 c).2.1.lt; omega⟩
theorem GS.bdA (h : GS W0 W base B2 B3 oA oB tb e vA vB xa xb 1 m1 g1 b m2 g2) : GS W0 (W.alloc (.cells #[mpV m1] e)) base B2 B3 oA oB tb e vA vB xa xb 2 m1 W.heap.size b m2 g2 := by
  have k := h.step (w1 := W.alloc (.cells #[mpV m1] e)) (below_alloc (Below.refl _ _) _)
  exact ⟨k.bl, k.hb, k.bA, k.bB, k.ra, k.rb, k.ap, k.maps, k.nd, fun _ => k.pA1 (by omega), fun _ => ⟨blk_new _ _, fun he => absurd (own_lt h.ra _ he.symm) (Nat.lt_irrefl _), fun he => absurd (own_lt h.rb _ he.symm) (Nat.lt_irrefl _)⟩, k.pB1, k.pB2, fun _ c => k.pp (by omega) c⟩
theorem GS.apA (h : GS W0 W base B2 B3 oA oB tb e vA vB xa xb 2 m1 g1 b m2 g2) (hte : e ≠ tb) (hg : W.grownBy w1 vA.ownBlock) (hr : w1.ownsRow base e 1 v1 (xa.length + 1) (xa.map mpV ++ [mpV m1])) (hat : v1.ownBlock = vA.ownBlock ∨ v1.ownBlock = some W.heap.size) : GS W0 w1 base B2 B3 oA oB tb e v1 vB (xa ++ [m1]) xb 0 m1 g1 b m2 g2 := by
  have p1 := h.pA1 (by omega)
  have mk : ∀ {m : Nat}, IM W m (fun _ => none) 0 → IM w1 m (fun _ => none) 0 := fun {m} hm => hm.move (hg.block m hm.lt (own_map_ne h.ra hm))
  have hmem : ∀ k, k ∈ (xa ++ [m1]) ++ xb ↔ k ∈ xa ++ xb ∨ k = m1 := fun k => by
    simp only [List.mem_append, List.mem_singleton]
    constructor
    · rintro ((c | c) | c) <;> simp [c]
    · rintro ((c | c) | c) <;> simp [c]
  refine ⟨h.bl.grown hg h.hb (own_base h.ra), Nat.le_trans h.hb hg.size, blk_grown h.bA hg (own_ne h.ra h.bA hte), blk_grown h.bB hg (own_ne h.ra h.bB hte), by simpa using hr,
    own_other h.rb hg ?_, ?_, fun k hk => ?_, ?_, fun c => absurd c (by omega), fun c => absurd c (by omega), fun c => ?_, fun c => ?_, fun c => absurd c (by omega)⟩
  · cases hv : vB.ownBlock with
    | none => exact .inl rfl
    | some k => exact .inr (fun he => h.ap k he.symm hv)
  · intro k hk
    rcases hat with hat | hat
    · exact h.ap k (hat ▸ hk)
    · rw [hat] at hk
      intro he
      have := own_lt h.rb k he
      have := Option.some.inj hk
      omega
  · rcases (hmem k).1 hk with hk | rfl
    · exact ⟨(h.maps k hk).1, mk (h.maps k hk).2⟩
    · exact ⟨p1.1, mk p1.2.1⟩
  · have hn := h.nd
    have hm := p1.2.2
    have : (xa ++ [m1] ++ xb).Perm (m1 :: (xa ++ xb)) := by
      rw [List.append_assoc]
      exact List.perm_middle
    rw [this.nodup_iff]
    exact List.nodup_cons.2 ⟨hm, hn⟩
  · have q1 := h.pB1 c
    refine ⟨q1.1, mk q1.2.1, fun hm => ?_⟩
    rcases (hmem _).1 hm with hm | hm
    · exact q1.2.2 hm
    · exact h.pp (by omega) c hm.symm
  · have q2 := h.pB2 c
    refine ⟨blk_grown q2.1 hg q2.2.1, ?_, q2.2.2⟩
    rcases hat with hat | hat
    · rw [hat]; exact q2.2.1
    · rw [hat]
      intro he
      have := blk_lt q2.1
      have := Option.some.inj he
      omega
end
theorem GS.store {W0 W : World} {base B2 B3 : Nat} {oA oB : Value} {tb e : TypeId} {vA vB : Value} {xa xb : List Nat} {m1 g1 m2 g2 : Nat} (h : GS W0 W base B2 B3 oA oB tb e vA vB xa xb 0 m1 g1 0 m2 g2) (hte : e ≠ tb) (h2 : base ≤ B2) (h3 : base ≤ B3) (h23 : B2 ≠ B3) :
    GS W0 ((W.setCell ⟨B2, 0, none⟩ vA).setCell ⟨B3, 0, none⟩ vB) base B2 B3 vA vB tb e vA vB xa xb 0 0 0 0 0 0 := by
  have im : ∀ {m : Nat}, IM W m (fun _ => none) 0 → IM ((W.setCell ⟨B2, 0, none⟩ vA).setCell ⟨B3, 0, none⟩ vB) m (fun _ => none) 0 := fun {m} hm => by
    have hne : ∀ {B : Nat} {o : Value}, W.heap[B]? = some (.cells #[o] tb (0, 0)) → m ≠ B := fun {B o} hB e => by
      subst e
      obtain ⟨es, c, h1, _⟩ := hm
      rw [hB] at h1
      cases h1
    exact hm.move ((Below.heap_setCell _ _ _ _ (hne h.bB)).trans (Below.heap_setCell _ _ _ _ (hne h.bA)))
  have b2 := blk_set h.bA 0 vA
  have b2' := blk_far b2 (p := ⟨B3, 0, none⟩) (fun e => h23 e) vB
  have b3 := blk_set (blk_far h.bB (p := ⟨B2, 0, none⟩) (fun e => h23 e.symm) vA) 0 vB
  exact ⟨(h.bl.setCell h2 _).setCell h3 _, by have := h.hb; simpa [World.setCell] using this, b2', b3, own_setCell (own_setCell h.ra (own_ne h.ra h.bA hte) _) (own_ne h.ra h.bB hte) _, own_setCell (own_setCell h.rb (own_ne h.rb h.bA hte) _) (own_ne h.rb h.bB hte) _, h.ap, fun k hk => ⟨(h.maps k hk).1, im (h.maps k hk).2⟩, h.nd,
    fun c => absurd c (by omega), fun c => absurd c (by omega), fun c => absurd c (by omega), fun c => absurd c (by omega), fun c => absurd c (by omega)⟩
section
variable {P : Program} {ops : Array Oper} {Q : Exit → Act → World → Prop} {S : World → Prop} {ds : List Nat}
/-- an append whose new elements lie anywhere, at a step of a region -/
theorem step_append_at {o : Oper} {a : Act} {K : Act → World → Prop} {W : World} (base : Nat) (hw : Region.wanted o (yielded ops a.tmps) = true) (s x : Operand) (t e : TypeId) (z : Value) (bytes : Nat)
    (ho : o.op = .call { callee := .builtin .append, args := #[s, x], argTypes := #[t, t] })
    (ht : P.underlying t = some (.slice e)) (hinfo : (P.info? e).map (fun i => (i.zero, i.size, i.bytes)) = some (some z, 1, bytes)) (hz : z.cells.size = 1) (hb0 : 0 < bytes)
    (v : Value) (n : Nat) (xs : List Value) (u : Value) (g : Nat) (hs : a.eval s = v) (hx : a.eval x = .slice (some ⟨g, 0, none⟩) 1 1) (hg : W.heap[g]? = some (.cells #[u] e (0, 0))) (h1 : u.oneCell' = true)
    (HO : W.ownsRow base e 1 v n xs) (hbase : base ≤ W.heap.size) (hl : (n + 1) * bytes ≤ 140737488355328)
    (h : ∀ v1 w1, w1.ownsRow base e 1 v1 (n + 1) (xs ++ [u]) → W.grownBy w1 v.ownBlock → (v1.ownBlock = v.ownBlock ∨ v1.ownBlock = some W.heap.size) → K (a.put o.dst v1) w1) :
    if Region.wanted o (yielded ops a.tmps) = true then Oper.wp P o a W K Q else K (a.put o.dst undef) W := by
  obtain ⟨i0, hi, hzz⟩ := Option.map_eq_some_iff.1 hinfo
  simp only [Prod.mk.injEq] at hzz
  obtain ⟨hz0, hz1, hz2⟩ := hzz
  have hlen : n + 1 ≤ 140737488355328 := Nat.le_trans (Nat.le_mul_of_pos_right _ hb0) hl
  rw [if_pos hw]
  obtain ⟨v1, w1, hr, hown, hgr, _, hat⟩ := run_append_own_at (P := P) W base t o.type e i0 z 1 bytes ht hi hz0 hz1 hz2 hz (by omega) v n xs HO ⟨g, 0, none⟩ 1 1 [u] (by simp)
    (by simpa using World.news_of_block (cs := #[u]) (t := e) (fr := (0, 0)) hg) (by simpa using h1) (by simp only [maxLen]; omega) hl hbase
  unfold Oper.wp execOp
  simp only [ho, resolve, invoke, builtin, Sem.run_bind, Sem.run_pure, Result.andThen_ok, List.map_toArray, List.map_cons, List.map_nil, hs, hx, hr]
  exact h v1 w1 hown hgr hat
end
-- GRID (wip/gen_twomaps.py)
section
variable {P : Program} {ops : Array Oper} {Q : Exit → Act → World → Prop} {S : World → Prop} {ds : List Nat}
def slV (g : Nat) : Value := .slice (some ⟨g, 0, none⟩) 1 1
set_option maxHeartbeats 1000000 in
theorem two_maps_grid {W0 : World} {base B2 B3 : Nat} {oA oB : Value} {tb t e : TypeId} {vA vB z : Value} {xa xb : List Nat} {bytes : Nat} {fr : Value → Value → Value → Value → Value → Value → Act} {oq1 oq2 oq3 oq5 oq6 oq7 : Oper} {d12 d13 d14 d16 d17 d18 : Option Tmp} {s11 s13 s15 s17 : Operand}
    (r32 : (Region.ready .any ops #[true, true, true, true, true, true, true, false, false, false] == [7]) = true)
    (r31 : (Region.ready .any ops #[true, true, true, true, true, true, false, false, false, false] == [6]) = true)
    (r30 : (Region.ready .any ops #[true, true, true, true, true, false, false, false, false, false] == [5]) = true)
    (r22 : (Region.ready .any ops #[true, true, true, false, true, true, true, false, false, false] == [3]) = true)
    (r21 : (Region.ready .any ops #[true, true, true, false, true, true, false, false, false, false] == [3, 6]) = true)
    (r20 : (Region.ready .any ops #[true, true, true, false, true, false, false, false, false, false] == [3, 5]) = true)
    (r12 : (Region.ready .any ops #[true, true, false, false, true, true, true, false, false, false] == [2]) = true)
    (r11 : (Region.ready .any ops #[true, true, false, false, true, true, false, false, false, false] == [2, 6]) = true)
    (r10 : (Region.ready .any ops #[true, true, false, false, true, false, false, false, false, false] == [2, 5]) = true)
    (r02 : (Region.ready .any ops #[true, false, false, false, true, true, true, false, false, false] == [1]) = true)
    (r01 : (Region.ready .any ops #[true, false, false, false, true, true, false, false, false, false] == [1, 6]) = true)
    (r00 : (Region.ready .any ops #[true, false, false, false, true, false, false, false, false, false] == [1, 5]) = true)
    (hds : ∀ i ∈ ds, 8 ≤ i) (hte : e ≠ tb) (hSof : ∀ W : World, W.heap[B2]? = some (.cells #[oA] tb (0, 0)) → W.heap[B3]? = some (.cells #[oB] tb (0, 0)) → S W)
    (i1 : ops[1]? = some oq1) (n1 : oq1.dst = d12) (k1 : oq1.guard = none)
    (i2 : ops[2]? = some oq2) (n2 : oq2.dst = d13) (k2 : oq2.guard = none)
    (i3 : ops[3]? = some oq3) (n3 : oq3.dst = d14) (k3 : oq3.guard = none)
    (i5 : ops[5]? = some oq5) (n5 : oq5.dst = d16) (k5 : oq5.guard = none)
    (i6 : ops[6]? = some oq6) (n6 : oq6.dst = d17) (k6 : oq6.guard = none)
    (i7 : ops[7]? = some oq7) (n7 : oq7.dst = d18) (k7 : oq7.guard = none)
    (p12 : ∀ a b c d e f v, (fr a b c d e f).put d12 v = fr v b c d e f)
    (p13 : ∀ a b c d e f v, (fr a b c d e f).put d13 v = fr a v c d e f)
    (p14 : ∀ a b c d e f v, (fr a b c d e f).put d14 v = fr a b v d e f)
    (p16 : ∀ a b c d e f v, (fr a b c d e f).put d16 v = fr a b c v e f)
    (p17 : ∀ a b c d e f v, (fr a b c d e f).put d17 v = fr a b c d v f)
    (p18 : ∀ a b c d e f v, (fr a b c d e f).put d18 v = fr a b c d e v)
    (e11 : ∀ a b c d e f, (fr a b c d e f).eval s11 = vA) (e13 : ∀ a b c d e f, (fr a b c d e f).eval s13 = b) (e15 : ∀ a b c d e f, (fr a b c d e f).eval s15 = vB) (e17 : ∀ a b c d e f, (fr a b c d e f).eval s17 = e)
    (h1 : ∀ a b c d e f W, (execOp (fr a b c d e f).eval oq1).run P W = .ok (.value (.map (some W.heap.size))) (W.alloc (.map #[] 0)))
    (h5 : ∀ a b c d e f W, (execOp (fr a b c d e f).eval oq5).run P W = .ok (.value (.map (some W.heap.size))) (W.alloc (.map #[] 0)))
    (h2 : ∀ b c d e_ f W m, (execOp (fr (mpV m) b c d e_ f).eval oq2).run P W = .ok (.value (slV W.heap.size)) (W.alloc (.cells #[mpV m] e)))
    (h6 : ∀ a b c e_ f W m, (execOp (fr a b c (mpV m) e_ f).eval oq6).run P W = .ok (.value (slV W.heap.size)) (W.alloc (.cells #[mpV m] e)))
    (h3 : oq3.op = .call { callee := .builtin .append, args := #[s11, s13], argTypes := #[t, t] }) (h7 : oq7.op = .call { callee := .builtin .append, args := #[s15, s17], argTypes := #[t, t] })
    (ht : P.underlying t = some (.slice e)) (hinfo : (P.info? e).map (fun i => (i.zero, i.size, i.bytes)) = some (some z, 1, bytes)) (hz : z.cells.size = 1) (hb0 : 0 < bytes) (hla : (xa.length + 1) * bytes ≤ 140737488355328) (hlb : (xb.length + 1) * bytes ≤ 140737488355328)
    (hcont : ∀ a b c d e_ f W m1 g1 m2 g2, GS W0 W base B2 B3 oA oB tb e c f (xa ++ [m1]) (xb ++ [m2]) 0 m1 g1 0 m2 g2 → wpAnyLast P .any ops Q S ds 2 #[true, true, true, true, true, true, true, true, false, false] (fr a b c d e_ f) W)
    {a b c d e_ f : Value} {W : World} {m1 g1 m2 g2 : Nat} (hG : GS W0 W base B2 B3 oA oB tb e vA vB xa xb 0 m1 g1 0 m2 g2) : wpAnyLast P .any ops Q S ds 8 #[true, false, false, false, true, false, false, false, false, false] (fr a b c d e_ f) W := by
  have w1 : Region.wanted oq1 = fun y => true := by funext y; simp [Region.wanted, k1]
  have w2 : Region.wanted oq2 = fun y => true := by funext y; simp [Region.wanted, k2]
  have w3 : Region.wanted oq3 = fun y => true := by funext y; simp [Region.wanted, k3]
  have w5 : Region.wanted oq5 = fun y => true := by funext y; simp [Region.wanted, k5]
  have w6 : Region.wanted oq6 = fun y => true := by funext y; simp [Region.wanted, k6]
  have w7 : Region.wanted oq7 = fun y => true := by funext y; simp [Region.wanted, k7]
  have c32 : ∀ (W : World) (x12 x13 x14 x16 x17 x18 : Value) (m1 g1 m2 g2 : Nat), GS W0 W base B2 B3 oA oB tb e x14 vB (xa ++ [m1]) xb 0 m1 g1 2 m2 g2 → x16 = mpV m2 → x17 = slV g2 → wpAnyLast P .any ops Q S ds 3 #[true, true, true, true, true, true, true, false, false, false] (fr x12 x13 x14 x16 x17 x18) W := by
    intro W x12 x13 x14 x16 x17 x18 m1 g1 m2 g2 hG hx16 hx17
    refine one_ (i := 7) #[true, true, true, true, true, true, true, true, false, false] i7 n7 (by unfold readyB; rw [r32]; rfl) (fun hm => absurd (hds _ hm) (by omega)) ?_
    · intro K hK
      rw [← n7]
      refine step_append_at base (by rw [w7]) s15 s17 t e z bytes h7 ht hinfo hz hb0 vB xb.length (xb.map mpV) (mpV m2) g2 (e15 _ _ _ _ _ _) (by rw [e17, hx17]; rfl) (hG.pB2 (by omega)).1 rfl hG.rb hG.hb hlb ?_
      intro v1 w1 hr hg hat
      have hG1 := (hG.swap.apA hte hg hr hat).swap
      rw [n7]
      exact hK _ _ (hSof _ hG1.bA hG1.bB) (fun _ => by rw [p18]; exact hcont _ _ _ _ _ _ _ m1 g1 m2 g2 hG1)
  have c31 : ∀ (W : World) (x12 x13 x14 x16 x17 x18 : Value) (m1 g1 m2 g2 : Nat), GS W0 W base B2 B3 oA oB tb e x14 vB (xa ++ [m1]) xb 0 m1 g1 1 m2 g2 → x16 = mpV m2 → wpAnyLast P .any ops Q S ds 4 #[true, true, true, true, true, true, false, false, false, false] (fr x12 x13 x14 x16 x17 x18) W := by
    intro W x12 x13 x14 x16 x17 x18 m1 g1 m2 g2 hG hx16
    refine one_ (i := 6) #[true, true, true, true, true, true, true, false, false, false] i6 n6 (by unfold readyB; rw [r31]; rfl) (fun hm => absurd (hds _ hm) (by omega)) ?_
    · intro K hK
      subst hx16
      refine value_ (w1 := W.alloc (.cells #[mpV m2] e)) (v := slV W.heap.size) (by rw [w6]) n6 (h6 _ _ _ _ _ _ _) ?_
      have hG1 := hG.swap.bdA.swap
      exact hK _ _ (hSof _ hG1.bA hG1.bB) (fun _ => by rw [p17]; exact c32 _ _ _ _ _ _ _ m1 g1 m2 W.heap.size hG1 rfl rfl)
  have c30 : ∀ (W : World) (x12 x13 x14 x16 x17 x18 : Value) (m1 g1 m2 g2 : Nat), GS W0 W base B2 B3 oA oB tb e x14 vB (xa ++ [m1]) xb 0 m1 g1 0 m2 g2 → wpAnyLast P .any ops Q S ds 5 #[true, true, true, true, true, false, false, false, false, false] (fr x12 x13 x14 x16 x17 x18) W := by
    intro W x12 x13 x14 x16 x17 x18 m1 g1 m2 g2 hG
    refine one_ (i := 5) #[true, true, true, true, true, true, false, false, false, false] i5 n5 (by unfold readyB; rw [r30]; rfl) (fun hm => absurd (hds _ hm) (by omega)) ?_
    · intro K hK
      refine value_ (w1 := W.alloc (.map #[] 0)) (v := mpV W.heap.size) (by rw [w5]) n5 (h5 _ _ _ _ _ _ _) ?_
      have hG1 := hG.swap.mkA.swap
      exact hK _ _ (hSof _ hG1.bA hG1.bB) (fun _ => by rw [p16]; exact c31 _ _ _ _ _ _ _ m1 g1 W.heap.size g2 hG1 rfl)
  have c22 : ∀ (W : World) (x12 x13 x14 x16 x17 x18 : Value) (m1 g1 m2 g2 : Nat), GS W0 W base B2 B3 oA oB tb e vA vB xa xb 2 m1 g1 2 m2 g2 → x12 = mpV m1 → x13 = slV g1 → x16 = mpV m2 → x17 = slV g2 → wpAnyLast P .any ops Q S ds 4 #[true, true, true, false, true, true, true, false, false, false] (fr x12 x13 x14 x16 x17 x18) W := by
    intro W x12 x13 x14 x16 x17 x18 m1 g1 m2 g2 hG hx12 hx13 hx16 hx17
    refine one_ (i := 3) #[true, true, true, true, true, true, true, false, false, false] i3 n3 (by unfold readyB; rw [r22]; rfl) (fun hm => absurd (hds _ hm) (by omega)) ?_
    · intro K hK
      rw [← n3]
      refine step_append_at base (by rw [w3]) s11 s13 t e z bytes h3 ht hinfo hz hb0 vA xa.length (xa.map mpV) (mpV m1) g1 (e11 _ _ _ _ _ _) (by rw [e13, hx13]; rfl) (hG.pA2 (by omega)).1 rfl hG.ra hG.hb hla ?_
      intro v1 w1 hr hg hat
      have hG1 := hG.apA hte hg hr hat
      rw [n3]
      exact hK _ _ (hSof _ hG1.bA hG1.bB) (fun _ => by rw [p14]; exact c32 _ _ _ _ _ _ _ m1 g1 m2 g2 hG1 hx16 hx17)
  have c21 : ∀ (W : World) (x12 x13 x14 x16 x17 x18 : Value) (m1 g1 m2 g2 : Nat), GS W0 W base B2 B3 oA oB tb e vA vB xa xb 2 m1 g1 1 m2 g2 → x12 = mpV m1 → x13 = slV g1 → x16 = mpV m2 → wpAnyLast P .any ops Q S ds 5 #[true, true, true, false, true, true, false, false, false, false] (fr x12 x13 x14 x16 x17 x18) W := by
    intro W x12 x13 x14 x16 x17 x18 m1 g1 m2 g2 hG hx12 hx13 hx16
    refine two_ (i := 3) (j := 6) #[true, true, true, true, true, true, false, false, false, false] #[true, true, true, false, true, true, true, false, false, false] i3 i6 n3 n6 (by rw [r21]; rfl) (fun hm => absurd (hds _ hm) (by omega)) (fun hm => absurd (hds _ hm) (by omega)) ?_ ?_
    · intro K hK
      rw [← n3]
      refine step_append_at base (by rw [w3]) s11 s13 t e z bytes h3 ht hinfo hz hb0 vA xa.length (xa.map mpV) (mpV m1) g1 (e11 _ _ _ _ _ _) (by rw [e13, hx13]; rfl) (hG.pA2 (by omega)).1 rfl hG.ra hG.hb hla ?_
      intro v1 w1 hr hg hat
      have hG1 := hG.apA hte hg hr hat
      rw [n3]
      exact hK _ _ (hSof _ hG1.bA hG1.bB) (fun _ => by rw [p14]; exact c31 _ _ _ _ _ _ _ m1 g1 m2 g2 hG1 hx16)
    · intro K hK
      subst hx16
      refine value_ (w1 := W.alloc (.cells #[mpV m2] e)) (v := slV W.heap.size) (by rw [w6]) n6 (h6 _ _ _ _ _ _ _) ?_
      have hG1 := hG.swap.bdA.swap
      exact hK _ _ (hSof _ hG1.bA hG1.bB) (fun _ => by rw [p17]; exact c22 _ _ _ _ _ _ _ m1 g1 m2 W.heap.size hG1 hx12 hx13 rfl rfl)
  have c20 : ∀ (W : World) (x12 x13 x14 x16 x17 x18 : Value) (m1 g1 m2 g2 : Nat), GS W0 W base B2 B3 oA oB tb e vA vB xa xb 2 m1 g1 0 m2 g2 → x12 = mpV m1 → x13 = slV g1 → wpAnyLast P .any ops Q S ds 6 #[true, true, true, false, true, false, false, false, false, false] (fr x12 x13 x14 x16 x17 x18) W := by
    intro W x12 x13 x14 x16 x17 x18 m1 g1 m2 g2 hG hx12 hx13
    refine two_ (i := 3) (j := 5) #[true, true, true, true, true, false, false, false, false, false] #[true, true, true, false, true, true, false, false, false, false] i3 i5 n3 n5 (by rw [r20]; rfl) (fun hm => absurd (hds _ hm) (by omega)) (fun hm => absurd (hds _ hm) (by omega)) ?_ ?_
    · intro K hK
      rw [← n3]
      refine step_append_at base (by rw [w3]) s11 s13 t e z bytes h3 ht hinfo hz hb0 vA xa.length (xa.map mpV) (mpV m1) g1 (e11 _ _ _ _ _ _) (by rw [e13, hx13]; rfl) (hG.pA2 (by omega)).1 rfl hG.ra hG.hb hla ?_
      intro v1 w1 hr hg hat
      have hG1 := hG.apA hte hg hr hat
      rw [n3]
      exact hK _ _ (hSof _ hG1.bA hG1.bB) (fun _ => by rw [p14]; exact c30 _ _ _ _ _ _ _ m1 g1 m2 g2 hG1)
    · intro K hK
      refine value_ (w1 := W.alloc (.map #[] 0)) (v := mpV W.heap.size) (by rw [w5]) n5 (h5 _ _ _ _ _ _ _) ?_
      have hG1 := hG.swap.mkA.swap
      exact hK _ _ (hSof _ hG1.bA hG1.bB) (fun _ => by rw [p16]; exact c21 _ _ _ _ _ _ _ m1 g1 W.heap.size g2 hG1 hx12 hx13 rfl)
  have c12 : ∀ (W : World) (x12 x13 x14 x16 x17 x18 : Value) (m1 g1 m2 g2 : Nat), GS W0 W base B2 B3 oA oB tb e vA vB xa xb 1 m1 g1 2 m2 g2 → x12 = mpV m1 → x16 = mpV m2 → x17 = slV g2 → wpAnyLast P .any ops Q S ds 5 #[true, true, false, false, true, true, true, false, false, false] (fr x12 x13 x14 x16 x17 x18) W := by
    intro W x12 x13 x14 x16 x17 x18 m1 g1 m2 g2 hG hx12 hx16 hx17
    refine one_ (i := 2) #[true, true, true, false, true, true, true, false, false, false] i2 n2 (by unfold readyB; rw [r12]; rfl) (fun hm => absurd (hds _ hm) (by omega)) ?_
    · intro K hK
      subst hx12
      refine value_ (w1 := W.alloc (.cells #[mpV m1] e)) (v := slV W.heap.size) (by rw [w2]) n2 (h2 _ _ _ _ _ _ _) ?_
      have hG1 := hG.bdA
      exact hK _ _ (hSof _ hG1.bA hG1.bB) (fun _ => by rw [p13]; exact c22 _ _ _ _ _ _ _ m1 W.heap.size m2 g2 hG1 rfl rfl hx16 hx17)
  have c11 : ∀ (W : World) (x12 x13 x14 x16 x17 x18 : Value) (m1 g1 m2 g2 : Nat), GS W0 W base B2 B3 oA oB tb e vA vB xa xb 1 m1 g1 1 m2 g2 → x12 = mpV m1 → x16 = mpV m2 → wpAnyLast P .any ops Q S ds 6 #[true, true, false, false, true, true, false, false, false, false] (fr x12 x13 x14 x16 x17 x18) W := by
    intro W x12 x13 x14 x16 x17 x18 m1 g1 m2 g2 hG hx12 hx16
    refine two_ (i := 2) (j := 6) #[true, true, true, false, true, true, false, false, false, false] #[true, true, false, false, true, true, true, false, false, false] i2 i6 n2 n6 (by rw [r11]; rfl) (fun hm => absurd (hds _ hm) (by omega)) (fun hm => absurd (hds _ hm) (by omega)) ?_ ?_
    · intro K hK
      subst hx12
      refine value_ (w1 := W.alloc (.cells #[mpV m1] e)) (v := slV W.heap.size) (by rw [w2]) n2 (h2 _ _ _ _ _ _ _) ?_
      have hG1 := hG.bdA
      exact hK _ _ (hSof _ hG1.bA hG1.bB) (fun _ => by rw [p13]; exact c21 _ _ _ _ _ _ _ m1 W.heap.size m2 g2 hG1 rfl rfl hx16)
    · intro K hK
      subst hx16
      refine value_ (w1 := W.alloc (.cells #[mpV m2] e)) (v := slV W.heap.size) (by rw [w6]) n6 (h6 _ _ _ _ _ _ _) ?_
      have hG1 := hG.swap.bdA.swap
      exact hK _ _ (hSof _ hG1.bA hG1.bB) (fun _ => by rw [p17]; exact c12 _ _ _ _ _ _ _ m1 g1 m2 W.heap.size hG1 hx12 rfl rfl)
  have c10 : ∀ (W : World) (x12 x13 x14 x16 x17 x18 : Value) (m1 g1 m2 g2 : Nat), GS W0 W base B2 B3 oA oB tb e vA vB xa xb 1 m1 g1 0 m2 g2 → x12 = mpV m1 → wpAnyLast P .any ops Q S ds 7 #[true, true, false, false, true, false, false, false, false, false] (fr x12 x13 x14 x16 x17 x18) W := by
    intro W x12 x13 x14 x16 x17 x18 m1 g1 m2 g2 hG hx12
    refine two_ (i := 2) (j := 5) #[true, true, true, false, true, false, false, false, false, false] #[true, true, false, false, true, true, false, false, false, false] i2 i5 n2 n5 (by rw [r10]; rfl) (fun hm => absurd (hds _ hm) (by omega)) (fun hm => absurd (hds _ hm) (by omega)) ?_ ?_
    · intro K hK
      subst hx12
      refine value_ (w1 := W.alloc (.cells #[mpV m1] e)) (v := slV W.heap.size) (by rw [w2]) n2 (h2 _ _ _ _ _ _ _) ?_
      have hG1 := hG.bdA
      exact hK _ _ (hSof _ hG1.bA hG1.bB) (fun _ => by rw [p13]; exact c20 _ _ _ _ _ _ _ m1 W.heap.size m2 g2 hG1 rfl rfl)
    · intro K hK
      refine value_ (w1 := W.alloc (.map #[] 0)) (v := mpV W.heap.size) (by rw [w5]) n5 (h5 _ _ _ _ _ _ _) ?_
      have hG1 := hG.swap.mkA.swap
      exact hK _ _ (hSof _ hG1.bA hG1.bB) (fun _ => by rw [p16]; exact c11 _ _ _ _ _ _ _ m1 g1 W.heap.size g2 hG1 hx12 rfl)
  have c02 : ∀ (W : World) (x12 x13 x14 x16 x17 x18 : Value) (m1 g1 m2 g2 : Nat), GS W0 W base B2 B3 oA oB tb e vA vB xa xb 0 m1 g1 2 m2 g2 → x16 = mpV m2 → x17 = slV g2 → wpAnyLast P .any ops Q S ds 6 #[true, false, false, false, true, true, true, false, false, false] (fr x12 x13 x14 x16 x17 x18) W := by
    intro W x12 x13 x14 x16 x17 x18 m1 g1 m2 g2 hG hx16 hx17
    refine one_ (i := 1) #[true, true, false, false, true, true, true, false, false, false] i1 n1 (by unfold readyB; rw [r02]; rfl) (fun hm => absurd (hds _ hm) (by omega)) ?_
    · intro K hK
      refine value_ (w1 := W.alloc (.map #[] 0)) (v := mpV W.heap.size) (by rw [w1]) n1 (h1 _ _ _ _ _ _ _) ?_
      have hG1 := hG.mkA
      exact hK _ _ (hSof _ hG1.bA hG1.bB) (fun _ => by rw [p12]; exact c12 _ _ _ _ _ _ _ W.heap.size g1 m2 g2 hG1 rfl hx16 hx17)
  have c01 : ∀ (W : World) (x12 x13 x14 x16 x17 x18 : Value) (m1 g1 m2 g2 : Nat), GS W0 W base B2 B3 oA oB tb e vA vB xa xb 0 m1 g1 1 m2 g2 → x16 = mpV m2 → wpAnyLast P .any ops Q S ds 7 #[true, false, false, false, true, true, false, false, false, false] (fr x12 x13 x14 x16 x17 x18) W := by
    intro W x12 x13 x14 x16 x17 x18 m1 g1 m2 g2 hG hx16
    refine two_ (i := 1) (j := 6) #[true, true, false, false, true, true, false, false, false, false] #[true, false, false, false, true, true, true, false, false, false] i1 i6 n1 n6 (by rw [r01]; rfl) (fun hm => absurd (hds _ hm) (by omega)) (fun hm => absurd (hds _ hm) (by omega)) ?_ ?_
    · intro K hK
      refine value_ (w1 := W.alloc (.map #[] 0)) (v := mpV W.heap.size) (by rw [w1]) n1 (h1 _ _ _ _ _ _ _) ?_
      have hG1 := hG.mkA
      exact hK _ _ (hSof _ hG1.bA hG1.bB) (fun _ => by rw [p12]; exact c11 _ _ _ _ _ _ _ W.heap.size g1 m2 g2 hG1 rfl hx16)
    · intro K hK
      subst hx16
      refine value_ (w1 := W.alloc (.cells #[mpV m2] e)) (v := slV W.heap.size) (by rw [w6]) n6 (h6 _ _ _ _ _ _ _) ?_
      have hG1 := hG.swap.bdA.swap
      exact hK _ _ (hSof _ hG1.bA hG1.bB) (fun _ => by rw [p17]; exact c02 _ _ _ _ _ _ _ m1 g1 m2 W.heap.size hG1 rfl rfl)
  have c00 : ∀ (W : World) (x12 x13 x14 x16 x17 x18 : Value) (m1 g1 m2 g2 : Nat), GS W0 W base B2 B3 oA oB tb e vA vB xa xb 0 m1 g1 0 m2 g2 → wpAnyLast P .any ops Q S ds 8 #[true, false, false, false, true, false, false, false, false, false] (fr x12 x13 x14 x16 x17 x18) W := by
    intro W x12 x13 x14 x16 x17 x18 m1 g1 m2 g2 hG
    refine two_ (i := 1) (j := 5) #[true, true, false, false, true, false, false, false, false, false] #[true, false, false, false, true, true, false, false, false, false] i1 i5 n1 n5 (by rw [r00]; rfl) (fun hm => absurd (hds _ hm) (by omega)) (fun hm => absurd (hds _ hm) (by omega)) ?_ ?_
    · intro K hK
      refine value_ (w1 := W.alloc (.map #[] 0)) (v := mpV W.heap.size) (by rw [w1]) n1 (h1 _ _ _ _ _ _ _) ?_
      have hG1 := hG.mkA
      exact hK _ _ (hSof _ hG1.bA hG1.bB) (fun _ => by rw [p12]; exact c10 _ _ _ _ _ _ _ W.heap.size g1 m2 g2 hG1 rfl)
    · intro K hK
      refine value_ (w1 := W.alloc (.map #[] 0)) (v := mpV W.heap.size) (by rw [w5]) n5 (h5 _ _ _ _ _ _ _) ?_
      have hG1 := hG.swap.mkA.swap
      exact hK _ _ (hSof _ hG1.bA hG1.bB) (fun _ => by rw [p16]; exact c01 _ _ _ _ _ _ _ m1 g1 W.heap.size g2 hG1 rfl)
  exact c00 _ _ _ _ _ _ _ _ _ _ _ hG
theorem put_same (A : Act) (n : Nat) (u v : Value) : (A.put (some n) u).put (some n) v = A.put (some n) v := by simp [Act.put]
theorem put_swap (A : Act) {n m : Nat} (h : n ≠ m) (u v : Value) : (A.put (some n) u).put (some m) v = (A.put (some m) v).put (some n) u := by simp only [Act.put]; rw [Array.setIfInBounds_comm _ _ h]
theorem put_eval_ne (A : Act) {n m : Nat} (h : n ≠ m) (u : Value) : (A.put (some n) u).eval (.tmp m) = A.eval (.tmp m) := by simp [Act.put, Act.eval, Array.getD_eq_getD_getElem?, Array.getElem?_setIfInBounds, h]
theorem put_eval_same (A : Act) {n : Nat} (h : n < A.tmps.size) (u : Value) : (A.put (some n) u).eval (.tmp n) = u := by simp [Act.put, Act.eval, Array.getD_eq_getD_getElem?, Array.getElem?_setIfInBounds, h]
theorem put_size (A : Act) (n : Nat) (u : Value) : (A.put (some n) u).tmps.size = A.tmps.size := by simp [Act.put]
theorem put_self (A : Act) (n : Nat) : A.put (some n) (A.eval (.tmp n)) = A := by
  unfold Act.put Act.eval
  simp only
  congr 1
  refine Array.ext (by simp) (fun i h1 h2 => ?_)
  rw [Array.getElem_setIfInBounds]
  split
  · rename_i hi; subst hi; simp [Array.getD_eq_getD_getElem?, h2]
  · rfl
def six (A : Act) (a b c d e f : Value) : Act := (((((A.put (some 12) a).put (some 13) b).put (some 14) c).put (some 16) d).put (some 17) e).put (some 18) f
theorem six12 (A : Act) (a b c d e f v : Value) : (six A a b c d e f).put (some 12) v = six A v b c d e f := by unfold six; rw [put_swap _ (show 18 ≠ 12 by decide), put_swap _ (show 17 ≠ 12 by decide), put_swap _ (show 16 ≠ 12 by decide), put_swap _ (show 14 ≠ 12 by decide), put_swap _ (show 13 ≠ 12 by decide), put_same]
theorem six13 (A : Act) (a b c d e f v : Value) : (six A a b c d e f).put (some 13) v = six A a v c d e f := by unfold six; rw [put_swap _ (show 18 ≠ 13 by decide), put_swap _ (show 17 ≠ 13 by decide), put_swap _ (show 16 ≠ 13 by decide), put_swap _ (show 14 ≠ 13 by decide), put_same]
theorem six14 (A : Act) (a b c d e f v : Value) : (six A a b c d e f).put (some 14) v = six A a b v d e f := by unfold six; rw [put_swap _ (show 18 ≠ 14 by decide), put_swap _ (show 17 ≠ 14 by decide), put_swap _ (show 16 ≠ 14 by decide), put_same]
theorem six16 (A : Act) (a b c d e f v : Value) : (six A a b c d e f).put (some 16) v = six A a b c v e f := by unfold six; rw [put_swap _ (show 18 ≠ 16 by decide), put_swap _ (show 17 ≠ 16 by decide), put_same]
theorem six17 (A : Act) (a b c d e f v : Value) : (six A a b c d e f).put (some 17) v = six A a b c d v f := by unfold six; rw [put_swap _ (show 18 ≠ 17 by decide), put_same]
theorem six18 (A : Act) (a b c d e f v : Value) : (six A a b c d e f).put (some 18) v = six A a b c d e v := by unfold six; rw [put_same]
theorem six_eval (A : Act) (a b c d e f : Value) {n : Nat} (h : n < 12 ∨ n = 15) : (six A a b c d e f).eval (.tmp n) = A.eval (.tmp n) := by unfold six; rw [put_eval_ne _ (by omega), put_eval_ne _ (by omega), put_eval_ne _ (by omega), put_eval_ne _ (by omega), put_eval_ne _ (by omega), put_eval_ne _ (by omega)]
theorem six_ev12 (A : Act) (h : 18 < A.tmps.size) (a b c d e f : Value) : (six A a b c d e f).eval (.tmp 12) = a := by unfold six; rw [put_eval_ne _ (show 18 ≠ 12 by decide), put_eval_ne _ (show 17 ≠ 12 by decide), put_eval_ne _ (show 16 ≠ 12 by decide), put_eval_ne _ (show 14 ≠ 12 by decide), put_eval_ne _ (show 13 ≠ 12 by decide), put_eval_same _ (by (try simp only [put_size]); omega)]
theorem six_ev13 (A : Act) (h : 18 < A.tmps.size) (a b c d e f : Value) : (six A a b c d e f).eval (.tmp 13) = b := by unfold six; rw [put_eval_ne _ (show 18 ≠ 13 by decide), put_eval_ne _ (show 17 ≠ 13 by decide), put_eval_ne _ (show 16 ≠ 13 by decide), put_eval_ne _ (show 14 ≠ 13 by decide), put_eval_same _ (by (try simp only [put_size]); omega)]
theorem six_ev16 (A : Act) (h : 18 < A.tmps.size) (a b c d e f : Value) : (six A a b c d e f).eval (.tmp 16) = d := by unfold six; rw [put_eval_ne _ (show 18 ≠ 16 by decide), put_eval_ne _ (show 17 ≠ 16 by decide), put_eval_same _ (by (try simp only [put_size]); omega)]
theorem six_ev17 (A : Act) (h : 18 < A.tmps.size) (a b c d e f : Value) : (six A a b c d e f).eval (.tmp 17) = e := by unfold six; rw [put_eval_ne _ (show 18 ≠ 17 by decide), put_eval_same _ (by (try simp only [put_size]); omega)]
theorem six_self (A : Act) : ∃ a b c d e f, six A a b c d e f = A := ⟨A.eval (.tmp 12), A.eval (.tmp 13), A.eval (.tmp 14), A.eval (.tmp 16), A.eval (.tmp 17), A.eval (.tmp 18), by unfold six; simp only [put_self]⟩
theorem two_maps_at {W0 : World} {base B2 B3 : Nat} {oA oB : Value} {tb t e : TypeId} {vA vB z : Value} {xa xb : List Nat} {bytes : Nat} {A : Act} {oq1 oq2 oq3 oq5 oq6 oq7 : Oper}
    (r32 : (Region.ready .any ops #[true, true, true, true, true, true, true, false, false, false] == [7]) = true)
    (r31 : (Region.ready .any ops #[true, true, true, true, true, true, false, false, false, false] == [6]) = true)
    (r30 : (Region.ready .any ops #[true, true, true, true, true, false, false, false, false, false] == [5]) = true)
    (r22 : (Region.ready .any ops #[true, true, true, false, true, true, true, false, false, false] == [3]) = true)
    (r21 : (Region.ready .any ops #[true, true, true, false, true, true, false, false, false, false] == [3, 6]) = true)
    (r20 : (Region.ready .any ops #[true, true, true, false, true, false, false, false, false, false] == [3, 5]) = true)
    (r12 : (Region.ready .any ops #[true, true, false, false, true, true, true, false, false, false] == [2]) = true)
    (r11 : (Region.ready .any ops #[true, true, false, false, true, true, false, false, false, false] == [2, 6]) = true)
    (r10 : (Region.ready .any ops #[true, true, false, false, true, false, false, false, false, false] == [2, 5]) = true)
    (r02 : (Region.ready .any ops #[true, false, false, false, true, true, true, false, false, false] == [1]) = true)
    (r01 : (Region.ready .any ops #[true, false, false, false, true, true, false, false, false, false] == [1, 6]) = true)
    (r00 : (Region.ready .any ops #[true, false, false, false, true, false, false, false, false, false] == [1, 5]) = true)
    (hds : ∀ i ∈ ds, 8 ≤ i) (hte : e ≠ tb) (hSof : ∀ W : World, W.heap[B2]? = some (.cells #[oA] tb (0, 0)) → W.heap[B3]? = some (.cells #[oB] tb (0, 0)) → S W)
    (i1 : ops[1]? = some oq1) (n1 : oq1.dst = some 12) (k1 : oq1.guard = none)
    (i2 : ops[2]? = some oq2) (n2 : oq2.dst = some 13) (k2 : oq2.guard = none)
    (i3 : ops[3]? = some oq3) (n3 : oq3.dst = some 14) (k3 : oq3.guard = none)
    (i5 : ops[5]? = some oq5) (n5 : oq5.dst = some 16) (k5 : oq5.guard = none)
    (i6 : ops[6]? = some oq6) (n6 : oq6.dst = some 17) (k6 : oq6.guard = none)
    (i7 : ops[7]? = some oq7) (n7 : oq7.dst = some 18) (k7 : oq7.guard = none)
    (hsz : 18 < A.tmps.size) (e11 : A.eval (.tmp 11) = vA) (e15 : A.eval (.tmp 15) = vB)
    (h1 : oq1.op = .makeMap e none) (h2 : oq2.op = .buildSlice t 1 #[(0, .tmp 12)]) (h5 : oq5.op = .makeMap e none) (h6 : oq6.op = .buildSlice t 1 #[(0, .tmp 16)])
    (hbs : ∀ (W : World) (m : Nat), (Instr.buildSlice t 1 #[(0, mpV m)]).run P W = .ok (slV W.heap.size) (W.alloc (.cells #[mpV m] e)))
    (h3 : oq3.op = .call { callee := .builtin .append, args := #[.tmp 11, .tmp 13], argTypes := #[t, t] }) (h7 : oq7.op = .call { callee := .builtin .append, args := #[.tmp 15, .tmp 17], argTypes := #[t, t] })
    (ht : P.underlying t = some (.slice e)) (hinfo : (P.info? e).map (fun i => (i.zero, i.size, i.bytes)) = some (some z, 1, bytes)) (hz : z.cells.size = 1) (hb0 : 0 < bytes) (hla : (xa.length + 1) * bytes ≤ 140737488355328) (hlb : (xb.length + 1) * bytes ≤ 140737488355328)
    (hcont : ∀ a b c d e_ f W m1 g1 m2 g2, GS W0 W base B2 B3 oA oB tb e c f (xa ++ [m1]) (xb ++ [m2]) 0 m1 g1 0 m2 g2 → wpAnyLast P .any ops Q S ds 2 #[true, true, true, true, true, true, true, true, false, false] (six A a b c d e_ f) W)
    {W : World} {m1 g1 m2 g2 : Nat} (hG : GS W0 W base B2 B3 oA oB tb e vA vB xa xb 0 m1 g1 0 m2 g2) : wpAnyLast P .any ops Q S ds 8 #[true, false, false, false, true, false, false, false, false, false] A W := by
  obtain ⟨a, b, c, d, e1, f, hA⟩ := six_self A
  suffices this : wpAnyLast P .any ops Q S ds 8 #[true, false, false, false, true, false, false, false, false, false] (six A a b c d e1 f) W by rwa [hA] at this
  refine two_maps_grid (fr := six A) r32 r31 r30 r22 r21 r20 r12 r11 r10 r02 r01 r00 hds hte hSof i1 n1 k1 i2 n2 k2 i3 n3 k3 i5 n5 k5 i6 n6 k6 i7 n7 k7 (six12 A) (six13 A) (six14 A) (six16 A) (six17 A) (six18 A) (fun a b c d e f => (six_eval A a b c d e f (by omega)).trans e11) (six_ev13 A hsz) (fun a b c d e f => (six_eval A a b c d e f (by omega)).trans e15) (six_ev17 A hsz) ?_ ?_ ?_ ?_ h3 h7 ht hinfo hz hb0 hla hlb hcont hG
  · intro a b c d e f W; unfold execOp; simp only [h1]; rfl
  · intro a b c d e f W; unfold execOp; simp only [h5]; rfl
  · intro b c d e_ f W m; unfold execOp; simp only [h2, List.map_toArray, List.map_cons, List.map_nil, six_ev12 A hsz]; rw [Sem.run_bind, hbs]; rfl
  · intro a b c e_ f W m; unfold execOp; simp only [h6, List.map_toArray, List.map_cons, List.map_nil, six_ev16 A hsz]; rw [Sem.run_bind, hbs]; rfl
end
end Go.Proofs.YtdopacgaklaaeaaDoor.PDeadRuns
