import Derived.Test.YtdopacgaklaaeaaDoorPDeadRunsx0
import Derived.Test.YtdopacgaklaaeaaDoorPDeadRunshforms
import Derived.Test.YtdopacgaklaaeaaDoorPDeadRunshlfl
import Derived.Test.YtdopacgaklaaeaaDoorPDeadRunshlgrow
import Derived.Test.YtdopacgaklaaeaaDoorPDeadRunshmaps
import Derived.Test.YtdopacgaklaaeaaDoorPDeadRunshplain0
import Derived.OneCell
import Derived.Laws.EntriesVeiled
import Derived.Test.YtdopacgaklaaeaaDoorPDeadRunshg6
namespace Go.Proofs.YtdopacgaklaaeaaDoor.PDeadRuns
open Go.RowKit Go.Proofs.YtdopacgaklaaeaaDoorW.PrintWords Go.Proofs.YtdopacgaklaaeaaDoorW.PrintLast Go.Proofs.YtdopacgaklaaeaaDoorW.PrintMore
set_option linter.unusedVariables false
set_option linter.unusedSimpArgs false
open Go.MapKept Go.RowKit
/-! live.flow: what is needed ahead of each place, and behind it. -/
def live_pass.f (c : List S28) : Nat → List (List Int) → List (List Int) → Bool → Option (List (List Int) × List (List Int) × Bool)
  | 0, A, B, g => some (A, B, g)
  | i + 1, A, B, g => (live_grow.f c A B (i : Int)).bind fun r => live_pass.f c i (A.set i r.1) (B.set i r.2.1) (g || r.2.2)
def live_flow.l (c : List S28) : Nat → List (List Int) → List (List Int) → Option (List (List Int) × List (List Int))
  | 0, _, _ => none
  | k + 1, A, B => (live_pass.f c c.length A B false).bind fun r => if r.2.2 = true then live_flow.l c k r.1 r.2.1 else some (r.1, r.2.1)
def live_flow.f (k : Nat) (c : List S28) : Option (List (List Int) × List (List Int)) :=
  if c.length ≤ 1000000 then live_flow.l c k (List.replicate c.length []) (List.replicate c.length []) else none
theorem live_flow.mono_l (c : List S28) : ∀ k A B, LeO (live_flow.l c k A B) (live_flow.l c (k + 1) A B)
  | 0, A, B => fun r h => by unfold live_flow.l at h; exact absurd h (by simp)
  | k + 1, A, B => fun r h => by
    unfold live_flow.l at h ⊢
    obtain ⟨x, h1, h2⟩ := Option.bind_eq_some_iff.1 h
    refine Option.bind_eq_some_iff.2 ⟨x, h1, ?_⟩
    by_cases hx : x.2.2 = true
    · rw [if_pos hx] at h2 ⊢; exact live_flow.mono_l c k _ _ _ h2
    · rw [if_neg hx] at h2 ⊢; exact h2
theorem live_flow.mono (a0 : List S28) (k : Nat) : LeO (live_flow.f k a0) (live_flow.f (k + 1) a0) := fun r h => by
  unfold live_flow.f at h ⊢
  by_cases hc : a0.length ≤ 1000000
  · rw [if_pos hc] at h ⊢; exact live_flow.mono_l _ _ _ _ _ h
  · rw [if_neg hc] at h; exact absurd h (by simp)
/-- two rows of sets that a call made -/
structure FlowOK (W0 W : World) (va vb : Value) (xa xb : List Nat) (A B : List (List Int)) : Prop where
  ra : W.ownsRow W0.heap.size 102 1 va xa.length (xa.map mpV)
  rb : W.ownsRow W0.heap.size 102 1 vb xb.length (xb.map mpV)
  la : xa.length = A.length
  lb : xb.length = B.length
  ma : MapsOK W xa A
  mb : MapsOK W xb B
  ua : ∀ l ∈ A, l.Pairwise (· < ·)
  ub : ∀ l ∈ B, l.Pairwise (· < ·)
  old : ∀ k, k ∈ xa ∨ k ∈ xb → W0.heap.size ≤ k
  nd : (xa ++ xb).Nodup
/-- .. and stand in the call's variables -/
structure FEnv (W0 W : World) (B1 B2 B3 : Nat) (oC vA vB : Value) (xa xb : List Nat) (A B : List (List Int)) : Prop where
  bl : Below W0.heap.size W0 W
  bC : W.heap[B1]? = some (.cells #[oC] 32 (0, 0))
  bA : W.heap[B2]? = some (.cells #[vA] 78 (0, 0))
  bB : W.heap[B3]? = some (.cells #[vB] 78 (0, 0))
  ok : FlowOK W0 W vA vB xa xb A B
section
variable {W0 W w1 W' : World} {B1 B2 B3 n : Nat} {oC vA vB : Value} {xa xb : List Nat} {A B : List (List Int)}
theorem FlowOK.cells (h : FlowOK W0 W vA vB xa xb A B) {k B : Nat} {o : Obj} (hk : k ∈ xa ∨ k ∈ xb) (hB : W.heap[B]? = some o) (ho : ∀ es c, o ≠ .map es c) : k ≠ B := fun e => by
  subst e
  have him : ∃ f m, IM W k f m := by
    rcases hk with hk | hk
    · obtain ⟨i, hi, he⟩ := List.mem_iff_getElem.1 hk
      exact ⟨_, _, h.ma i k (by rw [List.getElem?_eq_getElem hi, he])⟩
    · obtain ⟨i, hi, he⟩ := List.mem_iff_getElem.1 hk
      exact ⟨_, _, h.mb i k (by rw [List.getElem?_eq_getElem hi, he])⟩
  obtain ⟨f, m, es, c, h1, _⟩ := him
  rw [hB] at h1
  exact ho _ _ (Option.some.inj h1)
theorem own_keep {base e s m : Nat} {v : Value} {xs : List Value} (h : W.ownsRow base e s v m xs) (hm : ∀ k, v.ownBlock = some k → W'.heap[k]? = W.heap[k]?) : W'.ownsRow base e s v m xs := by
  refine ⟨h.1, h.2.imp id ?_⟩
  rintro ⟨g, cap, cur, rfl, h2, h3, r⟩
  exact ⟨g, cap, cur, rfl, h2, (hm g rfl).trans h3, r⟩
theorem own_row_ne {base e s m k : Nat} {v : Value} {xs : List Value} {es : Array MapEntry} {c : Nat} (h : W.ownsRow base e s v m xs) (hk : W.heap[k]? = some (.map es c)) : v.ownBlock ≠ some k := fun he => by
  rcases h.2 with ⟨rfl, _⟩ | ⟨g, cap, cur, rfl, _, hg, _⟩
  · simp [Value.ownBlock] at he
  · simp [Value.ownBlock] at he
    subst he
    rw [hg] at hk
    cases hk
theorem FlowOK.isMap (h : FlowOK W0 W vA vB xa xb A B) {k : Nat} (hk : k ∈ xa ∨ k ∈ xb) : ∃ es c, W.heap[k]? = some (.map es c) := by
  rcases hk with hk | hk
  · obtain ⟨i, hi, he⟩ := List.mem_iff_getElem.1 hk
    obtain ⟨es, c, h1, _⟩ := h.ma i k (by rw [List.getElem?_eq_getElem hi, he])
    exact ⟨es, c, h1⟩
  · obtain ⟨i, hi, he⟩ := List.mem_iff_getElem.1 hk
    obtain ⟨es, c, h1, _⟩ := h.mb i k (by rw [List.getElem?_eq_getElem hi, he])
    exact ⟨es, c, h1⟩
theorem FlowOK.set (h : FlowOK W0 W vA vB xa xb A B) {b : Nat} {o u : Value} (hb : W.heap[b]? = some (.cells #[o] 78 (0, 0))) : FlowOK W0 (W.setCell ⟨b, 0, none⟩ u) vA vB xa xb A B := by
  have im : ∀ {k m : Nat} {f : Int → Option Value}, IM W k f m → IM (W.setCell ⟨b, 0, none⟩ u) k f m := fun {k m f} hm => hm.move (Below.heap_setCell _ _ _ _ (fun e => by
    obtain ⟨es, c, h1, _⟩ := hm
    rw [show k = b from e, hb] at h1
    cases h1))
  exact ⟨own_setCell h.ra (own_ne h.ra hb (by decide)) _, own_setCell h.rb (own_ne h.rb hb (by decide)) _, h.la, h.lb, fun i k hk => im (h.ma i k hk), fun i k hk => im (h.mb i k hk), h.ua, h.ub, h.old, h.nd⟩
theorem FEnv.put (h : FEnv W0 W B1 B2 B3 oC vA vB xa xb A B) {i a b : Nat} {l l' : List Int} (ha : xa[i]? = some a) (hb : xb[i]? = some b) (iA : IM W' a (lv l) l.length) (iB : IM W' b (lv l') l'.length)
    (g1 : W.grownBy w1 (some b)) (g2 : w1.grownBy W' (some a)) (ul : l.Pairwise (· < ·)) (ul' : l'.Pairwise (· < ·)) : FEnv W0 W' B1 B2 B3 oC vA vB xa xb (A.set i l) (B.set i l') := by
  have hma := List.mem_of_getElem? ha
  have hmb := List.mem_of_getElem? hb
  have mv : ∀ k, k < W.heap.size → k ≠ a → k ≠ b → W'.heap[k]? = W.heap[k]? := fun k hk ea eb => (g2.block k (Nat.lt_of_lt_of_le hk g1.size) (fun e => ea (Option.some.inj e))).trans (g1.block k hk (fun e => eb (Option.some.inj e)))
  have ca : ∀ {B : Nat} {cs : Array Value} {t : TypeId}, W.heap[B]? = some (.cells cs t (0, 0)) → W'.heap[B]? = some (.cells cs t (0, 0)) := fun {B cs t} hB => (mv B (blk_lt hB) (fun e => h.ok.cells (.inl hma) hB (fun _ _ => by simp) e.symm) (fun e => h.ok.cells (.inr hmb) hB (fun _ _ => by simp) e.symm)).trans hB
  have hab : a ≠ b := (List.nodup_append.1 h.ok.nd).2.2 a hma b hmb
  have row : ∀ {v : Value} {m : Nat} {xs : List Value}, W.ownsRow W0.heap.size 102 1 v m xs → W'.ownsRow W0.heap.size 102 1 v m xs := fun {v m xs} hr => own_keep hr (fun k hk => by
    obtain ⟨es, c, h1⟩ := h.ok.isMap (.inl hma)
    obtain ⟨es', c', h2⟩ := h.ok.isMap (.inr hmb)
    exact mv k (own_lt hr k hk) (fun e => own_row_ne hr h1 (e ▸ hk)) (fun e => own_row_ne hr h2 (e ▸ hk)))
  refine ⟨(h.bl.grown g1 h.bl.size (fun k hk => by cases hk; exact h.ok.old _ (.inr hmb))).grown g2 (Nat.le_trans h.bl.size g1.size) (fun k hk => by cases hk; exact h.ok.old _ (.inl hma)), ca h.bC, ca h.bA, ca h.bB, row h.ok.ra, row h.ok.rb, ?_, ?_, ?_, ?_, ?_, ?_, h.ok.old, h.ok.nd⟩
  · rw [List.length_set]; exact h.ok.la
  · rw [List.length_set]; exact h.ok.lb
  · refine h.ok.ma.put (List.nodup_append.1 h.ok.nd).1 h.ok.la ha iA (fun k hk hne => mv k (h.ok.ma.lt k hk) hne (fun e => (List.nodup_append.1 h.ok.nd).2.2 k hk b hmb e))
  · refine h.ok.mb.put (List.nodup_append.1 h.ok.nd).2.1 h.ok.lb hb iB (fun k hk hne => mv k (h.ok.mb.lt k hk) (fun e => (List.nodup_append.1 h.ok.nd).2.2 a hma k hk e.symm) hne)
  · intro x hx
    rcases List.mem_or_eq_of_mem_set hx with hx | rfl
    · exact h.ok.ua x hx
    · exact ul
  · intro x hx
    rcases List.mem_or_eq_of_mem_set hx with hx | rfl
    · exact h.ok.ub x hx
    · exact ul'
theorem FEnv.lenv {A0 : Option Addr} {c0 : Nat} (h : FEnv W0 W B1 B2 B3 (.slice A0 n c0) vA vB xa xb A B) (hA : xa.length = n) (hB : xb.length = n) (hn : 0 < n) : ∃ ga gb ca cb, vA = .slice (some ⟨ga, 0, none⟩) n ca ∧ vB = .slice (some ⟨gb, 0, none⟩) n cb ∧ LEnv W B1 B2 B3 ga gb n ca cb c0 A0 xa xb := by
  obtain ⟨bl, bC, bA, bB, ok⟩ := h
  have okk := ok
  obtain ⟨ra, rb, la, lb, ma, mb, ua, ub, old, nd⟩ := ok
  rcases ra.2 with ⟨_, h0⟩ | ⟨ga, ca, curA, rfl, hga, hA1, hA2, hA3, hA4, hA5⟩
  · omega
  rcases rb.2 with ⟨_, h0⟩ | ⟨gb, cb, curB, rfl, hgb, hB1, hB2, hB3, hB4, hB5⟩
  · omega
  rw [hA] at bA hA5 hA2
  rw [hB] at bB hB5 hB2
  refine ⟨ga, gb, ca, cb, by rw [hA], by rw [hB], bA, bB, bC, ⟨curA, hA1, fun i b hb => ?_⟩, ⟨curB, hB1, fun i b hb => ?_⟩, hA, hB, fun k hk => ⟨?_, ?_, ?_, ?_, ?_⟩, nd⟩
  · have hi := (List.getElem?_eq_some_iff.1 hb).1
    have h1 : (curA.toList.take (n * 1))[i]? = some (mpV b) := by rw [hA5, List.getElem?_map, hb]; rfl
    rw [List.getElem?_take_of_lt (by omega)] at h1
    simpa [mpV] using h1
  · have hi := (List.getElem?_eq_some_iff.1 hb).1
    have h1 : (curB.toList.take (n * 1))[i]? = some (mpV b) := by rw [hB5, List.getElem?_map, hb]; rfl
    rw [List.getElem?_take_of_lt (by omega)] at h1
    simpa [mpV] using h1
  · exact okk.cells hk bC (fun _ _ => by simp)
  · exact okk.cells hk bA (fun _ _ => by simp)
  · exact okk.cells hk bB (fun _ _ => by simp)
  · exact okk.cells hk hA1 (fun _ _ => by simp)
  · exact okk.cells hk hB1 (fun _ _ => by simp)
end
theorem grow_up {c : List S28} {A B : List (List Int)} {i : Int} {r : List Int × List Int × Bool} (uA : ∀ l ∈ A, l.Pairwise (· < ·)) (uB : ∀ l ∈ B, l.Pairwise (· < ·)) (h : live_grow.f c A B i = some r) : r.1.Pairwise (· < ·) ∧ r.2.1.Pairwise (· < ·) := by
  unfold live_grow.f at h
  obtain ⟨ns, _, h⟩ := Option.bind_eq_some_iff.1 h
  split at h
  · obtain rfl := Option.some.inj h
    exact ⟨growA_up (getD_up uA _), growB_up _ _ (getD_up uB _)⟩
  · exact absurd h (by simp)
theorem infoRegs : (Tryd.prog.info? 102).map (fun i => (i.zero, i.size, i.bytes)) = some (some (.map none), 1, 8) := by kernel_rfl
theorem lv_nil : lv [] = fun _ => none := by funext i; simp [lv, setV]
set_option maxHeartbeats 8000000 in
set_option maxRecDepth 100000 in
theorem live_flow.calls (k : Nat) (A0 : Option Addr) (c0 : Nat) (l0 : List S28) (r : List (List Int) × List (List Int)) (w : World) (hr0 : Kd.C k28 w A0 l0.length l0) (hc0 : l0.length ≤ c0) (h : live_flow.f k l0 = some r) (hgl : GlobOK w) :
    Calls Tryd.prog 50 #[.slice A0 l0.length c0] w fun e w' => ∃ (va vb : Value) (xa xb : List Nat), e = .returned (.tuple #[va, vb]) ∧ FlowOK w w' va vb xa xb r.1 r.2 ∧ Below w.heap.size w w' := by
  unfold live_flow.f at h
  by_cases hn : l0.length ≤ 1000000
  case neg => rw [if_neg hn] at h; exact absurd h (by simp)
  rw [if_pos hn] at h
  have HF := Aside0.mk h
  have HN := Aside0.mk hn
  have HC0 := Aside0.mk hr0
  have HCC := Aside0.mk hc0
  have HGL := Aside0.mk hgl
  have hmm := @run_makeMap Tryd.prog
  obtain ⟨W1, hW1⟩ : ∃ W1, W1 = w.alloc (.cells #[.slice A0 l0.length c0] 32 (0, 0)) := ⟨_, rfl⟩
  have hs1 : W1.heap.size = w.heap.size + 1 := by rw [hW1]; simp
  have hbase : GS W1 ((W1.alloc (.cells #[.slice none 0 0] 78 (0, 0))).alloc (.cells #[.slice none 0 0] 78 (0, 0))) (w.heap.size + 1) (w.heap.size + 1) (w.heap.size + 1 + 1) (.slice none 0 0) (.slice none 0 0) 78 102 (.slice none 0 0) (.slice none 0 0) [] [] 0 0 0 0 0 0 := by
    have h1 := blk_new W1 (.cells #[.slice none 0 0] 78 (0, 0))
    have h2 := blk_new (W1.alloc (.cells #[.slice none 0 0] 78 (0, 0))) (.cells #[.slice none 0 0] 78 (0, 0))
    rw [hs1] at h1
    simp only [World.size_alloc, hs1] at h2
    exact ⟨((Below.refl _ _).alloc (by omega) _).alloc (by simp; omega) _, by simp; omega, blk_alloc h1 _, h2, own_nil _ _ _ _, own_nil _ _ _ _, ne_nil _, fun k hk => absurd hk (by simp), by simp, fun c => absurd c (by omega), fun c => absurd c (by omega), fun c => absurd c (by omega), fun c => absurd c (by omega), fun c => absurd c (by omega)⟩
  have HB := Aside0.mk hbase
  have HC := Aside0.mk (show W1.heap[w.heap.size]? = some (.cells #[.slice A0 l0.length c0] 32 (0, 0)) by rw [hW1]; exact blk_new _ _)
  have HW1 := Aside0.mk hW1
  have HS1 := Aside0.mk hs1
  clear h hn hr0 hc0 hgl hbase hW1 hs1
  go_enter Tryd.func50, Tryd.ntmps50
  go_wp2_with fail
  go_loopg [9] l0.length (fun kq v9 wr => ∃ (t : Nat) (vA vB : Value) (xa xb : List Nat), v9 = .int .i64 (t : Int) ∧ Aside0 (t + kq = l0.length) ∧ Aside0 (xa.length = t ∧ xb.length = t) ∧ Aside0 (GS W1 wr (w.heap.size + 1) (w.heap.size + 1) (w.heap.size + 1 + 1) vA vB 78 102 vA vB xa xb 0 0 0 0 0 0))
  case atStart => exact ⟨0, _, _, [], [], rfl, ⟨by omega⟩, ⟨rfl, rfl⟩, ⟨by rw [← HW1.out]; exact HB.out⟩⟩
  case round =>
    clear HB
    obtain ⟨t, vA, vB, xa, xb, rfl, HK, HX, HG⟩ := hrel
    have cA := cell_of_one HG.out.bA
    have cB := cell_of_one HG.out.bB
    by_cases hlt : (t : Int) < (l0.length : Int)
    case neg =>
      have hk0 : t = l0.length := by have := HK.out; omega
      have hl := HX.out
      have hG := HG.out
      have hlen : ∀ (L : List Nat), L.length = t → ∀ (i b : Nat), L[i]? = some b → (List.replicate l0.length ([] : List Int)).getD i [] = [] := fun L hL i b hi => by
        rw [List.getD_eq_getElem?_getD, List.getElem?_replicate]
        split <;> rfl
      have hbl : Below w.heap.size w W1 := by rw [HW1.out]; exact below_alloc (Below.refl _ _) _
      have hFE : FEnv w wr w.heap.size (w.heap.size + 1) (w.heap.size + 1 + 1) (.slice A0 l0.length c0) vA vB xa xb (List.replicate l0.length []) (List.replicate l0.length []) := by
        refine ⟨hbl.trans (hG.bl.mono (by omega)), (hG.bl.block _ (by omega)).trans HC.out, hG.bA, hG.bB, own_weaken hG.ra (by omega), own_weaken hG.rb (by omega), by rw [List.length_replicate]; omega, by rw [List.length_replicate]; omega, fun i b hi => ?_, fun i b hi => ?_, fun l hl => ?_, fun l hl => ?_, fun k hk => ?_, hG.nd⟩
        · rw [hlen xa hl.1 i b hi, lv_nil]; exact (hG.maps b (List.mem_append_left _ (List.mem_of_getElem? hi))).2
        · rw [hlen xb hl.2 i b hi, lv_nil]; exact (hG.maps b (List.mem_append_right _ (List.mem_of_getElem? hi))).2
        · rw [List.eq_of_mem_replicate hl]; exact List.Pairwise.nil
        · rw [List.eq_of_mem_replicate hl]; exact List.Pairwise.nil
        · have := (hG.maps k (List.mem_append.2 hk)).1; omega
      have HFE := Aside0.mk hFE
      have HLA := Aside0.mk (show xa.length = l0.length by omega)
      have HLB := Aside0.mk (show xb.length = l0.length by omega)
      have cC := cell_of_one hFE.bC
      clear HK HX HG hk0 hl hG hlen hbl hFE cA cB
      go_wp2_with fail
      go_loopg [5, 6] k (fun kq v5 v6 wr => ∃ (A B : List (List Int)) (g : Bool), v5 = .bool g ∧ Aside0 (g = true → live_flow.l l0 kq A B = some r) ∧ Aside0 (g = false → (A, B) = r) ∧ Aside0 (FEnv w wr w.heap.size (w.heap.size + 1) (w.heap.size + 1 + 1) (.slice A0 l0.length c0) vA vB xa xb A B))
      case atStart => exact ⟨_, _, true, rfl, ⟨fun _ => HF.out⟩, ⟨fun h => absurd h (by simp)⟩, HFE⟩
      case round =>
        clear HFE cC
        obtain ⟨A, B, g, rfl, HT, HE, HFE⟩ := hrel
        have cC := cell_of_one HFE.out.bC
        cases g with
        | false =>
          have he := HE.out rfl
          clear HT HE
          have cA := cell_of_one HFE.out.bA
          have cB := cell_of_one HFE.out.bB
          have fzA := blk_frozen HFE.out.bA 0
          have fzB := blk_frozen HFE.out.bB 0
          obtain ⟨A14, c14, e14⟩ := own_slice HFE.out.ok.ra
          obtain ⟨A18, c18, e18⟩ := own_slice HFE.out.ok.rb
          subst e14
          subst e18
          go_wp2_with fail
          have cB' : (wr.setCell ⟨w.heap.size + 1, 0, none⟩ (.slice A14 xa.length c14)).cell? ⟨w.heap.size + 1 + 1, 0, none⟩ = some (.slice A18 xb.length c18) := by
            rw [← cB]; exact World.cell?_of_block (Below.heap_setCell _ _ _ _ (by simp))
          have cA' : ((wr.setCell ⟨w.heap.size + 1, 0, none⟩ (.slice A14 xa.length c14)).setCell ⟨w.heap.size + 1 + 1, 0, none⟩ (.slice A18 xb.length c18)).cell? ⟨w.heap.size + 1, 0, none⟩ = some (.slice A14 xa.length c14) := cell_of_one (blk_far (blk_set HFE.out.bA 0 _) (by simp) _)
          have cB2 : ((wr.setCell ⟨w.heap.size + 1, 0, none⟩ (.slice A14 xa.length c14)).setCell ⟨w.heap.size + 1 + 1, 0, none⟩ (.slice A18 xb.length c18)).cell? ⟨w.heap.size + 1 + 1, 0, none⟩ = some (.slice A18 xb.length c18) := cell_of_one (blk_set (blk_far HFE.out.bB (by simp) _) 0 _)
          have hok := (HFE.out.ok.set (u := .slice A14 xa.length c14) HFE.out.bA).set (u := .slice A18 xb.length c18) (blk_far HFE.out.bB (by simp) _)
          have HOK := Aside0.mk hok
          have HBL := Aside0.mk ((HFE.out.bl.setCell (p := ⟨w.heap.size + 1, 0, none⟩) (by simp) (.slice A14 xa.length c14)).setCell (p := ⟨w.heap.size + 1 + 1, 0, none⟩) (by simp; omega) (.slice A18 xb.length c18))
          clear hok
          go_region
          all_goals (try go_wp2_with fail)
          refine bodyPost_ret (v := .tuple #[.slice A14 xa.length c14, .slice A18 xb.length c18]) (by simp [results, Tryd.results50, go_sem, cA', cB2]) rfl ⟨_, _, xa, xb, rfl, ?_, ?_⟩
          · rw [← he]
            have h := HOK.out
            exact ⟨h.ra, h.rb, h.la, h.lb, h.ma, h.mb, h.ua, h.ub, h.old, h.nd⟩
          · exact below_drew HBL.out
        | true =>
          have ht := HT.out rfl
          clear HT HE
          cases gk with
          | zero => unfold live_flow.l at ht; exact absurd ht (by simp)
          | succ m1 =>
          unfold live_flow.l at ht
          obtain ⟨r1, hp, hr1⟩ := Option.bind_eq_some_iff.1 ht
          have HP := Aside0.mk hp
          have HR1 := Aside0.mk hr1
          have hn63 : (l0.length : Int) ≤ 1000000 := by have := HN.out; omega
          have hn0 : (0 : Int) ≤ (l0.length : Int) := by omega
          clear ht hp hr1
          go_wp2_with fail
          go_loopg [5, 6] l0.length (fun kq v5 v6 wr => ∃ (A B : List (List Int)) (g : Bool), v5 = .bool g ∧ v6 = .int .i64 ((kq : Int) - 1) ∧ Aside0 (live_pass.f l0 kq A B g = some r1) ∧ Aside0 (kq ≤ l0.length) ∧ Aside0 (FEnv w wr w.heap.size (w.heap.size + 1) (w.heap.size + 1 + 1) (.slice A0 l0.length c0) vA vB xa xb A B))
          case atStart =>
            refine ⟨A, B, false, rfl, ?_, HP, ⟨Nat.le_refl _⟩, HFE⟩
            first | rfl | (rw [wrap_in (by omega) (by omega)])
          case round =>
            clear HP HFE cC
            obtain ⟨A, B, g, rfl, rfl, HP, HK, HFE⟩ := hrel
            cases gk with
            | zero =>
              have hp := HP.out
              unfold live_pass.f at hp
              have HR := Aside0.mk (Option.some.inj hp)
              clear HP hp
              go_wp2_with fail
              go_roundg m1
              case measure => omega
              case rel =>
                have hr := HR.out
                have h1 := HR1.out
                subst hr
                refine ⟨A, B, g, rfl, ⟨fun hg => ?_⟩, ⟨fun hg => ?_⟩, HFE⟩
                · rw [if_pos hg] at h1; exact h1
                · rw [if_neg (by simp [hg])] at h1; exact Option.some.inj h1
            | succ i =>
            have hil : i + 1 ≤ l0.length := HK.out
            have e1 : ((i + 1 : Nat) : Int) - 1 = (i : Int) := by omega
            obtain ⟨ga, gb, ca, cb, eA, eB, hLE⟩ := HFE.out.lenv HLA.out HLB.out (by omega)
            have hp := HP.out
            unfold live_pass.f at hp
            obtain ⟨⟨ra2, rb2, rg⟩, hg2, hp2⟩ := Option.bind_eq_some_iff.1 hp
            have HUP := Aside0.mk (grow_up HFE.out.ok.ua HFE.out.ok.ub hg2)
            have HP2 := Aside0.mk hp2
            have CG := Aside0.mk (lgrow.calls (i : Int) (ra2, rb2, rg) w wr w.heap.size (w.heap.size + 1) (w.heap.size + 1 + 1) ga gb ca cb c0 A0 l0 xa xb A B HC0.out HCC.out HGL.out HFE.out.bl hLE HFE.out.ok.ma HFE.out.ok.mb HFE.out.ok.ua HFE.out.ok.ub HFE.out.ok.old (by omega) (by omega) hg2)
            have hi0 : (0 : Int) ≤ (i : Int) := by omega
            have hi63 : (i : Int) ≤ 1000000 := by omega
            clear hp hp2 hg2 HP hLE eA eB hil
            rw [e1]
            clear e1
            go_wp2_with fail
            refine CG.out.mono ?_
            rintro e w3 ⟨rfl, a, b, w2, ha, hb, iA, iB, g1, g2⟩
            rw [Int.toNat_natCast] at ha hb
            have HFE2 := Aside0.mk (HFE.out.put ha hb iA iB g1 g2 HUP.out.1 HUP.out.2)
            clear ha hb iA iB g1 g2 CG HFE HUP
            cases rg with
            | true =>
              go_wp2_with fail
              go_roundg i
              case measure => omega
              case rel =>
                have hp2 := HP2.out
                simp only [Bool.or_true] at hp2
                exact ⟨_, _, true, rfl, by first | rfl | (rw [wrap_in (by omega) (by omega)]), ⟨hp2⟩, ⟨by have := HK.out; omega⟩, HFE2⟩
            | false =>
              go_wp2_with fail
              go_roundg i
              case measure => omega
              case rel =>
                have hp2 := HP2.out
                simp only [Bool.or_false] at hp2
                exact ⟨_, _, g, rfl, by first | rfl | (rw [wrap_in (by omega) (by omega)]), ⟨hp2⟩, ⟨by have := HK.out; omega⟩, HFE2⟩
    cases gk with
    | zero => exact absurd HK.out (by omega)
    | succ m1 =>
    have h63 : (t : Int) + 1 ≤ 9223372036854775807 := by have := HN.out; omega
    go_wp2_with fail
    refine start_ (n := 10) (S := (fun W => W.cell? ⟨w.heap.size + 1, 0, none⟩ = some vA ∧ W.cell? ⟨w.heap.size + 1 + 1, 0, none⟩ = some vB)) (ds := [8,9]) #[false, false, false, false, false, false, false, false, false, false] (by kernel_rfl) rfl rfl (⟨cA, cB⟩) (fun hHeld => ?_)
    refine take_ (i := 0) (N := (some 11)) (v := ?_) (a' := ?_) #[true, false, false, false, false, false, false, false, false, false] rfl rfl (by kernel_rfl) (fun _ _ _ h => h) (Or.inl ⟨by rfl, ?_⟩) hHeld ?_ ?_
    rotate_left
    · rintro w_ ⟨s0, s1⟩
      go_simp
      with_reducible rfl
    rotate_left
    · simp only [Act.put, List.setIfInBounds_toArray, List.set_cons_zero, List.set_cons_succ, i64_w, i32_w]
      rfl
    refine take_ (i := 4) (N := (some 15)) (v := ?_) (a' := ?_) #[true, false, false, false, true, false, false, false, false, false] rfl rfl (by kernel_rfl) (fun _ _ _ h => h) (Or.inl ⟨by rfl, ?_⟩) hHeld ?_ ?_
    rotate_left
    · rintro w_ ⟨s0, s1⟩
      go_simp
      with_reducible rfl
    rotate_left
    · simp only [Act.put, List.setIfInBounds_toArray, List.set_cons_zero, List.set_cons_succ, i64_w, i32_w]
      rfl
    clear hHeld cA cB
    refine two_maps_at (W0 := W1) (base := w.heap.size + 1) (B2 := w.heap.size + 1) (B3 := w.heap.size + 1 + 1) (oA := vA) (oB := vB) (tb := 78) (t := 78) (e := 102) (vA := vA) (vB := vB) (z := .map none) (xa := xa) (xb := xb) (bytes := 8) (m1 := 0) (g1 := 0) (m2 := 0) (g2 := 0)
      (by kernel_rfl) (by kernel_rfl) (by kernel_rfl) (by kernel_rfl) (by kernel_rfl) (by kernel_rfl) (by kernel_rfl) (by kernel_rfl) (by kernel_rfl) (by kernel_rfl) (by kernel_rfl) (by kernel_rfl)
      (by decide) (by decide) (fun W h2 h3 => ⟨cell_of_one h2, cell_of_one h3⟩)
      rfl rfl rfl rfl rfl rfl rfl rfl rfl rfl rfl rfl rfl rfl rfl rfl rfl rfl
      ?hsz rfl rfl rfl rfl rfl rfl ?hbs rfl rfl Tryd.underlying78 infoRegs rfl (by omega) (by have := HX.out; have := HN.out; omega) (by have := HX.out; have := HN.out; omega) ?hcont (HG.out.step ⟨rfl, rfl, rfl, Nat.le_refl _, fun _ _ => rfl⟩)
    case hsz => show 18 < 34; decide
    case hbs => intro W m; kernel_rfl
    case hcont =>
      intro x12 x13 x14 x16 x17 x18 W n1 k1 n2 k2 hG
      obtain ⟨A14, c14, e14⟩ := own_slice hG.ra
      obtain ⟨A18, c18, e18⟩ := own_slice hG.rb
      subst e14
      subst e18
      have cA := cell_of_one hG.bA
      have cB := cell_of_one hG.bB
      have fzA := blk_frozen hG.bA 0
      have fzB := blk_frozen hG.bB 0
      refine norm_ (a' := ?_) ?_ ?_
      rotate_left
      · unfold six
        simp only [Act.put, List.setIfInBounds_toArray, List.set_cons_zero, List.set_cons_succ]
        rfl
      refine last_ (i := 8) (N := none) #[true, true, true, true, true, true, true, true, true, false] rfl rfl (by kernel_rfl) (by decide) (fun K hK => ?_)
      refine skip_ (w1 := ?_) (by rfl) rfl ?_ ?_
      rotate_left
      · go_simp
        rfl
      refine hK.out _ _ ?_
      clear hK K
      refine last_ (i := 9) (N := none) #[true, true, true, true, true, true, true, true, true, true] rfl rfl (by kernel_rfl) (by decide) (fun K hK => ?_)
      refine skip_ (w1 := ?_) (by rfl) rfl ?_ ?_
      rotate_left
      · go_simp
        rfl
      refine hK.out _ _ ?_
      clear hK K
      refine done_ (by kernel_rfl) ?_
      go_wp2_with fail
      go_roundg m1
      case measure => omega
      case rel =>
        have hS := hG.store (by decide) (by omega) (by omega) (by omega)
        exact ⟨t + 1, _, _, xa ++ [n1], xb ++ [n2], by (try push_cast); (try rfl), ⟨by have := HK.out; omega⟩, ⟨by have := HX.out; simp; omega⟩, ⟨by simpa using hS⟩⟩
end Go.Proofs.YtdopacgaklaaeaaDoor.PDeadRuns

namespace Go.Proofs.YtdopacgaklaaeaaDoor.PDeadRuns
open Go.RowKit Go.Proofs.YtdopacgaklaaeaaDoorW.PrintWords Go.Proofs.YtdopacgaklaaeaaDoorW.PrintLast Go.Proofs.YtdopacgaklaaeaaDoorW.PrintMore
set_option linter.unusedVariables false
set_option linter.unusedSimpArgs false
open Go.MapKept Go.RowKit
/-! live.rising, live.rows, live.Ahead, live.Behind. -/
theorem infoLI15 : (Tryd.prog.info? 57).map (fun i => (i.zero, i.size, i.bytes)) = some (some (.slice none 0 0), 1, 24) := by kernel_rfl
def wfRow (l : List Int) : Prop := l.length ≤ 1000000 ∧ ∀ x ∈ l, -9223372036854775808 ≤ x ∧ x ≤ 9223372036854775807
def wfRows (L : List (List Int)) : Prop := L.length ≤ 1000000 ∧ ∀ l ∈ L, wfRow l
instance (l : List Int) : Decidable (wfRow l) := by unfold wfRow; infer_instance
instance (L : List (List Int)) : Decidable (wfRows L) := by unfold wfRows; infer_instance
theorem lv_some (l : List Int) (i : Int) : (lv l i).isSome = true ↔ i ∈ l := by
  unfold lv
  rw [setV_isSome]
  simp
theorem up_same : ∀ {l m : List Int}, l.Pairwise (· < ·) → m.Pairwise (· < ·) → (∀ i, i ∈ l ↔ i ∈ m) → l = m
  | [], [], _, _, _ => rfl
  | [], y :: m, _, _, h => absurd ((h y).2 (by simp)) (by simp)
  | x :: l, [], _, _, h => absurd ((h x).1 (by simp)) (by simp)
  | x :: l, y :: m, hl, hm, h => by
    obtain ⟨l1, l2⟩ := List.pairwise_cons.1 hl
    obtain ⟨m1, m2⟩ := List.pairwise_cons.1 hm
    have hxy : x = y := by
      rcases List.mem_cons.1 ((h x).1 (by simp)) with e | e
      · exact e
      · rcases List.mem_cons.1 ((h y).2 (by simp)) with e2 | e2
        · exact e2.symm
        · have := m1 x e; have := l1 y e2; omega
    subst hxy
    have : l = m := up_same l2 m2 (fun i => by
      have := h i
      simp only [List.mem_cons] at this
      constructor
      · intro hi
        have hlt := l1 i hi
        rcases this.1 (.inr hi) with e | e
        · omega
        · exact e
      · intro hi
        have hlt := m1 i hi
        rcases this.2 (.inr hi) with e | e
        · omega
        · exact e)
    rw [this]
set_option maxHeartbeats 1000000 in
theorem rising.calls (b : Nat) (l : List Int) (w : World) (h : IM w b (lv l) l.length) (hp : l.Pairwise (· < ·)) (hwf : wfRow l) :
    Calls Tryd.prog 73 #[.map (some b)] w fun e w' => ∃ v : Value, e = .returned v ∧ Kd.R (Kd.int .i64) 3 w' w.heap.size (fun _ => True) v l ∧ Below w.heap.size w w' := by
  have hlen := maplen b l.length (lv l) w h 0
  change ∀ ty, (Builtin.len_ #[102] ty #[.map (some b)]).run Tryd.prog w = .ok (.int .i64 l.length) w at hlen
  by_cases h0 : l = []
  · subst h0
    go_enter Tryd.func73, Tryd.ntmps73
    go_wp2
    go_ret
    exact ⟨_, rfl, Kd.R_nil _ _ _ _ _, Below.refl _ _⟩
  · have hpos : (((l.length : Int)) == 0) = false := by
      have := List.length_pos_iff.2 h0
      simp; exact h0
    have HS := Aside0.mk (sortedRegs.calls b l.length (lv l) w h (fun i hi => by
      have := hwf.2 i ((lv_some l i).1 hi)
      exact WalkArith.wf_i64 (by omega)) (by have := hwf.1; omega))
    have HK := Aside0.mk (keysRegs.calls b w)
    have HP := Aside0.mk hp
    have HH := Aside0.mk hwf
    clear h hp hwf h0
    go_enter Tryd.func73, Tryd.ntmps73
    go_wp2_with fail
    refine HK.out.mono ?_
    rintro e w1 ⟨rfl, rfl⟩
    go_wp2_with fail
    refine HS.out.mono ?_
    rintro e w2 ⟨v, L, rfl, hL, hm, _, hR, hb⟩
    obtain rfl : L = l := up_same hL HP.out (fun i => by rw [hm, lv_some])
    have hR' := Aside0.mk (Kd.R_lower hR (show w.heap.size ≤ w.heap.size + 1 by omega))
    have hb' := Aside0.mk ((below_alloc (Below.refl w.heap.size w) (.cells #[.map (some b)] 102)).trans (hb.mono (by omega)))
    clear hR hb hm HS HK
    go_wp2
    go_ret
    exact ⟨v, rfl, hR'.out, hb'.out⟩
theorem own_map_at {W : World} {base : Nat} {v : Value} {xa : List Nat} (h : W.ownsRow base 102 1 v xa.length (xa.map mpV)) {i b : Nat} (hb : xa[i]? = some b) : ∃ g cap, v = .slice (some ⟨g, 0, none⟩) xa.length cap ∧ W.cell? ⟨g, i, none⟩ = some (.map (some b)) := by
  have hi := (List.getElem?_eq_some_iff.1 hb).1
  rcases h.2 with ⟨_, h0⟩ | ⟨g, cap, cur, rfl, hg, h1, h2, h3, h4, h5⟩
  · omega
  · refine ⟨g, cap, rfl, ?_⟩
    rw [blk_cell h1]
    have e : (cur.toList.take (xa.length * 1))[i]? = some (mpV b) := by rw [h5, List.getElem?_map, hb]; rfl
    rw [List.getElem?_take_of_lt (by omega)] at e
    simpa [mpV] using e
set_option maxHeartbeats 4000000 in
set_option maxRecDepth 100000 in
theorem lrows.calls (base : Nat) (v : Value) (xa : List Nat) (L : List (List Int)) (w : World) (hr : w.ownsRow base 102 1 v xa.length (xa.map mpV)) (hl : xa.length = L.length) (hm : MapsOK w xa L) (hu : ∀ l ∈ L, l.Pairwise (· < ·)) (hwf : wfRows L) :
    Calls Tryd.prog 51 #[v] w fun e w' => ∃ v0 : Value, e = .returned v0 ∧ Kd.S (Kd.slice 3 (Kd.int .i64)) 57 w' w.heap.size (fun _ => True) v0 L ∧ Below w.heap.size w w' := by
  obtain ⟨A0, c0, ev⟩ := own_slice hr
  subst ev
  have HR := Aside0.mk hr
  have HL := Aside0.mk hl
  have HM := Aside0.mk hm
  have HU := Aside0.mk hu
  have HW := Aside0.mk hwf
  clear hr hl hm hu hwf
  go_enter Tryd.func51, Tryd.ntmps51
  go_wp2_with fail
  go_loopg [3, 8] L.length (fun kq v3 v8 wr => ∃ (t : Nat), v8 = .int .i64 (t : Int) ∧ Aside0 (t + kq = L.length) ∧ Aside0 (Kd.S (Kd.slice 3 (Kd.int .i64)) 57 wr w.heap.size (fun _ => True) v3 (L.take t)) ∧ Aside0 (Below w.heap.size w wr))
  case atStart => exact ⟨0, rfl, ⟨by omega⟩, ⟨by rw [List.take_zero]; exact Kd.S_nil _ _ _ _ _⟩, ⟨Below.refl _ _⟩⟩
  case round =>
    obtain ⟨t, rfl, HK, HS, HB⟩ := hrel
    have ht0 : (0 : Int) ≤ (t : Int) := by omega
    by_cases hlt : (t : Int) < (xa.length : Int)
    case neg =>
      have hk0 : t = L.length := by have := HK.out; have := HL.out; omega
      have hS := HS.out
      rw [hk0, List.take_length] at hS
      have HS2 := Aside0.mk hS
      clear HS hS HK hk0
      go_wp2_with fail
      go_ret
      exact ⟨_, rfl, HS2.out, HB.out⟩
    have htl : t < xa.length := by omega
    cases gk with
    | zero => exact absurd HK.out (by have := HL.out; omega)
    | succ m1 =>
    obtain ⟨b, hb⟩ : ∃ b, xa[t]? = some b := ⟨_, List.getElem?_eq_getElem htl⟩
    obtain ⟨g, cap, ev, hx⟩ := own_map_at (own_keep HR.out (fun k hk => HB.out.block k (own_lt HR.out k hk))) hb
    cases ev
    obtain ⟨l, hle⟩ : ∃ l, l = L.getD t [] := ⟨_, rfl⟩
    have hml : l ∈ L := by
      have : t < L.length := by have := HL.out; omega
      rw [hle, List.getD_eq_getElem?_getD, List.getElem?_eq_getElem this]; exact List.getElem_mem this
    have him := HM.out t b hb
    rw [← hle] at him
    have HC := Aside0.mk (rising.calls b l wr (him.below HB.out him.lt) (HU.out l hml) (HW.out.2 l hml))
    have HLE := Aside0.mk hle
    have h63 : (t : Int) + 1 ≤ 9223372036854775807 := by have := HW.out.1; have := HL.out; omega
    obtain ⟨T, hT⟩ : ∃ T, T = L.take t := ⟨_, rfl⟩
    rw [← hT] at HS
    have HTT := Aside0.mk hT
    have HTl := Aside0.mk (show T.length = t by rw [hT, List.length_take]; have := HL.out; omega)
    obtain ⟨Ao, co, eo⟩ := Kd.S_slice HS.out
    subst eo
    clear hb hle hml him hT
    go_wp2_with fail
    refine HC.out.mono ?_
    rintro e w7 ⟨v7, rfl, hR, hb7⟩
    obtain ⟨Al, cl, el⟩ := Kd.R_slice hR
    subst el
    have hS := Kd.S_mono (Kd.S_bound HS.out) (ok' := fun k_ => True ∧ ¬ some k_ = (.slice Al l.length cl : Value).ownBlock) (fun k_ hk => ⟨trivial, fun e => by have h1 := Kd.R_base hR k_ e.symm; have := hk.2.2; omega⟩)
    have HS2 := Aside0.mk (Kd.S_below hS hb7)
    have HLx := Aside0.mk (Kd.R_lower hR HB.out.size)
    have HAP := Aside0.mk (Kd.R_mono (ok' := fun k_ => True ∧ some k_ ≠ (.slice Ao T.length co : Value).ownBlock) (Kd.R_apart' HLx.out (Kd.S_typed HS2.out) (by decide)) (fun k_ hk => ⟨trivial, hk.2⟩))
    have HBB := Aside0.mk (HB.out.trans (hb7.mono HB.out.size))
    have HALL := Aside0.mk (show (T.length + 1) * 24 ≤ 140737488355328 by have := HW.out.1; have := HTl.out; have := HL.out; omega)
    clear hR hb7 hS HC HS
    go_wp2_with (first | ((with_reducible refine gate_builtin (b := .append) (xs := #[.tmp 12, .tmp 15]) rfl ?_); (try (refine gate_guard (by rfl) ?_; dsimp only)); at_builtin; refine Kd.S_append (Kd.slice 3 (Kd.int .i64)) (w0 := w) w.heap.size rfl (.tmp 12) (.tmp 15) 53 57 (.slice none 0 0) 24 rfl Tryd.underlying53 infoLI15 rfl (by decide) (by omega) (.slice Ao T.length co) T l [.slice Al l.length cl] (fun _ => True) (fun k_ => some k_ = (.slice Al l.length cl : Value).ownBlock) rfl rfl (Kd.M_row (Kd.R_mono (Kd.R_tight rfl HAP.out) (fun _ h_ => h_))) (fun k_ hk_ => HAP.out.1 k_ hk_.symm) (fun _ _ => trivial) HS2.out HBB.out HBB.out.size HALL.out ?_; intro v1 w8 ho hb hg hat; have HO8 := Aside0.mk ho; have HB8 := Aside0.mk hb; clear ho hb hg hat))
    go_roundg m1
    case measure => omega
    case rel =>
      have hO := HO8.out
      have htL : t < L.length := by have := HL.out; omega
      rw [HTT.out, HLE.out, List.getD_eq_getElem?_getD, List.getElem?_eq_getElem htL, Option.getD_some, List.take_append_getElem htL] at hO
      exact ⟨t + 1, by (try push_cast); (try rfl), ⟨by have := HK.out; omega⟩, ⟨hO⟩, HB8⟩
end Go.Proofs.YtdopacgaklaaeaaDoor.PDeadRuns

-- HAND paling/live.Behind rounds=1 making=1 needs=paling/live.next;paling/ins.Uses;paling/ins.Def
namespace Go.Proofs.YtdopacgaklaaeaaDoor.PDeadRuns
open Go.RowKit Go.Proofs.YtdopacgaklaaeaaDoorW.PrintWords Go.Proofs.YtdopacgaklaaeaaDoorW.PrintLast Go.Proofs.YtdopacgaklaaeaaDoorW.PrintMore
set_option linter.unusedVariables false
set_option linter.unusedSimpArgs false
open Go.MapKept Go.RowKit
/-! live.Behind. -/
def live_Behind.f (k : Nat) (c : List S28) : Option (List (List Int)) := (live_flow.f k c).bind fun r => if wfRows r.2 then some r.2 else none
theorem live_Behind.mono : ∀ a0 k, LeO (live_Behind.f k a0) (live_Behind.f (k + 1) a0) := fun a0 k => LeO.bind (live_flow.mono a0 k) (fun _ => LeO.refl _)
set_option maxHeartbeats 1000000 in
theorem live_Behind.calls (k : Nat) (A0 : Option Addr) (c0 : Nat) (l0 : List S28) (r : List (List Int)) (w : World) (hr0 : Kd.C k28 w A0 l0.length l0) (hc0 : l0.length ≤ c0) (h : live_Behind.f k l0 = some r) (hgl : GlobOK w) :
    Calls Tryd.prog 24 #[.slice A0 l0.length c0] w fun e w' => ∃ v0_ : Value, e = .returned (v0_) ∧ Kd.S (Kd.slice 3 (Kd.int .i64)) 57 w' w.heap.size (fun _ => True) v0_ r ∧ Below w.heap.size w w' := by
  unfold live_Behind.f at h
  obtain ⟨R, h1, h2⟩ := Option.bind_eq_some_iff.1 h
  by_cases hw : wfRows R.2
  case neg => rw [if_neg hw] at h2; exact absurd h2 (by simp)
  rw [if_pos hw] at h2
  have HR := Aside0.mk (Option.some.inj h2)
  have HW := Aside0.mk hw
  have CF := Aside0.mk (live_flow.calls k A0 c0 l0 R w hr0 hc0 h1 hgl)
  clear h h1 h2 hw hr0 hc0 hgl
  go_enter Tryd.func24, Tryd.ntmps24
  go_wp2_with fail
  refine CF.out.mono ?_
  rintro e w1 ⟨va, vb, xa, xb, rfl, hok, hb⟩
  have HO := Aside0.mk hok
  have HB := Aside0.mk hb
  clear hok hb CF
  go_wp2_with fail
  refine (lrows.calls w.heap.size vb xb R.2 w1 HO.out.rb HO.out.lb HO.out.mb HO.out.ub HW.out).mono ?_
  rintro e w2 ⟨v0, rfl, hS, hb2⟩
  have HS := Aside0.mk (Kd.S_lower hS HB.out.size)
  have HB2 := Aside0.mk (HB.out.trans (hb2.mono HB.out.size))
  clear hS hb2
  go_wp2
  go_ret
  exact ⟨v0, rfl, by rw [← HR.out]; exact HS.out, HB2.out⟩
end Go.Proofs.YtdopacgaklaaeaaDoor.PDeadRuns
