import Derived.Test.YtdopacgaklaaeaaDoorPDeadTellsx0
import Derived.Test.YtdopacgaklaaeaaDoorPDeadTellshmaps
import Derived.Test.YtdopacgaklaaeaaDoorShelfS
import Derived.Test.YtdopacgaklaaeaaDoorShelf
import Derived.Lib.OwnBridge
namespace Go.Proofs.YtdopacgaklaaeaaDoor.PDeadTells
open Go.RowKit Go.Proofs.YtdopacgaklaaeaaDoorW.PrintWords Go.Proofs.YtdopacgaklaaeaaDoorW.PrintLast Go.Proofs.YtdopacgaklaaeaaDoorW.PrintMore
set_option linter.unusedVariables false
set_option linter.unusedSimpArgs false
open Go.Maps Go.Sort Go.Shelf

theorem lsorted_of {ss : List Int} (hn : ss.Nodup) : ((ss.mergeSort (fun x y => decide (x ≤ y))).Pairwise (· < ·)) ∧ (∀ i, i ∈ ss.mergeSort (fun x y => decide (x ≤ y)) ↔ i ∈ ss) ∧ (ss.mergeSort (fun x y => decide (x ≤ y))).length = ss.length := by
  have hp := List.mergeSort_perm ss (fun x y => decide (x ≤ y))
  refine ⟨?_, fun i => hp.mem_iff, hp.length_eq⟩
  have h1 : (ss.mergeSort (fun x y => decide (x ≤ y))).Pairwise (fun x y => decide (x ≤ y) = true) := List.pairwise_mergeSort (fun a b c h1 h2 => by simp at *; omega) (fun a b => by simp; omega) ss
  have h2 : (ss.mergeSort (fun x y => decide (x ≤ y))).Nodup := hp.nodup_iff.2 hn
  have h3 := h1.and (List.nodup_iff_pairwise_ne.1 h2)
  exact h3.imp (fun ⟨a, b⟩ => by simp at a; omega)

theorem keysRegs.calls (b : Nat) (W : World) : Calls Tryd.prog 84 #[.map (some b)] W fun e w' => e = .returned (.func (.func 93) #[] #[.pointer (some ⟨W.heap.size, 0, none⟩)]) ∧ w' = W.alloc (.cells #[.map (some b)] 102) :=
  (callsIn_wide (n := 6)).1 (AnyZI.keys_in Tryd.lay_maps_Keys_paling_live_regs_int_bool Fence.wide 6 trivial rfl (some b) W)
theorem sortsRegs (m : Nat) : AnyZI.SortsIn Tryd.prog Tryd.lay_slices_Sorted_int_ren Fence.wide m :=
  ⟨fun blk off cap ss W hH hblk hsz => callsIn_wide.2 (AnyM.slices_Sort_int Tryd.lay_slices_Sort_int_int blk off cap ss W hH hblk hsz),
   fun p cap W => callsIn_wide.2 (AnyM.slices_Sort_int_none Tryd.lay_slices_Sort_int_int p cap W)⟩
theorem lR_ints {w : World} {base : Nat} {v : Value} {xs : List Int} (h : w.ownsRow base 3 1 v xs.length (xs.map encZ)) : Kd.R (Kd.int .i64) 3 w base (fun _ => True) v xs :=
  Kd.R_of_own h (fun _ _ => trivial)
set_option maxHeartbeats 1000000 in
/-- slices.Sorted(maps.Keys(m)): the keys, rising, each once. -/
theorem sortedRegs.calls (b n : Nat) (f : Int → Option Value) (w : World) (h : IM w b f n) (hwf : ∀ i, (f i).isSome = true → (Lit.int .i64 i).wf = true) (hn : n * 8 ≤ 140737488355328) :
    Calls Tryd.prog 83 #[.func (.func 93) #[] #[.pointer (some ⟨w.heap.size, 0, none⟩)]] (w.alloc (.cells #[.map (some b)] 102)) fun e w' => ∃ (v : Value) (L : List Int), e = .returned v ∧ L.Pairwise (· < ·) ∧ (∀ i, i ∈ L ↔ (f i).isSome = true) ∧ L.length = n ∧ Kd.R (Kd.int .i64) 3 w' (w.heap.size + 1) (fun _ => True) v L ∧ Below (w.heap.size + 1) (w.alloc (.cells #[.map (some b)] 102)) w' := by
  obtain ⟨D0, hown, hsz, hlen, hnd, hmem⟩ := h.owns (P := Tryd.prog) (kt := 3) Tryd.underlying3 hwf (by unfold maxLen; omega)
  have hbl := hown.lt
  have hseq : SeqGives Fence.wide 2 Tryd.prog 93 #[.pointer (some ⟨w.heap.size, 0, none⟩)] encZ (fun ss => ss.Perm (intKeys D0)) (Maps.size D0) (w.alloc (.cells #[.map (some b)] 102)) :=
    AnyZI.keys_gives (ρ := Tryd.lay_maps_Keys_paling_live_regs_int_bool_ren) { Tryd.lay_maps_Keys_paling_live_regs_int_bool with } Fence.wide _ trivial rfl (by omega) w.heap.size b n D0 _ (by simp) (by simp) (by
      obtain ⟨es, clock, hb, Ft, hs, hD⟩ := hown
      exact ⟨es, clock, (Below.heap_alloc _ _ b hbl).trans hb, Ft, hs, hD⟩)
  have cS := AnyZI.sorted_in Tryd.lay_slices_Sorted_int Fence.wide 5 trivial trivial trivial trivial rfl (by omega) (sortsRegs _) (enters_ Tryd.func79 (by kernel_rfl) rfl) 93 #[.pointer (some ⟨w.heap.size, 0, none⟩)] trivial (enters_ Tryd.func93 (by kernel_rfl) rfl) _ _ (by rw [hsz]; unfold maxLen; omega) (by rw [hsz]; exact hn) _ hseq
  change CallsIn _ _ Tryd.prog 83 _ _ _ at cS
  refine ((callsIn_wide (n := 5)).1 cS).mono ?_
  rintro e w' ⟨v, ss, rfl, hS, hrow, hnil, hb⟩
  obtain ⟨h1, h2, h3⟩ := lsorted_of (hS.nodup_iff.2 hnd)
  refine ⟨v, _, rfl, h1, fun i => by rw [h2, hS.mem_iff, hmem], by rw [h3, hS.length_eq, hlen], lR_ints (by rw [h3]; have h' : w'.ownsRow _ 3 1 v ss.length _ := hrow; simpa using h'), by simpa using hb⟩
end Go.Proofs.YtdopacgaklaaeaaDoor.PDeadTells

namespace Go.Proofs.YtdopacgaklaaeaaDoor.PDeadTells
open Go.RowKit Go.Proofs.YtdopacgaklaaeaaDoorW.PrintWords Go.Proofs.YtdopacgaklaaeaaDoorW.PrintLast Go.Proofs.YtdopacgaklaaeaaDoorW.PrintMore
set_option linter.unusedVariables false
set_option linter.unusedSimpArgs false
/-! Two rows of rows of one type: a set of blocks M that parts them. -/
section
variable {α β : Type} {d : Kd α} {d' : Kd β} {e e' : Nat} {base base' : Nat} {ok ok' : Nat → Prop} {v u : Value} {xs : List α} {ys : List β} {W w1 : World}
theorem mid_split (h1 : Kd.S d e W base ok v xs) (h2 : Kd.S d' e' w1 W.heap.size ok' u ys) (hb : Below W.heap.size W w1) :
    ∃ M : Nat → Prop, Kd.S d e w1 base (fun k => ok k ∧ (some k ≠ u.ownBlock ∧ ¬ M k)) v xs ∧ Kd.S d' e' w1 W.heap.size (fun k => ok' k ∧ (some k ≠ v.ownBlock ∧ M k)) u ys := by
  refine ⟨fun k => W.heap.size ≤ k, ?_, ?_⟩
  · have h3 := Kd.S_elder' (Kd.S_mono (Kd.S_bound h1) (fun k hk => (⟨hk.1, hk.2.2.1⟩ : ok k ∧ k < W.heap.size))) (Kd.S_base h2) hb
    exact Kd.S_mono h3 (fun k hk => ⟨hk.1.1, hk.2, Nat.not_le.2 hk.1.2⟩)
  · have h3 := Kd.S_new' (Kd.S_mono (Kd.S_bound h2) (fun k hk => (⟨hk.1, hk.2.1⟩ : ok' k ∧ W.heap.size ≤ k))) (Kd.S_lt h1)
    exact Kd.S_mono h3 (fun k hk => ⟨hk.1.1, hk.2, hk.1.2⟩)
variable {A A' B B' M : Nat → Prop}
theorem mid_cut (h1 : Kd.S d e W base (fun k => (A k ∧ ¬ M k) ∧ B k) v xs) (h2 : Kd.S d' e' W base' (fun k => (A' k ∧ M k) ∧ B' k) u ys) :
    ∃ M2 : Nat → Prop, (∀ k, W.heap.size ≤ k → ¬ M2 k) ∧ Kd.S d e W base (fun k => (A k ∧ ¬ M2 k) ∧ B k) v xs ∧ Kd.S d' e' W base' (fun k => (A' k ∧ M2 k) ∧ B' k) u ys := by
  refine ⟨fun k => M k ∧ k < W.heap.size, fun k h hk => absurd hk.2 (Nat.not_lt.2 h), ?_, ?_⟩
  · exact Kd.S_mono h1 (fun k hk => ⟨⟨hk.1.1, fun h => hk.1.2 h.1⟩, hk.2⟩)
  · exact Kd.S_mono (Kd.S_bound h2) (fun k hk => ⟨⟨hk.1.1.1, hk.1.1.2, hk.2.2.1⟩, hk.1.2⟩)
end
end Go.Proofs.YtdopacgaklaaeaaDoor.PDeadTells

namespace Go.Proofs.YtdopacgaklaaeaaDoor.PDeadTells
open Go.RowKit Go.Proofs.YtdopacgaklaaeaaDoorW.PrintWords Go.Proofs.YtdopacgaklaaeaaDoorW.PrintLast Go.Proofs.YtdopacgaklaaeaaDoorW.PrintMore
set_option linter.unusedVariables false
set_option linter.unusedSimpArgs false
/-! A number put into a rising row. -/
def insL (out : List Int) (r : Int) : List Int :=
  match out with
  | [] => [r]
  | y :: ys => if y < r then y :: insL ys r else if y = r then y :: ys else r :: y :: ys
theorem insL_len (r : Int) : ∀ out : List Int, (insL out r).length ≤ out.length + 1
  | [] => by simp [insL]
  | y :: ys => by
    have := insL_len r ys
    unfold insL
    split
    · simp only [List.length_cons]; omega
    · split <;> simp only [List.length_cons] <;> omega
theorem insL_spec (r : Int) : ∀ out : List Int, out.Pairwise (· < ·) → (insL out r).Pairwise (· < ·) ∧ ∀ i, i ∈ insL out r ↔ i ∈ out ∨ i = r
  | [], _ => by simp [insL]
  | y :: ys, hp => by
    obtain ⟨p1, p2⟩ := List.pairwise_cons.1 hp
    obtain ⟨h1, h2⟩ := insL_spec r ys p2
    unfold insL
    by_cases c1 : y < r
    · rw [if_pos c1]
      refine ⟨List.pairwise_cons.2 ⟨fun i hi => ?_, h1⟩, fun i => ?_⟩
      · rcases (h2 i).1 hi with a | a
        · exact p1 i a
        · omega
      · simp only [List.mem_cons, h2]
        constructor
        · rintro (a | a | a)
          · exact .inl (.inl a)
          · exact .inl (.inr a)
          · exact .inr a
        · rintro ((a | a) | a)
          · exact .inl a
          · exact .inr (.inl a)
          · exact .inr (.inr a)
    · rw [if_neg c1]
      by_cases c2 : y = r
      · rw [if_pos c2]
        refine ⟨hp, fun i => ?_⟩
        simp only [List.mem_cons]
        constructor
        · exact .inl
        · rintro (a | a)
          · exact a
          · exact .inl (a.trans c2.symm)
      · rw [if_neg c2]
        refine ⟨List.pairwise_cons.2 ⟨fun i hi => ?_, hp⟩, fun i => ?_⟩
        · simp only [List.mem_cons] at hi
          rcases hi with a | a
          · omega
          · have := p1 i a; omega
        · simp only [List.mem_cons]
          constructor
          · rintro (a | a)
            · exact .inr a
            · exact .inl a
          · rintro (a | a)
            · exact .inr a
            · exact .inl a
theorem foldIns : ∀ (xs out : List Int), out.Pairwise (· < ·) → (xs.foldl insL out).Pairwise (· < ·) ∧ (∀ i, i ∈ xs.foldl insL out ↔ i ∈ out ∨ i ∈ xs) ∧ (xs.foldl insL out).length ≤ out.length + xs.length
  | [], out, hp => ⟨hp, by simp, by simp⟩
  | x :: xs, out, hp => by
    obtain ⟨a, b⟩ := insL_spec x out hp
    obtain ⟨h1, h2, h3⟩ := foldIns xs (insL out x) a
    refine ⟨h1, fun i => ?_, by have := insL_len x out; simp only [List.foldl_cons, List.length_cons]; omega⟩
    simp only [List.foldl_cons, h2, b, List.mem_cons, or_assoc]
end Go.Proofs.YtdopacgaklaaeaaDoor.PDeadTells

namespace Go.Proofs.YtdopacgaklaaeaaDoor.PDeadTells
open Go.RowKit Go.Proofs.YtdopacgaklaaeaaDoorW.PrintWords Go.Proofs.YtdopacgaklaaeaaDoorW.PrintLast Go.Proofs.YtdopacgaklaaeaaDoorW.PrintMore
set_option linter.unusedVariables false
set_option linter.unusedSimpArgs false
/-! A string's bytes as a list. -/
theorem toList_loop (s : ByteArray) : ∀ (d i : Nat) (r : List UInt8), s.size - i = d → ByteArray.toList.loop s i r = r.reverse ++ s.data.toList.drop i := by
  intro d
  induction d with
  | zero =>
    intro i r h
    rw [ByteArray.toList.loop, if_neg (by omega), List.drop_eq_nil_of_le (by rw [Array.length_toList]; show s.size ≤ i; omega)]
    simp
  | succ d ih =>
    intro i r h
    have hi : i < s.size := by omega
    have hl : i < s.data.toList.length := by rw [Array.length_toList]; exact hi
    rw [ByteArray.toList.loop, if_pos hi, ih (i + 1) _ (by omega), List.reverse_cons, List.append_assoc, List.drop_eq_getElem_cons hl]
    congr 1
    simp only [List.cons_append, List.nil_append]
    congr 1
    show s.data[i]! = _
    rw [getElem!_pos s.data i hi]
    simp
theorem toList_data (s : ByteArray) : s.toList = s.data.toList := by
  rw [ByteArray.toList, toList_loop s s.size 0 [] (by omega)]
  simp
end Go.Proofs.YtdopacgaklaaeaaDoor.PDeadTells

namespace Go.Proofs.YtdopacgaklaaeaaDoor.PDeadTells
open Go.RowKit Go.Proofs.YtdopacgaklaaeaaDoorW.PrintWords Go.Proofs.YtdopacgaklaaeaaDoorW.PrintLast Go.Proofs.YtdopacgaklaaeaaDoorW.PrintMore
set_option linter.unusedVariables false
set_option linter.unusedSimpArgs false
open Go.Shelf Go.Sort
/-! Rows of the call's own behind new blocks. -/
theorem compact_len (l : List Int) : (Lib.compact l).length ≤ l.length := by
  unfold Lib.compact Lib.compactUpTo
  rw [List.length_map]
  exact Nat.le_trans (List.length_filter_le _ _) (by simp)
theorem own_grow {w : World} {base e size n : Nat} {v : Value} {xs : List Value} (h : w.ownsRow base e size v n xs) (os : Array Obj) : (grow w os).ownsRow base e size v n xs :=
  own_move h (fun k hk => heap_grow_old w os (own_lt h k hk))
theorem below_grow' {B : Nat} {w0 w : World} (h : Below B w0 w) (os : Array Obj) (hB : B ≤ w.heap.size) : Below B w0 (grow w os) :=
  ⟨h.os, h.tape, h.output, by have := h.size; show w0.heap.size ≤ (w.heap ++ os).size; rw [Array.size_append]; omega, fun k hk => by rw [← h.block k hk]; exact heap_grow_old w os (by omega)⟩
end Go.Proofs.YtdopacgaklaaeaaDoor.PDeadTells
