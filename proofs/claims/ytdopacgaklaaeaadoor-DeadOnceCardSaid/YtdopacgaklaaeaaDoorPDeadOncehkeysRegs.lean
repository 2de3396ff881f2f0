import Derived.Test.YtdopacgaklaaeaaDoorPDeadOncex0
import Derived.Test.YtdopacgaklaaeaaDoorPDeadOncehmaps
import Derived.Test.YtdopacgaklaaeaaDoorShelfS
namespace Go.Proofs.YtdopacgaklaaeaaDoor.PDeadOnce
open Go.RowKit Go.Proofs.YtdopacgaklaaeaaDoorW.PrintWords Go.Proofs.YtdopacgaklaaeaaDoorW.PrintLast Go.Proofs.YtdopacgaklaaeaaDoorW.PrintMore
set_option linter.unusedVariables false
set_option linter.unusedSimpArgs false
open Go.Maps Go.Sort Go.Shelf

theorem lsorted_of {ss : List Int} (hn : ss.Nodup) : ((ss.mergeSort (fun x y => decide (x ≤ y))).Pairwise (· < ·)) ∧ (∀ i, i ∈ ss.mergeSort (fun x y => decide (x ≤ y)) ↔ i ∈ ss) ∧ (ss.mergeSort (fun x y => decide (x ≤ y))).length = ss.length := by
  have hp := List.mergeSort_perm ss (fun x y => decide (x ≤ y))
  refine ⟨?_, fun i => hp.mem_iff, hp.length_eq⟩
  have h1 : (ss.mergeSort (fun x y => decide (x ≤ y))).Pairwise (fun x y => decide (x ≤ y) = true) := List.pairwise_mergeSort (fun a b c h1 h2 => by simp at *; omega) (fun a b => by simp; omega) ss
  have h2 : (ss.mergeSort (fun x y => decide (x ≤ y))).Nodup := hp.nodup_iff.2 hn
  have h3 := h1.and (List.nodup_iff_pairwise_ne.1 h2)
  exact h3.imp (fun ⟨a, b⟩ => by simp at a; omega)

theorem keysRegs.calls (b : Nat) (W : World) : Calls Tryd.prog 84 #[.map (some b)] W fun e w' => e = .returned (.func (.func 93) #[] #[.pointer (some ⟨W.heap.size, 0, none⟩)]) ∧ w' = W.alloc (.cells #[.map (some b)] 102) :=
  (callsIn_wide (n := 6)).1 (AnyZI.keys_in Tryd.lay_maps_Keys_paling_live_regs_int_bool Fence.wide 6 trivial rfl (some b) W)
theorem sortsRegs (m : Nat) : AnyZI.SortsIn Tryd.prog Tryd.lay_slices_Sorted_int_ren Fence.wide m :=
  ⟨fun blk off cap ss W hH hblk hsz => callsIn_wide.2 (AnyM.slices_Sort_int Tryd.lay_slices_Sort_int_int blk off cap ss W hH hblk hsz),
   fun p cap W => callsIn_wide.2 (AnyM.slices_Sort_int_none Tryd.lay_slices_Sort_int_int p cap W)⟩
theorem lR_ints {w : World} {base : Nat} {v : Value} {xs : List Int} (h : w.ownsRow base 3 1 v xs.length (xs.map encZ)) : Kd.R (Kd.int .i64) 3 w base (fun _ => True) v xs :=
  Kd.R_of_own h (fun _ _ => trivial)
set_option maxHeartbeats 1000000 in
/-- slices.Sorted(maps.Keys(m)): the keys, rising, each once. -/
theorem sortedRegs.calls (b n : Nat) (f : Int → Option Value) (w : World) (h : IM w b f n) (hwf : ∀ i, (f i).isSome = true → (Lit.int .i64 i).wf = true) (hn : n * 8 ≤ 140737488355328) :
    Calls Tryd.prog 83 #[.func (.func 93) #[] #[.pointer (some ⟨w.heap.size, 0, none⟩)]] (w.alloc (.cells #[.map (some b)] 102)) fun e w' => ∃ (v : Value) (L : List Int), e = .returned v ∧ L.Pairwise (· < ·) ∧ (∀ i, i ∈ L ↔ (f i).isSome = true) ∧ L.length = n ∧ Kd.R (Kd.int .i64) 3 w' (w.heap.size + 1) (fun _ => True) v L ∧ Below (w.heap.size + 1) (w.alloc (.cells #[.map (some b)] 102)) w' := by
  obtain ⟨D0, hown, hsz, hlen, hnd, hmem⟩ := h.owns (P := Tryd.prog) (kt := 3) Tryd.underlying3 hwf (by unfold maxLen; omega)
  have hbl := hown.lt
  have hseq : SeqGives Fence.wide 2 Tryd.prog 93 #[.pointer (some ⟨w.heap.size, 0, none⟩)] encZ (fun ss => ss.Perm (intKeys D0)) (Maps.size D0) (w.alloc (.cells #[.map (some b)] 102)) :=
    AnyZI.keys_gives (ρ := Tryd.lay_maps_Keys_paling_live_regs_int_bool_ren) { Tryd.lay_maps_Keys_paling_live_regs_int_bool with } Fence.wide _ trivial rfl (by omega) w.heap.size b n D0 _ (by simp) (by simp) (by
      obtain ⟨es, clock, hb, Ft, hs, hD⟩ := hown
      exact ⟨es, clock, (Below.heap_alloc _ _ b hbl).trans hb, Ft, hs, hD⟩)
  have cS := AnyZI.sorted_in Tryd.lay_slices_Sorted_int Fence.wide 5 trivial trivial trivial trivial rfl (by omega) (sortsRegs _) (enters_ Tryd.func79 (by kernel_rfl) rfl) 93 #[.pointer (some ⟨w.heap.size, 0, none⟩)] trivial (enters_ Tryd.func93 (by kernel_rfl) rfl) _ _ (by rw [hsz]; unfold maxLen; omega) (by rw [hsz]; exact hn) _ hseq
  change CallsIn _ _ Tryd.prog 83 _ _ _ at cS
  refine ((callsIn_wide (n := 5)).1 cS).mono ?_
  rintro e w' ⟨v, ss, rfl, hS, hrow, hnil, hb⟩
  obtain ⟨h1, h2, h3⟩ := lsorted_of (hS.nodup_iff.2 hnd)
  refine ⟨v, _, rfl, h1, fun i => by rw [h2, hS.mem_iff, hmem], by rw [h3, hS.length_eq, hlen], lR_ints (by rw [h3]; have h' : w'.ownsRow _ 3 1 v ss.length _ := hrow; simpa using h'), by simpa using hb⟩
end Go.Proofs.YtdopacgaklaaeaaDoor.PDeadOnce
