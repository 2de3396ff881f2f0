import Derived.Test.YtndhhnhhnkkpbaaPLevelMorex0
import Derived.Test.YtndhhnhhnkkpbaaPLevelMorehmap
import Derived.Test.YtndhhnhhnkkpbaaShelf
namespace Go.Proofs.Ytndhhnhhnkkpbaa.PLevelMore
open Go.RowKit Go.Proofs.YtndhhnhhnkkpbaaW.PrintWords Go.Proofs.YtndhhnhhnkkpbaaW.PrintLast Go.Proofs.YtndhhnhhnkkpbaaW.PrintMore
set_option linter.unusedVariables false
set_option linter.unusedSimpArgs false
open Go.Maps Go.Sort Go.Shelf

theorem sorted_of {ss : List Int} (hn : ss.Nodup) : ((ss.mergeSort (fun x y => decide (x ≤ y))).Pairwise (· < ·)) ∧ (∀ i, i ∈ ss.mergeSort (fun x y => decide (x ≤ y)) ↔ i ∈ ss) ∧ (ss.mergeSort (fun x y => decide (x ≤ y))).length = ss.length := by
  have hp := List.mergeSort_perm ss (fun x y => decide (x ≤ y))
  refine ⟨?_, fun i => hp.mem_iff, hp.length_eq⟩
  have h1 : (ss.mergeSort (fun x y => decide (x ≤ y))).Pairwise (fun x y => decide (x ≤ y) = true) := List.pairwise_mergeSort (fun a b c h1 h2 => by simp at *; omega) (fun a b => by simp; omega) ss
  have h2 : (ss.mergeSort (fun x y => decide (x ≤ y))).Nodup := hp.nodup_iff.2 hn
  have h3 := h1.and (List.nodup_iff_pairwise_ne.1 h2)
  exact h3.imp (fun ⟨a, b⟩ => by simp at a; omega)

theorem keysBool.calls (b : Nat) (W : World) : Calls Try.prog 23 #[.map (some b)] W fun e w' => e = .returned (.func (.func 33) #[] #[.pointer (some ⟨W.heap.size, 0, none⟩)]) ∧ w' = W.alloc (.cells #[.map (some b)] 45) :=
  (callsIn_wide (n := 6)).1 (AnyZI.keys_in Try.lay_maps_Keys_map_int_bool_int_bool Fence.wide 6 trivial rfl (some b) W)
theorem sortsBool (m : Nat) : AnyZI.SortsIn Try.prog Try.lay_slices_Sorted_int_ren Fence.wide m :=
  ⟨fun blk off cap ss W hH hblk hsz => callsIn_wide.2 (AnyM.slices_Sort_int Try.lay_slices_Sort_int_int blk off cap ss W hH hblk hsz),
   fun p cap W => callsIn_wide.2 (AnyM.slices_Sort_int_none Try.lay_slices_Sort_int_int p cap W)⟩
theorem R_ints {w : World} {base : Nat} {v : Value} {xs : List Int} (h : w.ownsRow base 3 1 v xs.length (xs.map encZ)) : Kd.R (Kd.int .i64) 3 w base (fun _ => True) v xs :=
  Kd.R_of_own h (fun _ _ => trivial)
set_option maxHeartbeats 1000000 in
/-- slices.Sorted(maps.Keys(m)): the keys, rising, each once. -/
theorem sortedBool.calls (b n : Nat) (f : Int → Option Value) (w : World) (h : IM w b f n) (hwf : ∀ i, (f i).isSome = true → (Lit.int .i64 i).wf = true) (hn : n * 8 ≤ 140737488355328) :
    Calls Try.prog 22 #[.func (.func 33) #[] #[.pointer (some ⟨w.heap.size, 0, none⟩)]] (w.alloc (.cells #[.map (some b)] 45)) fun e w' => ∃ (v : Value) (L : List Int), e = .returned v ∧ L.Pairwise (· < ·) ∧ (∀ i, i ∈ L ↔ (f i).isSome = true) ∧ L.length = n ∧ Kd.R (Kd.int .i64) 3 w' (w.heap.size + 1) (fun _ => True) v L ∧ Below (w.heap.size + 1) (w.alloc (.cells #[.map (some b)] 45)) w' := by
  obtain ⟨D0, hown, hsz, hlen, hnd, hmem⟩ := h.owns (P := Try.prog) (kt := 3) Try.underlying3 hwf (by unfold maxLen; omega)
  have hbl := hown.lt
  have hseq : SeqGives Fence.wide 2 Try.prog 33 #[.pointer (some ⟨w.heap.size, 0, none⟩)] encZ (fun ss => ss.Perm (intKeys D0)) (Maps.size D0) (w.alloc (.cells #[.map (some b)] 45)) :=
    AnyZI.keys_gives (ρ := Try.lay_maps_Keys_map_int_bool_int_bool_ren) { Try.lay_maps_Keys_map_int_bool_int_bool with } Fence.wide _ trivial rfl (by omega) w.heap.size b n D0 _ (by simp) (by simp) (by
      obtain ⟨es, clock, hb, Ft, hs, hD⟩ := hown
      exact ⟨es, clock, (Below.heap_alloc _ _ b hbl).trans hb, Ft, hs, hD⟩)
  have cS := AnyZI.sorted_in Try.lay_slices_Sorted_int Fence.wide 5 trivial trivial trivial trivial rfl (by omega) (sortsBool _) (enters_ Try.func32 (by kernel_rfl) rfl) 33 #[.pointer (some ⟨w.heap.size, 0, none⟩)] trivial (enters_ Try.func33 (by kernel_rfl) rfl) _ _ (by rw [hsz]; unfold maxLen; omega) (by rw [hsz]; exact hn) _ hseq
  change CallsIn _ _ Try.prog 22 _ _ _ at cS
  refine ((callsIn_wide (n := 5)).1 cS).mono ?_
  rintro e w' ⟨v, ss, rfl, hS, hrow, hnil, hb⟩
  obtain ⟨h1, h2, h3⟩ := sorted_of (hS.nodup_iff.2 hnd)
  refine ⟨v, _, rfl, h1, fun i => by rw [h2, hS.mem_iff, hmem], by rw [h3, hS.length_eq, hlen], R_ints (by rw [h3]; have h' : w'.ownsRow _ 3 1 v ss.length _ := hrow; simpa using h'), by simpa using hb⟩
end Go.Proofs.Ytndhhnhhnkkpbaa.PLevelMore
