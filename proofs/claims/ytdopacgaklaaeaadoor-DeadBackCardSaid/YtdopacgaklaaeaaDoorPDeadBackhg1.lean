import Derived.Test.YtdopacgaklaaeaaDoorPDeadBackx0
import Derived.Test.YtdopacgaklaaeaaDoorShelf
import Derived.Lib.OwnBridge
import Derived.Test.YtdopacgaklaaeaaDoorPDeadBackhforms
import Derived.Test.YtdopacgaklaaeaaDoorPDeadBackhmaps
import Derived.Test.YtdopacgaklaaeaaDoorShelfS
namespace Go.Proofs.YtdopacgaklaaeaaDoor.PDeadBack
open Go.RowKit Go.Proofs.YtdopacgaklaaeaaDoorW.PrintWords Go.Proofs.YtdopacgaklaaeaaDoorW.PrintLast Go.Proofs.YtdopacgaklaaeaaDoorW.PrintMore
set_option linter.unusedVariables false
set_option linter.unusedSimpArgs false
/-! A string's bytes as a list. -/
theorem toList_loop (s : ByteArray) : ∀ (d i : Nat) (r : List UInt8), s.size - i = d → ByteArray.toList.loop s i r = r.reverse ++ s.data.toList.drop i := by
  intro d
  induction d with
  | zero =>
    intro i r h
    rw [ByteArray.toList.loop, if_neg (by omega), List.drop_eq_nil_of_le (by rw [Array.length_toList]; show s.size ≤ i; omega)]
    simp
  | succ d ih =>
    intro i r h
    have hi : i < s.size := by omega
    have hl : i < s.data.toList.length := by rw [Array.length_toList]; exact hi
    rw [ByteArray.toList.loop, if_pos hi, ih (i + 1) _ (by omega), List.reverse_cons, List.append_assoc, List.drop_eq_getElem_cons hl]
    congr 1
    simp only [List.cons_append, List.nil_append]
    congr 1
    show s.data[i]! = _
    rw [getElem!_pos s.data i hi]
    simp
theorem toList_data (s : ByteArray) : s.toList = s.data.toList := by
  rw [ByteArray.toList, toList_loop s s.size 0 [] (by omega)]
  simp
end Go.Proofs.YtdopacgaklaaeaaDoor.PDeadBack

namespace Go.Proofs.YtdopacgaklaaeaaDoor.PDeadBack
open Go.RowKit Go.Proofs.YtdopacgaklaaeaaDoorW.PrintWords Go.Proofs.YtdopacgaklaaeaaDoorW.PrintLast Go.Proofs.YtdopacgaklaaeaaDoorW.PrintMore
set_option linter.unusedVariables false
set_option linter.unusedSimpArgs false
open Go.Shelf Go.Sort
/-! Rows of the call's own behind new blocks. -/
theorem compact_len (l : List Int) : (Lib.compact l).length ≤ l.length := by
  unfold Lib.compact Lib.compactUpTo
  rw [List.length_map]
  exact Nat.le_trans (List.length_filter_le _ _) (by simp)
theorem own_grow {w : World} {base e size n : Nat} {v : Value} {xs : List Value} (h : w.ownsRow base e size v n xs) (os : Array Obj) : (grow w os).ownsRow base e size v n xs :=
  own_move h (fun k hk => heap_grow_old w os (own_lt h k hk))
theorem below_grow' {B : Nat} {w0 w : World} (h : Below B w0 w) (os : Array Obj) (hB : B ≤ w.heap.size) : Below B w0 (grow w os) :=
  ⟨h.os, h.tape, h.output, by have := h.size; show w0.heap.size ≤ (w.heap ++ os).size; rw [Array.size_append]; omega, fun k hk => by rw [← h.block k hk]; exact heap_grow_old w os (by omega)⟩
end Go.Proofs.YtdopacgaklaaeaaDoor.PDeadBack

-- HAND paling/ins.Def rounds=0 making=1 needs=paling/ins.of
namespace Go.Proofs.YtdopacgaklaaeaaDoor.PDeadBack
open Go.RowKit Go.Proofs.YtdopacgaklaaeaaDoorW.PrintWords Go.Proofs.YtdopacgaklaaeaaDoorW.PrintLast Go.Proofs.YtdopacgaklaaeaaDoorW.PrintMore
set_option linter.unusedVariables false
set_option linter.unusedSimpArgs false
/-! ins.Def: the register that an instruction writes. -/
def ins_Def.f (a0_0 : Int) (a0_1 : Int) (a0_2 : Int) (a0_3 : Int) (a0_4 : Int) (a0_5 : Int) (a0_6 : Int) : Option Int := some (if fmB 1 a0_0 = true then a0_2 else -1)
theorem ins_Def.calls (a0_0 : Int) (a0_1 : Int) (a0_2 : Int) (a0_3 : Int) (a0_4 : Int) (a0_5 : Int) (a0_6 : Int) (r : Int) (w : World) (h : ins_Def.f a0_0 a0_1 a0_2 a0_3 a0_4 a0_5 a0_6 = some r) (hgl : GlobOK w) :
    Calls Tryd.prog 25 #[.agg #[.int .i64 a0_0, .int .i64 a0_1, .int .i64 a0_2, .int .i64 a0_3, .int .i64 a0_4, .int .i64 a0_5, .int .i64 a0_6]] w fun e w' => e = .returned (.int .i64 r) ∧ Below w.heap.size w w' := by
  unfold ins_Def.f at h
  replace h := Option.some.inj h
  have HGL := Aside0.mk hgl
  clear hgl
  obtain ⟨q, hq⟩ : ∃ q, q = fmB 1 a0_0 := ⟨_, rfl⟩
  rw [← hq] at h
  have HQ := Aside0.mk hq
  clear hq
  go_enter Tryd.func25, Tryd.ntmps25
  go_wp2_with fail
  refine (ins_ofV.calls a0_0 _ (HGL.out.alloc _)).mono ?_
  rintro e w' ⟨rfl, hb⟩
  unfold formV
  rw [← HQ.out]
  have hx2 : w'.cell? ⟨w.heap.size, 2, none⟩ = some (.int .i64 a0_2) := (blk_cell (blk_below (blk_new w _) hb) 2).trans rfl
  have HB := Aside0.mk (below_step ((Below.refl _ _).alloc (Nat.le_refl _) _) hb)
  have hfl := form_field1
  clear hb HGL HQ
  cases q with
  | true =>
    rw [if_pos rfl] at h
    subst h
    go_wp2_with fail
    go_ret
    exact ⟨rfl, HB.out⟩
  | false =>
    rw [if_neg (by simp)] at h
    subst h
    go_wp2_with fail
    go_ret
    exact ⟨rfl, HB.out⟩
end Go.Proofs.YtdopacgaklaaeaaDoor.PDeadBack

namespace Go.Proofs.YtdopacgaklaaeaaDoor.PDeadBack
open Go.RowKit Go.Proofs.YtdopacgaklaaeaaDoorW.PrintWords Go.Proofs.YtdopacgaklaaeaaDoorW.PrintLast Go.Proofs.YtdopacgaklaaeaaDoorW.PrintMore
set_option linter.unusedVariables false
set_option linter.unusedSimpArgs false
open Go.Maps Go.Sort Go.Shelf

theorem lsorted_of {ss : List Int} (hn : ss.Nodup) : ((ss.mergeSort (fun x y => decide (x ≤ y))).Pairwise (· < ·)) ∧ (∀ i, i ∈ ss.mergeSort (fun x y => decide (x ≤ y)) ↔ i ∈ ss) ∧ (ss.mergeSort (fun x y => decide (x ≤ y))).length = ss.length := by
  have hp := List.mergeSort_perm ss (fun x y => decide (x ≤ y))
  refine ⟨?_, fun i => hp.mem_iff, hp.length_eq⟩
  have h1 : (ss.mergeSort (fun x y => decide (x ≤ y))).Pairwise (fun x y => decide (x ≤ y) = true) := List.pairwise_mergeSort (fun a b c h1 h2 => by simp at *; omega) (fun a b => by simp; omega) ss
  have h2 : (ss.mergeSort (fun x y => decide (x ≤ y))).Nodup := hp.nodup_iff.2 hn
  have h3 := h1.and (List.nodup_iff_pairwise_ne.1 h2)
  exact h3.imp (fun ⟨a, b⟩ => by simp at a; omega)

theorem keysRegs.calls (b : Nat) (W : World) : Calls Tryd.prog 84 #[.map (some b)] W fun e w' => e = .returned (.func (.func 93) #[] #[.pointer (some ⟨W.heap.size, 0, none⟩)]) ∧ w' = W.alloc (.cells #[.map (some b)] 102) :=
  (callsIn_wide (n := 6)).1 (AnyZI.keys_in Tryd.lay_maps_Keys_paling_live_regs_int_bool Fence.wide 6 trivial rfl (some b) W)
theorem sortsRegs (m : Nat) : AnyZI.SortsIn Tryd.prog Tryd.lay_slices_Sorted_int_ren Fence.wide m :=
  ⟨fun blk off cap ss W hH hblk hsz => callsIn_wide.2 (AnyM.slices_Sort_int Tryd.lay_slices_Sort_int_int blk off cap ss W hH hblk hsz),
   fun p cap W => callsIn_wide.2 (AnyM.slices_Sort_int_none Tryd.lay_slices_Sort_int_int p cap W)⟩
theorem lR_ints {w : World} {base : Nat} {v : Value} {xs : List Int} (h : w.ownsRow base 3 1 v xs.length (xs.map encZ)) : Kd.R (Kd.int .i64) 3 w base (fun _ => True) v xs :=
  Kd.R_of_own h (fun _ _ => trivial)
set_option maxHeartbeats 1000000 in
/-- slices.Sorted(maps.Keys(m)): the keys, rising, each once. -/
theorem sortedRegs.calls (b n : Nat) (f : Int → Option Value) (w : World) (h : IM w b f n) (hwf : ∀ i, (f i).isSome = true → (Lit.int .i64 i).wf = true) (hn : n * 8 ≤ 140737488355328) :
    Calls Tryd.prog 83 #[.func (.func 93) #[] #[.pointer (some ⟨w.heap.size, 0, none⟩)]] (w.alloc (.cells #[.map (some b)] 102)) fun e w' => ∃ (v : Value) (L : List Int), e = .returned v ∧ L.Pairwise (· < ·) ∧ (∀ i, i ∈ L ↔ (f i).isSome = true) ∧ L.length = n ∧ Kd.R (Kd.int .i64) 3 w' (w.heap.size + 1) (fun _ => True) v L ∧ Below (w.heap.size + 1) (w.alloc (.cells #[.map (some b)] 102)) w' := by
  obtain ⟨D0, hown, hsz, hlen, hnd, hmem⟩ := h.owns (P := Tryd.prog) (kt := 3) Tryd.underlying3 hwf (by unfold maxLen; omega)
  have hbl := hown.lt
  have hseq : SeqGives Fence.wide 2 Tryd.prog 93 #[.pointer (some ⟨w.heap.size, 0, none⟩)] encZ (fun ss => ss.Perm (intKeys D0)) (Maps.size D0) (w.alloc (.cells #[.map (some b)] 102)) :=
    AnyZI.keys_gives (ρ := Tryd.lay_maps_Keys_paling_live_regs_int_bool_ren) { Tryd.lay_maps_Keys_paling_live_regs_int_bool with } Fence.wide _ trivial rfl (by omega) w.heap.size b n D0 _ (by simp) (by simp) (by
      obtain ⟨es, clock, hb, Ft, hs, hD⟩ := hown
      exact ⟨es, clock, (Below.heap_alloc _ _ b hbl).trans hb, Ft, hs, hD⟩)
  have cS := AnyZI.sorted_in Tryd.lay_slices_Sorted_int Fence.wide 5 trivial trivial trivial trivial rfl (by omega) (sortsRegs _) (enters_ Tryd.func79 (by kernel_rfl) rfl) 93 #[.pointer (some ⟨w.heap.size, 0, none⟩)] trivial (enters_ Tryd.func93 (by kernel_rfl) rfl) _ _ (by rw [hsz]; unfold maxLen; omega) (by rw [hsz]; exact hn) _ hseq
  change CallsIn _ _ Tryd.prog 83 _ _ _ at cS
  refine ((callsIn_wide (n := 5)).1 cS).mono ?_
  rintro e w' ⟨v, ss, rfl, hS, hrow, hnil, hb⟩
  obtain ⟨h1, h2, h3⟩ := lsorted_of (hS.nodup_iff.2 hnd)
  refine ⟨v, _, rfl, h1, fun i => by rw [h2, hS.mem_iff, hmem], by rw [h3, hS.length_eq, hlen], lR_ints (by rw [h3]; have h' : w'.ownsRow _ 3 1 v ss.length _ := hrow; simpa using h'), by simpa using hb⟩
end Go.Proofs.YtdopacgaklaaeaaDoor.PDeadBack
