import Derived.Test.YtdopacgaklaaeaaDoorPDeadRunsx0
import Derived.Test.YtdopacgaklaaeaaDoorPDeadRunshforms
import Derived.Test.YtdopacgaklaaeaaDoorShelf
import Derived.Lib.OwnBridge
import Derived.Test.YtdopacgaklaaeaaDoorPDeadRunshplain0
import Derived.Lib.Hide
-- HAND paling/ins.Def rounds=0 making=1 needs=paling/ins.of
namespace Go.Proofs.YtdopacgaklaaeaaDoor.PDeadRuns
open Go.RowKit Go.Proofs.YtdopacgaklaaeaaDoorW.PrintWords Go.Proofs.YtdopacgaklaaeaaDoorW.PrintLast Go.Proofs.YtdopacgaklaaeaaDoorW.PrintMore
set_option linter.unusedVariables false
set_option linter.unusedSimpArgs false
/-! ins.Def: the register that an instruction writes. -/
def ins_Def.f (a0_0 : Int) (a0_1 : Int) (a0_2 : Int) (a0_3 : Int) (a0_4 : Int) (a0_5 : Int) (a0_6 : Int) : Option Int := some (if fmB 1 a0_0 = true then a0_2 else -1)
theorem ins_Def.calls (a0_0 : Int) (a0_1 : Int) (a0_2 : Int) (a0_3 : Int) (a0_4 : Int) (a0_5 : Int) (a0_6 : Int) (r : Int) (w : World) (h : ins_Def.f a0_0 a0_1 a0_2 a0_3 a0_4 a0_5 a0_6 = some r) (hgl : GlobOK w) :
    Calls Tryd.prog 25 #[.agg #[.int .i64 a0_0, .int .i64 a0_1, .int .i64 a0_2, .int .i64 a0_3, .int .i64 a0_4, .int .i64 a0_5, .int .i64 a0_6]] w fun e w' => e = .returned (.int .i64 r) ∧ Below w.heap.size w w' := by
  unfold ins_Def.f at h
  replace h := Option.some.inj h
  have HGL := Aside0.mk hgl
  clear hgl
  obtain ⟨q, hq⟩ : ∃ q, q = fmB 1 a0_0 := ⟨_, rfl⟩
  rw [← hq] at h
  have HQ := Aside0.mk hq
  clear hq
  go_enter Tryd.func25, Tryd.ntmps25
  go_wp2_with fail
  refine (ins_ofV.calls a0_0 _ (HGL.out.alloc _)).mono ?_
  rintro e w' ⟨rfl, hb⟩
  unfold formV
  rw [← HQ.out]
  have hx2 : w'.cell? ⟨w.heap.size, 2, none⟩ = some (.int .i64 a0_2) := (blk_cell (blk_below (blk_new w _) hb) 2).trans rfl
  have HB := Aside0.mk (below_step ((Below.refl _ _).alloc (Nat.le_refl _) _) hb)
  have hfl := form_field1
  clear hb HGL HQ
  cases q with
  | true =>
    rw [if_pos rfl] at h
    subst h
    go_wp2_with fail
    go_ret
    exact ⟨rfl, HB.out⟩
  | false =>
    rw [if_neg (by simp)] at h
    subst h
    go_wp2_with fail
    go_ret
    exact ⟨rfl, HB.out⟩
end Go.Proofs.YtdopacgaklaaeaaDoor.PDeadRuns

namespace Go.Proofs.YtdopacgaklaaeaaDoor.PDeadRuns
open Go.RowKit Go.Proofs.YtdopacgaklaaeaaDoorW.PrintWords Go.Proofs.YtdopacgaklaaeaaDoorW.PrintLast Go.Proofs.YtdopacgaklaaeaaDoorW.PrintMore
set_option linter.unusedVariables false
set_option linter.unusedSimpArgs false
open Go.Shelf Go.Sort
/-! Rows of the call's own behind new blocks. -/
theorem compact_len (l : List Int) : (Lib.compact l).length ≤ l.length := by
  unfold Lib.compact Lib.compactUpTo
  rw [List.length_map]
  exact Nat.le_trans (List.length_filter_le _ _) (by simp)
theorem own_grow {w : World} {base e size n : Nat} {v : Value} {xs : List Value} (h : w.ownsRow base e size v n xs) (os : Array Obj) : (grow w os).ownsRow base e size v n xs :=
  own_move h (fun k hk => heap_grow_old w os (own_lt h k hk))
theorem below_grow' {B : Nat} {w0 w : World} (h : Below B w0 w) (os : Array Obj) (hB : B ≤ w.heap.size) : Below B w0 (grow w os) :=
  ⟨h.os, h.tape, h.output, by have := h.size; show w0.heap.size ≤ (w.heap ++ os).size; rw [Array.size_append]; omega, fun k hk => by rw [← h.block k hk]; exact heap_grow_old w os (by omega)⟩
end Go.Proofs.YtdopacgaklaaeaaDoor.PDeadRuns

namespace Go.Proofs.YtdopacgaklaaeaaDoor.PDeadRuns
open Go.RowKit Go.Proofs.YtdopacgaklaaeaaDoorW.PrintWords Go.Proofs.YtdopacgaklaaeaaDoorW.PrintLast Go.Proofs.YtdopacgaklaaeaaDoorW.PrintMore
set_option linter.unusedVariables false
set_option linter.unusedSimpArgs false
/-! A number put into a rising row. -/
def insL (out : List Int) (r : Int) : List Int :=
  match out with
  | [] => [r]
  | y :: ys => if y < r then y :: insL ys r else if y = r then y :: ys else r :: y :: ys
theorem insL_len (r : Int) : ∀ out : List Int, (insL out r).length ≤ out.length + 1
  | [] => by simp [insL]
  | y :: ys => by
    have := insL_len r ys
    unfold insL
    split
    · simp only [List.length_cons]; omega
    · split <;> simp only [List.length_cons] <;> omega
theorem insL_spec (r : Int) : ∀ out : List Int, out.Pairwise (· < ·) → (insL out r).Pairwise (· < ·) ∧ ∀ i, i ∈ insL out r ↔ i ∈ out ∨ i = r
  | [], _ => by simp [insL]
  | y :: ys, hp => by
    obtain ⟨p1, p2⟩ := List.pairwise_cons.1 hp
    obtain ⟨h1, h2⟩ := insL_spec r ys p2
    unfold insL
    by_cases c1 : y < r
    · rw [if_pos c1]
      refine ⟨List.pairwise_cons.2 ⟨fun i hi => ?_, h1⟩, fun i => ?_⟩
      · rcases (h2 i).1 hi with a | a
        · exact p1 i a
        · omega
      · simp only [List.mem_cons, h2]
        constructor
        · rintro (a | a | a)
          · exact .inl (.inl a)
          · exact .inl (.inr a)
          · exact .inr a
        · rintro ((a | a) | a)
          · exact .inl a
          · exact .inr (.inl a)
          · exact .inr (.inr a)
    · rw [if_neg c1]
      by_cases c2 : y = r
      · rw [if_pos c2]
        refine ⟨hp, fun i => ?_⟩
        simp only [List.mem_cons]
        constructor
        · exact .inl
        · rintro (a | a)
          · exact a
          · exact .inl (a.trans c2.symm)
      · rw [if_neg c2]
        refine ⟨List.pairwise_cons.2 ⟨fun i hi => ?_, hp⟩, fun i => ?_⟩
        · simp only [List.mem_cons] at hi
          rcases hi with a | a
          · omega
          · have := p1 i a; omega
        · simp only [List.mem_cons]
          constructor
          · rintro (a | a)
            · exact .inr a
            · exact .inl a
          · rintro (a | a)
            · exact .inr a
            · exact .inl a
theorem foldIns : ∀ (xs out : List Int), out.Pairwise (· < ·) → (xs.foldl insL out).Pairwise (· < ·) ∧ (∀ i, i ∈ xs.foldl insL out ↔ i ∈ out ∨ i ∈ xs) ∧ (xs.foldl insL out).length ≤ out.length + xs.length
  | [], out, hp => ⟨hp, by simp, by simp⟩
  | x :: xs, out, hp => by
    obtain ⟨a, b⟩ := insL_spec x out hp
    obtain ⟨h1, h2, h3⟩ := foldIns xs (insL out x) a
    refine ⟨h1, fun i => ?_, by have := insL_len x out; simp only [List.foldl_cons, List.length_cons]; omega⟩
    simp only [List.foldl_cons, h2, b, List.mem_cons, or_assoc]
end Go.Proofs.YtdopacgaklaaeaaDoor.PDeadRuns

namespace Go.Proofs.YtdopacgaklaaeaaDoor.PDeadRuns
open Go.RowKit Go.Proofs.YtdopacgaklaaeaaDoorW.PrintWords Go.Proofs.YtdopacgaklaaeaaDoorW.PrintLast Go.Proofs.YtdopacgaklaaeaaDoorW.PrintMore
set_option linter.unusedVariables false
set_option linter.unusedSimpArgs false
open Go.Shelf Go.Sort
/-! ins.regs: registers, rising, each once, without those below 0. -/
def useRegs (l : List Int) : List Int := Lib.compact ((l.filter (fun x => !decide (x < 0))).mergeSort (fun x y => decide (x ≤ y)))
theorem useRegs_nil : useRegs [] = [] := by simp [useRegs, Lib.compact, Lib.compactUpTo]
theorem below0.gives (x : Int) (W : World) : FnGives Tryd.prog 91 #[] #[.int .i64 x] (.bool (decide (x < 0))) W := by
  show Calls Tryd.prog 91 #[.int .i64 x] W _
  go_enter Tryd.func91, Tryd.ntmps91
  go_wp2
  all_goals (go_ret; exact ⟨by simp_all, 0, rfl⟩)
set_option maxHeartbeats 1000000 in
theorem delete_nil (w : World) : Calls Tryd.prog 66 #[.slice none 0 0, .func (.func 91) #[] #[]] w fun e w' => e = .returned (.slice none 0 0) ∧ Below w.heap.size w w' := by
  have hcon := fun W => Tryd.slices_IndexFunc_empty (α := Int) none 0 (.func (.func 91) #[] #[]) W
  go_enter Tryd.func66, Tryd.ntmps66
  go_wp2_with (go_at_call 78; refine (hcon _).mono ?_; rintro e w' ⟨rfl, rfl⟩)
  go_ret
  exact ⟨rfl, Below.refl _ _⟩
set_option maxHeartbeats 1000000 in
theorem ins_regs.calls (base : Nat) (v : Value) (l : List Int) (w : World) (h : w.ownsRow base 3 1 v l.length (l.map (Value.int .i64))) (hlen : l.length ≤ 1000000) (hbase : base ≤ w.heap.size) :
    Calls Tryd.prog 82 #[v] w fun e w' => ∃ v' : Value, e = .returned v' ∧ w'.ownsRow base 3 1 v' (useRegs l).length ((useRegs l).map (Value.int .i64)) ∧ Below base w w' := by
  by_cases hv : v = .slice none 0 0
  · subst hv
    have hl : l = [] := by
      rcases h.2 with ⟨_, h0⟩ | ⟨g, cap, cur, e0, _⟩
      · exact List.eq_nil_of_length_eq_zero h0
      · cases e0
    subst hl
    clear h
    go_enter Tryd.func82, Tryd.ntmps82
    go_wp2_with (go_at_call 66; refine (delete_nil _).mono ?_; rintro e w1 ⟨rfl, hb1⟩; have HB := Aside0.mk hb1; clear hb1; refine Hid.out ?_)
    refine Lib.hid ?_
    go_wp2_with (go_at_call 79; refine (Tryd.slices_Sort_int_none none 0 _).mono ?_; rintro e w2 ⟨rfl, rfl⟩; refine Hid.out ?_)
    refine Lib.hid ?_
    go_wp2_with (go_at_call 80; refine (Tryd.slices_Compact_int_empty none 0 _).mono ?_; rintro e w3 ⟨rfl, rfl⟩; refine Hid.out ?_)
    refine Lib.hid ?_
    go_wp2
    go_ret
    rw [useRegs_nil]
    exact ⟨_, rfl, ⟨rfl, .inl ⟨rfl, rfl⟩⟩, HB.out.mono hbase⟩
  · obtain ⟨g, cap, rfl, hg, hlt, hn, hm, hl, hH⟩ := Lib.holds_of_ownsRow h hv
    obtain ⟨F, hF⟩ : ∃ F, F = l.filter (fun x => !decide (x < 0)) := ⟨_, rfl⟩
    have hFl : F.length ≤ l.length := by rw [hF]; exact List.length_filter_le _ _
    obtain ⟨S, hS⟩ : ∃ S, S = F.mergeSort (fun x y => decide (x ≤ y)) := ⟨_, rfl⟩
    have hSl : S.length = F.length := by rw [hS, List.length_mergeSort]
    have hR : useRegs l = Lib.compact S := by rw [useRegs, hS, hF]
    rw [hR]
    have hcl : (Lib.compact S).length ≤ S.length := compact_len S
    have c1 := Tryd.slices_DeleteFunc (Value.int .i64) (fun _ => rfl) (fun x => decide (x < 0)) 91 #[] (enters_of Tryd.func91 (by kernel_rfl) rfl) 0 Tryd.zeroValue3 g 0 cap l.toArray w (fun W x _ => below0.gives x W) (fun n os dk x _ => below0.gives x _) hH (by simp; omega) (by simpa using hn)
    change Calls Tryd.prog 66 _ _ _ at c1
    simp only [List.size_toArray, List.toList_toArray] at c1
    rw [← hF] at c1
    have own1 : ∀ q, (putRow (Value.int .i64) (Sort.ahead w q) g 0 (F ++ List.replicate (l.length - F.length) 0).toArray).ownsRow base 3 1 (.slice (some ⟨g, 0, none⟩) F.length cap) F.length (F.map (Value.int .i64)) := fun q => by
      have := Lib.ownsRow_putRow (q := q) (k := F.length) (ys := F ++ List.replicate (l.length - F.length) 0) h (by simp; omega) hFl
      simpa using this
    have below1 : ∀ q, Below base w (putRow (Value.int .i64) (Sort.ahead w q) g 0 (F ++ List.replicate (l.length - F.length) 0).toArray) := fun q => Lib.below_putRow (Below.refl _ _) hg
    have O1 := Aside0.mk own1
    have B1 := Aside0.mk below1
    have HLT := Aside0.mk hlt
    have HL := Aside0.mk (And.intro hlen (And.intro hFl (And.intro hSl (And.intro hcl hn))))
    have HS := Aside0.mk hS
    clear own1 below1 hH h hv hF hR hFl hSl hcl hn hm hlt hl hlen hS
    go_enter Tryd.func82, Tryd.ntmps82
    go_wp2_with (go_at_call 66; refine c1.mono ?_; rintro e w1 ⟨rfl, q, hw1⟩; have o1 := Aside0.mk (O1.out q); have b1 := Aside0.mk (B1.out q); rw [← hw1] at o1 b1; clear hw1 c1; refine Hid.out ?_)
    refine Lib.hid ?_
    obtain ⟨g1, cap1, e1, _, hlt1, hn1, _, _, hH1⟩ := Lib.holds_of_ownsRow o1.out (by simp)
    injection e1 with ea _ ec
    injection ea with ea
    injection ea with ea
    subst ea ec
    have c2 := Tryd.slices_Sort_int g 0 cap F w1 hH1 hlt1 (by have := HL.out; omega)
    change Calls Tryd.prog 79 _ _ _ at c2
    rw [← HS.out] at c2
    have O2 := Aside0.mk (fun (n : Nat) (os : Array Obj) => own_grow (by have := Lib.ownsRow_putRow (q := n) (k := F.length) (ys := S) o1.out HL.out.2.2.1 (Nat.le_refl _); rw [List.take_of_length_le (by have := HL.out; omega)] at this; exact this : (putRow (Value.int .i64) (Sort.ahead w1 n) g 0 S.toArray).ownsRow base 3 1 (.slice (some ⟨g, 0, none⟩) F.length cap) F.length (S.map (Value.int .i64))) os)
    have B2 := Aside0.mk (fun (n : Nat) (os : Array Obj) => below_grow' (Lib.below_putRow (enc := Value.int .i64) (q := n) (d := S.toArray) b1.out hg) os (by have := b1.out.size; simp [putRow, mapBlock, Sort.ahead]; omega))
    clear hH1 hlt1 hn1
    go_wp2_with (go_at_call 79; refine c2.mono ?_; rintro e w2 ⟨rfl, n, os, hw2⟩; have o2 := Aside0.mk (O2.out n os); have b2 := Aside0.mk (B2.out n os); rw [← hw2] at o2 b2; clear hw2 c2; refine Hid.out ?_)
    refine Lib.hid ?_
    clear O1 O2 B1 B2 o1 b1
    have o3 := o2.out
    rw [← HL.out.2.2.1] at o3
    obtain ⟨g1, cap1, e1, _, hlt1, hn1, _, _, hH1⟩ := Lib.holds_of_ownsRow o3 (by simp)
    injection e1 with ea _ ec
    injection ea with ea
    injection ea with ea
    subst ea ec
    have c3 := Tryd.slices_Compact_int g 0 cap S w2 hH1 (by have := HL.out; omega) (by have := HL.out; omega)
    change Calls Tryd.prog 80 _ _ _ at c3
    rw [HL.out.2.2.1] at c3
    have O3 := Aside0.mk (fun (q : Nat) => (by
      have := Lib.ownsRow_putRow (q := q) (k := (Lib.compact S).length) (ys := Lib.compact S ++ List.replicate (F.length - (Lib.compact S).length) 0) o2.out (by have := HL.out; simp; omega) (by have := HL.out; omega)
      simpa using this : (putRow (Value.int .i64) (Sort.ahead w2 q) g 0 (Lib.compact S ++ List.replicate (F.length - (Lib.compact S).length) 0).toArray).ownsRow base 3 1 (.slice (some ⟨g, 0, none⟩) (Lib.compact S).length cap) (Lib.compact S).length ((Lib.compact S).map (Value.int .i64))))
    have B3 := Aside0.mk (fun (q : Nat) => Lib.below_putRow (enc := Value.int .i64) (q := q) (d := (Lib.compact S ++ List.replicate (F.length - (Lib.compact S).length) 0).toArray) b2.out hg)
    clear hH1 hlt1 hn1 o3
    go_wp2_with (go_at_call 80; refine c3.mono ?_; rintro e w3 ⟨rfl, q, hw3⟩; have o4 := Aside0.mk (O3.out q); have b4 := Aside0.mk (B3.out q); rw [← hw3] at o4 b4; clear hw3 c3; refine Hid.out ?_)
    refine Lib.hid ?_
    go_wp2
    go_ret
    exact ⟨_, rfl, o4.out, b4.out⟩
end Go.Proofs.YtdopacgaklaaeaaDoor.PDeadRuns
