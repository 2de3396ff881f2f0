import Derived.Test.YtdopacgaklaaeaaDoorPDeadTellsx0
import Derived.Test.YtdopacgaklaaeaaDoorPDeadTellshforms
import Derived.Test.YtdopacgaklaaeaaDoorPDeadTellshsml
import Derived.Test.YtdopacgaklaaeaaDoorPDeadTellshplain0
import Derived.Test.YtdopacgaklaaeaaDoorShelf
import Derived.Lib.OwnBridge
import Derived.Lib.Hide
-- HAND paling/ins.Def rounds=0 making=1 needs=paling/ins.of
namespace Go.Proofs.YtdopacgaklaaeaaDoor.PDeadTells
open Go.RowKit Go.Proofs.YtdopacgaklaaeaaDoorW.PrintWords Go.Proofs.YtdopacgaklaaeaaDoorW.PrintLast Go.Proofs.YtdopacgaklaaeaaDoorW.PrintMore
set_option linter.unusedVariables false
set_option linter.unusedSimpArgs false
/-! ins.Def: the register that an instruction writes. -/
def ins_Def.f (a0_0 : Int) (a0_1 : Int) (a0_2 : Int) (a0_3 : Int) (a0_4 : Int) (a0_5 : Int) (a0_6 : Int) : Option Int := some (if fmB 1 a0_0 = true then a0_2 else -1)
theorem ins_Def.calls (a0_0 : Int) (a0_1 : Int) (a0_2 : Int) (a0_3 : Int) (a0_4 : Int) (a0_5 : Int) (a0_6 : Int) (r : Int) (w : World) (h : ins_Def.f a0_0 a0_1 a0_2 a0_3 a0_4 a0_5 a0_6 = some r) (hgl : GlobOK w) :
    Calls Tryd.prog 25 #[.agg #[.int .i64 a0_0, .int .i64 a0_1, .int .i64 a0_2, .int .i64 a0_3, .int .i64 a0_4, .int .i64 a0_5, .int .i64 a0_6]] w fun e w' => e = .returned (.int .i64 r) ∧ Below w.heap.size w w' := by
  unfold ins_Def.f at h
  replace h := Option.some.inj h
  have HGL := Aside0.mk hgl
  clear hgl
  obtain ⟨q, hq⟩ : ∃ q, q = fmB 1 a0_0 := ⟨_, rfl⟩
  rw [← hq] at h
  have HQ := Aside0.mk hq
  clear hq
  go_enter Tryd.func25, Tryd.ntmps25
  go_wp2_with fail
  refine (ins_ofV.calls a0_0 _ (HGL.out.alloc _)).mono ?_
  rintro e w' ⟨rfl, hb⟩
  unfold formV
  rw [← HQ.out]
  have hx2 : w'.cell? ⟨w.heap.size, 2, none⟩ = some (.int .i64 a0_2) := (blk_cell (blk_below (blk_new w _) hb) 2).trans rfl
  have HB := Aside0.mk (below_step ((Below.refl _ _).alloc (Nat.le_refl _) _) hb)
  have hfl := form_field1
  clear hb HGL HQ
  cases q with
  | true =>
    rw [if_pos rfl] at h
    subst h
    go_wp2_with fail
    go_ret
    exact ⟨rfl, HB.out⟩
  | false =>
    rw [if_neg (by simp)] at h
    subst h
    go_wp2_with fail
    go_ret
    exact ⟨rfl, HB.out⟩
end Go.Proofs.YtdopacgaklaaeaaDoor.PDeadTells

namespace Go.Proofs.YtdopacgaklaaeaaDoor.PDeadTells
open Go.RowKit Go.Proofs.YtdopacgaklaaeaaDoorW.PrintWords Go.Proofs.YtdopacgaklaaeaaDoorW.PrintLast Go.Proofs.YtdopacgaklaaeaaDoorW.PrintMore
set_option linter.unusedVariables false
set_option linter.unusedSimpArgs false
open Go.Shelf Go.Sort
/-! ins.regs: registers, rising, each once, without those below 0. -/
def useRegs (l : List Int) : List Int := Lib.compact ((l.filter (fun x => !decide (x < 0))).mergeSort (fun x y => decide (x ≤ y)))
theorem useRegs_nil : useRegs [] = [] := by simp [useRegs, Lib.compact, Lib.compactUpTo]
theorem below0.gives (x : Int) (W : World) : FnGives Tryd.prog 91 #[] #[.int .i64 x] (.bool (decide (x < 0))) W := by
  show Calls Tryd.prog 91 #[.int .i64 x] W _
  go_enter Tryd.func91, Tryd.ntmps91
  go_wp2
  all_goals (go_ret; exact ⟨by simp_all, 0, rfl⟩)
set_option maxHeartbeats 1000000 in
theorem delete_nil (w : World) : Calls Tryd.prog 66 #[.slice none 0 0, .func (.func 91) #[] #[]] w fun e w' => e = .returned (.slice none 0 0) ∧ Below w.heap.size w w' := by
  have hcon := fun W => Tryd.slices_IndexFunc_empty (α := Int) none 0 (.func (.func 91) #[] #[]) W
  go_enter Tryd.func66, Tryd.ntmps66
  go_wp2_with (go_at_call 78; refine (hcon _).mono ?_; rintro e w' ⟨rfl, rfl⟩)
  go_ret
  exact ⟨rfl, Below.refl _ _⟩
set_option maxHeartbeats 1000000 in
theorem ins_regs.calls (base : Nat) (v : Value) (l : List Int) (w : World) (h : w.ownsRow base 3 1 v l.length (l.map (Value.int .i64))) (hlen : l.length ≤ 1000000) (hbase : base ≤ w.heap.size) :
    Calls Tryd.prog 82 #[v] w fun e w' => ∃ v' : Value, e = .returned v' ∧ w'.ownsRow base 3 1 v' (useRegs l).length ((useRegs l).map (Value.int .i64)) ∧ Below base w w' := by
  by_cases hv : v = .slice none 0 0
  · subst hv
    have hl : l = [] := by
      rcases h.2 with ⟨_, h0⟩ | ⟨g, cap, cur, e0, _⟩
      · exact List.eq_nil_of_length_eq_zero h0
      · cases e0
    subst hl
    clear h
    go_enter Tryd.func82, Tryd.ntmps82
    go_wp2_with (go_at_call 66; refine (delete_nil _).mono ?_; rintro e w1 ⟨rfl, hb1⟩; have HB := Aside0.mk hb1; clear hb1; refine Hid.out ?_)
    refine Lib.hid ?_
    go_wp2_with (go_at_call 79; refine (Tryd.slices_Sort_int_none none 0 _).mono ?_; rintro e w2 ⟨rfl, rfl⟩; refine Hid.out ?_)
    refine Lib.hid ?_
    go_wp2_with (go_at_call 80; refine (Tryd.slices_Compact_int_empty none 0 _).mono ?_; rintro e w3 ⟨rfl, rfl⟩; refine Hid.out ?_)
    refine Lib.hid ?_
    go_wp2
    go_ret
    rw [useRegs_nil]
    exact ⟨_, rfl, ⟨rfl, .inl ⟨rfl, rfl⟩⟩, HB.out.mono hbase⟩
  · obtain ⟨g, cap, rfl, hg, hlt, hn, hm, hl, hH⟩ := Lib.holds_of_ownsRow h hv
    obtain ⟨F, hF⟩ : ∃ F, F = l.filter (fun x => !decide (x < 0)) := ⟨_, rfl⟩
    have hFl : F.length ≤ l.length := by rw [hF]; exact List.length_filter_le _ _
    obtain ⟨S, hS⟩ : ∃ S, S = F.mergeSort (fun x y => decide (x ≤ y)) := ⟨_, rfl⟩
    have hSl : S.length = F.length := by rw [hS, List.length_mergeSort]
    have hR : useRegs l = Lib.compact S := by rw [useRegs, hS, hF]
    rw [hR]
    have hcl : (Lib.compact S).length ≤ S.length := compact_len S
    have c1 := Tryd.slices_DeleteFunc (Value.int .i64) (fun _ => rfl) (fun x => decide (x < 0)) 91 #[] (enters_of Tryd.func91 (by kernel_rfl) rfl) 0 Tryd.zeroValue3 g 0 cap l.toArray w (fun W x _ => below0.gives x W) (fun n os dk x _ => below0.gives x _) hH (by simp; omega) (by simpa using hn)
    change Calls Tryd.prog 66 _ _ _ at c1
    simp only [List.size_toArray, List.toList_toArray] at c1
    rw [← hF] at c1
    have own1 : ∀ q, (putRow (Value.int .i64) (Sort.ahead w q) g 0 (F ++ List.replicate (l.length - F.length) 0).toArray).ownsRow base 3 1 (.slice (some ⟨g, 0, none⟩) F.length cap) F.length (F.map (Value.int .i64)) := fun q => by
      have := Lib.ownsRow_putRow (q := q) (k := F.length) (ys := F ++ List.replicate (l.length - F.length) 0) h (by simp; omega) hFl
      simpa using this
    have below1 : ∀ q, Below base w (putRow (Value.int .i64) (Sort.ahead w q) g 0 (F ++ List.replicate (l.length - F.length) 0).toArray) := fun q => Lib.below_putRow (Below.refl _ _) hg
    have O1 := Aside0.mk own1
    have B1 := Aside0.mk below1
    have HLT := Aside0.mk hlt
    have HL := Aside0.mk (And.intro hlen (And.intro hFl (And.intro hSl (And.intro hcl hn))))
    have HS := Aside0.mk hS
    clear own1 below1 hH h hv hF hR hFl hSl hcl hn hm hlt hl hlen hS
    go_enter Tryd.func82, Tryd.ntmps82
    go_wp2_with (go_at_call 66; refine c1.mono ?_; rintro e w1 ⟨rfl, q, hw1⟩; have o1 := Aside0.mk (O1.out q); have b1 := Aside0.mk (B1.out q); rw [← hw1] at o1 b1; clear hw1 c1; refine Hid.out ?_)
    refine Lib.hid ?_
    obtain ⟨g1, cap1, e1, _, hlt1, hn1, _, _, hH1⟩ := Lib.holds_of_ownsRow o1.out (by simp)
    injection e1 with ea _ ec
    injection ea with ea
    injection ea with ea
    subst ea ec
    have c2 := Tryd.slices_Sort_int g 0 cap F w1 hH1 hlt1 (by have := HL.out; omega)
    change Calls Tryd.prog 79 _ _ _ at c2
    rw [← HS.out] at c2
    have O2 := Aside0.mk (fun (n : Nat) (os : Array Obj) => own_grow (by have := Lib.ownsRow_putRow (q := n) (k := F.length) (ys := S) o1.out HL.out.2.2.1 (Nat.le_refl _); rw [List.take_of_length_le (by have := HL.out; omega)] at this; exact this : (putRow (Value.int .i64) (Sort.ahead w1 n) g 0 S.toArray).ownsRow base 3 1 (.slice (some ⟨g, 0, none⟩) F.length cap) F.length (S.map (Value.int .i64))) os)
    have B2 := Aside0.mk (fun (n : Nat) (os : Array Obj) => below_grow' (Lib.below_putRow (enc := Value.int .i64) (q := n) (d := S.toArray) b1.out hg) os (by have := b1.out.size; simp [putRow, mapBlock, Sort.ahead]; omega))
    clear hH1 hlt1 hn1
    go_wp2_with (go_at_call 79; refine c2.mono ?_; rintro e w2 ⟨rfl, n, os, hw2⟩; have o2 := Aside0.mk (O2.out n os); have b2 := Aside0.mk (B2.out n os); rw [← hw2] at o2 b2; clear hw2 c2; refine Hid.out ?_)
    refine Lib.hid ?_
    clear O1 O2 B1 B2 o1 b1
    have o3 := o2.out
    rw [← HL.out.2.2.1] at o3
    obtain ⟨g1, cap1, e1, _, hlt1, hn1, _, _, hH1⟩ := Lib.holds_of_ownsRow o3 (by simp)
    injection e1 with ea _ ec
    injection ea with ea
    injection ea with ea
    subst ea ec
    have c3 := Tryd.slices_Compact_int g 0 cap S w2 hH1 (by have := HL.out; omega) (by have := HL.out; omega)
    change Calls Tryd.prog 80 _ _ _ at c3
    rw [HL.out.2.2.1] at c3
    have O3 := Aside0.mk (fun (q : Nat) => (by
      have := Lib.ownsRow_putRow (q := q) (k := (Lib.compact S).length) (ys := Lib.compact S ++ List.replicate (F.length - (Lib.compact S).length) 0) o2.out (by have := HL.out; simp; omega) (by have := HL.out; omega)
      simpa using this : (putRow (Value.int .i64) (Sort.ahead w2 q) g 0 (Lib.compact S ++ List.replicate (F.length - (Lib.compact S).length) 0).toArray).ownsRow base 3 1 (.slice (some ⟨g, 0, none⟩) (Lib.compact S).length cap) (Lib.compact S).length ((Lib.compact S).map (Value.int .i64))))
    have B3 := Aside0.mk (fun (q : Nat) => Lib.below_putRow (enc := Value.int .i64) (q := q) (d := (Lib.compact S ++ List.replicate (F.length - (Lib.compact S).length) 0).toArray) b2.out hg)
    clear hH1 hlt1 hn1 o3
    go_wp2_with (go_at_call 80; refine c3.mono ?_; rintro e w3 ⟨rfl, q, hw3⟩; have o4 := Aside0.mk (O3.out q); have b4 := Aside0.mk (B3.out q); rw [← hw3] at o4 b4; clear hw3 c3; refine Hid.out ?_)
    refine Lib.hid ?_
    go_wp2
    go_ret
    exact ⟨_, rfl, o4.out, b4.out⟩
end Go.Proofs.YtdopacgaklaaeaaDoor.PDeadTells

-- HAND paling/ins.Uses rounds=0 making=1 needs=paling/ins.of
namespace Go.Proofs.YtdopacgaklaaeaaDoor.PDeadTells
open Go.RowKit Go.Proofs.YtdopacgaklaaeaaDoorW.PrintWords Go.Proofs.YtdopacgaklaaeaaDoorW.PrintLast Go.Proofs.YtdopacgaklaaeaaDoorW.PrintMore
set_option linter.unusedVariables false
set_option linter.unusedSimpArgs false
open Go.Shelf
/-! ins.Uses: the registers that an instruction reads. -/
set_option maxRecDepth 100000 in
theorem fmTab : (List.range 14).all (fun k => (fmB 2 (k : Int) || !fmB 3 (k : Int)) && (fmB 3 (k : Int) || !fmB 8 (k : Int))) = true := by kernel_rfl
theorem fmTab_at (k : Int) (h : 0 ≤ k ∧ k < 14) : (fmB 2 k = false → fmB 3 k = false) ∧ (fmB 3 k = false → fmB 8 k = false) := by
  have h1 := List.all_eq_true.1 fmTab k.toNat (by rw [List.mem_range]; omega)
  rw [show ((k.toNat : Nat) : Int) = k by omega] at h1
  generalize fmB 2 k = x at h1 ⊢
  generalize fmB 3 k = y at h1 ⊢
  generalize fmB 8 k = z at h1 ⊢
  revert h1
  cases x <;> cases y <;> cases z <;> simp
theorem fm32 (k : Int) : fmB 2 k = false → fmB 3 k = false := by
  by_cases h : 0 ≤ k ∧ k < 14
  · exact (fmTab_at k h).1
  · intro _; exact fmB_out 3 (by decide) k h
theorem fm83 (k : Int) : fmB 3 k = false → fmB 8 k = false := by
  by_cases h : 0 ≤ k ∧ k < 14
  · exact (fmTab_at k h).2
  · intro _; exact fmB_out 8 (by decide) k h
theorem infoInt : (Tryd.prog.info? 3).map (fun i => (i.zero, i.size, i.bytes)) = some (some (.int .i64 0), 1, 8) := by kernel_rfl
theorem own_lower {w : World} {base base' e size n : Nat} {v : Value} {xs : List Value} (h : w.ownsRow base e size v n xs) (hb : base' ≤ base) : w.ownsRow base' e size v n xs := by
  refine ⟨h.1, h.2.imp id ?_⟩
  rintro ⟨g, cap, cur, h1, h2, h3⟩
  exact ⟨g, cap, cur, h1, Nat.le_trans hb h2, h3⟩
def useL (k d a b : Int) : List Int := (if fmB 2 k = true then [a] else []) ++ (if fmB 3 k = true then [b] else []) ++ (if fmB 8 k = true then [d] else [])
def ins_Uses.f (a0_0 : Int) (a0_1 : Int) (a0_2 : Int) (a0_3 : Int) (a0_4 : Int) (a0_5 : Int) (a0_6 : Int) : Option (List Int) := some (useRegs (useL a0_0 a0_2 a0_3 a0_4))
set_option maxHeartbeats 4000000 in
set_option maxRecDepth 100000 in
theorem ins_Uses.calls (a0_0 : Int) (a0_1 : Int) (a0_2 : Int) (a0_3 : Int) (a0_4 : Int) (a0_5 : Int) (a0_6 : Int) (r : List Int) (w : World) (h : ins_Uses.f a0_0 a0_1 a0_2 a0_3 a0_4 a0_5 a0_6 = some r) (hgl : GlobOK w) :
    Calls Tryd.prog 72 #[.agg #[.int .i64 a0_0, .int .i64 a0_1, .int .i64 a0_2, .int .i64 a0_3, .int .i64 a0_4, .int .i64 a0_5, .int .i64 a0_6]] w fun e w' => ∃ v0_ : Value, e = .returned (v0_) ∧ Kd.R (Kd.int .i64) 3 w' w.heap.size (fun _ => True) v0_ r ∧ Below w.heap.size w w' := by
  unfold ins_Uses.f at h
  replace h := Option.some.inj h
  subst h
  have HGL := Aside0.mk hgl
  clear hgl
  unfold useL
  obtain ⟨q0, h0⟩ : ∃ b, b = fmW a0_0 := ⟨_, rfl⟩
  obtain ⟨q1, h1⟩ : ∃ b, b = fmB 1 a0_0 := ⟨_, rfl⟩
  obtain ⟨q2, h2⟩ : ∃ b, b = fmB 2 a0_0 := ⟨_, rfl⟩
  obtain ⟨q3, h3⟩ : ∃ b, b = fmB 3 a0_0 := ⟨_, rfl⟩
  obtain ⟨q4, h4⟩ : ∃ b, b = fmB 4 a0_0 := ⟨_, rfl⟩
  obtain ⟨q5, h5⟩ : ∃ b, b = fmB 5 a0_0 := ⟨_, rfl⟩
  obtain ⟨q6, h6⟩ : ∃ b, b = fmB 6 a0_0 := ⟨_, rfl⟩
  obtain ⟨q7, h7⟩ : ∃ b, b = fmB 7 a0_0 := ⟨_, rfl⟩
  obtain ⟨q8, h8⟩ : ∃ b, b = fmB 8 a0_0 := ⟨_, rfl⟩
  obtain ⟨q9, h9⟩ : ∃ b, b = fmB 9 a0_0 := ⟨_, rfl⟩
  rw [← h2, ← h3, ← h8]
  have HV := Aside0.mk (show formV a0_0 = .agg #[.string q0, .bool q1, .bool q2, .bool q3, .bool q4, .bool q5, .bool q6, .bool q7, .bool q8, .bool q9] by unfold formV; rw [← h0, ← h1, ← h2, ← h3, ← h4, ← h5, ← h6, ← h7, ← h8, ← h9])
  have H32 := Aside0.mk (show q2 = false → q3 = false by rw [h2, h3]; exact fm32 a0_0)
  have H83 := Aside0.mk (show q3 = false → q8 = false by rw [h3, h8]; exact fm83 a0_0)
  clear h0 h1 h2 h3 h4 h5 h6 h7 h8 h9
  go_enter Tryd.func72, Tryd.ntmps72
  go_wp2_with fail
  refine (ins_ofV.calls a0_0 _ (HGL.out.alloc _)).mono ?_
  rintro e w' ⟨rfl, hb⟩
  rw [HV.out]
  have BK1 := Aside0.mk (blk_below (blk_new w (.cells #[.int .i64 a0_0, .int .i64 a0_1, .int .i64 a0_2, .int .i64 a0_3, .int .i64 a0_4, .int .i64 a0_5, .int .i64 a0_6] 28 (0, 0))) hb)
  have HB := Aside0.mk (below_step ((Below.refl _ _).alloc (Nat.le_refl _) _) hb)
  clear hb HGL HV
  go_upto_if 9 with fail
  have BK3 := Aside0.mk (blk_new w' (.cells #[.string q0, .bool q1, .bool q2, .bool q3, .bool q4, .bool q5, .bool q6, .bool q7, .bool q8, .bool q9] 83 (0, 0)))
  have BK2 := Aside0.mk (blk_alloc BK1.out (.cells #[.string q0, .bool q1, .bool q2, .bool q3, .bool q4, .bool q5, .bool q6, .bool q7, .bool q8, .bool q9] 83 (0, 0)))
  have HB1 := Aside0.mk (below_alloc HB.out (.cells #[.string q0, .bool q1, .bool q2, .bool q3, .bool q4, .bool q5, .bool q6, .bool q7, .bool q8, .bool q9] 83 (0, 0)))
  clear BK1 HB
  generalize (w'.alloc (.cells #[.string q0, .bool q1, .bool q2, .bool q3, .bool q4, .bool q5, .bool q6, .bool q7, .bool q8, .bool q9] 83 (0, 0))) = W1 at BK3 BK2 HB1 ⊢
  generalize w'.heap.size = g3 at BK3 ⊢
  obtain ⟨g1, hg1⟩ : ∃ g, g = w.heap.size := ⟨_, rfl⟩
  rw [← hg1] at BK2 ⊢
  have HG1 := Aside0.mk hg1
  clear hg1
  have HO : Aside0 (Kd.R (Kd.int .i64) 3 W1 W1.heap.size (fun _ => True) (.slice none 0 0) []) := ⟨Kd.R_nil _ _ _ _ _⟩
  have HW := Aside0.mk (Below.refl W1.heap.size W1)
  have HS : Aside0 (W1.heap.size ≤ W1.heap.size) := ⟨Nat.le_refl _⟩
  have BK20 := BK2
  have BK30 := BK3
  have ca_ : W1.cell? ⟨g1, 3, none⟩ = some (.int .i64 a0_3) := (blk_cell BK2.out 3).trans rfl
  have cb_ : W1.cell? ⟨g1, 4, none⟩ = some (.int .i64 a0_4) := (blk_cell BK2.out 4).trans rfl
  have cd_ : W1.cell? ⟨g1, 2, none⟩ = some (.int .i64 a0_2) := (blk_cell BK2.out 2).trans rfl
  have c3_ : W1.cell? ⟨g3, 3, none⟩ = some (.bool q3) := (blk_cell BK3.out 3).trans rfl
  have c8_ : W1.cell? ⟨g3, 8, none⟩ = some (.bool q8) := (blk_cell BK3.out 8).trans rfl
  cases q2 with
  | false =>
    obtain rfl : q3 = false := H32.out rfl
    obtain rfl : q8 = false := H83.out rfl
    go_wp2_with fail
    refine (ins_regs.calls W1.heap.size (.slice none 0 0) [] _ (Kd.own_of_R HO.out) (by simp) HS.out).mono ?_
    rintro e w9 ⟨v9, rfl, ho, hb⟩
    replace HO := Aside0.mk ho
    replace HW := Aside0.mk (HW.out.trans hb)
    clear ho hb
    go_wp2_with fail
    go_ret
    refine ⟨_, rfl, ?_, ?_⟩
    · exact Kd.R_of_own (own_lower HO.out HB1.out.size) (fun _ _ => trivial)
    · exact HB1.out.trans (HW.out.mono HB1.out.size)
  | true =>
    cases q3 with
    | false =>
      obtain rfl : q8 = false := H83.out rfl
      go_wp2_with (first | ((with_reducible refine gate_builtin (b := .append) (xs := #[.tmp 10, .tmp 13]) rfl ?_); (try (refine gate_guard (by rfl) ?_; dsimp only)); at_builtin; refine Kd.R_append (Kd.int .i64) (w0 := W1) W1.heap.size rfl (.tmp 10) (.tmp 13) 57 3 (.int .i64 0) 8 rfl Tryd.underlying57 infoInt rfl (by decide) (by omega) (.slice none 0 0) [] a0_3 [.int .i64 a0_3] (fun _ => True) (fun _ => False) rfl (by first | (go_simp; done) | (go_simp; rfl)) rfl (fun _ hk => hk.elim) (fun _ _ => trivial) HO.out HW.out HS.out (by simp) ?_; intro v1 W2 ho hb hg hat; replace HO := Aside0.mk ho; replace HW := Aside0.mk hb; replace HS := Aside0.mk hb.size; replace BK2 := Aside0.mk (blk_below BK20.out hb); replace BK3 := Aside0.mk (blk_below BK30.out hb); clear ho hb hg hat ca_ cb_ cd_ c3_ c8_; have ca_ : W2.cell? ⟨g1, 3, none⟩ = some (.int .i64 a0_3) := (blk_cell BK2.out 3).trans rfl; have cb_ : W2.cell? ⟨g1, 4, none⟩ = some (.int .i64 a0_4) := (blk_cell BK2.out 4).trans rfl; have cd_ : W2.cell? ⟨g1, 2, none⟩ = some (.int .i64 a0_2) := (blk_cell BK2.out 2).trans rfl; have c3_ : W2.cell? ⟨g3, 3, none⟩ = some (.bool false) := (blk_cell BK3.out 3).trans rfl; have c8_ : W2.cell? ⟨g3, 8, none⟩ = some (.bool false) := (blk_cell BK3.out 8).trans rfl))
      refine (ins_regs.calls W1.heap.size v1 ([] ++ [a0_3]) _ (Kd.own_of_R HO.out) (by simp) HS.out).mono ?_
      rintro e w9 ⟨v9, rfl, ho, hb⟩
      replace HO := Aside0.mk ho
      replace HW := Aside0.mk (HW.out.trans hb)
      clear ho hb
      go_wp2_with fail
      go_ret
      refine ⟨_, rfl, ?_, ?_⟩
      · exact Kd.R_of_own (own_lower HO.out HB1.out.size) (fun _ _ => trivial)
      · exact HB1.out.trans (HW.out.mono HB1.out.size)
    | true =>
      cases q8 with
      | false =>
        go_wp2_with (first | ((with_reducible refine gate_builtin (b := .append) (xs := #[.tmp 10, .tmp 13]) rfl ?_); (try (refine gate_guard (by rfl) ?_; dsimp only)); at_builtin; refine Kd.R_append (Kd.int .i64) (w0 := W1) W1.heap.size rfl (.tmp 10) (.tmp 13) 57 3 (.int .i64 0) 8 rfl Tryd.underlying57 infoInt rfl (by decide) (by omega) (.slice none 0 0) [] a0_3 [.int .i64 a0_3] (fun _ => True) (fun _ => False) rfl (by first | (go_simp; done) | (go_simp; rfl)) rfl (fun _ hk => hk.elim) (fun _ _ => trivial) HO.out HW.out HS.out (by simp) ?_; intro v1 W2 ho hb hg hat; replace HO := Aside0.mk ho; replace HW := Aside0.mk hb; replace HS := Aside0.mk hb.size; replace BK2 := Aside0.mk (blk_below BK20.out hb); replace BK3 := Aside0.mk (blk_below BK30.out hb); clear ho hb hg hat ca_ cb_ cd_ c3_ c8_; have ca_ : W2.cell? ⟨g1, 3, none⟩ = some (.int .i64 a0_3) := (blk_cell BK2.out 3).trans rfl; have cb_ : W2.cell? ⟨g1, 4, none⟩ = some (.int .i64 a0_4) := (blk_cell BK2.out 4).trans rfl; have cd_ : W2.cell? ⟨g1, 2, none⟩ = some (.int .i64 a0_2) := (blk_cell BK2.out 2).trans rfl; have c3_ : W2.cell? ⟨g3, 3, none⟩ = some (.bool true) := (blk_cell BK3.out 3).trans rfl; have c8_ : W2.cell? ⟨g3, 8, none⟩ = some (.bool false) := (blk_cell BK3.out 8).trans rfl) | ((with_reducible refine gate_builtin (b := .append) (xs := #[.tmp 17, .tmp 20]) rfl ?_); (try (refine gate_guard (by rfl) ?_; dsimp only)); at_builtin; refine Kd.R_append (Kd.int .i64) (w0 := W1) W1.heap.size rfl (.tmp 17) (.tmp 20) 57 3 (.int .i64 0) 8 rfl Tryd.underlying57 infoInt rfl (by decide) (by omega) v1 ([] ++ [a0_3]) a0_4 [.int .i64 a0_4] (fun _ => True) (fun _ => False) rfl (by first | (go_simp; done) | (go_simp; rfl)) rfl (fun _ hk => hk.elim) (fun _ _ => trivial) HO.out HW.out HS.out (by simp) ?_; intro v2 W3 ho hb hg hat; replace HO := Aside0.mk ho; replace HW := Aside0.mk hb; replace HS := Aside0.mk hb.size; replace BK2 := Aside0.mk (blk_below BK20.out hb); replace BK3 := Aside0.mk (blk_below BK30.out hb); clear ho hb hg hat ca_ cb_ cd_ c3_ c8_; have ca_ : W3.cell? ⟨g1, 3, none⟩ = some (.int .i64 a0_3) := (blk_cell BK2.out 3).trans rfl; have cb_ : W3.cell? ⟨g1, 4, none⟩ = some (.int .i64 a0_4) := (blk_cell BK2.out 4).trans rfl; have cd_ : W3.cell? ⟨g1, 2, none⟩ = some (.int .i64 a0_2) := (blk_cell BK2.out 2).trans rfl; have c3_ : W3.cell? ⟨g3, 3, none⟩ = some (.bool true) := (blk_cell BK3.out 3).trans rfl; have c8_ : W3.cell? ⟨g3, 8, none⟩ = some (.bool false) := (blk_cell BK3.out 8).trans rfl))
        refine (ins_regs.calls W1.heap.size v2 (([] ++ [a0_3]) ++ [a0_4]) _ (Kd.own_of_R HO.out) (by simp) HS.out).mono ?_
        rintro e w9 ⟨v9, rfl, ho, hb⟩
        replace HO := Aside0.mk ho
        replace HW := Aside0.mk (HW.out.trans hb)
        clear ho hb
        go_wp2_with fail
        go_ret
        refine ⟨_, rfl, ?_, ?_⟩
        · exact Kd.R_of_own (own_lower HO.out HB1.out.size) (fun _ _ => trivial)
        · exact HB1.out.trans (HW.out.mono HB1.out.size)
      | true =>
        go_wp2_with (first | ((with_reducible refine gate_builtin (b := .append) (xs := #[.tmp 10, .tmp 13]) rfl ?_); (try (refine gate_guard (by rfl) ?_; dsimp only)); at_builtin; refine Kd.R_append (Kd.int .i64) (w0 := W1) W1.heap.size rfl (.tmp 10) (.tmp 13) 57 3 (.int .i64 0) 8 rfl Tryd.underlying57 infoInt rfl (by decide) (by omega) (.slice none 0 0) [] a0_3 [.int .i64 a0_3] (fun _ => True) (fun _ => False) rfl (by first | (go_simp; done) | (go_simp; rfl)) rfl (fun _ hk => hk.elim) (fun _ _ => trivial) HO.out HW.out HS.out (by simp) ?_; intro v1 W2 ho hb hg hat; replace HO := Aside0.mk ho; replace HW := Aside0.mk hb; replace HS := Aside0.mk hb.size; replace BK2 := Aside0.mk (blk_below BK20.out hb); replace BK3 := Aside0.mk (blk_below BK30.out hb); clear ho hb hg hat ca_ cb_ cd_ c3_ c8_; have ca_ : W2.cell? ⟨g1, 3, none⟩ = some (.int .i64 a0_3) := (blk_cell BK2.out 3).trans rfl; have cb_ : W2.cell? ⟨g1, 4, none⟩ = some (.int .i64 a0_4) := (blk_cell BK2.out 4).trans rfl; have cd_ : W2.cell? ⟨g1, 2, none⟩ = some (.int .i64 a0_2) := (blk_cell BK2.out 2).trans rfl; have c3_ : W2.cell? ⟨g3, 3, none⟩ = some (.bool true) := (blk_cell BK3.out 3).trans rfl; have c8_ : W2.cell? ⟨g3, 8, none⟩ = some (.bool true) := (blk_cell BK3.out 8).trans rfl) | ((with_reducible refine gate_builtin (b := .append) (xs := #[.tmp 17, .tmp 20]) rfl ?_); (try (refine gate_guard (by rfl) ?_; dsimp only)); at_builtin; refine Kd.R_append (Kd.int .i64) (w0 := W1) W1.heap.size rfl (.tmp 17) (.tmp 20) 57 3 (.int .i64 0) 8 rfl Tryd.underlying57 infoInt rfl (by decide) (by omega) v1 ([] ++ [a0_3]) a0_4 [.int .i64 a0_4] (fun _ => True) (fun _ => False) rfl (by first | (go_simp; done) | (go_simp; rfl)) rfl (fun _ hk => hk.elim) (fun _ _ => trivial) HO.out HW.out HS.out (by simp) ?_; intro v2 W3 ho hb hg hat; replace HO := Aside0.mk ho; replace HW := Aside0.mk hb; replace HS := Aside0.mk hb.size; replace BK2 := Aside0.mk (blk_below BK20.out hb); replace BK3 := Aside0.mk (blk_below BK30.out hb); clear ho hb hg hat ca_ cb_ cd_ c3_ c8_; have ca_ : W3.cell? ⟨g1, 3, none⟩ = some (.int .i64 a0_3) := (blk_cell BK2.out 3).trans rfl; have cb_ : W3.cell? ⟨g1, 4, none⟩ = some (.int .i64 a0_4) := (blk_cell BK2.out 4).trans rfl; have cd_ : W3.cell? ⟨g1, 2, none⟩ = some (.int .i64 a0_2) := (blk_cell BK2.out 2).trans rfl; have c3_ : W3.cell? ⟨g3, 3, none⟩ = some (.bool true) := (blk_cell BK3.out 3).trans rfl; have c8_ : W3.cell? ⟨g3, 8, none⟩ = some (.bool true) := (blk_cell BK3.out 8).trans rfl) | ((with_reducible refine gate_builtin (b := .append) (xs := #[.tmp 24, .tmp 27]) rfl ?_); (try (refine gate_guard (by rfl) ?_; dsimp only)); at_builtin; refine Kd.R_append (Kd.int .i64) (w0 := W1) W1.heap.size rfl (.tmp 24) (.tmp 27) 57 3 (.int .i64 0) 8 rfl Tryd.underlying57 infoInt rfl (by decide) (by omega) v2 (([] ++ [a0_3]) ++ [a0_4]) a0_2 [.int .i64 a0_2] (fun _ => True) (fun _ => False) rfl (by first | (go_simp; done) | (go_simp; rfl)) rfl (fun _ hk => hk.elim) (fun _ _ => trivial) HO.out HW.out HS.out (by simp) ?_; intro v3 W4 ho hb hg hat; replace HO := Aside0.mk ho; replace HW := Aside0.mk hb; replace HS := Aside0.mk hb.size; replace BK2 := Aside0.mk (blk_below BK20.out hb); replace BK3 := Aside0.mk (blk_below BK30.out hb); clear ho hb hg hat ca_ cb_ cd_ c3_ c8_; have ca_ : W4.cell? ⟨g1, 3, none⟩ = some (.int .i64 a0_3) := (blk_cell BK2.out 3).trans rfl; have cb_ : W4.cell? ⟨g1, 4, none⟩ = some (.int .i64 a0_4) := (blk_cell BK2.out 4).trans rfl; have cd_ : W4.cell? ⟨g1, 2, none⟩ = some (.int .i64 a0_2) := (blk_cell BK2.out 2).trans rfl; have c3_ : W4.cell? ⟨g3, 3, none⟩ = some (.bool true) := (blk_cell BK3.out 3).trans rfl; have c8_ : W4.cell? ⟨g3, 8, none⟩ = some (.bool true) := (blk_cell BK3.out 8).trans rfl))
        refine (ins_regs.calls W1.heap.size v3 ((([] ++ [a0_3]) ++ [a0_4]) ++ [a0_2]) _ (Kd.own_of_R HO.out) (by simp) HS.out).mono ?_
        rintro e w9 ⟨v9, rfl, ho, hb⟩
        replace HO := Aside0.mk ho
        replace HW := Aside0.mk (HW.out.trans hb)
        clear ho hb
        go_wp2_with fail
        go_ret
        refine ⟨_, rfl, ?_, ?_⟩
        · exact Kd.R_of_own (own_lower HO.out HB1.out.size) (fun _ _ => trivial)
        · exact HB1.out.trans (HW.out.mono HB1.out.size)
end Go.Proofs.YtdopacgaklaaeaaDoor.PDeadTells
