import Derived.Test.YtfhjkkcdeigkdaaDoorPFoldRunsx0
import Derived.Test.YtfhjkkcdeigkdaaDoorPFoldRunshforms
import Derived.Test.YtfhjkkcdeigkdaaDoorPFoldRunshg0
import Derived.Test.YtfhjkkcdeigkdaaDoorShelf
import Derived.Lib.OwnBridge
import Derived.Test.YtfhjkkcdeigkdaaDoorPFoldRunsx3
import Derived.Test.YtfhjkkcdeigkdaaDoorPFoldRunsx4
-- HAND paling/ins.Next rounds=0 making=1 needs=paling/ins.of
namespace Go.Proofs.YtfhjkkcdeigkdaaDoor.PFoldRuns
open Go.RowKit Go.Proofs.YtfhjkkcdeigkdaaDoorW.PrintWords Go.Proofs.YtfhjkkcdeigkdaaDoorW.PrintLast Go.Proofs.YtfhjkkcdeigkdaaDoorW.PrintMore
set_option linter.unusedVariables false
set_option linter.unusedSimpArgs false
open Go.Shelf Go.Sort
/-! ins.Next: where an instruction may go to. -/
def twoL (a b : Int) : List Int := Lib.compact ([a, b].mergeSort (fun x y => decide (x ≤ y)))
def ins_Next.f (a0_0 : Int) (a0_1 : Int) (a0_2 : Int) (a0_3 : Int) (a0_4 : Int) (a0_5 : Int) (a0_6 : Int) (a1 : Int) : Option (List Int) :=
  some (if ¬ (0 ≤ a0_0 ∧ a0_0 < 14) ∨ fmB 9 a0_0 = true then [] else if a0_0 = 6 then [a0_6] else if a0_0 = 7 then twoL (wrap64 (a1 + 1)) a0_6 else [wrap64 (a1 + 1)])
set_option maxRecDepth 100000 in
theorem fmWTab : (List.range 14).all (fun k => !(fmW (k : Int)).toList.isEmpty) = true := by kernel_rfl
theorem fmW_in (k : Int) (h : 0 ≤ k ∧ k < 14) : ¬ (fmW k).toList = [] := by
  have h1 := List.all_eq_true.1 fmWTab k.toNat (by rw [List.mem_range]; omega)
  rw [show ((k.toNat : Nat) : Int) = k by omega] at h1
  intro h2
  rw [h2] at h1
  exact absurd h1 (by simp)
theorem own_lit (W : World) (base e : Nat) (cs : List Value) (hb : base ≤ W.heap.size) (hl : cs.length ≤ 1000) : (W.alloc (.cells cs.toArray e (0, 0))).ownsRow base e 1 (.slice (some ⟨W.heap.size, 0, none⟩) cs.length cs.length) cs.length cs :=
  ⟨by omega, .inr ⟨W.heap.size, cs.length, cs.toArray, rfl, hb, blk_new W _, Nat.le_refl _, by unfold maxLen; omega, by simp, by simp⟩⟩
theorem out_empty (k : Int) (h : ¬ (0 ≤ k ∧ k < 14)) : (fmW k).toList = [] := by rw [fmW_out k h, ByteArray.toList, ByteArray.toList.loop]; rfl
set_option maxHeartbeats 4000000 in
set_option maxRecDepth 100000 in
theorem ins_Next.calls (a0_0 : Int) (a0_1 : Int) (a0_2 : Int) (a0_3 : Int) (a0_4 : Int) (a0_5 : Int) (a0_6 : Int) (a1 : Int) (r : List Int) (w : World) (h : ins_Next.f a0_0 a0_1 a0_2 a0_3 a0_4 a0_5 a0_6 a1 = some r) (hgl : GlobOK w) :
    Calls Tryd.prog 34 #[.agg #[.int .i64 a0_0, .int .i64 a0_1, .int .i64 a0_2, .int .i64 a0_3, .int .i64 a0_4, .int .i64 a0_5, .int .i64 a0_6], .int .i64 a1] w fun e w' => ∃ v0_ : Value, e = .returned (v0_) ∧ Kd.R (Kd.int .i64) 3 w' w.heap.size (fun _ => True) v0_ r ∧ Below w.heap.size w w' := by
  unfold ins_Next.f at h
  replace h := Option.some.inj h
  have HGL := Aside0.mk hgl
  clear hgl
  obtain ⟨q0, h0⟩ : ∃ b, b = fmW a0_0 := ⟨_, rfl⟩
  obtain ⟨q1, h1⟩ : ∃ b, b = fmB 1 a0_0 := ⟨_, rfl⟩
  obtain ⟨q2, h2⟩ : ∃ b, b = fmB 2 a0_0 := ⟨_, rfl⟩
  obtain ⟨q3, h3⟩ : ∃ b, b = fmB 3 a0_0 := ⟨_, rfl⟩
  obtain ⟨q4, h4⟩ : ∃ b, b = fmB 4 a0_0 := ⟨_, rfl⟩
  obtain ⟨q5, h5⟩ : ∃ b, b = fmB 5 a0_0 := ⟨_, rfl⟩
  obtain ⟨q6, h6⟩ : ∃ b, b = fmB 6 a0_0 := ⟨_, rfl⟩
  obtain ⟨q7, h7⟩ : ∃ b, b = fmB 7 a0_0 := ⟨_, rfl⟩
  obtain ⟨q8, h8⟩ : ∃ b, b = fmB 8 a0_0 := ⟨_, rfl⟩
  obtain ⟨q9, h9⟩ : ∃ b, b = fmB 9 a0_0 := ⟨_, rfl⟩
  rw [← h9] at h
  have HR := Aside0.mk h
  clear h
  have HV := Aside0.mk (show formV a0_0 = .agg #[.string q0, .bool q1, .bool q2, .bool q3, .bool q4, .bool q5, .bool q6, .bool q7, .bool q8, .bool q9] by unfold formV; rw [← h0, ← h1, ← h2, ← h3, ← h4, ← h5, ← h6, ← h7, ← h8, ← h9])
  have H0 := Aside0.mk h0
  have H9 := Aside0.mk h9
  clear h0 h1 h2 h3 h4 h5 h6 h7 h8 h9
  go_enter Tryd.func34, Tryd.ntmps34
  go_wp2_with fail
  refine (ins_ofV.calls a0_0 _ (HGL.out.alloc _)).mono ?_
  rintro e w' ⟨rfl, hb⟩
  rw [HV.out]
  have BK1 := Aside0.mk (blk_below (blk_new w (.cells #[.int .i64 a0_0, .int .i64 a0_1, .int .i64 a0_2, .int .i64 a0_3, .int .i64 a0_4, .int .i64 a0_5, .int .i64 a0_6] 53 (0, 0))) hb)
  have HB := Aside0.mk (below_step ((Below.refl _ _).alloc (Nat.le_refl _) _) hb)
  clear hb HGL HV
  have BK3 := Aside0.mk (blk_new w' (.cells #[.string q0, .bool q1, .bool q2, .bool q3, .bool q4, .bool q5, .bool q6, .bool q7, .bool q8, .bool q9] 95 (0, 0)))
  have BK2 := Aside0.mk (blk_alloc BK1.out (.cells #[.string q0, .bool q1, .bool q2, .bool q3, .bool q4, .bool q5, .bool q6, .bool q7, .bool q8, .bool q9] 95 (0, 0)))
  have HB1 := Aside0.mk (below_alloc HB.out (.cells #[.string q0, .bool q1, .bool q2, .bool q3, .bool q4, .bool q5, .bool q6, .bool q7, .bool q8, .bool q9] 95 (0, 0)))
  by_cases hk : 0 ≤ a0_0 ∧ a0_0 < 14
  · have hq : ¬ q0.toList = [] := by rw [H0.out]; exact fmW_in _ hk
    go_upto_if 10 with fail
    have he : q0.toList.isEmpty = false := by cases hh : q0.toList with
      | nil => exact absurd hh hq
      | cons a l => rfl
    rw [he, Bool.false_or]
    clear he hq
    clear BK1 HB
    generalize (w'.alloc (.cells #[.string q0, .bool q1, .bool q2, .bool q3, .bool q4, .bool q5, .bool q6, .bool q7, .bool q8, .bool q9] 95 (0, 0))) = W1 at BK3 BK2 HB1 ⊢
    have ck_ : W1.cell? ⟨w.heap.size, 0, none⟩ = some (.int .i64 a0_0) := (blk_cell BK2.out 0).trans rfl
    have ct_ : W1.cell? ⟨w.heap.size, 6, none⟩ = some (.int .i64 a0_6) := (blk_cell BK2.out 6).trans rfl
    cases q9 with
    | true =>
      have hr := HR.out
      rw [if_pos (Or.inr rfl)] at hr
      replace HR := Aside0.mk hr
      clear hr hk
      go_wp2_with fail
      go_ret
      exact ⟨_, rfl, by rw [← HR.out]; exact Kd.R_nil _ _ _ _ _, HB1.out⟩
    | false =>
      have hr := HR.out
      rw [if_neg (by intro h_; rcases h_ with h_ | h_; exact h_ hk; exact absurd h_ (by simp))] at hr
      clear hk
      by_cases h6 : a0_0 = 6
      · rw [if_pos h6] at hr
        replace HR := Aside0.mk hr
        clear hr
        go_wp2_with fail
        go_ret
        refine ⟨_, rfl, by rw [← HR.out]; exact Kd.R_of_own (own_lit _ _ _ [.int .i64 a0_6] HB1.out.size (by simp)) (fun _ _ => trivial), below_alloc HB1.out _⟩
      · rw [if_neg h6] at hr
        by_cases h7 : a0_0 = 7
        · rw [if_pos h7] at hr
          replace HR := Aside0.mk hr
          clear hr
          go_wp2_with fail
          obtain ⟨W2, hW2⟩ : ∃ W2, W2 = W1.alloc (.cells #[.int .i64 (wrap64 (a1 + 1)), .int .i64 a0_6] 3 (0, 0)) := ⟨_, rfl⟩
          obtain ⟨x, hx⟩ : ∃ x, x = wrap64 (a1 + 1) := ⟨_, rfl⟩
          obtain ⟨S, hS⟩ : ∃ S, S = [x, a0_6].mergeSort (fun x y => decide (x ≤ y)) := ⟨_, rfl⟩
          have hSl : S.length = 2 := by rw [hS, List.length_mergeSort]; rfl
          have hcl := compact_len S
          have hr := HR.out
          rw [twoL, ← hx, ← hS] at hr
          replace HR := Aside0.mk hr
          have own2 : W2.ownsRow w.heap.size 3 1 (.slice (some ⟨W1.heap.size, 0, none⟩) 2 2) 2 ([x, a0_6].map (Value.int .i64)) := by
            rw [hW2, hx]
            exact own_lit W1 w.heap.size 3 [.int .i64 (wrap64 (a1 + 1)), .int .i64 a0_6] HB1.out.size (by simp)
          have B2 := Aside0.mk (show Below w.heap.size w W2 by rw [hW2]; exact below_alloc HB1.out _)
          have hg : w.heap.size ≤ W1.heap.size := HB1.out.size
          rw [← hW2]
          clear hW2 hx hr
          obtain ⟨g1, cap1, e1, _, hlt1, hn1, _, _, hH1⟩ := Lib.holds_of_ownsRow own2 (by simp)
          injection e1 with ea _ ec
          injection ea with ea
          injection ea with ea
          subst ec
          rw [← ea] at hlt1 hH1
          have c2 := Tryd.slices_Sort_int W1.heap.size 0 2 [x, a0_6] W2 hH1 hlt1 (by simp)
          rw [← hS] at c2
          change Calls Tryd.prog 48 #[.slice (some ⟨W1.heap.size, 0, none⟩) 2 2] _ _ at c2
          refine c2.mono ?_
          rintro e w3 ⟨rfl, n, os, hw3⟩
          have o3 : w3.ownsRow w.heap.size 3 1 (.slice (some ⟨W1.heap.size, 0, none⟩) 2 2) 2 (S.map (Value.int .i64)) := by
            rw [hw3]
            have := Lib.ownsRow_putRow (q := n) (k := 2) (ys := S) own2 hSl (Nat.le_refl _)
            rw [List.take_of_length_le (by omega)] at this
            exact own_grow this os
          have b3 := Aside0.mk (show Below w.heap.size w w3 by
            rw [hw3]
            exact below_grow' (Lib.below_putRow (enc := Value.int .i64) (q := n) (d := S.toArray) B2.out hg) os (by have := B2.out.size; simp [putRow, mapBlock, Sort.ahead]; omega))
          clear hw3 c2 hH1 hlt1 hn1 own2 B2
          obtain ⟨g1, cap1, e1, _, hlt1, hn1, _, _, hH1⟩ := Lib.holds_of_ownsRow o3 (by simp)
          injection e1 with eb _ ec
          injection eb with eb
          injection eb with eb
          subst ec
          rw [← eb] at hlt1 hH1
          have c3 := Tryd.slices_Compact_int W1.heap.size 0 2 S w3 hH1 (by omega) (by omega)
          rw [hSl] at c3
          change Calls Tryd.prog 49 #[.slice (some ⟨W1.heap.size, 0, none⟩) 2 2] _ _ at c3
          have O3 := Aside0.mk (fun (q : Nat) => (by
            have := Lib.ownsRow_putRow (q := q) (k := (Lib.compact S).length) (ys := Lib.compact S ++ List.replicate (2 - (Lib.compact S).length) 0) o3 (by simp; omega) (by omega)
            simpa using this : (putRow (Value.int .i64) (Sort.ahead w3 q) W1.heap.size 0 (Lib.compact S ++ List.replicate (2 - (Lib.compact S).length) 0).toArray).ownsRow w.heap.size 3 1 (.slice (some ⟨W1.heap.size, 0, none⟩) (Lib.compact S).length 2) (Lib.compact S).length ((Lib.compact S).map (Value.int .i64))))
          have B3 := Aside0.mk (fun (q : Nat) => Lib.below_putRow (enc := Value.int .i64) (q := q) (d := (Lib.compact S ++ List.replicate (2 - (Lib.compact S).length) 0).toArray) b3.out hg)
          have HS := Aside0.mk hS
          clear hH1 hlt1 hn1 o3 hS hSl hcl hg ea eb
          go_wp2_with fail
          refine c3.mono ?_
          rintro e w4 ⟨rfl, q, hw4⟩
          have o4 := Aside0.mk (O3.out q)
          have b4 := Aside0.mk (B3.out q)
          rw [← hw4] at o4 b4
          clear hw4 c3 O3 B3
          go_wp2_with fail
          go_ret
          exact ⟨_, rfl, by rw [← HR.out]; exact Kd.R_of_own o4.out (fun _ _ => trivial), b4.out⟩
        · rw [if_neg h7] at hr
          replace HR := Aside0.mk hr
          clear hr
          go_wp2_with fail
          go_ret
          refine ⟨_, rfl, by rw [← HR.out]; exact Kd.R_of_own (own_lit _ _ _ [.int .i64 (wrap64 (a1 + 1))] HB1.out.size (by simp)) (fun _ _ => trivial), below_alloc HB1.out _⟩
  · have hq : q0.toList = [] := by rw [H0.out]; exact out_empty _ hk
    have hr := HR.out
    rw [if_pos (Or.inl hk)] at hr
    replace HR := Aside0.mk hr
    clear hr hk
    go_wp2_with fail
    go_ret
    exact ⟨_, rfl, by rw [← HR.out]; exact Kd.R_nil _ _ _ _ _, HB1.out⟩
end Go.Proofs.YtfhjkkcdeigkdaaDoor.PFoldRuns

namespace Go.Proofs.YtfhjkkcdeigkdaaDoor.PFoldRuns
open Go.RowKit Go.Proofs.YtfhjkkcdeigkdaaDoorW.PrintWords Go.Proofs.YtfhjkkcdeigkdaaDoorW.PrintLast Go.Proofs.YtfhjkkcdeigkdaaDoorW.PrintMore
set_option linter.unusedVariables false
set_option linter.unusedSimpArgs false
/-! Chapter 16 in plain words: what is known ahead of each place: the greatest answer that the rules allow. -/
def inR (x : Int) : Prop := -9223372036854775808 ≤ x ∧ x ≤ 9223372036854775807
instance (x : Int) : Decidable (inR x) := inferInstanceAs (Decidable (_ ∧ _))
abbrev KF := Int → Option Int
def defI (x : S53) : Int := if fmB 1 x.f0 = true then x.f2 else -1
def nxI (c : List S53) (i : Int) : List Int := (ins_Next.f (c.getD i.toNat z53).f0 (c.getD i.toNat z53).f1 (c.getD i.toNat z53).f2 (c.getD i.toNat z53).f3 (c.getD i.toNat z53).f4 (c.getD i.toNat z53).f5 (c.getD i.toNat z53).f6 i).getD []
/-- each instruction goes to places of its code -/
def NextOK (c : List S53) : Prop := ∀ i : Nat, i < c.length → ∀ j ∈ nxI c (i : Int), 0 ≤ j ∧ j < (c.length : Int)
def leK (a b : KF) : Prop := ∀ r v, a r = some v → b r = some v
theorem leK.refl (a : KF) : leK a a := fun _ _ h => h
theorem leK.trans {a b c : KF} (h : leK a b) (k : leK b c) : leK a c := fun r v e => k r v (h r v e)
theorem leK.antisymm {a b : KF} (h : leK a b) (k : leK b a) : a = b := funext fun r => by
  cases ha : a r with
  | some v => exact (h r v ha).symm
  | none =>
    cases hb : b r with
    | none => rfl
    | some v => rw [k r v hb] at ha; cases ha
/-- a number that is known, and whether it is -/
def knQ (m : KF) (r : Int) : Int × Bool := ((m r).getD 0, (m r).isSome)
/-- what D is known to be: the number, and whether it is known -/
def valQ (m : KF) (x : S53) : Int × Bool :=
  if x.f0 = 0 then (x.f5, true) else if x.f0 = 1 then knQ m x.f3
  else if x.f0 = 2 then (evalL x.f1 (knQ m x.f3).1 (knQ m x.f4).1, (knQ m x.f3).2 && (knQ m x.f4).2)
  else if x.f0 = 3 then (if (knQ m x.f3).2 = false then ((knQ m x.f2).1, (knQ m x.f2).2 && ((knQ m x.f4).2 && ((knQ m x.f2).1 == (knQ m x.f4).1))) else if (knQ m x.f3).1 ≠ 0 then knQ m x.f4 else knQ m x.f2)
  else (0, false)
def valK (m : KF) (x : S53) : Option Int := if (valQ m x).2 = true then some (valQ m x).1 else none
def behK (m : KF) (x : S53) : KF := if 0 ≤ defI x then fun r => if r = defI x then valK m x else m r else m
def metK (a b : KF) : KF := fun r => if a r = b r then a r else none
theorem kn_le {a b : KF} (h : leK a b) (r : Int) (hs : (knQ a r).2 = true) : knQ b r = knQ a r := by
  unfold knQ at hs ⊢
  cases ha : a r with
  | none => rw [ha] at hs; cases hs
  | some v => rw [h r v ha]
theorem val_le {a b : KF} (h : leK a b) (x : S53) : ∀ v, valK a x = some v → valK b x = some v := by
  intro v hv
  have key : (valQ a x).2 = true → valQ b x = valQ a x ∨ ((valQ b x).2 = true ∧ (valQ b x).1 = (valQ a x).1) := by
    intro ht
    unfold valQ at ht ⊢
    by_cases k0 : x.f0 = 0
    · rw [if_pos k0, if_pos k0]; exact .inl rfl
    rw [if_neg k0] at ht ⊢
    rw [if_neg k0]
    by_cases k1 : x.f0 = 1
    · rw [if_pos k1] at ht ⊢
      rw [if_pos k1]
      exact .inl (kn_le h _ ht)
    rw [if_neg k1] at ht ⊢
    rw [if_neg k1]
    by_cases k2 : x.f0 = 2
    · rw [if_pos k2] at ht ⊢
      rw [if_pos k2]
      rw [Bool.and_eq_true] at ht
      rw [kn_le h _ ht.1, kn_le h _ ht.2]
      exact .inl rfl
    rw [if_neg k2] at ht ⊢
    rw [if_neg k2]
    by_cases k3 : x.f0 = 3
    · rw [if_pos k3] at ht ⊢
      rw [if_pos k3]
      cases ha : (knQ a x.f3).2 with
      | true =>
        have e3 := kn_le h _ ha
        simp only [e3, ha, Bool.true_eq_false, if_false] at ht ⊢
        by_cases hz : (knQ a x.f3).1 ≠ 0
        · simp only [if_pos hz] at ht ⊢
          exact .inl (kn_le h _ ht)
        · simp only [if_neg hz] at ht ⊢
          exact .inl (kn_le h _ ht)
      | false =>
        simp only [ha, if_true, Bool.and_eq_true] at ht
        obtain ⟨t1, t2, t3⟩ := ht
        simp only [ha, if_true, kn_le h _ t1, kn_le h _ t2]
        cases hb : (knQ b x.f3).2 with
        | false => exact .inl rfl
        | true =>
          right
          simp only [Bool.true_eq_false, if_false]
          by_cases hz : (knQ b x.f3).1 ≠ 0
          · simp only [if_pos hz]; exact ⟨t2, (eq_of_beq t3).symm⟩
          · simp only [if_neg hz]; exact ⟨t1, trivial⟩
    · rw [if_neg k3] at ht; cases ht
  unfold valK at hv ⊢
  by_cases ht : (valQ a x).2 = true
  · rw [if_pos ht] at hv
    rcases key ht with h1 | ⟨h1, h2⟩
    · rw [h1, if_pos ht]; exact hv
    · rw [if_pos h1, h2]; exact hv
  · rw [if_neg ht] at hv; cases hv
theorem beh_le {a b : KF} (h : leK a b) (x : S53) : leK (behK a x) (behK b x) := by
  unfold behK
  by_cases hd : 0 ≤ defI x
  · rw [if_pos hd, if_pos hd]
    intro r v hv
    dsimp only at hv ⊢
    by_cases hr : r = defI x
    · rw [if_pos hr] at hv ⊢; exact val_le h x v hv
    · rw [if_neg hr] at hv ⊢; exact h r v hv
  · rw [if_neg hd, if_neg hd]; exact h
theorem meet_le1 (a b : KF) : leK (metK a b) a := fun r v hv => by unfold metK at hv; split at hv; exact hv; cases hv
theorem meet_le2 (a b : KF) : leK (metK a b) b := fun r v hv => by
  unfold metK at hv
  split at hv
  · rename_i e; rw [← e]; exact hv
  · cases hv
theorem le_meet {a b c : KF} (h : leK c a) (k : leK c b) : leK c (metK a b) := fun r v hv => by
  unfold metK
  rw [h r v hv, k r v hv, if_pos rfl]
/-- an answer that the rules allow -/
structure PostK (c : List S53) (Z : Nat → Option KF) : Prop where
  zero : ∃ z, Z 0 = some z ∧ ∀ r, z r = none
  go : ∀ i, i < c.length → ∀ z, Z i = some z → ∀ n ∈ nxI c (i : Int), ∃ z', Z n.toNat = some z' ∧ leK z' (behK z (c.getD i z53))
/-- the greatest one -/
structure GreatK (c : List S53) (Z : Nat → Option KF) : Prop where
  post : PostK c Z
  top : ∀ Y, PostK c Y → ∀ i z, Z i = some z → ∃ y, Y i = some y ∧ leK y z
theorem GreatK.one {c : List S53} {Z Y : Nat → Option KF} (h : GreatK c Z) (k : GreatK c Y) : Z = Y := funext fun i => by
  cases hz : Z i with
  | none =>
    cases hy : Y i with
    | none => rfl
    | some y =>
      obtain ⟨z, h1, _⟩ := k.top Z h.post i y hy
      rw [hz] at h1; cases h1
  | some z =>
    obtain ⟨y, h1, h2⟩ := h.top Y k.post i z hz
    obtain ⟨z', h3, h4⟩ := k.top Z h.post i y h1
    rw [hz] at h3
    obtain rfl := Option.some.inj h3
    rw [h1, leK.antisymm h4 h2]
end Go.Proofs.YtfhjkkcdeigkdaaDoor.PFoldRuns

-- HAND paling/palingref12.Word rounds=1 making=1 needs=paling/palingref12.Get
-- HAND paling/palingref12.Value rounds=1 making=1 needs=paling/palingref12.Get;paling/palingref01.Eval
namespace Go.Proofs.YtfhjkkcdeigkdaaDoor.PFoldRuns
open Go.RowKit Go.Proofs.YtfhjkkcdeigkdaaDoorW.PrintWords Go.Proofs.YtfhjkkcdeigkdaaDoorW.PrintLast Go.Proofs.YtfhjkkcdeigkdaaDoorW.PrintMore
set_option linter.unusedVariables false
set_option linter.unusedSimpArgs false
/-! The document's machine: an instruction's word, and its value. -/
theorem mget.calls (l : List S69) (n : Int) (A0 : Option Addr) (c0 : Nat) (w : World) (hr0 : Kd.C k69 w A0 l.length l) (hc0 : l.length ≤ c0) (hl : l.length ≤ 1000000) :
    Calls Tryd.prog 16 #[.slice A0 l.length c0, .int .i64 n] w fun e w' => e = .returned (.int .i64 (getG l n)) ∧ Below w.heap.size w w' := by
  obtain ⟨k, hk⟩ := (get_ev l n (by omega)).rounds
  refine (palingref12_Get.calls k A0 c0 l n _ w hr0 hc0 hk).mono ?_
  rintro e w' ⟨rfl, nd, rfl⟩
  exact ⟨rfl, pw_below_drewN (Below.refl _ _) nd⟩
theorem meval.calls (o a b : Int) (w : World) : Calls Tryd.prog 53 #[.int .i64 o, .int .i64 a, .int .i64 b] w fun e w' => e = .returned (.int .i64 (evalL o a b)) ∧ Below w.heap.size w w' := by
  obtain ⟨k, hk⟩ := (eval_ev o a b).rounds
  refine (palingref01_Eval.calls k o a b _ w hk).mono ?_
  rintro e w' ⟨rfl, hb⟩
  exact ⟨rfl, by first | exact hb | (obtain ⟨nd, rfl⟩ := hb; exact pw_below_drewN (Below.refl _ _) nd)⟩
set_option maxRecDepth 100000 in
set_option maxHeartbeats 8000000 in
theorem mword.calls (l : List S69) (x : S53) (A0 : Option Addr) (c0 : Nat) (w : World) (hr0 : Kd.C k69 w A0 l.length l) (hc0 : l.length ≤ c0) (hl : l.length ≤ 1000000) :
    Calls Tryd.prog 41 #[.slice A0 l.length c0, .agg #[.int .i64 x.f0, .int .i64 x.f1, .int .i64 x.f2, .int .i64 x.f3, .int .i64 x.f4, .int .i64 x.f5, .int .i64 x.f6]] w fun e w' => e = .returned (.int .i64 (wordL l x)) ∧ Below w.heap.size w w' := by
  have hb1 : Below w.heap.size w (w.alloc (.cells #[.int .i64 x.f0, .int .i64 x.f1, .int .i64 x.f2, .int .i64 x.f3, .int .i64 x.f4, .int .i64 x.f5, .int .i64 x.f6] 53)) := (Below.refl _ _).alloc (Nat.le_refl _) _
  have HG := Aside0.mk (fun n (W : World) (hb : Below w.heap.size w W) => mget.calls l n A0 c0 W (Kd.C_below hr0 hb) hc0 hl)
  have HB1 := Aside0.mk hb1
  have GX := Aside0.mk (blk_new w (.cells #[.int .i64 x.f0, .int .i64 x.f1, .int .i64 x.f2, .int .i64 x.f3, .int .i64 x.f4, .int .i64 x.f5, .int .i64 x.f6] 53))
  clear hr0 hc0 hl hb1
  unfold wordL
  by_cases h3 : x.f3 < 0
  · rw [if_pos h3]
    have d3 : decide (x.f3 < 0) = true := decide_eq_true h3
    clear h3
    go_enter Tryd.func41, Tryd.ntmps41
    go_wp2_with fail
    go_ret
    exact ⟨rfl, HB1.out⟩
  · rw [if_neg h3]
    have d3 : decide (x.f3 < 0) = false := decide_eq_false h3
    clear h3
    obtain ⟨gx, hgx⟩ : ∃ gx, gx = w.heap.size := ⟨_, rfl⟩
    rw [← hgx] at GX
    have y3 : (w.alloc (.cells #[.int .i64 x.f0, .int .i64 x.f1, .int .i64 x.f2, .int .i64 x.f3, .int .i64 x.f4, .int .i64 x.f5, .int .i64 x.f6] 53)).cell? ⟨gx, 3, none⟩ = some (.int .i64 x.f3) := (blk_cell GX.out 3).trans rfl
    have y5 : (w.alloc (.cells #[.int .i64 x.f0, .int .i64 x.f1, .int .i64 x.f2, .int .i64 x.f3, .int .i64 x.f4, .int .i64 x.f5, .int .i64 x.f6] 53)).cell? ⟨gx, 5, none⟩ = some (.int .i64 x.f5) := (blk_cell GX.out 5).trans rfl
    have HGX := Aside0.mk hgx
    clear hgx
    go_enter Tryd.func41, Tryd.ntmps41
    go_upto_region 3 with fail
    rw [← HGX.out]
    refine start_ (n := 8) (S := (fun W' => W'.cell? ⟨gx, 3, none⟩ = some (.int .i64 x.f3) ∧ W'.cell? ⟨gx, 5, none⟩ = some (.int .i64 x.f5))) (ds := [7]) #[false, false, false, false, false, false, false, false] (by kernel_rfl) rfl rfl (⟨y3, y5⟩) (fun hHeld => ?_)
    refine pure_ (i := 0) (N := (some 10)) (v := ?_) (a' := ?_) #[true, false, false, false, false, false, false, false] rfl rfl (by kernel_rfl) (fun _ _ _ h => h) (Or.inl ⟨by rfl, ?_⟩) ?_ ?_
    rotate_left
    · intro w_
      go_simp
      with_reducible rfl
    rotate_left
    · simp only [Act.put, List.setIfInBounds_toArray, List.set_cons_zero, List.set_cons_succ, i64_w, i32_w]
      rfl
    refine take_ (i := 1) (N := (some 11)) (v := ?_) (a' := ?_) #[true, true, false, false, false, false, false, false] rfl rfl (by kernel_rfl) (fun _ _ _ h => h) (Or.inl ⟨by rfl, ?_⟩) hHeld ?_ ?_
    rotate_left
    · rintro w_ ⟨s0, s1⟩
      go_simp
      with_reducible rfl
    rotate_left
    · simp only [Act.put, List.setIfInBounds_toArray, List.set_cons_zero, List.set_cons_succ, i64_w, i32_w]
      rfl
    refine pure_ (i := 2) (N := (some 12)) (v := ?_) (a' := ?_) #[true, true, true, false, false, false, false, false] rfl rfl (by kernel_rfl) (fun _ _ _ h => h) (Or.inl ⟨by rfl, ?_⟩) ?_ ?_
    rotate_left
    · intro w_
      go_simp
      with_reducible rfl
    rotate_left
    · simp only [Act.put, List.setIfInBounds_toArray, List.set_cons_zero, List.set_cons_succ, i64_w, i32_w]
      rfl
    refine pure_ (i := 3) (N := (some 13)) (v := ?_) (a' := ?_) #[true, true, true, true, false, false, false, false] rfl rfl (by kernel_rfl) (fun _ _ _ h => h) (Or.inl ⟨by rfl, ?_⟩) ?_ ?_
    rotate_left
    · intro w_
      go_simp
      with_reducible rfl
    rotate_left
    · simp only [Act.put, List.setIfInBounds_toArray, List.set_cons_zero, List.set_cons_succ, i64_w, i32_w]
      rfl
    refine take_ (i := 4) (N := (some 14)) (v := ?_) (a' := ?_) #[true, true, true, true, true, false, false, false] rfl rfl (by kernel_rfl) (fun _ _ _ h => h) (Or.inl ⟨by rfl, ?_⟩) hHeld ?_ ?_
    rotate_left
    · rintro w_ ⟨s0, s1⟩
      go_simp
      with_reducible rfl
    rotate_left
    · simp only [Act.put, List.setIfInBounds_toArray, List.set_cons_zero, List.set_cons_succ, i64_w, i32_w]
      rfl
    refine one_ (i := 5) (N := (some 15)) #[true, true, true, true, true, true, false, false] rfl rfl (by kernel_rfl) (by decide) (fun K hK => ?_)
    refine goes_ Tryd.func16 (by kernel_rfl) rfl #[.slice A0 l.length c0, .int .i64 x.f3] (by rfl) rfl rfl (by (try simp only [List.map_toArray, List.map_cons, List.map_nil]); rfl) ?_
    refine (HG.out x.f3 _ (below_drew HB1.out)).mono ?_
    rintro e w2 ⟨rfl, hb⟩
    have y3b := pw_cell_below hb y3
    have y5b := pw_cell_below hb y5
    refine ⟨_, rfl, ?_⟩
    refine hK.out _ _ (⟨y3b, y5b⟩) (fun hHeld => ?_)
    clear hK K
    refine norm_ (a' := ?_) ?_ ?_
    rotate_left
    · show Act.put _ (some 15) _ = _
      simp only [Act.put, List.setIfInBounds_toArray, List.set_cons_zero, List.set_cons_succ, i64_w, i32_w]
      rfl
    refine pure_ (i := 6) (N := (some 16)) (v := ?_) (a' := ?_) #[true, true, true, true, true, true, true, false] rfl rfl (by kernel_rfl) (fun _ _ _ h => h) (Or.inl ⟨by rfl, ?_⟩) ?_ ?_
    rotate_left
    · intro w_
      go_simp
      with_reducible rfl
    rotate_left
    · simp only [Act.put, List.setIfInBounds_toArray, List.set_cons_zero, List.set_cons_succ, i64_w, i32_w]
      rfl
    refine pure_ (i := 7) (N := (some 4)) (v := ?_) (a' := ?_) #[true, true, true, true, true, true, true, true] rfl rfl (by kernel_rfl) (fun _ _ _ h => h) (Or.inl ⟨by rfl, ?_⟩) ?_ ?_
    rotate_left
    · intro w_
      go_simp
      with_reducible rfl
    rotate_left
    · simp only [Act.put, List.setIfInBounds_toArray, List.set_cons_zero, List.set_cons_succ, i64_w, i32_w]
      rfl
    refine done_ (by kernel_rfl) ?_
    go_wp2_with fail
    go_ret
    exact ⟨rfl, (below_drew HB1.out).trans (hb.mono (below_drew HB1.out).size)⟩
theorem mVK (k : Int) : ((k == 0) = true) ∨ ((k == 0) = false ∧ (k == 1) = true) ∨ ((k == 0) = false ∧ (k == 1) = false ∧ (k == 2) = true) ∨ ((k == 0) = false ∧ (k == 1) = false ∧ (k == 2) = false) := by
  cases (k == 0) <;> cases (k == 1) <;> cases (k == 2) <;> simp
set_option maxRecDepth 100000 in
set_option maxHeartbeats 8000000 in
theorem mvalue.calls (l : List S69) (x : S53) (A0 : Option Addr) (c0 : Nat) (w : World) (hr0 : Kd.C k69 w A0 l.length l) (hc0 : l.length ≤ c0) (hl : l.length ≤ 1000000) :
    Calls Tryd.prog 43 #[.slice A0 l.length c0, .agg #[.int .i64 x.f0, .int .i64 x.f1, .int .i64 x.f2, .int .i64 x.f3, .int .i64 x.f4, .int .i64 x.f5, .int .i64 x.f6]] w fun e w' => e = .returned (.int .i64 (valueL l x)) ∧ Below w.heap.size w w' := by
  have hb1 : Below w.heap.size w (w.alloc (.cells #[.int .i64 x.f0, .int .i64 x.f1, .int .i64 x.f2, .int .i64 x.f3, .int .i64 x.f4, .int .i64 x.f5, .int .i64 x.f6] 53)) := (Below.refl _ _).alloc (Nat.le_refl _) _
  have HG := Aside0.mk (fun n (W : World) (hb : Below w.heap.size w W) => mget.calls l n A0 c0 W (Kd.C_below hr0 hb) hc0 hl)
  have HB1 := Aside0.mk hb1
  have GX := Aside0.mk (blk_new w (.cells #[.int .i64 x.f0, .int .i64 x.f1, .int .i64 x.f2, .int .i64 x.f3, .int .i64 x.f4, .int .i64 x.f5, .int .i64 x.f6] 53))
  clear hr0 hc0 hl hb1
  obtain ⟨gx, hgx⟩ : ∃ gx, gx = w.heap.size := ⟨_, rfl⟩
  rw [← hgx] at GX
  have HGX := Aside0.mk hgx
  clear hgx
  rcases mVK x.f0 with h0 | ⟨h0, h1⟩ | ⟨h0, h1, h2⟩ | ⟨h0, h1, h2⟩
  · have hv : valueL l x = x.f5 := by unfold valueL; rw [if_pos (eq_of_beq h0)]
    have HV := Aside0.mk hv
    clear hv
    go_enter Tryd.func43, Tryd.ntmps43
    go_wp2_with fail
    go_ret
    exact ⟨by rw [HV.out]; rfl, HB1.out⟩
  · have hv : valueL l x = getG l x.f3 := by unfold valueL; rw [if_neg (by simpa using h0), if_pos (eq_of_beq h1)]
    have HV := Aside0.mk hv
    clear hv
    go_enter Tryd.func43, Tryd.ntmps43
    go_wp2_with fail
    refine (HG.out x.f3 _ HB1.out).mono ?_
    rintro e w2 ⟨rfl, hb⟩
    go_wp2_with fail
    go_ret
    exact ⟨by rw [HV.out]; rfl, HB1.out.trans (hb.mono HB1.out.size)⟩
  · have hv : valueL l x = evalL x.f1 (getG l x.f3) (getG l x.f4) := by unfold valueL; rw [if_neg (by simpa using h0), if_neg (by simpa using h1), if_pos (eq_of_beq h2)]
    have HV := Aside0.mk hv
    clear hv
    have y1 : (w.alloc (.cells #[.int .i64 x.f0, .int .i64 x.f1, .int .i64 x.f2, .int .i64 x.f3, .int .i64 x.f4, .int .i64 x.f5, .int .i64 x.f6] 53)).cell? ⟨gx, 1, none⟩ = some (.int .i64 x.f1) := (blk_cell GX.out 1).trans rfl
    have y3 : (w.alloc (.cells #[.int .i64 x.f0, .int .i64 x.f1, .int .i64 x.f2, .int .i64 x.f3, .int .i64 x.f4, .int .i64 x.f5, .int .i64 x.f6] 53)).cell? ⟨gx, 3, none⟩ = some (.int .i64 x.f3) := (blk_cell GX.out 3).trans rfl
    have y4 : (w.alloc (.cells #[.int .i64 x.f0, .int .i64 x.f1, .int .i64 x.f2, .int .i64 x.f3, .int .i64 x.f4, .int .i64 x.f5, .int .i64 x.f6] 53)).cell? ⟨gx, 4, none⟩ = some (.int .i64 x.f4) := (blk_cell GX.out 4).trans rfl
    obtain ⟨g3, hg3⟩ : ∃ g, g = getG l x.f3 := ⟨_, rfl⟩
    obtain ⟨g4, hg4⟩ : ∃ g, g = getG l x.f4 := ⟨_, rfl⟩
    have HG3 := Aside0.mk hg3
    have HG4 := Aside0.mk hg4
    clear hg3 hg4
    go_enter Tryd.func43, Tryd.ntmps43
    go_upto_region 7 with fail
    rw [← HGX.out]
    refine start_ (n := 12) (S := (fun W' => W'.cell? ⟨gx, 1, none⟩ = some (.int .i64 x.f1) ∧ W'.cell? ⟨gx, 3, none⟩ = some (.int .i64 x.f3) ∧ W'.cell? ⟨gx, 4, none⟩ = some (.int .i64 x.f4))) (ds := [11]) #[false, false, false, false, false, false, false, false, false, false, false, false] (by kernel_rfl) rfl rfl (⟨y1, y3, y4⟩) (fun hHeld => ?_)
    refine pure_ (i := 0) (N := (some 19)) (v := ?_) (a' := ?_) #[true, false, false, false, false, false, false, false, false, false, false, false] rfl rfl (by kernel_rfl) (fun _ _ _ h => h) (Or.inl ⟨by rfl, ?_⟩) ?_ ?_
    rotate_left
    · intro w_
      go_simp
      with_reducible rfl
    rotate_left
    · simp only [Act.put, List.setIfInBounds_toArray, List.set_cons_zero, List.set_cons_succ, i64_w, i32_w]
      rfl
    refine take_ (i := 1) (N := (some 20)) (v := ?_) (a' := ?_) #[true, true, false, false, false, false, false, false, false, false, false, false] rfl rfl (by kernel_rfl) (fun _ _ _ h => h) (Or.inl ⟨by rfl, ?_⟩) hHeld ?_ ?_
    rotate_left
    · rintro w_ ⟨s0, s1, s2⟩
      go_simp
      with_reducible rfl
    rotate_left
    · simp only [Act.put, List.setIfInBounds_toArray, List.set_cons_zero, List.set_cons_succ, i64_w, i32_w]
      rfl
    refine pure_ (i := 2) (N := (some 21)) (v := ?_) (a' := ?_) #[true, true, true, false, false, false, false, false, false, false, false, false] rfl rfl (by kernel_rfl) (fun _ _ _ h => h) (Or.inl ⟨by rfl, ?_⟩) ?_ ?_
    rotate_left
    · intro w_
      go_simp
      with_reducible rfl
    rotate_left
    · simp only [Act.put, List.setIfInBounds_toArray, List.set_cons_zero, List.set_cons_succ, i64_w, i32_w]
      rfl
    refine pure_ (i := 3) (N := (some 22)) (v := ?_) (a' := ?_) #[true, true, true, true, false, false, false, false, false, false, false, false] rfl rfl (by kernel_rfl) (fun _ _ _ h => h) (Or.inl ⟨by rfl, ?_⟩) ?_ ?_
    rotate_left
    · intro w_
      go_simp
      with_reducible rfl
    rotate_left
    · simp only [Act.put, List.setIfInBounds_toArray, List.set_cons_zero, List.set_cons_succ, i64_w, i32_w]
      rfl
    refine take_ (i := 4) (N := (some 23)) (v := ?_) (a' := ?_) #[true, true, true, true, true, false, false, false, false, false, false, false] rfl rfl (by kernel_rfl) (fun _ _ _ h => h) (Or.inl ⟨by rfl, ?_⟩) hHeld ?_ ?_
    rotate_left
    · rintro w_ ⟨s0, s1, s2⟩
      go_simp
      with_reducible rfl
    rotate_left
    · simp only [Act.put, List.setIfInBounds_toArray, List.set_cons_zero, List.set_cons_succ, i64_w, i32_w]
      rfl
    refine pure_ (i := 6) (N := (some 25)) (v := ?_) (a' := ?_) #[true, true, true, true, true, false, true, false, false, false, false, false] rfl rfl (by kernel_rfl) (fun _ _ _ h => h) (Or.inl ⟨by rfl, ?_⟩) ?_ ?_
    rotate_left
    · intro w_
      go_simp
      with_reducible rfl
    rotate_left
    · simp only [Act.put, List.setIfInBounds_toArray, List.set_cons_zero, List.set_cons_succ, i64_w, i32_w]
      rfl
    refine pure_ (i := 7) (N := (some 26)) (v := ?_) (a' := ?_) #[true, true, true, true, true, false, true, true, false, false, false, false] rfl rfl (by kernel_rfl) (fun _ _ _ h => h) (Or.inl ⟨by rfl, ?_⟩) ?_ ?_
    rotate_left
    · intro w_
      go_simp
      with_reducible rfl
    rotate_left
    · simp only [Act.put, List.setIfInBounds_toArray, List.set_cons_zero, List.set_cons_succ, i64_w, i32_w]
      rfl
    refine take_ (i := 8) (N := (some 27)) (v := ?_) (a' := ?_) #[true, true, true, true, true, false, true, true, true, false, false, false] rfl rfl (by kernel_rfl) (fun _ _ _ h => h) (Or.inl ⟨by rfl, ?_⟩) hHeld ?_ ?_
    rotate_left
    · rintro w_ ⟨s0, s1, s2⟩
      go_simp
      with_reducible rfl
    rotate_left
    · simp only [Act.put, List.setIfInBounds_toArray, List.set_cons_zero, List.set_cons_succ, i64_w, i32_w]
      rfl
    refine one_ (i := 5) (N := (some 24)) #[true, true, true, true, true, true, true, true, true, false, false, false] rfl rfl (by kernel_rfl) (by decide) (fun K hK => ?_)
    refine goes_ Tryd.func16 (by kernel_rfl) rfl #[.slice A0 l.length c0, .int .i64 x.f3] (by rfl) rfl rfl (by (try simp only [List.map_toArray, List.map_cons, List.map_nil]); rfl) ?_
    refine (HG.out x.f3 _ (below_drew HB1.out)).mono ?_
    rintro e w2 ⟨rfl, hb⟩
    have z1 := pw_cell_below hb y1
    have z3 := pw_cell_below hb y3
    have z4 := pw_cell_below hb y4
    have B2 := (below_drew HB1.out).trans (hb.mono (below_drew HB1.out).size)
    rw [← HG3.out]
    refine ⟨_, rfl, ?_⟩
    refine hK.out _ _ (⟨z1, z3, z4⟩) (fun hHeld => ?_)
    clear hK K
    refine norm_ (a' := ?_) ?_ ?_
    rotate_left
    · show Act.put _ (some 24) _ = _
      simp only [Act.put, List.setIfInBounds_toArray, List.set_cons_zero, List.set_cons_succ, i64_w, i32_w]
      rfl
    refine one_ (i := 9) (N := (some 28)) #[true, true, true, true, true, true, true, true, true, true, false, false] rfl rfl (by kernel_rfl) (by decide) (fun K hK => ?_)
    refine goes_ Tryd.func16 (by kernel_rfl) rfl #[.slice A0 l.length c0, .int .i64 x.f4] (by rfl) rfl rfl (by (try simp only [List.map_toArray, List.map_cons, List.map_nil]); rfl) ?_
    refine (HG.out x.f4 _ B2).mono ?_
    rintro e w3 ⟨rfl, hb3⟩
    have u1 := pw_cell_below hb3 z1
    have u3 := pw_cell_below hb3 z3
    have u4 := pw_cell_below hb3 z4
    have B3 := B2.trans (hb3.mono B2.size)
    rw [← HG4.out]
    refine ⟨_, rfl, ?_⟩
    refine hK.out _ _ (⟨u1, u3, u4⟩) (fun hHeld => ?_)
    clear hK K
    refine norm_ (a' := ?_) ?_ ?_
    rotate_left
    · show Act.put _ (some 28) _ = _
      simp only [Act.put, List.setIfInBounds_toArray, List.set_cons_zero, List.set_cons_succ, i64_w, i32_w]
      rfl
    refine one_ (i := 10) (N := (some 29)) #[true, true, true, true, true, true, true, true, true, true, true, false] rfl rfl (by kernel_rfl) (by decide) (fun K hK => ?_)
    refine goes_ Tryd.func53 (by kernel_rfl) rfl #[.int .i64 x.f1, .int .i64 g3, .int .i64 g4] (by rfl) rfl rfl (by (try simp only [List.map_toArray, List.map_cons, List.map_nil]); rfl) ?_
    refine (meval.calls x.f1 g3 g4 _).mono ?_
    rintro e w4 ⟨rfl, hb4⟩
    have t1 := pw_cell_below hb4 u1
    have t3 := pw_cell_below hb4 u3
    have t4 := pw_cell_below hb4 u4
    have B4 := B3.trans (hb4.mono B3.size)
    refine ⟨_, rfl, ?_⟩
    refine hK.out _ _ (⟨t1, t3, t4⟩) (fun hHeld => ?_)
    clear hK K
    refine norm_ (a' := ?_) ?_ ?_
    rotate_left
    · show Act.put _ (some 29) _ = _
      simp only [Act.put, List.setIfInBounds_toArray, List.set_cons_zero, List.set_cons_succ, i64_w, i32_w]
      rfl
    refine pure_ (i := 11) (N := (some 4)) (v := ?_) (a' := ?_) #[true, true, true, true, true, true, true, true, true, true, true, true] rfl rfl (by kernel_rfl) (fun _ _ _ h => h) (Or.inl ⟨by rfl, ?_⟩) ?_ ?_
    rotate_left
    · intro w_
      go_simp
      with_reducible rfl
    rotate_left
    · simp only [Act.put, List.setIfInBounds_toArray, List.set_cons_zero, List.set_cons_succ, i64_w, i32_w]
      rfl
    refine done_ (by kernel_rfl) ?_
    go_wp2_with fail
    go_ret
    exact ⟨by rw [HV.out, HG3.out, HG4.out]; rfl, B4⟩
  · have hv : valueL l x = if getG l x.f3 = 0 then getG l x.f2 else getG l x.f4 := by unfold valueL; rw [if_neg (by simpa using h0), if_neg (by simpa using h1), if_neg (by simpa using h2)]
    have HV := Aside0.mk hv
    clear hv
    go_enter Tryd.func43, Tryd.ntmps43
    go_wp2_with fail
    refine (HG.out x.f3 _ HB1.out).mono ?_
    rintro e w2 ⟨rfl, hb⟩
    have B2 := HB1.out.trans (hb.mono HB1.out.size)
    have g2 := blk_below GX.out hb
    have x2 : w2.cell? ⟨gx, 2, none⟩ = some (.int .i64 x.f2) := (blk_cell g2 2).trans rfl
    have x4 : w2.cell? ⟨gx, 4, none⟩ = some (.int .i64 x.f4) := (blk_cell g2 4).trans rfl
    rw [← HGX.out]
    by_cases hz : getG l x.f3 = 0
    · rw [if_pos hz] at HV
      have hz1 : (getG l x.f3 != 0) = false := by rw [hz]; rfl
      have BB := Aside0.mk B2
      clear hz g2 hb B2
      go_wp2_with fail
      refine (HG.out x.f2 _ BB.out).mono ?_
      rintro e w3 ⟨rfl, hb3⟩
      go_wp2_with fail
      go_ret
      exact ⟨by rw [HV.out]; rfl, BB.out.trans (hb3.mono BB.out.size)⟩
    · rw [if_neg hz] at HV
      have hz1 : (getG l x.f3 != 0) = true := bne_iff_ne.2 hz
      have BB := Aside0.mk B2
      clear hz g2 hb B2
      go_wp2_with fail
      refine (HG.out x.f4 _ BB.out).mono ?_
      rintro e w3 ⟨rfl, hb3⟩
      go_wp2_with fail
      go_ret
      exact ⟨by rw [HV.out]; rfl, BB.out.trans (hb3.mono BB.out.size)⟩
theorem mput.calls (w0 W : World) (F : Nat → Prop) (vG : Value) (l : List S69) (n x : Int) (hB : Below w0.heap.size w0 W) (h : Kd.R k69 69 W w0.heap.size F vG l) (hl : l.length ≤ 1000000) :
    Calls Tryd.prog 42 #[vG, .int .i64 n, .int .i64 x] W fun e w' => ∃ v', e = .returned v' ∧ Kd.R k69 69 w' w0.heap.size (fun k => F k ∨ W.heap.size ≤ k) v' (putG l n x) ∧ Below w0.heap.size w0 w' ∧ Kept W w' F ∧ ∀ T : List Nat, 69 ∉ T → Stay T W w' := by
  obtain ⟨k, hk⟩ := (put_ev l n x hl).rounds
  refine (palingref12_Put.calls k _ vG l n x _ w0 W hB (Kd.R_tight2 rfl h) hk).mono ?_
  rintro e w' ⟨v', rfl, h1, h2, h3⟩
  exact ⟨v', rfl, Kd.R_mono h1 (fun k hk => hk.imp (fun q => q.2) id), h2, h3.mono (fun k hk => hk.2), fun T hT => Stay.kept h3 (fun k hk => Kd.R_typed h k hk.1.symm) hT⟩
end Go.Proofs.YtfhjkkcdeigkdaaDoor.PFoldRuns

namespace Go.Proofs.YtfhjkkcdeigkdaaDoor.PFoldRuns
open Go.RowKit Go.Proofs.YtfhjkkcdeigkdaaDoorW.PrintWords Go.Proofs.YtfhjkkcdeigkdaaDoorW.PrintLast Go.Proofs.YtfhjkkcdeigkdaaDoorW.PrintMore
set_option linter.unusedVariables false
set_option linter.unusedSimpArgs false
/-! The document's machine: a new one. -/
theorem mHInfo : (Tryd.prog.info? 42).map (fun i => (i.zero, i.size, i.bytes)) = some (some (.agg #[(.int .i64 0), (.slice none 0 0), (.bool false)]), 3, 40) := by kernel_rfl
theorem mMakeT (w : World) : (Instr.makeSlice 44 (.int .i64 1) (.int .i64 1)).run Tryd.prog w = .ok (.slice (some ⟨w.heap.size, 0, none⟩) 1 1) (w.alloc (.cells #[.int .i64 0, .slice none 0 0, .bool false] 42)) := by
  obtain ⟨i, hi, hh⟩ := Option.map_eq_some_iff.1 mHInfo
  simp only [Prod.mk.injEq] at hh
  obtain ⟨h1, h2, h3⟩ := hh
  have h := run_make (P := Tryd.prog) w 44 42 i _ Tryd.underlying44 hi h1 .i64 .i64 1 1 (by decide) (by decide) (by rw [h3]; decide) (by decide)
  have hm : madeCells (Value.agg #[Value.int IntKind.i64 0, Value.slice none 0 0, Value.bool false]).cells ((1 : Int).toNat * 3) = #[.int .i64 0, .slice none 0 0, .bool false] := by
    unfold madeCells
    rw [show (Value.agg #[Value.int IntKind.i64 0, Value.slice none 0 0, Value.bool false]).cells = #[.int .i64 0, .slice none 0 0, .bool false] by simp [Value.cells], show Array.range ((1 : Int).toNat * 3) = #[0, 1, 2] from by decide]
    simp only [List.map_toArray, List.map_cons, List.map_nil]
    rfl
  rw [h, h2, hm]
  rfl
set_option maxRecDepth 100000 in
set_option maxHeartbeats 8000000 in
theorem mnew.calls (w0 W : World) (gC : Nat) (A0 : Option Addr) (n0 c0 : Nat) (A1 : Option Addr) (c1 : Nat) (mem : List Int) (hC : W.heap[gC]? = some (.cells #[.slice A0 n0 c0] 28 (0, 0))) (hg : w0.heap.size ≤ gC)
    (hm : Kd.C (Kd.int .i64) W A1 mem.length mem) (hc1 : mem.length ≤ c1) (hB : Below w0.heap.size w0 W) (hl : mem.length ≤ 1000000) :
    Calls Tryd.prog 14 #[.slice (some ⟨gC, 0, none⟩) 1 1, .slice A1 mem.length c1] W fun e W' => ∃ (b gT : Nat) (vM : Value), e = .returned (.pointer (some ⟨b, 0, none⟩)) ∧ MO W' w0.heap.size (fun k => k = gC ∨ W.heap.size ≤ k) b gC gT A0 n0 c0 vM (.slice none 0 0) mem [] ∧ MT W' w0.heap.size (fun k => k = gC ∨ W.heap.size ≤ k) gT (.slice none 0 0) [] 0 false ∧ Below W.heap.size W W' := by
  have HC := Aside0.mk hC
  have HG := Aside0.mk hg
  have HM := Aside0.mk hm
  have HC1 := Aside0.mk hc1
  have HB := Aside0.mk hB
  have HL := Aside0.mk hl
  clear hC hg hm hc1 hB hl
  have hmk := mMakeT W
  have hb1 : Below W.heap.size W (W.alloc (.cells #[.int .i64 0, .slice none 0 0, .bool false] 42)) := (Below.refl _ _).alloc (Nat.le_refl _) _
  have hb2 : Below W.heap.size W ((W.alloc (.cells #[.int .i64 0, .slice none 0 0, .bool false] 42)).alloc (.cells #[.slice (some ⟨gC, 0, none⟩) 1 1, .slice none 0 0, .slice none 0 0, .slice (some ⟨W.heap.size, 0, none⟩) 1 1] 46)) := hb1.alloc hb1.size _
  have hs1 : (W.alloc (.cells #[.int .i64 0, .slice none 0 0, .bool false] 42)).heap.size = W.heap.size + 1 := by simp
  have GT := Aside0.mk (blk_alloc (blk_new W (.cells #[.int .i64 0, .slice none 0 0, .bool false] 42)) (.cells #[.slice (some ⟨gC, 0, none⟩) 1 1, .slice none 0 0, .slice none 0 0, .slice (some ⟨W.heap.size, 0, none⟩) 1 1] 46))
  have gb := blk_new (W.alloc (.cells #[.int .i64 0, .slice none 0 0, .bool false] 42)) (.cells #[.slice (some ⟨gC, 0, none⟩) 1 1, .slice none 0 0, .slice none 0 0, .slice (some ⟨W.heap.size, 0, none⟩) 1 1] 46)
  rw [hs1] at gb
  have GB := Aside0.mk gb
  have HB2 := Aside0.mk hb2
  have HS2 := Aside0.mk (show ((W.alloc (.cells #[.int .i64 0, .slice none 0 0, .bool false] 42)).alloc (.cells #[.slice (some ⟨gC, 0, none⟩) 1 1, .slice none 0 0, .slice none 0 0, .slice (some ⟨W.heap.size, 0, none⟩) 1 1] 46)).heap.size = W.heap.size + 2 by simp)
  have HBW := Aside0.mk (HB.out.trans (hb2.mono HB.out.size))
  have HM2 := Aside0.mk (Kd.C_below HM.out hb2)
  clear hb1 hb2 hs1 gb
  go_enter Tryd.func14, Tryd.ntmps14
  go_wp2_with (first | ((with_reducible refine gate_builtin (b := .append) (xs := #[.tmp 16, .tmp 17]) rfl ?_); at_builtin; (refine Kd.R_append_rows (Kd.int .i64) (w0 := w0) w0.heap.size rfl (.tmp 16) (.tmp 17) 31 2 (.int .i64 0) 8 rfl Tryd.underlying31 info2 rfl (by decide) (by omega) (.slice none 0 0) ([] : List Int) mem _ _ _ (fun k => k = gC ∨ W.heap.size ≤ k) (fun _ => False) rfl rfl (Kd.R_nil _ _ _ _ _) HM2.out (fun _ _ h => h) (fun _ h => h.elim) (fun k_ hk => .inr (by have := HS2.out; omega)) HBW.out HBW.out.size (by have := HL.out; simp; omega) ?_; intro vM w3 ho hb hg hat; have HR3 := Aside0.mk (show Kd.R (Kd.int .i64) 2 w3 w0.heap.size (fun k => k = gC ∨ W.heap.size ≤ k) vM mem from ho); have hold : ∀ k, k < W.heap.size + 2 → w3.heap[k]? = ((W.alloc (.cells #[.int .i64 0, .slice none 0 0, .bool false] 42)).alloc (.cells #[.slice (some ⟨gC, 0, none⟩) 1 1, .slice none 0 0, .slice none 0 0, .slice (some ⟨W.heap.size, 0, none⟩) 1 1] 46)).heap[k]? := fun k hk => hg.block k (by have := HS2.out; omega) (by simp [Value.ownBlock]); have HBn := Aside0.mk (show Below W.heap.size W w3 from ⟨hb.os.trans HB.out.os.symm, hb.tape.trans HB.out.tape.symm, hb.output.trans HB.out.output.symm, Nat.le_trans HB2.out.size hg.size, fun k hk => (hold k (by omega)).trans (HB2.out.block k hk)⟩); have GT3 := Aside0.mk ((hold W.heap.size (by omega)).trans GT.out); have GB3 := Aside0.mk ((hold (W.heap.size + 1) (by omega)).trans GB.out); clear ho hb hg hat hold; obtain ⟨AM, cM, eM⟩ := Kd.R_slice HR3.out; subst eM; have b1 : w3.cell? ⟨W.heap.size + 1, 1, none⟩ = some (.slice none 0 0) := (blk_cell GB3.out 1).trans rfl; have bf : w3.frozen? ⟨W.heap.size + 1, 1, none⟩ = false := blk_frozen GB3.out 1)))
  go_ret
  have s1 : ∀ T : List Nat, 46 ∉ T → Stay T w3 (w3.setCell ⟨W.heap.size + 1, 1, none⟩ (.slice AM mem.length cM)) := fun T hT => Stay.set GB3.out hT 1 _
  have hCW : w3.heap[gC]? = some (.cells #[.slice A0 n0 c0] 28 (0, 0)) := blk_below HC.out HBn.out
  have hWl : w0.heap.size ≤ W.heap.size := HB.out.size
  refine ⟨W.heap.size + 1, W.heap.size, .slice AM mem.length cM, rfl, ⟨⟨.inr (by omega), .inl rfl, .inr (Nat.le_refl _)⟩, ⟨by omega, HG.out, hWl⟩, blk_set GB3.out 1 _, (s1 [28] (by decide)).blk hCW (by decide), (s1 [2] (by decide)).row HR3.out (by decide), Kd.R_nil _ _ _ _ _⟩, ⟨(s1 [42] (by decide)).blk GT3.out (by decide), Kd.R_nil _ _ _ _ _⟩, ?_⟩
  exact HBn.out.setCell (p := ⟨W.heap.size + 1, 1, none⟩) (by show W.heap.size ≤ W.heap.size + 1; omega) _
end Go.Proofs.YtfhjkkcdeigkdaaDoor.PFoldRuns
