import Derived.Test.YtdopacgaklaaeaaDoorPDeadRunsx0
import Derived.Test.YtdopacgaklaaeaaDoorPDeadRunshg3
import Derived.Test.YtdopacgaklaaeaaDoorPDeadRunshg7
import Derived.Test.YtdopacgaklaaeaaDoorPDeadRunshgnx
import Derived.Test.YtdopacgaklaaeaaDoorPDeadRunshg6
import Derived.Test.YtdopacgaklaaeaaDoorPDeadRunshplain0
import Derived.Lib.RowBridge
import Derived.Test.YtdopacgaklaaeaaDoorPDeadRunsx8
import Derived.Test.YtdopacgaklaaeaaDoorPDeadRunsx9
import Derived.Test.YtdopacgaklaaeaaDoorPDeadRunshforms
namespace Go.Proofs.YtdopacgaklaaeaaDoor.PDeadRuns
open Go.RowKit Go.Proofs.YtdopacgaklaaeaaDoorW.PrintWords Go.Proofs.YtdopacgaklaaeaaDoorW.PrintLast Go.Proofs.YtdopacgaklaaeaaDoorW.PrintMore
set_option linter.unusedVariables false
set_option linter.unusedSimpArgs false
/-! A string's bytes as a list. -/
theorem toList_loop (s : ByteArray) : ∀ (d i : Nat) (r : List UInt8), s.size - i = d → ByteArray.toList.loop s i r = r.reverse ++ s.data.toList.drop i := by
  intro d
  induction d with
  | zero =>
    intro i r h
    rw [ByteArray.toList.loop, if_neg (by omega), List.drop_eq_nil_of_le (by rw [Array.length_toList]; show s.size ≤ i; omega)]
    simp
  | succ d ih =>
    intro i r h
    have hi : i < s.size := by omega
    have hl : i < s.data.toList.length := by rw [Array.length_toList]; exact hi
    rw [ByteArray.toList.loop, if_pos hi, ih (i + 1) _ (by omega), List.reverse_cons, List.append_assoc, List.drop_eq_getElem_cons hl]
    congr 1
    simp only [List.cons_append, List.nil_append]
    congr 1
    show s.data[i]! = _
    rw [getElem!_pos s.data i hi]
    simp
theorem toList_data (s : ByteArray) : s.toList = s.data.toList := by
  rw [ByteArray.toList, toList_loop s s.size 0 [] (by omega)]
  simp
end Go.Proofs.YtdopacgaklaaeaaDoor.PDeadRuns

namespace Go.Proofs.YtdopacgaklaaeaaDoor.PDeadRuns
open Go.RowKit Go.Proofs.YtdopacgaklaaeaaDoorW.PrintWords Go.Proofs.YtdopacgaklaaeaaDoorW.PrintLast Go.Proofs.YtdopacgaklaaeaaDoorW.PrintMore
set_option linter.unusedVariables false
set_option linter.unusedSimpArgs false
/-! useRegs: rising, each once, none below 0. -/
theorem useRegs_spec (L : List Int) : (useRegs L).Pairwise (· < ·) ∧ ∀ i, i ∈ useRegs L ↔ i ∈ L ∧ 0 ≤ i := by
  have h := compact_sort (L.filter (fun x => !decide (x < 0)))
  refine ⟨h.1, fun i => ?_⟩
  unfold useRegs
  rw [h.2, List.mem_filter]
  simp
end Go.Proofs.YtdopacgaklaaeaaDoor.PDeadRuns

namespace Go.Proofs.YtdopacgaklaaeaaDoor.PDeadRuns
open Go.RowKit Go.Proofs.YtdopacgaklaaeaaDoorW.PrintWords Go.Proofs.YtdopacgaklaaeaaDoorW.PrintLast Go.Proofs.YtdopacgaklaaeaaDoorW.PrintMore
set_option linter.unusedVariables false
set_option linter.unusedSimpArgs false
open Go.Shelf
/-! Package graph in plain words: Reach. -/
/-- where the instruction at i goes to in its code -/
def nxOf (l : List S28) (i : Int) : List Int := if 0 ≤ i ∧ i < (l.length : Int) then (graph_next.f l i).getD [] else []
theorem twoL_len (a b : Int) : (twoL a b).length ≤ 2 := by
  unfold twoL
  refine Nat.le_trans (Lib.compact_length_le _) ?_
  rw [List.length_mergeSort]; simp
theorem graph_next_some (l : List S28) (i : Int) (h0 : 0 ≤ i) (h1 : i < (l.length : Int)) : graph_next.f l i = some (nxOf l i) := by
  unfold nxOf
  rw [if_pos ⟨h0, h1⟩]
  unfold graph_next.f ins_Next.f
  rw [if_pos ⟨h0, h1⟩, Option.bind_some]
  rw [if_pos ?_]
  · rfl
  · split
    · simp
    · split
      · simp
      · split
        · have := twoL_len (wrap64 (i + 1)) (rd_T28 l i).f6; omega
        · simp
theorem nxOf_in (l : List S28) (i : Int) : ∀ j ∈ nxOf l i, 0 ≤ j ∧ j < (l.length : Int) := by
  intro j hj
  by_cases h : 0 ≤ i ∧ i < (l.length : Int)
  · have he := graph_next_some l i h.1 h.2
    unfold graph_next.f at he
    rw [if_pos h] at he
    obtain ⟨L, _, h2⟩ := Option.bind_eq_some_iff.1 he
    by_cases hL : L.length ≤ 1000000
    · rw [if_pos hL] at h2
      rw [← Option.some.inj h2] at hj
      have := (List.mem_filter.1 hj).2
      unfold inB at this
      simp at this
      omega
    · rw [if_neg hL] at h2; exact absurd h2 (by simp)
  · unfold nxOf at hj
    rw [if_neg h] at hj
    exact absurd hj (by simp)
theorem insNext_len {a0 a1 a2 a3 a4 a5 a6 b : Int} {L : List Int} (h : ins_Next.f a0 a1 a2 a3 a4 a5 a6 b = some L) : L.length ≤ 2 := by
  unfold ins_Next.f at h
  rw [← Option.some.inj h]
  split
  · simp
  · split
    · simp
    · split
      · exact twoL_len _ _
      · simp
theorem nxOf_len (l : List S28) (i : Int) : (nxOf l i).length ≤ 2 := by
  by_cases h : 0 ≤ i ∧ i < (l.length : Int)
  · have he := graph_next_some l i h.1 h.2
    unfold graph_next.f at he
    rw [if_pos h] at he
    obtain ⟨L, h1, h2⟩ := Option.bind_eq_some_iff.1 he
    by_cases hL : L.length ≤ 1000000
    · rw [if_pos hL] at h2
      rw [← Option.some.inj h2]
      exact Nat.le_trans (List.length_filter_le _ _) (insNext_len h1)
    · rw [if_neg hL] at h2; exact absurd h2 (by simp)
  · unfold nxOf
    rw [if_neg h]
    simp
theorem un_none (n : Nat) : un (List.replicate n false) = n := by simp [un]
theorem at_none (n : Nat) (i : Int) : at_ (List.replicate n false) i = false := by
  unfold at_
  rw [List.getD_eq_getElem?_getD, List.getElem?_replicate]
  split <;> rfl
/-- Reach tells just the places that ways from the first one lead to. -/
theorem graph_Reach_spec (l : List S28) (hn : 0 < l.length) (hl : l.length ≤ 1000) (k : Nat) (hk : 4000 < k) :
    ∃ re, graph_Reach.f k l = some re ∧ re.length = l.length ∧ ∀ i, 0 ≤ i → (at_ re i = true ↔ Way (nxOf l) 0 i) := by
  have hne : l ≠ [] := List.length_pos_iff.1 hn
  obtain ⟨R, h1, hI⟩ := walk_go (nxOf l) (graph_next.f l) l.length 2 [0] (fun i h0 h1 => graph_next_some l i h0 h1) (fun i _ _ => ⟨nxOf_len l i, nxOf_in l i⟩) 4000 (List.replicate l.length false) [0]
    ⟨by simp, fun i hi => by rw [List.mem_singleton.1 hi]; omega, fun i _ hh => by
        rcases hh with hh | hh
        · rw [at_none] at hh; exact absurd hh (by simp)
        · rw [List.mem_singleton.1 hh]; exact ⟨0, by simp, .refl 0⟩, fun i _ hh => by rw [at_none] at hh; exact absurd hh (by simp), fun s hs => .inr hs⟩
    (by rw [un_none]; simp; omega) (by rw [un_none]; simp; omega) k hk
  refine ⟨R, by unfold graph_Reach.f; rw [if_neg hne, if_pos (by omega)]; exact h1, hI.len, fun i hi => ?_⟩
  rw [hI.done (fun i _ _ => nxOf_in l i) (fun s hs => by rw [List.mem_singleton.1 hs]; omega) i hi]
  constructor
  · rintro ⟨s, hs, hw⟩; rw [List.mem_singleton.1 hs] at hw; exact hw
  · intro hw; exact ⟨0, by simp, hw⟩
theorem graph_Reach_ev (l : List S28) (hn : 0 < l.length) (hl : l.length ≤ 1000) : ∃ re, Ev (fun k => graph_Reach.f k l) re ∧ re.length = l.length ∧ ∀ i, 0 ≤ i → (at_ re i = true ↔ Way (nxOf l) 0 i) := by
  obtain ⟨re, h1, h2⟩ := graph_Reach_spec l hn hl 4001 (by omega)
  exact ⟨re, Ev.of (graph_Reach.mono l) h1, h2⟩
end Go.Proofs.YtdopacgaklaaeaaDoor.PDeadRuns

namespace Go.Proofs.YtdopacgaklaaeaaDoor.PDeadRuns
open Go.RowKit Go.Proofs.YtdopacgaklaaeaaDoorW.PrintWords Go.Proofs.YtdopacgaklaaeaaDoorW.PrintLast Go.Proofs.YtdopacgaklaaeaaDoorW.PrintMore
set_option linter.unusedVariables false
set_option linter.unusedSimpArgs false
/-! The document's machine of one thread, in plain words: registers, values, steps. -/
def getG : List S90 → Int → Int
  | [], _ => 0
  | x :: xs, n => if x.f0 = n then x.f1 else getG xs n
def putG (l : List S90) (n x : Int) : List S90 := if n < 0 then l else l.filter (fun y => !(y.f0 == n)) ++ [⟨n, x⟩]
def evalL (o a b : Int) : Int := (palingref01_Eval.f 100 o a b).getD 0
def wordL (l : List S90) (x : S28) : Int := if x.f3 < 0 then x.f5 else wrap64 (x.f5 + getG l x.f3)
def valueL (l : List S90) (x : S28) : Int := if x.f0 = 0 then x.f5 else if x.f0 = 1 then getG l x.f3 else if x.f0 = 2 then evalL x.f1 (getG l x.f3) (getG l x.f4) else if getG l x.f3 = 0 then getG l x.f2 else getG l x.f4
theorem gdrop (l : List S90) (i : Int) (h0 : 0 ≤ i) (h : i < (l.length : Int)) : l.drop i.toNat = rd_T90 l i :: l.drop (i + 1).toNat := by
  rw [show (i + 1).toNat = i.toNat + 1 by omega, List.drop_eq_getElem_cons (by omega)]
  congr 1
  unfold rd_T90
  rw [List.getD_eq_getElem?_getD, List.getElem?_eq_getElem (by omega)]; rfl
theorem get_ev (l : List S90) (n : Int) (hl : l.length ≤ 4611686018427387904) : Ev (fun k => palingref12_Get.f k l n) (getG l n) := by
  have key : ∀ i : Int, 0 ≤ i → i ≤ (l.length : Int) → Ev (fun k => palingref12_Get.l0 k l n i) (getG (l.drop i.toNat) n) := by
    refine up_ind ?_ ?_
    · rw [List.drop_eq_nil_of_le (by omega)]
      exact Ev.step (fun k => rfl) (Ev.neg (by omega) (Ev.con rfl))
    · intro i i0 i1 ih
      rw [gdrop l i i0 i1, getG]
      refine Ev.step (fun k => rfl) (Ev.pos i1 (Ev.pos i0 ?_))
      by_cases hq : (rd_T90 l i).f0 = n
      · rw [if_pos hq]; exact Ev.pos hq (Ev.con rfl)
      · rw [if_neg hq, wrap_up i0 i1 hl]; exact Ev.neg hq ih
  exact key 0 (by omega) (by omega)
theorem put_ev (l : List S90) (n x : Int) (hl : l.length ≤ 1000000) : Ev (fun k => palingref12_Put.f k l n x) (putG l n x) := by
  unfold putG
  refine Ev.congr (f := fun k => if n < 0 then some l else palingref12_Put.l0 k l n x [] 0) (fun k => rfl) ?_
  by_cases hn : n < 0
  · rw [if_pos hn]; exact Ev.pos hn (Ev.con rfl)
  rw [if_neg hn]
  refine Ev.neg hn ?_
  have key : ∀ i : Int, 0 ≤ i → i ≤ (l.length : Int) → ∀ o : List S90, (o.length : Int) ≤ i → Ev (fun k => palingref12_Put.l0 k l n x o i) (o ++ (l.drop i.toNat).filter (fun y => !(y.f0 == n)) ++ [⟨n, x⟩]) := by
    refine up_ind ?_ ?_
    · intro o ho
      rw [List.drop_eq_nil_of_le (by omega)]
      exact Ev.step (fun k => rfl) (Ev.neg (by omega) (Ev.pos (by omega) (Ev.con (by simp))))
    · intro i i0 i1 ih o ho
      rw [gdrop l i i0 i1, List.filter_cons]
      refine Ev.step (fun k => rfl) (Ev.pos i1 (Ev.pos i0 ?_))
      rw [wrap_up i0 i1 (by omega)]
      by_cases hq : (rd_T90 l i).f0 = n
      · rw [if_neg (by simp [hq])]
        exact Ev.pos hq (ih o (by omega))
      · rw [if_pos (by simp [hq])]
        refine Ev.neg hq (Ev.pos (by omega) ?_)
        have := ih (o ++ [rd_T90 l i]) (by simp; omega)
        rw [List.append_assoc o] at this
        exact this
  simpa using key 0 (by omega) (by omega) [] (by simp)
theorem putG_len (l : List S90) (n x : Int) : (putG l n x).length ≤ l.length + 1 := by
  unfold putG
  split
  · omega
  · have := List.length_filter_le (fun y : S90 => !(y.f0 == n)) l
    simp; omega
theorem shift_ev (a : Int) (up : Bool) (n : Int) (hn : n ≤ 63) : ∀ (m : Nat) (i a : Int), 0 ≤ i → (n - i).toNat ≤ m → ∀ k, m < k → (palingref01_shift.l0 k a up n i).isSome = true
  | m, i, a, h0, hm, 0, hk => by omega
  | 0, i, a, h0, hm, k + 1, hk => by
    unfold palingref01_shift.l0
    rw [if_neg (by omega)]; rfl
  | m + 1, i, a, h0, hm, k + 1, hk => by
    unfold palingref01_shift.l0
    have hw : wrap64 (i + 1) = i + 1 ∨ ¬ i < n := by
      by_cases h : i < n
      · exact .inl (wrap_in (by omega) (by omega))
      · exact .inr h
    by_cases h : i < n
    · rw [if_pos h]
      have hw : wrap64 (i + 1) = i + 1 := wrap_in (by omega) (by omega)
      rw [hw]
      have ih := fun a => shift_ev a up n hn m (i + 1) a (by omega) (by omega) k (by omega)
      split
      · exact ih _
      · split
        · split <;> exact ih _
        · exact ih _
    · rw [if_neg h]; rfl
theorem shift_some (a b : Int) (up : Bool) (k : Nat) (hk : 70 ≤ k) : (palingref01_shift.f k a b up).isSome = true := by
  unfold palingref01_shift.f
  have h1 := Int.tmod_lt_of_pos (IntKind.u64.wrap b) (show (0 : Int) < 64 by omega)
  have h0 : 0 ≤ IntKind.u64.wrap b := by unfold IntKind.wrap; simp [IntKind.bits, IntKind.signed]; omega
  have h2 := Int.tmod_nonneg 64 h0
  rw [wrap_in (x := Int.tmod (IntKind.u64.wrap b) 64) (by omega) (by omega)]
  exact shift_ev a up _ (by omega) 64 0 a (by omega) (by omega) k (by omega)
theorem eval_ev (o a b : Int) : Ev (fun k => palingref01_Eval.f k o a b) (evalL o a b) := by
  have hs : (palingref01_Eval.f 100 o a b).isSome = true := by
    have h8 := fun up => shift_some a b up 99 (by omega)
    have hd : ∀ x y, (palingref01_div.f x y).isSome = true := fun x y => by unfold palingref01_div.f; split <;> (try split) <;> rfl
    have ho : ∀ x, (palingref01_one.f x).isSome = true := fun x => by unfold palingref01_one.f; split <;> rfl
    have hb : ∀ {α β : Type} (u : Option α) (f : α → Option β), u.isSome = true → (∀ t, (f t).isSome = true) → (u.bind f).isSome = true := fun u f h1 h2 => by
      cases u with
      | none => cases h1
      | some t => exact h2 t
    have hi : ∀ {c : Prop} [Decidable c] (u v : Option Int), u.isSome = true → v.isSome = true → (if c then u else v).isSome = true := fun {c} _ u v h1 h2 => by
      by_cases hc : c
      · rw [if_pos hc]; exact h1
      · rw [if_neg hc]; exact h2
    unfold palingref01_Eval.f
    simp only [palingref01_Eval.j0]
    repeat' first | rfl | exact hb _ _ (hd _ _) (fun _ => rfl) | exact hb _ _ (ho _) (fun _ => rfl) | exact hb _ _ (h8 _) (fun _ => rfl) | refine hi _ _ ?_ ?_
  obtain ⟨v, hv⟩ := Option.isSome_iff_exists.1 hs
  have e : evalL o a b = v := by unfold evalL; rw [hv]; rfl
  rw [e]
  exact Ev.of (palingref01_Eval.mono o a b) hv
/-- what the machine has -/
structure MSt where
  mem : List Int
  own : List S93
  regs : List S90
  pc : Int
  over : Bool
def plainS (x : S28) (s : MSt) : MSt :=
  if x.f0 = 0 ∨ x.f0 = 1 ∨ x.f0 = 2 ∨ x.f0 = 3 then { s with regs := putG s.regs x.f2 (valueL s.regs x), pc := wrap64 (s.pc + 1) }
  else if x.f0 = 4 then { s with regs := putG s.regs x.f2 (if 0 ≤ wordL s.regs x ∧ wordL s.regs x < (s.mem.length : Int) then rd s.mem (wordL s.regs x) else 0), pc := wrap64 (s.pc + 1) }
  else if x.f0 = 5 then { s with mem := if 0 ≤ wordL s.regs x ∧ wordL s.regs x < (s.mem.length : Int) then s.mem.set (wordL s.regs x).toNat (getG s.regs x.f4) else s.mem, pc := wrap64 (s.pc + 1) }
  else if x.f0 = 6 then { s with pc := x.f6 }
  else if x.f0 = 7 ∧ getG s.regs x.f3 = 0 then { s with pc := x.f6 }
  else { s with pc := wrap64 (s.pc + 1) }
def ownerL : List S93 → Int → Int
  | [], _ => -1
  | x :: xs, n => if x.f0 = n then x.f1 else ownerL xs n
/-- a Take, or a Give: the state, the event's kind, and how it ended -/
def lockS (x : S28) (s : MSt) : MSt × (Int × Int) × Int :=
  if x.f0 = 9 ∧ 0 ≤ ownerL s.own x.f5 then (s, (0, 0), 1)
  else ({ s with own := s.own.filter (fun y => !(y.f0 == x.f5)) ++ (if x.f0 = 9 then [⟨x.f5, 0⟩] else []), pc := wrap64 (s.pc + 1) }, (if x.f0 = 9 then 1 else 2, x.f5), 0)
def fetchS (c : List S28) (s : MSt) : S28 := if 0 ≤ s.pc ∧ s.pc < (c.length : Int) then c.getD s.pc.toNat z28 else ⟨13, 0, 0, 0, 0, 0, 0⟩
/-- turns of the machine: the event (kind, N), and how it ended -/
def runS (c : List S28) : Nat → MSt → MSt × (Int × Int) × Int
  | 0, s => (s, (0, 0), 3)
  | f + 1, s =>
    if (fetchS c s).f0 = 11 then ({ s with pc := wrap64 (s.pc + 1) }, (0, getG s.regs (fetchS c s).f3), 0)
    else if (fetchS c s).f0 = 9 ∨ (fetchS c s).f0 = 10 then lockS (fetchS c s) s
    else if (fetchS c s).f0 = 12 then ({ s with over := true }, (3, (fetchS c s).f5), 0)
    else if (fetchS c s).f0 = 13 then ({ s with over := true }, (4, 0), 0)
    else runS c f (plainS (fetchS c s) s)
def nextS (c : List S28) (f : Nat) (s : MSt) : MSt × (Int × Int) × Int := if s.over = true then (s, (0, 0), 2) else runS c f s
end Go.Proofs.YtdopacgaklaaeaaDoor.PDeadRuns

namespace Go.Proofs.YtdopacgaklaaeaaDoor.PDeadRuns
open Go.RowKit Go.Proofs.YtdopacgaklaaeaaDoorW.PrintWords Go.Proofs.YtdopacgaklaaeaaDoorW.PrintLast Go.Proofs.YtdopacgaklaaeaaDoorW.PrintMore
set_option linter.unusedVariables false
set_option linter.unusedSimpArgs false
open Go.Shelf
/-! Where an instruction leads, and what a register has behind a Put. -/
/-- where an instruction leads -/
def succL (x : S28) (i : Int) : List Int := if x.f0 = 12 ∨ x.f0 = 13 then [] else if x.f0 = 6 then [x.f6] else if x.f0 = 7 then [i + 1, x.f6] else [i + 1]
theorem next_succ (x : S28) (hk : 0 ≤ x.f0 ∧ x.f0 < 14) (i : Int) (h0 : 0 ≤ i) (h1 : i ≤ 100000) : ∃ L, ins_Next.f x.f0 x.f1 x.f2 x.f3 x.f4 x.f5 x.f6 i = some L ∧ ∀ j ∈ succL x i, j ∈ L := by
  refine ⟨_, rfl, fun j hj => ?_⟩
  have hw : wrap64 (i + 1) = i + 1 := wrap_in (by omega) (by omega)
  have h9 : ∀ k : Int, 0 ≤ k ∧ k < 14 → (fmB 9 k = true ↔ (k = 12 ∨ k = 13)) := fun k hk => kind_cases' (P := fun k => fmB 9 k = true ↔ (k = 12 ∨ k = 13)) k hk (by decide +kernel) (by decide +kernel) (by decide +kernel) (by decide +kernel) (by decide +kernel) (by decide +kernel) (by decide +kernel) (by decide +kernel) (by decide +kernel) (by decide +kernel) (by decide +kernel) (by decide +kernel) (by decide +kernel) (by decide +kernel)
  unfold succL at hj
  rw [hw]
  by_cases he : x.f0 = 12 ∨ x.f0 = 13
  · rw [if_pos he] at hj; cases hj
  rw [if_neg he] at hj
  rw [if_neg (by rw [h9 _ hk]; rintro (h | h); exact h hk; exact he h)]
  by_cases h6 : x.f0 = 6
  · rw [if_pos h6] at hj ⊢; exact hj
  rw [if_neg h6] at hj ⊢
  by_cases h7 : x.f0 = 7
  · rw [if_pos h7] at hj ⊢
    rw [(twoL_spec _ _).2]
    simpa using hj
  · rw [if_neg h7] at hj ⊢; exact hj
theorem get_put (l : List S90) (n x r : Int) (hn : 0 ≤ n) : getG (putG l n x) r = if r = n then x else getG l r := by
  unfold putG
  rw [if_neg (by omega)]
  induction l with
  | nil =>
    simp only [List.filter_nil, List.nil_append, getG]
    by_cases h : r = n
    · rw [if_pos h, if_pos h.symm]
    · rw [if_neg h, if_neg (fun e => h e.symm)]
  | cons y ys ih =>
    rw [List.filter_cons]
    by_cases hy : y.f0 = n
    · rw [if_neg (by simp [hy]), ih, getG]
      by_cases h : r = n
      · rw [if_pos h, if_pos h]
      · rw [if_neg h, if_neg h, if_neg (by rw [hy]; exact fun e => h e.symm)]
    · rw [if_pos (by simp [hy]), List.cons_append, getG, ih, getG]
      by_cases hr : y.f0 = r
      · rw [if_pos hr, if_pos hr, if_neg (by rw [← hr]; exact hy)]
      · rw [if_neg hr, if_neg hr]
end Go.Proofs.YtdopacgaklaaeaaDoor.PDeadRuns
