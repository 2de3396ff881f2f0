import Derived.Test.YtdopacgaklaaeaaDoorPDeadRunsx0
import Derived.Test.YtdopacgaklaaeaaDoorPDeadRunsx7
import Derived.Test.YtdopacgaklaaeaaDoorPDeadRunsx8
import Derived.Test.YtdopacgaklaaeaaDoorPDeadRunshg1
import Derived.Test.YtdopacgaklaaeaaDoorPDeadRunshone11
import Derived.Test.YtdopacgaklaaeaaDoorPDeadRunshplain0
import Derived.Test.YtdopacgaklaaeaaDoorPDeadRunshg3
namespace Go.Proofs.YtdopacgaklaaeaaDoor.PDeadRuns
open Go.RowKit Go.Proofs.YtdopacgaklaaeaaDoorW.PrintWords Go.Proofs.YtdopacgaklaaeaaDoorW.PrintLast Go.Proofs.YtdopacgaklaaeaaDoorW.PrintMore
set_option linter.unusedVariables false
set_option linter.unusedSimpArgs false
/-! palingref11.Check, in plain words. -/
def regB (a0 a1 : Int) (a2 a3 : Bool) : Bool := if a2 = true then (decide (a0 ≥ 0) && decide (a0 < a1) || (a3 && a0 == -1)) else a0 == 0
theorem reg_spec (a0 a1 : Int) (a2 a3 : Bool) : palingref11_reg.f a0 a1 a2 a3 = some (regB a0 a1 a2 a3) := by
  unfold palingref11_reg.f regB
  by_cases h0 : a0 ≥ 0 <;> by_cases h1 : a0 < a1 <;> cases a2 <;> cases a3 <;> simp [h0, h1]
  all_goals omega
def numB (kind n locks : Int) : Bool := if kind = 4 ∨ kind = 5 then decide (n ≥ 0) && decide (n ≤ 65535) else if kind = 9 ∨ kind = 10 then decide (n ≥ 0) && decide (n < locks) else if kind = 12 then n == 1 || n == 2 else true
theorem number_spec (a0 a1 a2 a3 a4 a5 a6 x : Int) : ∀ k, 2 ≤ k → palingref11_number.f k a0 a1 a2 a3 a4 a5 a6 x = some (numB a0 a5 x) := by
  intro k hk
  obtain ⟨k, rfl⟩ : ∃ m, k = m + 2 := ⟨k - 2, by omega⟩
  simp only [palingref11_number.f, palingref11_number.j0, palingref11_number.j1, numB]
  by_cases h4 : a0 = 4
  · subst h4; by_cases h : a5 ≥ 0 <;> simp [h]
  · by_cases h5 : a0 = 5
    · subst h5; by_cases h : a5 ≥ 0 <;> simp [h]
    · by_cases h9 : a0 = 9
      · subst h9; by_cases h : a5 ≥ 0 <;> simp [h]
      · by_cases h10 : a0 = 10
        · subst h10; by_cases h : a5 ≥ 0 <;> simp [h]
        · by_cases h12 : a0 = 12
          · subst h12; by_cases h : a5 = 1 <;> simp [h]
          · simp [h4, h5, h9, h10, h12]
def oneB (x : S28) (size regs locks : Int) : Bool :=
  decide (0 ≤ x.f0 ∧ x.f0 < 14) && (regB x.f2 regs (fD x.f0) false && (regB x.f3 regs (fA x.f0) (x.f0 == 4 || x.f0 == 5) && (regB x.f4 regs (fB x.f0) false &&
    ((fO x.f0 || x.f1 == 0) && (decide (0 ≤ x.f1) && (decide (x.f1 ≤ 18) && ((fN x.f0 || x.f5 == 0) && ((fT x.f0 || x.f6 == 0) && (numB x.f0 x.f5 locks && (decide (0 ≤ x.f6) && decide (x.f6 < size)))))))))))
set_option maxHeartbeats 4000000 in
theorem one_spec (x : S28) (size regs locks : Int) : Ev (fun k => palingref11_one.f k x.f0 x.f1 x.f2 x.f3 x.f4 x.f5 x.f6 size regs locks) (oneB x size regs locks) := by
  obtain ⟨e1, e2, e3, e4, e5, e6, e7⟩ := fld_has x.f0
  have hsz : (fldB x.f0).size ≤ 4611686018427387904 := by have := fld_size x.f0; omega
  obtain ⟨k1, g1⟩ := has_spec (fldB x.f0) 68 hsz
  obtain ⟨k2, g2⟩ := has_spec (fldB x.f0) 65 hsz
  obtain ⟨k3, g3⟩ := has_spec (fldB x.f0) 66 hsz
  obtain ⟨k4, g4⟩ := has_spec (fldB x.f0) 79 hsz
  obtain ⟨k5, g5⟩ := has_spec (fldB x.f0) 78 hsz
  obtain ⟨k6, g6⟩ := has_spec (fldB x.f0) 84 hsz
  rw [e1] at g1; rw [e2] at g2; rw [e3] at g3; rw [e4] at g4; rw [e5] at g5; rw [e6] at g6
  refine ⟨k1 + k2 + k3 + k4 + k5 + k6 + 5, fun k hk => ?_⟩
  have q1 := g1 k (by omega)
  have q2 := g2 k (by omega)
  have q3 := g3 k (by omega)
  have q4 := g4 k (by omega)
  have q5 := g5 k (by omega)
  have q6 := g6 k (by omega)
  have q7 := number_spec x.f0 x.f1 x.f2 x.f3 x.f4 x.f5 x.f6 locks k (by omega)
  simp only [palingref11_one.f, fields_spec, Option.bind_some, q1, q2, q3, q4, q5, q6, q7, reg_spec]
  refine congrArg some ?_
  have he : ((fldB x.f0).toList == ([] : List UInt8)) = !decide (0 ≤ x.f0 ∧ x.f0 < 14) := by
    by_cases hk : 0 ≤ x.f0 ∧ x.f0 < 14
    · have hne : ¬ ((fldB x.f0).toList = []) := by rw [toList_data, e7]; simpa using hk
      rw [beq_eq_false_iff_ne.mpr hne, decide_eq_true hk]; rfl
    · have he : (fldB x.f0).toList = [] := by rw [toList_data, e7]; exact hk
      rw [beq_iff_eq.mpr he, decide_eq_false hk]; rfl
  have d1 : ∀ z : Int, decide (18 < z) = !decide (z ≤ 18) := fun z => by by_cases h : z ≤ 18 <;> simp [h]; omega
  have d2 : ∀ z : Int, decide (z < 0) = !decide (0 ≤ z) := fun z => by by_cases h : 0 ≤ z <;> simp [h]; omega
  simp only [oneV, oneB, he, bne, d1, d2, Bool.not_or, Bool.not_and, Bool.not_not, Bool.and_assoc]
def endsB (l : List S28) : Bool := (rd_T28 l ((l.length : Int) - 1)).f0 == 6 || ((rd_T28 l ((l.length : Int) - 1)).f0 == 12 || (rd_T28 l ((l.length : Int) - 1)).f0 == 13)
def checkB (l : List S28) (regs locks : Int) : Bool := decide (1 ≤ l.length) && (decide (l.length ≤ 4096) && (l.all (fun x => oneB x l.length regs locks) && endsB l))
theorem check_spec (l : List S28) (regs locks : Int) : Ev (fun k => palingref11_Check.f k l regs locks) (checkB l regs locks) := by
  by_cases h1 : (l.length : Int) < 1
  · refine Ev.congr (fun k => rfl) (Ev.pos h1 (Ev.step (f := fun _ => some false) (fun k => rfl) (Ev.con ?_)))
    have : ¬ 1 ≤ l.length := by omega
    simp [checkB, this]
  · refine Ev.congr (fun k => rfl) (Ev.neg h1 (Ev.step (fun k => rfl) ?_))
    by_cases h2 : (l.length : Int) > 4096
    · refine Ev.pos (decide_eq_true h2) (Ev.con ?_)
      have : ¬ l.length ≤ 4096 := by omega
      simp [checkB, this]
    · refine Ev.neg (by simpa using h2) ?_
      have key : ∀ i : Int, 0 ≤ i → i ≤ l.length → Ev (fun k => palingref11_Check.l0 k l regs locks i) ((l.drop i.toNat).all (fun x => oneB x l.length regs locks) && endsB l) := by
        refine up_ind ?_ ?_
        · refine Ev.step (fun k => rfl) (Ev.neg (by omega) ?_)
          rw [wrap_in (x := (l.length : Int) - 1) (by omega) (by omega)]
          refine Ev.pos (by omega) (Ev.pos (by omega) ?_)
          rw [List.drop_eq_nil_of_le (by omega), List.all_nil, Bool.true_and]
          unfold endsB
          by_cases c1 : (rd_T28 l ((l.length : Int) - 1)).f0 = 6
          · exact Ev.pos c1 (Ev.con (by simp [c1]))
          · refine Ev.neg c1 ?_
            by_cases c2 : (rd_T28 l ((l.length : Int) - 1)).f0 = 12
            · exact Ev.pos c2 (Ev.con (by simp [c2]))
            · exact Ev.neg c2 (Ev.con (by rw [show ((rd_T28 l ((l.length : Int) - 1)).f0 == 6) = false by simpa using c1, show ((rd_T28 l ((l.length : Int) - 1)).f0 == 12) = false by simpa using c2]; rfl))
        · intro i h0 hi ih
          refine Ev.step (fun k => rfl) (Ev.pos hi (Ev.pos h0 (Ev.bind (one_spec _ _ _ _) ?_)))
          rw [getD_drop l z28 i.toNat (by omega), List.all_cons, show l.getD i.toNat z28 = rd_T28 l i from rfl]
          cases hq : oneB (rd_T28 l i) l.length regs locks with
          | true =>
            refine Ev.tt ?_
            rw [wrap_up h0 hi (by omega), Bool.true_and]
            rw [show (i + 1).toNat = i.toNat + 1 by omega] at ih
            exact ih
          | false =>
            refine Ev.ff (Ev.con ?_)
            simp
      have h3 : 1 ≤ l.length := by omega
      have h4 : l.length ≤ 4096 := by omega
      simpa [checkB, h3, h4] using key 0 (by omega) (by omega)
theorem check_facts {l : List S28} {regs locks : Int} (h : checkB l regs locks = true) : 1 ≤ l.length ∧ l.length ≤ 4096 ∧ (∀ x ∈ l, oneB x l.length regs locks = true) ∧ endsB l = true := by
  simp only [checkB, Bool.and_eq_true, decide_eq_true_eq, List.all_eq_true] at h
  exact ⟨h.1, h.2.1, h.2.2.1, h.2.2.2⟩
end Go.Proofs.YtdopacgaklaaeaaDoor.PDeadRuns

namespace Go.Proofs.YtdopacgaklaaeaaDoor.PDeadRuns
open Go.RowKit Go.Proofs.YtdopacgaklaaeaaDoorW.PrintWords Go.Proofs.YtdopacgaklaaeaaDoorW.PrintLast Go.Proofs.YtdopacgaklaaeaaDoorW.PrintMore
set_option linter.unusedVariables false
set_option linter.unusedSimpArgs false
/-! The document's machine of one thread, as it lies in memory. -/
/-- blocks of these types stay -/
def Stay (T : List Nat) (W W' : World) : Prop := W.heap.size ≤ W'.heap.size ∧ ∀ k, k < W.heap.size → (∃ q, q ∈ T ∧ ∃ cells, W.heap[k]? = some (.cells cells q (0, 0))) → W'.heap[k]? = W.heap[k]?
theorem Stay.refl (T : List Nat) (W : World) : Stay T W W := ⟨Nat.le_refl _, fun _ _ _ => rfl⟩
theorem Stay.trans {T : List Nat} {a b c : World} (h : Stay T a b) (k : Stay T b c) : Stay T a c :=
  ⟨Nat.le_trans h.1 k.1, fun i hi ht => by
    have e := h.2 i hi ht
    obtain ⟨q, hq, cs, hc⟩ := ht
    exact (k.2 i (Nat.lt_of_lt_of_le hi h.1) ⟨q, hq, cs, e.trans hc⟩).trans e⟩
theorem Stay.below {T : List Nat} {W W' : World} (h : Below W.heap.size W W') : Stay T W W' := ⟨h.size, fun k hk _ => h.block k hk⟩
theorem Stay.set {T : List Nat} {W : World} {g t : Nat} {cs : Array Value} (hg : W.heap[g]? = some (.cells cs t (0, 0))) (ht : t ∉ T) (j : Nat) (u : Value) : Stay T W (W.setCell ⟨g, j, none⟩ u) :=
  ⟨by simp [World.setCell], fun k hk ⟨q, hq, cs', hc⟩ => Below.heap_setCell W ⟨g, j, none⟩ u k (by
    rintro rfl
    have e := Option.some.inj (hg.symm.trans hc)
    injection e with e1 e2 e3
    exact ht (e2 ▸ hq))⟩
theorem Stay.kept {T : List Nat} {W W' : World} {P : Nat → Prop} {t : Nat} (h : Kept W W' P) (hP : ∀ k, P k → ∃ cs, W.heap[k]? = some (.cells cs t (0, 0))) (ht : t ∉ T) : Stay T W W' :=
  ⟨h.1, fun k hk ⟨q, hq, cs, hc⟩ => h.2 k hk (fun hp => by
    obtain ⟨cs', hc'⟩ := hP k hp
    have e := Option.some.inj (hc.symm.trans hc')
    injection e with e1 e2 e3
    exact ht (e2 ▸ hq))⟩
theorem Stay.blk {T : List Nat} {W W' : World} (h : Stay T W W') {g t : Nat} {cs : Array Value} (hg : W.heap[g]? = some (.cells cs t (0, 0))) (ht : t ∈ T) : W'.heap[g]? = some (.cells cs t (0, 0)) := (h.2 g (blk_lt hg) ⟨t, ht, cs, hg⟩).trans hg
theorem Stay.row {α : Type} {d : Kd α} {e base : Nat} {ok : Nat → Prop} {v : Value} {xs : List α} {T : List Nat} {W W' : World} (h : Stay T W W') (hr : d.R e W base ok v xs) (ht : ∀ q, q ∈ e :: d.E → q ∈ T) : d.R e W' base ok v xs :=
  Kd.R_mono (Kd.R_move (Kd.R_bound hr) (fun k hk => by
    obtain ⟨_, _, hlt, q, hq, cs, hc⟩ := hk
    exact h.2 k hlt ⟨q, ht q hq, cs, hc⟩)) (fun _ hk => hk.1)
/-- all but the thread: R's block, its code's, memory's, and locks' rows -/
structure MO (W : World) (base : Nat) (F : Nat → Prop) (b gC gT : Nat) (A0 : Option Addr) (n0 c0 : Nat) (vM vO : Value) (mem : List Int) (own : List S93) : Prop where
  fb : F b ∧ F gC ∧ F gT
  lb : base ≤ b ∧ base ≤ gC ∧ base ≤ gT
  hb : W.heap[b]? = some (.cells #[.slice (some ⟨gC, 0, none⟩) 1 1, vM, vO, .slice (some ⟨gT, 0, none⟩) 1 1] 48 (0, 0))
  hC : W.heap[gC]? = some (.cells #[.slice A0 n0 c0] 32 (0, 0))
  rM : Kd.R (Kd.int .i64) 2 W base F vM mem
  rO : Kd.R k93 93 W base F vO own
/-- its thread: H's block, and the registers' row -/
structure MT (W : World) (base : Nat) (F : Nat → Prop) (gT : Nat) (vG : Value) (regs : List S90) (pc : Int) (over : Bool) : Prop where
  hT : W.heap[gT]? = some (.cells #[.int .i64 pc, vG, .bool over] 66 (0, 0))
  rG : Kd.R k90 90 W base F vG regs
section
variable {W W' : World} {base : Nat} {F : Nat → Prop} {b gC gT : Nat} {A0 : Option Addr} {n0 c0 : Nat} {vM vO vG : Value} {mem : List Int} {own : List S93} {regs : List S90} {pc : Int} {over : Bool}
theorem MO.stay (h : MO W base F b gC gT A0 n0 c0 vM vO mem own) (hs : Stay [48, 32, 2, 93] W W') : MO W' base F b gC gT A0 n0 c0 vM vO mem own :=
  ⟨h.fb, h.lb, hs.blk h.hb (by decide), hs.blk h.hC (by decide), hs.row h.rM (by decide), hs.row h.rO (by decide)⟩
theorem MO.below (h : MO W base F b gC gT A0 n0 c0 vM vO mem own) (hb : Below W.heap.size W W') : MO W' base F b gC gT A0 n0 c0 vM vO mem own := h.stay (Stay.below hb)
theorem MT.stay (h : MT W base F gT vG regs pc over) (hs : Stay [66, 90] W W') : MT W' base F gT vG regs pc over := ⟨hs.blk h.hT (by decide), hs.row h.rG (by decide)⟩
theorem MT.below (h : MT W base F gT vG regs pc over) (hb : Below W.heap.size W W') : MT W' base F gT vG regs pc over := h.stay (Stay.below hb)
theorem MO.mono {F' : Nat → Prop} (h : MO W base F b gC gT A0 n0 c0 vM vO mem own) (hf : ∀ k, F k → F' k) : MO W base F' b gC gT A0 n0 c0 vM vO mem own :=
  ⟨⟨hf _ h.fb.1, hf _ h.fb.2.1, hf _ h.fb.2.2⟩, h.lb, h.hb, h.hC, Kd.R_mono h.rM hf, Kd.R_mono h.rO hf⟩
theorem MT.mono {F' : Nat → Prop} (h : MT W base F gT vG regs pc over) (hf : ∀ k, F k → F' k) : MT W base F' gT vG regs pc over := ⟨h.hT, Kd.R_mono h.rG hf⟩
/-- what another machine does to blocks that are not of this one -/
theorem MO.move (h : MO W base F b gC gT A0 n0 c0 vM vO mem own) (hm : ∀ k, F k → k < W.heap.size → W'.heap[k]? = W.heap[k]?) : MO W' base F b gC gT A0 n0 c0 vM vO mem own :=
  ⟨h.fb, h.lb, (hm b h.fb.1 (blk_lt h.hb)).trans h.hb, (hm gC h.fb.2.1 (blk_lt h.hC)).trans h.hC, Kd.R_step h.rM hm, Kd.R_step h.rO hm⟩
theorem MT.move (h : MT W base F gT vG regs pc over) (hf : F gT) (hm : ∀ k, F k → k < W.heap.size → W'.heap[k]? = W.heap[k]?) : MT W' base F gT vG regs pc over := ⟨(hm gT hf (blk_lt h.hT)).trans h.hT, Kd.R_step h.rG hm⟩
end
theorem MO.tight {W : World} {base : Nat} {F : Nat → Prop} {b gC gT : Nat} {A0 : Option Addr} {n0 c0 : Nat} {vM vO : Value} {mem : List Int} {own : List S93} (h : MO W base F b gC gT A0 n0 c0 vM vO mem own) (hT : gT < W.heap.size) : MO W base (fun k => F k ∧ k < W.heap.size) b gC gT A0 n0 c0 vM vO mem own :=
  ⟨⟨⟨h.fb.1, blk_lt h.hb⟩, ⟨h.fb.2.1, blk_lt h.hC⟩, ⟨h.fb.2.2, hT⟩⟩, h.lb, h.hb, h.hC, Kd.R_mono (Kd.R_bound h.rM) (fun k hk => ⟨hk.1, hk.2.2.1⟩), Kd.R_mono (Kd.R_bound h.rO) (fun k hk => ⟨hk.1, hk.2.2.1⟩)⟩
theorem MT.tight {W : World} {base : Nat} {F : Nat → Prop} {gT : Nat} {vG : Value} {regs : List S90} {pc : Int} {over : Bool} (h : MT W base F gT vG regs pc over) : MT W base (fun k => F k ∧ k < W.heap.size) gT vG regs pc over := ⟨h.hT, Kd.R_mono (Kd.R_bound h.rG) (fun k hk => ⟨hk.1, hk.2.2.1⟩)⟩
theorem odrop (l : List S93) (i : Int) (h0 : 0 ≤ i) (h : i < (l.length : Int)) : l.drop i.toNat = rd_T93 l i :: l.drop (i + 1).toNat := by
  rw [show (i + 1).toNat = i.toNat + 1 by omega, List.drop_eq_getElem_cons (by omega)]
  congr 1
  unfold rd_T93
  rw [List.getD_eq_getElem?_getD, List.getElem?_eq_getElem (by omega)]; rfl
set_option maxRecDepth 100000 in
set_option maxHeartbeats 4000000 in
theorem owner.calls (W : World) (base : Nat) (F : Nat → Prop) (b gC gT : Nat) (A0 : Option Addr) (n0 c0 : Nat) (vM vO : Value) (mem : List Int) (own : List S93) (lock : Int) (h : MO W base F b gC gT A0 n0 c0 vM vO mem own) (hl : own.length ≤ 1000000) :
    Calls Tryd.prog 61 #[.pointer (some ⟨b, 0, none⟩), .int .i64 lock] W fun e w' => e = .returned (.int .i64 (ownerL own lock)) ∧ w' = W := by
  obtain ⟨AO, cO, rfl⟩ := Kd.R_slice h.rO
  have y2 : W.cell? ⟨b, 2, none⟩ = some (.slice AO own.length cO) := (blk_cell h.hb 2).trans rfl
  have HC := Aside0.mk (Kd.R_reads' h.rO).2.2
  have HL := Aside0.mk hl
  clear h hl
  go_enter Tryd.func61, Tryd.ntmps61
  go_wp2_with fail
  go_loopg [5] own.length (fun kq v5 wr => ∃ i : Int, v5 = .int .i64 i ∧ 0 ≤ i ∧ i ≤ own.length ∧ own.length - i ≤ kq ∧ Aside0 (ownerL own lock = ownerL (own.drop i.toNat) lock) ∧ Aside0 (wr = W))
  case atStart => exact ⟨0, rfl, by omega, by omega, by omega, ⟨rfl⟩, ⟨rfl⟩⟩
  case round =>
    obtain ⟨i, rfl, i0, i1, ig, HE, HW⟩ := hrel
    obtain rfl := HW.out
    by_cases hi : i < own.length
    · obtain ⟨ad, e1, q0, q1⟩ := at_T93 HC.out i i0 hi
      cases e1
      have he := HE.out
      rw [odrop own i i0 hi, ownerL] at he
      obtain ⟨x, hx⟩ : ∃ x, x = rd_T93 own i := ⟨_, rfl⟩
      rw [← hx] at q0 q1 he
      clear hx HE
      have HWI := Aside0.mk (show wrap64 (i + 1) = i + 1 by have := HL.out; unfold wrap64; omega)
      by_cases hq : x.f0 = lock
      · rw [if_pos hq] at he
        have HE := Aside0.mk he
        have hq1 : (x.f0 == lock) = true := beq_iff_eq.2 hq
        clear he hq
        go_wp2_with fail
        go_ret
        exact ⟨by rw [HE.out]; rfl, rfl⟩
      · rw [if_neg hq] at he
        have HE := Aside0.mk he
        have hq1 : (x.f0 == lock) = false := beq_eq_false_iff_ne.2 hq
        clear he hq
        go_wp2_with fail
        go_roundg (gk - 1)
        case measure => omega
        case rel => exact ⟨i + 1, by first | rfl | rw [HWI.out], by omega, by omega, by omega, HE, ⟨rfl⟩⟩
    · have he := HE.out
      rw [List.drop_eq_nil_of_le (by omega), ownerL] at he
      have HE1 := Aside0.mk he
      clear he HE
      go_wp2_with fail
      go_ret
      exact ⟨by rw [HE1.out]; rfl, rfl⟩
end Go.Proofs.YtdopacgaklaaeaaDoor.PDeadRuns
