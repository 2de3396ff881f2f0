import Derived.Test.YtggfikekggcclaaDoorPInsChecksx0
import Derived.Test.YtggfikekggcclaaDoorPInsChecksx2
import Derived.Test.YtggfikekggcclaaDoorPInsChecksx3
import Derived.Test.YtggfikekggcclaaDoorPInsCheckshcalc
import Derived.Test.YtggfikekggcclaaDoorPInsCheckshcalcsign
import Derived.Test.YtggfikekggcclaaDoorPInsCheckshforms
import Derived.Test.YtggfikekggcclaaDoorPInsCheckshjoin
import Derived.Lib.ItoaLen
namespace Go.Proofs.YtggfikekggcclaaDoor.PInsChecks
open Go.RowKit Go.Proofs.YtggfikekggcclaaDoorW.PrintWords Go.Proofs.YtggfikekggcclaaDoorW.PrintLast Go.Proofs.YtggfikekggcclaaDoorW.PrintMore
set_option linter.unusedVariables false
set_option linter.unusedSimpArgs false
open Go.Shelf
/-! ins.Show in plain words: its parts, put together by spaces. -/
def nameB (n : Int) : ByteArray := (⟨#[114]⟩ : ByteArray) ++ digB n
def optL (b : Bool) (x : ByteArray) : List ByteArray := if b = true then [x] else []
def below5 : ByteArray := ⟨#[98, 101, 108, 111, 119]⟩
def signP (op : Int) : ByteArray := if (signB op).toList = [] then below5 else signB op
def showParts (k op d a b n to_ : Int) : List ByteArray := [fmW k] ++ optL (fmB 1 k) (nameB d) ++ optL (fmB 2 k && !fmB 7 k) (nameB a) ++ optL (fmB 4 k) (signP op) ++ optL (fmB 5 k) (digB n) ++ optL (fmB 3 k) (nameB b) ++ optL (fmB 7 k && decide (a ≥ 0)) (nameB a) ++ optL (fmB 6 k) (digB to_)
def showB (k op d a b n to_ : Int) : ByteArray := joinB (showParts k op d a b n to_) ⟨#[32]⟩
def showS (x : S23) : ByteArray := showB x.f0 x.f1 x.f2 x.f3 x.f4 x.f5 x.f6
def inI64 (n : Int) : Prop := -9223372036854775808 ≤ n ∧ n ≤ 9223372036854775807
instance inI64.dec (n : Int) : Decidable (inI64 n) := inferInstanceAs (Decidable (_ ∧ _))
theorem dig_f {n : Int} (h : inI64 n) : calc_Digits.f n = some (digB n) := if_pos h
theorem dig_size {n : Int} (h : inI64 n) : (digB n).size ≤ 21 := by
  show (Lib.itoa n).toArray.size ≤ 21
  rw [List.size_toArray]
  exact Lib.itoa_length_le n h.1 h.2
theorem name_size {n : Int} (h : inI64 n) : (nameB n).size ≤ 22 := by
  have := dig_size h
  rw [nameB, ByteArray.size_append]
  show 1 + _ ≤ 22
  omega
theorem name_f {n : Int} (h : inI64 n) : ins_name.f n = some (nameB n) := by
  have := dig_size h
  rw [ins_name.f, dig_f h, Option.bind_some, if_pos (by omega)]
  rfl
theorem sign_size (op : Int) : (signP op).size ≤ 5 := by
  unfold signP
  split
  · decide
  · unfold signB
    split
    · rename_i h
      have : ∀ i : Fin 19, (signsL.getD i.val ⟨#[]⟩).size ≤ 5 := by decide +kernel
      exact this ⟨op.toNat, by omega⟩
    · decide
theorem word_size (k : Int) : (fmW k).size ≤ 5 := by
  by_cases h : 0 ≤ k ∧ k < 14
  · have : ∀ i : Fin 14, (fmW (i.val : Int)).size ≤ 5 := by decide +kernel
    have := this ⟨k.toNat, by omega⟩
    simpa [show ((k.toNat : Nat) : Int) = k by omega] using this
  · rw [fmW_out k h]; decide
/-- parts that are few and short -/
def Few (m : Nat) (l : List ByteArray) : Prop := l.length ≤ m ∧ ∀ p ∈ l, p.size ≤ 32
theorem Few.opt {m : Nat} {l : List ByteArray} (h : Few m l) (b : Bool) {x : ByteArray} (hx : x.size ≤ 32) : Few (m + 1) (l ++ optL b x) := by
  unfold optL
  constructor
  · have := h.1
    split <;> simp <;> omega
  · intro p hp
    rw [List.mem_append] at hp
    rcases hp with hp | hp
    · exact h.2 p hp
    · split at hp
      · simp at hp; subst hp; exact hx
      · simp at hp
theorem Few.snoc {m : Nat} {l : List ByteArray} (h : Few m l) {x : ByteArray} (hx : x.size ≤ 32) : Few (m + 1) (l ++ [x]) := h.opt true hx
theorem lens_le : ∀ (l : List ByteArray), (∀ p ∈ l, p.size ≤ 32) → Lib.lens (l.map (·.data.toList)) ≤ 32 * l.length
  | [], _ => by simp [Lib.lens]
  | p :: l, h => by
    have h1 := h p (by simp)
    have h2 := lens_le l (fun q hq => h q (by simp [hq]))
    have h3 : p.data.toList.length = p.size := Array.length_toList
    simp only [Lib.lens, List.map_cons, List.sum_cons, List.length_cons] at h2 ⊢
    omega
theorem join_f {l : List ByteArray} (h : Few 100 l) : strings_Join.f l ⟨#[32]⟩ = some (joinB l ⟨#[32]⟩) := by
  refine if_pos ⟨by have := h.1; omega, ?_⟩
  match l, h with
  | [], _ => simp [Lib.join_nil]
  | p :: l, h =>
    have h1 := lens_le l (fun q hq => h.2 q (by simp [hq]))
    have h2 := h.2 p (by simp)
    have h3 : p.data.toList.length = p.size := Array.length_toList
    have h4 := h.1
    rw [List.map_cons, Lib.join_cons, List.length_append, Lib.joinTail_length]
    simp only [List.length_map, List.length_cons, List.length_nil] at h4 ⊢
    omega
section
variable (k op d a b n to_ : Int) (w : ByteArray) (q1 q2 q3 q4 q5 q6 q7 q8 q9 : Bool) (r : Nat) (l : List ByteArray)
theorem j7_spec (ht : inI64 to_) (h : Few 20 l) : ins_Show.j7 (r + 1) l k op d a b n to_ w q1 q2 q3 q4 q5 q6 q7 q8 q9 = some (joinB (l ++ optL q6 (digB to_)) ⟨#[32]⟩) := by
  have h1 := h.1
  rw [ins_Show.j7]
  cases q6 with
  | true =>
    rw [if_pos rfl, dig_f ht, Option.bind_some, if_pos (by omega), join_f ⟨by simp; omega, (h.snoc (by have := dig_size ht; omega)).2⟩]
    rfl
  | false =>
    rw [if_neg (by simp), join_f ⟨by omega, h.2⟩]
    simp [optL]
theorem j6_spec (x : Bool) (ha : inI64 a) (ht : inI64 to_) (h : Few 19 l) : ins_Show.j6 (r + 2) l x k op d a b n to_ w q1 q2 q3 q4 q5 q6 q7 q8 q9 = some (joinB (l ++ optL x (nameB a) ++ optL q6 (digB to_)) ⟨#[32]⟩) := by
  have h1 := h.1
  rw [ins_Show.j6]
  cases x with
  | true =>
    rw [if_pos rfl, name_f ha, Option.bind_some, if_pos (by omega), j7_spec _ _ _ _ _ _ _ _ _ _ _ _ _ _ _ _ _ _ _ ht (h.snoc (by have := name_size ha; omega))]
    rfl
  | false =>
    rw [if_neg (by simp), j7_spec _ _ _ _ _ _ _ _ _ _ _ _ _ _ _ _ _ _ _ ht ⟨by omega, h.2⟩]
    simp [optL]
theorem j5_spec (ha : inI64 a) (ht : inI64 to_) (h : Few 19 l) : ins_Show.j5 (r + 3) l k op d a b n to_ w q1 q2 q3 q4 q5 q6 q7 q8 q9 = some (joinB (l ++ optL (q7 && decide (a ≥ 0)) (nameB a) ++ optL q6 (digB to_)) ⟨#[32]⟩) := by
  rw [ins_Show.j5]
  cases q7 with
  | true =>
    rw [if_pos rfl, j6_spec _ _ _ _ _ _ _ _ _ _ _ _ _ _ _ _ _ _ _ _ ha ht h]
    rfl
  | false =>
    rw [if_neg (by simp), j6_spec _ _ _ _ _ _ _ _ _ _ _ _ _ _ _ _ _ _ _ _ ha ht h]
    rfl
theorem j4_spec (ha : inI64 a) (hb : inI64 b) (ht : inI64 to_) (h : Few 18 l) : ins_Show.j4 (r + 4) l k op d a b n to_ w q1 q2 q3 q4 q5 q6 q7 q8 q9 = some (joinB (l ++ optL q3 (nameB b) ++ optL (q7 && decide (a ≥ 0)) (nameB a) ++ optL q6 (digB to_)) ⟨#[32]⟩) := by
  have h1 := h.1
  rw [ins_Show.j4]
  cases q3 with
  | true =>
    rw [if_pos rfl, name_f hb, Option.bind_some, if_pos (by omega), j5_spec _ _ _ _ _ _ _ _ _ _ _ _ _ _ _ _ _ _ _ ha ht (h.snoc (by have := name_size hb; omega))]
    rfl
  | false =>
    rw [if_neg (by simp), j5_spec _ _ _ _ _ _ _ _ _ _ _ _ _ _ _ _ _ _ _ ha ht ⟨by omega, h.2⟩]
    simp [optL]
theorem j3_spec (ha : inI64 a) (hb : inI64 b) (hn : inI64 n) (ht : inI64 to_) (h : Few 17 l) : ins_Show.j3 (r + 5) l k op d a b n to_ w q1 q2 q3 q4 q5 q6 q7 q8 q9 = some (joinB (l ++ optL q5 (digB n) ++ optL q3 (nameB b) ++ optL (q7 && decide (a ≥ 0)) (nameB a) ++ optL q6 (digB to_)) ⟨#[32]⟩) := by
  have h1 := h.1
  rw [ins_Show.j3]
  cases q5 with
  | true =>
    rw [if_pos rfl, dig_f hn, Option.bind_some, if_pos (by omega), j4_spec _ _ _ _ _ _ _ _ _ _ _ _ _ _ _ _ _ _ _ ha hb ht (h.snoc (by have := dig_size hn; omega))]
    rfl
  | false =>
    rw [if_neg (by simp), j4_spec _ _ _ _ _ _ _ _ _ _ _ _ _ _ _ _ _ _ _ ha hb ht ⟨by omega, h.2⟩]
    simp [optL]
theorem j2_spec (ha : inI64 a) (hb : inI64 b) (hn : inI64 n) (ht : inI64 to_) (h : Few 16 l) : ins_Show.j2 (r + 6) l k op d a b n to_ w q1 q2 q3 q4 q5 q6 q7 q8 q9 = some (joinB (l ++ optL q4 (signP op) ++ optL q5 (digB n) ++ optL q3 (nameB b) ++ optL (q7 && decide (a ≥ 0)) (nameB a) ++ optL q6 (digB to_)) ⟨#[32]⟩) := by
  have h1 := h.1
  rw [ins_Show.j2]
  cases q4 with
  | true =>
    have h5 := sign_size op
    rw [if_pos rfl, calc_Sign.f, Option.bind_some]
    by_cases hs : (signB op).toList = []
    · rw [if_pos hs, if_pos (by omega), j3_spec _ _ _ _ _ _ _ _ _ _ _ _ _ _ _ _ _ _ _ ha hb hn ht (h.snoc (by decide))]
      simp [optL, signP, hs, below5]
    · unfold signP at h5
      rw [if_neg hs] at h5
      rw [if_neg hs, if_pos (by omega), j3_spec _ _ _ _ _ _ _ _ _ _ _ _ _ _ _ _ _ _ _ ha hb hn ht (h.snoc (by omega))]
      simp [optL, signP, hs]
  | false =>
    rw [if_neg (by simp), j3_spec _ _ _ _ _ _ _ _ _ _ _ _ _ _ _ _ _ _ _ ha hb hn ht ⟨by omega, h.2⟩]
    simp [optL]
theorem j1_spec (x : Bool) (ha : inI64 a) (hb : inI64 b) (hn : inI64 n) (ht : inI64 to_) (h : Few 15 l) : ins_Show.j1 (r + 7) l x k op d a b n to_ w q1 q2 q3 q4 q5 q6 q7 q8 q9 = some (joinB (l ++ optL x (nameB a) ++ optL q4 (signP op) ++ optL q5 (digB n) ++ optL q3 (nameB b) ++ optL (q7 && decide (a ≥ 0)) (nameB a) ++ optL q6 (digB to_)) ⟨#[32]⟩) := by
  have h1 := h.1
  rw [ins_Show.j1]
  cases x with
  | true =>
    rw [if_pos rfl, name_f ha, Option.bind_some, if_pos (by omega), j2_spec _ _ _ _ _ _ _ _ _ _ _ _ _ _ _ _ _ _ _ ha hb hn ht (h.snoc (by have := name_size ha; omega))]
    rfl
  | false =>
    rw [if_neg (by simp), j2_spec _ _ _ _ _ _ _ _ _ _ _ _ _ _ _ _ _ _ _ ha hb hn ht ⟨by omega, h.2⟩]
    simp [optL]
theorem j0_spec (ha : inI64 a) (hb : inI64 b) (hn : inI64 n) (ht : inI64 to_) (h : Few 15 l) : ins_Show.j0 (r + 8) l k op d a b n to_ w q1 q2 q3 q4 q5 q6 q7 q8 q9 = some (joinB (l ++ optL (q2 && !q7) (nameB a) ++ optL q4 (signP op) ++ optL q5 (digB n) ++ optL q3 (nameB b) ++ optL (q7 && decide (a ≥ 0)) (nameB a) ++ optL q6 (digB to_)) ⟨#[32]⟩) := by
  rw [ins_Show.j0]
  cases q2 with
  | true =>
    rw [if_pos rfl, j1_spec _ _ _ _ _ _ _ _ _ _ _ _ _ _ _ _ _ _ _ _ ha hb hn ht h]
    rfl
  | false =>
    rw [if_neg (by simp), j1_spec _ _ _ _ _ _ _ _ _ _ _ _ _ _ _ _ _ _ _ _ ha hb hn ht h]
    rfl
end
theorem show_f (k op d a b n to_ : Int) (r : Nat) (hd : inI64 d) (ha : inI64 a) (hb : inI64 b) (hn : inI64 n) (ht : inI64 to_) : ins_Show.f (r + 8) k op d a b n to_ = some (showB k op d a b n to_) := by
  unfold ins_Show.f ins_of.f showB showParts
  rw [Option.bind_some]
  simp only [Option.bind_some]
  have hw : Few 1 [fmW k] := ⟨by simp, by intro p hp; simp at hp; subst hp; have := word_size k; omega⟩
  generalize fmB 1 k = q1
  cases q1 with
  | true =>
    rw [if_pos rfl, name_f hd, Option.bind_some, if_pos (by simp), j0_spec _ _ _ _ _ _ _ _ _ _ _ _ _ _ _ _ _ _ _ ha hb hn ht ⟨by simp, (hw.snoc (by have := name_size hd; omega)).2⟩]
    rfl
  | false =>
    rw [if_neg (by simp), j0_spec _ _ _ _ _ _ _ _ _ _ _ _ _ _ _ _ _ _ _ ha hb hn ht ⟨by simp, hw.2⟩]
    rfl
theorem show_size (k op d a b n to_ : Int) (hd : inI64 d) (ha : inI64 a) (hb : inI64 b) (hn : inI64 n) (ht : inI64 to_) : (showB k op d a b n to_).size ≤ 1000 := by
  have h1 : Few 8 (showParts k op d a b n to_) := by
    unfold showParts
    have hw : Few 1 [fmW k] := ⟨by simp, by intro p hp; simp at hp; subst hp; have := word_size k; omega⟩
    have e1 := name_size hd
    have e2 := name_size ha
    have e3 := name_size hb
    have e4 := dig_size hn
    have e5 := dig_size ht
    have e6 := sign_size op
    exact ((((((hw.opt _ (by omega)).opt _ (by omega)).opt _ (by omega)).opt _ (by omega)).opt _ (by omega)).opt _ (by omega)).opt _ (by omega)
  show (Lib.join ((showParts k op d a b n to_).map (·.data.toList)) [32]).toArray.size ≤ 1000
  rw [List.size_toArray]
  obtain ⟨l, hl⟩ : ∃ l, l = showParts k op d a b n to_ := ⟨_, rfl⟩
  rw [← hl] at h1 ⊢
  clear hl
  match l, h1 with
  | [], _ => simp [Lib.join_nil]
  | p :: l, h =>
    have h1 := lens_le l (fun q hq => h.2 q (by simp [hq]))
    have h2 := h.2 p (by simp)
    have h3 : p.data.toList.length = p.size := Array.length_toList
    have h4 := h.1
    rw [List.map_cons, Lib.join_cons, List.length_append, Lib.joinTail_length]
    simp only [List.length_map, List.length_cons, List.length_nil] at h4 ⊢
    omega
end Go.Proofs.YtggfikekggcclaaDoor.PInsChecks
