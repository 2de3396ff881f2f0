import Derived.Test.YtpbhfpbfmpocdaaDoorPSpillNonex0
namespace Go.Proofs.YtpbhfpbfmpocdaaDoor.PSpillNone
open Go.RowKit Go.Proofs.YtpbhfpbfmpocdaaDoorW.PrintWords Go.Proofs.YtpbhfpbfmpocdaaDoorW.PrintLast Go.Proofs.YtpbhfpbfmpocdaaDoorW.PrintMore
set_option linter.unusedVariables false
set_option linter.unusedSimpArgs false
/-! Plain tools: no program, no memory. -/
theorem wrap_in {x : Int} (h0 : -9223372036854775808 ≤ x) (h1 : x ≤ 9223372036854775807) : wrap64 x = x := by
  unfold wrap64
  omega
theorem wrap_up {i : Int} {n : Nat} (h0 : 0 ≤ i) (h : i < (n : Int)) (hn : n ≤ 4611686018427387904) : wrap64 (i + 1) = i + 1 := wrap_in (by omega) (by omega)
theorem Ev.mono_of {α : Type} {g : Nat → Option α} {r : α} (hg : ∀ k, LeO (g k) (g (k + 1))) (h : ∃ k, g k = some r) : Ev g r := by
  obtain ⟨k, h⟩ := h
  exact Ev.of hg h
theorem Ev.pos {α : Type} {c : Prop} [Decidable c] {g f : Nat → Option α} {r : α} (h : c) (e : Ev g r) : Ev (fun k => if c then g k else f k) r := by
  obtain ⟨K, e⟩ := e
  exact ⟨K, fun k hk => by simp only [if_pos h]; exact e k hk⟩
theorem Ev.neg {α : Type} {c : Prop} [Decidable c] {g f : Nat → Option α} {r : α} (h : ¬ c) (e : Ev f r) : Ev (fun k => if c then g k else f k) r := by
  obtain ⟨K, e⟩ := e
  exact ⟨K, fun k hk => by simp only [if_neg h]; exact e k hk⟩
theorem Ev.tt {α : Type} {g f : Nat → Option α} {r : α} (e : Ev g r) : Ev (fun k => if true = true then g k else f k) r := Ev.pos rfl e
theorem Ev.ff {α : Type} {g f : Nat → Option α} {r : α} (e : Ev f r) : Ev (fun k => if false = true then g k else f k) r := Ev.neg (by simp) e
theorem Ev.con {α : Type} {o : Option α} {r : α} (h : o = some r) : Ev (fun _ => o) r := ⟨0, fun _ _ => h⟩
theorem Ev.det {α : Type} {g : Nat → Option α} {r s : α} (h : Ev g r) (h' : Ev g s) : r = s := by
  obtain ⟨K, h⟩ := h
  obtain ⟨K', h'⟩ := h'
  have a := h (max K K') (Nat.le_max_left _ _)
  have b := h' (max K K') (Nat.le_max_right _ _)
  rw [a] at b
  exact Option.some.inj b
/-- A loop over the places of a list, from place i on: each round answers, or goes on. -/
theorem nodup_len {α : Type} [DecidableEq α] : ∀ {S T : List α}, S.Nodup → (∀ i ∈ S, i ∈ T) → S.length ≤ T.length
  | [], _, _, _ => by simp
  | x :: S, T, h, hs => by
    obtain ⟨h1, h2⟩ := List.nodup_cons.1 h
    have hx := hs x (by simp)
    have := nodup_len (T := T.erase x) h2 (fun i hi => by
      have hne : i ≠ x := fun e => h1 (e ▸ hi)
      exact (List.mem_erase_of_ne hne).2 (hs i (by simp [hi])))
    rw [List.length_erase_of_mem hx] at this
    have hp : 0 < T.length := List.length_pos_of_mem hx
    simp only [List.length_cons]
    omega
theorem getD_drop {α : Type} (l : List α) (z : α) (i : Nat) (h : i < l.length) : l.drop i = l.getD i z :: l.drop (i + 1) := by
  rw [List.drop_eq_getElem_cons h]
  congr 1
  simp [h]
/-- The places from i on, by what is left. -/
theorem up_ind {n : Nat} {P : Int → Prop} (hend : P n) (hstep : ∀ i : Int, 0 ≤ i → i < n → P (i + 1) → P i) : ∀ i : Int, 0 ≤ i → i ≤ n → P i := by
  have key : ∀ (d : Nat) (i : Int), 0 ≤ i → i ≤ n → (n : Int) - i = d → P i := by
    intro d
    induction d with
    | zero =>
      intro i _ _ h
      have : i = n := by omega
      rw [this]; exact hend
    | succ d ih => exact fun i h0 h1 h => hstep i h0 (by omega) (ih (i + 1) (by omega) (by omega) (by omega))
  intro i h0 h1
  exact key ((n : Int) - i).toNat i h0 h1 (by omega)
end Go.Proofs.YtpbhfpbfmpocdaaDoor.PSpillNone

namespace Go.Proofs.YtpbhfpbfmpocdaaDoor.PSpillNone
open Go.RowKit Go.Proofs.YtpbhfpbfmpocdaaDoorW.PrintWords Go.Proofs.YtpbhfpbfmpocdaaDoorW.PrintLast Go.Proofs.YtpbhfpbfmpocdaaDoorW.PrintMore
set_option linter.unusedVariables false
set_option linter.unusedSimpArgs false
/-! A string's bytes as a list. -/
theorem toList_loop (s : ByteArray) : ∀ (d i : Nat) (r : List UInt8), s.size - i = d → ByteArray.toList.loop s i r = r.reverse ++ s.data.toList.drop i := by
  intro d
  induction d with
  | zero =>
    intro i r h
    rw [ByteArray.toList.loop, if_neg (by omega), List.drop_eq_nil_of_le (by rw [Array.length_toList]; show s.size ≤ i; omega)]
    simp
  | succ d ih =>
    intro i r h
    have hi : i < s.size := by omega
    have hl : i < s.data.toList.length := by rw [Array.length_toList]; exact hi
    rw [ByteArray.toList.loop, if_pos hi, ih (i + 1) _ (by omega), List.reverse_cons, List.append_assoc, List.drop_eq_getElem_cons hl]
    congr 1
    simp only [List.cons_append, List.nil_append]
    congr 1
    show s.data[i]! = _
    rw [getElem!_pos s.data i hi]
    simp
theorem toList_data (s : ByteArray) : s.toList = s.data.toList := by
  rw [ByteArray.toList, toList_loop s s.size 0 [] (by omega)]
  simp
end Go.Proofs.YtpbhfpbfmpocdaaDoor.PSpillNone
