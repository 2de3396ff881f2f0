import Derived.Test.YtggfikekggcclaaDoorPInsChecksx0
namespace Go.Proofs.YtggfikekggcclaaDoor.PInsChecks
open Go.RowKit Go.Proofs.YtggfikekggcclaaDoorW.PrintWords Go.Proofs.YtggfikekggcclaaDoorW.PrintLast Go.Proofs.YtggfikekggcclaaDoorW.PrintMore
set_option linter.unusedVariables false
set_option linter.unusedSimpArgs false

/-- The first place at which a predicate with a state says yes, and the state behind. -/
def scanIdx {σ α : Type} (p : σ → α → Bool) (nx : σ → α → σ) : σ → List α → Nat → Int × σ
  | s, [], _ => (-1, s)
  | s, x :: xs, k => if p s x = true then ((k : Int), nx s x) else scanIdx p nx (nx s x) xs (k + 1)
theorem drop_one {α : Type} (l : List α) (z : α) (k : Nat) (h : k < l.length) : l.drop k = l.getD k z :: l.drop (k + 1) := by
  rw [List.drop_eq_getElem_cons h]
  congr 1
  simp [h]
theorem scanIdx_unit {α : Type} (p : α → Bool) : ∀ (l : List α) (k : Nat), (scanIdx (σ := Unit) (fun _ x => p x) (fun _ _ => ()) () l k).1 = match l.findIdx? p with | some i => ((k + i : Nat) : Int) | none => -1
  | [], k => rfl
  | x :: xs, k => by
    unfold scanIdx
    rw [List.findIdx?_cons]
    by_cases h : p x = true
    · simp [h]
    · simp only [h, Bool.false_eq_true, if_false]
      rw [scanIdx_unit p xs (k + 1)]
      cases xs.findIdx? p with
      | none => rfl
      | some i =>
        show ((k + 1 + i : Nat) : Int) = ((k + (i + 1) : Nat) : Int)
        congr 1
        omega
theorem scanIdx_has {σ α : Type} (p : σ → α → Bool) (nx : σ → α → σ) : ∀ (s : σ) (l : List α) (k : Nat), -1 ≤ (scanIdx p nx s l k).1
  | s, [], k => by simp [scanIdx]
  | s, x :: xs, k => by
    unfold scanIdx
    split
    · show (-1 : Int) ≤ (k : Int)
      omega
    · exact scanIdx_has p nx _ xs _
/-- a row of ints, read -/
theorem at_int {w : World} {A : Option Addr} {n : Nat} {xs : List Int} (h : Kd.C (Kd.int .i64) w A n xs) (i : Int) (h0 : 0 ≤ i) (h1 : i < n) : ∃ ad, A = some ad ∧ w.cell? (ad.add i.toNat) = some (.int .i64 (rd xs i)) := by
  obtain ⟨ad, c, e, _, hK, hc0⟩ := Kd.C_get h (0 : Int) i h0 h1
  have hc : c = [.int .i64 (xs.getD i.toNat 0)] := hK
  subst hc
  have := hc0 0 _ rfl
  rw [show (Kd.int IntKind.i64).sz = 1 from rfl] at this
  exact ⟨ad, e, by simpa [rd] using this⟩
end Go.Proofs.YtggfikekggcclaaDoor.PInsChecks
