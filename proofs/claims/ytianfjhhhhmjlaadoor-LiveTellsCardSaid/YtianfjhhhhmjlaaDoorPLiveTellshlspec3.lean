import Derived.Test.YtianfjhhhhmjlaaDoorPLiveTellsx0
import Derived.Test.YtianfjhhhhmjlaaDoorPLiveTellshinsl
import Derived.Test.YtianfjhhhhmjlaaDoorPLiveTellshlenv
import Derived.Test.YtianfjhhhhmjlaaDoorPLiveTellshlgrow
import Derived.Test.YtianfjhhhhmjlaaDoorPLiveTellshlranges
import Derived.Test.YtianfjhhhhmjlaaDoorPLiveTellshlsp
import Derived.Test.YtianfjhhhhmjlaaDoorPLiveTellshplain0
import Derived.Test.YtianfjhhhhmjlaaDoorPLiveTellshrangesl
namespace Go.Proofs.YtianfjhhhhmjlaaDoor.PLiveTells
open Go.RowKit Go.Proofs.YtianfjhhhhmjlaaDoorW.PrintWords Go.Proofs.YtianfjhhhhmjlaaDoorW.PrintLast Go.Proofs.YtianfjhhhhmjlaaDoorW.PrintMore
set_option linter.unusedVariables false
set_option linter.unusedSimpArgs false
/-! live.Ranges and live.Most in plain words. -/
def firstO (o : Option (Int × Int)) (i : Int) : Int := (o.map (·.1)).getD i
def stO (c : List S39) (A B : List (List Int)) (r : Int) (o : Option (Int × Int)) (i : Nat) : Option (Int × Int) :=
  if r ∈ B.getD i [] then (if r ∈ hereL c A i then some (firstO o (i : Int), (i : Int)) else o).map (fun p => (p.1, (i : Int)))
  else if r ∈ hereL c A i then some (firstO o (i : Int), (i : Int)) else o
def lkP (M : List S30) (r : Int) : Option (Int × Int) := (lkR M r).map (fun x => (x.f1, x.f2))
section
variable {c : List S39} {A B : List (List Int)}
theorem hereL_up (hA : ∀ l ∈ A, l.Pairwise (· < ·)) (i : Nat) : (hereL c A i).Pairwise (· < ·) := by
  unfold hereL
  split
  · exact (insL_spec _ _ (getD_up hA i)).1
  · exact getD_up hA i
theorem mem_hereL (hA : ∀ l ∈ A, l.Pairwise (· < ·)) (i : Nat) (r : Int) : r ∈ hereL c A i ↔ r ∈ A.getD i [] ∨ (r = DL c i ∧ 0 ≤ DL c i) := by
  unfold hereL
  show _ ↔ r ∈ A.getD i [] ∨ (r = defQ (c.getD i z39) ∧ 0 ≤ defQ (c.getD i z39))
  by_cases h : 0 ≤ defQ (c.getD i z39)
  · rw [if_pos h, (insL_spec _ _ (getD_up hA i)).2]
    exact ⟨fun e => e.imp id (fun e => ⟨e, h⟩), fun e => e.imp id (fun e => e.1)⟩
  · rw [if_neg h]
    exact ⟨.inl, fun e => e.elim id (fun e => absurd e.2 h)⟩
theorem stepR_lk (hA : ∀ l ∈ A, l.Pairwise (· < ·)) (i : Nat) {M : List S30} (hk : keyUp M) : keyUp (stepR c A B M i) ∧ ∀ r, lkP (stepR c A B M i) r = stO c A B r (lkP M r) i := by
  obtain ⟨k1, k2⟩ := putAllR_spec (i : Int) (hereL c A i) M (up_nodup (hereL_up hA i)) hk
  obtain ⟨k3, k4⟩ := lastR_spec (B.getD i []) (i : Int) _ k1
  refine ⟨k3, fun r => ?_⟩
  unfold lkP stepR
  rw [k4, k2]
  unfold stO
  have e : (newR M r (i : Int)).f1 = firstO ((lkR M r).map (fun x => (x.f1, x.f2))) (i : Int) ∧ (newR M r (i : Int)).f2 = (i : Int) := by
    unfold newR
    cases lkR M r <;> exact ⟨rfl, rfl⟩
  by_cases hb : r ∈ B.getD i []
  · by_cases hh : r ∈ hereL c A i
    · simp only [hb, hh, if_true, Option.map_some, e.1]
    · simp only [hb, hh, if_true, if_false, Option.map_map]
      congr 1
  · by_cases hh : r ∈ hereL c A i
    · simp only [hb, hh, if_true, if_false, Option.map_some, e.1, e.2]
    · simp only [hb, hh, if_false]
      cases lkR M r <;> rfl
theorem foldR_lk (hA : ∀ l ∈ A, l.Pairwise (· < ·)) : ∀ (L : List Nat) (M : List S30), keyUp M → keyUp (L.foldl (stepR c A B) M) ∧ ∀ r, lkP (L.foldl (stepR c A B) M) r = L.foldl (stO c A B r) (lkP M r)
  | [], M, h => ⟨h, fun _ => rfl⟩
  | i :: L, M, h => by
    obtain ⟨h1, h2⟩ := stepR_lk (c := c) (B := B) hA i h
    obtain ⟨h3, h4⟩ := foldR_lk hA L _ h1
    exact ⟨h3, fun r => by rw [List.foldl_cons, List.foldl_cons, h4, h2]⟩
theorem rangesL_spec (hA : ∀ l ∈ A, l.Pairwise (· < ·)) : keyUp (rangesL c A B) ∧ ∀ r, lkP (rangesL c A B) r = (List.range c.length).foldl (stO c A B r) none := by
  obtain ⟨h1, h2⟩ := foldR_lk (c := c) (B := B) hA (List.range c.length) [] List.Pairwise.nil
  exact ⟨h1, h2⟩
/-- what the fold knows behind t places -/
structure OkO (c : List S39) (A : List (List Int)) (r : Int) (t : Nat) (o : Option (Int × Int)) : Prop where
  hit : ∀ i : Nat, i < t → r ∈ hereL c A i → ∃ p, o = some p ∧ p.1 ≤ (i : Int) ∧ (i : Int) ≤ p.2
  rng : ∀ p, o = some p → 0 ≤ p.1 ∧ p.1 ≤ p.2 ∧ p.2 < (t : Int) ∧ ∃ i : Nat, i < t ∧ r ∈ hereL c A i
theorem OkO.step {r : Int} {t : Nat} {o : Option (Int × Int)} (h : OkO c A r t o) : OkO c A r (t + 1) (stO c A B r o t) := by
  have key : ∀ o1 : Option (Int × Int), (o1 = (if r ∈ hereL c A t then some (firstO o (t : Int), (t : Int)) else o)) → OkO c A r (t + 1) o1 := fun o1 e => by
    by_cases hh : r ∈ hereL c A t
    · rw [if_pos hh] at e
      subst e
      refine ⟨fun i hi hr => ⟨_, rfl, ?_, by show (i : Int) ≤ (t : Int); omega⟩, fun p hp => ?_⟩
      · by_cases hit : i = t
        · subst hit
          cases o with
          | none => exact Int.le_refl _
          | some p => have := (h.rng p rfl); show p.1 ≤ (i : Int); omega
        · obtain ⟨p, rfl, h1, _⟩ := h.hit i (by omega) hr
          exact h1
      · cases hp
        refine ⟨?_, ?_, by show (t : Int) < ((t + 1 : Nat) : Int); omega, t, by omega, hh⟩
        · cases o with
          | none => show (0 : Int) ≤ (t : Int); omega
          | some p => exact (h.rng p rfl).1
        · cases o with
          | none => exact Int.le_refl _
          | some p => have := (h.rng p rfl); show p.1 ≤ (t : Int); omega
    · rw [if_neg hh] at e
      subst e
      refine ⟨fun i hi hr => ?_, fun p hp => ?_⟩
      · by_cases hit : i = t
        · subst hit; exact absurd hr hh
        · exact h.hit i (by omega) hr
      · obtain ⟨h1, h2, h3, i, hi, h4⟩ := h.rng p hp
        exact ⟨h1, h2, by omega, i, by omega, h4⟩
  unfold stO
  obtain ⟨o1, ho1⟩ : ∃ o1, o1 = (if r ∈ hereL c A t then some (firstO o (t : Int), (t : Int)) else o) := ⟨_, rfl⟩
  have hk := key o1 ho1
  rw [← ho1]
  split
  · refine ⟨fun i hi hr => ?_, fun p hp => ?_⟩
    · obtain ⟨p, rfl, h1, h2⟩ := hk.hit i hi hr
      exact ⟨_, rfl, h1, by show (i : Int) ≤ (t : Int); omega⟩
    · obtain ⟨q, hq, rfl⟩ := Option.map_eq_some_iff.1 hp
      obtain ⟨h1, h2, h3, h4⟩ := hk.rng q hq
      exact ⟨h1, by show q.1 ≤ (t : Int); omega, by show (t : Int) < ((t + 1 : Nat) : Int); omega, h4⟩
  · exact hk
theorem okO_all (r : Int) : ∀ t : Nat, OkO c A r t ((List.range t).foldl (stO c A B r) none)
  | 0 => ⟨fun i hi => absurd hi (by omega), fun p hp => absurd hp (by simp)⟩
  | t + 1 => by
    rw [List.range_succ, List.foldl_append]
    exact (okO_all r t).step
theorem lkP_some {M : List S30} {r : Int} {p : Int × Int} (h : lkP M r = some p) : ∃ x ∈ M, x.f0 = r ∧ x.f1 = p.1 ∧ x.f2 = p.2 := by
  obtain ⟨x, hx, rfl⟩ := Option.map_eq_some_iff.1 h
  obtain ⟨h1, h2⟩ := lkR_key hx
  exact ⟨x, h2, h1, rfl, rfl⟩
theorem lkP_at {M : List S30} {x : S30} (hk : keyUp M) (hx : x ∈ M) : lkP M x.f0 = some (x.f1, x.f2) := by
  unfold lkP
  rw [lkR_at hk hx]
  rfl
/-- what the laws ask of the ranges -/
theorem ranges_facts (hF : FlowS c A B) : keyUp (rangesL c A B) ∧ (∀ x ∈ rangesL c A B, 0 ≤ x.f1 ∧ x.f1 ≤ x.f2 ∧ x.f2 < (c.length : Int) ∧ ∃ i : Nat, i < c.length ∧ x.f0 ∈ hereL c A i) ∧
    ∀ (i : Nat) (r : Int), i < c.length → r ∈ hereL c A i → ∃ x ∈ rangesL c A B, x.f0 = r ∧ x.f1 ≤ (i : Int) ∧ (i : Int) ≤ x.f2 := by
  obtain ⟨k1, k2⟩ := rangesL_spec (c := c) (B := B) hF.uA
  refine ⟨k1, fun x hx => ?_, fun i r hi hr => ?_⟩
  · have h1 := lkP_at k1 hx
    rw [k2] at h1
    have h2 := (okO_all (c := c) (A := A) (B := B) x.f0 c.length).rng _ h1
    exact h2
  · obtain ⟨p, hp, h1, h2⟩ := (okO_all (c := c) (A := A) (B := B) r c.length).hit i hi hr
    rw [← k2] at hp
    obtain ⟨x, hx, e0, e1, e2⟩ := lkP_some hp
    exact ⟨x, hx, e0, by omega, by omega⟩
theorem ranges_len (hF : FlowS c A B) : (rangesL c A B).length ≤ 4 * c.length := by
  obtain ⟨k1, k2, _⟩ := ranges_facts hF
  have h1 := nodup_len (S := (rangesL c A B).map (·.f0)) (T := usedQ c ++ (List.range c.length).map (DL c)) (up_nodup (keyUp_nodup k1)) (fun r hr => by
    obtain ⟨x, hx, rfl⟩ := List.mem_map.1 hr
    obtain ⟨_, _, _, i, hi, h⟩ := k2 x hx
    rcases (mem_hereL hF.uA i _).1 h with h | ⟨h, _⟩
    · exact List.mem_append_left _ (hF.sgA i _ h)
    · exact List.mem_append_right _ (List.mem_map.2 ⟨i, List.mem_range.2 hi, h.symm⟩))
  have := usedQ_len c
  simp at h1
  omega
end
theorem mostL_le : ∀ (L : List (List Int)) (n : Int), n ≤ L.foldl (fun n l => mx n (l.length : Int)) n ∧ ∀ l ∈ L, (l.length : Int) ≤ L.foldl (fun n l => mx n (l.length : Int)) n
  | [], n => ⟨Int.le_refl _, by simp⟩
  | x :: L, n => by
    obtain ⟨h1, h2⟩ := mostL_le L (mx n (x.length : Int))
    have hm : n ≤ mx n (x.length : Int) ∧ (x.length : Int) ≤ mx n (x.length : Int) := by unfold mx; omega
    refine ⟨Int.le_trans hm.1 h1, fun l hl => ?_⟩
    rcases List.mem_cons.1 hl with rfl | hl
    · exact Int.le_trans hm.2 h1
    · exact h2 l hl
theorem mostL_at : ∀ (L : List (List Int)) (n : Int), L.foldl (fun n l => mx n (l.length : Int)) n = n ∨ ∃ l ∈ L, (l.length : Int) = L.foldl (fun n l => mx n (l.length : Int)) n
  | [], n => .inl rfl
  | x :: L, n => by
    rw [List.foldl_cons]
    rcases mostL_at L (mx n (x.length : Int)) with h | ⟨l, hl, h⟩
    · rw [h]
      have : mx n (x.length : Int) = n ∨ (x.length : Int) = mx n (x.length : Int) := by unfold mx; omega
      rcases this with h2 | h2
      · exact .inl h2
      · exact .inr ⟨x, by simp, h2⟩
    · exact .inr ⟨l, by simp [hl], h⟩
end Go.Proofs.YtianfjhhhhmjlaaDoor.PLiveTells
