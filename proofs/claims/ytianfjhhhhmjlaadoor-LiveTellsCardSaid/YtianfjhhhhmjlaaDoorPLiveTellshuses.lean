import Derived.Test.YtianfjhhhhmjlaaDoorPLiveTellsx0
import Derived.Test.YtianfjhhhhmjlaaDoorPLiveTellsx3
import Derived.Test.YtianfjhhhhmjlaaDoorPLiveTellshplain0
import Derived.Test.YtianfjhhhhmjlaaDoorPLiveTellshref11
namespace Go.Proofs.YtianfjhhhhmjlaaDoor.PLiveTells
open Go.RowKit Go.Proofs.YtianfjhhhhmjlaaDoorW.PrintWords Go.Proofs.YtianfjhhhhmjlaaDoorW.PrintLast Go.Proofs.YtianfjhhhhmjlaaDoorW.PrintMore
set_option linter.unusedVariables false
set_option linter.unusedSimpArgs false
/-! palingref11.Uses, Def, palingref15.Regs, in plain words. -/
def addGo (n : Int) : List Int → Bool → List Int
  | [], b => if b = true then [] else [n]
  | x :: xs, b => if x ≥ n ∧ b = false then (if x = n then n :: addGo n xs true else n :: x :: addGo n xs true) else (if x = n then addGo n xs b else x :: addGo n xs b)
def addL (l : List Int) (n : Int) : List Int := if n < 0 then l else addGo n l false
theorem addGo_len (n : Int) : ∀ (l : List Int) (b : Bool), (addGo n l b).length ≤ l.length + 1
  | [], b => by unfold addGo; cases b <;> simp
  | x :: xs, b => by
    have h1 := addGo_len n xs true
    have h2 := addGo_len n xs b
    unfold addGo
    split
    · split
      · simp only [List.length_cons]; omega
      · rename_i h _
        have : (addGo n xs true).length ≤ xs.length := by
          have key : ∀ ys : List Int, (addGo n ys true).length ≤ ys.length := by
            intro ys
            induction ys with
            | nil => simp [addGo]
            | cons y ys ih =>
              unfold addGo
              rw [if_neg (by simp)]
              split <;> simp only [List.length_cons] <;> omega
          exact key xs
        simp only [List.length_cons]; omega
    · split
      · simp only [List.length_cons]; omega
      · simp only [List.length_cons]; omega
theorem addL_len (l : List Int) (n : Int) : (addL l n).length ≤ l.length + 1 := by
  unfold addL
  split
  · omega
  · exact addGo_len n l false
theorem addGo_true (n : Int) : ∀ l : List Int, (∀ x ∈ l, n ≤ x) → (∀ i, i ∈ addGo n l true ↔ i ∈ l ∧ i ≠ n) ∧ (l.Pairwise (· < ·) → (addGo n l true).Pairwise (· < ·))
  | [], _ => by simp [addGo]
  | x :: xs, h => by
    obtain ⟨h1, h2⟩ := addGo_true n xs (fun y hy => h y (by simp [hy]))
    unfold addGo
    rw [if_neg (by simp)]
    by_cases hx : x = n
    · rw [if_pos hx]
      refine ⟨fun i => ?_, fun hp => h2 (List.pairwise_cons.1 hp).2⟩
      rw [h1]
      simp only [List.mem_cons]
      constructor
      · rintro ⟨a, b⟩; exact ⟨.inr a, b⟩
      · rintro ⟨a | a, b⟩
        · exact absurd (a.trans hx) b
        · exact ⟨a, b⟩
    · rw [if_neg hx]
      refine ⟨fun i => ?_, fun hp => ?_⟩
      · simp only [List.mem_cons, h1]
        constructor
        · rintro (a | ⟨a, b⟩)
          · exact ⟨.inl a, by rw [a]; exact hx⟩
          · exact ⟨.inr a, b⟩
        · rintro ⟨a | a, b⟩
          · exact .inl a
          · exact .inr ⟨a, b⟩
      · obtain ⟨p1, p2⟩ := List.pairwise_cons.1 hp
        exact List.pairwise_cons.2 ⟨fun i hi => p1 i ((h1 i).1 hi).1, h2 p2⟩
theorem addGo_false (n : Int) : ∀ l : List Int, l.Pairwise (· < ·) → (∀ i, i ∈ addGo n l false ↔ i ∈ l ∨ i = n) ∧ (addGo n l false).Pairwise (· < ·)
  | [], _ => by simp [addGo]
  | x :: xs, hp => by
    obtain ⟨p1, p2⟩ := List.pairwise_cons.1 hp
    unfold addGo
    by_cases hx : x ≥ n
    · rw [if_pos ⟨hx, rfl⟩]
      obtain ⟨h1, h2⟩ := addGo_true n xs (fun y hy => by have := p1 y hy; omega)
      by_cases he : x = n
      · rw [if_pos he]
        refine ⟨fun i => ?_, List.pairwise_cons.2 ⟨fun i hi => ?_, h2 p2⟩⟩
        · simp only [List.mem_cons, h1]
          constructor
          · rintro (a | ⟨a, b⟩)
            · exact .inr a
            · exact .inl (.inr a)
          · rintro ((a | a) | a)
            · exact .inl (a.trans he)
            · by_cases hin : i = n
              · exact .inl hin
              · exact .inr ⟨a, hin⟩
            · exact .inl a
        · have := p1 i ((h1 i).1 hi).1; omega
      · rw [if_neg he]
        refine ⟨fun i => ?_, List.pairwise_cons.2 ⟨fun i hi => ?_, List.pairwise_cons.2 ⟨fun i hi => p1 i ((h1 i).1 hi).1, h2 p2⟩⟩⟩
        · simp only [List.mem_cons, h1]
          constructor
          · rintro (a | a | ⟨a, b⟩)
            · exact .inr a
            · exact .inl (.inl a)
            · exact .inl (.inr a)
          · rintro ((a | a) | a)
            · exact .inr (.inl a)
            · by_cases hin : i = n
              · exact .inl hin
              · exact .inr (.inr ⟨a, hin⟩)
            · exact .inl a
        · simp only [List.mem_cons] at hi
          rcases hi with hi | hi
          · omega
          · have := p1 i ((h1 i).1 hi).1; omega
    · rw [if_neg (by simp; omega), if_neg (by omega)]
      obtain ⟨h1, h2⟩ := addGo_false n xs p2
      refine ⟨fun i => ?_, List.pairwise_cons.2 ⟨fun i hi => ?_, h2⟩⟩
      · simp only [List.mem_cons, h1]
        constructor
        · rintro (a | a | a)
          · exact .inl (.inl a)
          · exact .inl (.inr a)
          · exact .inr a
        · rintro ((a | a) | a)
          · exact .inl a
          · exact .inr (.inl a)
          · exact .inr (.inr a)
      · rcases (h1 i).1 hi with a | a
        · exact p1 i a
        · omega
theorem addL_spec (l : List Int) (n : Int) (hp : l.Pairwise (· < ·)) : (addL l n).Pairwise (· < ·) ∧ ∀ i, i ∈ addL l n ↔ i ∈ l ∨ (i = n ∧ 0 ≤ n) := by
  unfold addL
  by_cases h : n < 0
  · rw [if_pos h]
    exact ⟨hp, fun i => ⟨.inl, fun h' => h'.elim id (fun h'' => by omega)⟩⟩
  · rw [if_neg h]
    obtain ⟨h1, h2⟩ := addGo_false n l hp
    refine ⟨h2, fun i => ?_⟩
    rw [h1]
    have : 0 ≤ n := by omega
    simp [this]
theorem add_spec (l : List Int) (n : Int) (hl : l.length ≤ 1099511627776) : Ev (fun k => palingref11_add.f k l n) (addL l n) := by
  unfold addL
  by_cases h : n < 0
  · rw [if_pos h]
    exact Ev.congr (fun k => rfl) (Ev.pos h (Ev.con rfl))
  · rw [if_neg h]
    refine Ev.congr (fun k => rfl) (Ev.neg h ?_)
    have key : ∀ i : Int, 0 ≤ i → i ≤ l.length → ∀ (out : List Int) (b : Bool), out.length ≤ i + (if b = true then 1 else 0) → Ev (fun k => palingref11_add.l0 k l n out b i) (out ++ addGo n (l.drop i.toNat) b) := by
      refine up_ind ?_ ?_
      · intro out b ho
        have hob : out.length ≤ (l.length : Int) + 1 := by split at ho <;> omega
        rw [List.drop_eq_nil_of_le (by omega)]
        refine Ev.step (fun k => rfl) (Ev.neg (by omega) ?_)
        cases b with
        | true => exact Ev.pos rfl (Ev.con (by simp [addGo]))
        | false => exact Ev.neg (by simp) (Ev.pos (by omega) (Ev.con (by simp [addGo])))
      · intro i h0 hi ih out b ho
        have hob : out.length ≤ i + 1 := by split at ho <;> omega
        rw [getD_drop l 0 i.toNat (by omega), show l.getD i.toNat 0 = rd l i from rfl]
        rw [show (i + 1).toNat = i.toNat + 1 by omega] at ih
        have hw : wrap64 (i + 1) = i + 1 := wrap_up h0 hi (by omega)
        have hj : ∀ c : Bool, c = (decide (rd l i ≥ n) && !b) → Ev (fun k => palingref11_add.j1 k l n out b i c) (out ++ addGo n (rd l i :: l.drop (i.toNat + 1)) b) := by
          intro c hc
          have hun : addGo n (rd l i :: l.drop (i.toNat + 1)) b = if rd l i ≥ n ∧ b = false then (if rd l i = n then n :: addGo n (l.drop (i.toNat + 1)) true else n :: rd l i :: addGo n (l.drop (i.toNat + 1)) true) else (if rd l i = n then addGo n (l.drop (i.toNat + 1)) b else rd l i :: addGo n (l.drop (i.toNat + 1)) b) := rfl
          rw [hun]
          cases c with
          | true =>
            have hc' := hc.symm
            rw [Bool.and_eq_true, decide_eq_true_eq] at hc'
            have hn : rd l i ≥ n := hc'.1
            have hb : b = false := by simpa using hc'.2
            have ho' : out.length ≤ i := by rw [hb] at ho; simpa using ho
            rw [if_pos ⟨hn, hb⟩]
            refine Ev.step (fun k => rfl) (Ev.pos (c := out.length < 17592186044416) (by omega) (Ev.bind (Ev.con rfl) (Ev.pos (c := 0 ≤ i) h0 (Ev.pos (c := i < (l.length : Int)) hi ?_))))
            by_cases he : rd l i = n
            · rw [if_pos he]
              refine Ev.pos he ?_
              rw [hw]
              simpa using ih (out ++ [n]) true (by simp; omega)
            · rw [if_neg he]
              refine Ev.neg he (Ev.pos (c := (out ++ [n]).length < 17592186044416) (by simp; omega) ?_)
              rw [hw]
              simpa using ih (out ++ [n] ++ [rd l i]) true (by simp; omega)
          | false =>
            have hnb : ¬ (rd l i ≥ n ∧ b = false) := by
              rintro ⟨a, rfl⟩
              simp [a] at hc
            rw [if_neg hnb]
            refine Ev.step (fun k => rfl) (Ev.pos (c := 0 ≤ i) h0 (Ev.pos (c := i < (l.length : Int)) hi ?_))
            by_cases he : rd l i = n
            · rw [if_pos he]
              refine Ev.pos he ?_
              rw [hw]
              exact ih out b (by clear hc hnb; revert ho; cases b <;> simp <;> omega)
            · rw [if_neg he]
              refine Ev.neg he (Ev.pos (c := out.length < 17592186044416) (by omega) ?_)
              rw [hw]
              simpa using ih (out ++ [rd l i]) b (by clear hc hnb; revert ho; cases b <;> simp <;> omega)
        refine Ev.step (fun k => rfl) (Ev.pos hi (Ev.pos h0 ?_))
        by_cases c : rd l i ≥ n
        · exact Ev.pos c (hj (!b) (by simp [c]))
        · exact Ev.neg c (hj false (by simp [c]))
    simpa using key 0 (by omega) (by omega) [] false (by simp)
def usesL (x : S39) : List Int :=
  let a := if x.f0 = 3 then addL [] x.f2 else []
  let b := if fA x.f0 = true then addL a x.f3 else a
  if fB x.f0 = true then addL b x.f4 else b
theorem usesL_spec (x : S39) : (usesL x).Pairwise (· < ·) ∧ (∀ i, i ∈ usesL x ↔ 0 ≤ i ∧ ((x.f0 = 3 ∧ i = x.f2) ∨ (fA x.f0 = true ∧ i = x.f3) ∨ (fB x.f0 = true ∧ i = x.f4))) ∧ (usesL x).length ≤ 3 := by
  obtain ⟨a, ha⟩ : ∃ a, a = if x.f0 = 3 then addL [] x.f2 else [] := ⟨_, rfl⟩
  obtain ⟨b, hb⟩ : ∃ b, b = if fA x.f0 = true then addL a x.f3 else a := ⟨_, rfl⟩
  have hu : usesL x = if fB x.f0 = true then addL b x.f4 else b := by rw [hb, ha]; rfl
  have a1 : a.Pairwise (· < ·) ∧ (∀ i, i ∈ a ↔ 0 ≤ i ∧ x.f0 = 3 ∧ i = x.f2) ∧ a.length ≤ 1 := by
    rw [ha]
    by_cases h : x.f0 = 3
    · rw [if_pos h]
      obtain ⟨p, q⟩ := addL_spec [] x.f2 List.Pairwise.nil
      refine ⟨p, fun i => ?_, addL_len [] x.f2⟩
      rw [q]; simp only [List.not_mem_nil, false_or]
      constructor
      · rintro ⟨rfl, h0⟩; exact ⟨h0, h, rfl⟩
      · rintro ⟨h0, _, rfl⟩; exact ⟨rfl, h0⟩
    · rw [if_neg h]
      refine ⟨List.Pairwise.nil, fun i => ?_, by simp⟩
      simp [h]
  have b1 : b.Pairwise (· < ·) ∧ (∀ i, i ∈ b ↔ 0 ≤ i ∧ ((x.f0 = 3 ∧ i = x.f2) ∨ (fA x.f0 = true ∧ i = x.f3))) ∧ b.length ≤ 2 := by
    rw [hb]
    by_cases h : fA x.f0 = true
    · rw [if_pos h]
      obtain ⟨p, q⟩ := addL_spec a x.f3 a1.1
      refine ⟨p, fun i => ?_, by have := addL_len a x.f3; omega⟩
      rw [q, a1.2.1]
      constructor
      · rintro (⟨h0, h1⟩ | ⟨rfl, h0⟩)
        · exact ⟨h0, .inl h1⟩
        · exact ⟨h0, .inr ⟨h, rfl⟩⟩
      · rintro ⟨h0, h1 | ⟨_, rfl⟩⟩
        · exact .inl ⟨h0, h1⟩
        · exact .inr ⟨rfl, h0⟩
    · rw [if_neg h]
      refine ⟨a1.1, fun i => ?_, by omega⟩
      rw [a1.2.1]
      simp [h]
  rw [hu]
  by_cases h : fB x.f0 = true
  · rw [if_pos h]
    obtain ⟨p, q⟩ := addL_spec b x.f4 b1.1
    refine ⟨p, fun i => ?_, by have := addL_len b x.f4; omega⟩
    rw [q, b1.2.1]
    constructor
    · rintro (⟨h0, h1⟩ | ⟨rfl, h0⟩)
      · exact ⟨h0, h1.elim .inl (fun h2 => .inr (.inl h2))⟩
      · exact ⟨h0, .inr (.inr ⟨h, rfl⟩)⟩
    · rintro ⟨h0, h1 | h1 | ⟨_, rfl⟩⟩
      · exact .inl ⟨h0, .inl h1⟩
      · exact .inl ⟨h0, .inr h1⟩
      · exact .inr ⟨rfl, h0⟩
  · rw [if_neg h]
    refine ⟨b1.1, fun i => ?_, by omega⟩
    rw [b1.2.1]
    simp [h]
theorem uses_spec (x : S39) : Ev (fun k => palingref11_Uses.f k x.f0 x.f1 x.f2 x.f3 x.f4 x.f5 x.f6) (usesL x) := by
  obtain ⟨_, e2, e3, _, _, _, _⟩ := fld_has x.f0
  have hsz : (fldB x.f0).size ≤ 4611686018427387904 := by have := fld_size x.f0; omega
  have hj : ∀ a : List Int, a.length ≤ 10 → Ev (fun k => palingref11_Uses.j0 k (fldB x.f0) a x.f0 x.f1 x.f2 x.f3 x.f4 x.f5 x.f6) (if fB x.f0 = true then addL (if fA x.f0 = true then addL a x.f3 else a) x.f4 else (if fA x.f0 = true then addL a x.f3 else a)) := by
    intro a ha
    have h1 : ∀ b : List Int, b.length ≤ 20 → Ev (fun k => palingref11_Uses.j1 k (fldB x.f0) b x.f0 x.f1 x.f2 x.f3 x.f4 x.f5 x.f6) (if fB x.f0 = true then addL b x.f4 else b) := by
      intro b hb
      have h3 := has_spec (fldB x.f0) 66 hsz
      rw [e3] at h3
      refine Ev.step (fun k => rfl) (Ev.bind h3 ?_)
      cases fB x.f0 with
      | true => exact Ev.tt (Ev.bind (add_spec b x.f4 (by omega)) (Ev.con (by simp)))
      | false => exact Ev.neg (by simp) (Ev.con (by simp))
    have h2 := has_spec (fldB x.f0) 65 hsz
    rw [e2] at h2
    refine Ev.step (fun k => rfl) (Ev.bind h2 ?_)
    cases fA x.f0 with
    | true => exact Ev.tt (Ev.bind (add_spec a x.f3 (by omega)) (h1 _ (by have := addL_len a x.f3; omega)))
    | false => exact Ev.neg (by simp) (h1 a (by omega))
  refine Ev.congr (f := fun k => if x.f0 = 3 then (palingref11_add.f k [] x.f2).bind fun t => palingref11_Uses.j0 k (fldB x.f0) t x.f0 x.f1 x.f2 x.f3 x.f4 x.f5 x.f6 else palingref11_Uses.j0 k (fldB x.f0) [] x.f0 x.f1 x.f2 x.f3 x.f4 x.f5 x.f6) (fun k => by simp only [palingref11_Uses.f, fields_spec, Option.bind_some]) ?_
  unfold usesL
  by_cases h : x.f0 = 3
  · simp only [if_pos h]
    exact Ev.bind (add_spec [] x.f2 (by simp)) (hj _ (by have := addL_len [] x.f2; simp at this; omega))
  · simp only [if_neg h]
    exact hj [] (by simp)
def defL (x : S39) : Int := if fD x.f0 = true then x.f2 else -1
theorem def_spec (x : S39) : Ev (fun k => palingref11_Def.f k x.f0 x.f1 x.f2 x.f3 x.f4 x.f5 x.f6) (defL x) := by
  obtain ⟨e1, _⟩ := fld_has x.f0
  have hsz : (fldB x.f0).size ≤ 4611686018427387904 := by have := fld_size x.f0; omega
  have h1 := has_spec (fldB x.f0) 68 hsz
  rw [e1] at h1
  refine Ev.congr (f := fun k => (palingref11_Has.f k (fldB x.f0) 68).bind fun t => if t = true then some x.f2 else some (-1)) (fun k => by simp only [palingref11_Def.f, fields_spec, Option.bind_some]) (Ev.bind h1 ?_)
  unfold defL
  cases fD x.f0 with
  | true => exact Ev.con (by simp)
  | false => exact Ev.con (by simp)
end Go.Proofs.YtianfjhhhhmjlaaDoor.PLiveTells
