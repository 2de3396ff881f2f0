import Derived.Test.YtoncneglplglhaaDoorPGraphLoopsx0
import Derived.Test.YtoncneglplglhaaDoorPGraphLoopsx2
import Derived.Test.YtoncneglplglhaaDoorPGraphLoopshgdom
import Derived.Test.YtoncneglplglhaaDoorPGraphLoopshgloop
import Derived.Test.YtoncneglplglhaaDoorPGraphLoopshgloops
import Derived.Test.YtoncneglplglhaaDoorPGraphLoopshgnext
import Derived.Test.YtoncneglplglhaaDoorPGraphLoopshgreach
import Derived.Test.YtoncneglplglhaaDoorPGraphLoopshinsnext
import Derived.Test.YtoncneglplglhaaDoorPGraphLoopshpure
import Derived.Test.YtoncneglplglhaaDoorPGraphLoopshway
import Derived.Lib.RowBridge
namespace Go.Proofs.YtoncneglplglhaaDoor.PGraphLoops
open Go.RowKit Go.Proofs.YtoncneglplglhaaDoorW.PrintWords Go.Proofs.YtoncneglplglhaaDoorW.PrintLast Go.Proofs.YtoncneglplglhaaDoorW.PrintMore
set_option linter.unusedVariables false
set_option linter.unusedSimpArgs false
open Go.Shelf
/-! Package graph in plain words: what the laws of this chapter share. -/
/-- where the instruction at i goes to in its code -/
def nxOf (l : List S37) (i : Int) : List Int := if 0 ≤ i ∧ i < (l.length : Int) then (graph_next.f l i).getD [] else []
theorem twoL_len (a b : Int) : (twoL a b).length ≤ 2 := by
  unfold twoL
  refine Nat.le_trans (Lib.compact_length_le _) ?_
  rw [List.length_mergeSort]; simp
theorem graph_next_some (l : List S37) (i : Int) (h0 : 0 ≤ i) (h1 : i < (l.length : Int)) : graph_next.f l i = some (nxOf l i) := by
  unfold nxOf
  rw [if_pos ⟨h0, h1⟩]
  unfold graph_next.f ins_Next.f
  rw [if_pos ⟨h0, h1⟩, Option.bind_some]
  rw [if_pos ?_]
  · rfl
  · split
    · simp
    · split
      · simp
      · split
        · have := twoL_len (wrap64 (i + 1)) (rd_T37 l i).f6; omega
        · simp
theorem nxOf_in (l : List S37) (i : Int) : ∀ j ∈ nxOf l i, 0 ≤ j ∧ j < (l.length : Int) := by
  intro j hj
  by_cases h : 0 ≤ i ∧ i < (l.length : Int)
  · have he := graph_next_some l i h.1 h.2
    unfold graph_next.f at he
    rw [if_pos h] at he
    obtain ⟨L, _, h2⟩ := Option.bind_eq_some_iff.1 he
    by_cases hL : L.length ≤ 1000000
    · rw [if_pos hL] at h2
      rw [← Option.some.inj h2] at hj
      have := (List.mem_filter.1 hj).2
      unfold inB at this
      simp at this
      omega
    · rw [if_neg hL] at h2; exact absurd h2 (by simp)
  · unfold nxOf at hj
    rw [if_neg h] at hj
    exact absurd hj (by simp)
theorem insNext_len {a0 a1 a2 a3 a4 a5 a6 b : Int} {L : List Int} (h : ins_Next.f a0 a1 a2 a3 a4 a5 a6 b = some L) : L.length ≤ 2 := by
  unfold ins_Next.f at h
  rw [← Option.some.inj h]
  split
  · simp
  · split
    · simp
    · split
      · exact twoL_len _ _
      · simp
theorem nxOf_len (l : List S37) (i : Int) : (nxOf l i).length ≤ 2 := by
  by_cases h : 0 ≤ i ∧ i < (l.length : Int)
  · have he := graph_next_some l i h.1 h.2
    unfold graph_next.f at he
    rw [if_pos h] at he
    obtain ⟨L, h1, h2⟩ := Option.bind_eq_some_iff.1 he
    by_cases hL : L.length ≤ 1000000
    · rw [if_pos hL] at h2
      rw [← Option.some.inj h2]
      exact Nat.le_trans (List.length_filter_le _ _) (insNext_len h1)
    · rw [if_neg hL] at h2; exact absurd h2 (by simp)
  · unfold nxOf
    rw [if_neg h]
    simp
theorem un_none (n : Nat) : un (List.replicate n false) = n := by simp [un]
theorem at_none (n : Nat) (i : Int) : at_ (List.replicate n false) i = false := by
  unfold at_
  rw [List.getD_eq_getElem?_getD, List.getElem?_replicate]
  split <;> rfl
/-- Reach tells just the places that ways from the first one lead to. -/
theorem graph_Reach_spec (l : List S37) (hn : 0 < l.length) (hl : l.length ≤ 1000) (k : Nat) (hk : 4000 < k) :
    ∃ re, graph_Reach.f k l = some re ∧ re.length = l.length ∧ ∀ i, 0 ≤ i → (at_ re i = true ↔ Way (nxOf l) 0 i) := by
  have hne : l ≠ [] := List.length_pos_iff.1 hn
  obtain ⟨R, h1, hI⟩ := walk_go (nxOf l) (graph_next.f l) l.length 2 [0] (fun i h0 h1 => graph_next_some l i h0 h1) (fun i _ _ => ⟨nxOf_len l i, nxOf_in l i⟩) 4000 (List.replicate l.length false) [0]
    ⟨by simp, fun i hi => by rw [List.mem_singleton.1 hi]; omega, fun i _ hh => by
        rcases hh with hh | hh
        · rw [at_none] at hh; exact absurd hh (by simp)
        · rw [List.mem_singleton.1 hh]; exact ⟨0, by simp, .refl 0⟩, fun i _ hh => by rw [at_none] at hh; exact absurd hh (by simp), fun s hs => .inr hs⟩
    (by rw [un_none]; simp; omega) (by rw [un_none]; simp; omega) k hk
  refine ⟨R, by unfold graph_Reach.f; rw [if_neg hne, if_pos (by omega)]; exact h1, hI.len, fun i hi => ?_⟩
  rw [hI.done (fun i _ _ => nxOf_in l i) (fun s hs => by rw [List.mem_singleton.1 hs]; omega) i hi]
  constructor
  · rintro ⟨s, hs, hw⟩; rw [List.mem_singleton.1 hs] at hw; exact hw
  · intro hw; exact ⟨0, by simp, hw⟩
/-! ## S3: from where each place can be come to. -/
def addAll (P : List (List Int)) (js : List Int) (a : Int) : List (List Int) := js.foldl (fun P j => P.set j.toNat (P.getD j.toNat [] ++ [a])) P
def predsGo (nx : Int → List Int) (re : List Bool) : Nat → Int → List (List Int) → List (List Int)
  | 0, _, P => P
  | m + 1, i, P => predsGo nx re m (i + 1) (if at_ re i = true then addAll P (nx i) i else P)
theorem add_getD {P : List (List Int)} {j a i : Int} (hj : 0 ≤ j) (hjn : j < (P.length : Int)) (hi : 0 ≤ i) : (P.set j.toNat (P.getD j.toNat [] ++ [a])).getD i.toNat [] = if i = j then P.getD i.toNat [] ++ [a] else P.getD i.toNat [] := by
  by_cases e : i = j
  · subst e
    rw [if_pos rfl, List.getD_eq_getElem?_getD, List.getElem?_set, if_pos rfl, if_pos (by omega)]
    rfl
  · rw [if_neg e, List.getD_eq_getElem?_getD, List.getElem?_set, if_neg (by omega), ← List.getD_eq_getElem?_getD]
theorem addAll_len : ∀ (js : List Int) (P : List (List Int)) (a : Int), (addAll P js a).length = P.length
  | [], P, a => rfl
  | j :: js, P, a => by
    have := addAll_len js (P.set j.toNat (P.getD j.toNat [] ++ [a])) a
    rw [List.length_set] at this
    exact this
theorem addAll_row : ∀ (js : List Int) (P : List (List Int)) (a i : Int), (∀ j ∈ js, 0 ≤ j ∧ j < (P.length : Int)) → 0 ≤ i → (addAll P js a).getD i.toNat [] = P.getD i.toNat [] ++ List.replicate (js.count i) a
  | [], P, a, i, _, _ => by simp [addAll]
  | j :: js, P, a, i, hj, hi => by
    have h1 := hj j (by simp)
    have := addAll_row js (P.set j.toNat (P.getD j.toNat [] ++ [a])) a i (fun x hx => by rw [List.length_set]; exact hj x (by simp [hx])) hi
    rw [add_getD h1.1 h1.2 hi] at this
    show (addAll (P.set j.toNat (P.getD j.toNat [] ++ [a])) js a).getD i.toNat [] = _
    rw [this, List.count_cons]
    by_cases e : i = j
    · subst e
      rw [if_pos rfl, if_pos (by simp), List.append_assoc, List.replicate_succ]
      rfl
    · rw [if_neg e, if_neg (by simpa using fun h => e h.symm), Nat.add_zero]
theorem predsGo_len (nx : Int → List Int) (re : List Bool) : ∀ (m : Nat) (i : Int) (P : List (List Int)), (predsGo nx re m i P).length = P.length
  | 0, _, _ => rfl
  | m + 1, i, P => by
    rw [predsGo, predsGo_len nx re m]
    split
    · exact addAll_len _ _ _
    · rfl
def rowOf (nx : Int → List Int) (re : List Bool) (m : Nat) (i j : Int) : List Int := (List.range m).flatMap fun (t : Nat) => if at_ re (i + (t : Int)) = true then List.replicate ((nx (i + (t : Int))).count j) (i + (t : Int)) else []
theorem rowOf_succ (nx : Int → List Int) (re : List Bool) (m : Nat) (i j : Int) : rowOf nx re (m + 1) i j = (if at_ re i = true then List.replicate ((nx i).count j) i else []) ++ rowOf nx re m (i + 1) j := by
  unfold rowOf
  rw [List.range_succ_eq_map, List.flatMap_cons, List.flatMap_map]
  have e : ∀ t : Nat, i + ((t + 1 : Nat) : Int) = i + 1 + (t : Int) := fun t => by omega
  simp only [Nat.succ_eq_add_one, e]
  simp
theorem predsGo_row {nx : Int → List Int} {re : List Bool} {n : Nat} (hnx : ∀ i, ∀ j ∈ nx i, 0 ≤ j ∧ j < (n : Int)) : ∀ (m : Nat) (i : Int) (P : List (List Int)) (j : Int), P.length = n → 0 ≤ j → (predsGo nx re m i P).getD j.toNat [] = P.getD j.toNat [] ++ rowOf nx re m i j
  | 0, i, P, j, _, _ => by simp [predsGo, rowOf]
  | m + 1, i, P, j, hP, hj => by
    rw [predsGo, rowOf_succ]
    by_cases h : at_ re i = true
    · rw [if_pos h, if_pos h, predsGo_row hnx m _ _ j (by rw [addAll_len]; exact hP) hj, addAll_row _ _ _ _ (by rw [hP]; exact hnx i) hj, List.append_assoc]
    · rw [if_neg h, if_neg h, predsGo_row hnx m _ _ j hP hj]; rfl
def predsOf (nx : Int → List Int) (re : List Bool) (n : Nat) : List (List Int) := predsGo nx re n 0 (List.replicate n [])
theorem predsOf_len (nx : Int → List Int) (re : List Bool) (n : Nat) : (predsOf nx re n).length = n := by
  unfold predsOf; rw [predsGo_len]; simp
theorem predsOf_row {nx : Int → List Int} {re : List Bool} {n : Nat} (hnx : ∀ i, ∀ j ∈ nx i, 0 ≤ j ∧ j < (n : Int)) (j : Int) (hj : 0 ≤ j) : (predsOf nx re n).getD j.toNat [] = rowOf nx re n 0 j := by
  unfold predsOf
  rw [predsGo_row hnx n 0 _ j (by simp) hj]
  have : (List.replicate n ([] : List Int)).getD j.toNat [] = [] := by
    rw [List.getD_eq_getElem?_getD, List.getElem?_replicate]
    split <;> rfl
  rw [this]; rfl
theorem mem_row {nx : Int → List Int} {re : List Bool} {n : Nat} {j a : Int} : a ∈ rowOf nx re n 0 j ↔ (0 ≤ a ∧ a < (n : Int)) ∧ at_ re a = true ∧ j ∈ nx a := by
  unfold rowOf
  rw [List.mem_flatMap]
  constructor
  · rintro ⟨t, ht, h⟩
    rw [List.mem_range] at ht
    rw [Int.zero_add] at h
    by_cases hr : at_ re (t : Int) = true
    · rw [if_pos hr] at h
      obtain ⟨h1, rfl⟩ := List.mem_replicate.1 h
      exact ⟨by omega, hr, List.count_pos_iff.1 (Nat.pos_of_ne_zero h1)⟩
    · rw [if_neg hr] at h; exact absurd h (by simp)
  · rintro ⟨h0, hr, hj⟩
    refine ⟨a.toNat, by rw [List.mem_range]; omega, ?_⟩
    rw [show (0 : Int) + ((a.toNat : Nat) : Int) = a by omega, if_pos hr]
    exact List.mem_replicate.2 ⟨Nat.ne_of_gt (List.count_pos_iff.2 hj), rfl⟩
theorem row_len {nx : Int → List Int} {re : List Bool} (hnx : ∀ i, (nx i).length ≤ 2) : ∀ (n : Nat) (i j : Int), (rowOf nx re n i j).length ≤ 2 * n
  | 0, i, j => by simp [rowOf]
  | n + 1, i, j => by
    have := row_len (re := re) hnx n (i + 1) j
    rw [rowOf_succ, List.length_append]
    have h2 : ((if at_ re i = true then List.replicate ((nx i).count j) i else []) : List Int).length ≤ 2 := by
      split
      · rw [List.length_replicate]; exact Nat.le_trans List.count_le_length (hnx i)
      · simp
    omega
theorem row_rises {nx : Int → List Int} {re : List Bool} (hnx : ∀ i j, (nx i).count j ≤ 1) (n : Nat) (j : Int) : (rowOf nx re n 0 j).Pairwise (· < ·) := by
  unfold rowOf
  rw [List.pairwise_flatMap]
  constructor
  · intro t _
    split
    · have := hnx (0 + (t : Int)) j
      match (nx (0 + (t : Int))).count j, this with
      | 0, _ => simp
      | 1, _ => simp
    · simp
  · refine List.Pairwise.imp ?_ List.pairwise_lt_range
    intro a b hab x hx y hy
    have e : ∀ (t : Nat) (x : Int), x ∈ (if at_ re (0 + (t : Int)) = true then List.replicate ((nx (0 + (t : Int))).count j) (0 + (t : Int)) else [] : List Int) → x = (t : Int) := fun t x hx => by
      split at hx
      · have := (List.mem_replicate.1 hx).2; omega
      · exact absurd hx (by simp)
    have := e a x hx
    have := e b y hy
    omega
theorem predsOf_is {nx : Int → List Int} {re : List Bool} {n : Nat} (hnx : ∀ i, ∀ j ∈ nx i, 0 ≤ j ∧ j < (n : Int)) (hre : ∀ i, 0 ≤ i → (at_ re i = true ↔ Way nx 0 i)) {i : Int} (hi : 0 ≤ i) {p : Int} : p ∈ (predsOf nx re n).getD i.toNat [] ↔ (0 ≤ p ∧ p < (n : Int)) ∧ Way nx 0 p ∧ i ∈ nx p := by
  rw [predsOf_row hnx i hi, mem_row]
  constructor
  · rintro ⟨a, b, c⟩; exact ⟨a, (hre p a.1).1 b, c⟩
  · rintro ⟨a, b, c⟩; exact ⟨a, (hre p a.1).2 b, c⟩
set_option maxHeartbeats 1000000 in
theorem graph_Preds_spec (l : List S37) (hl : l.length ≤ 1000) (re : List Bool) (hre : Ev (fun k => graph_Reach.f k l) re) (hlen : re.length = l.length) : Ev (fun k => graph_Preds.f k l) (predsOf (nxOf l) re l.length) := by
  have hin := nxOf_in l
  have main : ∀ i : Int, 0 ≤ i → i ≤ (l.length : Int) → ∀ P : List (List Int), P.length = l.length → (∀ j : Nat, (P.getD j []).length ≤ 2 * i.toNat) →
      Ev (fun k => graph_Preds.l0 k l P re (re.length : Int) i) (predsGo (nxOf l) re (l.length - i.toNat) i P) := by
    refine up_ind (n := l.length) ?_ ?_
    · intro P hP _
      rw [show l.length - ((l.length : Nat) : Int).toNat = 0 by omega]
      refine Ev.step (f := fun _ => some P) (fun k => ?_) (Ev.con rfl)
      show (if ((l.length : Nat) : Int) < (re.length : Int) then _ else some P) = some P
      rw [if_neg (by omega)]
    · intro i h0 h1 ih P hP hrow
      have e1 : l.length - i.toNat = (l.length - (i + 1).toNat) + 1 := by omega
      have hw : wrap64 (i + 1) = i + 1 := wrap_up h0 h1 (by omega)
      rw [e1, predsGo]
      refine Ev.step (f := fun k => if i < (re.length : Int) then (if 0 ≤ i then (if i < (re.length : Int) then (if at_ re i = true then ((graph_next.f l i).bind fun t => graph_Preds.l1 k l P i re (re.length : Int) i t (t.length : Int) 0) else graph_Preds.l0 k l P re (re.length : Int) (wrap64 (i + 1))) else none) else none) else some P) (fun k => rfl) ?_
      refine Ev.pos (by omega) (Ev.pos h0 (Ev.pos (by omega) ?_))
      by_cases hr : at_ re i = true
      · rw [if_pos hr]
        refine Ev.pos hr (Ev.congr (fun k => by rw [graph_next_some l i h0 h1, Option.bind_some]) ?_)
        -- the inner loop
        obtain ⟨js, hjs⟩ : ∃ js, js = nxOf l i := ⟨_, rfl⟩
        have hji : ∀ j ∈ js, 0 ≤ j ∧ j < (l.length : Int) := by rw [hjs]; exact hin i
        have hj2 : js.length ≤ 2 := by rw [hjs]; exact nxOf_len l i
        rw [← hjs]
        have inner : ∀ m : Int, 0 ≤ m → m ≤ (js.length : Int) → ∀ P : List (List Int), P.length = l.length → (∀ j : Nat, (P.getD j []).length ≤ 2 * i.toNat + m.toNat) →
            Ev (fun k => graph_Preds.l1 k l P i re (re.length : Int) i js (js.length : Int) m) (predsGo (nxOf l) re (l.length - (i + 1).toNat) (i + 1) (addAll P (js.drop m.toNat) i)) := by
          refine up_ind (n := js.length) ?_ ?_
          · intro P hP hrow
            rw [show ((js.length : Nat) : Int).toNat = js.length by omega, List.drop_length]
            refine Ev.step (f := fun k => if ((js.length : Nat) : Int) < (js.length : Int) then none else graph_Preds.l0 k l P re (re.length : Int) (wrap64 (i + 1))) (fun k => ?_) (Ev.neg (by omega) ?_)
            · show (if ((js.length : Nat) : Int) < (js.length : Int) then _ else graph_Preds.l0 k l P re (re.length : Int) (wrap64 (i + 1))) = _
              rw [if_neg (by omega), if_neg (by omega)]
            · rw [hw]
              exact ih P hP (fun j => by have := hrow j; omega)
          · intro m m0 m1 ihm P hP hrow
            have hml : m.toNat < js.length := by omega
            obtain ⟨j, hj⟩ : ∃ j, j = js.getD m.toNat 0 := ⟨_, rfl⟩
            have hjm : j ∈ js := by rw [hj, List.getD_eq_getElem?_getD, List.getElem?_eq_getElem hml]; exact List.getElem_mem hml
            have hjr := hji j hjm
            have hd : js.drop m.toNat = j :: js.drop (m + 1).toNat := by
              rw [getD_drop js 0 m.toNat hml, ← hj, show (m + 1).toNat = m.toNat + 1 by omega]
            have hwm : wrap64 (m + 1) = m + 1 := wrap_up m0 m1 (by omega)
            rw [hd]
            refine Ev.step (f := fun k => if m < (js.length : Int) then (if 0 ≤ m then (if m < (js.length : Int) then (if 0 ≤ j then (if j < (P.length : Int) then (if (P.getD j.toNat []).length < 17592186044416 then graph_Preds.l1 k l (P.set j.toNat (P.getD j.toNat [] ++ [i])) i re (re.length : Int) i js (js.length : Int) (wrap64 (m + 1)) else none) else none) else none) else none) else none) else graph_Preds.l0 k l P re (re.length : Int) (wrap64 (i + 1))) (fun k => by rw [hj]; rfl) ?_
            have hrw := hrow j.toNat
            refine Ev.pos m1 (Ev.pos m0 (Ev.pos m1 (Ev.pos hjr.1 (Ev.pos (by omega) (Ev.pos (by omega) ?_)))))
            rw [hwm]
            refine ihm _ (by rw [List.length_set]; exact hP) (fun t => ?_)
            have := add_getD (P := P) (a := i) (i := (t : Int)) hjr.1 (by omega) (by omega)
            rw [Int.toNat_natCast] at this
            rw [this]
            have := hrow t
            split
            · rw [List.length_append, List.length_singleton]; omega
            · omega
        have := inner 0 (by omega) (by omega) P hP (fun j => by have := hrow j; omega)
        simpa using this
      · rw [if_neg hr]
        refine Ev.neg hr ?_
        rw [hw]
        exact ih P hP (fun j => by have := hrow j; omega)
  have := main 0 (by omega) (by omega) (List.replicate l.length []) (by simp) (fun j => by
    rw [List.getD_eq_getElem?_getD, List.getElem?_replicate]
    split <;> simp)
  refine Ev.congr (f := fun k => if 0 ≤ (l.length : Int) then (if l.length ≤ 11728124029610 then ((graph_Reach.f k l).bind fun t => graph_Preds.l0 k l (List.replicate l.length []) t (t.length : Int) 0) else none) else none) (fun k => rfl) ?_
  exact Ev.pos (by omega) (Ev.pos (by omega) (Ev.bind hre this))
theorem graph_Reach_ev (l : List S37) (hn : 0 < l.length) (hl : l.length ≤ 1000) : ∃ re, Ev (fun k => graph_Reach.f k l) re ∧ re.length = l.length ∧ ∀ i, 0 ≤ i → (at_ re i = true ↔ Way (nxOf l) 0 i) := by
  obtain ⟨re, h1, h2⟩ := graph_Reach_spec l hn hl 4001 (by omega)
  exact ⟨re, Ev.of (graph_Reach.mono l) h1, h2⟩
/-! ## S4: what is above what. -/
theorem iniT_sq (re : List Bool) (n : Nat) : Sq n (iniT re n) := by
  refine ⟨by simp [iniT], fun r hr => ?_⟩
  unfold iniT at hr
  obtain ⟨i, _, rfl⟩ := List.mem_map.1 hr
  simp [iniR]
theorem iniT_val (re : List Bool) (n : Nat) (i k : Int) (h0 : 0 ≤ i) (k0 : 0 ≤ k) : val (iniT re n) i k = true ↔ (i < (n : Int) ∧ k < (n : Int)) ∧ at_ re i = true ∧ (0 < i ∨ k = 0) := by
  unfold val at_ iniT
  by_cases h1 : i < (n : Int)
  · have hl : i.toNat < n := by omega
    have e1 : ((List.range n).map (iniR re n)).getD i.toNat [] = iniR re n i.toNat := by
      rw [List.getD_eq_getElem?_getD]; simp [hl]
    rw [e1]
    unfold iniR
    by_cases h2 : k < (n : Int)
    · have hl2 : k.toNat < n := by omega
      have e2 : ((List.range n).map fun (j : Nat) => ini re (i.toNat : Int) (j : Int)).getD k.toNat false = ini re i k := by
        rw [List.getD_eq_getElem?_getD]
        simp only [List.getElem?_map, List.getElem?_range hl2, Option.map_some, Option.getD_some]
        rw [show ((i.toNat : Nat) : Int) = i by omega, show ((k.toNat : Nat) : Int) = k by omega]
      rw [e2]
      unfold ini at_
      simp [h1, h2]
    · have e2 : ((List.range n).map fun (j : Nat) => ini re (i.toNat : Int) (j : Int)).getD k.toNat false = false := by
        rw [List.getD_eq_getElem?_getD, List.getElem?_eq_none (by simp; omega)]; rfl
      rw [e2]
      simp [h2]
  · have e1 : ((List.range n).map (iniR re n)).getD i.toNat [] = [] := by
      rw [List.getD_eq_getElem?_getD, List.getElem?_eq_none (by simp; omega)]; rfl
    rw [e1]
    simp [h1]
theorem graph_Dominates_spec (l : List S37) (hn : 0 < l.length) (hl : l.length ≤ 1000) : ∃ D, Ev (fun k => graph_Dominates.f k l) D ∧ Sq l.length D ∧ ∀ i k, 0 ≤ i → i < (l.length : Int) → 0 ≤ k → k < (l.length : Int) → (val D i k = true ↔ Dom (nxOf l) i k) := by
  obtain ⟨re, hre, hlen, hway⟩ := graph_Reach_ev l hn hl
  have hP := graph_Preds_spec l hl re hre hlen
  obtain ⟨P, hPe⟩ : ∃ P, P = predsOf (nxOf l) re l.length := ⟨_, rfl⟩
  rw [← hPe] at hP
  have hPl : P.length = l.length := by rw [hPe]; exact predsOf_len _ _ _
  have hmem : ∀ i p : Int, 0 ≤ i → (p ∈ P.getD i.toNat [] ↔ (0 ≤ p ∧ p < (l.length : Int)) ∧ Way (nxOf l) 0 p ∧ i ∈ nxOf l p) := fun i p hi => by rw [hPe]; exact predsOf_is (fun i => nxOf_in l i) hway hi
  obtain ⟨pr, hpr⟩ : ∃ pr : Int → List Int, pr = fun j => P.getD j.toNat [] := ⟨_, rfl⟩
  obtain ⟨pr2, hpr2⟩ : ∃ pr2 : Int → List Int, pr2 = fun j => if 0 ≤ j then P.getD j.toNat [] else [] := ⟨_, rfl⟩
  have his : IsPreds (nxOf l) l.length pr2 := fun i p => by
    rw [hpr2]
    by_cases h0 : 0 ≤ i
    · simp only [if_pos h0]; exact hmem i p h0
    · simp only [if_neg h0]
      refine ⟨fun h => absurd h (by simp), fun h => ?_⟩
      have := nxOf_in l p i h.2.2; omega
  have hin : ∀ i, ∀ p ∈ pr2 i, 0 ≤ p ∧ p < (l.length : Int) := fun i p hp => ((his i p).1 hp).1
  have hinP : ∀ r ∈ P, ∀ x ∈ r, 0 ≤ x ∧ x < (l.length : Int) := fun r hr x hx => by
    obtain ⟨i, hi, he⟩ := List.mem_iff_getElem.1 hr
    refine ((hmem (i : Int) x (by omega)).1 ?_).1
    rw [Int.toNat_natCast, List.getD_eq_getElem?_getD, List.getElem?_eq_getElem hi]
    show x ∈ P[i]
    rw [he]; exact hx
  have hI : DInv l.length (Dom (nxOf l)) (fun i k => Way (nxOf l) 0 i ∧ (0 < i ∨ k = 0)) (iniT re l.length) := by
    refine ⟨iniT_sq re l.length, fun i k i0 i1 k0 k1 hd => ?_, fun i k i0 k0 hv => ?_⟩
    · rw [iniT_val re l.length i k i0 k0]
      refine ⟨⟨i1, k1⟩, (hway i i0).2 hd.1, ?_⟩
      by_cases e : 0 < i
      · exact .inl e
      · right
        have e0 : i = 0 := by omega
        subst e0
        by_cases ek : k = 0
        · exact ek
        · exact absurd ⟨fun h => ek h.symm, Way.refl 0⟩ hd.2
    · obtain ⟨_, h2, h3⟩ := (iniT_val re l.length i k i0 k0).1 hv
      exact ⟨(hway i i0).1 h2, h3⟩
  -- only rows of places are looked at
  have hsame : ∀ (R : List (List Bool)) (k : Nat), domGo pr re l.length k R = domGo pr2 re l.length k R := by
    have h1 : ∀ (i : Int), 0 ≤ i → ∀ (m : Nat) (R : List (List Bool)) (k : Int) (c : Bool), meetGo pr i m R k c = meetGo pr2 i m R k c := by
      intro i hi m
      have e : pr i = pr2 i := by rw [hpr, hpr2]; simp only [if_pos hi]
      induction m with
      | zero => intro R k c; rfl
      | succ m ih =>
        intro R k c
        have e2 : meetC pr i R k = meetC pr2 i R k := by unfold meetC; rw [e]
        rw [meetGo, meetGo, ih]
        unfold meetK
        rw [e2]
    have h2 : ∀ (m : Nat) (R : List (List Bool)) (i : Int) (c : Bool), 0 ≤ i → passGo pr re l.length m R i c = passGo pr2 re l.length m R i c := by
      intro m
      induction m with
      | zero => intro R i c _; rfl
      | succ m ih =>
        intro R i c hi
        rw [passGo, passGo, h1 i hi]
        split
        · exact ih _ _ _ (by omega)
        · exact ih _ _ _ (by omega)
    intro R k
    induction k generalizing R with
    | zero => rfl
    | succ k ih => rw [domGo, domGo, h2 _ _ _ _ (by omega)]; simp only [ih]
  obtain ⟨D, hD1, hD2, hD3⟩ := domGo_spec (pr := pr2) (n := l.length) (D := Dom (nxOf l)) (I := fun i k => Way (nxOf l) 0 i ∧ (0 < i ∨ k = 0)) (fun i k h hne p hp => dom_down his i k h hne p hp) hin (reach := re) (tru (iniT re l.length)) (iniT re l.length) hI (Nat.le_refl _) (tru (iniT re l.length) + 1) (by omega)
  rw [← hsame] at hD1
  refine ⟨D, ?_, hD2.sq, fun i k i0 i1 k0 k1 => dom_val his (fun i _ _ => nxOf_in l i) (fun i h0 _ => hway i h0) hD2 hD3 i0 i1 k0 k1⟩
  refine Ev.congr (f := fun k => if l.length ≤ 1000000 then (graph_Reach.f k l).bind fun re => (graph_Preds.f k l).bind fun P => if P.length = l.length ∧ re.length = l.length ∧ (∀ r ∈ P, ∀ x ∈ r, 0 ≤ x ∧ x < (l.length : Int)) then domGo (fun j => P.getD j.toNat []) re l.length k (iniT re l.length) else none else none) (fun k => rfl) ?_
  refine Ev.pos (by omega) (Ev.bind hre (Ev.bind hP (Ev.pos ⟨hPl, hlen, hinP⟩ ?_)))
  rw [← hpr]
  exact Ev.of (fun k => domGo.mono pr re l.length k _) hD1
/-! ## S5: the loops. -/
def BackE (nx : Int → List Int) (n : Nat) (j h : Int) : Prop := (0 ≤ j ∧ j < (n : Int)) ∧ Way nx 0 j ∧ h ∈ nx j ∧ Dom nx j h
structure LoopS (nx : Int → List Int) (n : Nat) (b : Nat → Bool) (S : Nat → List Bool) : Prop where
  is : ∀ h, h < n → (b h = true ↔ ∃ j, BackE nx n j (h : Int))
  len : ∀ h, h < n → b h = true → (S h).length = n
  mem : ∀ h, h < n → b h = true → ∀ i, 0 ≤ i → i < (n : Int) → (at_ (S h) i = true ↔ i = (h : Int) ∨ ∃ j, BackE nx n j (h : Int) ∧ Way nx 0 i ∧ Way (no nx (h : Int)) i j)
def loopsOf (n : Nat) (b : Nat → Bool) (S : Nat → List Bool) : List (List Int) := ((List.range n).filter b).map fun h => memb (S h)
theorem graph_Loops_spec (l : List S37) (hn : 0 < l.length) (hl : l.length ≤ 1000) : ∃ b S, Ev (fun k => graph_Loops.f k l) (loopsOf l.length b S) ∧ LoopS (nxOf l) l.length b S := by
  obtain ⟨re, hre, hlen, hway⟩ := graph_Reach_ev l hn hl
  obtain ⟨D, hD, hsq, hdom⟩ := graph_Dominates_spec l hn hl
  have hP := graph_Preds_spec l hl re hre hlen
  obtain ⟨P, hPe⟩ : ∃ P, P = predsOf (nxOf l) re l.length := ⟨_, rfl⟩
  rw [← hPe] at hP
  have hPl : P.length = l.length := by rw [hPe]; exact predsOf_len _ _ _
  have hmem : ∀ i p : Int, 0 ≤ i → (p ∈ P.getD i.toNat [] ↔ (0 ≤ p ∧ p < (l.length : Int)) ∧ Way (nxOf l) 0 p ∧ i ∈ nxOf l p) := fun i p hi => by rw [hPe]; exact predsOf_is (fun i => nxOf_in l i) hway hi
  have hrl : ∀ i : Int, 0 ≤ i → (P.getD i.toNat []).length ≤ 2 * l.length := fun i hi => by rw [hPe, predsOf_row (fun i => nxOf_in l i) i hi]; exact row_len (fun i => nxOf_len l i) _ _ _
  obtain ⟨pr2, hpr2⟩ : ∃ pr2 : Int → List Int, pr2 = fun j => if 0 ≤ j then P.getD j.toNat [] else [] := ⟨_, rfl⟩
  have his : IsPreds (nxOf l) l.length pr2 := fun i p => by
    rw [hpr2]
    by_cases h0 : 0 ≤ i
    · simp only [if_pos h0]; exact hmem i p h0
    · simp only [if_neg h0]
      refine ⟨fun h => absurd h (by simp), fun h => ?_⟩
      have := nxOf_in l p i h.2.2; omega
  have hP2 : ∀ r ∈ P, r.length ≤ 1000000 ∧ ∀ x ∈ r, 0 ≤ x ∧ x < (l.length : Int) := fun r hr => by
    obtain ⟨i, hi, he⟩ := List.mem_iff_getElem.1 hr
    have e : P.getD ((i : Int)).toNat [] = r := by
      rw [Int.toNat_natCast, List.getD_eq_getElem?_getD, List.getElem?_eq_getElem hi]; exact he
    refine ⟨by have := hrl (i : Int) (by omega); rw [e] at this; omega, fun x hx => ((hmem (i : Int) x (by omega)).1 (by rw [e]; exact hx)).1⟩
  have hback : ∀ h : Nat, h < l.length → ∀ j, j ∈ backs P D (h : Int) ↔ BackE (nxOf l) l.length j (h : Int) := fun h hh j => by
    unfold backs BackE
    rw [List.mem_filter, hmem _ _ (by omega), Bool.not_not]
    constructor
    · rintro ⟨⟨a, b, c⟩, d⟩; exact ⟨a, b, c, (hdom j h a.1 a.2 (by omega) (by omega)).1 d⟩
    · rintro ⟨a, b, c, d⟩; exact ⟨⟨a, b, c⟩, (hdom j h a.1 a.2 (by omega) (by omega)).2 d⟩
  have hwalk : ∀ h : Nat, h < l.length → ∃ s, Ev (fun k => walkGo (stepsB P (h : Int)) k (List.replicate l.length false) (backs P D (h : Int))) s ∧ s.length = l.length ∧ ∀ i, 0 ≤ i → (at_ s i = true ↔ ∃ j ∈ backs P D (h : Int), Way (stepsBack pr2 (h : Int)) j i) := fun h hh => by
    have hst : ∀ i, 0 ≤ i → i < (l.length : Int) → stepsB P (h : Int) i = some (stepsBack pr2 (h : Int) i) := fun i h0 h1 => by
      unfold stepsB stepsBack
      rw [hpr2]
      by_cases e : i = (h : Int)
      · rw [if_pos e, if_pos e]
      · rw [if_neg e, if_neg e, if_pos ⟨h0, by omega⟩]
        simp only [if_pos h0]
    have hnx : ∀ i, 0 ≤ i → i < (l.length : Int) → (stepsBack pr2 (h : Int) i).length ≤ 2000 ∧ ∀ j ∈ stepsBack pr2 (h : Int) i, 0 ≤ j ∧ j < (l.length : Int) := fun i h0 h1 => by
      unfold stepsBack
      by_cases e : i = (h : Int)
      · rw [if_pos e]; simp
      · rw [if_neg e]
        refine ⟨?_, fun j hj => ((his i j).1 hj).1⟩
        rw [hpr2]; simp only [if_pos h0]
        have := hrl i h0; omega
    have hfr : ∀ s ∈ backs P D (h : Int), 0 ≤ s ∧ s < (l.length : Int) := fun s hs => ((hback h hh s).1 hs).1
    have hbl : (backs P D (h : Int)).length ≤ 2000 := by
      unfold backs
      have := hrl (h : Int) (by omega)
      exact Nat.le_trans (List.length_filter_le _ _) (by omega)
    have hW : WInv (stepsBack pr2 (h : Int)) l.length (backs P D (h : Int)) (List.replicate l.length false) (backs P D (h : Int)) := by
      refine ⟨by simp, hfr, fun i _ hi => ?_, fun i _ hi => ?_, fun s hs => .inr hs⟩
      · rcases hi with hi | hi
        · rw [at_none] at hi; exact absurd hi (by simp)
        · exact ⟨i, hi, .refl i⟩
      · rw [at_none] at hi; exact absurd hi (by simp)
    have hun : un (List.replicate l.length false) ≤ 1000 := by rw [un_none]; exact hl
    have hm1 : un (List.replicate l.length false) * 2000 ≤ 1000 * 2000 := Nat.mul_le_mul_right _ hun
    have hm2 : un (List.replicate l.length false) * (2000 + 1) ≤ 1000 * (2000 + 1) := Nat.mul_le_mul_right _ hun
    obtain ⟨R, h1, h2⟩ := walk_go (stepsBack pr2 (h : Int)) (stepsB P (h : Int)) l.length 2000 (backs P D (h : Int)) hst hnx (un (List.replicate l.length false) * (2000 + 1) + (backs P D (h : Int)).length) _ _ hW (Nat.le_refl _) (by omega) _ (Nat.lt_succ_self _)
    refine ⟨R, Ev.of (fun k => walkGo.mono _ k _ _) h1, h2.len, fun i hi => h2.done (fun i h0 h1 => (hnx i h0 h1).2) hfr i hi⟩
  have hex : ∀ h : Nat, ∃ s, h < l.length → Ev (fun k => walkGo (stepsB P (h : Int)) k (List.replicate l.length false) (backs P D (h : Int))) s ∧ s.length = l.length ∧ ∀ i, 0 ≤ i → (at_ s i = true ↔ ∃ j ∈ backs P D (h : Int), Way (stepsBack pr2 (h : Int)) j i) := fun h => by
    by_cases hh : h < l.length
    · obtain ⟨s, hs⟩ := hwalk h hh
      exact ⟨s, fun _ => hs⟩
    · exact ⟨[], fun h' => absurd h' hh⟩
  obtain ⟨s, hs⟩ := Classical.axiomOfChoice hex
  refine ⟨fun h => !(backs P D (h : Int)).isEmpty, fun h => (s h).set h true, ?_, ?_, ?_, ?_⟩
  · refine Ev.congr (f := fun k => (graph_Preds.f k l).bind fun P => (graph_Dominates.f k l).bind fun D => if l.length ≤ 1000000 ∧ P.length = l.length ∧ D.length = l.length ∧ (∀ r ∈ D, r.length = l.length) ∧ (∀ r ∈ P, r.length ≤ 1000000 ∧ ∀ x ∈ r, 0 ≤ x ∧ x < (l.length : Int)) then graph_Loops.l P D l.length k l.length 0 [] else none) (fun k => rfl) ?_
    refine Ev.bind hP (Ev.bind hD (Ev.pos ⟨by omega, hPl, hsq.1, hsq.2, hP2⟩ ?_))
    have key : ∀ (m h : Nat) (acc : List (List Int)), h + m = l.length → Ev (fun k => graph_Loops.l P D l.length k m h acc) (acc ++ ((List.range' h m).filter fun (h : Nat) => !(backs P D (h : Int)).isEmpty).map fun h => memb ((s h).set h true)) := by
      intro m
      induction m with
      | zero => intro h acc _; refine Ev.con ?_; simp [graph_Loops.l]
      | succ m ih =>
        intro h acc hm
        rw [List.range'_succ]
        by_cases hb : backs P D (h : Int) = []
        · refine Ev.congr (f := fun k => graph_Loops.l P D l.length k m (h + 1) acc) (fun k => by rw [graph_Loops.l, if_pos hb]) ?_
          rw [List.filter_cons, if_neg (by simp [hb])]
          exact ih (h + 1) acc (by omega)
        · refine Ev.congr (f := fun k => (walkGo (stepsB P (h : Int)) k (List.replicate l.length false) (backs P D (h : Int))).bind fun s => graph_Loops.l P D l.length k m (h + 1) (acc ++ [memb (s.set h true)])) (fun k => by rw [graph_Loops.l, if_neg hb]) ?_
          refine Ev.bind (hs h (by omega)).1 ?_
          rw [List.filter_cons, if_pos (by simp [hb]), List.map_cons]
          have := ih (h + 1) (acc ++ [memb ((s h).set h true)]) (by omega)
          rw [List.append_assoc] at this
          exact this
    have := key l.length 0 [] (by omega)
    rw [List.nil_append, ← List.range_eq_range'] at this
    exact this
  · intro h hh
    have e : (!(backs P D (h : Int)).isEmpty) = true ↔ ∃ j, j ∈ backs P D (h : Int) := by
      cases backs P D (h : Int) with
      | nil => simp
      | cons x xs => simp
    show (!(backs P D (h : Int)).isEmpty) = true ↔ _
    rw [e]
    exact ⟨fun ⟨j, hj⟩ => ⟨j, (hback h hh j).1 hj⟩, fun ⟨j, hj⟩ => ⟨j, (hback h hh j).2 hj⟩⟩
  · intro h hh _
    show ((s h).set h true).length = _
    rw [List.length_set]; exact (hs h hh).2.1
  · intro h hh _ i i0 i1
    show at_ ((s h).set h true) i = true ↔ _
    have := at_set (s := s h) (a := (h : Int)) (i := i) (v := true) (by omega) (by rw [(hs h hh).2.1]; omega) i0
    rw [Int.toNat_natCast] at this
    rw [this]
    by_cases e : i = (h : Int)
    · rw [if_pos e]; simp [e]
    · rw [if_neg e, (hs h hh).2.2 i i0]
      constructor
      · rintro ⟨j, hj, hw⟩
        have hb := (hback h hh j).1 hj
        exact .inr ⟨j, hb, back_reach his hb.2.1 hw, back_to his hw⟩
      · rintro (h' | ⟨j, hb, hr, hw⟩)
        · exact absurd h' e
        · exact ⟨j, (hback h hh j).2 hb, (to_back his (fun i _ _ => nxOf_in l i) i0 i1 hr hw).1⟩
theorem memb_in {s : List Bool} {i : Int} : i ∈ memb s ↔ 0 ≤ i ∧ at_ s i = true := by
  unfold memb
  rw [List.mem_map]
  constructor
  · rintro ⟨t, ht, rfl⟩
    refine ⟨by omega, ?_⟩
    unfold at_
    rw [Int.toNat_natCast]
    exact (List.mem_filter.1 ht).2
  · rintro ⟨h0, h⟩
    refine ⟨i.toNat, List.mem_filter.2 ⟨?_, h⟩, by omega⟩
    rw [List.mem_range]
    rcases Nat.lt_or_ge i.toNat s.length with hl | hl
    · exact hl
    · unfold at_ at h
      rw [List.getD_eq_getElem?_getD, List.getElem?_eq_none hl] at h
      exact absurd h (by simp)
end Go.Proofs.YtoncneglplglhaaDoor.PGraphLoops
