import Derived.Test.YtfhjkkcdeigkdaaDoorPFoldRunsx0
namespace Go.Proofs.YtfhjkkcdeigkdaaDoor.PFoldRuns
open Go.RowKit Go.Proofs.YtfhjkkcdeigkdaaDoorW.PrintWords Go.Proofs.YtfhjkkcdeigkdaaDoorW.PrintLast Go.Proofs.YtfhjkkcdeigkdaaDoorW.PrintMore
set_option linter.unusedVariables false
set_option linter.unusedSimpArgs false
/-! Ways in a graph, in plain words. -/
inductive Way (nx : Int → List Int) : Int → Int → Prop
  | refl (a : Int) : Way nx a a
  | step {a b c : Int} : Way nx a b → c ∈ nx b → Way nx a c
theorem Way.trans {nx : Int → List Int} {a b c : Int} (h : Way nx a b) (k : Way nx b c) : Way nx a c := by
  induction k with
  | refl => exact h
  | step _ hc ih => exact .step ih hc
theorem Way.head {nx : Int → List Int} {a b c : Int} (h : b ∈ nx a) (k : Way nx b c) : Way nx a c := (Way.step (.refl a) h).trans k
theorem Way.mono {nx mx : Int → List Int} (hm : ∀ a b, b ∈ nx a → b ∈ mx a) {a b : Int} (h : Way nx a b) : Way mx a b := by
  induction h with
  | refl => exact .refl _
  | step _ hc ih => exact .step ih (hm _ _ hc)
theorem Way.cases_head {nx : Int → List Int} {a c : Int} (h : Way nx a c) : a = c ∨ ∃ b, b ∈ nx a ∧ Way nx b c := by
  induction h with
  | refl => exact .inl rfl
  | step h hc ih =>
    rcases ih with rfl | ⟨b, hb, hw⟩
    · exact .inr ⟨_, hc, .refl _⟩
    · exact .inr ⟨b, hb, .step hw hc⟩
/-- seen places -/
def at_ (s : List Bool) (i : Int) : Bool := s.getD i.toNat false
theorem at_set {s : List Bool} {a i : Int} {v : Bool} (ha : 0 ≤ a) (h : a < s.length) (hi : 0 ≤ i) : at_ (s.set a.toNat v) i = if i = a then v else at_ s i := by
  unfold at_
  rw [List.getD_eq_getElem?_getD, List.getElem?_set, List.getD_eq_getElem?_getD]
  by_cases he : i = a
  · subst he
    rw [if_pos rfl, if_pos rfl, if_pos (by omega)]
    rfl
  · rw [if_neg (by omega), if_neg he]
theorem at_keep {s : List Bool} {a : Nat} {j : Int} (h : at_ s j = true) : at_ (s.set a true) j = true := by
  unfold at_ at h ⊢
  have hl : j.toNat < s.length := by
    rcases Nat.lt_or_ge j.toNat s.length with hl | hl
    · exact hl
    · rw [List.getD_eq_getElem?_getD, List.getElem?_eq_none hl] at h; exact absurd h (by simp)
  rw [List.getD_eq_getElem?_getD, List.getElem?_set]
  by_cases e : a = j.toNat
  · rw [if_pos e, if_pos (by omega)]; rfl
  · rw [if_neg e, ← List.getD_eq_getElem?_getD]; exact h
def un (s : List Bool) : Nat := (s.filter (fun b => !b)).length
theorem un_set : ∀ (s : List Bool) (i : Nat), s.getD i true = false → un (s.set i true) + 1 = un s
  | [], i, h => by simp at h
  | b :: s, 0, h => by
    have : b = false := by simpa using h
    subst this
    simp [un]
  | b :: s, i + 1, h => by
    have := un_set s i (by simpa using h)
    unfold un at this ⊢
    cases b <;> simp <;> omega
theorem un_set' {s : List Bool} {a : Int} (ha : 0 ≤ a) (h : a < s.length) (hf : at_ s a = false) : un (s.set a.toNat true) + 1 = un s := by
  refine un_set s a.toNat ?_
  unfold at_ at hf
  have hl : a.toNat < s.length := by omega
  rw [List.getD_eq_getElem?_getD, List.getElem?_eq_getElem hl] at hf ⊢
  exact hf
/-- the walk of package graph: by steps from a stack -/
def walkGo (st : Int → Option (List Int)) : Nat → List Bool → List Int → Option (List Bool)
  | 0, _, _ => none
  | k + 1, seen, wait =>
    if wait = [] then some seen
    else if 0 ≤ wait.getLastD 0 ∧ wait.getLastD 0 < seen.length then
      if at_ seen (wait.getLastD 0) = true then walkGo st k seen wait.dropLast
      else (st (wait.getLastD 0)).bind fun l => if wait.length + l.length ≤ 1000000000 then walkGo st k (seen.set (wait.getLastD 0).toNat true) (wait.dropLast ++ l) else none
    else none
theorem split_last {l : List Int} (h : l ≠ []) : l = l.dropLast ++ [l.getLastD 0] := by
  conv => lhs; rw [← List.dropLast_concat_getLast h]
  congr 2
  rw [List.getLastD_eq_getLast?, List.getLast?_eq_some_getLast h]
  rfl
structure WInv (nx : Int → List Int) (n : Nat) (from_ : List Int) (seen : List Bool) (wait : List Int) : Prop where
  len : seen.length = n
  rng : ∀ i ∈ wait, 0 ≤ i ∧ i < (n : Int)
  sound : ∀ i, 0 ≤ i → (at_ seen i = true ∨ i ∈ wait) → ∃ s ∈ from_, Way nx s i
  closed : ∀ i, 0 ≤ i → at_ seen i = true → ∀ j ∈ nx i, at_ seen j = true ∨ j ∈ wait
  start : ∀ s ∈ from_, at_ seen s = true ∨ s ∈ wait
theorem walk_go (nx : Int → List Int) (st : Int → Option (List Int)) (n M : Nat) (from_ : List Int) (hst : ∀ i, 0 ≤ i → i < (n : Int) → st i = some (nx i)) (hnx : ∀ i, 0 ≤ i → i < (n : Int) → (nx i).length ≤ M ∧ ∀ j ∈ nx i, 0 ≤ j ∧ j < (n : Int))
    : ∀ (d : Nat) (seen : List Bool) (wait : List Int), WInv nx n from_ seen wait → un seen * (M + 1) + wait.length ≤ d → wait.length + un seen * M + M ≤ 1000000000 →
      ∀ k, d < k → ∃ R, walkGo st k seen wait = some R ∧ WInv nx n from_ R []
  | d, seen, wait, hI, hd, hb, k, hk => by
    obtain ⟨k, rfl⟩ : ∃ m, k = m + 1 := ⟨k - 1, by omega⟩
    by_cases hw : wait = []
    · subst hw
      exact ⟨seen, by rw [walkGo, if_pos rfl], hI⟩
    · have hsp := split_last hw
      obtain ⟨a, ha⟩ : ∃ a, a = wait.getLastD 0 := ⟨_, rfl⟩
      obtain ⟨W, hW⟩ : ∃ W, W = wait.dropLast := ⟨_, rfl⟩
      have hsp' : wait = W ++ [a] := by rw [ha, hW]; exact hsp
      have hr := hI.rng a (by rw [hsp']; simp)
      have hlen := hI.len
      have hwl : wait.length = W.length + 1 := by rw [hsp']; simp
      rw [walkGo, if_neg hw, ← ha, ← hW, if_pos ⟨hr.1, by rw [hlen]; exact hr.2⟩]
      by_cases hs : at_ seen a = true
      · rw [if_pos hs]
        match d, hd with
        | 0, hd => omega
        | d + 1, hd =>
        refine walk_go nx st n M from_ hst hnx d seen W ?_ (by omega) (by omega) k (by omega)
        refine ⟨hlen, fun i hi => hI.rng i (by rw [hsp']; simp [hi]), fun i h0 hi => hI.sound i h0 (hi.imp id (fun h => by rw [hsp']; simp [h])), fun i h0 hi j hj => ?_, fun s h => ?_⟩
        · rcases hI.closed i h0 hi j hj with h | h
          · exact .inl h
          · rw [hsp', List.mem_append] at h
            rcases h with h | h
            · exact .inr h
            · rw [List.mem_singleton] at h; subst h; exact .inl hs
        · rcases hI.start s h with h | h
          · exact .inl h
          · rw [hsp', List.mem_append] at h
            rcases h with h | h
            · exact .inr h
            · rw [List.mem_singleton] at h; subst h; exact .inl hs
      · have hsf : at_ seen a = false := by simpa using hs
        have hu := un_set' hr.1 (by rw [hlen]; exact hr.2) hsf
        obtain ⟨hM, hrg⟩ := hnx a hr.1 hr.2
        have hmul : un seen * (M + 1) = un (seen.set a.toNat true) * (M + 1) + (M + 1) := by rw [← hu, Nat.succ_mul]
        have hmul2 : un seen * M = un (seen.set a.toNat true) * M + M := by rw [← hu, Nat.succ_mul]
        have hset : ∀ i, 0 ≤ i → at_ (seen.set a.toNat true) i = if i = a then true else at_ seen i := fun i h0 => at_set hr.1 (by rw [hlen]; exact hr.2) h0
        rw [if_neg hs, hst a hr.1 hr.2, Option.bind_some, if_pos (by omega)]
        match d, hd with
        | 0, hd => omega
        | d + 1, hd =>
        refine walk_go nx st n M from_ hst hnx d (seen.set a.toNat true) (W ++ nx a) ?_ (by rw [List.length_append]; omega) (by rw [List.length_append]; omega) k (by omega)
        have hway : ∃ s ∈ from_, Way nx s a := hI.sound a hr.1 (.inr (by rw [hsp']; simp))
        refine ⟨by rw [List.length_set]; exact hlen, fun i hi => ?_, fun i h0 hi => ?_, fun i h0 hi j hj => ?_, fun s h => ?_⟩
        · rw [List.mem_append] at hi
          rcases hi with hi | hi
          · exact hI.rng i (by rw [hsp']; simp [hi])
          · exact hrg i hi
        · rcases hi with hi | hi
          · rw [hset i h0] at hi
            by_cases e : i = a
            · subst e; exact hway
            · rw [if_neg e] at hi; exact hI.sound i h0 (.inl hi)
          · rw [List.mem_append] at hi
            rcases hi with hi | hi
            · exact hI.sound i h0 (.inr (by rw [hsp']; simp [hi]))
            · obtain ⟨s, hs1, hs2⟩ := hway
              exact ⟨s, hs1, .step hs2 hi⟩
        · rw [hset i h0] at hi
          by_cases e : i = a
          · subst e; exact .inr (by simp [hj])
          · rw [if_neg e] at hi
            rcases hI.closed i h0 hi j hj with h | h
            · left
              exact at_keep h
            · rw [hsp', List.mem_append] at h
              rcases h with h | h
              · exact .inr (by simp [h])
              · rw [List.mem_singleton] at h; subst h; left; rw [hset j hr.1, if_pos rfl]
        · rcases hI.start s h with h | h
          · left
            exact at_keep h
          · rw [hsp', List.mem_append] at h
            rcases h with h | h
            · exact .inr (by simp [h])
            · rw [List.mem_singleton] at h; subst h; left; rw [hset s hr.1, if_pos rfl]
/-- at the end: seen is just what ways lead to -/
theorem WInv.done {nx : Int → List Int} {n : Nat} {from_ : List Int} {R : List Bool} (h : WInv nx n from_ R []) (hnx : ∀ i, 0 ≤ i → i < (n : Int) → ∀ j ∈ nx i, 0 ≤ j ∧ j < (n : Int)) (hf : ∀ s ∈ from_, 0 ≤ s ∧ s < (n : Int)) (i : Int) (hi : 0 ≤ i) : at_ R i = true ↔ ∃ s ∈ from_, Way nx s i := by
  constructor
  · intro hh
    exact h.sound i hi (.inl hh)
  · rintro ⟨s, hs, hw⟩
    have key : ∀ b, Way nx s b → at_ R b = true ∧ 0 ≤ b ∧ b < (n : Int) := fun b hw => by
      induction hw with
      | refl => exact ⟨(h.start s hs).resolve_right (by simp), hf s hs⟩
      | step _ hc ih => exact ⟨(h.closed _ ih.2.1 ih.1 _ hc).resolve_right (by simp), hnx _ ih.2.1 ih.2.2 _ hc⟩
    exact (key i hw).1
/-! What is above what. -/
def val (R : List (List Bool)) (i k : Int) : Bool := at_ (R.getD i.toNat []) k
def setv (R : List (List Bool)) (i k : Int) (v : Bool) : List (List Bool) := R.set i.toNat ((R.getD i.toNat []).set k.toNat v)
/-- so many rows of so many -/
def Sq (n : Nat) (R : List (List Bool)) : Prop := R.length = n ∧ ∀ r ∈ R, r.length = n
theorem sq_row {n : Nat} {R : List (List Bool)} (h : Sq n R) {i : Int} (h0 : 0 ≤ i) (h1 : i < (n : Int)) : (R.getD i.toNat []).length = n := by
  have hl : i.toNat < R.length := by have := h.1; omega
  rw [List.getD_eq_getElem?_getD, List.getElem?_eq_getElem hl]
  exact h.2 _ (List.getElem_mem hl)
theorem sq_set {n : Nat} {R : List (List Bool)} (h : Sq n R) {i k : Int} {v : Bool} (h0 : 0 ≤ i) (h1 : i < (n : Int)) : Sq n (setv R i k v) := by
  refine ⟨by unfold setv; rw [List.length_set]; exact h.1, fun r hr => ?_⟩
  unfold setv at hr
  rcases List.mem_or_eq_of_mem_set hr with hr | rfl
  · exact h.2 r hr
  · rw [List.length_set]; exact sq_row h h0 h1
theorem val_set {n : Nat} {R : List (List Bool)} (h : Sq n R) {i k : Int} {v : Bool} (h0 : 0 ≤ i) (h1 : i < (n : Int)) (k0 : 0 ≤ k) (k1 : k < (n : Int)) {i' k' : Int} (h0' : 0 ≤ i') (k0' : 0 ≤ k') :
    val (setv R i k v) i' k' = if i' = i ∧ k' = k then v else val R i' k' := by
  have hl : i.toNat < R.length := by have := h.1; omega
  unfold val setv
  by_cases e : i' = i
  · subst e
    rw [List.getD_eq_getElem?_getD, List.getElem?_set, if_pos rfl, if_pos hl]
    show at_ ((R.getD i'.toNat []).set k.toNat v) k' = _
    rw [at_set k0 (by rw [sq_row h h0 h1]; exact k1) k0']
    by_cases e2 : k' = k
    · rw [if_pos e2, if_pos ⟨rfl, e2⟩]
    · rw [if_neg e2, if_neg (fun hh => e2 hh.2)]
  · rw [List.getD_eq_getElem?_getD, List.getElem?_set, if_neg (by omega), ← List.getD_eq_getElem?_getD, if_neg (fun hh => e hh.1)]
/-- one place's turn -/
def meetC (pr : Int → List Int) (i : Int) (R : List (List Bool)) (k : Int) : Bool := val R i k && (k != i && (pr i).any (fun p => !val R p k))
def meetK (pr : Int → List Int) (i : Int) (R : List (List Bool)) (k : Int) : List (List Bool) := if meetC pr i R k = true then setv R i k false else R
def meetGo (pr : Int → List Int) (i : Int) : Nat → List (List Bool) → Int → Bool → List (List Bool) × Bool
  | 0, R, _, c => (R, c)
  | m + 1, R, k, c => meetGo pr i m (meetK pr i R k) (k + 1) (c || meetC pr i R k)
def passGo (pr : Int → List Int) (reach : List Bool) (n : Nat) : Nat → List (List Bool) → Int → Bool → List (List Bool) × Bool
  | 0, R, _, c => (R, c)
  | m + 1, R, i, c => if at_ reach i = true then (let q := meetGo pr i n R 0 false; passGo pr reach n m q.1 (i + 1) (c || q.2)) else passGo pr reach n m R (i + 1) c
def domGo (pr : Int → List Int) (reach : List Bool) (n : Nat) : Nat → List (List Bool) → Option (List (List Bool))
  | 0, _ => none
  | k + 1, R => let q := passGo pr reach n (n - 1) R 1 false; if q.2 = true then domGo pr reach n k q.1 else some q.1
section
variable {pr : Int → List Int} {n : Nat} {D : Int → Int → Prop} {I : Int → Int → Prop}
/-- what holds throughout -/
structure DInv (n : Nat) (D I : Int → Int → Prop) (R : List (List Bool)) : Prop where
  sq : Sq n R
  low : ∀ i k, 0 ≤ i → i < (n : Int) → 0 ≤ k → k < (n : Int) → D i k → val R i k = true
  high : ∀ i k, 0 ≤ i → 0 ≤ k → val R i k = true → I i k
theorem meetK_inv (hD : ∀ i k, D i k → k ≠ i → ∀ p ∈ pr i, D p k) (hp : ∀ i, ∀ p ∈ pr i, 0 ≤ p ∧ p < (n : Int)) {R : List (List Bool)} (h : DInv n D I R) {i k : Int} (h0 : 0 ≤ i) (h1 : i < (n : Int)) (k0 : 0 ≤ k) (k1 : k < (n : Int)) : DInv n D I (meetK pr i R k) := by
  unfold meetK
  by_cases hc : meetC pr i R k = true
  · rw [if_pos hc]
    refine ⟨sq_set h.sq h0 h1, fun i' k' a b c d hd => ?_, fun i' k' a b hv => ?_⟩
    · rw [val_set h.sq h0 h1 k0 k1 a c]
      by_cases e : i' = i ∧ k' = k
      · obtain ⟨rfl, rfl⟩ := e
        unfold meetC at hc
        simp only [Bool.and_eq_true, bne_iff_ne, List.any_eq_true, Bool.not_eq_true'] at hc
        obtain ⟨_, hne, p, hpm, hpv⟩ := hc
        have := h.low p k' (hp _ p hpm).1 (hp _ p hpm).2 c d (hD _ _ hd hne p hpm)
        rw [this] at hpv
        exact absurd hpv (by simp)
      · rw [if_neg e]; exact h.low i' k' a b c d hd
    · rw [val_set h.sq h0 h1 k0 k1 a b] at hv
      by_cases e : i' = i ∧ k' = k
      · rw [if_pos e] at hv; exact absurd hv (by simp)
      · rw [if_neg e] at hv; exact h.high i' k' a b hv
  · rw [if_neg hc]; exact h
theorem meetGo_inv (hD : ∀ i k, D i k → k ≠ i → ∀ p ∈ pr i, D p k) (hp : ∀ i, ∀ p ∈ pr i, 0 ≤ p ∧ p < (n : Int)) {i : Int} (h0 : 0 ≤ i) (h1 : i < (n : Int)) :
    ∀ (m : Nat) (R : List (List Bool)) (k : Int) (c : Bool), DInv n D I R → 0 ≤ k → k + m ≤ n → DInv n D I (meetGo pr i m R k c).1
  | 0, R, k, c, h, _, _ => h
  | m + 1, R, k, c, h, k0, k1 => meetGo_inv hD hp h0 h1 m _ _ _ (meetK_inv hD hp h h0 h1 k0 (by omega)) (by omega) (by omega)
theorem passGo_inv (hD : ∀ i k, D i k → k ≠ i → ∀ p ∈ pr i, D p k) (hp : ∀ i, ∀ p ∈ pr i, 0 ≤ p ∧ p < (n : Int)) {reach : List Bool} :
    ∀ (m : Nat) (R : List (List Bool)) (i : Int) (c : Bool), DInv n D I R → 0 ≤ i → i + m ≤ n → DInv n D I (passGo pr reach n m R i c).1
  | 0, R, i, c, h, _, _ => h
  | m + 1, R, i, c, h, i0, i1 => by
    unfold passGo
    split
    · exact passGo_inv hD hp m _ _ _ (meetGo_inv hD hp i0 (by omega) n R 0 false h (by omega) (by omega)) (by omega) (by omega)
    · exact passGo_inv hD hp m _ _ _ h (by omega) (by omega)
/-- without a change nothing is other, and nothing is left to be done -/
theorem meetGo_c {i : Int} : ∀ (m : Nat) (R : List (List Bool)) (k : Int) (c : Bool), (meetGo pr i m R k c).2 = false → c = false ∧ (meetGo pr i m R k c).1 = R ∧ ∀ k', k ≤ k' → k' < k + m → meetC pr i R k' = false
  | 0, R, k, c, h => ⟨h, rfl, fun k' a b => by omega⟩
  | m + 1, R, k, c, h => by
    rw [meetGo] at h ⊢
    obtain ⟨h1, h2, h3⟩ := meetGo_c m _ _ _ h
    rw [Bool.or_eq_false_iff] at h1
    have e : meetK pr i R k = R := by unfold meetK; rw [h1.2]; simp
    rw [e] at h2 h3 ⊢
    refine ⟨h1.1, h2, fun k' a b => ?_⟩
    by_cases hk : k' = k
    · subst hk; exact h1.2
    · exact h3 k' (by omega) (by omega)
theorem passGo_c {reach : List Bool} : ∀ (m : Nat) (R : List (List Bool)) (i : Int) (c : Bool), (passGo pr reach n m R i c).2 = false → c = false ∧ (passGo pr reach n m R i c).1 = R ∧ ∀ i', i ≤ i' → i' < i + m → at_ reach i' = true → ∀ k, 0 ≤ k → k < (n : Int) → meetC pr i' R k = false
  | 0, R, i, c, h => ⟨h, rfl, fun k' a b => by omega⟩
  | m + 1, R, i, c, h => by
    rw [passGo] at h ⊢
    by_cases hr : at_ reach i = true
    · rw [if_pos hr] at h ⊢
      obtain ⟨h1, h2, h3⟩ := passGo_c m _ _ _ h
      rw [Bool.or_eq_false_iff] at h1
      obtain ⟨_, e, h4⟩ := meetGo_c n R 0 false h1.2
      simp only [e] at h2 h3 ⊢
      refine ⟨h1.1, h2, fun i' a b hi k k0 k1 => ?_⟩
      by_cases he : i' = i
      · subst he; exact h4 k k0 (by omega)
      · exact h3 i' (by omega) (by omega) hi k k0 k1
    · rw [if_neg hr] at h ⊢
      obtain ⟨h1, h2, h3⟩ := passGo_c m _ _ _ h
      refine ⟨h1, h2, fun i' a b hi k k0 k1 => ?_⟩
      by_cases he : i' = i
      · subst he; exact absurd hi hr
      · exact h3 i' (by omega) (by omega) hi k k0 k1
/-- how many are left -/
def tru (R : List (List Bool)) : Nat := (R.map (fun r => (r.filter id).length)).sum
theorem tru_row : ∀ (r : List Bool) (k : Nat), r.getD k false = true → ((r.set k false).filter id).length + 1 = (r.filter id).length
  | [], k, h => by simp at h
  | b :: r, 0, h => by
    have : b = true := by simpa using h
    subst this; simp
  | b :: r, k + 1, h => by
    have := tru_row r k (by simpa using h)
    cases b <;> simp at this ⊢ <;> omega
theorem tru_set : ∀ (R : List (List Bool)) (i : Nat) (k : Nat), (R.getD i []).getD k false = true → tru (R.set i ((R.getD i []).set k false)) + 1 = tru R
  | [], i, k, h => by simp at h
  | r :: R, 0, k, h => by
    have := tru_row r k (by simpa using h)
    simp [tru] at this ⊢
    omega
  | r :: R, i + 1, k, h => by
    have := tru_set R i k (by simpa using h)
    simp [tru] at this ⊢
    omega
theorem meetK_tru (i : Int) (R : List (List Bool)) (k : Int) : tru (meetK pr i R k) + (if meetC pr i R k = true then 1 else 0) = tru R := by
  unfold meetK
  by_cases h : meetC pr i R k = true
  · rw [if_pos h, if_pos h]
    unfold meetC at h
    rw [Bool.and_eq_true] at h
    exact tru_set R i.toNat k.toNat h.1
  · rw [if_neg h, if_neg h]; rfl
theorem meetGo_tru {i : Int} : ∀ (m : Nat) (R : List (List Bool)) (k : Int) (c : Bool), tru (meetGo pr i m R k c).1 ≤ tru R ∧ ((meetGo pr i m R k c).2 = true → c = true ∨ tru (meetGo pr i m R k c).1 < tru R)
  | 0, R, k, c => ⟨Nat.le_refl _, fun h => .inl h⟩
  | m + 1, R, k, c => by
    rw [meetGo]
    have h1 := meetK_tru (pr := pr) i R k
    obtain ⟨h2, h3⟩ := meetGo_tru (i := i) m (meetK pr i R k) (k + 1) (c || meetC pr i R k)
    refine ⟨by omega, fun h => ?_⟩
    rcases h3 h with hc | hl
    · rw [Bool.or_eq_true] at hc
      rcases hc with hc | hc
      · exact .inl hc
      · rw [if_pos hc] at h1; exact .inr (by omega)
    · exact .inr (by omega)
theorem passGo_tru {reach : List Bool} : ∀ (m : Nat) (R : List (List Bool)) (i : Int) (c : Bool), tru (passGo pr reach n m R i c).1 ≤ tru R ∧ ((passGo pr reach n m R i c).2 = true → c = true ∨ tru (passGo pr reach n m R i c).1 < tru R)
  | 0, R, i, c => ⟨Nat.le_refl _, fun h => .inl h⟩
  | m + 1, R, i, c => by
    rw [passGo]
    split
    · obtain ⟨a1, a2⟩ := meetGo_tru (pr := pr) (i := i) n R 0 false
      obtain ⟨b1, b2⟩ := passGo_tru (reach := reach) m (meetGo pr i n R 0 false).1 (i + 1) (c || (meetGo pr i n R 0 false).2)
      refine ⟨Nat.le_trans b1 a1, fun h => ?_⟩
      rcases b2 h with hc | hl
      · rw [Bool.or_eq_true] at hc
        rcases hc with hc | hc
        · exact .inl hc
        · rcases a2 hc with h' | h'
          · exact absurd h' (by simp)
          · exact .inr (Nat.lt_of_le_of_lt b1 h')
      · exact .inr (Nat.lt_of_lt_of_le hl a1)
    · exact passGo_tru m R (i + 1) c
theorem domGo_spec (hD : ∀ i k, D i k → k ≠ i → ∀ p ∈ pr i, D p k) (hp : ∀ i, ∀ p ∈ pr i, 0 ≤ p ∧ p < (n : Int)) {reach : List Bool} :
    ∀ (d : Nat) (R : List (List Bool)), DInv n D I R → tru R ≤ d → ∀ k, d < k → ∃ R', domGo pr reach n k R = some R' ∧ DInv n D I R' ∧ ∀ i', 1 ≤ i' → i' < (n : Int) → at_ reach i' = true → ∀ k, 0 ≤ k → k < (n : Int) → meetC pr i' R' k = false
  | d, R, h, hd, k, hk => by
    obtain ⟨k, rfl⟩ : ∃ m, k = m + 1 := ⟨k - 1, by omega⟩
    rw [domGo]
    have hi : DInv n D I (passGo pr reach n (n - 1) R 1 false).1 := by
      by_cases hn : n = 0
      · subst hn; exact h
      · exact passGo_inv hD hp (n - 1) R 1 false h (by omega) (by omega)
    by_cases hc : (passGo pr reach n (n - 1) R 1 false).2 = true
    · simp only [if_pos hc]
      have ht := ((passGo_tru (pr := pr) (n := n) (reach := reach) (n - 1) R 1 false).2 hc).resolve_left (by simp)
      match d, hd with
      | 0, hd => omega
      | d + 1, hd => exact domGo_spec hD hp d _ hi (by omega) k (by omega)
    · simp only [if_neg hc]
      refine ⟨_, rfl, hi, fun i' a b hr k k0 k1 => ?_⟩
      obtain ⟨_, e, h3⟩ := passGo_c (pr := pr) (n := n) (reach := reach) (n - 1) R 1 false (by simpa using hc)
      rw [e]
      exact h3 i' a (by omega) hr k k0 k1
end
/-- ways that don't go over k -/
def no (nx : Int → List Int) (k : Int) : Int → List Int := fun a => (nx a).filter (fun b => decide (b ≠ k))
/-- k is above i: every way to i goes over k -/
def Dom (nx : Int → List Int) (i k : Int) : Prop := Way nx 0 i ∧ ¬ (0 ≠ k ∧ Way (no nx k) 0 i)
theorem mem_no {nx : Int → List Int} {k a b : Int} : b ∈ no nx k a ↔ b ∈ nx a ∧ b ≠ k := by simp [no]
/-- the places from which one can be come to -/
def IsPreds (nx : Int → List Int) (n : Nat) (pr : Int → List Int) : Prop := ∀ i p, p ∈ pr i ↔ (0 ≤ p ∧ p < (n : Int)) ∧ Way nx 0 p ∧ i ∈ nx p
theorem dom_down {nx : Int → List Int} {n : Nat} {pr : Int → List Int} (hpr : IsPreds nx n pr) (i k : Int) (h : Dom nx i k) (hne : k ≠ i) : ∀ p ∈ pr i, Dom nx p k := by
  intro p hp
  obtain ⟨_, hw, hi⟩ := (hpr i p).1 hp
  refine ⟨hw, fun hh => h.2 ⟨hh.1, .step hh.2 (mem_no.2 ⟨hi, fun e => hne e.symm⟩)⟩⟩
theorem dom_val {nx : Int → List Int} {n : Nat} {pr : Int → List Int} (hpr : IsPreds nx n pr) (hnx : ∀ i, 0 ≤ i → i < (n : Int) → ∀ j ∈ nx i, 0 ≤ j ∧ j < (n : Int)) {reach : List Bool} (hre : ∀ i, 0 ≤ i → i < (n : Int) → (at_ reach i = true ↔ Way nx 0 i)) {R : List (List Bool)}
    (h : DInv n (Dom nx) (fun i k => Way nx 0 i ∧ (0 < i ∨ k = 0)) R) (hf : ∀ i', 1 ≤ i' → i' < (n : Int) → at_ reach i' = true → ∀ k, 0 ≤ k → k < (n : Int) → meetC pr i' R k = false) {i k : Int} (h0 : 0 ≤ i) (h1 : i < (n : Int)) (k0 : 0 ≤ k) (k1 : k < (n : Int)) :
    val R i k = true ↔ Dom nx i k := by
  constructor
  · intro hv
    refine ⟨(h.high i k h0 k0 hv).1, fun hh => ?_⟩
    obtain ⟨hk, hw⟩ := hh
    have key : ∀ j, Way (no nx k) 0 j → 0 ≤ j ∧ j < (n : Int) ∧ (val R j k = true → False) := by
      intro j hw
      induction hw with
      | refl =>
        refine ⟨by omega, by omega, fun hv => ?_⟩
        have := (h.high 0 k (by omega) k0 hv).2
        omega
      | step hb hc ih =>
        rename_i b c
        obtain ⟨hc1, hc2⟩ := mem_no.1 hc
        have hr := hnx b ih.1 ih.2.1 c hc1
        refine ⟨hr.1, hr.2, fun hv => ?_⟩
        obtain ⟨hwc, hoc⟩ := h.high c k hr.1 k0 hv
        have hpos : 1 ≤ c := by omega
        have hm := hf c hpos hr.2 ((hre c hr.1 hr.2).2 hwc) k k0 k1
        unfold meetC at hm
        rw [hv, Bool.true_and] at hm
        have hne : (k != c) = true := by simp; omega
        rw [hne, Bool.true_and] at hm
        have hbp : b ∈ pr c := (hpr c b).2 ⟨⟨ih.1, ih.2.1⟩, (Way.mono (fun a b h => (mem_no.1 h).1) hb), hc1⟩
        have := List.any_eq_false.1 hm b hbp
        exact ih.2.2 (by simpa using this)
    exact (key i hw).2.2 hv
  · intro hd
    exact h.low i k h0 h1 k0 k1 hd
/-- steps back, up to h -/
def stepsBack (pr : Int → List Int) (h : Int) : Int → List Int := fun a => if a = h then [] else pr a
theorem back_to {nx : Int → List Int} {n : Nat} {pr : Int → List Int} (hpr : IsPreds nx n pr) {h j i : Int} (hw : Way (stepsBack pr h) j i) : Way (no nx h) i j := by
  induction hw with
  | refl => exact .refl _
  | step hb hc ih =>
    rename_i b c
    unfold stepsBack at hc
    by_cases e : b = h
    · rw [if_pos e] at hc; simp at hc
    · rw [if_neg e] at hc
      exact Way.head (mem_no.2 ⟨((hpr b c).1 hc).2.2, e⟩) ih
theorem to_back {nx : Int → List Int} {n : Nat} {pr : Int → List Int} (hpr : IsPreds nx n pr) (hnx : ∀ i, 0 ≤ i → i < (n : Int) → ∀ j ∈ nx i, 0 ≤ j ∧ j < (n : Int)) {h i b : Int} (h0 : 0 ≤ i) (h1 : i < (n : Int)) (hr : Way nx 0 i) (hw : Way (no nx h) i b) : Way (stepsBack pr h) b i ∧ (0 ≤ b ∧ b < (n : Int)) ∧ Way nx 0 b := by
  induction hw with
  | refl => exact ⟨.refl _, ⟨h0, h1⟩, hr⟩
  | step hb hc ih =>
    rename_i b c
    obtain ⟨hc1, hc2⟩ := mem_no.1 hc
    obtain ⟨w, rb, wb⟩ := ih
    refine ⟨Way.head ?_ w, hnx b rb.1 rb.2 c hc1, .step wb hc1⟩
    unfold stepsBack
    rw [if_neg hc2]
    exact (hpr c b).2 ⟨rb, wb, hc1⟩
theorem back_reach {nx : Int → List Int} {n : Nat} {pr : Int → List Int} (hpr : IsPreds nx n pr) {h j i : Int} (hj : Way nx 0 j) (hw : Way (stepsBack pr h) j i) : Way nx 0 i := by
  induction hw with
  | refl => exact hj
  | step hb hc ih =>
    rename_i b c
    unfold stepsBack at hc
    by_cases e : b = h
    · rw [if_pos e] at hc; simp at hc
    · rw [if_neg e] at hc
      exact ((hpr b c).1 hc).2.1
/-! What is above what is above something is above it, and so on. -/
theorem dom_zero {nx : Int → List Int} {i : Int} : Dom nx i 0 ↔ Way nx 0 i := ⟨fun h => h.1, fun h => ⟨h, fun hh => hh.1 rfl⟩⟩
theorem no_self {nx : Int → List Int} {k a : Int} (ha : a ≠ k) (h : Way (no nx k) a k) : False := by
  have : ∀ b, Way (no nx k) a b → b ≠ k := fun b hb => by
    cases hb with
    | refl => exact ha
    | step _ hc => exact (mem_no.1 hc).2
  exact this k h rfl
theorem dom_self {nx : Int → List Int} {i : Int} : Dom nx i i ↔ Way nx 0 i := ⟨fun h => h.1, fun h => ⟨h, fun hh => no_self hh.1 hh.2⟩⟩
theorem over_or {nx : Int → List Int} {j k a i : Int} (h : Way (no nx j) a i) : Way (no nx j) a k ∨ (a ≠ k ∧ Way (no nx k) a i) := by
  induction h with
  | refl =>
    by_cases e : a = k
    · exact .inl (e ▸ .refl _)
    · exact .inr ⟨e, .refl _⟩
  | step hb hc ih =>
    rename_i b c
    rcases ih with h | ⟨ha, h⟩
    · exact .inl h
    · by_cases e : c = k
      · exact .inl (e ▸ .step hb hc)
      · exact .inr ⟨ha, .step h (mem_no.2 ⟨(mem_no.1 hc).1, e⟩)⟩
theorem dom_trans {nx : Int → List Int} {i k j : Int} (h1 : Dom nx i k) (h2 : Dom nx k j) : Dom nx i j := by
  refine ⟨h1.1, fun hh => ?_⟩
  rcases over_or (k := k) hh.2 with h | ⟨ha, h⟩
  · exact h2.2 ⟨hh.1, h⟩
  · exact h1.2 ⟨ha, h⟩
theorem dom_anti {nx : Int → List Int} {i k : Int} (h1 : Dom nx i k) (h2 : Dom nx k i) : i = k := by
  by_cases e : i = k
  · exact e
  · exfalso
    by_cases hi : (0 : Int) = i
    · subst hi
      exact h1.2 ⟨e, .refl _⟩
    · by_cases hk : (0 : Int) = k
      · subst hk
        exact h2.2 ⟨hi, .refl _⟩
      · have key : ∀ x, Way nx 0 x → Way (no nx i) 0 k ∨ Way (no nx k) 0 i ∨ (x ≠ i ∧ x ≠ k ∧ Way (no nx i) 0 x ∧ Way (no nx k) 0 x) := by
          intro x hx
          induction hx with
          | refl => exact .inr (.inr ⟨hi, hk, .refl _, .refl _⟩)
          | step hb hc ih =>
            rename_i b c
            rcases ih with h | h | ⟨_, _, w1, w2⟩
            · exact .inl h
            · exact .inr (.inl h)
            · by_cases c1 : c = i
              · subst c1; exact .inr (.inl (.step w2 (mem_no.2 ⟨hc, e⟩)))
              · by_cases c2 : c = k
                · subst c2; exact .inl (.step w1 (mem_no.2 ⟨hc, c1⟩))
                · exact .inr (.inr ⟨c1, c2, .step w1 (mem_no.2 ⟨hc, c1⟩), .step w2 (mem_no.2 ⟨hc, c2⟩)⟩)
        rcases key i h1.1 with h | h | h
        · exact h2.2 ⟨hi, h⟩
        · exact h1.2 ⟨hk, h⟩
        · exact h.1 rfl
theorem way_preds {nx : Int → List Int} {n : Nat} {pr : Int → List Int} (hpr : IsPreds nx n pr) (hnx : ∀ i, 0 ≤ i → i < (n : Int) → ∀ j ∈ nx i, 0 ≤ j ∧ j < (n : Int)) (hn : 0 < n) {i : Int} : Way nx 0 i ↔ i = 0 ∨ pr i ≠ [] := by
  constructor
  · intro h
    cases h with
    | refl => exact .inl rfl
    | step hb hc =>
      rename_i b
      have rb : ∀ x, Way nx 0 x → 0 ≤ x ∧ x < (n : Int) := fun x hx => by
        induction hx with
        | refl => omega
        | step _ hc ih => exact hnx _ ih.1 ih.2 _ hc
      refine .inr (fun e => ?_)
      have := (hpr i b).2 ⟨rb b hb, hb, hc⟩
      rw [e] at this
      simp at this
  · rintro (rfl | h)
    · exact .refl _
    · obtain ⟨p, hp⟩ := List.exists_mem_of_ne_nil _ h
      obtain ⟨_, w, hc⟩ := (hpr i p).1 hp
      exact .step w hc
/-- the first place of a loop is above all of it -/
theorem head_above {nx : Int → List Int} {h i j : Int} (hj : Dom nx j h) (hi : Way nx 0 i) (hw : Way (no nx h) i j) : Dom nx i h :=
  ⟨hi, fun hh => hj.2 ⟨hh.1, hh.2.trans hw⟩⟩
/-! Where nothing branches. -/
theorem str_way {nx : Int → List Int} {e : Int} (he0 : 0 ≤ e) (hs : ∀ i, 0 ≤ i → i ≤ e → nx i = if i < e then [i + 1] else []) {i : Int} : Way nx 0 i ↔ 0 ≤ i ∧ i ≤ e := by
  constructor
  · intro h
    induction h with
    | refl => omega
    | step hb hc ih =>
      rename_i b c
      rw [hs b ih.1 (by omega)] at hc
      split at hc
      · rw [List.mem_singleton] at hc; omega
      · simp at hc
  · intro h
    have key : ∀ m : Nat, (m : Int) ≤ e → Way nx 0 (m : Int) := by
      intro m
      induction m with
      | zero => intro _; exact .refl _
      | succ m ih =>
        intro hm
        refine .step (ih (by omega)) ?_
        rw [hs m (by omega) (by omega), if_pos (by omega)]
        simp
    have := key i.toNat (by omega)
    rwa [show ((i.toNat : Nat) : Int) = i by omega] at this
theorem str_dom {nx : Int → List Int} {e : Int} (he0 : 0 ≤ e) (hs : ∀ i, 0 ≤ i → i ≤ e → nx i = if i < e then [i + 1] else []) {i k : Int} (k0 : 0 ≤ k) : Dom nx i k ↔ k ≤ i ∧ i ≤ e := by
  unfold Dom
  rw [str_way he0 hs]
  constructor
  · rintro ⟨⟨h0, h1⟩, h2⟩
    refine ⟨?_, h1⟩
    by_cases hk : k ≤ i
    · exact hk
    · exfalso
      refine h2 ⟨by omega, ?_⟩
      have key : ∀ m : Nat, (m : Int) ≤ i → Way (no nx k) 0 (m : Int) := by
        intro m
        induction m with
        | zero => intro _; exact .refl _
        | succ m ih =>
          intro hm
          refine .step (ih (by omega)) (mem_no.2 ⟨?_, by omega⟩)
          rw [hs m (by omega) (by omega), if_pos (by omega)]
          simp
      have := key i.toNat (by omega)
      rwa [show ((i.toNat : Nat) : Int) = i by omega] at this
  · rintro ⟨h0, h1⟩
    refine ⟨⟨by omega, h1⟩, fun hh => ?_⟩
    have key : ∀ j, Way (no nx k) 0 j → 0 ≤ j ∧ j < k := by
      intro j hj
      induction hj with
      | refl => omega
      | step hb hc ih =>
        rename_i b c
        obtain ⟨hc1, hc2⟩ := mem_no.1 hc
        rw [hs b ih.1 (by omega)] at hc1
        split at hc1
        · rw [List.mem_singleton] at hc1; omega
        · simp at hc1
    have := key i hh.2
    omega
/-! The document's walk: place by place, none twice. -/
def bfsIn (not_ : Int) : List Int → List Bool → List Int → List Bool × List Int
  | [], s, l => (s, l)
  | j :: js, s, l => if at_ s j = false ∧ j ≠ not_ then bfsIn not_ js (s.set j.toNat true) (l ++ [j]) else bfsIn not_ js s l
def bfsGo (nx : Int → List Int) (not_ : Int) : Nat → List Bool → List Int → Nat → List Bool
  | 0, s, _, _ => s
  | k + 1, s, l, i => if i < l.length then (let q := bfsIn not_ (nx (l.getD i 0)) s l; bfsGo nx not_ k q.1 q.2 (i + 1)) else s
structure BInv (nx : Int → List Int) (not_ : Int) (n : Nat) (f : Int) (s : List Bool) (l : List Int) : Prop where
  len : s.length = n
  rng : ∀ x ∈ l, (0 ≤ x ∧ x < (n : Int)) ∧ at_ s x = true
  way : ∀ x, 0 ≤ x → at_ s x = true → Way (no nx not_) f x ∧ x ∈ l
  cnt : un s + l.length = n
theorem bfsIn_inv {nx : Int → List Int} {not_ : Int} {n : Nat} {f a : Int} (ha : Way (no nx not_) f a) :
    ∀ (js : List Int) (s : List Bool) (l : List Int), (∀ j ∈ js, (0 ≤ j ∧ j < (n : Int)) ∧ j ∈ nx a) → BInv nx not_ n f s l →
      BInv nx not_ n f (bfsIn not_ js s l).1 (bfsIn not_ js s l).2 ∧ (∀ j ∈ js, j = not_ ∨ at_ (bfsIn not_ js s l).1 j = true) ∧ (∀ x, at_ s x = true → at_ (bfsIn not_ js s l).1 x = true) ∧ ∃ t, (bfsIn not_ js s l).2 = l ++ t
  | [], s, l, _, h => ⟨h, by simp, fun _ h => h, [], by simp [bfsIn]⟩
  | j :: js, s, l, hj, h => by
    obtain ⟨hr, hm⟩ := hj j (by simp)
    have hj' : ∀ j ∈ js, (0 ≤ j ∧ j < (n : Int)) ∧ j ∈ nx a := fun x hx => hj x (by simp [hx])
    rw [bfsIn]
    by_cases hc : at_ s j = false ∧ j ≠ not_
    · rw [if_pos hc]
      have hset : ∀ i, 0 ≤ i → at_ (s.set j.toNat true) i = if i = j then true else at_ s i := fun i h0 => at_set hr.1 (by rw [h.len]; exact hr.2) h0
      have hu := un_set' hr.1 (by rw [h.len]; exact hr.2) hc.1
      have hB : BInv nx not_ n f (s.set j.toNat true) (l ++ [j]) := by
        refine ⟨by rw [List.length_set]; exact h.len, fun x hx => ?_, fun x h0 hx => ?_, by rw [List.length_append]; have := h.cnt; simp; omega⟩
        · rw [List.mem_append] at hx
          rcases hx with hx | hx
          · exact ⟨(h.rng x hx).1, at_keep (h.rng x hx).2⟩
          · rw [List.mem_singleton] at hx; subst hx; exact ⟨hr, by rw [hset x hr.1, if_pos rfl]⟩
        · rw [hset x h0] at hx
          by_cases e : x = j
          · subst e; exact ⟨.step ha (mem_no.2 ⟨hm, hc.2⟩), by simp⟩
          · rw [if_neg e] at hx
            obtain ⟨w, m⟩ := h.way x h0 hx
            exact ⟨w, by simp [m]⟩
      obtain ⟨i1, i2, i3, t, i4⟩ := bfsIn_inv ha js _ _ hj' hB
      refine ⟨i1, fun x hx => ?_, fun x hx => i3 x (at_keep hx), j :: t, by rw [i4]; simp⟩
      rw [List.mem_cons] at hx
      rcases hx with rfl | hx
      · exact .inr (i3 x (by rw [hset x hr.1, if_pos rfl]))
      · exact i2 x hx
    · rw [if_neg hc]
      obtain ⟨i1, i2, i3, t, i4⟩ := bfsIn_inv ha js s l hj' h
      refine ⟨i1, fun x hx => ?_, i3, t, i4⟩
      rw [List.mem_cons] at hx
      rcases hx with rfl | hx
      · by_cases e : x = not_
        · exact .inl e
        · refine .inr (i3 x ?_)
          by_cases e2 : at_ s x = true
          · exact e2
          · exact absurd ⟨by simpa using e2, e⟩ hc
      · exact i2 x hx
theorem bfsGo_spec {nx : Int → List Int} {not_ : Int} {n : Nat} {f : Int} (hnx : ∀ i, 0 ≤ i → i < (n : Int) → ∀ j ∈ nx i, 0 ≤ j ∧ j < (n : Int)) (hf : 0 ≤ f ∧ f < (n : Int)) :
    ∀ (k : Nat) (s : List Bool) (l : List Int) (i : Nat), BInv nx not_ n f s l → at_ s f = true → (∀ m, m < i → m < l.length → ∀ j ∈ no nx not_ (l.getD m 0), at_ s j = true) → i ≤ l.length → n < i + k →
      ∀ x, 0 ≤ x → (at_ (bfsGo nx not_ k s l i) x = true ↔ Way (no nx not_) f x)
  | 0, s, l, i, h, _, _, hi, hk => by have := h.cnt; omega
  | k + 1, s, l, i, h, hs, hc, hi, hk => by
    intro x hx
    rw [bfsGo]
    by_cases hl : i < l.length
    · rw [if_pos hl]
      have hmem : l.getD i 0 ∈ l := by rw [List.getD_eq_getElem?_getD, List.getElem?_eq_getElem hl]; exact List.getElem_mem hl
      obtain ⟨hr, hsa⟩ := h.rng _ hmem
      have ha := (h.way _ hr.1 hsa).1
      obtain ⟨i1, i2, i3, t, i4⟩ := bfsIn_inv (n := n) ha (nx (l.getD i 0)) s l (fun j hj => ⟨hnx _ hr.1 hr.2 j hj, hj⟩) h
      refine bfsGo_spec hnx hf k _ _ (i + 1) i1 (i3 f hs) (fun m hm hml j hj => ?_) (by rw [i4, List.length_append]; omega) (by omega) x hx
      have hg : ∀ m, m < l.length → (bfsIn not_ (nx (l.getD i 0)) s l).2.getD m 0 = l.getD m 0 := fun m hm => by
        rw [i4, List.getD_eq_getElem?_getD, List.getElem?_append_left hm, ← List.getD_eq_getElem?_getD]
      rw [hg m (by omega)] at hj
      by_cases e : m = i
      · subst e
        obtain ⟨h1, h2⟩ := mem_no.1 hj
        exact (i2 j h1).resolve_left h2
      · exact i3 j (hc m (by omega) (by omega) j hj)
    · rw [if_neg hl]
      constructor
      · intro hh; exact (h.way x hx hh).1
      · intro hw
        have key : ∀ b, Way (no nx not_) f b → at_ s b = true ∧ 0 ≤ b ∧ b < (n : Int) := fun b hw => by
          induction hw with
          | refl => exact ⟨hs, hf⟩
          | step hb hcc ih =>
            rename_i b c
            obtain ⟨hsb, hb0, hb1⟩ := ih
            have hbl := (h.way b hb0 hsb).2
            obtain ⟨m, hm, he⟩ := List.mem_iff_getElem.1 hbl
            have := hc m (by omega) hm c (by rw [List.getD_eq_getElem?_getD, List.getElem?_eq_getElem hm]; show c ∈ no nx not_ l[m]; rw [he]; exact hcc)
            exact ⟨this, hnx b hb0 hb1 c (mem_no.1 hcc).1⟩
        exact (key x hw).1
theorem un_rep : ∀ n : Nat, un (List.replicate n false) = n
  | 0 => rfl
  | n + 1 => by
    have := un_rep n
    unfold un at this ⊢
    rw [List.replicate_succ, List.filter_cons, if_pos (by rfl), List.length_cons, this]
theorem at_rep (n : Nat) (i : Int) : at_ (List.replicate n false) i = false := by
  unfold at_
  rw [List.getD_eq_getElem?_getD, List.getElem?_replicate]
  split <;> rfl
/-- the document's walk from one place on, not over another -/
def without (nx : Int → List Int) (n : Nat) (f not_ : Int) : List Bool := if f < 0 ∨ f ≥ (n : Int) ∨ f = not_ then List.replicate n false else bfsGo nx not_ (n + 1) ((List.replicate n false).set f.toNat true) [f] 0
theorem without_spec {nx : Int → List Int} {n : Nat} (hnx : ∀ i, 0 ≤ i → i < (n : Int) → ∀ j ∈ nx i, 0 ≤ j ∧ j < (n : Int)) (f not_ x : Int) (hx : 0 ≤ x) (hf : 0 ≤ f ∧ f < (n : Int)) : at_ (without nx n f not_) x = true ↔ f ≠ not_ ∧ Way (no nx not_) f x := by
  unfold without
  by_cases e : f = not_
  · rw [if_pos (.inr (.inr e)), at_rep]
    simp [e]
  · rw [if_neg (by omega)]
    have hset : ∀ i, 0 ≤ i → at_ ((List.replicate n false).set f.toNat true) i = if i = f then true else false := fun i h0 => by
      rw [at_set hf.1 (by rw [List.length_replicate]; exact hf.2) h0, at_rep]
    have hB : BInv nx not_ n f ((List.replicate n false).set f.toNat true) [f] := by
      refine ⟨by simp, fun x hx => ?_, fun x h0 hx => ?_, ?_⟩
      · rw [List.mem_singleton] at hx; subst hx; exact ⟨hf, by rw [hset x hf.1, if_pos rfl]⟩
      · rw [hset x h0] at hx
        by_cases e : x = f
        · subst e; exact ⟨.refl _, by simp⟩
        · rw [if_neg e] at hx; exact absurd hx (by simp)
      · have := un_set' (s := List.replicate n false) hf.1 (by rw [List.length_replicate]; exact hf.2) (at_rep n f)
        rw [un_rep] at this
        simp; omega
    rw [bfsGo_spec hnx hf (n + 1) _ _ 0 hB (by rw [hset f hf.1, if_pos rfl]) (fun m hm => by omega) (by omega) (by omega) x hx]
    simp [e]
end Go.Proofs.YtfhjkkcdeigkdaaDoor.PFoldRuns
