import Derived.Test.YtpbhfpbfmpocdaaDoorPSpillNonex0
import Derived.Test.YtpbhfpbfmpocdaaDoorPSpillNonex3
import Derived.Test.YtpbhfpbfmpocdaaDoorPSpillNonehtabs
import Derived.Test.YtpbhfpbfmpocdaaDoorPSpillNonehformtab
import Derived.Test.YtpbhfpbfmpocdaaDoorPSpillNonehplain0
import Derived.Test.YtpbhfpbfmpocdaaDoorPSpillNonehref11
import Derived.Test.YtpbhfpbfmpocdaaDoorPSpillNonehplaces
import Derived.Test.YtpbhfpbfmpocdaaDoorPSpillNonehspillcode
import Derived.Test.YtpbhfpbfmpocdaaDoorPSpillNonehspillpure
import Derived.Test.YtpbhfpbfmpocdaaDoorPSpillNonehspillput2
import Derived.Test.YtpbhfpbfmpocdaaDoorPSpillNonehspillread
import Derived.Test.YtpbhfpbfmpocdaaDoorPSpillNonehuses
namespace Go.Proofs.YtpbhfpbfmpocdaaDoor.PSpillNone
open Go.RowKit Go.Proofs.YtpbhfpbfmpocdaaDoorW.PrintWords Go.Proofs.YtpbhfpbfmpocdaaDoorW.PrintLast Go.Proofs.YtpbhfpbfmpocdaaDoorW.PrintMore
set_option linter.unusedVariables false
set_option linter.unusedSimpArgs false
/-! What the program puts for an instruction, in plain words. -/
def idxOf (m : List S45) (r : Int) : Int := findIdx m r
theorem idx_bd (m : List S45) (r : Int) : -1 ≤ findIdx m r ∧ findIdx m r < (m.length : Int) ∧ (0 ≤ findIdx m r → (rd_T45 m (findIdx m r)).f0 = r) := by
  unfold findIdx
  rw [scanIdx_unit]
  cases h : m.findIdx? (fun x => x.f0 == r) with
  | none => simp only; omega
  | some i =>
    obtain ⟨hi, hp, _⟩ := List.findIdx?_eq_some_iff_getElem.1 h
    simp only
    refine ⟨by omega, by omega, fun _ => ?_⟩
    unfold rd_T45
    rw [show (((0 + i : Nat) : Int)).toNat = i by omega, List.getD_eq_getElem?_getD, List.getElem?_eq_getElem hi]
    simpa using hp
theorem idx_has {m : List S45} {r : Int} (h : ∃ p ∈ m, p.f0 = r) : 0 ≤ findIdx m r := by
  unfold findIdx
  rw [scanIdx_unit]
  cases hf : m.findIdx? (fun x => x.f0 == r) with
  | some i => simp only; omega
  | none =>
    obtain ⟨p, hp, he⟩ := h
    have := List.findIdx?_eq_none_iff.1 hf p hp
    rw [he] at this
    exact absurd this (by simp)
/-- the word of a register; below 0: it stands in one of the machine's, or it isn't told -/
def wordOf (m : List S45) (s : List Int) (p q r : Int) : Int :=
  if findIdx m r < 0 then -1 else if (rd_T45 m (findIdx m r)).f1 ≥ 0 then -1 else if s.contains r = true then wrap64 (q + cntS s (spilledOf (m.take (findIdx m r).toNat))) else wrap64 (p + cntN s (spilledOf (m.take (findIdx m r).toNat)))
theorem wordOf_spec (m : List S45) (s : List Int) (p q r : Int) (hm : m.length ≤ 100000) (hs : s.length ≤ 100000) : Ev (fun k => spill_Word.f k m s p q r) (wordOf m s p q r) := by
  obtain ⟨h0, h1, _⟩ := idx_bd m r
  have hfd : spill_find.f m r = some (findIdx m r) := by unfold spill_find.f; rw [if_pos (by omega)]
  unfold spill_Word.f wordOf
  by_cases c0 : findIdx m r < 0
  · rw [if_pos c0]
    exact Ev.bind (Ev.con hfd) (Ev.pos c0 (Ev.step (f := fun _ => some (-1)) (fun k => rfl) (Ev.now _)))
  rw [if_neg c0]
  refine Ev.bind (Ev.con hfd) (Ev.neg c0 (Ev.pos (by omega) (Ev.pos h1 ?_)))
  by_cases c1 : (rd_T45 m (findIdx m r)).f1 ≥ 0
  · rw [if_pos c1, decide_eq_true c1]
    exact Ev.step (f := fun _ => some (-1)) (fun k => rfl) (Ev.now _)
  · rw [if_neg c1, decide_eq_false c1]
    refine Ev.step (fun k => word_j0 k _ _ _ _ _ _) ?_
    refine Ev.pos (by omega) (Ev.pos (by omega) (Ev.bind (slots_spec (m.take (findIdx m r).toNat) s (by simp; omega) (by omega)) (Ev.bind (contains_spec s _ (by omega)) ?_)))
    cases s.contains r with
    | true => exact Ev.tt (Ev.con (by rw [if_pos rfl]))
    | false => exact Ev.ff (Ev.con (by rw [if_neg (by simp)]))
/-- the machine's register, if there is one -/
def regOf (m : List S45) (r : Int) : Int := (rd_T45 m (findIdx m r)).f1
def loadI (by_ w : Int) : S48 := ⟨4, 0, by_, -1, 0, w, 0⟩
def storeI (w : Int) : S48 := ⟨5, 0, 0, -1, 15, w, 0⟩
def readL (m : List S45) (s : List Int) (p q : Int) (b : Bool) (r by_ : Int) : List S48 × Int :=
  if b = true ∧ 0 ≤ r then (if wordOf m s p q r < 0 then ([], regOf m r) else ([loadI by_ (wordOf m s p q r)], by_)) else ([], r)
def putL (m : List S45) (s : List Int) (p q : Int) (x : S48) : List S48 :=
  let a := readL m s p q (rdA x.f0) x.f3 13
  let b := readL m s p q (rdB x.f0) x.f4 14
  a.1 ++ (b.1 ++ (if defL x < 0 then [⟨x.f0, x.f1, x.f2, a.2, b.2, x.f5, x.f6⟩] else if wordOf m s p q (defL x) < 0 then [⟨x.f0, x.f1, regOf m (defL x), a.2, b.2, x.f5, x.f6⟩]
    else (if x.f0 = 3 then [loadI 15 (wordOf m s p q (defL x))] else []) ++ [⟨x.f0, x.f1, 15, a.2, b.2, x.f5, x.f6⟩, storeI (wordOf m s p q (defL x))]))
theorem readL_len (m : List S45) (s : List Int) (p q : Int) (b : Bool) (r by_ : Int) : (readL m s p q b r by_).1.length ≤ 1 := by
  unfold readL
  split
  · split <;> simp
  · simp
theorem putL_len (m : List S45) (s : List Int) (p q : Int) (x : S48) : (putL m s p q x).length ≤ 5 := by
  have h1 := readL_len m s p q (rdA x.f0) x.f3 13
  have h2 := readL_len m s p q (rdB x.f0) x.f4 14
  unfold putL
  simp only [List.length_append]
  have h3 : (if defL x < 0 then [(⟨x.f0, x.f1, x.f2, (readL m s p q (rdA x.f0) x.f3 13).2, (readL m s p q (rdB x.f0) x.f4 14).2, x.f5, x.f6⟩ : S48)] else if wordOf m s p q (defL x) < 0 then [⟨x.f0, x.f1, regOf m (defL x), (readL m s p q (rdA x.f0) x.f3 13).2, (readL m s p q (rdB x.f0) x.f4 14).2, x.f5, x.f6⟩]
    else (if x.f0 = 3 then [loadI 15 (wordOf m s p q (defL x))] else []) ++ [⟨x.f0, x.f1, 15, (readL m s p q (rdA x.f0) x.f3 13).2, (readL m s p q (rdB x.f0) x.f4 14).2, x.f5, x.f6⟩, storeI (wordOf m s p q (defL x))]).length ≤ 3 := by
    split
    · simp
    · split
      · simp
      · rw [List.length_append]
        split <;> simp
  omega
theorem read_spec (m : List S45) (s : List Int) (p q : Int) (hm : m.length ≤ 100000) (hs : s.length ≤ 100000) (out : List S48) (ho : out.length ≤ 1000000) (r by_ : Int) (hr : 0 ≤ r → 0 ≤ findIdx m r) :
    Ev (fun k => spill_read.f k m s p q out r by_) ((readL m s p q true r by_).2, out ++ (readL m s p q true r by_).1) := by
  by_cases c0 : r < 0
  · have e : readL m s p q true r by_ = ([], r) := by unfold readL; rw [if_neg (by omega)]
    rw [e, List.append_nil]
    unfold spill_read.f
    exact Ev.pos c0 (Ev.now _)
  · have hi := hr (by omega)
    obtain ⟨_, h1, _⟩ := idx_bd m r
    have hfd : spill_find.f m r = some (findIdx m r) := by unfold spill_find.f; rw [if_pos (by omega)]
    by_cases c1 : wordOf m s p q r < 0
    · have e : readL m s p q true r by_ = ([], regOf m r) := by unfold readL; rw [if_pos ⟨rfl, by omega⟩, if_pos c1]
      rw [e, List.append_nil]
      unfold spill_read.f
      exact Ev.neg c0 (Ev.bind (wordOf_spec m s p q r hm hs) (Ev.pos c1 (Ev.bind (Ev.con hfd) (Ev.pos hi (Ev.pos (by omega) (Ev.now _))))))
    · have e : readL m s p q true r by_ = ([loadI by_ (wordOf m s p q r)], by_) := by unfold readL; rw [if_pos ⟨rfl, by omega⟩, if_neg c1]
      rw [e]
      unfold spill_read.f
      exact Ev.neg c0 (Ev.bind (wordOf_spec m s p q r hm hs) (Ev.neg c1 (Ev.pos (by omega) (Ev.now _))))
theorem put_spec (m : List S45) (s : List Int) (p q : Int) (hm : m.length ≤ 100000) (hs : s.length ≤ 100000) (out : List S48) (ho : out.length ≤ 100000) (x : S48) (hA : rdA x.f0 = true → 0 ≤ x.f3 → 0 ≤ findIdx m x.f3) (hB : rdB x.f0 = true → 0 ≤ x.f4 → 0 ≤ findIdx m x.f4) (hD : 0 ≤ defL x → 0 ≤ findIdx m (defL x)) :
    Ev (fun k => spill_put.f k m s p q out x) (out ++ putL m s p q x) := by
  have hla := readL_len m s p q (rdA x.f0) x.f3 13
  have hlb := readL_len m s p q (rdB x.f0) x.f4 14
  have hra : Ev (fun k => (if rdA x.f0 = true then spill_read.f k m s p q out x.f3 13 else some (x.f3, out))) ((readL m s p q (rdA x.f0) x.f3 13).2, out ++ (readL m s p q (rdA x.f0) x.f3 13).1) := by
    by_cases c : rdA x.f0 = true
    · rw [c]
      exact Ev.pos rfl (read_spec m s p q hm hs out (by omega) x.f3 13 (hA c))
    · have cf : rdA x.f0 = false := by simpa using c
      rw [cf]
      exact Ev.ff (Ev.con (by simp [readL]))
  obtain ⟨ra, hra'⟩ : ∃ z, z = readL m s p q (rdA x.f0) x.f3 13 := ⟨_, rfl⟩
  obtain ⟨rb, hrb'⟩ : ∃ z, z = readL m s p q (rdB x.f0) x.f4 14 := ⟨_, rfl⟩
  have hrb : Ev (fun k => (if rdB x.f0 = true then spill_read.f k m s p q (out ++ ra.1) x.f4 14 else some (x.f4, out ++ ra.1))) (rb.2, (out ++ ra.1) ++ rb.1) := by
    rw [hrb']
    by_cases c : rdB x.f0 = true
    · rw [c]
      exact Ev.pos rfl (read_spec m s p q hm hs (out ++ ra.1) (by rw [List.length_append, hra']; omega) x.f4 14 (hB c))
    · have cf : rdB x.f0 = false := by simpa using c
      rw [cf]
      exact Ev.ff (Ev.con (by simp [readL]))
  rw [← hra'] at hra hla
  rw [← hrb'] at hlb
  have hdef : (if fmB 1 x.f0 = true then x.f2 else -1) = defL x := by unfold defL; rw [(form_tab x.f0).1]
  obtain ⟨o2, ho2⟩ : ∃ o2, o2 = (out ++ ra.1) ++ rb.1 := ⟨_, rfl⟩
  have ho2l : o2.length ≤ 100002 := by rw [ho2, List.length_append, List.length_append]; omega
  rw [← ho2] at hrb
  have hput : putL m s p q x = ra.1 ++ (rb.1 ++ (if defL x < 0 then [⟨x.f0, x.f1, x.f2, ra.2, rb.2, x.f5, x.f6⟩] else if wordOf m s p q (defL x) < 0 then [⟨x.f0, x.f1, regOf m (defL x), ra.2, rb.2, x.f5, x.f6⟩]
    else (if x.f0 = 3 then [loadI 15 (wordOf m s p q (defL x))] else []) ++ [⟨x.f0, x.f1, 15, ra.2, rb.2, x.f5, x.f6⟩, storeI (wordOf m s p q (defL x))])) := by rw [hra', hrb']; rfl
  rw [hput, ← List.append_assoc, ← List.append_assoc, ← ho2]
  have hpush : ∀ (o : List S48) (y : S48), o.length ≤ 1000000 → pushI o y = some (o ++ [y]) := fun o y h => by unfold pushI; rw [if_pos (by omega)]
  unfold spill_put.f
  refine Ev.bind hra (Ev.bind hrb ?_)
  unfold spill_put.g
  rw [hdef]
  by_cases c0 : defL x < 0
  · rw [if_pos c0]
    exact Ev.pos c0 (Ev.con (hpush _ _ (by show o2.length ≤ 1000000; omega)))
  rw [if_neg c0]
  have hx2 : x.f2 = defL x := by
    unfold defL at c0 ⊢
    by_cases hq : fD x.f0 = true
    · rw [if_pos hq]
    · rw [if_neg hq] at c0; omega
  have hi := hD (by omega)
  obtain ⟨_, h1, _⟩ := idx_bd m (defL x)
  have hfd : spill_find.f m (defL x) = some (findIdx m (defL x)) := by unfold spill_find.f; rw [if_pos (by omega)]
  rw [hx2]
  refine Ev.neg c0 (Ev.bind (wordOf_spec m s p q (defL x) hm hs) ?_)
  by_cases c1 : wordOf m s p q (defL x) < 0
  · rw [if_pos c1]
    exact Ev.pos c1 (Ev.bind (Ev.con hfd) (Ev.pos hi (Ev.pos (by omega) (Ev.con (hpush _ _ (by show o2.length ≤ 1000000; omega))))))
  rw [if_neg c1]
  refine Ev.neg c1 ?_
  by_cases c3 : x.f0 = 3
  · rw [if_pos c3]
    have hrd := read_spec m s p q hm hs o2 (by omega) (defL x) 15 (fun _ => hi)
    have e : readL m s p q true (defL x) 15 = ([loadI 15 (wordOf m s p q (defL x))], 15) := by unfold readL; rw [if_pos ⟨rfl, by omega⟩, if_neg c1]
    rw [e] at hrd
    refine Ev.bind (Ev.pos c3 hrd) (Ev.bind (Ev.con (hpush _ _ (by simp; omega))) (Ev.con ?_))
    rw [hpush _ _ (by simp; omega)]
    simp [storeI]
  · rw [if_neg c3]
    refine Ev.bind (a := (0, o2)) (Ev.neg c3 (Ev.now _)) (Ev.bind (Ev.con (hpush _ _ (by simp; omega))) (Ev.con ?_))
    rw [hpush _ _ (by simp; omega)]
    simp [storeI]
def atsL (m : List S45) (s : List Int) (p q : Int) : List S48 → Int → List Int
  | [], _ => []
  | x :: xs, n => n :: atsL m s p q xs (n + ((putL m s p q x).length : Int))
theorem atsL_len (m : List S45) (s : List Int) (p q : Int) : ∀ (xs : List S48) (n : Int), (atsL m s p q xs n).length = xs.length
  | [], _ => rfl
  | x :: xs, n => by rw [atsL, List.length_cons, atsL_len m s p q xs, List.length_cons]
def allL (m : List S45) (s : List Int) (p q : Int) (c : List S48) : List S48 := c.flatMap (putL m s p q)
theorem loop_spec (m : List S45) (s : List Int) (p q : Int) (hm : m.length ≤ 100000) (hs : s.length ≤ 100000) :
    ∀ (xs : List S48) (ats : List Int) (out : List S48), (∀ x ∈ xs, (rdA x.f0 = true → 0 ≤ x.f3 → 0 ≤ findIdx m x.f3) ∧ (rdB x.f0 = true → 0 ≤ x.f4 → 0 ≤ findIdx m x.f4) ∧ (0 ≤ defL x → 0 ≤ findIdx m (defL x))) → out.length + 5 * xs.length ≤ 100000 → ats.length + xs.length ≤ 100000 →
      Ev (fun k => spill_loop k m s p q xs ats out) (ats ++ atsL m s p q xs (out.length : Int), out ++ allL m s p q xs)
  | [], ats, out, _, _, _ => Ev.congr (f := fun _ => some (ats, out)) (fun k => rfl) (Ev.con (by simp [atsL, allL]))
  | x :: xs, ats, out, h, ho, ha => by
    obtain ⟨hA, hB, hD⟩ := h x (by simp)
    rw [List.length_cons] at ho ha
    have hl := putL_len m s p q x
    have := loop_spec m s p q hm hs xs (ats ++ [(out.length : Int)]) (out ++ putL m s p q x) (fun y hy => h y (by simp [hy])) (by rw [List.length_append]; omega) (by rw [List.length_append, List.length_singleton]; omega)
    refine Ev.congr (f := fun k => if ats.length < 17592186044416 then (spill_put.f k m s p q out x).bind fun o => spill_loop k m s p q xs (ats ++ [(out.length : Int)]) o else none) (fun k => rfl) (Ev.pos (by omega) (Ev.bind (put_spec m s p q hm hs out (by omega) x hA hB hD) ?_))
    rw [List.append_assoc, List.append_assoc, List.length_append] at this
    rw [atsL, show allL m s p q (x :: xs) = putL m s p q x ++ allL m s p q xs from rfl]
    have e : ((out.length + (putL m s p q x).length : Nat) : Int) = (out.length : Int) + ((putL m s p q x).length : Int) := by omega
    rw [e] at this
    exact this
theorem put_kinds {m : List S45} {s : List Int} {p q : Int} {x y : S48} (hy : y ∈ putL m s p q x) : (y.f0 = 4 ∨ y.f0 = 5) ∨ (y.f0 = x.f0 ∧ y.f6 = x.f6) := by
  unfold putL at hy
  have hrd : ∀ (b : Bool) (r by_ : Int), ∀ z ∈ (readL m s p q b r by_).1, z.f0 = 4 := fun b r by_ z hz => by
    unfold readL at hz
    split at hz
    · split at hz
      · exact absurd hz (by simp)
      · rw [List.mem_singleton.1 hz]; rfl
    · exact absurd hz (by simp)
  rcases List.mem_append.1 hy with hy | hy
  · exact .inl (.inl (hrd _ _ _ _ hy))
  rcases List.mem_append.1 hy with hy | hy
  · exact .inl (.inl (hrd _ _ _ _ hy))
  split at hy
  · rw [List.mem_singleton.1 hy]; exact .inr ⟨rfl, rfl⟩
  · split at hy
    · rw [List.mem_singleton.1 hy]; exact .inr ⟨rfl, rfl⟩
    · rcases List.mem_append.1 hy with hy | hy
      · split at hy
        · rw [List.mem_singleton.1 hy]; exact .inl (.inl rfl)
        · exact absurd hy (by simp)
      · rcases List.mem_cons.1 hy with rfl | hy
        · exact .inr ⟨rfl, rfl⟩
        · rw [List.mem_singleton.1 hy]; exact .inl (.inr rfl)
theorem fix_ok {m : List S45} {s : List Int} {p q : Int} {c : List S48} {ats : List Int} (ha : ats.length = c.length) (hT : ∀ x ∈ c, 0 ≤ x.f6 ∧ x.f6 < (c.length : Int)) : ∀ y ∈ allL m s p q c, fixOK ats y = true := by
  intro y hy
  unfold allL at hy
  obtain ⟨x, hx, hy⟩ := List.mem_flatMap.1 hy
  unfold fixOK
  rcases put_kinds hy with (h | h) | ⟨h, h'⟩
  · rw [h]; rfl
  · rw [h]; rfl
  · have := hT x hx
    rw [h', ha]
    simp
    omega
theorem code_spec (m : List S45) (s : List Int) (p q : Int) (hm : m.length ≤ 100000) (hs : s.length ≤ 100000) (c : List S48) (hc : c.length ≤ 1000)
    (h : ∀ x ∈ c, (rdA x.f0 = true → 0 ≤ x.f3 → 0 ≤ findIdx m x.f3) ∧ (rdB x.f0 = true → 0 ≤ x.f4 → 0 ≤ findIdx m x.f4) ∧ (0 ≤ defL x → 0 ≤ findIdx m (defL x))) (hT : ∀ x ∈ c, 0 ≤ x.f6 ∧ x.f6 < (c.length : Int)) :
    Ev (fun k => spill_Code.f k c m s p q) ((allL m s p q c).map (fixTo (atsL m s p q c 0))) := by
  have hl := loop_spec m s p q hm hs c [] [] h (by simp; omega) (by simp; omega)
  rw [List.nil_append, List.nil_append] at hl
  unfold spill_Code.f
  refine Ev.bind hl (Ev.pos ?_ (Ev.con rfl))
  exact List.all_eq_true.2 (fix_ok (atsL_len m s p q c _) hT)
end Go.Proofs.YtpbhfpbfmpocdaaDoor.PSpillNone
