/- Registers that are read rise, each once; a Pick reads what it writes; what only goes on reads and writes nothing; alike texts are of alike instructions, where they may be. -/
import Derived.Test.YtggfikekggcclaaDoorStmInsReads
import Derived.Test.YtggfikekggcclaaDoorPInsReadsx4
import Derived.Test.YtggfikekggcclaaDoorPInsReadsx7
import Derived.Test.YtggfikekggcclaaDoorPInsReadshbytes
import Derived.Test.YtggfikekggcclaaDoorPInsReadshcalc
import Derived.Test.YtggfikekggcclaaDoorPInsReadshcalcsign
import Derived.Test.YtggfikekggcclaaDoorPInsReadshcompact
import Derived.Test.YtggfikekggcclaaDoorPInsReadshforms
import Derived.Test.YtggfikekggcclaaDoorPInsReadshinscheck
import Derived.Test.YtggfikekggcclaaDoorPInsReadshinsplain
import Derived.Test.YtggfikekggcclaaDoorPInsReadshinsregs
import Derived.Test.YtggfikekggcclaaDoorPInsReadshinsright
import Derived.Test.YtggfikekggcclaaDoorPInsReadshinsshow
import Derived.Test.YtggfikekggcclaaDoorPInsReadshinsuses
import Derived.Test.YtggfikekggcclaaDoorPInsReadshjoin
import Derived.Test.YtggfikekggcclaaDoorPInsReadshpure
namespace Go.Proofs.YtggfikekggcclaaDoor.Pure
open Go.RowKit Go.Proofs.YtggfikekggcclaaDoor.PInsReads Go.Proofs.YtggfikekggcclaaDoorW.PrintWords Go.Proofs.YtggfikekggcclaaDoorW.PrintLast Go.Proofs.YtggfikekggcclaaDoorW.PrintMore
set_option linter.unusedVariables false
set_option linter.unusedSimpArgs false
open Go.Shelf
/-! Digits tell their number. -/
def valD (l : List UInt8) : Nat := l.foldl (fun a c => 10 * a + (c.toNat - 48)) 0
theorem valD_snoc (l : List UInt8) (c : UInt8) : valD (l ++ [c]) = 10 * valD l + (c.toNat - 48) := by
  unfold valD
  rw [List.foldl_append]
  rfl
theorem dec_val (m : Nat) : valD (Lib.decDigits m) = m := by
  induction m using Nat.strongRecOn with
  | ind m ih =>
    rw [Lib.decDigits]
    by_cases h : m < 10
    · rw [dif_pos h]
      show 10 * 0 + ((UInt8.ofNat (48 + m)).toNat - 48) = m
      rw [UInt8.toNat_ofNat']
      omega
    · rw [dif_neg h, valD_snoc, ih (m / 10) (by omega), UInt8.toNat_ofNat']
      omega
theorem dec_chars (m : Nat) : ∀ c ∈ Lib.decDigits m, 48 ≤ c.toNat ∧ c.toNat ≤ 57 := by
  induction m using Nat.strongRecOn with
  | ind m ih =>
    intro c hc
    rw [Lib.decDigits] at hc
    by_cases h : m < 10
    · rw [dif_pos h] at hc
      obtain rfl : c = UInt8.ofNat (48 + m) := by simpa using hc
      rw [UInt8.toNat_ofNat']
      omega
    · rw [dif_neg h, List.mem_append] at hc
      rcases hc with hc | hc
      · exact ih (m / 10) (by omega) c hc
      · obtain rfl : c = UInt8.ofNat (48 + m % 10) := by simpa using hc
        rw [UInt8.toNat_ofNat']
        omega
theorem dec_inj {a b : Nat} (h : Lib.decDigits a = Lib.decDigits b) : a = b := by rw [← dec_val a, h, dec_val]
theorem itoa_chars (n : Int) : ∀ c ∈ Lib.itoa n, c ≠ 32 := by
  intro c hc e
  subst e
  unfold Lib.itoa at hc
  split at hc
  · rw [List.mem_cons] at hc
    rcases hc with hc | hc
    · exact absurd hc (by decide)
    · exact absurd (dec_chars _ _ hc).1 (by decide)
  · exact absurd (dec_chars _ _ hc).1 (by decide)
theorem itoa_inj {a b : Int} (h : Lib.itoa a = Lib.itoa b) : a = b := by
  have no : ∀ (m : Nat) (l : List UInt8), Lib.decDigits m ≠ 45 :: l := fun m l e => by
    have := (dec_chars m 45 (by rw [e]; simp)).1
    exact absurd this (by decide)
  unfold Lib.itoa at h
  by_cases ha : a < 0
  · by_cases hb : b < 0
    · rw [if_pos ha, if_pos hb] at h
      have := dec_inj (List.cons.inj h).2
      omega
    · rw [if_pos ha, if_neg hb] at h
      exact absurd h.symm (no _ _)
  · by_cases hb : b < 0
    · rw [if_neg ha, if_pos hb] at h
      exact absurd h (no _ _)
    · rw [if_neg ha, if_neg hb] at h
      have := dec_inj h
      omega
theorem dig_inj {a b : Int} (h : digB a = digB b) : a = b := itoa_inj (by
  have := congrArg (·.data.toList) h
  exact this)
theorem name_inj {a b : Int} (h : nameB a = nameB b) : a = b := by
  refine dig_inj ?_
  have := congrArg (·.data.toList) h
  simp only [nameB, ByteArray.data_append, Array.toList_append] at this
  have h2 : (digB a).data.toList = (digB b).data.toList := (List.cons.inj this).2
  cases ha : digB a; cases hb : digB b
  rw [ha, hb] at h2
  simp only [ByteArray.mk.injEq]
  exact Array.toList_inj.1 h2
/-! Parts without spaces, put together by spaces, can be told apart. -/
def NoSp (p : ByteArray) : Prop := ∀ c ∈ p.data.toList, c ≠ 32
theorem split_eq : ∀ (a b r s : List UInt8), (∀ c ∈ a, c ≠ 32) → (∀ c ∈ b, c ≠ 32) → (r = [] ∨ ∃ t, r = 32 :: t) → (s = [] ∨ ∃ t, s = 32 :: t) → a ++ r = b ++ s → a = b ∧ r = s
  | [], [], r, s, _, _, _, _, h => ⟨rfl, by simpa using h⟩
  | [], y :: b, r, s, _, hb, hr, _, h => by
    rcases hr with rfl | ⟨t, rfl⟩
    · simp at h
    · simp only [List.nil_append, List.cons_append, List.cons.injEq] at h
      exact absurd h.1.symm (hb y (by simp))
  | x :: a, [], r, s, ha, _, _, hs, h => by
    rcases hs with rfl | ⟨t, rfl⟩
    · simp at h
    · simp only [List.nil_append, List.cons_append, List.cons.injEq] at h
      exact absurd h.1 (ha x (by simp))
  | x :: a, y :: b, r, s, ha, hb, hr, hs, h => by
    simp only [List.cons_append, List.cons.injEq] at h
    obtain ⟨e1, e2⟩ := split_eq a b r s (fun c hc => ha c (by simp [hc])) (fun c hc => hb c (by simp [hc])) hr hs h.2
    exact ⟨by rw [h.1, e1], e2⟩
theorem tail_inj : ∀ (xs ys : List (List UInt8)), (∀ p ∈ xs, ∀ c ∈ p, c ≠ 32) → (∀ p ∈ ys, ∀ c ∈ p, c ≠ 32) → Lib.joinTail [32] xs = Lib.joinTail [32] ys → xs = ys
  | [], [], _, _, _ => rfl
  | [], y :: ys, _, _, h => by simp [Lib.joinTail] at h
  | x :: xs, [], _, _, h => by simp [Lib.joinTail] at h
  | x :: xs, y :: ys, hx, hy, h => by
    have h' : x ++ Lib.joinTail [32] xs = y ++ Lib.joinTail [32] ys := by
      simp only [Lib.joinTail, List.map_cons, List.flatten_cons, List.cons_append, List.nil_append, List.cons.injEq, true_and] at h ⊢
      exact h
    have hd : ∀ l : List (List UInt8), Lib.joinTail [32] l = [] ∨ ∃ t, Lib.joinTail [32] l = 32 :: t := fun l => by
      cases l with
      | nil => exact .inl rfl
      | cons p l => exact .inr ⟨p ++ Lib.joinTail [32] l, by simp [Lib.joinTail]⟩
    obtain ⟨e1, e2⟩ := split_eq x y _ _ (hx x (by simp)) (hy y (by simp)) (hd xs) (hd ys) h'
    rw [e1, tail_inj xs ys (fun p hp => hx p (by simp [hp])) (fun p hp => hy p (by simp [hp])) e2]
theorem join_inj {l m : List ByteArray} (hl : l ≠ []) (hm : m ≠ []) (h1 : ∀ p ∈ l, NoSp p) (h2 : ∀ p ∈ m, NoSp p) (h : joinB l ⟨#[32]⟩ = joinB m ⟨#[32]⟩) : l = m := by
  have h3 : Lib.join (l.map (·.data.toList)) [32] = Lib.join (m.map (·.data.toList)) [32] := by
    have := congrArg (·.data.toList) h
    exact this
  match l, m, hl, hm, h1, h2, h3 with
  | p :: l, q :: m, _, _, h1, h2, h3 =>
    have h4 := tail_inj ((p :: l).map (·.data.toList)) ((q :: m).map (·.data.toList)) (fun x hx => by
      obtain ⟨y, hy, rfl⟩ := List.mem_map.1 hx; exact h1 y hy) (fun x hx => by
      obtain ⟨y, hy, rfl⟩ := List.mem_map.1 hx; exact h2 y hy) (by
      rw [List.map_cons, List.map_cons, Lib.join_cons, Lib.join_cons] at h3
      simp only [Lib.joinTail, List.map_cons, List.flatten_cons, List.cons_append, List.nil_append, List.cons.injEq, true_and] at h3 ⊢
      exact h3)
    have inj : ∀ (u v : List ByteArray), u.map (·.data.toList) = v.map (·.data.toList) → u = v := by
      intro u
      induction u with
      | nil => intro v hv; cases v with
        | nil => rfl
        | cons b v => simp at hv
      | cons a u ih => intro v hv; cases v with
        | nil => simp at hv
        | cons b v =>
          simp only [List.map_cons, List.cons.injEq] at hv
          have e : a = b := by
            cases a; cases b
            simp only [ByteArray.mk.injEq]
            exact Array.toList_inj.1 hv.1
          rw [e, ih v hv.2]
    exact inj _ _ h4
theorem dig_nosp (n : Int) : NoSp (digB n) := itoa_chars n
theorem name_nosp (n : Int) : NoSp (nameB n) := by
  intro c hc
  simp only [nameB, ByteArray.data_append, Array.toList_append, List.mem_append] at hc
  rcases hc with hc | hc
  · have : c = 114 := by simpa using hc
    subst this; decide
  · exact dig_nosp n c hc
theorem sign_nosp (op : Int) : NoSp (signP op) := by
  unfold signP
  split
  · intro c hc
    have : ∀ c ∈ below5.data.toList, c ≠ 32 := by decide
    exact this c hc
  · unfold signB
    split
    · rename_i h
      have : ∀ i : Fin 19, ∀ c ∈ (signsL.getD i.val ⟨#[]⟩).data.toList, c ≠ 32 := by decide +kernel
      exact this ⟨op.toNat, by omega⟩
    · intro c hc; simp at hc
theorem word_nosp (k : Int) : NoSp (fmW k) := by
  by_cases h : 0 ≤ k ∧ k < 14
  · have : ∀ i : Fin 14, ∀ c ∈ (fmW (i.val : Int)).data.toList, c ≠ 32 := by decide +kernel
    have := this ⟨k.toNat, by omega⟩
    simp only [show ((k.toNat : Nat) : Int) = k by omega] at this
    exact this
  · rw [fmW_out k h]; intro c hc; simp at hc
theorem parts_nosp (k op d a b n to_ : Int) : ∀ p ∈ showParts k op d a b n to_, NoSp p := by
  have e : ∀ (l : List ByteArray) (q : Bool) (x : ByteArray), (∀ p ∈ l, NoSp p) → NoSp x → ∀ p ∈ l ++ optL q x, NoSp p := fun l q x h1 h2 p hp => by
    rw [List.mem_append] at hp
    rcases hp with hp | hp
    · exact h1 p hp
    · unfold optL at hp
      split at hp
      · obtain rfl : p = x := by simpa using hp
        exact h2
      · simp at hp
  unfold showParts
  refine e _ _ _ (e _ _ _ (e _ _ _ (e _ _ _ (e _ _ _ (e _ _ _ (e _ _ _ ?_ (name_nosp d)) (name_nosp a)) (sign_nosp op)) (dig_nosp n)) (name_nosp b)) (name_nosp a)) (dig_nosp to_)
  intro p hp
  obtain rfl : p = fmW k := by simpa using hp
  exact word_nosp k
theorem opt_cancel {q : Bool} {x y : ByteArray} {L M : List ByteArray} (h : optL q x ++ L = optL q y ++ M) : (q = true → x = y) ∧ L = M := by
  unfold optL at h
  cases q with
  | true => simp only [if_true, List.cons_append, List.nil_append, List.cons.injEq] at h; exact ⟨fun _ => h.1, h.2⟩
  | false => simp only [Bool.false_eq_true, if_false, List.nil_append] at h; exact ⟨fun h => absurd h (by simp), h⟩
theorem word_inj {k k' : Int} (hk : 0 ≤ k ∧ k < 14) (hk' : 0 ≤ k' ∧ k' < 14) (h : fmW k = fmW k') : k = k' := by
  have : ∀ i j : Fin 14, (fmW (i.val : Int)).data.toList = (fmW (j.val : Int)).data.toList → i = j := by decide +kernel
  have := this ⟨k.toNat, by omega⟩ ⟨k'.toNat, by omega⟩ (by
    simp only [show ((k.toNat : Nat) : Int) = k by omega, show ((k'.toNat : Nat) : Int) = k' by omega]; rw [h])
  have := congrArg Fin.val this
  simp only [] at this
  omega
theorem sign_inj {k k' : Int} (hk : 0 ≤ k ∧ k ≤ 18) (hk' : 0 ≤ k' ∧ k' ≤ 18) (h : signP k = signP k') : k = k' := by
  have e : ∀ i : Int, 0 ≤ i ∧ i ≤ 18 → signB i = signsL.getD i.toNat ⟨#[]⟩ := fun i hi => by unfold signB; rw [if_pos (by omega)]
  have t : ∀ i : Int, (signP i).data.toList = if (signB i).data.toList = [] then below5.data.toList else (signB i).data.toList := fun i => by
    unfold signP
    rw [toList_data]
    split <;> rfl
  have : ∀ i j : Fin 19, (if (signsL.getD i.val ⟨#[]⟩).data.toList = [] then below5.data.toList else (signsL.getD i.val ⟨#[]⟩).data.toList) = (if (signsL.getD j.val ⟨#[]⟩).data.toList = [] then below5.data.toList else (signsL.getD j.val ⟨#[]⟩).data.toList) → i = j := by decide +kernel
  have h2 := congrArg (·.data.toList) h
  simp only [t, e k hk, e k' hk'] at h2
  have := congrArg Fin.val (this ⟨k.toNat, by omega⟩ ⟨k'.toNat, by omega⟩ h2)
  simp only [] at this
  omega
theorem bare_tab (k : Int) : (fmB 7 k = true → fmB 2 k = true ∧ fmB 6 k = false) := by
  by_cases hk : 0 ≤ k ∧ k < 14
  · have : ∀ i : Fin 14, (fmB 7 (i.val : Int) = true → fmB 2 (i.val : Int) = true ∧ fmB 6 (i.val : Int) = false) := by decide +kernel
    have := this ⟨k.toNat, by omega⟩
    simp only [show ((k.toNat : Nat) : Int) = k by omega] at this
    exact this
  · rw [fmB_out 7 (by decide) k hk]; simp
theorem right_own {k op d a b n to_ size regs locks : Int} (h : rightB k op d a b n to_ size regs locks = true) :
    (fmB 1 k = false → d = 0) ∧ (fmB 2 k = false → a = 0) ∧ (fmB 3 k = false → b = 0) ∧ (fmB 4 k = false → op = 0) ∧ (fmB 5 k = false → n = 0) ∧ (fmB 6 k = false → to_ = 0) ∧ (0 ≤ op ∧ op ≤ 18) ∧ (a < 0 → a = -1) := by
  have h2' := (right_out h).2.2.1
  unfold rightB opB at h
  simp only [Bool.and_eq_true, decide_eq_true_eq] at h
  obtain ⟨⟨⟨hk, ⟨h1, h2⟩, h3⟩, ⟨h4, h5⟩, h6⟩, ⟨⟨⟨o0, o1⟩, _⟩, _⟩, _⟩ := h
  have ha0 : fmB 2 k = false → a = 0 := fun q => by rw [q] at h2; simpa [iregB] using h2
  refine ⟨fun q => by rw [q] at h1; simpa [iregB] using h1, ha0, fun q => by rw [q] at h3; simpa [iregB] using h3, fun q => by rw [q] at h4; simpa using h4, fun q => by rw [q] at h5; simpa using h5, fun q => by rw [q] at h6; simpa using h6, ⟨o0, o1⟩, fun hneg => ?_⟩
  cases hq : fmB 2 k with
  | false => have := ha0 hq; omega
  | true => rcases h2' hq with h | h <;> omega
theorem show_inj {x y : S23} {s s' r r' c c' : Int} (hx : rightS x s r c = true) (hy : rightS y s' r' c' = true) (h : showS x = showS y) : x = y := by
  obtain ⟨k, op, d, a, b, n, t⟩ := x
  obtain ⟨k', op', d', a', b', n', t'⟩ := y
  have ox := right_own hx
  have oy := right_own hy
  have kx := (right_out hx).1
  have ky := (right_out hy).1
  simp only [] at ox oy kx ky
  have hp : showParts k op d a b n t = showParts k' op' d' a' b' n' t' := join_inj (by simp [showParts]) (by simp [showParts]) (parts_nosp _ _ _ _ _ _ _) (parts_nosp _ _ _ _ _ _ _) h
  unfold showParts at hp
  simp only [List.append_assoc, List.cons_append, List.nil_append, List.cons.injEq] at hp
  obtain ⟨hw, hp⟩ := hp
  obtain rfl := word_inj kx ky hw
  obtain ⟨e1, hp⟩ := opt_cancel hp
  obtain ⟨e2, hp⟩ := opt_cancel hp
  obtain ⟨e4, hp⟩ := opt_cancel hp
  obtain ⟨e5, hp⟩ := opt_cancel hp
  obtain ⟨e3, hp⟩ := opt_cancel hp
  have hd : d = d' := by
    cases q : fmB 1 k with
    | true => exact name_inj (e1 q)
    | false => rw [ox.1 q, oy.1 q]
  have ho : op = op' := by
    cases q : fmB 4 k with
    | true => exact sign_inj ox.2.2.2.2.2.2.1 oy.2.2.2.2.2.2.1 (e4 q)
    | false => rw [ox.2.2.2.1 q, oy.2.2.2.1 q]
  have hn : n = n' := by
    cases q : fmB 5 k with
    | true => exact dig_inj (e5 q)
    | false => rw [ox.2.2.2.2.1 q, oy.2.2.2.2.1 q]
  have hb : b = b' := by
    cases q : fmB 3 k with
    | true => exact name_inj (e3 q)
    | false => rw [ox.2.2.1 q, oy.2.2.1 q]
  have hat : a = a' ∧ t = t' := by
    cases q7 : fmB 7 k with
    | true =>
      obtain ⟨_, q6⟩ := bare_tab k q7
      refine ⟨?_, by rw [ox.2.2.2.2.2.1 q6, oy.2.2.2.2.2.1 q6]⟩
      rw [q7, q6, Bool.true_and, Bool.true_and] at hp
      by_cases g : a ≥ 0
      · by_cases g' : a' ≥ 0
        · rw [decide_eq_true g, decide_eq_true g'] at hp
          exact name_inj ((opt_cancel hp).1 rfl)
        · rw [decide_eq_true g, decide_eq_false g'] at hp
          simp [optL] at hp
      · by_cases g' : a' ≥ 0
        · rw [decide_eq_false g, decide_eq_true g'] at hp
          simp [optL] at hp
        · rw [ox.2.2.2.2.2.2.2 (by omega), oy.2.2.2.2.2.2.2 (by omega)]
    | false =>
      rw [q7, Bool.false_and, Bool.false_and] at hp
      rw [q7] at e2
      obtain ⟨_, hp⟩ := opt_cancel hp
      refine ⟨?_, ?_⟩
      · cases q : fmB 2 k with
        | true => exact name_inj (e2 (by rw [q]; rfl))
        | false => rw [ox.2.1 q, oy.2.1 q]
      · cases q : fmB 6 k with
        | true =>
          rw [q] at hp
          simp only [optL, if_true, List.cons.injEq, and_true] at hp
          exact dig_inj hp
        | false => rw [ox.2.2.2.2.2.1 q, oy.2.2.2.2.2.1 q]
  rw [hd, ho, hn, hb, hat.1, hat.2]
theorem beqS (a0 a1 a2 a3 a4 a5 a6 b0 b1 b2 b3 b4 b5 b6 : Int) : (a0 == b0 && (a1 == b1 && (a2 == b2 && (a3 == b3 && (a4 == b4 && (a5 == b5 && (a6 == b6))))))) = decide (a0 = b0 ∧ a1 = b1 ∧ a2 = b2 ∧ a3 = b3 ∧ a4 = b4 ∧ a5 = b5 ∧ a6 = b6) := by
  rw [Bool.eq_iff_iff]
  simp only [Bool.and_eq_true, beq_iff_eq, decide_eq_true_eq]
theorem bare_none (k : Int) (h : k = 6 ∨ k = 8 ∨ k = 13 ∨ k = 12 ∨ k = 9 ∨ k = 10) : fmB 1 k = false ∧ fmB 2 k = false ∧ fmB 3 k = false ∧ fmB 8 k = false := by
  rcases h with rfl | rfl | rfl | rfl | rfl | rfl <;> decide +kernel
theorem InsReads : palinglaw11_InsReads.Pure := by
  intro a0 a1 a2 a3 a4 a5 a6 b0 b1 b2 b3 b4 b5 b6 v0 v1 v2 v3 v4 v5 v6 w0 w1 w2 w3 w4 w5 w6
  refine Ev.rounds ?_
  have s2 := wf64 v2; have s3 := wf64 v3; have s4 := wf64 v4; have s5 := wf64 v5; have s6 := wf64 v6
  have t2 := wf64 w2; have t3 := wf64 w3; have t4 := wf64 w4; have t5 := wf64 w5; have t6 := wf64 w6
  refine Ev.congr (fun k => rfl) (Ev.bind awake_ev (Ev.tt (Ev.bind (a := useRegs (useL a0 a2 a3 a4)) (Ev.con rfl) ?_)))
  have hj3 : Ev (fun k => palinglaw11_InsReads.j3 k false a0 a1 a2 a3 a4 a5 a6 b0 b1 b2 b3 b4 b5 b6) true := by
    refine Ev.step (f := fun k => (ins_Check.f [(⟨a0, a1, a2, a3, a4, a5, a6⟩ : S23), ⟨13, 0, 0, 0, 0, 0, 0⟩] 60 8).bind fun t206 => (ins_Check.f [(⟨b0, b1, b2, b3, b4, b5, b6⟩ : S23), ⟨13, 0, 0, 0, 0, 0, 0⟩] 60 8).bind fun t207 => (if t206 = true then (if t207 = true then ((ins_Show.f k a0 a1 a2 a3 a4 a5 a6).bind fun t208 => ((ins_Show.f k b0 b1 b2 b3 b4 b5 b6).bind fun t209 => (some ((t208.toList == t209.toList) == (a0 == b0 && (a1 == b1 && (a2 == b2 && (a3 == b3 && (a4 == b4 && (a5 == b5 && (a6 == b6))))))))))) else (some true)) else (some true))) (fun k => rfl) ?_
    refine Ev.bind (a := icheckB [(⟨a0, a1, a2, a3, a4, a5, a6⟩ : S23), ⟨13, 0, 0, 0, 0, 0, 0⟩] 60 8) (Ev.con rfl) (Ev.bind (a := icheckB [(⟨b0, b1, b2, b3, b4, b5, b6⟩ : S23), ⟨13, 0, 0, 0, 0, 0, 0⟩] 60 8) (Ev.con rfl) ?_)
    cases hc : icheckB [(⟨a0, a1, a2, a3, a4, a5, a6⟩ : S23), ⟨13, 0, 0, 0, 0, 0, 0⟩] 60 8 with
    | false => exact Ev.ff (Ev.now true)
    | true =>
      refine Ev.tt ?_
      cases hc' : icheckB [(⟨b0, b1, b2, b3, b4, b5, b6⟩ : S23), ⟨13, 0, 0, 0, 0, 0, 0⟩] 60 8 with
      | false => exact Ev.ff (Ev.now true)
      | true =>
        refine Ev.tt ?_
        refine Ev.bind (Ev.of (k := 8) (ins_Show.mono _ _ _ _ _ _ _) (show_f a0 a1 a2 a3 a4 a5 a6 0 s2 s3 s4 s5 s6)) (Ev.bind (Ev.of (k := 8) (ins_Show.mono _ _ _ _ _ _ _) (show_f b0 b1 b2 b3 b4 b5 b6 0 t2 t3 t4 t5 t6)) ?_)
        have ra := (check_at hc 0 (by omega) (by simp)).1
        have rb := (check_at hc' 0 (by omega) (by simp)).1
        change rightS (⟨a0, a1, a2, a3, a4, a5, a6⟩ : S23) _ _ _ = true at ra
        change rightS (⟨b0, b1, b2, b3, b4, b5, b6⟩ : S23) _ _ _ = true at rb
        refine Ev.con (congrArg some ?_)
        rw [beqS]
        by_cases he : a0 = b0 ∧ a1 = b1 ∧ a2 = b2 ∧ a3 = b3 ∧ a4 = b4 ∧ a5 = b5 ∧ a6 = b6
        · rw [decide_eq_true he]
          obtain ⟨rfl, rfl, rfl, rfl, rfl, rfl, rfl⟩ := he
          simp
        · rw [decide_eq_false he]
          have : ((showB a0 a1 a2 a3 a4 a5 a6).toList == (showB b0 b1 b2 b3 b4 b5 b6).toList) = false := by
            rw [Bool.eq_false_iff]
            intro hh
            rw [beq_iff_eq, toList_data, toList_data] at hh
            refine he ?_
            have hq : (⟨a0, a1, a2, a3, a4, a5, a6⟩ : S23) = ⟨b0, b1, b2, b3, b4, b5, b6⟩ := show_inj ra rb ?_
            · injection hq with e0 e1 e2 e3 e4 e5 e6
              exact ⟨e0, e1, e2, e3, e4, e5, e6⟩
            show showB a0 a1 a2 a3 a4 a5 a6 = showB b0 b1 b2 b3 b4 b5 b6
            cases hA : showB a0 a1 a2 a3 a4 a5 a6; cases hB : showB b0 b1 b2 b3 b4 b5 b6
            rw [hA, hB] at hh
            simp only [ByteArray.mk.injEq]
            exact Array.toList_inj.1 hh
          rw [this]
          rfl
  have hU := useRegs_spec (useL a0 a2 a3 a4)
  have hul : (useRegs (useL a0 a2 a3 a4)).length ≤ 3 := by
    unfold useRegs
    refine Nat.le_trans (compact_len _) ?_
    rw [List.length_mergeSort]
    refine Nat.le_trans (List.length_filter_le _ _) ?_
    unfold useL
    rw [List.length_append, List.length_append]
    have : ∀ (c : Bool) (v : Int), (if c = true then [v] else []).length ≤ 1 := fun c v => by cases c <;> simp
    have h1 := this (fmB 2 a0) a3
    have h2 := this (fmB 3 a0) a4
    have h3 := this (fmB 8 a0) a2
    omega
  have hpick : a0 = 3 → 0 ≤ a2 → a2 ∈ useRegs (useL a0 a2 a3 a4) := fun h3 h0 => by
    rw [hU.2]
    refine ⟨?_, h0⟩
    subst h3
    unfold useL
    rw [show fmB 8 3 = true by decide +kernel]
    simp
  have hbare : (a0 = 6 ∨ a0 = 8 ∨ a0 = 13 ∨ a0 = 12 ∨ a0 = 9 ∨ a0 = 10) → useRegs (useL a0 a2 a3 a4) = [] := fun h => by
    obtain ⟨_, q2, q3, q8⟩ := bare_none a0 h
    unfold useL
    rw [q2, q3, q8]
    exact useRegs_nil
  obtain ⟨U, hUU⟩ : ∃ U, U = useRegs (useL a0 a2 a3 a4) := ⟨_, rfl⟩
  rw [← hUU] at hU hul hpick hbare ⊢
  have hj2 : ∀ x : Bool, (x = true → (a0 = 6 ∨ a0 = 8 ∨ a0 = 13 ∨ a0 = 12 ∨ a0 = 9 ∨ a0 = 10)) → Ev (fun k => palinglaw11_InsReads.j2 k U x a0 a1 a2 a3 a4 a5 a6 b0 b1 b2 b3 b4 b5 b6) true := by
    intro x hx
    cases x with
    | false => exact Ev.step (f := fun k => palinglaw11_InsReads.j3 k false a0 a1 a2 a3 a4 a5 a6 b0 b1 b2 b3 b4 b5 b6) (fun k => rfl) hj3
    | true =>
      have hb := hx rfl
      refine Ev.step (fun k => rfl) (Ev.neg (by rw [hbare hb]; simp) ?_)
      refine Ev.bind (a := -1) (Ev.con ?_) (show Ev (fun n => palinglaw11_InsReads.j3 n ((-1 : Int) != -1) a0 a1 a2 a3 a4 a5 a6 b0 b1 b2 b3 b4 b5 b6) true from hj3)
      show some (if fmB 1 a0 = true then a2 else -1) = some (-1)
      rw [(bare_none a0 hb).1]
      rfl
  have hj1 : Ev (fun k => palinglaw11_InsReads.j1 k U false a0 a1 a2 a3 a4 a5 a6 b0 b1 b2 b3 b4 b5 b6) true := by
    refine Ev.step (fun k => rfl) ?_
    by_cases c6 : a0 = 6
    · exact Ev.pos c6 (hj2 true (fun _ => by omega))
    refine Ev.neg c6 ?_
    by_cases c8 : a0 = 8
    · exact Ev.pos c8 (hj2 true (fun _ => by omega))
    refine Ev.neg c8 ?_
    by_cases c13 : a0 = 13
    · exact Ev.pos c13 (hj2 true (fun _ => by omega))
    refine Ev.neg c13 ?_
    by_cases c12 : a0 = 12
    · exact Ev.pos c12 (hj2 true (fun _ => by omega))
    refine Ev.neg c12 ?_
    by_cases c9 : a0 = 9
    · exact Ev.pos c9 (hj2 true (fun _ => by omega))
    refine Ev.neg c9 ?_
    exact hj2 (a0 == 10) (fun h => by have : a0 = 10 := by simpa using h
                                      omega)
  have key : ∀ i : Int, 0 ≤ i → i ≤ U.length → ∀ own : Bool, own = decide (a2 ∈ U.take i.toNat) → Ev (fun k => palinglaw11_InsReads.l0 k U own i a0 a1 a2 a3 a4 a5 a6 b0 b1 b2 b3 b4 b5 b6) true := by
    refine up_ind ?_ ?_
    · intro own ho
      refine Ev.step (fun k => rfl) (Ev.neg (by omega) ?_)
      rw [List.take_of_length_le (by omega)] at ho
      by_cases h3 : a0 = 3
      · refine Ev.pos h3 ?_
        by_cases hd : a2 ≥ 0
        · refine Ev.pos hd ?_
          rw [ho, decide_eq_true (hpick h3 hd)]
          exact hj1
        · exact Ev.neg hd hj1
      · exact Ev.neg h3 hj1
    · intro i h0 h1 ih own ho
      have hi : i.toNat < U.length := by omega
      have hx : rd U i = U[i.toNat] := by unfold rd; rw [List.getD_eq_getElem?_getD, List.getElem?_eq_getElem hi]; rfl
      have hge : 0 ≤ rd U i := ((hU.2 _).1 (rd_memI h0 h1)).2
      have hnext : ∀ own' : Bool, own' = decide (a2 ∈ U.take (i.toNat + 1)) → Ev (fun k => palinglaw11_InsReads.l0 k U own' (wrap64 (i + 1)) a0 a1 a2 a3 a4 a5 a6 b0 b1 b2 b3 b4 b5 b6) true := fun own' h => by
        rw [wrap_up h0 h1 (by omega)]
        exact ih own' (by rw [show (i + 1).toNat = i.toNat + 1 by omega]; exact h)
      have htk : U.take (i.toNat + 1) = U.take i.toNat ++ [rd U i] := by rw [hx, List.take_succ_eq_append_getElem hi]
      have hfin : Ev (fun k => if own = true then palinglaw11_InsReads.l0 k U true (wrap64 (i + 1)) a0 a1 a2 a3 a4 a5 a6 b0 b1 b2 b3 b4 b5 b6 else palinglaw11_InsReads.l0 k U ((rd U i) == a2) (wrap64 (i + 1)) a0 a1 a2 a3 a4 a5 a6 b0 b1 b2 b3 b4 b5 b6) true := by
        cases own with
        | true =>
          refine Ev.tt (hnext true ?_)
          have : a2 ∈ U.take i.toNat := of_decide_eq_true ho.symm
          rw [htk]
          exact (decide_eq_true (List.mem_append_left _ this)).symm
        | false =>
          refine Ev.ff (hnext _ ?_)
          have : ¬ a2 ∈ U.take i.toNat := of_decide_eq_false ho.symm
          rw [htk, Bool.eq_iff_iff, beq_iff_eq, decide_eq_true_eq, List.mem_append]
          constructor
          · intro h; exact .inr (by simp [h])
          · rintro (h | h)
            · exact absurd h this
            · exact (by simpa using h : a2 = rd U i).symm
      refine Ev.step (fun k => rfl) (Ev.pos h1 (Ev.pos h0 (Ev.neg (by omega) ?_)))
      by_cases hp : i > 0
      · have hw : wrap64 (i - 1) = i - 1 := wrap_in (by omega) (by omega)
        refine Ev.pos hp ?_
        rw [hw]
        refine Ev.pos (by omega) (Ev.pos (by omega) (Ev.neg ?_ hfin))
        have hj : (i - 1).toNat < U.length := by omega
        have hx' : rd U (i - 1) = U[(i - 1).toNat] := by unfold rd; rw [List.getD_eq_getElem?_getD, List.getElem?_eq_getElem hj]; rfl
        have := List.pairwise_iff_getElem.1 hU.1 (i - 1).toNat i.toNat hj hi (by omega)
        rw [hx, hx']
        omega
      · exact Ev.neg hp hfin
  exact key 0 (by omega) (by omega) false (by simp)
end Go.Proofs.YtggfikekggcclaaDoor.Pure
