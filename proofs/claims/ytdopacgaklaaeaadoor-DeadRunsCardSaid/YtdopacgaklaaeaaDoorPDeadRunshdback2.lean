import Derived.Test.YtdopacgaklaaeaaDoorPDeadRunsx0
import Derived.Test.YtdopacgaklaaeaaDoorPDeadRunshg5
import Derived.Test.YtdopacgaklaaeaaDoorPDeadRunshdcode
import Derived.Test.YtdopacgaklaaeaaDoorPDeadRunshg1
import Derived.Test.YtdopacgaklaaeaaDoorPDeadRunshplain0
import Derived.Test.YtdopacgaklaaeaaDoorPDeadRunshg4
namespace Go.Proofs.YtdopacgaklaaeaaDoor.PDeadRuns
open Go.RowKit Go.Proofs.YtdopacgaklaaeaaDoorW.PrintWords Go.Proofs.YtdopacgaklaaeaaDoorW.PrintLast Go.Proofs.YtdopacgaklaaeaaDoorW.PrintMore
set_option linter.unusedVariables false
set_option linter.unusedSimpArgs false
/-! A code with fences runs as without: the runs. -/
theorem mvx_f (t : Int → Int) (x : S28) : (mvx t x).f0 = x.f0 ∧ (mvx t x).f1 = x.f1 ∧ (mvx t x).f2 = x.f2 ∧ (mvx t x).f3 = x.f3 ∧ (mvx t x).f4 = x.f4 ∧ (mvx t x).f5 = x.f5 ∧ ((x.f0 = 6 ∨ x.f0 = 7) → (mvx t x).f6 = t x.f6) := by
  unfold mvx
  by_cases h : x.f0 = 6 ∨ x.f0 = 7
  · rw [if_pos h]; exact ⟨rfl, rfl, rfl, rfl, rfl, rfl, fun _ => rfl⟩
  · rw [if_neg h]; exact ⟨rfl, rfl, rfl, rfl, rfl, rfl, fun h' => absurd h' h⟩
/-- a fence has been gone over, or not -/
def Off (g : List Bool) (p e : Nat) : Prop := e = 0 ∨ (e = 1 ∧ g.getD p false = true)
def atS (g : List Bool) (s : MSt) (e : Nat) : MSt := { s with pc := ((posL g s.pc.toNat + e : Nat) : Int) }
section
variable {c : List S28} {g : List Bool}
theorem posL_le (hg : g.length = c.length) (p : Nat) (h : p ≤ c.length) : posL g p ≤ 2 * c.length := by
  unfold posL
  have := cntD_le g true p
  omega
theorem plain_fenced (hg : g.length = c.length) (hl : c.length ≤ 1000) (s : MSt) (p : Nat) (hp : s.pc = (p : Int)) (h : p < c.length) (x : S28) (h0 : 0 ≤ x.f6) (h1 : x.f6 < (c.length : Int)) :
    plainS (mvx (insM g) x) (atS g s (if g.getD p false = true then 1 else 0)) = atS g (plainS x s) 0 := by
  obtain ⟨e0, e1, e2, e3, e4, e5, e6⟩ := mvx_f (insM g) x
  have hw : wordL s.regs (mvx (insM g) x) = wordL s.regs x := by unfold wordL; rw [e3, e5]
  have hv : valueL s.regs (mvx (insM g) x) = valueL s.regs x := by unfold valueL; rw [e0, e1, e2, e3, e4, e5]
  have hpp := posL_le hg p (by omega)
  have hsucc := posL_succ g p (by omega)
  have hn : wrap64 (s.pc + 1) = ((p + 1 : Nat) : Int) := by rw [hp, wrap_in (by omega) (by omega)]; omega
  have hm : wrap64 (((posL g s.pc.toNat + (if g.getD p false = true then 1 else 0) : Nat) : Int) + 1) = ((posL g (p + 1) + 0 : Nat) : Int) := by
    rw [hp, Int.toNat_natCast, wrap_in (by split <;> omega) (by split <;> omega), hsucc]
    split <;> omega
  have hj : x.f0 = 6 ∨ x.f0 = 7 → (mvx (insM g) x).f6 = ((posL g x.f6.toNat + 0 : Nat) : Int) := fun hk => by
    have := posL_le hg x.f6.toNat (by omega)
    rw [e6 hk]
    unfold insM posL at *
    rw [wrap_in (by omega) (by omega)]
    omega
  unfold plainS atS
  simp only [e0, e2, e3, e4, hw, hv, hm, hn, Int.toNat_natCast]
  by_cases k0 : x.f0 = 0 ∨ x.f0 = 1 ∨ x.f0 = 2 ∨ x.f0 = 3
  · simp only [if_pos k0]; simp
  · simp only [if_neg k0]
    by_cases k4 : x.f0 = 4
    · simp only [if_pos k4]; simp
    · simp only [if_neg k4]
      by_cases k5 : x.f0 = 5
      · simp only [if_pos k5]; simp
      · simp only [if_neg k5]
        by_cases k6 : x.f0 = 6
        · simp only [if_pos k6]; rw [hj (.inl k6)]
        · simp only [if_neg k6]
          by_cases k7 : x.f0 = 7 ∧ getG s.regs x.f3 = 0
          · simp only [if_pos k7]; rw [hj (.inr k7.1)]
          · simp only [if_neg k7]; simp
theorem plain_pc (s : MSt) (p n : Nat) (hn : n ≤ 1000) (hp : s.pc = (p : Int)) (h : p < n) (x : S28) (h0 : 0 ≤ x.f6) (h1 : x.f6 < (n : Int)) : 0 ≤ (plainS x s).pc ∧ (plainS x s).pc ≤ (n : Int) := by
  have hw : wrap64 (s.pc + 1) = (p : Int) + 1 := by rw [hp, wrap_in (by omega) (by omega)]
  unfold plainS
  rw [hw]
  repeat' split
  all_goals (dsimp only; omega)
theorem lock_own (x : S28) (s : MSt) (q : Int) (hq : wrap64 (q + 1) = q + 1) (hs : wrap64 (s.pc + 1) = s.pc + 1) :
    lockS x { s with pc := q } = ({ (lockS x s).1 with pc := q + ((lockS x s).1.pc - s.pc) }, (lockS x s).2) ∧ ((lockS x s).1.pc = s.pc ∨ (lockS x s).1.pc = s.pc + 1) := by
  unfold lockS
  by_cases h : x.f0 = 9 ∧ 0 ≤ ownerL s.own x.f5
  · rw [if_pos h, if_pos h]
    exact ⟨by simp, .inl rfl⟩
  · rw [if_neg h, if_neg h]
    refine ⟨?_, .inr hs⟩
    dsimp only
    rw [hq, hs]
    congr 2
    omega
theorem runS_succ (c : List S28) (f : Nat) (s : MSt) : runS c (f + 1) s =
    if (fetchS c s).f0 = 11 then ({ s with pc := wrap64 (s.pc + 1) }, (0, getG s.regs (fetchS c s).f3), 0)
    else if (fetchS c s).f0 = 9 ∨ (fetchS c s).f0 = 10 then lockS (fetchS c s) s
    else if (fetchS c s).f0 = 12 then ({ s with over := true }, (3, (fetchS c s).f5), 0)
    else if (fetchS c s).f0 = 13 then ({ s with over := true }, (4, 0), 0)
    else runS c f (plainS (fetchS c s) s) := rfl
set_option maxHeartbeats 1000000 in
theorem run_fenced (hg : g.length = c.length) (hl : c.length ≤ 1000) (hok : ∀ x ∈ c, 0 ≤ x.f6 ∧ x.f6 < (c.length : Int)) : ∀ (f : Nat) (s : MSt) (p e f' : Nat), s.pc = (p : Int) → p ≤ c.length → Off g p e → 2 * f ≤ f' → (runS c f s).2.2 ≠ 3 →
    ∃ p' e' : Nat, (runS c f s).1.pc = (p' : Int) ∧ p' ≤ c.length ∧ Off g p' e' ∧ runS (fenced c g) f' (atS g s e) = (atS g (runS c f s).1 e', (runS c f s).2)
  | 0, s, p, e, f', hp, hpl, he, hf, h3 => absurd rfl h3
  | f + 1, s, p, e, f', hp, hpl, he, hf, h3 => by
    obtain ⟨f1, rfl⟩ : ∃ f1, f' = f1 + 2 := ⟨f' - 2, by omega⟩
    have hfl := fenced_len hg
    by_cases hlt : p < c.length
    · have hx : c.getD p z28 ∈ c := by rw [List.getD_eq_getElem?_getD, List.getElem?_eq_getElem hlt]; exact List.getElem_mem _
      obtain ⟨x0, x1⟩ := hok _ hx
      obtain ⟨a1, a2, a3⟩ := fenced_at hg p hlt
      have hfc : fetchS c s = c.getD p z28 := by unfold fetchS; rw [hp, if_pos ⟨by omega, by omega⟩, Int.toNat_natCast]
      obtain ⟨x, hxx⟩ : ∃ x, x = c.getD p z28 := ⟨_, rfl⟩
      rw [← hxx] at x0 x1 a1 hfc
      obtain ⟨bq, hbq⟩ : ∃ bq : Nat, bq = (if g.getD p false = true then 1 else 0) := ⟨_, rfl⟩
      rw [← hbq] at a1 a3
      have hpp := posL_le hg p hpl
      have hbb : bq ≤ 1 := by rw [hbq]; split <;> omega
      -- from the instruction itself
      have core : ∀ f2, 2 * f ≤ f2 → ∃ p' e' : Nat, (runS c (f + 1) s).1.pc = (p' : Int) ∧ p' ≤ c.length ∧ Off g p' e' ∧ runS (fenced c g) (f2 + 1) (atS g s bq) = (atS g (runS c (f + 1) s).1 e', (runS c (f + 1) s).2) := by
        intro f2 hf2
        obtain ⟨e0, e1, e2, e3, e4, e5, e6⟩ := mvx_f (insM g) x
        have hfd : fetchS (fenced c g) (atS g s bq) = mvx (insM g) x := by
          unfold fetchS atS
          dsimp only
          rw [hp, Int.toNat_natCast, if_pos ⟨by omega, by omega⟩, Int.toNat_natCast, a1]
        have hsucc := posL_succ g p (by omega)
        rw [← hbq] at hsucc
        have hw1 : wrap64 (s.pc + 1) = ((p + 1 : Nat) : Int) := by rw [hp, wrap_in (by omega) (by omega)]; omega
        have hq1 : wrap64 (((posL g p + bq : Nat) : Int) + 1) = ((posL g p + bq : Nat) : Int) + 1 := by
          clear hbq hfd hsucc h3
          exact wrap_in (by omega) (by omega)
        have hw2 : wrap64 ((atS g s bq).pc + 1) = ((posL g (p + 1) : Nat) : Int) := by
          show wrap64 (((posL g s.pc.toNat + bq : Nat) : Int) + 1) = _
          rw [hp, Int.toNat_natCast, hq1, hsucc]
          clear hbq hfd hsucc h3 hq1
          omega
        rw [runS_succ c f s, hfc] at h3 ⊢
        have H3 := Aside0.mk h3
        have HBQ := Aside0.mk hbq
        clear h3 hbq
        rw [runS_succ (fenced c g) f2 (atS g s bq), hfd, e0, e3, e5]
        by_cases k11 : x.f0 = 11
        · rw [if_pos k11, if_pos k11]
          refine ⟨p + 1, 0, hw1, by omega, .inl rfl, ?_⟩
          rw [hw2, hw1]
          rfl
        · skip
          rw [if_neg k11, if_neg k11]
          by_cases k9 : x.f0 = 9 ∨ x.f0 = 10
          · rw [if_pos k9, if_pos k9]
            have hm : mvx (insM g) x = x := by unfold mvx; rw [if_neg (by omega)]
            rw [hm]
            have hp1 : wrap64 (s.pc + 1) = s.pc + 1 := by rw [hw1, hp]; omega
            obtain ⟨l1, l2⟩ := lock_own x s ((posL g s.pc.toNat + bq : Nat) : Int) (by rw [hp, Int.toNat_natCast]; exact hq1) hp1
            have l1' : lockS x (atS g s bq) = _ := l1
            rw [l1']
            rcases l2 with l2 | l2
            · refine ⟨p, bq, l2.trans hp, hpl, ?_, ?_⟩
              · unfold Off; rw [HBQ.out]; by_cases hgp : g.getD p false = true <;> simp [hgp]
              · unfold atS; rw [l2, hp]; simp
            · refine ⟨p + 1, 0, by rw [l2, hp]; omega, by omega, .inl rfl, ?_⟩
              unfold atS
              rw [l2, hp]
              simp only [Prod.mk.injEq, and_true]
              congr 1
              rw [show ((p : Int) + 1).toNat = p + 1 by omega, hsucc, Int.toNat_natCast]
              omega
          · skip
            rw [if_neg k9, if_neg k9]
            by_cases k12 : x.f0 = 12
            · rw [if_pos k12, if_pos k12]
              refine ⟨p, bq, hp, hpl, ?_, rfl⟩
              unfold Off; rw [HBQ.out]; by_cases hgp : g.getD p false = true <;> simp [hgp]
            · skip
              rw [if_neg k12, if_neg k12]
              by_cases k13 : x.f0 = 13
              · rw [if_pos k13, if_pos k13]
                refine ⟨p, bq, hp, hpl, ?_, rfl⟩
                unfold Off; rw [HBQ.out]; by_cases hgp : g.getD p false = true <;> simp [hgp]
              · skip
                rw [if_neg k13, if_neg k13]
                obtain ⟨q0, q1⟩ := plain_pc s p c.length hl hp hlt x x0 x1
                have hpf := plain_fenced hg hl s p hp hlt x x0 x1
                rw [← HBQ.out] at hpf
                rw [hpf]
                have h3 := H3.out
                rw [if_neg k11, if_neg k9, if_neg k12, if_neg k13] at h3
                exact run_fenced hg hl hok f (plainS x s) (plainS x s).pc.toNat 0 f2 (by clear h3 hpf; omega) (by clear h3 hpf; omega) (.inl rfl) hf2 h3
      by_cases heq : e = bq
      · subst heq
        exact core (f1 + 1) (by omega)
      · -- the fence comes first
        have hg1 : g.getD p false = true := by
          by_cases hgp : g.getD p false = true
          · exact hgp
          · rw [if_neg hgp] at hbq
            rcases he with he | ⟨_, he⟩
            · omega
            · exact absurd he hgp
        rw [if_pos hg1] at hbq
        have he0 : e = 0 := by rcases he with he | ⟨he, _⟩ <;> omega
        subst he0
        have hff : fetchS (fenced c g) (atS g s 0) = fenceI := by
          unfold fetchS atS
          dsimp only
          rw [hp, Int.toNat_natCast, if_pos ⟨by omega, by omega⟩, Int.toNat_natCast, Nat.add_zero, a2 hg1]
        have hpl2 : plainS fenceI (atS g s 0) = atS g s bq := by
          unfold plainS fenceI atS
          simp
          rw [hp, Int.toNat_natCast, wrap_in (by omega) (by omega), hbq]
          omega
        have hr : runS (fenced c g) (f1 + 2) (atS g s 0) = runS (fenced c g) (f1 + 1) (atS g s bq) := by
          rw [runS_succ (fenced c g) (f1 + 1) (atS g s 0), hff, hpl2, if_neg (show ¬ fenceI.f0 = 11 by decide), if_neg (show ¬ (fenceI.f0 = 9 ∨ fenceI.f0 = 10) by decide), if_neg (show ¬ fenceI.f0 = 12 by decide), if_neg (show ¬ fenceI.f0 = 13 by decide)]
        rw [hr]
        exact core f1 (by omega)
    · have hpe : p = c.length := by omega
      have hfc : fetchS c s = ⟨13, 0, 0, 0, 0, 0, 0⟩ := by unfold fetchS; rw [hp, if_neg (by omega)]
      have hge : g.getD p false = false := by rw [List.getD_eq_getElem?_getD, List.getElem?_eq_none (by omega)]; rfl
      have he0 : e = 0 := by rcases he with he | ⟨_, he⟩; exact he; rw [hge] at he; cases he
      subst he0
      have hff : fetchS (fenced c g) (atS g s 0) = ⟨13, 0, 0, 0, 0, 0, 0⟩ := by
        unfold fetchS atS
        dsimp only
        rw [hp, Int.toNat_natCast, if_neg (by rw [hfl, hpe]; omega)]
      refine ⟨p, 0, ?_, hpl, .inl rfl, ?_⟩
      · rw [runS_succ c f s, hfc, if_neg (by decide), if_neg (by decide), if_neg (by decide), if_pos rfl]; exact hp
      · rw [runS_succ (fenced c g) (f1 + 1) (atS g s 0), hff, runS_succ c f s, hfc, if_neg (by decide), if_neg (by decide), if_neg (by decide), if_pos rfl, if_neg (by decide), if_neg (by decide), if_neg (by decide), if_pos rfl]; rfl
end
end Go.Proofs.YtdopacgaklaaeaaDoor.PDeadRuns
