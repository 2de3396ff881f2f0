import Derived.Test.YtdopacgaklaaeaaDoorPDeadRunsx0
import Derived.Test.YtdopacgaklaaeaaDoorPDeadRunshdback2
import Derived.Test.YtdopacgaklaaeaaDoorPDeadRunshdcode
import Derived.Test.YtdopacgaklaaeaaDoorPDeadRunshdruns2
import Derived.Test.YtdopacgaklaaeaaDoorPDeadRunshg1
import Derived.Test.YtdopacgaklaaeaaDoorPDeadRunshplain0
import Derived.Test.YtdopacgaklaaeaaDoorPDeadRunshdruns2
namespace Go.Proofs.YtdopacgaklaaeaaDoor.PDeadRuns
open Go.RowKit Go.Proofs.YtdopacgaklaaeaaDoorW.PrintWords Go.Proofs.YtdopacgaklaaeaaDoorW.PrintLast Go.Proofs.YtdopacgaklaaeaaDoorW.PrintMore
set_option linter.unusedVariables false
set_option linter.unusedSimpArgs false
/-! A code without what nobody needs runs as with it: step by step. -/
def plainV (x : S28) (s : MSt) : Int := if x.f0 = 4 then (if 0 ≤ wordL s.regs x ∧ wordL s.regs x < (s.mem.length : Int) then rd s.mem (wordL s.regs x) else 0) else valueL s.regs x
theorem plain_def (x : S28) (s : MSt) (h : 0 ≤ x.f0 ∧ x.f0 < 5) : plainS x s = { s with regs := putG s.regs x.f2 (plainV x s), pc := wrap64 (s.pc + 1) } := by
  unfold plainS plainV
  by_cases h4 : x.f0 = 4
  · rw [if_neg (by omega), if_pos h4, if_pos h4]
  · rw [if_pos (by omega), if_neg h4]
theorem plain5 (x : S28) (s : MSt) (h : x.f0 = 5) : plainS x s = { s with mem := if 0 ≤ wordL s.regs x ∧ wordL s.regs x < (s.mem.length : Int) then s.mem.set (wordL s.regs x).toNat (getG s.regs x.f4) else s.mem, pc := wrap64 (s.pc + 1) } := by
  unfold plainS; rw [if_neg (by omega), if_neg (by omega), if_pos h]
theorem plain6 (x : S28) (s : MSt) (h : x.f0 = 6) : plainS x s = { s with pc := x.f6 } := by
  unfold plainS; rw [if_neg (by omega), if_neg (by omega), if_neg (by omega), if_pos h]
theorem plain7 (x : S28) (s : MSt) (h : x.f0 = 7 ∧ getG s.regs x.f3 = 0) : plainS x s = { s with pc := x.f6 } := by
  have h7 := h.1
  unfold plainS; rw [if_neg (by omega), if_neg (by omega), if_neg (by omega), if_neg (by omega), if_pos h]
theorem plainE (x : S28) (s : MSt) (h7 : 7 ≤ x.f0) (h : ¬ (x.f0 = 7 ∧ getG s.regs x.f3 = 0)) : plainS x s = { s with pc := wrap64 (s.pc + 1) } := by
  unfold plainS; rw [if_neg (by omega), if_neg (by omega), if_neg (by omega), if_neg (by omega), if_neg h]
theorem word_same (x y : S28) (s t : MSt) (e3 : y.f3 = x.f3) (e5 : y.f5 = x.f5) (h : 0 ≤ x.f3 → getG s.regs x.f3 = getG t.regs x.f3) : wordL t.regs y = wordL s.regs x := by
  unfold wordL
  rw [e3, e5]
  by_cases h3 : x.f3 < 0
  · rw [if_pos h3, if_pos h3]
  · rw [if_neg h3, if_neg h3, h (by omega)]
section
variable {c : List S28} {re g : List Bool} {A B : List (List Int)}
theorem CodeD.wrap (h : CodeD c re A B g) {p : Nat} (hp : p < c.length) : wrap64 ((p : Int) + 1) = ((p + 1 : Nat) : Int) := by
  have := h.len
  rw [wrap_in (by omega) (by omega)]; omega
theorem CodeD.wrapc (h : CodeD c re A B g) (p : Nat) : wrap64 (((cntD g false p : Nat) : Int) + 1) = ((cntD g false p + 1 : Nat) : Int) := by
  have h1 := h.len
  have h2 := cntD_le g false p
  rw [h.gl] at h2
  rw [wrap_in (by omega) (by omega)]; omega
theorem CodeD.skip (h : CodeD c re A B g) {s t : MSt} {p : Nat} (ha : AtD c re A g s t p) (hg : g.getD p false = true) : AtD c re A g (plainS (c.getD p z28) s) t (p + 1) := by
  have hF := h.fact ha.lt
  obtain ⟨n1, n2⟩ := h.fall ha.lt ha.re hg
  have hgo := h.gone ha.lt ha.re hg
  have hkeep := fun r => @CodeD.keep c re g A B h p ha.lt r
  have huse := fun r => @CodeD.use c re g A B h p ha.lt r
  have hw := h.wrap ha.lt
  have hct : t.pc = ((cntD g false (p + 1) : Nat) : Int) := by
    rw [ha.tpc, cntD_succ g false p (by rw [h.gl]; exact ha.lt), hg]; simp
  obtain ⟨x, hx⟩ : ∃ x, x = c.getD p z28 := ⟨_, rfl⟩
  refine h.on ha.lt ha.re (by rw [← hx] at n2 ⊢; simpa using n2) n1 ?_ hct ?_ ?_ ?_ ?_
  all_goals rw [← hx] at hF hgo hkeep huse ⊢
  all_goals (rcases hgo with ⟨h5, hb⟩ | ⟨h6, ht⟩)
  · rw [plain_def x s ⟨hF.k.1, h5⟩]; show wrap64 (s.pc + 1) = _; rw [ha.pc, hw]
  · unfold plainS; rw [if_neg (by omega), if_neg (by omega), if_neg (by omega), if_pos h6]; show x.f6 = _; rw [ht]; omega
  · rw [plain_def x s ⟨hF.k.1, h5⟩]; exact ha.mem
  · unfold plainS; rw [if_neg (by omega), if_neg (by omega), if_neg (by omega), if_pos h6]; exact ha.mem
  · rw [plain_def x s ⟨hF.k.1, h5⟩]; exact ha.own
  · unfold plainS; rw [if_neg (by omega), if_neg (by omega), if_neg (by omega), if_pos h6]; exact ha.own
  · rw [plain_def x s ⟨hF.k.1, h5⟩]; exact ha.over
  · unfold plainS; rw [if_neg (by omega), if_neg (by omega), if_neg (by omega), if_pos h6]; exact ha.over
  · intro r hr
    rw [plain_def x s ⟨hF.k.1, h5⟩]
    show getG (putG s.regs x.f2 _) r = _
    rw [get_put _ _ _ _ hF.d]
    by_cases hq : r = x.f2
    · rw [if_pos hq]
      rcases hb with hb | ⟨h1, h3⟩
      · rw [hq] at hr; exact absurd hr hb
      · have hv : plainV x s = getG s.regs x.f3 := by unfold plainV valueL; rw [if_neg (by omega), if_neg (by omega), if_pos h1]
        rw [hv, h3, hq]
        exact ha.regs _ (huse _ (by have := use_a (x := x) (.inl h1) (hF.a (.inl h1)); rw [h3] at this; exact this))
    · rw [if_neg hq]
      exact ha.regs r (hkeep r hr (fun _ => hq))
  · intro r hr
    unfold plainS; rw [if_neg (by omega), if_neg (by omega), if_neg (by omega), if_pos h6]
    exact ha.regs r (hkeep r hr (fun h5 => absurd h5 (by omega)))
theorem CodeD.step (h : CodeD c re A B g) {s t : MSt} {p : Nat} (ha : AtD c re A g s t p) (hg : g.getD p false = false) (h9 : (c.getD p z28).f0 < 9) : ∃ j, AtD c re A g (plainS (c.getD p z28) s) (plainS (mvx (tgt g) (c.getD p z28)) t) j := by
  have hF := h.fact ha.lt
  have hkeep := fun r => @CodeD.keep c re g A B h p ha.lt r
  have huse := fun r => @CodeD.use c re g A B h p ha.lt r
  have hw := h.wrap ha.lt
  have hnx := @CodeD.nxt c re g A B h p ha.lt
  have hon := fun (j : Nat) (hj : (j : Int) ∈ succL (c.getD p z28) p) (hi : j < c.length) => @CodeD.on c re g A B h p ha.lt ha.re j hj hi
  have htg := fun (j : Nat) (hj : (j : Int) ∈ succL (c.getD p z28) p) (hi : j < c.length) => h.tgtq hi (h.go ha.lt ha.re hj ⟨by omega, by omega⟩).1
  have hct : wrap64 (t.pc + 1) = ((cntD g false (p + 1) : Nat) : Int) := by
    rw [ha.tpc, h.wrapc, cntD_succ g false p (by rw [h.gl]; exact ha.lt), hg]; simp
  have hsp : wrap64 (s.pc + 1) = ((p + 1 : Nat) : Int) := by rw [ha.pc, hw]
  obtain ⟨x, hx⟩ : ∃ x, x = c.getD p z28 := ⟨_, rfl⟩
  rw [← hx] at hF hkeep huse hnx hon htg h9 ⊢
  obtain ⟨e0, e1, e2, e3, e4, e5, e6⟩ := mvx_f (tgt g) x
  have u3 : (x.f0 = 1 ∨ x.f0 = 2 ∨ x.f0 = 3 ∨ x.f0 = 7) → getG s.regs x.f3 = getG t.regs x.f3 := fun hk => ha.regs _ (huse _ (use_a (by omega) (hF.a (by omega))))
  have u4 : (x.f0 = 2 ∨ x.f0 = 3 ∨ x.f0 = 5) → getG s.regs x.f4 = getG t.regs x.f4 := fun hk => ha.regs _ (huse _ (use_b hk (hF.b hk)))
  have uw : (x.f0 = 4 ∨ x.f0 = 5) → wordL t.regs (mvx (tgt g) x) = wordL s.regs x := fun hk => word_same _ _ _ _ e3 e5 (fun h0 => ha.regs _ (huse _ (use_a (by omega) h0)))
  have same : ∀ r ∈ B.getD p [], 5 ≤ x.f0 → getG s.regs r = getG t.regs r := fun r hr h5 => ha.regs r (hkeep r hr (fun h => absurd h (by omega)))
  have s1 : x.f0 ≠ 6 → ((p + 1 : Nat) : Int) ∈ succL x p := fun hk => by
    unfold succL
    rw [if_neg (by omega), if_neg hk]
    by_cases h7 : x.f0 = 7
    · rw [if_pos h7]; simp
    · rw [if_neg h7]; simp
  have hk0' := hF.k
  by_cases h5 : x.f0 < 5
  · have hv : plainV (mvx (tgt g) x) t = plainV x s := by
      unfold plainV
      rw [e0]
      by_cases h4 : x.f0 = 4
      · rw [if_pos h4, if_pos h4, uw (.inl h4), ha.mem]
      · rw [if_neg h4, if_neg h4]
        unfold valueL
        rw [e0, e1, e2, e3, e4, e5]
        by_cases k0 : x.f0 = 0
        · rw [if_pos k0, if_pos k0]
        rw [if_neg k0, if_neg k0, u3 (by omega)]
        by_cases k1 : x.f0 = 1
        · rw [if_pos k1, if_pos k1]
        rw [if_neg k1, if_neg k1, u4 (by omega)]
        by_cases k2 : x.f0 = 2
        · rw [if_pos k2, if_pos k2]
        rw [if_neg k2, if_neg k2, ha.regs x.f2 (huse _ (use_d (by omega) hF.d))]
    rw [plain_def x s ⟨hF.k.1, h5⟩, plain_def _ t (by rw [e0]; exact ⟨hF.k.1, h5⟩)]
    refine ⟨p + 1, hon (p + 1) (s1 (by omega)) (hnx (by omega)) hsp hct ha.mem ha.own ha.over ?_⟩
    intro r hr
    show getG (putG s.regs x.f2 _) r = getG (putG t.regs (mvx (tgt g) x).f2 _) r
    rw [e2, hv, get_put _ _ _ _ hF.d, get_put _ _ _ _ hF.d]
    by_cases hq : r = x.f2
    · rw [if_pos hq, if_pos hq]
    · rw [if_neg hq, if_neg hq]
      exact ha.regs r (hkeep r hr (fun _ => hq))
  by_cases k5 : x.f0 = 5
  · rw [plain5 x s k5, plain5 _ t (by rw [e0]; exact k5)]
    refine ⟨p + 1, hon (p + 1) (s1 (by omega)) (hnx (by omega)) hsp hct ?_ ha.own ha.over (fun r hr => same r hr (by omega))⟩
    show (if _ then _ else _) = (if _ then _ else _)
    rw [e4, uw (.inr k5), u4 (by omega), ha.mem]
  by_cases k6 : x.f0 = 6
  · have hj : ((x.f6.toNat : Nat) : Int) = x.f6 := by have := hF.t; omega
    have hs : ((x.f6.toNat : Nat) : Int) ∈ succL x p := by unfold succL; rw [if_neg (by omega), if_pos k6, hj]; simp
    rw [plain6 x s k6, plain6 _ t (by rw [e0]; exact k6)]
    refine ⟨x.f6.toNat, hon _ hs (by have := hF.t; omega) hj.symm ?_ ha.mem ha.own ha.over (fun r hr => same r hr (by omega))⟩
    show (mvx (tgt g) x).f6 = _
    rw [e6 (.inl k6), ← htg _ hs (by have := hF.t; omega), hj]
  by_cases k7 : x.f0 = 7 ∧ getG s.regs x.f3 = 0
  · have hj : ((x.f6.toNat : Nat) : Int) = x.f6 := by have := hF.t; omega
    have k70 := k7.1
    have hs : ((x.f6.toNat : Nat) : Int) ∈ succL x p := by unfold succL; rw [if_neg (by omega), if_neg (by omega), if_pos k7.1, hj]; simp
    have k7t : (mvx (tgt g) x).f0 = 7 ∧ getG t.regs (mvx (tgt g) x).f3 = 0 := ⟨e0.trans k7.1, by rw [e3, ← u3 (by omega)]; exact k7.2⟩
    rw [plain7 x s k7, plain7 _ t k7t]
    refine ⟨x.f6.toNat, hon _ hs (by have := hF.t; omega) hj.symm ?_ ha.mem ha.own ha.over (fun r hr => same r hr (by omega))⟩
    show (mvx (tgt g) x).f6 = _
    rw [e6 (.inr k7.1), ← htg _ hs (by have := hF.t; omega), hj]
  · have k7t : ¬ ((mvx (tgt g) x).f0 = 7 ∧ getG t.regs (mvx (tgt g) x).f3 = 0) := fun hk => by
      rw [e0, e3] at hk
      have hk0 := hk.1
      exact k7 ⟨hk.1, by rw [u3 (by omega)]; exact hk.2⟩
    rw [plainE x s (by omega) k7, plainE _ t (by rw [e0]; omega) k7t]
    exact ⟨p + 1, hon (p + 1) (s1 k6) (hnx (by omega)) hsp hct ha.mem ha.own ha.over (fun r hr => same r hr (by omega))⟩
end
end Go.Proofs.YtdopacgaklaaeaaDoor.PDeadRuns
