import Derived.Test.YtdopacgaklaaeaaDoorPDeadRunsx0
import Derived.Test.YtdopacgaklaaeaaDoorPDeadRunsx6
import Derived.Test.YtdopacgaklaaeaaDoorPDeadRunsx7
import Derived.Test.YtdopacgaklaaeaaDoorPDeadRunsx8
import Derived.Test.YtdopacgaklaaeaaDoorPDeadRunshg0
import Derived.Test.YtdopacgaklaaeaaDoorPDeadRunshg2
import Derived.Test.YtdopacgaklaaeaaDoorPDeadRunshdback2
import Derived.Test.YtdopacgaklaaeaaDoorPDeadRunshdcode
import Derived.Test.YtdopacgaklaaeaaDoorPDeadRunshdneed
import Derived.Test.YtdopacgaklaaeaaDoorPDeadRunshdruns2
import Derived.Test.YtdopacgaklaaeaaDoorPDeadRunshg4
import Derived.Test.YtdopacgaklaaeaaDoorPDeadRunshg1
import Derived.Test.YtdopacgaklaaeaaDoorPDeadRunshplain0
import Derived.Test.YtdopacgaklaaeaaDoorPDeadRunshg3
import Derived.Test.YtdopacgaklaaeaaDoorPDeadRunshdruns3
import Derived.Test.YtdopacgaklaaeaaDoorPDeadRunshdcode
namespace Go.Proofs.YtdopacgaklaaeaaDoor.PDeadRuns
open Go.RowKit Go.Proofs.YtdopacgaklaaeaaDoorW.PrintWords Go.Proofs.YtdopacgaklaaeaaDoorW.PrintLast Go.Proofs.YtdopacgaklaaeaaDoorW.PrintMore
set_option linter.unusedVariables false
set_option linter.unusedSimpArgs false
/-! DeadRuns: what the law comes to, and that it holds. -/
theorem plain_over' (x : S28) (s : MSt) : (plainS x s).over = s.over := by
  unfold plainS
  repeat' (first | rfl | split)
section
variable {c : List S28} {re g : List Bool} {A B : List (List Int)}
theorem CodeD.run (h : CodeD c re A B g) : ∀ (f : Nat) (s t : MSt) (p f' : Nat), AtD c re A g s t p → s.over = false → f ≤ f' → (runS c f s).2.2 ≠ 3 → (runS (lessL c g) f' t).2 = (runS c f s).2 ∧ RelD c re A g (runS c f s).1 (runS (lessL c g) f' t).1
  | 0, s, t, p, f', ha, ho, hf, h3 => absurd rfl h3
  | f + 1, s, t, p, f', ha, ho, hf, h3 => by
    have hfc : fetchS c s = c.getD p z28 := by unfold fetchS; rw [ha.pc, if_pos ⟨by omega, by have := ha.lt; omega⟩, Int.toNat_natCast]
    have hrc := runS_succ c f s
    rw [hfc] at hrc
    cases hg : g.getD p false with
    | true =>
      have hgo := h.gone ha.lt ha.re hg
      have hk : (c.getD p z28).f0 < 5 ∨ (c.getD p z28).f0 = 6 := hgo.imp (fun h => h.1) (fun h => h.1)
      have hsk := h.skip ha hg
      clear hgo
      generalize c.getD p z28 = x at hrc hk hsk
      rw [if_neg (by omega), if_neg (by omega), if_neg (by omega), if_neg (by omega)] at hrc
      rw [hrc] at h3 ⊢
      exact CodeD.run h f _ t (p + 1) f' hsk (by rw [plain_over']; exact ho) (by omega) h3
    | false =>
      obtain ⟨f1, rfl⟩ : ∃ f1, f' = f1 + 1 := ⟨f' - 1, by omega⟩
      obtain ⟨l1, l2⟩ := less_at h.gl p ha.lt hg
      have hfd : fetchS (lessL c g) t = mvx (tgt g) (c.getD p z28) := by unfold fetchS; rw [ha.tpc, if_pos ⟨by omega, by omega⟩, Int.toNat_natCast, l1]
      have hrd := runS_succ (lessL c g) f1 t
      rw [hfd] at hrd
      have hF := h.fact ha.lt
      have hst := h.step ha hg
      have hkeep := fun r => @CodeD.keep c re g A B h p ha.lt r
      have huse := fun r => @CodeD.use c re g A B h p ha.lt r
      have hnx := @CodeD.nxt c re g A B h p ha.lt
      have hon := fun (j : Nat) (hj : (j : Int) ∈ succL (c.getD p z28) p) (hi : j < c.length) => @CodeD.on c re g A B h p ha.lt ha.re j hj hi
      have hct : wrap64 (t.pc + 1) = ((cntD g false (p + 1) : Nat) : Int) := by
        rw [ha.tpc, h.wrapc, cntD_succ g false p (by rw [h.gl]; exact ha.lt), hg]; simp
      have hsp : wrap64 (s.pc + 1) = ((p + 1 : Nat) : Int) := by rw [ha.pc, h.wrap ha.lt]
      obtain ⟨x, hx⟩ : ∃ x, x = c.getD p z28 := ⟨_, rfl⟩
      rw [← hx] at hrc hrd hF hst hkeep huse hnx hon
      clear hx hfc hfd l1 l2
      obtain ⟨e0, e1, e2, e3, e4, e5, e6⟩ := mvx_f (tgt g) x
      rw [e0, e3, e5] at hrd
      have same : ∀ r ∈ B.getD p [], 5 ≤ x.f0 → getG s.regs r = getG t.regs r := fun r hr h5 => ha.regs r (hkeep r hr (fun h => absurd h (by omega)))
      have s1 : 8 ≤ x.f0 ∧ x.f0 < 12 → ((p + 1 : Nat) : Int) ∈ succL x p := fun hk => by
        unfold succL
        rw [if_neg (by omega), if_neg (by omega), if_neg (by omega)]; simp
      by_cases k11 : x.f0 = 11
      · rw [if_pos k11] at hrc hrd
        rw [hrc, hrd]
        refine ⟨?_, ha.mem, ha.own, ha.over, fun _ => ⟨p + 1, hon (p + 1) (s1 (by omega)) (hnx (by omega)) hsp hct ha.mem ha.own ha.over (fun r hr => same r hr (by omega))⟩⟩
        show (((0 : Int), getG t.regs x.f3), (0 : Int)) = (((0 : Int), getG s.regs x.f3), (0 : Int))
        rw [ha.regs x.f3 (huse _ (use_a (by omega) (hF.a (by omega))))]
      rw [if_neg k11] at hrc hrd
      by_cases k9 : x.f0 = 9 ∨ x.f0 = 10
      · rw [if_pos k9] at hrc hrd
        have hm : mvx (tgt g) x = x := by unfold mvx; rw [if_neg (by omega)]
        rw [hm] at hrd
        rw [hrc, hrd]
        unfold lockS
        rw [← ha.own]
        by_cases hq : x.f0 = 9 ∧ 0 ≤ ownerL s.own x.f5
        · rw [if_pos hq, if_pos hq]
          exact ⟨rfl, ha.mem, ha.own, ha.over, fun _ => ⟨p, ha⟩⟩
        · rw [if_neg hq, if_neg hq]
          exact ⟨rfl, ha.mem, rfl, ha.over, fun _ => ⟨p + 1, hon (p + 1) (s1 (by omega)) (hnx (by omega)) hsp hct ha.mem rfl ha.over (fun r hr => same r hr (by omega))⟩⟩
      rw [if_neg k9] at hrc hrd
      by_cases k12 : x.f0 = 12
      · rw [if_pos k12] at hrc hrd
        rw [hrc, hrd]
        exact ⟨rfl, ha.mem, ha.own, rfl, fun hq => absurd hq (by simp)⟩
      rw [if_neg k12] at hrc hrd
      by_cases k13 : x.f0 = 13
      · rw [if_pos k13] at hrc hrd
        rw [hrc, hrd]
        exact ⟨rfl, ha.mem, ha.own, rfl, fun hq => absurd hq (by simp)⟩
      rw [if_neg k13] at hrc hrd
      obtain ⟨j, hj⟩ := hst (by have := hF.k; omega)
      rw [hrc] at h3
      rw [hrc, hrd]
      exact CodeD.run h f _ _ j f1 hj (by rw [plain_over']; exact ho) (by omega) h3
theorem CodeD.start (h : CodeD c re A B g) (m : List Int) : RelD c re A g ⟨m, [], [], 0, false⟩ ⟨m, [], [], 0, false⟩ :=
  ⟨rfl, rfl, rfl, fun _ => ⟨0, rfl, h.pos, (h.way 0 (by omega)).2 (.refl 0), by simp [cntD], rfl, rfl, rfl, fun _ _ => rfl⟩⟩
end
/-- runs of the one are runs of the other, where no fuel lacks -/
def SimD (c d : List S28) : Prop := ∃ R : MSt → MSt → Prop, (∀ m, R ⟨m, [], [], 0, false⟩ ⟨m, [], [], 0, false⟩) ∧ ∀ s t, R s t → s.mem = t.mem ∧ ((nextS c 200 s).2.2 ≠ 3 → (nextS d 200 t).2 = (nextS c 200 s).2 ∧ R (nextS c 200 s).1 (nextS d 200 t).1)
theorem SimD.refl (c : List S28) : SimD c c := ⟨fun s t => s = t, fun _ => rfl, fun s t h => ⟨by rw [h], fun _ => ⟨by rw [h], by rw [h]⟩⟩⟩
theorem SimD.trans {a b c : List S28} (h : SimD a b) (k : SimD b c) : SimD a c := by
  obtain ⟨R, r0, r1⟩ := h
  obtain ⟨T, t0, t1⟩ := k
  refine ⟨fun s t => ∃ u, R s u ∧ T u t, fun m => ⟨_, r0 m, t0 m⟩, ?_⟩
  rintro s t ⟨u, h1, h2⟩
  obtain ⟨a1, a2⟩ := r1 s u h1
  obtain ⟨b1, b2⟩ := t1 u t h2
  refine ⟨a1.trans b1, fun h3 => ?_⟩
  obtain ⟨a3, a4⟩ := a2 h3
  obtain ⟨b3, b4⟩ := b2 (by rw [a3]; exact h3)
  exact ⟨b3.trans a3, _, a4, b4⟩
section
variable {c : List S28} {re g : List Bool} {A B : List (List Int)}
theorem CodeD.sim (h : CodeD c re A B g) : SimD c (lessL c g) := by
  refine ⟨RelD c re A g, h.start, fun s t hR => ?_⟩
  obtain ⟨h1, h2, h3, h4⟩ := hR
  refine ⟨h1, fun hn => ?_⟩
  unfold nextS at hn ⊢
  rw [← h3]
  by_cases ho : s.over = true
  · rw [if_pos ho, if_pos ho]
    exact ⟨rfl, h1, h2, h3, fun hq => absurd (ho.symm.trans hq) (by simp)⟩
  · rw [if_neg ho] at hn
    rw [if_neg ho, if_neg ho]
    obtain ⟨p, hp⟩ := h4 (by simpa using ho)
    exact h.run 200 s t p 200 hp (by simpa using ho) (Nat.le_refl _) hn
theorem last_kept (g : List Bool) : ∀ n, n ≤ g.length → 0 < cntD g false n → ∃ q, q < n ∧ g.getD q false = false ∧ cntD g false q + 1 = cntD g false n
  | 0, h, h0 => by simp [cntD] at h0
  | n + 1, h, h0 => by
    have hs := cntD_succ g false n (by omega)
    cases hg : g.getD n false with
    | false => rw [hg] at hs; exact ⟨n, by omega, hg, hs.symm⟩
    | true =>
      rw [hg, if_neg (by simp)] at hs
      obtain ⟨q, q1, q2, q3⟩ := last_kept g n (by omega) (by omega)
      exact ⟨q, by omega, q2, by omega⟩
theorem one_mvx {x : S28} {n m : Nat} {t : Int → Int} (h : oneB x n 30 9 = true) (hm : 0 < m) (ht : 0 ≤ t x.f6 ∧ t x.f6 < (m : Int)) : oneB (mvx t x) m 30 9 = true := by
  unfold mvx
  by_cases hk : x.f0 = 6 ∨ x.f0 = 7
  · rw [if_pos hk]
    simp only [oneB, Bool.and_eq_true, decide_eq_true_eq] at h ⊢
    obtain ⟨a1, a2, a3, a4, a5, a6, a7, a8, a9, a10, _, _⟩ := h
    refine ⟨a1, a2, a3, a4, a5, a6, a7, a8, ?_, a10, ht.1, ht.2⟩
    have : fT x.f0 = true := by unfold fT; rcases hk with h | h <;> rw [h] <;> rfl
    simp [this]
  · rw [if_neg hk]
    simp only [oneB, Bool.and_eq_true, decide_eq_true_eq] at h ⊢
    obtain ⟨a1, a2, a3, a4, a5, a6, a7, a8, a9, a10, a11, a12⟩ := h
    have h0 : x.f6 = 0 := by unfold fT at a9; simp at a9; omega
    exact ⟨a1, a2, a3, a4, a5, a6, a7, a8, a9, a10, a11, by omega⟩
theorem CodeD.check (h : CodeD c re A B g) : checkB (lessL c g) 30 9 = true := by
  have hgl := h.gl
  have hl := lessL_len hgl
  have hlen := h.len
  have h0 := h.pos
  have hf := cntD_full g false
  obtain ⟨q0, _, q2, q3⟩ := h.later c.length 0 (by omega) h.pos ((h.way 0 (by omega)).2 (.refl 0))
  have hpos := cntF_lt g q0 (by omega) q3
  have hle : g.count false ≤ g.length := List.count_le_length
  obtain ⟨q, k1, k2, k3⟩ := last_kept g g.length (Nat.le_refl _) (by omega)
  have hre : at_ re (q : Int) = true := by
    have hk := k2
    rw [h.gd, NL_get _ _ _ _ (by omega)] at hk
    unfold nl at hk
    unfold at_
    rw [Int.toNat_natCast]
    cases hr : re.getD q false with
    | true => rfl
    | false => rw [hr, if_neg (by simp)] at hk; cases hk
  obtain ⟨l1, l2⟩ := less_at hgl q (by omega) k2
  simp only [checkB, Bool.and_eq_true, decide_eq_true_eq, List.all_eq_true]
  refine ⟨by omega, by omega, fun x hx => ?_, ?_⟩
  · obtain ⟨y, hy, rfl⟩ := List.mem_map.1 (keepL_sub _ _ _ x hx)
    refine one_mvx (h.one y hy) (by omega) ?_
    unfold tgt
    rw [mn_eq]
    omega
  · have hlast : (lessL c g).getD ((lessL c g).length - 1) z28 = mvx (tgt g) (c.getD q z28) := by rw [← l1]; congr 1; omega
    have e0 := (mvx_f (tgt g) (c.getD q z28)).1
    unfold endsB
    rw [show rd_T28 (lessL c g) (((lessL c g).length : Int) - 1) = (lessL c g).getD ((lessL c g).length - 1) z28 by unfold rd_T28; rw [show (((lessL c g).length : Int) - 1).toNat = (lessL c g).length - 1 by omega], hlast, e0]
    by_cases hk : (c.getD q z28).f0 = 6 ∨ (c.getD q z28).f0 = 12 ∨ (c.getD q z28).f0 = 13
    · simpa using hk
    · exfalso
      have hq : q < c.length := by omega
      have hn := h.nxt hq hk
      have hm : ((q : Int) + 1) ∈ succL (c.getD q z28) q := by
        unfold succL
        rw [if_neg (by omega), if_neg (by omega)]
        split <;> simp
      have hr2 := (h.go hq hre hm ⟨by omega, by omega⟩).1
      obtain ⟨q', r1, r2, r3⟩ := h.later c.length (q + 1) (by omega) hn (by simpa using hr2)
      have m1 := cntF_mono g (q + 1) q' r1
      have m2 := cntF_lt g q' (by omega) r3
      have m3 : cntD g false (q + 1) = cntD g false q + 1 := by have := cntD_succ g false q (by omega); rw [k2] at this; exact this
      omega
end
theorem codeD_of {c : List S28} {g : List Bool} (hc : checkB c 30 9 = true) (hl : c.length ≤ 1000) (hn : Ev (fun k => dead_Needless.f k c) g) : ∃ re A B, CodeD c re A B g := by
  obtain ⟨hok, _, hpos⟩ := ok_of_check hc
  obtain ⟨_, _, h3, h4⟩ := check_facts hc
  obtain ⟨re, A, B, hre, hrel, hway, hF, hn'⟩ := needless_ev c hpos hl hok
  exact ⟨re, A, B, hl, hpos, h3, h4, hrel, hway, hF, Ev.det hn hn'⟩
theorem steps_sim {c d : List S28} (h : Steps c d) : checkB c 30 9 = true → c.length ≤ 1000 → SimD c d ∧ checkB d 30 9 = true := by
  induction h with
  | stay hn hg ht => exact fun hc hl => ⟨SimD.refl _, hc⟩
  | @halt c g hn hg ht hf =>
    intro hc hl
    obtain ⟨re, A, B, hD⟩ := codeD_of hc hl hn
    obtain ⟨q, _, q2, q3⟩ := hD.later _ 0 (Nat.le_refl _) hD.pos ((hD.way 0 (by omega)).2 (.refl 0))
    have : false ∈ g := by rw [← q3, List.getD_eq_getElem?_getD, List.getElem?_eq_getElem (by rw [hg]; exact q2)]; exact List.getElem_mem _
    simp [this] at hf
  | go hn hg ht hf hs ih =>
    intro hc hl
    obtain ⟨re, A, B, hD⟩ := codeD_of hc hl hn
    obtain ⟨i1, i2⟩ := ih hD.check (by
      rw [lessL_len hg]
      exact Nat.le_trans List.count_le_length (by omega))
    exact ⟨hD.sim.trans i1, i2⟩
def runsL (c d : List S28) : Nat → MSt → MSt → Bool
  | 0, _, _ => true
  | n + 1, s, t => if (nextS c 200 s).2.2 = 3 ∨ (nextS d 200 t).2.2 = 3 then true else if (nextS c 200 s).2.1 = (nextS d 200 t).2.1 ∧ (nextS c 200 s).2.2 = (nextS d 200 t).2.2 ∧ (nextS c 200 s).1.mem = (nextS d 200 t).1.mem then runsL c d n (nextS c 200 s).1 (nextS d 200 t).1 else false
theorem runs_turns {c d : List S28} {R : MSt → MSt → Prop} (hR : ∀ s t, R s t → s.mem = t.mem ∧ ((nextS c 200 s).2.2 ≠ 3 → (nextS d 200 t).2 = (nextS c 200 s).2 ∧ R (nextS c 200 s).1 (nextS d 200 t).1)) : ∀ (n : Nat) (s t : MSt), R s t → runsL c d n s t = true
  | 0, s, t, h => rfl
  | n + 1, s, t, h => by
    rw [runsL]
    by_cases h3 : (nextS c 200 s).2.2 = 3
    · rw [if_pos (.inl h3)]
    · obtain ⟨_, h2⟩ := hR s t h
      obtain ⟨k1, k2⟩ := h2 h3
      rw [if_neg (by rw [k1]; rintro (h | h) <;> exact h3 h), if_pos ⟨by rw [k1], by rw [k1], (hR _ _ k2).1⟩]
      exact runs_turns hR n _ _ k2
def palinglaw18_DeadRuns.f (k : Nat) (l0 : List S28) (l1 : List Int) (a2 : Int) : Option Bool :=
  (palinglaw18_awake.f k).bind fun up => if up = true then (if l0.length ≤ 60 ∧ l1.length ≤ 60 then (palingref11_Check.f k l0 30 9).bind fun ok => if ok = true then (dead_Code.f k l0).bind fun d =>
    (if d.length ≤ l0.length then (palingref11_Check.f k d 30 9).bind fun ok2 => (if ok2 = true then (dead_Needless.f k d).bind fun n => (if n.contains true = false ∧ runsL l0 d (Int.tmod a2 20).toNat ⟨l1, [], [], 0, false⟩ ⟨l1, [], [], 0, false⟩ = true then some true else none) else none) else none) else some true else some true) else none
theorem runs_holds (l0 : List S28) (l1 : List Int) (a2 : Int) : Ev (fun k => palinglaw18_DeadRuns.f k l0 l1 a2) true := by
  unfold palinglaw18_DeadRuns.f
  refine Ev.bind awake18 (Ev.tt ?_)
  by_cases hs : l0.length ≤ 60 ∧ l1.length ≤ 60
  · refine Ev.pos hs (Ev.bind (check_spec l0 30 9) ?_)
    cases hc : checkB l0 30 9 with
    | false => exact Ev.neg (by simp) (Ev.now _)
    | true =>
      obtain ⟨hok, _, hpos⟩ := ok_of_check hc
      obtain ⟨d, hst, hd, q1, q2, q3, g, hg, hgl, hgt⟩ := code_steps l0.length l0 (Nat.le_refl _) (by omega) hpos hok
      obtain ⟨⟨R, r0, r1⟩, hcd⟩ := steps_sim hst hc (by omega)
      have hck := check_spec d 30 9
      rw [hcd] at hck
      exact Ev.pos rfl (Ev.bind hd (Ev.pos q1 (Ev.bind hck (Ev.pos rfl (Ev.bind hg (Ev.pos ⟨hgt, runs_turns r1 _ _ _ (r0 l1)⟩ (Ev.now _)))))))
  · exact Ev.neg hs (Ev.now _)
end Go.Proofs.YtdopacgaklaaeaaDoor.PDeadRuns
