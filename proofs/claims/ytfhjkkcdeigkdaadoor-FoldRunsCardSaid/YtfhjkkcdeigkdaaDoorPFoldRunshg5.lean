import Derived.Test.YtfhjkkcdeigkdaaDoorPFoldRunsx0
import Derived.Test.YtfhjkkcdeigkdaaDoorPFoldRunshg4
import Derived.Test.YtfhjkkcdeigkdaaDoorPFoldRunshg2
import Derived.Test.YtfhjkkcdeigkdaaDoorPFoldRunshforms
import Derived.Test.YtfhjkkcdeigkdaaDoorPFoldRunshg6
import Derived.Test.YtfhjkkcdeigkdaaDoorPFoldRunshg1
import Derived.Test.YtfhjkkcdeigkdaaDoorPFoldRunshmplain
import Derived.Test.YtfhjkkcdeigkdaaDoorPFoldRunshg0
import Derived.Test.YtfhjkkcdeigkdaaDoorPFoldRunshg7
import Derived.Test.YtfhjkkcdeigkdaaDoorPFoldRunsx3
import Derived.Test.YtfhjkkcdeigkdaaDoorPFoldRunsx6
import Derived.KernelRfl
import Derived.BigQuiet
import Derived.Deep.QuietTactic
namespace Go.Proofs.YtfhjkkcdeigkdaaDoor.PFoldRuns
open Go.RowKit Go.Proofs.YtfhjkkcdeigkdaaDoorW.PrintWords Go.Proofs.YtfhjkkcdeigkdaaDoorW.PrintLast Go.Proofs.YtfhjkkcdeigkdaaDoorW.PrintMore
set_option linter.unusedVariables false
set_option linter.unusedSimpArgs false
/-! What is known is so, and the code in which it stands runs as the code does. -/
def SoundR (F : KF) (l : List S69) : Prop := ∀ r v, F r = some v → getG l r = v
theorem SoundR.le {F F' : KF} {l : List S69} (h : SoundR F l) (k : leK F' F) : SoundR F' l := fun r v e => h r v (k r v e)
theorem SoundR.kn {F : KF} {l : List S69} (h : SoundR F l) (r : Int) (hk : (knQ F r).2 = true) : (knQ F r).1 = getG l r := by
  unfold knQ at hk ⊢
  cases hf : F r with
  | none => rw [hf] at hk; cases hk
  | some v => exact (h r v hf).symm
theorem SoundR.val {F : KF} {l : List S69} (h : SoundR F l) (x : S53) (hk : (valQ F x).2 = true) : (x.f0 = 0 ∨ x.f0 = 1 ∨ x.f0 = 2 ∨ x.f0 = 3) ∧ (valQ F x).1 = valueL l x := by
  unfold valQ at hk ⊢
  unfold valueL
  by_cases k0 : x.f0 = 0
  · rw [if_pos k0, if_pos k0]; exact ⟨.inl k0, rfl⟩
  rw [if_neg k0] at hk ⊢
  rw [if_neg k0]
  by_cases k1 : x.f0 = 1
  · rw [if_pos k1] at hk ⊢
    rw [if_pos k1]
    exact ⟨.inr (.inl k1), h.kn _ hk⟩
  rw [if_neg k1] at hk ⊢
  rw [if_neg k1]
  by_cases k2 : x.f0 = 2
  · rw [if_pos k2] at hk ⊢
    rw [if_pos k2]
    rw [Bool.and_eq_true] at hk
    refine ⟨.inr (.inr (.inl k2)), ?_⟩
    dsimp only
    rw [h.kn _ hk.1, h.kn _ hk.2]
  rw [if_neg k2] at hk ⊢
  rw [if_neg k2]
  by_cases k3 : x.f0 = 3
  · rw [if_pos k3] at hk ⊢
    refine ⟨.inr (.inr (.inr k3)), ?_⟩
    cases ha : (knQ F x.f3).2 with
    | false =>
      simp only [ha, if_true, Bool.and_eq_true] at hk ⊢
      obtain ⟨t1, t2, t3⟩ := hk
      have e := eq_of_beq t3
      rw [h.kn _ t1, h.kn _ t2] at e
      rw [h.kn _ t1]
      split
      · rfl
      · exact e
    | true =>
      have e3 := h.kn _ ha
      simp only [ha, Bool.true_eq_false, if_false] at hk ⊢
      by_cases hz : (knQ F x.f3).1 ≠ 0
      · simp only [if_pos hz] at hk ⊢
        rw [if_neg (by rw [← e3]; exact hz)]
        exact h.kn _ hk
      · simp only [if_neg hz] at hk ⊢
        rw [if_pos (by rw [← e3]; exact Classical.not_not.1 hz)]
        exact h.kn _ hk
  · rw [if_neg k3] at hk; cases hk
theorem defI_kind {x : S53} (hk : 0 ≤ x.f0 ∧ x.f0 < 14) : defI x = if x.f0 < 5 then x.f2 else -1 := by
  unfold defI
  have : ∀ k : Int, 0 ≤ k ∧ k < 14 → fmB 1 k = decide (k < 5) := fun k hk => kind_cases' (P := fun k => fmB 1 k = decide (k < 5)) k hk (by decide +kernel) (by decide +kernel) (by decide +kernel) (by decide +kernel) (by decide +kernel) (by decide +kernel) (by decide +kernel) (by decide +kernel) (by decide +kernel) (by decide +kernel) (by decide +kernel) (by decide +kernel) (by decide +kernel) (by decide +kernel)
  rw [this _ hk]
  simp
theorem beh_id {x : S53} (hk : 0 ≤ x.f0 ∧ x.f0 < 14) (h5 : ¬ x.f0 < 5) (F : KF) : behK F x = F := by
  unfold behK
  rw [defI_kind hk, if_neg h5, if_neg (by omega)]
theorem plainS_regs {x : S53} (h5 : 5 ≤ x.f0) (s : MSt) : (plainS x s).regs = s.regs := by
  unfold plainS
  rw [if_neg (by omega), if_neg (by omega)]
  split
  · rfl
  · split
    · rfl
    · split <;> rfl
theorem SoundR.plain {F : KF} {s : MSt} (h : SoundR F s.regs) {x : S53} (hk : 0 ≤ x.f0 ∧ x.f0 < 14) (hd : x.f0 < 5 → 0 ≤ x.f2) : SoundR (behK F x) (plainS x s).regs := by
  by_cases h5 : x.f0 < 5
  · have h2 := hd h5
    intro r v hv
    unfold behK at hv
    rw [defI_kind hk, if_pos h5, if_pos h2] at hv
    have key : ∃ u, (plainS x s).regs = putG s.regs x.f2 u ∧ ((x.f0 = 0 ∨ x.f0 = 1 ∨ x.f0 = 2 ∨ x.f0 = 3) → u = valueL s.regs x) := by
      unfold plainS
      by_cases h4 : x.f0 = 4
      · rw [if_neg (by omega), if_pos h4]; exact ⟨_, rfl, fun h => by omega⟩
      · rw [if_pos (by omega)]; exact ⟨_, rfl, fun _ => rfl⟩
    obtain ⟨u, hu, hw⟩ := key
    rw [hu, get_put _ _ _ _ h2]
    by_cases hr : r = x.f2
    · rw [if_pos hr] at hv ⊢
      unfold valK at hv
      by_cases ht : (valQ F x).2 = true
      · rw [if_pos ht] at hv
        obtain ⟨t1, t2⟩ := h.val x ht
        rw [hw t1, ← t2]
        exact Option.some.inj hv
      · rw [if_neg ht] at hv; cases hv
    · rw [if_neg hr] at hv ⊢
      exact h r v hv
  · rw [beh_id hk h5, plainS_regs (by omega)]
    exact h
theorem plain_succ {x : S53} (hk : 0 ≤ x.f0 ∧ x.f0 < 9) {s : MSt} {i : Nat} (hi : s.pc = (i : Int)) (h1 : i ≤ 100000) : (plainS x s).pc ∈ succL x i := by
  have hw : wrap64 (s.pc + 1) = (i : Int) + 1 := by rw [hi]; exact wrap_in (by omega) (by omega)
  have hS : succL x i = if x.f0 = 6 then [x.f6] else if x.f0 = 7 then [(i : Int) + 1, x.f6] else [(i : Int) + 1] := by unfold succL; rw [if_neg (show ¬ (x.f0 = 12 ∨ x.f0 = 13) by omega)]
  rw [hS]
  by_cases h6 : x.f0 = 6
  · have e : (plainS x s).pc = x.f6 := by unfold plainS; rw [if_neg (by omega), if_neg (by omega), if_neg (by omega), if_pos h6]
    rw [if_pos h6, e]; exact List.mem_singleton.2 rfl
  rw [if_neg h6]
  have key : (plainS x s).pc = (i : Int) + 1 ∨ (x.f0 = 7 ∧ (plainS x s).pc = x.f6) := by
    unfold plainS
    rw [hw]
    split
    · exact .inl rfl
    · split
      · exact .inl rfl
      · split
        · exact .inl rfl
        · split
          · rename_i e; exact .inr ⟨e.1, rfl⟩
          · exact .inl rfl
  by_cases h7 : x.f0 = 7
  · rw [if_pos h7]
    rcases key with e | ⟨_, e⟩
    · rw [e]; exact List.mem_cons_self
    · rw [e]; exact List.mem_cons_of_mem _ (List.mem_singleton.2 rfl)
  · rw [if_neg h7]
    rcases key with e | ⟨e, _⟩
    · rw [e]; exact List.mem_singleton.2 rfl
    · exact absurd e h7
/-- where it stands, what is known there is so -/
def KInv (c : List S53) (Z : Nat → Option KF) (s : MSt) : Prop := s.over = false → ∃ p : Nat, s.pc = (p : Int) ∧ p < c.length ∧ ∃ z, Z p = some z ∧ SoundR z s.regs
structure CodeK (c : List S53) (Z : Nat → Option KF) : Prop where
  len : c.length ≤ 1000
  pos : 0 < c.length
  next : NextOK c
  kind : ∀ i, i < c.length → 0 ≤ (c.getD i z53).f0 ∧ (c.getD i z53).f0 < 14
  dest : ∀ i, i < c.length → (c.getD i z53).f0 < 5 → 0 ≤ (c.getD i z53).f2
  post : PostK c Z
section
variable {c : List S53} {Z : Nat → Option KF}
theorem CodeK.start (h : CodeK c Z) (m : List Int) : KInv c Z ⟨m, [], [], 0, false⟩ := fun _ => by
  obtain ⟨z, hz, hn⟩ := h.post.zero
  exact ⟨0, rfl, h.pos, z, hz, fun r v e => by rw [hn r] at e; cases e⟩
theorem CodeK.move (h : CodeK c Z) {p : Nat} (hp : p < c.length) {z : KF} (hz : Z p = some z) {s' : MSt} (hs : s'.pc ∈ succL (c.getD p z53) p) (hr : SoundR (behK z (c.getD p z53)) s'.regs) : KInv c Z s' := fun _ => by
  have hn := succ_nxI h.len hp (h.kind p hp) hs
  obtain ⟨h0, h1⟩ := h.next p hp _ hn
  obtain ⟨z', hz', hle⟩ := h.post.go p hp z hz _ hn
  exact ⟨s'.pc.toNat, by omega, by omega, z', hz', hr.le hle⟩
theorem CodeK.fetch {s : MSt} {p : Nat} (hp : s.pc = (p : Int)) (hl : p < c.length) : fetchS c s = c.getD p z53 := by
  unfold fetchS
  rw [hp, if_pos ⟨by omega, by omega⟩, Int.toNat_natCast]
theorem CodeK.run (h : CodeK c Z) : ∀ (f : Nat) (s : MSt), s.over = false → KInv c Z s → KInv c Z (runS c f s).1
  | 0, s, _, hs => hs
  | f + 1, s, ho, hs => by
    obtain ⟨p, hp, hl, z, hz, hr⟩ := hs ho
    have hk := h.kind p hl
    have hlen := h.len
    have hw : wrap64 (s.pc + 1) = (p : Int) + 1 := by rw [hp]; exact wrap_in (by omega) (by omega)
    have one : ∀ {s' : MSt}, 5 ≤ (c.getD p z53).f0 → (c.getD p z53).f0 ≠ 12 → (c.getD p z53).f0 ≠ 13 → (c.getD p z53).f0 ≠ 6 → s'.pc = wrap64 (s.pc + 1) → s'.regs = s.regs → KInv c Z s' := fun {s'} h5 h12 h13 h6 h1 h2 => by
      refine h.move hl hz ?_ ?_
      · rw [h1, hw]; unfold succL; rw [if_neg (by omega), if_neg h6]; split <;> simp
      · rw [beh_id hk (by omega), h2]; exact hr
    unfold runS
    rw [CodeK.fetch hp hl]
    by_cases h11 : (c.getD p z53).f0 = 11
    · rw [if_pos h11]; exact one (by omega) (by omega) (by omega) (by omega) rfl rfl
    rw [if_neg h11]
    by_cases h9 : (c.getD p z53).f0 = 9 ∨ (c.getD p z53).f0 = 10
    · rw [if_pos h9]
      unfold lockS
      split
      · exact hs
      · exact one (by omega) (by omega) (by omega) (by omega) rfl rfl
    rw [if_neg h9]
    by_cases h12 : (c.getD p z53).f0 = 12
    · rw [if_pos h12]; exact fun e => by cases e
    rw [if_neg h12]
    by_cases h13 : (c.getD p z53).f0 = 13
    · rw [if_pos h13]; exact fun e => by cases e
    rw [if_neg h13]
    refine CodeK.run h f _ (by rw [plainS_over]; exact ho) (h.move hl hz (plain_succ (by omega) hp (by omega)) (hr.plain hk (h.dest p hl)))
theorem CodeK.nexts (h : CodeK c Z) (f : Nat) (s : MSt) (hs : KInv c Z s) : KInv c Z (nextS c f s).1 := by
  unfold nextS
  by_cases ho : s.over = true
  · rw [if_pos ho]; exact hs
  · rw [if_neg ho]; exact h.run f s (by simpa using ho) hs
end
theorem kplain6 (x : S53) (s : MSt) (h : x.f0 = 6) : plainS x s = { s with pc := x.f6 } := by
  unfold plainS; rw [if_neg (by omega), if_neg (by omega), if_neg (by omega), if_pos h]
theorem kplain7 (x : S53) (s : MSt) (h : x.f0 = 7 ∧ getG s.regs x.f3 = 0) : plainS x s = { s with pc := x.f6 } := by
  have h7 := h.1
  unfold plainS; rw [if_neg (by omega), if_neg (by omega), if_neg (by omega), if_neg (by omega), if_pos h]
theorem kplainE (x : S53) (s : MSt) (h7 : 7 ≤ x.f0) (h : ¬ (x.f0 = 7 ∧ getG s.regs x.f3 = 0)) : plainS x s = { s with pc := wrap64 (s.pc + 1) } := by
  unfold plainS; rw [if_neg (by omega), if_neg (by omega), if_neg (by omega), if_neg (by omega), if_neg h]
/-- an instruction of which something is known does as it did -/
theorem one_plain {m : KL} {s : MSt} (h : SoundR (kgetL m) s.regs) (x : S53) {p : Int} (hp : s.pc = p) (hk : 0 ≤ x.f0 ∧ x.f0 < 9) : plainS (oneQ m x p) s = plainS x s ∧ 0 ≤ (oneQ m x p).f0 ∧ (oneQ m x p).f0 < 9 := by
  unfold oneQ
  by_cases h12 : x.f0 = 1 ∨ x.f0 = 2
  · rw [if_pos h12]
    by_cases hv : (valQ (kgetL m) x).2 = true
    · rw [if_pos hv]
      refine ⟨?_, by dsimp only; omega, by dsimp only; omega⟩
      unfold plainS
      rw [if_pos (.inl rfl), if_pos (by omega)]
      dsimp only
      rw [← (h.val x hv).2]
      rfl
    · rw [if_neg hv]; exact ⟨rfl, hk⟩
  rw [if_neg h12]
  by_cases h3 : x.f0 = 3
  · rw [if_pos h3]
    cases ha : (knQ (kgetL m) x.f3).2 with
    | false => rw [if_pos rfl]; exact ⟨rfl, hk⟩
    | true =>
      rw [if_neg (by simp)]
      have e3 := h.kn _ ha
      have hx : plainS x s = { s with regs := putG s.regs x.f2 (valueL s.regs x), pc := wrap64 (s.pc + 1) } := by unfold plainS; rw [if_pos (by omega)]
      have hv3 : valueL s.regs x = if getG s.regs x.f3 = 0 then getG s.regs x.f2 else getG s.regs x.f4 := by unfold valueL; rw [if_neg (by omega), if_neg (by omega), if_neg (by omega)]
      by_cases hz : (knQ (kgetL m) x.f3).1 = 0
      · rw [if_pos hz]
        refine ⟨?_, by dsimp only; omega, by dsimp only; omega⟩
        rw [hx, hv3, if_pos (by rw [← e3]; exact hz)]
        unfold plainS
        rw [if_pos (.inr (.inl rfl))]
        rfl
      · rw [if_neg hz]
        by_cases hv : (valQ (kgetL m) x).2 = true
        · rw [if_pos hv]
          refine ⟨?_, by dsimp only; omega, by dsimp only; omega⟩
          rw [hx, ← (h.val x hv).2]
          unfold plainS
          rw [if_pos (.inl rfl)]
          rfl
        · rw [if_neg hv]
          refine ⟨?_, by dsimp only; omega, by dsimp only; omega⟩
          rw [hx, hv3, if_neg (by rw [← e3]; exact hz)]
          unfold plainS
          rw [if_pos (.inr (.inl rfl))]
          rfl
  rw [if_neg h3]
  by_cases h7 : x.f0 = 7
  · rw [if_pos h7]
    cases ha : (knQ (kgetL m) x.f3).2 with
    | false => rw [if_pos rfl]; exact ⟨rfl, hk⟩
    | true =>
      rw [if_neg (by simp)]
      have e3 := h.kn _ ha
      by_cases hz : (knQ (kgetL m) x.f3).1 = 0
      · rw [if_pos hz]
        refine ⟨?_, by dsimp only; omega, by dsimp only; omega⟩
        rw [kplain6 _ s rfl, kplain7 x s ⟨h7, by rw [← e3]; exact hz⟩]
      · rw [if_neg hz]
        refine ⟨?_, by dsimp only; omega, by dsimp only; omega⟩
        rw [kplain6 _ s rfl, kplainE x s (by omega) (fun e => hz (by rw [e3]; exact e.2)), hp]
  · rw [if_neg h7]; exact ⟨rfl, hk⟩
theorem one_event {m : KL} (x : S53) (p : Int) (hk : 9 ≤ x.f0) : oneQ m x p = x := by
  unfold oneQ
  rw [if_neg (by omega), if_neg (by omega), if_neg (by omega)]
theorem code_run {c : List S53} {o : OS} (h : CodeK c (fun i => (o.getD i none).map kgetL)) : ∀ (f : Nat) (s : MSt), s.over = false → KInv c (fun i => (o.getD i none).map kgetL) s → runS (codeL c o) f s = runS c f s
  | 0, s, _, _ => rfl
  | f + 1, s, ho, hs => by
    obtain ⟨p, hp, hl, z, hz, hr⟩ := hs ho
    obtain ⟨m, hm, rfl⟩ := Option.map_eq_some_iff.1 hz
    have hk := h.kind p hl
    have hlen := h.len
    unfold runS
    rw [CodeK.fetch (c := codeL c o) hp (by rw [codeL_len]; exact hl), codeL_get c o p hl, CodeK.fetch hp hl, hm]
    show (if (oneQ m _ _).f0 = 11 then _ else if (oneQ m _ _).f0 = 9 ∨ (oneQ m _ _).f0 = 10 then lockS (oneQ m _ _) s else if (oneQ m _ _).f0 = 12 then _ else if (oneQ m _ _).f0 = 13 then _ else _) = _
    by_cases h9 : (c.getD p z53).f0 < 9
    · obtain ⟨e1, e2, e3⟩ := one_plain hr (c.getD p z53) hp ⟨hk.1, h9⟩
      rw [if_neg (by omega), if_neg (by omega), if_neg (by omega), if_neg (by omega), if_neg (by omega), if_neg (by omega), if_neg (by omega), if_neg (by omega)]
      show runS (codeL c o) f (plainS (oneQ m _ _) s) = _
      rw [e1]
      exact code_run h f _ (by rw [plainS_over]; exact ho) (h.move hl hz (plain_succ ⟨hk.1, h9⟩ hp (by omega)) (hr.plain hk (h.dest p hl)))
    · have e := one_event (m := m) (c.getD p z53) (p : Int) (by omega)
      show _ = _
      simp only [oneO, e]
      by_cases h11 : (c.getD p z53).f0 = 11
      · rw [if_pos h11, if_pos h11]
      rw [if_neg h11, if_neg h11]
      by_cases h9 : (c.getD p z53).f0 = 9 ∨ (c.getD p z53).f0 = 10
      · rw [if_pos h9, if_pos h9]
      rw [if_neg h9, if_neg h9]
      by_cases h12 : (c.getD p z53).f0 = 12
      · rw [if_pos h12, if_pos h12]
      rw [if_neg h12, if_neg h12, if_pos (by omega), if_pos (by omega)]
theorem code_next {c : List S53} {o : OS} (h : CodeK c (fun i => (o.getD i none).map kgetL)) (f : Nat) (s : MSt) (hs : KInv c (fun i => (o.getD i none).map kgetL) s) : nextS (codeL c o) f s = nextS c f s := by
  unfold nextS
  by_cases ho : s.over = true
  · rw [if_pos ho, if_pos ho]
  · rw [if_neg ho, if_neg ho]; exact code_run h f s (by simpa using ho) hs
end Go.Proofs.YtfhjkkcdeigkdaaDoor.PFoldRuns

namespace Go.Proofs.YtfhjkkcdeigkdaaDoor.PFoldRuns
open Go.RowKit Go.Proofs.YtfhjkkcdeigkdaaDoorW.PrintWords Go.Proofs.YtfhjkkcdeigkdaaDoorW.PrintLast Go.Proofs.YtfhjkkcdeigkdaaDoorW.PrintMore
set_option linter.unusedVariables false
set_option linter.unusedSimpArgs false
open Go.Shelf
/-! Chapter 16: the document's example; a checked code; the code in which what is known stands may be. -/
def twoM (a b : Int) : List Int := if a < b then [a, b] else if a = b then [a] else [b, a]
theorem pair_sorted {a b : Int} {l : List Int} (h : l.Pairwise (· < ·)) (hm : ∀ i, i ∈ l ↔ i = a ∨ i = b) : l = twoM a b := by
  have ha := (hm a).2 (.inl rfl)
  have hb := (hm b).2 (.inr rfl)
  unfold twoM
  match l, h, hm, ha, hb with
  | [], _, _, ha, _ => cases ha
  | [x], _, _, ha, hb =>
    have e1 := List.mem_singleton.1 ha
    have e2 := List.mem_singleton.1 hb
    rw [if_neg (by omega), if_pos (by omega), e1]
  | [x, y], h, hm, ha, hb =>
    have hxy : x < y := by simpa using h
    have h1 := (hm x).1 (by simp)
    have h2 := (hm y).1 (by simp)
    by_cases hab : a < b
    · rw [if_pos hab, show x = a by omega, show y = b by omega]
    · rw [if_neg hab, if_neg (by omega), show x = b by omega, show y = a by omega]
  | x :: y :: z :: t, h, hm, _, _ =>
    have h1 := (hm x).1 (by simp)
    have h2 := (hm y).1 (by simp)
    have h3 := (hm z).1 (by simp)
    simp only [List.pairwise_cons] at h
    have k1 := h.1 y (by simp)
    have k2 := h.2.1 z (by simp)
    omega
theorem twoL_eq (a b : Int) : twoL a b = twoM a b := pair_sorted (twoL_spec a b).1 (twoL_spec a b).2
def nextM (x : S53) (a1 : Int) : Option (List Int) := some (if ¬ (0 ≤ x.f0 ∧ x.f0 < 14) ∨ fmB 9 x.f0 = true then [] else if x.f0 = 6 then [x.f6] else if x.f0 = 7 then twoM (wrap64 (a1 + 1)) x.f6 else [wrap64 (a1 + 1)])
theorem nextM_eq (x : S53) (a1 : Int) : ins_Next.f x.f0 x.f1 x.f2 x.f3 x.f4 x.f5 x.f6 a1 = nextM x a1 := by
  unfold ins_Next.f nextM
  rw [twoL_eq]
def allM.l (c : List S53) : Nat → OS → List Int → Option OS
  | 0, _, _ => none
  | k + 1, o, [] => some o
  | k + 1, o, a :: wt => if 0 ≤ a ∧ a < (c.length : Int) ∧ o.length = c.length ∧ wt.length ≤ 1500000 then (o.getD a.toNat none).bind fun m => (nextM (c.getD a.toNat z53) a).bind fun L =>
      (fold_behind.f m (c.getD a.toNat z53)).bind fun kk => (fSteps kk L o wt).bind fun p => allM.l c k p.1 p.2 else none
theorem allM.eq (c : List S53) : ∀ (k : Nat) (o : OS) (wt : List Int), fold_all.l c k o wt = allM.l c k o wt
  | 0, _, _ => rfl
  | k + 1, o, [] => rfl
  | k + 1, o, a :: wt => by
    rw [fold_all.l, allM.l, nextM_eq]
    have ih : fold_all.l c k = allM.l c k := by funext o wt; exact allM.eq c k o wt
    rw [ih]
def allM.f (k : Nat) (c : List S53) : Option OS := if c.length ≤ 1000 then (if c = [] then some [] else allM.l c k ((List.replicate c.length none).set 0 (some [])) [0]) else none
theorem allM.same : fold_all.f = allM.f := by
  funext k c
  unfold fold_all.f allM.f
  rw [allM.eq]
def codeM (k : Nat) (l0 : List S53) : Option (List S53) := if l0.length ≤ 1000 then (allM.f k l0).bind fun o => if o.length = l0.length ∧ (List.range l0.length).all (fun i => okO (o.getD i none) (l0.getD i z53)) = true then some (codeL l0 o) else none else none
theorem codeM_same : fold_Code.f = codeM := by
  funext k c
  unfold fold_Code.f codeM
  rw [allM.same]
def knownM (k : Nat) (l0 : List S53) (a1 a2 : Int) : Option (Int × Bool) := if 0 ≤ a1 ∧ a1 < (l0.length : Int) then (allM.f k l0).bind fun o => if o.length = l0.length then some (knO (o.getD a1.toNat none) a2) else none else some (0, false)
theorem knownM_same : fold_Known.f = knownM := by
  funext k c a b
  unfold fold_Known.f knownM
  rw [allM.same]
theorem awake16 : Ev (fun k => palinglaw16_awake.f k) true := Ev.of palinglaw16_awake.mono (k := 20) (by
  unfold palinglaw16_awake.f
  rw [codeM_same, knownM_same]
  decide +kernel)
theorem check_unique {k : Nat} {l : List S53} {a b : Int} {v : Bool} (h : palingref11_Check.f k l a b = some v) : checkB l a b = v := by
  obtain ⟨k0, h0⟩ := check_spec l a b
  have h1 := h0 (k + k0) (by omega)
  have up : ∀ j, palingref11_Check.f (k + j) l a b = some v := fun j => by
    induction j with
    | zero => exact h
    | succ j ih => exact palingref11_Check.mono l a b (k + j) v ih
  exact Option.some.inj (h1.symm.trans (up k0))
theorem all_unique {k : Nat} {c : List S53} {o r : OS} (h : fold_all.f k c = some o) (hr : Ev (fun k => fold_all.f k c) r) : o = r := by
  obtain ⟨k0, h0⟩ := hr
  have h1 := h0 (k + k0) (by omega)
  have up : ∀ j, fold_all.f (k + j) c = some o := fun j => by
    induction j with
    | zero => exact h
    | succ j ih => exact fold_all.mono c (k + j) o ih
  exact Option.some.inj ((up k0).symm.trans h1)
theorem codeK_of {c : List S53} {R : Int} (hc : checkB c R 9 = true) (hl : c.length ≤ 1000) (h5 : ∀ x ∈ c, inR x.f5) : ∃ o, Ev (fun k => fold_all.f k c) o ∧ o.length = c.length ∧ CodeK c (fun i => (o.getD i none).map kgetL) ∧ ∀ i m, o.getD i none = some m → NdK m ∧ ∀ y ∈ m, KeyOK c y := by
  obtain ⟨h1, _, h3, h4⟩ := check_facts hc
  have hn := nextOK_of hc hl
  obtain ⟨o, ho, hol, hg, hk⟩ := all_ev h5 hn (by omega) hl
  have hx : ∀ i, i < c.length → oneB (c.getD i z53) c.length R 9 = true := fun i hi => h3 _ (by rw [List.getD_eq_getElem?_getD, List.getElem?_eq_getElem hi]; exact List.getElem_mem _)
  refine ⟨o, ho, hol, ⟨hl, by omega, hn, fun i hi => ?_, fun i hi hk5 => ?_, hg.post⟩, hk⟩
  · have h := hx i hi
    simp only [oneB, Bool.and_eq_true, decide_eq_true_eq] at h
    exact h.1
  · have h := hx i hi
    generalize c.getD i z53 = x at h hk5 ⊢
    simp only [oneB, Bool.and_eq_true, decide_eq_true_eq] at h
    obtain ⟨_, a2, _⟩ := h
    unfold regB at a2
    split at a2 <;> simp at a2 <;> omega
theorem one_check {m : KL} {x : S53} {n : Nat} {p : Int} (h : oneB x n 30 9 = true) (hp : x.f0 = 7 → 0 ≤ wrap64 (p + 1) ∧ wrap64 (p + 1) < (n : Int)) : oneB (oneQ m x p) n 30 9 = true := by
  have h0 := h
  simp only [oneB, Bool.and_eq_true, decide_eq_true_eq] at h
  obtain ⟨a1, a2, a3, a4, _, _, _, _, _, _, a6, a7⟩ := h
  have set_ok : ∀ v : Int, (x.f0 = 1 ∨ x.f0 = 2 ∨ x.f0 = 3) → oneB ⟨0, 0, x.f2, 0, 0, v, 0⟩ n 30 9 = true := fun v hk => by
    have hD : fD x.f0 = true := by unfold fD; rcases hk with h | h | h <;> rw [h] <;> rfl
    rw [hD] at a2
    simp only [oneB, Bool.and_eq_true, decide_eq_true_eq]
    refine ⟨by omega, ?_, by rfl, by rfl, by rfl, by omega, by omega, by rfl, by rfl, by rfl, by omega, by omega⟩
    exact a2
  have move_ok : ∀ r : Int, regB r 30 true false = true → (x.f0 = 1 ∨ x.f0 = 2 ∨ x.f0 = 3) → oneB ⟨1, 0, x.f2, r, 0, 0, 0⟩ n 30 9 = true := fun r hr hk => by
    have hD : fD x.f0 = true := by unfold fD; rcases hk with h | h | h <;> rw [h] <;> rfl
    rw [hD] at a2
    simp only [oneB, Bool.and_eq_true, decide_eq_true_eq]
    refine ⟨by omega, ?_, ?_, by rfl, by rfl, by omega, by omega, by rfl, by rfl, by rfl, by omega, by omega⟩
    · exact a2
    · exact hr
  have jump_ok : ∀ t : Int, 0 ≤ t ∧ t < (n : Int) → oneB ⟨6, 0, 0, 0, 0, 0, t⟩ n 30 9 = true := fun t ht => by
    simp only [oneB, Bool.and_eq_true, decide_eq_true_eq]
    refine ⟨by omega, by rfl, by rfl, by rfl, by rfl, by omega, by omega, by rfl, ?_, by rfl, ht.1, ht.2⟩
    have : fT 6 = true := rfl
    simp [this]
  unfold oneQ
  by_cases h12 : x.f0 = 1 ∨ x.f0 = 2
  · rw [if_pos h12]
    split
    · exact set_ok _ (by omega)
    · exact h0
  rw [if_neg h12]
  by_cases h3 : x.f0 = 3
  · rw [if_pos h3]
    split
    · exact h0
    · split
      · refine move_ok _ ?_ (by omega)
        have hD : fD x.f0 = true := by unfold fD; rw [h3]; rfl
        rw [hD] at a2
        exact a2
      · split
        · exact set_ok _ (by omega)
        · refine move_ok _ ?_ (by omega)
          have hB : fB x.f0 = true := by unfold fB; rw [h3]; rfl
          rw [hB] at a4
          exact a4
  rw [if_neg h3]
  by_cases h7 : x.f0 = 7
  · rw [if_pos h7]
    split
    · exact h0
    · split
      · exact jump_ok _ ⟨a6, a7⟩
      · exact jump_ok _ (hp h7)
  · rw [if_neg h7]; exact h0
theorem code_check {c : List S53} {o : OS} (hc : checkB c 30 9 = true) (hl : c.length ≤ 1000) : checkB (codeL c o) 30 9 = true := by
  obtain ⟨h1, h2, h3, h4⟩ := check_facts hc
  have hn := nextOK_of hc hl
  have hx : ∀ i, i < c.length → oneB (c.getD i z53) c.length 30 9 = true := fun i hi => h3 _ (by rw [List.getD_eq_getElem?_getD, List.getElem?_eq_getElem hi]; exact List.getElem_mem _)
  have hkind : ∀ i, i < c.length → 0 ≤ (c.getD i z53).f0 ∧ (c.getD i z53).f0 < 14 := fun i hi => by
    have h := hx i hi
    simp only [oneB, Bool.and_eq_true, decide_eq_true_eq] at h
    exact h.1
  have hlen := codeL_len c o
  simp only [checkB, Bool.and_eq_true, decide_eq_true_eq, List.all_eq_true]
  refine ⟨by omega, by omega, fun y hy => ?_, ?_⟩
  · obtain ⟨i, hi, rfl⟩ := List.mem_iff_getElem.1 hy
    have hi' : i < c.length := by omega
    have e : (codeL c o)[i] = oneO (o.getD i none) (c.getD i z53) (i : Int) := by
      rw [← codeL_get c o i hi', List.getD_eq_getElem?_getD, List.getElem?_eq_getElem hi]; rfl
    rw [e, hlen]
    cases o.getD i none with
    | none => exact hx i hi'
    | some m =>
      refine one_check (hx i hi') (fun h7 => ?_)
      have hs : ((i : Int) + 1) ∈ succL (c.getD i z53) i := by unfold succL; rw [if_neg (by omega), if_neg (by omega), if_pos h7]; exact List.mem_cons_self
      have := hn i hi' _ (succ_nxI hl hi' (hkind i hi') hs)
      rw [wrap_in (x := (i : Int) + 1) (by omega) (by omega)]
      exact this
  · have hp : c.length - 1 < c.length := by omega
    have e := codeL_get c o (c.length - 1) hp
    unfold endsB at h4 ⊢
    rw [show rd_T53 (codeL c o) (((codeL c o).length : Int) - 1) = (codeL c o).getD (c.length - 1) z53 by unfold rd_T53; rw [hlen, show ((c.length : Int) - 1).toNat = c.length - 1 by omega], e]
    rw [show rd_T53 c ((c.length : Int) - 1) = c.getD (c.length - 1) z53 by unfold rd_T53; rw [show ((c.length : Int) - 1).toNat = c.length - 1 by omega]] at h4
    simp only [Bool.or_eq_true, beq_iff_eq] at h4
    have hk : oneO (o.getD (c.length - 1) none) (c.getD (c.length - 1) z53) ((c.length - 1 : Nat) : Int) = c.getD (c.length - 1) z53 := by
      cases o.getD (c.length - 1) none with
      | none => rfl
      | some m =>
        show oneQ m _ _ = _
        unfold oneQ
        rw [if_neg (by omega), if_neg (by omega), if_neg (by omega)]
    rw [hk]
    simp only [Bool.or_eq_true, beq_iff_eq]
    exact h4
theorem code_unique {k : Nat} {c d e : List S53} (h : fold_Code.f k c = some d) (hr : Ev (fun k => fold_Code.f k c) e) : d = e := by
  obtain ⟨k0, h0⟩ := hr
  have h1 := h0 (k + k0) (by omega)
  have up : ∀ j, fold_Code.f (k + j) c = some d := fun j => by
    induction j with
    | zero => exact h
    | succ j ih => exact fold_Code.mono c (k + j) d ih
  exact Option.some.inj ((up k0).symm.trans h1)
/-- the law FoldKnows -/
def palinglaw16_FoldKnows.f (k : Nat) (l0 : List S53) (l1 : List Int) (_a2 : Int) : Option Bool :=
  (palinglaw16_awake.f k).bind fun up => if up = true then (if l0.length ≤ 40 ∧ l1.length ≤ 60 then (palingref11_Check.f k l0 12 9).bind fun ok => if ok = true then (if ∀ x ∈ l0, inR x.f5 then (fold_all.f k l0).bind fun _ => some true else none) else some true else some true) else none
theorem knows_holds (l0 : List S53) (l1 : List Int) (a2 : Int) (h5 : ∀ x ∈ l0, inR x.f5) : Ev (fun k => palinglaw16_FoldKnows.f k l0 l1 a2) true := by
  unfold palinglaw16_FoldKnows.f
  refine Ev.bind awake16 (Ev.tt ?_)
  by_cases hs : l0.length ≤ 40 ∧ l1.length ≤ 60
  · refine Ev.pos hs (Ev.bind (check_spec l0 12 9) ?_)
    cases hc : checkB l0 12 9 with
    | false => exact Ev.neg (by simp) (Ev.now _)
    | true =>
      obtain ⟨o, ho, _⟩ := codeK_of hc (by omega) h5
      exact Ev.pos rfl (Ev.pos h5 (Ev.bind ho (Ev.now _)))
  · exact Ev.neg hs (Ev.now _)
/-- the law FoldRuns -/
def palinglaw16_FoldRuns.f (k : Nat) (l0 : List S53) (l1 : List Int) (l2 : List Int) : Option Bool :=
  (palinglaw16_awake.f k).bind fun up => if up = true then (if l0.length ≤ 60 ∧ l1.length ≤ 60 ∧ l2.length ≤ 20 then (palingref11_Check.f k l0 30 9).bind fun ok => if ok = true then (if (∀ x ∈ l0, inR x.f5) ∧ (∀ x ∈ l2, 0 ≤ x ∧ x < 256) then (fold_Code.f k l0).bind fun d => (palingref11_Check.f k d 30 9).bind fun ok2 => if ok2 = true then some true else none else none) else some true else some true) else none
theorem fold_code_ev {c : List S53} {o : OS} (hl : c.length ≤ 1000) (ho : Ev (fun k => fold_all.f k c) o) (hol : o.length = c.length) (hk : ∀ i m, o.getD i none = some m → NdK m ∧ ∀ y ∈ m, KeyOK c y) : Ev (fun k => fold_Code.f k c) (codeL c o) := by
  unfold fold_Code.f
  refine Ev.pos hl (Ev.bind ho (Ev.pos ⟨hol, ?_⟩ (Ev.now _)))
  refine List.all_eq_true.2 fun i hi => ?_
  cases hq : o.getD i none with
  | none => rfl
  | some m => exact decide_eq_true (okV_of (hk i m hq).1 (hk i m hq).2 _)
theorem truns_holds (l0 : List S53) (l1 l2 : List Int) (h5 : ∀ x ∈ l0, inR x.f5) (h8 : ∀ x ∈ l2, 0 ≤ x ∧ x < 256) : Ev (fun k => palinglaw16_FoldRuns.f k l0 l1 l2) true := by
  unfold palinglaw16_FoldRuns.f
  refine Ev.bind awake16 (Ev.tt ?_)
  by_cases hs : l0.length ≤ 60 ∧ l1.length ≤ 60 ∧ l2.length ≤ 20
  · refine Ev.pos hs (Ev.bind (check_spec l0 30 9) ?_)
    cases hc : checkB l0 30 9 with
    | false => exact Ev.neg (by simp) (Ev.now _)
    | true =>
      obtain ⟨o, ho, hol, _, hk⟩ := codeK_of hc (by omega) h5
      have hck := check_spec (codeL l0 o) 30 9
      rw [code_check hc (by omega)] at hck
      exact Ev.pos rfl (Ev.pos ⟨h5, h8⟩ (Ev.bind (fold_code_ev (by omega) ho hol hk) (Ev.bind hck (Ev.pos rfl (Ev.now _)))))
  · exact Ev.neg hs (Ev.now _)
end Go.Proofs.YtfhjkkcdeigkdaaDoor.PFoldRuns

namespace Go.Proofs.YtfhjkkcdeigkdaaDoor.PFoldRuns
open Go.RowKit Go.Proofs.YtfhjkkcdeigkdaaDoorW.PrintWords Go.Proofs.YtfhjkkcdeigkdaaDoorW.PrintLast Go.Proofs.YtfhjkkcdeigkdaaDoorW.PrintMore
set_option linter.unusedVariables false
set_option linter.unusedSimpArgs false
open Go.MapKept Go.RowKit
/-! The law FoldRuns, walked. -/
attribute [local go_sem high] eqEvent
theorem get_quiet {W : World} {Ag : Option Addr} {cg : Nat} {l : List S69} (hR : Kd.C k69 W Ag l.length l) (hc : l.length ≤ cg) (hl : l.length ≤ 1000000) (q : Int) (n : Nat) :
    Calls Tryd.prog 16 #[.slice Ag l.length cg, .int .i64 q] (W.drewN n) fun e w' => e = .returned (.int .i64 (getG l q)) ∧ ∃ m, w' = (W.drewN n).drewN m := by
  obtain ⟨k, hk⟩ := (get_ev l q (by omega)).rounds
  refine (palingref12_Get.calls k Ag cg l q _ _ (Kd.C_below hR (pw_below_drewN (Below.refl _ _) n)) hc hk).mono ?_
  rintro e w' ⟨rfl, nd, rfl⟩
  exact ⟨rfl, nd, rfl⟩
set_option maxHeartbeats 16000000 in
set_option maxRecDepth 100000 in
theorem palinglaw16_FoldRuns.calls (k : Nat) (A0 : Option Addr) (c0 : Nat) (l0 : List S53) (A1 : Option Addr) (c1 : Nat) (l1 : List Int) (A2 : Option Addr) (c2 : Nat) (l2 : List Int) (r : Bool) (w : World) (hr0 : Kd.C k53 w A0 l0.length l0) (hc0 : l0.length ≤ c0) (hr1 : Kd.C (Kd.int .i64) w A1 l1.length l1) (hc1 : l1.length ≤ c1) (hr2 : Kd.C (Kd.int .u8) w A2 l2.length l2) (hc2 : l2.length ≤ c2) (h : palinglaw16_FoldRuns.f k l0 l1 l2 = some r) (hgl : GlobOK w) :
    Calls Tryd.prog 4 #[.slice A0 l0.length c0, .slice A1 l1.length c1, .slice A2 l2.length c2] w fun e w' => e = .returned (.bool r) ∧ Below w.heap.size w w' := by
  unfold palinglaw16_FoldRuns.f at h
  obtain ⟨up, h1, h⟩ := Option.bind_eq_some_iff.1 h
  cases up with
  | false => simp at h
  | true =>
  rw [if_pos rfl] at h
  have HR0 := Aside0.mk hr0
  have HC0 := Aside0.mk hc0
  have HR1 := Aside0.mk hr1
  have HC1 := Aside0.mk hc1
  have HR2 := Aside0.mk hr2
  have HC2 := Aside0.mk hc2
  have HGL := Aside0.mk hgl
  have A4 := Aside0.mk h1
  clear hr0 hc0 hr1 hc1 hr2 hc2 hgl h1
  by_cases hs : l0.length ≤ 60 ∧ l1.length ≤ 60 ∧ l2.length ≤ 20
  case neg =>
    rw [if_neg hs] at h
    obtain rfl := Option.some.inj h
    clear h
    go_enter Tryd.func4, Tryd.ntmps4
    go_wp2_with fail
    refine (palinglaw16_awake.calls k true w A4.out HGL.out).mono ?_
    rintro e w1 ⟨rfl, hb1⟩
    have HB1 := Aside0.mk hb1
    clear hb1
    by_cases h60 : l0.length ≤ 60
    · have g0 : decide (60 < (l0.length : Int)) = false := decide_eq_false (by omega)
      by_cases h61 : l1.length ≤ 60
      · have g1 : decide (60 < (l1.length : Int)) = false := decide_eq_false (by omega)
        have g2 : decide (20 < (l2.length : Int)) = true := decide_eq_true (by omega)
        clear hs h60 h61
        go_wp2_with fail
        go_ret
        exact ⟨rfl, HB1.out⟩
      · have g1 : decide (60 < (l1.length : Int)) = true := decide_eq_true (by omega)
        clear hs h60 h61
        go_wp2_with fail
        go_ret
        exact ⟨rfl, HB1.out⟩
    · have g0 : decide (60 < (l0.length : Int)) = true := decide_eq_true (by omega)
      clear hs h60
      go_wp2_with fail
      go_ret
      exact ⟨rfl, HB1.out⟩
  rw [if_pos hs] at h
  obtain ⟨ok, h1, h⟩ := Option.bind_eq_some_iff.1 h
  have A5 := Aside0.mk h1
  have HS := Aside0.mk hs
  have g0 : decide (60 < (l0.length : Int)) = false := decide_eq_false (by omega)
  have g1 : decide (60 < (l1.length : Int)) = false := decide_eq_false (by omega)
  have g2 : decide (20 < (l2.length : Int)) = false := decide_eq_false (by omega)
  cases ok with
  | false =>
    clear h1 hs
    rw [if_neg (by simp)] at h
    obtain rfl := Option.some.inj h
    clear h
    go_enter Tryd.func4, Tryd.ntmps4
    go_wp2_with fail
    refine (palinglaw16_awake.calls k true w A4.out HGL.out).mono ?_
    rintro e w1 ⟨rfl, hb1⟩
    have HB1 := Aside0.mk hb1
    clear hb1
    go_wp2_with fail
    refine (palingref11_Check.calls k A0 c0 l0 30 9 false w1 (Kd.C_below HR0.out HB1.out) HC0.out A5.out).mono ?_
    rintro e w2 ⟨rfl, hb2⟩
    have HB2 := Aside0.mk (HB1.out.trans (hb2.mono HB1.out.size))
    clear hb2
    go_wp2_with fail
    go_ret
    exact ⟨rfl, HB2.out⟩
  | true =>
  rw [if_pos rfl] at h
  by_cases h5 : (∀ x ∈ l0, inR x.f5) ∧ (∀ x ∈ l2, 0 ≤ x ∧ x < 256)
  case neg => rw [if_neg h5] at h; cases h
  rw [if_pos h5] at h
  obtain ⟨d, h2, hA⟩ := Option.bind_eq_some_iff.1 h
  obtain ⟨ok2, h3, hB⟩ := Option.bind_eq_some_iff.1 hA
  cases ok2 with
  | false => simp at hB
  | true =>
  rw [if_pos rfl] at hB
  obtain rfl := Option.some.inj hB
  obtain ⟨o, ho', hol, hK, hkk⟩ := codeK_of (check_unique h1) (by omega) h5.1
  have hd0 := code_unique h2 (fold_code_ev (by omega) ho' hol hkk)
  have hdl : d.length = l0.length := by rw [hd0]; exact codeL_len _ _
  have HSIM := Aside0.mk (show ∀ f s, KInv l0 (fun i => (o.getD i none).map kgetL) s → nextS d f s = nextS l0 f s from fun f s hs => by rw [hd0]; exact code_next hK f s hs)
  have A6 := Aside0.mk h2
  have A7 := Aside0.mk h3
  have HDL := Aside0.mk hdl
  have HK := Aside0.mk hK
  have HU := Aside0.mk h5.2
  clear h hA hB h1 h2 h3 h5 ho' hol hK hkk hs hd0 hdl
  go_enter Tryd.func4, Tryd.ntmps4
  go_wp2_with fail
  refine (palinglaw16_awake.calls k true w A4.out HGL.out).mono ?_
  rintro e w1 ⟨rfl, hb1⟩
  have HB1 := Aside0.mk hb1
  clear hb1
  go_wp2_with fail
  refine (palingref11_Check.calls k A0 c0 l0 30 9 true w1 (Kd.C_below HR0.out HB1.out) HC0.out A5.out).mono ?_
  rintro e w2 ⟨rfl, hb2⟩
  have HB2 := Aside0.mk (HB1.out.trans (hb2.mono HB1.out.size))
  clear hb2 HB1
  go_wp2_with fail
  refine (fold_Code.calls k A0 c0 l0 d w2 (Kd.C_below HR0.out HB2.out) HC0.out A6.out (HGL.out.step HB2.out)).mono ?_
  rintro e w3 ⟨v11, rfl, ho11, hb11⟩
  obtain ⟨Ad11, c11, hv11⟩ := Kd.R_slice ho11
  subst hv11
  have HC11 := Aside0.mk (Kd.R_reads' ho11).2
  have HB3 := Aside0.mk (HB2.out.trans (hb11.mono HB2.out.size))
  clear ho11 hb11 HB2
  go_wp2_with fail
  refine (palingref11_Check.calls k Ad11 c11 d 30 9 true w3 HC11.out.2 HC11.out.1 A7.out).mono ?_
  rintro e w5 ⟨rfl, hb4⟩
  have HC5 := Aside0.mk (Kd.C_below HC11.out.2 hb4)
  have HB5 := Aside0.mk (HB3.out.trans (hb4.mono HB3.out.size))
  have g3 : ((d.length : Int) != (l0.length : Int)) = false := by rw [HDL.out]; simp
  clear hb4 HB3
  go_wp2_with fail
  have gc1 := blk_new w5 (.cells #[.slice A0 l0.length c0] 28)
  have hbA : Below w5.heap.size w5 (w5.alloc (.cells #[.slice A0 l0.length c0] 28)) := (Below.refl _ _).alloc (Nat.le_refl _) _
  refine (ms_new w5 _ w5.heap.size A0 l0.length c0 A1 c1 l1 gc1 (Nat.le_refl _) (Kd.C_below HR1.out (HB5.out.trans (hbA.mono HB5.out.size))) HC1.out hbA (by have := HS.out; omega)).mono ?_
  rintro e w6 ⟨ba, gTa, vMa, Fa, rfl, HMa, HFa, HBa⟩
  have HB6 := Aside0.mk (hbA.trans (HBa.out.mono hbA.size))
  clear gc1 hbA HBa
  obtain ⟨gCa, hgCa⟩ : ∃ q, q = w5.heap.size := ⟨_, rfl⟩
  rw [← hgCa] at HMa HFa
  clear hgCa g0 g1 g2 g3
  go_wp2_with fail
  have gc2 := blk_new w6 (.cells #[.slice Ad11 d.length c11] 28)
  have hbB : Below w6.heap.size w6 (w6.alloc (.cells #[.slice Ad11 d.length c11] 28)) := (Below.refl _ _).alloc (Nat.le_refl _) _
  have hbB5 := HB6.out.trans (hbB.mono HB6.out.size)
  have hsB : w6.heap.size ≤ (w6.alloc (.cells #[.slice Ad11 d.length c11] 28)).heap.size := hbB.size
  refine (ms_new w5 _ w6.heap.size Ad11 d.length c11 A1 c1 l1 gc2 HB6.out.size (Kd.C_below HR1.out (HB5.out.trans (hbB5.mono HB5.out.size))) HC1.out hbB5 (by have := HS.out; omega)).mono ?_
  rintro e w7 ⟨bb, gTb, vMb, Fb, rfl, HMb, HFb, HBb⟩
  have HB7 := Aside0.mk (hbB5.trans (HBb.out.mono hbB5.size))
  have HMa7 := Aside0.mk (HMa.out.below (hbB.trans (HBb.out.mono hbB.size)))
  have HDJ := Aside0.mk (show ∀ k, Fa k → ¬ Fb k from fun k hk hb => by
    obtain ⟨_, _, _, _, h3⟩ := HMa.out
    have h1 := h3 k hk
    rcases HFb.out k hb with h2 | h2 <;> omega)
  clear gc2 hbB hbB5 hsB HBb HMa HFa HFb HB6
  obtain ⟨gCb, hgCb⟩ : ∃ q, q = w6.heap.size := ⟨_, rfl⟩
  rw [← hgCb] at HMb
  clear hgCb
  have HKI := Aside0.mk (HK.out.start l1)
  go_wp2_with fail
  go_loopg [11, 12, 13, 14, 15, 16, 17] l2.length (fun gg v11 _ _ _ _ _ _ wr => ∃ (i : Nat) (s : MSt) (Fa Fb : Nat → Prop), v11 = .int .i64 (i : Int) ∧ i ≤ l2.length ∧ l2.length - i ≤ gg ∧ Aside0 (KInv l0 (fun i => (o.getD i none).map kgetL) s) ∧ Aside0 (s.regs.length ≤ 256 * i ∧ s.own.length ≤ i ∧ s.mem.length = l1.length) ∧ Aside0 (MS wr w5 Fa ba gCa gTa A0 l0.length c0 vMa s) ∧ Aside0 (MS wr w5 Fb bb gCb gTb Ad11 d.length c11 vMb s) ∧ Aside0 (∀ k, Fa k → ¬ Fb k) ∧ Aside0 (Below w5.heap.size w5 wr))
  case atStart => exact ⟨0, _, Fa, Fb, rfl, by omega, by omega, HKI, ⟨by simp⟩, HMa7, HMb, HDJ, HB7⟩
  case round =>
    clear HKI HMa7 HMb HDJ HB7
    obtain ⟨i, s, Fa, Fb, rfl, hi1, hig, HKI, HLN, HMa, HMb, HDJ, HBr⟩ := hrel
    by_cases hlt : i < l2.length
    · have hd : decide ((i : Int) < (l2.length : Int)) = true := decide_eq_true (by omega)
      have hdn : decide (i < l2.length) = true := decide_eq_true hlt
      have hin : i < l2.length := hlt
      have hii : (i : Int) < (l2.length : Int) := by omega
      have HI := Aside0.mk (And.intro hi1 (And.intro hig hlt))
      obtain ⟨au, eu, zu⟩ := Kd.at_int (Kd.C_below HR2.out (HB5.out.trans (HBr.out.mono HB5.out.size))) (i : Int) (by omega) (by omega)
      cases eu
      obtain ⟨x, hx⟩ : ∃ x, x = rd l2 (i : Int) := ⟨_, rfl⟩
      have hxr : 0 ≤ x ∧ x < 256 := by
        refine HU.out x ?_
        rw [hx]
        unfold rd
        rw [Int.toNat_natCast, List.getD_eq_getElem?_getD, List.getElem?_eq_getElem hlt]
        exact List.getElem_mem _
      rw [← hx, Int.toNat_natCast] at zu
      have hxw : wrap64 x = x := wrap_in (by omega) (by omega)
      obtain ⟨f, hf⟩ : ∃ f : Nat, x = (f : Int) := ⟨x.toNat, by omega⟩
      have HF := Aside0.mk hf
      have HXR := Aside0.mk hxr
      obtain ⟨N, hN⟩ : ∃ N, N = nextS l0 f s := ⟨_, rfl⟩
      have HNL := Aside0.mk (show N.1.regs.length ≤ s.regs.length + f ∧ N.1.own.length ≤ s.own.length + 1 ∧ N.1.mem.length = s.mem.length by rw [hN]; exact nextS_len l0 f s)
      have HKN := Aside0.mk (show KInv l0 (fun i => (o.getD i none).map kgetL) N.1 by rw [hN]; exact HK.out.nexts f s HKI.out)
      have HM := Aside0.mk (show N = nextS d f s by rw [hN]; exact (HSIM.out f s HKI.out).symm)
      have HN := Aside0.mk hN
      obtain ⟨G0, hG0⟩ : ∃ G0, G0 = gk := ⟨gk, rfl⟩
      have HG0 := Aside0.mk hG0
      have HZU := Aside0.mk zu
      clear hN hG0 hx hxr hf hi1 hig hlt
      go_wp2_with fail
      refine (ms_next l0 f x w5 wr Fa ba gCa gTa A0 c0 vMa s N (Kd.C_below HR0.out HB5.out) HC0.out HMa.out HBr.out (by have := HLN.out; have := HI.out; have := HS.out; have := HXR.out; have := HF.out; omega) (by have := HLN.out; have := HI.out; have := HS.out; omega) (by have := HLN.out; have := HS.out; omega) (by have := HXR.out; have := HF.out; omega) HF.out HN.out).mono ?_
      rintro e w8 ⟨rfl, Fa', HMa', HFa', HB8, HK8⟩
      have hbu : Below w8.heap.size w8 (w8.alloc (.cells #[.int .i64 N.2.1.1, .int .i64 0, .int .i64 N.2.1.2] 37)) := (Below.refl _ _).alloc (Nat.le_refl _) _
      have hMbu := (HMb.out.other HK8.out (fun k hk h => HDJ.out k h hk)).below hbu
      have hBu := HB8.out.trans (hbu.mono HB8.out.size)
      have gu := blk_new w8 (.cells #[.int .i64 N.2.1.1, .int .i64 0, .int .i64 N.2.1.2] 37)
      have HFb1 := Aside0.mk (show ∀ k, Fb k → k < wr.heap.size by obtain ⟨_, _, _, _, h3⟩ := HMb.out; exact h3)
      have HFa1 := Aside0.mk (show ∀ k, Fa' k → k < w8.heap.size by obtain ⟨_, _, _, _, h3⟩ := HMa'.out; exact h3)
      have HMau := Aside0.mk (HMa'.out.below hbu)
      have HSU := Aside0.mk hbu.size
      have HS8 := Aside0.mk HK8.out.1
      have HBU := Aside0.mk hBu
      have HMBU := Aside0.mk hMbu
      have HGU := Aside0.mk gu
      obtain ⟨au2, eu2, zu2⟩ := Kd.at_int (Kd.C_below HR2.out (HB5.out.trans (hBu.mono HB5.out.size))) (i : Int) (by omega) (by omega)
      cases eu2
      rw [show rd l2 (i : Int) = x from (by
        have h1 := HZU.out
        obtain ⟨au3, eu3, zu3⟩ := Kd.at_int (Kd.C_below HR2.out (HB5.out.trans (HBr.out.mono HB5.out.size))) (i : Int) (by omega) (by omega)
        cases eu3
        rw [Int.toNat_natCast] at zu3
        rw [zu3] at h1
        injection h1 with h1
        injection h1 with _ h1), Int.toNat_natCast] at zu2
      clear hbu hMbu hBu gu HMa' HMb HK8 HB8 HMa zu HZU
      go_wp2_with fail
      refine (ms_next d f x w5 _ Fb bb gCb gTb Ad11 c11 vMb s N HC5.out HC11.out.1 HMBU.out HBU.out (by have := HLN.out; have := HI.out; have := HS.out; have := HXR.out; have := HF.out; omega) (by have := HLN.out; have := HI.out; have := HS.out; omega) (by have := HLN.out; have := HS.out; omega) (by have := HXR.out; have := HF.out; omega) HF.out HM.out).mono ?_
      rintro e w9 ⟨rfl, Fb', HMb', HFb', HB9, HK9⟩
      have HGU9 := Aside0.mk ((HK9.out.2 w8.heap.size (blk_lt HGU.out) (fun h => by have := HFb1.out _ h; have := HS8.out; omega)).trans HGU.out)
      have HMa9 := Aside0.mk (HMau.out.other HK9.out (fun k hk h => by
        rcases HFa'.out k hk with h1 | h1
        · exact HDJ.out k h1 h
        · have := HFb1.out k h; omega))
      have HDJ9 := Aside0.mk (show ∀ k, Fa' k → ¬ Fb' k from fun k hk h => by
        have h0 := HFa1.out k hk
        rcases HFb'.out k h with h2 | h2
        · rcases HFa'.out k hk with h1 | h1
          · exact HDJ.out k h1 h2
          · have := HFb1.out k h2; omega
        · have := HSU.out; omega)
      clear HGU HMau HK9 HDJ HFb1 HFa1 HMBU HBU HFa' HFb' HBr
      obtain ⟨gu, hgu⟩ : ∃ q, q = w8.heap.size := ⟨_, rfl⟩
      rw [← hgu] at HGU9 ⊢
      clear hgu zu2
      go_upto_region 16 with fail
      have hbv : Below w9.heap.size w9 (w9.alloc (.cells #[.int .i64 N.2.1.1, .int .i64 0, .int .i64 N.2.1.2] 37)) := (Below.refl _ _).alloc (Nat.le_refl _) _
      have HGV := Aside0.mk (blk_new w9 (.cells #[.int .i64 N.2.1.1, .int .i64 0, .int .i64 N.2.1.2] 37))
      replace HGU9 := Aside0.mk (blk_below HGU9.out hbv)
      replace HMa9 := Aside0.mk (HMa9.out.below hbv)
      replace HMb' := Aside0.mk (HMb'.out.below hbv)
      replace HB9 := Aside0.mk (HB9.out.trans (hbv.mono HB9.out.size))
      obtain ⟨gv, hgv⟩ : ∃ q, q = w9.heap.size := ⟨_, rfl⟩
      rw [← hgv] at HGV ⊢
      clear hgv hbv
      generalize (w9.alloc (.cells #[.int .i64 N.2.1.1, .int .i64 0, .int .i64 N.2.1.2] 37)) = w10 at HGV HGU9 HMa9 HMb' HB9 ⊢
      have e3 : (N.2.2 != N.2.2) = false := by simp
      have e4 : (N.2.1.1 == N.2.1.1) = true := by simp
      have e5 : (N.2.1.2 == N.2.1.2) = true := by simp
      have e6 : (N.1.pc != N.1.pc) = false := by simp
      have u0 : w10.cell? ⟨gu, 0, none⟩ = some (.int .i64 N.2.1.1) := (blk_cell HGU9.out 0).trans rfl
      have u1 : w10.cell? ⟨gu, 1, none⟩ = some (.int .i64 0) := (blk_cell HGU9.out 1).trans rfl
      have u2 : w10.cell? ⟨gu, 2, none⟩ = some (.int .i64 N.2.1.2) := (blk_cell HGU9.out 2).trans rfl
      have v0 : w10.cell? ⟨gv, 0, none⟩ = some (.int .i64 N.2.1.1) := (blk_cell HGV.out 0).trans rfl
      have v1 : w10.cell? ⟨gv, 1, none⟩ = some (.int .i64 0) := (blk_cell HGV.out 1).trans rfl
      have v2 : w10.cell? ⟨gv, 2, none⟩ = some (.int .i64 N.2.1.2) := (blk_cell HGV.out 2).trans rfl
      obtain ⟨Ag, cg, s3, s0, s1, s2, sR, sC⟩ := HMa9.out.see
      obtain ⟨Ah, ch, t3, t0, t1, t2, tR, tC⟩ := HMb'.out.see
      clear s1 s2 sR sC t1 t2 tR tC
      have HML1 := Aside0.mk (show N.1.mem.length = l1.length by have h1 := HLN.out; have h2 := HNL.out; omega)
      have HL60 := Aside0.mk (show l1.length ≤ 60 from HS.out.2.1)
      go_quiet (fail)
      clear e3 e4 e5 e6 u0 u1 u2 v0 v1 v2 s3 s0 t3 t0 hd hdn hin hii hxw
      go_wp2_with fail
      go_loopg [16] 30 (fun gg v16 wr => ∃ q : Nat, v16 = .int .i64 (q : Int) ∧ q ≤ 30 ∧ 30 - q ≤ gg ∧ Aside0 (Below w10.heap.size w10 wr))
      case atStart => exact ⟨0, rfl, by omega, by omega, by first | exact ⟨Below.refl _ _⟩ | exact ⟨pw_below_drewN (Below.refl _ _) _⟩⟩
      case round =>
        obtain ⟨q, rfl, hq1, hqg, HBq⟩ := hrel
        by_cases hlt : q < 30
        · have hd : decide ((q : Int) < 30) = true := decide_eq_true (by omega)
          have hdn : decide (q < 30) = true := decide_eq_true hlt
          have HWQ := Aside0.mk (show wrap64 ((q : Int) + 1) = ((q + 1 : Nat) : Int) by rw [wrap_in (by omega) (by omega)]; omega)
          have HQ := Aside0.mk (And.intro hlt hqg)
          obtain ⟨Ag, cg, s3, s0, s1, s2, sR, sC⟩ := (HMa9.out.below HBq.out).see
          obtain ⟨Ah, ch, t3, t0, t1, t2, tR, tC⟩ := (HMb'.out.below HBq.out).see
          have hlN : N.1.regs.length ≤ 1000000 := by have := HNL.out; have := HLN.out; have := HXR.out; have := HF.out; have := HI.out; have := HS.out; omega
          have HQa := Aside0.mk (get_quiet sR sC hlN (q : Int))
          have HQb := Aside0.mk (get_quiet tR tC hlN (q : Int))
          obtain ⟨gw, hgw⟩ : ∃ gw, gw = getG N.1.regs (q : Int) := ⟨_, rfl⟩
          rw [← hgw] at HQa HQb
          have hne : (gw != gw) = false := by simp
          clear sR sC tR tC hlN hgw s0 s2 t0 t2 hlt hqg hq1
          go_wp2_with fail
          go_quiet ((go_at_call 16; first | with_reducible exact Calls.quiet_of (HQa.out _) | with_reducible exact Calls.quiet_of (HQb.out _)))
          go_wp2_with fail
          go_roundg (gk - 1)
          case measure => have := HQ.out; omega
          case rel => exact ⟨q + 1, by first | rfl | rw [HWQ.out], HQ.out.1, by have := HQ.out; omega, by first | exact HBq | exact ⟨pw_below_drewN HBq.out _⟩⟩
        · have hd : decide ((q : Int) < 30) = false := decide_eq_false (by omega)
          have hdn : decide (q < 30) = false := decide_eq_false hlt
          clear hlt hqg hq1
          replace HMa9 := Aside0.mk (HMa9.out.below HBq.out)
          replace HMb' := Aside0.mk (HMb'.out.below HBq.out)
          replace HB9 := Aside0.mk (HB9.out.trans (HBq.out.mono HB9.out.size))
          clear HBq
          generalize wr = wm at *
          go_wp2_with fail
          clear hd hdn
          go_loopg [17] l1.length (fun gg v17 wr => ∃ q : Nat, v17 = .int .i64 (q : Int) ∧ q ≤ l1.length ∧ l1.length - q ≤ gg ∧ Aside0 (Below wm.heap.size wm wr))
          case atStart => exact ⟨0, rfl, by omega, by omega, ⟨Below.refl _ _⟩⟩
          case round =>
            obtain ⟨q, rfl, hq1, hqg, HBq⟩ := hrel
            by_cases hlt : q < l1.length
            · have hd : decide ((q : Int) < (l1.length : Int)) = true := decide_eq_true (by omega)
              have hdn : decide (q < l1.length) = true := decide_eq_true hlt
              have d1i : (q : Int) < (l1.length : Int) := by omega
              have d1n : q < l1.length := hlt
              have HWQ := Aside0.mk (show wrap64 ((q : Int) + 1) = ((q + 1 : Nat) : Int) by have := HL60.out; rw [wrap_in (by omega) (by omega)]; omega)
              have HQ := Aside0.mk (And.intro hlt hqg)
              obtain ⟨_, cb1, rMa⟩ := (HMa9.out.below HBq.out).mem
              obtain ⟨_, cb2, rMb⟩ := (HMb'.out.below HBq.out).mem
              have hml := HML1.out
              obtain ⟨Aa, ca, ea⟩ := Kd.R_slice rMa
              obtain ⟨Ab, cb, eb⟩ := Kd.R_slice rMb
              rw [ea] at cb1 rMa
              rw [eb] at cb2 rMb
              obtain ⟨am, em, zm⟩ := Kd.at_int (Kd.R_reads' rMa).2.2 (q : Int) (by omega) (by omega)
              obtain ⟨bm, en, zn⟩ := Kd.at_int (Kd.R_reads' rMb).2.2 (q : Int) (by omega) (by omega)
              cases em
              cases en
              rw [hml] at cb1 cb2
              rw [Int.toNat_natCast] at zm zn
              obtain ⟨X, hX⟩ : ∃ X, X = rd N.1.mem (q : Int) := ⟨_, rfl⟩
              rw [← hX] at zm zn
              clear hX rMa rMb ea eb hml hlt hqg hq1
              go_wp2_with fail
              go_quiet (fail)
              go_wp2_with fail
              go_roundg (gk - 1)
              case measure => have := HQ.out; omega
              case rel => exact ⟨q + 1, by first | rfl | rw [HWQ.out], HQ.out.1, by have := HQ.out; omega, by first | exact HBq | exact ⟨pw_below_drewN HBq.out _⟩⟩
            · have hd : decide ((q : Int) < (l1.length : Int)) = false := decide_eq_false (by omega)
              have hdn : decide (q < l1.length) = false := decide_eq_false hlt
              clear hlt hqg hq1
              go_wp2_with fail
              go_roundg (G0 - 1)
              case measure => have := HI.out; have := HG0.out; omega
              case rel => exact ⟨i + 1, N.1, Fa', Fb', by first | rfl | (congr 1; unfold wrap64; have := HI.out; have := HS.out; omega), HI.out.2.2, by have := HI.out; have := HG0.out; omega, HKN, ⟨by have h1 := HLN.out; have h2 := HNL.out; have h3 := HXR.out; have h4 := HF.out; omega⟩, ⟨HMa9.out.below HBq.out⟩, ⟨HMb'.out.below HBq.out⟩, HDJ9, ⟨HB9.out.trans (HBq.out.mono HB9.out.size)⟩⟩
    · have hd : decide ((i : Int) < (l2.length : Int)) = false := decide_eq_false (by omega)
      have hdn : decide (i < l2.length) = false := decide_eq_false hlt
      go_wp2_with fail
      go_ret
      exact ⟨rfl, HB5.out.trans (HBr.out.mono HB5.out.size)⟩
end Go.Proofs.YtfhjkkcdeigkdaaDoor.PFoldRuns
