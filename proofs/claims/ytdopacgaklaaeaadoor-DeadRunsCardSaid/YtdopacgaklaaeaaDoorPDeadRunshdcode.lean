import Derived.Test.YtdopacgaklaaeaaDoorPDeadRunsx0
import Derived.Test.YtdopacgaklaaeaaDoorPDeadRunsx5
import Derived.Test.YtdopacgaklaaeaaDoorPDeadRunsx6
import Derived.Test.YtdopacgaklaaeaaDoorPDeadRunshg4
import Derived.Test.YtdopacgaklaaeaaDoorPDeadRunshdcl
import Derived.Test.YtdopacgaklaaeaaDoorPDeadRunshdmv
import Derived.Test.YtdopacgaklaaeaaDoorPDeadRunshdneed
import Derived.Test.YtdopacgaklaaeaaDoorPDeadRunshlgrow
import Derived.Test.YtdopacgaklaaeaaDoorPDeadRunshplain0
namespace Go.Proofs.YtdopacgaklaaeaaDoor.PDeadRuns
open Go.RowKit Go.Proofs.YtdopacgaklaaeaaDoorW.PrintWords Go.Proofs.YtdopacgaklaaeaaDoorW.PrintLast Go.Proofs.YtdopacgaklaaeaaDoorW.PrintMore
set_option linter.unusedVariables false
set_option linter.unusedSimpArgs false
/-! Chapter 18 in plain words: the code that is left. -/
def cntD (g : List Bool) (b : Bool) (n : Nat) : Nat := (g.take n).count b
theorem cntD_succ (g : List Bool) (b : Bool) (i : Nat) (h : i < g.length) : cntD g b (i + 1) = cntD g b i + (if (g.getD i false == b) = true then 1 else 0) := by
  unfold cntD
  rw [List.take_succ_eq_append_getElem h, List.count_append, List.getD_eq_getElem?_getD, List.getElem?_eq_getElem h, List.count_singleton]
  rfl
theorem cntD_le (g : List Bool) (b : Bool) (n : Nat) : cntD g b n ≤ g.length := Nat.le_trans List.count_le_length (List.length_take_le' n g)
theorem cntD_all (g : List Bool) (b : Bool) (n : Nat) (h : g.length ≤ n) : cntD g b n = cntD g b g.length := by
  unfold cntD
  rw [List.take_of_length_le h, List.take_of_length_le (Nat.le_refl _)]
theorem cntD_full (g : List Bool) (b : Bool) : cntD g b g.length = g.count b := by unfold cntD; rw [List.take_length]
theorem mn_eq (a b : Int) : mn a b = min a b := by unfold mn; omega
theorem count_ev (g : List Bool) (hg : g.length ≤ 1000000) (a : Int) (b : Bool) : Ev (fun k => dead_count.f k g a b) ((cntD g b a.toNat : Nat) : Int) := by
  refine Ev.congr (f := fun k => dead_count.l0 k g b 0 (mn a (g.length : Int)) 0) (fun k => rfl) ?_
  have hm : mn a (g.length : Int) = min a (g.length : Int) := mn_eq _ _
  by_cases ha : a < 0
  · refine Ev.step (fun k => rfl) (Ev.neg (by rw [hm]; omega) (Ev.con ?_))
    rw [show a.toNat = 0 by omega]
    simp [cntD]
  obtain ⟨m, hmm⟩ : ∃ m : Nat, m = (mn a (g.length : Int)).toNat := ⟨_, rfl⟩
  have hM : mn a (g.length : Int) = (m : Int) := by omega
  have hmg : m ≤ g.length := by omega
  have hend : cntD g b m = cntD g b a.toNat := by
    by_cases h : a.toNat ≤ g.length
    · rw [show m = a.toNat by omega]
    · rw [show m = g.length by omega, cntD_all g b a.toNat (by omega)]
  rw [hM, ← hend]
  have key : ∀ i : Int, 0 ≤ i → i ≤ (m : Int) → Ev (fun k => dead_count.l0 k g b ((cntD g b i.toNat : Nat) : Int) (m : Int) i) ((cntD g b m : Nat) : Int) := by
    refine up_ind ?_ ?_
    · exact Ev.step (fun k => rfl) (Ev.neg (by omega) (Ev.con (by rw [Int.toNat_natCast])))
    · intro i i0 i1 ih
      have hw := wrap_up i0 i1 (by omega)
      have hc := cntD_le g b i.toNat
      rw [show (i + 1).toNat = i.toNat + 1 by omega, cntD_succ g b i.toNat (by omega)] at ih
      refine Ev.step (fun k => rfl) (Ev.pos i1 (Ev.pos i0 (Ev.pos (by omega) ?_)))
      rw [show rdOf false g i = g.getD i.toNat false from rfl]
      cases hq : (g.getD i.toNat false == b) with
      | true =>
        rw [hq, if_pos rfl] at ih
        refine Ev.pos rfl ?_
        rw [hw, wrap_in (x := ((cntD g b i.toNat : Nat) : Int) + 1) (by omega) (by omega)]
        exact ih
      | false =>
        rw [hq, if_neg (by simp)] at ih
        refine Ev.neg (by simp) ?_
        rw [hw]
        exact ih
  have := key 0 (by omega) (by omega)
  rw [show cntD g b (0 : Int).toNat = 0 by simp [cntD]] at this
  exact this
def mvx (t : Int → Int) (x : S28) : S28 := if x.f0 = 6 ∨ x.f0 = 7 then ⟨x.f0, x.f1, x.f2, x.f3, x.f4, x.f5, t x.f6⟩ else x
theorem Ev.map {α β : Type} {g : Nat → Option α} {f : α → β} {a : α} (h : Ev g a) : Ev (fun k => (g k).map f) (f a) := by
  obtain ⟨K, h⟩ := h
  exact ⟨K, fun k hk => by show (g k).map f = _; rw [h k hk]; rfl⟩
theorem movedL_ev {p : Nat → Int → Option Int} {t : Int → Int} (h : ∀ a, Ev (fun k => p k a) (t a)) : ∀ l : List S28, Ev (fun k => movedL (p k) l) (l.map (mvx t))
  | [] => Ev.con rfl
  | x :: xs => by
    rw [List.map_cons]
    have ih := movedL_ev h xs
    refine Ev.congr (f := fun k => if x.f0 = 6 ∨ x.f0 = 7 then (p k x.f6).bind fun u => (movedL (p k) xs).map (fun l => ⟨x.f0, x.f1, x.f2, x.f3, x.f4, x.f5, u⟩ :: l) else (movedL (p k) xs).map (fun l => x :: l)) (fun k => by rw [movedL]) ?_
    unfold mvx
    by_cases hq : x.f0 = 6 ∨ x.f0 = 7
    · rw [if_pos hq]
      exact Ev.pos hq (Ev.bind (h x.f6) (Ev.map ih))
    · rw [if_neg hq]
      exact Ev.neg hq (Ev.map ih)
def tgt (g : List Bool) (a : Int) : Int := mn ((cntD g false a.toNat : Nat) : Int) (((cntD g false g.length : Nat) : Int) - 1)
def lessL (c : List S28) (g : List Bool) : List S28 := keepL (fun n _ => g.getD n false) 0 (c.map (mvx (tgt g)))
theorem less_ev (c : List S28) (g : List Bool) (hc : c.length ≤ 1000000) (hg : g.length = c.length) (hne : c ≠ []) : Ev (fun k => dead_Less.f k c g) (lessL c g) := by
  have hs := count_ev g (by omega) (g.length : Int) false
  rw [Int.toNat_natCast] at hs
  have hle := cntD_le g false g.length
  refine Ev.congr (f := fun k => (dead_count.f k g (g.length : Int) false).bind fun size => if 0 ≤ size ∧ size ≤ 1000000 then (movedL (lessGo k g size) c).map (keepL (fun n _ => g.getD n false) 0) else none) (fun k => by unfold dead_Less.f; rw [if_pos ⟨hc, hg, hne⟩]) (Ev.bind hs (Ev.pos (by omega) (Ev.map (movedL_ev (fun a => ?_) c))))
  exact Ev.map (count_ev g (by omega) a false)
theorem keepL_count (g : List Bool) : ∀ (l : List S28) (n : Nat), n + l.length = g.length → (keepL (fun n _ => g.getD n false) n l).length = (g.drop n).count false
  | [], n, h => by rw [List.drop_eq_nil_of_le (by simp at h; omega)]; rfl
  | x :: xs, n, h => by
    have ih := keepL_count g xs (n + 1) (by simp at h; omega)
    rw [getD_drop g false n (by simp at h; omega), keepL, List.count_cons]
    cases hq : g.getD n false with
    | true => simpa using ih
    | false => simpa using ih
theorem keepL_sub (p : Nat → S28 → Bool) : ∀ (l : List S28) (n : Nat), ∀ x ∈ keepL p n l, x ∈ l
  | [], n, x, h => by cases h
  | y :: ys, n, x, h => by
    rw [keepL] at h
    split at h
    · exact List.mem_cons_of_mem _ (keepL_sub p ys _ x h)
    · rcases List.mem_cons.1 h with h | h
      · rw [h]; exact List.mem_cons_self
      · exact List.mem_cons_of_mem _ (keepL_sub p ys _ x h)
theorem lessL_len {c : List S28} {g : List Bool} (hg : g.length = c.length) : (lessL c g).length = g.count false := by
  have := keepL_count g (c.map (mvx (tgt g))) 0 (by simp; omega)
  simpa [lessL] using this
theorem lessL_ok {c : List S28} {g : List Bool} (hg : g.length = c.length) (hok : OK18 c) (hf : false ∈ g) : OK18 (lessL c g) := by
  intro x hx
  have hl := lessL_len hg
  have hpos : 0 < g.count false := List.count_pos_iff.2 hf
  obtain ⟨y, hy, rfl⟩ := List.mem_map.1 (keepL_sub _ _ _ x hx)
  obtain ⟨a1, a2, a3, a4⟩ := hok y hy
  unfold mvx
  by_cases hq : y.f0 = 6 ∨ y.f0 = 7
  · rw [if_pos hq]
    have hf := cntD_full g false
    refine ⟨a1, fun h => absurd hq h, ?_, ?_⟩
    · show 0 ≤ tgt g y.f6
      unfold tgt
      rw [mn_eq]; omega
    · show tgt g y.f6 < _
      unfold tgt
      rw [mn_eq]; omega
  · rw [if_neg hq]
    have := a2 hq
    exact ⟨a1, a2, a3, by omega⟩
def haltC : List S28 := [⟨13, 0, 0, 0, 0, 0, 0⟩]
inductive Steps : List S28 → List S28 → Prop
  | stay {c g} : Ev (fun k => dead_Needless.f k c) g → g.length = c.length → g.contains true = false → Steps c c
  | halt {c g} : Ev (fun k => dead_Needless.f k c) g → g.length = c.length → g.contains true = true → g.contains false = false → Steps c haltC
  | go {c g d} : Ev (fun k => dead_Needless.f k c) g → g.length = c.length → g.contains true = true → g.contains false = true → Steps (lessL c g) d → Steps c d
theorem haltOK : OK18 haltC := by
  intro x hx
  rw [haltC, List.mem_singleton] at hx
  subst hx
  simp [haltC]
theorem haltNeed : ∃ g, Ev (fun k => dead_Needless.f k haltC) g ∧ g.length = haltC.length ∧ g.contains true = false := by
  obtain ⟨re, A, B, hre, hrel, hway, hF, hn⟩ := needless_ev haltC (by simp [haltC]) (by simp [haltC]) haltOK
  refine ⟨_, hn, NL_len _ _ _, ?_⟩
  have h0 : at_ re 0 = true := (hway 0 (by omega)).2 (.refl 0)
  have e : NL re B haltC = [nl re B 0 ⟨13, 0, 0, 0, 0, 0, 0⟩] := rfl
  rw [e]
  unfold nl
  rw [show re.getD 0 false = true from h0, if_pos rfl]
  have hd : defQ (⟨13, 0, 0, 0, 0, 0, 0⟩ : S28) = -1 := by decide +kernel
  rw [hd]
  simp
theorem code_steps : ∀ (m : Nat) (c : List S28), c.length ≤ m → c.length ≤ 1000 → 0 < c.length → OK18 c → ∃ d, Steps c d ∧ Ev (fun k => dead_Code.f k c) d ∧ d.length ≤ c.length ∧ 0 < d.length ∧ OK18 d ∧ ∃ g, Ev (fun k => dead_Needless.f k d) g ∧ g.length = d.length ∧ g.contains true = false
  | 0, c, hm, hc, h0, hok => by omega
  | m + 1, c, hm, hc, h0, hok => by
    obtain ⟨re, A, B, hre, hrel, hway, hF, hn⟩ := needless_ev c h0 hc hok
    have hgl := NL_len re B c
    generalize NL re B c = g at hn hgl
    have hb1 := bcontains18 g true (by omega)
    have hb2 := bcontains18 g false (by omega)
    have hcl : Ev (fun _ => api_Ins.f c) c := Ev.con (by unfold api_Ins.f; rw [if_pos (by omega)])
    cases ht : g.contains true with
    | false =>
      rw [ht] at hb1
      refine ⟨c, .stay hn hgl ht, ?_, Nat.le_refl _, h0, hok, g, hn, hgl, ht⟩
      exact Ev.congr (fun k => rfl) (Ev.step (fun k => rfl) (Ev.bind hn (Ev.bind hb1 (Ev.neg (by simp) (Ev.bind hcl (Ev.now _))))))
    | true =>
      rw [ht] at hb1
      cases hf : g.contains false with
      | false =>
        rw [hf] at hb2
        refine ⟨haltC, .halt hn hgl ht hf, ?_, by simp [haltC]; omega, by simp [haltC], haltOK, haltNeed⟩
        exact Ev.congr (fun k => rfl) (Ev.step (fun k => rfl) (Ev.bind hn (Ev.bind hb1 (Ev.pos rfl (Ev.bind hb2 (Ev.neg (by simp) (Ev.con rfl)))))))
      | true =>
        rw [hf] at hb2
        have hlen := lessL_len hgl
        have hfm : false ∈ g := by simpa using hf
        have htm : true ∈ g := by simpa using ht
        have h1 : g.count true + g.count false = g.length := by
          have := List.length_eq_countP_add_countP (fun b => b == true) (l := g)
          rw [this]
          unfold List.count
          congr 1
          exact List.countP_congr (fun b _ => by cases b <;> simp)
        have h2 := List.count_pos_iff.2 htm
        have h3 := List.count_pos_iff.2 hfm
        obtain ⟨d, hs, hd, q1, q2, q3, q4⟩ := code_steps m (lessL c g) (by omega) (by omega) (by omega) (lessL_ok hgl hok hfm)
        refine ⟨d, .go hn hgl ht hf hs, ?_, by omega, q2, q3, q4⟩
        exact Ev.congr (fun k => rfl) (Ev.step (fun k => rfl) (Ev.bind hn (Ev.bind hb1 (Ev.pos rfl (Ev.bind hb2 (Ev.pos rfl (Ev.bind (less_ev c g (by omega) hgl (by rintro rfl; simp at h0)) hd)))))))
theorem code_again {d : List S28} (hd : d.length ≤ 1000) {g : List Bool} (hn : Ev (fun k => dead_Needless.f k d) g) (hgl : g.length = d.length) (ht : g.contains true = false) : Ev (fun k => dead_Code.f k d) d := by
  have hb1 := bcontains18 g true (by omega)
  rw [ht] at hb1
  have hcl : Ev (fun _ => api_Ins.f d) d := Ev.con (by unfold api_Ins.f; rw [if_pos (by omega)])
  exact Ev.congr (fun k => rfl) (Ev.step (fun k => rfl) (Ev.bind hn (Ev.bind hb1 (Ev.neg (by simp) (Ev.bind hcl (Ev.now _))))))
end Go.Proofs.YtdopacgaklaaeaaDoor.PDeadRuns
