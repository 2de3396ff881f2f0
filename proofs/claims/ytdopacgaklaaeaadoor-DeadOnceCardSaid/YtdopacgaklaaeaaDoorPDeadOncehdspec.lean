import Derived.Test.YtdopacgaklaaeaaDoorPDeadOncex0
import Derived.Test.YtdopacgaklaaeaaDoorPDeadOncex3
import Derived.Test.YtdopacgaklaaeaaDoorPDeadOncehcont18
import Derived.Test.YtdopacgaklaaeaaDoorPDeadOncehdmv
import Derived.Test.YtdopacgaklaaeaaDoorPDeadOncehgreach
import Derived.Test.YtdopacgaklaaeaaDoorPDeadOncehgreachs
import Derived.Test.YtdopacgaklaaeaaDoorPDeadOncehinsdef
import Derived.Test.YtdopacgaklaaeaaDoorPDeadOncehlgrow
import Derived.Test.YtdopacgaklaaeaaDoorPDeadOncehlsp
import Derived.Test.YtdopacgaklaaeaaDoorPDeadOncehlwf
import Derived.Test.YtdopacgaklaaeaaDoorPDeadOncehplain0
namespace Go.Proofs.YtdopacgaklaaeaaDoor.PDeadOnce
open Go.RowKit Go.Proofs.YtdopacgaklaaeaaDoorW.PrintWords Go.Proofs.YtdopacgaklaaeaaDoorW.PrintLast Go.Proofs.YtdopacgaklaaeaaDoorW.PrintMore
set_option linter.unusedVariables false
set_option linter.unusedSimpArgs false
/-! Chapter 18 in plain words: what nobody needs, and the code without it. -/
/-- what an instruction of a code of so many may be -/
def OK18 (c : List S28) : Prop := ∀ x ∈ c, (0 ≤ x.f2 ∧ x.f2 ≤ 30 ∧ x.f3 ≤ 30 ∧ x.f4 ≤ 30) ∧ (¬ (x.f0 = 6 ∨ x.f0 = 7) → x.f6 = 0) ∧ 0 ≤ x.f6 ∧ x.f6 < (c.length : Int)
theorem OK18.regs {c : List S28} (h : OK18 c) : ∀ x ∈ c, x.f2 ≤ 30 ∧ x.f3 ≤ 30 ∧ x.f4 ≤ 30 := fun x hx => (h x hx).1.2
def nl (re : List Bool) (B : List (List Int)) (i : Nat) (x : S28) : Bool :=
  if re.getD i false = true then (if defQ x ≥ 0 then (if (B.getD i []).contains (defQ x) = true then (if x.f0 = 1 then x.f3 == defQ x else false) else true) else (if x.f0 = 6 then x.f6 == (i : Int) + 1 else false)) else true
def NL (re : List Bool) (B : List (List Int)) (c : List S28) : List Bool := (List.range c.length).map (fun i => nl re B i (c.getD i z28))
theorem NL_len (re : List Bool) (B : List (List Int)) (c : List S28) : (NL re B c).length = c.length := by simp [NL]
theorem NL_get (re : List Bool) (B : List (List Int)) (c : List S28) (i : Nat) (h : i < c.length) : (NL re B c).getD i false = nl re B i (c.getD i z28) := by
  unfold NL
  rw [List.getD_eq_getElem?_getD, List.getElem?_map, List.getElem?_range h]
  rfl
theorem fill_set {P : List Bool} {n i : Nat} (h : i < n) (hP : P.length = n) : (P.take i ++ List.replicate (n - i) false).set i (P.getD i false) = P.take (i + 1) ++ List.replicate (n - (i + 1)) false := by
  rw [show n - i = (n - (i + 1)) + 1 by omega, List.replicate_succ, mv_set _ _ _ _ _ (by simp; omega), List.take_succ_eq_append_getElem (by omega)]
  rw [List.getD_eq_getElem?_getD, List.getElem?_eq_getElem (by omega), List.append_assoc]
  rfl
theorem fill_stay {P : List Bool} {n i : Nat} (h : i < n) (hP : P.length = n) (hv : P.getD i false = false) : P.take i ++ List.replicate (n - i) false = P.take (i + 1) ++ List.replicate (n - (i + 1)) false := by
  rw [show n - i = (n - (i + 1)) + 1 by omega, List.replicate_succ, List.take_succ_eq_append_getElem (by omega)]
  rw [List.getD_eq_getElem?_getD, List.getElem?_eq_getElem (by omega)] at hv
  simp at hv
  simp [hv]
theorem needless_ev (c : List S28) (h0 : 0 < c.length) (hc : c.length ≤ 1000) (hok : OK18 c) : ∃ re A B, Ev (fun k => graph_Reach.f k c) re ∧ re.length = c.length ∧ (∀ i, 0 ≤ i → (at_ re i = true ↔ Way (nxOf c) 0 i)) ∧ FlowS c A B ∧ Ev (fun k => dead_Needless.f k c) (NL re B c) := by
  obtain ⟨re, hre, hrel, hway⟩ := graph_Reach_ev c h0 hc
  obtain ⟨A, B, he, hF⟩ := flow_spec c hc
  have hwB := hF.wfB hc hok.regs
  have hB := hF.lB
  have hN := NL_len re B c
  refine ⟨re, A, B, hre, hrel, hway, hF, ?_⟩
  refine Ev.congr (fun k => rfl) (Ev.pos (by omega) (Ev.pos (by simp; omega) (Ev.bind hre (Ev.bind (behind_spec he hwB) ?_))))
  have key : ∀ i : Int, 0 ≤ i → i ≤ (c.length : Int) → Ev (fun k => dead_Needless.l0 k ((NL re B c).take i.toNat ++ List.replicate (c.length - i.toNat) false) re B c (c.length : Int) i) (NL re B c) := by
    refine up_ind ?_ ?_
    · refine Ev.step (fun k => rfl) (Ev.neg (by omega) (Ev.con ?_))
      rw [Int.toNat_natCast, Nat.sub_self, List.take_of_length_le (by omega)]
      simp
    · intro i i0 i1 ih
      have hw := wrap_up i0 i1 (by omega)
      have hi : i.toNat < c.length := by omega
      have hlen : i < (((NL re B c).take i.toNat ++ List.replicate (c.length - i.toNat) false).length : Int) := by simp [hN]; omega
      have hx : (NL re B c).getD i.toNat false = nl re B i.toNat (c.getD i.toNat z28) := NL_get re B c i.toNat hi
      have goS : ∀ v, (NL re B c).getD i.toNat false = v → Ev (fun k => dead_Needless.l0 k (((NL re B c).take i.toNat ++ List.replicate (c.length - i.toNat) false).set i.toNat v) re B c (c.length : Int) (wrap64 (i + 1))) (NL re B c) := fun v hv => by
        rw [← hv, fill_set hi hN, hw, show i.toNat + 1 = (i + 1).toNat by omega]
        exact ih
      have goN : (NL re B c).getD i.toNat false = false → Ev (fun k => dead_Needless.l0 k ((NL re B c).take i.toNat ++ List.replicate (c.length - i.toNat) false) re B c (c.length : Int) (wrap64 (i + 1))) (NL re B c) := fun hv => by
        rw [fill_stay hi hN hv, hw, show i.toNat + 1 = (i + 1).toNat by omega]
        exact ih
      rw [hx] at goS goN
      refine Ev.step (fun k => rfl) (Ev.pos i1 (Ev.pos i0 (Ev.pos i1 ?_)))
      rw [show rd_T28 c i = c.getD i.toNat z28 from rfl]
      generalize (NL re B c).take i.toNat ++ List.replicate (c.length - i.toNat) false = P at goS goN hlen ⊢
      generalize c.getD i.toNat z28 = x at goS goN ⊢
      refine Ev.bind (Ev.con (show ins_Def.f x.f0 x.f1 x.f2 x.f3 x.f4 x.f5 x.f6 = some (defQ x) from rfl)) (Ev.pos (by omega) ?_)
      rw [show rdOf false re i = re.getD i.toNat false from rfl]
      unfold nl at goS goN
      cases hr : re.getD i.toNat false with
      | false =>
        rw [hr] at goS
        exact Ev.neg (by simp) (Ev.pos hlen (goS true (by simp)))
      | true =>
        rw [hr] at goS goN
        simp only [if_true] at goS goN
        refine Ev.pos rfl ?_
        by_cases hd : defQ x ≥ 0
        · rw [if_pos hd] at goS goN
          refine Ev.pos hd (Ev.pos (by omega) ?_)
          rw [show rd_L5 B i = B.getD i.toNat [] from rfl]
          refine Ev.bind (contains18 _ _ (by have := hF.nB i.toNat; omega)) ?_
          cases hb : (B.getD i.toNat []).contains (defQ x) with
          | false =>
            rw [hb] at goS
            exact Ev.neg (by simp) (Ev.pos hlen (goS true (by simp)))
          | true =>
            rw [hb] at goS
            simp only [if_true] at goS
            refine Ev.pos rfl ?_
            by_cases hk : x.f0 = 1
            · rw [if_pos hk] at goS
              exact Ev.pos hk (Ev.pos hlen (goS _ rfl))
            · rw [if_neg hk] at goS
              exact Ev.neg hk (Ev.pos hlen (goS _ rfl))
        · rw [if_neg hd] at goS goN
          refine Ev.neg hd ?_
          by_cases hk : x.f0 = 6
          · rw [if_pos hk] at goS
            refine Ev.pos hk (Ev.pos hlen ?_)
            rw [hw]
            rw [hw] at goS
            exact goS _ (by rw [show ((i.toNat : Nat) : Int) + 1 = i + 1 by omega])
          · rw [if_neg hk] at goN
            exact Ev.neg hk (goN rfl)
  have := key 0 (by omega) (by omega)
  rw [show (0 : Int).toNat = 0 from rfl, List.take_zero, List.nil_append, Nat.sub_zero] at this
  rw [Int.toNat_natCast]
  exact this
end Go.Proofs.YtdopacgaklaaeaaDoor.PDeadOnce
