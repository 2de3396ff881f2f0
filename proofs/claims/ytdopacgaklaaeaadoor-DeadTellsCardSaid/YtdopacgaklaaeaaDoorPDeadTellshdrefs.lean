import Derived.Test.YtdopacgaklaaeaaDoorPDeadTellsx0
import Derived.Test.YtdopacgaklaaeaaDoorPDeadTellsx10
import Derived.Test.YtdopacgaklaaeaaDoorPDeadTellsx15
import Derived.Test.YtdopacgaklaaeaaDoorPDeadTellsx16
import Derived.Test.YtdopacgaklaaeaaDoorPDeadTellsx17
import Derived.Test.YtdopacgaklaaeaaDoorPDeadTellsx18
import Derived.Test.YtdopacgaklaaeaaDoorPDeadTellshdsp
import Derived.Test.YtdopacgaklaaeaaDoorPDeadTellshdmv
import Derived.Test.YtdopacgaklaaeaaDoorPDeadTellshdcl
import Derived.Test.YtdopacgaklaaeaaDoorPDeadTellshdneed
import Derived.Test.YtdopacgaklaaeaaDoorPDeadTellshdrneed
import Derived.Test.YtdopacgaklaaeaaDoorPDeadTellshforms
import Derived.Test.YtdopacgaklaaeaaDoorPDeadTellshgref14
import Derived.Test.YtdopacgaklaaeaaDoorPDeadTellshlgrow
import Derived.Test.YtdopacgaklaaeaaDoorPDeadTellshrefs
import Derived.Test.YtdopacgaklaaeaaDoorPDeadTellshlut
import Derived.Test.YtdopacgaklaaeaaDoorPDeadTellshplain0
namespace Go.Proofs.YtdopacgaklaaeaaDoor.PDeadTells
open Go.RowKit Go.Proofs.YtdopacgaklaaeaaDoorW.PrintWords Go.Proofs.YtdopacgaklaaeaaDoorW.PrintLast Go.Proofs.YtdopacgaklaaeaaDoorW.PrintMore
set_option linter.unusedVariables false
set_option linter.unusedSimpArgs false
/-! The document's chapter 18 answers as the program does. -/
theorem has18_spec (l : List Int) (n : Int) (hl : l.length ≤ 4611686018427387904) : Ev (fun k => palingref18_has.f k l n) (l.contains n) := by
  have key : ∀ i : Int, 0 ≤ i → i ≤ (l.length : Int) → Ev (fun k => palingref18_has.l0 k l n i) ((l.drop i.toNat).contains n) := by
    refine up_ind ?_ ?_
    · rw [List.drop_eq_nil_of_le (by omega)]
      exact Ev.step (fun k => rfl) (Ev.neg (by omega) (Ev.con rfl))
    · intro i i0 i1 ih
      rw [rd_drop18 l i i0 i1, List.contains_cons]
      refine Ev.step (fun k => rfl) (Ev.pos i1 (Ev.pos i0 ?_))
      by_cases hq : rd l i = n
      · rw [show (n == rd l i) = true by simpa using hq.symm, Bool.true_or]
        exact Ev.pos hq (Ev.con rfl)
      · rw [show (n == rd l i) = false by simpa using fun h => hq h.symm, Bool.false_or, wrap_up i0 i1 hl]
        exact Ev.neg hq ih
  exact key 0 (by omega) (by omega)
theorem refneedless_ev (c : List S28) (h0 : 0 < c.length) (hc : c.length ≤ 1000) (hok : OK18 c) {g : List Bool} (hg : Ev (fun k => dead_Needless.f k c) g) : Ev (fun k => palingref18_Needless.f k c) g := by
  obtain ⟨re, A, B, hre, hrel, hway, hF, hn⟩ := needless_ev c h0 hc hok
  obtain rfl := Ev.det hn hg
  have hB := hF.lB
  have hN := NL_len re B c
  refine Ev.congr (f := fun k => (palingref14_Reach.f k c).bind fun re => (palingref15_Behind.f k c).bind fun B => palingref18_Needless.l0 k c (List.replicate (c.length : Int).toNat false) re B 0) (fun k => by unfold palingref18_Needless.f; rw [if_pos (by omega)]) (Ev.bind (refreach_spec c hc re hrel (fun _ => hway)) (Ev.bind (refbehind_spec hc hF) ?_))
  have key : ∀ i : Int, 0 ≤ i → i ≤ (c.length : Int) → Ev (fun k => palingref18_Needless.l0 k c ((NL re B c).take i.toNat ++ List.replicate (c.length - i.toNat) false) re B i) (NL re B c) := by
    refine up_ind ?_ ?_
    · refine Ev.step (fun k => rfl) (Ev.neg (by omega) (Ev.con ?_))
      rw [Int.toNat_natCast, Nat.sub_self, List.take_of_length_le (by omega)]
      simp
    · intro i i0 i1 ih
      have hw := wrap_up i0 i1 (by omega)
      have hi : i.toNat < c.length := by omega
      have hlen : i < (((NL re B c).take i.toNat ++ List.replicate (c.length - i.toNat) false).length : Int) := by simp [hN]; omega
      have hx : (NL re B c).getD i.toNat false = nl re B i.toNat (c.getD i.toNat z28) := NL_get re B c i.toNat hi
      have hm : c.getD i.toNat z28 ∈ c := by rw [List.getD_eq_getElem?_getD, List.getElem?_eq_getElem hi]; exact List.getElem_mem _
      have hset : ((NL re B c).take i.toNat ++ List.replicate (c.length - i.toNat) false).set i.toNat ((NL re B c).getD i.toNat false) = (NL re B c).take (i + 1).toNat ++ List.replicate (c.length - (i + 1).toNat) false := by
        rw [fill_set hi hN, show i.toNat + 1 = (i + 1).toNat by omega]
      rw [hx] at hset
      have hxo := hok _ hm
      refine Ev.step (fun k => rfl) (Ev.pos i1 (Ev.pos ⟨i0, by omega, by omega, hlen⟩ ?_))
      rw [show rd_T28 c i = c.getD i.toNat z28 from rfl, show rd_L5 B i = B.getD i.toNat [] from rfl, show rdOf false re i = re.getD i.toNat false from rfl]
      generalize (NL re B c).take i.toNat ++ List.replicate (c.length - i.toNat) false = P at hset ⊢
      generalize c.getD i.toNat z28 = x at hset hxo ⊢
      refine Ev.bind (ldef_spec x) (Ev.bind (has18_spec _ _ (by have := hF.nB i.toNat; omega)) ?_)
      rw [hw]
      have d1 : x.f0 = 1 → defQ x = x.f2 := fun h => by unfold defQ; rw [h, show fmB 1 1 = true by decide +kernel]; rfl
      have d6 : x.f0 = 6 → defQ x = -1 := fun h => by unfold defQ; rw [h, show fmB 1 6 = false by decide +kernel]; rfl
      have hv : valR (re.getD i.toNat false) (defQ x) ((B.getD i.toNat []).contains (defQ x)) x.f0 x.f3 x.f2 (x.f6 == i + 1) = nl re B i.toNat x := by
        rw [show (x.f6 == i + 1) = (x.f6 == ((i.toNat : Nat) : Int) + 1) by rw [show ((i.toNat : Nat) : Int) + 1 = i + 1 by omega]]
        unfold valR nl
        cases re.getD i.toNat false with
        | false => rfl
        | true =>
          simp only [if_true]
          by_cases hd : defQ x ≥ 0
          · rw [if_pos hd, show decide (0 ≤ defQ x) = true from decide_eq_true hd]
            cases (B.getD i.toNat []).contains (defQ x) with
            | false => rfl
            | true =>
              by_cases hk : x.f0 = 1
              · rw [d1 hk]; simp [hk]
              · have h6 : ¬ x.f0 = 6 := fun h => by rw [d6 h] at hd; omega
                simp [hk, h6]
          · rw [if_neg hd, show decide (0 ≤ defQ x) = false from decide_eq_false hd]
            have hk : ¬ x.f0 = 1 := fun h => by rw [d1 h] at hd; omega
            by_cases h6 : x.f0 = 6
            · simp [h6]
            · simp [hk, h6]
      rw [hv, hset]
      exact ih
  have := key 0 (by omega) (by omega)
  rw [show (0 : Int).toNat = 0 from rfl, List.take_zero, List.nil_append, Nat.sub_zero] at this
  rw [Int.toNat_natCast]
  exact this
theorem rgoes (x : S28) : palingref18_goes.f x.f0 x.f1 x.f2 x.f3 x.f4 x.f5 x.f6 = some (decide (x.f0 = 6 ∨ x.f0 = 7)) := by
  unfold palingref18_goes.f
  by_cases h6 : x.f0 = 6
  · simp [h6]
  · by_cases h7 : x.f0 = 7 <;> simp [h6, h7]
theorem map_drop {α β : Type} (f : α → β) (l : List α) (z : α) (i : Int) (h0 : 0 ≤ i) (h : i < (l.length : Int)) : (l.map f).drop i.toNat = f (l.getD i.toNat z) :: (l.map f).drop (i + 1).toNat := by
  rw [← List.map_drop, ← List.map_drop, mv_drop l z i h0 h, List.map_cons]
theorem refless_ev (c : List S28) (g : List Bool) (hc : c.length ≤ 1000000) (hg : g.length = c.length) (hok : OK18 c) : Ev (fun k => palingref18_Less.f k c g) (lessL c g) := by
  refine Ev.congr (f := fun k => palingref18_Less.l0 k c g 0 0) (fun k => rfl) ?_
  have hfull := cntD_le g false g.length
  obtain ⟨sz, hsz⟩ : ∃ sz : Nat, sz = cntD g false g.length := ⟨_, rfl⟩
  have fill : ∀ i : Int, 0 ≤ i → i ≤ (c.length : Int) → ∀ out : List S28, (out.length : Int) ≤ i → out ++ keepL (fun n _ => g.getD n false) i.toNat ((c.map (mvx (tgt g))).drop i.toNat) = lessL c g → Ev (fun k => palingref18_Less.l1 k c g out (sz : Int) i) (lessL c g) := by
    refine up_ind ?_ ?_
    · intro out ho he
      rw [List.drop_eq_nil_of_le (by simp), keepL, List.append_nil] at he
      exact Ev.step (fun k => rfl) (Ev.neg (by omega) (Ev.con (by rw [he])))
    · intro i i0 i1 ih out ho he
      have hw := wrap_up i0 i1 (by omega)
      have hi : i.toNat < c.length := by omega
      have hm : c.getD i.toNat z28 ∈ c := by rw [List.getD_eq_getElem?_getD, List.getElem?_eq_getElem hi]; exact List.getElem_mem _
      have hxo := hok _ hm
      rw [map_drop _ c z28 i i0 i1, keepL, show i.toNat + 1 = (i + 1).toNat by omega] at he
      refine Ev.step (fun k => rfl) (Ev.pos i1 (Ev.pos i0 (Ev.pos (by omega) ?_)))
      rw [show rd_T28 c i = c.getD i.toNat z28 from rfl, show rdOf false g i = g.getD i.toNat false from rfl]
      generalize c.getD i.toNat z28 = x at he hxo ⊢
      cases hq : g.getD i.toNat false with
      | true =>
        rw [hq, if_pos rfl] at he
        refine Ev.pos rfl ?_
        rw [hw]
        exact ih out (by omega) he
      | false =>
        rw [hq, if_neg (by simp)] at he
        refine Ev.neg (by simp) (Ev.bind (Ev.con (rgoes x)) ?_)
        by_cases hgo : x.f0 = 6 ∨ x.f0 = 7
        · rw [show decide (x.f0 = 6 ∨ x.f0 = 7) = true from decide_eq_true hgo]
          refine Ev.pos rfl ?_
          have hmv : mvx (tgt g) x = ⟨x.f0, x.f1, x.f2, x.f3, x.f4, x.f5, tgt g x.f6⟩ := if_pos hgo
          rw [hmv] at he
          have cnt : ∀ j : Int, 0 ≤ j → j ≤ (x.f6.toNat : Int) → Ev (fun k => palingref18_Less.l2 k c g out (sz : Int) i ((cntD g false j.toNat : Nat) : Int) j x.f0 x.f1 x.f2 x.f3 x.f4 x.f5 x.f6) (lessL c g) := by
            refine up_ind ?_ ?_
            · refine Ev.step (fun k => rfl) (Ev.neg (by omega) (Ev.pos (by omega) ?_))
              rw [hw, Int.toNat_natCast, wrap_in (x := (sz : Int) - 1) (by omega) (by omega)]
              refine ih _ (by simp; omega) ?_
              rw [List.append_assoc, ← he, hsz]
              rfl
            · intro j j0 j1 ihj
              have hwj := wrap_up j0 j1 (by omega)
              have hcj := cntD_le g false j.toNat
              rw [show (j + 1).toNat = j.toNat + 1 by omega, cntD_succ g false j.toNat (by omega)] at ihj
              refine Ev.step (fun k => rfl) (Ev.pos (by omega) (Ev.pos j0 (Ev.pos (by omega) ?_)))
              rw [show rdOf false g j = g.getD j.toNat false from rfl]
              cases hb : g.getD j.toNat false with
              | true =>
                rw [hb, if_neg (by simp)] at ihj
                refine Ev.pos rfl ?_
                rw [hwj]
                exact ihj
              | false =>
                rw [hb, if_pos (show (false == false) = true from rfl)] at ihj
                refine Ev.neg (by simp) ?_
                rw [hwj, wrap_in (x := ((cntD g false j.toNat : Nat) : Int) + 1) (by omega) (by omega)]
                exact ihj
          have := cnt 0 (by omega) (by omega)
          rw [show cntD g false (0 : Int).toNat = 0 by simp [cntD]] at this
          exact this
        · rw [show decide (x.f0 = 6 ∨ x.f0 = 7) = false from decide_eq_false hgo]
          refine Ev.neg (by simp) (Ev.pos (by omega) ?_)
          have hmv : mvx (tgt g) x = x := if_neg hgo
          rw [hmv] at he
          rw [hw]
          exact ih _ (by simp; omega) (by rw [List.append_assoc, ← he]; rfl)
  have key : ∀ i : Int, 0 ≤ i → i ≤ (c.length : Int) → Ev (fun k => palingref18_Less.l0 k c g ((cntD g false i.toNat : Nat) : Int) i) (lessL c g) := by
    refine up_ind ?_ ?_
    · refine Ev.step (fun k => rfl) (Ev.neg (by omega) ?_)
      rw [Int.toNat_natCast, ← hg, ← hsz]
      exact fill 0 (by omega) (by omega) [] (by simp) rfl
    · intro i i0 i1 ih
      have hw := wrap_up i0 i1 (by omega)
      have hci := cntD_le g false i.toNat
      rw [show (i + 1).toNat = i.toNat + 1 by omega, cntD_succ g false i.toNat (by omega)] at ih
      refine Ev.step (fun k => rfl) (Ev.pos i1 (Ev.pos i0 (Ev.pos (by omega) ?_)))
      rw [show rdOf false g i = g.getD i.toNat false from rfl]
      cases hb : g.getD i.toNat false with
      | true =>
        rw [hb, if_neg (by simp)] at ih
        refine Ev.pos rfl ?_
        rw [hw]
        exact ih
      | false =>
        rw [hb, if_pos (show (false == false) = true from rfl)] at ih
        refine Ev.neg (by simp) ?_
        rw [hw, wrap_in (x := ((cntD g false i.toNat : Nat) : Int) + 1) (by omega) (by omega)]
        exact ih
  have := key 0 (by omega) (by omega)
  rw [show cntD g false (0 : Int).toNat = 0 by simp [cntD]] at this
  exact this
theorem contains_take (g : List Bool) (b : Bool) (i : Nat) (h : i < g.length) : (g.take (i + 1)).contains b = ((g.take i).contains b || (b == g.getD i false)) := by
  rw [List.take_succ_eq_append_getElem h, List.contains_append, List.getD_eq_getElem?_getD, List.getElem?_eq_getElem h]
  simp [Bool.beq_eq_decide_eq]
theorem refcode_l1 (c : List S28) (g : List Bool) (r : List S28) (hg : g.length ≤ 1000000)
    (hend : Ev (fun k => if g.contains true = true then (if g.contains false = true then ((palingref18_Less.f k c g).bind fun t432 => (palingref18_Code.l0 k t432)) else (some (([(⟨13, 0, 0, 0, 0, 0, 0⟩ : S28)] : List (S28))))) else (some c)) r) : Ev (fun k => palingref18_Code.l1 k c g false false 0) r := by
  have key : ∀ i : Int, 0 ≤ i → i ≤ (g.length : Int) → Ev (fun k => palingref18_Code.l1 k c g ((g.take i.toNat).contains true) ((g.take i.toNat).contains false) i) r := by
    refine up_ind ?_ ?_
    · rw [Int.toNat_natCast, List.take_length]
      exact Ev.step (fun k => rfl) (Ev.neg (by omega) hend)
    · intro i i0 i1 ih
      have hw := wrap_up i0 i1 (by omega)
      rw [show (i + 1).toNat = i.toNat + 1 by omega, contains_take g true i.toNat (by omega), contains_take g false i.toNat (by omega)] at ih
      refine Ev.step (fun k => rfl) (Ev.pos i1 ?_)
      rw [show rdOf false g i = g.getD i.toNat false from rfl, hw]
      cases ha : (g.take i.toNat).contains true with
      | true =>
        rw [ha] at ih
        refine Ev.pos rfl ?_
        cases hb : (g.take i.toNat).contains false with
        | true =>
          rw [hb] at ih
          simp only [Bool.true_or] at ih
          exact Ev.pos rfl ih
        | false =>
          rw [hb] at ih
          refine Ev.neg (by simp) (Ev.pos i0 ?_)
          simp only [Bool.true_or, Bool.false_or] at ih
          rw [show (!(g.getD i.toNat false)) = (false == g.getD i.toNat false) by cases g.getD i.toNat false <;> rfl]
          exact ih
      | false =>
        rw [ha] at ih
        refine Ev.neg (by simp) (Ev.pos i0 ?_)
        cases hb : (g.take i.toNat).contains false with
        | true =>
          rw [hb] at ih
          simp only [Bool.true_or, Bool.false_or] at ih
          rw [show (true == g.getD i.toNat false) = g.getD i.toNat false by cases g.getD i.toNat false <;> rfl] at ih
          exact Ev.pos rfl ih
        | false =>
          rw [hb] at ih
          simp only [Bool.false_or] at ih
          rw [show (true == g.getD i.toNat false) = g.getD i.toNat false by cases g.getD i.toNat false <;> rfl, show (false == g.getD i.toNat false) = (!(g.getD i.toNat false)) by cases g.getD i.toNat false <;> rfl] at ih
          exact Ev.neg (by simp) ih
  exact key 0 (by omega) (by omega)
theorem refcode_ev {c d : List S28} (hs : Steps c d) : 0 < c.length → c.length ≤ 1000 → OK18 c → Ev (fun k => palingref18_Code.f k c) d := by
  induction hs with
  | stay hn hgl ht =>
    intro h0 hc hok
    exact Ev.congr (fun k => rfl) (Ev.step (fun k => rfl) (Ev.bind (refneedless_ev _ h0 hc hok hn) (refcode_l1 _ _ _ (by omega) (Ev.neg (by rw [ht]; simp) (Ev.now _)))))
  | halt hn hgl ht hf =>
    intro h0 hc hok
    exact Ev.congr (fun k => rfl) (Ev.step (fun k => rfl) (Ev.bind (refneedless_ev _ h0 hc hok hn) (refcode_l1 _ _ _ (by omega) (Ev.pos ht (Ev.neg (by rw [hf]; simp) (Ev.con rfl))))))
  | @go c g d hn hgl ht hf hs ih =>
    intro h0 hc hok
    have hlen := lessL_len hgl
    have hfm : false ∈ g := by simpa using hf
    have h3 := List.count_pos_iff.2 hfm
    have h4 : g.count false ≤ g.length := List.count_le_length
    exact Ev.congr (fun k => rfl) (Ev.step (fun k => rfl) (Ev.bind (refneedless_ev _ h0 hc hok hn) (refcode_l1 _ _ _ (by omega) (Ev.pos ht (Ev.pos hf (Ev.bind (refless_ev c g (by omega) hgl hok) (ih (by omega) (by omega) (lessL_ok hgl hok hfm))))))))
def insT (g : List Bool) (a : Int) : Int := wrap64 (a + ((cntD g true a.toNat : Nat) : Int))
theorem insert_ev (c : List S28) (y : S28) (g : List Bool) (hc : c.length ≤ 1000000) (hg : g.length = c.length) : Ev (fun k => dead_Insert.f k c y.f0 y.f1 y.f2 y.f3 y.f4 y.f5 y.f6 g) (insertL y g 0 (c.map (mvx (insT g)))) := by
  refine Ev.congr (f := fun k => (movedL (insGo k g) c).map (insertL y g 0)) (fun k => by unfold dead_Insert.f; rw [if_pos ⟨hc, by omega⟩]) (Ev.map (movedL_ev (fun a => ?_) c))
  exact Ev.map (count_ev g (by omega) a true)
theorem refinsert_ev (c : List S28) (y : S28) (g : List Bool) (hc : c.length ≤ 1000000) (hg : g.length = c.length) (hok : OK18 c) : Ev (fun k => palingref18_Insert.f k c y.f0 y.f1 y.f2 y.f3 y.f4 y.f5 y.f6 g) (insertL y g 0 (c.map (mvx (insT g)))) := by
  refine Ev.congr (f := fun k => palingref18_Insert.l0 k c g [] 0 y.f0 y.f1 y.f2 y.f3 y.f4 y.f5 y.f6) (fun k => rfl) ?_
  obtain ⟨R, hR⟩ : ∃ R, R = insertL y g 0 (c.map (mvx (insT g))) := ⟨_, rfl⟩
  rw [← hR]
  have fill : ∀ i : Int, 0 ≤ i → i ≤ (c.length : Int) → ∀ out : List S28, (out.length : Int) ≤ 2 * i → out ++ insertL y g i.toNat ((c.map (mvx (insT g))).drop i.toNat) = R → Ev (fun k => palingref18_Insert.l0 k c g out i y.f0 y.f1 y.f2 y.f3 y.f4 y.f5 y.f6) R := by
    refine up_ind ?_ ?_
    · intro out ho he
      rw [List.drop_eq_nil_of_le (by simp), insertL, List.append_nil] at he
      exact Ev.step (fun k => rfl) (Ev.neg (by omega) (Ev.con (by rw [he])))
    · intro i i0 i1 ih out ho he
      have hw := wrap_up i0 i1 (by omega)
      have hi : i.toNat < c.length := by omega
      have hm : c.getD i.toNat z28 ∈ c := by rw [List.getD_eq_getElem?_getD, List.getElem?_eq_getElem hi]; exact List.getElem_mem _
      have hxo := hok _ hm
      rw [map_drop _ c z28 i i0 i1, insertL, show i.toNat + 1 = (i + 1).toNat by omega] at he
      obtain ⟨x, hx⟩ : ∃ x, x = c.getD i.toNat z28 := ⟨_, rfl⟩
      rw [← hx] at he hxo
      have mid : ∀ o : List S28, (o.length : Int) ≤ 2 * i + 1 → o ++ mvx (insT g) x :: insertL y g (i + 1).toNat ((c.map (mvx (insT g))).drop (i + 1).toNat) = R → Ev (fun k => palingref18_Insert.j1 k c g o i y.f0 y.f1 y.f2 y.f3 y.f4 y.f5 y.f6) R := by
        intro o ho he
        refine Ev.step (fun k => rfl) (Ev.pos i0 (Ev.pos i1 ?_))
        rw [show rd_T28 c i = c.getD i.toNat z28 from rfl, ← hx]
        refine Ev.bind (Ev.con (rgoes x)) ?_
        by_cases hgo : x.f0 = 6 ∨ x.f0 = 7
        · rw [show decide (x.f0 = 6 ∨ x.f0 = 7) = true from decide_eq_true hgo]
          refine Ev.pos rfl ?_
          have hmv : mvx (insT g) x = ⟨x.f0, x.f1, x.f2, x.f3, x.f4, x.f5, insT g x.f6⟩ := if_pos hgo
          rw [hmv] at he
          have cnt : ∀ j : Int, 0 ≤ j → j ≤ (x.f6.toNat : Int) → Ev (fun k => palingref18_Insert.l1 k c g o i (x.f6 + ((cntD g true j.toNat : Nat) : Int)) j y.f0 y.f1 y.f2 y.f3 y.f4 y.f5 y.f6 x.f0 x.f1 x.f2 x.f3 x.f4 x.f5 x.f6) R := by
            refine up_ind ?_ ?_
            · have hcj := cntD_le g true x.f6.toNat
              refine Ev.step (fun k => rfl) (Ev.neg (by omega) (Ev.pos (by omega) ?_))
              rw [hw, Int.toNat_natCast]
              refine ih _ (by simp; omega) ?_
              rw [List.append_assoc, ← he]
              unfold insT
              rw [wrap_in (x := x.f6 + ((cntD g true x.f6.toNat : Nat) : Int)) (by omega) (by omega)]
              rfl
            · intro j j0 j1 ihj
              have hwj := wrap_up j0 j1 (by omega)
              have hcj := cntD_le g true j.toNat
              rw [show (j + 1).toNat = j.toNat + 1 by omega, cntD_succ g true j.toNat (by omega)] at ihj
              refine Ev.step (fun k => rfl) (Ev.pos (by omega) (Ev.pos j0 (Ev.pos (by omega) ?_)))
              rw [show rdOf false g j = g.getD j.toNat false from rfl]
              cases hb : g.getD j.toNat false with
              | true =>
                rw [hb, if_pos (show (true == true) = true from rfl)] at ihj
                refine Ev.pos rfl ?_
                rw [hwj, wrap_in (x := x.f6 + ((cntD g true j.toNat : Nat) : Int) + 1) (by omega) (by omega)]
                rw [show x.f6 + ((cntD g true j.toNat + 1 : Nat) : Int) = x.f6 + ((cntD g true j.toNat : Nat) : Int) + 1 by omega] at ihj
                exact ihj
              | false =>
                rw [hb, if_neg (by simp)] at ihj
                refine Ev.neg (by simp) ?_
                rw [hwj]
                exact ihj
          have := cnt 0 (by omega) (by omega)
          rw [show cntD g true (0 : Int).toNat = 0 by simp [cntD], show x.f6 + ((0 : Nat) : Int) = x.f6 by omega] at this
          exact this
        · rw [show decide (x.f0 = 6 ∨ x.f0 = 7) = false from decide_eq_false hgo]
          refine Ev.neg (by simp) (Ev.pos (by omega) ?_)
          have hmv : mvx (insT g) x = x := if_neg hgo
          rw [hmv] at he
          rw [hw]
          exact ih _ (by simp; omega) (by rw [List.append_assoc, ← he]; rfl)
      refine Ev.step (fun k => rfl) (Ev.pos i1 (Ev.pos i0 (Ev.pos (by omega) ?_)))
      rw [show rdOf false g i = g.getD i.toNat false from rfl]
      cases hq : g.getD i.toNat false with
      | true =>
        rw [hq, if_pos rfl] at he
        exact Ev.pos rfl (Ev.pos (by omega) (mid _ (by simp; omega) (by rw [List.append_assoc, ← he]; rfl)))
      | false =>
        rw [hq, if_neg (by simp)] at he
        exact Ev.neg (by simp) (mid _ (by omega) he)
  exact fill 0 (by omega) (by omega) [] (by simp) (by rw [hR]; rfl)
end Go.Proofs.YtdopacgaklaaeaaDoor.PDeadTells
