import Derived.Test.YtdopacgaklaaeaaDoorPDeadTellsx0
import Derived.Test.YtdopacgaklaaeaaDoorPDeadTellsx9
import Derived.Test.YtdopacgaklaaeaaDoorPDeadTellsx10
import Derived.Test.YtdopacgaklaaeaaDoorPDeadTellsx12
import Derived.Test.YtdopacgaklaaeaaDoorPDeadTellsx13
import Derived.Test.YtdopacgaklaaeaaDoorPDeadTellshlgrow
import Derived.Test.YtdopacgaklaaeaaDoorPDeadTellshgre
import Derived.Test.YtdopacgaklaaeaaDoorPDeadTellshlut
import Derived.Test.YtdopacgaklaaeaaDoorPDeadTellshlsp
import Derived.Test.YtdopacgaklaaeaaDoorPDeadTellshplain0
import Derived.Test.YtdopacgaklaaeaaDoorPDeadTellsx14
import Derived.Test.YtdopacgaklaaeaaDoorPDeadTellsx15
import Derived.Test.YtdopacgaklaaeaaDoorPDeadTellshdsp
import Derived.Test.YtdopacgaklaaeaaDoorPDeadTellshlfl
import Derived.Test.YtdopacgaklaaeaaDoorPDeadTellshlro
import Derived.Test.YtdopacgaklaaeaaDoorPDeadTellshreg
import Derived.Test.YtdopacgaklaaeaaDoorPDeadTellshchk
namespace Go.Proofs.YtdopacgaklaaeaaDoor.PDeadTells
open Go.RowKit Go.Proofs.YtdopacgaklaaeaaDoorW.PrintWords Go.Proofs.YtdopacgaklaaeaaDoorW.PrintLast Go.Proofs.YtdopacgaklaaeaaDoorW.PrintMore
set_option linter.unusedVariables false
set_option linter.unusedSimpArgs false
/-! palingref15.has and palingref15.Needed: a search along the ways. -/
theorem rhas_spec (l : List Int) (n : Int) (hl : l.length ≤ 4611686018427387904) : Ev (fun k => palingref15_has.f k l n) (decide (n ∈ l)) := by
  have key : ∀ i : Int, 0 ≤ i → i ≤ (l.length : Int) → Ev (fun k => palingref15_has.l0 k l n i) (decide (n ∈ l.drop i.toNat)) := by
    refine up_ind ?_ ?_
    · rw [List.drop_eq_nil_of_le (by omega)]
      exact Ev.step (fun k => rfl) (Ev.neg (by omega) (Ev.con (by simp)))
    · intro i i0 i1 ih
      rw [getD_drop l 0 i.toNat (by omega), show i.toNat + 1 = (i + 1).toNat by omega]
      rw [← wrap_up i0 i1 (by omega)] at ih ⊢
      refine Ev.step (fun k => rfl) (Ev.pos i1 (Ev.pos i0 ?_))
      rw [show rd l i = l.getD i.toNat 0 from rfl]
      generalize l.getD i.toNat 0 = y
      by_cases h : y = n
      · refine Ev.pos h (Ev.con ?_)
        rw [show decide (n ∈ y :: l.drop (wrap64 (i + 1)).toNat) = true from decide_eq_true (by simp [h])]
      · refine Ev.neg h ?_
        rw [show decide (n ∈ y :: l.drop (wrap64 (i + 1)).toNat) = decide (n ∈ l.drop (wrap64 (i + 1)).toNat) from decide_eq_decide.2 (by simp; intro e; exact absurd e.symm h)]
        exact ih
  have := key 0 (by omega) (by omega)
  rw [show (0 : Int).toNat = 0 from rfl, List.drop_zero] at this
  exact this
/-- what the search has found -/
structure SrchI (c : List S28) (r : Int) (p : Nat) (seen : List Bool) (l : List Int) (i : Nat) : Prop where
  len : seen.length = c.length
  rng : ∀ m ∈ l, 0 ≤ m ∧ m < (c.length : Int)
  got : ∀ m : Int, 0 ≤ m → m < (c.length : Int) → (rdOf false seen m = true ↔ m ∈ l)
  nd : l.Nodup
  way : ∀ m ∈ l, NeedP c r m.toNat → NeedP c r p
  done : ∀ m ∈ l.take i, r ∉ UL c m.toNat ∧ (DL c m.toNat = r ∨ ∀ q ∈ nxL c m, q ∈ l)
  ile : i ≤ l.length
section
variable {c : List S28} {r : Int} {p i : Nat} {seen : List Bool} {l : List Int}
theorem SrchI.small (h : SrchI c r p seen l i) : l.length ≤ c.length := by
  have := nodup_len (S := l) (T := (List.range c.length).map (fun n : Nat => (n : Int))) h.nd (fun m hm => by
    have := h.rng m hm
    exact List.mem_map.2 ⟨m.toNat, List.mem_range.2 (by omega), by omega⟩)
  simpa using this
theorem SrchI.push (h : SrchI c r p seen l i) {x : Int} (h0 : 0 ≤ x) (h1 : x < (c.length : Int)) (hn : x ∉ l) (hw : NeedP c r x.toNat → NeedP c r p) : SrchI c r p (seen.set x.toNat true) (l ++ [x]) i := by
  refine ⟨by rw [List.length_set]; exact h.len, fun m hm => ?_, fun m m0 m1 => ?_, ?_, fun m hm => ?_, fun m hm => ?_, by have := h.ile; simp; omega⟩
  · rcases List.mem_append.1 hm with hm | hm
    · exact h.rng m hm
    · rw [List.mem_singleton.1 hm]; exact ⟨h0, h1⟩
  · have hl := h.len
    unfold rdOf
    rw [List.getD_eq_getElem?_getD, List.getElem?_set]
    by_cases e : x.toNat = m.toNat
    · have : m = x := by omega
      subst this
      rw [if_pos rfl, if_pos (by omega)]
      simp
    · rw [if_neg e, ← List.getD_eq_getElem?_getD]
      have hg := h.got m m0 m1
      unfold rdOf at hg
      rw [hg, List.mem_append, List.mem_singleton]
      exact ⟨.inl, fun h => h.elim id (fun h => absurd (by rw [h]) e)⟩
  · rw [List.nodup_append]
    exact ⟨h.nd, by simp, fun a ha b hb => by rw [List.mem_singleton.1 hb]; intro e; exact hn (e ▸ ha)⟩
  · rcases List.mem_append.1 hm with hm | hm
    · exact h.way m hm
    · rw [List.mem_singleton.1 hm]; exact hw
  · rw [List.take_append_of_le_length h.ile] at hm
    obtain ⟨h2, h3⟩ := h.done m hm
    exact ⟨h2, h3.imp id (fun h3 q hq => List.mem_append_left _ (h3 q hq))⟩
theorem SrchI.none (h : SrchI c r p seen l l.length) : ∀ {q : Nat}, NeedP c r q → (q : Int) ∉ l := by
  intro q hq
  have hd := h.done
  rw [List.take_length] at hd
  induction hq with
  | use hi hu => exact fun hm => (hd _ hm).1 (by rw [Int.toNat_natCast]; exact hu)
  | @step j m hi hdl hm _ ih =>
    intro hj
    obtain ⟨_, h2⟩ := hd _ hj
    rw [Int.toNat_natCast] at h2
    rcases h2 with h2 | h2
    · exact hdl h2.symm
    · have hin := nxL_in c (j : Int) m hm
      refine ih ?_
      rw [show ((m.toNat : Nat) : Int) = m by omega]
      exact h2 m hm
theorem needed_loop (hc : c.length ≤ 1000) : ∀ (d : Nat) (seen : List Bool) (l : List Int) (i : Nat), c.length - i = d → SrchI c r p seen l i → (p : Int) ∈ l → ∃ b, Ev (fun k => palingref15_Needed.l0 k c r seen l (i : Int)) b ∧ (b = true ↔ NeedP c r p) := by
  intro d
  induction d with
  | zero =>
    intro seen l i hd h hp
    have hs := h.small
    have hi := h.ile
    have e : i = l.length := by omega
    subst e
    exact ⟨false, Ev.step (fun k => rfl) (Ev.neg (by omega) (Ev.con rfl)), ⟨fun h => absurd h (by simp), fun hn => absurd hp (h.none hn)⟩⟩
  | succ d ih =>
    intro seen l i hd h hp
    have hs := h.small
    have hi := h.ile
    by_cases hlt : i < l.length
    case neg =>
      have e : i = l.length := by omega
      subst e
      exact ⟨false, Ev.step (fun k => rfl) (Ev.neg (by omega) (Ev.con rfl)), ⟨fun h => absurd h (by simp), fun hn => absurd hp (h.none hn)⟩⟩
    obtain ⟨x, hx⟩ : ∃ x, x = l[i] := ⟨_, rfl⟩
    have hrd : rd l (i : Int) = x := by unfold rd; rw [Int.toNat_natCast, List.getD_eq_getElem?_getD, List.getElem?_eq_getElem hlt, hx]; rfl
    have hxm : x ∈ l := by rw [hx]; exact List.getElem_mem hlt
    obtain ⟨x0, x1⟩ := h.rng x hxm
    have hus := useQ_len (c.getD x.toNat z28)
    have head : ∀ b : Bool, (if x ∈ l ∧ r ∈ UL c x.toNat then b = true else Ev (fun k => (palingref11_Def.f k (rd_T28 c x).f0 (rd_T28 c x).f1 (rd_T28 c x).f2 (rd_T28 c x).f3 (rd_T28 c x).f4 (rd_T28 c x).f5 (rd_T28 c x).f6).bind fun t => if t = r then palingref15_Needed.l0 k c r seen l (wrap64 ((i : Int) + 1)) else (palingref14_Next.f k c x).bind fun t => palingref15_Needed.l1 k c r seen l (i : Int) t 0) b) → Ev (fun k => palingref15_Needed.l0 k c r seen l (i : Int)) b := fun b hb => by
      refine Ev.step (fun k => rfl) (Ev.pos (by omega) (Ev.pos (by omega) ?_))
      rw [hrd]
      refine Ev.pos x0 (Ev.pos x1 (Ev.bind (luses_spec _) (Ev.bind (rhas_spec _ _ (by show (useQ (c.getD x.toNat z28)).length ≤ _; omega)) ?_)))
      by_cases hu : r ∈ UL c x.toNat
      · rw [if_pos ⟨hxm, hu⟩] at hb
        subst hb
        exact Ev.pos (decide_eq_true hu) (Ev.con rfl)
      · rw [if_neg (fun h => hu h.2)] at hb
        refine Ev.neg (by show ¬ decide (r ∈ UL c x.toNat) = true; simp [hu]) hb
    by_cases hu : r ∈ UL c x.toNat
    · exact ⟨true, head true (by rw [if_pos ⟨hxm, hu⟩]), ⟨fun _ => h.way x hxm (.use (by omega) hu), fun _ => rfl⟩⟩
    rw [show ((i : Int) + 1) = ((i + 1 : Nat) : Int) by omega, wrap_in (x := ((i + 1 : Nat) : Int)) (by omega) (by omega)] at head
    have take1 : ∀ l2 : List Int, l2.take i = l.take i → l2[i]? = some x → ∀ m ∈ l2.take (i + 1), m ∈ l.take i ∨ m = x := fun l2 h1 h2 m hm => by
      rw [List.take_add_one, h1, h2] at hm
      simpa using hm
    by_cases hdl : DL c x.toNat = r
    · have hI : SrchI c r p seen l (i + 1) := ⟨h.len, h.rng, h.got, h.nd, h.way, fun m hm => by
        rcases take1 l rfl (by rw [List.getElem?_eq_getElem hlt, hx]) m hm with hm | rfl
        · exact h.done m hm
        · exact ⟨hu, .inl hdl⟩, by omega⟩
      obtain ⟨b, hb1, hb2⟩ := ih seen l (i + 1) (by omega) hI hp
      refine ⟨b, head b ?_, hb2⟩
      rw [if_neg (fun h => hu h.2)]
      exact Ev.bind (ldef_spec _) (Ev.pos hdl hb1)
    · -- the next places are put to the row
      have hnl := nxL_len c x
      have inner : ∀ q : Int, 0 ≤ q → q ≤ ((nxL c x).length : Int) → ∀ (seen : List Bool) (l : List Int), SrchI c r p seen l i → l[i]? = some x → (p : Int) ∈ l → (∀ y ∈ (nxL c x).take q.toNat, y ∈ l) → ∃ b, Ev (fun k => palingref15_Needed.l1 k c r seen l (i : Int) (nxL c x) q) b ∧ (b = true ↔ NeedP c r p) := by
        refine up_ind ?_ ?_
        · intro seen l h hxi hp hin
          rw [show (((nxL c x).length : Nat) : Int).toNat = (nxL c x).length by omega, List.take_length] at hin
          have hil : i < l.length := (List.getElem?_eq_some_iff.1 hxi).1
          have hI : SrchI c r p seen l (i + 1) := ⟨h.len, h.rng, h.got, h.nd, h.way, fun m hm => by
            rw [List.take_add_one, hxi] at hm
            rcases List.mem_append.1 hm with hm | hm
            · exact h.done m hm
            · obtain rfl : m = x := by simpa using hm
              exact ⟨hu, .inr hin⟩, hil⟩
          obtain ⟨b, hb1, hb2⟩ := ih seen l (i + 1) (by omega) hI hp
          refine ⟨b, Ev.step (fun k => rfl) (Ev.neg (by omega) ?_), hb2⟩
          rw [show ((i : Int) + 1) = ((i + 1 : Nat) : Int) by omega, wrap_in (x := ((i + 1 : Nat) : Int)) (by omega) (by omega)]
          exact hb1
        · intro q q0 q1 ihq seen l h hxi hp hin
          obtain ⟨y, hy⟩ : ∃ y, y = rd (nxL c x) q := ⟨_, rfl⟩
          have hql : q.toNat < (nxL c x).length := by omega
          have hye : (nxL c x)[q.toNat]? = some y := by rw [List.getElem?_eq_getElem hql, hy]; unfold rd; rw [List.getD_eq_getElem?_getD, List.getElem?_eq_getElem hql]; rfl
          have hym : y ∈ nxL c x := List.mem_of_getElem? hye
          obtain ⟨y0, y1⟩ := nxL_in c x y hym
          rw [← wrap_up q0 q1 (by omega)] at ihq
          have htk : ∀ l2 : List Int, (∀ z ∈ (nxL c x).take q.toNat, z ∈ l2) → y ∈ l2 → ∀ z ∈ (nxL c x).take (wrap64 (q + 1)).toNat, z ∈ l2 := fun l2 h1 h2 z hz => by
            rw [wrap_up q0 q1 (by omega), show (q + 1).toNat = q.toNat + 1 by omega, List.take_add_one, hye] at hz
            rcases List.mem_append.1 hz with hz | hz
            · exact h1 z hz
            · obtain rfl : z = y := by simpa using hz
              exact h2
          by_cases hg : y ∈ l
          · obtain ⟨b, hb1, hb2⟩ := ihq seen l h hxi hp (htk l hin hg)
            refine ⟨b, Ev.step (fun k => rfl) (Ev.pos q1 (Ev.pos q0 ?_)), hb2⟩
            rw [← hy]
            exact Ev.pos y0 (Ev.pos (by rw [h.len]; exact y1) (Ev.pos ((h.got y y0 y1).2 hg) hb1))
          · have hil : i < l.length := (List.getElem?_eq_some_iff.1 hxi).1
            have hp2 := h.push y0 y1 hg (fun hn => h.way x (List.mem_of_getElem? hxi) (.step (m := y) (by omega) (fun e => hdl e.symm) (by rw [show ((x.toNat : Nat) : Int) = x by omega]; exact hym) hn))
            obtain ⟨b, hb1, hb2⟩ := ihq _ _ hp2 (by rw [List.getElem?_append_left hil]; exact hxi) (List.mem_append_left _ hp) (htk _ (fun z hz => List.mem_append_left _ (hin z hz)) (by simp))
            refine ⟨b, Ev.step (fun k => rfl) (Ev.pos q1 (Ev.pos q0 ?_)), hb2⟩
            rw [← hy]
            have hsm := h.small
            exact Ev.pos y0 (Ev.pos (by rw [h.len]; exact y1) (Ev.neg (fun e => hg ((h.got y y0 y1).1 e)) (Ev.pos (by omega) hb1)))
      obtain ⟨b, hb1, hb2⟩ := inner 0 (by omega) (by omega) seen l h (by rw [List.getElem?_eq_getElem hlt, hx]) hp (fun y hy => absurd hy (by simp))
      refine ⟨b, head b ?_, hb2⟩
      rw [if_neg (fun h => hu h.2)]
      exact Ev.bind (ldef_spec _) (Ev.neg hdl (Ev.bind (lrefnext_spec c hc x x0 x1) hb1))
theorem needed_spec (hc : c.length ≤ 1000) (r : Int) (p : Int) (h0 : 0 ≤ p) (h1 : p < (c.length : Int)) : ∃ b, Ev (fun k => palingref15_Needed.f k c r p) b ∧ (b = true ↔ NeedP c r p.toNat) := by
  have hI : SrchI c r p.toNat ((List.replicate c.length false).set p.toNat true) [p] 0 := by
    refine ⟨by simp, fun m hm => by rw [List.mem_singleton.1 hm]; exact ⟨h0, h1⟩, fun m m0 m1 => ?_, by simp, fun m hm => by rw [List.mem_singleton.1 hm]; exact id, fun m hm => absurd hm (by simp), by simp⟩
    unfold rdOf
    rw [List.getD_eq_getElem?_getD, List.getElem?_set, List.mem_singleton]
    by_cases e : p.toNat = m.toNat
    · rw [if_pos e, if_pos (by simp; omega)]
      simp
      omega
    · rw [if_neg e, List.getElem?_replicate, if_pos (by omega)]
      simp
      omega
  obtain ⟨b, hb1, hb2⟩ := needed_loop hc _ _ _ 0 rfl hI (by rw [List.mem_singleton]; omega)
  refine ⟨b, ?_, hb2⟩
  refine Ev.pos (by omega) (Ev.pos (by omega) (Ev.bind (Ev.con rfl) (Ev.pos h0 (Ev.pos ?_ ?_))))
  · simp; omega
  · rw [show ((c.length : Int)).toNat = c.length by omega]
    exact hb1
end
end Go.Proofs.YtdopacgaklaaeaaDoor.PDeadTells

namespace Go.Proofs.YtdopacgaklaaeaaDoor.PDeadTells
open Go.RowKit Go.Proofs.YtdopacgaklaaeaaDoorW.PrintWords Go.Proofs.YtdopacgaklaaeaaDoorW.PrintLast Go.Proofs.YtdopacgaklaaeaaDoorW.PrintMore
set_option linter.unusedVariables false
set_option linter.unusedSimpArgs false
/-! The document's answers of chapter 15 (palingref15), in plain words. -/
structure FillI (T : List (List Int)) (R : List Int) (n i q : Nat) (x : List (List Int)) : Prop where
  len : x.length = n
  lo : ∀ j, j < i → x.getD j [] = T.getD j []
  mid : x.getD i [] = (R.take q).filter (fun r => decide (r ∈ T.getD i []))
  hi : ∀ j, i < j → x.getD j [] = []
section
variable {T : List (List Int)} {R : List Int} {n i q : Nat} {x : List (List Int)}
theorem FillI.keep (h : FillI T R n i q x) (hq : q < R.length) (hn : R.getD q 0 ∉ T.getD i []) : FillI T R n i (q + 1) x := by
  refine ⟨h.len, h.lo, ?_, h.hi⟩
  rw [h.mid, List.take_succ_eq_append_getElem hq, List.filter_append]
  have e : R.getD q 0 = R[q] := by rw [List.getD_eq_getElem?_getD, List.getElem?_eq_getElem hq]; rfl
  rw [e] at hn
  rw [List.filter_cons, if_neg (by simpa using hn), List.filter_nil, List.append_nil]
theorem FillI.put (h : FillI T R n i q x) (hi : i < n) (hq : q < R.length) (hn : R.getD q 0 ∈ T.getD i []) : FillI T R n i (q + 1) (x.set i (x.getD i [] ++ [R.getD q 0])) := by
  have g := fun j l => getD_set x i j l (by rw [h.len]; exact hi)
  refine ⟨by rw [List.length_set]; exact h.len, fun j hj => ?_, ?_, fun j hj => ?_⟩
  · rw [g, if_neg (by omega)]; exact h.lo j hj
  · rw [g, if_pos rfl, h.mid, List.take_succ_eq_append_getElem hq, List.filter_append]
    have e : R.getD q 0 = R[q] := by rw [List.getD_eq_getElem?_getD, List.getElem?_eq_getElem hq]; rfl
    rw [e] at hn ⊢
    simp only [List.filter_cons, List.filter_nil, decide_eq_true_eq, if_pos hn]
  · rw [g, if_neg (by omega)]; exact h.hi j hj
theorem FillI.next (h : FillI T R n i R.length x) (hT : R.filter (fun r => decide (r ∈ T.getD i [])) = T.getD i []) : FillI T R n (i + 1) 0 x := by
  refine ⟨h.len, fun j hj => ?_, ?_, fun j hj => h.hi j (by omega)⟩
  · by_cases e : j = i
    · subst e; rw [h.mid, List.take_length, hT]
    · exact h.lo j (by omega)
  · rw [h.hi (i + 1) (by omega)]; simp
theorem FillI.done (h : FillI T R n n 0 x) (hT : T.length = n) : x = T := by
  refine List.ext_getElem (by rw [h.len, hT]) (fun j h1 h2 => ?_)
  have := h.lo j (by rw [h.len] at h1; exact h1)
  simp only [List.getD_eq_getElem?_getD, List.getElem?_eq_getElem h1, List.getElem?_eq_getElem h2] at this
  exact this
theorem FillI.start : FillI T R n 0 0 (List.replicate n []) := by
  have e : ∀ j : Nat, (List.replicate n ([] : List Int)).getD j [] = [] := fun j => by
    rw [List.getD_eq_getElem?_getD, List.getElem?_replicate]
    split <;> rfl
  exact ⟨by simp, fun j hj => absurd hj (by omega), by rw [e]; simp, fun j _ => e j⟩
theorem FillI.row (h : FillI T R n i q x) : (x.getD i []).length ≤ R.length := by
  rw [h.mid]
  exact Nat.le_trans (List.length_filter_le _ _) (by rw [List.length_take]; omega)
end
theorem filter_up {R l : List Int} (hR : R.Pairwise (· < ·)) (hl : l.Pairwise (· < ·)) (hs : ∀ r ∈ l, r ∈ R) : R.filter (fun r => decide (r ∈ l)) = l := by
  refine up_same (hR.filter _) hl (fun i => ?_)
  rw [List.mem_filter, decide_eq_true_eq]
  exact ⟨fun h => h.2, fun h => ⟨hs i h, h⟩⟩
section
variable {c : List S28} {A B : List (List Int)}
theorem used_regs : ∀ r ∈ usedQ c, r ∈ regsL c := fun r hr => by
  obtain ⟨i, hi, hu⟩ := List.mem_flatMap.1 hr
  have hil := List.mem_range.1 hi
  refine ((regsL_spec c).2 r).2 ⟨c.getD i z28, by rw [List.getD_eq_getElem?_getD, List.getElem?_eq_getElem hil]; exact List.getElem_mem _, .inl ?_⟩
  rw [← luses_eq]
  exact hu
theorem def_regs {i : Nat} (hi : i < c.length) (h0 : 0 ≤ DL c i) : DL c i ∈ regsL c := by
  refine ((regsL_spec c).2 _).2 ⟨c.getD i z28, by rw [List.getD_eq_getElem?_getD, List.getElem?_eq_getElem hi]; exact List.getElem_mem _, .inr ?_⟩
  have e : DL c i = defL (c.getD i z28) := ldef_eq _
  rw [← e]
  exact ⟨rfl, h0⟩
theorem regs_ge {r : Int} (h : r ∈ regsL c) : 0 ≤ r := by
  obtain ⟨x, _, h⟩ := ((regsL_spec c).2 r).1 h
  rcases h with h | ⟨h, h0⟩
  · rw [← luses_eq] at h
    exact ((useQ_mem x r).1 h).1
  · omega
theorem regs_small : (regsL c).length ≤ 4 * c.length := by
  have h1 := nodup_len (S := regsL c) (T := usedQ c ++ (List.range c.length).map (DL c)) (up_nodup (regsL_spec c).1) (fun r hr => by
    obtain ⟨x, hx, h⟩ := ((regsL_spec c).2 r).1 hr
    obtain ⟨i, hi, he⟩ := List.mem_iff_getElem.1 hx
    have hx2 : c.getD i z28 = x := by rw [List.getD_eq_getElem?_getD, List.getElem?_eq_getElem hi]; exact he
    rcases h with h | ⟨h, _⟩
    · rw [← luses_eq, ← hx2] at h
      exact List.mem_append_left _ (List.mem_flatMap.2 ⟨i, List.mem_range.2 hi, h⟩)
    · refine List.mem_append_right _ (List.mem_map.2 ⟨i, List.mem_range.2 hi, ?_⟩)
      have e : DL c i = defL (c.getD i z28) := ldef_eq _
      rw [e, hx2, h])
  have := usedQ_len c
  simp at h1
  omega
theorem refahead_spec (hc : c.length ≤ 1000) (hF : FlowS c A B) : Ev (fun k => palingref15_Ahead.f k c) A := by
  have hR := (regsL_spec c).1
  have hsm := regs_small (c := c)
  have hAR : ∀ i r, r ∈ A.getD i [] → r ∈ regsL c := fun i r hr => used_regs r (hF.sgA i r hr)
  refine Ev.pos (by omega) (Ev.pos (by omega) (Ev.bind (regs_spec c (by omega)) ?_))
  rw [show ((c.length : Int)).toNat = c.length by omega]
  generalize regsL c = R at hR hAR hsm ⊢
  have rows : ∀ i : Int, 0 ≤ i → i ≤ (c.length : Int) → ∀ x, FillI A R c.length i.toNat 0 x → Ev (fun k => palingref15_Ahead.l0 k c x R i) A := by
    refine up_ind ?_ ?_
    · intro x hx
      rw [show ((c.length : Nat) : Int).toNat = c.length by omega] at hx
      rw [hx.done hF.lA]
      exact Ev.step (fun k => rfl) (Ev.neg (by omega) (Ev.now _))
    · intro i i0 i1 ih x hx
      rw [show (i + 1).toNat = i.toNat + 1 by omega, ← wrap_up i0 i1 (by omega)] at ih
      have inner : ∀ j : Int, 0 ≤ j → j ≤ (R.length : Int) → ∀ x, FillI A R c.length i.toNat j.toNat x → Ev (fun k => palingref15_Ahead.l1 k c x R i j) A := by
        refine up_ind ?_ ?_
        · intro x hx
          rw [show ((R.length : Nat) : Int).toNat = R.length by omega] at hx
          exact Ev.step (fun k => rfl) (Ev.neg (by omega) (ih x (hx.next (filter_up hR (getD_up hF.uA _) (hAR _)))))
        · intro j j0 j1 ihj x hx
          rw [show (j + 1).toNat = j.toNat + 1 by omega, ← wrap_up j0 j1 (by omega)] at ihj
          obtain ⟨b, hb1, hb2⟩ := needed_spec hc (rd R j) i i0 i1
          refine Ev.step (fun k => rfl) (Ev.pos j1 (Ev.pos j0 (Ev.bind hb1 ?_)))
          rw [← hF.need _ (by omega)] at hb2
          cases b with
          | true =>
            have hrow := hx.row
            refine Ev.pos rfl (Ev.pos i0 (Ev.pos (by rw [hx.len]; exact i1) (Ev.pos (by show (x.getD i.toNat []).length < _; omega) ?_)))
            exact ihj _ (hx.put (by omega) (by omega) (hb2.1 rfl))
          | false =>
            refine Ev.neg (by simp) (ihj _ (hx.keep (by omega) (fun h => ?_)))
            exact absurd (hb2.2 h) (by simp)
      exact Ev.step (fun k => rfl) (Ev.pos i1 (inner 0 (by omega) (by omega) x hx))
  exact rows 0 (by omega) (by omega) _ FillI.start
theorem refbehind_spec (hc : c.length ≤ 1000) (hF : FlowS c A B) : Ev (fun k => palingref15_Behind.f k c) B := by
  have hR := (regsL_spec c).1
  have hsm := regs_small (c := c)
  have hBR : ∀ i r, r ∈ B.getD i [] → r ∈ regsL c := fun i r hr => used_regs r (hF.sgB i r hr)
  refine Ev.pos (by omega) (Ev.pos (by omega) (Ev.bind (refahead_spec hc hF) (Ev.bind (regs_spec c (by omega)) ?_)))
  rw [show ((c.length : Int)).toNat = c.length by omega]
  generalize regsL c = R at hR hBR hsm ⊢
  have hA := hF.lA
  have rows : ∀ i : Int, 0 ≤ i → i ≤ (c.length : Int) → ∀ x, FillI B R c.length i.toNat 0 x → Ev (fun k => palingref15_Behind.l0 k c x A R i) B := by
    refine up_ind ?_ ?_
    · intro x hx
      rw [show ((c.length : Nat) : Int).toNat = c.length by omega] at hx
      rw [hx.done hF.lB]
      exact Ev.step (fun k => rfl) (Ev.neg (by omega) (Ev.now _))
    · intro i i0 i1 ih x hx
      rw [show (i + 1).toNat = i.toNat + 1 by omega, ← wrap_up i0 i1 (by omega)] at ih
      have nl := nxL_len c i
      have hin := nxL_in c i
      have mB := hF.mB i.toNat (by omega)
      rw [show ((i.toNat : Nat) : Int) = i by omega] at mB
      have hnx := lrefnext_spec c hc i i0 i1
      generalize nxL c i = N at nl hin mB hnx
      have inner : ∀ j : Int, 0 ≤ j → j ≤ (R.length : Int) → ∀ x, FillI B R c.length i.toNat j.toNat x → Ev (fun k => palingref15_Behind.l1 k c x A R i N j) B := by
        refine up_ind ?_ ?_
        · intro x hx
          rw [show ((R.length : Nat) : Int).toNat = R.length by omega] at hx
          exact Ev.step (fun k => rfl) (Ev.neg (by omega) (ih x (hx.next (filter_up hR (getD_up hF.uB _) (hBR _)))))
        · intro j j0 j1 ihj x hx
          rw [show (j + 1).toNat = j.toNat + 1 by omega, ← wrap_up j0 j1 (by omega)] at ihj
          have some_ : ∀ q : Int, 0 ≤ q → q ≤ (N.length : Int) → ∀ b : Bool, (b = true ↔ ∃ m ∈ N.take q.toNat, rd R j ∈ A.getD m.toNat []) → Ev (fun k => palingref15_Behind.l2 k c x A R i N j b q) B := by
            refine up_ind ?_ ?_
            · intro b hb
              rw [show ((N.length : Nat) : Int).toNat = N.length by omega, List.take_length, ← mB] at hb
              refine Ev.step (fun k => rfl) (Ev.neg (by omega) ?_)
              cases b with
              | true =>
                have hrow := hx.row
                refine Ev.pos rfl (Ev.pos i0 (Ev.pos (by rw [hx.len]; exact i1) (Ev.pos j0 (Ev.pos j1 (Ev.pos (by show (x.getD i.toNat []).length < _; omega) ?_)))))
                exact ihj _ (hx.put (by omega) (by omega) (hb.1 rfl))
              | false =>
                refine Ev.neg (by simp) (ihj _ (hx.keep (by omega) (fun h => ?_)))
                exact absurd (hb.2 h) (by simp)
            · intro q q0 q1 ihq b hb
              rw [← wrap_up q0 q1 (by omega)] at ihq
              have hql : q.toNat < N.length := by omega
              have htk : ∀ P : Int → Prop, (∃ m ∈ N.take (wrap64 (q + 1)).toNat, P m) ↔ ((∃ m ∈ N.take q.toNat, P m) ∨ P (rd N q)) := fun P => by
                rw [wrap_up q0 q1 (by omega), show (q + 1).toNat = q.toNat + 1 by omega, List.take_succ_eq_append_getElem hql]
                have e : rd N q = N[q.toNat] := by unfold rd; rw [List.getD_eq_getElem?_getD, List.getElem?_eq_getElem hql]; rfl
                rw [e]
                constructor
                · rintro ⟨m, hm, h⟩
                  rcases List.mem_append.1 hm with hm | hm
                  · exact .inl ⟨m, hm, h⟩
                  · rw [List.mem_singleton.1 hm] at h; exact .inr h
                · rintro (⟨m, hm, h⟩ | h)
                  · exact ⟨m, List.mem_append_left _ hm, h⟩
                  · exact ⟨_, List.mem_append_right _ (by simp), h⟩
              refine Ev.step (fun k => rfl) (Ev.pos q1 ?_)
              cases b with
              | true => exact Ev.pos rfl (ihq true (by rw [htk]; exact ⟨fun _ => .inl (hb.1 rfl), fun _ => rfl⟩))
              | false =>
                have hm : rd N q ∈ N := by unfold rd; rw [List.getD_eq_getElem?_getD, List.getElem?_eq_getElem hql]; exact List.getElem_mem hql
                obtain ⟨m0, m1⟩ := hin _ hm
                have nA := hF.nA (rd N q).toNat
                refine Ev.neg (by simp) (Ev.pos q0 (Ev.pos m0 (Ev.pos (by omega) (Ev.pos j0 (Ev.pos j1 (Ev.bind (rhas_spec _ _ (by show (A.getD (rd N q).toNat []).length ≤ _; omega)) ?_))))))
                refine ihq _ ?_
                rw [htk, decide_eq_true_eq]
                exact ⟨fun h => .inr h, fun h => h.elim (fun h => absurd (hb.2 h) (by simp)) id⟩
          exact Ev.step (fun k => rfl) (Ev.pos j1 (some_ 0 (by omega) (by omega) false (by simp)))
      exact Ev.step (fun k => rfl) (Ev.pos i1 (Ev.bind hnx (inner 0 (by omega) (by omega) x hx)))
  exact rows 0 (by omega) (by omega) _ FillI.start
end
end Go.Proofs.YtdopacgaklaaeaaDoor.PDeadTells
