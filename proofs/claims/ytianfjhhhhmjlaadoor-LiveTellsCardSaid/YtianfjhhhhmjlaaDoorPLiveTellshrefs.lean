import Derived.Test.YtianfjhhhhmjlaaDoorPLiveTellsx0
import Derived.Test.YtianfjhhhhmjlaaDoorPLiveTellsx3
import Derived.Test.YtianfjhhhhmjlaaDoorPLiveTellsx5
import Derived.Test.YtianfjhhhhmjlaaDoorPLiveTellsx6
import Derived.Test.YtianfjhhhhmjlaaDoorPLiveTellshlgrow
import Derived.Test.YtianfjhhhhmjlaaDoorPLiveTellshlnx
import Derived.Test.YtianfjhhhhmjlaaDoorPLiveTellshlus
import Derived.Test.YtianfjhhhhmjlaaDoorPLiveTellshlsp
import Derived.Test.YtianfjhhhhmjlaaDoorPLiveTellshplain0
import Derived.Test.YtianfjhhhhmjlaaDoorPLiveTellsx7
import Derived.Test.YtianfjhhhhmjlaaDoorPLiveTellsx8
import Derived.Test.YtianfjhhhhmjlaaDoorPLiveTellshlenv
import Derived.Test.YtianfjhhhhmjlaaDoorPLiveTellshlrows
import Derived.Test.YtianfjhhhhmjlaaDoorPLiveTellshregs15
import Derived.Test.YtianfjhhhhmjlaaDoorPLiveTellshregsl
import Derived.Test.YtianfjhhhhmjlaaDoorPLiveTellshuses
import Derived.Test.YtianfjhhhhmjlaaDoorPLiveTellsx4
import Derived.Test.YtianfjhhhhmjlaaDoorPLiveTellsx9
import Derived.Test.YtianfjhhhhmjlaaDoorPLiveTellsx10
import Derived.Test.YtianfjhhhhmjlaaDoorPLiveTellshints
import Derived.Test.YtianfjhhhhmjlaaDoorPLiveTellshlmost
import Derived.Test.YtianfjhhhhmjlaaDoorPLiveTellshlranges
import Derived.Test.YtianfjhhhhmjlaaDoorPLiveTellshlspec3
import Derived.Test.YtianfjhhhhmjlaaDoorPLiveTellshrangesl
namespace Go.Proofs.YtianfjhhhhmjlaaDoor.PLiveTells
open Go.RowKit Go.Proofs.YtianfjhhhhmjlaaDoorW.PrintWords Go.Proofs.YtianfjhhhhmjlaaDoorW.PrintLast Go.Proofs.YtianfjhhhhmjlaaDoorW.PrintMore
set_option linter.unusedVariables false
set_option linter.unusedSimpArgs false
/-! palingref15.has and palingref15.Needed: a search along the ways. -/
theorem rhas_spec (l : List Int) (n : Int) (hl : l.length ≤ 4611686018427387904) : Ev (fun k => palingref15_has.f k l n) (decide (n ∈ l)) := by
  have key : ∀ i : Int, 0 ≤ i → i ≤ (l.length : Int) → Ev (fun k => palingref15_has.l0 k l n i) (decide (n ∈ l.drop i.toNat)) := by
    refine up_ind ?_ ?_
    · rw [List.drop_eq_nil_of_le (by omega)]
      exact Ev.step (fun k => rfl) (Ev.neg (by omega) (Ev.con (by simp)))
    · intro i i0 i1 ih
      rw [getD_drop l 0 i.toNat (by omega), show i.toNat + 1 = (i + 1).toNat by omega]
      rw [← wrap_up i0 i1 (by omega)] at ih ⊢
      refine Ev.step (fun k => rfl) (Ev.pos i1 (Ev.pos i0 ?_))
      rw [show rd l i = l.getD i.toNat 0 from rfl]
      generalize l.getD i.toNat 0 = y
      by_cases h : y = n
      · refine Ev.pos h (Ev.con ?_)
        rw [show decide (n ∈ y :: l.drop (wrap64 (i + 1)).toNat) = true from decide_eq_true (by simp [h])]
      · refine Ev.neg h ?_
        rw [show decide (n ∈ y :: l.drop (wrap64 (i + 1)).toNat) = decide (n ∈ l.drop (wrap64 (i + 1)).toNat) from decide_eq_decide.2 (by simp; intro e; exact absurd e.symm h)]
        exact ih
  have := key 0 (by omega) (by omega)
  rw [show (0 : Int).toNat = 0 from rfl, List.drop_zero] at this
  exact this
/-- what the search has found -/
structure SrchI (c : List S39) (r : Int) (p : Nat) (seen : List Bool) (l : List Int) (i : Nat) : Prop where
  len : seen.length = c.length
  rng : ∀ m ∈ l, 0 ≤ m ∧ m < (c.length : Int)
  got : ∀ m : Int, 0 ≤ m → m < (c.length : Int) → (rdOf false seen m = true ↔ m ∈ l)
  nd : l.Nodup
  way : ∀ m ∈ l, NeedP c r m.toNat → NeedP c r p
  done : ∀ m ∈ l.take i, r ∉ UL c m.toNat ∧ (DL c m.toNat = r ∨ ∀ q ∈ nxL c m, q ∈ l)
  ile : i ≤ l.length
section
variable {c : List S39} {r : Int} {p i : Nat} {seen : List Bool} {l : List Int}
theorem SrchI.small (h : SrchI c r p seen l i) : l.length ≤ c.length := by
  have := nodup_len (S := l) (T := (List.range c.length).map (fun n : Nat => (n : Int))) h.nd (fun m hm => by
    have := h.rng m hm
    exact List.mem_map.2 ⟨m.toNat, List.mem_range.2 (by omega), by omega⟩)
  simpa using this
theorem SrchI.push (h : SrchI c r p seen l i) {x : Int} (h0 : 0 ≤ x) (h1 : x < (c.length : Int)) (hn : x ∉ l) (hw : NeedP c r x.toNat → NeedP c r p) : SrchI c r p (seen.set x.toNat true) (l ++ [x]) i := by
  refine ⟨by rw [List.length_set]; exact h.len, fun m hm => ?_, fun m m0 m1 => ?_, ?_, fun m hm => ?_, fun m hm => ?_, by have := h.ile; simp; omega⟩
  · rcases List.mem_append.1 hm with hm | hm
    · exact h.rng m hm
    · rw [List.mem_singleton.1 hm]; exact ⟨h0, h1⟩
  · have hl := h.len
    unfold rdOf
    rw [List.getD_eq_getElem?_getD, List.getElem?_set]
    by_cases e : x.toNat = m.toNat
    · have : m = x := by omega
      subst this
      rw [if_pos rfl, if_pos (by omega)]
      simp
    · rw [if_neg e, ← List.getD_eq_getElem?_getD]
      have hg := h.got m m0 m1
      unfold rdOf at hg
      rw [hg, List.mem_append, List.mem_singleton]
      exact ⟨.inl, fun h => h.elim id (fun h => absurd (by rw [h]) e)⟩
  · rw [List.nodup_append]
    exact ⟨h.nd, by simp, fun a ha b hb => by rw [List.mem_singleton.1 hb]; intro e; exact hn (e ▸ ha)⟩
  · rcases List.mem_append.1 hm with hm | hm
    · exact h.way m hm
    · rw [List.mem_singleton.1 hm]; exact hw
  · rw [List.take_append_of_le_length h.ile] at hm
    obtain ⟨h2, h3⟩ := h.done m hm
    exact ⟨h2, h3.imp id (fun h3 q hq => List.mem_append_left _ (h3 q hq))⟩
theorem SrchI.none (h : SrchI c r p seen l l.length) : ∀ {q : Nat}, NeedP c r q → (q : Int) ∉ l := by
  intro q hq
  have hd := h.done
  rw [List.take_length] at hd
  induction hq with
  | use hi hu => exact fun hm => (hd _ hm).1 (by rw [Int.toNat_natCast]; exact hu)
  | @step j m hi hdl hm _ ih =>
    intro hj
    obtain ⟨_, h2⟩ := hd _ hj
    rw [Int.toNat_natCast] at h2
    rcases h2 with h2 | h2
    · exact hdl h2.symm
    · have hin := nxL_in c (j : Int) m hm
      refine ih ?_
      rw [show ((m.toNat : Nat) : Int) = m by omega]
      exact h2 m hm
theorem needed_loop (hc : c.length ≤ 1000) : ∀ (d : Nat) (seen : List Bool) (l : List Int) (i : Nat), c.length - i = d → SrchI c r p seen l i → (p : Int) ∈ l → ∃ b, Ev (fun k => palingref15_Needed.l0 k c r seen l (i : Int)) b ∧ (b = true ↔ NeedP c r p) := by
  intro d
  induction d with
  | zero =>
    intro seen l i hd h hp
    have hs := h.small
    have hi := h.ile
    have e : i = l.length := by omega
    subst e
    exact ⟨false, Ev.step (fun k => rfl) (Ev.neg (by omega) (Ev.con rfl)), ⟨fun h => absurd h (by simp), fun hn => absurd hp (h.none hn)⟩⟩
  | succ d ih =>
    intro seen l i hd h hp
    have hs := h.small
    have hi := h.ile
    by_cases hlt : i < l.length
    case neg =>
      have e : i = l.length := by omega
      subst e
      exact ⟨false, Ev.step (fun k => rfl) (Ev.neg (by omega) (Ev.con rfl)), ⟨fun h => absurd h (by simp), fun hn => absurd hp (h.none hn)⟩⟩
    obtain ⟨x, hx⟩ : ∃ x, x = l[i] := ⟨_, rfl⟩
    have hrd : rd l (i : Int) = x := by unfold rd; rw [Int.toNat_natCast, List.getD_eq_getElem?_getD, List.getElem?_eq_getElem hlt, hx]; rfl
    have hxm : x ∈ l := by rw [hx]; exact List.getElem_mem hlt
    obtain ⟨x0, x1⟩ := h.rng x hxm
    have hus := useQ_len (c.getD x.toNat z39)
    have head : ∀ b : Bool, (if x ∈ l ∧ r ∈ UL c x.toNat then b = true else Ev (fun k => (palingref11_Def.f k (rd_T39 c x).f0 (rd_T39 c x).f1 (rd_T39 c x).f2 (rd_T39 c x).f3 (rd_T39 c x).f4 (rd_T39 c x).f5 (rd_T39 c x).f6).bind fun t => if t = r then palingref15_Needed.l0 k c r seen l (wrap64 ((i : Int) + 1)) else (palingref14_Next.f k c x).bind fun t => palingref15_Needed.l1 k c r seen l (i : Int) t 0) b) → Ev (fun k => palingref15_Needed.l0 k c r seen l (i : Int)) b := fun b hb => by
      refine Ev.step (fun k => rfl) (Ev.pos (by omega) (Ev.pos (by omega) ?_))
      rw [hrd]
      refine Ev.pos x0 (Ev.pos x1 (Ev.bind (luses_spec _) (Ev.bind (rhas_spec _ _ (by show (useQ (c.getD x.toNat z39)).length ≤ _; omega)) ?_)))
      by_cases hu : r ∈ UL c x.toNat
      · rw [if_pos ⟨hxm, hu⟩] at hb
        subst hb
        exact Ev.pos (decide_eq_true hu) (Ev.con rfl)
      · rw [if_neg (fun h => hu h.2)] at hb
        refine Ev.neg (by show ¬ decide (r ∈ UL c x.toNat) = true; simp [hu]) hb
    by_cases hu : r ∈ UL c x.toNat
    · exact ⟨true, head true (by rw [if_pos ⟨hxm, hu⟩]), ⟨fun _ => h.way x hxm (.use (by omega) hu), fun _ => rfl⟩⟩
    rw [show ((i : Int) + 1) = ((i + 1 : Nat) : Int) by omega, wrap_in (x := ((i + 1 : Nat) : Int)) (by omega) (by omega)] at head
    have take1 : ∀ l2 : List Int, l2.take i = l.take i → l2[i]? = some x → ∀ m ∈ l2.take (i + 1), m ∈ l.take i ∨ m = x := fun l2 h1 h2 m hm => by
      rw [List.take_add_one, h1, h2] at hm
      simpa using hm
    by_cases hdl : DL c x.toNat = r
    · have hI : SrchI c r p seen l (i + 1) := ⟨h.len, h.rng, h.got, h.nd, h.way, fun m hm => by
        rcases take1 l rfl (by rw [List.getElem?_eq_getElem hlt, hx]) m hm with hm | rfl
        · exact h.done m hm
        · exact ⟨hu, .inl hdl⟩, by omega⟩
      obtain ⟨b, hb1, hb2⟩ := ih seen l (i + 1) (by omega) hI hp
      refine ⟨b, head b ?_, hb2⟩
      rw [if_neg (fun h => hu h.2)]
      exact Ev.bind (ldef_spec _) (Ev.pos hdl hb1)
    · -- the next places are put to the row
      have hnl := nxL_len c x
      have inner : ∀ q : Int, 0 ≤ q → q ≤ ((nxL c x).length : Int) → ∀ (seen : List Bool) (l : List Int), SrchI c r p seen l i → l[i]? = some x → (p : Int) ∈ l → (∀ y ∈ (nxL c x).take q.toNat, y ∈ l) → ∃ b, Ev (fun k => palingref15_Needed.l1 k c r seen l (i : Int) (nxL c x) q) b ∧ (b = true ↔ NeedP c r p) := by
        refine up_ind ?_ ?_
        · intro seen l h hxi hp hin
          rw [show (((nxL c x).length : Nat) : Int).toNat = (nxL c x).length by omega, List.take_length] at hin
          have hil : i < l.length := (List.getElem?_eq_some_iff.1 hxi).1
          have hI : SrchI c r p seen l (i + 1) := ⟨h.len, h.rng, h.got, h.nd, h.way, fun m hm => by
            rw [List.take_add_one, hxi] at hm
            rcases List.mem_append.1 hm with hm | hm
            · exact h.done m hm
            · obtain rfl : m = x := by simpa using hm
              exact ⟨hu, .inr hin⟩, hil⟩
          obtain ⟨b, hb1, hb2⟩ := ih seen l (i + 1) (by omega) hI hp
          refine ⟨b, Ev.step (fun k => rfl) (Ev.neg (by omega) ?_), hb2⟩
          rw [show ((i : Int) + 1) = ((i + 1 : Nat) : Int) by omega, wrap_in (x := ((i + 1 : Nat) : Int)) (by omega) (by omega)]
          exact hb1
        · intro q q0 q1 ihq seen l h hxi hp hin
          obtain ⟨y, hy⟩ : ∃ y, y = rd (nxL c x) q := ⟨_, rfl⟩
          have hql : q.toNat < (nxL c x).length := by omega
          have hye : (nxL c x)[q.toNat]? = some y := by rw [List.getElem?_eq_getElem hql, hy]; unfold rd; rw [List.getD_eq_getElem?_getD, List.getElem?_eq_getElem hql]; rfl
          have hym : y ∈ nxL c x := List.mem_of_getElem? hye
          obtain ⟨y0, y1⟩ := nxL_in c x y hym
          rw [← wrap_up q0 q1 (by omega)] at ihq
          have htk : ∀ l2 : List Int, (∀ z ∈ (nxL c x).take q.toNat, z ∈ l2) → y ∈ l2 → ∀ z ∈ (nxL c x).take (wrap64 (q + 1)).toNat, z ∈ l2 := fun l2 h1 h2 z hz => by
            rw [wrap_up q0 q1 (by omega), show (q + 1).toNat = q.toNat + 1 by omega, List.take_add_one, hye] at hz
            rcases List.mem_append.1 hz with hz | hz
            · exact h1 z hz
            · obtain rfl : z = y := by simpa using hz
              exact h2
          by_cases hg : y ∈ l
          · obtain ⟨b, hb1, hb2⟩ := ihq seen l h hxi hp (htk l hin hg)
            refine ⟨b, Ev.step (fun k => rfl) (Ev.pos q1 (Ev.pos q0 ?_)), hb2⟩
            rw [← hy]
            exact Ev.pos y0 (Ev.pos (by rw [h.len]; exact y1) (Ev.pos ((h.got y y0 y1).2 hg) hb1))
          · have hil : i < l.length := (List.getElem?_eq_some_iff.1 hxi).1
            have hp2 := h.push y0 y1 hg (fun hn => h.way x (List.mem_of_getElem? hxi) (.step (m := y) (by omega) (fun e => hdl e.symm) (by rw [show ((x.toNat : Nat) : Int) = x by omega]; exact hym) hn))
            obtain ⟨b, hb1, hb2⟩ := ihq _ _ hp2 (by rw [List.getElem?_append_left hil]; exact hxi) (List.mem_append_left _ hp) (htk _ (fun z hz => List.mem_append_left _ (hin z hz)) (by simp))
            refine ⟨b, Ev.step (fun k => rfl) (Ev.pos q1 (Ev.pos q0 ?_)), hb2⟩
            rw [← hy]
            have hsm := h.small
            exact Ev.pos y0 (Ev.pos (by rw [h.len]; exact y1) (Ev.neg (fun e => hg ((h.got y y0 y1).1 e)) (Ev.pos (by omega) hb1)))
      obtain ⟨b, hb1, hb2⟩ := inner 0 (by omega) (by omega) seen l h (by rw [List.getElem?_eq_getElem hlt, hx]) hp (fun y hy => absurd hy (by simp))
      refine ⟨b, head b ?_, hb2⟩
      rw [if_neg (fun h => hu h.2)]
      exact Ev.bind (ldef_spec _) (Ev.neg hdl (Ev.bind (lrefnext_spec c hc x x0 x1) hb1))
theorem needed_spec (hc : c.length ≤ 1000) (r : Int) (p : Int) (h0 : 0 ≤ p) (h1 : p < (c.length : Int)) : ∃ b, Ev (fun k => palingref15_Needed.f k c r p) b ∧ (b = true ↔ NeedP c r p.toNat) := by
  have hI : SrchI c r p.toNat ((List.replicate c.length false).set p.toNat true) [p] 0 := by
    refine ⟨by simp, fun m hm => by rw [List.mem_singleton.1 hm]; exact ⟨h0, h1⟩, fun m m0 m1 => ?_, by simp, fun m hm => by rw [List.mem_singleton.1 hm]; exact id, fun m hm => absurd hm (by simp), by simp⟩
    unfold rdOf
    rw [List.getD_eq_getElem?_getD, List.getElem?_set, List.mem_singleton]
    by_cases e : p.toNat = m.toNat
    · rw [if_pos e, if_pos (by simp; omega)]
      simp
      omega
    · rw [if_neg e, List.getElem?_replicate, if_pos (by omega)]
      simp
      omega
  obtain ⟨b, hb1, hb2⟩ := needed_loop hc _ _ _ 0 rfl hI (by rw [List.mem_singleton]; omega)
  refine ⟨b, ?_, hb2⟩
  refine Ev.pos (by omega) (Ev.pos (by omega) (Ev.bind (Ev.con rfl) (Ev.pos h0 (Ev.pos ?_ ?_))))
  · simp; omega
  · rw [show ((c.length : Int)).toNat = c.length by omega]
    exact hb1
end
end Go.Proofs.YtianfjhhhhmjlaaDoor.PLiveTells

namespace Go.Proofs.YtianfjhhhhmjlaaDoor.PLiveTells
open Go.RowKit Go.Proofs.YtianfjhhhhmjlaaDoorW.PrintWords Go.Proofs.YtianfjhhhhmjlaaDoorW.PrintLast Go.Proofs.YtianfjhhhhmjlaaDoorW.PrintMore
set_option linter.unusedVariables false
set_option linter.unusedSimpArgs false
/-! The document's answers of chapter 15 (palingref15), in plain words. -/
structure FillI (T : List (List Int)) (R : List Int) (n i q : Nat) (x : List (List Int)) : Prop where
  len : x.length = n
  lo : ∀ j, j < i → x.getD j [] = T.getD j []
  mid : x.getD i [] = (R.take q).filter (fun r => decide (r ∈ T.getD i []))
  hi : ∀ j, i < j → x.getD j [] = []
section
variable {T : List (List Int)} {R : List Int} {n i q : Nat} {x : List (List Int)}
theorem FillI.keep (h : FillI T R n i q x) (hq : q < R.length) (hn : R.getD q 0 ∉ T.getD i []) : FillI T R n i (q + 1) x := by
  refine ⟨h.len, h.lo, ?_, h.hi⟩
  rw [h.mid, List.take_succ_eq_append_getElem hq, List.filter_append]
  have e : R.getD q 0 = R[q] := by rw [List.getD_eq_getElem?_getD, List.getElem?_eq_getElem hq]; rfl
  rw [e] at hn
  rw [List.filter_cons, if_neg (by simpa using hn), List.filter_nil, List.append_nil]
theorem FillI.put (h : FillI T R n i q x) (hi : i < n) (hq : q < R.length) (hn : R.getD q 0 ∈ T.getD i []) : FillI T R n i (q + 1) (x.set i (x.getD i [] ++ [R.getD q 0])) := by
  have g := fun j l => getD_set x i j l (by rw [h.len]; exact hi)
  refine ⟨by rw [List.length_set]; exact h.len, fun j hj => ?_, ?_, fun j hj => ?_⟩
  · rw [g, if_neg (by omega)]; exact h.lo j hj
  · rw [g, if_pos rfl, h.mid, List.take_succ_eq_append_getElem hq, List.filter_append]
    have e : R.getD q 0 = R[q] := by rw [List.getD_eq_getElem?_getD, List.getElem?_eq_getElem hq]; rfl
    rw [e] at hn ⊢
    simp only [List.filter_cons, List.filter_nil, decide_eq_true_eq, if_pos hn]
  · rw [g, if_neg (by omega)]; exact h.hi j hj
theorem FillI.next (h : FillI T R n i R.length x) (hT : R.filter (fun r => decide (r ∈ T.getD i [])) = T.getD i []) : FillI T R n (i + 1) 0 x := by
  refine ⟨h.len, fun j hj => ?_, ?_, fun j hj => h.hi j (by omega)⟩
  · by_cases e : j = i
    · subst e; rw [h.mid, List.take_length, hT]
    · exact h.lo j (by omega)
  · rw [h.hi (i + 1) (by omega)]; simp
theorem FillI.done (h : FillI T R n n 0 x) (hT : T.length = n) : x = T := by
  refine List.ext_getElem (by rw [h.len, hT]) (fun j h1 h2 => ?_)
  have := h.lo j (by rw [h.len] at h1; exact h1)
  simp only [List.getD_eq_getElem?_getD, List.getElem?_eq_getElem h1, List.getElem?_eq_getElem h2] at this
  exact this
theorem FillI.start : FillI T R n 0 0 (List.replicate n []) := by
  have e : ∀ j : Nat, (List.replicate n ([] : List Int)).getD j [] = [] := fun j => by
    rw [List.getD_eq_getElem?_getD, List.getElem?_replicate]
    split <;> rfl
  exact ⟨by simp, fun j hj => absurd hj (by omega), by rw [e]; simp, fun j _ => e j⟩
theorem FillI.row (h : FillI T R n i q x) : (x.getD i []).length ≤ R.length := by
  rw [h.mid]
  exact Nat.le_trans (List.length_filter_le _ _) (by rw [List.length_take]; omega)
end
theorem filter_up {R l : List Int} (hR : R.Pairwise (· < ·)) (hl : l.Pairwise (· < ·)) (hs : ∀ r ∈ l, r ∈ R) : R.filter (fun r => decide (r ∈ l)) = l := by
  refine up_same (hR.filter _) hl (fun i => ?_)
  rw [List.mem_filter, decide_eq_true_eq]
  exact ⟨fun h => h.2, fun h => ⟨hs i h, h⟩⟩
section
variable {c : List S39} {A B : List (List Int)}
theorem used_regs : ∀ r ∈ usedQ c, r ∈ regsL c := fun r hr => by
  obtain ⟨i, hi, hu⟩ := List.mem_flatMap.1 hr
  have hil := List.mem_range.1 hi
  refine ((regsL_spec c).2 r).2 ⟨c.getD i z39, by rw [List.getD_eq_getElem?_getD, List.getElem?_eq_getElem hil]; exact List.getElem_mem _, .inl ?_⟩
  rw [← luses_eq]
  exact hu
theorem def_regs {i : Nat} (hi : i < c.length) (h0 : 0 ≤ DL c i) : DL c i ∈ regsL c := by
  refine ((regsL_spec c).2 _).2 ⟨c.getD i z39, by rw [List.getD_eq_getElem?_getD, List.getElem?_eq_getElem hi]; exact List.getElem_mem _, .inr ?_⟩
  have e : DL c i = defL (c.getD i z39) := ldef_eq _
  rw [← e]
  exact ⟨rfl, h0⟩
theorem regs_ge {r : Int} (h : r ∈ regsL c) : 0 ≤ r := by
  obtain ⟨x, _, h⟩ := ((regsL_spec c).2 r).1 h
  rcases h with h | ⟨h, h0⟩
  · rw [← luses_eq] at h
    exact ((useQ_mem x r).1 h).1
  · omega
theorem regs_small : (regsL c).length ≤ 4 * c.length := by
  have h1 := nodup_len (S := regsL c) (T := usedQ c ++ (List.range c.length).map (DL c)) (up_nodup (regsL_spec c).1) (fun r hr => by
    obtain ⟨x, hx, h⟩ := ((regsL_spec c).2 r).1 hr
    obtain ⟨i, hi, he⟩ := List.mem_iff_getElem.1 hx
    have hx2 : c.getD i z39 = x := by rw [List.getD_eq_getElem?_getD, List.getElem?_eq_getElem hi]; exact he
    rcases h with h | ⟨h, _⟩
    · rw [← luses_eq, ← hx2] at h
      exact List.mem_append_left _ (List.mem_flatMap.2 ⟨i, List.mem_range.2 hi, h⟩)
    · refine List.mem_append_right _ (List.mem_map.2 ⟨i, List.mem_range.2 hi, ?_⟩)
      have e : DL c i = defL (c.getD i z39) := ldef_eq _
      rw [e, hx2, h])
  have := usedQ_len c
  simp at h1
  omega
theorem refahead_spec (hc : c.length ≤ 1000) (hF : FlowS c A B) : Ev (fun k => palingref15_Ahead.f k c) A := by
  have hR := (regsL_spec c).1
  have hsm := regs_small (c := c)
  have hAR : ∀ i r, r ∈ A.getD i [] → r ∈ regsL c := fun i r hr => used_regs r (hF.sgA i r hr)
  refine Ev.pos (by omega) (Ev.pos (by omega) (Ev.bind (regs_spec c (by omega)) ?_))
  rw [show ((c.length : Int)).toNat = c.length by omega]
  generalize regsL c = R at hR hAR hsm ⊢
  have rows : ∀ i : Int, 0 ≤ i → i ≤ (c.length : Int) → ∀ x, FillI A R c.length i.toNat 0 x → Ev (fun k => palingref15_Ahead.l0 k c x R i) A := by
    refine up_ind ?_ ?_
    · intro x hx
      rw [show ((c.length : Nat) : Int).toNat = c.length by omega] at hx
      rw [hx.done hF.lA]
      exact Ev.step (fun k => rfl) (Ev.neg (by omega) (Ev.now _))
    · intro i i0 i1 ih x hx
      rw [show (i + 1).toNat = i.toNat + 1 by omega, ← wrap_up i0 i1 (by omega)] at ih
      have inner : ∀ j : Int, 0 ≤ j → j ≤ (R.length : Int) → ∀ x, FillI A R c.length i.toNat j.toNat x → Ev (fun k => palingref15_Ahead.l1 k c x R i j) A := by
        refine up_ind ?_ ?_
        · intro x hx
          rw [show ((R.length : Nat) : Int).toNat = R.length by omega] at hx
          exact Ev.step (fun k => rfl) (Ev.neg (by omega) (ih x (hx.next (filter_up hR (getD_up hF.uA _) (hAR _)))))
        · intro j j0 j1 ihj x hx
          rw [show (j + 1).toNat = j.toNat + 1 by omega, ← wrap_up j0 j1 (by omega)] at ihj
          obtain ⟨b, hb1, hb2⟩ := needed_spec hc (rd R j) i i0 i1
          refine Ev.step (fun k => rfl) (Ev.pos j1 (Ev.pos j0 (Ev.bind hb1 ?_)))
          rw [← hF.need _ (by omega)] at hb2
          cases b with
          | true =>
            have hrow := hx.row
            refine Ev.pos rfl (Ev.pos i0 (Ev.pos (by rw [hx.len]; exact i1) (Ev.pos (by show (x.getD i.toNat []).length < _; omega) ?_)))
            exact ihj _ (hx.put (by omega) (by omega) (hb2.1 rfl))
          | false =>
            refine Ev.neg (by simp) (ihj _ (hx.keep (by omega) (fun h => ?_)))
            exact absurd (hb2.2 h) (by simp)
      exact Ev.step (fun k => rfl) (Ev.pos i1 (inner 0 (by omega) (by omega) x hx))
  exact rows 0 (by omega) (by omega) _ FillI.start
theorem refbehind_spec (hc : c.length ≤ 1000) (hF : FlowS c A B) : Ev (fun k => palingref15_Behind.f k c) B := by
  have hR := (regsL_spec c).1
  have hsm := regs_small (c := c)
  have hBR : ∀ i r, r ∈ B.getD i [] → r ∈ regsL c := fun i r hr => used_regs r (hF.sgB i r hr)
  refine Ev.pos (by omega) (Ev.pos (by omega) (Ev.bind (refahead_spec hc hF) (Ev.bind (regs_spec c (by omega)) ?_)))
  rw [show ((c.length : Int)).toNat = c.length by omega]
  generalize regsL c = R at hR hBR hsm ⊢
  have hA := hF.lA
  have rows : ∀ i : Int, 0 ≤ i → i ≤ (c.length : Int) → ∀ x, FillI B R c.length i.toNat 0 x → Ev (fun k => palingref15_Behind.l0 k c x A R i) B := by
    refine up_ind ?_ ?_
    · intro x hx
      rw [show ((c.length : Nat) : Int).toNat = c.length by omega] at hx
      rw [hx.done hF.lB]
      exact Ev.step (fun k => rfl) (Ev.neg (by omega) (Ev.now _))
    · intro i i0 i1 ih x hx
      rw [show (i + 1).toNat = i.toNat + 1 by omega, ← wrap_up i0 i1 (by omega)] at ih
      have nl := nxL_len c i
      have hin := nxL_in c i
      have mB := hF.mB i.toNat (by omega)
      rw [show ((i.toNat : Nat) : Int) = i by omega] at mB
      have hnx := lrefnext_spec c hc i i0 i1
      generalize nxL c i = N at nl hin mB hnx
      have inner : ∀ j : Int, 0 ≤ j → j ≤ (R.length : Int) → ∀ x, FillI B R c.length i.toNat j.toNat x → Ev (fun k => palingref15_Behind.l1 k c x A R i N j) B := by
        refine up_ind ?_ ?_
        · intro x hx
          rw [show ((R.length : Nat) : Int).toNat = R.length by omega] at hx
          exact Ev.step (fun k => rfl) (Ev.neg (by omega) (ih x (hx.next (filter_up hR (getD_up hF.uB _) (hBR _)))))
        · intro j j0 j1 ihj x hx
          rw [show (j + 1).toNat = j.toNat + 1 by omega, ← wrap_up j0 j1 (by omega)] at ihj
          have some_ : ∀ q : Int, 0 ≤ q → q ≤ (N.length : Int) → ∀ b : Bool, (b = true ↔ ∃ m ∈ N.take q.toNat, rd R j ∈ A.getD m.toNat []) → Ev (fun k => palingref15_Behind.l2 k c x A R i N j b q) B := by
            refine up_ind ?_ ?_
            · intro b hb
              rw [show ((N.length : Nat) : Int).toNat = N.length by omega, List.take_length, ← mB] at hb
              refine Ev.step (fun k => rfl) (Ev.neg (by omega) ?_)
              cases b with
              | true =>
                have hrow := hx.row
                refine Ev.pos rfl (Ev.pos i0 (Ev.pos (by rw [hx.len]; exact i1) (Ev.pos j0 (Ev.pos j1 (Ev.pos (by show (x.getD i.toNat []).length < _; omega) ?_)))))
                exact ihj _ (hx.put (by omega) (by omega) (hb.1 rfl))
              | false =>
                refine Ev.neg (by simp) (ihj _ (hx.keep (by omega) (fun h => ?_)))
                exact absurd (hb.2 h) (by simp)
            · intro q q0 q1 ihq b hb
              rw [← wrap_up q0 q1 (by omega)] at ihq
              have hql : q.toNat < N.length := by omega
              have htk : ∀ P : Int → Prop, (∃ m ∈ N.take (wrap64 (q + 1)).toNat, P m) ↔ ((∃ m ∈ N.take q.toNat, P m) ∨ P (rd N q)) := fun P => by
                rw [wrap_up q0 q1 (by omega), show (q + 1).toNat = q.toNat + 1 by omega, List.take_succ_eq_append_getElem hql]
                have e : rd N q = N[q.toNat] := by unfold rd; rw [List.getD_eq_getElem?_getD, List.getElem?_eq_getElem hql]; rfl
                rw [e]
                constructor
                · rintro ⟨m, hm, h⟩
                  rcases List.mem_append.1 hm with hm | hm
                  · exact .inl ⟨m, hm, h⟩
                  · rw [List.mem_singleton.1 hm] at h; exact .inr h
                · rintro (⟨m, hm, h⟩ | h)
                  · exact ⟨m, List.mem_append_left _ hm, h⟩
                  · exact ⟨_, List.mem_append_right _ (by simp), h⟩
              refine Ev.step (fun k => rfl) (Ev.pos q1 ?_)
              cases b with
              | true => exact Ev.pos rfl (ihq true (by rw [htk]; exact ⟨fun _ => .inl (hb.1 rfl), fun _ => rfl⟩))
              | false =>
                have hm : rd N q ∈ N := by unfold rd; rw [List.getD_eq_getElem?_getD, List.getElem?_eq_getElem hql]; exact List.getElem_mem hql
                obtain ⟨m0, m1⟩ := hin _ hm
                have nA := hF.nA (rd N q).toNat
                refine Ev.neg (by simp) (Ev.pos q0 (Ev.pos m0 (Ev.pos (by omega) (Ev.pos j0 (Ev.pos j1 (Ev.bind (rhas_spec _ _ (by show (A.getD (rd N q).toNat []).length ≤ _; omega)) ?_))))))
                refine ihq _ ?_
                rw [htk, decide_eq_true_eq]
                exact ⟨fun h => .inr h, fun h => h.elim (fun h => absurd (hb.2 h) (by simp)) id⟩
          exact Ev.step (fun k => rfl) (Ev.pos j1 (some_ 0 (by omega) (by omega) false (by simp)))
      exact Ev.step (fun k => rfl) (Ev.pos i1 (Ev.bind hnx (inner 0 (by omega) (by omega) x hx)))
  exact rows 0 (by omega) (by omega) _ FillI.start
end
end Go.Proofs.YtianfjhhhhmjlaaDoor.PLiveTells

namespace Go.Proofs.YtianfjhhhhmjlaaDoor.PLiveTells
open Go.RowKit Go.Proofs.YtianfjhhhhmjlaaDoorW.PrintWords Go.Proofs.YtianfjhhhhmjlaaDoorW.PrintLast Go.Proofs.YtianfjhhhhmjlaaDoorW.PrintMore
set_option linter.unusedVariables false
set_option linter.unusedSimpArgs false
/-! The document's ranges, and how many are needed at once (palingref15), in plain words. -/
def convG (x : S30) : S31 := ⟨x.f0, x.f1, x.f2⟩
theorem filterMap_lk : ∀ (R : List Int) (M : List S30), R.Pairwise (· < ·) → keyUp M → (∀ x ∈ M, x.f0 ∈ R) → R.filterMap (lkR M) = M
  | [], [], _, _, _ => rfl
  | [], x :: M, _, _, h => absurd (h x (by simp)) (by simp)
  | r :: R, [], hR, _, _ => by
    have := filterMap_lk R [] (List.pairwise_cons.1 hR).2 List.Pairwise.nil (fun x hx => absurd hx (by simp))
    rw [List.filterMap_cons, show lkR [] r = none from rfl]
    exact this
  | r :: R, x :: M, hR, hk, h => by
    obtain ⟨r1, r2⟩ := List.pairwise_cons.1 hR
    obtain ⟨k1, k2⟩ := List.pairwise_cons.1 hk
    rcases List.mem_cons.1 (h x (by simp)) with e | e
    · have hM : ∀ y ∈ M, y.f0 ∈ R := fun y hy => by
        have := k1 y hy
        rcases List.mem_cons.1 (h y (by simp [hy])) with e2 | e2
        · omega
        · exact e2
      have ih := filterMap_lk R M r2 k2 hM
      rw [List.filterMap_cons, show lkR (x :: M) r = some x by rw [lkR_cons, if_pos e]]
      show x :: R.filterMap (lkR (x :: M)) = x :: M
      congr 1
      have e3 : ∀ L : List Int, (∀ y ∈ L, x.f0 < y) → L.filterMap (lkR (x :: M)) = L.filterMap (lkR M) := fun L hL => by
        induction L with
        | nil => rfl
        | cons y L ihL =>
          have := hL y (by simp)
          rw [List.filterMap_cons, List.filterMap_cons, lkR_cons, if_neg (by omega), ihL (fun z hz => hL z (by simp [hz]))]
      rw [e3 R (fun y hy => by have := r1 y hy; omega), ih]
    · have hx := r1 _ e
      have hn : lkR (x :: M) r = none := lkR_none (fun y hy => by
        rcases List.mem_cons.1 hy with rfl | hy
        · exact hx
        · have := k1 y hy; omega)
      rw [List.filterMap_cons, hn]
      exact filterMap_lk R (x :: M) r2 hk (fun y hy => by
        rcases List.mem_cons.1 hy with rfl | hy
        · exact e
        · have := k1 y hy
          rcases List.mem_cons.1 (h y (by simp [hy])) with e2 | e2
          · omega
          · exact e2)
def fO15 (o : Option (Int × Int)) : Int := (o.map (·.1)).getD (-1)
def lO15 (o : Option (Int × Int)) : Int := (o.map (·.2)).getD (-1)
section
variable {c : List S39} {A B : List (List Int)}
theorem okO_ge {r : Int} {t : Nat} {o : Option (Int × Int)} (h : OkO c A r t o) : (fO15 o < 0 ↔ o = none) := by
  cases o with
  | none => simp [fO15]
  | some p =>
    have := (h.rng p rfl).1
    simp only [fO15, Option.map_some, Option.getD_some, reduceCtorEq, iff_false]
    omega
theorem refranges_spec (hc : c.length ≤ 1000) (hF : FlowS c A B) : Ev (fun k => palingref15_Ranges.f k c) ((rangesL c A B).map convG) := by
  have hR := (regsL_spec c).1
  have hsm := regs_small (c := c)
  have hge : ∀ r ∈ regsL c, 0 ≤ r := fun r hr => regs_ge hr
  obtain ⟨k1, k2⟩ := rangesL_spec (c := c) (B := B) hF.uA
  obtain ⟨_, k3, _⟩ := ranges_facts hF
  have hMR : ∀ x ∈ rangesL c A B, x.f0 ∈ regsL c := fun x hx => by
    obtain ⟨_, _, _, i, hi, h⟩ := k3 x hx
    rcases (mem_hereL hF.uA i _).1 h with h | ⟨h, h0⟩
    · exact used_regs _ (hF.sgA i _ h)
    · rw [h]; exact def_regs hi h0
  refine Ev.congr (f := fun k => (palingref15_Ahead.f k c).bind fun t => (palingref15_Behind.f k c).bind fun u => (palingref15_Regs.f k c).bind fun v => palingref15_Ranges.l0 k c [] t u v 0) (fun k => rfl) ?_
  refine Ev.bind (refahead_spec hc hF) (Ev.bind (refbehind_spec hc hF) (Ev.bind (regs_spec c (by omega)) ?_))
  have hfin := filterMap_lk (regsL c) (rangesL c A B) hR k1 hMR
  have hA := hF.lA
  have hB := hF.lB
  rw [← hfin]
  generalize hRR : regsL c = R at hR hsm hge
  generalize rangesL c A B = M at k1 k2
  have regs : ∀ j : Int, 0 ≤ j → j ≤ (R.length : Int) → Ev (fun k => palingref15_Ranges.l0 k c (((R.take j.toNat).filterMap (lkR M)).map convG) A B R j) ((R.filterMap (lkR M)).map convG) := by
    refine up_ind ?_ ?_
    · rw [show ((R.length : Nat) : Int).toNat = R.length by omega, List.take_length]
      exact Ev.step (fun k => rfl) (Ev.neg (by omega) (Ev.now _))
    · intro j j0 j1 ih
      have hjl : j.toNat < R.length := by omega
      obtain ⟨r, hr⟩ : ∃ r, r = rd R j := ⟨_, rfl⟩
      have hre : R[j.toNat] = r := by rw [hr]; unfold rd; rw [List.getD_eq_getElem?_getD, List.getElem?_eq_getElem hjl]; rfl
      have hr0 : 0 ≤ r := hge r (by rw [← hre]; exact List.getElem_mem hjl)
      have hlk := k2 r
      rw [show (j + 1).toNat = j.toNat + 1 by omega, ← wrap_up j0 j1 (by omega), List.take_succ_eq_append_getElem hjl, hre, List.filterMap_append, List.map_append] at ih
      have hacc : (((R.take j.toNat).filterMap (lkR M)).map convG).length ≤ 4000 := by
        rw [List.length_map]
        refine Nat.le_trans (List.length_filterMap_le _ _) ?_
        rw [List.length_take]; omega
      generalize ((R.take j.toNat).filterMap (lkR M)).map convG = acc at ih hacc
      have places : ∀ i : Int, 0 ≤ i → i ≤ (c.length : Int) → Ev (fun k => palingref15_Ranges.l1 k c acc A B R j i r (fO15 ((List.range i.toNat).foldl (stO c A B r) none)) (lO15 ((List.range i.toNat).foldl (stO c A B r) none))) ((R.filterMap (lkR M)).map convG) := by
        refine up_ind ?_ ?_
        · rw [show ((c.length : Nat) : Int).toNat = c.length by omega, ← hlk]
          refine Ev.step (fun k => rfl) (Ev.neg (by omega) ?_)
          have hok := okO_all (c := c) (A := A) (B := B) r c.length
          rw [← hlk] at hok
          unfold lkP at hok ⊢
          cases hx : lkR M r with
          | none =>
            rw [List.filterMap_cons, hx] at ih
            simp only [List.filterMap_nil, List.map_nil, List.append_nil] at ih
            exact Ev.neg (by simp [fO15]) ih
          | some x =>
            rw [hx] at hok
            have h0 := (hok.rng _ rfl).1
            rw [List.filterMap_cons, hx] at ih
            simp only [List.filterMap_nil, List.map_cons, List.map_nil] at ih
            refine Ev.pos h0 (Ev.pos (by omega) ?_)
            rw [← (lkR_key hx).1]
            exact ih
        · intro i i0 i1 ihi
          have hil : i.toNat < c.length := by omega
          have hok := okO_all (c := c) (A := A) (B := B) r i.toNat
          rw [show (i + 1).toNat = i.toNat + 1 by omega, List.range_succ, List.foldl_append, ← wrap_up i0 i1 (by omega)] at ihi
          have hh : r ∈ hereL c A i.toNat ↔ (DL c i.toNat = r ∨ r ∈ A.getD i.toNat []) := by
            rw [mem_hereL hF.uA]
            constructor
            · rintro (h | ⟨h, _⟩)
              · exact .inr h
              · exact .inl h.symm
            · rintro (h | h)
              · exact .inr ⟨h.symm, by omega⟩
              · exact .inl h
          have hci : ((i.toNat : Nat) : Int) = i := by omega
          generalize (List.range i.toNat).foldl (stO c A B r) none = o at ihi hok
          change Ev (fun k => palingref15_Ranges.l1 k c acc A B R j (wrap64 (i + 1)) r (fO15 (stO c A B r o i.toNat)) (lO15 (stO c A B r o i.toNat))) _ at ihi
          have nA := hF.nA i.toNat
          have nB := hF.nB i.toNat
          have hneg := okO_ge hok
          have fire : ∀ b : Bool, (b = true ↔ r ∈ hereL c A i.toNat) → Ev (fun k => palingref15_Ranges.j2 k c acc A B R j i b r (fO15 o) (lO15 o)) ((R.filterMap (lkR M)).map convG) := fun b hb => by
            have hbB := rhas_spec (B.getD i.toNat []) r (by omega)
            cases b with
            | true =>
              have hin := hb.1 rfl
              have est : stO c A B r o i.toNat = some (firstO o i, i) := by
                unfold stO
                rw [if_pos hin, hci]
                split <;> rfl
              rw [est] at ihi
              by_cases hf : fO15 o < 0
              · have ho := hneg.1 hf
                subst ho
                exact Ev.step (f := fun k => palingref15_Ranges.j3 k c acc A B R j i true true r (-1) (-1)) (fun k => rfl) (Ev.step (f := fun k => palingref15_Ranges.l1 k c acc A B R j (wrap64 (i + 1)) r i i) (fun k => rfl) ihi)
              · refine Ev.step (f := fun k => palingref15_Ranges.j3 k c acc A B R j i true (decide (fO15 o < 0)) r (fO15 o) (lO15 o)) (fun k => rfl) ?_
                rw [show decide (fO15 o < 0) = false from decide_eq_false hf]
                refine Ev.step (f := fun k => palingref15_Ranges.l1 k c acc A B R j (wrap64 (i + 1)) r (fO15 o) i) (fun k => rfl) ?_
                have e : firstO o i = fO15 o := by
                  cases o with
                  | none => exact absurd (show fO15 none < 0 by simp [fO15]) hf
                  | some p => rfl
                rw [e] at ihi
                exact ihi
            | false =>
              have hout : r ∉ hereL c A i.toNat := fun h => absurd (hb.2 h) (by simp)
              refine Ev.step (f := fun k => palingref15_Ranges.j3 k c acc A B R j i false false r (fO15 o) (lO15 o)) (fun k => rfl) ?_
              by_cases hf : fO15 o ≥ 0
              · refine Ev.step (f := fun k => if fO15 o ≥ 0 then (if 0 ≤ i then (if i < (B.length : Int) then ((palingref15_has.f k (B.getD i.toNat []) r).bind fun t => (if t = true then (palingref15_Ranges.l1 k c acc A B R j (wrap64 (i + 1)) r (fO15 o) i) else (palingref15_Ranges.l1 k c acc A B R j (wrap64 (i + 1)) r (fO15 o) (lO15 o)))) else none) else none) else (palingref15_Ranges.l1 k c acc A B R j (wrap64 (i + 1)) r (fO15 o) (lO15 o))) (fun k => rfl) ?_
                refine Ev.pos hf (Ev.pos i0 (Ev.pos (by omega) (Ev.bind hbB ?_)))
                obtain ⟨p, rfl⟩ : ∃ p, o = some p := by
                  cases o with
                  | none => exact absurd hf (by simp [fO15])
                  | some p => exact ⟨p, rfl⟩
                by_cases hrB : r ∈ B.getD i.toNat []
                · have est : stO c A B r (some p) i.toNat = some (p.1, i) := by
                    unfold stO
                    rw [if_pos hrB, if_neg hout, hci]; rfl
                  rw [est] at ihi
                  exact Ev.pos (decide_eq_true hrB) ihi
                · have est : stO c A B r (some p) i.toNat = some p := by
                    unfold stO
                    rw [if_neg hrB, if_neg hout]
                  rw [est] at ihi
                  exact Ev.neg (by rw [decide_eq_true_eq]; exact hrB) ihi
              · have ho := hneg.1 (by omega)
                subst ho
                have est : stO c A B r none i.toNat = none := by
                  unfold stO
                  rw [if_neg hout]
                  split <;> rfl
                rw [est] at ihi
                exact Ev.step (f := fun k => palingref15_Ranges.l1 k c acc A B R j (wrap64 (i + 1)) r (-1) (-1)) (fun k => rfl) ihi
          refine Ev.step (fun k => rfl) (Ev.pos i1 (Ev.pos i0 (Ev.bind (ldef_spec _) ?_)))
          by_cases hd : defQ (rd_T39 c i) = r
          · exact Ev.pos hd (fire true ⟨fun _ => hh.2 (.inl hd), fun _ => rfl⟩)
          · refine Ev.neg hd (Ev.pos (by omega) (Ev.bind (rhas_spec (A.getD i.toNat []) r (by omega)) (fire _ ?_)))
            rw [decide_eq_true_eq, hh]
            exact ⟨.inr, fun h => h.elim (fun h => absurd h hd) id⟩
      refine Ev.step (fun k => rfl) (Ev.pos j1 (Ev.pos j0 ?_))
      rw [← hr]
      exact places 0 (by omega) (by omega)
  exact regs 0 (by omega) (by omega)
theorem refmost_spec (hc : c.length ≤ 1000) (hF : FlowS c A B) : Ev (fun k => palingref15_Most.f k c) (mostL A) := by
  have hA := hF.lA
  refine Ev.congr (f := fun k => (palingref15_Ahead.f k c).bind fun t => palingref15_Most.l0 k c 0 t 0) (fun k => rfl) (Ev.bind (refahead_spec hc hF) ?_)
  have key : ∀ i : Int, 0 ≤ i → i ≤ (c.length : Int) → ∀ n : Int, Ev (fun k => palingref15_Most.l0 k c n A i) ((A.drop i.toNat).foldl (fun n l => mx n (l.length : Int)) n) := by
    refine up_ind ?_ ?_
    · intro n
      rw [List.drop_eq_nil_of_le (by omega)]
      exact Ev.step (fun k => rfl) (Ev.neg (by omega) (Ev.now _))
    · intro i i0 i1 ih n
      rw [getD_drop A [] i.toNat (by omega), List.foldl_cons, show i.toNat + 1 = (i + 1).toNat by omega]
      rw [← wrap_up i0 i1 (by omega)] at ih ⊢
      exact Ev.step (fun k => rfl) (Ev.pos i1 (Ev.pos i0 (Ev.pos (by omega) (ih _))))
  exact key 0 (by omega) (by omega) 0
end
theorem lrows_same (A : List (List Int)) (hA : A.length ≤ 1000000) (hr : ∀ i : Nat, (A.getD i []).length ≤ 1000000) : Ev (fun k => palinglaw15_rows.f k A A) true := by
  have key : ∀ i : Int, 0 ≤ i → i ≤ (A.length : Int) → Ev (fun k => palinglaw15_rows.l0 k A A i) true := by
    refine up_ind ?_ ?_
    · exact Ev.step (fun k => rfl) (Ev.neg (by omega) (Ev.now _))
    · intro i i0 i1 ih
      rw [← wrap_up i0 i1 (by omega)] at ih
      have := hr i.toNat
      exact Ev.step (fun k => rfl) (Ev.pos i1 (Ev.pos i0 (Ev.pos i1 (Ev.bind (ints_spec (A.getD i.toNat []) (A.getD i.toNat []) (by omega)) (Ev.pos (by simp) ih)))))
  exact Ev.pos rfl (key 0 (by omega) (by omega))
end Go.Proofs.YtianfjhhhhmjlaaDoor.PLiveTells
