import Derived.Test.YtpbhfpbfmpocdaaDoorPSpillNonex0
import Derived.Test.YtpbhfpbfmpocdaaDoorPSpillNonex5
import Derived.Test.YtpbhfpbfmpocdaaDoorPSpillNonex12
import Derived.Test.YtpbhfpbfmpocdaaDoorPSpillNonex13
import Derived.Test.YtpbhfpbfmpocdaaDoorPSpillNonex14
import Derived.Test.YtpbhfpbfmpocdaaDoorPSpillNonehplain0
import Derived.Test.YtpbhfpbfmpocdaaDoorPSpillNonehregs15
import Derived.Test.YtpbhfpbfmpocdaaDoorPSpillNonehscanspec2
namespace Go.Proofs.YtpbhfpbfmpocdaaDoor.PSpillNone
open Go.RowKit Go.Proofs.YtpbhfpbfmpocdaaDoorW.PrintWords Go.Proofs.YtpbhfpbfmpocdaaDoorW.PrintLast Go.Proofs.YtpbhfpbfmpocdaaDoorW.PrintMore
set_option linter.unusedVariables false
set_option linter.unusedSimpArgs false
/-! The document's places, on: order, free, worst, Scan. -/
theorem rdG_mem (L : List S54) (i : Int) (i0 : 0 ≤ i) (i1 : i < (L.length : Int)) : rd_T54 L i ∈ L := by
  unfold rd_T54
  rw [List.getD_eq_getElem?_getD, List.getElem?_eq_getElem (by omega)]; exact List.getElem_mem _
theorem mem_rdG {L : List S54} {x : S54} (h : x ∈ L) : ∃ i : Int, (0 ≤ i ∧ i < (L.length : Int)) ∧ rd_T54 L i = x := by
  obtain ⟨i, hi, he⟩ := List.mem_iff_getElem.1 h
  refine ⟨(i : Int), ⟨by omega, by omega⟩, ?_⟩
  unfold rd_T54
  rw [Int.toNat_natCast, List.getD_eq_getElem?_getD, List.getElem?_eq_getElem hi]; exact he
theorem order_some (gs : List S54) (hg : gs.length ≤ 4000) : ∃ out, Ev (fun k => palingref21_order.f k gs) out ∧ out.length ≤ 4000 ∧ ∀ g ∈ gs, ∃ g' ∈ out, g'.f0 = g.f0 := by
  have main : ∀ q : Int, 0 ≤ q → q ≤ gs.length → ∀ out : List S54, out.length ≤ q.toNat → (∀ q' : Int, 0 ≤ q' → q' < q → ∃ g ∈ out, g.f0 = (rd_T54 gs q').f0) → ∃ o, Ev (fun k => palingref21_order.l0 k gs out q) o ∧ o.length ≤ 4000 ∧ ∀ q' : Int, 0 ≤ q' → q' < (gs.length : Int) → ∃ g ∈ o, g.f0 = (rd_T54 gs q').f0 := by
    refine up_ind ?_ ?_
    · intro out ho h
      exact ⟨out, Ev.step (fun k => rfl) (Ev.neg (by omega) (Ev.now _)), by omega, h⟩
    · intro q q0 q1 ih out ho h
      have hw : wrap64 (q + 1) = q + 1 := wrap_up q0 q1 (by omega)
      -- the row with one more
      have grow : ∀ t : Int, 0 ≤ t → t ≤ (out.length : Int) → ∃ o, Ev (fun k => palingref21_order.l0 k gs ([] ++ out.take t.toNat ++ [⟨(rd_T54 gs q).f0, (rd_T54 gs q).f1, (rd_T54 gs q).f2⟩] ++ out.drop t.toNat) (wrap64 (q + 1))) o ∧ o.length ≤ 4000 ∧ ∀ q' : Int, 0 ≤ q' → q' < (gs.length : Int) → ∃ g ∈ o, g.f0 = (rd_T54 gs q').f0 := by
        intro t t0 t1
        rw [hw]
        refine ih _ ?_ (fun q' a b => ?_)
        · have e : (out.take t.toNat).length + (out.drop t.toNat).length = out.length := by rw [← List.length_append, List.take_append_drop]
          simp only [List.length_append, List.length_nil, List.length_singleton]
          omega
        · by_cases e : q' = q
          · subst e; exact ⟨_, List.mem_append.2 (.inl (List.mem_append.2 (.inr (List.mem_singleton.2 rfl)))), rfl⟩
          · obtain ⟨g, hg, he⟩ := h q' a (by omega)
            rw [← List.take_append_drop t.toNat out] at hg
            refine ⟨g, ?_, he⟩
            rcases List.mem_append.1 hg with hg | hg
            · exact List.mem_append.2 (.inl (List.mem_append.2 (.inl (List.mem_append.2 (.inr hg)))))
            · exact List.mem_append.2 (.inr hg)
      have lens : ∀ t : Int, 0 ≤ t → t ≤ (out.length : Int) → (out.take t.toNat).length ≤ 4000 ∧ (out.drop t.toNat).length ≤ 4000 := fun t _ _ => by
        rw [List.length_take, List.length_drop]; omega
      have seek : ∀ t : Int, 0 ≤ t → t ≤ out.length → ∃ o, Ev (fun k => palingref21_order.l1 k gs out q t) o ∧ o.length ≤ 4000 ∧ ∀ q' : Int, 0 ≤ q' → q' < (gs.length : Int) → ∃ g ∈ o, g.f0 = (rd_T54 gs q').f0 := by
        refine up_ind ?_ ?_
        · obtain ⟨o, hg, h2⟩ := grow (out.length : Int) (by omega) (by omega)
          obtain ⟨l1, l2⟩ := lens (out.length : Int) (by omega) (by omega)
          exact ⟨o, Ev.step (fun k => rfl) (Ev.neg (by omega) (Ev.pos (by omega) (Ev.pos (by omega) (Ev.bind (Ev.con rfl) (Ev.pos (by simp; omega) (Ev.bind (Ev.con rfl) (Ev.pos q0 (Ev.pos q1 (Ev.pos (by simp; omega) (Ev.bind (Ev.con rfl) (Ev.bind (Ev.con rfl) (Ev.pos (by simp; omega) hg)))))))))))), h2⟩
        · intro t t0 t1 iht
          have hwt : wrap64 (t + 1) = t + 1 := wrap_up t0 t1 (by omega)
          rw [← hwt] at iht
          obtain ⟨o1, hn, hn2⟩ := iht
          obtain ⟨o, hg, h2⟩ := grow t t0 (by omega)
          obtain ⟨l1, l2⟩ := lens t t0 (by omega)
          by_cases c1 : (rd_T54 out t).f1 < (rd_T54 gs q).f1
          · exact ⟨o1, Ev.step (fun k => rfl) (Ev.pos t1 (Ev.pos t0 (Ev.pos q0 (Ev.pos q1 (Ev.pos c1 hn))))), hn2⟩
          · by_cases c2 : (rd_T54 out t).f1 = (rd_T54 gs q).f1
            · by_cases c3 : (rd_T54 out t).f0 < (rd_T54 gs q).f0
              · exact ⟨o1, Ev.step (fun k => rfl) (Ev.pos t1 (Ev.pos t0 (Ev.pos q0 (Ev.pos q1 (Ev.neg c1 (Ev.pos c2 (Ev.pos c3 hn))))))), hn2⟩
              · exact ⟨o, Ev.step (fun k => rfl) (Ev.pos t1 (Ev.pos t0 (Ev.pos q0 (Ev.pos q1 (Ev.neg c1 (Ev.pos c2 (Ev.neg c3 (Ev.pos (by omega) (Ev.bind (Ev.con rfl) (Ev.pos (by simp; omega) (Ev.bind (Ev.con rfl) (Ev.pos (by simp; omega) (Ev.bind (Ev.con rfl) (Ev.bind (Ev.con rfl) (Ev.pos (by simp; omega) hg))))))))))))))), h2⟩
            · exact ⟨o, Ev.step (fun k => rfl) (Ev.pos t1 (Ev.pos t0 (Ev.pos q0 (Ev.pos q1 (Ev.neg c1 (Ev.neg c2 (Ev.pos (by omega) (Ev.bind (Ev.con rfl) (Ev.pos (by simp; omega) (Ev.bind (Ev.con rfl) (Ev.pos (by simp; omega) (Ev.bind (Ev.con rfl) (Ev.bind (Ev.con rfl) (Ev.pos (by simp; omega) hg)))))))))))))), h2⟩
      obtain ⟨o, hs, h2⟩ := seek 0 (by omega) (by omega)
      exact ⟨o, Ev.step (fun k => rfl) (Ev.pos q1 hs), h2⟩
  obtain ⟨o, ho, hl, h2⟩ := main 0 (by omega) (by omega) [] (by simp) (fun q' a b => by omega)
  refine ⟨o, Ev.congr (fun k => rfl) ho, hl, fun g hg => ?_⟩
  obtain ⟨q, ⟨a, b⟩, rfl⟩ := mem_rdG hg
  exact h2 q a b
theorem free_some (L : List Int) (hL : L.length ≤ 4000) (n : Nat) (hn : n ≤ 1000) : ∃ r, Ev (fun k => palingref21_free.f k L (n : Int)) r := by
  have main : ∀ r : Int, 0 ≤ r → r ≤ n → ∃ x, Ev (fun k => palingref21_free.l0 k L (n : Int) r) x := by
    refine up_ind ?_ ?_
    · exact ⟨-1, Ev.step (fun k => rfl) (Ev.neg (by omega) (Ev.now _))⟩
    · intro r r0 r1 ih
      have hw : wrap64 (r + 1) = r + 1 := wrap_up r0 r1 (by omega)
      rw [← hw] at ih
      have inner : ∀ i : Int, 0 ≤ i → i ≤ L.length → ∀ b : Bool, ∃ x, Ev (fun k => palingref21_free.l1 k L (n : Int) r b i) x := by
        refine up_ind ?_ ?_
        · intro b
          cases b with
          | true =>
            obtain ⟨x, hx⟩ := ih
            exact ⟨x, Ev.step (fun k => rfl) (Ev.neg (by omega) (Ev.tt hx))⟩
          | false => exact ⟨r, Ev.step (fun k => rfl) (Ev.neg (by omega) (Ev.ff (Ev.now _)))⟩
        · intro i i0 i1 ihi b
          have hwi : wrap64 (i + 1) = i + 1 := wrap_up i0 i1 (by omega)
          rw [← hwi] at ihi
          cases b with
          | true =>
            obtain ⟨x, hx⟩ := ihi true
            exact ⟨x, Ev.step (fun k => rfl) (Ev.pos i1 (Ev.tt hx))⟩
          | false =>
            obtain ⟨x, hx⟩ := ihi (rd L i == r)
            exact ⟨x, Ev.step (fun k => rfl) (Ev.pos i1 (Ev.ff (Ev.pos i0 hx)))⟩
      obtain ⟨x, hx⟩ := inner 0 (by omega) (by omega) false
      exact ⟨x, Ev.step (fun k => rfl) (Ev.pos r1 hx)⟩
  obtain ⟨x, hx⟩ := main 0 (by omega) (by omega)
  exact ⟨x, Ev.congr (fun k => rfl) hx⟩
theorem worst_some (l : List S54) (L : List Int) (hl : l.length ≤ 4000) (hL : L.length = l.length) (now : Int) (n0 : 0 ≤ now) (n1 : now < (l.length : Int)) : ∃ w, Ev (fun k => palingref21_worst.f k l L now) w ∧ 0 ≤ w ∧ w ≤ now := by
  obtain ⟨m, rfl⟩ : ∃ m : Nat, now = (m : Int) := ⟨now.toNat, by omega⟩
  have main : ∀ i : Int, 0 ≤ i → i ≤ m → ∀ w : Int, 0 ≤ w → w ≤ (m : Int) → ∃ x, Ev (fun k => palingref21_worst.l0 k l L (m : Int) w i) x ∧ 0 ≤ x ∧ x ≤ (m : Int) := by
    refine up_ind ?_ ?_
    · intro w w0 w1
      exact ⟨w, Ev.step (fun k => rfl) (Ev.neg (by omega) (Ev.now _)), w0, w1⟩
    · intro i i0 i1 ih w w0 w1
      have hw : wrap64 (i + 1) = i + 1 := wrap_up i0 i1 (by omega)
      rw [← hw] at ih
      obtain ⟨x1, h1, h1'⟩ := ih i i0 (by omega)
      obtain ⟨x2, h2, h2'⟩ := ih w w0 w1
      by_cases c0 : rd L i ≥ 0
      · by_cases c1 : (rd_T54 l i).f2 > (rd_T54 l w).f2
        · exact ⟨x1, Ev.step (fun k => rfl) (Ev.pos i1 (Ev.pos i0 (Ev.pos (by omega) (Ev.pos c0 (Ev.pos (by omega) (Ev.pos w0 (Ev.pos (by omega) (Ev.pos c1 h1)))))))), h1'⟩
        · by_cases c2 : (rd_T54 l i).f2 = (rd_T54 l w).f2
          · by_cases c3 : (rd_T54 l i).f0 > (rd_T54 l w).f0
            · exact ⟨x1, Ev.step (fun k => rfl) (Ev.pos i1 (Ev.pos i0 (Ev.pos (by omega) (Ev.pos c0 (Ev.pos (by omega) (Ev.pos w0 (Ev.pos (by omega) (Ev.neg c1 (Ev.pos c2 (Ev.pos c3 h1)))))))))), h1'⟩
            · exact ⟨x2, Ev.step (fun k => rfl) (Ev.pos i1 (Ev.pos i0 (Ev.pos (by omega) (Ev.pos c0 (Ev.pos (by omega) (Ev.pos w0 (Ev.pos (by omega) (Ev.neg c1 (Ev.pos c2 (Ev.neg c3 h2)))))))))), h2'⟩
          · exact ⟨x2, Ev.step (fun k => rfl) (Ev.pos i1 (Ev.pos i0 (Ev.pos (by omega) (Ev.pos c0 (Ev.pos (by omega) (Ev.pos w0 (Ev.pos (by omega) (Ev.neg c1 (Ev.neg c2 h2))))))))), h2'⟩
      · exact ⟨x2, Ev.step (fun k => rfl) (Ev.pos i1 (Ev.pos i0 (Ev.pos (by omega) (Ev.neg c0 h2)))), h2'⟩
  obtain ⟨x, hx, h⟩ := main 0 (by omega) (by omega) (m : Int) n0 (by omega)
  exact ⟨x, Ev.congr (fun k => rfl) hx, h⟩
theorem scan_some (c : List S48) (hc : c.length ≤ 1000) (n : Nat) (hn0 : 1 ≤ n) (hn : n ≤ 1000) : ∃ ps, Ev (fun k => palingref21_Scan.f k c (n : Int)) ps ∧ ps.length ≤ 4000 ∧ ∀ r ∈ regsL c, ∃ p ∈ ps, p.f0 = r := by
  obtain ⟨gs, hgs, hgl, hgr⟩ := ranges_some c hc
  obtain ⟨l, ho, hl, hol⟩ := order_some gs hgl
  -- the rows
  have rows : ∀ (out : List Int), out.length = l.length → ∀ q : Int, 0 ≤ q → q ≤ l.length → ∀ ps : List S57, ps.length ≤ q.toNat → (∀ q' : Int, 0 ≤ q' → q' < q → ∃ p ∈ ps, p.f0 = (rd_T54 l q').f0) → ∃ o, Ev (fun k => palingref21_Scan.l3 k l out ps q) o ∧ o.length ≤ 4000 ∧ ∀ q' : Int, 0 ≤ q' → q' < (l.length : Int) → ∃ p ∈ o, p.f0 = (rd_T54 l q').f0 := by
    intro out hout
    refine up_ind ?_ ?_
    · intro ps hp h
      exact ⟨ps, Ev.step (fun k => rfl) (Ev.neg (by omega) (Ev.now _)), by omega, h⟩
    · intro q q0 q1 ih ps hp h
      have hw : wrap64 (q + 1) = q + 1 := wrap_up q0 q1 (by omega)
      have grow : ∀ t : Int, 0 ≤ t → t ≤ (ps.length : Int) → ∃ o, Ev (fun k => palingref21_Scan.l3 k l out ([] ++ ps.take t.toNat ++ [⟨(rd_T54 l q).f0, rd out q⟩] ++ ps.drop t.toNat) (wrap64 (q + 1))) o ∧ o.length ≤ 4000 ∧ ∀ q' : Int, 0 ≤ q' → q' < (l.length : Int) → ∃ p ∈ o, p.f0 = (rd_T54 l q').f0 := by
        intro t t0 t1
        rw [hw]
        refine ih _ ?_ (fun q' a b => ?_)
        · have e : (ps.take t.toNat).length + (ps.drop t.toNat).length = ps.length := by rw [← List.length_append, List.take_append_drop]
          simp only [List.length_append, List.length_nil, List.length_singleton]
          omega
        · by_cases e : q' = q
          · subst e; exact ⟨_, List.mem_append.2 (.inl (List.mem_append.2 (.inr (List.mem_singleton.2 rfl)))), rfl⟩
          · obtain ⟨g, hg, he⟩ := h q' a (by omega)
            rw [← List.take_append_drop t.toNat ps] at hg
            refine ⟨g, ?_, he⟩
            rcases List.mem_append.1 hg with hg | hg
            · exact List.mem_append.2 (.inl (List.mem_append.2 (.inl (List.mem_append.2 (.inr hg)))))
            · exact List.mem_append.2 (.inr hg)
      have lens : ∀ t : Int, 0 ≤ t → t ≤ (ps.length : Int) → (ps.take t.toNat).length ≤ 4000 ∧ (ps.drop t.toNat).length ≤ 4000 := fun t _ _ => by
        rw [List.length_take, List.length_drop]; omega
      have seek : ∀ t : Int, 0 ≤ t → t ≤ ps.length → ∃ o, Ev (fun k => palingref21_Scan.l4 k l out ps q t) o ∧ o.length ≤ 4000 ∧ ∀ q' : Int, 0 ≤ q' → q' < (l.length : Int) → ∃ p ∈ o, p.f0 = (rd_T54 l q').f0 := by
        refine up_ind ?_ ?_
        · obtain ⟨o, hg, h2⟩ := grow (ps.length : Int) (by omega) (by omega)
          obtain ⟨l1, l2⟩ := lens (ps.length : Int) (by omega) (by omega)
          exact ⟨o, Ev.step (fun k => rfl) (Ev.neg (by omega) (Ev.pos (by omega) (Ev.pos (by omega) (Ev.bind (Ev.con rfl) (Ev.pos (by simp; omega) (Ev.bind (Ev.con rfl) (Ev.pos q0 (Ev.pos q1 (Ev.pos (by omega) (Ev.pos (by simp; omega) (Ev.bind (Ev.con rfl) (Ev.bind (Ev.con rfl) (Ev.pos (by simp; omega) hg))))))))))))), h2⟩
        · intro t t0 t1 iht
          have hwt : wrap64 (t + 1) = t + 1 := wrap_up t0 t1 (by omega)
          rw [← hwt] at iht
          obtain ⟨o1, hn, hn2⟩ := iht
          obtain ⟨o, hg, h2⟩ := grow t t0 (by omega)
          obtain ⟨l1, l2⟩ := lens t t0 (by omega)
          by_cases c1 : (rd_T57 ps t).f0 < (rd_T54 l q).f0
          · exact ⟨o1, Ev.step (fun k => rfl) (Ev.pos t1 (Ev.pos t0 (Ev.pos q0 (Ev.pos q1 (Ev.pos c1 hn))))), hn2⟩
          · exact ⟨o, Ev.step (fun k => rfl) (Ev.pos t1 (Ev.pos t0 (Ev.pos q0 (Ev.pos q1 (Ev.neg c1 (Ev.pos (by omega) (Ev.bind (Ev.con rfl) (Ev.pos (by simp; omega) (Ev.bind (Ev.con rfl) (Ev.pos (by omega) (Ev.pos (by simp; omega) (Ev.bind (Ev.con rfl) (Ev.bind (Ev.con rfl) (Ev.pos (by simp; omega) hg)))))))))))))), h2⟩
      obtain ⟨o, hs, h2⟩ := seek 0 (by omega) (by omega)
      exact ⟨o, Ev.step (fun k => rfl) (Ev.pos q1 hs), h2⟩
  -- the scan
  have scan : ∀ i : Int, 0 ≤ i → i ≤ l.length → ∀ out has : List Int, out.length = l.length → has.length = l.length → ∃ o, Ev (fun k => palingref21_Scan.l1 k (n : Int) l out has i) o ∧ o.length ≤ 4000 ∧ ∀ q' : Int, 0 ≤ q' → q' < (l.length : Int) → ∃ p ∈ o, p.f0 = (rd_T54 l q').f0 := by
    refine up_ind ?_ ?_
    · intro out has hout hhas
      obtain ⟨o, h, h2⟩ := rows out hout 0 (by omega) (by omega) [] (by simp) (fun q' a b => by omega)
      exact ⟨o, Ev.step (fun k => rfl) (Ev.neg (by omega) h), h2⟩
    · intro i i0 i1 ih out has hout hhas
      have hw : wrap64 (i + 1) = i + 1 := wrap_up i0 i1 (by omega)
      rw [← hw] at ih
      obtain ⟨m, hm⟩ : ∃ m : Nat, i = (m : Int) := ⟨i.toNat, by omega⟩
      have inner : ∀ t : Int, 0 ≤ t → t ≤ m → ∀ has : List Int, has.length = l.length → ∃ o, Ev (fun k => palingref21_Scan.l2 k (n : Int) l out has i t) o ∧ o.length ≤ 4000 ∧ ∀ q' : Int, 0 ≤ q' → q' < (l.length : Int) → ∃ p ∈ o, p.f0 = (rd_T54 l q').f0 := by
        refine up_ind ?_ ?_
        · intro has hhas
          obtain ⟨r, hr⟩ := free_some has (by omega) n hn
          by_cases cr : r < 0
          · obtain ⟨w, hw', w0, w1⟩ := worst_some l has hl hhas i i0 i1
            by_cases ce : w = i
            · obtain ⟨o, h, h2⟩ := ih out has hout hhas
              exact ⟨o, Ev.step (fun k => rfl) (Ev.neg (by omega) (Ev.bind hr (Ev.pos cr (Ev.bind hw' (Ev.pos ce h))))), h2⟩
            · obtain ⟨o, h, h2⟩ := ih ((out.set w.toNat (-1)).set i.toNat (rd has w)) ((has.set w.toNat (-1)).set i.toNat (rd has w)) (by simp [hout]) (by simp [hhas])
              exact ⟨o, Ev.step (fun k => rfl) (Ev.neg (by omega) (Ev.bind hr (Ev.pos cr (Ev.bind hw' (Ev.neg ce (Ev.pos w0 (Ev.pos (by omega) (Ev.pos (by omega) (Ev.pos i0 (Ev.pos (by omega) (Ev.pos (by omega) h))))))))))), h2⟩
          · obtain ⟨o, h, h2⟩ := ih (out.set i.toNat r) (has.set i.toNat r) (by simp [hout]) (by simp [hhas])
            exact ⟨o, Ev.step (fun k => rfl) (Ev.neg (by omega) (Ev.bind hr (Ev.neg cr (Ev.pos i0 (Ev.pos (by omega) (Ev.pos (by omega) h)))))), h2⟩
        · intro t t0 t1 iht has hhas
          have hwt : wrap64 (t + 1) = t + 1 := wrap_up t0 t1 (by omega)
          rw [← hwt] at iht
          by_cases c1 : (rd_T54 l t).f2 < (rd_T54 l i).f1
          · obtain ⟨o, h, h2⟩ := iht (has.set t.toNat (-1)) (by simp [hhas])
            exact ⟨o, Ev.step (fun k => rfl) (Ev.pos (by omega) (Ev.pos t0 (Ev.pos (by omega) (Ev.pos i0 (Ev.pos i1 (Ev.pos c1 (Ev.pos (by omega) h))))))), h2⟩
          · obtain ⟨o, h, h2⟩ := iht has hhas
            exact ⟨o, Ev.step (fun k => rfl) (Ev.pos (by omega) (Ev.pos t0 (Ev.pos (by omega) (Ev.pos i0 (Ev.pos i1 (Ev.neg c1 h)))))), h2⟩
      obtain ⟨o, h, h2⟩ := inner 0 (by omega) (by omega) has hhas
      exact ⟨o, Ev.step (fun k => rfl) (Ev.pos i1 h), h2⟩
  have init : ∀ i : Int, 0 ≤ i → i ≤ l.length → ∀ out has : List Int, out.length = l.length → has.length = l.length → ∃ o, Ev (fun k => palingref21_Scan.l0 k (n : Int) l out has i) o ∧ o.length ≤ 4000 ∧ ∀ q' : Int, 0 ≤ q' → q' < (l.length : Int) → ∃ p ∈ o, p.f0 = (rd_T54 l q').f0 := by
    refine up_ind ?_ ?_
    · intro out has hout hhas
      obtain ⟨o, h, h2⟩ := scan 0 (by omega) (by omega) out has hout hhas
      exact ⟨o, Ev.step (fun k => rfl) (Ev.neg (by omega) h), h2⟩
    · intro i i0 i1 ih out has hout hhas
      have hw : wrap64 (i + 1) = i + 1 := wrap_up i0 i1 (by omega)
      rw [← hw] at ih
      obtain ⟨o, h, h2⟩ := ih (out.set i.toNat (-1)) (has.set i.toNat (-1)) (by simp [hout]) (by simp [hhas])
      exact ⟨o, Ev.step (fun k => rfl) (Ev.pos i1 (Ev.pos i0 (Ev.pos (by omega) (Ev.pos (by omega) h)))), h2⟩
  obtain ⟨o, h, hlen, h2⟩ := init 0 (by omega) (by omega) (List.replicate l.length 0) (List.replicate l.length 0) (by simp) (by simp)
  refine ⟨o, Ev.congr (f := fun k => if (n : Int) < 1 then none else ((palingref15_Ranges.f k c).bind fun t => (palingref21_order.f k t).bind fun t2 => (if 0 ≤ (t2.length : Int) then (if t2.length ≤ 35184372088832 then palingref21_Scan.l0 k (n : Int) t2 (List.replicate t2.length 0) (List.replicate t2.length 0) 0 else none) else none))) (fun k => ?_) (Ev.neg (by omega) (Ev.bind hgs (Ev.bind ho (Ev.pos (by omega) (Ev.pos (by omega) h))))), hlen, fun r hr => ?_⟩
  · unfold palingref21_Scan.f
    rw [if_neg (by omega), if_neg (by omega)]
    rfl
  · obtain ⟨g, hg, he⟩ := hgr r hr
    obtain ⟨g', hg', he'⟩ := hol g hg
    obtain ⟨q, ⟨a, b⟩, rfl⟩ := mem_rdG hg'
    obtain ⟨p, hp, hpe⟩ := h2 q a b
    exact ⟨p, hp, by rw [hpe, he', he]⟩
end Go.Proofs.YtpbhfpbfmpocdaaDoor.PSpillNone
