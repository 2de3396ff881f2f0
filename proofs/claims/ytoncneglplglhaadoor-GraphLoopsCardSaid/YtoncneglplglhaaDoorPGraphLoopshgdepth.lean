-- HAND paling/graph.Depth rounds=1 making=1 needs=paling/graph.Loops
import Derived.Test.YtoncneglplglhaaDoorPGraphLoopsx0
import Derived.Test.YtoncneglplglhaaDoorPGraphLoopshforms
import Derived.Test.YtoncneglplglhaaDoorPGraphLoopshgloop
import Derived.Test.YtoncneglplglhaaDoorPGraphLoopshgloops
import Derived.Test.YtoncneglplglhaaDoorPGraphLoopshgwalk
import Derived.Test.YtoncneglplglhaaDoorPGraphLoopshpure
namespace Go.Proofs.YtoncneglplglhaaDoor.PGraphLoops
open Go.RowKit Go.Proofs.YtoncneglplglhaaDoorW.PrintWords Go.Proofs.YtoncneglplglhaaDoorW.PrintLast Go.Proofs.YtoncneglplglhaaDoorW.PrintMore
set_option linter.unusedVariables false
set_option linter.unusedSimpArgs false
/-! graph.Depth: in how many loops each place is. -/
def depthRow (o : List Int) (js : List Int) : List Int := js.foldl (fun o j => o.set j.toNat (wrap64 (o.getD j.toNat 0 + 1))) o
def depthOf (n : Nat) (L : List (List Int)) : List Int := L.foldl depthRow (List.replicate n 0)
theorem depthRow_len : ∀ (js o : List Int), (depthRow o js).length = o.length
  | [], o => rfl
  | j :: js, o => by
    have := depthRow_len js (o.set j.toNat (wrap64 (o.getD j.toNat 0 + 1)))
    rw [List.length_set] at this
    exact this
def graph_Depth.f (k : Nat) (l0 : List S37) : Option (List Int) :=
  if l0.length ≤ 1000000 then (graph_Loops.f k l0).bind fun L => if L.length ≤ 1000000 ∧ ∀ r ∈ L, r.length ≤ 1000000 ∧ ∀ x ∈ r, 0 ≤ x ∧ x < (l0.length : Int) then some (depthOf l0.length L) else none
  else none
theorem graph_Depth.mono : ∀ a0 k, LeO (graph_Depth.f k a0) (graph_Depth.f (k + 1) a0) := fun a0 k r h => by
  unfold graph_Depth.f at h ⊢
  by_cases h1 : a0.length ≤ 1000000
  · rw [if_pos h1] at h ⊢
    obtain ⟨L, e1, h⟩ := Option.bind_eq_some_iff.1 h
    exact Option.bind_eq_some_iff.2 ⟨L, graph_Loops.mono _ _ _ e1, h⟩
  · rw [if_neg h1] at h; exact absurd h (by simp)
theorem row_in {L : List (List Int)} {t : Nat} {P : List Int → Prop} (h : ∀ r ∈ L, P r) (ht : t < L.length) : P (L.getD t []) := by
  rw [List.getD_eq_getElem?_getD, List.getElem?_eq_getElem ht]; exact h _ (List.getElem_mem ht)
theorem drop_cons {α : Type} (l : List α) (z : α) (i : Nat) (h : i < l.length) : l.drop i = l.getD i z :: l.drop (i + 1) := by
  rw [List.drop_eq_getElem_cons h]
  congr 1
  simp [h]
set_option maxHeartbeats 8000000 in
set_option maxRecDepth 100000 in
theorem graph_Depth.calls (k : Nat) (A0 : Option Addr) (c0 : Nat) (l0 : List S37) (r : List Int) (w : World) (hr0 : Kd.C k37 w A0 l0.length l0) (hc0 : l0.length ≤ c0) (h : graph_Depth.f k l0 = some r) (hgl : GlobOK w) :
    Calls Tryd.prog 19 #[.slice A0 l0.length c0] w fun e w' => ∃ v0_ : Value, e = .returned (v0_) ∧ Kd.R (Kd.int .i64) 3 w' w.heap.size (fun _ => True) v0_ r ∧ Below w.heap.size w w' := by
  unfold graph_Depth.f at h
  by_cases hn : l0.length ≤ 1000000
  case neg => rw [if_neg hn] at h; exact absurd h (by simp)
  rw [if_pos hn] at h
  obtain ⟨L, e1, h⟩ := Option.bind_eq_some_iff.1 h
  by_cases hc : L.length ≤ 1000000 ∧ ∀ r ∈ L, r.length ≤ 1000000 ∧ ∀ x ∈ r, 0 ≤ x ∧ x < (l0.length : Int)
  case neg => rw [if_neg hc] at h; exact absurd h (by simp)
  rw [if_pos hc] at h
  have HE := Aside0.mk (Option.some.inj h)
  have HL := Aside0.mk hc
  have HN := Aside0.mk hn
  have CL := Aside0.mk (fun W (hb : Below w.heap.size w W) => graph_Loops.calls k A0 c0 l0 L W (Kd.C_below hr0 hb) hc0 e1 (hgl.step hb))
  have hn0 : (0 : Int) ≤ (l0.length : Int) := by omega
  clear hr0 hc0 h e1 hc hn hgl
  go_enter Tryd.func19, Tryd.ntmps19
  go_wp2_with (first
    | ((with_reducible refine gate_dst (N := 10) rfl ?_); refine Kd.R_make (Kd.int .i64) _ 3 rfl (N := 10) rfl 34 _ _ rfl (l0.length : Int) rfl rfl Tryd.underlying34 (.int .i64 0) 8 infoI rfl (by decide) (by omega) 0 (ok := fun _ => True) (okp := fun _ => True) rfl (fun _ hk => hk) trivial hn0 (by have := HN.out; simp; omega) (Below.refl _ _) (Nat.le_refl _) ?_; intro v3 w1 ho8 hb hg_ hnew_; clear hg_ hnew_; have HO := Aside0.mk ho8; have HB := Aside0.mk hb; clear ho8 hb)
    | (go_at_call 16; (with_reducible refine (CL.out _ HB.out).mono ?_); rintro e w2 ⟨v12, rfl, hS, hb⟩; have HO2 := Aside0.mk (Kd.R_below HO.out hb); have HS := Aside0.mk (Kd.S_lower (Kd.S_new' hS (Kd.R_lt HO.out)) HB.out.size); have HB2 := Aside0.mk (below_step HB.out hb); clear hS hb CL HO HB; obtain ⟨Ao, co, eo⟩ := Kd.S_slice HS.out; subst eo))
  simp only [Int.toNat_natCast] at HO2
  go_loopg [14] L.length (fun kq v14 wr => ∃ (t : Nat) (o : List Int), v14 = .int .i64 (t : Int) ∧ Aside0 (t + kq = L.length) ∧ Aside0 ((L.drop t).foldl depthRow o = r) ∧ Aside0 (o.length = l0.length) ∧ Aside0 (Kd.R (Kd.int .i64) 3 wr w.heap.size (fun _ => True) v3 o) ∧ Aside0 (Kd.S (Kd.slice 3 (Kd.int .i64)) 34 wr w.heap.size (fun k_ => some k_ ≠ (v3 : Value).ownBlock) (.slice Ao L.length co) L) ∧ Aside0 (Below w.heap.size w wr))
  case atStart => exact ⟨0, List.replicate l0.length 0, rfl, ⟨by omega⟩, ⟨HE.out⟩, ⟨by simp⟩, HO2, ⟨Kd.S_mono HS.out (fun _ hk => hk.2)⟩, HB2⟩
  case round =>
    clear HO2 HS HB2 HE
    obtain ⟨t, o, rfl, HK, HE, HOL, HO, HS, HB⟩ := hrel
    have ht0 : (0 : Int) ≤ (t : Int) := by omega
    by_cases hlt : (t : Int) < (L.length : Int)
    case neg =>
      have hk0 : t = L.length := by have := HK.out; omega
      have he := HE.out
      rw [hk0, List.drop_length] at he
      obtain rfl : o = r := he
      clear HE HK hk0
      go_wp2_with fail
      go_ret
      exact ⟨_, rfl, HO.out, HB.out⟩
    cases gk with
    | zero => exact absurd HK.out (by omega)
    | succ m1 =>
    obtain ⟨js, hjs⟩ : ∃ js, js = L.getD t [] := ⟨_, rfl⟩
    have hjr := row_in HL.out.2 (show t < L.length by omega)
    have he := HE.out
    rw [drop_cons L [] t (by omega), ← hjs, List.foldl_cons] at he
    rw [← hjs] at hjr
    have HJ := Aside0.mk hjr
    have HE1 := Aside0.mk he
    obtain ⟨ad, A1, c1, e130, hx1, hc1, hC1⟩ := rows_at (Kd.S_reads' HS.out).2.2 rfl ht0 hlt
    subst e130
    obtain ⟨ce, hce, hMe, hcc⟩ := Kd.S_get HS.out [] (t : Int) ht0 hlt
    obtain ⟨ve, rfl, ge⟩ := hMe
    have hv := hcc 0 _ rfl
    rw [Nat.add_zero, show ((Kd.slice 3 (Kd.int .i64))).sz = 1 from rfl, Nat.mul_one] at hv
    replace hv := Option.some.inj (hv.symm.trans hx1)
    rw [hv] at ge
    rw [Int.toNat_natCast] at ge hx1 hc1 hC1
    rw [← hjs] at ge hx1 hc1 hC1
    have HR := Aside0.mk (Kd.R_mono (ok' := fun k_ => some k_ ≠ (v3 : Value).ownBlock) ge (fun _ hk => hk.1))
    have HC := Aside0.mk hc1
    have h63 : (t : Int) + 1 ≤ 9223372036854775807 := by have := HL.out.1; omega
    have HJS := Aside0.mk hjs
    clear hv ge hcc hce hjr he HE hC1 hc1 hjs
    go_wp2_with fail
    go_loopg [20] js.length (fun kq v20 wr => ∃ (m : Nat) (o : List Int), v20 = .int .i64 (m : Int) ∧ Aside0 (m + kq = js.length) ∧ Aside0 ((L.drop (t + 1)).foldl depthRow (depthRow o (js.drop m)) = r) ∧ Aside0 (o.length = l0.length) ∧ Aside0 (Kd.R (Kd.int .i64) 3 wr w.heap.size (fun _ => True) v3 o) ∧ Aside0 (Kd.S (Kd.slice 3 (Kd.int .i64)) 34 wr w.heap.size (fun k_ => some k_ ≠ (v3 : Value).ownBlock) (.slice (some ad) L.length co) L) ∧ Aside0 (Kd.R (Kd.int .i64) 3 wr w.heap.size (fun k_ => some k_ ≠ (v3 : Value).ownBlock) (.slice A1 js.length c1) js) ∧ Aside0 (Below w.heap.size w wr))
    case atStart => exact ⟨0, o, rfl, ⟨by omega⟩, HE1, HOL, HO, HS, HR, HB⟩
    case round =>
      clear HE1 HOL HO HS HR HB hx1
      obtain ⟨m, o, rfl, HK2, HE, HOL, HO, HS, HR, HB⟩ := hrel
      have hm0 : (0 : Int) ≤ (m : Int) := by omega
      by_cases hlt2 : (m : Int) < (js.length : Int)
      case neg =>
        have hk0 : m = js.length := by have := HK2.out; omega
        have he := HE.out
        rw [hk0, List.drop_length] at he
        have HE2 := Aside0.mk he
        clear he HE hk0
        go_wp2_with fail
        go_roundg m1
        case measure => omega
        case rel => exact ⟨t + 1, o, by (try push_cast); (try rfl), ⟨by have := HK.out; omega⟩, HE2, HOL, HO, HS, HB⟩
      cases gk with
      | zero => exact absurd HK2.out (by omega)
      | succ m2 =>
      obtain ⟨j, hj⟩ : ∃ j, j = js.getD m 0 := ⟨_, rfl⟩
      have hjin : 0 ≤ j ∧ j < (l0.length : Int) := by
        have hml : m < js.length := by omega
        rw [hj, List.getD_eq_getElem?_getD, List.getElem?_eq_getElem hml]
        exact HJ.out.2 _ (List.getElem_mem hml)
      have he := HE.out
      rw [drop_cons js 0 m (by omega), ← hj] at he
      obtain ⟨adj, ej, hxj⟩ := Kd.at_int (Kd.R_reads' HR.out).2.2 (m : Int) hm0 hlt2
      subst ej
      have hrdj : rd js (m : Int) = j := by rw [hj]; rfl
      rw [hrdj, Int.toNat_natCast] at hxj
      have hjo : j < (o.length : Int) := by rw [HOL.out]; exact hjin.2
      have hj0 := hjin.1
      obtain ⟨g, cap, ev, hg, hl, cells, hb⟩ := Kd.R_form HO.out (by omega)
      subst ev
      have hol := HOL.out
      obtain ⟨hx, hf⟩ := Kd.R_celln 0 HO.out j hj0 hjo
      have hat : rdOf 0 o j = o.getD j.toNat 0 := rfl
      rw [hat] at hx
      have HP := Aside0.mk (Kd.R_putg HO.out j (wrap64 (o.getD j.toNat 0 + 1)))
      have HGB := Aside0.mk (Kd.R_base HO.out g rfl)
      have HE2 := Aside0.mk he
      have h63b : (m : Int) + 1 ≤ 9223372036854775807 := by have := HJ.out.1; omega
      clear he HE hjin hrdj hat hg hl hb hj
      generalize hx0 : o.getD j.toNat 0 = x at hx HP
      have HX0 := Aside0.mk hx0
      have HOL2 := Aside0.mk hol
      clear hx0 hol
      go_wp2_with (first | ((with_reducible refine gate_store (t := 3) (p := 29) rfl ?_); refine store_event (t := 3) (p := 29) (v := ?vo_w20) (w1 := (wr.setCell ⟨g, j.toNat, none⟩ (.int .i64 (wrap64 (x + 1))))) ?hg ?ho ?hn ?hr ?_; (case ho => rfl); (case hg => rfl); (case hn => rfl); (case hr => first | (go_simp; done) | (go_simp; rfl)); intro w20 hw; have hg2 : wr.grownBy w20 (some g) := (by rw [hw]; exact HP.out.2); have hp_ := HP.out.1; rw [← hw] at hp_; have n0_ := Aside0.mk hp_; have n1_ := Aside0.mk (Kd.S_after (v := (.slice (some ⟨g, 0, none⟩) o.length cap)) (v1 := (.slice (some ⟨g, 0, none⟩) o.length cap)) (ok := (fun _ => True)) (Kd.S_mono HS.out (fun _ hk => ⟨trivial, hk⟩)) hg2 (.inl rfl)); have n3_ := Aside0.mk (Kd.R_after (v := (.slice (some ⟨g, 0, none⟩) o.length cap)) (v1 := (.slice (some ⟨g, 0, none⟩) o.length cap)) (ok := (fun _ => True)) (Kd.R_mono HR.out (fun _ hk => ⟨trivial, hk⟩)) hg2 (.inl rfl)); have n2_ := Aside0.mk ((by rw [hw]; exact below_set (HB.out) HGB.out : Below w.heap.size w w20)); clear HO HS HR HB hg2 hw hp_ HP hx hf))
      go_roundg m2
      case measure => omega
      case rel => exact ⟨m + 1, o.set j.toNat (wrap64 (x + 1)), by (try push_cast); (try rfl), ⟨by have := HK2.out; omega⟩, ⟨by rw [← HX0.out]; exact HE2.out⟩, ⟨by rw [List.length_set]; exact HOL2.out⟩, n0_, ⟨Kd.S_mono n1_.out (fun _ hk => hk.2)⟩, ⟨Kd.R_mono n3_.out (fun _ hk => hk.2)⟩, n2_⟩
theorem graph_Depth_spec (l : List S37) (hl : l.length ≤ 1000) (L : List (List Int)) (hL : Ev (fun k => graph_Loops.f k l) L) (hin : ∀ r ∈ L, r.length ≤ 1000000 ∧ ∀ x ∈ r, 0 ≤ x ∧ x < (l.length : Int)) (hLl : L.length ≤ 1000000) : Ev (fun k => graph_Depth.f k l) (depthOf l.length L) := by
  refine Ev.congr (f := fun k => if l.length ≤ 1000000 then (graph_Loops.f k l).bind fun L => if L.length ≤ 1000000 ∧ ∀ r ∈ L, r.length ≤ 1000000 ∧ ∀ x ∈ r, 0 ≤ x ∧ x < (l.length : Int) then some (depthOf l.length L) else none else none) (fun k => rfl) ?_
  exact Ev.pos (by omega) (Ev.bind hL (Ev.pos ⟨hLl, hin⟩ (Ev.now _)))
end Go.Proofs.YtoncneglplglhaaDoor.PGraphLoops
