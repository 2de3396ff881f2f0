import Derived.Test.YtdopacgaklaaeaaDoorPDeadBackx0
import Derived.Test.YtdopacgaklaaeaaDoorPDeadBackx4
import Derived.Test.YtdopacgaklaaeaaDoorPDeadBackx7
import Derived.Test.YtdopacgaklaaeaaDoorPDeadBackx8
import Derived.Test.YtdopacgaklaaeaaDoorPDeadBackhg0
import Derived.Test.YtdopacgaklaaeaaDoorPDeadBackhg7
import Derived.Test.YtdopacgaklaaeaaDoorPDeadBackhdmv
import Derived.Test.YtdopacgaklaaeaaDoorPDeadBackhg5
import Derived.Test.YtdopacgaklaaeaaDoorPDeadBackhforms
import Derived.Test.YtdopacgaklaaeaaDoorPDeadBackhmpure
import Derived.Test.YtdopacgaklaaeaaDoorPDeadBackhg2
import Derived.Test.YtdopacgaklaaeaaDoorPDeadBackhplain0
namespace Go.Proofs.YtdopacgaklaaeaaDoor.PDeadBack
open Go.RowKit Go.Proofs.YtdopacgaklaaeaaDoorW.PrintWords Go.Proofs.YtdopacgaklaaeaaDoorW.PrintLast Go.Proofs.YtdopacgaklaaeaaDoorW.PrintMore
set_option linter.unusedVariables false
set_option linter.unusedSimpArgs false
/-! The law DeadBack, walked. -/
attribute [local go_sem high] eqEvent
theorem goneB_app : ∀ a b : List Bool, goneB (a ++ b) = goneB a ++ goneB b
  | [], b => rfl
  | true :: a, b => by rw [List.cons_append, goneB, goneB, goneB_app a b]; rfl
  | false :: a, b => by rw [List.cons_append, goneB, goneB, goneB_app a b]; rfl
theorem goneB_succ (g : List Bool) (i : Nat) (h : i < g.length) : goneB (g.take (i + 1)) = goneB (g.take i) ++ (if g.getD i false = true then [true, false] else [false]) := by
  rw [List.take_succ_eq_append_getElem h, goneB_app, List.getD_eq_getElem?_getD, List.getElem?_eq_getElem h]
  cases g[i] <;> rfl
theorem someB_len (n : Nat) (l : List Int) : (someB n l).length = n := by simp [someB]
theorem someB_get (n : Nat) (l : List Int) (i : Nat) (h : i < n) : (someB n l).getD i false = (decide (i < l.length) && (Int.tmod (l.getD i 0) 2 == 1)) := by
  unfold someB
  rw [List.getD_eq_getElem?_getD, List.getElem?_map, List.getElem?_range h]
  rfl
theorem goneB_le : ∀ g : List Bool, (goneB g).length ≤ 2 * g.length
  | [] => by simp [goneB]
  | true :: g => by have := goneB_le g; simp [goneB]; omega
  | false :: g => by have := goneB_le g; simp [goneB]; omega
set_option maxHeartbeats 8000000 in
set_option maxRecDepth 100000 in
theorem palinglaw18_DeadBack.calls (k : Nat) (A0 : Option Addr) (c0 : Nat) (l0 : List S28) (A1 : Option Addr) (c1 : Nat) (l1 : List Int) (A2 : Option Addr) (c2 : Nat) (l2 : List Int) (r : Bool) (w : World) (hr0 : Kd.C k28 w A0 l0.length l0) (hc0 : l0.length ≤ c0) (hr1 : Kd.C (Kd.int .i64) w A1 l1.length l1) (hc1 : l1.length ≤ c1) (hr2 : Kd.C (Kd.int .u8) w A2 l2.length l2) (hc2 : l2.length ≤ c2) (h : palinglaw18_DeadBack.f k l0 l1 l2 = some r) (hgl : GlobOK w) :
    Calls Tryd.prog 5 #[.slice A0 l0.length c0, .slice A1 l1.length c1, .slice A2 l2.length c2] w fun e w' => e = .returned (.bool r) ∧ Below w.heap.size w w' := by
  unfold palinglaw18_DeadBack.f at h
  obtain ⟨up, h1, h⟩ := Option.bind_eq_some_iff.1 h
  cases up with
  | false => simp at h
  | true =>
  rw [if_pos rfl] at h
  have HR0 := Aside0.mk hr0
  have HC0 := Aside0.mk hc0
  have HR1 := Aside0.mk hr1
  have HC1 := Aside0.mk hc1
  have HR2 := Aside0.mk hr2
  have HC2 := Aside0.mk hc2
  have HGL := Aside0.mk hgl
  have A4 := Aside0.mk h1
  clear hr0 hc0 hr1 hc1 hr2 hc2 hgl h1
  by_cases hs : l0.length ≤ 60 ∧ l1.length ≤ 60
  case neg =>
    rw [if_neg hs] at h
    obtain rfl := Option.some.inj h
    clear h
    go_enter Tryd.func5, Tryd.ntmps5
    go_wp2_with fail
    refine (palinglaw18_awake.calls k true w A4.out HGL.out).mono ?_
    rintro e w1 ⟨rfl, hb1⟩
    have HB1 := Aside0.mk hb1
    clear hb1
    by_cases h60 : l0.length ≤ 60
    · have g0 : decide (60 < (l0.length : Int)) = false := decide_eq_false (by omega)
      have g1 : decide (60 < (l1.length : Int)) = true := decide_eq_true (by omega)
      clear hs h60
      go_wp2_with fail
      go_ret
      exact ⟨rfl, HB1.out⟩
    · have g0 : decide (60 < (l0.length : Int)) = true := decide_eq_true (by omega)
      clear hs h60
      go_wp2_with fail
      go_ret
      exact ⟨rfl, HB1.out⟩
  rw [if_pos hs] at h
  obtain ⟨ok, h1, h⟩ := Option.bind_eq_some_iff.1 h
  have A5 := Aside0.mk h1
  have HS := Aside0.mk hs
  have g0 : decide (60 < (l0.length : Int)) = false := decide_eq_false (by omega)
  have g1 : decide (60 < (l1.length : Int)) = false := decide_eq_false (by omega)
  clear h1 hs
  cases ok with
  | false =>
    rw [if_neg (by simp)] at h
    obtain rfl := Option.some.inj h
    clear h
    go_enter Tryd.func5, Tryd.ntmps5
    go_wp2_with fail
    refine (palinglaw18_awake.calls k true w A4.out HGL.out).mono ?_
    rintro e w1 ⟨rfl, hb1⟩
    have HB1 := Aside0.mk hb1
    clear hb1
    go_wp2_with fail
    refine (palingref11_Check.calls k A0 c0 l0 30 9 false w1 (Kd.C_below HR0.out HB1.out) HC0.out A5.out).mono ?_
    rintro e w2 ⟨rfl, hb2⟩
    have HB2 := Aside0.mk (HB1.out.trans (hb2.mono HB1.out.size))
    clear hb2
    go_wp2_with fail
    go_ret
    exact ⟨rfl, HB2.out⟩
  | true =>
  rw [if_pos rfl] at h
  obtain ⟨d, h1, h⟩ := Option.bind_eq_some_iff.1 h
  by_cases hdl : d.length = (goneB (someB l0.length l2)).length
  case neg => rw [if_neg hdl] at h; cases h
  rw [if_pos hdl] at h
  obtain ⟨le, h2, h⟩ := Option.bind_eq_some_iff.1 h
  obtain ⟨sm, h3, h⟩ := Option.bind_eq_some_iff.1 h
  by_cases hsb : sm = true ∧ backL l0 d 8 ⟨l1, [], [], 0, false⟩ ⟨l1, [], [], 0, false⟩ = true
  case neg => rw [if_neg hsb] at h; cases h
  rw [if_pos hsb] at h
  obtain rfl := Option.some.inj h
  obtain ⟨rfl, hbk⟩ := hsb
  have A6 := Aside0.mk h1
  have A7 := Aside0.mk h2
  have A8 := Aside0.mk h3
  have A9 := Aside0.mk hbk
  have HDL := Aside0.mk hdl
  obtain ⟨G, hG⟩ : ∃ G, G = someB l0.length l2 := ⟨_, rfl⟩
  have HG := Aside0.mk hG
  have HGN := Aside0.mk (show G.length = l0.length by rw [hG]; exact someB_len _ _)
  rw [← hG] at A6 A7 HDL
  clear h h1 h2 h3 hbk hdl hG
  go_enter Tryd.func5, Tryd.ntmps5
  go_wp2_with fail
  refine (palinglaw18_awake.calls k true w A4.out HGL.out).mono ?_
  rintro e w1 ⟨rfl, hb1⟩
  have HB1 := Aside0.mk hb1
  clear hb1
  go_wp2_with fail
  refine (palingref11_Check.calls k A0 c0 l0 30 9 true w1 (Kd.C_below HR0.out HB1.out) HC0.out A5.out).mono ?_
  rintro e w2 ⟨rfl, hb2⟩
  have HB2 := Aside0.mk (HB1.out.trans (hb2.mono HB1.out.size))
  clear hb2 HB1
  go_wp2_with (first | ((with_reducible refine gate_dst (N := 37) rfl ?_); refine Kd.R_make Kd.bool _ 4 rfl (N := 37) rfl 26 _ _ rfl (l0.length : Int) rfl rfl Tryd.underlying26 (.bool false) 1 info4 rfl (by decide) (by omega) false (ok := fun _ => True) (okp := fun _ => True) rfl (fun _ hk => hk) trivial (by omega) (by have := HS.out; omega) HB2.out HB2.out.size ?_; intro v8 w6 ho3 hb6 hg_ hnew_; clear hg_; obtain ⟨gs, hgs, hgl_⟩ := hnew_; have HO3 := Aside0.mk ho3; have HB6 := Aside0.mk hb6; have HGS := Aside0.mk hgs; clear ho3 hb6 hgs hgl_))
  have HL60 := Aside0.mk (show l0.length ≤ 60 from HS.out.1)
  go_loopg [9, 10] l0.length (fun gg v9 v10 wr => ∃ (i : Nat) (o : List Bool), v10 = .int .i64 (i : Int) ∧ i ≤ l0.length ∧ l0.length - i ≤ gg ∧ Aside0 (o = G.take i ++ List.replicate (l0.length - i) false) ∧ Aside0 (Kd.R Kd.bool 4 wr w.heap.size (fun _ => True) v8 o) ∧ Aside0 (Kd.R Kd.bool 4 wr w.heap.size (fun k_ => k_ ≠ gs) v9 (goneB (G.take i))) ∧ Aside0 (Below w.heap.size w wr))
  case atStart => exact ⟨0, _, rfl, by omega, by omega, ⟨by simp⟩, HO3, ⟨Kd.R_nil _ _ _ _ _⟩, HB6⟩
  case round =>
    obtain ⟨i, o, rfl, hi1, hig, HO, HO8, HO9, HB⟩ := hrel
    clear HO3 HB6
    by_cases hlt : i < l0.length
    · have hd : decide ((i : Int) < (l0.length : Int)) = true := decide_eq_true (by omega)
      have hol : o.length = l0.length := by rw [HO.out]; simp [HGN.out]; omega
      obtain ⟨go, co, hv8, -, -, -⟩ := Kd.R_form HO8.out (by omega)
      subst hv8
      have hgo : go = gs := Option.some.inj (show some go = some gs from HGS.out)
      subst hgo
      obtain ⟨oc, of⟩ := Kd.R_celln false HO8.out (i : Int) (by omega) (by omega)
      rw [Int.toNat_natCast] at oc of
      have d0 : decide ((0 : Int) ≤ (i : Int)) = true := decide_eq_true (by omega)
      have d1 : decide ((i : Int) < (o.length : Int)) = true := decide_eq_true (by omega)
      have d0n : decide (i < l0.length) = true := decide_eq_true hlt
      have d1n : i < o.length := by omega
      have d1i : (i : Int) < (o.length : Int) := by omega
      have HI := Aside0.mk (And.intro hi1 hig)
      have HLT := Aside0.mk hlt
      have HOL := Aside0.mk hol
      obtain ⟨V, hV⟩ : ∃ V, V = G.getD i false := ⟨_, rfl⟩
      have HV := Aside0.mk hV
      have HWI := Aside0.mk (show wrap64 ((i : Int) + 1) = ((i + 1 : Nat) : Int) by have := HL60.out; rw [wrap_in (by omega) (by omega)]; omega)
      have HGE := Aside0.mk (show (goneB (G.take i)).length ≤ 120 by have := goneB_le (G.take i); have h1 := HL60.out; have h2 := List.length_take_le i G; omega)
      have HGB := Aside0.mk (show w.heap.size ≤ go from Kd.R_base HO8.out go rfl)
      have HGL2 := Aside0.mk (show go < wr.heap.size from Kd.R_lt HO8.out go rfl)
      have HSET := Aside0.mk (show o.set i V = G.take (i + 1) ++ List.replicate (l0.length - (i + 1)) false by rw [HO.out, hV]; exact fill_set hlt HGN.out)
      have HGS1 := Aside0.mk (show goneB (G.take (i + 1)) = goneB (G.take i) ++ (if V = true then [true, false] else [false]) by rw [hV]; exact goneB_succ G i (by have := HGN.out; omega))
      rcases Classical.em (i < l2.length) with hm | hm
      case' inl =>
        have HVD := Aside0.mk (show (Int.tmod (rd l2 (i : Int)) 2 == 1) = V by rw [hV, HG.out, someB_get _ _ _ hlt, decide_eq_true hm, Bool.true_and]; unfold rd; rw [Int.toNat_natCast])
        have d2 : decide ((i : Int) < (l2.length : Int)) = true := decide_eq_true (by omega)
        have d2n : decide (i < l2.length) = true := decide_eq_true hm
        have d2m : i < l2.length := hm
        have d2i : (i : Int) < (l2.length : Int) := by omega
        obtain ⟨am, em, zm⟩ := Kd.at_int (Kd.C_below HR2.out HB.out) (i : Int) (by omega) (by omega)
        cases em
        rw [Int.toNat_natCast] at zm
        clear hi1 hig hlt hol hV hm
        go_upto_region 12 with fail
        rw [HVD.out]
        clear zm d2 d2n d2m d2i HVD
      case' inr =>
        have HVD := Aside0.mk (show false = V by rw [hV, HG.out, someB_get _ _ _ hlt, decide_eq_false hm, Bool.false_and])
        have d2 : decide ((i : Int) < (l2.length : Int)) = false := decide_eq_false (by omega)
        have d2n : decide (i < l2.length) = false := decide_eq_false hm
        clear hi1 hig hlt hol hV hm
        go_upto_region 12 with fail
        rw [show wr.setCell ⟨go, i, none⟩ (.bool false) = wr.setCell ⟨go, i, none⟩ (.bool V) by rw [← HVD.out]]
        clear d2 d2n HVD
      all_goals
        obtain ⟨p1, p2⟩ := Kd.R_putg HO8.out (i : Int) V
        rw [Int.toNat_natCast] at p1 p2
        have HP := Aside0.mk (HSET.out ▸ p1)
        have HQ9 := Aside0.mk (Kd.R_far HO9.out (p := ⟨go, i, none⟩) (fun k_ hk => hk) (.bool V))
        have HBb := Aside0.mk (HB.out.setCell (p := ⟨go, i, none⟩) HGB.out (.bool V))
        have HGL3 := Aside0.mk (show go < (wr.setCell ⟨go, i, none⟩ (.bool V)).heap.size by simp [World.setCell]; exact HGL2.out)
        obtain ⟨oc2, of2⟩ := Kd.R_celln false p1 (i : Int) (by omega) (by simp; omega)
        have hrv : rdOf false (o.set i V) (i : Int) = V := by unfold rdOf; rw [Int.toNat_natCast]; simp [d1n]
        rw [Int.toNat_natCast, hrv] at oc2
        rw [Int.toNat_natCast] at of2
        clear p1 p2 oc of HO8 HO9 HB HO hrv
        generalize (wr.setCell ⟨go, i, none⟩ (.bool V)) = wb at HP HQ9 HBb HGL3 oc2 of2 ⊢
        have HOC := Aside0.mk oc2
        have HOF := Aside0.mk of2
        clear oc2 of2
        cases V with
        | true =>
          rw [if_pos rfl] at HGS1
          have oc2 := HOC.out
          have of2 := HOF.out
          go_wp2_with (first | ((with_reducible refine gate_builtin (b := .append) (xs := #[.tmp 63, .tmp 64]) rfl ?_); at_builtin; (refine Kd.R_append Kd.bool (w0 := w) w.heap.size rfl (.tmp 63) (.tmp 64) 26 4 (.bool false) 1 rfl Tryd.underlying26 info4 rfl (by decide) (by omega) u9 (goneB (G.take i)) true [.bool true] (fun k_ => k_ ≠ go) (fun _ => False) rfl (by first | rfl | (go_simp; done) | (go_simp; rfl)) rfl (fun _ hk => hk.elim) (fun k_ hk => by have := HGL3.out; omega) HQ9.out HBb.out HBb.out.size (by have := HGE.out; omega) ?_; intro v9a w7 hoA hbA hgA hatA; have HP7 := Aside0.mk (Kd.R_grown1 HP.out rfl hgA (fun e => HQ9.out.1 go e rfl)); have HQ7 := Aside0.mk hoA; have HB7 := Aside0.mk hbA; have HG7 := Aside0.mk (Nat.lt_of_lt_of_le HGL3.out hgA.size); clear hoA hbA hgA hatA HP HQ9 HBb HGL3 oc2 of2)) | ((with_reducible refine gate_builtin (b := .append) (xs := #[.tmp 66, .tmp 67]) rfl ?_); at_builtin; (refine Kd.R_append Kd.bool (w0 := w) w.heap.size rfl (.tmp 66) (.tmp 67) 26 4 (.bool false) 1 rfl Tryd.underlying26 info4 rfl (by decide) (by omega) v9a (goneB (G.take i) ++ [true]) false [.bool false] (fun k_ => k_ ≠ go) (fun _ => False) rfl (by first | rfl | (go_simp; done) | (go_simp; rfl)) rfl (fun _ hk => hk.elim) (fun k_ hk => by have := HG7.out; omega) HQ7.out HB7.out HB7.out.size (by have := HGE.out; simp; omega) ?_; intro v9b w8 hoA hbA hgA hatA; have HP8 := Aside0.mk (Kd.R_grown1 HP7.out rfl hgA (fun e => HQ7.out.1 go e rfl)); have HQ8 := Aside0.mk hoA; have HB8 := Aside0.mk hbA; clear hoA hbA hgA hatA HP7 HQ7 HB7 HG7)))
          go_roundg (gk - 1)
          case measure => have := HI.out; have := HLT.out; omega
          case rel => exact ⟨i + 1, _, by first | rfl | rw [HWI.out], HLT.out, by have := HI.out; omega, ⟨rfl⟩, HOL.out ▸ HP8, by rw [HGS1.out]; simpa using HQ8, HB8⟩
        | false =>
          rw [if_neg (by simp)] at HGS1
          have oc2 := HOC.out
          have of2 := HOF.out
          go_wp2_with ((with_reducible refine gate_builtin (b := .append) (xs := #[.tmp 66, .tmp 67]) rfl ?_); at_builtin; (refine Kd.R_append Kd.bool (w0 := w) w.heap.size rfl (.tmp 66) (.tmp 67) 26 4 (.bool false) 1 rfl Tryd.underlying26 info4 rfl (by decide) (by omega) u9 (goneB (G.take i)) false [.bool false] (fun k_ => k_ ≠ go) (fun _ => False) rfl (by first | rfl | (go_simp; done) | (go_simp; rfl)) rfl (fun _ hk => hk.elim) (fun k_ hk => by have := HGL3.out; omega) HQ9.out HBb.out HBb.out.size (by have := HGE.out; omega) ?_; intro v9a w7 hoA hbA hgA hatA; have HP7 := Aside0.mk (Kd.R_grown1 HP.out rfl hgA (fun e => HQ9.out.1 go e rfl)); have HQ7 := Aside0.mk hoA; have HB7 := Aside0.mk hbA; clear hoA hbA hgA hatA HP HQ9 HBb HGL3 oc2 of2))
          go_roundg (gk - 1)
          case measure => have := HI.out; have := HLT.out; omega
          case rel => exact ⟨i + 1, _, by first | rfl | rw [HWI.out], HLT.out, by have := HI.out; omega, ⟨rfl⟩, HOL.out ▸ HP7, by rw [HGS1.out]; simpa using HQ7, HB7⟩
    · have hd : decide ((i : Int) < (l0.length : Int)) = false := decide_eq_false (by omega)
      have hdn : decide (i < l0.length) = false := decide_eq_false hlt
      have hil : i = l0.length := by omega
      have hoG : o = G := by rw [HO.out, hil, Nat.sub_self, ← HGN.out, List.take_length]; simp
      have hgG : G.take i = G := by rw [hil, ← HGN.out, List.take_length]
      rw [hgG] at HO9
      subst hoG
      obtain ⟨Ad8, c8, hv8⟩ := Kd.R_slice HO8.out
      subst hv8
      obtain ⟨Ad9, c9, hv9⟩ := Kd.R_slice HO9.out
      subst hv9
      clear HO hil hgG hi1 hig hlt
      go_wp2_with fail
      refine (dead_Insert.calls k A0 c0 l0 8 0 0 0 0 0 0 Ad8 c8 o d wr (Kd.C_below HR0.out HB.out) HC0.out (Kd.R_reads' HO8.out).2.2 (Kd.R_reads' HO8.out).2.1 A6.out).mono ?_
      rintro e w3 ⟨v11, rfl, ho11, hb11⟩
      obtain ⟨Ad11, c11, hv11⟩ := Kd.R_slice ho11
      subst hv11
      have HC11 := Aside0.mk (Kd.R_reads' ho11).2
      have HO93 := Aside0.mk (Kd.R_reads' (Kd.R_below HO9.out hb11)).2
      have HB3 := Aside0.mk (HB.out.trans (hb11.mono HB.out.size))
      have c3b0 : ((d.length : Int) == ((goneB o).length : Int)) = true := beq_iff_eq.mpr (by rw [HDL.out])
      have c3b1 : ((d.length : Int) != ((goneB o).length : Int)) = false := bne_eq_false_iff_eq.mpr (by rw [HDL.out])
      have c3b2 : (d.length == (goneB o).length) = true := beq_iff_eq.mpr HDL.out
      clear ho11 hb11 HO8 HO9 HB hd hdn
      go_wp2_with fail
      refine (dead_Less.calls k Ad11 c11 d Ad9 c9 (goneB o) le w3 HC11.out.2 HC11.out.1 HO93.out.2 HO93.out.1 A7.out).mono ?_
      rintro e w4 ⟨v12, rfl, ho12, hb12⟩
      obtain ⟨Ad12, c12, hv12⟩ := Kd.R_slice ho12
      subst hv12
      have HC12 := Aside0.mk (Kd.R_reads' ho12).2
      have HC114 := Aside0.mk (Kd.C_below HC11.out.2 hb12)
      have HB4 := Aside0.mk (HB3.out.trans (hb12.mono HB3.out.size))
      clear ho12 hb12 HB3 HO93 c3b0 c3b1 c3b2
      go_wp2_with fail
      refine (palingref13_Same.calls k Ad12 c12 le A0 c0 l0 true w4 HC12.out.2 HC12.out.1 (Kd.C_below HR0.out HB4.out) HC0.out A8.out).mono ?_
      rintro e w5 ⟨rfl, hdr5⟩
      have hb5 : Below w4.heap.size w4 w5 := by obtain ⟨m5, rfl⟩ := hdr5; exact pw_below_drewN (Below.refl _ _) m5
      have HC5 := Aside0.mk (Kd.C_below HC114.out hb5)
      have HB5 := Aside0.mk (HB4.out.trans (hb5.mono HB4.out.size))
      clear hdr5 hb5 HC12 HC114 HB4
      go_wp2_with fail
      have gc1 := blk_new w5 (.cells #[.slice A0 l0.length c0] 32)
      have hbA : Below w5.heap.size w5 (w5.alloc (.cells #[.slice A0 l0.length c0] 32)) := (Below.refl _ _).alloc (Nat.le_refl _) _
      refine (ms_new w5 _ w5.heap.size A0 l0.length c0 A1 c1 l1 gc1 (Nat.le_refl _) (Kd.C_below HR1.out (HB5.out.trans (hbA.mono HB5.out.size))) HC1.out hbA (by have := HS.out; omega)).mono ?_
      rintro e w6 ⟨ba, gTa, vMa, Fa, rfl, HMa, HFa, HBa⟩
      have HB6 := Aside0.mk (hbA.trans (HBa.out.mono hbA.size))
      clear gc1 hbA HBa
      obtain ⟨gCa, hgCa⟩ : ∃ q, q = w5.heap.size := ⟨_, rfl⟩
      rw [← hgCa] at HMa HFa
      clear hgCa
      go_wp2_with fail
      have gc2 := blk_new w6 (.cells #[.slice Ad11 d.length c11] 32)
      have hbB : Below w6.heap.size w6 (w6.alloc (.cells #[.slice Ad11 d.length c11] 32)) := (Below.refl _ _).alloc (Nat.le_refl _) _
      have hbB5 := HB6.out.trans (hbB.mono HB6.out.size)
      have hsB : w6.heap.size ≤ (w6.alloc (.cells #[.slice Ad11 d.length c11] 32)).heap.size := hbB.size
      refine (ms_new w5 _ w6.heap.size Ad11 d.length c11 A1 c1 l1 gc2 HB6.out.size (Kd.C_below HR1.out (HB5.out.trans (hbB5.mono HB5.out.size))) HC1.out hbB5 (by have := HS.out; omega)).mono ?_
      rintro e w7 ⟨bb, gTb, vMb, Fb, rfl, HMb, HFb, HBb⟩
      have HB7 := Aside0.mk (hbB5.trans (HBb.out.mono hbB5.size))
      have HMa7 := Aside0.mk (HMa.out.below (hbB.trans (HBb.out.mono hbB.size)))
      have HDJ := Aside0.mk (show ∀ k, Fa k → ¬ Fb k from fun k hk hb => by
        obtain ⟨_, _, _, _, h3⟩ := HMa.out
        have h1 := h3 k hk
        rcases HFb.out k hb with h2 | h2 <;> omega)
      clear gc2 hbB hbB5 hsB HBb HMa HFa HFb HB6
      obtain ⟨gCb, hgCb⟩ : ∃ q, q = w6.heap.size := ⟨_, rfl⟩
      rw [← hgCb] at HMb
      clear hgCb
      go_wp2_with fail
      go_loopg [14, 15, 16, 17, 18] 8 (fun gg v14 _ _ _ _ wr => ∃ (i : Nat) (s t : MSt) (Fa Fb : Nat → Prop), v14 = .int .i64 (i : Int) ∧ i ≤ 8 ∧ 8 - i ≤ gg ∧ Aside0 (backL l0 d (8 - i) s t = true) ∧ Aside0 (s.regs.length ≤ 100 * i ∧ s.own.length ≤ i ∧ s.mem.length = l1.length ∧ t.regs.length ≤ 300 * i ∧ t.own.length ≤ i ∧ t.mem.length = l1.length) ∧ Aside0 (MS wr w5 Fa ba gCa gTa A0 l0.length c0 vMa s) ∧ Aside0 (MS wr w5 Fb bb gCb gTb Ad11 d.length c11 vMb t) ∧ Aside0 (∀ k, Fa k → ¬ Fb k) ∧ Aside0 (Below w5.heap.size w5 wr))
      case atStart => exact ⟨0, _, _, Fa, Fb, rfl, by omega, by omega, A9, ⟨by simp⟩, HMa7, HMb, HDJ, HB7⟩
      case round =>
        clear A9 HMa7 HMb HDJ HB7 HGL
        obtain ⟨i, s, t, Fa, Fb, rfl, hi1, hig, HBK, HLN, HMa, HMb, HDJ, HBr⟩ := hrel
        by_cases hlt : i < 8
        · have hd : decide ((i : Int) < 8) = true := decide_eq_true (by omega)
          have hdn : decide (i < 8) = true := decide_eq_true hlt
          have HI := Aside0.mk (And.intro hi1 (And.intro hig hlt))
          obtain ⟨N, hN⟩ : ∃ N, N = nextS l0 100 s := ⟨_, rfl⟩
          obtain ⟨M, hM⟩ : ∃ M, M = nextS d 300 t := ⟨_, rfl⟩
          have HNL := Aside0.mk (show N.1.regs.length ≤ s.regs.length + 100 ∧ N.1.own.length ≤ s.own.length + 1 ∧ N.1.mem.length = s.mem.length by rw [hN]; exact nextS_len l0 100 s)
          have HML := Aside0.mk (show M.1.regs.length ≤ t.regs.length + 300 ∧ M.1.own.length ≤ t.own.length + 1 ∧ M.1.mem.length = t.mem.length by rw [hM]; exact nextS_len d 300 t)
          have hbk := HBK.out
          rw [show 8 - i = (8 - (i + 1)) + 1 by omega, backL, ← hN, ← hM] at hbk
          have HN := Aside0.mk hN
          have HM := Aside0.mk hM
          have HBK1 := Aside0.mk hbk
          clear hN hM hbk HBK hi1 hig hlt
          go_wp2_with fail
          refine (ms_next l0 100 100 w5 wr Fa ba gCa gTa A0 c0 vMa s N (Kd.C_below HR0.out HB5.out) HC0.out HMa.out HBr.out (by have := HLN.out; have := HI.out; omega) (by have := HLN.out; have := HI.out; omega) (by have := HLN.out; have := HS.out; omega) (by omega) rfl HN.out).mono ?_
          rintro e w8 ⟨rfl, Fa', HMa', HFa', HB8, HK8⟩
          have hbu : Below w8.heap.size w8 (w8.alloc (.cells #[.int .i64 N.2.1.1, .int .i64 0, .int .i64 N.2.1.2] 42)) := (Below.refl _ _).alloc (Nat.le_refl _) _
          have hMbu := (HMb.out.other HK8.out (fun k hk h => HDJ.out k h hk)).below hbu
          have hBu := HB8.out.trans (hbu.mono HB8.out.size)
          have gu := blk_new w8 (.cells #[.int .i64 N.2.1.1, .int .i64 0, .int .i64 N.2.1.2] 42)
          have HFb1 := Aside0.mk (show ∀ k, Fb k → k < wr.heap.size by obtain ⟨_, _, _, _, h3⟩ := HMb.out; exact h3)
          have HFa1 := Aside0.mk (show ∀ k, Fa' k → k < w8.heap.size by obtain ⟨_, _, _, _, h3⟩ := HMa'.out; exact h3)
          have HMau := Aside0.mk (HMa'.out.below hbu)
          have HSU := Aside0.mk hbu.size
          have HS8 := Aside0.mk HK8.out.1
          have HBU := Aside0.mk hBu
          have HMBU := Aside0.mk hMbu
          have HGU := Aside0.mk gu
          clear hbu hMbu hBu gu HMa' HMb HK8 HB8 HMa
          go_wp2_with fail
          refine (ms_next d 300 300 w5 _ Fb bb gCb gTb Ad11 c11 vMb t M HC5.out HC11.out.1 HMBU.out HBU.out (by have := HLN.out; have := HI.out; omega) (by have := HLN.out; have := HI.out; omega) (by have := HLN.out; have := HS.out; omega) (by omega) rfl HM.out).mono ?_
          rintro e w9 ⟨rfl, Fb', HMb', HFb', HB9, HK9⟩
          have HGU9 := Aside0.mk ((HK9.out.2 w8.heap.size (blk_lt HGU.out) (fun h => by have := HFb1.out _ h; have := HS8.out; omega)).trans HGU.out)
          have HMa9 := Aside0.mk (HMau.out.other HK9.out (fun k hk h => by
            rcases HFa'.out k hk with h1 | h1
            · exact HDJ.out k h1 h
            · have := HFb1.out k h; omega))
          have HDJ9 := Aside0.mk (show ∀ k, Fa' k → ¬ Fb' k from fun k hk h => by
            have h0 := HFa1.out k hk
            rcases HFb'.out k h with h2 | h2
            · rcases HFa'.out k hk with h1 | h1
              · exact HDJ.out k h1 h2
              · have := HFb1.out k h2; omega
            · have := HSU.out; omega)
          clear HGU HMau HK9 HDJ HFb1 HFa1 HMBU HBU HFa' HFb' HBr
          obtain ⟨gu, hgu⟩ : ∃ q, q = w8.heap.size := ⟨_, rfl⟩
          rw [← hgu] at HGU9 ⊢
          clear hgu
          go_upto_region 25 with fail
          have hbv : Below w9.heap.size w9 (w9.alloc (.cells #[.int .i64 M.2.1.1, .int .i64 0, .int .i64 M.2.1.2] 42)) := (Below.refl _ _).alloc (Nat.le_refl _) _
          have HGV := Aside0.mk (blk_new w9 (.cells #[.int .i64 M.2.1.1, .int .i64 0, .int .i64 M.2.1.2] 42))
          replace HGU9 := Aside0.mk (blk_below HGU9.out hbv)
          replace HMa9 := Aside0.mk (HMa9.out.below hbv)
          replace HMb' := Aside0.mk (HMb'.out.below hbv)
          replace HB9 := Aside0.mk (HB9.out.trans (hbv.mono HB9.out.size))
          obtain ⟨gv, hgv⟩ : ∃ q, q = w9.heap.size := ⟨_, rfl⟩
          rw [← hgv] at HGV ⊢
          clear hgv hbv
          generalize (w9.alloc (.cells #[.int .i64 M.2.1.1, .int .i64 0, .int .i64 M.2.1.2] 42)) = w10 at HGV HGU9 HMa9 HMb' HB9 ⊢
          by_cases k3 : N.2.2 = 3
          · have e1 : (N.2.2 == 3) = true := beq_iff_eq.2 k3
            clear k3
            go_wp2_with fail
            go_ret
            exact ⟨rfl, HB5.out.trans (HB9.out.mono HB5.out.size)⟩
          · have e1 : (N.2.2 == 3) = false := beq_eq_false_iff_ne.2 k3
            by_cases m3 : M.2.2 = 3
            · have e2 : (M.2.2 == 3) = true := beq_iff_eq.2 m3
              clear k3 m3
              go_wp2_with fail
              go_ret
              exact ⟨rfl, HB5.out.trans (HB9.out.mono HB5.out.size)⟩
            · have e2 : (M.2.2 == 3) = false := beq_eq_false_iff_ne.2 m3
              have hbk := HBK1.out
              rw [if_neg (by rintro (h | h); exact k3 h; exact m3 h)] at hbk
              by_cases he : N.2.1 = M.2.1 ∧ N.2.2 = M.2.2
              case neg => rw [if_neg he] at hbk; cases hbk
              rw [if_pos he] at hbk
              have HBK2 := Aside0.mk hbk
              have e3 : (N.2.2 != M.2.2) = false := bne_eq_false_iff_eq.2 he.2
              have e4 : (N.2.1.1 == M.2.1.1) = true := beq_iff_eq.2 (by rw [he.1])
              have e5 : (N.2.1.2 == M.2.1.2) = true := beq_iff_eq.2 (by rw [he.1])
              have u0 : w10.cell? ⟨gu, 0, none⟩ = some (.int .i64 N.2.1.1) := (blk_cell HGU9.out 0).trans rfl
              have u1 : w10.cell? ⟨gu, 1, none⟩ = some (.int .i64 0) := (blk_cell HGU9.out 1).trans rfl
              have u2 : w10.cell? ⟨gu, 2, none⟩ = some (.int .i64 N.2.1.2) := (blk_cell HGU9.out 2).trans rfl
              have v0 : w10.cell? ⟨gv, 0, none⟩ = some (.int .i64 M.2.1.1) := (blk_cell HGV.out 0).trans rfl
              have v1 : w10.cell? ⟨gv, 1, none⟩ = some (.int .i64 0) := (blk_cell HGV.out 1).trans rfl
              have v2 : w10.cell? ⟨gv, 2, none⟩ = some (.int .i64 M.2.1.2) := (blk_cell HGV.out 2).trans rfl
              clear k3 m3 hbk he
              go_wp2_with fail
              go_roundg (gk - 1)
              case measure => have := HI.out; omega
              case rel => exact ⟨i + 1, N.1, M.1, Fa', Fb', by first | rfl | (congr 1; unfold wrap64; have := HI.out; omega), HI.out.2.2, by have := HI.out; omega, HBK2, ⟨by have h1 := HLN.out; have h2 := HNL.out; have h3 := HML.out; omega⟩, HMa9, HMb', HDJ9, HB9⟩
        · have hd : decide ((i : Int) < 8) = false := decide_eq_false (by omega)
          have hdn : decide (i < 8) = false := decide_eq_false hlt
          go_wp2_with fail
          go_ret
          exact ⟨rfl, HB5.out.trans (HBr.out.mono HB5.out.size)⟩
end Go.Proofs.YtdopacgaklaaeaaDoor.PDeadBack
