import Derived.Test.YtfhjkkcdeigkdaaDoorPFoldRunsx0
import Derived.Test.YtfhjkkcdeigkdaaDoorPFoldRunsx3
import Derived.Test.YtfhjkkcdeigkdaaDoorPFoldRunshg0
import Derived.Test.YtfhjkkcdeigkdaaDoorPFoldRunshg2
import Derived.Test.YtfhjkkcdeigkdaaDoorPFoldRunshforms
import Derived.Test.YtfhjkkcdeigkdaaDoorPFoldRunshg7
import Derived.Test.YtfhjkkcdeigkdaaDoorPFoldRunshg1
import Derived.Test.YtfhjkkcdeigkdaaDoorPFoldRunshg6
import Derived.Test.YtfhjkkcdeigkdaaDoorPFoldRunshg3
import Derived.StillTailTactics
import Derived.Lib.RowBridge
namespace Go.Proofs.YtfhjkkcdeigkdaaDoor.PFoldRuns
open Go.RowKit Go.Proofs.YtfhjkkcdeigkdaaDoorW.PrintWords Go.Proofs.YtfhjkkcdeigkdaaDoorW.PrintLast Go.Proofs.YtfhjkkcdeigkdaaDoorW.PrintMore
set_option linter.unusedVariables false
set_option linter.unusedSimpArgs false
open Go.MapKept Go.RowKit
/-! fold.all, walked. -/
theorem fIntInfo : (Tryd.prog.info? 3).map (fun i => (i.zero, i.size, i.bytes)) = some (some (.int .i64 0), 1, 8) := by kernel_rfl
set_option maxRecDepth 100000 in
set_option maxHeartbeats 8000000 in
theorem fall.calls (k : Nat) (A0 : Option Addr) (c0 : Nat) (c : List S53) (r : OS) (w : World) (hr0 : Kd.C k53 w A0 c.length c) (hc0 : c.length ≤ c0) (h : fold_all.f k c = some r) (hgl : GlobOK w) :
    Calls Tryd.prog 19 #[.slice A0 c.length c0] w fun e w' => ∃ g xb, e = .returned (.slice (some ⟨g, 0, none⟩) c.length c.length) ∧ FE w' w.heap.size g xb r ∧ Below w.heap.size w w' := by
  unfold fold_all.f at h
  by_cases hl : c.length ≤ 1000
  case neg => rw [if_neg hl] at h; cases h
  rw [if_pos hl] at h
  have HR0 := Aside0.mk hr0
  have HC0 := Aside0.mk hc0
  have HL := Aside0.mk hl
  have HGL := Aside0.mk hgl
  have HMK := Aside0.mk hl
  have HF0 := Aside0.mk (show FE (w.alloc (.cells (Array.replicate c.length (.map none)) 60)) w.heap.size w.heap.size (List.replicate c.length none) (List.replicate c.length none) from
    ⟨(blk_new w _).trans (by simp), by simp, fun i b hb => by rw [List.getElem?_replicate] at hb; split at hb <;> simp at hb, fun i hi => by rw [List.getD_eq_getElem?_getD, List.getElem?_replicate]; split <;> rfl, fun i j b hb => by rw [List.getElem?_replicate] at hb; split at hb <;> simp at hb, Nat.le_refl _, fun i b hb => by rw [List.getElem?_replicate] at hb; split at hb <;> simp at hb⟩)
  have HB0 := Aside0.mk (show Below w.heap.size w (w.alloc (.cells (Array.replicate c.length (.map none)) 60)) from (Below.refl _ _).alloc (Nat.le_refl _) _)
  clear hr0 hc0 hl hgl
  by_cases he : c = []
  · rw [if_pos he] at h
    obtain rfl := Option.some.inj h
    have e1 : ((c.length : Int) == 0) = true := by rw [he]; rfl
    have e2 : (c.length == 0) = true := by rw [he]; rfl
    have HE := Aside0.mk he
    clear h he
    go_enter Tryd.func19, Tryd.ntmps19
    go_wp2_with fail
    go_step3
    go_wp2_with (first | ((with_reducible refine gate_dst (N := 11) rfl ?_); refine wpList_fmake _ rfl _ _ rfl c.length HMK.out rfl rfl ?_))
    rw [Exit.noGoto_ret]
    go_ret
    exact ⟨_, _, rfl, by have h := HF0.out; rw [HE.out] at h ⊢; exact h, HB0.out⟩
  rw [if_neg he] at h
  have H := Aside0.mk h
  have hpos : 0 < c.length := List.length_pos_iff.2 he
  have HP := Aside0.mk hpos
  have e1 : ((c.length : Int) == 0) = false := beq_eq_false_iff_ne.2 (by omega)
  have e2 : (c.length == 0) = false := beq_eq_false_iff_ne.2 (by omega)
  have e3 : (0 : Int) < (c.length : Int) := by omega
  have hmm := @run_makeMap Tryd.prog
  clear h he
  go_enter Tryd.func19, Tryd.ntmps19
  go_wp2_with fail
  go_step3
  go_upto_region 4 with (first | ((with_reducible refine gate_dst (N := 11) rfl ?_); refine wpList_fmake _ rfl _ _ rfl c.length HMK.out rfl rfl ?_))
  obtain ⟨g, hg⟩ : ∃ g, g = w.heap.size := ⟨_, rfl⟩
  obtain ⟨w1, hw1⟩ : ∃ w1, w1 = w.alloc (.cells (Array.replicate c.length (.map none)) 60) := ⟨_, rfl⟩
  have hf0 := HF0.out
  have hb0 := HB0.out
  rw [← hw1] at hf0 hb0 ⊢
  rw [← hg]
  have hf0' : FE w1 w.heap.size g (List.replicate c.length none) (List.replicate c.length none) := by rw [hg]; exact hf0
  have HG0 := Aside0.mk hg
  clear hf0 hw1 HF0 HB0 hg
  have gf : (w1.alloc (.map #[] 0)).frozen? ⟨g, 0, none⟩ = false := blk_frozen (blk_alloc hf0'.hg _) 0
  have gc : (w1.alloc (.map #[] 0)).cell? ⟨g, 0, none⟩ = some (.map none) := by rw [blk_cell (blk_alloc hf0'.hg _) 0]; simp [Array.getElem?_replicate, hpos]
  have HF := Aside0.mk hf0'
  have HB := Aside0.mk hb0
  clear hf0' hb0
  go_upto_region 5 with fail
  have hm0 : KM (w1.alloc (.map #[] 0)) w1.heap.size [] := ⟨IM.made w1, List.nodup_nil⟩
  have hb1 : Below w1.heap.size w1 (w1.alloc (.map #[] 0)) := (Below.refl _ _).alloc (Nat.le_refl _) _
  have hf1 := (HF.out.below hb1).lay (i := 0) (b := w1.heap.size) (m := []) (by simpa using HP.out) hm0 (fun j hj => by have := HF.out.lt (.inr ⟨j, hj⟩); omega) HB.out.size
  replace HB := Aside0.mk ((HB.out.trans (hb1.mono HB.out.size)).setCell (p := ⟨g, 0, none⟩) HF.out.lg (.map (some w1.heap.size)))
  replace HF := Aside0.mk hf1
  clear hm0 hb1 hf1 gf gc
  generalize ((w1.alloc (.map #[] 0)).setCell ⟨g, 0, none⟩ (.map (some w1.heap.size))) = w2 at HF HB ⊢
  generalize ((List.replicate c.length none).set 0 (some w1.heap.size)) = xb at HF
  have HQ := Aside0.mk (QR.one (e := 3) w2 0 HB.out.size)
  have hb2 : Below w2.heap.size w2 (w2.alloc (.cells #[.int .i64 0] 3)) := (Below.refl _ _).alloc (Nat.le_refl _) _
  replace HF := Aside0.mk (HF.out.below hb2)
  replace HB := Aside0.mk (HB.out.trans (hb2.mono HB.out.size))
  clear hb2
  go_wp2_with fail
  go_step3
  go_wp2_with fail
  generalize (w2.alloc (.cells #[.int .i64 0] 3)) = w3 at HF HB HQ ⊢
  go_loopg [4, 5, 6, 8] k (fun kq v4 _ _ _ wr => ∃ (o : OS) (wt : List Int) (xb : List (Option Nat)), Aside0 (fold_all.l c kq o wt = some r) ∧ Aside0 (kq ≤ k) ∧ Aside0 (QR wr w.heap.size 3 v4 wt) ∧ Aside0 (FE wr w.heap.size g xb o) ∧ Aside0 (Below w.heap.size w wr))
  case atStart => exact ⟨_, _, _, H, ⟨Nat.le_refl _⟩, HQ, HF, HB⟩
  case round =>
    clear H HQ HF HB
    obtain ⟨o, wt, xb, HA, HK1, HQ, HF, HB⟩ := hrel
    cases gk with
    | zero => exact absurd HA.out (by simp [fold_all.l])
    | succ k1 =>
    have ha := HA.out
    clear HA
    cases wt with
    | nil =>
      rw [fold_all.l] at ha
      obtain rfl := Option.some.inj ha
      obtain ⟨A, cc, hv, _, _⟩ := HQ.out.slice
      subst hv
      clear ha
      go_wp2_with fail
      rw [Exit.noGoto_ret]
      go_ret
      exact ⟨_, _, rfl, HF.out, HB.out⟩
    | cons a wt =>
      rw [fold_all.l] at ha
      by_cases hr : 0 ≤ a ∧ a < (c.length : Int) ∧ o.length = c.length ∧ wt.length ≤ 1500000
      case neg => rw [if_neg hr] at ha; cases ha
      rw [if_pos hr] at ha
      obtain ⟨a0, a1, hol, hwl⟩ := hr
      obtain ⟨m, hm, ha1⟩ := Option.bind_eq_some_iff.1 ha
      obtain ⟨L, hL, ha2⟩ := Option.bind_eq_some_iff.1 ha1
      obtain ⟨kk, hkk, ha3⟩ := Option.bind_eq_some_iff.1 ha2
      obtain ⟨p, hp, ha4⟩ := Option.bind_eq_some_iff.1 ha3
      clear ha ha1 ha2 ha3
      obtain ⟨gq, off, cc, hv, hcc, cw, hq'⟩ := HQ.out.tail
      subst hv
      obtain ⟨q, hq, cq, fq, km, kn⟩ := HF.out.cell (i := a.toNat) (by omega)
      cases q with
      | none => rw [kn rfl] at hm; cases hm
      | some b =>
      obtain ⟨m', hm', hkm⟩ := km b rfl
      obtain rfl : m' = m := Option.some.inj (hm'.symm.trans hm)
      obtain ⟨ad, e1, q0, q1, q2, q3, q4, q5, q6⟩ := at_T53 (Kd.C_below HR0.out HB.out) a a0 a1
      cases e1
      have hx0 : c.getD a.toNat z53 = rd_T53 c a := rfl
      rw [hx0] at hL hkk
      obtain ⟨x, hx⟩ : ∃ x, x = rd_T53 c a := ⟨_, rfl⟩
      have HX := Aside0.mk hx.symm
      rw [← hx] at hL hkk q0 q1 q2 q3 q4 q5 q6
      have HQ' := Aside0.mk hq'
      have HKM := Aside0.mk hkm
      have HLL := Aside0.mk hL
      have HL2 := Aside0.mk (show L.length ≤ 2 by
        have h1 := hL
        unfold ins_Next.f at h1
        rw [← Option.some.inj h1]
        split
        · simp
        · split
          · simp
          · split
            · unfold twoL
              refine Nat.le_trans (Go.Lib.compact_length_le _) ?_
              rw [List.length_mergeSort]; simp
            · simp)
      have HKK := Aside0.mk hkk
      have HPP := Aside0.mk hp
      have HA2 := Aside0.mk ha4
      have HOL := Aside0.mk hol
      have HWL := Aside0.mk hwl
      have HXI := Aside0.mk hq
      have d0 : decide ((0 : Int) < ((wt.length + 1 : Nat) : Int)) = true := decide_eq_true (by omega)
      have d1 : (0 : Int) < ((wt.length + 1 : Nat) : Int) := by omega
      have d2 : (1 : Int) ≤ ((cc + 1 : Nat) : Int) := by omega
      have d3 : (1 : Int) ≤ ((wt.length + 1 : Nat) : Int) := by omega
      have d4 : 0 < wt.length + 1 := by omega
      have d5 : 1 ≤ cc + 1 := by omega
      clear hq' hkm hL hkk hp ha4 hol hwl hq hm hm' km kn hx hx0 HQ
      go_upto_region 9 with fail
      obtain ⟨vq, hvq⟩ : ∃ v, v = Value.slice (if cc = 0 then some ⟨gq, off, none⟩ else some ⟨gq, off + 1, none⟩) wt.length cc := ⟨_, rfl⟩
      rw [← hvq] at HQ' ⊢
      have HVQ := Aside0.mk hvq
      clear hvq d0 d1 d2 d3 d4 d5 cw
      have HBC := Aside0.mk (fun W (hb : Below wr.heap.size wr W) => fbehind.calls b m' kk x W (HKM.out.below hb) HKK.out (HGL.out.step (HB.out.trans (hb.mono HB.out.size))))
      go_still_tail 8, (by kernel_rfl)
      go_wp2_with fail
      refine (HBC.out _ (by first | exact Below.refl _ _ | exact Below.drew (Below.refl _ _) | exact pw_below_drewN (Below.refl _ _) 1)).mono ?_
      rintro e w4 ⟨gkm, rfl, hlk, hkm4, hb4⟩
      have hlk' : wr.heap.size ≤ gkm := hlk
      have HNG := Aside0.mk (show gkm ≠ g ∧ ∀ j : Nat, xb[j]? ≠ some (some gkm) from ⟨by have := HF.out.lt (.inl rfl); omega, fun j hj => by have := HF.out.lt (.inr ⟨j, hj⟩); omega⟩)
      have HLG := Aside0.mk (show w.heap.size ≤ gkm by have := HB.out.size; omega)
      have hb4' : Below wr.heap.size wr w4 := (show Below wr.heap.size wr wr.drew from Below.drew (Below.refl _ _)).trans hb4
      replace HF := Aside0.mk (HF.out.below hb4')
      have HGW := Aside0.mk (show g < w4.heap.size from HF.out.lt (.inl rfl))
      replace HQ' := Aside0.mk (HQ'.out.below hb4')
      have HKG := Aside0.mk hkm4
      replace HB := Aside0.mk (HB.out.trans (hb4'.mono HB.out.size))
      clear hlk hlk' hb4 hb4' hkm4 HBC HKM HXI q0 q1 q2 q3 q4 q5 q6 cq fq
      obtain ⟨ad', e1, q0, q1, q2, q3, q4, q5, q6⟩ := at_T53 (Kd.C_below HR0.out HB.out) a a0 a1
      cases e1
      have hx0 : rd_T53 c a = x := HX.out
      rw [hx0] at q0 q1 q2 q3 q4 q5 q6
      clear hx0
      go_wp2_with fail
      refine (ins_Next.calls x.f0 x.f1 x.f2 x.f3 x.f4 x.f5 x.f6 a L w4 HLL.out (HGL.out.step HB.out)).mono ?_
      rintro e w5 ⟨vL, rfl, hrL, hb5⟩
      obtain ⟨AL, cL, hvL⟩ := Kd.R_slice hrL
      subst hvL
      have hlen := (Kd.R_reads' hrL).2.2.2.1
      have HLN := Aside0.mk hlen
      have hblt : ∀ k, Value.ownBlock vq = some k → k < w4.heap.size := fun k hk => (HQ'.out.lt k hk).2
      have HRL := Aside0.mk (Kd.R_mono (ok' := fun k => w4.heap.size ≤ k ∧ k < w5.heap.size) (Kd.R_bound hrL) (fun k hk => ⟨hk.2.1, hk.2.2.1⟩))
      have HAP := Aside0.mk (show ∀ k, Value.ownBlock vq = some k → k < w4.heap.size ∨ w5.heap.size ≤ k from fun k hk => .inl (hblt k hk))
      replace HF := Aside0.mk (HF.out.below hb5)
      replace HQ' := Aside0.mk (HQ'.out.below hb5)
      replace HKG := Aside0.mk (HKG.out.below hb5)
      replace HB := Aside0.mk (HB.out.trans (hb5.mono HB.out.size))
      have HS5 := Aside0.mk (Nat.le_refl w5.heap.size)
      clear hrL hb5 q0 q1 q2 q3 q4 q5 q6 hlen hblt
      obtain ⟨G0, hG0⟩ : ∃ G0, G0 = k1 := ⟨k1, rfl⟩
      go_wp2_with fail
      go_loopg [4, 8, 44] L.length (fun gg v4 _ s44 wr => ∃ (j : Nat) (o' : OS) (wt' : List Int) (xb' : List (Option Nat)), s44 = .int .i64 (j : Int) ∧ j ≤ L.length ∧ L.length - j ≤ gg ∧ Aside0 (fSteps kk (L.drop j) o' wt' = some p) ∧ Aside0 (wt'.length ≤ 1500000 + j ∧ o'.length = c.length ∧ L.length ≤ 2) ∧ Aside0 (QR wr w.heap.size 3 v4 wt') ∧ Aside0 (FE wr w.heap.size g xb' o') ∧ Aside0 (KM wr gkm kk) ∧ Aside0 (gkm ≠ g ∧ ∀ j : Nat, xb'[j]? ≠ some (some gkm)) ∧ Aside0 (Kd.R (Kd.int .i64) 3 wr w4.heap.size (fun k => w4.heap.size ≤ k ∧ k < w5.heap.size) (.slice AL L.length cL) L) ∧ Aside0 (∀ k, v4.ownBlock = some k → k < w4.heap.size ∨ w5.heap.size ≤ k) ∧ Aside0 (Below w.heap.size w wr ∧ w5.heap.size ≤ wr.heap.size))
      case atStart => exact ⟨0, o, wt, xb, rfl, by omega, by omega, HPP, ⟨by have := HWL.out; omega, HOL.out, HL2.out⟩, HQ', HF, HKG, HNG, HRL, HAP, ⟨HB.out, HS5.out⟩⟩
      case round =>
        clear HPP HQ' HF HKG HNG HRL HAP HB HS5
        obtain ⟨j, o', wt', xb', rfl, hj1, hjg, HPP, HWT, HQ, HF, HKG, HNG, HRL, HAP, HBS⟩ := hrel
        by_cases hlt : j < L.length
        · have hd0 : decide ((j : Int) < (L.length : Int)) = true := decide_eq_true (by omega)
          have hd1 : decide (j < L.length) = true := decide_eq_true hlt
          have hd2 : (j : Int) < (L.length : Int) := by omega
          have hpp := HPP.out
          obtain ⟨n, hn⟩ : ∃ n, n = rd L (j : Int) := ⟨_, rfl⟩
          rw [show L.drop j = n :: L.drop (j + 1) by rw [List.drop_eq_getElem_cons hlt, hn]; unfold rd; rw [Int.toNat_natCast, List.getD_eq_getElem?_getD, List.getElem?_eq_getElem hlt]; rfl, fSteps] at hpp
          by_cases hnr : 0 ≤ n ∧ n < (o'.length : Int)
          case neg => rw [if_neg hnr] at hpp; cases hpp
          rw [if_pos hnr] at hpp
          obtain ⟨n0, n1⟩ := hnr
          rw [HWT.out.2.1] at n1
          obtain ⟨aL, eL, zn⟩ := Kd.at_int (Kd.R_reads' HRL.out).2.2 (j : Int) (by omega) (by omega)
          cases eL
          rw [← hn, Int.toNat_natCast] at zn
          obtain ⟨q, hq, cq, fq, km, kn⟩ := HF.out.cell (i := n.toNat) (by have := HWT.out.2.1; omega)
          have HPP2 := Aside0.mk hpp
          have HJ := Aside0.mk (And.intro hlt hjg)
          have HXQ := Aside0.mk hq
          have n2 : n ≤ (c.length : Int) := by omega
          have t0 : decide (n < 0) = false := decide_eq_false (by omega)
          have t1 : decide (n ≥ (c.length : Int)) = false := decide_eq_false (by omega)
          have t2 : decide ((c.length : Int) ≤ n) = false := decide_eq_false (by omega)
          have HWJ := Aside0.mk (show wrap64 ((j : Int) + 1) = ((j + 1 : Nat) : Int) by have := HLN.out; unfold wrap64; omega)
          have hqn := fun w => run_eql_map_nil_sl (P := Tryd.prog) w 60 3 2 q Tryd.underlying60
          clear hpp hn hq hj1 hjg hlt HPP
          cases q with
          | none =>
            have HST := Aside0.mk (show fSteps kk (L.drop (j + 1)) (o'.set n.toNat (some kk)) (if wt'.contains n = true then wt' else wt' ++ [n]) = some p by
              have h1 := HPP2.out
              unfold fStep at h1
              rw [kn rfl] at h1
              exact h1)
            have HOL2 := Aside0.mk (show (o'.set n.toNat (some kk)).length = c.length by rw [List.length_set]; exact HWT.out.2.1)
            clear HPP2 km kn
            go_wp2_with fail
            refine (kclone.calls gkm kk wr HKG.out).mono ?_
            rintro e w6 ⟨rfl, hk6, hb6⟩
            have HK6 := Aside0.mk hk6
            have hF6 := HF.out.below hb6
            have hnew : ∀ i : Nat, xb'[i]? ≠ some (some wr.heap.size) := fun i hi => by have := HF.out.lt (.inr ⟨i, hi⟩); omega
            have fr6 : w6.frozen? ⟨g, n.toNat, none⟩ = false := blk_frozen hF6.hg _
            obtain ⟨_, _, cq6, _, _, _⟩ := hF6.cell (i := n.toNat) (by have := HWT.out.2.1; omega)
            obtain ⟨gn, hgn⟩ : ∃ q, q = wr.heap.size := ⟨_, rfl⟩
            rw [← hgn] at HK6 hnew ⊢
            have hF7 := hF6.lay (i := n.toNat) (by have := HWT.out.2.1; omega) HK6.out hnew (by have := HBS.out.1.size; omega)
            have hne7 : gkm ≠ gn := by have := HKG.out.1.lt; omega
            have hb7 : Below w.heap.size w (w6.setCell ⟨g, n.toNat, none⟩ (.map (some gn))) := (HBS.out.1.trans (hb6.mono HBS.out.1.size)).setCell (p := ⟨g, n.toNat, none⟩) HF.out.lg _
            have far : ∀ q, q ≠ g → (w6.setCell ⟨g, n.toNat, none⟩ (.map (some gn))).heap[q]? = w6.heap[q]? := fun q hq => Below.heap_setCell w6 ⟨g, n.toNat, none⟩ _ q hq
            have hQ7 := (HQ.out.below hb6).move (w' := w6.setCell ⟨g, n.toNat, none⟩ (.map (some gn))) (fun q hq => far q (by
              obtain ⟨cur, hc⟩ := (HQ.out.below hb6).blk q hq
              exact blk_ne hc hF6.hg (by decide)))
            have hK7 := (HKG.out.below hb6).move (far gkm HNG.out.1)
            have hR7 := Kd.R_far (Kd.R_below HRL.out hb6) (p := ⟨g, n.toNat, none⟩) (fun q hq => by have := HGW.out; show q ≠ g; omega) (.map (some gn))
            have hS7 : w5.heap.size ≤ (w6.setCell ⟨g, n.toNat, none⟩ (.map (some gn))).heap.size := by have h1 := hb6.size; have h2 := HBS.out.2; simp [World.setCell]; omega
            have hN7 : gkm ≠ g ∧ ∀ i : Nat, (xb'.set n.toNat (some gn))[i]? ≠ some (some gkm) := ⟨HNG.out.1, fun i hi => by
              rw [List.getElem?_set] at hi
              split at hi
              · split at hi
                · exact hne7 (Option.some.inj (Option.some.inj hi)).symm
                · cases hi
              · exact HNG.out.2 i hi⟩
            have HF7 := Aside0.mk hF7
            have HQ7 := Aside0.mk hQ7
            have HK7 := Aside0.mk hK7
            have HR7 := Aside0.mk hR7
            have HBS7 := Aside0.mk (And.intro hb7 hS7)
            have HN7 := Aside0.mk hN7
            clear hF7 hQ7 hK7 hR7 hb7 hS7 hN7 hne7 hF6 hk6 hb6 hnew far hgn HF HQ HKG HRL HBS HNG HK6
            go_upto_region 17 with fail
            generalize (w6.setCell ⟨g, n.toNat, none⟩ (.map (some gn))) = wX at HF7 HQ7 HK7 HR7 HBS7 ⊢
            generalize (xb'.set n.toNat (some gn)) = xb2 at HF7 HN7
            have HF := HF7
            have HQ := HQ7
            have HKG := HK7
            have HRL := HR7
            have HBS := HBS7
            have HNG := HN7
            clear HF7 HQ7 HK7 HR7 HBS7 HN7 fr6 cq6 zn cq fq hqn
            obtain ⟨Aq, cq', hvq, hcq, hCq⟩ := HQ.out.C
            subst hvq
            obtain ⟨KC, hKC⟩ := containsI wt' n (by have := HWT.out; omega)
            have HCT := Aside0.mk (slices_Contains_int_int.calls KC Aq cq' wt' n (wt'.contains n) wX hCq hcq (hKC KC (Nat.le_refl _)))
            clear hcq hCq hKC
            go_wp2_with fail
            refine HCT.out.mono ?_
            rintro e w7 ⟨rfl, hdr⟩
            have hb7 : Below wX.heap.size wX w7 := by obtain ⟨m7, rfl⟩ := hdr; exact pw_below_drewN (Below.refl _ _) m7
            replace HF := Aside0.mk (HF.out.below hb7)
            replace HQ := Aside0.mk (HQ.out.below hb7)
            replace HKG := Aside0.mk (HKG.out.below hb7)
            replace HRL := Aside0.mk (Kd.R_below HRL.out hb7)
            replace HBS := Aside0.mk (And.intro (HBS.out.1.trans (hb7.mono HBS.out.1.size)) (Nat.le_trans HBS.out.2 hb7.size))
            clear hdr hb7 HCT
            cases hct : wt'.contains n with
            | true =>
              rw [hct, if_pos rfl] at HST
              clear hct
              go_wp2_with fail
              go_roundg (gk - 1)
              case measure => have := HJ.out; omega
              case rel => exact ⟨j + 1, _, wt', _, by first | rfl | rw [HWJ.out], HJ.out.1, by have := HJ.out; omega, HST, ⟨by have := HWT.out; omega, HOL2.out, HWT.out.2.2⟩, HQ, HF, HKG, HNG, HRL, HAP, HBS⟩
            | false =>
              rw [hct, if_neg (by simp)] at HST
              clear hct
              go_wp2_with ((with_reducible refine gate_builtin (b := .append) (xs := #[.tmp 77, .tmp 79]) rfl ?_); at_builtin; (refine wpList_queue (w0 := w) w.heap.size rfl (.tmp 77) (.tmp 79) 71 3 (.int .i64 0) rfl Tryd.underlying71 fIntInfo rfl (.slice Aq wt'.length cq') wt' n rfl (by first | rfl | (go_simp; done) | (go_simp; rfl)) HQ.out HBS.out.1 HBS.out.1.size (by have := HWT.out; omega) ?_; intro v8 w8 hq8 hb8 hg8 hat8; have HQ8 := Aside0.mk hq8; have HB8 := Aside0.mk hb8; have HG8 := Aside0.mk hg8; have HT8 := Aside0.mk hat8; clear hq8 hb8 hg8 hat8))
              have hrow := HQ.out.blk
              have hF8 := HF.out.grown HG8.out (fun q hq => by
                obtain ⟨cur, hc⟩ := hrow q hq
                exact ⟨blk_ne hc HF.out.hg (by decide), fun i hi => by
                  obtain ⟨m, _, hm⟩ := HF.out.km i q hi
                  exact hm.noCells hc⟩)
              have hK8 := HKG.out.move (HG8.out.block gkm HKG.out.1.lt (fun e => by
                obtain ⟨cur, hc⟩ := hrow gkm e.symm
                exact HKG.out.noCells hc))
              have hR8 := Kd.R_grown HRL.out HG8.out (fun q hq e => by
                have h1 := HAP.out q e.symm
                omega)
              have hA8 : ∀ q, Value.ownBlock v8 = some q → q < w4.heap.size ∨ w5.heap.size ≤ q := fun q hq => by
                rcases HT8.out with h1 | ⟨b8, h1, h2⟩
                · exact HAP.out q (by rw [← h1]; exact hq)
                · rw [h1] at hq
                  have := HBS.out.2
                  right
                  have := Option.some.inj hq
                  omega
              have hS8 := Nat.le_trans HBS.out.2 HG8.out.size
              go_roundg (gk - 1)
              case measure => have := HJ.out; omega
              case rel => exact ⟨j + 1, _, wt' ++ [n], _, by first | rfl | rw [HWJ.out], HJ.out.1, by have := HJ.out; omega, HST, ⟨by have := HWT.out; simp; omega, HOL2.out, HWT.out.2.2⟩, HQ8, ⟨hF8⟩, ⟨hK8⟩, HNG, ⟨hR8⟩, ⟨hA8⟩, ⟨HB8.out, hS8⟩⟩
          | some b' =>
            obtain ⟨m', hm', hkm⟩ := km b' rfl
            have HM := Aside0.mk hkm
            have hbne : b' ≠ gkm := fun e => HNG.out.2 n.toNat (by rw [HXQ.out, e])
            have HST0 := Aside0.mk (show fSteps kk (L.drop (j + 1)) (o'.set n.toNat (some (kmeetL m' kk))) (if (kmeetL m' kk).length < m'.length then (if wt'.contains n = true then wt' else wt' ++ [n]) else wt') = some p by
              have h1 := HPP2.out
              unfold fStep at h1
              rw [hm'] at h1
              exact h1)
            have HOL2 := Aside0.mk (show (o'.set n.toNat (some (kmeetL m' kk))).length = c.length by rw [List.length_set]; exact HWT.out.2.1)
            clear HPP2 km kn hm' hkm
            go_wp2_with fail
            refine (fmeet.calls b' gkm m' kk wr HM.out HKG.out hbne).mono ?_
            rintro e w6 ⟨rfl, hm6, hg6⟩
            have hF7 := HF.out.turn HXQ.out hm6 hg6
            have hQ7 := HQ.out.kept hg6 (fun q hq e => by
              obtain ⟨cur, hc⟩ := HQ.out.blk q hq
              exact HM.out.noCells (Option.some.inj e ▸ hc))
            have hK7 := HKG.out.move (hg6.block gkm HKG.out.1.lt (fun e => hbne (Option.some.inj e).symm))
            have hR7 := Kd.R_mono (Kd.R_grown (Kd.R_bound HRL.out) hg6 (fun q hq e => by
              obtain ⟨_, _, _, _, _, cs, hc⟩ := hq
              exact HM.out.noCells (Option.some.inj e ▸ hc))) (fun _ h => h.1)
            have hb7 : Below w.heap.size w w6 := HBS.out.1.grown hg6 HBS.out.1.size (fun q hq => by rw [← Option.some.inj hq]; exact HF.out.lb _ _ HXQ.out)
            have hS7 := Nat.le_trans HBS.out.2 hg6.size
            have HF7 := Aside0.mk hF7
            have HQ7 := Aside0.mk hQ7
            have HK7 := Aside0.mk hK7
            have HR7 := Aside0.mk hR7
            have HBS7 := Aside0.mk (And.intro hb7 hS7)
            clear hF7 hQ7 hK7 hR7 hb7 hS7 hm6 hg6 HF HQ HKG HRL HBS HM hbne HXQ zn cq fq hqn
            obtain ⟨sh, hsh⟩ : ∃ sh, sh = decide ((kmeetL m' kk).length < m'.length) := ⟨_, rfl⟩
            rw [← hsh]
            have HF := HF7
            have HQ := HQ7
            have HKG := HK7
            have HRL := HR7
            have HBS := HBS7
            clear HF7 HQ7 HK7 HR7 HBS7
            cases sh with
            | false =>
              have HST := Aside0.mk (show fSteps kk (L.drop (j + 1)) (o'.set n.toNat (some (kmeetL m' kk))) wt' = some p by
                have h1 := HST0.out
                rw [if_neg (of_decide_eq_false hsh.symm)] at h1
                exact h1)
              clear HST0 hsh
              go_wp2_with fail
              go_roundg (gk - 1)
              case measure => have := HJ.out; omega
              case rel => exact ⟨j + 1, _, wt', _, by first | rfl | rw [HWJ.out], HJ.out.1, by have := HJ.out; omega, HST, ⟨by have := HWT.out; omega, HOL2.out, HWT.out.2.2⟩, HQ, HF, HKG, HNG, HRL, HAP, HBS⟩
            | true =>
              have HST := Aside0.mk (show fSteps kk (L.drop (j + 1)) (o'.set n.toNat (some (kmeetL m' kk))) (if wt'.contains n = true then wt' else wt' ++ [n]) = some p by
                have h1 := HST0.out
                rw [if_pos (of_decide_eq_true hsh.symm)] at h1
                exact h1)
              clear HST0 hsh
              obtain ⟨Aq, cq', hvq, hcq, hCq⟩ := HQ.out.C
              subst hvq
              obtain ⟨KC, hKC⟩ := containsI wt' n (by have := HWT.out; omega)
              have HCT := Aside0.mk (slices_Contains_int_int.calls KC Aq cq' wt' n (wt'.contains n) w6 hCq hcq (hKC KC (Nat.le_refl _)))
              clear hcq hCq hKC
              go_wp2_with fail
              refine HCT.out.mono ?_
              rintro e w7 ⟨rfl, hdr⟩
              have hb7 : Below w6.heap.size w6 w7 := by obtain ⟨m7, rfl⟩ := hdr; exact pw_below_drewN (Below.refl _ _) m7
              replace HF := Aside0.mk (HF.out.below hb7)
              replace HQ := Aside0.mk (HQ.out.below hb7)
              replace HKG := Aside0.mk (HKG.out.below hb7)
              replace HRL := Aside0.mk (Kd.R_below HRL.out hb7)
              replace HBS := Aside0.mk (And.intro (HBS.out.1.trans (hb7.mono HBS.out.1.size)) (Nat.le_trans HBS.out.2 hb7.size))
              clear hdr hb7 HCT
              cases hct : wt'.contains n with
              | true =>
                rw [hct, if_pos rfl] at HST
                clear hct
                go_wp2_with fail
                go_roundg (gk - 1)
                case measure => have := HJ.out; omega
                case rel => exact ⟨j + 1, _, wt', _, by first | rfl | rw [HWJ.out], HJ.out.1, by have := HJ.out; omega, HST, ⟨by have := HWT.out; omega, HOL2.out, HWT.out.2.2⟩, HQ, HF, HKG, HNG, HRL, HAP, HBS⟩
              | false =>
                rw [hct, if_neg (by simp)] at HST
                clear hct
                go_wp2_with ((with_reducible refine gate_builtin (b := .append) (xs := #[.tmp 77, .tmp 79]) rfl ?_); at_builtin; (refine wpList_queue (w0 := w) w.heap.size rfl (.tmp 77) (.tmp 79) 71 3 (.int .i64 0) rfl Tryd.underlying71 fIntInfo rfl (.slice Aq wt'.length cq') wt' n rfl (by first | rfl | (go_simp; done) | (go_simp; rfl)) HQ.out HBS.out.1 HBS.out.1.size (by have := HWT.out; omega) ?_; intro v8 w8 hq8 hb8 hg8 hat8; have HQ8 := Aside0.mk hq8; have HB8 := Aside0.mk hb8; have HG8 := Aside0.mk hg8; have HT8 := Aside0.mk hat8; clear hq8 hb8 hg8 hat8))
                have hrow := HQ.out.blk
                have hF8 := HF.out.grown HG8.out (fun q hq => by
                  obtain ⟨cur, hc⟩ := hrow q hq
                  exact ⟨blk_ne hc HF.out.hg (by decide), fun i hi => by
                    obtain ⟨m, _, hm⟩ := HF.out.km i q hi
                    exact hm.noCells hc⟩)
                have hK8 := HKG.out.move (HG8.out.block gkm HKG.out.1.lt (fun e => by
                  obtain ⟨cur, hc⟩ := hrow gkm e.symm
                  exact HKG.out.noCells hc))
                have hR8 := Kd.R_grown HRL.out HG8.out (fun q hq e => by
                  have h1 := HAP.out q e.symm
                  omega)
                have hA8 : ∀ q, Value.ownBlock v8 = some q → q < w4.heap.size ∨ w5.heap.size ≤ q := fun q hq => by
                  rcases HT8.out with h1 | ⟨b8, h1, h2⟩
                  · exact HAP.out q (by rw [← h1]; exact hq)
                  · rw [h1] at hq
                    have := HBS.out.2
                    right
                    have := Option.some.inj hq
                    omega
                have hS8 := Nat.le_trans HBS.out.2 HG8.out.size
                go_roundg (gk - 1)
                case measure => have := HJ.out; omega
                case rel => exact ⟨j + 1, _, wt' ++ [n], _, by first | rfl | rw [HWJ.out], HJ.out.1, by have := HJ.out; omega, HST, ⟨by have := HWT.out; simp; omega, HOL2.out, HWT.out.2.2⟩, HQ8, ⟨hF8⟩, ⟨hK8⟩, HNG, ⟨hR8⟩, ⟨hA8⟩, ⟨HB8.out, hS8⟩⟩
        · have hd0 : decide ((j : Int) < (L.length : Int)) = false := decide_eq_false (by omega)
          have hd1 : decide (j < L.length) = false := decide_eq_false hlt
          have hpp := HPP.out
          rw [List.drop_eq_nil_of_le (by omega), fSteps] at hpp
          obtain rfl := Option.some.inj hpp
          clear hpp hj1 hjg hlt
          go_wp2_with fail
          go_roundg G0
          case measure => omega
          case rel => exact ⟨o', wt', xb', by rw [hG0]; exact HA2, ⟨by have := HK1.out; omega⟩, HQ, HF, ⟨HBS.out.1⟩⟩
end Go.Proofs.YtfhjkkcdeigkdaaDoor.PFoldRuns
