import Derived.Test.YtfhjkkcdeigkdaaDoorPFoldRunsx0
import Derived.Test.YtfhjkkcdeigkdaaDoorPFoldRunshg0
import Derived.Test.YtfhjkkcdeigkdaaDoorPFoldRunshg7
import Derived.Test.YtfhjkkcdeigkdaaDoorPFoldRunshg6
import Derived.Deep.QuietTactic
import Derived.BigQuiet
namespace Go.Proofs.YtfhjkkcdeigkdaaDoor.PFoldRuns
open Go.RowKit Go.Proofs.YtfhjkkcdeigkdaaDoorW.PrintWords Go.Proofs.YtfhjkkcdeigkdaaDoorW.PrintLast Go.Proofs.YtfhjkkcdeigkdaaDoorW.PrintMore
set_option linter.unusedVariables false
set_option linter.unusedSimpArgs false
/-! The document's machine: a Take, or a Give. -/
theorem mOInfo : (Tryd.prog.info? 88).map (fun i => (i.zero, i.size, i.bytes)) = some (some (.agg #[(.int .i64 0), (.int .i64 0)]), 2, 16) := by kernel_rfl
theorem odrop2 (l : List S88) (i : Int) (h0 : 0 ≤ i) (h : i < (l.length : Int)) : l.take (i + 1).toNat = l.take i.toNat ++ [rd_T88 l i] := by
  rw [show (i + 1).toNat = i.toNat + 1 by omega, List.take_succ_eq_append_getElem (by omega)]
  congr 2
  unfold rd_T88
  rw [List.getD_eq_getElem?_getD, List.getElem?_eq_getElem (by omega)]; rfl
/-- what stays of own -/
def freeL (l : List S88) (n : Int) : List S88 := l.filter (fun y => !(y.f0 == n))
set_option maxRecDepth 100000 in
set_option maxHeartbeats 8000000 in
theorem mlock.calls (x : S53) (w0 W : World) (F : Nat → Prop) (b gC gT : Nat) (A0 : Option Addr) (n0 c0 : Nat) (vM vO vG : Value) (s : MSt) (hx : x.f0 = 9 ∨ x.f0 = 10)
    (hO : MO W w0.heap.size F b gC gT A0 n0 c0 vM vO s.mem s.own) (hT : MT W w0.heap.size F gT vG s.regs s.pc s.over) (hB : Below w0.heap.size w0 W) (hl : s.own.length ≤ 900000) :
    Calls Tryd.prog 24 #[.pointer (some ⟨b, 0, none⟩), .int .i64 0, .agg #[.int .i64 x.f0, .int .i64 x.f1, .int .i64 x.f2, .int .i64 x.f3, .int .i64 x.f4, .int .i64 x.f5, .int .i64 x.f6]] W fun e W' => e = .returned (.tuple #[.agg #[.int .i64 (lockS x s).2.1.1, .int .i64 0, .int .i64 (lockS x s).2.1.2], .int .i64 (lockS x s).2.2]) ∧
      ∃ vO', MO W' w0.heap.size (fun k => F k ∨ W.heap.size ≤ k) b gC gT A0 n0 c0 vM vO' (lockS x s).1.mem (lockS x s).1.own ∧ MT W' w0.heap.size (fun k => F k ∨ W.heap.size ≤ k) gT vG (lockS x s).1.regs (lockS x s).1.pc (lockS x s).1.over ∧ Below w0.heap.size w0 W' ∧ Kept W W' F := by
  have hb1 : Below W.heap.size W (W.alloc (.cells #[.int .i64 x.f0, .int .i64 x.f1, .int .i64 x.f2, .int .i64 x.f3, .int .i64 x.f4, .int .i64 x.f5, .int .i64 x.f6] 53)) := (Below.refl _ _).alloc (Nat.le_refl _) _
  have GX0 := blk_new W (.cells #[.int .i64 x.f0, .int .i64 x.f1, .int .i64 x.f2, .int .i64 x.f3, .int .i64 x.f4, .int .i64 x.f5, .int .i64 x.f6] 53)
  have GX1 := Aside0.mk (blk_alloc GX0 (.cells #[.int .i64 0, .int .i64 0, .int .i64 0] 37))
  have GE1 := Aside0.mk (blk_new (W.alloc (.cells #[.int .i64 x.f0, .int .i64 x.f1, .int .i64 x.f2, .int .i64 x.f3, .int .i64 x.f4, .int .i64 x.f5, .int .i64 x.f6] 53)) (.cells #[.int .i64 0, .int .i64 0, .int .i64 0] 37))
  have hb2 : Below W.heap.size W ((W.alloc (.cells #[.int .i64 x.f0, .int .i64 x.f1, .int .i64 x.f2, .int .i64 x.f3, .int .i64 x.f4, .int .i64 x.f5, .int .i64 x.f6] 53)).alloc (.cells #[.int .i64 0, .int .i64 0, .int .i64 0] 37)) := hb1.alloc hb1.size _
  have HB2 := Aside0.mk hb2
  have HB := Aside0.mk (hB.trans (hb2.mono hB.size))
  have HS0 := Aside0.mk hB.size
  have HO := Aside0.mk (hO.below hb2)
  have HT := Aside0.mk (hT.below hb2)
  have HL := Aside0.mk hl
  have HX := Aside0.mk hx
  have HFT := Aside0.mk hO.fb
  have HGT := Aside0.mk (blk_lt hT.hT)
  have HGB := Aside0.mk (blk_lt hO.hb)
  obtain ⟨gX, hgX⟩ : ∃ g, g = W.heap.size := ⟨_, rfl⟩
  obtain ⟨gE, hgE⟩ : ∃ g, g = W.heap.size + 1 := ⟨_, rfl⟩
  have hs1 : (W.alloc (.cells #[.int .i64 x.f0, .int .i64 x.f1, .int .i64 x.f2, .int .i64 x.f3, .int .i64 x.f4, .int .i64 x.f5, .int .i64 x.f6] 53)).heap.size = W.heap.size + 1 := by simp
  rw [hs1, ← hgE] at GE1
  rw [← hgX] at GX1
  have HGX := Aside0.mk hgX
  have HGE := Aside0.mk hgE
  have x0 : ((W.alloc (.cells #[.int .i64 x.f0, .int .i64 x.f1, .int .i64 x.f2, .int .i64 x.f3, .int .i64 x.f4, .int .i64 x.f5, .int .i64 x.f6] 53)).alloc (.cells #[.int .i64 0, .int .i64 0, .int .i64 0] 37)).cell? ⟨gX, 0, none⟩ = some (.int .i64 x.f0) := (blk_cell GX1.out 0).trans rfl
  have x5 : ((W.alloc (.cells #[.int .i64 x.f0, .int .i64 x.f1, .int .i64 x.f2, .int .i64 x.f3, .int .i64 x.f4, .int .i64 x.f5, .int .i64 x.f6] 53)).alloc (.cells #[.int .i64 0, .int .i64 0, .int .i64 0] 37)).cell? ⟨gX, 5, none⟩ = some (.int .i64 x.f5) := (blk_cell GX1.out 5).trans rfl
  clear hO hT hB hl hx hb1 GX0 hb2 hs1 hgX hgE
  go_enter Tryd.func24, Tryd.ntmps24
  go_upto_region 1 with fail
  rw [← HGE.out, ← HGX.out]
  generalize ((W.alloc (.cells #[.int .i64 x.f0, .int .i64 x.f1, .int .i64 x.f2, .int .i64 x.f3, .int .i64 x.f4, .int .i64 x.f5, .int .i64 x.f6] 53)).alloc (.cells #[.int .i64 0, .int .i64 0, .int .i64 0] 37)) = W2 at HB2 HB HO HT GX1 GE1 x0 x5 ⊢
  obtain ⟨bl, hbl⟩ : ∃ bl, bl = ((x.f0 == 9) && decide (0 ≤ ownerL s.own x.f5)) := ⟨_, rfl⟩
  have HBL := Aside0.mk hbl
  clear hbl
  go_cut [20] (fun v20 wc => v20 = .bool bl ∧ Aside0 (wc = W2))
  case first =>
    cases k9 : (x.f0 == 9) with
    | false =>
      rw [k9] at HBL
      go_wp2_with fail
      go_meet
      case rel => exact ⟨by rw [HBL.out]; rfl, ⟨rfl⟩⟩
    | true =>
      rw [k9] at HBL
      go_wp2_with fail
      refine (owner.calls W2 w0.heap.size F b gC gT A0 n0 c0 vM vO s.mem s.own x.f5 HO.out (by have := HL.out; omega)).mono ?_
      rintro e w' ⟨rfl, rfl⟩
      go_wp2_with fail
      go_meet
      case rel => exact ⟨by rw [HBL.out]; rfl, ⟨rfl⟩⟩
  case rest =>
    obtain ⟨rfl, HWC⟩ := hcut
    obtain rfl := HWC.out
    clear HWC
    cases bl with
    | true =>
      have hq := HBL.out
      simp only [Bool.true_eq, Bool.and_eq_true, decide_eq_true_eq, beq_iff_eq] at hq
      have HS := Aside0.mk (show lockS x s = (s, (0, 0), 1) by unfold lockS; rw [if_pos hq])
      clear hq
      have e0 : wc.cell? ⟨gE, 0, none⟩ = some (.int .i64 0) := (blk_cell GE1.out 0).trans rfl
      have e1 : wc.cell? ⟨gE, 1, none⟩ = some (.int .i64 0) := (blk_cell GE1.out 1).trans rfl
      have e2 : wc.cell? ⟨gE, 2, none⟩ = some (.int .i64 0) := (blk_cell GE1.out 2).trans rfl
      have f0 : wc.frozen? ⟨gE, 0, none⟩ = false := blk_frozen GE1.out 0
      have f1 : wc.frozen? ⟨gE, 1, none⟩ = false := blk_frozen GE1.out 1
      have f2 : wc.frozen? ⟨gE, 2, none⟩ = false := blk_frozen GE1.out 2
      go_wp2_with fail
      have s1 : ∀ (T : List Nat), 37 ∉ T → Stay T wc (((wc.setCell ⟨gE, 0, none⟩ (.int .i64 0)).setCell ⟨gE, 1, none⟩ (.int .i64 0)).setCell ⟨gE, 2, none⟩ (.int .i64 0)) := fun T hT => ((Stay.set GE1.out hT 0 _).trans (Stay.set (blk_set GE1.out 0 _) hT 1 _)).trans (Stay.set (blk_set (blk_set GE1.out 0 _) 1 _) hT 2 _)
      have gE3 : (((wc.setCell ⟨gE, 0, none⟩ (.int .i64 0)).setCell ⟨gE, 1, none⟩ (.int .i64 0)).setCell ⟨gE, 2, none⟩ (.int .i64 0)).heap[gE]? = some (.cells #[.int .i64 0, .int .i64 0, .int .i64 0] 37 (0, 0)) := blk_set (blk_set (blk_set GE1.out 0 _) 1 _) 2 _
      refine bodyPost_ret (res_event rfl _ _ gE 0 0 0 rfl gE3) rfl ?_
      rw [HS.out]
      have hW : W.heap.size ≤ gE := by have := HGE.out; omega
      have hw0 : w0.heap.size ≤ gE := Nat.le_trans HS0.out hW
      refine ⟨rfl, vO, ((HO.out.stay (s1 _ (by decide))).mono (fun _ h => .inl h)), ((HT.out.stay (s1 _ (by decide))).mono (fun _ h => .inl h)), ?_, ?_⟩
      · exact ((HB.out.setCell (p := ⟨gE, 0, none⟩) hw0 _).setCell (p := ⟨gE, 1, none⟩) hw0 _).setCell (p := ⟨gE, 2, none⟩) hw0 _
      · exact (((Kept.of_below HB2.out F).setCell (p := ⟨gE, 0, none⟩) (.inr hW) _).setCell (p := ⟨gE, 1, none⟩) (.inr hW) _).setCell (p := ⟨gE, 2, none⟩) (.inr hW) _
    | false =>
      have hq := HBL.out
      simp only [Bool.false_eq, Bool.and_eq_false_iff, decide_eq_false_iff_not] at hq
      have HNQ := Aside0.mk hq
      clear hq
      obtain ⟨AO, cO, rfl⟩ := Kd.R_slice HO.out.rO
      have HSO := Aside0.mk (show s.own.length ≤ 9223372036854775807 by have := HL.out; omega)
      clear x0 x5
      go_wp2_with fail
      go_loopg [8, 9] s.own.length (fun kq v8 v9 wr => ∃ (i : Int) (o : List S88), v9 = .int .i64 i ∧ 0 ≤ i ∧ i ≤ s.own.length ∧ s.own.length - i ≤ kq ∧ Aside0 (o = freeL (s.own.take i.toNat) x.f5) ∧ Aside0 (Kd.R k88 88 wr wc.heap.size (fun _ => True) v8 o) ∧ Aside0 (Below wc.heap.size wc wr))
      case atStart => exact ⟨0, [], rfl, by omega, by omega, by omega, ⟨rfl⟩, ⟨Kd.R_nil _ _ _ _ _⟩, ⟨Below.refl _ _⟩⟩
      case round =>
        obtain ⟨i, o, rfl, i0, i1, ig, HOO, HR, HBW⟩ := hrel
        have y2 : wr.cell? ⟨b, 2, none⟩ = some (.slice AO s.own.length cO) := (blk_cell (HO.out.below HBW.out).hb 2).trans rfl
        by_cases hi : i < s.own.length
        · obtain ⟨ad, e1, q0, q1⟩ := at_T88 (Kd.R_reads' (HO.out.below HBW.out).rO).2.2 i i0 hi
          cases e1
          have x5 : wr.cell? ⟨gX, 5, none⟩ = some (.int .i64 x.f5) := (blk_cell (blk_below GX1.out HBW.out) 5).trans rfl
          have hdr := odrop2 s.own i i0 hi
          obtain ⟨y, hy⟩ : ∃ y, y = rd_T88 s.own i := ⟨_, rfl⟩
          rw [← hy] at q0 q1 hdr
          have HD := Aside0.mk hdr
          have HWI := Aside0.mk (show wrap64 (i + 1) = i + 1 by have := HL.out; unfold wrap64; omega)
          have HLO := Aside0.mk (show o.length ≤ 900000 by rw [HOO.out]; have h1 := List.length_filter_le (fun y : S88 => !(y.f0 == x.f5)) (s.own.take i.toNat); have h2 := List.length_take_le' i.toNat s.own; have := HL.out; unfold freeL; omega)
          clear hy hdr
          go_upto_region 7 with fail
          go_quiet (fail)
          have hbq := pw_below_drewN (Below.refl wr.heap.size wr) nq
          generalize wr.drewN nq = wq at hbq ⊢
          replace HR := Aside0.mk (Kd.R_below HR.out hbq)
          replace HBW := Aside0.mk (HBW.out.trans (hbq.mono HBW.out.size))
          have z2 := (pw_cell_below hbq y2)
          have z0 := (pw_cell_below hbq q0)
          have z1 := (pw_cell_below hbq q1)
          clear y2 q0 q1 x5 hbq
          by_cases hq : y.f0 = x.f5
          · have d1 : (y.f0 != x.f5) = false := by simpa using hq
            have HO2 := Aside0.mk (show o = freeL (s.own.take (i + 1).toNat) x.f5 by rw [HD.out, HOO.out]; unfold freeL; rw [List.filter_append]; simp [hq])
            clear hq
            go_wp2_with fail
            go_roundg (gk - 1)
            case measure => omega
            case rel => exact ⟨i + 1, o, by first | rfl | rw [HWI.out], by omega, by omega, by omega, HO2, HR, HBW⟩
          · have d1 : (y.f0 != x.f5) = true := by simpa using hq
            have HO2 := Aside0.mk (show o ++ [y] = freeL (s.own.take (i + 1).toNat) x.f5 by rw [HD.out, HOO.out]; unfold freeL; rw [List.filter_append]; simp [hq])
            clear hq
            go_wp2_with (first | ((with_reducible refine gate_builtin (b := .append) (xs := #[.tmp 42, .tmp 50]) rfl ?_); at_builtin; (refine Kd.R_append k88 (w0 := wc) wc.heap.size rfl (.tmp 42) (.tmp 50) 43 88 (.agg #[(.int .i64 0), (.int .i64 0)]) 16 rfl Tryd.underlying43 mOInfo rfl (by decide) (by omega) u8 o y [.int .i64 y.f0, .int .i64 y.f1] (fun _ => True) (fun _ => False) rfl (by first | rfl | (go_simp; done) | (go_simp; rfl)) (k88_mkM _ _ _ y) (fun _ hk => hk.elim) (fun _ _ => trivial) HR.out HBW.out HBW.out.size (by have := HLO.out; omega) ?_; intro v5 w5 ho hb hg hat; have HR5 := Aside0.mk ho; have HB5 := Aside0.mk hb; clear ho hb hg hat)))
            go_roundg (gk - 1)
            case measure => omega
            case rel => exact ⟨i + 1, o ++ [y], by first | rfl | rw [HWI.out], by omega, by omega, by omega, HO2, HR5, HB5⟩
        · have HOE := Aside0.mk (show o = freeL s.own x.f5 by rw [HOO.out, List.take_of_length_le (by omega)])
          clear HOO
          have hcs := HBW.out.size
          have HOt := (HO.out.tight (blk_lt HT.out.hT)).below HBW.out
          have HTt := HT.out.tight.below HBW.out
          have y3 : wr.cell? ⟨b, 3, none⟩ = some (.slice (some ⟨gT, 0, none⟩) 1 1) := (blk_cell HOt.hb 3).trans rfl
          have t0 : wr.cell? ⟨gT, 0, none⟩ = some (.int .i64 s.pc) := (blk_cell HTt.hT 0).trans rfl
          have tf : wr.frozen? ⟨gT, 0, none⟩ = false := blk_frozen HTt.hT 0
          have hgT : w0.heap.size ≤ gT := HOt.lb.2.2
          have s5 : ∀ T : List Nat, 42 ∉ T → Stay T wr (wr.setCell ⟨gT, 0, none⟩ (.int .i64 (wrap64 (s.pc + 1)))) := fun T hT => Stay.set HTt.hT hT 0 _
          have HO5 := Aside0.mk (HOt.stay (s5 _ (by decide)))
          have GT5 := Aside0.mk (show (wr.setCell ⟨gT, 0, none⟩ (.int .i64 (wrap64 (s.pc + 1)))).heap[gT]? = some (.cells #[.int .i64 (wrap64 (s.pc + 1)), vG, .bool s.over] 42 (0, 0)) from blk_set HTt.hT 0 (.int .i64 (wrap64 (s.pc + 1))))
          have RG5 := Aside0.mk ((s5 [69] (by decide)).row HTt.rG (by decide))
          have HR5 := Aside0.mk ((s5 [88] (by decide)).row HR.out (by decide))
          have GX5 := Aside0.mk ((s5 [53] (by decide)).blk (blk_below GX1.out HBW.out) (by decide))
          have GE5 := Aside0.mk ((s5 [37] (by decide)).blk (blk_below GE1.out HBW.out) (by decide))
          have HB5 := Aside0.mk ((HB.out.trans (HBW.out.mono HB.out.size)).setCell (p := ⟨gT, 0, none⟩) hgT (.int .i64 (wrap64 (s.pc + 1))))
          have HK5 := Aside0.mk (((Kept.of_below HB2.out F).below HBW.out).setCell (p := ⟨gT, 0, none⟩) (.inl HFT.out.2.2) (.int .i64 (wrap64 (s.pc + 1))))
          have HZ5 := Aside0.mk (show wc.heap.size ≤ (wr.setCell ⟨gT, 0, none⟩ (.int .i64 (wrap64 (s.pc + 1)))).heap.size by simpa [World.setCell] using hcs)
          have HLX := Aside0.mk (show gX < wc.heap.size ∧ gE < wc.heap.size ∧ gT < wc.heap.size from ⟨blk_lt GX1.out, blk_lt GE1.out, blk_lt HT.out.hT⟩)
          have HNEW := Aside0.mk (show ∀ k, wc.heap.size ≤ k → W.heap.size ≤ k from fun k hk => Nat.le_trans HB2.out.size hk)
          have HLO := Aside0.mk (show o.length ≤ 900000 by rw [HOE.out]; have h1 := List.length_filter_le (fun y : S88 => !(y.f0 == x.f5)) s.own; have := HL.out; unfold freeL; omega)
          clear hcs HOt HTt hgT s5 HBW HR GX1 GE1 HT
          go_upto_region 10 with fail
          clear y2
          generalize (wr.setCell ⟨gT, 0, none⟩ (.int .i64 (wrap64 (s.pc + 1)))) = w5 at HO5 GT5 RG5 HR5 GX5 GE5 HB5 HK5 HZ5 ⊢
          clear y3 t0 tf
          have x0 : w5.cell? ⟨gX, 0, none⟩ = some (.int .i64 x.f0) := (blk_cell GX5.out 0).trans rfl
          have x5 : w5.cell? ⟨gX, 5, none⟩ = some (.int .i64 x.f5) := (blk_cell GX5.out 5).trans rfl
          cases k9 : (x.f0 == 9) with
          | false =>
            have HS := Aside0.mk (show lockS x s = ({ s with own := o, pc := wrap64 (s.pc + 1) }, (2, x.f5), 0) by
              unfold lockS; have h9 : ¬ x.f0 = 9 := by simpa using k9
              rw [if_neg (fun h => h9 h.1), if_neg h9, if_neg h9, List.append_nil, HOE.out]; rfl)
            have HO6 := HO5
            have GT6 := GT5
            have RG6 := RG5
            have HR6 := Aside0.mk (show Kd.R k88 88 w5 wc.heap.size (fun k => True ∧ wc.heap.size ≤ k) u8 o from Kd.R_mono (Kd.R_bound HR5.out) (fun k hk => ⟨trivial, hk.2.1⟩))
            have GX6 := GX5
            have GE6 := GE5
            have HB6 := HB5
            have HK6 := HK5
            have b2 : w5.cell? ⟨b, 2, none⟩ = some (.slice AO s.own.length cO) := (blk_cell HO6.out.hb 2).trans rfl
            have bf : w5.frozen? ⟨b, 2, none⟩ = false := blk_frozen HO6.out.hb 2
            obtain ⟨A8, c8, e8⟩ := Kd.R_slice HR6.out
            subst e8
            go_upto_region 15 with fail
            have gb7 := blk_set HO6.out.hb 2 (.slice A8 o.length c8)
            have s7 : ∀ T : List Nat, 46 ∉ T → Stay T w5 (w5.setCell ⟨b, 2, none⟩ (.slice A8 o.length c8)) := fun T hT => Stay.set HO6.out.hb hT 2 _
            have h6 := HO6.out
            have MO7 : MO (w5.setCell ⟨b, 2, none⟩ (.slice A8 o.length c8)) w0.heap.size (fun k => F k ∨ W.heap.size ≤ k) b gC gT A0 n0 c0 vM (.slice A8 o.length c8) s.mem (o) := ⟨⟨.inl h6.fb.1.1, .inl h6.fb.2.1.1, .inl h6.fb.2.2.1⟩, h6.lb, gb7, (s7 [28] (by decide)).blk h6.hC (by decide), Kd.R_mono ((s7 [2] (by decide)).row h6.rM (by decide)) (fun k hk => .inl hk.1), Kd.R_mono (Kd.R_bound (Kd.R_lower ((s7 [88] (by decide)).row HR6.out (by decide)) HB.out.size)) (fun k hk => .inr (HNEW.out k (by first | exact hk.1 | exact hk.1.2)))⟩
            have MT7 : MT (w5.setCell ⟨b, 2, none⟩ (.slice A8 o.length c8)) w0.heap.size (fun k => F k ∨ W.heap.size ≤ k) gT vG s.regs (wrap64 (s.pc + 1)) s.over := ⟨(s7 [42] (by decide)).blk GT6.out (by decide), Kd.R_mono ((s7 [69] (by decide)).row RG6.out (by decide)) (fun k hk => .inl hk.1)⟩
            have M7 := Aside0.mk MO7
            have T7 := Aside0.mk MT7
            have GX7 := Aside0.mk ((s7 [53] (by decide)).blk GX6.out (by decide))
            have GE7 := Aside0.mk ((s7 [37] (by decide)).blk GE6.out (by decide))
            have HB7 := Aside0.mk (HB6.out.setCell (p := ⟨b, 2, none⟩) h6.lb.1 (.slice A8 o.length c8))
            have HK7 := Aside0.mk (HK6.out.setCell (p := ⟨b, 2, none⟩) (.inl h6.fb.1.1) (.slice A8 o.length c8))
            clear gb7 s7 h6 MO7 MT7
            generalize (w5.setCell ⟨b, 2, none⟩ (.slice A8 o.length c8)) = w7 at M7 T7 GX7 GE7 HB7 HK7 ⊢
            have x5 : w7.cell? ⟨gX, 5, none⟩ = some (.int .i64 x.f5) := (blk_cell GX7.out 5).trans rfl
            have e0 : w7.cell? ⟨gE, 0, none⟩ = some (.int .i64 0) := (blk_cell GE7.out 0).trans rfl
            have e1 : w7.cell? ⟨gE, 1, none⟩ = some (.int .i64 0) := (blk_cell GE7.out 1).trans rfl
            have e2 : w7.cell? ⟨gE, 2, none⟩ = some (.int .i64 0) := (blk_cell GE7.out 2).trans rfl
            have f0 : w7.frozen? ⟨gE, 0, none⟩ = false := blk_frozen GE7.out 0
            have f1 : w7.frozen? ⟨gE, 1, none⟩ = false := blk_frozen GE7.out 1
            have f2 : w7.frozen? ⟨gE, 2, none⟩ = false := blk_frozen GE7.out 2
            clear x0 b2 bf HO6 GT6 RG6 HR6 GX6 GE6 HB6 HK6 HO5 GT5 RG5 HR5 GX5 GE5 HB5 HK5
            go_wp2_with fail
            have s1 : ∀ (T : List Nat), 37 ∉ T → Stay T w7 (((w7.setCell ⟨gE, 0, none⟩ (.int .i64 2)).setCell ⟨gE, 1, none⟩ (.int .i64 0)).setCell ⟨gE, 2, none⟩ (.int .i64 x.f5)) := fun T hT => ((Stay.set GE7.out hT 0 _).trans (Stay.set (blk_set GE7.out 0 _) hT 1 _)).trans (Stay.set (blk_set (blk_set GE7.out 0 _) 1 _) hT 2 _)
            have gE3 : (((w7.setCell ⟨gE, 0, none⟩ (.int .i64 2)).setCell ⟨gE, 1, none⟩ (.int .i64 0)).setCell ⟨gE, 2, none⟩ (.int .i64 x.f5)).heap[gE]? = some (.cells #[.int .i64 2, .int .i64 0, .int .i64 x.f5] 37 (0, 0)) := blk_set (blk_set (blk_set GE7.out 0 _) 1 _) 2 _
            refine bodyPost_ret (res_event rfl _ _ gE 2 0 x.f5 rfl gE3) rfl ?_
            rw [HS.out]
            have hW : W.heap.size ≤ gE := by have := HGE.out; omega
            have hw0 : w0.heap.size ≤ gE := Nat.le_trans HS0.out hW
            refine ⟨rfl, ⟨(.slice A8 o.length c8), ?_⟩, ?_, ?_, ?_⟩
            · exact M7.out.stay (s1 _ (by decide))
            · exact T7.out.stay (s1 _ (by decide))
            · exact ((HB7.out.setCell (p := ⟨gE, 0, none⟩) hw0 _).setCell (p := ⟨gE, 1, none⟩) hw0 _).setCell (p := ⟨gE, 2, none⟩) hw0 _
            · exact ((HK7.out.setCell (p := ⟨gE, 0, none⟩) (.inr hW) _).setCell (p := ⟨gE, 1, none⟩) (.inr hW) _).setCell (p := ⟨gE, 2, none⟩) (.inr hW) _
          | true =>
            have HS := Aside0.mk (show lockS x s = ({ s with own := o ++ [⟨x.f5, 0⟩], pc := wrap64 (s.pc + 1) }, (1, x.f5), 0) by
              unfold lockS; have h9 : x.f0 = 9 := by simpa using k9
              have hn : ¬ 0 ≤ ownerL s.own x.f5 := by
                rcases HNQ.out with h | h
                · rw [k9] at h; cases h
                · omega
              rw [if_neg (fun h => hn h.2), if_pos h9, if_pos h9, HOE.out]; rfl)
            go_upto_region 14 with (first | ((with_reducible refine gate_builtin (b := .append) (xs := #[.tmp 66, .tmp 71]) rfl ?_); at_builtin; (refine Kd.R_append k88 (w0 := w5) wc.heap.size rfl (.tmp 66) (.tmp 71) 43 88 (.agg #[(.int .i64 0), (.int .i64 0)]) 16 rfl Tryd.underlying43 mOInfo rfl (by decide) (by omega) u8 o (⟨x.f5, 0⟩ : S88) [.int .i64 x.f5, .int .i64 0] (fun _ => True) (fun _ => False) rfl (by first | rfl | (go_simp; done) | (go_simp; rfl)) (k88_mkM _ _ _ (⟨x.f5, 0⟩ : S88)) (fun _ hk => hk.elim) (fun _ _ => trivial) HR5.out (Below.refl _ _) HZ5.out (by have := HLO.out; omega) ?_; intro v6 w6 ho hb hg hat; have HR6 := Aside0.mk (Kd.R_mono (Kd.R_bound ho) (ok' := fun k => True ∧ wc.heap.size ≤ k) (fun k hk => ⟨trivial, hk.2.1⟩)); have HO6 := Aside0.mk (HO5.out.move (fun k hk _ => hb.block k hk.2)); have GT6 := Aside0.mk ((hb.block gT HLX.out.2.2).trans GT5.out); have RG6 := Aside0.mk (Kd.R_step RG5.out (fun k hk _ => hb.block k hk.2)); have GX6 := Aside0.mk ((hb.block gX HLX.out.1).trans GX5.out); have GE6 := Aside0.mk ((hb.block gE HLX.out.2.1).trans GE5.out); have HB6 := Aside0.mk (HB5.out.trans (hb.mono HB.out.size)); have HK6 := Aside0.mk (show Kept W w6 F from Kept.of_grown hg HK5.out (fun k hk => .inr (HNEW.out k (Kd.R_base HR5.out k hk)))); have b2 : w6.cell? ⟨b, 2, none⟩ = some (.slice AO s.own.length cO) := (blk_cell HO6.out.hb 2).trans rfl; have bf : w6.frozen? ⟨b, 2, none⟩ = false := blk_frozen HO6.out.hb 2; clear ho hb hg hat x0 x5; obtain ⟨A8, c8, e8⟩ := Kd.R_slice HR6.out; subst e8; rw [show (o ++ [(⟨x.f5, 0⟩ : S88)]).length = o.length + 1 by simp] at HR6)))
            go_upto_region 15 with fail
            have gb7 := blk_set HO6.out.hb 2 (.slice A8 (o.length + 1) c8)
            have s7 : ∀ T : List Nat, 46 ∉ T → Stay T w6 (w6.setCell ⟨b, 2, none⟩ (.slice A8 (o.length + 1) c8)) := fun T hT => Stay.set HO6.out.hb hT 2 _
            have h6 := HO6.out
            have MO7 : MO (w6.setCell ⟨b, 2, none⟩ (.slice A8 (o.length + 1) c8)) w0.heap.size (fun k => F k ∨ W.heap.size ≤ k) b gC gT A0 n0 c0 vM (.slice A8 (o.length + 1) c8) s.mem (o ++ [⟨x.f5, 0⟩]) := ⟨⟨.inl h6.fb.1.1, .inl h6.fb.2.1.1, .inl h6.fb.2.2.1⟩, h6.lb, gb7, (s7 [28] (by decide)).blk h6.hC (by decide), Kd.R_mono ((s7 [2] (by decide)).row h6.rM (by decide)) (fun k hk => .inl hk.1), Kd.R_mono (Kd.R_bound (Kd.R_lower ((s7 [88] (by decide)).row HR6.out (by decide)) HB.out.size)) (fun k hk => .inr (HNEW.out k (by first | exact hk.1 | exact hk.1.2)))⟩
            have MT7 : MT (w6.setCell ⟨b, 2, none⟩ (.slice A8 (o.length + 1) c8)) w0.heap.size (fun k => F k ∨ W.heap.size ≤ k) gT vG s.regs (wrap64 (s.pc + 1)) s.over := ⟨(s7 [42] (by decide)).blk GT6.out (by decide), Kd.R_mono ((s7 [69] (by decide)).row RG6.out (by decide)) (fun k hk => .inl hk.1)⟩
            have M7 := Aside0.mk MO7
            have T7 := Aside0.mk MT7
            have GX7 := Aside0.mk ((s7 [53] (by decide)).blk GX6.out (by decide))
            have GE7 := Aside0.mk ((s7 [37] (by decide)).blk GE6.out (by decide))
            have HB7 := Aside0.mk (HB6.out.setCell (p := ⟨b, 2, none⟩) h6.lb.1 (.slice A8 (o.length + 1) c8))
            have HK7 := Aside0.mk (HK6.out.setCell (p := ⟨b, 2, none⟩) (.inl h6.fb.1.1) (.slice A8 (o.length + 1) c8))
            clear gb7 s7 h6 MO7 MT7
            generalize (w6.setCell ⟨b, 2, none⟩ (.slice A8 (o.length + 1) c8)) = w7 at M7 T7 GX7 GE7 HB7 HK7 ⊢
            have x5 : w7.cell? ⟨gX, 5, none⟩ = some (.int .i64 x.f5) := (blk_cell GX7.out 5).trans rfl
            have e0 : w7.cell? ⟨gE, 0, none⟩ = some (.int .i64 0) := (blk_cell GE7.out 0).trans rfl
            have e1 : w7.cell? ⟨gE, 1, none⟩ = some (.int .i64 0) := (blk_cell GE7.out 1).trans rfl
            have e2 : w7.cell? ⟨gE, 2, none⟩ = some (.int .i64 0) := (blk_cell GE7.out 2).trans rfl
            have f0 : w7.frozen? ⟨gE, 0, none⟩ = false := blk_frozen GE7.out 0
            have f1 : w7.frozen? ⟨gE, 1, none⟩ = false := blk_frozen GE7.out 1
            have f2 : w7.frozen? ⟨gE, 2, none⟩ = false := blk_frozen GE7.out 2
            clear b2 bf HO6 GT6 RG6 HR6 GX6 GE6 HB6 HK6 HO5 GT5 RG5 HR5 GX5 GE5 HB5 HK5
            go_wp2_with fail
            have s1 : ∀ (T : List Nat), 37 ∉ T → Stay T w7 (((w7.setCell ⟨gE, 0, none⟩ (.int .i64 1)).setCell ⟨gE, 1, none⟩ (.int .i64 0)).setCell ⟨gE, 2, none⟩ (.int .i64 x.f5)) := fun T hT => ((Stay.set GE7.out hT 0 _).trans (Stay.set (blk_set GE7.out 0 _) hT 1 _)).trans (Stay.set (blk_set (blk_set GE7.out 0 _) 1 _) hT 2 _)
            have gE3 : (((w7.setCell ⟨gE, 0, none⟩ (.int .i64 1)).setCell ⟨gE, 1, none⟩ (.int .i64 0)).setCell ⟨gE, 2, none⟩ (.int .i64 x.f5)).heap[gE]? = some (.cells #[.int .i64 1, .int .i64 0, .int .i64 x.f5] 37 (0, 0)) := blk_set (blk_set (blk_set GE7.out 0 _) 1 _) 2 _
            refine bodyPost_ret (res_event rfl _ _ gE 1 0 x.f5 rfl gE3) rfl ?_
            rw [HS.out]
            have hW : W.heap.size ≤ gE := by have := HGE.out; omega
            have hw0 : w0.heap.size ≤ gE := Nat.le_trans HS0.out hW
            refine ⟨rfl, ⟨(.slice A8 (o.length + 1) c8), ?_⟩, ?_, ?_, ?_⟩
            · exact M7.out.stay (s1 _ (by decide))
            · exact T7.out.stay (s1 _ (by decide))
            · exact ((HB7.out.setCell (p := ⟨gE, 0, none⟩) hw0 _).setCell (p := ⟨gE, 1, none⟩) hw0 _).setCell (p := ⟨gE, 2, none⟩) hw0 _
            · exact ((HK7.out.setCell (p := ⟨gE, 0, none⟩) (.inr hW) _).setCell (p := ⟨gE, 1, none⟩) (.inr hW) _).setCell (p := ⟨gE, 2, none⟩) (.inr hW) _
end Go.Proofs.YtfhjkkcdeigkdaaDoor.PFoldRuns
