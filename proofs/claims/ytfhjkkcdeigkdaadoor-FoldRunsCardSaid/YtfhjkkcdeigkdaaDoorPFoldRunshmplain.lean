import Derived.Test.YtfhjkkcdeigkdaaDoorPFoldRunsx0
import Derived.Test.YtfhjkkcdeigkdaaDoorPFoldRunshg0
import Derived.Test.YtfhjkkcdeigkdaaDoorPFoldRunshg6
import Derived.Test.YtfhjkkcdeigkdaaDoorPFoldRunshway
namespace Go.Proofs.YtfhjkkcdeigkdaaDoor.PFoldRuns
open Go.RowKit Go.Proofs.YtfhjkkcdeigkdaaDoorW.PrintWords Go.Proofs.YtfhjkkcdeigkdaaDoorW.PrintLast Go.Proofs.YtfhjkkcdeigkdaaDoorW.PrintMore
set_option linter.unusedVariables false
set_option linter.unusedSimpArgs false
/-! The document's machine: an instruction that is no event. -/
theorem plainS_over (x : S53) (s : MSt) : (plainS x s).over = s.over := by unfold plainS; repeat' (first | rfl | split)
theorem plainS_own (x : S53) (s : MSt) : (plainS x s).own = s.own := by unfold plainS; repeat' (first | rfl | split)
theorem mset {w w0 W : World} {base : Nat} {F F' : Nat → Prop} {b gC gT gH : Nat} {A0 : Option Addr} {n0 c0 : Nat} {vM vO vG : Value} {mem : List Int} {own : List S88} {regs : List S69} {ct cs : Array Value}
    (HO : MO w base F' b gC gT A0 n0 c0 vM vO mem own) (GT : w.heap[gT]? = some (.cells ct 42 (0, 0))) (GH : w.heap[gH]? = some (.cells cs 42 (0, 0))) (RG : Kd.R k69 69 w base F' vG regs) (HB : Below base w0 w) (HK : Kept W w F) (hne : gT ≠ gH) (hb : base ≤ gH) (hw : W.heap.size ≤ gH) (j : Nat) (u : Value) :
    MO (w.setCell ⟨gH, j, none⟩ u) base F' b gC gT A0 n0 c0 vM vO mem own ∧ (w.setCell ⟨gH, j, none⟩ u).heap[gT]? = some (.cells ct 42 (0, 0)) ∧ (w.setCell ⟨gH, j, none⟩ u).heap[gH]? = some (.cells (cs.setIfInBounds j u) 42 (0, 0)) ∧ Kd.R k69 69 (w.setCell ⟨gH, j, none⟩ u) base F' vG regs ∧ Below base w0 (w.setCell ⟨gH, j, none⟩ u) ∧ Kept W (w.setCell ⟨gH, j, none⟩ u) F :=
  ⟨HO.stay (Stay.set GH (by decide) j u), blk_far GT hne u (p := ⟨gH, j, none⟩), blk_set GH j u, (Stay.set (T := [69]) GH (by decide) j u).row RG (by decide), HB.setCell (p := ⟨gH, j, none⟩) hb u, HK.setCell (p := ⟨gH, j, none⟩) (.inr hw) u⟩
theorem mKinds (k : Int) : ((k == 0) = true ∨ ((k == 0) = false ∧ (k == 1) = true) ∨ ((k == 0) = false ∧ (k == 1) = false ∧ (k == 2) = true) ∨ ((k == 0) = false ∧ (k == 1) = false ∧ (k == 2) = false ∧ (k == 3) = true)) ∨
    ((k == 0) = false ∧ (k == 1) = false ∧ (k == 2) = false ∧ (k == 3) = false ∧ (k == 4) = true) ∨
    ((k == 0) = false ∧ (k == 1) = false ∧ (k == 2) = false ∧ (k == 3) = false ∧ (k == 4) = false ∧ (k == 5) = true) ∨
    ((k == 0) = false ∧ (k == 1) = false ∧ (k == 2) = false ∧ (k == 3) = false ∧ (k == 4) = false ∧ (k == 5) = false ∧ (k == 6) = true) ∨
    ((k == 0) = false ∧ (k == 1) = false ∧ (k == 2) = false ∧ (k == 3) = false ∧ (k == 4) = false ∧ (k == 5) = false ∧ (k == 6) = false ∧ (k == 7) = true) ∨
    ((k == 0) = false ∧ (k == 1) = false ∧ (k == 2) = false ∧ (k == 3) = false ∧ (k == 4) = false ∧ (k == 5) = false ∧ (k == 6) = false ∧ (k == 7) = false) := by
  cases (k == 0) <;> cases (k == 1) <;> cases (k == 2) <;> cases (k == 3) <;> cases (k == 4) <;> cases (k == 5) <;> cases (k == 6) <;> cases (k == 7) <;> simp
set_option maxRecDepth 100000 in
set_option maxHeartbeats 8000000 in
theorem mplain.calls (x : S53) (w0 W : World) (F : Nat → Prop) (b gC gT : Nat) (A0 : Option Addr) (n0 c0 : Nat) (vM vO vG : Value) (s : MSt)
    (hO : MO W w0.heap.size F b gC gT A0 n0 c0 vM vO s.mem s.own) (hT : MT W w0.heap.size F gT vG s.regs s.pc s.over) (hB : Below w0.heap.size w0 W) (hl : s.regs.length ≤ 900000) (hm : s.mem.length ≤ 1000000) :
    Calls Tryd.prog 25 #[.pointer (some ⟨b, 0, none⟩), .int .i64 0, .agg #[.int .i64 x.f0, .int .i64 x.f1, .int .i64 x.f2, .int .i64 x.f3, .int .i64 x.f4, .int .i64 x.f5, .int .i64 x.f6]] W fun e W' => e = .returned (.tuple #[]) ∧ ∃ vG', MO W' w0.heap.size (fun k => F k ∨ W.heap.size ≤ k) b gC gT A0 n0 c0 vM vO (plainS x s).mem (plainS x s).own ∧ MT W' w0.heap.size (fun k => F k ∨ W.heap.size ≤ k) gT vG' (plainS x s).regs (plainS x s).pc (plainS x s).over ∧ Below w0.heap.size w0 W' ∧ Kept W W' F := by
  obtain ⟨AG, cG, rfl⟩ := Kd.R_slice hT.rG
  obtain ⟨AM, cM, rfl⟩ := Kd.R_slice hO.rM
  have hb1 : Below W.heap.size W (W.alloc (.cells #[.int .i64 x.f0, .int .i64 x.f1, .int .i64 x.f2, .int .i64 x.f3, .int .i64 x.f4, .int .i64 x.f5, .int .i64 x.f6] 53)) := (Below.refl _ _).alloc (Nat.le_refl _) _
  have hO1 := hO.below hb1
  have hT1 := hT.below hb1
  have y3 : (W.alloc (.cells #[.int .i64 x.f0, .int .i64 x.f1, .int .i64 x.f2, .int .i64 x.f3, .int .i64 x.f4, .int .i64 x.f5, .int .i64 x.f6] 53)).cell? ⟨b, 3, none⟩ = some (.slice (some ⟨gT, 0, none⟩) 1 1) := (blk_cell hO1.hb 3).trans rfl
  have t0 : (W.alloc (.cells #[.int .i64 x.f0, .int .i64 x.f1, .int .i64 x.f2, .int .i64 x.f3, .int .i64 x.f4, .int .i64 x.f5, .int .i64 x.f6] 53)).cell? ⟨gT, 0, none⟩ = some (.int .i64 s.pc) := (blk_cell hT1.hT 0).trans rfl
  have t1 : (W.alloc (.cells #[.int .i64 x.f0, .int .i64 x.f1, .int .i64 x.f2, .int .i64 x.f3, .int .i64 x.f4, .int .i64 x.f5, .int .i64 x.f6] 53)).cell? ⟨gT, 1, none⟩ = some (.slice AG s.regs.length cG) := (blk_cell hT1.hT 1).trans rfl
  have t2 : (W.alloc (.cells #[.int .i64 x.f0, .int .i64 x.f1, .int .i64 x.f2, .int .i64 x.f3, .int .i64 x.f4, .int .i64 x.f5, .int .i64 x.f6] 53)).cell? ⟨gT, 2, none⟩ = some (.bool s.over) := (blk_cell hT1.hT 2).trans rfl
  have GX0 := blk_new W (.cells #[.int .i64 x.f0, .int .i64 x.f1, .int .i64 x.f2, .int .i64 x.f3, .int .i64 x.f4, .int .i64 x.f5, .int .i64 x.f6] 53)
  have GX1 := Aside0.mk (blk_alloc GX0 (.cells #[.int .i64 s.pc, .slice AG s.regs.length cG, .bool s.over] 42))
  have GH1 := Aside0.mk (blk_new (W.alloc (.cells #[.int .i64 x.f0, .int .i64 x.f1, .int .i64 x.f2, .int .i64 x.f3, .int .i64 x.f4, .int .i64 x.f5, .int .i64 x.f6] 53)) (.cells #[.int .i64 s.pc, .slice AG s.regs.length cG, .bool s.over] 42))
  have hb2 : Below W.heap.size W ((W.alloc (.cells #[.int .i64 x.f0, .int .i64 x.f1, .int .i64 x.f2, .int .i64 x.f3, .int .i64 x.f4, .int .i64 x.f5, .int .i64 x.f6] 53)).alloc (.cells #[.int .i64 s.pc, .slice AG s.regs.length cG, .bool s.over] 42)) := hb1.alloc hb1.size _
  have HB2 := Aside0.mk hb2
  have HB := Aside0.mk (hB.trans (hb2.mono hB.size))
  have HS0 := Aside0.mk hB.size
  have HFT := Aside0.mk (show F gT ∨ W.heap.size ≤ gT from .inl hO.fb.2.2)
  have HGT := Aside0.mk (blk_lt hT.hT)
  have HO := Aside0.mk (hO.below hb2)
  have HT := Aside0.mk (hT.below hb2)
  have HL := Aside0.mk hl
  have HM := Aside0.mk hm
  obtain ⟨gX, hgX⟩ : ∃ g, g = W.heap.size := ⟨_, rfl⟩
  obtain ⟨gH, hgH⟩ : ∃ g, g = W.heap.size + 1 := ⟨_, rfl⟩
  have hs1 : (W.alloc (.cells #[.int .i64 x.f0, .int .i64 x.f1, .int .i64 x.f2, .int .i64 x.f3, .int .i64 x.f4, .int .i64 x.f5, .int .i64 x.f6] 53)).heap.size = W.heap.size + 1 := by simp
  rw [hs1, ← hgH] at GH1
  rw [← hgX] at GX1
  have HGX := Aside0.mk hgX
  have HGH := Aside0.mk hgH
  clear hO hT hB hl hm hb1 hO1 hT1 GX0 hb2 hs1 hgX hgH
  go_enter Tryd.func25, Tryd.ntmps25
  go_wp2_with fail
  generalize ((W.alloc (.cells #[.int .i64 x.f0, .int .i64 x.f1, .int .i64 x.f2, .int .i64 x.f3, .int .i64 x.f4, .int .i64 x.f5, .int .i64 x.f6] 53)).alloc (.cells #[.int .i64 s.pc, .slice AG s.regs.length cG, .bool s.over] 42)) = W2 at HB2 HB HO HT GX1 GH1 ⊢
  refine (mword.calls s.regs x AG cG W2 (Kd.R_reads' HT.out.rG).2.2 (Kd.R_reads' HT.out.rG).2.1 (by have := HL.out; omega)).mono ?_
  rw [← HGH.out, ← HGX.out]
  rintro e w3 ⟨rfl, hb3⟩
  replace GX1 := Aside0.mk (blk_below GX1.out hb3)
  replace GH1 := Aside0.mk (blk_below GH1.out hb3)
  replace HO := Aside0.mk (HO.out.below hb3)
  replace HT := Aside0.mk (HT.out.below hb3)
  replace HB := Aside0.mk (HB.out.trans (hb3.mono HB.out.size))
  replace HB2 := Aside0.mk (HB2.out.trans (hb3.mono HB2.out.size))
  obtain ⟨wd, hwd⟩ : ∃ wd, wd = wordL s.regs x := ⟨_, rfl⟩
  rw [← hwd]
  have HWD := Aside0.mk hwd
  obtain ⟨inn, hin⟩ : ∃ inn, inn = (decide (0 ≤ wd) && decide (wd < (s.mem.length : Int))) := ⟨_, rfl⟩
  have HIN := Aside0.mk hin
  clear hb3 hwd hin
  go_upto_region 3 with fail
  go_cut [8] (fun v8 wc => v8 = .bool inn ∧ Aside0 (wc = w3))
  case first =>
    have y1 : w3.cell? ⟨b, 1, none⟩ = some (.slice AM s.mem.length cM) := (blk_cell HO.out.hb 1).trans rfl
    cases d0 : decide (0 ≤ wd) with
    | false =>
      rw [d0] at HIN
      go_wp2_with fail
      go_meet
      case rel => exact ⟨by rw [HIN.out]; rfl, ⟨rfl⟩⟩
    | true =>
      rw [d0] at HIN
      go_wp2_with fail
      go_meet
      case rel => exact ⟨by rw [HIN.out]; rfl, ⟨rfl⟩⟩
  case rest =>
    obtain ⟨rfl, HWC⟩ := hcut
    obtain rfl := HWC.out
    clear HWC y3 t0 t1 t2
    have h0 : wc.cell? ⟨gH, 0, none⟩ = some (.int .i64 s.pc) := (blk_cell GH1.out 0).trans rfl
    have f0 : wc.frozen? ⟨gH, 0, none⟩ = false := blk_frozen GH1.out 0
    have hne : gX ≠ gH := by have := HGX.out; have := HGH.out; omega
    have hgt : gT < W.heap.size := HGT.out
    have hneT : gT ≠ gH := by have := HGH.out; omega
    have HNE := Aside0.mk hne
    have HNET := Aside0.mk hneT
    clear hne hneT hgt
    go_upto_region 5 with fail
    have GX4 := Aside0.mk (blk_far GX1.out HNE.out (.int .i64 (wrap64 (s.pc + 1))) (p := ⟨gH, 0, none⟩))
    have GH4 := Aside0.mk (show (wc.setCell ⟨gH, 0, none⟩ (.int .i64 (wrap64 (s.pc + 1)))).heap[gH]? = some (.cells #[.int .i64 (wrap64 (s.pc + 1)), .slice AG s.regs.length cG, .bool s.over] 42 (0, 0)) from blk_set GH1.out 0 (.int .i64 (wrap64 (s.pc + 1))))
    have HO4 := Aside0.mk (HO.out.stay (Stay.set GH1.out (by decide) 0 (.int .i64 (wrap64 (s.pc + 1)))))
    have GT4 := Aside0.mk (blk_far HT.out.hT HNET.out (.int .i64 (wrap64 (s.pc + 1))) (p := ⟨gH, 0, none⟩))
    have RG4 := Aside0.mk ((Stay.set (T := [69]) GH1.out (by decide) 0 (.int .i64 (wrap64 (s.pc + 1)))).row HT.out.rG (by decide))
    have HB4 := Aside0.mk (HB.out.setCell (p := ⟨gH, 0, none⟩) (by show w0.heap.size ≤ gH; have := HGH.out; have := HS0.out; omega) (.int .i64 (wrap64 (s.pc + 1))))
    have HK4 := Aside0.mk ((Kept.of_below HB2.out F).setCell (p := ⟨gH, 0, none⟩) (.inr (by show W.heap.size ≤ gH; have := HGH.out; omega)) (.int .i64 (wrap64 (s.pc + 1))))
    generalize (wc.setCell ⟨gH, 0, none⟩ (.int .i64 (wrap64 (s.pc + 1)))) = w4 at GX4 GH4 HO4 GT4 RG4 HB4 HK4 ⊢
    clear h0 f0 GX1 GH1 HO HT HB HB2
    have x0 : w4.cell? ⟨gX, 0, none⟩ = some (.int .i64 x.f0) := (blk_cell GX4.out 0).trans rfl
    go_upto_block 0 with fail
    go_cut [] (fun w5 => ∃ vG', Aside0 (MO w5 w0.heap.size (fun k => F k ∨ W.heap.size ≤ k) b gC gT A0 n0 c0 (.slice AM s.mem.length cM) vO (plainS x s).mem s.own) ∧ Aside0 (w5.heap[gT]? = some (.cells #[.int .i64 s.pc, .slice AG s.regs.length cG, .bool s.over] 42 (0, 0))) ∧ Aside0 (w5.heap[gH]? = some (.cells #[.int .i64 (plainS x s).pc, vG', .bool s.over] 42 (0, 0))) ∧ Aside0 (Kd.R k69 69 w5 w0.heap.size (fun k => F k ∨ W.heap.size ≤ k) vG' (plainS x s).regs) ∧ Aside0 (Below w0.heap.size w0 w5) ∧ Aside0 (Kept W w5 F))
    case first =>
      have HF := Aside0.mk (show ∀ k, F k → F k ∨ W.heap.size ≤ k from fun _ hk => .inl hk)
      have HSW := Aside0.mk (show W.heap.size ≤ w4.heap.size from HK4.out.1)
      have HGB := Aside0.mk (show w0.heap.size ≤ gH by have := HGH.out; have := HS0.out; omega)
      have HGW := Aside0.mk (show W.heap.size ≤ gH by have := HGH.out; omega)
      rcases mKinds x.f0 with hk | hk | hk | hk | hk | hk
      · have HP := Aside0.mk (show plainS x s = { s with regs := putG s.regs x.f2 (valueL s.regs x), pc := wrap64 (s.pc + 1) } by unfold plainS; rw [if_pos (by rcases hk with h | ⟨_, h⟩ | ⟨_, _, h⟩ | ⟨_, _, _, h⟩ <;> simp at h <;> omega)])
        have z1 : w4.cell? ⟨gH, 1, none⟩ = some (.slice AG s.regs.length cG) := (blk_cell GH4.out 1).trans rfl
        have x1 : w4.cell? ⟨gX, 1, none⟩ = some (.int .i64 x.f1) := (blk_cell GX4.out 1).trans rfl
        have x2 : w4.cell? ⟨gX, 2, none⟩ = some (.int .i64 x.f2) := (blk_cell GX4.out 2).trans rfl
        have x3 : w4.cell? ⟨gX, 3, none⟩ = some (.int .i64 x.f3) := (blk_cell GX4.out 3).trans rfl
        have x4 : w4.cell? ⟨gX, 4, none⟩ = some (.int .i64 x.f4) := (blk_cell GX4.out 4).trans rfl
        have x5 : w4.cell? ⟨gX, 5, none⟩ = some (.int .i64 x.f5) := (blk_cell GX4.out 5).trans rfl
        have x6 : w4.cell? ⟨gX, 6, none⟩ = some (.int .i64 x.f6) := (blk_cell GX4.out 6).trans rfl
        have GXd := Aside0.mk (blk_drew GX4.out)
        have GHd := Aside0.mk (blk_drew GH4.out)
        have HOd := Aside0.mk (HO4.out.below (below_drew (Below.refl _ _)))
        have GTd := Aside0.mk (blk_drew GT4.out)
        have RGd := Aside0.mk (Kd.R_drew RG4.out)
        have HBd := Aside0.mk (below_drew HB4.out)
        have HKd := Aside0.mk (Kept.drew HK4.out)
        rcases hk with e0 | ⟨e0, e1⟩ | ⟨e0, e1, e2⟩ | ⟨e0, e1, e2, e3⟩
        all_goals
          go_upto_region 10 with fail
          refine start_ (n := 11) (S := (fun W' => W'.cell? ⟨gH, 1, none⟩ = some (.slice AG s.regs.length cG) ∧ W'.cell? ⟨gX, 0, none⟩ = some (.int .i64 x.f0) ∧ W'.cell? ⟨gX, 1, none⟩ = some (.int .i64 x.f1) ∧ W'.cell? ⟨gX, 2, none⟩ = some (.int .i64 x.f2) ∧ W'.cell? ⟨gX, 3, none⟩ = some (.int .i64 x.f3) ∧ W'.cell? ⟨gX, 4, none⟩ = some (.int .i64 x.f4) ∧ W'.cell? ⟨gX, 5, none⟩ = some (.int .i64 x.f5) ∧ W'.cell? ⟨gX, 6, none⟩ = some (.int .i64 x.f6))) (ds := [10]) #[false, false, false, false, false, false, false, false, false, false, false] (by kernel_rfl) rfl rfl (⟨z1, x0, x1, x2, x3, x4, x5, x6⟩) (fun hHeld => ?_)
          generalize w4.drew = w5 at GXd GHd HOd GTd RGd HBd HKd hHeld ⊢
          clear z1 x0 x1 x2 x3 x4 x5 x6
          refine pure_ (i := 0) (N := (some 43)) (v := ?_) (a' := ?_) #[true, false, false, false, false, false, false, false, false, false, false] rfl rfl (by kernel_rfl) (fun _ _ _ h => h) (Or.inl ⟨by rfl, ?_⟩) ?_ ?_
          rotate_left
          · intro w_
            go_simp
            with_reducible rfl
          rotate_left
          · simp only [Act.put, List.setIfInBounds_toArray, List.set_cons_zero, List.set_cons_succ, i64_w, i32_w]
            rfl
          refine take_ (i := 1) (N := (some 44)) (v := ?_) (a' := ?_) #[true, true, false, false, false, false, false, false, false, false, false] rfl rfl (by kernel_rfl) (fun _ _ _ h => h) (Or.inl ⟨by rfl, ?_⟩) hHeld ?_ ?_
          rotate_left
          · rintro w_ ⟨s0, s1, s2, s3, s4, s5, s6, s7⟩
            go_simp
            with_reducible rfl
          rotate_left
          · simp only [Act.put, List.setIfInBounds_toArray, List.set_cons_zero, List.set_cons_succ, i64_w, i32_w]
            rfl
          refine pure_ (i := 2) (N := (some 45)) (v := ?_) (a' := ?_) #[true, true, true, false, false, false, false, false, false, false, false] rfl rfl (by kernel_rfl) (fun _ _ _ h => h) (Or.inl ⟨by rfl, ?_⟩) ?_ ?_
          rotate_left
          · intro w_
            go_simp
            with_reducible rfl
          rotate_left
          · simp only [Act.put, List.setIfInBounds_toArray, List.set_cons_zero, List.set_cons_succ, i64_w, i32_w]
            rfl
          refine take_ (i := 3) (N := (some 46)) (v := ?_) (a' := ?_) #[true, true, true, true, false, false, false, false, false, false, false] rfl rfl (by kernel_rfl) (fun _ _ _ h => h) (Or.inl ⟨by rfl, ?_⟩) hHeld ?_ ?_
          rotate_left
          · rintro w_ ⟨s0, s1, s2, s3, s4, s5, s6, s7⟩
            go_simp
            with_reducible rfl
          rotate_left
          · simp only [Act.put, List.setIfInBounds_toArray, List.set_cons_zero, List.set_cons_succ, i64_w, i32_w]
            rfl
          refine pure_ (i := 4) (N := (some 47)) (v := ?_) (a' := ?_) #[true, true, true, true, true, false, false, false, false, false, false] rfl rfl (by kernel_rfl) (fun _ _ _ h => h) (Or.inl ⟨by rfl, ?_⟩) ?_ ?_
          rotate_left
          · intro w_
            go_simp
            with_reducible rfl
          rotate_left
          · simp only [Act.put, List.setIfInBounds_toArray, List.set_cons_zero, List.set_cons_succ, i64_w, i32_w]
            rfl
          refine take_ (i := 5) (N := (some 48)) (v := ?_) (a' := ?_) #[true, true, true, true, true, true, false, false, false, false, false] rfl rfl (by kernel_rfl) (fun _ _ _ h => h) (Or.inl ⟨by rfl, ?_⟩) hHeld ?_ ?_
          rotate_left
          · rintro w_ ⟨s0, s1, s2, s3, s4, s5, s6, s7⟩
            go_simp
            with_reducible rfl
          rotate_left
          · simp only [Act.put, List.setIfInBounds_toArray, List.set_cons_zero, List.set_cons_succ, i64_w, i32_w]
            rfl
          refine take_ (i := 6) (N := (some 49)) (v := ?_) (a' := ?_) #[true, true, true, true, true, true, true, false, false, false, false] rfl rfl (by kernel_rfl) (fun _ _ _ h => h) (Or.inl ⟨by rfl, ?_⟩) hHeld ?_ ?_
          rotate_left
          · rintro w_ ⟨s0, s1, s2, s3, s4, s5, s6, s7⟩
            go_simp
            with_reducible rfl
          rotate_left
          · simp only [Act.put, List.setIfInBounds_toArray, List.set_cons_zero, List.set_cons_succ, i64_w, i32_w]
            rfl
          refine one_ (i := 7) (N := (some 50)) #[true, true, true, true, true, true, true, true, false, false, false] rfl rfl (by kernel_rfl) (by decide) (fun K hK => ?_)
          refine goes_ Tryd.func43 (by kernel_rfl) rfl #[.slice AG s.regs.length cG, .agg #[.int .i64 x.f0, .int .i64 x.f1, .int .i64 x.f2, .int .i64 x.f3, .int .i64 x.f4, .int .i64 x.f5, .int .i64 x.f6]] (by rfl) rfl rfl (by (try simp only [List.map_toArray, List.map_cons, List.map_nil]); rfl) ?_
          refine (mvalue.calls s.regs x AG cG w5 (Kd.R_reads' RGd.out).2.2 (Kd.R_reads' RGd.out).2.1 (by have := HL.out; omega)).mono ?_
          rintro e w6 ⟨rfl, hb6⟩
          replace GXd := Aside0.mk (blk_below GXd.out hb6)
          replace GHd := Aside0.mk (blk_below GHd.out hb6)
          replace HOd := Aside0.mk (HOd.out.below hb6)
          replace GTd := Aside0.mk (blk_below GTd.out hb6)
          replace RGd := Aside0.mk (Kd.R_below RGd.out hb6)
          replace HBd := Aside0.mk (HBd.out.trans (hb6.mono HBd.out.size))
          replace HKd := Aside0.mk (HKd.out.below hb6)
          clear hb6
          have z1 : w6.cell? ⟨gH, 1, none⟩ = some (.slice AG s.regs.length cG) := (blk_cell GHd.out 1).trans rfl
          have x0 : w6.cell? ⟨gX, 0, none⟩ = some (.int .i64 x.f0) := (blk_cell GXd.out 0).trans rfl
          have x1 : w6.cell? ⟨gX, 1, none⟩ = some (.int .i64 x.f1) := (blk_cell GXd.out 1).trans rfl
          have x2 : w6.cell? ⟨gX, 2, none⟩ = some (.int .i64 x.f2) := (blk_cell GXd.out 2).trans rfl
          have x3 : w6.cell? ⟨gX, 3, none⟩ = some (.int .i64 x.f3) := (blk_cell GXd.out 3).trans rfl
          have x4 : w6.cell? ⟨gX, 4, none⟩ = some (.int .i64 x.f4) := (blk_cell GXd.out 4).trans rfl
          have x5 : w6.cell? ⟨gX, 5, none⟩ = some (.int .i64 x.f5) := (blk_cell GXd.out 5).trans rfl
          have x6 : w6.cell? ⟨gX, 6, none⟩ = some (.int .i64 x.f6) := (blk_cell GXd.out 6).trans rfl
          refine ⟨_, rfl, ?_⟩
          refine hK.out _ _ (⟨z1, x0, x1, x2, x3, x4, x5, x6⟩) (fun hHeld => ?_)
          clear hK K
          refine norm_ (a' := ?_) ?_ ?_
          rotate_left
          · show Act.put _ (some 50) _ = _
            simp only [Act.put, List.setIfInBounds_toArray, List.set_cons_zero, List.set_cons_succ, i64_w, i32_w]
            rfl
          clear z1 x0 x1 x2 x3 x4 x5 x6
          refine one_ (i := 8) (N := (some 51)) #[true, true, true, true, true, true, true, true, true, false, false] rfl rfl (by kernel_rfl) (by decide) (fun K hK => ?_)
          refine goes_ Tryd.func42 (by kernel_rfl) rfl #[.slice AG s.regs.length cG, .int .i64 x.f2, .int .i64 (valueL s.regs x)] (by rfl) rfl rfl (by (try simp only [List.map_toArray, List.map_cons, List.map_nil]); rfl) ?_
          refine (mput.calls w0 w6 F (.slice AG s.regs.length cG) s.regs x.f2 (valueL s.regs x) HBd.out RGd.out (by have := HL.out; omega)).mono ?_
          rintro e w7 ⟨vP, rfl, hR7, hB7, hK7, hS7⟩
          have hs6 : W.heap.size ≤ w6.heap.size := HKd.out.1
          replace GXd := Aside0.mk ((hS7 [53] (by decide)).blk GXd.out (by decide))
          replace GHd := Aside0.mk ((hS7 [42] (by decide)).blk GHd.out (by decide))
          replace HOd := Aside0.mk (HOd.out.stay (hS7 _ (by decide)))
          replace GTd := Aside0.mk ((hS7 [42] (by decide)).blk GTd.out (by decide))
          replace HKd := Aside0.mk (show Kept W w7 F from HKd.out.then_ hK7 (fun k hk => .inl hk))
          have RG7 := Aside0.mk (show Kd.R k69 69 w7 w0.heap.size (fun k => F k ∨ W.heap.size ≤ k) vP (putG s.regs x.f2 (valueL s.regs x)) from Kd.R_mono hR7 (fun k hk => hk.imp id (fun q => Nat.le_trans hs6 q)))
          replace HBd := Aside0.mk hB7
          clear hR7 hB7 hK7 hS7
          obtain ⟨AP, cP, rfl⟩ := Kd.R_slice RG7.out
          have z1 : w7.cell? ⟨gH, 1, none⟩ = some (.slice AG s.regs.length cG) := (blk_cell GHd.out 1).trans rfl
          have zf : w7.frozen? ⟨gH, 1, none⟩ = false := blk_frozen GHd.out 1
          have x0 : w7.cell? ⟨gX, 0, none⟩ = some (.int .i64 x.f0) := (blk_cell GXd.out 0).trans rfl
          have x1 : w7.cell? ⟨gX, 1, none⟩ = some (.int .i64 x.f1) := (blk_cell GXd.out 1).trans rfl
          have x2 : w7.cell? ⟨gX, 2, none⟩ = some (.int .i64 x.f2) := (blk_cell GXd.out 2).trans rfl
          have x3 : w7.cell? ⟨gX, 3, none⟩ = some (.int .i64 x.f3) := (blk_cell GXd.out 3).trans rfl
          have x4 : w7.cell? ⟨gX, 4, none⟩ = some (.int .i64 x.f4) := (blk_cell GXd.out 4).trans rfl
          have x5 : w7.cell? ⟨gX, 5, none⟩ = some (.int .i64 x.f5) := (blk_cell GXd.out 5).trans rfl
          have x6 : w7.cell? ⟨gX, 6, none⟩ = some (.int .i64 x.f6) := (blk_cell GXd.out 6).trans rfl
          refine ⟨_, rfl, ?_⟩
          refine hK.out _ _ (⟨z1, x0, x1, x2, x3, x4, x5, x6⟩) (fun hHeld => ?_)
          clear hK K
          refine norm_ (a' := ?_) ?_ ?_
          rotate_left
          · show Act.put _ (some 51) _ = _
            simp only [Act.put, List.setIfInBounds_toArray, List.set_cons_zero, List.set_cons_succ, i64_w, i32_w]
            rfl
          refine pure_ (i := 9) (N := (some 52)) (v := ?_) (a' := ?_) #[true, true, true, true, true, true, true, true, true, true, false] rfl rfl (by kernel_rfl) (fun _ _ _ h => h) (Or.inl ⟨by rfl, ?_⟩) ?_ ?_
          rotate_left
          · intro w_
            go_simp
            with_reducible rfl
          rotate_left
          · simp only [Act.put, List.setIfInBounds_toArray, List.set_cons_zero, List.set_cons_succ, i64_w, i32_w]
            rfl
          refine last_ (i := 10) (N := none) #[true, true, true, true, true, true, true, true, true, true, true] rfl rfl (by kernel_rfl) (by decide) (fun K hK => ?_)
          refine skip_ (w1 := ?_) (by rfl) rfl ?_ ?_
          rotate_left
          · go_simp
            rfl
          refine hK.out _ _ ?_
          clear hK K
          refine done_ (by kernel_rfl) ?_
          go_wp2_with fail
          go_meet
          case rel =>
            rw [HP.out]
            obtain ⟨m1, m2, m3, m4, m5, m6⟩ := mset (HOd.out.mono HF.out) GTd.out GHd.out RG7.out HBd.out HKd.out HNET.out HGB.out HGW.out 1 (.slice AP (putG s.regs x.f2 (valueL s.regs x)).length cP)
            exact ⟨_, ⟨m1⟩, ⟨m2⟩, ⟨m3⟩, ⟨m4⟩, ⟨m5⟩, ⟨m6⟩⟩
      · obtain ⟨e0, e1, e2, e3, e4⟩ := hk
        have y1 : w4.cell? ⟨b, 1, none⟩ = some (.slice AM s.mem.length cM) := (blk_cell HO4.out.hb 1).trans rfl
        have z1 : w4.cell? ⟨gH, 1, none⟩ = some (.slice AG s.regs.length cG) := (blk_cell GH4.out 1).trans rfl
        have x2 : w4.cell? ⟨gX, 2, none⟩ = some (.int .i64 x.f2) := (blk_cell GX4.out 2).trans rfl
        cases inn with
        | true =>
          have hq := HIN.out
          simp only [Bool.true_eq, Bool.and_eq_true, decide_eq_true_eq] at hq
          obtain ⟨q0, q1⟩ := hq
          have HP := Aside0.mk (show plainS x s = { s with regs := putG s.regs x.f2 (rd s.mem wd), pc := wrap64 (s.pc + 1) } by unfold plainS; rw [if_neg (by simp at e0 e1 e2 e3; omega), if_pos (by simpa using e4), ← HWD.out, if_pos ⟨q0, q1⟩])
          obtain ⟨am, ea, zm⟩ := Kd.at_int (Kd.R_reads' HO4.out.rM).2.2 wd q0 q1
          subst ea
          obtain ⟨mv, hmv⟩ : ∃ mv, mv = rd s.mem wd := ⟨_, rfl⟩
          rw [← hmv] at zm HP
          clear hmv
          go_wp2_with fail
          refine (mput.calls w0 w4 F (.slice AG s.regs.length cG) s.regs x.f2 (mv) HB4.out RG4.out (by have := HL.out; omega)).mono ?_
          rintro e w7 ⟨vP, rfl, hR7, hB7, hK7, hS7⟩
          have GH7 := Aside0.mk ((hS7 [42] (by decide)).blk GH4.out (by decide))
          have HO7 := Aside0.mk (HO4.out.stay (hS7 _ (by decide)))
          have GT7 := Aside0.mk ((hS7 [42] (by decide)).blk GT4.out (by decide))
          have HK7 := Aside0.mk (show Kept W w7 F from HK4.out.then_ hK7 (fun k hk => .inl hk))
          have RG7 := Aside0.mk (show Kd.R k69 69 w7 w0.heap.size (fun k => F k ∨ W.heap.size ≤ k) vP (putG s.regs x.f2 (mv)) from Kd.R_mono hR7 (fun k hk => hk.imp id (fun q => Nat.le_trans HK4.out.1 q)))
          have HB7 := Aside0.mk hB7
          clear hR7 hB7 hK7 hS7 HO4 GX4 GH4 GT4 RG4 HB4 HK4 x0 y1
          obtain ⟨AP, cP, rfl⟩ := Kd.R_slice RG7.out
          have z1 : w7.cell? ⟨gH, 1, none⟩ = some (.slice AG s.regs.length cG) := (blk_cell GH7.out 1).trans rfl
          have zf : w7.frozen? ⟨gH, 1, none⟩ = false := blk_frozen GH7.out 1
          go_wp2_with fail
          go_meet
          case rel =>
            rw [HP.out]
            obtain ⟨m1, m2, m3, m4, m5, m6⟩ := mset (HO7.out.mono HF.out) GT7.out GH7.out RG7.out HB7.out HK7.out HNET.out HGB.out HGW.out 1 (.slice AP (putG s.regs x.f2 (mv)).length cP)
            exact ⟨_, ⟨m1⟩, ⟨m2⟩, ⟨m3⟩, ⟨m4⟩, ⟨m5⟩, ⟨m6⟩⟩
        | false =>
          have hq := HIN.out
          simp only [Bool.false_eq, Bool.and_eq_false_iff, decide_eq_false_iff_not] at hq
          have HP := Aside0.mk (show plainS x s = { s with regs := putG s.regs x.f2 0, pc := wrap64 (s.pc + 1) } by unfold plainS; rw [if_neg (by simp at e0 e1 e2 e3; omega), if_pos (by simpa using e4), ← HWD.out, if_neg (by omega)])
          clear hq
          go_wp2_with fail
          refine (mput.calls w0 w4 F (.slice AG s.regs.length cG) s.regs x.f2 (0) HB4.out RG4.out (by have := HL.out; omega)).mono ?_
          rintro e w7 ⟨vP, rfl, hR7, hB7, hK7, hS7⟩
          have GH7 := Aside0.mk ((hS7 [42] (by decide)).blk GH4.out (by decide))
          have HO7 := Aside0.mk (HO4.out.stay (hS7 _ (by decide)))
          have GT7 := Aside0.mk ((hS7 [42] (by decide)).blk GT4.out (by decide))
          have HK7 := Aside0.mk (show Kept W w7 F from HK4.out.then_ hK7 (fun k hk => .inl hk))
          have RG7 := Aside0.mk (show Kd.R k69 69 w7 w0.heap.size (fun k => F k ∨ W.heap.size ≤ k) vP (putG s.regs x.f2 (0)) from Kd.R_mono hR7 (fun k hk => hk.imp id (fun q => Nat.le_trans HK4.out.1 q)))
          have HB7 := Aside0.mk hB7
          clear hR7 hB7 hK7 hS7 HO4 GX4 GH4 GT4 RG4 HB4 HK4 x0 y1
          obtain ⟨AP, cP, rfl⟩ := Kd.R_slice RG7.out
          have z1 : w7.cell? ⟨gH, 1, none⟩ = some (.slice AG s.regs.length cG) := (blk_cell GH7.out 1).trans rfl
          have zf : w7.frozen? ⟨gH, 1, none⟩ = false := blk_frozen GH7.out 1
          go_wp2_with fail
          go_meet
          case rel =>
            rw [HP.out]
            obtain ⟨m1, m2, m3, m4, m5, m6⟩ := mset (HO7.out.mono HF.out) GT7.out GH7.out RG7.out HB7.out HK7.out HNET.out HGB.out HGW.out 1 (.slice AP (putG s.regs x.f2 (0)).length cP)
            exact ⟨_, ⟨m1⟩, ⟨m2⟩, ⟨m3⟩, ⟨m4⟩, ⟨m5⟩, ⟨m6⟩⟩
      · obtain ⟨e0, e1, e2, e3, e4, e5⟩ := hk
        have y1 : w4.cell? ⟨b, 1, none⟩ = some (.slice AM s.mem.length cM) := (blk_cell HO4.out.hb 1).trans rfl
        have z1 : w4.cell? ⟨gH, 1, none⟩ = some (.slice AG s.regs.length cG) := (blk_cell GH4.out 1).trans rfl
        have x4 : w4.cell? ⟨gX, 4, none⟩ = some (.int .i64 x.f4) := (blk_cell GX4.out 4).trans rfl
        cases inn with
        | true =>
          have hq := HIN.out
          simp only [Bool.true_eq, Bool.and_eq_true, decide_eq_true_eq] at hq
          obtain ⟨q0, q1⟩ := hq
          have HP := Aside0.mk (show plainS x s = { s with mem := s.mem.set wd.toNat (getG s.regs x.f4), pc := wrap64 (s.pc + 1) } by unfold plainS; rw [if_neg (by simp at e0 e1 e2 e3; omega), if_neg (by simpa using e4), if_pos (by simpa using e5), ← HWD.out, if_pos ⟨q0, q1⟩])
          obtain ⟨gm, cm, em, gmb, -, -⟩ := Kd.R_form HO4.out.rM (by omega)
          cases em
          have HFM := Aside0.mk (HO4.out.rM.1 gm rfl)
          have HGM := Aside0.mk gmb
          have GHd := Aside0.mk (blk_drew GH4.out)
          have HOd := Aside0.mk (HO4.out.below (below_drew (Below.refl _ _)))
          have GTd := Aside0.mk (blk_drew GT4.out)
          have RGd := Aside0.mk (Kd.R_drew RG4.out)
          have HBd := Aside0.mk (below_drew HB4.out)
          have HKd := Aside0.mk (Kept.drew HK4.out)
          clear gmb
          go_upto_region 18 with fail
          refine start_ (n := 12) (S := (fun W' => W'.cell? ⟨b, 1, none⟩ = some (.slice (some ⟨gm, 0, none⟩) s.mem.length cM) ∧ W'.cell? ⟨gH, 1, none⟩ = some (.slice AG s.regs.length cG) ∧ W'.cell? ⟨gX, 4, none⟩ = some (.int .i64 x.f4))) (ds := [11]) #[false, false, false, false, false, false, false, false, false, false, false, false] (by kernel_rfl) rfl rfl (⟨y1, z1, x4⟩) (fun hHeld => ?_)
          have y1d := y1
          have x4d := x4
          have GXd := Aside0.mk (blk_drew GX4.out)
          clear y1d x4d
          generalize w4.drew = w5 at GHd HOd GTd RGd HBd HKd GXd hHeld ⊢
          clear y1 z1 x4 x0
          refine pure_ (i := 0) (N := (some 73)) (v := ?_) (a' := ?_) #[true, false, false, false, false, false, false, false, false, false, false, false] rfl rfl (by kernel_rfl) (fun _ _ _ h => h) (Or.inl ⟨by rfl, ?_⟩) ?_ ?_
          rotate_left
          · intro w_
            go_simp
            with_reducible rfl
          rotate_left
          · simp only [Act.put, List.setIfInBounds_toArray, List.set_cons_zero, List.set_cons_succ, i64_w, i32_w]
            rfl
          refine pure_ (i := 1) (N := (some 74)) (v := ?_) (a' := ?_) #[true, true, false, false, false, false, false, false, false, false, false, false] rfl rfl (by kernel_rfl) (fun _ _ _ h => h) (Or.inl ⟨by rfl, ?_⟩) ?_ ?_
          rotate_left
          · intro w_
            go_simp
            with_reducible rfl
          rotate_left
          · simp only [Act.put, List.setIfInBounds_toArray, List.set_cons_zero, List.set_cons_succ, i64_w, i32_w]
            rfl
          refine pure_ (i := 2) (N := (some 75)) (v := ?_) (a' := ?_) #[true, true, true, false, false, false, false, false, false, false, false, false] rfl rfl (by kernel_rfl) (fun _ _ _ h => h) (Or.inl ⟨by rfl, ?_⟩) ?_ ?_
          rotate_left
          · intro w_
            go_simp
            with_reducible rfl
          rotate_left
          · simp only [Act.put, List.setIfInBounds_toArray, List.set_cons_zero, List.set_cons_succ, i64_w, i32_w]
            rfl
          refine take_ (i := 3) (N := (some 76)) (v := ?_) (a' := ?_) #[true, true, true, true, false, false, false, false, false, false, false, false] rfl rfl (by kernel_rfl) (fun _ _ _ h => h) (Or.inl ⟨by rfl, ?_⟩) hHeld ?_ ?_
          rotate_left
          · rintro w_ ⟨s0, s1, s2⟩
            go_simp
            with_reducible rfl
          rotate_left
          · simp only [Act.put, List.setIfInBounds_toArray, List.set_cons_zero, List.set_cons_succ, i64_w, i32_w]
            rfl
          refine pure_ (i := 4) (N := (some 77)) (v := ?_) (a' := ?_) #[true, true, true, true, true, false, false, false, false, false, false, false] rfl rfl (by kernel_rfl) (fun _ _ _ h => h) (Or.inl ⟨by rfl, ?_⟩) ?_ ?_
          rotate_left
          · intro w_
            go_simp
            with_reducible rfl
          rotate_left
          · simp only [Act.put, List.setIfInBounds_toArray, List.set_cons_zero, List.set_cons_succ, i64_w, i32_w]
            rfl
          refine pure_ (i := 5) (N := (some 78)) (v := ?_) (a' := ?_) #[true, true, true, true, true, true, false, false, false, false, false, false] rfl rfl (by kernel_rfl) (fun _ _ _ h => h) (Or.inl ⟨by rfl, ?_⟩) ?_ ?_
          rotate_left
          · intro w_
            go_simp
            with_reducible rfl
          rotate_left
          · simp only [Act.put, List.setIfInBounds_toArray, List.set_cons_zero, List.set_cons_succ, i64_w, i32_w]
            rfl
          refine take_ (i := 6) (N := (some 79)) (v := ?_) (a' := ?_) #[true, true, true, true, true, true, true, false, false, false, false, false] rfl rfl (by kernel_rfl) (fun _ _ _ h => h) (Or.inl ⟨by rfl, ?_⟩) hHeld ?_ ?_
          rotate_left
          · rintro w_ ⟨s0, s1, s2⟩
            go_simp
            with_reducible rfl
          rotate_left
          · simp only [Act.put, List.setIfInBounds_toArray, List.set_cons_zero, List.set_cons_succ, i64_w, i32_w]
            rfl
          refine pure_ (i := 7) (N := (some 80)) (v := ?_) (a' := ?_) #[true, true, true, true, true, true, true, true, false, false, false, false] rfl rfl (by kernel_rfl) (fun _ _ _ h => h) (Or.inl ⟨by rfl, ?_⟩) ?_ ?_
          rotate_left
          · intro w_
            go_simp
            with_reducible rfl
          rotate_left
          · simp only [Act.put, List.setIfInBounds_toArray, List.set_cons_zero, List.set_cons_succ, i64_w, i32_w]
            rfl
          refine take_ (i := 8) (N := (some 81)) (v := ?_) (a' := ?_) #[true, true, true, true, true, true, true, true, true, false, false, false] rfl rfl (by kernel_rfl) (fun _ _ _ h => h) (Or.inl ⟨by rfl, ?_⟩) hHeld ?_ ?_
          rotate_left
          · rintro w_ ⟨s0, s1, s2⟩
            go_simp
            with_reducible rfl
          rotate_left
          · simp only [Act.put, List.setIfInBounds_toArray, List.set_cons_zero, List.set_cons_succ, i64_w, i32_w]
            rfl
          refine one_ (i := 9) (N := (some 82)) #[true, true, true, true, true, true, true, true, true, true, false, false] rfl rfl (by kernel_rfl) (by decide) (fun K hK => ?_)
          refine goes_ Tryd.func16 (by kernel_rfl) rfl #[.slice AG s.regs.length cG, .int .i64 x.f4] (by rfl) rfl rfl (by (try simp only [List.map_toArray, List.map_cons, List.map_nil]); rfl) ?_
          refine (mget.calls s.regs x.f4 AG cG w5 (Kd.R_reads' RGd.out).2.2 (Kd.R_reads' RGd.out).2.1 (by have := HL.out; omega)).mono ?_
          rintro e w6 ⟨rfl, hb6⟩
          replace GXd := Aside0.mk (blk_below GXd.out hb6)
          replace GHd := Aside0.mk (blk_below GHd.out hb6)
          replace HOd := Aside0.mk (HOd.out.below hb6)
          replace GTd := Aside0.mk (blk_below GTd.out hb6)
          replace RGd := Aside0.mk (Kd.R_below RGd.out hb6)
          replace HBd := Aside0.mk (HBd.out.trans (hb6.mono HBd.out.size))
          replace HKd := Aside0.mk (HKd.out.below hb6)
          clear hb6
          have y1 : w6.cell? ⟨b, 1, none⟩ = some (.slice (some ⟨gm, 0, none⟩) s.mem.length cM) := (blk_cell HOd.out.hb 1).trans rfl
          have z1 : w6.cell? ⟨gH, 1, none⟩ = some (.slice AG s.regs.length cG) := (blk_cell GHd.out 1).trans rfl
          have x4 : w6.cell? ⟨gX, 4, none⟩ = some (.int .i64 x.f4) := (blk_cell GXd.out 4).trans rfl
          obtain ⟨mc, mf⟩ := Kd.R_celln 0 HOd.out.rM wd q0 q1
          refine ⟨_, rfl, ?_⟩
          refine hK.out _ _ (⟨y1, z1, x4⟩) (fun hHeld => ?_)
          clear hK K
          refine norm_ (a' := ?_) ?_ ?_
          rotate_left
          · show Act.put _ (some 82) _ = _
            simp only [Act.put, List.setIfInBounds_toArray, List.set_cons_zero, List.set_cons_succ, i64_w, i32_w]
            rfl
          refine pure_ (i := 10) (N := (some 83)) (v := ?_) (a' := ?_) #[true, true, true, true, true, true, true, true, true, true, true, false] rfl rfl (by kernel_rfl) (fun _ _ _ h => h) (Or.inl ⟨by rfl, ?_⟩) ?_ ?_
          rotate_left
          · intro w_
            go_simp
            with_reducible rfl
          rotate_left
          · simp only [Act.put, List.setIfInBounds_toArray, List.set_cons_zero, List.set_cons_succ, i64_w, i32_w]
            rfl
          refine last_ (i := 11) (N := none) #[true, true, true, true, true, true, true, true, true, true, true, true] rfl rfl (by kernel_rfl) (by decide) (fun K hK => ?_)
          refine skip_ (w1 := ?_) (by rfl) rfl ?_ ?_
          rotate_left
          · go_simp
            rfl
          refine hK.out _ _ ?_
          clear hK K
          refine done_ (by kernel_rfl) ?_
          go_wp2_with fail
          go_meet
          case rel =>
            rw [HP.out]
            obtain ⟨cm, hcm⟩ := Kd.R_typed HOd.out.rM gm rfl
            have s1 : ∀ T : List Nat, 2 ∉ T → Stay T w6 (w6.setCell ⟨gm, wd.toNat, none⟩ (.int .i64 (getG s.regs x.f4))) := fun T hT => Stay.set hcm hT _ _
            have hO := HOd.out
            exact ⟨_, ⟨(⟨hO.fb, hO.lb, (s1 [46] (by decide)).blk hO.hb (by decide), (s1 [28] (by decide)).blk hO.hC (by decide), by exact Kd.R_putn hO.rM wd (getG s.regs x.f4), (s1 [88] (by decide)).row hO.rO (by decide)⟩ : MO _ _ F b gC gT A0 n0 c0 _ vO _ s.own).mono HF.out⟩, ⟨(s1 [42] (by decide)).blk GTd.out (by decide)⟩, ⟨(s1 [42] (by decide)).blk GHd.out (by decide)⟩, ⟨Kd.R_mono ((s1 [69] (by decide)).row RGd.out (by decide)) HF.out⟩, ⟨HBd.out.setCell (p := ⟨gm, wd.toNat, none⟩) HGM.out _⟩, ⟨HKd.out.setCell (p := ⟨gm, wd.toNat, none⟩) (.inl HFM.out) _⟩⟩
        | false =>
          have hq := HIN.out
          simp only [Bool.false_eq, Bool.and_eq_false_iff, decide_eq_false_iff_not] at hq
          have HP := Aside0.mk (show plainS x s = { s with pc := wrap64 (s.pc + 1) } by unfold plainS; rw [if_neg (by simp at e0 e1 e2 e3; omega), if_neg (by simpa using e4), if_pos (by simpa using e5), ← HWD.out, if_neg (by omega)])
          clear hq
          go_wp2_with fail
          go_meet
          case rel =>
            rw [HP.out]
            exact ⟨_, ⟨HO4.out.mono HF.out⟩, GT4, GH4, ⟨Kd.R_mono RG4.out HF.out⟩, HB4, HK4⟩
      · obtain ⟨e0, e1, e2, e3, e4, e5, e6⟩ := hk
        have HP := Aside0.mk (show plainS x s = { s with pc := x.f6 } by unfold plainS; rw [if_neg (by simp at e0 e1 e2 e3; omega), if_neg (by simpa using e4), if_neg (by simpa using e5), if_pos (by simpa using e6)])
        have h0 : w4.cell? ⟨gH, 0, none⟩ = some (.int .i64 (wrap64 (s.pc + 1))) := (blk_cell GH4.out 0).trans rfl
        have f0 : w4.frozen? ⟨gH, 0, none⟩ = false := blk_frozen GH4.out 0
        have x6 : w4.cell? ⟨gX, 6, none⟩ = some (.int .i64 x.f6) := (blk_cell GX4.out 6).trans rfl
        go_wp2_with fail
        go_meet
        case rel =>
          rw [HP.out]
          obtain ⟨m1, m2, m3, m4, m5, m6⟩ := mset (HO4.out.mono HF.out) GT4.out GH4.out (Kd.R_mono RG4.out HF.out) HB4.out HK4.out HNET.out HGB.out HGW.out 0 (.int .i64 x.f6)
          exact ⟨_, ⟨m1⟩, ⟨m2⟩, ⟨m3⟩, ⟨m4⟩, ⟨m5⟩, ⟨m6⟩⟩
      · obtain ⟨e0, e1, e2, e3, e4, e5, e6, e7⟩ := hk
        have z1 : w4.cell? ⟨gH, 1, none⟩ = some (.slice AG s.regs.length cG) := (blk_cell GH4.out 1).trans rfl
        have x3 : w4.cell? ⟨gX, 3, none⟩ = some (.int .i64 x.f3) := (blk_cell GX4.out 3).trans rfl
        go_wp2_with fail
        refine (mget.calls s.regs x.f3 AG cG w4 (Kd.R_reads' RG4.out).2.2 (Kd.R_reads' RG4.out).2.1 (by have := HL.out; omega)).mono ?_
        rintro e w5 ⟨rfl, hb5⟩
        replace GX4 := Aside0.mk (blk_below GX4.out hb5)
        replace GH4 := Aside0.mk (blk_below GH4.out hb5)
        replace HO4 := Aside0.mk (HO4.out.below hb5)
        replace GT4 := Aside0.mk (blk_below GT4.out hb5)
        replace RG4 := Aside0.mk (Kd.R_below RG4.out hb5)
        replace HB4 := Aside0.mk (HB4.out.trans (hb5.mono HB4.out.size))
        replace HK4 := Aside0.mk (HK4.out.below hb5)
        clear hb5 z1 x3 x0
        by_cases hz : getG s.regs x.f3 = 0
        · have hz1 : (getG s.regs x.f3 == 0) = true := beq_iff_eq.2 hz
          have HP := Aside0.mk (show plainS x s = { s with pc := x.f6 } by unfold plainS; rw [if_neg (by simp at e0 e1 e2 e3; omega), if_neg (by simpa using e4), if_neg (by simpa using e5), if_neg (by simpa using e6), if_pos ⟨by simpa using e7, hz⟩])
          have h0 : w5.cell? ⟨gH, 0, none⟩ = some (.int .i64 (wrap64 (s.pc + 1))) := (blk_cell GH4.out 0).trans rfl
          have f0 : w5.frozen? ⟨gH, 0, none⟩ = false := blk_frozen GH4.out 0
          have x6 : w5.cell? ⟨gX, 6, none⟩ = some (.int .i64 x.f6) := (blk_cell GX4.out 6).trans rfl
          clear hz
          go_wp2_with fail
          go_meet
          case rel =>
            rw [HP.out]
            obtain ⟨m1, m2, m3, m4, m5, m6⟩ := mset (HO4.out.mono HF.out) GT4.out GH4.out (Kd.R_mono RG4.out HF.out) HB4.out HK4.out HNET.out HGB.out HGW.out 0 (.int .i64 x.f6)
            exact ⟨_, ⟨m1⟩, ⟨m2⟩, ⟨m3⟩, ⟨m4⟩, ⟨m5⟩, ⟨m6⟩⟩
        · have hz1 : (getG s.regs x.f3 == 0) = false := beq_eq_false_iff_ne.2 hz
          have HP := Aside0.mk (show plainS x s = { s with pc := wrap64 (s.pc + 1) } by unfold plainS; rw [if_neg (by simp at e0 e1 e2 e3; omega), if_neg (by simpa using e4), if_neg (by simpa using e5), if_neg (by simpa using e6), if_neg (fun h => hz h.2)])
          clear hz
          go_wp2_with fail
          go_meet
          case rel =>
            rw [HP.out]
            exact ⟨_, ⟨HO4.out.mono HF.out⟩, GT4, GH4, ⟨Kd.R_mono RG4.out HF.out⟩, HB4, HK4⟩
      · obtain ⟨e0, e1, e2, e3, e4, e5, e6, e7⟩ := hk
        have HP := Aside0.mk (show plainS x s = { s with pc := wrap64 (s.pc + 1) } by unfold plainS; rw [if_neg (by simp at e0 e1 e2 e3; omega), if_neg (by simpa using e4), if_neg (by simpa using e5), if_neg (by simpa using e6), if_neg (by intro h; simp [h.1] at e7)])
        go_wp2_with fail
        go_meet
        case rel =>
          rw [HP.out]
          exact ⟨_, ⟨HO4.out.mono HF.out⟩, GT4, GH4, ⟨Kd.R_mono RG4.out HF.out⟩, HB4, HK4⟩
    case rest =>
      clear HO4 GX4 GH4 GT4 RG4 HB4 HK4 x0
      obtain ⟨vG', HO5, GT5, GH5, RG5, HB5, HK5⟩ := hcut
      obtain ⟨AG', cG', rfl⟩ := Kd.R_slice RG5.out
      obtain ⟨nG, hnG⟩ : ∃ n, n = (plainS x s).regs.length := ⟨_, rfl⟩
      rw [← hnG] at GH5 RG5
      clear hnG
      obtain ⟨st, hst⟩ : ∃ st, st = plainS x s := ⟨_, rfl⟩
      have hov : st.over = s.over := by rw [hst]; exact plainS_over x s
      have how : st.own = s.own := by rw [hst]; exact plainS_own x s
      rw [← hst] at HO5 GH5 RG5
      have HST := Aside0.mk hst
      have HOV := Aside0.mk hov
      have HOW := Aside0.mk how
      have HOd := Aside0.mk (HO5.out.below (below_drew (Below.refl _ _)))
      have GTd := Aside0.mk (blk_drew GT5.out)
      have GHd := Aside0.mk (blk_drew GH5.out)
      have RGd := Aside0.mk (Kd.R_drew RG5.out)
      have HBd := Aside0.mk (below_drew HB5.out)
      have HKd := Aside0.mk (Kept.drew HK5.out)
      have HLB := Aside0.mk HO5.out.lb
      have HFB := Aside0.mk HO5.out.fb
      have y3 : wc.cell? ⟨b, 3, none⟩ = some (.slice (some ⟨gT, 0, none⟩) 1 1) := (blk_cell HO5.out.hb 3).trans rfl
      have z0 : wc.cell? ⟨gH, 0, none⟩ = some (.int .i64 st.pc) := (blk_cell GH5.out 0).trans rfl
      have z1 : wc.cell? ⟨gH, 1, none⟩ = some (.slice AG' nG cG') := (blk_cell GH5.out 1).trans rfl
      have z2 : wc.cell? ⟨gH, 2, none⟩ = some (.bool s.over) := (blk_cell GH5.out 2).trans rfl
      clear HO5 GT5 GH5 RG5 HB5 HK5 hst hov how
      go_upto_region 24 with fail
      refine start_ (n := 8) (S := (fun W' => W'.cell? ⟨b, 3, none⟩ = some (.slice (some ⟨gT, 0, none⟩) 1 1) ∧ W'.cell? ⟨gH, 0, none⟩ = some (.int .i64 st.pc) ∧ W'.cell? ⟨gH, 1, none⟩ = some (.slice AG' nG cG') ∧ W'.cell? ⟨gH, 2, none⟩ = some (.bool s.over))) (ds := [7]) #[false, false, false, false, false, false, false, false] (by kernel_rfl) rfl rfl (⟨y3, z0, z1, z2⟩) (fun hHeld => ?_)
      generalize wc.drew = w6 at HOd GTd GHd RGd HBd HKd hHeld ⊢
      clear y3 z0 z1 z2
      have t0 : w6.cell? ⟨gT, 0, none⟩ = some (.int .i64 s.pc) := (blk_cell GTd.out 0).trans rfl
      have t1 : w6.cell? ⟨gT, 1, none⟩ = some (.slice AG s.regs.length cG) := (blk_cell GTd.out 1).trans rfl
      have t2 : w6.cell? ⟨gT, 2, none⟩ = some (.bool s.over) := (blk_cell GTd.out 2).trans rfl
      have u0 : w6.frozen? ⟨gT, 0, none⟩ = false := blk_frozen GTd.out 0
      have u1 : w6.frozen? ⟨gT, 1, none⟩ = false := blk_frozen GTd.out 1
      have u2 : w6.frozen? ⟨gT, 2, none⟩ = false := blk_frozen GTd.out 2
      refine pure_ (i := 0) (N := (some 100)) (v := ?_) (a' := ?_) #[true, false, false, false, false, false, false, false] rfl rfl (by kernel_rfl) (fun _ _ _ h => h) (Or.inl ⟨by rfl, ?_⟩) ?_ ?_
      rotate_left
      · intro w_
        go_simp
        with_reducible rfl
      rotate_left
      · simp only [Act.put, List.setIfInBounds_toArray, List.set_cons_zero, List.set_cons_succ, i64_w, i32_w]
        rfl
      refine pure_ (i := 1) (N := (some 101)) (v := ?_) (a' := ?_) #[true, true, false, false, false, false, false, false] rfl rfl (by kernel_rfl) (fun _ _ _ h => h) (Or.inl ⟨by rfl, ?_⟩) ?_ ?_
      rotate_left
      · intro w_
        go_simp
        with_reducible rfl
      rotate_left
      · simp only [Act.put, List.setIfInBounds_toArray, List.set_cons_zero, List.set_cons_succ, i64_w, i32_w]
        rfl
      refine pure_ (i := 2) (N := (some 102)) (v := ?_) (a' := ?_) #[true, true, true, false, false, false, false, false] rfl rfl (by kernel_rfl) (fun _ _ _ h => h) (Or.inl ⟨by rfl, ?_⟩) ?_ ?_
      rotate_left
      · intro w_
        go_simp
        with_reducible rfl
      rotate_left
      · simp only [Act.put, List.setIfInBounds_toArray, List.set_cons_zero, List.set_cons_succ, i64_w, i32_w]
        rfl
      refine take_ (i := 3) (N := (some 103)) (v := ?_) (a' := ?_) #[true, true, true, true, false, false, false, false] rfl rfl (by kernel_rfl) (fun _ _ _ h => h) (Or.inl ⟨by rfl, ?_⟩) hHeld ?_ ?_
      rotate_left
      · rintro w_ ⟨s0, s1, s2, s3⟩
        go_simp
        with_reducible rfl
      rotate_left
      · simp only [Act.put, List.setIfInBounds_toArray, List.set_cons_zero, List.set_cons_succ, i64_w, i32_w]
        rfl
      refine pure_ (i := 4) (N := (some 104)) (v := ?_) (a' := ?_) #[true, true, true, true, true, false, false, false] rfl rfl (by kernel_rfl) (fun _ _ _ h => h) (Or.inl ⟨by rfl, ?_⟩) ?_ ?_
      rotate_left
      · intro w_
        go_simp
        with_reducible rfl
      rotate_left
      · simp only [Act.put, List.setIfInBounds_toArray, List.set_cons_zero, List.set_cons_succ, i64_w, i32_w]
        rfl
      refine take_ (i := 5) (N := (some 105)) (v := ?_) (a' := ?_) #[true, true, true, true, true, true, false, false] rfl rfl (by kernel_rfl) (fun _ _ _ h => h) (Or.inl ⟨by rfl, ?_⟩) hHeld ?_ ?_
      rotate_left
      · rintro w_ ⟨s0, s1, s2, s3⟩
        go_simp
        with_reducible rfl
      rotate_left
      · simp only [Act.put, List.setIfInBounds_toArray, List.set_cons_zero, List.set_cons_succ, i64_w, i32_w]
        rfl
      refine pure_ (i := 6) (N := (some 106)) (v := ?_) (a' := ?_) #[true, true, true, true, true, true, true, false] rfl rfl (by kernel_rfl) (fun _ _ _ h => h) (Or.inl ⟨by rfl, ?_⟩) ?_ ?_
      rotate_left
      · intro w_
        go_simp
        with_reducible rfl
      rotate_left
      · simp only [Act.put, List.setIfInBounds_toArray, List.set_cons_zero, List.set_cons_succ, i64_w, i32_w]
        rfl
      refine last_ (i := 7) (N := none) #[true, true, true, true, true, true, true, true] rfl rfl (by kernel_rfl) (by decide) (fun K hK => ?_)
      refine skip_ (w1 := ?_) (by rfl) rfl ?_ ?_
      rotate_left
      · go_simp
        rfl
      refine hK.out _ _ ?_
      clear hK K
      refine done_ (by kernel_rfl) ?_
      go_wp2_with fail
      refine bodyPost_end (results_none rfl _ _ _) rfl ?_
      have s1 := Stay.set (T := [46, 28, 2, 88, 69]) GTd.out (by decide) 0 (.int .i64 st.pc)
      have g1 := blk_set GTd.out 0 (.int .i64 st.pc)
      have s2 := s1.trans (Stay.set g1 (by decide) 1 (.slice AG' nG cG'))
      have g2 := blk_set g1 1 (.slice AG' nG cG')
      have s3 := s2.trans (Stay.set g2 (by decide) 2 (.bool s.over))
      have g3 := blk_set g2 2 (.bool s.over)
      have s4 : Stay [46, 28, 2, 88] w6 _ := ⟨s3.1, fun k hk ⟨q, hq, hc⟩ => s3.2 k hk ⟨q, by simp at hq ⊢; omega, hc⟩⟩
      refine ⟨rfl, .slice AG' nG cG', ?_, ?_, ?_, ?_⟩
      · rw [← HST.out, HOW.out]; exact HOd.out.stay s4
      · rw [← HST.out, HOV.out]; exact ⟨g3, s3.row RGd.out (by decide)⟩
      · exact ((HBd.out.setCell (p := ⟨gT, 0, none⟩) HLB.out.2.2 _).setCell (p := ⟨gT, 1, none⟩) HLB.out.2.2 _).setCell (p := ⟨gT, 2, none⟩) HLB.out.2.2 _
      · exact ((HKd.out.setCell (p := ⟨gT, 0, none⟩) (HFT.out) _).setCell (p := ⟨gT, 1, none⟩) (HFT.out) _).setCell (p := ⟨gT, 2, none⟩) (HFT.out) _
end Go.Proofs.YtfhjkkcdeigkdaaDoor.PFoldRuns
