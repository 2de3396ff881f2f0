-- HAND paling/spill.Code rounds=1 making=1 needs=paling/spill.Word;paling/spill.find;paling/ins.Def
import Derived.Test.YtpbhfpbfmpocdaaDoorPSpillNonex0
import Derived.Test.YtpbhfpbfmpocdaaDoorPSpillNonehtabs
import Derived.Test.YtpbhfpbfmpocdaaDoorPSpillNonehspillput2
import Derived.Test.YtpbhfpbfmpocdaaDoorPSpillNonehspillread
import Derived.Deep.DeepCutAuto
namespace Go.Proofs.YtpbhfpbfmpocdaaDoor.PSpillNone
open Go.RowKit Go.Proofs.YtpbhfpbfmpocdaaDoorW.PrintWords Go.Proofs.YtpbhfpbfmpocdaaDoorW.PrintLast Go.Proofs.YtpbhfpbfmpocdaaDoorW.PrintMore
set_option linter.unusedVariables false
set_option linter.unusedSimpArgs false

def spill_loop (k : Nat) (l0 : List S45) (l1 : List Int) (p s : Int) : List S48 → List Int → List S48 → Option (List Int × List S48)
  | [], ats, out => some (ats, out)
  | x :: xs, ats, out => if ats.length < 17592186044416 then (spill_put.f k l0 l1 p s out x).bind fun o => spill_loop k l0 l1 p s xs (ats ++ [(out.length : Int)]) o else none
def fixOK (ats : List Int) (x : S48) : Bool := !(x.f0 == 6 || x.f0 == 7) || (decide (0 ≤ x.f6) && decide (x.f6 < ats.length))
def fixTo (ats : List Int) (x : S48) : S48 := if x.f0 = 6 ∨ x.f0 = 7 then ⟨x.f0, x.f1, x.f2, x.f3, x.f4, x.f5, rd ats x.f6⟩ else x
def spill_Code.f (k : Nat) (l0 : List S48) (l1 : List S45) (l2 : List Int) (a3_0 a3_1 : Int) : Option (List S48) :=
  (spill_loop k l1 l2 a3_0 a3_1 l0 [] []).bind fun r => if r.2.all (fixOK r.1) = true then some (r.2.map (fixTo r.1)) else none
theorem spill_loop.mono (k : Nat) (l0 : List S45) (l1 : List Int) (p s : Int) : ∀ xs ats out, LeO (spill_loop k l0 l1 p s xs ats out) (spill_loop (k + 1) l0 l1 p s xs ats out)
  | [], _, _ => LeO.refl _
  | x :: xs, ats, out => by
    unfold spill_loop
    exact LeO.ite (LeO.bind (spill_put.mono _ _ _ _ _ _ _) (fun o => spill_loop.mono k l0 l1 p s xs _ _)) (LeO.refl _)
theorem spill_Code.mono : ∀ a0 a1 a2 a3 a4 k, LeO (spill_Code.f k a0 a1 a2 a3 a4) (spill_Code.f (k + 1) a0 a1 a2 a3 a4) := fun a0 a1 a2 a3 a4 k => by
  unfold spill_Code.f
  exact LeO.bind (spill_loop.mono _ _ _ _ _ _ _ _) (fun r => LeO.refl _)
theorem intInfo : (Tryd.prog.info? 3).map (fun i => (i.zero, i.size, i.bytes)) = some (some (.int .i64 0), 1, 8) := by kernel_rfl
theorem drop_cons1 {α : Type} (l : List α) (z : α) (i : Int) (h0 : 0 ≤ i) (h : i < l.length) : l.drop i.toNat = l.getD i.toNat z :: l.drop (i + 1).toNat := by
  rw [show (i + 1).toNat = i.toNat + 1 by omega, List.drop_eq_getElem_cons (by omega)]
  congr 1
  rw [List.getD_eq_getElem?_getD, List.getElem?_eq_getElem (by omega)]; rfl
theorem take_succ1 {α : Type} (l : List α) (z : α) (i : Int) (h0 : 0 ≤ i) (h : i < l.length) : l.take (i + 1).toNat = l.take i.toNat ++ [l.getD i.toNat z] := by
  rw [show (i + 1).toNat = i.toNat + 1 by omega, List.take_add_one, List.getElem?_eq_getElem (by omega)]
  congr 1
  rw [List.getD_eq_getElem?_getD, List.getElem?_eq_getElem (by omega)]; rfl
theorem set_mid {α : Type} : ∀ (A : List α) (x y : α) (B : List α) (n : Nat), A.length = n → (A ++ x :: B).set n y = A ++ y :: B
  | [], x, y, B, n, h => by subst h; rfl
  | a :: A, x, y, B, n, h => by
    subst h
    show a :: ((A ++ x :: B).set A.length y) = _
    rw [set_mid A x y B _ rfl]; rfl
theorem R_keepBut {α β : Type} {d : Kd α} {d' : Kd β} {e e' base base' g t : Nat} {W w' : World} {v ov : Value} {xs : List α} {ys : List β} {cells : Array Value} (h : d.R e W base (fun _ => True) v xs) (hb : W.heap[g]? = some (.cells cells t (0, 0))) (ht : ∀ q, q ∈ e :: d.E → q ≠ t)
    (ho : d'.R e' W base' (fun _ => True) ov ys) (ht' : ∀ q, q ∈ e :: d.E → q ≠ e') (hk : KeepBut W w' g ov.ownBlock) : d.R e w' base (fun _ => True) v xs := by
  have h1 := Kd.R_types h hb ht
  have h2 : d.R e W base (fun k => k ≠ g ∧ some k ≠ ov.ownBlock) v xs := by
    cases hov : ov.ownBlock with
    | none => exact Kd.R_mono h1 (fun k hk => ⟨hk.2, by simp⟩)
    | some b =>
      obtain ⟨cs, hcs⟩ := Kd.R_typed ho b hov
      exact Kd.R_mono (Kd.R_types h1 hcs ht') (fun k hk => ⟨hk.1.2, fun e => hk.2 (Option.some.inj e)⟩)
  exact Kd.R_mono (Kd.R_step h2 (fun k ho hlt => hk.2 k hlt ho.1 ho.2)) (fun _ _ => trivial)
set_option maxRecDepth 100000 in
set_option maxHeartbeats 8000000 in
theorem spill_Code.calls (k : Nat) (A0 : Option Addr) (c0 : Nat) (l0 : List S48) (A1 : Option Addr) (c1 : Nat) (l1 : List S45) (A2 : Option Addr) (c2 : Nat) (l2 : List Int) (a3_0 a3_1 : Int) (r : List S48) (w : World)
    (hr0 : Kd.C k48 w A0 l0.length l0) (hc0 : l0.length ≤ c0) (hr1 : Kd.C k45 w A1 l1.length l1) (hc1 : l1.length ≤ c1) (hr2 : Kd.C (Kd.int .i64) w A2 l2.length l2) (hc2 : l2.length ≤ c2) (h : spill_Code.f k l0 l1 l2 a3_0 a3_1 = some r) (hgl : GlobOK w) :
    Calls Tryd.prog 15 #[.slice A0 l0.length c0, .slice A1 l1.length c1, .slice A2 l2.length c2, .agg #[.int .i64 a3_0, .int .i64 a3_1]] w fun e w' => ∃ v0_ : Value, e = .returned (v0_) ∧ Kd.R k48 48 w' w.heap.size (fun _ => True) v0_ r ∧ Below w.heap.size w w' := by
  have hmax := Kd.C_max hr0
  have HR0 := Aside0.mk hr0
  have HR1 := Aside0.mk hr1
  have HR2 := Aside0.mk hr2
  have HC0 := Aside0.mk hc0
  have HC1 := Aside0.mk hc1
  have HC2 := Aside0.mk hc2
  have HGL := Aside0.mk hgl
  clear hr0 hr1 hr2 hc0 hc1 hc2 hgl
  unfold spill_Code.f at h
  obtain ⟨⟨atsF, outF⟩, h1, h2⟩ := Option.bind_eq_some_iff.1 h
  have H1 := Aside0.mk h1
  have H2 := Aside0.mk h2
  clear h h1 h2
  go_enter Tryd.func15, Tryd.ntmps15
  go_wp2_with fail
  go_loopg [10, 12, 22] l0.length (fun gg s10 _ s22 wr => ∃ (i : Int) (ats : List Int) (out : List S48) (ov : Value), 0 ≤ i ∧ i ≤ l0.length ∧ l0.length - i ≤ gg ∧ s22 = .int .i64 i ∧ Aside0 (WrAt wr (w.heap.size + 1) A1 l1.length c1 A2 l2.length c2 a3_0 a3_1 ov) ∧ Aside0 (Kd.R k48 48 wr (w.heap.size + 1 + 1) (fun _ => True) ov out) ∧ Aside0 (Kd.R (Kd.int .i64) 3 wr w.heap.size (fun _ => True) s10 ats) ∧ Aside0 (Below w.heap.size w wr) ∧ Aside0 (spill_loop k l1 l2 a3_0 a3_1 (l0.drop i.toNat) ats out = some (atsF, outF)))
  case atStart =>
    refine ⟨0, [], [], .slice none 0 0, by omega, by omega, by omega, rfl, ⟨?_⟩, ⟨Kd.R_nil _ _ _ _ _⟩, ⟨Kd.R_nil _ _ _ _ _⟩, ⟨((Below.refl _ _).alloc (Nat.le_refl _) _).alloc (by simp) _⟩, ⟨by simpa using H1.out⟩⟩
    have := blk_new (w.alloc (.cells #[.int .i64 a3_0, .int .i64 a3_1] 31)) (.cells #[.slice A1 l1.length c1, .slice A2 l2.length c2, .int .i64 a3_0, .int .i64 a3_1, .slice none 0 0] 65)
    unfold WrAt
    rw [show w.heap.size + 1 = (w.alloc (.cells #[.int .i64 a3_0, .int .i64 a3_1] 31)).heap.size by simp]
    exact this
  case round =>
    clear H1
    obtain ⟨i, ats, out, ov, hi0, hi1, hgg, rfl, HW, HO, HA, HB, HL⟩ := hrel
    by_cases hlt : i < l0.length
    · have hd := drop_cons1 l0 z48 i hi0 hlt
      have hl := HL.out
      rw [hd] at hl
      simp only [spill_loop] at hl
      have hlen : ats.length < 17592186044416 := by
        by_cases hq : ats.length < 17592186044416
        · exact hq
        · rw [if_neg hq] at hl; cases hl
      rw [if_pos hlen] at hl
      obtain ⟨o, hput, hl2⟩ := Option.bind_eq_some_iff.1 hl
      have hrd : l0.getD i.toNat z48 = rd_T48 l0 i := rfl
      rw [hrd] at hput
      have HPUT := Aside0.mk hput
      have HL2 := Aside0.mk hl2
      have HLEN := Aside0.mk hlen
      clear hd hl hput hl2 hlen HL hrd
      obtain ⟨ad, e1, q0, q1, q2, q3, q4, q5, q6⟩ := at_T48 (Kd.C_below HR0.out HB.out) i hi0 hlt
      cases e1
      obtain ⟨x, hx⟩ : ∃ x, x = rd_T48 l0 i := ⟨_, rfl⟩
      rw [← hx] at q0 q1 q2 q3 q4 q5 q6 HPUT
      clear hx
      obtain ⟨x0, x1, x2, x3, x4, x5, x6⟩ := x
      obtain ⟨Ao, co, rfl⟩ := Kd.R_slice HO.out
      obtain ⟨Aa, ca, rfl⟩ := Kd.R_slice HA.out
      have y4 : wr.cell? ⟨w.heap.size + 1, 4, none⟩ = some (.slice Ao out.length co) := (blk_cell HW.out 4).trans rfl
      have hsz := blk_lt HW.out
      have hnew := World.new_ne _ _ y4
      have hng : some (w.heap.size + 1) ≠ (Value.slice Aa ats.length ca).ownBlock := Kd.R_ne HA.out HW.out (by decide)
      have hmaxo := Kd.C_max (Kd.R_reads' HO.out).2.2
      simp only [] at q0 q1 q2 q3 q4 q5 q6
      go_wp2_with (first | ((with_reducible refine gate_builtin (b := .append) (xs := #[.tmp 26, .tmp 32]) rfl ?_); at_builtin; refine Kd.R_append (Kd.int .i64) (w0 := w) w.heap.size rfl (.tmp 26) (.tmp 32) 23 3 (.int .i64 0) 8 rfl Tryd.underlying23 intInfo rfl (by decide) (by omega) (.slice Aa ats.length ca) ats (out.length : Int) [.int .i64 (out.length : Int)] (fun _ => True) (fun _ => False) rfl (by simp [Act.eval]) (by exact rfl) (fun _ hk => hk.elim) (fun _ _ => trivial) (Kd.R_alloc HA.out _) (below_alloc HB.out _) (by have := HB.out.size; simp; omega) (by have := HLEN.out; omega) ?_; intro v1 w1 hO1 hB1 hG1 hA1; have hbx0 := blk_new wr (.cells #[.int .i64 x0, .int .i64 x1, .int .i64 x2, .int .i64 x3, .int .i64 x4, .int .i64 x5, .int .i64 x6] 48); have hbx := blk_grown hbx0 hG1 (Kd.R_ne (Kd.R_alloc HA.out _) hbx0 (by decide)); have b0 : w1.cell? ⟨wr.heap.size, 0, none⟩ = some (.int .i64 x0) := (blk_cell hbx 0).trans rfl; have b1 : w1.cell? ⟨wr.heap.size, 1, none⟩ = some (.int .i64 x1) := (blk_cell hbx 1).trans rfl; have b2 : w1.cell? ⟨wr.heap.size, 2, none⟩ = some (.int .i64 x2) := (blk_cell hbx 2).trans rfl; have b3 : w1.cell? ⟨wr.heap.size, 3, none⟩ = some (.int .i64 x3) := (blk_cell hbx 3).trans rfl; have b4 : w1.cell? ⟨wr.heap.size, 4, none⟩ = some (.int .i64 x4) := (blk_cell hbx 4).trans rfl; have b5 : w1.cell? ⟨wr.heap.size, 5, none⟩ = some (.int .i64 x5) := (blk_cell hbx 5).trans rfl; have b6 : w1.cell? ⟨wr.heap.size, 6, none⟩ = some (.int .i64 x6) := (blk_cell hbx 6).trans rfl))
      have hW1 : WrAt w1 (w.heap.size + 1) A1 l1.length c1 A2 l2.length c2 a3_0 a3_1 (.slice Ao out.length co) := blk_grown (blk_alloc HW.out _) hG1 hng
      have hO2 := Kd.R_over (Kd.R_alloc HO.out _) (Kd.R_alloc HA.out _) (by decide) hG1
      refine (spill_put.calls k (w.heap.size + 1) A1 c1 l1 A2 c2 l2 a3_0 a3_1 _ out o ⟨x0, x1, x2, x3, x4, x5, x6⟩ w _ HR1.out HC1.out HR2.out HC2.out HGL.out hB1 (Nat.le_succ _) hW1 hO2 HPUT.out).mono ?_
      rintro e w2 hp
      cases hp.1 _ rfl
      obtain ⟨_, ov3, z1, z2, z3, z4, z5⟩ := hp
      have HA2 := Aside0.mk (R_keepBut hO1 hW1 (by decide) hO2 (by decide) z4)
      have HB2 := Aside0.mk (hB1.trans (z3.mono (Nat.le_succ _)))
      have HW2 := Aside0.mk (show WrAt w2 (w.heap.size + 1) A1 l1.length c1 A2 l2.length c2 a3_0 a3_1 ov3 from z1)
      have HO2 := Aside0.mk z2
      clear z1 z2 z3 z4 z5 hO1 hB1 hG1 hA1 hbx hbx0 b0 b1 b2 b3 b4 b5 b6 hW1 hO2 HW HO HA HB q0 q1 q2 q3 q4 q5 q6 y4 hng hmaxo hnew
      have hw1 : wrap64 (i + 1) = i + 1 := by unfold wrap64; omega
      go_wp2_with fail
      go_roundg (gk - 1)
      case measure => omega
      case rel => exact ⟨i + 1, _, o, ov3, by omega, by omega, by omega, by first | rfl | rw [hw1], HW2, HO2, HA2, HB2, HL2⟩
    · have hl := HL.out
      rw [List.drop_eq_nil_of_le (by omega)] at hl
      simp only [spill_loop, Option.some.injEq, Prod.mk.injEq] at hl
      obtain ⟨rfl, rfl⟩ := hl
      obtain ⟨Ao, co, rfl⟩ := Kd.R_slice HO.out
      obtain ⟨Aa, na, ca, rfl⟩ := R_slice3 HA.out
      have h2 := H2.out
      have hall : out.all (fixOK ats) = true := by
        by_cases hq : out.all (fixOK ats) = true
        · exact hq
        · rw [if_neg hq] at h2; cases h2
      rw [if_pos hall] at h2
      replace h2 := Option.some.inj h2
      have HALL := Aside0.mk hall
      have HRR := Aside0.mk h2
      have y4 : wr.cell? ⟨w.heap.size + 1, 4, none⟩ = some (.slice Ao out.length co) := (blk_cell HW.out 4).trans rfl
      clear hall h2 H2 HL
      obtain ⟨outF, houtF⟩ : ∃ o, o = out := ⟨_, rfl⟩
      obtain ⟨atsF, hatsF⟩ : ∃ o, o = ats := ⟨_, rfl⟩
      rw [← houtF, ← hatsF] at HALL HRR
      rw [← houtF] at y4 HO HW
      rw [← hatsF] at HA
      clear houtF hatsF
      obtain ⟨wo, hwo⟩ : ∃ wo, wo = wr := ⟨_, rfl⟩
      subst hwo
      have hmaxo := Kd.C_max (Kd.R_reads' HO.out).2.2
      go_wp2_with fail
      go_loopg [13, 14, 43] outF.length (fun gg _ _ s43 wr => ∃ (j : Int) (o2 : List S48), 0 ≤ j ∧ j ≤ outF.length ∧ outF.length - j ≤ gg ∧ s43 = .int .i64 j ∧ Aside0 (o2 = (outF.take j.toNat).map (fixTo atsF) ++ outF.drop j.toNat) ∧ Aside0 (WrAt wr (w.heap.size + 1) A1 l1.length c1 A2 l2.length c2 a3_0 a3_1 (.slice Ao outF.length co)) ∧ Aside0 (Kd.R k48 48 wr (w.heap.size + 1 + 1) (fun _ => True) (.slice Ao outF.length co) o2) ∧ Aside0 (Kd.R (Kd.int .i64) 3 wr w.heap.size (fun _ => True) (.slice Aa na ca) atsF) ∧ Aside0 (Below w.heap.size w wr))
      case atStart => exact ⟨0, outF, by omega, by omega, by omega, rfl, ⟨by simp⟩, HW, HO, HA, HB⟩
      case round =>
        clear y4 HW HO HA HB
        obtain ⟨j, o2, hj0, hj1, hjg, rfl, HQ, HW, HO, HA, HB⟩ := hrel
        have hlen : o2.length = outF.length := by rw [HQ.out]; simp; omega
        by_cases hlt2 : j < outF.length
        · have hd := drop_cons1 outF z48 j hj0 hlt2
          have hxj : rd_T48 o2 j = rd_T48 outF j := by
            show o2.getD j.toNat _ = outF.getD j.toNat _
            have hml : ((outF.take j.toNat).map (fixTo atsF)).length = j.toNat := by simp; omega
            rw [HQ.out, List.getD_eq_getElem?_getD, List.getD_eq_getElem?_getD, List.getElem?_append_right (by omega), hml, Nat.sub_self, List.getElem?_drop, Nat.add_zero]
          obtain ⟨go, cap, hv, hgo, hglt, cells, hcells⟩ := Kd.R_form HO.out (by omega)
          simp only [Value.slice.injEq] at hv
          obtain ⟨rfl, hvl, rfl⟩ := hv
          clear hvl
          obtain ⟨ce, hcl, hM, hcc, hfr⟩ := Kd.R_elem HO.out z48 j hj0 hlt2
          obtain rfl := k48_openM hM
          have e0 : o2.getD j.toNat z48 = rd_T48 outF j := hxj
          rw [e0] at hcl hM hcc
          have hin : fixOK atsF (rd_T48 outF j) = true := List.all_eq_true.1 HALL.out _ (by
            show outF.getD j.toNat _ ∈ outF
            rw [List.getD_eq_getElem?_getD, List.getElem?_eq_getElem (by omega)]
            exact List.getElem_mem _)
          have HD := Aside0.mk hd
          have hrd : outF.getD j.toNat z48 = rd_T48 outF j := rfl
          rw [hrd] at hd
          obtain ⟨x, hx⟩ : ∃ x, x = rd_T48 outF j := ⟨_, rfl⟩
          rw [← hx] at hcl hM hcc hin hd
          have HD := Aside0.mk hd
          have HX := Aside0.mk hx
          clear hx hd hrd e0 hxj
          obtain ⟨x0, x1, x2, x3, x4, x5, x6⟩ := x
          have q0 : wr.cell? ⟨go, j.toNat * 7, none⟩ = some (.int .i64 x0) := hcc 0 _ rfl
          have q1 : wr.cell? ⟨go, j.toNat * 7 + 1, none⟩ = some (.int .i64 x1) := hcc 1 _ rfl
          have q2 : wr.cell? ⟨go, j.toNat * 7 + 2, none⟩ = some (.int .i64 x2) := hcc 2 _ rfl
          have q3 : wr.cell? ⟨go, j.toNat * 7 + 3, none⟩ = some (.int .i64 x3) := hcc 3 _ rfl
          have q4 : wr.cell? ⟨go, j.toNat * 7 + 4, none⟩ = some (.int .i64 x4) := hcc 4 _ rfl
          have q5 : wr.cell? ⟨go, j.toNat * 7 + 5, none⟩ = some (.int .i64 x5) := hcc 5 _ rfl
          have q6 : wr.cell? ⟨go, j.toNat * 7 + 6, none⟩ = some (.int .i64 x6) := hcc 6 _ rfl
          have f6 : wr.frozen? ⟨go, j.toNat * 7 + 6, none⟩ = false := hfr 6
          have HCC := Aside0.mk hcc
          have HCL := Aside0.mk hcl
          clear hcc hfr hM hcl hcells
          have hw1 : wrap64 (j + 1) = j + 1 := by unfold wrap64; omega
          have HW1 := Aside0.mk hw1
          clear hw1
          have hsz := blk_lt HW.out
          have y4 : wr.cell? ⟨w.heap.size + 1, 4, none⟩ = some (.slice (some ⟨go, 0, none⟩) outF.length co) := (blk_cell HW.out 4).trans rfl
          have hng : some (w.heap.size + 1) ≠ (Value.slice (some ⟨go, 0, none⟩) outF.length co).ownBlock := by show some (w.heap.size + 1) ≠ some go; intro e; have := Option.some.inj e; omega
          by_cases hk6 : x0 = 6 ∨ x0 = 7
          · have hb : 0 ≤ x6 ∧ x6 < atsF.length := by rcases hk6 with rfl | rfl <;> simpa [fixOK] using hin
            obtain ⟨ada, e2, za⟩ := Kd.at_int (Kd.R_reads' HA.out).2.2 x6 hb.1 hb.2
            cases e2
            have hna : na = atsF.length := (Kd.R_reads' HA.out).1
            subst hna
            obtain ⟨hb0, hb1⟩ := hb
            have hfx : fixTo atsF ⟨x0, x1, x2, x3, x4, x5, x6⟩ = ⟨x0, x1, x2, x3, x4, x5, rd atsF x6⟩ := by unfold fixTo; rw [if_pos hk6]
            have hqn : o2.set j.toNat ⟨x0, x1, x2, x3, x4, x5, rd atsF x6⟩ = (outF.take (j + 1).toNat).map (fixTo atsF) ++ outF.drop (j + 1).toNat := by
              rw [← hfx, HQ.out, HD.out, take_succ1 outF z48 j hj0 hlt2, show outF.getD j.toNat z48 = ⟨x0, x1, x2, x3, x4, x5, x6⟩ from HX.out.symm]
              rw [List.map_append, List.map_singleton, List.append_assoc]
              exact set_mid _ _ _ _ _ (by simp; omega)
            have HQN := Aside0.mk hqn
            clear hqn hfx hin HD HX hlen
            have n6 : (wr.heap.size) ≠ go := by omega
            have g4 : wr.frozen? ⟨go, j.toNat * 7 + 6, none⟩ = false := f6
            have hnew0 := World.new_ne _ _ y4
            have hnewA := World.new_ne _ _ za
            have hnewQ := World.new_ne _ _ q6
            rcases hk6 with rfl | rfl
            all_goals
              go_wp2_with fail
              refine start_ (n := 13) (S := (fun W => W.cell? ⟨w.heap.size + 1, 4, none⟩ = some (.slice (some ⟨go, 0, none⟩) outF.length co) ∧ W.cell? ⟨wr.heap.size, 6, none⟩ = some (.int .i64 x6) ∧ W.cell? (ada.add x6.toNat) = some (.int .i64 (rd atsF x6)))) (ds := [12]) #[false, false, false, false, false, false, false, false, false, false, false, false, false] (by kernel_rfl) rfl rfl (⟨cell_alloc1 y4, ((blk_cell (blk_new wr _) 6).trans rfl), cell_alloc1 za⟩) (fun hHeld => ?_)
              refine pure_ (i := 0) (N := (some 56)) (v := ?_) (a' := ?_) #[true, false, false, false, false, false, false, false, false, false, false, false, false] rfl rfl (by kernel_rfl) (fun _ _ _ h => h) (Or.inl ⟨by rfl, ?_⟩) ?_ ?_
              rotate_left
              · intro w_
                go_simp
                with_reducible rfl
              rotate_left
              · simp only [Act.put, List.setIfInBounds_toArray, List.set_cons_zero, List.set_cons_succ, i64_w, i32_w]
                rfl
              refine pure_ (i := 1) (N := (some 57)) (v := ?_) (a' := ?_) #[true, true, false, false, false, false, false, false, false, false, false, false, false] rfl rfl (by kernel_rfl) (fun _ _ _ h => h) (Or.inl ⟨by rfl, ?_⟩) ?_ ?_
              rotate_left
              · intro w_
                go_simp
                with_reducible rfl
              rotate_left
              · simp only [Act.put, List.setIfInBounds_toArray, List.set_cons_zero, List.set_cons_succ, i64_w, i32_w]
                rfl
              refine pure_ (i := 2) (N := (some 58)) (v := ?_) (a' := ?_) #[true, true, true, false, false, false, false, false, false, false, false, false, false] rfl rfl (by kernel_rfl) (fun _ _ _ h => h) (Or.inl ⟨by rfl, ?_⟩) ?_ ?_
              rotate_left
              · intro w_
                go_simp
                with_reducible rfl
              rotate_left
              · simp only [Act.put, List.setIfInBounds_toArray, List.set_cons_zero, List.set_cons_succ, i64_w, i32_w]
                rfl
              refine take_ (i := 3) (N := (some 59)) (v := ?_) (a' := ?_) #[true, true, true, true, false, false, false, false, false, false, false, false, false] rfl rfl (by kernel_rfl) (fun _ _ _ h => h) (Or.inl ⟨by rfl, ?_⟩) hHeld ?_ ?_
              rotate_left
              · rintro w_ ⟨s0, s1, s2⟩
                go_simp
                with_reducible rfl
              rotate_left
              · simp only [Act.put, List.setIfInBounds_toArray, List.set_cons_zero, List.set_cons_succ, i64_w, i32_w]
                rfl
              refine pure_ (i := 4) (N := (some 60)) (v := ?_) (a' := ?_) #[true, true, true, true, true, false, false, false, false, false, false, false, false] rfl rfl (by kernel_rfl) (fun _ _ _ h => h) (Or.inl ⟨by rfl, ?_⟩) ?_ ?_
              rotate_left
              · intro w_
                go_simp
                with_reducible rfl
              rotate_left
              · simp only [Act.put, List.setIfInBounds_toArray, List.set_cons_zero, List.set_cons_succ, i64_w, i32_w]
                rfl
              refine pure_ (i := 5) (N := (some 61)) (v := ?_) (a' := ?_) #[true, true, true, true, true, true, false, false, false, false, false, false, false] rfl rfl (by kernel_rfl) (fun _ _ _ h => h) (Or.inl ⟨by rfl, ?_⟩) ?_ ?_
              rotate_left
              · intro w_
                go_simp
                with_reducible rfl
              rotate_left
              · simp only [Act.put, List.setIfInBounds_toArray, List.set_cons_zero, List.set_cons_succ, i64_w, i32_w]
                rfl
              refine pure_ (i := 6) (N := (some 62)) (v := ?_) (a' := ?_) #[true, true, true, true, true, true, true, false, false, false, false, false, false] rfl rfl (by kernel_rfl) (fun _ _ _ h => h) (Or.inl ⟨by rfl, ?_⟩) ?_ ?_
              rotate_left
              · intro w_
                go_simp
                with_reducible rfl
              rotate_left
              · simp only [Act.put, List.setIfInBounds_toArray, List.set_cons_zero, List.set_cons_succ, i64_w, i32_w]
                rfl
              refine take_ (i := 7) (N := (some 63)) (v := ?_) (a' := ?_) #[true, true, true, true, true, true, true, true, false, false, false, false, false] rfl rfl (by kernel_rfl) (fun _ _ _ h => h) (Or.inl ⟨by rfl, ?_⟩) hHeld ?_ ?_
              rotate_left
              · rintro w_ ⟨s0, s1, s2⟩
                go_simp
                with_reducible rfl
              rotate_left
              · simp only [Act.put, List.setIfInBounds_toArray, List.set_cons_zero, List.set_cons_succ, i64_w, i32_w]
                rfl
              refine pure_ (i := 8) (N := (some 64)) (v := ?_) (a' := ?_) #[true, true, true, true, true, true, true, true, true, false, false, false, false] rfl rfl (by kernel_rfl) (fun _ _ _ h => h) (Or.inl ⟨by rfl, ?_⟩) ?_ ?_
              rotate_left
              · intro w_
                go_simp
                with_reducible rfl
              rotate_left
              · simp only [Act.put, List.setIfInBounds_toArray, List.set_cons_zero, List.set_cons_succ, i64_w, i32_w]
                rfl
              refine take_ (i := 9) (N := (some 65)) (v := ?_) (a' := ?_) #[true, true, true, true, true, true, true, true, true, true, false, false, false] rfl rfl (by kernel_rfl) (fun _ _ _ h => h) (Or.inl ⟨by rfl, ?_⟩) hHeld ?_ ?_
              rotate_left
              · rintro w_ ⟨s0, s1, s2⟩
                go_simp
                with_reducible rfl
              rotate_left
              · simp only [Act.put, List.setIfInBounds_toArray, List.set_cons_zero, List.set_cons_succ, i64_w, i32_w]
                rfl
              refine pure_ (i := 10) (N := (some 66)) (v := ?_) (a' := ?_) #[true, true, true, true, true, true, true, true, true, true, true, false, false] rfl rfl (by kernel_rfl) (fun _ _ _ h => h) (Or.inl ⟨by rfl, ?_⟩) ?_ ?_
              rotate_left
              · intro w_
                go_simp
                with_reducible rfl
              rotate_left
              · simp only [Act.put, List.setIfInBounds_toArray, List.set_cons_zero, List.set_cons_succ, i64_w, i32_w]
                rfl
              refine pure_ (i := 11) (N := (some 67)) (v := ?_) (a' := ?_) #[true, true, true, true, true, true, true, true, true, true, true, true, false] rfl rfl (by kernel_rfl) (fun _ _ _ h => h) (Or.inl ⟨by rfl, ?_⟩) ?_ ?_
              rotate_left
              · intro w_
                go_simp
                with_reducible rfl
              rotate_left
              · simp only [Act.put, List.setIfInBounds_toArray, List.set_cons_zero, List.set_cons_succ, i64_w, i32_w]
                rfl
              refine last_ (i := 12) (N := none) #[true, true, true, true, true, true, true, true, true, true, true, true, true] rfl rfl (by kernel_rfl) (by decide) (fun K hK => ?_)
              refine skip_ (w1 := ?_) (by rfl) rfl ?_ ?_
              rotate_left
              · go_simp
                rfl
              refine hK.out _ _ ?_
              clear hK K
              refine done_ (by kernel_rfl) ?_
              have hS2 := Kd.R_seg HO.out j hj0 hlt2 (seg := [.int .i64 (rd atsF x6)]) (j := 6) HCL.out HCC.out (show 7 ≤ 7 from by decide) (x' := (⟨_, x1, x2, x3, x4, x5, rd atsF x6⟩ : S48)) (k48_mkM _ (w.heap.size + 1 + 1) (fun _ => False) (⟨_, x1, x2, x3, x4, x5, rd atsF x6⟩ : S48)) (fun _ hk => hk.elim)
              go_wp2_with fail
              go_roundg (gk - 1)
              case measure => omega
              case rel => exact ⟨j + 1, _, by omega, by omega, by omega, by first | rfl | rw [HW1.out], HQN, ⟨blk_drew (blk_alloc (blk_grown HW.out hS2.2 hng) _)⟩, ⟨Kd.R_drew (Kd.R_alloc hS2.1 _)⟩, ⟨Kd.R_drew (Kd.R_alloc (Kd.R_over HA.out HO.out (by decide) hS2.2) _)⟩, ⟨below_drew ((HB.out.setCell (p := ⟨go, j.toNat * 7 + 6, none⟩) (by show w.heap.size ≤ go; omega) _).alloc (by simp [World.setCell]; exact HB.out.size) _)⟩⟩
          · have hfx : fixTo atsF ⟨x0, x1, x2, x3, x4, x5, x6⟩ = ⟨x0, x1, x2, x3, x4, x5, x6⟩ := by unfold fixTo; rw [if_neg hk6]
            have hqn : o2 = (outF.take (j + 1).toNat).map (fixTo atsF) ++ outF.drop (j + 1).toNat := by
              rw [HQ.out, HD.out, take_succ1 outF z48 j hj0 hlt2, show outF.getD j.toNat z48 = ⟨x0, x1, x2, x3, x4, x5, x6⟩ from HX.out.symm, List.map_append, List.map_singleton, List.append_assoc, hfx]
              rfl
            have HQN := Aside0.mk hqn
            clear hqn hfx hin HD HX hlen HQ
            have g6 : ¬ x0 = 6 := fun h => hk6 (.inl h)
            have g7 : ¬ x0 = 7 := fun h => hk6 (.inr h)
            have g6b : (x0 == 6) = false := beq_eq_false_iff_ne.mpr g6
            have g7b : (x0 == 7) = false := beq_eq_false_iff_ne.mpr g7
            clear hk6 hng y4
            go_wp2_with fail
            go_roundg (gk - 1)
            case measure => omega
            case rel => exact ⟨j + 1, _, by omega, by omega, by omega, by first | rfl | rw [HW1.out], HQN, ⟨blk_alloc HW.out _⟩, ⟨Kd.R_alloc HO.out _⟩, ⟨Kd.R_alloc HA.out _⟩, ⟨HB.out.alloc HB.out.size _⟩⟩
        · have y4 : wr.cell? ⟨w.heap.size + 1, 4, none⟩ = some (.slice Ao outF.length co) := (blk_cell HW.out 4).trans rfl
          have ho : o2 = r := by
            rw [HQ.out, List.drop_eq_nil_of_le (by omega), List.take_of_length_le (by omega), List.append_nil]
            exact HRR.out
          clear hlen HQ HRR
          have HO2 := Aside0.mk (ho ▸ HO.out)
          clear ho HO
          go_wp2_with fail
          go_ret
          exact ⟨_, rfl, Kd.R_lower HO2.out (by omega), HB.out⟩
end Go.Proofs.YtpbhfpbfmpocdaaDoor.PSpillNone
