import Derived.Test.YtdopacgaklaaeaaDoorPDeadRunsx0
import Derived.Test.YtdopacgaklaaeaaDoorPDeadRunsx6
import Derived.Test.YtdopacgaklaaeaaDoorPDeadRunsx7
import Derived.Test.YtdopacgaklaaeaaDoorPDeadRunsx8
import Derived.Test.YtdopacgaklaaeaaDoorPDeadRunshdneed
import Derived.Test.YtdopacgaklaaeaaDoorPDeadRunshdruns4
import Derived.Test.YtdopacgaklaaeaaDoorPDeadRunshforms
import Derived.Test.YtdopacgaklaaeaaDoorPDeadRunshg1
import Derived.Test.YtdopacgaklaaeaaDoorPDeadRunshg0
import Derived.Test.YtdopacgaklaaeaaDoorPDeadRunshplain0
import Derived.Test.YtdopacgaklaaeaaDoorPDeadRunshdruns4
namespace Go.Proofs.YtdopacgaklaaeaaDoor.PDeadRuns
open Go.RowKit Go.Proofs.YtdopacgaklaaeaaDoorW.PrintWords Go.Proofs.YtdopacgaklaaeaaDoorW.PrintLast Go.Proofs.YtdopacgaklaaeaaDoorW.PrintMore
set_option linter.unusedVariables false
set_option linter.unusedSimpArgs false
/-! The law DeadRuns, walked. -/
attribute [local go_sem high] eqEvent
theorem insHeap : Kd.Heap k28 := Kd.heap_iso _ (Kd.heap_pair (Kd.heap_int .i64) (Kd.heap_pair (Kd.heap_int .i64) (Kd.heap_pair (Kd.heap_int .i64) (Kd.heap_pair (Kd.heap_int .i64) (Kd.heap_pair (Kd.heap_int .i64) (Kd.heap_pair (Kd.heap_int .i64) (Kd.heap_int .i64)))))))
theorem not_true_get {l : List Bool} (h : l.contains true = false) (i : Nat) : l.getD i false = false := by
  by_cases hi : i < l.length
  · rw [List.getD_eq_getElem?_getD, List.getElem?_eq_getElem hi, Option.getD_some]
    cases hx : l[i] with
    | false => rfl
    | true =>
      have : true ∈ l := hx ▸ List.getElem_mem hi
      simp [this] at h
  · rw [List.getD_eq_getElem?_getD, List.getElem?_eq_none (by omega)]; rfl
set_option maxHeartbeats 8000000 in
set_option maxRecDepth 100000 in
theorem palinglaw18_DeadRuns.calls (k : Nat) (A0 : Option Addr) (c0 : Nat) (l0 : List S28) (A1 : Option Addr) (c1 : Nat) (l1 : List Int) (a2 : Int) (r : Bool) (w : World) (hr0 : Kd.C k28 w A0 l0.length l0) (hc0 : l0.length ≤ c0) (hr1 : Kd.C (Kd.int .i64) w A1 l1.length l1) (hc1 : l1.length ≤ c1) (h : palinglaw18_DeadRuns.f k l0 l1 a2 = some r) (hgl : GlobOK w) :
    Calls Tryd.prog 4 #[.slice A0 l0.length c0, .slice A1 l1.length c1, .int .u8 a2] w fun e w' => e = .returned (.bool r) ∧ Below w.heap.size w w' := by
  unfold palinglaw18_DeadRuns.f at h
  obtain ⟨up, h1, h⟩ := Option.bind_eq_some_iff.1 h
  cases up with
  | false => simp at h
  | true =>
  rw [if_pos rfl] at h
  have HR0 := Aside0.mk hr0
  have HC0 := Aside0.mk hc0
  have HR1 := Aside0.mk hr1
  have HC1 := Aside0.mk hc1
  have HGL := Aside0.mk hgl
  have A4 := Aside0.mk h1
  clear hr0 hc0 hr1 hc1 hgl h1
  by_cases hs : l0.length ≤ 60 ∧ l1.length ≤ 60
  case neg =>
    rw [if_neg hs] at h
    obtain rfl := Option.some.inj h
    clear h
    go_enter Tryd.func4, Tryd.ntmps4
    go_wp2_with fail
    refine (palinglaw18_awake.calls k true w A4.out HGL.out).mono ?_
    rintro e w1 ⟨rfl, hb1⟩
    have HB1 := Aside0.mk hb1
    clear hb1
    by_cases h60 : l0.length ≤ 60
    · have g0 : decide (60 < (l0.length : Int)) = false := decide_eq_false (by omega)
      have g1 : decide (60 < (l1.length : Int)) = true := decide_eq_true (by omega)
      clear hs h60
      go_wp2_with fail
      go_ret
      exact ⟨rfl, HB1.out⟩
    · have g0 : decide (60 < (l0.length : Int)) = true := decide_eq_true (by omega)
      clear hs h60
      go_wp2_with fail
      go_ret
      exact ⟨rfl, HB1.out⟩
  rw [if_pos hs] at h
  obtain ⟨ok, h1, h⟩ := Option.bind_eq_some_iff.1 h
  have A5 := Aside0.mk h1
  have HS := Aside0.mk hs
  have g0 : decide (60 < (l0.length : Int)) = false := decide_eq_false (by omega)
  have g1 : decide (60 < (l1.length : Int)) = false := decide_eq_false (by omega)
  clear h1 hs
  cases ok with
  | false =>
    rw [if_neg (by simp)] at h
    obtain rfl := Option.some.inj h
    clear h
    go_enter Tryd.func4, Tryd.ntmps4
    go_wp2_with fail
    refine (palinglaw18_awake.calls k true w A4.out HGL.out).mono ?_
    rintro e w1 ⟨rfl, hb1⟩
    have HB1 := Aside0.mk hb1
    clear hb1
    go_wp2_with fail
    refine (palingref11_Check.calls k A0 c0 l0 30 9 false w1 (Kd.C_below HR0.out HB1.out) HC0.out A5.out).mono ?_
    rintro e w2 ⟨rfl, hb2⟩
    have HB2 := Aside0.mk (HB1.out.trans (hb2.mono HB1.out.size))
    clear hb2
    go_wp2_with fail
    go_ret
    exact ⟨rfl, HB2.out⟩
  | true =>
  rw [if_pos rfl] at h
  obtain ⟨d, h1, h⟩ := Option.bind_eq_some_iff.1 h
  by_cases hdl : d.length ≤ l0.length
  case neg => rw [if_neg hdl] at h; cases h
  rw [if_pos hdl] at h
  obtain ⟨ok2, h2, h⟩ := Option.bind_eq_some_iff.1 h
  cases ok2 with
  | false => rw [if_neg (by simp)] at h; cases h
  | true =>
  rw [if_pos rfl] at h
  obtain ⟨nd, h3, h⟩ := Option.bind_eq_some_iff.1 h
  by_cases hsb : nd.contains true = false ∧ runsL l0 d (Int.tmod a2 20).toNat ⟨l1, [], [], 0, false⟩ ⟨l1, [], [], 0, false⟩ = true
  case neg => rw [if_neg hsb] at h; cases h
  rw [if_pos hsb] at h
  obtain rfl := Option.some.inj h
  obtain ⟨hnd, hbk⟩ := hsb
  have A6 := Aside0.mk h1
  have A7 := Aside0.mk h2
  have A8 := Aside0.mk h3
  have A9 := Aside0.mk hbk
  have HND := Aside0.mk hnd
  have HDL := Aside0.mk hdl
  have HT1 := Int.tmod_lt_of_pos a2 (show (0 : Int) < 20 by omega)
  have HT0 := Int.lt_tmod_of_pos a2 (show (0 : Int) < 20 by omega)
  obtain ⟨Tm, hTm⟩ : ∃ Tm, Tm = Int.tmod a2 20 := ⟨_, rfl⟩
  rw [← hTm] at HT0 HT1 A9
  have HTM := Aside0.mk hTm.symm
  have HTB := Aside0.mk (And.intro HT0 HT1)
  have HTW := Aside0.mk (show wrap64 Tm = Tm from wrap_in (by omega) (by omega))
  clear h h1 h2 h3 hbk hdl hnd hTm HT0 HT1
  go_enter Tryd.func4, Tryd.ntmps4
  go_wp2_with fail
  refine (palinglaw18_awake.calls k true w A4.out HGL.out).mono ?_
  rintro e w1 ⟨rfl, hb1⟩
  have HB1 := Aside0.mk hb1
  clear hb1
  go_wp2_with fail
  refine (palingref11_Check.calls k A0 c0 l0 30 9 true w1 (Kd.C_below HR0.out HB1.out) HC0.out A5.out).mono ?_
  rintro e w2 ⟨rfl, hb2⟩
  have HB2 := Aside0.mk (HB1.out.trans (hb2.mono HB1.out.size))
  clear hb2 HB1
  go_wp2_with fail
  refine (dead_Code.calls k (fun k_ => k_ < w.heap.size) A0 c0 l0 d w2 (Kd.V_mk HC0.out (Kd.F_below (Kd.C_F insHeap HR0.out) HB2.out)) A6.out (HGL.out.step HB2.out)).mono ?_
  rintro e w3 ⟨v11, rfl, ho11, hb11⟩
  obtain ⟨Ad11, c11, hv11⟩ := Kd.R_slice ho11
  subst hv11
  have HC11 := Aside0.mk (Kd.R_reads' ho11).2
  have HB3 := Aside0.mk (HB2.out.trans (hb11.mono HB2.out.size))
  clear ho11 hb11 HB2
  have g2 : decide ((l0.length : Int) < (d.length : Int)) = false := decide_eq_false (by have := HDL.out; omega)
  have g3 : decide (l0.length < d.length) = false := decide_eq_false (by have := HDL.out; omega)
  go_wp2_with fail
  refine (palingref11_Check.calls k Ad11 c11 d 30 9 true w3 HC11.out.2 HC11.out.1 A7.out).mono ?_
  rintro e w4 ⟨rfl, hb4⟩
  have HC4 := Aside0.mk (Kd.C_below HC11.out.2 hb4)
  have HB4 := Aside0.mk (HB3.out.trans (hb4.mono HB3.out.size))
  clear hb4 HB3 g2 g3
  go_wp2_with fail
  refine (dead_Needless.calls k Ad11 c11 d nd w4 HC4.out HC11.out.1 A8.out (HGL.out.step HB4.out)).mono ?_
  rintro e w5 ⟨vn, rfl, hon, hb5⟩
  obtain ⟨An, cn, hvn⟩ := Kd.R_slice hon
  subst hvn
  have HCN := Aside0.mk (Kd.R_reads' hon).2.2
  have HC5 := Aside0.mk (Kd.C_below HC4.out hb5)
  have HB5 := Aside0.mk (HB4.out.trans (hb5.mono HB4.out.size))
  have HNL := Aside0.mk (show nd.length ≤ 9223372036854775807 from (Kd.R_reads' hon).2.2.2.1)
  clear hon hb5 HC4 HB4
  go_wp2_with fail
  go_loopg [10] nd.length (fun gg v10 wr => ∃ q : Nat, v10 = .int .i64 (q : Int) ∧ q ≤ nd.length ∧ nd.length - q ≤ gg ∧ Aside0 (Below w5.heap.size w5 wr))
  case atStart => exact ⟨0, rfl, by omega, by omega, ⟨Below.refl _ _⟩⟩
  case round =>
    obtain ⟨q, rfl, hq1, hqg, HBq⟩ := hrel
    by_cases hlt : q < nd.length
    · have hd : decide ((q : Int) < (nd.length : Int)) = true := decide_eq_true (by omega)
      have hdn : decide (q < nd.length) = true := decide_eq_true hlt
      have d0 : decide ((0 : Int) ≤ (q : Int)) = true := decide_eq_true (by omega)
      have d1i : (q : Int) < (nd.length : Int) := by omega
      have d1n : q < nd.length := hlt
      have hwq : wrap64 ((q : Int) + 1) = ((q + 1 : Nat) : Int) := by have := HNL.out; unfold wrap64; omega
      have HWQ := Aside0.mk hwq
      have HQ := Aside0.mk (And.intro hlt hqg)
      obtain ⟨an, en, zn⟩ := Kd.at_bool (Kd.C_below HCN.out HBq.out) (q : Int) (by omega) (by omega)
      cases en
      have hv : rdOf false nd (q : Int) = false := not_true_get HND.out _
      rw [hv, Int.toNat_natCast] at zn
      clear hv hwq hlt hqg hq1
      go_wp2_with fail
      go_roundg (gk - 1)
      case measure => have := HQ.out; omega
      case rel => exact ⟨q + 1, by first | rfl | rw [HWQ.out], HQ.out.1, by have := HQ.out; omega, by first | exact HBq | exact ⟨pw_below_drewN HBq.out _⟩⟩
    · have hd : decide ((q : Int) < (nd.length : Int)) = false := decide_eq_false (by omega)
      have hdn : decide (q < nd.length) = false := decide_eq_false hlt
      replace HC5 := Aside0.mk (Kd.C_below HC5.out HBq.out)
      replace HB5 := Aside0.mk (HB5.out.trans (HBq.out.mono HB5.out.size))
      clear HCN HBq HND HNL hq1 hqg hlt
      generalize wr = w5 at *
      go_wp2_with fail
      have gc1 := blk_new w5 (.cells #[.slice A0 l0.length c0] 32)
      have hbA : Below w5.heap.size w5 (w5.alloc (.cells #[.slice A0 l0.length c0] 32)) := (Below.refl _ _).alloc (Nat.le_refl _) _
      refine (ms_new w5 _ w5.heap.size A0 l0.length c0 A1 c1 l1 gc1 (Nat.le_refl _) (Kd.C_below HR1.out (HB5.out.trans (hbA.mono HB5.out.size))) HC1.out hbA (by have := HS.out; omega)).mono ?_
      rintro e w6 ⟨ba, gTa, vMa, Fa, rfl, HMa, HFa, HBa⟩
      have HB6 := Aside0.mk (hbA.trans (HBa.out.mono hbA.size))
      clear gc1 hbA HBa
      obtain ⟨gCa, hgCa⟩ : ∃ q, q = w5.heap.size := ⟨_, rfl⟩
      rw [← hgCa] at HMa HFa
      clear hgCa
      go_wp2_with fail
      have gc2 := blk_new w6 (.cells #[.slice Ad11 d.length c11] 32)
      have hbB : Below w6.heap.size w6 (w6.alloc (.cells #[.slice Ad11 d.length c11] 32)) := (Below.refl _ _).alloc (Nat.le_refl _) _
      have hbB5 := HB6.out.trans (hbB.mono HB6.out.size)
      have hsB : w6.heap.size ≤ (w6.alloc (.cells #[.slice Ad11 d.length c11] 32)).heap.size := hbB.size
      refine (ms_new w5 _ w6.heap.size Ad11 d.length c11 A1 c1 l1 gc2 HB6.out.size (Kd.C_below HR1.out (HB5.out.trans (hbB5.mono HB5.out.size))) HC1.out hbB5 (by have := HS.out; omega)).mono ?_
      rintro e w7 ⟨bb, gTb, vMb, Fb, rfl, HMb, HFb, HBb⟩
      have HB7 := Aside0.mk (hbB5.trans (HBb.out.mono hbB5.size))
      have HMa7 := Aside0.mk (HMa.out.below (hbB.trans (HBb.out.mono hbB.size)))
      have HDJ := Aside0.mk (show ∀ k, Fa k → ¬ Fb k from fun k hk hb => by
        obtain ⟨_, _, _, _, h3⟩ := HMa.out
        have h1 := h3 k hk
        rcases HFb.out k hb with h2 | h2 <;> omega)
      clear gc2 hbB hbB5 hsB HBb HMa HFa HFb HB6
      obtain ⟨gCb, hgCb⟩ : ∃ q, q = w6.heap.size := ⟨_, rfl⟩
      rw [← hgCb] at HMb
      clear hgCb
      go_wp2_with fail
      go_loopg [13, 14, 15, 16, 17, 18] Tm.toNat (fun gg v13 _ _ _ _ _ wr => ∃ (i : Nat) (s t : MSt) (Fa Fb : Nat → Prop), v13 = .int .i64 (i : Int) ∧ i ≤ Tm.toNat ∧ Tm.toNat - i ≤ gg ∧ Aside0 (runsL l0 d (Tm.toNat - i) s t = true) ∧ Aside0 (s.regs.length ≤ 200 * i ∧ s.own.length ≤ i ∧ s.mem.length = l1.length ∧ t.regs.length ≤ 200 * i ∧ t.own.length ≤ i ∧ t.mem.length = l1.length) ∧ Aside0 (MS wr w5 Fa ba gCa gTa A0 l0.length c0 vMa s) ∧ Aside0 (MS wr w5 Fb bb gCb gTb Ad11 d.length c11 vMb t) ∧ Aside0 (∀ k, Fa k → ¬ Fb k) ∧ Aside0 (Below w5.heap.size w5 wr))
      case atStart => exact ⟨0, _, _, Fa, Fb, rfl, by omega, by omega, A9, ⟨by simp⟩, HMa7, HMb, HDJ, HB7⟩
      case round =>
        clear A9 HMa7 HMb HDJ HB7
        obtain ⟨i, s, t, Fa, Fb, rfl, hi1, hig, HBK, HLN, HMa, HMb, HDJ, HBr⟩ := hrel
        by_cases hlt : i < Tm.toNat
        · have hd : decide ((i : Int) < Tm) = true := decide_eq_true (by omega)
          have htm : Int.tmod a2 20 = Tm := HTM.out
          have htw : wrap64 Tm = Tm := HTW.out
          have HI := Aside0.mk (And.intro hi1 (And.intro hig hlt))
          obtain ⟨N, hN⟩ : ∃ N, N = nextS l0 200 s := ⟨_, rfl⟩
          obtain ⟨M, hM⟩ : ∃ M, M = nextS d 200 t := ⟨_, rfl⟩
          have HNL := Aside0.mk (show N.1.regs.length ≤ s.regs.length + 200 ∧ N.1.own.length ≤ s.own.length + 1 ∧ N.1.mem.length = s.mem.length by rw [hN]; exact nextS_len l0 200 s)
          have HML := Aside0.mk (show M.1.regs.length ≤ t.regs.length + 200 ∧ M.1.own.length ≤ t.own.length + 1 ∧ M.1.mem.length = t.mem.length by rw [hM]; exact nextS_len d 200 t)
          have hbk := HBK.out
          rw [show Tm.toNat - i = (Tm.toNat - (i + 1)) + 1 by omega, runsL, ← hN, ← hM] at hbk
          have HN := Aside0.mk hN
          have HM := Aside0.mk hM
          have HBK1 := Aside0.mk hbk
          clear hN hM hbk HBK hi1 hig hlt
          go_wp2_with fail
          refine (ms_next l0 200 200 w5 wr Fa ba gCa gTa A0 c0 vMa s N (Kd.C_below HR0.out HB5.out) HC0.out HMa.out HBr.out (by have := HLN.out; have := HI.out; have := HTB.out; omega) (by have := HLN.out; have := HI.out; have := HTB.out; omega) (by have := HLN.out; have := HS.out; omega) (by omega) rfl HN.out).mono ?_
          rintro e w8 ⟨rfl, Fa', HMa', HFa', HB8, HK8⟩
          have hbu : Below w8.heap.size w8 (w8.alloc (.cells #[.int .i64 N.2.1.1, .int .i64 0, .int .i64 N.2.1.2] 42)) := (Below.refl _ _).alloc (Nat.le_refl _) _
          have hMbu := (HMb.out.other HK8.out (fun k hk h => HDJ.out k h hk)).below hbu
          have hBu := HB8.out.trans (hbu.mono HB8.out.size)
          have gu := blk_new w8 (.cells #[.int .i64 N.2.1.1, .int .i64 0, .int .i64 N.2.1.2] 42)
          have HFb1 := Aside0.mk (show ∀ k, Fb k → k < wr.heap.size by obtain ⟨_, _, _, _, h3⟩ := HMb.out; exact h3)
          have HFa1 := Aside0.mk (show ∀ k, Fa' k → k < w8.heap.size by obtain ⟨_, _, _, _, h3⟩ := HMa'.out; exact h3)
          have HMau := Aside0.mk (HMa'.out.below hbu)
          have HSU := Aside0.mk hbu.size
          have HS8 := Aside0.mk HK8.out.1
          have HBU := Aside0.mk hBu
          have HMBU := Aside0.mk hMbu
          have HGU := Aside0.mk gu
          clear hbu hMbu hBu gu HMa' HMb HK8 HB8 HMa
          go_wp2_with fail
          refine (ms_next d 200 200 w5 _ Fb bb gCb gTb Ad11 c11 vMb t M HC5.out HC11.out.1 HMBU.out HBU.out (by have := HLN.out; have := HI.out; have := HTB.out; omega) (by have := HLN.out; have := HI.out; have := HTB.out; omega) (by have := HLN.out; have := HS.out; omega) (by omega) rfl HM.out).mono ?_
          rintro e w9 ⟨rfl, Fb', HMb', HFb', HB9, HK9⟩
          have HGU9 := Aside0.mk ((HK9.out.2 w8.heap.size (blk_lt HGU.out) (fun h => by have := HFb1.out _ h; have := HS8.out; omega)).trans HGU.out)
          have HMa9 := Aside0.mk (HMau.out.other HK9.out (fun k hk h => by
            rcases HFa'.out k hk with h1 | h1
            · exact HDJ.out k h1 h
            · have := HFb1.out k h; omega))
          have HDJ9 := Aside0.mk (show ∀ k, Fa' k → ¬ Fb' k from fun k hk h => by
            have h0 := HFa1.out k hk
            rcases HFb'.out k h with h2 | h2
            · rcases HFa'.out k hk with h1 | h1
              · exact HDJ.out k h1 h2
              · have := HFb1.out k h2; omega
            · have := HSU.out; omega)
          clear HGU HMau HK9 HDJ HFb1 HFa1 HMBU HBU HFa' HFb' HBr
          obtain ⟨gu, hgu⟩ : ∃ q, q = w8.heap.size := ⟨_, rfl⟩
          rw [← hgu] at HGU9 ⊢
          clear hgu
          go_upto_region 22 with fail
          have hbv : Below w9.heap.size w9 (w9.alloc (.cells #[.int .i64 M.2.1.1, .int .i64 0, .int .i64 M.2.1.2] 42)) := (Below.refl _ _).alloc (Nat.le_refl _) _
          have HGV := Aside0.mk (blk_new w9 (.cells #[.int .i64 M.2.1.1, .int .i64 0, .int .i64 M.2.1.2] 42))
          replace HGU9 := Aside0.mk (blk_below HGU9.out hbv)
          replace HMa9 := Aside0.mk (HMa9.out.below hbv)
          replace HMb' := Aside0.mk (HMb'.out.below hbv)
          replace HB9 := Aside0.mk (HB9.out.trans (hbv.mono HB9.out.size))
          obtain ⟨gv, hgv⟩ : ∃ q, q = w9.heap.size := ⟨_, rfl⟩
          rw [← hgv] at HGV ⊢
          clear hgv hbv
          generalize (w9.alloc (.cells #[.int .i64 M.2.1.1, .int .i64 0, .int .i64 M.2.1.2] 42)) = w10 at HGV HGU9 HMa9 HMb' HB9 ⊢
          by_cases k3 : N.2.2 = 3
          · have e1 : (N.2.2 == 3) = true := beq_iff_eq.2 k3
            clear k3
            go_wp2_with fail
            go_ret
            exact ⟨rfl, HB5.out.trans (HB9.out.mono HB5.out.size)⟩
          · have e1 : (N.2.2 == 3) = false := beq_eq_false_iff_ne.2 k3
            by_cases m3 : M.2.2 = 3
            · have e2 : (M.2.2 == 3) = true := beq_iff_eq.2 m3
              clear k3 m3
              go_wp2_with fail
              go_ret
              exact ⟨rfl, HB5.out.trans (HB9.out.mono HB5.out.size)⟩
            · have e2 : (M.2.2 == 3) = false := beq_eq_false_iff_ne.2 m3
              have hbk := HBK1.out
              rw [if_neg (by rintro (h | h); exact k3 h; exact m3 h)] at hbk
              by_cases he : N.2.1 = M.2.1 ∧ N.2.2 = M.2.2 ∧ N.1.mem = M.1.mem
              case neg => rw [if_neg he] at hbk; cases hbk
              rw [if_pos he] at hbk
              have HBK2 := Aside0.mk hbk
              have e3 : (N.2.2 != M.2.2) = false := bne_eq_false_iff_eq.2 he.2.1
              have e4 : (N.2.1.1 == M.2.1.1) = true := beq_iff_eq.2 (by rw [he.1])
              have e5 : (N.2.1.2 == M.2.1.2) = true := beq_iff_eq.2 (by rw [he.1])
              have u0 : w10.cell? ⟨gu, 0, none⟩ = some (.int .i64 N.2.1.1) := (blk_cell HGU9.out 0).trans rfl
              have u1 : w10.cell? ⟨gu, 1, none⟩ = some (.int .i64 0) := (blk_cell HGU9.out 1).trans rfl
              have u2 : w10.cell? ⟨gu, 2, none⟩ = some (.int .i64 N.2.1.2) := (blk_cell HGU9.out 2).trans rfl
              have v0 : w10.cell? ⟨gv, 0, none⟩ = some (.int .i64 M.2.1.1) := (blk_cell HGV.out 0).trans rfl
              have v1 : w10.cell? ⟨gv, 1, none⟩ = some (.int .i64 0) := (blk_cell HGV.out 1).trans rfl
              have v2 : w10.cell? ⟨gv, 2, none⟩ = some (.int .i64 M.2.1.2) := (blk_cell HGV.out 2).trans rfl
              have HME := Aside0.mk he.2.2
              clear k3 m3 hbk he
              have HML1 := Aside0.mk (show N.1.mem.length = l1.length by have h1 := HLN.out; have h2 := HNL.out; omega)
              obtain ⟨G0, hG0⟩ : ∃ G0, G0 = gk := ⟨gk, rfl⟩
              have HG0 := Aside0.mk hG0
              have HL60 := Aside0.mk (show l1.length ≤ 60 from HS.out.2)
              clear hG0
              go_wp2_with fail
              clear e1 e2 e3 e4 e5 u0 u1 u2 v0 v1 v2 htm htw hd
              go_loopg [18] l1.length (fun gg v18 wr => ∃ q : Nat, v18 = .int .i64 (q : Int) ∧ q ≤ l1.length ∧ l1.length - q ≤ gg ∧ Aside0 (Below w10.heap.size w10 wr))
              case atStart => exact ⟨0, rfl, by omega, by omega, ⟨Below.refl _ _⟩⟩
              case round =>
                obtain ⟨q, rfl, hq1, hqg, HBq⟩ := hrel
                by_cases hlt : q < l1.length
                · have hd : decide ((q : Int) < (l1.length : Int)) = true := decide_eq_true (by omega)
                  have hdn : decide (q < l1.length) = true := decide_eq_true hlt
                  have d1i : (q : Int) < (l1.length : Int) := by omega
                  have d1n : q < l1.length := hlt
                  have HWQ := Aside0.mk (show wrap64 ((q : Int) + 1) = ((q + 1 : Nat) : Int) by have := HL60.out; rw [wrap_in (by omega) (by omega)]; omega)
                  have HQ := Aside0.mk (And.intro hlt hqg)
                  obtain ⟨_, cb1, rMa⟩ := (HMa9.out.below HBq.out).mem
                  obtain ⟨_, cb2, rMb⟩ := (HMb'.out.below HBq.out).mem
                  have hml := HML1.out
                  have hme := HME.out
                  rw [← hme] at rMb
                  obtain ⟨Aa, ca, ea⟩ := Kd.R_slice rMa
                  obtain ⟨Ab, cb, eb⟩ := Kd.R_slice rMb
                  rw [ea] at cb1 rMa
                  rw [eb] at cb2 rMb
                  obtain ⟨am, em, zm⟩ := Kd.at_int (Kd.R_reads' rMa).2.2 (q : Int) (by omega) (by omega)
                  obtain ⟨bm, en, zn⟩ := Kd.at_int (Kd.R_reads' rMb).2.2 (q : Int) (by omega) (by omega)
                  cases em
                  cases en
                  rw [hml] at cb1 cb2
                  rw [Int.toNat_natCast] at zm zn
                  obtain ⟨X, hX⟩ : ∃ X, X = rd N.1.mem (q : Int) := ⟨_, rfl⟩
                  rw [← hX] at zm zn
                  clear hX rMa rMb ea eb hme hml hlt hqg hq1
                  go_wp2_with fail
                  go_quiet (fail)
                  go_wp2_with fail
                  go_roundg (gk - 1)
                  case measure => have := HQ.out; omega
                  case rel => exact ⟨q + 1, by first | rfl | rw [HWQ.out], HQ.out.1, by have := HQ.out; omega, by first | exact HBq | exact ⟨pw_below_drewN HBq.out _⟩⟩
                · have hd : decide ((q : Int) < (l1.length : Int)) = false := decide_eq_false (by omega)
                  have hdn : decide (q < l1.length) = false := decide_eq_false hlt
                  clear hlt hqg hq1
                  go_wp2_with fail
                  go_roundg (G0 - 1)
                  case measure => have := HI.out; have := HG0.out; omega
                  case rel => exact ⟨i + 1, N.1, M.1, Fa', Fb', by first | rfl | (congr 1; unfold wrap64; have := HI.out; have := HTB.out; omega), HI.out.2.2, by have := HI.out; have := HG0.out; omega, HBK2, ⟨by have h1 := HLN.out; have h2 := HNL.out; have h3 := HML.out; omega⟩, ⟨HMa9.out.below HBq.out⟩, ⟨HMb'.out.below HBq.out⟩, HDJ9, ⟨HB9.out.trans (HBq.out.mono HB9.out.size)⟩⟩
        · have hd : decide ((i : Int) < Tm) = false := decide_eq_false (by omega)
          have htm : Int.tmod a2 20 = Tm := HTM.out
          have htw : wrap64 Tm = Tm := HTW.out
          go_wp2_with fail
          go_ret
          exact ⟨rfl, HB5.out.trans (HBr.out.mono HB5.out.size)⟩
end Go.Proofs.YtdopacgaklaaeaaDoor.PDeadRuns
