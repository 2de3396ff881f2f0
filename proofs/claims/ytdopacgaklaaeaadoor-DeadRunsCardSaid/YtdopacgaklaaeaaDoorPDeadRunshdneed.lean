-- HAND paling/dead.Needless rounds=1 making=1 glob=1 needs=paling/graph.Reach;paling/live.Behind;paling/ins.Def;slices.Contains[[]int,int]
import Derived.Test.YtdopacgaklaaeaaDoorPDeadRunsx0
import Derived.Test.YtdopacgaklaaeaaDoorPDeadRunsx3
import Derived.Test.YtdopacgaklaaeaaDoorPDeadRunshforms
import Derived.Test.YtdopacgaklaaeaaDoorPDeadRunshg6
import Derived.Test.YtdopacgaklaaeaaDoorPDeadRunshg7
import Derived.Test.YtdopacgaklaaeaaDoorPDeadRunshlro
import Derived.Test.YtdopacgaklaaeaaDoorPDeadRunshlgrow
namespace Go.Proofs.YtdopacgaklaaeaaDoor.PDeadRuns
open Go.RowKit Go.Proofs.YtdopacgaklaaeaaDoorW.PrintWords Go.Proofs.YtdopacgaklaaeaaDoorW.PrintLast Go.Proofs.YtdopacgaklaaeaaDoorW.PrintMore
set_option linter.unusedVariables false
set_option linter.unusedSimpArgs false
/-! dead.Needless. -/
def nxtD (o : List Bool) (i : Nat) (b : Bool) (d : Int) (h : Bool) (k a : Int) (q : Bool) : List Bool := if b = true then (if 0 ≤ d then o.set i (!h || (k == 1 && a == d)) else if (k == 6) = true then o.set i q else o) else o.set i true
def dead_Needless.l0 : Nat → List S28 → List Bool → List Bool → List (List Int) → Int → Option (List Bool)
  | 0, _, _, _, _, _ => none
  | k + 1, c, o, re, B, i => if i < (c.length : Int) then (if 0 ≤ i ∧ i < (re.length : Int) ∧ i < (B.length : Int) ∧ i < (o.length : Int) then (slices_Contains_int_int.f k (rd_L5 B i) (defQ (rd_T28 c i))).bind fun h => dead_Needless.l0 k c (nxtD o i.toNat (rdOf false re i) (defQ (rd_T28 c i)) h (rd_T28 c i).f0 (rd_T28 c i).f3 ((rd_T28 c i).f6 == wrap64 (i + 1))) re B (wrap64 (i + 1)) else none) else some o
def dead_Needless.f (k : Nat) (c : List S28) : Option (List Bool) := if c.length ≤ 1000000 then (graph_Reach.f k c).bind fun re => (live_Behind.f k c).bind fun B => dead_Needless.l0 k c (List.replicate (c.length : Int).toNat false) re B 0 else none
theorem dead_Needless.mono_l : ∀ k c o re B i, LeO (dead_Needless.l0 k c o re B i) (dead_Needless.l0 (k + 1) c o re B i)
  | 0, _, _, _, _, _ => LeO.none _
  | k + 1, c, o, re, B, i => by
    unfold dead_Needless.l0
    exact LeO.ite (LeO.ite (LeO.bind (slices_Contains_int_int.mono _ _ _) (fun h => dead_Needless.mono_l k _ _ _ _ _)) (LeO.none _)) (LeO.refl _)
theorem dead_Needless.mono : ∀ a0 k, LeO (dead_Needless.f k a0) (dead_Needless.f (k + 1) a0) := fun a0 k => by
  unfold dead_Needless.f
  exact LeO.ite (LeO.bind (graph_Reach.mono _ _) (fun re => LeO.bind (live_Behind.mono _ _) (fun B => dead_Needless.mono_l k _ _ _ _ _))) (LeO.none _)
set_option maxHeartbeats 8000000 in
set_option maxRecDepth 100000 in
theorem dead_Needless.calls (k : Nat) (A0 : Option Addr) (c0 : Nat) (l0 : List S28) (r : List Bool) (w : World) (hr0 : Kd.C k28 w A0 l0.length l0) (hc0 : l0.length ≤ c0) (h : dead_Needless.f k l0 = some r) (hgl : GlobOK w) :
    Calls Tryd.prog 10 #[.slice A0 l0.length c0] w fun e w' => ∃ v0_ : Value, e = .returned (v0_) ∧ Kd.R Kd.bool 4 w' w.heap.size (fun _ => True) v0_ r ∧ Below w.heap.size w w' := by
  unfold dead_Needless.f at h
  by_cases hlen : l0.length ≤ 1000000
  case neg => rw [if_neg hlen] at h; cases h
  rw [if_pos hlen] at h
  obtain ⟨re, h1, h⟩ := Option.bind_eq_some_iff.1 h
  obtain ⟨B, h2, h⟩ := Option.bind_eq_some_iff.1 h
  have HR0 := Aside0.mk hr0
  have HC0 := Aside0.mk hc0
  have HL := Aside0.mk hlen
  have A4 := Aside0.mk h1
  have A5 := Aside0.mk h2
  have H := Aside0.mk h
  have HGL := Aside0.mk hgl
  clear hr0 hc0 hlen h1 h2 h hgl
  go_enter Tryd.func10, Tryd.ntmps10
  go_wp2_with (first | ((with_reducible refine gate_dst (N := 11) rfl ?_); refine Kd.R_make Kd.bool _ 4 rfl (N := 11) rfl 26 _ _ rfl (l0.length : Int) rfl rfl Tryd.underlying26 (.bool false) 1 info4 rfl (by decide) (by omega) false (ok := fun _ => True) (okp := fun _ => True) rfl (fun _ hk => hk) trivial (by omega) (by have := HL.out; omega) (Below.refl w.heap.size w) (Nat.le_refl _) ?_; intro v3 w6 ho3 hb6 hg_ hnew_; clear hg_ hnew_; have HO3 := Aside0.mk ho3; have HB6 := Aside0.mk hb6; clear ho3 hb6))
  refine (graph_Reach.calls k A0 c0 l0 re w6 (Kd.C_below HR0.out HB6.out) HC0.out A4.out (HGL.out.step HB6.out)).mono ?_
  rintro e w8 ⟨v4, rfl, ho4, hb8⟩
  have HO4 := Aside0.mk (Kd.R_new' ho4 (Kd.R_lt HO3.out))
  have HO38 := Aside0.mk (Kd.R_below HO3.out hb8)
  have HB8 := Aside0.mk (HB6.out.trans (hb8.mono HB6.out.size))
  clear ho4 hb8 HO3
  go_wp2_with fail
  refine (live_Behind.calls k A0 c0 l0 B w8 (Kd.C_below HR0.out HB8.out) HC0.out A5.out (HGL.out.step HB8.out)).mono ?_
  rintro e w9 ⟨v5, rfl, ho5, hb9⟩
  have HO39 := Aside0.mk (Kd.R_below HO38.out hb9)
  have HO49 := Aside0.mk (Kd.R_lower (Kd.R_below HO4.out hb9) HB6.out.size)
  have HO59 := Aside0.mk (Kd.S_lower ho5 HB8.out.size)
  have HB9 := Aside0.mk (HB8.out.trans (hb9.mono HB8.out.size))
  clear ho5 hb9 HO38 HO4 HB8 HB6 A4 A5
  go_wp2_with fail
  go_loopg [18] k (fun kq v18 wr => ∃ (o : List Bool) (i : Int), v18 = .int .i64 i ∧ Aside0 (dead_Needless.l0 kq l0 o re B i = some r) ∧ Aside0 (kq ≤ k) ∧ Aside0 (Kd.R Kd.bool 4 wr w.heap.size (fun _ => True) v3 o) ∧ Aside0 (Kd.R Kd.bool 4 wr w.heap.size (fun k_ => True ∧ some k_ ≠ v3.ownBlock) v4 re) ∧ Aside0 (Kd.S (Kd.slice 3 (Kd.int .i64)) 57 wr w.heap.size (fun _ => True) v5 B) ∧ Aside0 (Below w.heap.size w wr))
  case atStart => exact ⟨_, 0, rfl, H, ⟨Nat.le_refl _⟩, HO39, HO49, HO59, HB9⟩
  case round =>
    clear H HO39 HO49 HO59 HB9
    obtain ⟨o, i, rfl, HA, HK1, HO, HRE, HBE, HB⟩ := hrel
    cases gk with
    | zero => exact absurd HA.out (by simp [dead_Needless.l0])
    | succ k1 =>
    have h := HA.out
    clear HA
    unfold dead_Needless.l0 at h
    by_cases hi : i < (l0.length : Int)
    case neg =>
      rw [if_neg hi] at h
      obtain rfl := Option.some.inj h
      have hd : decide (i < (l0.length : Int)) = false := decide_eq_false hi
      clear h hi
      go_wp2_with fail
      go_ret
      exact ⟨_, rfl, HO.out, HB.out⟩
    rw [if_pos hi] at h
    by_cases hin : 0 ≤ i ∧ i < (re.length : Int) ∧ i < (B.length : Int) ∧ i < (o.length : Int)
    case neg => rw [if_neg hin] at h; cases h
    rw [if_pos hin] at h
    obtain ⟨i0, ire, iB, io⟩ := hin
    obtain ⟨ad, e1, q0, q1, q2, q3, q4, q5, q6⟩ := at_T28 (Kd.C_below HR0.out HB.out) i i0 hi
    cases e1
    obtain ⟨x, hx⟩ : ∃ x, x = rd_T28 l0 i := ⟨_, rfl⟩
    rw [← hx] at q0 q1 q2 q3 q4 q5 q6 h
    clear hx
    obtain ⟨wi, hwi⟩ : ∃ wi, wi = wrap64 (i + 1) := ⟨_, rfl⟩
    obtain ⟨b, hb⟩ : ∃ b, b = rdOf false re i := ⟨_, rfl⟩
    obtain ⟨q, hq⟩ : ∃ q, q = (x.f6 == wrap64 (i + 1)) := ⟨_, rfl⟩
    rw [← hb, ← hq, ← hwi] at h
    obtain ⟨d, hdd⟩ : ∃ d, d = defQ x := ⟨_, rfl⟩
    rw [← hdd] at h
    obtain ⟨hs, h2, h⟩ := Option.bind_eq_some_iff.1 h
    have A1 := Aside0.mk (show ins_Def.f x.f0 x.f1 x.f2 x.f3 x.f4 x.f5 x.f6 = some d by rw [hdd]; rfl)
    have A2 := Aside0.mk h2
    have H := Aside0.mk h
    have Hb := Aside0.mk hb
    have Hq := Aside0.mk hq
    have Hwi := Aside0.mk hwi
    have GX := Aside0.mk (blk_new wr (.cells #[.int .i64 x.f0, .int .i64 x.f1, .int .i64 x.f2, .int .i64 x.f3, .int .i64 x.f4, .int .i64 x.f5, .int .i64 x.f6] 28))
    have HO1 := Aside0.mk (Kd.R_alloc HO.out (.cells #[.int .i64 x.f0, .int .i64 x.f1, .int .i64 x.f2, .int .i64 x.f3, .int .i64 x.f4, .int .i64 x.f5, .int .i64 x.f6] 28))
    have HRE1 := Aside0.mk (Kd.R_alloc HRE.out (.cells #[.int .i64 x.f0, .int .i64 x.f1, .int .i64 x.f2, .int .i64 x.f3, .int .i64 x.f4, .int .i64 x.f5, .int .i64 x.f6] 28))
    have HBE1 := Aside0.mk (Kd.S_alloc HBE.out (.cells #[.int .i64 x.f0, .int .i64 x.f1, .int .i64 x.f2, .int .i64 x.f3, .int .i64 x.f4, .int .i64 x.f5, .int .i64 x.f6] 28))
    have HB1 := Aside0.mk (HB.out.alloc HB.out.size (.cells #[.int .i64 x.f0, .int .i64 x.f1, .int .i64 x.f2, .int .i64 x.f3, .int .i64 x.f4, .int .i64 x.f5, .int .i64 x.f6] 28))
    clear h2 h hb hq hwi hdd HO HRE HBE HB
    obtain ⟨gx, hgx⟩ : ∃ gx, gx = wr.heap.size := ⟨_, rfl⟩
    rw [← hgx] at GX
    have HGX := Aside0.mk hgx
    clear hgx
    go_wp2_with fail
    refine (ins_Def.calls x.f0 x.f1 x.f2 x.f3 x.f4 x.f5 x.f6 d _ A1.out (HGL.out.step HB1.out)).mono ?_
    rw [← HGX.out]
    rintro e w2 ⟨rfl, hb2⟩
    replace GX := Aside0.mk (blk_below GX.out hb2)
    replace HO1 := Aside0.mk (Kd.R_below HO1.out hb2)
    replace HRE1 := Aside0.mk (Kd.R_below HRE1.out hb2)
    replace HBE1 := Aside0.mk (Kd.S_below HBE1.out hb2)
    replace HB1 := Aside0.mk (HB1.out.trans (hb2.mono HB1.out.size))
    clear hb2 A1 q0 q1 q2 q3 q4 q5 q6
    obtain ⟨Ar, cr, rfl⟩ := Kd.R_slice HRE1.out
    obtain ⟨ar, er, zr⟩ := Kd.at_bool (Kd.R_reads' HRE1.out).2.2 i i0 ire
    cases er
    rw [← Hb.out] at zr
    obtain ⟨go, co, hv3, -, -, -⟩ := Kd.R_form HO1.out (by omega)
    subst hv3
    obtain ⟨n, hn⟩ : ∃ n, n = nxtD o i.toNat b d hs x.f0 x.f3 q := ⟨_, rfl⟩
    have fin0 : ∀ (W : World) (s18 : Int) (V : Bool), s18 = wi → n = o.set i.toNat V → Kd.R Kd.bool 4 W w.heap.size (fun _ => True) (.slice (some ⟨go, 0, none⟩) o.length co) o → Kd.R Kd.bool 4 W w.heap.size (fun k_ => True ∧ some k_ ≠ (Value.slice (some ⟨go, 0, none⟩) o.length co).ownBlock) (.slice (some ar) re.length cr) re → Kd.S (Kd.slice 3 (Kd.int .i64)) 57 W w.heap.size (fun _ => True) v5 B → Below w.heap.size w W → w.heap.size ≤ go →
        ∃ (o' : List Bool) (j : Int), Value.int .i64 s18 = .int .i64 j ∧ Aside0 (dead_Needless.l0 k1 l0 o' re B j = some r) ∧ Aside0 (k1 ≤ k) ∧ Aside0 (Kd.R Kd.bool 4 (W.setCell ⟨go, i.toNat, none⟩ (.bool V)) w.heap.size (fun _ => True) (.slice (some ⟨go, 0, none⟩) o.length co) o') ∧ Aside0 (Kd.R Kd.bool 4 (W.setCell ⟨go, i.toNat, none⟩ (.bool V)) w.heap.size (fun k_ => True ∧ some k_ ≠ (Value.slice (some ⟨go, 0, none⟩) o.length co).ownBlock) (.slice (some ar) re.length cr) re) ∧ Aside0 (Kd.S (Kd.slice 3 (Kd.int .i64)) 57 (W.setCell ⟨go, i.toNat, none⟩ (.bool V)) w.heap.size (fun _ => True) v5 B) ∧ Aside0 (Below w.heap.size w (W.setCell ⟨go, i.toNat, none⟩ (.bool V))) := by
      intro W s18 V h6 hV f1 f2 f3 f4 f5
      obtain ⟨p1, p2⟩ := Kd.R_putg f1 i V
      exact ⟨n, wi, by rw [h6], ⟨by rw [hn]; exact H.out⟩, ⟨by have := HK1.out; omega⟩, ⟨by rw [hV]; exact p1⟩, ⟨Kd.R_far f2 (fun k_ hk => fun e => hk.2 (by rw [e]; rfl)) _⟩, ⟨Kd.S_over' (v := (.slice (some ⟨go, 0, none⟩) o.length co)) f3 (Kd.R_typed f1) (by decide) p2⟩, ⟨f4.setCell (p := ⟨go, i.toNat, none⟩) f5 _⟩⟩
    have FIN := Aside0.mk fin0
    have HN := Aside0.mk hn
    clear fin0 hn
    have hgo0 := Kd.R_base HO1.out go rfl
    have HG0 := Aside0.mk hgo0
    clear hgo0
    cases b with
    | false =>
      obtain ⟨oc, of⟩ := Kd.R_celln false HO1.out i i0 io
      go_wp2_with fail
      go_roundg k1
      case measure => have := HK1.out; omega
      case rel => exact FIN.out w2 _ _ (by first | rfl | exact Hwi.out.symm) HN.out HO1.out HRE1.out HBE1.out HB1.out HG0.out
    | true =>
      by_cases hd : 0 ≤ d
      · have hd1 : decide (0 ≤ d) = true := decide_eq_true hd
        obtain ⟨A5, c5, rfl⟩ := Kd.S_slice HBE1.out
        obtain ⟨a5, A6, c6, e5, z5, zl5, zc5⟩ := at_L5 (Kd.S_reads' HBE1.out).2.2 i i0 iB
        cases e5
        have HC5 := Aside0.mk zc5
        have HL5 := Aside0.mk zl5
        have HN1 := Aside0.mk (show n = o.set i.toNat (!hs || (x.f0 == 1 && x.f3 == d)) by rw [HN.out]; unfold nxtD; rw [if_pos rfl, if_pos hd])
        clear zc5 zl5 hd HN
        go_wp2_with fail
        refine (slices_Contains_int_int.calls k1 A6 c6 (rd_L5 B i) d hs w2 HC5.out HL5.out A2.out).mono ?_
        rintro e w3 ⟨rfl, nd, rfl⟩
        have hb3 : Below w2.heap.size w2 (w2.drewN nd) := pw_below_drewN (Below.refl _ _) nd
        generalize w2.drewN nd = w3 at hb3 ⊢
        replace GX := Aside0.mk (blk_below GX.out hb3)
        replace HO1 := Aside0.mk (Kd.R_below HO1.out hb3)
        replace HRE1 := Aside0.mk (Kd.R_below HRE1.out hb3)
        replace HBE1 := Aside0.mk (Kd.S_below HBE1.out hb3)
        replace HB1 := Aside0.mk (HB1.out.trans (hb3.mono HB1.out.size))
        clear hb3 HC5 HL5 A2 z5 zr
        obtain ⟨oc, of⟩ := Kd.R_celln false HO1.out i i0 io
        cases hs with
        | false =>
          go_wp2_with fail
          go_roundg k1
          case measure => have := HK1.out; omega
          case rel => exact FIN.out w3 _ _ (by first | rfl | exact Hwi.out.symm) HN1.out HO1.out HRE1.out HBE1.out HB1.out HG0.out
        | true =>
          have x0 : w3.cell? ⟨gx, 0, none⟩ = some (.int .i64 x.f0) := (blk_cell GX.out 0).trans rfl; have x3 : w3.cell? ⟨gx, 3, none⟩ = some (.int .i64 x.f3) := (blk_cell GX.out 3).trans rfl
          cases t1 : (x.f0 == 1) with
          | false =>
            rw [t1] at HN1
            go_wp2_with fail
            go_roundg k1
            case measure => have := HK1.out; omega
            case rel => exact FIN.out w3 _ _ (by first | rfl | exact Hwi.out.symm) HN1.out HO1.out HRE1.out HBE1.out HB1.out HG0.out
          | true =>
            rw [t1] at HN1
            go_wp2_with fail
            go_roundg k1
            case measure => have := HK1.out; omega
            case rel => exact FIN.out w3 _ _ (by first | rfl | exact Hwi.out.symm) HN1.out HO1.out HRE1.out HBE1.out HB1.out HG0.out
      · have hd1 : decide (0 ≤ d) = false := decide_eq_false hd
        obtain ⟨oc, of⟩ := Kd.R_celln false HO1.out i i0 io
        have x0 : w2.cell? ⟨gx, 0, none⟩ = some (.int .i64 x.f0) := (blk_cell GX.out 0).trans rfl; have x6 : w2.cell? ⟨gx, 6, none⟩ = some (.int .i64 x.f6) := (blk_cell GX.out 6).trans rfl
        have Hq1 := Hq.out.symm
        cases t1 : (x.f0 == 6) with
        | true =>
          have HN1 := Aside0.mk (show n = o.set i.toNat q by rw [HN.out]; unfold nxtD; rw [if_pos rfl, if_neg hd, if_pos t1])
          clear hd A2 HN
          go_wp2_with fail
          go_roundg k1
          case measure => have := HK1.out; omega
          case rel => exact FIN.out w2 _ _ (by first | rfl | exact Hwi.out.symm) HN1.out HO1.out HRE1.out HBE1.out HB1.out HG0.out
        | false =>
          have HN1 := Aside0.mk (show n = o by rw [HN.out]; unfold nxtD; rw [if_pos rfl, if_neg hd, if_neg (by rw [t1]; simp)])
          have H2 := Aside0.mk (show dead_Needless.l0 k1 l0 o re B wi = some r by rw [← HN1.out, HN.out]; exact H.out)
          clear hd A2 HN H
          go_wp2_with fail
          go_roundg k1
          case measure => have := HK1.out; omega
          case rel => exact ⟨o, wi, by first | rfl | rw [Hwi.out], H2, ⟨by have := HK1.out; omega⟩, HO1, HRE1, HBE1, HB1⟩
end Go.Proofs.YtdopacgaklaaeaaDoor.PDeadRuns
