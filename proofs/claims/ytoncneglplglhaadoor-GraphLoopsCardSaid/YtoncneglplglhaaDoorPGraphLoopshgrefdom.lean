-- HAND paling/palingref14.Dominates rounds=1 making=1 needs=paling/palingref14.Reach;paling/palingref14.without
import Derived.Test.YtoncneglplglhaaDoorPGraphLoopsx0
import Derived.Test.YtoncneglplglhaaDoorPGraphLoopsx5
import Derived.Test.YtoncneglplglhaaDoorPGraphLoopshgdom
import Derived.Test.YtoncneglplglhaaDoorPGraphLoopshgmat
import Derived.Test.YtoncneglplglhaaDoorPGraphLoopshgpmat
import Derived.Test.YtoncneglplglhaaDoorPGraphLoopshgwalk
import Derived.Test.YtoncneglplglhaaDoorPGraphLoopshway
import Derived.OneCell
import Derived.Laws.MakeOwn
import Derived.Deep.OwnRows
import Derived.StillTailTactics
namespace Go.Proofs.YtoncneglplglhaaDoor.PGraphLoops
open Go.RowKit Go.Proofs.YtoncneglplglhaaDoorW.PrintWords Go.Proofs.YtoncneglplglhaaDoorW.PrintLast Go.Proofs.YtoncneglplglhaaDoorW.PrintMore
set_option linter.unusedVariables false
set_option linter.unusedSimpArgs false
/-! palingref14.Dominates: what isn't come to without it, as the document has it. -/
def colSet (re w : List Bool) (d : Int) : Nat → Nat → List (List Bool) → List (List Bool)
  | 0, _, T => T
  | m + 1, i, T => colSet re w d m (i + 1) (setv T (i : Int) d (at_ re (i : Int) && !at_ w (i : Int)))
def palingref14_Dominates.l (k : Nat) (l : List S37) (re : List Bool) (n : Nat) : Nat → Nat → List (List Bool) → Option (List (List Bool))
  | 0, _, T => some T
  | m + 1, d, T => (palingref14_without.f k l 0 (d : Int)).bind fun w => if w.length = n then palingref14_Dominates.l k l re n m (d + 1) (colSet re w (d : Int) n 0 T) else none
def palingref14_Dominates.f (k : Nat) (l : List S37) : Option (List (List Bool)) :=
  if l.length ≤ 1000000 then (palingref14_Reach.f k l).bind fun re => if re.length = l.length then palingref14_Dominates.l k l re l.length l.length 0 (List.replicate l.length (List.replicate l.length false)) else none else none
theorem palingref14_Dominates.l_mono (k : Nat) (l : List S37) (re : List Bool) (n : Nat) : ∀ m d T, LeO (palingref14_Dominates.l k l re n m d T) (palingref14_Dominates.l (k + 1) l re n m d T)
  | 0, _, _, _, h => h
  | m + 1, d, T, x, h => by
    rw [palingref14_Dominates.l] at h ⊢
    obtain ⟨w, e1, h⟩ := Option.bind_eq_some_iff.1 h
    refine Option.bind_eq_some_iff.2 ⟨w, palingref14_without.mono _ _ _ _ _ e1, ?_⟩
    by_cases hc : w.length = n
    · rw [if_pos hc] at h ⊢; exact palingref14_Dominates.l_mono k l re n m _ _ x h
    · rw [if_neg hc] at h; exact absurd h (by simp)
theorem palingref14_Dominates.mono : ∀ a0 k, LeO (palingref14_Dominates.f k a0) (palingref14_Dominates.f (k + 1) a0) := fun a0 k x h => by
  unfold palingref14_Dominates.f at h ⊢
  by_cases h1 : a0.length ≤ 1000000
  · rw [if_pos h1] at h ⊢
    obtain ⟨r, e1, h⟩ := Option.bind_eq_some_iff.1 h
    refine Option.bind_eq_some_iff.2 ⟨r, palingref14_Reach.mono _ _ _ e1, ?_⟩
    by_cases h2 : r.length = a0.length
    · rw [if_pos h2] at h ⊢; exact palingref14_Dominates.l_mono k a0 r _ _ _ _ x h
    · rw [if_neg h2] at h; exact absurd h (by simp)
  · rw [if_neg h1] at h; exact absurd h (by simp)
theorem heap_set_far {W : World} {p : Addr} {u : Value} {k : Nat} (h : k ≠ p.block) : (W.setCell p u).heap[k]? = W.heap[k]? := Below.heap_setCell W p u k h
set_option maxHeartbeats 8000000 in
set_option maxRecDepth 100000 in
theorem palingref14_Dominates.calls (k : Nat) (A0 : Option Addr) (c0 : Nat) (l0 : List S37) (r : List (List Bool)) (w : World) (hr0 : Kd.C k37 w A0 l0.length l0) (hc0 : l0.length ≤ c0) (h : palingref14_Dominates.f k l0 = some r) :
    Calls Tryd.prog 15 #[.slice A0 l0.length c0] w fun e w' => ∃ v0_ : Value, e = .returned (v0_) ∧ Kd.S (Kd.slice 4 Kd.bool) 25 w' w.heap.size (fun _ => True) v0_ r ∧ Below w.heap.size w w' := by
  unfold palingref14_Dominates.f at h
  by_cases hn : l0.length ≤ 1000000
  case neg => rw [if_neg hn] at h; exact absurd h (by simp)
  rw [if_pos hn] at h
  replace h := Option.bind_eq_some_iff.1 h
  obtain ⟨re, e1, h⟩ := h
  by_cases hrl : re.length = l0.length
  case neg => rw [if_neg hrl] at h; exact absurd h (by simp)
  rw [if_pos hrl] at h
  obtain ⟨n, hnn⟩ : ∃ n, n = l0.length := ⟨_, rfl⟩
  have RC := Aside0.mk (fun W (hb : Below w.heap.size w W) => palingref14_Reach.calls k A0 c0 l0 re W (Kd.C_below hr0 hb) hc0 e1)
  have WC := Aside0.mk (fun W (hb : Below w.heap.size w W) d x hj => palingref14_without.calls k A0 c0 l0 0 d x W (Kd.C_below hr0 hb) hc0 hj)
  rw [← hnn] at h hrl hn RC WC hc0 ⊢
  have HE0 := Aside0.mk h
  have HRL := Aside0.mk hrl
  have HN := Aside0.mk hn
  have hmt : ∀ W : World, (Instr.makeSlice 31 (.int .i64 (n : Int)) (.int .i64 (n : Int))).run Tryd.prog W = .ok (.slice (some ⟨W.heap.size, 0, none⟩) n n) (W.alloc (.cells (madeCells #[.slice none 0 0] n) 25)) := fun W => run_make_row' 31 25 _ 24 Tryd.underlying31 infoRB rfl .i64 .i64 n (by omega) (by omega) W
  have hmr : ∀ W : World, (Instr.makeSlice 25 (.int .i64 (n : Int)) (.int .i64 (n : Int))).run Tryd.prog W = .ok (.slice (some ⟨W.heap.size, 0, none⟩) n n) (W.alloc (.cells (madeCells #[.bool false] n) 4)) := fun W => run_make_row' 25 4 _ 1 Tryd.underlying25 infoB rfl .i64 .i64 n (by omega) (by omega) W
  clear hr0 hc0 h e1 hn hrl hnn
  have G0 := Aside0.mk (blk_new w (.cells (madeCells #[.slice none 0 0] n) 25 (0, 0)))
  have HB0 := Aside0.mk (below_alloc (Below.refl w.heap.size w) (.cells (madeCells #[.slice none 0 0] n) 25 (0, 0)))
  go_enter Tryd.func15, Tryd.ntmps15
  go_wp2_with (go_at_call 10; (with_reducible refine (RC.out _ HB0.out).mono ?_); rintro e w2 ⟨v4, rfl, hR, hb⟩; have HR1 := Aside0.mk hR; have HB2 := Aside0.mk (below_step HB0.out hb); have G2 := Aside0.mk (blk_below G0.out hb); clear hR hb RC HB0 G0)
  obtain ⟨Ar, cr, er⟩ := Kd.R_slice HR1.out
  rw [HRL.out] at er
  subst er
  have HR2 := Aside0.mk (Kd.R_lower HR1.out (by simp : w.heap.size ≤ (w.alloc (.cells (madeCells #[.slice none 0 0] n) 25 (0, 0))).heap.size))
  have HR3 := Aside0.mk (Kd.R_mono (ok' := fun k_ => k_ < w2.heap.size ∧ k_ ≠ w.heap.size) (Kd.R_bound HR2.out) (fun k_ hk => ⟨hk.2.2.1, fun e => by
    obtain ⟨q, hq, cells, hc⟩ := hk.2.2.2
    rw [e, G2.out] at hc
    injection hc with hc
    injection hc with _ hc2
    have hq2 : q = 4 := by simpa [Kd.E, Kd.bool, Kd.scalar] using hq
    rw [hq2] at hc2
    exact absurd hc2 (by decide)⟩))
  have hgw : w.heap.size < w2.heap.size := blk_lt G2.out
  have HGW := Aside0.mk hgw
  clear HR1 HR2 hgw
  go_loopg [5] n (fun kq v5 wr => ∃ (i : Nat) (gs : List Nat), v5 = .int .i64 (i : Int) ∧ Aside0 (i + kq = n) ∧ Aside0 (gs.length = i) ∧ Aside0 (PMat wr w.heap.size gs n (List.replicate i (List.replicate n false))) ∧ Aside0 (∀ b ∈ gs, w2.heap.size ≤ b) ∧ Aside0 (w2.heap.size ≤ wr.heap.size) ∧ Aside0 (Kd.R Kd.bool 4 wr w.heap.size (fun k_ => k_ < w2.heap.size ∧ k_ ≠ w.heap.size) (.slice Ar n cr) re) ∧ Aside0 (Below w.heap.size w wr))
  case atStart => exact ⟨0, [], rfl, ⟨by omega⟩, ⟨rfl⟩, ⟨PMat.start (by have := G2.out; rw [made_rep] at this; exact this)⟩, ⟨fun b hb => absurd hb (by simp)⟩, ⟨Nat.le_refl _⟩, HR3, HB2⟩
  case round =>
    clear HR3 HB2 G2
    obtain ⟨i, gs, rfl, HK, HL, HPM, HBG, HSZ, HR, HB⟩ := hrel
    have hi0 : (0 : Int) ≤ (i : Int) := by omega
    by_cases hlt : (i : Int) < (n : Int)
    case neg =>
      have hin : i = n := by have := HK.out; omega
      have hMT : Mat wr w.heap.size gs n (List.replicate n (List.replicate n false)) := by
        have := HPM.out
        rw [hin] at this
        exact this.done (HL.out.trans hin)
      have HMT := Aside0.mk hMT
      clear HPM HL HK hin hMT HSZ
      go_wp2_with fail
      go_loopg [6] n (fun kq v6 wr => ∃ (d : Nat) (T : List (List Bool)), v6 = .int .i64 (d : Int) ∧ Aside0 (d + kq = n) ∧ Aside0 (palingref14_Dominates.l k l0 re n kq d T = some r) ∧ Aside0 (Mat wr w.heap.size gs n T) ∧ Aside0 (Kd.R Kd.bool 4 wr w.heap.size (fun k_ => k_ < w2.heap.size ∧ k_ ≠ w.heap.size) (.slice Ar n cr) re) ∧ Aside0 (Below w.heap.size w wr))
      case atStart => exact ⟨0, _, rfl, ⟨by omega⟩, HE0, HMT, HR, HB⟩
      case round =>
        clear HMT HR HB HE0
        obtain ⟨d, T, rfl, HK, HE, HM, HR, HB⟩ := hrel
        have hd0 : (0 : Int) ≤ (d : Int) := by omega
        by_cases hltd : (d : Int) < (n : Int)
        case neg =>
          have hk0 : gk = 0 := by have := HK.out; omega
          have he := HE.out
          rw [hk0, palingref14_Dominates.l] at he
          obtain rfl : T = r := Option.some.inj he
          clear HE HK hk0
          go_wp2_with fail
          go_ret
          exact ⟨_, rfl, HM.out.S (Nat.le_refl _) (fun b hb => Nat.le_trans (Nat.le_of_lt HGW.out) (HBG.out b hb)) HN.out, HB.out⟩
        cases gk with
        | zero => exact absurd HK.out (by omega)
        | succ m1 =>
        have he := HE.out
        rw [palingref14_Dominates.l] at he
        replace he := Option.bind_eq_some_iff.1 he
        obtain ⟨wv, e2, he⟩ := he
        by_cases hc : wv.length = n
        case neg => rw [if_neg hc] at he; exact absurd he (by simp)
        rw [if_pos hc] at he
        have HE1 := Aside0.mk he
        have HWL := Aside0.mk hc
        have NC := Aside0.mk (WC.out _ HB.out (d : Int) wv e2)
        have h63 : (d : Int) + 1 ≤ 9223372036854775807 := by have := HN.out; omega
        clear hc he e2 HE
        go_wp2_with (go_at_call 24; (with_reducible refine NC.out.mono ?_); rintro e w5 ⟨v7, rfl, hO, hb⟩; have HM5 := Aside0.mk (HM.out.below hb); have HR5 := Aside0.mk (Kd.R_below HR.out hb); have HB5 := Aside0.mk (below_step HB.out hb); have HW5 := Aside0.mk (Kd.R_mono (ok' := fun k_ => wr.heap.size ≤ k_) (Kd.R_bound hO) (fun k_ hk => hk.2.1)); have HML := Aside0.mk HM.out.lt; clear hO hb NC HM HR HB; obtain ⟨Aw, cw, ew⟩ := Kd.R_slice HW5.out; rw [HWL.out] at ew; subst ew)
        obtain ⟨wz, hwz⟩ : ∃ wz, wz = wr.heap.size := ⟨_, rfl⟩
        rw [← hwz] at HW5 HML
        clear hwz
        go_loopg [8] n (fun kq v8 wr => ∃ (i : Nat) (T' : List (List Bool)), v8 = .int .i64 (i : Int) ∧ Aside0 (i + kq = n) ∧ Aside0 (colSet re wv (d : Int) kq i T' = colSet re wv (d : Int) n 0 T) ∧ Aside0 (Mat wr w.heap.size gs n T') ∧ Aside0 (Kd.R Kd.bool 4 wr w.heap.size (fun k_ => k_ < w2.heap.size ∧ k_ ≠ w.heap.size) (.slice Ar n cr) re) ∧ Aside0 (Kd.R Kd.bool 4 wr wz (fun k_ => wz ≤ k_) (.slice Aw n cw) wv) ∧ Aside0 (Below w.heap.size w wr))
        case atStart => exact ⟨0, T, rfl, ⟨by omega⟩, ⟨rfl⟩, HM5, HR5, HW5, HB5⟩
        case round =>
          clear HM5 HR5 HW5 HB5
          obtain ⟨i, T', rfl, HK3, HC, HM, HR, HW, HB⟩ := hrel
          have hi0 : (0 : Int) ≤ (i : Int) := by omega
          by_cases hlti : (i : Int) < (n : Int)
          case neg =>
            have hk0 : gk = 0 := by have := HK3.out; omega
            have hcc := HC.out
            rw [hk0, colSet] at hcc
            have HC2 := Aside0.mk hcc
            clear HC hcc hk0
            go_wp2_with fail
            go_roundg m1
            case measure => omega
            case rel => exact ⟨d + 1, T', by (try push_cast); (try rfl), ⟨by have := HK.out; omega⟩, ⟨by rw [HC2.out]; exact HE1.out⟩, HM, HR, HB⟩
          cases gk with
          | zero => exact absurd HK3.out (by omega)
          | succ m2 =>
          have hcc := HC.out
          rw [colSet] at hcc
          have HC2 := Aside0.mk hcc
          obtain ⟨b, hb, c1⟩ := HM.out.at hi0 hlti
          obtain ⟨c2, f2⟩ := HM.out.cell hi0 hlti hd0 hltd hb
          unfold rowV at c1
          obtain ⟨adr, er, hxr⟩ := Kd.at_bool (Kd.R_reads' HR.out).2.2 (i : Int) hi0 (by rw [HRL.out]; exact hlti)
          subst er
          obtain ⟨adw, ew, hxw⟩ := Kd.at_bool (Kd.R_reads' HW.out).2.2 (i : Int) hi0 (by rw [HWL.out]; exact hlti)
          subst ew
          rw [show rdOf false re (i : Int) = at_ re (i : Int) from rfl] at hxr
          rw [show rdOf false wv (i : Int) = at_ wv (i : Int) from rfl] at hxw
          rw [Int.toNat_natCast] at c1 c2 f2 hxr hxw
          have hbm := List.mem_of_getElem? hb
          have ST : ∀ (v : Bool) (W' : World), v = (at_ re (i : Int) && !at_ wv (i : Int)) → W'.heap = (wr.setCell ⟨b, d, none⟩ (.bool v)).heap → Mat W' w.heap.size gs n (setv T' (i : Int) (d : Int) (at_ re (i : Int) && !at_ wv (i : Int))) ∧ Kd.R Kd.bool 4 W' w.heap.size (fun k_ => k_ < w2.heap.size ∧ k_ ≠ w.heap.size) (.slice (some adr) n cr) re ∧ Kd.R Kd.bool 4 W' wz (fun k_ => wz ≤ k_) (.slice (some adw) n cw) wv := by
            intro v W' hv hh
            subst hv
            have hfar : ∀ k_, k_ ≠ b → W'.heap[k_]? = wr.heap[k_]? := fun k_ hk => by rw [hh]; exact heap_set_far (p := ⟨b, d, none⟩) hk
            refine ⟨?_, Kd.R_move HR.out (fun k_ hk => hfar k_ (by have := HBG.out b hbm; omega)), Kd.R_move HW.out (fun k_ hk => hfar k_ (by have := HML.out b (.inr hbm); omega))⟩
            have := HM.out.store hi0 hlti hd0 hltd hb (at_ re (i : Int) && !at_ wv (i : Int))
            rw [Int.toNat_natCast] at this
            exact this.move (fun c _ => by rw [hh])
          have HST := Aside0.mk ST
          have HBB := Aside0.mk (show w.heap.size ≤ b by have := HBG.out b hbm; have := HGW.out; omega)
          obtain ⟨vr, hvr⟩ : ∃ v, v = at_ re (i : Int) := ⟨_, rfl⟩
          obtain ⟨vw, hvw⟩ : ∃ v, v = at_ wv (i : Int) := ⟨_, rfl⟩
          obtain ⟨vo, hvo⟩ : ∃ v, v = val T' (i : Int) (d : Int) := ⟨_, rfl⟩
          rw [← hvr] at hxr
          rw [← hvw] at hxw
          rw [← hvo] at c2
          have HVR := Aside0.mk hvr
          have HVW := Aside0.mk hvw
          have h63b : (i : Int) + 1 ≤ 9223372036854775807 := by have := HN.out; omega
          clear HC hcc hb hbm ST hvr hvw hvo
          go_wp2_with fail
          cases vr with
          | false =>
            go_region
            go_wp2_with fail
            go_roundg m2
            case measure => omega
            case rel =>
              obtain ⟨a, b', c⟩ := HST.out false (wr.setCell ⟨b, d, none⟩ (.bool false)).drew (by rw [← HVR.out]; rfl) rfl
              exact ⟨i + 1, _, by (try push_cast); (try rfl), ⟨by have := HK3.out; omega⟩, HC2, ⟨a⟩, ⟨b'⟩, ⟨c⟩, ⟨below_drewN' (HB.out.setCell (p := ⟨b, d, none⟩) HBB.out _) 1⟩⟩
          | true =>
            cases vw with
            | false =>
              go_region
              go_wp2_with fail
              go_roundg m2
              case measure => omega
              case rel =>
                obtain ⟨a, b', c⟩ := HST.out true (wr.setCell ⟨b, d, none⟩ (.bool true)).drew (by rw [← HVR.out, ← HVW.out]; rfl) rfl
                exact ⟨i + 1, _, by (try push_cast); (try rfl), ⟨by have := HK3.out; omega⟩, HC2, ⟨a⟩, ⟨b'⟩, ⟨c⟩, ⟨below_drewN' (HB.out.setCell (p := ⟨b, d, none⟩) HBB.out _) 1⟩⟩
            | true =>
              go_region
              go_wp2_with fail
              go_roundg m2
              case measure => omega
              case rel =>
                obtain ⟨a, b', c⟩ := HST.out false (wr.setCell ⟨b, d, none⟩ (.bool false)).drew (by rw [← HVR.out, ← HVW.out]; rfl) rfl
                exact ⟨i + 1, _, by (try push_cast); (try rfl), ⟨by have := HK3.out; omega⟩, HC2, ⟨a⟩, ⟨b'⟩, ⟨c⟩, ⟨below_drewN' (HB.out.setCell (p := ⟨b, d, none⟩) HBB.out _) 1⟩⟩
    cases gk with
    | zero => exact absurd HK.out (by omega)
    | succ m =>
    obtain ⟨p1, p2⟩ := HPM.out.at (by have := HL.out; omega)
    rw [HL.out] at p1 p2
    unfold nilRowV at p1
    have HPA := HPM.out.below (W' := wr.alloc (.cells (madeCells #[.bool false] n) 4)) ((Below.refl _ _).alloc (Nat.le_refl _) _)
    obtain ⟨p3, p4⟩ := HPA.at (by have := HL.out; omega)
    rw [HL.out] at p3 p4
    unfold nilRowV at p3
    have h63 : (i : Int) + 1 ≤ 9223372036854775807 := by have := HN.out; omega
    have PM : ∀ W' : World, W'.heap = ((wr.alloc (.cells (madeCells #[.bool false] n) 4)).setCell ⟨w.heap.size, i, none⟩ (.slice (some ⟨wr.heap.size, 0, none⟩) n n)).heap → PMat W' w.heap.size (gs ++ [wr.heap.size]) n (List.replicate (i + 1) (List.replicate n false)) ∧ Kd.R Kd.bool 4 W' w.heap.size (fun k_ => k_ < w2.heap.size ∧ k_ ≠ w.heap.size) (.slice Ar n cr) re := by
      intro W' hh
      constructor
      · have := HPM.out.push (W' := W') (by have := HL.out; omega) (cs := madeCells #[.bool false] n) (by rw [made_rep]; simp) (by rw [HL.out]; exact hh)
        rw [List.replicate_succ']; exact this
      · refine Kd.R_move HR.out (fun k_ hk => ?_)
        rw [hh, heap_set_far (p := ⟨w.heap.size, i, none⟩) hk.2]
        exact (Below.refl wr.heap.size wr |>.alloc (Nat.le_refl _) _).block k_ (by have := HSZ.out; omega)
    have HPM2 := Aside0.mk PM
    have HB6 := Aside0.mk ((HB.out.alloc HB.out.size (.cells (madeCells #[.bool false] n) 4 (0, 0))).setCell (p := ⟨w.heap.size, i, none⟩) (Nat.le_refl _) (.slice (some ⟨wr.heap.size, 0, none⟩) n n))
    clear HPA PM HPM HR HB
    go_wp2_with fail
    go_roundg m
    case measure => omega
    case rel =>
      obtain ⟨a, b'⟩ := HPM2.out _ rfl
      exact ⟨i + 1, gs ++ [wr.heap.size], by (try push_cast); (try rfl), ⟨by have := HK.out; omega⟩, ⟨by rw [List.length_append, HL.out]; rfl⟩, ⟨a⟩, ⟨fun c hc => (List.mem_append.1 hc).elim (HBG.out c) (fun h => by rw [List.mem_singleton.1 h]; exact HSZ.out)⟩, ⟨by have := HSZ.out; simp; omega⟩, ⟨b'⟩, HB6⟩
end Go.Proofs.YtoncneglplglhaaDoor.PGraphLoops
