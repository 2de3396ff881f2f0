-- HAND paling/graph.Dominates rounds=1 making=1 needs=paling/graph.Reach;paling/graph.Preds
import Derived.Test.YtoncneglplglhaaDoorPGraphLoopsx0
import Derived.Test.YtoncneglplglhaaDoorPGraphLoopsx2
import Derived.Test.YtoncneglplglhaaDoorPGraphLoopshforms
import Derived.Test.YtoncneglplglhaaDoorPGraphLoopshgmat
import Derived.Test.YtoncneglplglhaaDoorPGraphLoopshgmeet
import Derived.Test.YtoncneglplglhaaDoorPGraphLoopshgpmat
import Derived.Test.YtoncneglplglhaaDoorPGraphLoopshgreach
import Derived.Test.YtoncneglplglhaaDoorPGraphLoopshgwalk
import Derived.Test.YtoncneglplglhaaDoorPGraphLoopshway
import Derived.Test.YtoncneglplglhaaDoorShelf
import Derived.OneCell
import Derived.Laws.MakeOwn
import Derived.Deep.OwnRows
import Derived.StillTailTactics
namespace Go.Proofs.YtoncneglplglhaaDoor.PGraphLoops
open Go.RowKit Go.Proofs.YtoncneglplglhaaDoorW.PrintWords Go.Proofs.YtoncneglplglhaaDoorW.PrintLast Go.Proofs.YtoncneglplglhaaDoorW.PrintMore
set_option linter.unusedVariables false
set_option linter.unusedSimpArgs false
open Go.Shelf
/-! graph.Dominates: what every way goes over. -/
def ini (re : List Bool) (i j : Int) : Bool := at_ re i && (decide (i > 0) || j == 0)
def iniR (re : List Bool) (n i : Nat) : List Bool := (List.range n).map fun (j : Nat) => ini re (i : Int) (j : Int)
def iniT (re : List Bool) (n : Nat) : List (List Bool) := (List.range n).map (iniR re n)
def iniP (re : List Bool) (n i k : Nat) : List Bool := ((List.range k).map fun (j : Nat) => ini re (i : Int) (j : Int)) ++ List.replicate (n - k) false
theorem iniP_zero (re : List Bool) (n i : Nat) : iniP re n i 0 = List.replicate n false := by simp [iniP]
theorem iniP_done (re : List Bool) (n i : Nat) : iniP re n i n = iniR re n i := by simp [iniP, iniR]
theorem iniP_set (re : List Bool) (n i k : Nat) (hk : k < n) : (iniP re n i k).set k (ini re i k) = iniP re n i (k + 1) := by
  obtain ⟨d, hd⟩ : ∃ d, n - k = d + 1 := ⟨n - k - 1, by omega⟩
  have hd2 : n - (k + 1) = d := by omega
  have := set_here ((List.range k).map fun (j : Nat) => ini re (i : Int) (j : Int)) d false (ini re i k)
  rw [List.length_map, List.length_range] at this
  unfold iniP
  rw [hd, hd2, this, List.range_succ, List.map_append]
  rfl
theorem iniT_succ (re : List Bool) (n i : Nat) : (List.range (i + 1)).map (iniR re n) = (List.range i).map (iniR re n) ++ [iniR re n i] := by
  rw [List.range_succ, List.map_append]; rfl
def graph_Dominates.f (k : Nat) (l0 : List S37) : Option (List (List Bool)) :=
  if l0.length ≤ 1000000 then (graph_Reach.f k l0).bind fun re => (graph_Preds.f k l0).bind fun P =>
    if P.length = l0.length ∧ re.length = l0.length ∧ (∀ l ∈ P, ∀ x ∈ l, 0 ≤ x ∧ x < (l0.length : Int)) then domGo (fun j => P.getD j.toNat []) re l0.length k (iniT re l0.length) else none
  else none
theorem domGo.mono (pr : Int → List Int) (re : List Bool) (n : Nat) : ∀ k R, LeO (domGo pr re n k R) (domGo pr re n (k + 1) R)
  | 0, R, r, h => by simp [domGo] at h
  | k + 1, R, r, h => by
    rw [domGo] at h ⊢
    by_cases h1 : (passGo pr re n (n - 1) R 1 false).2 = true
    · rw [if_pos h1] at h ⊢; exact domGo.mono pr re n k _ r h
    · rw [if_neg h1] at h ⊢; exact h
theorem graph_Dominates.mono : ∀ a0 k, LeO (graph_Dominates.f k a0) (graph_Dominates.f (k + 1) a0) := fun a0 k r h => by
  unfold graph_Dominates.f at h ⊢
  by_cases h1 : a0.length ≤ 1000000
  · rw [if_pos h1] at h ⊢
    obtain ⟨re, e1, h⟩ := Option.bind_eq_some_iff.1 h
    obtain ⟨P, e2, h⟩ := Option.bind_eq_some_iff.1 h
    refine Option.bind_eq_some_iff.2 ⟨re, graph_Reach.mono _ _ _ e1, Option.bind_eq_some_iff.2 ⟨P, graph_Preds.mono _ _ _ e2, ?_⟩⟩
    by_cases h2 : P.length = a0.length ∧ re.length = a0.length ∧ (∀ l ∈ P, ∀ x ∈ l, 0 ≤ x ∧ x < (a0.length : Int))
    · rw [if_pos h2] at h ⊢; exact domGo.mono _ _ _ k _ r h
    · rw [if_neg h2] at h; exact absurd h (by simp)
  · rw [if_neg h1] at h; exact absurd h (by simp)
theorem infoRB : (Tryd.prog.info? 25).map (fun i => (i.zero, i.size, i.bytes)) = some (some (.slice none 0 0), 1, 24) := by kernel_rfl
theorem made_rep (v : Value) (n : Nat) : madeCells #[v] n = (List.replicate n v).toArray := by
  apply Array.ext'
  apply List.ext_getElem?
  intro j
  by_cases hj : j < n
  · simp [madeCells, hj, Nat.mod_one]
  · simp [madeCells, hj]
set_option maxHeartbeats 8000000 in
set_option maxRecDepth 100000 in
theorem graph_Dominates.calls (k : Nat) (A0 : Option Addr) (c0 : Nat) (l0 : List S37) (r : List (List Bool)) (w : World) (hr0 : Kd.C k37 w A0 l0.length l0) (hc0 : l0.length ≤ c0) (h : graph_Dominates.f k l0 = some r) (hgl : GlobOK w) :
    Calls Tryd.prog 14 #[.slice A0 l0.length c0] w fun e w' => ∃ v0_ : Value, e = .returned (v0_) ∧ Kd.S (Kd.slice 4 Kd.bool) 25 w' w.heap.size (fun _ => True) v0_ r ∧ Below w.heap.size w w' := by
  unfold graph_Dominates.f at h
  have hmf : ∀ (fn : Fn) (first cap : Array Value) (w : World), (Instr.makeFunc fn first cap).run Tryd.prog w = .ok (.func fn first cap) w := fun _ _ _ _ => rfl
  by_cases h1 : l0.length ≤ 1000000
  case neg => rw [if_neg h1] at h; exact absurd h (by simp)
  rw [if_pos h1] at h
  obtain ⟨re, e1, h⟩ := Option.bind_eq_some_iff.1 h
  obtain ⟨P, e2, h⟩ := Option.bind_eq_some_iff.1 h
  by_cases h2 : P.length = l0.length ∧ re.length = l0.length ∧ (∀ l ∈ P, ∀ x ∈ l, 0 ≤ x ∧ x < (l0.length : Int))
  case neg => rw [if_neg h2] at h; exact absurd h (by simp)
  rw [if_pos h2] at h
  obtain ⟨hPl, hrl, hPi⟩ := h2
  obtain ⟨n, hn⟩ : ∃ n, n = l0.length := ⟨_, rfl⟩
  obtain ⟨pr, hpr⟩ : ∃ pr : Int → List Int, pr = fun j => P.getD j.toNat [] := ⟨_, rfl⟩
  have CR := Aside0.mk (graph_Reach.calls k A0 c0 l0 re w hr0 hc0 e1 hgl)
  have CP := Aside0.mk (fun W (hb : Below w.heap.size w W) => graph_Preds.calls k A0 c0 l0 P W (Kd.C_below hr0 hb) hc0 e2 (hgl.step hb))
  rw [← hpr, ← hn] at h
  rw [← hn] at hPl hrl hPi h1 CR CP hc0 ⊢
  have H := Aside0.mk h
  have HPR := Aside0.mk (fun j => congrFun hpr j)
  have HPL := Aside0.mk hPl
  have HRL := Aside0.mk hrl
  have HPI := Aside0.mk hPi
  have HN := Aside0.mk h1
  have hmt : ∀ W : World, (Instr.makeSlice 31 (.int .i64 (n : Int)) (.int .i64 (n : Int))).run Tryd.prog W = .ok (.slice (some ⟨W.heap.size, 0, none⟩) n n) (W.alloc (.cells (madeCells #[.slice none 0 0] n) 25)) := fun W => run_make_row' 31 25 _ 24 Tryd.underlying31 infoRB rfl .i64 .i64 n (by omega) (by omega) W
  have hmr : ∀ W : World, (Instr.makeSlice 25 (.int .i64 (n : Int)) (.int .i64 (n : Int))).run Tryd.prog W = .ok (.slice (some ⟨W.heap.size, 0, none⟩) n n) (W.alloc (.cells (madeCells #[.bool false] n) 4)) := fun W => run_make_row' 25 4 _ 1 Tryd.underlying25 infoB rfl .i64 .i64 n (by omega) (by omega) W
  clear h hpr hPl hrl hPi h1 e1 e2 hr0 hgl hn hc0
  go_enter Tryd.func14, Tryd.ntmps14
  go_wp2_with (first
    | (go_at_call 9; (with_reducible refine CR.out.mono ?_); rintro e w1 ⟨v1, rfl, hR, hb⟩; obtain ⟨Ar, cr, ev⟩ := Kd.R_slice hR; rw [HRL.out] at ev; subst ev; have HR := Aside0.mk hR; have HB1 := Aside0.mk hb; clear hR hb CR)
    | (go_at_call 12; (with_reducible refine (CP.out _ HB1.out).mono ?_); rintro e w2 ⟨v2, rfl, hS, hb⟩; obtain ⟨Ap, cp, ev⟩ := Kd.S_slice hS; rw [HPL.out] at ev; subst ev; have HS := Aside0.mk hS; have HR2 := Aside0.mk (Kd.R_below HR.out hb); have HB2 := Aside0.mk (below_step HB1.out hb); clear hS hb CP))
  have B41 := blk_alloc (blk_alloc (blk_new w2 (.cells #[.slice Ap n cp] 28 (0, 0))) (.cells (madeCells #[.slice none 0 0] n) 25)) (.cells #[.slice (some ⟨w2.heap.size + 1, 0, none⟩) n n] 31)
  have G1 := blk_alloc (blk_new (w2.alloc (.cells #[.slice Ap n cp] 28)) (.cells (madeCells #[.slice none 0 0] n) 25)) (.cells #[.slice (some ⟨w2.heap.size + 1, 0, none⟩) n n] 31)
  have B51 := blk_new ((w2.alloc (.cells #[.slice Ap n cp] 28)).alloc (.cells (madeCells #[.slice none 0 0] n) 25)) (.cells #[.slice (some ⟨w2.heap.size + 1, 0, none⟩) n n] 31)
  have BL1 : Below w2.heap.size w2 (((w2.alloc (.cells #[.slice Ap n cp] 28)).alloc (.cells (madeCells #[.slice none 0 0] n) 25)).alloc (.cells #[.slice (some ⟨w2.heap.size + 1, 0, none⟩) n n] 31)) := below_alloc (below_alloc (below_alloc (Below.refl _ _) _) _) _
  have es1 : (w2.alloc (.cells #[.slice Ap n cp] 28)).heap.size = w2.heap.size + 1 := by simp
  have es2 : ((w2.alloc (.cells #[.slice Ap n cp] 28)).alloc (.cells (madeCells #[.slice none 0 0] n) 25)).heap.size = w2.heap.size + 1 + 1 := by simp
  rw [es1] at G1
  rw [es2] at B51
  have B41' := Aside0.mk B41
  have G1' := Aside0.mk G1
  have B51' := Aside0.mk B51
  have BL1' := Aside0.mk BL1
  clear es1 es2 B41 G1 B51 BL1
  generalize (((w2.alloc (.cells #[.slice Ap n cp] 28)).alloc (.cells (madeCells #[.slice none 0 0] n) 25)).alloc (.cells #[.slice (some ⟨w2.heap.size + 1, 0, none⟩) n n] 31)) = W3 at B41' G1' B51' BL1' ⊢
  have hgB : w2.heap.size ≤ w2.heap.size + 1 := by omega
  have hB5B : w2.heap.size ≤ w2.heap.size + 1 + 1 := by omega
  have HGB := Aside0.mk hgB
  have HB5B := Aside0.mk hB5B
  clear hgB hB5B
  generalize w2.heap.size + 1 + 1 = B5 at B51' HB5B ⊢
  generalize w2.heap.size + 1 = g at B51' G1' HGB ⊢
  go_loopg [20] n (fun kq v20 wr => ∃ (i : Nat) (gs : List Nat), v20 = .int .i64 (i : Int) ∧ Aside0 (i + kq = n) ∧ Aside0 (gs.length = i) ∧ Aside0 (PMat wr g gs n ((List.range i).map (iniR re n))) ∧ Aside0 (∀ b ∈ gs, w2.heap.size ≤ b) ∧ Aside0 (Below w2.heap.size w2 wr) ∧ Aside0 (wr.heap[w2.heap.size]? = some (.cells #[.slice Ap n cp] 28 (0, 0))) ∧ Aside0 (wr.heap[B5]? = some (.cells #[.slice (some ⟨g, 0, none⟩) n n] 31 (0, 0))))
  case atStart => exact ⟨0, [], rfl, ⟨by omega⟩, ⟨rfl⟩, ⟨PMat.start (by rw [made_rep] at G1'; exact G1'.out)⟩, ⟨fun b hb => absurd hb (by simp)⟩, BL1', B41', B51'⟩
  case round =>
    clear G1' B41' B51' BL1'
    obtain ⟨i, gs, rfl, HK, HL, HPM, HBG, HBW, H4, H5⟩ := hrel
    have hi0 : (0 : Int) ≤ (i : Int) := by omega
    have c5 : wr.cell? ⟨B5, 0, none⟩ = some (.slice (some ⟨g, 0, none⟩) n n) := cell_of_one H5.out
    by_cases hlt : (i : Int) < (n : Int)
    case neg =>
      have hin : i = n := by have := HK.out; omega
      have hMT : Mat wr g gs n (iniT re n) := by
        have := HPM.out
        rw [hin] at this
        exact this.done (HL.out.trans hin)
      have HMT := Aside0.mk hMT
      clear HPM HL HK hin hMT c5
      go_wp2_with fail
      go_loopg [9] k (fun kq v9 wr => ∃ (R : List (List Bool)) (c : Bool), v9 = .bool c ∧ Aside0 (if c = true then domGo pr re n kq R = some r else R = r) ∧ Aside0 (Mat wr g gs n R) ∧ Aside0 (Below w2.heap.size w2 wr) ∧ Aside0 (wr.heap[w2.heap.size]? = some (.cells #[.slice Ap n cp] 28 (0, 0))) ∧ Aside0 (wr.heap[B5]? = some (.cells #[.slice (some ⟨g, 0, none⟩) n n] 31 (0, 0))))
      case atStart => exact ⟨_, true, rfl, ⟨by rw [if_pos rfl]; exact H.out⟩, HMT, HBW, H4, H5⟩
      case round =>
        clear H HMT HBW H4 H5
        obtain ⟨R, c, rfl, HA, HM, HBW, H4, H5⟩ := hrel
        cases c with
        | false =>
          have hR := HA.out
          rw [if_neg (by simp)] at hR
          subst hR
          have c5 : wr.cell? ⟨B5, 0, none⟩ = some (.slice (some ⟨g, 0, none⟩) n n) := cell_of_one H5.out
          go_wp2_with fail
          go_ret
          exact ⟨_, rfl, HM.out.S (Nat.le_trans HB2.out.size HGB.out) (fun b hb => Nat.le_trans HB2.out.size (HBG.out b hb)) HN.out, below_step HB2.out HBW.out⟩
        | true =>
          have hA := HA.out
          rw [if_pos rfl] at hA
          cases gk with
          | zero => exact absurd hA (by simp [domGo])
          | succ kk =>
          rw [domGo] at hA
          have HA' := Aside0.mk hA
          clear HA hA
          go_wp2_with fail
          go_loopg [9, 10] (n - 1) (fun kq v9 v10 wr => ∃ (R' : List (List Bool)) (i : Nat) (c : Bool), v9 = .bool c ∧ v10 = .int .i64 (i : Int) ∧ Aside0 (1 ≤ i) ∧ Aside0 (kq = n - i) ∧ Aside0 (passGo pr re n kq R' i c = passGo pr re n (n - 1) R 1 false) ∧ Aside0 (Mat wr g gs n R') ∧ Aside0 (Below w2.heap.size w2 wr) ∧ Aside0 (wr.heap[w2.heap.size]? = some (.cells #[.slice Ap n cp] 28 (0, 0))) ∧ Aside0 (wr.heap[B5]? = some (.cells #[.slice (some ⟨g, 0, none⟩) n n] 31 (0, 0))))
          case atStart => exact ⟨R, 1, false, rfl, rfl, ⟨Nat.le_refl _⟩, ⟨rfl⟩, ⟨rfl⟩, HM, HBW, H4, H5⟩
          case round =>
            clear HM HBW H4 H5
            obtain ⟨R', i, c, rfl, rfl, HI1, HK, HE, HM, HBW, H4, H5⟩ := hrel
            have hi0 : (0 : Int) ≤ (i : Int) := by omega
            by_cases hlt : (i : Int) < (n : Int)
            case neg =>
              have hk0 : gk = 0 := by have := HK.out; omega
              have he := HE.out
              rw [hk0, passGo] at he
              have HE' := Aside0.mk he
              clear HE he HK hk0
              go_wp2_with fail
              go_roundg kk
              case measure => omega
              case rel => exact ⟨R', c, rfl, ⟨by have h1 := HA'.out; rw [← HE'.out] at h1; cases c with
                | true => rw [if_pos rfl] at h1 ⊢; exact h1
                | false => rw [if_neg (by simp)] at h1 ⊢; exact Option.some.inj h1⟩, HM, HBW, H4, H5⟩
            cases gk with
            | zero => exact absurd HK.out (by omega)
            | succ m =>
            have he := HE.out
            rw [passGo] at he
            have h63 : (i : Int) + 1 ≤ 1000000 := by have := HN.out; omega
            obtain ⟨ad, rfl, hx⟩ := Kd.at_bool (Kd.C_below (Kd.R_reads' HR2.out).2.2 HBW.out) i hi0 (by have := HRL.out; omega)
            rw [Int.toNat_natCast, show rdOf false re (i : Int) = at_ re i from rfl] at hx
            by_cases hre : at_ re (i : Int) = true
            case neg =>
              rw [if_neg hre] at he
              have hre' : at_ re (i : Int) = false := by simpa using hre
              rw [hre'] at hx
              have HE' := Aside0.mk he
              clear he HE hre hre'
              go_wp2_with fail
              go_roundg m
              case measure => omega
              case rel => exact ⟨R', i + 1, c, rfl, by (try push_cast); (try rfl), ⟨by omega⟩, ⟨by have := HK.out; omega⟩, ⟨by have := HE'.out; (try push_cast); exact this⟩, HM, HBW, H4, H5⟩
            rw [if_pos hre] at he
            rw [hre] at hx
            have MC := meet.calls wr w2.heap.size g n w2.heap.size B5 gs R' P pr HPR.out Ap cp i HM.out H5.out H4.out HBW.out.size HBG.out (fun W' hb => by have h2 := (Kd.S_reads' HS.out).2.2; rw [HPL.out] at h2; exact Kd.C_below h2 (HBW.out.trans hb)) HPL.out HPI.out hi0 hlt HN.out
            obtain ⟨⟨q1, q2⟩, hq⟩ : ∃ q, q = meetGo pr i n R' 0 false := ⟨_, rfl⟩
            rw [← hq] at he MC
            have HE' := Aside0.mk he
            have MC' := Aside0.mk MC
            clear he HE hre hq MC
            go_wp2_with fail
            refine MC'.out.mono ?_
            rintro e w3 ⟨rfl, hM, hK, hb⟩
            have HM3 := Aside0.mk hM
            have HBW3 := Aside0.mk (HBW.out.trans hb)
            have H43 := Aside0.mk (blk_kept H4.out hK (fun hm => HM.out.ne hm H4.out (by decide) rfl))
            have H53 := Aside0.mk (blk_kept H5.out hK (fun hm => HM.out.ne hm H5.out (by decide) rfl))
            clear hM hK hb MC' hx
            cases q2 with
            | false =>
              go_wp2_with fail
              go_roundg m
              case measure => omega
              case rel => exact ⟨q1, i + 1, c, rfl, by (try push_cast); (try rfl), ⟨by omega⟩, ⟨by have := HK.out; omega⟩, ⟨by have := HE'.out; rw [Bool.or_false] at this; (try push_cast); exact this⟩, HM3, HBW3, H43, H53⟩
            | true =>
              go_wp2_with fail
              go_roundg m
              case measure => omega
              case rel => exact ⟨q1, i + 1, true, rfl, by (try push_cast); (try rfl), ⟨by omega⟩, ⟨by have := HK.out; omega⟩, ⟨by have := HE'.out; rw [Bool.or_true] at this; (try push_cast); exact this⟩, HM3, HBW3, H43, H53⟩
    cases gk with
    | zero => exact absurd HK.out (by omega)
    | succ m =>
    obtain ⟨p1, p2⟩ := HPM.out.at (by have := HL.out; omega)
    rw [HL.out] at p1 p2
    unfold nilRowV at p1
    have HPA := HPM.out.below (W' := wr.alloc (.cells (madeCells #[.bool false] n) 4)) ((Below.refl _ _).alloc (Nat.le_refl _) _)
    obtain ⟨p3, p4⟩ := HPA.at (by have := HL.out; omega)
    rw [HL.out] at p3 p4
    unfold nilRowV at p3
    have c5a : (wr.alloc (.cells (madeCells #[.bool false] n) 4)).cell? ⟨B5, 0, none⟩ = some (.slice (some ⟨g, 0, none⟩) n n) := cell_of_one (blk_alloc H5.out _)
    clear HPA
    have ht : ((i : Int)).toNat = i := rfl
    go_wp2_with fail
    go_region
    have hgB5 : g ≠ B5 := blk_ne HPM.out.top H5.out (by decide)
    have hgB4 : g ≠ w2.heap.size := blk_ne HPM.out.top H4.out (by decide)
    have PM1 : PMat ((wr.alloc (.cells (madeCells #[.bool false] n) 4)).setCell ⟨g, i, none⟩ (.slice (some ⟨wr.heap.size, 0, none⟩) n n)).drew g (gs ++ [wr.heap.size]) n ((List.range i).map (iniR re n) ++ [List.replicate n false]) :=
      HPM.out.push (by have := HL.out; omega) (cs := madeCells #[.bool false] n) (by rw [made_rep]; simp) (by rw [HL.out]; rfl)
    have H51 : ((wr.alloc (.cells (madeCells #[.bool false] n) 4)).setCell ⟨g, i, none⟩ (.slice (some ⟨wr.heap.size, 0, none⟩) n n)).drew.heap[B5]? = some (.cells #[.slice (some ⟨g, 0, none⟩) n n] 31 (0, 0)) := blk_far (blk_alloc H5.out _) (fun e => hgB5 e.symm) _
    have H41 : ((wr.alloc (.cells (madeCells #[.bool false] n) 4)).setCell ⟨g, i, none⟩ (.slice (some ⟨wr.heap.size, 0, none⟩) n n)).drew.heap[w2.heap.size]? = some (.cells #[.slice Ap n cp] 28 (0, 0)) := blk_far (blk_alloc H4.out _) (fun e => hgB4 e.symm) _
    have HBW1 : Below w2.heap.size w2 ((wr.alloc (.cells (madeCells #[.bool false] n) 4)).setCell ⟨g, i, none⟩ (.slice (some ⟨wr.heap.size, 0, none⟩) n n)).drew := below_drewN' ((HBW.out.alloc HBW.out.size _).setCell (p := ⟨g, i, none⟩) HGB.out _) 1
    have hbn : w2.heap.size ≤ wr.heap.size := HBW.out.size
    have HM1 := Aside0.mk PM1
    have H51' := Aside0.mk H51
    have H41' := Aside0.mk H41
    have HBW1' := Aside0.mk HBW1
    have HBN := Aside0.mk hbn
    have HGB5 := Aside0.mk hgB5
    have HGB4 := Aside0.mk hgB4
    clear PM1 H51 H41 HBW1 hbn hgB5 hgB4 p1 p2 p3 p4 c5a c5 HPM H5 H4 HBW
    generalize ((wr.alloc (.cells (madeCells #[.bool false] n) 4)).setCell ⟨g, i, none⟩ (.slice (some ⟨wr.heap.size, 0, none⟩) n n)).drew = W1 at HM1 H51' H41' HBW1' ⊢
    generalize wr.heap.size = b at HM1 HBN ⊢
    have c5 : W1.cell? ⟨B5, 0, none⟩ = some (.slice (some ⟨g, 0, none⟩) n n) := cell_of_one H51'.out
    have cl := HM1.out.last
    rw [HL.out] at cl
    unfold rowV at cl
    rw [← iniP_zero re n i] at HM1
    go_wp2_with fail
    clear c5 cl
    go_loopg [34] n (fun kq v34 wr => ∃ (k' : Nat), v34 = .int .i64 (k' : Int) ∧ Aside0 (k' + kq = n) ∧ Aside0 (PMat wr g (gs ++ [b]) n ((List.range i).map (iniR re n) ++ [iniP re n i k'])) ∧ Aside0 (Below w2.heap.size w2 wr) ∧ Aside0 (wr.heap[w2.heap.size]? = some (.cells #[.slice Ap n cp] 28 (0, 0))) ∧ Aside0 (wr.heap[B5]? = some (.cells #[.slice (some ⟨g, 0, none⟩) n n] 31 (0, 0))))
    case atStart => exact ⟨0, rfl, ⟨by omega⟩, HM1, HBW1', H41', H51'⟩
    case round =>
      clear HM1 HBW1' H41' H51'
      obtain ⟨k', rfl, HK', HPM, HBW, H4, H5⟩ := hrel
      have hk0 : (0 : Int) ≤ (k' : Int) := by omega
      by_cases hlk : (k' : Int) < (n : Int)
      case neg =>
        have hkn : k' = n := by have := HK'.out; omega
        rw [hkn] at HPM
        have h63 : (i : Int) + 1 ≤ 1000000 := by have := HN.out; omega
        go_wp2_with fail
        go_roundg m
        case measure => omega
        case rel => exact ⟨i + 1, gs ++ [b], by (try push_cast); (try rfl), ⟨by have := HK.out; omega⟩, ⟨by rw [List.length_append, HL.out]; rfl⟩, ⟨by rw [iniT_succ, ← iniP_done]; exact HPM.out⟩, ⟨fun c hc => (List.mem_append.1 hc).elim (HBG.out c) (fun h => by rw [List.mem_singleton.1 h]; exact HBN.out)⟩, HBW, H4, H5⟩
      cases gk with
      | zero => exact absurd HK'.out (by omega)
      | succ m2 =>
      have c5 : wr.cell? ⟨B5, 0, none⟩ = some (.slice (some ⟨g, 0, none⟩) n n) := cell_of_one H5.out
      have cl := HPM.out.last
      rw [HL.out] at cl
      unfold rowV at cl
      obtain ⟨⟨v0, q1⟩, q2⟩ := HPM.out.lastcell (k := k') (by omega)
      obtain ⟨ad, rfl, hx⟩ := Kd.at_bool (Kd.C_below (Kd.R_reads' HR2.out).2.2 HBW.out) i hi0 (by have := HRL.out; omega)
      rw [Int.toNat_natCast] at hx
      have PMP : Aside0 (∀ (v : Bool) (W' : World), ini re i k' = v → W'.heap = (wr.setCell ⟨b, k', none⟩ (.bool v)).heap → PMat W' g (gs ++ [b]) n ((List.range i).map (iniR re n) ++ [iniP re n i (k' + 1)])) := ⟨fun v W' e hh => by have h2 := HPM.out.put (k := k') (v := v) hh; rw [← e, iniP_set re n i k' (by omega)] at h2; exact h2⟩
      have hbb : b ≠ B5 := HPM.out.ne (by simp) H5.out (by decide)
      have hbb4 : b ≠ w2.heap.size := HPM.out.ne (by simp) H4.out (by decide)
      have HBB := Aside0.mk hbb
      have HBB4 := Aside0.mk hbb4
      obtain ⟨v, hv⟩ : ∃ v, v = rdOf false re i := ⟨_, rfl⟩
      rw [← hv] at hx
      have HV := Aside0.mk hv
      clear hv hbb hbb4
      have hbN : k' + 1 ≤ 1000000 := by have := HN.out; omega
      go_wp2_with fail
      cases v with
      | false =>
        have HIN : Aside0 (ini re i k' = false) := ⟨by unfold ini; rw [show at_ re (i : Int) = _ from HV.out.symm]; rfl⟩
        go_region
        go_wp2_with fail
        go_roundg m2
        case measure => omega
        case rel => exact ⟨k' + 1, by (try push_cast); (try rfl), ⟨by have := HK'.out; omega⟩, ⟨PMP.out false _ HIN.out rfl⟩, ⟨below_drewN' (HBW.out.setCell (p := ⟨b, k', none⟩) HBN.out _) 1⟩, ⟨blk_far (p := ⟨b, k', none⟩) H4.out (fun e => HBB4.out e.symm) _⟩, ⟨blk_far (p := ⟨b, k', none⟩) H5.out (fun e => HBB.out e.symm) _⟩⟩
      | true =>
        by_cases hgt : 0 < i
        · have hd : decide ((i : Int) > 0) = true := decide_eq_true (by omega)
          have hd' : decide (0 < i) = true := decide_eq_true hgt
          have HIN : Aside0 (ini re i k' = true) := ⟨by unfold ini; rw [show at_ re (i : Int) = _ from HV.out.symm]; rw [hd]; rfl⟩
          have hgt2 : (0 : Int) < (i : Int) := by omega
          clear HV
          go_region
          go_wp2_with fail
          go_roundg m2
          case measure => omega
          case rel => exact ⟨k' + 1, by (try push_cast); (try rfl), ⟨by have := HK'.out; omega⟩, ⟨PMP.out true _ HIN.out rfl⟩, ⟨below_drewN' (HBW.out.setCell (p := ⟨b, k', none⟩) HBN.out _) 1⟩, ⟨blk_far (p := ⟨b, k', none⟩) H4.out (fun e => HBB4.out e.symm) _⟩, ⟨blk_far (p := ⟨b, k', none⟩) H5.out (fun e => HBB.out e.symm) _⟩⟩
        · have hd : decide ((i : Int) > 0) = false := decide_eq_false (by omega)
          have hd' : decide (0 < i) = false := decide_eq_false hgt
          have hgt2 : ¬ (0 : Int) < (i : Int) := by omega
          by_cases hk00 : k' = 0
          · have hd2 : ((k' : Int) == 0) = true := by simpa using hk00
            have hd2' : decide (k' = 0) = true := decide_eq_true hk00
            have hd3 : (k' == 0) = true := by simpa using hk00
            have HIN : Aside0 (ini re i k' = true) := ⟨by unfold ini; rw [show at_ re (i : Int) = _ from HV.out.symm]; rw [hd, hd2]; rfl⟩
            clear hk00 hgt
            clear HV
            go_region
            go_wp2_with fail
            go_roundg m2
            case measure => omega
            case rel => exact ⟨k' + 1, by (try push_cast); (try rfl), ⟨by have := HK'.out; omega⟩, ⟨PMP.out true _ HIN.out rfl⟩, ⟨below_drewN' (HBW.out.setCell (p := ⟨b, k', none⟩) HBN.out _) 1⟩, ⟨blk_far (p := ⟨b, k', none⟩) H4.out (fun e => HBB4.out e.symm) _⟩, ⟨blk_far (p := ⟨b, k', none⟩) H5.out (fun e => HBB.out e.symm) _⟩⟩
          · have hd2 : ((k' : Int) == 0) = false := by simpa using hk00
            have hd2' : decide (k' = 0) = false := decide_eq_false hk00
            have hd3 : (k' == 0) = false := by simpa using hk00
            have HIN : Aside0 (ini re i k' = false) := ⟨by unfold ini; rw [show at_ re (i : Int) = _ from HV.out.symm]; rw [hd, hd2]; rfl⟩
            clear hk00 hgt
            clear HV
            go_region
            go_wp2_with fail
            go_roundg m2
            case measure => omega
            case rel => exact ⟨k' + 1, by (try push_cast); (try rfl), ⟨by have := HK'.out; omega⟩, ⟨PMP.out false _ HIN.out rfl⟩, ⟨below_drewN' (HBW.out.setCell (p := ⟨b, k', none⟩) HBN.out _) 1⟩, ⟨blk_far (p := ⟨b, k', none⟩) H4.out (fun e => HBB4.out e.symm) _⟩, ⟨blk_far (p := ⟨b, k', none⟩) H5.out (fun e => HBB.out e.symm) _⟩⟩
end Go.Proofs.YtoncneglplglhaaDoor.PGraphLoops
