import Derived.Test.YtoncneglplglhaaDoorPGraphLoopsx0
import Derived.Test.YtoncneglplglhaaDoorPGraphLoopshgmat
import Derived.Test.YtoncneglplglhaaDoorPGraphLoopshway
import Derived.Test.YtoncneglplglhaaDoorShelf
import Derived.OneCell
import Derived.Deep.QuietTactic
import Derived.BigQuiet
namespace Go.Proofs.YtoncneglplglhaaDoor.PGraphLoops
open Go.RowKit Go.Proofs.YtoncneglplglhaaDoorW.PrintWords Go.Proofs.YtoncneglplglhaaDoorW.PrintLast Go.Proofs.YtoncneglplglhaaDoorW.PrintMore
set_option linter.unusedVariables false
set_option linter.unusedSimpArgs false
open Go.Shelf Go.Sort
/-! Dominates' closure meet: one place's turn. -/
theorem preds_at {W : World} {n : Nat} {P : List (List Int)} {Ap : Option Addr} (h : (Kd.slice 3 (Kd.int .i64)).C W Ap n P) (hl : P.length = n) {i : Int} (h0 : 0 ≤ i) (h1 : i < (n : Int)) :
    ∃ (ad : Addr) (A : Option Addr) (c : Nat), Ap = some ad ∧ W.cell? (ad.add i.toNat) = some (.slice A (P.getD i.toNat []).length c) ∧ (P.getD i.toNat []).length ≤ c ∧ (Kd.int .i64).C W A (P.getD i.toNat []).length (P.getD i.toNat []) := by
  have hpos : 0 < n := by omega
  obtain ⟨ad, e1, hcell⟩ := h.2.2 hpos
  have hi : i.toNat < P.length := by omega
  obtain ⟨cs, hc1, ⟨A, c, rfl, hle, hC⟩, hc3⟩ := hcell i.toNat P[i.toNat] (List.getElem?_eq_getElem hi)
  have e2 : P.getD i.toNat [] = P[i.toNat] := by rw [List.getD_eq_getElem?_getD, List.getElem?_eq_getElem hi]; rfl
  rw [e2]
  refine ⟨ad, A, c, e1, ?_, hle, hC⟩
  have := hc3 0 _ rfl
  rw [Nat.add_zero, show (Kd.slice 3 (Kd.int .i64)).sz = 1 from rfl, Nat.mul_one] at this
  exact this
set_option maxHeartbeats 1000000 in
theorem contains_nil (a : Option Addr) (c : Nat) (fv : Value) (w : World) : Calls Tryd.prog 28 #[.slice a 0 c, fv] w fun e w' => e = .returned (.bool false) ∧ ∃ q, w' = w.drewN q := by
  have hcon := fun W => Tryd.slices_IndexFunc_empty (α := Int) a c fv W
  go_enter Tryd.func28, Tryd.ntmps28
  go_wp2_with (go_at_call 37; refine (hcon _).mono ?_; rintro e w' ⟨rfl, rfl⟩)
  go_ret
  exact ⟨rfl, 0, rfl⟩
theorem contains_any (g : Nat) (lb : Array Value) (eg : ∀ args w, (callFunc g args).run Tryd.prog w = .ok (.enter g args) w) (p : Int → Bool) (A : Option Addr) (c n : Nat) (l : List Int) (W : World) (hC : (Kd.int .i64).C W A l.length l) (hl : ∀ x ∈ l, 0 ≤ x ∧ x < (n : Int))
    (hp : ∀ W' x, Below W.heap.size W W' → 0 ≤ x → x < (n : Int) → FnGives Tryd.prog g lb #[.int .i64 x] (.bool (p x)) W') :
    Calls Tryd.prog 28 #[.slice A l.length c, .func (.func g) #[] lb] W fun e w' => e = .returned (.bool (l.any p)) ∧ ∃ q, w' = W.drewN q := by
  by_cases h0 : l = []
  · subst h0; exact contains_nil A c _ W
  · have hpos : 0 < l.length := List.length_pos_iff.2 h0
    have hn : 0 < n := by
      have := hl _ (List.getElem_mem hpos)
      omega
    obtain ⟨a, rfl, hcell⟩ := hC.2.2 hpos
    have hcells : ∀ (j : Nat) (x : Int), l[j]? = some x → W.cell? (a.add j) = some (.int .i64 x) := fun j x hj => by
      obtain ⟨c, hc1, hc2, hc3⟩ := hcell j x hj
      have := hc3 0 (.int .i64 x) (by rw [hc2]; rfl)
      rw [Nat.add_zero, show (Kd.int .i64).sz = 1 from rfl, Nat.mul_one] at this
      exact this
    obtain ⟨b, o, sp⟩ := a
    have hc00 : W.cell? ⟨b, o, sp⟩ = some (.int .i64 l[0]) := hcells 0 _ (List.getElem?_eq_getElem hpos)
    have hsp : sp = none := by
      cases sp with
      | none => rfl
      | some s => exact absurd hc00 (by unfold World.cell?; split <;> simp)
    subst hsp
    haveI : Inhabited (Fin n) := ⟨⟨0, hn⟩⟩
    have hz : ∀ x : Int, 0 ≤ x → x < (n : Int) → (((⟨x.toNat % n, Nat.mod_lt _ hn⟩ : Fin n).val : Nat) : Int) = x := fun x h0 h1 => by
      show ((x.toNat % n : Nat) : Int) = x
      rw [Nat.mod_eq_of_lt (by omega)]; omega
    have c1 := Tryd.slices_ContainsFunc (α := Fin n) (fun x => .int .i64 (x.val : Int)) (fun x => p (x.val : Int)) g lb eg b o l.length c (l.map fun x => ⟨x.toNat % n, Nat.mod_lt _ hn⟩) W
      (fun W' x hb => hp W' _ hb (by omega) (by have := x.isLt; omega)) (by simp) (by have := hC.2.1; omega)
      (fun j hj => by
        have hj' : j < l.length := by simpa using hj
        have h1 := hcells j _ (List.getElem?_eq_getElem hj')
        have hm := hl _ (List.getElem_mem hj')
        have e1 : (⟨b, o + j, none⟩ : Addr) = (⟨b, o, none⟩ : Addr).add j := by
          unfold Addr.add
          by_cases h0 : j = 0
          · subst h0; simp
          · rw [if_neg h0]
        rw [e1, h1, getElem!_pos _ j hj, List.getElem_map, hz _ hm.1 hm.2])
    refine c1.mono ?_
    rintro e w' ⟨rfl, hw⟩
    refine ⟨?_, hw⟩
    rw [List.take_of_length_le (by simp), List.any_map]
    congr 2
    rw [Bool.eq_iff_iff, List.any_eq_true, List.any_eq_true]
    constructor
    · rintro ⟨x, hx, h⟩
      have hm := hl x hx
      refine ⟨x, hx, ?_⟩
      rw [Function.comp_apply, hz x hm.1 hm.2] at h
      exact h
    · rintro ⟨x, hx, h⟩
      have hm := hl x hx
      refine ⟨x, hx, ?_⟩
      rw [Function.comp_apply, hz x hm.1 hm.2]
      exact h
theorem meetGo_no {pr : Int → List Int} {i : Int} {m : Nat} {R : List (List Bool)} {k : Nat} {ch : Bool} {q} (h : meetGo pr i (m + 1) R k ch = q) (hm : meetC pr i R k = false) : meetGo pr i m R ((k + 1 : Nat) : Int) ch = q := by
  rw [meetGo, meetK, hm, if_neg (by simp), Bool.or_false] at h
  exact h
theorem meetGo_yes {pr : Int → List Int} {i : Int} {m : Nat} {R : List (List Bool)} {k : Nat} {ch : Bool} {q} (h : meetGo pr i (m + 1) R k ch = q) (hm : meetC pr i R k = true) : meetGo pr i m (setv R i k false) ((k + 1 : Nat) : Int) true = q := by
  rw [meetGo, meetK, hm, if_pos rfl, Bool.or_true] at h
  exact h
set_option maxHeartbeats 8000000 in
set_option maxRecDepth 100000 in
theorem meet.calls (W : World) (B : Nat) (g n B4 B5 : Nat) (gs : List Nat) (R : List (List Bool)) (P : List (List Int)) (pr : Int → List Int) (hpr : ∀ j, pr j = P.getD j.toNat []) (Ap : Option Addr) (cp : Nat) (i : Int) (h : Mat W g gs n R) (h5 : W.heap[B5]? = some (.cells #[.slice (some ⟨g, 0, none⟩) n n] 31 (0, 0))) (h4 : W.heap[B4]? = some (.cells #[.slice Ap n cp] 28 (0, 0)))
    (hBW : B ≤ W.heap.size) (hBg : ∀ b ∈ gs, B ≤ b) (hP : ∀ W', Below B W W' → (Kd.slice 3 (Kd.int .i64)).C W' Ap n P) (hPl : P.length = n) (hPin : ∀ l ∈ P, ∀ x ∈ l, 0 ≤ x ∧ x < (n : Int)) (i0 : 0 ≤ i) (i1 : i < (n : Int)) (hn : n ≤ 1000000) :
    Calls Tryd.prog 26 #[.int .i64 i, .pointer (some ⟨B5, 0, none⟩), .pointer (some ⟨B4, 0, none⟩)] W fun e w' => e = .returned (.bool (meetGo pr i n R 0 false).2) ∧ Mat w' g gs n (meetGo pr i n R 0 false).1 ∧ Kept W w' (fun b => b ∈ gs) ∧ Below B W w' := by
  have HP := Aside0.mk hP
  have HPR := Aside0.mk hpr
  have HPI := Aside0.mk hPin
  have HPL := Aside0.mk hPl
  have HM := Aside0.mk h
  have H4 := Aside0.mk h4
  have H5 := Aside0.mk h5
  have HN := Aside0.mk hn
  have HBW := Aside0.mk hBW
  have HBG := Aside0.mk hBg
  obtain ⟨bi, hbi, c1⟩ := h.at i0 i1
  have HBI := Aside0.mk hbi
  have c5 : W.cell? ⟨B5, 0, none⟩ = some (.slice (some ⟨g, 0, none⟩) n n) := cell_of_one h5
  unfold rowV at c1
  clear hP hpr hPin hPl h h4 h5 hbi hn hBW hBg
  go_enter Tryd.func26, Tryd.ntmps26
  go_wp2_with fail
  go_loopg [5, 13] n (fun kq v5 v13 wr => ∃ (R' : List (List Bool)) (k : Nat) (ch : Bool), v5 = .bool ch ∧ v13 = .int .i64 (k : Int) ∧ Aside0 (k + kq = n) ∧ Aside0 (meetGo pr i kq R' k ch = meetGo pr i n R 0 false) ∧ Aside0 (Mat wr g gs n R') ∧ Aside0 (Kept W wr (fun b => b ∈ gs)) ∧ Aside0 (Below B W wr))
  case atStart => exact ⟨R, 0, false, rfl, rfl, ⟨by omega⟩, ⟨rfl⟩, HM, ⟨Kept.refl _ _⟩, ⟨Below.refl _ _⟩⟩
  case round =>
    obtain ⟨R', k, ch, rfl, rfl, HK, HE, HM', HKE, HBR⟩ := hrel
    have hm' := HM'.out
    obtain ⟨bi', hbi', c1'⟩ := hm'.at i0 i1
    have hbb : bi' = bi := by have := hbi'.symm.trans HBI.out; exact Option.some.inj this
    subst hbb
    have hmem := List.mem_of_getElem? hbi'
    have h5' := blk_kept H5.out HKE.out (fun hb => HM.out.ne hb H5.out (by decide) rfl)
    have h4' := blk_kept H4.out HKE.out (fun hb => HM.out.ne hb H4.out (by decide) rfl)
    have c5' : wr.cell? ⟨B5, 0, none⟩ = some (.slice (some ⟨g, 0, none⟩) n n) := cell_of_one h5'
    have c4' : wr.cell? ⟨B4, 0, none⟩ = some (.slice Ap n cp) := cell_of_one h4'
    unfold rowV at c1'
    have hk0 : (0 : Int) ≤ (k : Int) := by omega
    have he := HE.out
    by_cases hlt : (k : Int) < (n : Int)
    case neg =>
      have hkq : gk = 0 := by have := HK.out; omega
      subst hkq
      rw [meetGo] at he
      clear HK HE
      go_wp2_with fail
      go_ret
      exact ⟨by rw [← he]; rfl, by rw [← he]; exact HM'.out, HKE.out, HBR.out⟩
    cases gk with
    | zero => exact absurd HK.out (by omega)
    | succ m =>
    have hks : k + 1 + m = n := by have := HK.out; omega
    clear HK HE
    -- the pointer of k
    obtain ⟨W1, hW1⟩ : ∃ W1, W1 = wr.alloc (.cells #[.int .i64 (k : Int)] 3 (0, 0)) := ⟨_, rfl⟩
    have hbl : Below wr.heap.size wr W1 := by rw [hW1]; exact (Below.refl _ _).alloc (Nat.le_refl _) _
    have HM1 := hm'.below hbl
    have hk6 : W1.heap[wr.heap.size]? = some (.cells #[.int .i64 (k : Int)] 3 (0, 0)) := by rw [hW1]; exact blk_new wr _
    have h51 := blk_below h5' hbl
    have h41 := blk_below h4' hbl
    have HKE1 := HKE.out.below hbl
    have hbB : Below B W W1 := by rw [hW1]; exact HBR.out.alloc (Nat.le_trans HBW.out HBR.out.size) _
    obtain ⟨x1, x2⟩ := HM1.cell i0 i1 hk0 hlt HBI.out
    have c61 := cell_of_one hk6
    have c51 := cell_of_one h51
    have c41 := cell_of_one h41
    obtain ⟨_, hb2, c11⟩ := HM1.at i0 i1
    obtain rfl := Option.some.inj (hb2.symm.trans HBI.out)
    unfold rowV at c11
    obtain ⟨adp, Al, cl, rfl, cp1, hlc, hCl⟩ := preds_at (HP.out W1 hbB) HPL.out i0 i1
    rw [← HPR.out] at cp1 hlc hCl
    obtain ⟨L, hL⟩ : ∃ L, L = pr i := ⟨_, rfl⟩
    rw [← hL] at cp1 hlc hCl
    have hLin : ∀ x ∈ L, 0 ≤ x ∧ x < (n : Int) := fun x hx => by
      rw [hL, HPR.out] at hx
      have hi : i.toNat < P.length := by have := HPL.out; omega
      rw [List.getD_eq_getElem?_getD, List.getElem?_eq_getElem hi] at hx
      exact HPI.out _ (List.getElem_mem hi) x hx
    have HCT := Aside0.mk (fun (q : Nat) => contains_any 27 #[.pointer (some ⟨B5, 0, none⟩), .pointer (some ⟨wr.heap.size, 0, none⟩)] (enters_of Tryd.func27 (by kernel_rfl) rfl) (fun p => !val R' p k) Al cl n L (W1.drewN q) (Kd.C_below hCl (below_drewN' (Below.refl _ _) q)) hLin
      (fun W' x hb x0 x1 => (missing.calls W' g n B5 wr.heap.size gs R' x k (HM1.below ((below_drewN' (Below.refl _ _) q).trans hb)) (blk_below h51 ((below_drewN' (Below.refl _ _) q).trans hb)) (blk_below hk6 ((below_drewN' (Below.refl _ _) q).trans hb)) x0 x1 hk0 hlt)))
    have HW1 := Aside0.mk hW1
    have HM1' := Aside0.mk HM1
    have HKE1' := Aside0.mk HKE1
    have HBB := Aside0.mk hbB
    have HE := Aside0.mk he
    have HKS := Aside0.mk hks
    have HB1 := Aside0.mk hbl
    have HPL' := Aside0.mk hL
    have hki : (k : Int) < (n : Int) := hlt
    have h63 : k + 1 ≤ 1000000 := by have := HN.out; omega
    obtain ⟨v, hv⟩ : ∃ v, v = val R' i k := ⟨_, rfl⟩
    rw [← hv] at x1
    simp only [Int.toNat_natCast] at x1 x2
    have HV := Aside0.mk hv
    clear hW1 hbl hbB HBR HM1 hk6 h51 h41 HKE1 hb2 hL hlc hCl hLin he hks hv hm' hbi' h5' h4' HM' HKE H4 HP HPI HPL HM c1'
    have hmc : ∀ b, (v && ((k : Int) != i && L.any fun p => !val R' p k)) = b → meetC pr i R' k = b := fun b hb => by unfold meetC; rw [← HV.out, ← HPL'.out]; exact hb
    have HMC := Aside0.mk hmc
    clear hmc
    go_wp2_with fail
    rw [← HW1.out]
    cases v with
    | false =>
      go_wp2_with fail
      go_quiet (fail)
      go_wp2_with fail
      go_roundg m
      case measure => omega
      case rel => exact ⟨R', k + 1, ch, rfl, by (try push_cast); (try rfl), ⟨by have := HKS.out; omega⟩, ⟨meetGo_no HE.out (HMC.out _ rfl)⟩, ⟨HM1'.out.move (fun _ _ => rfl)⟩, ⟨HKE1'.out.drewN _⟩, ⟨below_drewN' HBB.out _⟩⟩
    | true =>
      by_cases hki' : (k : Int) = i
      · have hd : ((k : Int) != i) = false := by simp [hki']
        have hmc := HMC.out false (by rw [hd]; try rfl)
        have HMC' := Aside0.mk hmc
        clear hmc HMC hki'
        go_wp2_with fail
        go_quiet (fail)
        go_wp2_with fail
        go_roundg m
        case measure => omega
        case rel => exact ⟨R', k + 1, ch, rfl, by (try push_cast); (try rfl), ⟨by have := HKS.out; omega⟩, ⟨meetGo_no HE.out HMC'.out⟩, ⟨HM1'.out.move (fun _ _ => rfl)⟩, ⟨HKE1'.out.drewN _⟩, ⟨below_drewN' HBB.out _⟩⟩
      · have hd : ((k : Int) != i) = true := by simp [hki']
        obtain ⟨b, hb⟩ : ∃ b, b = L.any fun p => !val R' p k := ⟨_, rfl⟩
        have hmc := HMC.out b (by rw [hd, hb]; rfl)
        have HMC' := Aside0.mk hmc
        have HCT' := Aside0.mk (fun q => by have := HCT.out q; rw [← hb] at this; exact this)
        clear hmc HMC hki' HCT hb
        cases b with
        | false =>
          go_wp2_with fail
          go_quiet ((go_at_call 28; exact Calls.quiet_of (HCT'.out _)))
          go_wp2_with fail
          go_roundg m
          case measure => omega
          case rel => exact ⟨R', k + 1, ch, rfl, by (try push_cast); (try rfl), ⟨by have := HKS.out; omega⟩, ⟨meetGo_no HE.out HMC'.out⟩, ⟨HM1'.out.move (fun _ _ => rfl)⟩, ⟨HKE1'.out.drewN _⟩, ⟨below_drewN' HBB.out _⟩⟩
        | true =>
          go_wp2_with fail
          go_quiet ((go_at_call 28; exact Calls.quiet_of (HCT'.out _)))
          go_wp2_with fail
          go_region
          go_wp2_with fail
          go_roundg m
          case measure => omega
          case rel => exact ⟨setv R' i k false, k + 1, true, rfl, by (try push_cast); (try rfl), ⟨by have := HKS.out; omega⟩, ⟨meetGo_yes HE.out HMC'.out⟩, ⟨(show Mat (W1.drewN (nq + 1)) g gs n R' from HM1'.out.move (fun _ _ => rfl)).store i0 i1 hk0 hlt HBI.out false⟩, ⟨(HKE1'.out.drewN (nq + 1)).setCell (.inl hmem) _⟩, ⟨(below_drewN' HBB.out (nq + 1)).setCell (p := ⟨_, k, none⟩) (HBG.out _ hmem) (.bool false)⟩⟩
end Go.Proofs.YtoncneglplglhaaDoor.PGraphLoops
