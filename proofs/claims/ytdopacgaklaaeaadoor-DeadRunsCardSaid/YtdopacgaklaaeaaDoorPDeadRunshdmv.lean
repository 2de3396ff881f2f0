import Derived.Test.YtdopacgaklaaeaaDoorPDeadRunsx0
import Derived.Test.YtdopacgaklaaeaaDoorPDeadRunsx5
import Derived.Test.YtdopacgaklaaeaaDoorPDeadRunshdcl
import Derived.Lib.SliceRun
namespace Go.Proofs.YtdopacgaklaaeaaDoor.PDeadRuns
open Go.RowKit Go.Proofs.YtdopacgaklaaeaaDoorW.PrintWords Go.Proofs.YtdopacgaklaaeaaDoorW.PrintLast Go.Proofs.YtdopacgaklaaeaaDoorW.PrintMore
set_option linter.unusedVariables false
set_option linter.unusedSimpArgs false
/-! dead.moved: a code whose instructions go to other places; the closure is any function p that changes nothing that lies. -/
def movedL (p : Int → Option Int) : List S28 → Option (List S28)
  | [] => some []
  | x :: xs => if x.f0 = 6 ∨ x.f0 = 7 then (p x.f6).bind fun t => (movedL p xs).map (fun l => ⟨x.f0, x.f1, x.f2, x.f3, x.f4, x.f5, t⟩ :: l) else (movedL p xs).map (fun l => x :: l)
theorem movedL_len (p : Int → Option Int) : ∀ (l r : List S28), movedL p l = some r → r.length = l.length
  | [], r, h => by cases h; rfl
  | x :: xs, r, h => by
    unfold movedL at h
    by_cases hq : x.f0 = 6 ∨ x.f0 = 7
    · rw [if_pos hq] at h
      obtain ⟨t, _, h2⟩ := Option.bind_eq_some_iff.1 h
      obtain ⟨l, h3, rfl⟩ := Option.map_eq_some_iff.1 h2
      simp [movedL_len p xs l h3]
    · rw [if_neg hq] at h
      obtain ⟨l, h3, rfl⟩ := Option.map_eq_some_iff.1 h
      simp [movedL_len p xs l h3]
/-- What the loop holds: o2 is the done part and the rest of l0. -/
def MovAt (p : Int → Option Int) (l0 r o2 : List S28) (j : Int) : Prop := ∃ dn rest, o2 = dn ++ l0.drop j.toNat ∧ (dn.length : Int) = j ∧ movedL p (l0.drop j.toNat) = some rest ∧ dn ++ rest = r
theorem mv_drop {α : Type} (l : List α) (z : α) (i : Int) (h0 : 0 ≤ i) (h : i < l.length) : l.drop i.toNat = l.getD i.toNat z :: l.drop (i + 1).toNat := by
  rw [show (i + 1).toNat = i.toNat + 1 by omega, List.drop_eq_getElem_cons (by omega)]
  congr 1
  rw [List.getD_eq_getElem?_getD, List.getElem?_eq_getElem (by omega)]; rfl
theorem mv_set {α : Type} : ∀ (A : List α) (x y : α) (B : List α) (n : Nat), A.length = n → (A ++ x :: B).set n y = A ++ y :: B
  | [], x, y, B, n, h => by subst h; rfl
  | a :: A, x, y, B, n, h => by
    subst h
    show a :: ((A ++ x :: B).set A.length y) = _
    rw [mv_set A x y B _ rfl]; rfl
theorem MovAt.elem {p : Int → Option Int} {l0 r o2 : List S28} {j : Int} (h : MovAt p l0 r o2 j) (h0 : 0 ≤ j) (h1 : j < l0.length) (z : S28) : o2.length = l0.length ∧ o2.getD j.toNat z = l0.getD j.toNat z := by
  obtain ⟨dn, rest, rfl, hd, _, _⟩ := h
  refine ⟨by simp; omega, ?_⟩
  rw [List.getD_eq_getElem?_getD, List.getD_eq_getElem?_getD, List.getElem?_append_right (by omega), show j.toNat - dn.length = 0 by omega, List.getElem?_drop, Nat.add_zero]
theorem MovAt.go {p : Int → Option Int} {l0 r o2 : List S28} {j : Int} (h : MovAt p l0 r o2 j) (h0 : 0 ≤ j) (h1 : j < l0.length) (z x : S28) (hx : l0.getD j.toNat z = x) (hq : x.f0 = 6 ∨ x.f0 = 7) :
    ∃ t, p x.f6 = some t ∧ MovAt p l0 r (o2.set j.toNat ⟨x.f0, x.f1, x.f2, x.f3, x.f4, x.f5, t⟩) (j + 1) := by
  obtain ⟨dn, rest, rfl, hd, hm, rfl⟩ := h
  rw [mv_drop l0 z j h0 h1, hx, movedL, if_pos hq] at hm
  obtain ⟨t, ht, h2⟩ := Option.bind_eq_some_iff.1 hm
  obtain ⟨l, h3, rfl⟩ := Option.map_eq_some_iff.1 h2
  refine ⟨t, ht, dn ++ [⟨x.f0, x.f1, x.f2, x.f3, x.f4, x.f5, t⟩], l, ?_, by simp; omega, h3, by simp⟩
  rw [mv_drop l0 z j h0 h1, mv_set _ _ _ _ _ (by omega)]
  simp
theorem MovAt.stay {p : Int → Option Int} {l0 r o2 : List S28} {j : Int} (h : MovAt p l0 r o2 j) (h0 : 0 ≤ j) (h1 : j < l0.length) (z x : S28) (hx : l0.getD j.toNat z = x) (hq : ¬ (x.f0 = 6 ∨ x.f0 = 7)) : MovAt p l0 r o2 (j + 1) := by
  obtain ⟨dn, rest, rfl, hd, hm, rfl⟩ := h
  rw [mv_drop l0 z j h0 h1, hx, movedL, if_neg hq] at hm
  obtain ⟨l, h3, rfl⟩ := Option.map_eq_some_iff.1 hm
  refine ⟨dn ++ [x], l, ?_, by simp; omega, h3, by simp⟩
  rw [mv_drop l0 z j h0 h1, hx]
  simp
theorem MovAt.done {p : Int → Option Int} {l0 r o2 : List S28} {j : Int} (h : MovAt p l0 r o2 j) (h1 : (l0.length : Int) ≤ j) : o2 = r := by
  obtain ⟨dn, rest, rfl, hd, hm, rfl⟩ := h
  rw [List.drop_eq_nil_of_le (by omega)] at hm ⊢
  cases hm
  rfl
theorem goesFact (x0 x1 x2 x3 x4 x5 x6 : Int) : dead_goes.f x0 x1 x2 x3 x4 x5 x6 = some (decide (x0 = 6 ∨ x0 = 7)) := by
  unfold dead_goes.f
  by_cases h6 : x0 = 6
  · simp [h6]
  · by_cases h7 : x0 = 7 <;> simp [h6, h7]
set_option maxRecDepth 100000 in
set_option maxHeartbeats 8000000 in
theorem dead_moved.calls (p : Int → Option Int) (lb : Array Value) (g : Nat) (A0 : Option Addr) (c0 : Nat) (l0 : List S28) (r : List S28) (w : World) (hr0 : Kd.C k28 w A0 l0.length l0) (hc0 : l0.length ≤ c0) (hlen : l0.length ≤ 1000000)
    (eg : ∀ args w, (callFunc g args).run Tryd.prog w = .ok (.enter g args) w)
    (hp : ∀ (a t : Int) (W : World), p a = some t → Below w.heap.size w W → Calls Tryd.prog g (#[.int .i64 a] ++ lb) W fun e w' => e = .returned (.int .i64 t) ∧ Below W.heap.size W w') (h : movedL p l0 = some r) :
    Calls Tryd.prog 32 #[.slice A0 l0.length c0, .func (.func g) #[] lb] w fun e w' => ∃ v0_ : Value, e = .returned (v0_) ∧ Kd.R k28 28 w' w.heap.size (fun _ => True) v0_ r ∧ Below w.heap.size w w' := by
  have HR0 := Aside0.mk hr0
  have HC0 := Aside0.mk hc0
  have HL := Aside0.mk hlen
  have HP := Aside0.mk hp
  have H := Aside0.mk h
  clear hr0 hc0 hlen hp h
  go_enter Tryd.func32, Tryd.ntmps32
  go_wp2_with fail
  refine (api_Ins.calls A0 c0 l0 l0 w HR0.out HC0.out (if_pos HL.out)).mono ?_
  rintro e w1 ⟨v0, rfl, ho, hb⟩
  obtain ⟨Ao, co, rfl⟩ := Kd.R_slice ho
  have HO1 := Aside0.mk ho
  have HB1 := Aside0.mk hb
  clear ho hb
  have hn : l0.length ≤ 9223372036854775807 := by have := HL.out; omega
  go_wp2_with fail
  go_loopg [6, 7, 12] l0.length (fun gg _ _ s12 wr => ∃ (j : Int) (o2 : List S28), 0 ≤ j ∧ j ≤ l0.length ∧ l0.length - j ≤ gg ∧ s12 = .int .i64 j ∧ Aside0 (MovAt p l0 r o2 j) ∧ Aside0 (Kd.R k28 28 wr w.heap.size (fun _ => True) (.slice Ao l0.length co) o2) ∧ Aside0 (Below w.heap.size w wr))
  case atStart => exact ⟨0, l0, by omega, by omega, by omega, rfl, ⟨[], r, rfl, rfl, H.out, rfl⟩, HO1, HB1⟩
  case round =>
    clear HO1 HB1 H
    obtain ⟨j, o2, hj0, hj1, hjg, rfl, HM, HO, HB⟩ := hrel
    by_cases hlt : j < l0.length
    · obtain ⟨hle, hel⟩ := HM.out.elem hj0 hlt z28
      obtain ⟨go, cap, hv, hgo, hglt, cells, hcells⟩ := Kd.R_form HO.out (by omega)
      simp only [Value.slice.injEq] at hv
      obtain ⟨rfl, hvl, rfl⟩ := hv
      clear hvl
      obtain ⟨ce, hcl, hM, hcc, hfr⟩ := Kd.R_elem HO.out z28 j hj0 (by omega)
      obtain rfl := k28_openM hM
      rw [hel] at hcc
      obtain ⟨x, hx⟩ : ∃ x, x = l0.getD j.toNat z28 := ⟨_, rfl⟩
      rw [← hx] at hcc
      have q0 : wr.cell? ⟨go, j.toNat * 7, none⟩ = some (.int .i64 x.f0) := hcc 0 _ rfl
      have q1 : wr.cell? ⟨go, j.toNat * 7 + 1, none⟩ = some (.int .i64 x.f1) := hcc 1 _ rfl
      have q2 : wr.cell? ⟨go, j.toNat * 7 + 2, none⟩ = some (.int .i64 x.f2) := hcc 2 _ rfl
      have q3 : wr.cell? ⟨go, j.toNat * 7 + 3, none⟩ = some (.int .i64 x.f3) := hcc 3 _ rfl
      have q4 : wr.cell? ⟨go, j.toNat * 7 + 4, none⟩ = some (.int .i64 x.f4) := hcc 4 _ rfl
      have q5 : wr.cell? ⟨go, j.toNat * 7 + 5, none⟩ = some (.int .i64 x.f5) := hcc 5 _ rfl
      have q6 : wr.cell? ⟨go, j.toNat * 7 + 6, none⟩ = some (.int .i64 x.f6) := hcc 6 _ rfl
      have HX := Aside0.mk hx
      have HLE := Aside0.mk hle
      have HEL := Aside0.mk (hel.trans hx.symm)
      clear hx hcc hcl hM hfr hel hcells hle
      have HW1 := Aside0.mk (show wrap64 (j + 1) = j + 1 by unfold wrap64; omega)
      go_wp2_with fail
      refine (dead_goes.calls x.f0 x.f1 x.f2 x.f3 x.f4 x.f5 x.f6 _ _ (goesFact _ _ _ _ _ _ _)).mono ?_
      rintro e w2 ⟨rfl, hb2⟩
      have hk2 := blk_below (blk_new wr (.cells #[.int .i64 x.f0, .int .i64 x.f1, .int .i64 x.f2, .int .i64 x.f3, .int .i64 x.f4, .int .i64 x.f5, .int .i64 x.f6] 28)) hb2
      have HO2 := Aside0.mk (Kd.R_below (Kd.R_alloc HO.out (.cells #[.int .i64 x.f0, .int .i64 x.f1, .int .i64 x.f2, .int .i64 x.f3, .int .i64 x.f4, .int .i64 x.f5, .int .i64 x.f6] 28)) hb2)
      have HB2 := Aside0.mk ((HB.out.alloc HB.out.size (.cells #[.int .i64 x.f0, .int .i64 x.f1, .int .i64 x.f2, .int .i64 x.f3, .int .i64 x.f4, .int .i64 x.f5, .int .i64 x.f6] 28)).trans (hb2.mono (by have := HB.out.size; simp; omega)))
      have y6 : w2.cell? ⟨wr.heap.size, 6, none⟩ = some (.int .i64 x.f6) := (blk_cell hk2 6).trans rfl
      clear q0 q1 q2 q3 q4 q5 q6 hb2 hk2 HO HB
      by_cases hq : x.f0 = 6 ∨ x.f0 = 7
      · rw [decide_eq_true hq]
        obtain ⟨t, ht, hm⟩ := HM.out.go hj0 hlt z28 x HX.out.symm hq
        have HM2 := Aside0.mk hm
        have HCL := Aside0.mk (HP.out x.f6 t w2 ht HB2.out)
        clear hm ht hq HM
        go_wp2_with fail
        refine HCL.out.mono ?_
        rintro e w3 ⟨rfl, hb3⟩
        have HO3 := Aside0.mk (Kd.R_below HO2.out hb3)
        have HB3 := Aside0.mk (HB2.out.trans (hb3.mono HB2.out.size))
        clear hb3 HCL HO2 HB2 y6 eg HP
        obtain ⟨ce, hcl, hM, hcc, hfr⟩ := Kd.R_elem HO3.out z28 j hj0 (by have := HLE.out; omega)
        obtain rfl := k28_openM hM
        rw [HEL.out] at hcl hcc
        have f6 : w3.frozen? ⟨go, j.toNat * 7 + 6, none⟩ = false := hfr 6
        have q6 : w3.cell? ⟨go, j.toNat * 7 + 6, none⟩ = some (.int .i64 x.f6) := hcc 6 _ rfl
        have hS2 := Aside0.mk (Kd.R_seg HO3.out j hj0 (by have := HLE.out; omega) (seg := [.int .i64 t]) (j := 6) hcl hcc (show 7 ≤ 7 from by decide) (x' := (⟨x.f0, x.f1, x.f2, x.f3, x.f4, x.f5, t⟩ : S28)) (k28_mkM _ w.heap.size (fun _ => False) (⟨x.f0, x.f1, x.f2, x.f3, x.f4, x.f5, t⟩ : S28)) (fun _ hk => hk.elim))
        clear hcl hM hcc hfr
        go_wp2_with fail
        go_roundg (gk - 1)
        case measure => omega
        case rel => exact ⟨j + 1, _, by omega, by omega, by omega, by first | rfl | rw [HW1.out], HM2, ⟨hS2.out.1⟩, ⟨HB3.out.setCell (p := ⟨go, j.toNat * 7 + 6, none⟩) (by show w.heap.size ≤ go; omega) _⟩⟩
      · rw [decide_eq_false hq]
        have HM2 := Aside0.mk (HM.out.stay hj0 hlt z28 x HX.out.symm hq)
        clear hq HM y6 eg HP
        go_wp2_with fail
        go_roundg (gk - 1)
        case measure => omega
        case rel => exact ⟨j + 1, _, by omega, by omega, by omega, by first | rfl | rw [HW1.out], HM2, HO2, HB2⟩
    · have ho := HM.out.done (by omega)
      have HO2 := Aside0.mk (ho ▸ HO.out)
      clear ho HO HM eg HP
      go_wp2_with fail
      go_ret
      exact ⟨_, rfl, HO2.out, HB.out⟩
end Go.Proofs.YtdopacgaklaaeaaDoor.PDeadRuns

namespace Go.Proofs.YtdopacgaklaaeaaDoor.PDeadRuns
open Go.RowKit Go.Proofs.YtdopacgaklaaeaaDoorW.PrintWords Go.Proofs.YtdopacgaklaaeaaDoorW.PrintLast Go.Proofs.YtdopacgaklaaeaaDoorW.PrintMore
set_option linter.unusedVariables false
set_option linter.unusedSimpArgs false
/-! dead.Less, its two closures. -/
def LsAt (w : World) (b0 b1 : Nat) (A1 : Option Addr) (c1 : Nat) (gone : List Bool) (n : Nat) (W : World) : Prop :=
  W.heap[b0]? = some (.cells #[.int .i64 ((n : Int) - 1)] 3 (0, 0)) ∧ W.heap[b1]? = some (.cells #[.slice A1 gone.length c1] 26 (0, 0)) ∧ Below w.heap.size w W
theorem LsAt.keep {w : World} {b0 b1 : Nat} {A1 : Option Addr} {c1 : Nat} {gone : List Bool} {n : Nat} {W W' : World} {go : Nat} (h : LsAt w b0 b1 A1 c1 gone n W) (h0 : go ≠ b0) (h1 : go ≠ b1) (hg : w.heap.size ≤ go) (hk : KeepBut W W' go none) (hb : Below w.heap.size W W') : LsAt w b0 b1 A1 c1 gone n W' := by
  obtain ⟨q1, q2, q3⟩ := h
  exact ⟨hk.blk q1 (Ne.symm h0) (by simp), hk.blk q2 (Ne.symm h1) (by simp), q3.trans hb⟩
set_option maxRecDepth 100000 in
set_option maxHeartbeats 4000000 in
theorem less2.calls (w : World) (b0 b1 : Nat) (A1 : Option Addr) (c1 : Nat) (gone : List Bool) (n : Nat) (x0 x1 x2 x3 x4 x5 x6 : Int) (W : World) (hb : b0 ≠ b1) (hb0 : w.heap.size ≤ b0) (hn : n < gone.length) (hlen : gone.length ≤ 1000000) (hC : Kd.C Kd.bool w A1 gone.length gone) (h : LsAt w b0 b1 A1 c1 gone n W) :
    Calls Tryd.prog 38 #[.agg #[.int .i64 x0, .int .i64 x1, .int .i64 x2, .int .i64 x3, .int .i64 x4, .int .i64 x5, .int .i64 x6], .pointer (some ⟨b0, 0, none⟩), .pointer (some ⟨b1, 0, none⟩)] W fun e w' => e = .returned (.bool (gone.getD n false)) ∧ LsAt w b0 b1 A1 c1 gone (n + 1) w' ∧ KeepBut W w' b0 none ∧ (w.heap.size ≤ W.heap.size → Below w.heap.size W w') := by
  obtain ⟨q1, q2, q3⟩ := h
  have hs0 := blk_lt q1
  have hs1 := blk_lt q2
  have y0 : W.cell? ⟨b0, 0, none⟩ = some (.int .i64 ((n : Int) - 1)) := (blk_cell q1 0).trans rfl
  have y1 : W.cell? ⟨b1, 0, none⟩ = some (.slice A1 gone.length c1) := (blk_cell q2 0).trans rfl
  have f0 : W.frozen? ⟨b0, 0, none⟩ = false := blk_frozen q1 0
  obtain ⟨ad, e1, za⟩ := Kd.at_bool (Kd.C_below hC q3) (n : Int) (by omega) (by omega)
  cases e1
  obtain ⟨ni, hni⟩ : ∃ ni : Int, ni = (n : Int) := ⟨_, rfl⟩
  have HB := Aside0.mk q3
  have Q1 := Aside0.mk q1
  have Q2 := Aside0.mk q2
  have hr : rdOf false gone (n : Int) = gone.getD n false := by simp [rdOf]
  rw [Int.toNat_natCast] at za
  rw [hr] at za
  obtain ⟨ad0, e0, zw⟩ := Kd.at_bool hC (n : Int) (by omega) (by omega)
  cases e0
  rw [Int.toNat_natCast] at zw
  have hlt : (ad.add n).block < w.heap.size := by
    by_cases hq : (ad.add n).block < w.heap.size
    · exact hq
    · exfalso
      have : w.cell? (ad.add n) = none := by simp [World.cell?, Array.getElem?_eq_none (Nat.le_of_not_lt hq)]
      rw [this] at zw; cases zw
  have hne : (⟨b0, 0, none⟩ : Addr) ≠ ad.add n := by intro e; have := congrArg Addr.block e; simp only at this; omega
  have hne2 : ad.add n ≠ (⟨b0, 0, none⟩ : Addr) := Ne.symm hne
  have hz : ((W.setCell ⟨b0, 0, none⟩ (.int .i64 (n : Int))).alloc (.cells #[.int .i64 x0, .int .i64 x1, .int .i64 x2, .int .i64 x3, .int .i64 x4, .int .i64 x5, .int .i64 x6] 28)).cell? (ad.add n) = some (.bool (gone.getD n false)) := Lib.cell?_alloc_some _ ((World.cell?_setCell_other (h := hne) ..).trans za)
  obtain ⟨bn, hbn⟩ : ∃ bn, bn = gone.getD n false := ⟨_, rfl⟩
  rw [← hbn] at hz za ⊢
  clear zw hr hC hlt hbn
  go_enter Tryd.func38, Tryd.ntmps38
  go_wp2_with fail
  go_ret
  have hsz : w.heap.size ≤ (W.setCell ⟨b0, 0, none⟩ (.int .i64 (n : Int))).heap.size := by have := HB.out.size; simp [World.setCell]; omega
  refine ⟨rfl, ⟨?_, blk_alloc (blk_far Q2.out (by show b1 ≠ b0; exact Ne.symm hb) _) _, (HB.out.setCell (p := ⟨b0, 0, none⟩) hb0 _).alloc hsz _⟩, ((KeepBut.refl W b0 none).set_ 0 _).trans (KeepBut.of_below ((Below.refl _ _).alloc (Nat.le_refl _) _) b0 none) (.inl rfl), fun hs => ((Below.refl _ _).setCell (p := ⟨b0, 0, none⟩) hb0 _).alloc hsz _⟩
  rw [show (((n + 1 : Nat) : Int) - 1) = n by omega]
  exact blk_alloc (blk_set Q1.out 0 (.int .i64 (n : Int))) _
end Go.Proofs.YtdopacgaklaaeaaDoor.PDeadRuns

namespace Go.Proofs.YtdopacgaklaaeaaDoor.PDeadRuns
open Go.RowKit Go.Proofs.YtdopacgaklaaeaaDoorW.PrintWords Go.Proofs.YtdopacgaklaaeaaDoorW.PrintLast Go.Proofs.YtdopacgaklaaeaaDoorW.PrintMore
set_option linter.unusedVariables false
set_option linter.unusedSimpArgs false
/-! dead.Less$1: where an instruction goes when some are gone. -/
set_option maxRecDepth 100000 in
set_option maxHeartbeats 4000000 in
theorem less1.calls (k : Nat) (b1 b2 : Nat) (A1 : Option Addr) (c1 : Nat) (gone : List Bool) (sz a t : Int) (W : World) (hq1 : W.heap[b1]? = some (.cells #[.slice A1 gone.length c1] 26 (0, 0))) (hq2 : W.heap[b2]? = some (.cells #[.int .i64 sz] 3 (0, 0)))
    (hC : Kd.C Kd.bool W A1 gone.length gone) (hc1 : gone.length ≤ c1) (h : dead_count.f k gone a false = some t) (hsz : wrap64 (sz - 1) = sz - 1) :
    Calls Tryd.prog 36 #[.int .i64 a, .pointer (some ⟨b1, 0, none⟩), .pointer (some ⟨b2, 0, none⟩)] W fun e w' => e = .returned (.int .i64 (mn t (sz - 1))) ∧ Below W.heap.size W w' := by
  have y1 : W.cell? ⟨b1, 0, none⟩ = some (.slice A1 gone.length c1) := (blk_cell hq1 0).trans rfl
  have y2 : W.cell? ⟨b2, 0, none⟩ = some (.int .i64 sz) := (blk_cell hq2 0).trans rfl
  have HC := Aside0.mk hC
  have HC1 := Aside0.mk hc1
  have H := Aside0.mk h
  have HQ2 := Aside0.mk hq2
  clear hC hc1 h hq1 hq2
  go_enter Tryd.func36, Tryd.ntmps36
  go_wp2_with fail
  refine start_ (n := 7) (S := (fun W' => W'.cell? ⟨b1, 0, none⟩ = some (.slice A1 gone.length c1) ∧ W'.cell? ⟨b2, 0, none⟩ = some (.int .i64 sz))) (ds := [6]) #[false, false, false, false, false, false, false] (by kernel_rfl) rfl rfl (⟨y1, y2⟩) (fun hHeld => ?_)
  refine take_ (i := 0) (N := (some 5)) (v := ?_) (a' := ?_) #[true, false, false, false, false, false, false] rfl rfl (by kernel_rfl) (fun _ _ _ h => h) (Or.inl ⟨by rfl, ?_⟩) hHeld ?_ ?_
  rotate_left
  · rintro w_ ⟨s0, s1⟩
    go_simp
    with_reducible rfl
  rotate_left
  · simp only [Act.put, List.setIfInBounds_toArray, List.set_cons_zero, List.set_cons_succ, i64_w, i32_w]
    rfl
  refine pure_ (i := 1) (N := (some 6)) (v := ?_) (a' := ?_) #[true, true, false, false, false, false, false] rfl rfl (by kernel_rfl) (fun _ _ _ h => h) (Or.inl ⟨by rfl, ?_⟩) ?_ ?_
  rotate_left
  · intro w_
    go_simp
    with_reducible rfl
  rotate_left
  · simp only [Act.put, List.setIfInBounds_toArray, List.set_cons_zero, List.set_cons_succ, i64_w, i32_w]
    rfl
  refine take_ (i := 3) (N := (some 8)) (v := ?_) (a' := ?_) #[true, true, false, true, false, false, false] rfl rfl (by kernel_rfl) (fun _ _ _ h => h) (Or.inl ⟨by rfl, ?_⟩) hHeld ?_ ?_
  rotate_left
  · rintro w_ ⟨s0, s1⟩
    go_simp
    with_reducible rfl
  rotate_left
  · simp only [Act.put, List.setIfInBounds_toArray, List.set_cons_zero, List.set_cons_succ, i64_w, i32_w]
    rfl
  refine pure_ (i := 4) (N := (some 9)) (v := ?_) (a' := ?_) #[true, true, false, true, true, false, false] rfl rfl (by kernel_rfl) (fun _ _ _ h => h) (Or.inl ⟨by rfl, ?_⟩) ?_ ?_
  rotate_left
  · intro w_
    go_simp
    with_reducible rfl
  rotate_left
  · simp only [Act.put, List.setIfInBounds_toArray, List.set_cons_zero, List.set_cons_succ, i64_w, i32_w]
    rfl
  refine one_ (i := 2) (N := (some 7)) #[true, true, true, true, true, false, false] rfl rfl (by kernel_rfl) (by decide) (fun K hK => ?_)
  refine goes_ Tryd.func34 (by kernel_rfl) rfl #[.slice A1 gone.length c1, .int .i64 a, .bool false] (by rfl) rfl rfl (by (try simp only [List.map_toArray, List.map_cons, List.map_nil]); rfl) ?_
  refine (dead_count.calls k A1 c1 gone a false t _ (Kd.C_drew HC.out) HC1.out H.out).mono ?_
  rintro e w2 ⟨rfl, hb⟩
  have y1b := pw_cell_below hb y1
  have y2b := pw_cell_below hb y2
  refine ⟨_, rfl, ?_⟩
  refine hK.out _ _ (⟨pw_cell_below hb y1, pw_cell_below hb y2⟩) (fun hHeld => ?_)
  clear hK K
  refine norm_ (a' := ?_) ?_ ?_
  rotate_left
  · show Act.put _ (some 7) _ = _
    simp only [Act.put, List.setIfInBounds_toArray, List.set_cons_zero, List.set_cons_succ, i64_w, i32_w]
    rfl
  refine one_ (i := 5) (N := (some 10)) #[true, true, true, true, true, true, false] rfl rfl (by kernel_rfl) (by decide) (fun K hK => ?_)
  refine value_ (w1 := ?_) (v := ?_) (by rfl) rfl ?_ ?_
  rotate_left 2
  · go_simp
    constructor
    · rfl
    · rfl
  refine hK.out _ _ (⟨y1b, y2b⟩) (fun hHeld => ?_)
  clear hK K
  refine norm_ (a' := ?_) ?_ ?_
  rotate_left
  · show Act.put _ (some 10) _ = _
    simp only [Act.put, List.setIfInBounds_toArray, List.set_cons_zero, List.set_cons_succ, i64_w, i32_w]
    rfl
  refine pure_ (i := 6) (N := (some 4)) (v := ?_) (a' := ?_) #[true, true, true, true, true, true, true] rfl rfl (by kernel_rfl) (fun _ _ _ h => h) (Or.inl ⟨by rfl, ?_⟩) ?_ ?_
  rotate_left
  · intro w_
    go_simp
    with_reducible rfl
  rotate_left
  · simp only [Act.put, List.setIfInBounds_toArray, List.set_cons_zero, List.set_cons_succ, i64_w, i32_w]
    rfl
  refine done_ (by kernel_rfl) ?_
  obtain ⟨m, hm⟩ : ∃ m, m = (if sz - 1 < t then sz - 1 else t) := ⟨_, rfl⟩
  rw [hsz, ← hm]
  go_wp2_with fail
  go_ret
  exact ⟨by rw [hm]; rfl, (below_drew (Below.refl W.heap.size W)).trans hb⟩
end Go.Proofs.YtdopacgaklaaeaaDoor.PDeadRuns

-- HAND paling/dead.Less rounds=1 making=1 needs=paling/dead.count;paling/dead.goes;slices.Clone[paling/api.Code,paling/api.Ins]
namespace Go.Proofs.YtdopacgaklaaeaaDoor.PDeadRuns
open Go.RowKit Go.Proofs.YtdopacgaklaaeaaDoorW.PrintWords Go.Proofs.YtdopacgaklaaeaaDoorW.PrintLast Go.Proofs.YtdopacgaklaaeaaDoorW.PrintMore
set_option linter.unusedVariables false
set_option linter.unusedSimpArgs false
/-! dead.Less. -/
def lessGo (k : Nat) (gone : List Bool) (size a : Int) : Option Int := (dead_count.f k gone a false).map (fun t => mn t (size - 1))
def dead_Less.f (k : Nat) (l0 : List S28) (l1 : List Bool) : Option (List S28) :=
  if l0.length ≤ 1000000 ∧ l1.length = l0.length ∧ l0 ≠ [] then
    (dead_count.f k l1 (l1.length : Int) false).bind fun size => if 0 ≤ size ∧ size ≤ 1000000 then (movedL (lessGo k l1 size) l0).map (keepL (fun n _ => l1.getD n false) 0) else none
  else none
theorem movedL_le {p q : Int → Option Int} (h : ∀ a, LeO (p a) (q a)) : ∀ l, LeO (movedL p l) (movedL q l)
  | [] => LeO.refl _
  | x :: xs => by
    unfold movedL
    have ih := movedL_le h xs
    split
    · refine LeO.bind (h _) (fun t => ?_)
      intro r hr
      obtain ⟨l, hl, rfl⟩ := Option.map_eq_some_iff.1 hr
      exact Option.map_eq_some_iff.2 ⟨l, ih l hl, rfl⟩
    · intro r hr
      obtain ⟨l, hl, rfl⟩ := Option.map_eq_some_iff.1 hr
      exact Option.map_eq_some_iff.2 ⟨l, ih l hl, rfl⟩
theorem dead_Less.mono : ∀ a0 a1 k, LeO (dead_Less.f k a0 a1) (dead_Less.f (k + 1) a0 a1) := by
  intro a0 a1 k
  unfold dead_Less.f
  split
  · refine LeO.bind (dead_count.mono _ _ _ _) (fun size => ?_)
    split
    · intro r hr
      obtain ⟨l, hl, rfl⟩ := Option.map_eq_some_iff.1 hr
      refine Option.map_eq_some_iff.2 ⟨l, movedL_le (fun a => ?_) _ l hl, rfl⟩
      intro t ht
      obtain ⟨u, hu, rfl⟩ := Option.map_eq_some_iff.1 ht
      exact Option.map_eq_some_iff.2 ⟨u, dead_count.mono _ _ _ _ u hu, rfl⟩
    · exact LeO.none _
  · exact LeO.none _
set_option maxRecDepth 100000 in
set_option maxHeartbeats 8000000 in
theorem dead_Less.calls (k : Nat) (A0 : Option Addr) (c0 : Nat) (l0 : List S28) (A1 : Option Addr) (c1 : Nat) (l1 : List Bool) (r : List S28) (w : World) (hr0 : Kd.C k28 w A0 l0.length l0) (hc0 : l0.length ≤ c0) (hr1 : Kd.C Kd.bool w A1 l1.length l1) (hc1 : l1.length ≤ c1) (h : dead_Less.f k l0 l1 = some r) :
    Calls Tryd.prog 17 #[.slice A0 l0.length c0, .slice A1 l1.length c1] w fun e w' => ∃ v0_ : Value, e = .returned (v0_) ∧ Kd.R k28 28 w' w.heap.size (fun _ => True) v0_ r ∧ Below w.heap.size w w' := by
  unfold dead_Less.f at h
  by_cases hq : l0.length ≤ 1000000 ∧ l1.length = l0.length ∧ l0 ≠ []
  case neg => rw [if_neg hq] at h; cases h
  rw [if_pos hq] at h
  obtain ⟨hlen, hl1, hne⟩ := hq
  obtain ⟨size, h1, h2⟩ := Option.bind_eq_some_iff.1 h
  by_cases hs : 0 ≤ size ∧ size ≤ 1000000
  case neg => rw [if_neg hs] at h2; cases h2
  rw [if_pos hs] at h2
  obtain ⟨mv, h3, rfl⟩ := Option.map_eq_some_iff.1 h2
  have HR0 := Aside0.mk hr0
  have HC0 := Aside0.mk hc0
  have HR1 := Aside0.mk hr1
  have HC1 := Aside0.mk hc1
  have HL := Aside0.mk hlen
  have HL1 := Aside0.mk hl1
  have HNE := Aside0.mk hne
  have HS := Aside0.mk hs
  have H1 := Aside0.mk h1
  have H3 := Aside0.mk h3
  clear hr0 hc0 hr1 hc1 hlen hl1 hne hs h1 h h2 h3
  go_enter Tryd.func17, Tryd.ntmps17
  go_wp2_with fail
  have hb0 : Below w.heap.size w (w.alloc (.cells #[.slice A1 l1.length c1] 26)) := (Below.refl _ _).alloc (Nat.le_refl _) _
  refine (dead_count.calls k A1 c1 l1 _ false size _ (Kd.C_below HR1.out hb0) HC1.out H1.out).mono ?_
  rintro e w1 ⟨rfl, hb1⟩
  have HB1 := Aside0.mk (hb0.trans (hb1.mono (by simp)))
  have HQ1 := Aside0.mk (blk_below (blk_new w (.cells #[.slice A1 l1.length c1] 26)) hb1)
  clear hb0 hb1
  go_wp2_with fail
  have hbW2 : Below w1.heap.size w1 (w1.alloc (.cells #[.int .i64 size] 3)) := (Below.refl _ _).alloc (Nat.le_refl _) _
  have hB2 : Below w.heap.size w (w1.alloc (.cells #[.int .i64 size] 3)) := HB1.out.trans (hbW2.mono HB1.out.size)
  have hq5 := blk_new w1 (.cells #[.int .i64 size] 3)
  have hq3 := blk_alloc HQ1.out (.cells #[.int .i64 size] 3)
  have hsw : wrap64 (size - 1) = size - 1 := by have := HS.out; unfold wrap64; omega
  have hmv := dead_moved.calls (lessGo k l1 size) #[.pointer (some ⟨w.heap.size, 0, none⟩), .pointer (some ⟨w1.heap.size, 0, none⟩)] 36 A0 c0 l0 mv (w1.alloc (.cells #[.int .i64 size] 3)) (Kd.C_below HR0.out hB2) HC0.out HL.out (fun args w => rfl)
    (fun a t W hp hw => by
      obtain ⟨u, hu, rfl⟩ := Option.map_eq_some_iff.1 hp
      exact less1.calls k w.heap.size w1.heap.size A1 c1 l1 size a u W (blk_below hq3 hw) (blk_below hq5 hw) (Kd.C_below HR1.out (hB2.trans (hw.mono hB2.size))) HC1.out hu hsw) H3.out
  have HB2 := Aside0.mk hB2
  have HQ3 := Aside0.mk hq3
  have HMV := Aside0.mk hmv
  have HS1 := Aside0.mk (show w1.heap.size < (w1.alloc (.cells #[.int .i64 size] 3)).heap.size by simp)
  have HS0 := Aside0.mk (show w.heap.size < w1.heap.size from blk_lt HQ1.out)
  clear hbW2 hB2 hq5 hq3 hmv hsw HQ1 HB1
  refine HMV.out.mono ?_
  generalize (w1.alloc (.cells #[.int .i64 size] 3)) = W2 at HB2 HQ3 HS1 ⊢
  rintro e w3 ⟨v0, rfl, ho, hb⟩
  have hml : mv.length = l0.length := movedL_len _ _ _ H3.out
  have hpos : 0 < l0.length := List.length_pos_iff.2 HNE.out
  obtain ⟨go, cap, rfl, hgo, hglt, cells, hcells⟩ := Kd.R_form ho (by omega)
  have HO := Aside0.mk ho
  have HB3 := Aside0.mk (HB2.out.trans (hb.mono HB2.out.size))
  have HQ4 := Aside0.mk (blk_below HQ3.out hb)
  have HGO := Aside0.mk hgo
  have HGL := Aside0.mk hglt
  have HML := Aside0.mk hml
  have HPOS := Aside0.mk hpos
  clear ho hb hgo hglt hcells HMV hml hpos
  go_wp2_with fail
  have hb4 : Below w3.heap.size w3 (w3.alloc (.cells #[.int .i64 (-1)] 3)) := (Below.refl _ _).alloc (Nat.le_refl _) _
  have hB4 : Below w.heap.size w (w3.alloc (.cells #[.int .i64 (-1)] 3)) := HB3.out.trans (hb4.mono HB3.out.size)
  have hq0 := blk_new w3 (.cells #[.int .i64 (-1)] 3)
  have hq1 := blk_alloc HQ4.out (.cells #[.int .i64 (-1)] 3)
  have e1 := HGO.out
  have e2 := HGL.out
  have e3 := HS0.out
  have e4 := HS1.out
  have hdd := ddel.calls (fun n _ => l1.getD n false) (LsAt w w3.heap.size w.heap.size A1 c1 l1) #[.pointer (some ⟨w3.heap.size, 0, none⟩), .pointer (some ⟨w.heap.size, 0, none⟩)] 38 go cap w.heap.size w3.heap.size mv w (w3.alloc (.cells #[.int .i64 (-1)] 3)) (by rw [HML.out]; exact HL.out) (by omega) (fun args w => rfl)
    (Kd.R_lower (Kd.R_below HO.out hb4) (by omega)) (by omega) (Nat.le_refl _) ⟨hq0, hq1, hB4⟩ hB4
    (fun s W W' hI hk hb => hI.keep (by omega) (by omega) (by omega) hk hb) (fun s W hI => blk_lt hI.1)
    (fun s x W hs hI => less2.calls w w3.heap.size w.heap.size A1 c1 l1 s x.f0 x.f1 x.f2 x.f3 x.f4 x.f5 x.f6 W (by omega) (by omega) (by rw [HL1.out, ← HML.out]; exact hs) (by rw [HL1.out]; exact HL.out) HR1.out hI)
  refine hdd.mono ?_
  rintro e w5 ⟨v5, rfl, ho5, hb5⟩
  have HO5 := Aside0.mk ho5
  have HB5 := Aside0.mk hb5
  clear ho5 hb5 hdd hb4 hB4 hq0 hq1
  go_wp2_with fail
  go_ret
  exact ⟨_, rfl, HO5.out, HB5.out⟩
end Go.Proofs.YtdopacgaklaaeaaDoor.PDeadRuns

-- HAND paling/dead.Insert rounds=1 making=1 needs=paling/dead.count;paling/dead.goes;slices.Clone[paling/api.Code,paling/api.Ins]
namespace Go.Proofs.YtdopacgaklaaeaaDoor.PDeadRuns
open Go.RowKit Go.Proofs.YtdopacgaklaaeaaDoorW.PrintWords Go.Proofs.YtdopacgaklaaeaaDoorW.PrintLast Go.Proofs.YtdopacgaklaaeaaDoorW.PrintMore
set_option linter.unusedVariables false
set_option linter.unusedSimpArgs false
/-! dead.Insert. -/
set_option maxRecDepth 100000 in
set_option maxHeartbeats 4000000 in
theorem ins1.calls (k : Nat) (b1 : Nat) (A1 : Option Addr) (c1 : Nat) (ah : List Bool) (a t : Int) (W : World) (hq1 : W.heap[b1]? = some (.cells #[.slice A1 ah.length c1] 26 (0, 0)))
    (hC : Kd.C Kd.bool W A1 ah.length ah) (hc1 : ah.length ≤ c1) (h : dead_count.f k ah a true = some t) :
    Calls Tryd.prog 33 #[.int .i64 a, .pointer (some ⟨b1, 0, none⟩)] W fun e w' => e = .returned (.int .i64 (wrap64 (a + t))) ∧ Below W.heap.size W w' := by
  have y1 : W.cell? ⟨b1, 0, none⟩ = some (.slice A1 ah.length c1) := (blk_cell hq1 0).trans rfl
  have HC := Aside0.mk hC
  have HC1 := Aside0.mk hc1
  have H := Aside0.mk h
  clear hC hc1 h hq1
  go_enter Tryd.func33, Tryd.ntmps33
  go_wp2_with fail
  refine (dead_count.calls k A1 c1 ah a true t W HC.out HC1.out H.out).mono ?_
  rintro e w1 ⟨rfl, hb1⟩
  go_wp2_with fail
  go_ret
  exact ⟨rfl, hb1⟩
def insGo (k : Nat) (ah : List Bool) (a : Int) : Option Int := (dead_count.f k ah a true).map (fun t => wrap64 (a + t))
def insertL (x : S28) (ah : List Bool) : Nat → List S28 → List S28
  | _, [] => []
  | n, y :: ys => if ah.getD n false = true then x :: y :: insertL x ah (n + 1) ys else y :: insertL x ah (n + 1) ys
def dead_Insert.f (k : Nat) (l0 : List S28) (a1_0 : Int) (a1_1 : Int) (a1_2 : Int) (a1_3 : Int) (a1_4 : Int) (a1_5 : Int) (a1_6 : Int) (l2 : List Bool) : Option (List S28) :=
  if l0.length ≤ 1000000 ∧ l0.length ≤ l2.length then (movedL (insGo k l2) l0).map (insertL ⟨a1_0, a1_1, a1_2, a1_3, a1_4, a1_5, a1_6⟩ l2 0) else none
theorem dead_Insert.mono : ∀ a0 a1 a2 a3 a4 a5 a6 a7 a8 k, LeO (dead_Insert.f k a0 a1 a2 a3 a4 a5 a6 a7 a8) (dead_Insert.f (k + 1) a0 a1 a2 a3 a4 a5 a6 a7 a8) := by
  intro a0 a1 a2 a3 a4 a5 a6 a7 a8 k
  unfold dead_Insert.f
  split
  · intro r hr
    obtain ⟨l, hl, rfl⟩ := Option.map_eq_some_iff.1 hr
    refine Option.map_eq_some_iff.2 ⟨l, movedL_le (fun a => ?_) _ l hl, rfl⟩
    intro t ht
    obtain ⟨u, hu, rfl⟩ := Option.map_eq_some_iff.1 ht
    exact Option.map_eq_some_iff.2 ⟨u, dead_count.mono _ _ _ _ u hu, rfl⟩
  · exact LeO.none _
theorem insertL_len (x : S28) (ah : List Bool) : ∀ (l : List S28) (n : Nat), (insertL x ah n l).length ≤ 2 * l.length
  | [], n => by simp [insertL]
  | y :: ys, n => by
    have := insertL_len x ah ys (n + 1)
    unfold insertL
    split <;> simp <;> omega
set_option maxRecDepth 100000 in
set_option maxHeartbeats 8000000 in
theorem dead_Insert.calls (k : Nat) (A0 : Option Addr) (c0 : Nat) (l0 : List S28) (a1_0 : Int) (a1_1 : Int) (a1_2 : Int) (a1_3 : Int) (a1_4 : Int) (a1_5 : Int) (a1_6 : Int) (A2 : Option Addr) (c2 : Nat) (l2 : List Bool) (r : List S28) (w : World) (hr0 : Kd.C k28 w A0 l0.length l0) (hc0 : l0.length ≤ c0) (hr2 : Kd.C Kd.bool w A2 l2.length l2) (hc2 : l2.length ≤ c2) (h : dead_Insert.f k l0 a1_0 a1_1 a1_2 a1_3 a1_4 a1_5 a1_6 l2 = some r) :
    Calls Tryd.prog 15 #[.slice A0 l0.length c0, .agg #[.int .i64 a1_0, .int .i64 a1_1, .int .i64 a1_2, .int .i64 a1_3, .int .i64 a1_4, .int .i64 a1_5, .int .i64 a1_6], .slice A2 l2.length c2] w fun e w' => ∃ v0_ : Value, e = .returned (v0_) ∧ Kd.R k28 28 w' w.heap.size (fun _ => True) v0_ r ∧ Below w.heap.size w w' := by
  unfold dead_Insert.f at h
  by_cases hq : l0.length ≤ 1000000 ∧ l0.length ≤ l2.length
  case neg => rw [if_neg hq] at h; cases h
  rw [if_pos hq] at h
  obtain ⟨hlen, hl1⟩ := hq
  obtain ⟨mv, h3, rfl⟩ := Option.map_eq_some_iff.1 h
  have HR0 := Aside0.mk hr0
  have HC0 := Aside0.mk hc0
  have HR1 := Aside0.mk hr2
  have HC1 := Aside0.mk hc2
  have HL := Aside0.mk hlen
  have HL1 := Aside0.mk hl1
  have H3 := Aside0.mk h3
  clear hr0 hc0 hr2 hc2 hlen hl1 h h3
  go_enter Tryd.func15, Tryd.ntmps15
  go_wp2_with fail
  have hbA : Below w.heap.size w (w.alloc (.cells #[.int .i64 a1_0, .int .i64 a1_1, .int .i64 a1_2, .int .i64 a1_3, .int .i64 a1_4, .int .i64 a1_5, .int .i64 a1_6] 28)) := (Below.refl _ _).alloc (Nat.le_refl _) _
  have hqI := blk_new w (.cells #[.int .i64 a1_0, .int .i64 a1_1, .int .i64 a1_2, .int .i64 a1_3, .int .i64 a1_4, .int .i64 a1_5, .int .i64 a1_6] 28)
  have hsA : (w.alloc (.cells #[.int .i64 a1_0, .int .i64 a1_1, .int .i64 a1_2, .int .i64 a1_3, .int .i64 a1_4, .int .i64 a1_5, .int .i64 a1_6] 28)).heap.size = w.heap.size + 1 := by simp
  generalize (w.alloc (.cells #[.int .i64 a1_0, .int .i64 a1_1, .int .i64 a1_2, .int .i64 a1_3, .int .i64 a1_4, .int .i64 a1_5, .int .i64 a1_6] 28)) = wA at hbA hqI hsA ⊢
  have hbB : Below w.heap.size w (wA.alloc (.cells #[.slice A2 l2.length c2] 26)) := hbA.alloc hbA.size _
  have hqJ := blk_alloc hqI (.cells #[.slice A2 l2.length c2] 26)
  have hqB := blk_new wA (.cells #[.slice A2 l2.length c2] 26)
  rw [hsA] at hqB
  generalize (wA.alloc (.cells #[.slice A2 l2.length c2] 26)) = wB at hbB hqJ hqB ⊢
  have hmv := dead_moved.calls (insGo k l2) #[.pointer (some ⟨w.heap.size + 1, 0, none⟩)] 33 A0 c0 l0 mv wB (Kd.C_below HR0.out hbB) HC0.out HL.out (fun args w => rfl)
    (fun a t W hp hw => by
      obtain ⟨u, hu, rfl⟩ := Option.map_eq_some_iff.1 hp
      exact ins1.calls k (w.heap.size + 1) A2 c2 l2 a u W (blk_below hqB hw) (Kd.C_below HR1.out (hbB.trans (hw.mono hbB.size))) HC1.out hu) H3.out
  have HB2 := Aside0.mk hbB
  have HQI := Aside0.mk hqJ
  have HQB := Aside0.mk hqB
  have HMV := Aside0.mk hmv
  have HSB := Aside0.mk (blk_lt hqB)
  clear hbA hqI hsA hbB hqJ hqB hmv
  refine HMV.out.mono ?_
  rintro e w3 ⟨v0, rfl, ho, hb⟩
  have hml : mv.length = l0.length := movedL_len _ _ _ H3.out
  obtain ⟨Am, cm, rfl⟩ := Kd.R_slice ho
  have HO := Aside0.mk (Kd.R_reads' ho).2.2
  have HB3 := Aside0.mk (HB2.out.trans (hb.mono HB2.out.size))
  have HQ4 := Aside0.mk (blk_below HQB.out hb)
  have HQ5 := Aside0.mk (blk_below HQI.out hb)
  have HML := Aside0.mk hml
  have hn : mv.length ≤ 9223372036854775807 := by have := HL.out; omega
  have HSB3 := Aside0.mk (Nat.le_trans HSB.out hb.size)
  clear ho hb HMV hml HQB HQI HB2 HSB
  obtain ⟨gI, hgI⟩ : ∃ gI, gI = w.heap.size := ⟨_, rfl⟩
  obtain ⟨gB, hgB⟩ : ∃ gB, gB = w.heap.size + 1 := ⟨_, rfl⟩
  rw [← hgB] at HQ4 ⊢
  rw [← hgI] at HQ5 ⊢
  have HGI := Aside0.mk hgI
  have HGB := Aside0.mk hgB
  clear hgI hgB
  go_wp2_with fail
  obtain ⟨x, hx⟩ : ∃ x : S28, x = ⟨a1_0, a1_1, a1_2, a1_3, a1_4, a1_5, a1_6⟩ := ⟨_, rfl⟩
  have HQ6 := Aside0.mk (show w3.heap[gI]? = some (.cells #[.int .i64 x.f0, .int .i64 x.f1, .int .i64 x.f2, .int .i64 x.f3, .int .i64 x.f4, .int .i64 x.f5, .int .i64 x.f6] 28 (0, 0)) by rw [hx]; exact HQ5.out)
  have HX := Aside0.mk hx
  clear hx HQ5
  go_loopg [7, 8, 9, 14] mv.length (fun gg v7 _ _ s14 wr => ∃ (j : Int) (o2 : List S28), 0 ≤ j ∧ j ≤ mv.length ∧ mv.length - j ≤ gg ∧ s14 = .int .i64 j ∧ Aside0 (o2 ++ insertL x l2 j.toNat (mv.drop j.toNat) = insertL x l2 0 mv ∧ (o2.length : Int) ≤ 2 * j) ∧ Aside0 (Kd.R k28 28 wr w3.heap.size (fun _ => True) v7 o2) ∧ Aside0 (Below w3.heap.size w3 wr))
  case atStart => exact ⟨0, [], by omega, by omega, by omega, rfl, ⟨by simp, by simp⟩, ⟨Kd.R_nil _ _ _ _ _⟩, ⟨Below.refl _ _⟩⟩
  case round =>
    obtain ⟨j, o2, hj0, hj1, hjg, rfl, HM, HR, HB⟩ := hrel
    by_cases hlt : j < mv.length
    · have hl2 : j < l2.length := by have := HML.out; have := HL1.out; omega
      obtain ⟨ad, e101, q0, q1, q2, q3, q4, q5, q6⟩ := at_T28 (Kd.C_below HO.out HB.out) j hj0 hlt
      cases e101
      obtain ⟨y, hy⟩ : ∃ y, y = rd_T28 mv j := ⟨_, rfl⟩
      have hd := mv_drop mv z28 j hj0 hlt
      rw [show mv.getD j.toNat z28 = rd_T28 mv j from rfl, ← hy] at hd
      rw [← hy] at q0 q1 q2 q3 q4 q5 q6
      clear hy
      have hM := HM.out.1
      rw [hd, insertL] at hM
      have hBk := blk_below HQ4.out HB.out
      have hIk := blk_below HQ6.out HB.out
      have hCA : Kd.C Kd.bool wr A2 l2.length l2 := Kd.C_below HR1.out (HB3.out.trans (HB.out.mono HB3.out.size))
      have HLO := Aside0.mk HM.out.2
      have hsz := HB.out.size
      obtain ⟨gx, hgx⟩ : ∃ gx, gx = wr.heap.size := ⟨_, rfl⟩
      have hkx : (wr.alloc (.cells #[.int .i64 y.f0, .int .i64 y.f1, .int .i64 y.f2, .int .i64 y.f3, .int .i64 y.f4, .int .i64 y.f5, .int .i64 y.f6] 28)).heap[gx]? = some (.cells #[.int .i64 y.f0, .int .i64 y.f1, .int .i64 y.f2, .int .i64 y.f3, .int .i64 y.f4, .int .i64 y.f5, .int .i64 y.f6] 28 (0, 0)) := by rw [hgx]; exact blk_new wr _
      have hC1 : Kd.C Kd.bool (wr.alloc (.cells #[.int .i64 y.f0, .int .i64 y.f1, .int .i64 y.f2, .int .i64 y.f3, .int .i64 y.f4, .int .i64 y.f5, .int .i64 y.f6] 28)) A2 l2.length l2 := Kd.C_below hCA ((Below.refl _ _).alloc (Nat.le_refl _) _)
      have HGX := Aside0.mk (show gx < (wr.alloc (.cells #[.int .i64 y.f0, .int .i64 y.f1, .int .i64 y.f2, .int .i64 y.f3, .int .i64 y.f4, .int .i64 y.f5, .int .i64 y.f6] 28)).heap.size from blk_lt hkx)
      have HO1 := Aside0.mk (show Kd.R k28 28 (wr.alloc (.cells #[.int .i64 y.f0, .int .i64 y.f1, .int .i64 y.f2, .int .i64 y.f3, .int .i64 y.f4, .int .i64 y.f5, .int .i64 y.f6] 28)) w3.heap.size (fun k => True ∧ k ≠ gx) u7 o2 from Kd.R_alloc (Kd.R_elderB HR.out gx (by omega)) _)
      have HB1 := Aside0.mk (show Below w3.heap.size w3 (wr.alloc (.cells #[.int .i64 y.f0, .int .i64 y.f1, .int .i64 y.f2, .int .i64 y.f3, .int .i64 y.f4, .int .i64 y.f5, .int .i64 y.f6] 28)) from HB.out.alloc HB.out.size _)
      have HKX := Aside0.mk hkx
      have HNJ := Aside0.mk (show wrap64 (j + 1) = j + 1 by have := HML.out; have := HL.out; unfold wrap64; omega)
      obtain ⟨ab, e102, za⟩ := Kd.at_bool hC1 j hj0 hl2
      cases e102
      have HQB1 := Aside0.mk (blk_alloc hBk (.cells #[.int .i64 y.f0, .int .i64 y.f1, .int .i64 y.f2, .int .i64 y.f3, .int .i64 y.f4, .int .i64 y.f5, .int .i64 y.f6] 28))
      have HQI1 := Aside0.mk (blk_alloc hIk (.cells #[.int .i64 y.f0, .int .i64 y.f1, .int .i64 y.f2, .int .i64 y.f3, .int .i64 y.f4, .int .i64 y.f5, .int .i64 y.f6] 28))
      have z1 : (wr.alloc (.cells #[.int .i64 y.f0, .int .i64 y.f1, .int .i64 y.f2, .int .i64 y.f3, .int .i64 y.f4, .int .i64 y.f5, .int .i64 y.f6] 28)).cell? ⟨gB, 0, none⟩ = some (.slice (some ab) l2.length c2) := (blk_cell HQB1.out 0).trans rfl
      have i0 : (wr.alloc (.cells #[.int .i64 y.f0, .int .i64 y.f1, .int .i64 y.f2, .int .i64 y.f3, .int .i64 y.f4, .int .i64 y.f5, .int .i64 y.f6] 28)).cell? ⟨gI, 0, none⟩ = some (.int .i64 x.f0) := (blk_cell HQI1.out 0).trans rfl
      have i1 : (wr.alloc (.cells #[.int .i64 y.f0, .int .i64 y.f1, .int .i64 y.f2, .int .i64 y.f3, .int .i64 y.f4, .int .i64 y.f5, .int .i64 y.f6] 28)).cell? ⟨gI, 1, none⟩ = some (.int .i64 x.f1) := (blk_cell HQI1.out 1).trans rfl
      have i2 : (wr.alloc (.cells #[.int .i64 y.f0, .int .i64 y.f1, .int .i64 y.f2, .int .i64 y.f3, .int .i64 y.f4, .int .i64 y.f5, .int .i64 y.f6] 28)).cell? ⟨gI, 2, none⟩ = some (.int .i64 x.f2) := (blk_cell HQI1.out 2).trans rfl
      have i3 : (wr.alloc (.cells #[.int .i64 y.f0, .int .i64 y.f1, .int .i64 y.f2, .int .i64 y.f3, .int .i64 y.f4, .int .i64 y.f5, .int .i64 y.f6] 28)).cell? ⟨gI, 3, none⟩ = some (.int .i64 x.f3) := (blk_cell HQI1.out 3).trans rfl
      have i4 : (wr.alloc (.cells #[.int .i64 y.f0, .int .i64 y.f1, .int .i64 y.f2, .int .i64 y.f3, .int .i64 y.f4, .int .i64 y.f5, .int .i64 y.f6] 28)).cell? ⟨gI, 4, none⟩ = some (.int .i64 x.f4) := (blk_cell HQI1.out 4).trans rfl
      have i5 : (wr.alloc (.cells #[.int .i64 y.f0, .int .i64 y.f1, .int .i64 y.f2, .int .i64 y.f3, .int .i64 y.f4, .int .i64 y.f5, .int .i64 y.f6] 28)).cell? ⟨gI, 5, none⟩ = some (.int .i64 x.f5) := (blk_cell HQI1.out 5).trans rfl
      have i6 : (wr.alloc (.cells #[.int .i64 y.f0, .int .i64 y.f1, .int .i64 y.f2, .int .i64 y.f3, .int .i64 y.f4, .int .i64 y.f5, .int .i64 y.f6] 28)).cell? ⟨gI, 6, none⟩ = some (.int .i64 x.f6) := (blk_cell HQI1.out 6).trans rfl
      obtain ⟨bo, hbo⟩ : ∃ bo, bo = rdOf false l2 j := ⟨_, rfl⟩
      have hb2 : l2.getD j.toNat false = bo := by rw [hbo]; rfl
      rw [← hbo] at za
      rw [hb2] at hM
      have HGN := Aside0.mk hgx
      have HM1 := Aside0.mk hM
      clear hd hM hBk hIk hCA hkx hC1 hb2 hbo HM HR HB hsz
      have k0 : (wr.alloc (.cells #[.int .i64 y.f0, .int .i64 y.f1, .int .i64 y.f2, .int .i64 y.f3, .int .i64 y.f4, .int .i64 y.f5, .int .i64 y.f6] 28)).cell? ⟨wr.heap.size, 0, none⟩ = some (.int .i64 y.f0) := (blk_cell (HGN.out ▸ HKX.out) 0).trans rfl
      have k1 : (wr.alloc (.cells #[.int .i64 y.f0, .int .i64 y.f1, .int .i64 y.f2, .int .i64 y.f3, .int .i64 y.f4, .int .i64 y.f5, .int .i64 y.f6] 28)).cell? ⟨wr.heap.size, 1, none⟩ = some (.int .i64 y.f1) := (blk_cell (HGN.out ▸ HKX.out) 1).trans rfl
      have k2 : (wr.alloc (.cells #[.int .i64 y.f0, .int .i64 y.f1, .int .i64 y.f2, .int .i64 y.f3, .int .i64 y.f4, .int .i64 y.f5, .int .i64 y.f6] 28)).cell? ⟨wr.heap.size, 2, none⟩ = some (.int .i64 y.f2) := (blk_cell (HGN.out ▸ HKX.out) 2).trans rfl
      have k3 : (wr.alloc (.cells #[.int .i64 y.f0, .int .i64 y.f1, .int .i64 y.f2, .int .i64 y.f3, .int .i64 y.f4, .int .i64 y.f5, .int .i64 y.f6] 28)).cell? ⟨wr.heap.size, 3, none⟩ = some (.int .i64 y.f3) := (blk_cell (HGN.out ▸ HKX.out) 3).trans rfl
      have k4 : (wr.alloc (.cells #[.int .i64 y.f0, .int .i64 y.f1, .int .i64 y.f2, .int .i64 y.f3, .int .i64 y.f4, .int .i64 y.f5, .int .i64 y.f6] 28)).cell? ⟨wr.heap.size, 4, none⟩ = some (.int .i64 y.f4) := (blk_cell (HGN.out ▸ HKX.out) 4).trans rfl
      have k5 : (wr.alloc (.cells #[.int .i64 y.f0, .int .i64 y.f1, .int .i64 y.f2, .int .i64 y.f3, .int .i64 y.f4, .int .i64 y.f5, .int .i64 y.f6] 28)).cell? ⟨wr.heap.size, 5, none⟩ = some (.int .i64 y.f5) := (blk_cell (HGN.out ▸ HKX.out) 5).trans rfl
      have k6 : (wr.alloc (.cells #[.int .i64 y.f0, .int .i64 y.f1, .int .i64 y.f2, .int .i64 y.f3, .int .i64 y.f4, .int .i64 y.f5, .int .i64 y.f6] 28)).cell? ⟨wr.heap.size, 6, none⟩ = some (.int .i64 y.f6) := (blk_cell (HGN.out ▸ HKX.out) 6).trans rfl
      clear hgx
      cases bo with
      | true =>
        have HM2 := Aside0.mk (show o2 ++ x :: y :: insertL x l2 (j.toNat + 1) (mv.drop (j + 1).toNat) = _ from HM1.out)
        clear HM1
        go_wp2_with (first | ((with_reducible refine gate_builtin (b := .append) (xs := #[.tmp 23, .tmp 25]) rfl ?_); at_builtin; (refine Kd.R_append k28 (w0 := w3) w3.heap.size rfl (.tmp 23) (.tmp 25) 32 28 (.agg #[(.int .i64 0), (.int .i64 0), (.int .i64 0), (.int .i64 0), (.int .i64 0), (.int .i64 0), (.int .i64 0)]) 56 rfl Tryd.underlying32 dInsInfo rfl (by decide) (by omega) u7 o2 x [.int .i64 x.f0, .int .i64 x.f1, .int .i64 x.f2, .int .i64 x.f3, .int .i64 x.f4, .int .i64 x.f5, .int .i64 x.f6] (fun k_ => True ∧ k_ ≠ gx) (fun _ => False) rfl (by first | rfl | (go_simp; done) | (go_simp; rfl)) (k28_mkM _ _ _ x) (fun _ hk => hk.elim) (fun k_ hk => ⟨trivial, by have := blk_lt HKX.out; omega⟩) HO1.out HB1.out HB1.out.size (by have := HLO.out; have := HML.out; have := HL.out; simp; omega) ?_; intro v4 w4 hoA hbA hgA hatA; have HO2 := Aside0.mk hoA; have HB2 := Aside0.mk hbA; have HK2 := Aside0.mk (blk_grown HKX.out hgA (Kd.R_away HO1.out (fun _ hk => hk.2))); clear hoA hbA hgA hatA HO1 HB1 HKX; have HO1 := HO2; have HB1 := HB2; have HKX := HK2; clear HO2 HB2 HK2; rw [← HGN.out]; clear i0 i1 i2 i3 i4 i5 i6 k0 k1 k2 k3 k4 k5 k6 z1 za q0 q1 q2 q3 q4 q5 q6; have k0 : w4.cell? ⟨gx, 0, none⟩ = some (.int .i64 y.f0) := (blk_cell HKX.out 0).trans rfl; have k1 : w4.cell? ⟨gx, 1, none⟩ = some (.int .i64 y.f1) := (blk_cell HKX.out 1).trans rfl; have k2 : w4.cell? ⟨gx, 2, none⟩ = some (.int .i64 y.f2) := (blk_cell HKX.out 2).trans rfl; have k3 : w4.cell? ⟨gx, 3, none⟩ = some (.int .i64 y.f3) := (blk_cell HKX.out 3).trans rfl; have k4 : w4.cell? ⟨gx, 4, none⟩ = some (.int .i64 y.f4) := (blk_cell HKX.out 4).trans rfl; have k5 : w4.cell? ⟨gx, 5, none⟩ = some (.int .i64 y.f5) := (blk_cell HKX.out 5).trans rfl; have k6 : w4.cell? ⟨gx, 6, none⟩ = some (.int .i64 y.f6) := (blk_cell HKX.out 6).trans rfl)) | ((with_reducible refine gate_builtin (b := .append) (xs := #[.tmp 27, .tmp 29]) rfl ?_); at_builtin; (refine Kd.R_append k28 (w0 := w3) w3.heap.size rfl (.tmp 27) (.tmp 29) 32 28 (.agg #[(.int .i64 0), (.int .i64 0), (.int .i64 0), (.int .i64 0), (.int .i64 0), (.int .i64 0), (.int .i64 0)]) 56 rfl Tryd.underlying32 dInsInfo rfl (by decide) (by omega) v4 (o2 ++ [x]) y [.int .i64 y.f0, .int .i64 y.f1, .int .i64 y.f2, .int .i64 y.f3, .int .i64 y.f4, .int .i64 y.f5, .int .i64 y.f6] (fun k_ => True ∧ k_ ≠ gx) (fun _ => False) rfl (by first | rfl | (go_simp; done) | (go_simp; rfl)) (k28_mkM _ _ _ y) (fun _ hk => hk.elim) (fun k_ hk => ⟨trivial, by have := blk_lt HKX.out; omega⟩) HO1.out HB1.out HB1.out.size (by have := HLO.out; have := HML.out; have := HL.out; simp; omega) ?_; intro v5 w5 hoA hbA hgA hatA; have HO2 := Aside0.mk hoA; have HB2 := Aside0.mk hbA; have HK2 := Aside0.mk (blk_grown HKX.out hgA (Kd.R_away HO1.out (fun _ hk => hk.2))); clear hoA hbA hgA hatA HO1 HB1 HKX; have HO1 := HO2; have HB1 := HB2; have HKX := HK2; clear HO2 HB2 HK2)))
        go_roundg (gk - 1)
        case measure => omega
        case rel => exact ⟨j + 1, o2 ++ [x] ++ [y], by omega, by omega, by omega, by first | rfl | rw [HNJ.out], ⟨by rw [show (j + 1).toNat = j.toNat + 1 by omega] at *; simpa using HM2.out, by have := HLO.out; simp; omega⟩, ⟨Kd.R_mono HO1.out (fun _ _ => trivial)⟩, HB1⟩
      | false =>
        have HM2 := Aside0.mk (show o2 ++ y :: insertL x l2 (j.toNat + 1) (mv.drop (j + 1).toNat) = _ from HM1.out)
        clear HM1
        go_wp2_with ((with_reducible refine gate_builtin (b := .append) (xs := #[.tmp 27, .tmp 29]) rfl ?_); at_builtin; (refine Kd.R_append k28 (w0 := w3) w3.heap.size rfl (.tmp 27) (.tmp 29) 32 28 (.agg #[(.int .i64 0), (.int .i64 0), (.int .i64 0), (.int .i64 0), (.int .i64 0), (.int .i64 0), (.int .i64 0)]) 56 rfl Tryd.underlying32 dInsInfo rfl (by decide) (by omega) u7 o2 y [.int .i64 y.f0, .int .i64 y.f1, .int .i64 y.f2, .int .i64 y.f3, .int .i64 y.f4, .int .i64 y.f5, .int .i64 y.f6] (fun k_ => True ∧ k_ ≠ gx) (fun _ => False) rfl (by first | rfl | (go_simp; done) | (go_simp; rfl)) (k28_mkM _ _ _ y) (fun _ hk => hk.elim) (fun k_ hk => ⟨trivial, by have := blk_lt HKX.out; omega⟩) HO1.out HB1.out HB1.out.size (by have := HLO.out; have := HML.out; have := HL.out; simp; omega) ?_; intro v5 w5 hoA hbA hgA hatA; have HO2 := Aside0.mk hoA; have HB2 := Aside0.mk hbA; have HK2 := Aside0.mk (blk_grown HKX.out hgA (Kd.R_away HO1.out (fun _ hk => hk.2))); clear hoA hbA hgA hatA HO1 HB1 HKX; have HO1 := HO2; have HB1 := HB2; have HKX := HK2; clear HO2 HB2 HK2))
        go_roundg (gk - 1)
        case measure => omega
        case rel => exact ⟨j + 1, o2 ++ [y], by omega, by omega, by omega, by first | rfl | rw [HNJ.out], ⟨by rw [show (j + 1).toNat = j.toNat + 1 by omega] at *; simpa using HM2.out, by have := HLO.out; simp; omega⟩, ⟨Kd.R_mono HO1.out (fun _ _ => trivial)⟩, HB1⟩
    · have hM := HM.out.1
      rw [List.drop_eq_nil_of_le (by omega), insertL, List.append_nil, HX.out] at hM
      have HM1 := Aside0.mk hM
      clear hM HM
      go_wp2_with fail
      go_ret
      exact ⟨_, rfl, HM1.out ▸ Kd.R_lower HR.out HB3.out.size, HB3.out.trans (HB.out.mono HB3.out.size)⟩
end Go.Proofs.YtdopacgaklaaeaaDoor.PDeadRuns
