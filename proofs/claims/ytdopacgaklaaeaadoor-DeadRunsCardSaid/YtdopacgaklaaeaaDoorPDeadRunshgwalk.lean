import Derived.Test.YtdopacgaklaaeaaDoorPDeadRunsx0
import Derived.Test.YtdopacgaklaaeaaDoorPDeadRunshplain0
import Derived.Test.YtdopacgaklaaeaaDoorShelf
namespace Go.Proofs.YtdopacgaklaaeaaDoor.PDeadRuns
open Go.RowKit Go.Proofs.YtdopacgaklaaeaaDoorW.PrintWords Go.Proofs.YtdopacgaklaaeaaDoorW.PrintLast Go.Proofs.YtdopacgaklaaeaaDoorW.PrintMore
set_option linter.unusedVariables false
set_option linter.unusedSimpArgs false
open Go.Shelf
/-! graph.walk: what can be come to, by steps. -/
theorem clone_any (A : Option Addr) (c : Nat) (l : List Int) (w : World) (h : Kd.C (Kd.int .i64) w A l.length l) (hb : l.length * 8 ≤ 140737488355328) :
    Calls Tryd.prog 65 #[.slice A l.length c] w fun e w' => ∃ v : Value, e = .returned v ∧ Kd.R (Kd.int .i64) 3 w' w.heap.size (fun _ => True) v l ∧ Below w.heap.size w w' := by
  cases A with
  | none =>
    have hl : l = [] := by
      rcases Nat.eq_zero_or_pos l.length with h0 | h0
      · exact List.eq_nil_of_length_eq_zero h0
      · obtain ⟨ad, he, _⟩ := h.2.2 h0; cases he
    subst hl
    refine (Tryd.slices_Clone_int_nil 0 c w).mono ?_
    rintro e w' ⟨rfl, rfl⟩
    exact ⟨_, rfl, Kd.R_nil _ _ _ _ _, Below.refl _ _⟩
  | some a =>
    by_cases hl : l = []
    · subst hl
      refine (Tryd.slices_Clone_int_zero a c w).mono ?_
      rintro e w' ⟨v, rfl, ho, _, hb⟩
      exact ⟨_, rfl, Kd.R_of_own ho (fun _ _ => trivial), hb⟩
    · have hpos : 0 < l.length := List.length_pos_iff.2 hl
      obtain ⟨ad, e1, hcell⟩ := h.2.2 hpos
      cases e1
      have hcells : ∀ (j : Nat) (x : Int), l[j]? = some x → w.cell? (a.add j) = some (.int .i64 x) := fun j x hj => by
        obtain ⟨c, hc1, hc2, hc3⟩ := hcell j x hj
        have := hc3 0 (.int .i64 x) (by rw [hc2]; rfl)
        rw [Nat.add_zero, show (Kd.int .i64).sz = 1 from rfl, Nat.mul_one] at this
        exact this
      obtain ⟨b, o, sp⟩ := a
      obtain ⟨x0, hx0⟩ : ∃ x0, l[0]? = some x0 := ⟨_, List.getElem?_eq_getElem hpos⟩
      have hc00 : w.cell? ⟨b, o, sp⟩ = some (.int .i64 x0) := hcells 0 x0 hx0
      have hsp : sp = none := by
        cases sp with
        | none => rfl
        | some s => exact absurd hc00 (by unfold World.cell?; split <;> simp)
      subst hsp
      refine (Tryd.slices_Clone_int b o l.length c l w (Nat.le_refl _) hb (fun j hj => ?_)).mono ?_
      · have := hcells j _ (List.getElem?_eq_getElem hj)
        have e2 : l.getD j 0 = l[j] := by rw [List.getD_eq_getElem?_getD, List.getElem?_eq_getElem hj]; rfl
        rw [e2, ← this]
        unfold Addr.add
        by_cases h0 : j = 0
        · subst h0; simp
        · rw [if_neg h0]
      · rintro e w' ⟨v, rfl, ho, _, hb⟩
        rw [List.take_of_length_le (Nat.le_refl _)] at ho
        exact ⟨_, rfl, Kd.R_of_own ho (fun _ _ => trivial), hb⟩
theorem infoI : (Tryd.prog.info? 3).map (fun i => (i.zero, i.size, i.bytes)) = some (some (.int .i64 0), 1, 8) := by kernel_rfl
theorem infoB : (Tryd.prog.info? 4).map (fun i => (i.zero, i.size, i.bytes)) = some (some (.bool false), 1, 1) := by kernel_rfl
set_option maxHeartbeats 8000000 in
set_option maxRecDepth 100000 in
theorem gwalk.calls (st : Int → Option (List Int)) (k : Nat) (g : Nat) (lb : Array Value) (n : Nat) (A1 : Option Addr) (c1 : Nat) (l1 : List Int) (R : List Bool) (w : World) (hn : n ≤ 1000000) (hl1 : l1.length ≤ 1000000) (hr1 : Kd.C (Kd.int .i64) w A1 l1.length l1)
    (eg : ∀ args w, (callFunc g args).run Tryd.prog w = .ok (.enter g args) w)
    (hst : ∀ (a : Int) (r : List Int) (W : World), st a = some r → Below w.heap.size w W → Calls Tryd.prog g (#[.int .i64 a] ++ lb) W fun e W' => ∃ (A : Option Addr) (c : Nat), e = .returned (.slice A r.length c) ∧ Kd.C (Kd.int .i64) W' A r.length r ∧ Below W.heap.size W W')
    (h : walkGo st k (List.replicate n false) l1 = some R) :
    Calls Tryd.prog 47 #[.int .i64 n, .slice A1 l1.length c1, .func (.func g) #[] lb] w fun e w' => ∃ v0_ : Value, e = .returned (v0_) ∧ Kd.R Kd.bool 4 w' w.heap.size (fun _ => True) v0_ R ∧ Below w.heap.size w w' := by
  have HST := Aside0.mk hst
  have H := Aside0.mk h
  have HN := Aside0.mk hn
  have CC := Aside0.mk (fun W (hb : Below w.heap.size w W) => clone_any A1 c1 l1 W (Kd.C_below hr1 hb) (by omega))
  clear hst h hr1 hl1
  have hn0 : (0 : Int) ≤ (n : Int) := by omega
  go_enter Tryd.func47, Tryd.ntmps47
  go_wp2_with fail
  go_step3
  go_upto_region 2 with (first | ((with_reducible refine gate_dst (N := 11) rfl ?_); refine Kd.R_make Kd.bool _ 4 rfl (N := 11) rfl 26 _ _ rfl (n : Int) rfl rfl Tryd.underlying26 (.bool false) 1 infoB rfl (by decide) (by omega) false (ok := fun _ => True) (okp := fun _ => True) rfl (fun _ hk => hk) trivial hn0 (by simp; omega) (Below.refl _ _) (Nat.le_refl _) ?_; intro v7 w1 ho8 hb hg_ hnew_; clear hg_ hnew_; have HO7 := Aside0.mk ho8; have HB := Aside0.mk hb; clear ho8 hb))
  go_wp2_with (go_at_call 65; (with_reducible refine (CC.out _ HB.out).mono ?_); rintro e w2 ⟨v8, rfl, ho, hb⟩; have HO7' := Aside0.mk (Kd.R_below HO7.out hb); have HO8 := Aside0.mk (Kd.R_lower ho HB.out.size); have HB2 := Aside0.mk (below_step HB.out hb); clear ho hb CC HO7 HB)
  go_step3
  simp only [Int.toNat_natCast] at HO7'
  obtain ⟨A7, c7, e7⟩ := Kd.R_slice HO7'.out
  rw [List.length_replicate] at e7
  subst e7
  go_wp2_with fail
  go_loopg [8] k (fun kq v8 wr => ∃ (seen : List Bool) (wait : List Int), Aside0 (walkGo st kq seen wait = some R) ∧ Aside0 (seen.length = n) ∧ Aside0 (Kd.R Kd.bool 4 wr w.heap.size (fun _ => True) (.slice A7 n c7) seen) ∧ Aside0 (Kd.R (Kd.int .i64) 3 wr w.heap.size (fun _ => True) v8 wait) ∧ Aside0 (Below w.heap.size w wr))
  case atStart => exact ⟨_, _, H, ⟨by simp⟩, HO7', HO8, HB2⟩
  case round =>
    clear H HO7' HO8 HB2
    obtain ⟨seen, wait, HA, HSL, HO7, HO8, HB⟩ := hrel
    obtain ⟨A8, c8, e8⟩ := Kd.R_slice HO8.out
    subst e8
    cases gk with
    | zero => exact absurd HA.out (by simp [walkGo])
    | succ k1 =>
      have ha := HA.out
      clear HA
      rw [walkGo] at ha
      by_cases hw : wait = []
      · rw [if_pos hw] at ha
        obtain rfl := Option.some.inj ha
        subst hw
        clear ha
        go_wp2_with fail
        go_ret
        exact ⟨_, rfl, HO7.out, HB.out⟩
      · rw [if_neg hw] at ha
        have hsp := split_last hw
        obtain ⟨a, hav⟩ : ∃ a, a = wait.getLastD 0 := ⟨_, rfl⟩
        obtain ⟨wd, hwd⟩ : ∃ wd, wd = wait.dropLast := ⟨_, rfl⟩
        rw [← hav, ← hwd] at ha hsp
        by_cases hr : 0 ≤ a ∧ a < (seen.length : Int)
        case neg => rw [if_neg hr] at ha; exact absurd ha (by simp)
        rw [if_pos hr] at ha
        obtain ⟨hr0, hr1⟩ := hr
        have hpos : 0 < wait.length := List.length_pos_iff.2 hw
        have hwl : wd.length = wait.length - 1 := by rw [hsp]; simp
        have hcap := (Kd.R_reads' HO8.out).2.1
        have hl63 : wait.length ≤ 9223372036854775807 := (Kd.R_reads' HO8.out).2.2.2.1
        obtain ⟨ad8, e8, hx8⟩ := Kd.at_int (Kd.R_reads' HO8.out).2.2 ((wait.length : Int) - 1) (by omega) (by omega)
        cases e8
        have hrd : rd wait ((wait.length : Int) - 1) = a := by
          unfold rd
          rw [show ((wait.length : Int) - 1).toNat = wait.length - 1 by omega, hav, List.getLastD_eq_getLast?, List.getLast?_eq_getElem?, List.getD_eq_getElem?_getD]
        rw [show ((wait.length : Int) - 1).toNat = wait.length - 1 by omega, hrd] at hx8
        have ht := Kd.R_take HO8.out (m := wait.length - 1) (by omega)
        rw [← List.dropLast_eq_take, ← hwd] at ht
        have hsl := HSL.out
        obtain ⟨g7, cap7, e7, hg7, hl7, cells7, hb7⟩ := Kd.R_form HO7.out (by omega)
        injection e7 with ea en ec
        subst ea ec
        clear en
        obtain ⟨hx7, hf7⟩ := Kd.R_celln false HO7.out a hr0 (by omega)
        have hat : rdOf false seen a = at_ seen a := rfl
        rw [hat] at hx7
        have hi1 : (0 : Int) ≤ (wait.length : Int) - 1 := by omega
        have hi2 : (wait.length : Int) - 1 ≤ (c8 : Int) := by omega
        have hi3 : (wait.length : Int) - 1 < (wait.length : Int) := by omega
        have hi4 : wait.length - 1 ≤ c8 := by omega
        have hi5 : a < (n : Int) := by omega
        have HT := Aside0.mk ht
        have HW := Aside0.mk hwl
        clear hsp hav hwd hrd ht hwl hat hsl hg7 hl7 hb7 hcap hr1 hw
        by_cases hs : at_ seen a = true
        · rw [if_pos hs] at ha
          rw [hs] at hx7
          have HA := Aside0.mk ha
          clear ha hs
          go_wp2_with fail
          go_roundg k1
          case measure => omega
          case rel => exact ⟨seen, wd, HA, HSL, HO7, ⟨HT.out⟩, HB⟩
        · rw [if_neg hs] at ha
          have hs' : at_ seen a = false := by simpa using hs
          rw [hs'] at hx7
          obtain ⟨l, hl, ha2⟩ := Option.bind_eq_some_iff.1 ha
          by_cases hz : wait.length + l.length ≤ 1000000000
          case neg => rw [if_neg hz] at ha2; exact absurd ha2 (by simp)
          rw [if_pos hz] at ha2
          have HA := Aside0.mk ha2
          have HZ := Aside0.mk hz
          obtain ⟨hp1, hp2⟩ := Kd.R_putg HO7.out a true
          have HP1 := Aside0.mk hp1
          have HP2 := Aside0.mk (Kd.R_over HT.out HO7.out (by decide) hp2)
          have HB2 := Aside0.mk (HB.out.setCell (p := ⟨g7, a.toNat, none⟩) (Kd.R_base HO7.out g7 rfl) (.bool true))
          have HCL := Aside0.mk (HST.out a l _ hl HB2.out)
          clear ha hs hs' hl ha2 hz hp1 hp2 HST HT HO7 HO8 HB
          go_wp2_with fail
          refine HCL.out.mono ?_
          rintro e w3 ⟨A, c, rfl, hC, hb⟩
          have HO7 := Aside0.mk (Kd.R_below HP1.out hb)
          have HO8 := Aside0.mk (Kd.R_below HP2.out hb)
          have HB := Aside0.mk (below_step HB2.out hb)
          have HC := Aside0.mk hC
          have hsum : (wd.length + l.length) * 8 ≤ 140737488355328 := by have := HZ.out; have := HW.out; omega
          have HSUM := Aside0.mk hsum
          clear hb hC hsum HCL HP1 HP2 HB2 hx7 hf7 hx8 hl63
          go_wp2_with (first | ((with_reducible refine gate_builtin (b := .append) (xs := #[.tmp 35, .tmp 38]) rfl ?_); (try (refine gate_guard (by rfl) ?_; dsimp only)); at_builtin; refine Kd.R_append_rows (Kd.int .i64) (Rr := (Kd.int .i64).K w3) (w0 := w) w.heap.size rfl (.tmp 35) (.tmp 38) 57 3 (.int .i64 0) 8 rfl Tryd.underlying57 infoI rfl (by decide) (by omega) (.slice (some ad8) (wait.length - 1) c8) wd l A l.length c (fun _ => True) (fun _ => False) rfl rfl HO8.out HC.out (fun x cs h => h) (fun _ hk => hk.elim) (fun _ _ => trivial) HB.out HB.out.size HSUM.out ?_; intro v1 w4 ho hb hg hat; have HO7' := Aside0.mk (Kd.R_over HO7.out HO8.out (by decide) hg); have HO8' := Aside0.mk ho; have HB' := Aside0.mk hb; clear ho hb hg hat HO7 HO8 HB HC))
          go_roundg k1
          case measure => omega
          case rel => exact ⟨seen.set a.toNat true, wd ++ l, HA, ⟨by rw [List.length_set]; exact HSL.out⟩, HO7', HO8', HB'⟩
end Go.Proofs.YtdopacgaklaaeaaDoor.PDeadRuns
