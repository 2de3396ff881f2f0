import Derived.Test.YtdopacgaklaaeaaDoorPDeadTellsx0
import Derived.Test.YtdopacgaklaaeaaDoorPDeadTellshplain0
import Derived.Test.YtdopacgaklaaeaaDoorShelf
import Derived.Test.YtdopacgaklaaeaaDoorPDeadTellshforms
import Derived.Test.YtdopacgaklaaeaaDoorPDeadTellshgnx
import Derived.OneCell
import Derived.Lib.RowBridge
namespace Go.Proofs.YtdopacgaklaaeaaDoor.PDeadTells
open Go.RowKit Go.Proofs.YtdopacgaklaaeaaDoorW.PrintWords Go.Proofs.YtdopacgaklaaeaaDoorW.PrintLast Go.Proofs.YtdopacgaklaaeaaDoorW.PrintMore
set_option linter.unusedVariables false
set_option linter.unusedSimpArgs false
open Go.Shelf
/-! graph.walk: what can be come to, by steps. -/
theorem clone_any (A : Option Addr) (c : Nat) (l : List Int) (w : World) (h : Kd.C (Kd.int .i64) w A l.length l) (hb : l.length * 8 ≤ 140737488355328) :
    Calls Tryd.prog 65 #[.slice A l.length c] w fun e w' => ∃ v : Value, e = .returned v ∧ Kd.R (Kd.int .i64) 3 w' w.heap.size (fun _ => True) v l ∧ Below w.heap.size w w' := by
  cases A with
  | none =>
    have hl : l = [] := by
      rcases Nat.eq_zero_or_pos l.length with h0 | h0
      · exact List.eq_nil_of_length_eq_zero h0
      · obtain ⟨ad, he, _⟩ := h.2.2 h0; cases he
    subst hl
    refine (Tryd.slices_Clone_int_nil 0 c w).mono ?_
    rintro e w' ⟨rfl, rfl⟩
    exact ⟨_, rfl, Kd.R_nil _ _ _ _ _, Below.refl _ _⟩
  | some a =>
    by_cases hl : l = []
    · subst hl
      refine (Tryd.slices_Clone_int_zero a c w).mono ?_
      rintro e w' ⟨v, rfl, ho, _, hb⟩
      exact ⟨_, rfl, Kd.R_of_own ho (fun _ _ => trivial), hb⟩
    · have hpos : 0 < l.length := List.length_pos_iff.2 hl
      obtain ⟨ad, e1, hcell⟩ := h.2.2 hpos
      cases e1
      have hcells : ∀ (j : Nat) (x : Int), l[j]? = some x → w.cell? (a.add j) = some (.int .i64 x) := fun j x hj => by
        obtain ⟨c, hc1, hc2, hc3⟩ := hcell j x hj
        have := hc3 0 (.int .i64 x) (by rw [hc2]; rfl)
        rw [Nat.add_zero, show (Kd.int .i64).sz = 1 from rfl, Nat.mul_one] at this
        exact this
      obtain ⟨b, o, sp⟩ := a
      obtain ⟨x0, hx0⟩ : ∃ x0, l[0]? = some x0 := ⟨_, List.getElem?_eq_getElem hpos⟩
      have hc00 : w.cell? ⟨b, o, sp⟩ = some (.int .i64 x0) := hcells 0 x0 hx0
      have hsp : sp = none := by
        cases sp with
        | none => rfl
        | some s => exact absurd hc00 (by unfold World.cell?; split <;> simp)
      subst hsp
      refine (Tryd.slices_Clone_int b o l.length c l w (Nat.le_refl _) hb (fun j hj => ?_)).mono ?_
      · have := hcells j _ (List.getElem?_eq_getElem hj)
        have e2 : l.getD j 0 = l[j] := by rw [List.getD_eq_getElem?_getD, List.getElem?_eq_getElem hj]; rfl
        rw [e2, ← this]
        unfold Addr.add
        by_cases h0 : j = 0
        · subst h0; simp
        · rw [if_neg h0]
      · rintro e w' ⟨v, rfl, ho, _, hb⟩
        rw [List.take_of_length_le (Nat.le_refl _)] at ho
        exact ⟨_, rfl, Kd.R_of_own ho (fun _ _ => trivial), hb⟩
theorem infoI : (Tryd.prog.info? 3).map (fun i => (i.zero, i.size, i.bytes)) = some (some (.int .i64 0), 1, 8) := by kernel_rfl
theorem infoB : (Tryd.prog.info? 4).map (fun i => (i.zero, i.size, i.bytes)) = some (some (.bool false), 1, 1) := by kernel_rfl
set_option maxHeartbeats 8000000 in
set_option maxRecDepth 100000 in
theorem gwalk.calls (st : Int → Option (List Int)) (k : Nat) (g : Nat) (lb : Array Value) (n : Nat) (A1 : Option Addr) (c1 : Nat) (l1 : List Int) (R : List Bool) (w : World) (hn : n ≤ 1000000) (hl1 : l1.length ≤ 1000000) (hr1 : Kd.C (Kd.int .i64) w A1 l1.length l1)
    (eg : ∀ args w, (callFunc g args).run Tryd.prog w = .ok (.enter g args) w)
    (hst : ∀ (a : Int) (r : List Int) (W : World), st a = some r → Below w.heap.size w W → Calls Tryd.prog g (#[.int .i64 a] ++ lb) W fun e W' => ∃ (A : Option Addr) (c : Nat), e = .returned (.slice A r.length c) ∧ Kd.C (Kd.int .i64) W' A r.length r ∧ Below W.heap.size W W')
    (h : walkGo st k (List.replicate n false) l1 = some R) :
    Calls Tryd.prog 47 #[.int .i64 n, .slice A1 l1.length c1, .func (.func g) #[] lb] w fun e w' => ∃ v0_ : Value, e = .returned (v0_) ∧ Kd.R Kd.bool 4 w' w.heap.size (fun _ => True) v0_ R ∧ Below w.heap.size w w' := by
  have HST := Aside0.mk hst
  have H := Aside0.mk h
  have HN := Aside0.mk hn
  have CC := Aside0.mk (fun W (hb : Below w.heap.size w W) => clone_any A1 c1 l1 W (Kd.C_below hr1 hb) (by omega))
  clear hst h hr1 hl1
  have hn0 : (0 : Int) ≤ (n : Int) := by omega
  go_enter Tryd.func47, Tryd.ntmps47
  go_wp2_with fail
  go_step3
  go_upto_region 2 with (first | ((with_reducible refine gate_dst (N := 11) rfl ?_); refine Kd.R_make Kd.bool _ 4 rfl (N := 11) rfl 26 _ _ rfl (n : Int) rfl rfl Tryd.underlying26 (.bool false) 1 infoB rfl (by decide) (by omega) false (ok := fun _ => True) (okp := fun _ => True) rfl (fun _ hk => hk) trivial hn0 (by simp; omega) (Below.refl _ _) (Nat.le_refl _) ?_; intro v7 w1 ho8 hb hg_ hnew_; clear hg_ hnew_; have HO7 := Aside0.mk ho8; have HB := Aside0.mk hb; clear ho8 hb))
  go_wp2_with (go_at_call 65; (with_reducible refine (CC.out _ HB.out).mono ?_); rintro e w2 ⟨v8, rfl, ho, hb⟩; have HO7' := Aside0.mk (Kd.R_below HO7.out hb); have HO8 := Aside0.mk (Kd.R_lower ho HB.out.size); have HB2 := Aside0.mk (below_step HB.out hb); clear ho hb CC HO7 HB)
  go_step3
  simp only [Int.toNat_natCast] at HO7'
  obtain ⟨A7, c7, e7⟩ := Kd.R_slice HO7'.out
  rw [List.length_replicate] at e7
  subst e7
  go_wp2_with fail
  go_loopg [8] k (fun kq v8 wr => ∃ (seen : List Bool) (wait : List Int), Aside0 (walkGo st kq seen wait = some R) ∧ Aside0 (seen.length = n) ∧ Aside0 (Kd.R Kd.bool 4 wr w.heap.size (fun _ => True) (.slice A7 n c7) seen) ∧ Aside0 (Kd.R (Kd.int .i64) 3 wr w.heap.size (fun _ => True) v8 wait) ∧ Aside0 (Below w.heap.size w wr))
  case atStart => exact ⟨_, _, H, ⟨by simp⟩, HO7', HO8, HB2⟩
  case round =>
    clear H HO7' HO8 HB2
    obtain ⟨seen, wait, HA, HSL, HO7, HO8, HB⟩ := hrel
    obtain ⟨A8, c8, e8⟩ := Kd.R_slice HO8.out
    subst e8
    cases gk with
    | zero => exact absurd HA.out (by simp [walkGo])
    | succ k1 =>
      have ha := HA.out
      clear HA
      rw [walkGo] at ha
      by_cases hw : wait = []
      · rw [if_pos hw] at ha
        obtain rfl := Option.some.inj ha
        subst hw
        clear ha
        go_wp2_with fail
        go_ret
        exact ⟨_, rfl, HO7.out, HB.out⟩
      · rw [if_neg hw] at ha
        have hsp := split_last hw
        obtain ⟨a, hav⟩ : ∃ a, a = wait.getLastD 0 := ⟨_, rfl⟩
        obtain ⟨wd, hwd⟩ : ∃ wd, wd = wait.dropLast := ⟨_, rfl⟩
        rw [← hav, ← hwd] at ha hsp
        by_cases hr : 0 ≤ a ∧ a < (seen.length : Int)
        case neg => rw [if_neg hr] at ha; exact absurd ha (by simp)
        rw [if_pos hr] at ha
        obtain ⟨hr0, hr1⟩ := hr
        have hpos : 0 < wait.length := List.length_pos_iff.2 hw
        have hwl : wd.length = wait.length - 1 := by rw [hsp]; simp
        have hcap := (Kd.R_reads' HO8.out).2.1
        have hl63 : wait.length ≤ 9223372036854775807 := (Kd.R_reads' HO8.out).2.2.2.1
        obtain ⟨ad8, e8, hx8⟩ := Kd.at_int (Kd.R_reads' HO8.out).2.2 ((wait.length : Int) - 1) (by omega) (by omega)
        cases e8
        have hrd : rd wait ((wait.length : Int) - 1) = a := by
          unfold rd
          rw [show ((wait.length : Int) - 1).toNat = wait.length - 1 by omega, hav, List.getLastD_eq_getLast?, List.getLast?_eq_getElem?, List.getD_eq_getElem?_getD]
        rw [show ((wait.length : Int) - 1).toNat = wait.length - 1 by omega, hrd] at hx8
        have ht := Kd.R_take HO8.out (m := wait.length - 1) (by omega)
        rw [← List.dropLast_eq_take, ← hwd] at ht
        have hsl := HSL.out
        obtain ⟨g7, cap7, e7, hg7, hl7, cells7, hb7⟩ := Kd.R_form HO7.out (by omega)
        injection e7 with ea en ec
        subst ea ec
        clear en
        obtain ⟨hx7, hf7⟩ := Kd.R_celln false HO7.out a hr0 (by omega)
        have hat : rdOf false seen a = at_ seen a := rfl
        rw [hat] at hx7
        have hi1 : (0 : Int) ≤ (wait.length : Int) - 1 := by omega
        have hi2 : (wait.length : Int) - 1 ≤ (c8 : Int) := by omega
        have hi3 : (wait.length : Int) - 1 < (wait.length : Int) := by omega
        have hi4 : wait.length - 1 ≤ c8 := by omega
        have hi5 : a < (n : Int) := by omega
        have HT := Aside0.mk ht
        have HW := Aside0.mk hwl
        clear hsp hav hwd hrd ht hwl hat hsl hg7 hl7 hb7 hcap hr1 hw
        by_cases hs : at_ seen a = true
        · rw [if_pos hs] at ha
          rw [hs] at hx7
          have HA := Aside0.mk ha
          clear ha hs
          go_wp2_with fail
          go_roundg k1
          case measure => omega
          case rel => exact ⟨seen, wd, HA, HSL, HO7, ⟨HT.out⟩, HB⟩
        · rw [if_neg hs] at ha
          have hs' : at_ seen a = false := by simpa using hs
          rw [hs'] at hx7
          obtain ⟨l, hl, ha2⟩ := Option.bind_eq_some_iff.1 ha
          by_cases hz : wait.length + l.length ≤ 1000000000
          case neg => rw [if_neg hz] at ha2; exact absurd ha2 (by simp)
          rw [if_pos hz] at ha2
          have HA := Aside0.mk ha2
          have HZ := Aside0.mk hz
          obtain ⟨hp1, hp2⟩ := Kd.R_putg HO7.out a true
          have HP1 := Aside0.mk hp1
          have HP2 := Aside0.mk (Kd.R_over HT.out HO7.out (by decide) hp2)
          have HB2 := Aside0.mk (HB.out.setCell (p := ⟨g7, a.toNat, none⟩) (Kd.R_base HO7.out g7 rfl) (.bool true))
          have HCL := Aside0.mk (HST.out a l _ hl HB2.out)
          clear ha hs hs' hl ha2 hz hp1 hp2 HST HT HO7 HO8 HB
          go_wp2_with fail
          refine HCL.out.mono ?_
          rintro e w3 ⟨A, c, rfl, hC, hb⟩
          have HO7 := Aside0.mk (Kd.R_below HP1.out hb)
          have HO8 := Aside0.mk (Kd.R_below HP2.out hb)
          have HB := Aside0.mk (below_step HB2.out hb)
          have HC := Aside0.mk hC
          have hsum : (wd.length + l.length) * 8 ≤ 140737488355328 := by have := HZ.out; have := HW.out; omega
          have HSUM := Aside0.mk hsum
          clear hb hC hsum HCL HP1 HP2 HB2 hx7 hf7 hx8 hl63
          go_wp2_with (first | ((with_reducible refine gate_builtin (b := .append) (xs := #[.tmp 35, .tmp 38]) rfl ?_); (try (refine gate_guard (by rfl) ?_; dsimp only)); at_builtin; refine Kd.R_append_rows (Kd.int .i64) (Rr := (Kd.int .i64).K w3) (w0 := w) w.heap.size rfl (.tmp 35) (.tmp 38) 57 3 (.int .i64 0) 8 rfl Tryd.underlying57 infoI rfl (by decide) (by omega) (.slice (some ad8) (wait.length - 1) c8) wd l A l.length c (fun _ => True) (fun _ => False) rfl rfl HO8.out HC.out (fun x cs h => h) (fun _ hk => hk.elim) (fun _ _ => trivial) HB.out HB.out.size HSUM.out ?_; intro v1 w4 ho hb hg hat; have HO7' := Aside0.mk (Kd.R_over HO7.out HO8.out (by decide) hg); have HO8' := Aside0.mk ho; have HB' := Aside0.mk hb; clear ho hb hg hat HO7 HO8 HB HC))
          go_roundg k1
          case measure => omega
          case rel => exact ⟨seen.set a.toNat true, wd ++ l, HA, ⟨by rw [List.length_set]; exact HSL.out⟩, HO7', HO8', HB'⟩
end Go.Proofs.YtdopacgaklaaeaaDoor.PDeadTells

-- HAND paling/graph.Reach rounds=1 making=1 needs=paling/graph.next
namespace Go.Proofs.YtdopacgaklaaeaaDoor.PDeadTells
open Go.RowKit Go.Proofs.YtdopacgaklaaeaaDoorW.PrintWords Go.Proofs.YtdopacgaklaaeaaDoorW.PrintLast Go.Proofs.YtdopacgaklaaeaaDoorW.PrintMore
set_option linter.unusedVariables false
set_option linter.unusedSimpArgs false
open Go.Shelf
/-! graph.Reach: which instructions can be come to. -/
def graph_Reach.f (k : Nat) (l0 : List S28) : Option (List Bool) := if l0 = [] then some [] else if l0.length ≤ 1000000 then walkGo (graph_next.f l0) k (List.replicate l0.length false) [0] else none
theorem walkGo.mono (st : Int → Option (List Int)) : ∀ k s w, LeO (walkGo st k s w) (walkGo st (k + 1) s w)
  | 0, s, w, r, h => by simp [walkGo] at h
  | k + 1, s, w, r, h => by
    rw [walkGo] at h ⊢
    by_cases h1 : w = []
    · rw [if_pos h1] at h ⊢; exact h
    · rw [if_neg h1] at h ⊢
      by_cases h2 : 0 ≤ w.getLastD 0 ∧ w.getLastD 0 < (s.length : Int)
      · rw [if_pos h2] at h ⊢
        by_cases h3 : at_ s (w.getLastD 0) = true
        · rw [if_pos h3] at h ⊢; exact walkGo.mono st k _ _ r h
        · rw [if_neg h3] at h ⊢
          obtain ⟨l, hl, h4⟩ := Option.bind_eq_some_iff.1 h
          refine Option.bind_eq_some_iff.2 ⟨l, hl, ?_⟩
          by_cases h5 : w.length + l.length ≤ 1000000000
          · rw [if_pos h5] at h4 ⊢; exact walkGo.mono st k _ _ r h4
          · rw [if_neg h5] at h4; exact absurd h4 (by simp)
      · rw [if_neg h2] at h; exact absurd h (by simp)
theorem graph_Reach.mono : ∀ a0 k, LeO (graph_Reach.f k a0) (graph_Reach.f (k + 1) a0) := fun a0 k r h => by
  unfold graph_Reach.f at h ⊢
  by_cases h1 : a0 = []
  · rw [if_pos h1] at h ⊢; exact h
  · rw [if_neg h1] at h ⊢
    by_cases h2 : a0.length ≤ 1000000
    · rw [if_pos h2] at h ⊢; exact walkGo.mono _ k _ _ r h
    · rw [if_neg h2] at h; exact absurd h (by simp)
theorem reach1.calls (A0 : Option Addr) (c0 : Nat) (l0 : List S28) (a : Int) (r : List Int) (B : Nat) (W : World) (hr : graph_next.f l0 a = some r) (hB : W.heap[B]? = some (.cells #[.slice A0 l0.length c0] 32 (0, 0))) (hC : Kd.C k28 W A0 l0.length l0) (hc : l0.length ≤ c0) (hgl : GlobOK W) :
    Calls Tryd.prog 48 #[.int .i64 a, .pointer (some ⟨B, 0, none⟩)] W fun e W' => ∃ (A : Option Addr) (c : Nat), e = .returned (.slice A r.length c) ∧ Kd.C (Kd.int .i64) W' A r.length r ∧ Below W.heap.size W W' := by
  have hcell : W.cell? ⟨B, 0, none⟩ = some (.slice A0 l0.length c0) := cell_of_one hB
  have CN := Aside0.mk (graph_next.calls A0 c0 l0 a r W hC hc hr hgl)
  clear hr hB hC hgl
  go_enter Tryd.func48, Tryd.ntmps48
  go_wp2_with (go_at_call 49; (with_reducible refine CN.out.mono ?_); rintro e w' ⟨v, rfl, hR, hb⟩; have HR := Aside0.mk hR; have HB := Aside0.mk hb; clear hR hb CN)
  go_ret
  obtain ⟨A, c, e⟩ := Kd.R_slice HR.out
  have h2 := HR.out
  rw [e] at h2
  exact ⟨A, c, by rw [← e]; rfl, (Kd.R_reads' h2).2.2, HB.out⟩
set_option maxHeartbeats 4000000 in
theorem graph_Reach.calls (k : Nat) (A0 : Option Addr) (c0 : Nat) (l0 : List S28) (r : List Bool) (w : World) (hr0 : Kd.C k28 w A0 l0.length l0) (hc0 : l0.length ≤ c0) (h : graph_Reach.f k l0 = some r) (hgl : GlobOK w) :
    Calls Tryd.prog 23 #[.slice A0 l0.length c0] w fun e w' => ∃ v0_ : Value, e = .returned (v0_) ∧ Kd.R Kd.bool 4 w' w.heap.size (fun _ => True) v0_ r ∧ Below w.heap.size w w' := by
  unfold graph_Reach.f at h
  have hmf : ∀ (fn : Fn) (first cap : Array Value) (w : World), (Instr.makeFunc fn first cap).run Tryd.prog w = .ok (.func fn first cap) w := fun _ _ _ _ => rfl
  by_cases h0 : l0 = []
  · rw [if_pos h0] at h
    obtain rfl := Option.some.inj h
    subst h0
    clear h hr0 hgl
    go_enter Tryd.func23, Tryd.ntmps23
    go_wp2_with fail
    go_ret
    exact ⟨_, rfl, Kd.R_nil _ _ _ _ _, (Below.refl _ _).alloc (Nat.le_refl _) _⟩
  · rw [if_neg h0] at h
    by_cases h1 : l0.length ≤ 1000000
    case neg => rw [if_neg h1] at h; exact absurd h (by simp)
    rw [if_pos h1] at h
    have hne : ((l0.length : Int) == 0) = false := by
      have := List.length_pos_iff.2 h0
      simp; omega
    have BX := Aside0.mk (blk_new w (.cells #[.slice A0 l0.length c0] 32 (0, 0)))
    have HB1 := Aside0.mk ((Below.refl w.heap.size w).alloc (Nat.le_refl _) (.cells #[.slice A0 l0.length c0] 32 (0, 0)))
    obtain ⟨W1, hW1⟩ : ∃ W, W = (w.alloc (.cells #[.slice A0 l0.length c0] 32 (0, 0))).alloc (.cells #[.int .i64 0] 3 (0, 0)) := ⟨_, rfl⟩
    have B1 : W1.heap[w.heap.size]? = some (.cells #[.slice A0 l0.length c0] 32 (0, 0)) := by rw [hW1]; exact blk_alloc BX.out _
    have HB2 := Aside0.mk (show Below w.heap.size w W1 by rw [hW1]; exact below_alloc HB1.out _)
    have hs1 : (w.alloc (.cells #[.slice A0 l0.length c0] 32 (0, 0))).heap.size = w.heap.size + 1 := by simp
    have hown := own_lit (w.alloc (.cells #[.slice A0 l0.length c0] 32 (0, 0))) w.heap.size 3 [.int .i64 0] HB1.out.size (by simp)
    have hCl : Kd.C (Kd.int .i64) W1 (some ⟨w.heap.size + 1, 0, none⟩) ([0] : List Int).length [0] := by
      rw [hW1, ← hs1]
      exact (Kd.R_reads' (Kd.R_of_own (enc := Value.int .i64) (h1 := fun _ => rfl) (xs := [(0 : Int)]) (ok := fun _ => True) hown (fun _ _ => trivial))).2.2
    have CW := Aside0.mk (gwalk.calls (graph_next.f l0) k 48 #[.pointer (some ⟨w.heap.size, 0, none⟩)] l0.length (some ⟨w.heap.size + 1, 0, none⟩) 1 [0] r W1 h1 (by simp) hCl (enters_ Tryd.func48 (by kernel_rfl) rfl)
      (fun a r W hr hb => reach1.calls A0 c0 l0 a r w.heap.size W hr (blk_below B1 hb) (Kd.C_below (Kd.C_below hr0 HB2.out) hb) hc0 ((hgl.step HB2.out).step hb)) h)
    have HW1 := Aside0.mk hW1
    clear h h0 h1 hr0 hgl B1 hs1 hown hCl hW1
    go_enter Tryd.func23, Tryd.ntmps23
    go_wp2_with fail
    rw [← HW1.out]
    refine CW.out.mono ?_
    rintro e w' ⟨v, rfl, hR, hb⟩
    have HR := Aside0.mk (Kd.R_lower hR HB2.out.size)
    have HB := Aside0.mk (below_step HB2.out hb)
    clear hR hb CW HW1
    go_wp2_with fail
    go_ret
    exact ⟨_, rfl, HR.out, HB.out⟩
end Go.Proofs.YtdopacgaklaaeaaDoor.PDeadTells

namespace Go.Proofs.YtdopacgaklaaeaaDoor.PDeadTells
open Go.RowKit Go.Proofs.YtdopacgaklaaeaaDoorW.PrintWords Go.Proofs.YtdopacgaklaaeaaDoorW.PrintLast Go.Proofs.YtdopacgaklaaeaaDoorW.PrintMore
set_option linter.unusedVariables false
set_option linter.unusedSimpArgs false
open Go.Shelf
/-! Package graph in plain words: Reach. -/
/-- where the instruction at i goes to in its code -/
def nxOf (l : List S28) (i : Int) : List Int := if 0 ≤ i ∧ i < (l.length : Int) then (graph_next.f l i).getD [] else []
theorem twoL_len (a b : Int) : (twoL a b).length ≤ 2 := by
  unfold twoL
  refine Nat.le_trans (Lib.compact_length_le _) ?_
  rw [List.length_mergeSort]; simp
theorem graph_next_some (l : List S28) (i : Int) (h0 : 0 ≤ i) (h1 : i < (l.length : Int)) : graph_next.f l i = some (nxOf l i) := by
  unfold nxOf
  rw [if_pos ⟨h0, h1⟩]
  unfold graph_next.f ins_Next.f
  rw [if_pos ⟨h0, h1⟩, Option.bind_some]
  rw [if_pos ?_]
  · rfl
  · split
    · simp
    · split
      · simp
      · split
        · have := twoL_len (wrap64 (i + 1)) (rd_T28 l i).f6; omega
        · simp
theorem nxOf_in (l : List S28) (i : Int) : ∀ j ∈ nxOf l i, 0 ≤ j ∧ j < (l.length : Int) := by
  intro j hj
  by_cases h : 0 ≤ i ∧ i < (l.length : Int)
  · have he := graph_next_some l i h.1 h.2
    unfold graph_next.f at he
    rw [if_pos h] at he
    obtain ⟨L, _, h2⟩ := Option.bind_eq_some_iff.1 he
    by_cases hL : L.length ≤ 1000000
    · rw [if_pos hL] at h2
      rw [← Option.some.inj h2] at hj
      have := (List.mem_filter.1 hj).2
      unfold inB at this
      simp at this
      omega
    · rw [if_neg hL] at h2; exact absurd h2 (by simp)
  · unfold nxOf at hj
    rw [if_neg h] at hj
    exact absurd hj (by simp)
theorem insNext_len {a0 a1 a2 a3 a4 a5 a6 b : Int} {L : List Int} (h : ins_Next.f a0 a1 a2 a3 a4 a5 a6 b = some L) : L.length ≤ 2 := by
  unfold ins_Next.f at h
  rw [← Option.some.inj h]
  split
  · simp
  · split
    · simp
    · split
      · exact twoL_len _ _
      · simp
theorem nxOf_len (l : List S28) (i : Int) : (nxOf l i).length ≤ 2 := by
  by_cases h : 0 ≤ i ∧ i < (l.length : Int)
  · have he := graph_next_some l i h.1 h.2
    unfold graph_next.f at he
    rw [if_pos h] at he
    obtain ⟨L, h1, h2⟩ := Option.bind_eq_some_iff.1 he
    by_cases hL : L.length ≤ 1000000
    · rw [if_pos hL] at h2
      rw [← Option.some.inj h2]
      exact Nat.le_trans (List.length_filter_le _ _) (insNext_len h1)
    · rw [if_neg hL] at h2; exact absurd h2 (by simp)
  · unfold nxOf
    rw [if_neg h]
    simp
theorem un_none (n : Nat) : un (List.replicate n false) = n := by simp [un]
theorem at_none (n : Nat) (i : Int) : at_ (List.replicate n false) i = false := by
  unfold at_
  rw [List.getD_eq_getElem?_getD, List.getElem?_replicate]
  split <;> rfl
/-- Reach tells just the places that ways from the first one lead to. -/
theorem graph_Reach_spec (l : List S28) (hn : 0 < l.length) (hl : l.length ≤ 1000) (k : Nat) (hk : 4000 < k) :
    ∃ re, graph_Reach.f k l = some re ∧ re.length = l.length ∧ ∀ i, 0 ≤ i → (at_ re i = true ↔ Way (nxOf l) 0 i) := by
  have hne : l ≠ [] := List.length_pos_iff.1 hn
  obtain ⟨R, h1, hI⟩ := walk_go (nxOf l) (graph_next.f l) l.length 2 [0] (fun i h0 h1 => graph_next_some l i h0 h1) (fun i _ _ => ⟨nxOf_len l i, nxOf_in l i⟩) 4000 (List.replicate l.length false) [0]
    ⟨by simp, fun i hi => by rw [List.mem_singleton.1 hi]; omega, fun i _ hh => by
        rcases hh with hh | hh
        · rw [at_none] at hh; exact absurd hh (by simp)
        · rw [List.mem_singleton.1 hh]; exact ⟨0, by simp, .refl 0⟩, fun i _ hh => by rw [at_none] at hh; exact absurd hh (by simp), fun s hs => .inr hs⟩
    (by rw [un_none]; simp; omega) (by rw [un_none]; simp; omega) k hk
  refine ⟨R, by unfold graph_Reach.f; rw [if_neg hne, if_pos (by omega)]; exact h1, hI.len, fun i hi => ?_⟩
  rw [hI.done (fun i _ _ => nxOf_in l i) (fun s hs => by rw [List.mem_singleton.1 hs]; omega) i hi]
  constructor
  · rintro ⟨s, hs, hw⟩; rw [List.mem_singleton.1 hs] at hw; exact hw
  · intro hw; exact ⟨0, by simp, hw⟩
theorem graph_Reach_ev (l : List S28) (hn : 0 < l.length) (hl : l.length ≤ 1000) : ∃ re, Ev (fun k => graph_Reach.f k l) re ∧ re.length = l.length ∧ ∀ i, 0 ≤ i → (at_ re i = true ↔ Way (nxOf l) 0 i) := by
  obtain ⟨re, h1, h2⟩ := graph_Reach_spec l hn hl 4001 (by omega)
  exact ⟨re, Ev.of (graph_Reach.mono l) h1, h2⟩
end Go.Proofs.YtdopacgaklaaeaaDoor.PDeadTells

namespace Go.Proofs.YtdopacgaklaaeaaDoor.PDeadTells
open Go.RowKit Go.Proofs.YtdopacgaklaaeaaDoorW.PrintWords Go.Proofs.YtdopacgaklaaeaaDoorW.PrintLast Go.Proofs.YtdopacgaklaaeaaDoorW.PrintMore
set_option linter.unusedVariables false
set_option linter.unusedSimpArgs false
open Go.Shelf
/-! Where an instruction goes to, by package live and by the document. -/
/-- where the instruction at i goes to in its code -/
def nxL (l : List S28) (i : Int) : List Int := if 0 ≤ i ∧ i < (l.length : Int) then (live_next.f l i).getD [] else []
theorem twoL_len15 (a b : Int) : (twoL a b).length ≤ 2 := by
  unfold twoL
  refine Nat.le_trans (Lib.compact_length_le _) ?_
  rw [List.length_mergeSort]; simp
theorem live_next_some (l : List S28) (i : Int) (h0 : 0 ≤ i) (h1 : i < (l.length : Int)) : live_next.f l i = some (nxL l i) := by
  unfold nxL
  rw [if_pos ⟨h0, h1⟩]
  unfold live_next.f ins_Next.f
  rw [if_pos ⟨h0, h1⟩, Option.bind_some]
  rw [if_pos ?_]
  · rfl
  · split
    · simp
    · split
      · simp
      · split
        · have := twoL_len15 (wrap64 (i + 1)) (rd_T28 l i).f6; omega
        · simp
theorem nxL_in (l : List S28) (i : Int) : ∀ j ∈ nxL l i, 0 ≤ j ∧ j < (l.length : Int) := by
  intro j hj
  by_cases h : 0 ≤ i ∧ i < (l.length : Int)
  · have he := live_next_some l i h.1 h.2
    unfold live_next.f at he
    rw [if_pos h] at he
    obtain ⟨L, _, h2⟩ := Option.bind_eq_some_iff.1 he
    by_cases hL : L.length ≤ 1000000
    · rw [if_pos hL] at h2
      rw [← Option.some.inj h2] at hj
      have := (List.mem_filter.1 hj).2
      unfold linB at this
      simp at this
      omega
    · rw [if_neg hL] at h2; exact absurd h2 (by simp)
  · unfold nxL at hj
    rw [if_neg h] at hj
    exact absurd hj (by simp)
theorem insNext_len15 {a0 a1 a2 a3 a4 a5 a6 b : Int} {L : List Int} (h : ins_Next.f a0 a1 a2 a3 a4 a5 a6 b = some L) : L.length ≤ 2 := by
  unfold ins_Next.f at h
  rw [← Option.some.inj h]
  split
  · simp
  · split
    · simp
    · split
      · exact twoL_len15 _ _
      · simp
theorem nxL_len (l : List S28) (i : Int) : (nxL l i).length ≤ 2 := by
  by_cases h : 0 ≤ i ∧ i < (l.length : Int)
  · have he := live_next_some l i h.1 h.2
    unfold live_next.f at he
    rw [if_pos h] at he
    obtain ⟨L, h1, h2⟩ := Option.bind_eq_some_iff.1 he
    by_cases hL : L.length ≤ 1000000
    · rw [if_pos hL] at h2
      rw [← Option.some.inj h2]
      exact Nat.le_trans (List.length_filter_le _ _) (insNext_len15 h1)
    · rw [if_neg hL] at h2; exact absurd h2 (by simp)
  · unfold nxL
    rw [if_neg h]
    simp
/-- where an instruction goes to -/
def nyV (y : S28) (i : Int) : List Int := if ¬ (0 ≤ y.f0 ∧ y.f0 < 14) ∨ fmB 9 y.f0 = true then [] else if y.f0 = 6 then [y.f6] else if y.f0 = 7 then twoL (i + 1) y.f6 else [i + 1]
theorem nyV_f (y : S28) (i : Int) (h : wrap64 (i + 1) = i + 1) : ins_Next.f y.f0 y.f1 y.f2 y.f3 y.f4 y.f5 y.f6 i = some (nyV y i) := by
  unfold ins_Next.f nyV
  rw [h]
theorem nyV_len (y : S28) (i : Int) : (nyV y i).length ≤ 2 := by
  unfold nyV
  split
  · simp
  · split
    · simp
    · split
      · exact twoL_len15 _ _
      · simp
theorem nxL_nyV (l : List S28) (hl : l.length ≤ 1000) (i : Int) (h0 : 0 ≤ i) (h1 : i < (l.length : Int)) : nxL l i = (nyV (rd_T28 l i) i).filter fun x => !linB l.length x := by
  have hw : wrap64 (i + 1) = i + 1 := wrap_up h0 h1 (by omega)
  have h := live_next_some l i h0 h1
  unfold live_next.f at h
  rw [if_pos ⟨h0, h1⟩, nyV_f _ i hw, Option.bind_some, if_pos (by have := nyV_len (rd_T28 l i) i; omega)] at h
  exact (Option.some.inj h).symm
end Go.Proofs.YtdopacgaklaaeaaDoor.PDeadTells
