import Derived.Test.YtianfjhhhhmjlaaDoorPLiveTellsx0
import Derived.Test.YtianfjhhhhmjlaaDoorPLiveTellshkeys
import Derived.Test.YtianfjhhhhmjlaaDoorPLiveTellshlenv
import Derived.Test.YtianfjhhhhmjlaaDoorPLiveTellshlflow
import Derived.Test.YtianfjhhhhmjlaaDoorPLiveTellshlgrow
import Derived.Test.YtianfjhhhhmjlaaDoorPLiveTellshmaps
import Derived.Test.YtianfjhhhhmjlaaDoorPLiveTellshtwomaps
import Derived.OneCell
namespace Go.Proofs.YtianfjhhhhmjlaaDoor.PLiveTells
open Go.RowKit Go.Proofs.YtianfjhhhhmjlaaDoorW.PrintWords Go.Proofs.YtianfjhhhhmjlaaDoorW.PrintLast Go.Proofs.YtianfjhhhhmjlaaDoorW.PrintMore
set_option linter.unusedVariables false
set_option linter.unusedSimpArgs false
open Go.MapKept Go.RowKit
/-! live.rising, live.rows, live.Ahead, live.Behind. -/
theorem infoLI15 : (Tryd.prog.info? 36).map (fun i => (i.zero, i.size, i.bytes)) = some (some (.slice none 0 0), 1, 24) := by kernel_rfl
def wfRow (l : List Int) : Prop := l.length ≤ 1000000 ∧ ∀ x ∈ l, -9223372036854775808 ≤ x ∧ x ≤ 9223372036854775807
def wfRows (L : List (List Int)) : Prop := L.length ≤ 1000000 ∧ ∀ l ∈ L, wfRow l
instance (l : List Int) : Decidable (wfRow l) := by unfold wfRow; infer_instance
instance (L : List (List Int)) : Decidable (wfRows L) := by unfold wfRows; infer_instance
theorem lv_some (l : List Int) (i : Int) : (lv l i).isSome = true ↔ i ∈ l := by
  unfold lv
  rw [setV_isSome]
  simp
theorem up_same : ∀ {l m : List Int}, l.Pairwise (· < ·) → m.Pairwise (· < ·) → (∀ i, i ∈ l ↔ i ∈ m) → l = m
  | [], [], _, _, _ => rfl
  | [], y :: m, _, _, h => absurd ((h y).2 (by simp)) (by simp)
  | x :: l, [], _, _, h => absurd ((h x).1 (by simp)) (by simp)
  | x :: l, y :: m, hl, hm, h => by
    obtain ⟨l1, l2⟩ := List.pairwise_cons.1 hl
    obtain ⟨m1, m2⟩ := List.pairwise_cons.1 hm
    have hxy : x = y := by
      rcases List.mem_cons.1 ((h x).1 (by simp)) with e | e
      · exact e
      · rcases List.mem_cons.1 ((h y).2 (by simp)) with e2 | e2
        · exact e2.symm
        · have := m1 x e; have := l1 y e2; omega
    subst hxy
    have : l = m := up_same l2 m2 (fun i => by
      have := h i
      simp only [List.mem_cons] at this
      constructor
      · intro hi
        have hlt := l1 i hi
        rcases this.1 (.inr hi) with e | e
        · omega
        · exact e
      · intro hi
        have hlt := m1 i hi
        rcases this.2 (.inr hi) with e | e
        · omega
        · exact e)
    rw [this]
set_option maxHeartbeats 1000000 in
theorem rising.calls (b : Nat) (l : List Int) (w : World) (h : IM w b (lv l) l.length) (hp : l.Pairwise (· < ·)) (hwf : wfRow l) :
    Calls Tryd.prog 43 #[.map (some b)] w fun e w' => ∃ v : Value, e = .returned v ∧ Kd.R (Kd.int .i64) 3 w' w.heap.size (fun _ => True) v l ∧ Below w.heap.size w w' := by
  have hlen := maplen b l.length (lv l) w h 0
  change ∀ ty, (Builtin.len_ #[51] ty #[.map (some b)]).run Tryd.prog w = .ok (.int .i64 l.length) w at hlen
  by_cases h0 : l = []
  · subst h0
    go_enter Tryd.func43, Tryd.ntmps43
    go_wp2
    go_ret
    exact ⟨_, rfl, Kd.R_nil _ _ _ _ _, Below.refl _ _⟩
  · have hpos : (((l.length : Int)) == 0) = false := by
      have := List.length_pos_iff.2 h0
      simp; exact h0
    have HS := Aside0.mk (sortedRegs.calls b l.length (lv l) w h (fun i hi => by
      have := hwf.2 i ((lv_some l i).1 hi)
      exact WalkArith.wf_i64 (by omega)) (by have := hwf.1; omega))
    have HK := Aside0.mk (keysRegs.calls b w)
    have HP := Aside0.mk hp
    have HH := Aside0.mk hwf
    clear h hp hwf h0
    go_enter Tryd.func43, Tryd.ntmps43
    go_wp2_with fail
    refine HK.out.mono ?_
    rintro e w1 ⟨rfl, rfl⟩
    go_wp2_with fail
    refine HS.out.mono ?_
    rintro e w2 ⟨v, L, rfl, hL, hm, _, hR, hb⟩
    obtain rfl : L = l := up_same hL HP.out (fun i => by rw [hm, lv_some])
    have hR' := Aside0.mk (Kd.R_lower hR (show w.heap.size ≤ w.heap.size + 1 by omega))
    have hb' := Aside0.mk ((below_alloc (Below.refl w.heap.size w) (.cells #[.map (some b)] 51)).trans (hb.mono (by omega)))
    clear hR hb hm HS HK
    go_wp2
    go_ret
    exact ⟨v, rfl, hR'.out, hb'.out⟩
theorem own_map_at {W : World} {base : Nat} {v : Value} {xa : List Nat} (h : W.ownsRow base 51 1 v xa.length (xa.map mpV)) {i b : Nat} (hb : xa[i]? = some b) : ∃ g cap, v = .slice (some ⟨g, 0, none⟩) xa.length cap ∧ W.cell? ⟨g, i, none⟩ = some (.map (some b)) := by
  have hi := (List.getElem?_eq_some_iff.1 hb).1
  rcases h.2 with ⟨_, h0⟩ | ⟨g, cap, cur, rfl, hg, h1, h2, h3, h4, h5⟩
  · omega
  · refine ⟨g, cap, rfl, ?_⟩
    rw [blk_cell h1]
    have e : (cur.toList.take (xa.length * 1))[i]? = some (mpV b) := by rw [h5, List.getElem?_map, hb]; rfl
    rw [List.getElem?_take_of_lt (by omega)] at e
    simpa [mpV] using e
set_option maxHeartbeats 4000000 in
set_option maxRecDepth 100000 in
theorem lrows.calls (base : Nat) (v : Value) (xa : List Nat) (L : List (List Int)) (w : World) (hr : w.ownsRow base 51 1 v xa.length (xa.map mpV)) (hl : xa.length = L.length) (hm : MapsOK w xa L) (hu : ∀ l ∈ L, l.Pairwise (· < ·)) (hwf : wfRows L) :
    Calls Tryd.prog 29 #[v] w fun e w' => ∃ v0 : Value, e = .returned v0 ∧ Kd.S (Kd.slice 3 (Kd.int .i64)) 36 w' w.heap.size (fun _ => True) v0 L ∧ Below w.heap.size w w' := by
  obtain ⟨A0, c0, ev⟩ := own_slice hr
  subst ev
  have HR := Aside0.mk hr
  have HL := Aside0.mk hl
  have HM := Aside0.mk hm
  have HU := Aside0.mk hu
  have HW := Aside0.mk hwf
  clear hr hl hm hu hwf
  go_enter Tryd.func29, Tryd.ntmps29
  go_wp2_with fail
  go_loopg [3, 8] L.length (fun kq v3 v8 wr => ∃ (t : Nat), v8 = .int .i64 (t : Int) ∧ Aside0 (t + kq = L.length) ∧ Aside0 (Kd.S (Kd.slice 3 (Kd.int .i64)) 36 wr w.heap.size (fun _ => True) v3 (L.take t)) ∧ Aside0 (Below w.heap.size w wr))
  case atStart => exact ⟨0, rfl, ⟨by omega⟩, ⟨by rw [List.take_zero]; exact Kd.S_nil _ _ _ _ _⟩, ⟨Below.refl _ _⟩⟩
  case round =>
    obtain ⟨t, rfl, HK, HS, HB⟩ := hrel
    have ht0 : (0 : Int) ≤ (t : Int) := by omega
    by_cases hlt : (t : Int) < (xa.length : Int)
    case neg =>
      have hk0 : t = L.length := by have := HK.out; have := HL.out; omega
      have hS := HS.out
      rw [hk0, List.take_length] at hS
      have HS2 := Aside0.mk hS
      clear HS hS HK hk0
      go_wp2_with fail
      go_ret
      exact ⟨_, rfl, HS2.out, HB.out⟩
    have htl : t < xa.length := by omega
    cases gk with
    | zero => exact absurd HK.out (by have := HL.out; omega)
    | succ m1 =>
    obtain ⟨b, hb⟩ : ∃ b, xa[t]? = some b := ⟨_, List.getElem?_eq_getElem htl⟩
    obtain ⟨g, cap, ev, hx⟩ := own_map_at (own_keep HR.out (fun k hk => HB.out.block k (own_lt HR.out k hk))) hb
    cases ev
    obtain ⟨l, hle⟩ : ∃ l, l = L.getD t [] := ⟨_, rfl⟩
    have hml : l ∈ L := by
      have : t < L.length := by have := HL.out; omega
      rw [hle, List.getD_eq_getElem?_getD, List.getElem?_eq_getElem this]; exact List.getElem_mem this
    have him := HM.out t b hb
    rw [← hle] at him
    have HC := Aside0.mk (rising.calls b l wr (him.below HB.out him.lt) (HU.out l hml) (HW.out.2 l hml))
    have HLE := Aside0.mk hle
    have h63 : (t : Int) + 1 ≤ 9223372036854775807 := by have := HW.out.1; have := HL.out; omega
    obtain ⟨T, hT⟩ : ∃ T, T = L.take t := ⟨_, rfl⟩
    rw [← hT] at HS
    have HTT := Aside0.mk hT
    have HTl := Aside0.mk (show T.length = t by rw [hT, List.length_take]; have := HL.out; omega)
    obtain ⟨Ao, co, eo⟩ := Kd.S_slice HS.out
    subst eo
    clear hb hle hml him hT
    go_wp2_with fail
    refine HC.out.mono ?_
    rintro e w7 ⟨v7, rfl, hR, hb7⟩
    obtain ⟨Al, cl, el⟩ := Kd.R_slice hR
    subst el
    have hS := Kd.S_mono (Kd.S_bound HS.out) (ok' := fun k_ => True ∧ ¬ some k_ = (.slice Al l.length cl : Value).ownBlock) (fun k_ hk => ⟨trivial, fun e => by have h1 := Kd.R_base hR k_ e.symm; have := hk.2.2; omega⟩)
    have HS2 := Aside0.mk (Kd.S_below hS hb7)
    have HLx := Aside0.mk (Kd.R_lower hR HB.out.size)
    have HAP := Aside0.mk (Kd.R_mono (ok' := fun k_ => True ∧ some k_ ≠ (.slice Ao T.length co : Value).ownBlock) (Kd.R_apart' HLx.out (Kd.S_typed HS2.out) (by decide)) (fun k_ hk => ⟨trivial, hk.2⟩))
    have HBB := Aside0.mk (HB.out.trans (hb7.mono HB.out.size))
    have HALL := Aside0.mk (show (T.length + 1) * 24 ≤ 140737488355328 by have := HW.out.1; have := HTl.out; have := HL.out; omega)
    clear hR hb7 hS HC HS
    go_wp2_with (first | ((with_reducible refine gate_builtin (b := .append) (xs := #[.tmp 12, .tmp 15]) rfl ?_); (try (refine gate_guard (by rfl) ?_; dsimp only)); at_builtin; refine Kd.S_append (Kd.slice 3 (Kd.int .i64)) (w0 := w) w.heap.size rfl (.tmp 12) (.tmp 15) 33 36 (.slice none 0 0) 24 rfl Tryd.underlying33 infoLI15 rfl (by decide) (by omega) (.slice Ao T.length co) T l [.slice Al l.length cl] (fun _ => True) (fun k_ => some k_ = (.slice Al l.length cl : Value).ownBlock) rfl rfl (Kd.M_row (Kd.R_mono (Kd.R_tight rfl HAP.out) (fun _ h_ => h_))) (fun k_ hk_ => HAP.out.1 k_ hk_.symm) (fun _ _ => trivial) HS2.out HBB.out HBB.out.size HALL.out ?_; intro v1 w8 ho hb hg hat; have HO8 := Aside0.mk ho; have HB8 := Aside0.mk hb; clear ho hb hg hat))
    go_roundg m1
    case measure => omega
    case rel =>
      have hO := HO8.out
      have htL : t < L.length := by have := HL.out; omega
      rw [HTT.out, HLE.out, List.getD_eq_getElem?_getD, List.getElem?_eq_getElem htL, Option.getD_some, List.take_append_getElem htL] at hO
      exact ⟨t + 1, by (try push_cast); (try rfl), ⟨by have := HK.out; omega⟩, ⟨hO⟩, HB8⟩
end Go.Proofs.YtianfjhhhhmjlaaDoor.PLiveTells
