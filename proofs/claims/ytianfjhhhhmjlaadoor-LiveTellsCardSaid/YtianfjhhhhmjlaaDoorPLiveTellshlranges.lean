-- HAND paling/live.Ranges rounds=1 making=1 needs=paling/live.next;paling/ins.Uses;paling/ins.Def
import Derived.Test.YtianfjhhhhmjlaaDoorPLiveTellsx0
import Derived.Test.YtianfjhhhhmjlaaDoorPLiveTellshforms
import Derived.Test.YtianfjhhhhmjlaaDoorPLiveTellshinsdef
import Derived.Test.YtianfjhhhhmjlaaDoorPLiveTellshinsl
import Derived.Test.YtianfjhhhhmjlaaDoorPLiveTellshkeys
import Derived.Test.YtianfjhhhhmjlaaDoorPLiveTellshlenv
import Derived.Test.YtianfjhhhhmjlaaDoorPLiveTellshlflow
import Derived.Test.YtianfjhhhhmjlaaDoorPLiveTellshlgrow
import Derived.Test.YtianfjhhhhmjlaaDoorPLiveTellshlrows
import Derived.Test.YtianfjhhhhmjlaaDoorPLiveTellshmaps
import Derived.Test.YtianfjhhhhmjlaaDoorPLiveTellshrangesl
import Derived.OneCell
namespace Go.Proofs.YtianfjhhhhmjlaaDoor.PLiveTells
open Go.RowKit Go.Proofs.YtianfjhhhhmjlaaDoorW.PrintWords Go.Proofs.YtianfjhhhhmjlaaDoorW.PrintLast Go.Proofs.YtianfjhhhhmjlaaDoorW.PrintMore
set_option linter.unusedVariables false
set_option linter.unusedSimpArgs false
open Go.MapKept Go.RowKit
/-! live.Ranges. -/
def hereL (c : List S39) (A : List (List Int)) (i : Nat) : List Int := if 0 ≤ defQ (c.getD i z39) then insL (A.getD i []) (defQ (c.getD i z39)) else A.getD i []
def stepR (c : List S39) (A B : List (List Int)) (M : List S30) (i : Nat) : List S30 := lastR (putAllR M (hereL c A i) (i : Int)) (B.getD i []) (i : Int)
def rangesL (c : List S39) (A B : List (List Int)) : List S30 := (List.range c.length).foldl (stepR c A B) []
def wfRange (M : List S30) : Prop := M.length ≤ 1000000 ∧ ∀ x ∈ M, -9223372036854775808 ≤ x.f0 ∧ x.f0 ≤ 9223372036854775807
instance (M : List S30) : Decidable (wfRange M) := by unfold wfRange; infer_instance
def live_Ranges.f (k : Nat) (c : List S39) : Option (List S30) := if c.length ≤ 1000000 then (live_flow.f k c).bind fun r => if wfRange (rangesL c r.1 r.2) then some (rangesL c r.1 r.2) else none else none
theorem live_Ranges.mono : ∀ a0 k, LeO (live_Ranges.f k a0) (live_Ranges.f (k + 1) a0) := fun a0 k => by
  unfold live_Ranges.f
  exact LeO.ite (LeO.bind (live_flow.mono a0 k) (fun _ => LeO.refl _)) (LeO.refl _)
theorem pass_len (c : List S39) : ∀ (i : Nat) (A B : List (List Int)) (g : Bool) (r : List (List Int) × List (List Int) × Bool), live_pass.f c i A B g = some r → r.1.length = A.length ∧ r.2.1.length = B.length
  | 0, A, B, g, r, h => by
    unfold live_pass.f at h
    obtain rfl := Option.some.inj h
    exact ⟨rfl, rfl⟩
  | i + 1, A, B, g, r, h => by
    unfold live_pass.f at h
    obtain ⟨x, _, h2⟩ := Option.bind_eq_some_iff.1 h
    have := pass_len c i _ _ _ r h2
    simpa using this
theorem flow_len_l (c : List S39) : ∀ (k : Nat) (A B : List (List Int)) (r : List (List Int) × List (List Int)), live_flow.l c k A B = some r → r.1.length = A.length ∧ r.2.length = B.length
  | 0, A, B, r, h => by unfold live_flow.l at h; exact absurd h (by simp)
  | k + 1, A, B, r, h => by
    unfold live_flow.l at h
    obtain ⟨x, h1, h2⟩ := Option.bind_eq_some_iff.1 h
    have hp := pass_len c _ _ _ _ _ h1
    split at h2
    · have := flow_len_l c k _ _ r h2
      exact ⟨this.1.trans hp.1, this.2.trans hp.2⟩
    · obtain rfl := Option.some.inj h2
      exact hp
theorem flow_len {k : Nat} {c : List S39} {r : List (List Int) × List (List Int)} (h : live_flow.f k c = some r) : r.1.length = c.length ∧ r.2.length = c.length := by
  unfold live_flow.f at h
  split at h
  · have := flow_len_l c _ _ _ _ h
    simpa using this
  · exact absurd h (by simp)
theorem stepD {D : Int → Option Value} {M : List S30} {H : List Int} {left : Int → Bool} {q p : Int} (hD : ∀ i, D i = if (decide (i ∈ H) && !left i) = true then some (encR (newR M i p)) else rv M i) (hq : q ∈ H) (i : Int) :
    upd D q (encR (newR M q p)) i = if (decide (i ∈ H) && !(left i && !(i == q))) = true then some (encR (newR M i p)) else rv M i := by
  unfold upd
  by_cases h : i = q
  · subst h
    rw [if_pos rfl, if_pos (by simp [hq])]
  · rw [if_neg h, hD, show (i == q) = false by simpa using h, Bool.not_false, Bool.and_true]
theorem endD {D : Int → Option Value} {M : List S30} {H : List Int} {left : Int → Bool} {p : Int} (hD : ∀ i, D i = if (decide (i ∈ H) && !left i) = true then some (encR (newR M i p)) else rv M i) (hl : ∀ i, left i = false) (hn : H.Nodup) (hk : keyUp M) (i : Int) : D i = rv (putAllR M H p) i := by
  rw [hD, hl, show rv (putAllR M H p) i = (lkR (putAllR M H p) i).map encR from rfl, (putAllR_spec p H M hn hk).2]
  by_cases h : i ∈ H
  · rw [if_pos (by simp [h]), if_pos h]; rfl
  · rw [if_neg (by simp [h]), if_neg h]; rfl
def updE (b : List Int) (left : Int → Bool) (p i : Int) (x : S30) : S30 := if (decide (i ∈ b) && !left i) = true then ⟨x.f0, x.f1, p⟩ else x
theorem stepE {D : Int → Option Value} {M : List S30} {b : List Int} {left : Int → Bool} {q p : Int} {x0 : S30} (hD : ∀ i, D i = ((lkR M i).map (updE b left p i)).map encR) (hq : q ∈ b) (hx : lkR M q = some x0) (i : Int) :
    upd D q (encR ⟨x0.f0, x0.f1, p⟩) i = ((lkR M i).map (updE b (fun j => left j && !(j == q)) p i)).map encR := by
  unfold upd
  by_cases h : i = q
  · subst h
    rw [if_pos rfl, hx]
    simp [hq, updE]
  · rw [if_neg h, hD]
    congr 2
    funext x
    unfold updE
    simp only [show (i == q) = false by simpa using h, Bool.not_false, Bool.and_true]
theorem skipE {D : Int → Option Value} {M : List S30} {b : List Int} {left : Int → Bool} {q p : Int} (hD : ∀ i, D i = ((lkR M i).map (updE b left p i)).map encR) (hx : lkR M q = none) (i : Int) :
    D i = ((lkR M i).map (updE b (fun j => left j && !(j == q)) p i)).map encR := by
  by_cases h : i = q
  · subst h; rw [hD, hx]; rfl
  · rw [hD]
    congr 2
    funext x
    unfold updE
    simp only [show (i == q) = false by simpa using h, Bool.not_false, Bool.and_true]
theorem endE {D : Int → Option Value} {M : List S30} {b : List Int} {left : Int → Bool} {p : Int} (hD : ∀ i, D i = ((lkR M i).map (updE b left p i)).map encR) (hl : ∀ i, left i = false) (hk : keyUp M) (i : Int) : D i = rv (lastR M b p) i := by
  rw [hD, show rv (lastR M b p) i = (lkR (lastR M b p) i).map encR from rfl, (lastR_spec b p M hk).2]
  congr 2
  funext x
  unfold updE
  rw [hl]
  by_cases h : i ∈ b
  · rw [if_pos (by simp [h]), if_pos h]
  · rw [if_neg (by simp [h]), if_neg h]
theorem lkR_at : ∀ {M : List S30} {x : S30}, keyUp M → x ∈ M → lkR M x.f0 = some x
  | y :: M, x, h, hx => by
    obtain ⟨p1, p2⟩ := List.pairwise_cons.1 h
    rw [lkR_cons]
    rcases List.mem_cons.1 hx with rfl | hx
    · rw [if_pos rfl]
    · rw [if_neg (by have := p1 x hx; omega)]
      exact lkR_at p2 hx
theorem zeroRange (w : World) : (zeroValue 30).run Tryd.prog w = .ok (.agg #[.int .i64 0, .int .i64 0, .int .i64 0]) w := by kernel_rfl
theorem infoRange : (Tryd.prog.info? 30).map (fun i => (i.zero, i.size, i.bytes)) = some (some (.agg #[.int .i64 0, .int .i64 0, .int .i64 0]), 3, 24) := by kernel_rfl
set_option maxHeartbeats 1000000 in
theorem risingR.calls (b : Nat) (M : List S30) (w : World) (h : IM w b (rv M) M.length) (hp : keyUp M) (hwf : wfRange M) :
    Calls Tryd.prog 27 #[.map (some b)] w fun e w' => ∃ v : Value, e = .returned v ∧ Kd.R (Kd.int .i64) 3 w' w.heap.size (fun _ => True) v (M.map (·.f0)) ∧ Below w.heap.size w w' := by
  have hlen : ∀ ty, (Builtin.len_ #[49] ty #[.map (some b)]).run Tryd.prog w = .ok (.int .i64 M.length) w := fun ty => h.len Tryd.underlying49 ty
  by_cases h0 : M = []
  · subst h0
    go_enter Tryd.func27, Tryd.ntmps27
    go_wp2
    go_ret
    exact ⟨_, rfl, Kd.R_nil _ _ _ _ _, Below.refl _ _⟩
  · have hpos : (((M.length : Int)) == 0) = false := by
      have := List.length_pos_iff.2 h0
      simp; exact h0
    have hkey : ∀ i, (rv M i).isSome = true ↔ i ∈ M.map (·.f0) := fun i => by rw [rv, Option.isSome_map, lkR_isSome]
    have HS := Aside0.mk (sortedRange.calls b M.length (rv M) w h (fun i hi => by
      obtain ⟨x, hx, rfl⟩ := List.mem_map.1 ((hkey i).1 hi)
      have := hwf.2 x hx
      exact WalkArith.wf_i64 (by omega)) (by have := hwf.1; omega))
    have HK := Aside0.mk (keysRange.calls b w)
    have HP := Aside0.mk (keyUp_nodup hp)
    have HH := Aside0.mk hkey
    clear h hp hwf h0 hkey
    go_enter Tryd.func27, Tryd.ntmps27
    go_wp2_with fail
    refine HK.out.mono ?_
    rintro e w1 ⟨rfl, rfl⟩
    go_wp2_with fail
    refine HS.out.mono ?_
    rintro e w2 ⟨v, L, rfl, hL, hm, _, hR, hb⟩
    have hLe : L = M.map (·.f0) := up_same hL HP.out (fun i => by rw [hm, HH.out])
    rw [hLe] at hR
    have hR' := Aside0.mk (Kd.R_lower hR (show w.heap.size ≤ w.heap.size + 1 by omega))
    have hb' := Aside0.mk ((below_alloc (Below.refl w.heap.size w) (.cells #[.map (some b)] 49)).trans (hb.mono (by omega)))
    clear hR hb hm HS HK hL hLe
    go_wp2
    go_ret
    exact ⟨v, rfl, hR'.out, hb'.out⟩
set_option maxHeartbeats 8000000 in
set_option maxRecDepth 100000 in
theorem live_Ranges.calls (k : Nat) (A0 : Option Addr) (c0 : Nat) (l0 : List S39) (r : List S30) (w : World) (hr0 : Kd.C k39 w A0 l0.length l0) (hc0 : l0.length ≤ c0) (h : live_Ranges.f k l0 = some r) (hgl : GlobOK w) :
    Calls Tryd.prog 9 #[.slice A0 l0.length c0] w fun e w' => ∃ v0_ : Value, e = .returned (v0_) ∧ Kd.R k30 30 w' w.heap.size (fun _ => True) v0_ r ∧ Below w.heap.size w w' := by
  unfold live_Ranges.f at h
  by_cases hn : l0.length ≤ 1000000
  case neg => rw [if_neg hn] at h; exact absurd h (by simp)
  rw [if_pos hn] at h
  obtain ⟨R, h1, h2⟩ := Option.bind_eq_some_iff.1 h
  by_cases hw : wfRange (rangesL l0 R.1 R.2)
  case neg => rw [if_neg hw] at h2; exact absurd h2 (by simp)
  rw [if_pos hw] at h2
  have h2 := Option.some.inj h2
  rw [h2] at hw
  have HR := Aside0.mk h2
  have HWF := Aside0.mk hw
  have HN := Aside0.mk hn
  have HC0 := Aside0.mk hr0
  have HLEN := Aside0.mk (flow_len h1)
  have HGL := Aside0.mk hgl
  have CF := Aside0.mk (live_flow.calls k A0 c0 l0 R w hr0 hc0 h1 hgl)
  have hmm := @run_makeMap Tryd.prog
  clear h h1 h2 hw hr0 hc0 hgl hn
  go_enter Tryd.func9, Tryd.ntmps9
  go_wp2_with fail
  refine CF.out.mono ?_
  rintro e w1 ⟨va, vb, xa, xb, rfl, hok, hb⟩
  have HO := Aside0.mk hok
  have HB := Aside0.mk hb
  obtain ⟨Aa, ca, ea⟩ := own_slice hok.ra
  obtain ⟨Ab, cb, eb⟩ := own_slice hok.rb
  subst ea
  subst eb
  have HM0 := Aside0.mk (IM.made w1)
  have HBm := Aside0.mk (below_alloc (Below.refl w1.heap.size w1) (.map #[] 0))
  clear hok hb CF
  go_wp2_with fail
  go_loopg [26] l0.length (fun kq v26 wr => ∃ (t : Nat) (M : List S30), v26 = .int .i64 (t : Int) ∧ Aside0 (t + kq = l0.length) ∧ Aside0 ((List.range' t kq).foldl (stepR l0 R.1 R.2) M = r) ∧ Aside0 (keyUp M) ∧ Aside0 (IM wr w1.heap.size (rv M) M.length) ∧ Aside0 (Below w1.heap.size w1 wr))
  case atStart =>
    refine ⟨0, [], rfl, ⟨by omega⟩, ⟨by rw [← HR.out, rangesL, List.range_eq_range']⟩, ⟨List.Pairwise.nil⟩, ⟨HM0.out.congr (fun i => rfl) rfl⟩, HBm⟩
  case round =>
    clear HM0 HBm
    obtain ⟨t, M, rfl, HK, HT, HU, HM, HBr⟩ := hrel
    have ht0 : (0 : Int) ≤ (t : Int) := by omega
    by_cases hlt : (t : Int) < (l0.length : Int)
    case neg =>
      have hk0 : t = l0.length := by have := HK.out; omega
      have ht := HT.out
      rw [show List.range' t gk = [] by have := HK.out; rw [show gk = 0 by omega]; rfl] at ht
      obtain rfl : M = r := ht
      have CR := Aside0.mk (risingR.calls w1.heap.size M wr HM.out HU.out HWF.out)
      have HMB := Aside0.mk (show w1.heap.size < wr.heap.size from HM.out.lt)
      obtain ⟨wo, rfl⟩ : ∃ wo, wo = wr := ⟨_, rfl⟩
      clear HK hk0 HT
      go_wp2_with fail
      refine CR.out.mono ?_
      rintro e w3 ⟨v3, rfl, hR, hb3⟩
      obtain ⟨A3, c3, e3⟩ := Kd.R_slice hR
      subst e3
      obtain ⟨ks, hks⟩ : ∃ ks, ks = M.map (·.f0) := ⟨_, rfl⟩
      rw [← hks] at hR ⊢
      have hkl : ks.length = M.length := by rw [hks, List.length_map]
      have HR3 := Aside0.mk hR
      have HM3 := Aside0.mk (HM.out.below hb3 HM.out.lt)
      have HB3 := Aside0.mk (HBr.out.trans (hb3.mono HBr.out.size))
      have HKS := Aside0.mk hks
      have HKL := Aside0.mk hkl
      clear hR hb3 hks hkl CR HM HBr
      go_wp2_with fail
      go_loopg [15, 91] M.length (fun kq v15 v91 wr => ∃ (t4 : Nat), v91 = .int .i64 (t4 : Int) ∧ Aside0 (t4 + kq = M.length) ∧ Aside0 (Kd.R k30 30 wr w3.heap.size (fun _ => True) v15 (M.take t4)) ∧ Aside0 (Below w3.heap.size w3 wr))
      case atStart => exact ⟨0, rfl, ⟨by omega⟩, ⟨by rw [List.take_zero]; exact Kd.R_nil _ _ _ _ _⟩, ⟨Below.refl _ _⟩⟩
      case round =>
        obtain ⟨t4, rfl, HK4, HR4, HB4⟩ := hrel
        have ht4 : (0 : Int) ≤ (t4 : Int) := by omega
        have hkl := HKL.out
        by_cases hlt4 : (t4 : Int) < (ks.length : Int)
        case neg =>
          have hR := HR4.out
          rw [List.take_of_length_le (by have := HK4.out; omega)] at hR
          have HRR := Aside0.mk (Kd.R_lower hR (show w.heap.size ≤ w3.heap.size from Nat.le_trans HB.out.size HB3.out.size))
          have HBB := Aside0.mk (HB.out.trans ((HB3.out.trans (HB4.out.mono HB3.out.size)).mono HB.out.size))
          clear hR HR4 HK4 hkl
          go_wp2_with fail
          go_ret
          exact ⟨_, rfl, HRR.out, HBB.out⟩
        cases gk with
        | zero => exact absurd HK4.out (by omega)
        | succ m4 =>
        have htM : t4 < M.length := by omega
        obtain ⟨x, hx⟩ : ∃ x, x = M[t4] := ⟨_, rfl⟩
        have hxm : x ∈ M := by rw [hx]; exact List.getElem_mem _
        obtain ⟨ad4, e4, hx4⟩ := Kd.at_int (Kd.R_reads' (Kd.R_below HR3.out ((HB4.out)))).2.2 (t4 : Int) ht4 hlt4
        subst e4
        have hkx : rd ks (t4 : Int) = x.f0 := by
          unfold rd
          rw [Int.toNat_natCast, HKS.out, List.getD_eq_getElem?_getD, List.getElem?_map, List.getElem?_eq_getElem htM, hx]
          rfl
        rw [hkx, Int.toNat_natCast] at hx4
        have HXE := Aside0.mk hx
        have HLK := Aside0.mk (show rv M x.f0 = some (.agg #[.int .i64 x.f0, .int .i64 x.f1, .int .i64 x.f2]) by rw [rv, lkR_at HU.out hxm]; rfl)
        have HM4 := Aside0.mk (HM3.out.below HB4.out HM3.out.lt)
        obtain ⟨T, hT⟩ : ∃ T, T = M.take t4 := ⟨_, rfl⟩
        rw [← hT] at HR4
        have HTT := Aside0.mk hT
        have HTl := Aside0.mk (show T.length = t4 by rw [hT, List.length_take]; omega)
        have HALL := Aside0.mk (show (T.length + 1) * 24 ≤ 140737488355328 by have := HWF.out.1; have := HTl.out; omega)
        obtain ⟨Ao, co, eo⟩ := Kd.R_slice HR4.out
        subst eo
        have h634 : (t4 : Int) + 1 ≤ 9223372036854775807 := by have := HWF.out.1; omega
        clear hx hxm hkx hT hkl
        go_wp2_with (first
          | (at_lookup; refine wpList_lookup_im _ rfl _ _ 49 rfl 3 30 Tryd.underlying49 rfl _ (zeroRange _) w1.heap.size M.length (rv M) rfl HM4.out x.f0 rfl ?_; simp only [HLK.out, Option.getD_some])
          | ((with_reducible refine gate_builtin (b := .append) (xs := #[.tmp 95, .tmp 99]) rfl ?_); (try (refine gate_guard (by rfl) ?_; dsimp only)); at_builtin; refine Kd.R_append k30 (w0 := w3) w3.heap.size rfl (.tmp 95) (.tmp 99) 25 30 (.agg #[.int .i64 0, .int .i64 0, .int .i64 0]) 24 rfl Tryd.underlying25 infoRange rfl (by decide) (by omega) (.slice Ao T.length co) T x [.int .i64 x.f0, .int .i64 x.f1, .int .i64 x.f2] (fun _ => True) (fun _ => False) rfl rfl (k30_mkM _ _ _ x) (fun _ hk_ => hk_.elim) (fun _ _ => trivial) HR4.out HB4.out HB4.out.size HALL.out ?_; intro v1 w8 ho hb hg hat; have HO8 := Aside0.mk ho; have HB8 := Aside0.mk hb; clear ho hb hg hat))
        go_roundg m4
        case measure => omega
        case rel =>
          have hO := HO8.out
          rw [HTT.out, HXE.out, List.take_append_getElem htM] at hO
          exact ⟨t4 + 1, by (try push_cast); (try rfl), ⟨by have := HK4.out; omega⟩, ⟨hO⟩, HB8⟩
    cases gk with
    | zero => exact absurd HK.out (by omega)
    | succ m1 =>
    obtain ⟨b, hb⟩ : ∃ b, xa[t]? = some b := ⟨_, List.getElem?_eq_getElem (by have := HO.out.la; have := HLEN.out.1; omega)⟩
    obtain ⟨g, cap, ev, hx⟩ := own_map_at (own_keep HO.out.ra (fun k hk => HBr.out.block k (own_lt HO.out.ra k hk))) hb
    cases ev
    obtain ⟨b', hb'⟩ : ∃ b, xb[t]? = some b := ⟨_, List.getElem?_eq_getElem (by have := HO.out.lb; have := HLEN.out.2; omega)⟩
    obtain ⟨g', cap', ev', hx'⟩ := own_map_at (own_keep HO.out.rb (fun k hk => HBr.out.block k (own_lt HO.out.rb k hk))) hb'
    cases ev'
    have hlx : (t : Int) < (xa.length : Int) := by have := HO.out.la; have := HLEN.out.1; omega
    have hlx' : (t : Int) < (xb.length : Int) := by have := HO.out.lb; have := HLEN.out.2; omega
    obtain ⟨At, hAt⟩ : ∃ At, At = R.1.getD t [] := ⟨_, rfl⟩
    obtain ⟨Bt, hBt⟩ : ∃ Bt, Bt = R.2.getD t [] := ⟨_, rfl⟩
    have him := HO.out.ma t b hb
    have him' := HO.out.mb t b' hb'
    rw [← hAt] at him
    rw [← hBt] at him'
    have hpA : At.Pairwise (· < ·) := by rw [hAt]; exact getD_up HO.out.ua t
    have hpB : Bt.Pairwise (· < ·) := by rw [hBt]; exact getD_up HO.out.ub t
    obtain ⟨x, hxx⟩ : ∃ x, x = l0.getD t z39 := ⟨_, rfl⟩
    obtain ⟨ad, e101, c_0, c_1, c_2, c_3, c_4, c_5, c_6⟩ := at_T39 HC0.out (t : Int) ht0 hlt
    subst e101
    clear c_0 c_1 c_2 c_3 c_4 c_5 c_6
    have HIA := Aside0.mk him
    have HIB := Aside0.mk him'
    have HPA := Aside0.mk hpA
    have HPB := Aside0.mk hpB
    have HAt := Aside0.mk hAt
    have HBt := Aside0.mk hBt
    have HXX := Aside0.mk hxx
    have CC := Aside0.mk (mapClone.calls b _ _ wr (him.below HBr.out him.lt))
    have h63 : (t : Int) + 1 ≤ 9223372036854775807 := by have := HN.out; omega
    have hx'2 : g' < w1.heap.size := by
      rcases HO.out.rb.2 with ⟨h1, _⟩ | ⟨g2, _, _, e2, _, h2, _⟩
      · cases h1
      · cases e2; exact blk_lt h2
    have HX' := Aside0.mk hx'
    have HGL' := Aside0.mk hx'2
    clear hb hb' him him' hpA hpB hAt hBt hxx hx' hx'2
    go_wp2_with fail
    refine CC.out.mono ?_
    rintro e w4 ⟨rfl, hI4, hb4⟩
    have HI4 := Aside0.mk hI4
    have HB4 := Aside0.mk hb4
    have HBr4 := Aside0.mk (HBr.out.trans (hb4.mono HBr.out.size))
    obtain ⟨ad', e102, c_0, c_1, c_2, c_3, c_4, c_5, c_6⟩ := at_T39 (Kd.C_below HC0.out (HB.out.trans (HBr4.out.mono HB.out.size))) (t : Int) ht0 hlt
    cases e102
    rw [show rd_T39 l0 (t : Int) = x by rw [HXX.out]; unfold rd_T39; rw [Int.toNat_natCast]] at c_0 c_1 c_2 c_3 c_4 c_5 c_6
    rw [Int.toNat_natCast] at c_0 c_1 c_2 c_3 c_4 c_5 c_6
    obtain ⟨d, hd⟩ : ∃ d, d = defQ x := ⟨_, rfl⟩
    have CD := Aside0.mk (ins_Def.calls x.f0 x.f1 x.f2 x.f3 x.f4 x.f5 x.f6 d w4 (by rw [hd]; rfl) (HGL.out.step (HB.out.trans (HBr4.out.mono HB.out.size))))
    have HD := Aside0.mk hd
    clear CC hI4 hb4 hd
    go_wp2_with fail
    refine CD.out.mono ?_
    rintro e w5 ⟨rfl, hb5⟩
    have HI5 := Aside0.mk (HI4.out.below hb5 HI4.out.lt)
    have HB5 := Aside0.mk (HB4.out.trans (hb5.mono HB4.out.size))
    have HMM := Aside0.mk HM.out.lt
    clear hb5 CD HI4 HB4 HBr4 c_0 c_1 c_2 c_3 c_4 c_5 c_6
    obtain ⟨H, hH⟩ : ∃ H, H = hereL l0 R.1 t := ⟨_, rfl⟩
    have hHe : H = if 0 ≤ d then insL At d else At := by rw [hH, hereL, HD.out, HXX.out, HAt.out]
    have HHE := Aside0.mk hHe
    have HHH := Aside0.mk hH
    clear hHe hH
    go_upto_if 40 with fail
    go_cut [8, 26] (fun v8 v26 wc => v8 = .int .i64 d ∧ v26 = .int .i64 (t : Int) ∧ Aside0 (H.Pairwise (· < ·)) ∧ Aside0 (IM wc wr.heap.size (lv H) H.length) ∧ Aside0 (Below wr.heap.size wr wc))
    case first =>
      by_cases hd0 : d ≥ 0
      · have hf := insL_spec d At HPA.out
        have HIN := Aside0.mk hf
        have hHi : H = insL At d := by rw [HHE.out, if_pos hd0]
        have HHI := Aside0.mk hHi
        have e0 : decide (0 ≤ d) = true := decide_eq_true hd0
        clear hf hHi hd0
        rw [e0]
        clear e0
        go_wp2_with (first
          | (at_mapUpdate; refine wpList_update_im _ rfl _ _ _ 51 rfl 3 4 Tryd.underlying51 rfl wr.heap.size At.length _ rfl HI5.out d (.bool true) rfl rfl ?_; intro w6 hout6 hg6 hs6; have HO6 := Aside0.mk hout6; have HG6 := Aside0.mk hg6; clear hout6 hg6 hs6; (try go_frame))
          | go_in)
        go_meet
        case rel =>
          have h6 := HO6.out
          unfold lv at h6
          rw [setV_upd] at h6
          refine ⟨rfl, rfl, ⟨by rw [HHI.out]; exact HIN.out.1⟩, ⟨?_⟩, ⟨HB5.out.grown HG6.out HB5.out.size (fun k hk => by cases hk; exact Nat.le_refl _)⟩⟩
          rw [HHI.out]
          exact h6.listed HIN.out.1 (fun j => by rw [show (j == d) = decide (j = d) from rfl, ← Bool.decide_or]; exact decide_eq_decide.2 (HIN.out.2 j).symm)
      · have hHi : H = At := by rw [HHE.out, if_neg hd0]
        have HHI := Aside0.mk hHi
        have e0 : decide (0 ≤ d) = false := decide_eq_false hd0
        clear hHi hd0
        rw [e0]
        clear e0
        go_wp2_with fail
        go_meet
        case rel => exact ⟨rfl, rfl, ⟨by rw [HHI.out]; exact HPA.out⟩, ⟨by rw [HHI.out]; exact HI5.out⟩, HB5⟩
    case rest =>
      obtain ⟨rfl, rfl, HPH, HIH, HB6⟩ := hcut
      have HBc := Aside0.mk (HBr.out.trans (HB6.out.mono HBr.out.size))
      have HMc := Aside0.mk (HM.out.below HB6.out HM.out.lt)
      obtain ⟨hb, hhb⟩ : ∃ hb, hb = wr.heap.size := ⟨_, rfl⟩
      rw [← hhb] at HIH HMM ⊢
      have HBB := Aside0.mk (show w1.heap.size ≤ hb by have := HMM.out; omega)
      clear hhb HX' hx HB5 HI5 HB6 HM HBr
      go_wp2_with (first
        | (at_range; refine wpList_range_im _ rfl _ 51 rfl 3 4 Tryd.underlying51 hb H.length _ rfl HIH.out ?_; intro w6 hrg0 hg0 hs0)
        | go_in)
      have HRG := Aside0.mk hrg0
      have HM6 := Aside0.mk (HMc.out.kept hg0 (by simp))
      have HB6 := Aside0.mk (HBc.out.grown hg0 HBc.out.size (fun k hk => by cases hk))
      have HWC := Aside0.mk (show hb < wc.heap.size from HIH.out.lt)
      clear hrg0 hg0 hs0 HMc
      (try go_frame)
      go_loopw [45] (fun _ wr => ∃ (left : Int → Bool) (cnt m : Nat) (D : Int → Option Value), Aside0 (IR wr hb wc.heap.size (lv H) H.length left cnt) ∧ Aside0 (IM wr w1.heap.size D m) ∧ Aside0 (∀ i, D i = if (decide (i ∈ H) && !left i) = true then some (encR (newR M i (t : Int))) else rv M i) ∧ Aside0 (Below w1.heap.size w1 wr)) (fun _ wr => wr.rangeLeft hb wc.heap.size)
      case atStart =>
        refine ⟨_, _, _, rv M, HRG, HM6, ⟨fun i => ?_⟩, HB6⟩
        unfold lv
        rw [setV_isSome]
        cases decide (i ∈ H) <;> rfl
      case round =>
        clear HRG HM6 HB6
        obtain ⟨left, cnt, m, D, HRG, HD, HDD, HB6⟩ := hrel
        go_wp2_with (first
          | (at_next; refine wpList_next_im _ rfl _ rfl hb wc.heap.size H.length _ _ _ rfl HRG.out ?_ ?_)
          | go_in)
        · intro hc0 hl0
          obtain ⟨M2, hM2⟩ : ∃ M2, M2 = putAllR M H (t : Int) := ⟨_, rfl⟩
          have hu2 : keyUp M2 := by rw [hM2]; exact (putAllR_spec _ _ _ (up_nodup HPH.out) HU.out).1
          have HU2 := Aside0.mk hu2
          have HM2 := Aside0.mk (HD.out.ranged hu2 (fun i => by rw [hM2]; exact endD HDD.out hl0 (up_nodup HPH.out) HU.out i))
          have HE2 := Aside0.mk hM2
          obtain ⟨b2, hb2⟩ : ∃ b2, xb[t]? = some b2 := ⟨_, List.getElem?_eq_getElem (by omega)⟩
          obtain ⟨g2, cap2, ev2, hx2⟩ := own_map_at (own_keep HO.out.rb (fun k hk => HB6.out.block k (own_lt HO.out.rb k hk))) hb2
          cases ev2
          have him2 := HO.out.mb t b2 hb2
          rw [← HBt.out] at him2
          have HI2 := Aside0.mk (him2.below HB6.out him2.lt)
          have HLB := Aside0.mk him2.lt
          obtain ⟨wp, rfl⟩ : ∃ wp, wp = wr := ⟨_, rfl⟩
          clear HRG HD HDD hM2 hu2 hb2 him2 hl0
          go_wp2_with (first
            | (at_range; refine wpList_range_im _ rfl _ 51 rfl 3 4 Tryd.underlying51 b2 Bt.length _ rfl HI2.out ?_; intro w6 hrg0 hg0 hs0)
            | go_in)
          have HRG := Aside0.mk hrg0
          have HM6 := Aside0.mk (HM2.out.kept hg0 (by simp))
          have HB8 := Aside0.mk (HB6.out.grown hg0 HB6.out.size (fun k hk => by cases hk))
          have HWC2 := Aside0.mk (HM2.out.lt)
          clear hrg0 hg0 hs0 HM2 hx2
          (try go_frame)
          go_loopw [71] (fun _ wr => ∃ (left : Int → Bool) (cnt m3 : Nat) (D3 : Int → Option Value), Aside0 (IR wr b2 wp.heap.size (lv Bt) Bt.length left cnt) ∧ Aside0 (IM wr w1.heap.size D3 m3) ∧ Aside0 (∀ i, D3 i = ((lkR M2 i).map (updE Bt left (t : Int) i)).map encR) ∧ Aside0 (Below w1.heap.size w1 wr)) (fun _ wr => wr.rangeLeft b2 wp.heap.size)
          case atStart =>
            refine ⟨_, _, _, rv M2, HRG, HM6, ⟨fun i => ?_⟩, HB8⟩
            show (lkR M2 i).map encR = _
            congr 1
            cases lkR M2 i with
            | none => rfl
            | some x0 =>
              refine congrArg some ?_
              unfold updE lv
              show x0 = if (decide (i ∈ Bt) && !(setV (fun i => decide (i ∈ Bt)) i).isSome) = true then _ else x0
              rw [setV_isSome, if_neg (by cases decide (i ∈ Bt) <;> simp)]
          case round =>
            clear HRG HM6 HB8
            obtain ⟨left, cnt, m3, D3, HRG, HD, HDD, HB8⟩ := hrel
            go_wp2_with (first
              | (at_next; refine wpList_next_im _ rfl _ rfl b2 wp.heap.size Bt.length _ _ _ rfl HRG.out ?_ ?_)
              | go_in)
            · intro hc0 hl0
              have h3 := lastR_spec Bt (t : Int) M2 HU2.out
              have HM3 := Aside0.mk (HD.out.ranged h3.1 (fun i => endE HDD.out hl0 HU2.out i))
              have HU3 := Aside0.mk h3.1
              clear h3 hl0 HRG HD HDD
              go_wp2_with fail
              go_roundg m1
              case measure => omega
              case rel =>
                have ht := HT.out
                rw [List.range'_succ, List.foldl_cons] at ht
                rw [show stepR l0 R.1 R.2 M t = lastR M2 Bt (t : Int) by rw [stepR, HE2.out, HHH.out, HBt.out]] at ht
                exact ⟨t + 1, _, by (try push_cast); (try rfl), ⟨by have := HK.out; omega⟩, ⟨ht⟩, HU3, HM3, HB8⟩
            · intro q v w7 cnt1 hli hfi hrg1 hlt1 hg1 hs1 hen
              have HD7 := Aside0.mk (HD.out.kept hg1 (fun e => by have := Option.some.inj e; have := HWC2.out; omega))
              have HRG7 := Aside0.mk hrg1
              have HMS := Aside0.mk (show wr.rangeLeft b2 wp.heap.size = cnt from HRG.out.left_eq)
              have HB7 := Aside0.mk (HB8.out.grown hg1 HB8.out.size (fun k hk => by cases hk; have := HWC2.out; omega))
              have hqH : q ∈ Bt := (lv_some Bt q).1 (by rw [hfi]; rfl)
              have hDq : D3 q = rv M2 q := by
                rw [HDD.out]
                show _ = (lkR M2 q).map encR
                congr 1
                cases lkR M2 q with
                | none => rfl
                | some x0 =>
                  refine congrArg some ?_
                  unfold updE
                  rw [hli, if_neg (by simp)]
              have HLT := Aside0.mk hlt1
              have HQH := Aside0.mk hqH
              clear hfi hrg1 hg1 hs1 hlt1 hli hqH HB8 HD
              cases hq : lkR M2 q with
              | none =>
                have hDn : D3 q = none := by rw [hDq, rv, hq]; rfl
                have HDN := Aside0.mk hDn
                have HQ := Aside0.mk hq
                clear hDq hq hDn
                go_wp2_with (first
                  | (at_lookup; refine wpList_lookup_ok_im _ rfl _ _ 49 rfl 3 30 Tryd.underlying49 rfl _ (zeroRange _) w1.heap.size m3 D3 rfl HD7.out q rfl ?_; simp only [HDN.out, Option.getD_none, Option.isSome_none])
                  | go_in)
                have HRG9 := Aside0.mk (HRG7.out.kept (World.grownBy_alloc w7 (.cells #[.int .i64 0, .int .i64 0, .int .i64 0] 30) none) (by simp) (by simp))
                have HD9 := Aside0.mk (HD7.out.below (below_alloc (Below.refl _ _) (.cells #[.int .i64 0, .int .i64 0, .int .i64 0] 30)) HD7.out.lt)
                have HB9 := Aside0.mk (HB7.out.alloc HB7.out.size (.cells #[.int .i64 0, .int .i64 0, .int .i64 0] 30))
                go_roundw
                case measure => rw [HRG9.out.left_eq, HMS.out]; exact HLT.out
                case rel => exact ⟨_, cnt1, _, _, HRG9, HD9, ⟨skipE HDD.out HQ.out⟩, HB9⟩
              | some x0 =>
                have hk0 := (lkR_key hq).1
                have hDn : D3 q = some (.agg #[.int .i64 q, .int .i64 x0.f1, .int .i64 x0.f2]) := by rw [hDq, rv, hq, ← hk0]; rfl
                have HDN := Aside0.mk hDn
                have HQ := Aside0.mk hq
                have HK0 := Aside0.mk hk0
                clear hDq hq hDn hk0
                go_wp2_with (first
                  | (at_lookup; refine wpList_lookup_ok_im _ rfl _ _ 49 rfl 3 30 Tryd.underlying49 rfl _ (zeroRange _) w1.heap.size m3 D3 rfl HD7.out q rfl ?_; simp only [HDN.out, Option.getD_some, Option.isSome_some])
                  | (at_mapUpdate; refine wpList_update_im _ rfl _ _ _ 49 rfl 3 30 Tryd.underlying49 rfl w1.heap.size m3 D3 rfl (HD7.out.below (below_alloc (Below.refl _ _) _) HD7.out.lt) q (.agg #[.int .i64 q, .int .i64 x0.f1, .int .i64 (t : Int)]) rfl rfl ?_; intro w9 hout9 hg9 hs9; have HO9 := Aside0.mk hout9; have HG9 := Aside0.mk hg9; clear hout9 hg9 hs9; (try go_frame))
                  | go_in)
                have HRG9 := Aside0.mk ((HRG7.out.kept (World.grownBy_alloc w7 _ none) (by simp) (by simp)).kept HG9.out (fun e => by have := Option.some.inj e; have := HLB.out; omega) (fun e => by have := Option.some.inj e; have := HWC2.out; omega))
                have HB9 := Aside0.mk ((HB7.out.alloc HB7.out.size _).grown HG9.out (by have := HB7.out.size; simp; omega) (fun k hk => by cases hk; exact Nat.le_refl _))
                go_roundw
                case measure => rw [HRG9.out.left_eq, HMS.out]; exact HLT.out
                case rel =>
                  have h9 := stepE HDD.out HQH.out HQ.out
                  rw [show encR ⟨x0.f0, x0.f1, (t : Int)⟩ = .agg #[.int .i64 q, .int .i64 x0.f1, .int .i64 (t : Int)] by rw [← HK0.out]; rfl] at h9
                  exact ⟨_, cnt1, _, _, HRG9, HO9, ⟨h9⟩, HB9⟩
        · intro q v w7 cnt1 hli hfi hrg1 hlt1 hg1 hs1 hen
          have HD7 := Aside0.mk (HD.out.kept hg1 (fun e => by have := Option.some.inj e; have := HWC.out; have := HMM.out; omega))
          have HRG7 := Aside0.mk hrg1
          have HMS := Aside0.mk (show wr.rangeLeft hb wc.heap.size = cnt from HRG.out.left_eq)
          have HB7 := Aside0.mk (HB6.out.grown hg1 HB6.out.size (fun k hk => by cases hk; have := HWC.out; have := HMM.out; omega))
          have hqH : q ∈ H := (lv_some H q).1 (by rw [hfi]; rfl)
          have hDq : D q = rv M q := by rw [HDD.out, hli, Bool.not_true, Bool.and_false, if_neg (by simp)]
          have HLT := Aside0.mk hlt1
          have HLI := Aside0.mk hli
          have HQH := Aside0.mk hqH
          clear hfi hrg1 hg1 hs1 hlt1 hli hqH HB6 HD
          cases hq : lkR M q with
          | none =>
            have hDn : D q = none := by rw [hDq, rv, hq]; rfl
            have HDN := Aside0.mk hDn
            have HQ := Aside0.mk hq
            clear hDq hq hDn
            go_wp2_with (first
              | (at_lookup; refine wpList_lookup_ok_im _ rfl _ _ 49 rfl 3 30 Tryd.underlying49 rfl _ (zeroRange _) w1.heap.size m D rfl HD7.out q rfl ?_; simp only [HDN.out, Option.getD_none, Option.isSome_none])
              | (at_mapUpdate; refine wpList_update_im _ rfl _ _ _ 49 rfl 3 30 Tryd.underlying49 rfl w1.heap.size m D rfl (HD7.out.below (below_alloc (Below.refl _ _) _) HD7.out.lt) q (.agg #[.int .i64 q, .int .i64 (t : Int), .int .i64 (t : Int)]) rfl rfl ?_; intro w9 hout9 hg9 hs9; have HO9 := Aside0.mk hout9; have HG9 := Aside0.mk hg9; clear hout9 hg9 hs9; (try go_frame))
              | go_in)
            have HRG9 := Aside0.mk ((HRG7.out.kept (World.grownBy_alloc w7 _ none) (by simp) (by simp)).kept HG9.out (fun e => by have := Option.some.inj e; have := HMM.out; omega) (fun e => by have := Option.some.inj e; have := HMM.out; have := HWC.out; omega))
            have HB9 := Aside0.mk ((HB7.out.alloc HB7.out.size _).grown HG9.out (by have := HB7.out.size; simp; omega) (fun k hk => by cases hk; exact Nat.le_refl _))
            go_roundw
            case measure => rw [HRG9.out.left_eq, HMS.out]; exact HLT.out
            case rel =>
              have h9 := stepD HDD.out HQH.out
              rw [show encR (newR M q (t : Int)) = .agg #[.int .i64 q, .int .i64 (t : Int), .int .i64 (t : Int)] by unfold newR; rw [HQ.out]; rfl] at h9
              exact ⟨_, cnt1, _, _, HRG9, HO9, ⟨h9⟩, HB9⟩
          | some x0 =>
            have hk0 := (lkR_key hq).1
            have hDn : D q = some (.agg #[.int .i64 q, .int .i64 x0.f1, .int .i64 x0.f2]) := by rw [hDq, rv, hq, ← hk0]; rfl
            have HDN := Aside0.mk hDn
            have HQ := Aside0.mk hq
            have HK0 := Aside0.mk hk0
            clear hDq hq hDn hk0
            go_wp2_with (first
              | (at_lookup; refine wpList_lookup_ok_im _ rfl _ _ 49 rfl 3 30 Tryd.underlying49 rfl _ (zeroRange _) w1.heap.size m D rfl HD7.out q rfl ?_; simp only [HDN.out, Option.getD_some, Option.isSome_some])
              | (at_mapUpdate; refine wpList_update_im _ rfl _ _ _ 49 rfl 3 30 Tryd.underlying49 rfl w1.heap.size m D rfl (HD7.out.below (below_alloc (Below.refl _ _) _) HD7.out.lt) q (.agg #[.int .i64 q, .int .i64 x0.f1, .int .i64 (t : Int)]) rfl rfl ?_; intro w9 hout9 hg9 hs9; have HO9 := Aside0.mk hout9; have HG9 := Aside0.mk hg9; clear hout9 hg9 hs9; (try go_frame))
              | go_in)
            have HRG9 := Aside0.mk ((HRG7.out.kept (World.grownBy_alloc w7 _ none) (by simp) (by simp)).kept HG9.out (fun e => by have := Option.some.inj e; have := HMM.out; omega) (fun e => by have := Option.some.inj e; have := HMM.out; have := HWC.out; omega))
            have HB9 := Aside0.mk ((HB7.out.alloc HB7.out.size _).grown HG9.out (by have := HB7.out.size; simp; omega) (fun k hk => by cases hk; exact Nat.le_refl _))
            go_roundw
            case measure => rw [HRG9.out.left_eq, HMS.out]; exact HLT.out
            case rel =>
              have h9 := stepD HDD.out HQH.out
              rw [show encR (newR M q (t : Int)) = .agg #[.int .i64 q, .int .i64 x0.f1, .int .i64 (t : Int)] by unfold newR; rw [HQ.out, ← HK0.out]; rfl] at h9
              exact ⟨_, cnt1, _, _, HRG9, HO9, ⟨h9⟩, HB9⟩
end Go.Proofs.YtianfjhhhhmjlaaDoor.PLiveTells
