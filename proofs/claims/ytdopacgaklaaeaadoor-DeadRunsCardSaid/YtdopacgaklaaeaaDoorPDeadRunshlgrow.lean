import Derived.Test.YtdopacgaklaaeaaDoorPDeadRunsx0
import Derived.Test.YtdopacgaklaaeaaDoorPDeadRunshforms
import Derived.Test.YtdopacgaklaaeaaDoorPDeadRunshg7
import Derived.Test.YtdopacgaklaaeaaDoorPDeadRunshinsuses
import Derived.Test.YtdopacgaklaaeaaDoorPDeadRunshlfl
import Derived.Test.YtdopacgaklaaeaaDoorPDeadRunshgnx
import Derived.Test.YtdopacgaklaaeaaDoorPDeadRunshmaps
import Derived.Test.YtdopacgaklaaeaaDoorPDeadRunshplain0
import Derived.OneCell
import Derived.Deep.QuietTactic
import Derived.BigQuiet
import Derived.StillTailTactics
namespace Go.Proofs.YtdopacgaklaaeaaDoor.PDeadRuns
open Go.RowKit Go.Proofs.YtdopacgaklaaeaaDoorW.PrintWords Go.Proofs.YtdopacgaklaaeaaDoorW.PrintLast Go.Proofs.YtdopacgaklaaeaaDoorW.PrintMore
set_option linter.unusedVariables false
set_option linter.unusedSimpArgs false
open Go.MapKept Go.RowKit
/-! live.flow's closure grow. -/
def defQ (x : S28) : Int := if fmB 1 x.f0 = true then x.f2 else -1
def useQ (x : S28) : List Int := useRegs (useL x.f0 x.f2 x.f3 x.f4)
def growB (A : List (List Int)) (ns b : List Int) : List Int := ns.foldl (fun b n => (A.getD n.toNat []).foldl insL b) b
def growA (d : Int) (us b a : List Int) : List Int := us.foldl insL ((b.filter (fun i => !(i == d))).foldl insL a)
def live_grow.f (c : List S28) (A B : List (List Int)) (i : Int) : Option (List Int × List Int × Bool) :=
  (live_next.f c i).bind fun ns =>
    if ns.length ≤ 1000000 ∧ (useQ (rd_T28 c i)).length ≤ 1000000 ∧ (A.getD i.toNat []).length + (B.getD i.toNat []).length ≤ 1000000 ∧ (growA (defQ (rd_T28 c i)) (useQ (rd_T28 c i)) (growB A ns (B.getD i.toNat [])) (A.getD i.toNat [])).length + (growB A ns (B.getD i.toNat [])).length ≤ 1000000 then
      some (growA (defQ (rd_T28 c i)) (useQ (rd_T28 c i)) (growB A ns (B.getD i.toNat [])) (A.getD i.toNat []), growB A ns (B.getD i.toNat []),
        decide ((A.getD i.toNat []).length + (B.getD i.toNat []).length < (growA (defQ (rd_T28 c i)) (useQ (rd_T28 c i)) (growB A ns (B.getD i.toNat [])) (A.getD i.toNat [])).length + (growB A ns (B.getD i.toNat [])).length))
    else none
theorem getD_up {L : List (List Int)} (h : ∀ l ∈ L, l.Pairwise (· < ·)) (i : Nat) : (L.getD i []).Pairwise (· < ·) := by
  rw [List.getD_eq_getElem?_getD]
  cases hi : L[i]? with
  | none => exact List.Pairwise.nil
  | some l => exact h l (List.mem_of_getElem? hi)
theorem growB_up {A : List (List Int)} : ∀ (ns b : List Int), b.Pairwise (· < ·) → (growB A ns b).Pairwise (· < ·)
  | [], b, h => h
  | n :: ns, b, h => growB_up ns _ (foldIns _ _ h).1
theorem growA_up {d : Int} {us b a : List Int} (h : a.Pairwise (· < ·)) : (growA d us b a).Pairwise (· < ·) := (foldIns _ _ (foldIns _ _ h).1).1
theorem next_in {c : List S28} {i : Int} {ns : List Int} (h : live_next.f c i = some ns) : ∀ n ∈ ns, 0 ≤ n ∧ n < (c.length : Int) := by
  unfold live_next.f at h
  split at h
  · obtain ⟨l, _, h⟩ := Option.bind_eq_some_iff.1 h
    split at h
    · obtain rfl := Option.some.inj h
      intro n hn
      have := (List.mem_filter.1 hn).2
      unfold linB at this
      simp at this
      exact this
    · exact absurd h (by simp)
  · exact absurd h (by simp)
theorem maplen (b n : Nat) (f : Int → Option Value) (W : World) (h : IM W b f n) (m : Nat) (ty : TypeId) : (Builtin.len_ #[102] ty #[.map (some b)]).run Tryd.prog (W.drewN m) = .ok (.int .i64 n) (W.drewN m) :=
  (h.move (w1 := W.drewN m) rfl).len Tryd.underlying102 ty
set_option maxHeartbeats 8000000 in
set_option maxRecDepth 100000 in
theorem lgrow.calls (i : Int) (r : List Int × List Int × Bool) (W0 W : World) (B1 B2 B3 ga gb ca cb c0 : Nat) (A0 : Option Addr) (l0 : List S28) (xa xb : List Nat) (A B : List (List Int))
    (hC0 : Kd.C k28 W0 A0 l0.length l0) (hc0 : l0.length ≤ c0) (hgl : GlobOK W0) (hW : Below W0.heap.size W0 W)
    (hE : LEnv W B1 B2 B3 ga gb l0.length ca cb c0 A0 xa xb) (hA : MapsOK W xa A) (hB : MapsOK W xb B) (uA : ∀ l ∈ A, l.Pairwise (· < ·)) (uB : ∀ l ∈ B, l.Pairwise (· < ·))
    (hold : ∀ k, k ∈ xa ∨ k ∈ xb → W0.heap.size ≤ k) (hi0 : 0 ≤ i) (hi : i < (l0.length : Int)) (h : live_grow.f l0 A B i = some r) :
    Calls Tryd.prog 69 #[.int .i64 i, .pointer (some ⟨B2, 0, none⟩), .pointer (some ⟨B3, 0, none⟩), .pointer (some ⟨B1, 0, none⟩)] W fun e W' => e = .returned (.bool r.2.2) ∧ ∃ (a b : Nat) (w1 : World), xa[i.toNat]? = some a ∧ xb[i.toNat]? = some b ∧ IM W' a (lv r.1) r.1.length ∧ IM W' b (lv r.2.1) r.2.1.length ∧ W.grownBy w1 (some b) ∧ w1.grownBy W' (some a) := by
  obtain ⟨ad, eA0, _⟩ := at_T28 hC0 i hi0 hi
  subst eA0
  obtain ⟨a, ha, cA⟩ := hE.atA hi0 hi
  obtain ⟨b, hb, cB⟩ := hE.atB hi0 hi
  have cbA := cell_of_one hE.hA
  have cbB := cell_of_one hE.hB
  have cbC := cell_of_one hE.hC
  unfold live_grow.f at h
  replace h := Option.bind_eq_some_iff.1 h
  obtain ⟨ns, h1, h⟩ := h
  obtain ⟨Aa, hAa⟩ : ∃ Aa, Aa = A.getD i.toNat [] := ⟨_, rfl⟩
  obtain ⟨Bb, hBb⟩ : ∃ Bb, Bb = B.getD i.toNat [] := ⟨_, rfl⟩
  obtain ⟨x, hx⟩ : ∃ x, x = rd_T28 l0 i := ⟨_, rfl⟩
  have iA := hA i.toNat a ha
  have iB := hB i.toNat b hb
  rw [← hAa] at iA
  rw [← hBb] at iB
  have pA := getD_up uA i.toNat
  have pB := getD_up uB i.toNat
  rw [← hAa] at pA
  rw [← hBb] at pB
  rw [← hAa, ← hBb, ← hx] at h
  obtain ⟨b1, hb1⟩ : ∃ b1, b1 = growB A ns Bb := ⟨_, rfl⟩
  obtain ⟨a1, ha1⟩ : ∃ a1, a1 = growA (defQ x) (useQ x) b1 Aa := ⟨_, rfl⟩
  rw [← hb1, ← ha1] at h
  split at h
  case isFalse => exact absurd h (by simp)
  rename_i hlens
  obtain rfl := Option.some.inj h
  clear h
  have hma : a ∈ xa := List.mem_of_getElem? ha
  have hmb : b ∈ xb := List.mem_of_getElem? hb
  have hab := hE.apart hma hmb
  have hW0a := hold a (.inl hma)
  have hW0b := hold b (.inr hmb)
  have CN := Aside0.mk (fun W' (hw : Below W0.heap.size W0 W') => live_next.calls (some ad) c0 l0 i ns W' (Kd.C_below hC0 hw) hc0 h1 (hgl.step hw))
  have HGL := Aside0.mk hgl
  have HC0 := Aside0.mk hC0
  have HW := Aside0.mk hW
  have HE := Aside0.mk hE
  have HMA := Aside0.mk hA
  have HUA := Aside0.mk uA
  have HNS := Aside0.mk (next_in h1)
  have HL := Aside0.mk hlens
  have HB1 := Aside0.mk hb1
  have HA1 := Aside0.mk ha1
  have IA := Aside0.mk iA
  have IB := Aside0.mk iB
  have PA := Aside0.mk pA
  have PB := Aside0.mk pB
  have HMa := Aside0.mk hma
  have HMb := Aside0.mk hmb
  have HAB := Aside0.mk hab
  have HOa := Aside0.mk hW0a
  have HOb := Aside0.mk hW0b
  have HX := Aside0.mk hx
  have LA := maplen a _ _ W iA
  have LB := maplen b _ _ W iB
  have Ha := Aside0.mk ha
  have Hb := Aside0.mk hb
  clear hC0 hgl hW hE hA hB uA uB h1 hlens hb1 ha1 iA iB pA pB hma hmb hab hW0a hW0b hold hc0 hx ha hb hAa hBb
  go_enter Tryd.func69, Tryd.ntmps69
  go_wp2_with fail
  go_quiet (fail)
  clear LA LB
  go_wp2_with fail
  refine (CN.out _ (pw_below_drewN HW.out nq)).mono ?_
  rintro e w1 ⟨v1, rfl, hR, hb1⟩
  obtain ⟨A1, c1, ev⟩ := Kd.R_slice hR
  subst ev
  have HB1w := Aside0.mk (pw_below_drewN hb1 0)
  have HWb := Aside0.mk ((pw_below_drewN (Below.refl W.heap.size W) nq).trans hb1 : Below W.heap.size W w1)
  have HW1 := Aside0.mk (HW.out.trans (HWb.out.mono HW.out.size))
  have HE1 := Aside0.mk (HE.out.below HWb.out)
  have IA1 := Aside0.mk (IA.out.below HWb.out IA.out.lt)
  have IB1 := Aside0.mk (IB.out.below HWb.out IB.out.lt)
  have HMA1 := Aside0.mk (HMA.out.step (fun k hk => HWb.out.block k (HMA.out.lt k hk)))
  have HR := Aside0.mk hR
  have HRb := Aside0.mk (fun k hk => Nat.lt_of_lt_of_le IB.out.lt (Kd.R_base hR k hk))
  clear hb1 HB1w CN cA cB cbA cbB cbC hR IA IB HMA HE
  go_wp2_with fail
  go_loopg [27] ns.length (fun kq v27 wr => ∃ (t : Nat) (l : List Int), v27 = .int .i64 (t : Int) ∧ Aside0 (t + kq = ns.length) ∧ Aside0 (growB A (ns.drop t) l = b1) ∧ Aside0 (l.Pairwise (· < ·)) ∧ Aside0 (IM wr b (lv l) l.length) ∧ Aside0 (w1.grownBy wr (some b)))
  case atStart => exact ⟨0, Bb, rfl, ⟨by omega⟩, ⟨HB1.out.symm⟩, PB, IB1, ⟨World.grownBy.refl _ _⟩⟩
  case round =>
    obtain ⟨t, l, rfl, HK, HT, HP, HI, HG⟩ := hrel
    have ht0 : (0 : Int) ≤ (t : Int) := by omega
    have hEr := HE1.out.grown HG.out (.inr (.inl HMb.out))
    obtain ⟨b', hb', cB⟩ := hEr.atB hi0 hi
    obtain rfl : b = b' := Option.some.inj (Hb.out.symm.trans hb')
    have cbA := cell_of_one hEr.hA
    have cbB := cell_of_one hEr.hB
    have cbC := cell_of_one hEr.hC
    by_cases hlt : (t : Int) < (ns.length : Int)
    case neg =>
      have hk0 : t = ns.length := by have := HK.out; omega
      have he := HT.out
      rw [hk0, List.drop_length] at he
      obtain rfl : l = b1 := he
      have HEr := Aside0.mk hEr
      have HWr := Aside0.mk (HW1.out.grown HG.out HW1.out.size (fun k hk => by cases hk; exact HOb.out))
      have IAr := Aside0.mk (IA1.out.kept HG.out (fun e => HAB.out (Option.some.inj e)))
      clear HK hk0 HE1 IA1 IB1 HT HR HRb hEr hb' cbA
      obtain ⟨wo, rfl⟩ : ∃ wo, wo = wr := ⟨_, rfl⟩
      go_wp2_with (first
        | (at_range; refine wpList_range_im _ rfl _ 102 rfl 3 4 Tryd.underlying102 b l.length _ rfl HI.out ?_; intro w2 hrg0 hg0 hs0)
        | go_in)
      have HG2 := Aside0.mk (hg0.but (some a) : wo.grownBy w2 (some a))
      have HRG := Aside0.mk hrg0
      have IA2 := Aside0.mk (IAr.out.kept hg0 (by simp))
      have IAlt := Aside0.mk IAr.out.lt
      obtain ⟨d, hd⟩ : ∃ d, d = defQ x := ⟨_, rfl⟩
      have HD := Aside0.mk hd
      clear hrg0 hg0 hs0 hd cbC cbB cB IAr HI
      (try go_frame)
      go_loopw [46] (fun _ wr => ∃ (left : Int → Bool) (cnt m : Nat) (S : Int → Bool), Aside0 (IR wr b wo.heap.size (lv l) l.length left cnt) ∧ Aside0 (IM wr a (setV S) m) ∧ Aside0 (∀ j, S j = (decide (j ∈ Aa) || (decide (j ∈ l) && !left j && !(j == d)))) ∧ Aside0 (wo.grownBy wr (some a))) (fun _ wr => wr.rangeLeft b wo.heap.size)
      case atStart =>
        refine ⟨_, _, _, fun j => decide (j ∈ Aa), HRG, IA2, ⟨fun j => ?_⟩, HG2⟩
        show decide (j ∈ Aa) = (decide (j ∈ Aa) || (decide (j ∈ l) && !(lv l j).isSome && !(j == d)))
        unfold lv
        rw [setV_isSome]
        show decide (j ∈ Aa) = _
        cases decide (j ∈ Aa) <;> cases decide (j ∈ l) <;> rfl
      case round =>
        clear HRG IA2 HG2
        obtain ⟨left, cnt, m, S, HRG, HM, HS, HG2⟩ := hrel
        go_wp2_with (first
          | (at_next; refine wpList_next_im _ rfl _ rfl b wo.heap.size l.length _ _ _ rfl HRG.out ?_ ?_)
          | go_in)
        · intro hc0 hl0
          have hHB : Below W0.heap.size W0 wr := HWr.out.grown HG2.out HWr.out.size (fun k hk => by cases hk; exact HOa.out)
          have hEq := HEr.out.grown HG2.out (.inl HMa.out)
          have cbC := cell_of_one hEq.hC
          obtain ⟨ad', e101, c_0, c_1, c_2, c_3, c_4, c_5, c_6⟩ := at_T28 (Kd.C_below HC0.out hHB) i hi0 hi
          rw [← HX.out] at c_0 c_1 c_2 c_3 c_4 c_5 c_6
          cases e101
          obtain ⟨us, hus⟩ : ∃ us, us = useQ x := ⟨_, rfl⟩
          obtain ⟨l2, hl2⟩ : ∃ l2, l2 = (l.filter (fun j => !(j == d))).foldl insL Aa := ⟨_, rfl⟩
          have hf2 := foldIns (l.filter (fun j => !(j == d))) Aa PA.out
          rw [← hl2] at hf2
          have P2 := Aside0.mk hf2.1
          have IA3 := HM.out.listed hf2.1 (fun j => by
            rw [HS.out j, hl0 j, Bool.not_false, Bool.and_true, ← Bool.decide_coe (!(j == d)), ← Bool.decide_and, ← Bool.decide_or]
            refine decide_eq_decide.2 ?_
            rw [hf2.2.1 j, List.mem_filter])
          have CU := Aside0.mk (ins_Uses.calls x.f0 x.f1 x.f2 x.f3 x.f4 x.f5 x.f6 us wr (by rw [hus]; rfl) (HGL.out.step hHB))
          have HT3 := Aside0.mk (show us.foldl insL l2 = a1 by rw [HA1.out, hl2, hus, HD.out]; rfl)
          have HUS := Aside0.mk (show us.length ≤ 1000000 by rw [hus]; exact HL.out.2.1)
          have HI3 := Aside0.mk IA3
          have HB3 := Aside0.mk hHB
          have IB3 := Aside0.mk HRG.out.im
          have HE3 := Aside0.mk hEq
          have HG3 := Aside0.mk HG2.out
          have hlt3 := HG2.out.size
          have HSZ := Aside0.mk (Nat.lt_of_lt_of_le IAlt.out hlt3)
          obtain ⟨wp, rfl⟩ : ∃ wp, wp = wr := ⟨_, rfl⟩
          clear HM HS HG2 hHB HRG hEq IA3 hus hl2 hf2 hlt3 hl0
          go_wp2_with fail
          refine CU.out.mono ?_
          rintro e w5 ⟨v5, rfl, hR5, hb5⟩
          obtain ⟨A5, c5, ev⟩ := Kd.R_slice hR5
          subst ev
          have HR5 := Aside0.mk hR5
          have HR5b := Aside0.mk (fun k hk => Nat.lt_of_lt_of_le HSZ.out (Kd.R_base hR5 k hk))
          have HW5 := Aside0.mk (HB3.out.trans (hb5.mono HB3.out.size))
          have HE5 := Aside0.mk (HE3.out.below hb5)
          have IA5 := Aside0.mk (HI3.out.below hb5 HI3.out.lt)
          have IB5 := Aside0.mk (IB3.out.below hb5 IB3.out.lt)
          have HG5 := Aside0.mk (HG3.out.andThen (grown_of_below hb5 (some a)) (fun j hj => .inr hj))
          clear hR5 hb5 CU HB3 HE3 HI3 IB3 HG3 HSZ c_0 c_1 c_2 c_3 c_4 c_5 c_6 cbC
          go_wp2_with fail
          go_loopg [68] us.length (fun kq v68 wr => ∃ (t3 : Nat) (l3 : List Int), v68 = .int .i64 (t3 : Int) ∧ Aside0 (t3 + kq = us.length) ∧ Aside0 ((us.drop t3).foldl insL l3 = a1) ∧ Aside0 (l3.Pairwise (· < ·)) ∧ Aside0 (IM wr a (lv l3) l3.length) ∧ Aside0 (w5.grownBy wr (some a)))
          case atStart => exact ⟨0, l2, rfl, ⟨by omega⟩, HT3, P2, IA5, ⟨World.grownBy.refl _ _⟩⟩
          case round =>
            clear IA5 HT3 P2
            obtain ⟨t3, l3, rfl, HK3, HT3, HP3, HI3, HG3⟩ := hrel
            have ht3 : (0 : Int) ≤ (t3 : Int) := by omega
            have hE6 := HE5.out.grown HG3.out (.inl HMa.out)
            obtain ⟨a', ha', cA⟩ := hE6.atA hi0 hi
            obtain rfl : a = a' := Option.some.inj (Ha.out.symm.trans ha')
            have cbA := cell_of_one hE6.hA
            by_cases hlt3 : (t3 : Int) < (us.length : Int)
            case neg =>
              have hk0 : t3 = us.length := by have := HK3.out; omega
              have he := HT3.out
              rw [hk0, List.drop_length] at he
              obtain rfl : l3 = a1 := he
              obtain ⟨b', hb', cB⟩ := hE6.atB hi0 hi
              obtain rfl : b = b' := Option.some.inj (Hb.out.symm.trans hb')
              have cbB := cell_of_one hE6.hB
              have LA := maplen a _ _ wr HI3.out
              have IB6 := IB5.out.kept HG3.out (fun e => HAB.out (Option.some.inj e).symm)
              have LB := maplen b _ _ wr IB6
              have HIB6 := Aside0.mk IB6
              clear HK3 hk0 HE5 HR5 HR5b hE6 ha' hb' IB6 IB5
              go_wp2_with fail
              go_quiet (fail)
              go_wp2_with fail
              go_ret
              have hG := HG5.out.andThen HG3.out (fun j hj => .inr hj)
              have hl4 := HL.out
              refine ⟨?_, a, b, wo, Ha.out, Hb.out, HI3.out.move rfl, HIB6.out.move rfl, (grown_of_below HWb.out (some b)).andThen HG.out (fun j hj => .inr hj), hG.os, hG.tape, hG.output, hG.size, hG.block⟩
              rw [wrap_in (x := (Aa.length : Int) + (Bb.length : Int)) (by omega) (by omega), wrap_in (x := (l3.length : Int) + (l.length : Int)) (by omega) (by omega)]
              refine congrArg (fun z => Ending.returned (Value.bool z)) (decide_eq_decide.2 ?_)
              omega
            cases gk with
            | zero => exact absurd HK3.out (by omega)
            | succ m3 =>
            obtain ⟨n3, hn3⟩ : ∃ n3, n3 = rd us (t3 : Int) := ⟨_, rfl⟩
            obtain ⟨ad3, en3, hxn3⟩ := Kd.at_int (Kd.R_reads' (Kd.R_grown1 HR5.out rfl HG3.out (fun e => absurd (HR5b.out a e.symm) (by omega)))).2.2 (t3 : Int) ht3 hlt3
            subst en3
            rw [← hn3, Int.toNat_natCast] at hxn3
            have HN3 := Aside0.mk hn3
            have h63 : (t3 : Int) + 1 ≤ 9223372036854775807 := by have := HUS.out; omega
            clear hn3 hE6 ha'
            go_wp2_with (first
              | (at_mapUpdate; refine wpList_update_im _ rfl _ _ _ 102 rfl 3 4 Tryd.underlying102 rfl a l3.length _ rfl HI3.out n3 (.bool true) rfl rfl ?_; intro w6 hout6 hg6 hs6; have HO6 := Aside0.mk hout6; have HG6 := Aside0.mk (HG3.out.andThen hg6 (fun j hj => .inr hj)); clear hout6 hg6 hs6; go_frame)
              | go_in)
            go_roundg m3
            case measure => omega
            case rel =>
              have he := HT3.out
              rw [getD_drop us 0 t3 (by omega), show us.getD t3 0 = n3 by rw [HN3.out]; unfold rd; rw [Int.toNat_natCast]] at he
              have hf := insL_spec n3 l3 HP3.out
              refine ⟨t3 + 1, insL l3 n3, by (try push_cast); (try rfl), ⟨by have := HK3.out; omega⟩, ⟨he⟩, ⟨hf.1⟩, ⟨?_⟩, HG6⟩
              have h6 := HO6.out
              unfold lv at h6
              rw [setV_upd] at h6
              exact h6.listed hf.1 (fun j => by rw [show (j == n3) = decide (j = n3) from rfl, ← Bool.decide_or]; exact decide_eq_decide.2 (hf.2 j).symm)
        · intro q v w3 cnt1 hli hfi hrg1 hlt hg1 hs1 hen
          have hHB : Below W0.heap.size W0 wr := HWr.out.grown HG2.out HWr.out.size (fun k hk => by cases hk; exact HOa.out)
          have HG3 := Aside0.mk (HG2.out.andThen hg1 (fun j hj => by cases hj; exact Or.inl (Nat.le_refl _)))
          have HB3 := Aside0.mk (HWr.out.grown HG3.out HWr.out.size (fun k hk => by cases hk; exact HOa.out))
          have hE3 := HEr.out.grown HG3.out (.inl HMa.out)
          have HM3 := Aside0.mk (HM.out.kept hg1 (fun e => by have := Option.some.inj e; have := IAlt.out; omega))
          have HRG3 := Aside0.mk hrg1
          have HRG0 := Aside0.mk HRG.out
          obtain ⟨ad', e101, c_0, c_1, c_2, c_3, c_4, c_5, c_6⟩ := at_T28 (Kd.C_below HC0.out HB3.out) i hi0 hi
          rw [← HX.out] at c_0 c_1 c_2 c_3 c_4 c_5 c_6
          have cbC := cell_of_one hE3.hC
          cases e101
          have CD := Aside0.mk (ins_Def.calls x.f0 x.f1 x.f2 x.f3 x.f4 x.f5 x.f6 d w3 (by rw [HD.out]; rfl) (HGL.out.step HB3.out))
          have HQ := Aside0.mk hfi
          have HLT := Aside0.mk hlt
          have HLI := Aside0.mk hli
          have HE3 := Aside0.mk hE3
          clear hfi hlt hli hHB HM HRG hrg1 hg1 hs1 hE3
          go_wp2_with fail
          refine CD.out.mono ?_
          rintro e w4 ⟨rfl, hb4⟩
          have HB4 := Aside0.mk (HB3.out.trans (hb4.mono HB3.out.size))
          have HRG4 := Aside0.mk (HRG3.out.move (hb4.block b HRG3.out.im.lt) (hb4.block wo.heap.size HRG3.out.lt))
          have HM4 := Aside0.mk (HM3.out.below hb4 HM3.out.lt)
          have HE4 := HE3.out.below hb4
          have HG4 := Aside0.mk (HG3.out.andThen (grown_of_below hb4 (some a)) (fun j hj => .inr hj))
          have hv : q ∈ l := by
            have := HQ.out
            unfold lv setV at this
            by_cases hS : q ∈ l
            · exact hS
            · simp [hS] at this
          have HIN := Aside0.mk hv
          have HMS := Aside0.mk (show wr.rangeLeft b wo.heap.size = cnt from HRG0.out.left_eq)
          by_cases hqd : q = d
          · have hqd' : (q == d) = true := by simp [hqd]
            have HQD := Aside0.mk hqd
            have HQD' := Aside0.mk hqd'
            clear hb4 hv HRG3 HM3 HG3 HE3 HB3 hqd'
            go_wp2_with fail
            go_roundw
            case measure => rw [HRG4.out.left_eq, HMS.out]; exact HLT.out
            case rel =>
              refine ⟨_, cnt1, m, S, HRG4, HM4, ⟨fun j => ?_⟩, HG4⟩
              rw [HS.out j]
              by_cases hjq : j = q
              · rw [hjq, HQD'.out, Bool.not_true, Bool.and_false, Bool.and_false]
              · rw [show (j == q) = false by simpa using hjq, Bool.not_false, Bool.and_true]
          · have hqd' : (q == d) = false := by simp [hqd]
            obtain ⟨a', ha', cA⟩ := HE4.atA hi0 hi
            obtain rfl : a = a' := Option.some.inj (Ha.out.symm.trans ha')
            have cbA := cell_of_one HE4.hA
            have HQD := Aside0.mk hqd'
            clear hb4 hv HRG3 HM3 HG3 HE3 HB3 HE4 ha' hqd'
            go_wp2_with (first
              | (at_mapUpdate; refine wpList_update_im _ rfl _ _ _ 102 rfl 3 4 Tryd.underlying102 rfl a m _ rfl HM4.out q (.bool true) rfl rfl ?_; intro w6 hout6 hg6 hs6; have HO6 := Aside0.mk hout6; have HG6 := Aside0.mk hg6; clear hout6 hg6 hs6; go_frame)
              | go_in)
            have HRG6 := Aside0.mk (HRG4.out.kept HG6.out (fun e => HAB.out (Option.some.inj e).symm) (fun e => by have := Option.some.inj e; have := IAlt.out; omega))
            go_roundw
            case measure => rw [HRG6.out.left_eq, HMS.out]; exact HLT.out
            case rel =>
              have h6 := HO6.out
              rw [setV_upd] at h6
              refine ⟨_, cnt1, _, _, HRG6, ⟨h6⟩, ⟨fun j => ?_⟩, ⟨HG4.out.andThen HG6.out (fun j hj => .inr hj)⟩⟩
              show (S j || j == q) = _
              rw [HS.out j]
              by_cases hjq : j = q
              · rw [hjq, HQD.out, show (q == q) = true by simp, show decide (q ∈ l) = true from decide_eq_true HIN.out]
                simp
              · rw [show (j == q) = false by simpa using hjq, Bool.not_false, Bool.and_true, Bool.or_false]
    cases gk with
    | zero => exact absurd HK.out (by omega)
    | succ m1 =>
    obtain ⟨n, hn⟩ : ∃ n, n = rd ns (t : Int) := ⟨_, rfl⟩
    have hnin := HNS.out n (by rw [hn]; unfold rd; rw [Int.toNat_natCast, List.getD_eq_getElem?_getD, List.getElem?_eq_getElem (by omega)]; exact List.getElem_mem _)
    obtain ⟨an, han, cAn⟩ := hEr.atA hnin.1 hnin.2
    have hman := List.mem_of_getElem? han
    have hanb := HE1.out.apart hman HMb.out
    have IAn := Aside0.mk ((HMA1.out _ _ han).kept HG.out (fun e => hanb (Option.some.inj e)))
    obtain ⟨adn, en, hxn⟩ := Kd.at_int (Kd.R_reads' (Kd.R_grown1 HR.out rfl HG.out (fun e => absurd (HRb.out b e.symm) (by omega)))).2.2 (t : Int) ht0 hlt
    subst en
    rw [← hn, Int.toNat_natCast] at hxn
    obtain ⟨hn0, hn1⟩ := hnin
    have HN := Aside0.mk hn
    have HANB := Aside0.mk hanb
    have h63 : (t : Int) + 1 ≤ 9223372036854775807 := by have := HL.out.1; omega
    clear hn hEr hb' han hman hanb
    go_wp2_with fail
    go_still_tail 8, (by kernel_rfl)
    have CM := Aside0.mk (mapCopy.calls b an _ _ (fun j => decide (j ∈ l)) (fun j => decide (j ∈ A.getD n.toNat [])) wr.drew (HI.out.move rfl) (IAn.out.move rfl) (fun e => HANB.out e.symm))
    have HG0 := Aside0.mk (show w1.grownBy wr.drew (some b) from ⟨HG.out.os, HG.out.tape, HG.out.output, HG.out.size, HG.out.block⟩)
    clear HG HI IAn cbA cbB cbC cB cAn hxn
    go_wp2_with fail
    refine CM.out.mono ?_
    rintro e w3 ⟨⟨v3, rfl⟩, ⟨m3, hm3⟩, hg3⟩
    have HM3 := Aside0.mk hm3
    have HG3 := Aside0.mk (HG0.out.andThen hg3 (fun j hj => .inr hj))
    clear hm3 hg3 CM HG0
    go_wp2_with fail
    go_roundg m1
    case measure => omega
    case rel =>
      have he := HT.out
      rw [getD_drop ns 0 t (by omega), show ns.getD t 0 = n by rw [HN.out]; unfold rd; rw [Int.toNat_natCast]] at he
      have hf := foldIns (A.getD n.toNat []) l HP.out
      exact ⟨t + 1, (A.getD n.toNat []).foldl insL l, by (try push_cast); (try rfl), ⟨by have := HK.out; omega⟩, ⟨he⟩, ⟨hf.1⟩, ⟨HM3.out.listed hf.1 (fun j => by rw [← Bool.decide_or]; exact decide_eq_decide.2 (hf.2.1 j).symm)⟩, HG3⟩
end Go.Proofs.YtdopacgaklaaeaaDoor.PDeadRuns
