-- HAND paling/palingref14.Preds rounds=1 making=1 needs=paling/palingref14.Reach;paling/palingref14.Next
import Derived.Test.YtoncneglplglhaaDoorPGraphReachesx0
import Derived.Test.YtoncneglplglhaaDoorPGraphReachesx4
import Derived.Test.YtoncneglplglhaaDoorPGraphReachesx5
import Derived.Test.YtoncneglplglhaaDoorPGraphReacheshway
import Derived.OneCell
namespace Go.Proofs.YtoncneglplglhaaDoor.PGraphReaches
open Go.RowKit Go.Proofs.YtoncneglplglhaaDoorW.PrintWords Go.Proofs.YtoncneglplglhaaDoorW.PrintLast Go.Proofs.YtoncneglplglhaaDoorW.PrintMore
set_option linter.unusedVariables false
set_option linter.unusedSimpArgs false
/-! palingref14.Preds: from where each place can be come to, as the document has it. -/
def addOne (P : List (List Int)) (j a : Int) : List (List Int) := P.set j.toNat (P.getD j.toNat [] ++ [a])
def addAllR (P : List (List Int)) (js : List Int) (a : Int) : List (List Int) := js.foldl (fun P j => addOne P j a) P
def palingref14_Preds.l (k : Nat) (l : List S37) (r : List Bool) : Nat → Nat → List (List Int) → Option (List (List Int))
  | 0, _, P => some P
  | m + 1, i, P => (palingref14_Next.f k l (i : Int)).bind fun js => if js.length ≤ 1000000 ∧ (∀ j ∈ js, 0 ≤ j ∧ j < (l.length : Int)) ∧ (∀ r ∈ P, r.length ≤ 1000000) then palingref14_Preds.l k l r m (i + 1) (if rdOf false r (i : Int) = true then addAllR P js (i : Int) else P) else none
def palingref14_Preds.f (k : Nat) (l : List S37) : Option (List (List Int)) :=
  if l.length ≤ 1000000 then (palingref14_Reach.f k l).bind fun r => if r.length = l.length then palingref14_Preds.l k l r l.length 0 (List.replicate l.length []) else none else none
theorem palingref14_Preds.l_mono (k : Nat) (l : List S37) (r : List Bool) : ∀ m i P, LeO (palingref14_Preds.l k l r m i P) (palingref14_Preds.l (k + 1) l r m i P)
  | 0, _, _, _, h => h
  | m + 1, i, P, x, h => by
    rw [palingref14_Preds.l] at h ⊢
    obtain ⟨js, e1, h⟩ := Option.bind_eq_some_iff.1 h
    refine Option.bind_eq_some_iff.2 ⟨js, palingref14_Next.mono _ _ _ _ e1, ?_⟩
    by_cases hc : js.length ≤ 1000000 ∧ (∀ j ∈ js, 0 ≤ j ∧ j < (l.length : Int)) ∧ (∀ r ∈ P, r.length ≤ 1000000)
    · rw [if_pos hc] at h ⊢; exact palingref14_Preds.l_mono k l r m _ _ x h
    · rw [if_neg hc] at h; exact absurd h (by simp)
theorem palingref14_Preds.mono : ∀ a0 k, LeO (palingref14_Preds.f k a0) (palingref14_Preds.f (k + 1) a0) := fun a0 k x h => by
  unfold palingref14_Preds.f at h ⊢
  by_cases h1 : a0.length ≤ 1000000
  · rw [if_pos h1] at h ⊢
    obtain ⟨r, e1, h⟩ := Option.bind_eq_some_iff.1 h
    refine Option.bind_eq_some_iff.2 ⟨r, palingref14_Reach.mono _ _ _ e1, ?_⟩
    by_cases h2 : r.length = a0.length
    · rw [if_pos h2] at h ⊢; exact palingref14_Preds.l_mono k a0 r _ _ _ x h
    · rw [if_neg h2] at h; exact absurd h (by simp)
  · rw [if_neg h1] at h; exact absurd h (by simp)
theorem info34p : (Tryd.prog.info? 34).map (fun i => (i.zero, i.size, i.bytes)) = some (some (.slice none 0 0), 1, 24) := by kernel_rfl
theorem info3p : (Tryd.prog.info? 3).map (fun i => (i.zero, i.size, i.bytes)) = some (some (.int .i64 0), 1, 8) := by kernel_rfl
theorem cell_allocp {w : World} {o : Obj} {a : Addr} {v : Value} (h : w.cell? a = some v) : (w.alloc o).cell? a = some v := pw_cell_below ((Below.refl _ _).alloc (Nat.le_refl _) _) h
theorem cell_grownp {w w1 : World} {row : Option Nat} {a : Addr} {v : Value} (hg : w.grownBy w1 row) (hne : some a.block ≠ row) (h : w.cell? a = some v) : w1.cell? a = some v := (hg.cell_far a (World.block_lt_of_cell? w _ h) hne).trans h
theorem drop_cons' {α : Type} (l : List α) (z : α) (i : Nat) (h : i < l.length) : l.drop i = l.getD i z :: l.drop (i + 1) := by
  rw [List.drop_eq_getElem_cons h]
  congr 1
  simp [h]
theorem addOne_len (P : List (List Int)) (j a : Int) : (addOne P j a).length = P.length := by unfold addOne; simp
theorem addAllR_len : ∀ (js : List Int) (P : List (List Int)) (a : Int), (addAllR P js a).length = P.length
  | [], P, a => rfl
  | j :: js, P, a => by
    have := addAllR_len js (addOne P j a) a
    rw [addOne_len] at this
    exact this
set_option maxHeartbeats 8000000 in
set_option maxRecDepth 100000 in
theorem palingref14_Preds.calls (k : Nat) (A0 : Option Addr) (c0 : Nat) (l0 : List S37) (r : List (List Int)) (w : World) (hr0 : Kd.C k37 w A0 l0.length l0) (hc0 : l0.length ≤ c0) (h : palingref14_Preds.f k l0 = some r) :
    Calls Tryd.prog 13 #[.slice A0 l0.length c0] w fun e w' => ∃ v0_ : Value, e = .returned (v0_) ∧ Kd.S (Kd.slice 3 (Kd.int .i64)) 34 w' w.heap.size (fun _ => True) v0_ r ∧ Below w.heap.size w w' := by
  unfold palingref14_Preds.f at h
  by_cases hn : l0.length ≤ 1000000
  case neg => rw [if_neg hn] at h; exact absurd h (by simp)
  rw [if_pos hn] at h
  replace h := Option.bind_eq_some_iff.1 h
  obtain ⟨re, e1, h⟩ := h
  by_cases hrl : re.length = l0.length
  case neg => rw [if_neg hrl] at h; exact absurd h (by simp)
  rw [if_pos hrl] at h
  have HE0 := Aside0.mk h
  have HRL := Aside0.mk hrl
  have HN := Aside0.mk hn
  have RC := Aside0.mk (fun W (hb : Below w.heap.size w W) => palingref14_Reach.calls k A0 c0 l0 re W (Kd.C_below hr0 hb) hc0 e1)
  have NX := Aside0.mk (fun W (hb : Below w.heap.size w W) i js hj => palingref14_Next.calls k A0 c0 l0 i js W (Kd.C_below hr0 hb) hc0 hj)
  have hn0 : (0 : Int) ≤ (l0.length : Int) := by omega
  clear hr0 hc0 h e1 hn hrl
  go_enter Tryd.func13, Tryd.ntmps13
  go_wp2_with (first
    | ((with_reducible refine gate_dst (N := 10) rfl ?_); refine Kd.S_make (Kd.slice 3 (Kd.int .i64)) _ 34 rfl (N := 10) rfl 28 _ _ rfl (l0.length : Int) rfl rfl Tryd.underlying28 (.slice none 0 0) 24 info34p rfl (by decide) (by omega) [] (ok := fun _ => True) (okp := fun _ => True) ⟨_, rfl, Kd.R_nil _ _ _ _ _⟩ (fun _ hk => hk) trivial hn0 (by have := HN.out; simp; omega) (Below.refl _ _) (Nat.le_refl _) ?_; intro v3 w1 ho8 hb hg_ hnew_; clear hg_ hnew_; have HO := Aside0.mk ho8; have HB := Aside0.mk hb; clear ho8 hb)
    | (go_at_call 10; (with_reducible refine (RC.out _ HB.out).mono ?_); rintro e w2 ⟨v12, rfl, hS, hb⟩; have HO2 := Aside0.mk (Kd.S_below HO.out hb); have HR := Aside0.mk (Kd.R_lower hS HB.out.size); have HB2 := Aside0.mk (below_step HB.out hb); clear hS hb RC HO HB; obtain ⟨Ar, cr, er⟩ := Kd.R_slice HR.out; subst er))
  simp only [Int.toNat_natCast] at HO2
  go_loopg [5] l0.length (fun kq v5 wr => ∃ (i : Nat) (P : List (List Int)), v5 = .int .i64 (i : Int) ∧ Aside0 (i + kq = l0.length) ∧ Aside0 (palingref14_Preds.l k l0 re kq i P = some r) ∧ Aside0 (P.length = l0.length) ∧ Aside0 (Kd.S (Kd.slice 3 (Kd.int .i64)) 34 wr w.heap.size (fun _ => True) v3 P) ∧ Aside0 (Kd.R Kd.bool 4 wr w.heap.size (fun _ => True) (.slice Ar re.length cr) re) ∧ Aside0 (Below w.heap.size w wr))
  case atStart => exact ⟨0, List.replicate l0.length [], rfl, ⟨by omega⟩, HE0, ⟨by simp⟩, HO2, HR, HB2⟩
  case round =>
    clear HO2 HR HB2 HE0
    obtain ⟨i, P, rfl, HK, HE, HPL, HO, HR, HB⟩ := hrel
    have hi0 : (0 : Int) ≤ (i : Int) := by omega
    by_cases hlt : (i : Int) < (l0.length : Int)
    case neg =>
      have hk0 : gk = 0 := by have := HK.out; omega
      have he := HE.out
      rw [hk0, palingref14_Preds.l] at he
      obtain rfl : P = r := Option.some.inj he
      clear HE HK hk0
      go_wp2_with fail
      go_ret
      exact ⟨_, rfl, HO.out, HB.out⟩
    cases gk with
    | zero => exact absurd HK.out (by omega)
    | succ m1 =>
    have he := HE.out
    rw [palingref14_Preds.l] at he
    replace he := Option.bind_eq_some_iff.1 he
    obtain ⟨js, e2, he⟩ := he
    by_cases hc : js.length ≤ 1000000 ∧ (∀ j ∈ js, 0 ≤ j ∧ j < (l0.length : Int)) ∧ (∀ r ∈ P, r.length ≤ 1000000)
    case neg => rw [if_neg hc] at he; exact absurd he (by simp)
    rw [if_pos hc] at he
    have HC := Aside0.mk hc
    have HE1 := Aside0.mk he
    have NC := Aside0.mk (NX.out _ HB.out (i : Int) js e2)
    have h63 : (i : Int) + 1 ≤ 9223372036854775807 := by have := HN.out; omega
    clear hc he e2 HE
    go_wp2_with (go_at_call 25; (with_reducible refine NC.out.mono ?_); rintro e w15 ⟨v6, rfl, ho0, hb⟩; have n0_ := Aside0.mk (Kd.S_mono (Kd.S_elder' HO.out (Kd.R_base ho0) hb) (ok' := fun k_ => some k_ ≠ (v6 : Value).ownBlock) (fun _ hk => hk.2)); have n1_ := Aside0.mk (Kd.R_below HR.out hb); have n2_ := Aside0.mk (Kd.R_lower ho0 HB.out.size); have n3_ := Aside0.mk (below_step HB.out hb); clear HO HR HB ho0 hb NC; obtain ⟨An, cn, en⟩ := Kd.R_slice n2_.out; subst en)
    go_loopg [7] js.length (fun kq v7 wr => ∃ (m : Nat) (Q : List (List Int)), v7 = .int .i64 (m : Int) ∧ Aside0 (m + kq = js.length) ∧ Aside0 ((if rdOf false re (i : Int) = true then addAllR Q (js.drop m) (i : Int) else Q) = (if rdOf false re (i : Int) = true then addAllR P js (i : Int) else P)) ∧ Aside0 (Q.length = l0.length ∧ ∀ r ∈ Q, r.length ≤ 1000000 + m) ∧ Aside0 (Kd.S (Kd.slice 3 (Kd.int .i64)) 34 wr w.heap.size (fun k_ => some k_ ≠ (.slice An js.length cn : Value).ownBlock) v3 Q) ∧ Aside0 (Kd.R Kd.bool 4 wr w.heap.size (fun _ => True) (.slice Ar re.length cr) re) ∧ Aside0 (Kd.R (Kd.int .i64) 3 wr w.heap.size (fun _ => True) (.slice An js.length cn) js) ∧ Aside0 (Below w.heap.size w wr))
    case atStart => exact ⟨0, P, rfl, ⟨by omega⟩, ⟨rfl⟩, ⟨HPL.out, fun r hr => by have := HC.out.2.2 r hr; omega⟩, n0_, n1_, n2_, n3_⟩
    case round =>
      clear n0_ n1_ n2_ n3_
      obtain ⟨m, Q, rfl, HK2, HT, HQ, HO, HR, HNX, HB⟩ := hrel
      have hm0 : (0 : Int) ≤ (m : Int) := by omega
      have hrn : (i : Int) < (re.length : Int) := by rw [HRL.out]; exact hlt
      obtain ⟨adr, er, hxr⟩ := Kd.at_bool (Kd.R_reads' HR.out).2.2 (i : Int) hi0 hrn
      subst er
      have leave : (if rdOf false re (i : Int) = true then addAllR P js (i : Int) else P) = Q → ∀ W, Kd.S (Kd.slice 3 (Kd.int .i64)) 34 W w.heap.size (fun k_ => some k_ ≠ (.slice An js.length cn : Value).ownBlock) v3 Q → Kd.R Kd.bool 4 W w.heap.size (fun _ => True) (.slice (some adr) re.length cr) re → Below w.heap.size w W → ∃ (i' : Nat) (P : List (List Int)), (.int .i64 ((i : Int) + 1) : Value) = .int .i64 (i' : Int) ∧ Aside0 (i' + m1 = l0.length) ∧ Aside0 (palingref14_Preds.l k l0 re m1 i' P = some r) ∧ Aside0 (P.length = l0.length) ∧ Aside0 (Kd.S (Kd.slice 3 (Kd.int .i64)) 34 W w.heap.size (fun _ => True) v3 P) ∧ Aside0 (Kd.R Kd.bool 4 W w.heap.size (fun _ => True) (.slice (some adr) re.length cr) re) ∧ Aside0 (Below w.heap.size w W) := fun e W a b c => by
        refine ⟨i + 1, Q, by push_cast; rfl, ⟨by have := HK.out; omega⟩, ⟨?_⟩, ⟨HQ.out.1⟩, ⟨Kd.S_mono a (fun _ _ => trivial)⟩, ⟨b⟩, ⟨c⟩⟩
        have := HE1.out
        rw [e] at this
        exact this
      have LEAVE := Aside0.mk leave
      clear leave
      by_cases hlt2 : (m : Int) < (js.length : Int)
      case neg =>
        have hmm : m = js.length := by have := HK2.out; omega
        have ht : (if rdOf false re (i : Int) = true then addAllR P js (i : Int) else P) = Q := by
          rw [← HT.out, hmm, List.drop_length]
          split <;> rfl
        have LV := Aside0.mk (LEAVE.out ht wr HO.out HR.out HB.out)
        clear LEAVE ht hmm HT HE1
        go_wp2_with fail
        go_roundg m1
        case measure => omega
        case rel => exact LV.out
      have hrat : rdOf false re (i : Int) = at_ re (i : Int) := rfl
      rw [hrat, Int.toNat_natCast] at hxr
      by_cases hrb : at_ re (i : Int) = true
      case neg =>
        have hrf : at_ re (i : Int) = false := by simpa using hrb
        have ht : (if rdOf false re (i : Int) = true then addAllR P js (i : Int) else P) = Q := by
          rw [← HT.out, hrat, if_neg hrb]
        have LV := Aside0.mk (LEAVE.out ht wr HO.out HR.out HB.out)
        rw [hrf] at hxr
        clear LEAVE ht HT HE1 hrat hrb hrf
        go_wp2_with fail
        go_roundg m1
        case measure => omega
        case rel => exact LV.out
      rw [hrb] at hxr
      have HRB := Aside0.mk hrb
      cases gk with
      | zero => exact absurd HK2.out (by omega)
      | succ m2 =>
      obtain ⟨j, hj⟩ : ∃ j, j = js.getD m 0 := ⟨_, rfl⟩
      have hjin : 0 ≤ j ∧ j < (l0.length : Int) := by
        have hml : m < js.length := by omega
        rw [hj, List.getD_eq_getElem?_getD, List.getElem?_eq_getElem hml]
        exact HC.out.2.1 _ (List.getElem_mem hml)
      have ht := HT.out
      rw [hrat, if_pos hrb, if_pos hrb, drop_cons' js 0 m (by omega), ← hj] at ht
      have HT2 := Aside0.mk ht
      obtain ⟨gn, capn, evn, _, _, _, _⟩ := Kd.R_form HNX.out (by omega)
      injection evn with ea en ec
      subst ea ec
      clear en
      obtain ⟨c1, _⟩ := Kd.R_celln 0 HNX.out (m : Int) hm0 hlt2
      rw [show rdOf 0 js (m : Int) = j from hj.symm, Int.toNat_natCast] at c1
      have hql := HQ.out.1
      have hj0 := hjin.1
      have hjq : j < (Q.length : Int) := by rw [hql]; exact hjin.2
      obtain ⟨g, cap, ev, hgb, _, _, _⟩ := Kd.S_form HO.out (by omega)
      subst ev
      obtain ⟨oki, ce, _, hM, hcc, hfr, hoki, hH⟩ := Kd.S_elem HO.out [] j hj0 hjq
      obtain ⟨ve, rfl, ge⟩ := hM
      obtain ⟨row, hrow⟩ : ∃ row, row = Q.getD j.toNat [] := ⟨_, rfl⟩
      rw [← hrow] at ge
      obtain ⟨A1, cc1, ev⟩ := Kd.R_slice ge
      subst ev
      have c2 : wr.cell? ⟨g, j.toNat, none⟩ = some (.slice A1 row.length cc1) := by
        have := hcc 0 _ rfl
        rwa [Nat.add_zero, show (Kd.slice 3 (Kd.int .i64)).sz = 1 from rfl, Nat.mul_one] at this
      have n1 : some gn ≠ (.slice A1 row.length cc1 : Value).ownBlock := fun he => (hoki _ (ge.1 gn he.symm)).1 (by simp [Value.ownBlock])
      have n2 : some g ≠ (.slice A1 row.length cc1 : Value).ownBlock := fun he => (hoki _ (ge.1 g he.symm)).2 rfl
      have hrowl : row.length ≤ 2000000 := by
        have hjl : j.toNat < Q.length := by omega
        have := HQ.out.2 row (by rw [hrow, List.getD_eq_getElem?_getD, List.getElem?_eq_getElem hjl]; exact List.getElem_mem hjl)
        have := HC.out.1
        omega
      obtain ⟨y, hy⟩ : ∃ y, y = row ++ [(i : Int)] := ⟨_, rfl⟩
      have HY := Aside0.mk hy
      clear hy
      have HROWL := Aside0.mk hrowl
      have HROW := Aside0.mk hrow
      have GE := Aside0.mk ge
      have HH := Aside0.mk hH
      have HOKI := Aside0.mk hoki
      have HGB := Aside0.mk hgb
      have HQL := Aside0.mk hql
      have h63b : (m : Int) + 1 ≤ 9223372036854775807 := by have := HC.out.1; omega
      clear hcc hfr hH ge hoki hrow hrowl hrat hrb ht hj HT LEAVE hgb hql hjin
      go_wp2_with fail
      refine start_ (n := 17) (S := (fun W => W.cell? ⟨gn, m, none⟩ = some (.int .i64 j) ∧ W.cell? ⟨g, j.toNat, none⟩ = some (.slice A1 row.length cc1))) (ds := [16]) #[false, false, false, false, false, false, false, false, false, false, false, false, false, false, false, false, false] (by kernel_rfl) rfl rfl (⟨c1, c2⟩) (fun hHeld => ?_)
      refine pure_ (i := 0) (N := (some 34)) (v := ?_) (a' := ?_) #[true, false, false, false, false, false, false, false, false, false, false, false, false, false, false, false, false] rfl rfl (by kernel_rfl) (fun _ _ _ h => h) (Or.inl ⟨by rfl, ?_⟩) ?_ ?_
      rotate_left
      · intro w_
        go_simp
        with_reducible rfl
      rotate_left
      · simp only [Act.put, List.setIfInBounds_toArray, List.set_cons_zero, List.set_cons_succ, i64_w, i32_w]
        rfl
      refine pure_ (i := 1) (N := (some 35)) (v := ?_) (a' := ?_) #[true, true, false, false, false, false, false, false, false, false, false, false, false, false, false, false, false] rfl rfl (by kernel_rfl) (fun _ _ _ h => h) (Or.inl ⟨by rfl, ?_⟩) ?_ ?_
      rotate_left
      · intro w_
        go_simp
        with_reducible rfl
      rotate_left
      · simp only [Act.put, List.setIfInBounds_toArray, List.set_cons_zero, List.set_cons_succ, i64_w, i32_w]
        rfl
      refine pure_ (i := 2) (N := (some 36)) (v := ?_) (a' := ?_) #[true, true, true, false, false, false, false, false, false, false, false, false, false, false, false, false, false] rfl rfl (by kernel_rfl) (fun _ _ _ h => h) (Or.inl ⟨by rfl, ?_⟩) ?_ ?_
      rotate_left
      · intro w_
        go_simp
        with_reducible rfl
      rotate_left
      · simp only [Act.put, List.setIfInBounds_toArray, List.set_cons_zero, List.set_cons_succ, i64_w, i32_w]
        rfl
      refine pure_ (i := 3) (N := (some 37)) (v := ?_) (a' := ?_) #[true, true, true, true, false, false, false, false, false, false, false, false, false, false, false, false, false] rfl rfl (by kernel_rfl) (fun _ _ _ h => h) (Or.inl ⟨by rfl, ?_⟩) ?_ ?_
      rotate_left
      · intro w_
        go_simp
        with_reducible rfl
      rotate_left
      · simp only [Act.put, List.setIfInBounds_toArray, List.set_cons_zero, List.set_cons_succ, i64_w, i32_w]
        rfl
      refine take_ (i := 4) (N := (some 38)) (v := ?_) (a' := ?_) #[true, true, true, true, true, false, false, false, false, false, false, false, false, false, false, false, false] rfl rfl (by kernel_rfl) (fun _ _ _ h => h) (Or.inl ⟨by rfl, ?_⟩) hHeld ?_ ?_
      rotate_left
      · rintro w_ ⟨s0, s1⟩
        go_simp
        with_reducible rfl
      rotate_left
      · simp only [Act.put, List.setIfInBounds_toArray, List.set_cons_zero, List.set_cons_succ, i64_w, i32_w]
        rfl
      refine pure_ (i := 5) (N := (some 39)) (v := ?_) (a' := ?_) #[true, true, true, true, true, true, false, false, false, false, false, false, false, false, false, false, false] rfl rfl (by kernel_rfl) (fun _ _ _ h => h) (Or.inl ⟨by rfl, ?_⟩) ?_ ?_
      rotate_left
      · intro w_
        go_simp
        with_reducible rfl
      rotate_left
      · simp only [Act.put, List.setIfInBounds_toArray, List.set_cons_zero, List.set_cons_succ, i64_w, i32_w]
        rfl
      refine pure_ (i := 6) (N := (some 40)) (v := ?_) (a' := ?_) #[true, true, true, true, true, true, true, false, false, false, false, false, false, false, false, false, false] rfl rfl (by kernel_rfl) (fun _ _ _ h => h) (Or.inl ⟨by rfl, ?_⟩) ?_ ?_
      rotate_left
      · intro w_
        go_simp
        with_reducible rfl
      rotate_left
      · simp only [Act.put, List.setIfInBounds_toArray, List.set_cons_zero, List.set_cons_succ, i64_w, i32_w]
        rfl
      refine pure_ (i := 7) (N := (some 41)) (v := ?_) (a' := ?_) #[true, true, true, true, true, true, true, true, false, false, false, false, false, false, false, false, false] rfl rfl (by kernel_rfl) (fun _ _ _ h => h) (Or.inl ⟨by rfl, ?_⟩) ?_ ?_
      rotate_left
      · intro w_
        go_simp
        with_reducible rfl
      rotate_left
      · simp only [Act.put, List.setIfInBounds_toArray, List.set_cons_zero, List.set_cons_succ, i64_w, i32_w]
        rfl
      refine pure_ (i := 8) (N := (some 42)) (v := ?_) (a' := ?_) #[true, true, true, true, true, true, true, true, true, false, false, false, false, false, false, false, false] rfl rfl (by kernel_rfl) (fun _ _ _ h => h) (Or.inl ⟨by rfl, ?_⟩) ?_ ?_
      rotate_left
      · intro w_
        go_simp
        with_reducible rfl
      rotate_left
      · simp only [Act.put, List.setIfInBounds_toArray, List.set_cons_zero, List.set_cons_succ, i64_w, i32_w]
        rfl
      refine take_ (i := 9) (N := (some 43)) (v := ?_) (a' := ?_) #[true, true, true, true, true, true, true, true, true, true, false, false, false, false, false, false, false] rfl rfl (by kernel_rfl) (fun _ _ _ h => h) (Or.inl ⟨by rfl, ?_⟩) hHeld ?_ ?_
      rotate_left
      · rintro w_ ⟨s0, s1⟩
        go_simp
        with_reducible rfl
      rotate_left
      · simp only [Act.put, List.setIfInBounds_toArray, List.set_cons_zero, List.set_cons_succ, i64_w, i32_w]
        rfl
      refine pure_ (i := 10) (N := (some 44)) (v := ?_) (a' := ?_) #[true, true, true, true, true, true, true, true, true, true, true, false, false, false, false, false, false] rfl rfl (by kernel_rfl) (fun _ _ _ h => h) (Or.inl ⟨by rfl, ?_⟩) ?_ ?_
      rotate_left
      · intro w_
        go_simp
        with_reducible rfl
      rotate_left
      · simp only [Act.put, List.setIfInBounds_toArray, List.set_cons_zero, List.set_cons_succ, i64_w, i32_w]
        rfl
      refine take_ (i := 11) (N := (some 45)) (v := ?_) (a' := ?_) #[true, true, true, true, true, true, true, true, true, true, true, true, false, false, false, false, false] rfl rfl (by kernel_rfl) (fun _ _ _ h => h) (Or.inl ⟨by rfl, ?_⟩) hHeld ?_ ?_
      rotate_left
      · rintro w_ ⟨s0, s1⟩
        go_simp
        with_reducible rfl
      rotate_left
      · simp only [Act.put, List.setIfInBounds_toArray, List.set_cons_zero, List.set_cons_succ, i64_w, i32_w]
        rfl
      refine pure_ (i := 12) (N := (some 46)) (v := ?_) (a' := ?_) #[true, true, true, true, true, true, true, true, true, true, true, true, true, false, false, false, false] rfl rfl (by kernel_rfl) (fun _ _ _ h => h) (Or.inl ⟨by rfl, ?_⟩) ?_ ?_
      rotate_left
      · intro w_
        go_simp
        with_reducible rfl
      rotate_left
      · simp only [Act.put, List.setIfInBounds_toArray, List.set_cons_zero, List.set_cons_succ, i64_w, i32_w]
        rfl
      refine one_ (i := 13) (N := (some 47)) #[true, true, true, true, true, true, true, true, true, true, true, true, true, true, false, false, false] rfl rfl (by kernel_rfl) (by decide) (fun K hK => ?_)
      refine value_ (w1 := ?_) (v := ?_) (by rfl) rfl ?_ ?_
      rotate_left 2
      · go_simp
        constructor
        · rfl
        · rfl
      refine hK.out _ _ (⟨cell_allocp c1, cell_allocp c2⟩) (fun hHeld => ?_)
      clear hK K
      refine norm_ (a' := ?_) ?_ ?_
      rotate_left
      · show Act.put _ (some 47) _ = _
        simp only [Act.put, List.setIfInBounds_toArray, List.set_cons_zero, List.set_cons_succ, i64_w, i32_w]
        rfl
      refine one_ (i := 14) (N := (some 48)) #[true, true, true, true, true, true, true, true, true, true, true, true, true, true, true, false, false] rfl rfl (by kernel_rfl) (by decide) (fun K hK => ?_)
      refine Kd.R_append_step (Kd.int .i64) (w0 := w) (W := wr.drew) w.heap.size (by rfl) (.tmp 45) (.tmp 47) 34 3 (.int .i64 0) 8 rfl Tryd.underlying34 info3p rfl (by decide) (by omega) (.slice A1 row.length cc1) row (i : Int) [.int .i64 (i : Int)] (fun k_ => oki k_ ∨ some k_ ≠ (.slice (some ⟨gn, 0, none⟩) js.length cn : Value).ownBlock ∧ wr.heap.size ≤ k_) (fun _ => False) (by rfl) (by rfl) rfl (fun _ hk => hk.elim) (fun k_ hk => .inr ⟨Kd.fresh' (Kd.R_lt (Kd.R_drew HNX.out)) k_ hk, hk⟩) (Kd.R_drew (Kd.R_mono GE.out (fun _ hk => .inl hk))) (below_drew HB.out) (below_size (below_drew HB.out)) (by have := HROWL.out; omega) ?_
      intro v1 w1 ho hb hG hA
      rw [← HY.out] at ho
      obtain ⟨A9, c9, e9⟩ := Kd.R_slice ho
      subst e9
      have HH' := Kd.H_grown (Kd.H_widen (Kd.H_drew HH.out)) hG (fun k_ e_ => .inl (GE.out.1 k_ e_))
      have yc : w1.cell? ⟨g, j.toNat, none⟩ = some (.slice A1 row.length cc1) := cell_grownp hG n2 c2
      have gf : w1.frozen? ⟨g, j.toNat, none⟩ = false := (by have := (Kd.H_at HH' hj0 hjq).2 0; rwa [Nat.add_zero, show (Kd.slice 3 (Kd.int .i64)).sz = 1 from rfl, Nat.mul_one] at this)
      refine hK.out _ _ (⟨cell_grownp hG n1 c1, cell_grownp hG n2 c2⟩) (fun hHeld => ?_)
      clear hK K
      refine norm_ (a' := ?_) ?_ ?_
      rotate_left
      · show Act.put _ (some 48) _ = _
        simp only [Act.put, List.setIfInBounds_toArray, List.set_cons_zero, List.set_cons_succ, i64_w, i32_w]
        rfl
      refine pure_ (i := 15) (N := (some 49)) (v := ?_) (a' := ?_) #[true, true, true, true, true, true, true, true, true, true, true, true, true, true, true, true, false] rfl rfl (by kernel_rfl) (fun _ _ _ h => h) (Or.inl ⟨by rfl, ?_⟩) ?_ ?_
      rotate_left
      · intro w_
        go_simp
        with_reducible rfl
      rotate_left
      · simp only [Act.put, List.setIfInBounds_toArray, List.set_cons_zero, List.set_cons_succ, i64_w, i32_w]
        rfl
      refine last_ (i := 16) (N := none) #[true, true, true, true, true, true, true, true, true, true, true, true, true, true, true, true, true] rfl rfl (by kernel_rfl) (by decide) (fun K hK => ?_)
      refine skip_ (w1 := ?_) (by rfl) rfl ?_ ?_
      rotate_left
      · go_simp
        rfl
      refine hK.out _ _ ?_
      clear hK K
      refine done_ (by kernel_rfl) ?_
      have HP := Kd.S_seg0 HH' hj0 hjq (seg := [.slice A9 y.length c9]) (j := 0) (show 1 ≤ 1 from by decide) (x' := y) (Kd.M_row ho) (fun _ hk => hk)
      simp only [show ((Kd.slice 3 (Kd.int .i64))).sz = 1 from rfl, Nat.mul_one, Nat.add_zero] at HP
      obtain ⟨rows, _, hraw, _⟩ := Kd.H_raw HH' hj0 hjq
      have hG2 : w1.grownBy (w1.setCell ⟨g, j.toNat, none⟩ (.slice A9 y.length c9)) (some g) := HP.2
      have nS : Kd.S (Kd.slice 3 (Kd.int .i64)) 34 (w1.setCell ⟨g, j.toNat, none⟩ (.slice A9 y.length c9)) w.heap.size (fun k_ => some k_ ≠ (.slice (some ⟨gn, 0, none⟩) js.length cn : Value).ownBlock) (.slice (some ⟨g, 0, none⟩) Q.length cap) (Q.set j.toNat y) := HP.1
      have HS' := Aside0.mk nS
      have HR' := Aside0.mk (Kd.R_over' (v := (.slice (some ⟨g, 0, none⟩) Q.length cap)) (Kd.R_over' (v := (.slice A1 row.length cc1)) (Kd.R_drew HR.out) (Kd.R_typed (Kd.R_drew GE.out)) (by decide) hG) (Kd.R_typed hraw) (by decide) hG2)
      have HN' := Aside0.mk (Kd.R_over' (v := (.slice (some ⟨g, 0, none⟩) Q.length cap)) (Kd.R_grown2 (Kd.R_drew HNX.out) rfl hG (fun k_ e_ => (HOKI.out k_ (GE.out.1 k_ e_)).1)) (Kd.R_typed hraw) (by decide) hG2)
      have HB' := Aside0.mk (below_set hb HGB.out : Below w.heap.size w (w1.setCell ⟨g, j.toNat, none⟩ (.slice A9 y.length c9)))
      clear HP hraw hG2 nS ho hb hG hA HH' yc gf c1 c2 n1 n2
      go_wp2_with fail
      go_roundg m2
      case measure => omega
      case rel =>
        refine ⟨m + 1, Q.set j.toNat y, by (try push_cast); (try rfl), ⟨by have := HK2.out; omega⟩, ⟨?_⟩, ⟨by rw [List.length_set]; exact HQL.out, fun q hq => ?_⟩, HS', HR', HN', HB'⟩
        · rw [show rdOf false re (i : Int) = at_ re (i : Int) from rfl, if_pos HRB.out, if_pos HRB.out, HY.out, HROW.out]
          exact HT2.out
        · rcases List.mem_or_eq_of_mem_set hq with hq | rfl
          · have := HQ.out.2 q hq; omega
          · rw [HY.out, List.length_append, List.length_singleton]
            have hjl : j.toNat < Q.length := by omega
            have := HQ.out.2 row (by rw [HROW.out, List.getD_eq_getElem?_getD, List.getElem?_eq_getElem hjl]; exact List.getElem_mem hjl)
            omega
end Go.Proofs.YtoncneglplglhaaDoor.PGraphReaches
