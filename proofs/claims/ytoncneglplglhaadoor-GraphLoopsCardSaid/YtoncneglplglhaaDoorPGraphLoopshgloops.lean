-- HAND paling/graph.Loops rounds=1 making=1 needs=paling/graph.Preds;paling/graph.Dominates
import Derived.Test.YtoncneglplglhaaDoorPGraphLoopsx0
import Derived.Test.YtoncneglplglhaaDoorPGraphLoopsx2
import Derived.Test.YtoncneglplglhaaDoorPGraphLoopshforms
import Derived.Test.YtoncneglplglhaaDoorPGraphLoopshgdom
import Derived.Test.YtoncneglplglhaaDoorPGraphLoopshgloop
import Derived.Test.YtoncneglplglhaaDoorPGraphLoopshgreach
import Derived.Test.YtoncneglplglhaaDoorPGraphLoopshgwalk
import Derived.Test.YtoncneglplglhaaDoorPGraphLoopshway
import Derived.Test.YtoncneglplglhaaDoorShelf
import Derived.OneCell
namespace Go.Proofs.YtoncneglplglhaaDoor.PGraphLoops
open Go.RowKit Go.Proofs.YtoncneglplglhaaDoorW.PrintWords Go.Proofs.YtoncneglplglhaaDoorW.PrintLast Go.Proofs.YtoncneglplglhaaDoorW.PrintMore
set_option linter.unusedVariables false
set_option linter.unusedSimpArgs false
open Go.Shelf
/-! graph.Loops: the loops that there are. -/
def backs (P : List (List Int)) (D : List (List Bool)) (h : Int) : List Int := (P.getD h.toNat []).filter fun j => !(!val D j h)
def memb (s : List Bool) : List Int := ((List.range s.length).filter fun i => s.getD i false).map fun (i : Nat) => (i : Int)
def membP (s : List Bool) (t : Nat) : List Int := ((List.range t).filter fun i => s.getD i false).map fun (i : Nat) => (i : Int)
theorem membP_done (s : List Bool) : membP s s.length = memb s := rfl
theorem membP_yes (s : List Bool) (t : Nat) (h : s.getD t false = true) : membP s (t + 1) = membP s t ++ [(t : Int)] := by
  unfold membP; rw [List.range_succ, List.filter_append, List.map_append, List.filter_cons, if_pos h]; rfl
theorem membP_no (s : List Bool) (t : Nat) (h : s.getD t false = false) : membP s (t + 1) = membP s t := by
  unfold membP; rw [List.range_succ, List.filter_append, List.map_append, List.filter_cons, if_neg (by rw [h]; simp)]; simp
theorem membP_len (s : List Bool) (t : Nat) : (membP s t).length ≤ t := by
  unfold membP; rw [List.length_map]; exact Nat.le_trans (List.length_filter_le _ _) (by simp)
theorem infoLI : (Tryd.prog.info? 34).map (fun i => (i.zero, i.size, i.bytes)) = some (some (.slice none 0 0), 1, 24) := by kernel_rfl
def graph_Loops.l (P : List (List Int)) (D : List (List Bool)) (n k : Nat) : Nat → Nat → List (List Int) → Option (List (List Int))
  | 0, _, acc => some acc
  | m + 1, h, acc => if backs P D h = [] then graph_Loops.l P D n k m (h + 1) acc else (walkGo (stepsB P h) k (List.replicate n false) (backs P D h)).bind fun s => graph_Loops.l P D n k m (h + 1) (acc ++ [memb (s.set h true)])
def graph_Loops.f (k : Nat) (l0 : List S37) : Option (List (List Int)) :=
  (graph_Preds.f k l0).bind fun P => (graph_Dominates.f k l0).bind fun D =>
    if l0.length ≤ 1000000 ∧ P.length = l0.length ∧ D.length = l0.length ∧ (∀ r ∈ D, r.length = l0.length) ∧ (∀ l ∈ P, l.length ≤ 1000000 ∧ ∀ x ∈ l, 0 ≤ x ∧ x < (l0.length : Int)) then graph_Loops.l P D l0.length k l0.length 0 [] else none
theorem graph_Loops.l_mono (P : List (List Int)) (D : List (List Bool)) (n k : Nat) : ∀ m h acc, LeO (graph_Loops.l P D n k m h acc) (graph_Loops.l P D n (k + 1) m h acc)
  | 0, h, acc, r, e => e
  | m + 1, h, acc, r, e => by
    rw [graph_Loops.l] at e ⊢
    by_cases hb : backs P D h = []
    · rw [if_pos hb] at e ⊢; exact graph_Loops.l_mono P D n k m _ _ r e
    · rw [if_neg hb] at e ⊢
      obtain ⟨s, e1, e⟩ := Option.bind_eq_some_iff.1 e
      exact Option.bind_eq_some_iff.2 ⟨s, walkGo.mono _ k _ _ _ e1, graph_Loops.l_mono P D n k m _ _ r e⟩
theorem graph_Loops.mono : ∀ a0 k, LeO (graph_Loops.f k a0) (graph_Loops.f (k + 1) a0) := fun a0 k r h => by
  unfold graph_Loops.f at h ⊢
  obtain ⟨P, e1, h⟩ := Option.bind_eq_some_iff.1 h
  obtain ⟨D, e2, h⟩ := Option.bind_eq_some_iff.1 h
  refine Option.bind_eq_some_iff.2 ⟨P, graph_Preds.mono _ _ _ e1, Option.bind_eq_some_iff.2 ⟨D, graph_Dominates.mono _ _ _ e2, ?_⟩⟩
  by_cases hc : a0.length ≤ 1000000 ∧ P.length = a0.length ∧ D.length = a0.length ∧ (∀ r ∈ D, r.length = a0.length) ∧ (∀ l ∈ P, l.length ≤ 1000000 ∧ ∀ x ∈ l, 0 ≤ x ∧ x < (a0.length : Int))
  · rw [if_pos hc] at h ⊢; exact graph_Loops.l_mono P D _ k _ _ _ r h
  · rw [if_neg hc] at h; exact absurd h (by simp)
theorem walkGo_len (st : Int → Option (List Int)) : ∀ k s w R, walkGo st k s w = some R → R.length = s.length
  | 0, s, w, R, h => by simp [walkGo] at h
  | k + 1, s, w, R, h => by
    rw [walkGo] at h
    by_cases h1 : w = []
    · rw [if_pos h1] at h; obtain rfl := Option.some.inj h; rfl
    · rw [if_neg h1] at h
      by_cases h2 : 0 ≤ w.getLastD 0 ∧ w.getLastD 0 < (s.length : Int)
      · rw [if_pos h2] at h
        by_cases h3 : at_ s (w.getLastD 0) = true
        · rw [if_pos h3] at h; exact walkGo_len st k _ _ R h
        · rw [if_neg h3] at h
          obtain ⟨l, hl, h4⟩ := Option.bind_eq_some_iff.1 h
          by_cases h5 : w.length + l.length ≤ 1000000000
          · rw [if_pos h5] at h4
            have := walkGo_len st k _ _ R h4
            simpa using this
          · rw [if_neg h5] at h4; exact absurd h4 (by simp)
      · rw [if_neg h2] at h; exact absurd h (by simp)
set_option maxHeartbeats 8000000 in
set_option maxRecDepth 100000 in
theorem graph_Loops.calls (k : Nat) (A0 : Option Addr) (c0 : Nat) (l0 : List S37) (r : List (List Int)) (w : World) (hr0 : Kd.C k37 w A0 l0.length l0) (hc0 : l0.length ≤ c0) (h : graph_Loops.f k l0 = some r) (hgl : GlobOK w) :
    Calls Tryd.prog 16 #[.slice A0 l0.length c0] w fun e w' => ∃ v0_ : Value, e = .returned (v0_) ∧ Kd.S (Kd.slice 3 (Kd.int .i64)) 34 w' w.heap.size (fun _ => True) v0_ r ∧ Below w.heap.size w w' := by
  unfold graph_Loops.f at h
  have hmf : ∀ (fn : Fn) (first cap : Array Value) (w : World), (Instr.makeFunc fn first cap).run Tryd.prog w = .ok (.func fn first cap) w := fun _ _ _ _ => rfl
  obtain ⟨P, e1, h⟩ := Option.bind_eq_some_iff.1 h
  obtain ⟨D, e2, h⟩ := Option.bind_eq_some_iff.1 h
  by_cases h2 : l0.length ≤ 1000000 ∧ P.length = l0.length ∧ D.length = l0.length ∧ (∀ r ∈ D, r.length = l0.length) ∧ (∀ l ∈ P, l.length ≤ 1000000 ∧ ∀ x ∈ l, 0 ≤ x ∧ x < (l0.length : Int))
  case neg => rw [if_neg h2] at h; exact absurd h (by simp)
  rw [if_pos h2] at h
  obtain ⟨h1, hPl, hDl, hDs, hPi⟩ := h2
  obtain ⟨n, hn⟩ : ∃ n, n = l0.length := ⟨_, rfl⟩
  have CP := Aside0.mk (graph_Preds.calls k A0 c0 l0 P w hr0 hc0 e1 hgl)
  have CD := Aside0.mk (fun W (hb : Below w.heap.size w W) => graph_Dominates.calls k A0 c0 l0 D W (Kd.C_below hr0 hb) hc0 e2 (hgl.step hb))
  rw [← hn] at h hPl hDl hDs hPi h1 CP CD hc0 ⊢
  have H := Aside0.mk h
  have HPL := Aside0.mk hPl
  have HSQ : Aside0 (Sq n D) := ⟨⟨hDl, hDs⟩⟩
  have HDL := Aside0.mk hDl
  have HPI := Aside0.mk hPi
  have HN := Aside0.mk h1
  clear h hPl hDl hDs hPi h1 e1 e2 hr0 hgl hn hc0
  go_enter Tryd.func16, Tryd.ntmps16
  go_wp2_with (first
    | (go_at_call 12; (with_reducible refine CP.out.mono ?_); rintro e w1 ⟨v1, rfl, hS, hb⟩; obtain ⟨Ap, cp, ev⟩ := Kd.S_slice hS; rw [HPL.out] at ev; subst ev; have HP := Aside0.mk hS; have HB1 := Aside0.mk hb; clear hS hb CP)
    | (go_at_call 14; (with_reducible refine (CD.out _ HB1.out).mono ?_); rintro e w2 ⟨v2, rfl, hS, hb⟩; obtain ⟨Ad, cd, ev⟩ := Kd.S_slice hS; rw [HDL.out] at ev; subst ev; have HD := Aside0.mk hS; have HP2 := Aside0.mk (Kd.S_below HP.out hb); have HB2 := Aside0.mk (below_step HB1.out hb); clear hS hb CD HP))
  obtain ⟨W3, hW3⟩ : ∃ W, W = (w2.alloc (.cells #[.slice Ap n cp] 28)).alloc (.cells #[.slice Ad n cd] 31) := ⟨_, rfl⟩
  have B31 : W3.heap[w2.heap.size]? = some (.cells #[.slice Ap n cp] 28 (0, 0)) := by rw [hW3]; exact blk_alloc (blk_new w2 _) _
  have B41 : W3.heap[w2.heap.size + 1]? = some (.cells #[.slice Ad n cd] 31 (0, 0)) := by
    have := blk_new (w2.alloc (.cells #[.slice Ap n cp] 28)) (.cells #[.slice Ad n cd] 31 (0, 0))
    rw [show (w2.alloc (.cells #[.slice Ap n cp] 28)).heap.size = w2.heap.size + 1 by simp] at this
    rw [hW3]; exact this
  have BL1 : Below w2.heap.size w2 W3 := by rw [hW3]; exact below_alloc (below_alloc (Below.refl _ _) _) _
  have CP3 : (Kd.slice 3 (Kd.int .i64)).C W3 Ap n P := by
    have := (Kd.S_reads' HP2.out).2.2
    rw [HPL.out] at this
    exact Kd.C_below this BL1
  have CD3 : (Kd.slice 4 Kd.bool).C W3 Ad n D := by
    have := (Kd.S_reads' HD.out).2.2
    rw [HDL.out] at this
    exact Kd.C_below this BL1
  rw [← hW3]
  have HB3 := Aside0.mk (below_step HB2.out BL1)
  have B3' := Aside0.mk B31
  have B4' := Aside0.mk B41
  have CP' := Aside0.mk CP3
  have CD' := Aside0.mk CD3
  clear hW3 B31 B41 BL1 CP3 CD3 HP2 HD HB2 HB1
  generalize w2.heap.size + 1 = B4 at B4' ⊢
  generalize w2.heap.size = B3 at B3' ⊢
  go_loopg [5, 18] n (fun kq v5 v18 wr => ∃ (acc : List (List Int)) (h : Nat), v18 = .int .i64 (h : Int) ∧ Aside0 (h + kq = n) ∧ Aside0 (graph_Loops.l P D n k kq h acc = some r) ∧ Aside0 (acc.length ≤ h) ∧ Aside0 (Kd.S (Kd.slice 3 (Kd.int .i64)) 34 wr W3.heap.size (fun _ => True) v5 acc) ∧ Aside0 (Below W3.heap.size W3 wr))
  case atStart => exact ⟨[], 0, rfl, ⟨by omega⟩, H, ⟨Nat.le_refl _⟩, ⟨Kd.S_nil _ _ _ _ _⟩, ⟨Below.refl _ _⟩⟩
  case round =>
    clear H
    obtain ⟨acc, h, rfl, HK, HE, HAL, HO, HBW⟩ := hrel
    obtain ⟨Ao, co, eo⟩ := Kd.S_slice HO.out
    subst eo
    by_cases hlt : (h : Int) < (n : Int)
    case neg =>
      have hk0 : gk = 0 := by have := HK.out; omega
      have he := HE.out
      rw [hk0, graph_Loops.l] at he
      obtain rfl := Option.some.inj he
      clear he HE HK hk0
      go_wp2_with fail
      go_ret
      exact ⟨_, rfl, Kd.S_lower HO.out HB3.out.size, below_step HB3.out HBW.out⟩
    cases gk with
    | zero => exact absurd HK.out (by omega)
    | succ m =>
    have he := HE.out
    rw [graph_Loops.l] at he
    have hk0 : (0 : Int) ≤ (h : Int) := by omega
    obtain ⟨W1, hW1⟩ : ∃ W1, W1 = wr.alloc (.cells #[.int .i64 (h : Int)] 3 (0, 0)) := ⟨_, rfl⟩
    have hbl : Below wr.heap.size wr W1 := by rw [hW1]; exact (Below.refl _ _).alloc (Nat.le_refl _) _
    have hb31 : Below W3.heap.size W3 W1 := HBW.out.trans (hbl.mono HBW.out.size)
    have b6 : W1.heap[wr.heap.size]? = some (.cells #[.int .i64 (h : Int)] 3 (0, 0)) := by rw [hW1]; exact blk_new wr _
    have b3 := blk_below B3'.out hb31
    have b4 := blk_below B4'.out hb31
    have cp1 := Kd.C_below CP'.out hb31
    have cd1 := Kd.C_below CD'.out hb31
    have hO1 : Kd.S (Kd.slice 3 (Kd.int .i64)) 34 W1 W3.heap.size (fun _ => True) (.slice Ao acc.length co) acc := Kd.S_below HO.out hbl
    have hpred : ∀ (W' : World) (x : Int), (∀ b, b < W1.heap.size → W'.heap[b]? = W1.heap[b]?) → 0 ≤ x → x < (n : Int) → FnGives Tryd.prog 31 #[.pointer (some ⟨B4, 0, none⟩), .pointer (some ⟨wr.heap.size, 0, none⟩)] #[.int .i64 x] (.bool (!val D x h)) W' := fun W' x hag x0 x1 =>
      loops1.calls W' n B4 wr.heap.size Ad cd D x h ((Kd.heap_slice _ Kd.heap_bool).C hag cd1) HSQ.out ((hag _ (blk_lt b4)).trans b4) ((hag _ (blk_lt b6)).trans b6) x0 x1 hk0 hlt
    obtain ⟨L, hL⟩ : ∃ L, L = P.getD ((h : Int)).toNat [] := ⟨_, rfl⟩
    obtain ⟨adp, Al, cl, rfl, x1, hlc, hCl⟩ := rows_at cp1 HPL.out hk0 hlt
    rw [← hL] at x1 hlc hCl
    rw [Int.toNat_natCast] at x1
    have hLin : L.length ≤ 1000000 ∧ ∀ x ∈ L, 0 ≤ x ∧ x < (n : Int) := by
      have hi : ((h : Int)).toNat < P.length := by have := HPL.out; omega
      rw [hL, List.getD_eq_getElem?_getD, List.getElem?_eq_getElem hi]
      exact HPI.out _ (List.getElem_mem hi)
    have hbk : backs P D h = L.filter (fun j => !(!val D j h)) := by unfold backs; rw [← hL]
    rw [hbk] at he
    have CL := Aside0.mk (clone_any Al cl L W1 hCl (by omega))
    have DEL := Aside0.mk (fun (v : Value) (W : World) (hR : Kd.R (Kd.int .i64) 3 W W1.heap.size (fun _ => True) v L) (hb : Below W1.heap.size W1 W) =>
      gdelete_any 31 #[.pointer (some ⟨B4, 0, none⟩), .pointer (some ⟨wr.heap.size, 0, none⟩)] (enters_of Tryd.func31 (by kernel_rfl) rfl) (fun j => !val D j h) n W1.heap.size (by omega) L hLin.2 v W hb.size hR
        (fun W' x hag x0 x1 => hpred W' x (fun b hb' => (hag b hb').trans (hb.block b hb')) x0 x1))
    have c6 : W1.cell? ⟨wr.heap.size, 0, none⟩ = some (.int .i64 (h : Int)) := cell_of_one b6
    have c3 : W1.cell? ⟨B3, 0, none⟩ = some (.slice (some adp) n cp) := cell_of_one b3
    obtain ⟨K, hK⟩ : ∃ K, K = L.filter (fun j => !(!val D j h)) := ⟨_, rfl⟩
    rw [← hK] at he
    have HKL : Aside0 (K.length ≤ 1000000) := ⟨by rw [hK]; exact Nat.le_trans (List.length_filter_le _ _) hLin.1⟩
    have DEL' := Aside0.mk (fun v W hR hb => by have := DEL.out v W hR hb; rw [← hK] at this; exact this)
    have HE' := Aside0.mk he
    have HO1 := Aside0.mk hO1
    have HB31 := Aside0.mk hb31
    have BX6 := Aside0.mk b6
    have BX3 := Aside0.mk b3
    have CP1 := Aside0.mk cp1
    have HW1 := Aside0.mk hW1
    have hbs : wr.heap.size ≤ W1.heap.size := hbl.size
    have HBS := Aside0.mk hbs
    have HLL := Aside0.mk hL
    clear hL he HE hW1 hbl hb31 b6 b3 b4 cp1 cd1 hO1 hpred hlc hCl hLin hbk DEL hK hbs HO HBW
    go_upto_region 6 with fail
    rw [← HW1.out]
    go_upto_region 7 with (first
      | (go_at_call 30; (with_reducible refine CL.out.mono ?_); rintro e w4 ⟨v4, rfl, ho, hb⟩; have HR4 := Aside0.mk ho; have HB4 := Aside0.mk hb; clear ho hb CL)
      | (go_at_call 29; (with_reducible refine (DEL'.out _ _ HR4.out HB4.out).mono ?_); rintro e w5 ⟨v5', rfl, ho, hb⟩; obtain ⟨Ak, ck, ev⟩ := Kd.R_slice ho; subst ev; have HR5 := Aside0.mk ho; have HB5 := Aside0.mk (HB4.out.trans hb); clear ho hb HR4 HB4 DEL'))
    have HB35 := Aside0.mk (HB31.out.trans (HB5.out.mono HB31.out.size))
    have HO5 := Aside0.mk (Kd.S_below HO1.out HB5.out)
    have h63 : (h : Int) + 1 ≤ 1000000 := by have := HN.out; omega
    by_cases hke : K = []
    · subst hke
      have he := HE'.out
      rw [if_pos rfl] at he
      have HE2 := Aside0.mk he
      clear he HE' HB31 HO1 HB5 c6 c3 x1
      go_wp2_with fail
      go_roundg m
      case measure => omega
      case rel => exact ⟨acc, h + 1, by (try push_cast); (try rfl), ⟨by have := HK.out; omega⟩, HE2, ⟨by have := HAL.out; omega⟩, HO5, HB35⟩
    have he := HE'.out
    rw [if_neg hke] at he
    obtain ⟨sn, hs, he2⟩ := Option.bind_eq_some_iff.1 he
    have hz : ((K.length : Int) == 0) = false := by
      have := List.length_pos_iff.2 hke
      simp; omega
    have hz2 : (K.length == 0) = false := by
      have := List.length_pos_iff.2 hke
      simp; omega
    have CW := Aside0.mk (gwalk.calls (stepsB P h) k 32 #[.pointer (some ⟨wr.heap.size, 0, none⟩), .pointer (some ⟨B3, 0, none⟩)] n Ak ck K sn w5 HN.out HKL.out (Kd.R_reads' HR5.out).2.2 (enters_ Tryd.func32 (by kernel_rfl) rfl)
      (fun a r W hr hb => loops2.calls W n B3 wr.heap.size (some adp) cp P a h r hr (Kd.C_below CP1.out (HB5.out.trans (hb.mono HB5.out.size))) HPL.out (blk_below BX3.out (HB5.out.trans (hb.mono HB5.out.size))) (blk_below BX6.out (HB5.out.trans (hb.mono HB5.out.size)))) hs)
    have HSL : Aside0 (sn.length = n) := ⟨by rw [walkGo_len _ _ _ _ _ hs]; simp⟩
    have HE2 := Aside0.mk he2
    have hke' : K.length ≠ 0 := fun e => hke (List.eq_nil_of_length_eq_zero e)
    clear he he2 hs HE' c6 c3 x1 hke
    go_upto_region 8 with fail
    go_wp2_with fail
    refine CW.out.mono ?_
    rintro e w6 ⟨v6, rfl, ho, hb⟩
    obtain ⟨g7, cap7, e7, hg7, hl7, cells7, hb7⟩ := Kd.R_form ho (by have := HSL.out; omega)
    rw [HSL.out] at e7
    subst e7
    obtain ⟨hx7, hf7⟩ := Kd.R_celln false ho (h : Int) hk0 hlt
    have hput := Kd.R_putn ho (h : Int) true
    rw [Int.toNat_natCast] at hx7 hf7 hput
    have c6' : w6.cell? ⟨wr.heap.size, 0, none⟩ = some (.int .i64 (h : Int)) := cell_of_one (blk_below BX6.out (HB5.out.trans (hb.mono HB5.out.size)))
    have HB7 := Aside0.mk (hb.setCell (p := ⟨g7, h, none⟩) hg7 (.bool true))
    have HO7 := Aside0.mk hput
    have HSL7 : Aside0 ((sn.set h true).length = n) := ⟨by rw [List.length_set]; exact HSL.out⟩
    obtain ⟨s7, hs7⟩ : ∃ s7, s7 = sn.set h true := ⟨_, rfl⟩
    have HE3 := Aside0.mk HE2.out
    rw [← hs7] at HE3 HO7 HSL7
    clear ho hb hg7 hl7 hb7 hput hs7 CW HE2 HSL HR5
    go_wp2_with fail
    go_loopg [9, 41] n (fun kq v9 v41 wr => ∃ (t : Nat), v41 = .int .i64 (t : Int) ∧ Aside0 (t + kq = n) ∧ Aside0 (Kd.R (Kd.int .i64) 3 wr w5.heap.size (fun _ => True) v9 (membP s7 t)) ∧ Aside0 (Kd.R Kd.bool 4 wr w5.heap.size (fun _ => True) (.slice (some ⟨g7, 0, none⟩) n cap7) s7) ∧ Aside0 (Below w5.heap.size w5 wr))
    case atStart => exact ⟨0, rfl, ⟨by omega⟩, ⟨Kd.R_nil _ _ _ _ _⟩, HO7, HB7⟩
    case round =>
      clear HO7 HB7 hx7 hf7 c6'
      obtain ⟨t, rfl, HT, HL, HO7, HB7⟩ := hrel
      obtain ⟨Al2, cl2, el2⟩ := Kd.R_slice HL.out
      subst el2
      have ht0 : (0 : Int) ≤ (t : Int) := by omega
      by_cases hlt2 : (t : Int) < (n : Int)
      case neg =>
        have htn : t = s7.length := by have := HT.out; have := HSL7.out; omega
        have hS := Kd.S_mono (Kd.S_bound HO5.out) (ok' := fun k_ => True ∧ ¬ some k_ = (.slice Al2 (membP s7 t).length cl2 : Value).ownBlock) (fun k_ hk => ⟨trivial, fun e => by have h1 := Kd.R_base HL.out k_ e.symm; have := hk.2.2; omega⟩)
        have HS := Aside0.mk (Kd.S_below hS HB7.out)
        have HLx := Aside0.mk (Kd.R_lower HL.out HB35.out.size)
        have HAP := Aside0.mk (Kd.R_mono (ok' := fun k_ => True ∧ some k_ ≠ (.slice Ao acc.length co : Value).ownBlock) (Kd.R_apart' HLx.out (Kd.S_typed HS.out) (by decide)) (fun k_ hk => ⟨trivial, hk.2⟩))
        have HBB := Aside0.mk (HB35.out.trans (HB7.out.mono HB35.out.size))
        have he := HE3.out
        rw [← membP_done, ← htn] at he
        have HE4 := Aside0.mk he
        have hal : (acc.length + 1) * 24 ≤ 140737488355328 := by have := HAL.out; have := HN.out; omega
        have HALL := Aside0.mk hal
        clear htn hS he HE3 hal
        go_wp2_with (first | ((with_reducible refine gate_builtin (b := .append) (xs := #[.tmp 52, .tmp 54]) rfl ?_); (try (refine gate_guard (by rfl) ?_; dsimp only)); at_builtin; refine Kd.S_append (Kd.slice 3 (Kd.int .i64)) (w0 := W3) W3.heap.size rfl (.tmp 52) (.tmp 54) 28 34 (.slice none 0 0) 24 rfl Tryd.underlying28 infoLI rfl (by decide) (by omega) (.slice Ao acc.length co) acc (membP s7 t) [.slice Al2 (membP s7 t).length cl2] (fun _ => True) (fun k_ => some k_ = (.slice Al2 (membP s7 t).length cl2 : Value).ownBlock) rfl rfl (Kd.M_row (Kd.R_mono (Kd.R_tight rfl HAP.out) (fun _ h_ => h_))) (fun k_ hk_ => HAP.out.1 k_ hk_.symm) (fun _ _ => trivial) HS.out HBB.out HBB.out.size HALL.out ?_; intro v1 w8 ho hb hg hat; have HO8 := Aside0.mk ho; have HB8 := Aside0.mk hb; clear ho hb hg hat))
        go_roundg m
        case measure => omega
        case rel => exact ⟨acc ++ [membP s7 t], h + 1, by (try push_cast); (try rfl), ⟨by have := HK.out; omega⟩, HE4, ⟨by have := HAL.out; simp; omega⟩, HO8, HB8⟩
      cases gk with
      | zero => exact absurd HT.out (by omega)
      | succ m2 =>
      obtain ⟨hx, hf⟩ := Kd.R_celln false HO7.out (t : Int) ht0 hlt2
      rw [Int.toNat_natCast] at hx hf
      obtain ⟨b, hb⟩ : ∃ b, b = s7.getD t false := ⟨_, rfl⟩
      rw [show rdOf false s7 (t : Int) = s7.getD t false from rfl, ← hb] at hx
      have HBV := Aside0.mk hb
      have ht63 : (t : Int) + 1 ≤ 1000000 := by have := HN.out; omega
      clear hb
      cases b with
      | false =>
        go_wp2_with fail
        go_roundg m2
        case measure => omega
        case rel => exact ⟨t + 1, by (try push_cast); (try rfl), ⟨by have := HT.out; omega⟩, ⟨by rw [membP_no _ _ HBV.out.symm]; exact HL.out⟩, HO7, HB7⟩
      | true =>
        go_wp2_with (first | ((with_reducible refine gate_builtin (b := .append) (xs := #[.tmp 47, .tmp 49]) rfl ?_); (try (refine gate_guard (by rfl) ?_; dsimp only)); at_builtin; refine Kd.R_append (Kd.int .i64) (w0 := w5) w5.heap.size rfl (.tmp 47) (.tmp 49) 34 3 (.int .i64 0) 8 rfl Tryd.underlying34 infoI rfl (by decide) (by omega) (.slice Al2 (membP s7 t).length cl2) (membP s7 t) (t : Int) [.int .i64 (t : Int)] (fun _ => True) (fun _ => False) rfl rfl rfl (fun _ hk => hk.elim) (fun _ _ => trivial) HL.out HB7.out HB7.out.size (by have := membP_len s7 t; omega) ?_; intro v1 w8 ho hb hg hat; have HL' := Aside0.mk ho; have HO8 := Aside0.mk (Kd.R_over HO7.out HL.out (by decide) hg); have HB8 := Aside0.mk hb; clear ho hb hg hat))
        go_roundg m2
        case measure => omega
        case rel => exact ⟨t + 1, by (try push_cast); (try rfl), ⟨by have := HT.out; omega⟩, ⟨by rw [membP_yes _ _ HBV.out.symm]; exact HL'.out⟩, HO8, HB8⟩
end Go.Proofs.YtoncneglplglhaaDoor.PGraphLoops
