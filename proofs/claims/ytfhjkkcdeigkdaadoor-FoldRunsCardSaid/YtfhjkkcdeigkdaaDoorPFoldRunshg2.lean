import Derived.Test.YtfhjkkcdeigkdaaDoorPFoldRunsx0
import Derived.Test.YtfhjkkcdeigkdaaDoorPFoldRunshg1
import Derived.Test.YtfhjkkcdeigkdaaDoorPFoldRunshforms
import Derived.Test.YtfhjkkcdeigkdaaDoorPFoldRunshg6
import Derived.Test.YtfhjkkcdeigkdaaDoorPFoldRunshg7
import Derived.Test.YtfhjkkcdeigkdaaDoorPFoldRunshg0
import Derived.Test.YtfhjkkcdeigkdaaDoorPFoldRunshg3
import Derived.Shelf.SlMaps.Clone
import Derived.Test.YtfhjkkcdeigkdaaDoorPFoldRunshway
import Derived.Test.YtfhjkkcdeigkdaaDoorPFoldRunshmnext
import Derived.Test.YtfhjkkcdeigkdaaDoorPFoldRunshmplain
namespace Go.Proofs.YtfhjkkcdeigkdaaDoor.PFoldRuns
open Go.RowKit Go.Proofs.YtfhjkkcdeigkdaaDoorW.PrintWords Go.Proofs.YtfhjkkcdeigkdaaDoorW.PrintLast Go.Proofs.YtfhjkkcdeigkdaaDoorW.PrintMore
set_option linter.unusedVariables false
set_option linter.unusedSimpArgs false
/-! Where an instruction of a code that may be leads. -/
section
variable {c : List S53}
theorem succ_nxI (hn : c.length ≤ 1000) {i : Nat} (hi : i < c.length) (hk : 0 ≤ (c.getD i z53).f0 ∧ (c.getD i z53).f0 < 14) {j : Int} (hj : j ∈ succL (c.getD i z53) i) : j ∈ nxI c i := by
  obtain ⟨L, hL, hm⟩ := next_succ _ hk (i : Int) (by omega) (by omega)
  unfold nxI
  rw [Int.toNat_natCast, hL]
  exact hm j hj
theorem nxI_succ (hn : c.length ≤ 1000) {i : Nat} (hi : i < c.length) {j : Int} (hj : j ∈ nxI c i) : j ∈ succL (c.getD i z53) i := by
  unfold nxI ins_Next.f at hj
  rw [Int.toNat_natCast, Option.getD_some, wrap_in (x := (i : Int) + 1) (by omega) (by omega)] at hj
  generalize c.getD i z53 = x at hj ⊢
  by_cases h0 : ¬ (0 ≤ x.f0 ∧ x.f0 < 14) ∨ fmB 9 x.f0 = true
  · rw [if_pos h0] at hj; cases hj
  rw [if_neg h0] at hj
  have hk : 0 ≤ x.f0 ∧ x.f0 < 14 := Classical.byContradiction fun h => h0 (.inl h)
  have he : ¬ (x.f0 = 12 ∨ x.f0 = 13) := by
    rintro (h | h)
    · exact h0 (.inr (by rw [h]; decide +kernel))
    · exact h0 (.inr (by rw [h]; decide +kernel))
  unfold succL
  rw [if_neg he]
  by_cases h6 : x.f0 = 6
  · rw [if_pos h6] at hj ⊢; exact hj
  rw [if_neg h6] at hj ⊢
  by_cases h7 : x.f0 = 7
  · rw [if_pos h7] at hj ⊢
    rw [(twoL_spec _ _).2] at hj
    simpa using hj
  · rw [if_neg h7] at hj ⊢; exact hj
theorem nextOK_of {r : Int} (h : checkB c r 9 = true) (hl : c.length ≤ 1000) : NextOK c := by
  obtain ⟨h1, _, h3, h4⟩ := check_facts h
  intro i hi j hj
  have hs := nxI_succ hl hi hj
  have hx : c.getD i z53 ∈ c := by rw [List.getD_eq_getElem?_getD, List.getElem?_eq_getElem hi]; exact List.getElem_mem _
  have ho := h3 _ hx
  simp only [oneB, Bool.and_eq_true, decide_eq_true_eq] at ho
  obtain ⟨a1, _, _, _, _, _, _, _, _, _, a6, a7⟩ := ho
  have hnx : ¬ ((c.getD i z53).f0 = 6 ∨ (c.getD i z53).f0 = 12 ∨ (c.getD i z53).f0 = 13) → i + 1 < c.length := fun hk => by
    by_cases he : i = c.length - 1
    · unfold endsB at h4
      rw [show rd_T53 c ((c.length : Int) - 1) = c.getD i z53 by unfold rd_T53; rw [show ((c.length : Int) - 1).toNat = i by omega]] at h4
      simp only [Bool.or_eq_true, beq_iff_eq] at h4
      omega
    · omega
  unfold succL at hs
  by_cases he : (c.getD i z53).f0 = 12 ∨ (c.getD i z53).f0 = 13
  · rw [if_pos he] at hs; cases hs
  rw [if_neg he] at hs
  by_cases h6 : (c.getD i z53).f0 = 6
  · rw [if_pos h6] at hs; rw [List.mem_singleton.1 hs]; exact ⟨a6, a7⟩
  rw [if_neg h6] at hs
  have hn := hnx (by omega)
  by_cases h7 : (c.getD i z53).f0 = 7
  · rw [if_pos h7] at hs
    rcases List.mem_cons.1 hs with rfl | hs
    · omega
    · rw [List.mem_singleton.1 hs]; exact ⟨a6, a7⟩
  · rw [if_neg h7] at hs; rw [List.mem_singleton.1 hs]; omega
end
end Go.Proofs.YtfhjkkcdeigkdaaDoor.PFoldRuns

namespace Go.Proofs.YtfhjkkcdeigkdaaDoor.PFoldRuns
open Go.RowKit Go.Proofs.YtfhjkkcdeigkdaaDoorW.PrintWords Go.Proofs.YtfhjkkcdeigkdaaDoorW.PrintLast Go.Proofs.YtfhjkkcdeigkdaaDoorW.PrintMore
set_option linter.unusedVariables false
set_option linter.unusedSimpArgs false
open Go.MapKept Go.RowKit
/-! Sets of ints as maps to true. -/
def setV (S : Int → Bool) : Int → Option Value := fun i => if S i = true then some (.bool true) else none
theorem setV_isSome (S : Int → Bool) (i : Int) : (setV S i).isSome = S i := by
  unfold setV
  cases S i <;> simp
theorem setV_upd (S : Int → Bool) (i : Int) : upd (setV S) i (.bool true) = setV (fun j => S j || j == i) := by
  funext j
  unfold upd setV
  by_cases h : j = i
  · subst h; simp
  · rw [if_neg h]
    show _ = if (S j || j == i) = true then _ else _
    rw [show (j == i) = false by simpa using h, Bool.or_false]
/-- how many keys a map has, when they are told by a list that names none twice -/
theorem IM.count {w : World} {b n : Nat} {f : Int → Option Value} (h : IM w b f n) {L : List Int} (hL : L.Nodup) (hm : ∀ i, i ∈ L ↔ (f i).isSome = true) : n = L.length := by
  obtain ⟨es, clock, hb, hs, hn, hk, hf⟩ := h
  have hp : (es.toList.map (·.key)).Perm (L.map (Value.int .i64)) := by
    refine (List.perm_ext_iff_of_nodup hs.2.2 (List.pairwise_map.2 (hL.imp fun hab e => hab (by simpa using e)))).2 fun v => ?_
    rw [List.mem_map, List.mem_map]
    constructor
    · rintro ⟨e, he, rfl⟩
      obtain ⟨i, hi⟩ := hk e he
      exact ⟨i, (hm i).2 (by rw [(hf i e.val).2 ⟨e, he, hi, rfl⟩]; rfl), hi.symm⟩
    · rintro ⟨i, hi, rfl⟩
      obtain ⟨v, hv⟩ := Option.isSome_iff_exists.1 ((hm i).1 hi)
      obtain ⟨e, he, hei, _⟩ := (hf i v).1 hv
      exact ⟨e, he, hei⟩
  have := hp.length_eq
  rw [List.length_map, List.length_map, Array.length_toList] at this
  omega
end Go.Proofs.YtfhjkkcdeigkdaaDoor.PFoldRuns

namespace Go.Proofs.YtfhjkkcdeigkdaaDoor.PFoldRuns
open Go.RowKit Go.Proofs.YtfhjkkcdeigkdaaDoorW.PrintWords Go.Proofs.YtfhjkkcdeigkdaaDoorW.PrintLast Go.Proofs.YtfhjkkcdeigkdaaDoorW.PrintMore
set_option linter.unusedVariables false
set_option linter.unusedSimpArgs false
open Go.MapKept Go.RowKit Go.Proofs
/-! fold: what is known behind an instruction. -/
theorem kcloneFn : Tryd.prog.funcs[50]? = some Tryd.f50 := by kernel_rfl
theorem kcloneNm : (Tryd.f50.name == "runtime.NumGoroutine") = false := by kernel_rfl
theorem kcloneNb : Tryd.f50.body.isNone = true := by kernel_rfl
theorem kcloneNx : Extern.findNext Tryd.f50 = none := by kernel_rfl
theorem kcloneFd : Extern.find Tryd.f50 = some Extern.MapsClone.clone := by kernel_rfl
theorem kcloneExt (b : Nat) (es : Array MapEntry) (clock : Nat) (w : World) (hb : w.heap[b]? = some (.map es clock)) : (callFunc 50 #[.iface 60 (.map (some b))]).run Tryd.prog w = .ok (.value (.iface 60 (.map (some w.heap.size)))) (w.alloc (.map es clock)) := by
  refine (run_callFunc_extern kcloneFn kcloneNm kcloneNb kcloneNx kcloneFd _ w).trans ?_
  rw [run_maps_clone_sl w 60 hb]
  rfl
set_option maxRecDepth 100000 in
set_option maxHeartbeats 2000000 in
theorem kclone.calls (b : Nat) (l : KL) (w : World) (h : KM w b l) :
    Calls Tryd.prog 35 #[.map (some b)] w fun e w' => e = .returned (.map (some w.heap.size)) ∧ KM w' w.heap.size l ∧ Below w.heap.size w w' := by
  obtain ⟨⟨es, clock, hb, r⟩, hnd⟩ := h
  have hq := fun w => run_eql_map_nil_sl (P := Tryd.prog) w 60 3 2 (some b) Tryd.underlying60
  suffices Calls Tryd.prog 35 #[.map (some b)] w fun e w' => e = .returned (.map (some w.heap.size)) ∧ w' = w.alloc (.map es clock) by
    refine this.mono ?_
    rintro e w' ⟨rfl, rfl⟩
    exact ⟨rfl, ⟨⟨es, clock, heap_alloc_new _ _, r⟩, hnd⟩, below_alloc (Below.refl _ _) _⟩
  have he := kcloneExt b es clock w hb
  have ht := fun v w' => run_typeAssert_map_sl (P := Tryd.prog) w' 60 20 _ _ v Tryd.underlying60
  clear r hnd
  go_enter Tryd.func35, Tryd.ntmps35
  go_wp2
  go_ret
  exact ⟨rfl, rfl⟩
theorem key_mem (l : KL) (i : Int) : i ∈ l.map Prod.fst ↔ (kvL l i).isSome = true := by
  unfold kvL
  rw [Option.isSome_map]
  induction l with
  | nil => simp [kgetL]
  | cons y ys ih =>
    rw [List.map_cons, List.mem_cons, kgetL, ih]
    by_cases h : y.1 = i
    · rw [if_pos h]; simp [h]
    · rw [if_neg h]
      constructor
      · rintro (h' | h')
        · exact absurd h'.symm h
        · exact h'
      · exact .inr
theorem KM.of {w : World} {b n : Nat} {l : KL} (h : IM w b (kvL l) n) (hn : NdK l) : KM w b l := by
  have := h.count hn (fun i => key_mem l i)
  rw [List.length_map] at this
  exact ⟨this ▸ h, hn⟩
theorem kv_del (l : KL) (d : Int) (i : Int) : del (kvL l) d i = kvL (kdelL l d) i := by
  unfold del kvL
  rw [kget_del]
  split <;> rfl
theorem kv_put (l : KL) (d v : Int) (i : Int) : upd (kvL (kdelL l d)) d (.int .i64 v) i = kvL (kdelL l d ++ [(d, v)]) i := by
  unfold upd kvL
  rw [kget_app, kget_del]
  by_cases h : i = d
  · rw [if_pos h, if_pos h]; simp [kgetL, h]
  · rw [if_neg h, if_neg h]
    cases kgetL l i with
    | some u => rfl
    | none =>
      show none = (kgetL [(d, v)] i).map _
      rw [kgetL, if_neg (fun e => h e.symm)]; rfl
set_option maxRecDepth 100000 in
set_option maxHeartbeats 8000000 in
theorem fbehind.calls (b : Nat) (l r : KL) (x : S53) (w : World) (hk : KM w b l) (h : fold_behind.f l x = some r) (hgl : GlobOK w) :
    Calls Tryd.prog 33 #[.map (some b), .agg #[.int .i64 x.f0, .int .i64 x.f1, .int .i64 x.f2, .int .i64 x.f3, .int .i64 x.f4, .int .i64 x.f5, .int .i64 x.f6]] w fun e w' => ∃ g, e = .returned (.map (some g)) ∧ w.heap.size ≤ g ∧ KM w' g r ∧ Below w.heap.size w w' := by
  unfold fold_behind.f at h
  by_cases hok : okV l x
  case neg => rw [if_neg hok] at h; cases h
  rw [if_pos hok] at h
  obtain rfl := Option.some.inj h
  have HND := Aside0.mk (nd_beh hk.2 x)
  have HKL := Aside0.mk hk
  have HOK := Aside0.mk hok
  have HGL := Aside0.mk hgl
  clear h hk hok hgl
  go_enter Tryd.func33, Tryd.ntmps33
  go_upto_region 1 with fail
  have hb := blk_new w (.cells #[.int .i64 x.f0, .int .i64 x.f1, .int .i64 x.f2, .int .i64 x.f3, .int .i64 x.f4, .int .i64 x.f5, .int .i64 x.f6] 53)
  have hB : Below w.heap.size w (w.alloc (.cells #[.int .i64 x.f0, .int .i64 x.f1, .int .i64 x.f2, .int .i64 x.f3, .int .i64 x.f4, .int .i64 x.f5, .int .i64 x.f6] 53)) := (Below.refl _ _).alloc (Nat.le_refl _) _
  obtain ⟨gX, hgX⟩ : ∃ g, g = w.heap.size := ⟨_, rfl⟩
  rw [← hgX] at hb
  have HB := Aside0.mk hB
  have HK := Aside0.mk (HKL.out.below hB)
  have HX := Aside0.mk hb
  have HL0 := Aside0.mk (show w.heap.size ≤ gX by omega)
  clear hB hb HKL
  rw [← hgX]
  clear hgX
  generalize (w.alloc (.cells #[.int .i64 x.f0, .int .i64 x.f1, .int .i64 x.f2, .int .i64 x.f3, .int .i64 x.f4, .int .i64 x.f5, .int .i64 x.f6] 53)) = w1 at HB HK HX ⊢
  go_wp2_with fail
  refine (kclone.calls b l w1 HK.out).mono ?_
  rintro e w2 ⟨rfl, hk2, hb2⟩
  obtain ⟨gm, hgm⟩ : ∃ g, g = w1.heap.size := ⟨_, rfl⟩
  rw [← hgm] at hk2 ⊢
  have HGM := Aside0.mk (show w.heap.size ≤ gm by have := HB.out.size; omega)
  have HNE := Aside0.mk (show gm ≠ gX ∧ gm ≠ b by have h1 := blk_lt HX.out; have h2 := HK.out.1.lt; omega)
  have HM := Aside0.mk hk2
  replace HX := Aside0.mk (blk_below HX.out hb2)
  replace HK := Aside0.mk (HK.out.below hb2)
  replace HB := Aside0.mk (HB.out.trans (hb2.mono HB.out.size))
  clear hk2 hb2 hgm
  have x0 : w2.cell? ⟨gX, 0, none⟩ = some (.int .i64 x.f0) := (blk_cell HX.out 0).trans rfl
  have x1 : w2.cell? ⟨gX, 1, none⟩ = some (.int .i64 x.f1) := (blk_cell HX.out 1).trans rfl
  have x2 : w2.cell? ⟨gX, 2, none⟩ = some (.int .i64 x.f2) := (blk_cell HX.out 2).trans rfl
  have x3 : w2.cell? ⟨gX, 3, none⟩ = some (.int .i64 x.f3) := (blk_cell HX.out 3).trans rfl
  have x4 : w2.cell? ⟨gX, 4, none⟩ = some (.int .i64 x.f4) := (blk_cell HX.out 4).trans rfl
  have x5 : w2.cell? ⟨gX, 5, none⟩ = some (.int .i64 x.f5) := (blk_cell HX.out 5).trans rfl
  have x6 : w2.cell? ⟨gX, 6, none⟩ = some (.int .i64 x.f6) := (blk_cell HX.out 6).trans rfl
  go_wp2_with fail
  refine (ins_Def.calls x.f0 x.f1 x.f2 x.f3 x.f4 x.f5 x.f6 (defI x) w2 rfl (HGL.out.step HB.out)).mono ?_
  rintro e w3 ⟨rfl, hb3⟩
  obtain ⟨d, hd⟩ : ∃ d, d = defI x := ⟨_, rfl⟩
  rw [← hd]
  replace HX := Aside0.mk (blk_below HX.out hb3)
  replace HK := Aside0.mk (HK.out.below hb3)
  replace HM := Aside0.mk (HM.out.below hb3)
  replace HB := Aside0.mk (HB.out.trans (hb3.mono HB.out.size))
  clear hb3 x0 x1 x2 x3 x4 x5 x6
  by_cases h0 : 0 ≤ d
  · have hd0 : decide (d ≥ 0) = true := decide_eq_true h0
    have hd1 : decide (0 ≤ d) = true := decide_eq_true h0
    have hdI : 0 ≤ defI x := hd ▸ h0
    have HR := Aside0.mk (show kbehL l x = if (valQ (kgetL l) x).2 = true then kdelL l d ++ [(d, (valQ (kgetL l) x).1)] else kdelL l d by unfold kbehL; rw [if_pos hdI, hd])
    clear hd hdI
    have x0 : w3.cell? ⟨gX, 0, none⟩ = some (.int .i64 x.f0) := (blk_cell HX.out 0).trans rfl
    have x1 : w3.cell? ⟨gX, 1, none⟩ = some (.int .i64 x.f1) := (blk_cell HX.out 1).trans rfl
    have x2 : w3.cell? ⟨gX, 2, none⟩ = some (.int .i64 x.f2) := (blk_cell HX.out 2).trans rfl
    have x3 : w3.cell? ⟨gX, 3, none⟩ = some (.int .i64 x.f3) := (blk_cell HX.out 3).trans rfl
    have x4 : w3.cell? ⟨gX, 4, none⟩ = some (.int .i64 x.f4) := (blk_cell HX.out 4).trans rfl
    have x5 : w3.cell? ⟨gX, 5, none⟩ = some (.int .i64 x.f5) := (blk_cell HX.out 5).trans rfl
    have x6 : w3.cell? ⟨gX, 6, none⟩ = some (.int .i64 x.f6) := (blk_cell HX.out 6).trans rfl
    go_wp2_with fail
    refine (fvalue.calls b l x w3 HK.out HOK.out).mono ?_
    rintro e w4 ⟨rfl, hb4⟩
    obtain ⟨⟨u, iu⟩, hu⟩ : ∃ q, q = valQ (kgetL l) x := ⟨_, rfl⟩
    rw [← hu] at HR ⊢
    replace HM := Aside0.mk (HM.out.below hb4)
    replace HB := Aside0.mk (HB.out.trans (hb4.mono HB.out.size))
    clear hb4 x0 x1 x2 x3 x4 x5 x6 HK HX hu
    dsimp only
    dsimp only at HR
    have HM1 := Aside0.mk HM.out.1
    cases iu
    · rw [if_neg (by simp)] at HR
      go_wp2_with (first | (at_delete; refine wpList_delete_im _ rfl _ _ 60 3 2 rfl Tryd.underlying60 rfl gm l.length (kvL l) rfl HM1.out d rfl ?_; intro w5 hi5 hg5 hs5; have HI5 := Aside0.mk (hi5.congr (kv_del l d) rfl); have HG5 := Aside0.mk hg5; clear hi5 hg5 hs5))
      go_ret
      exact ⟨gm, rfl, HGM.out, KM.of (HR.out ▸ HI5.out) HND.out, HB.out.grown HG5.out HB.out.size (fun k hk => by rw [← Option.some.inj hk]; exact HGM.out)⟩
    · rw [if_pos rfl] at HR
      go_wp2_with (first | (at_delete; refine wpList_delete_im _ rfl _ _ 60 3 2 rfl Tryd.underlying60 rfl gm l.length (kvL l) rfl HM1.out d rfl ?_; intro w5 hi5 hg5 hs5; have HI5 := Aside0.mk (hi5.congr (kv_del l d) rfl); have HG5 := Aside0.mk hg5; clear hi5 hg5 hs5) | (at_mapUpdate; refine wpList_update_im _ rfl _ _ _ 60 rfl 3 2 Tryd.underlying60 rfl gm _ (kvL (kdelL l d)) rfl HI5.out d (.int .i64 u) rfl rfl ?_; intro w6 hi6 hg6 hs6; have HI6 := Aside0.mk (hi6.congr (kv_put l d u) rfl); have HG6 := Aside0.mk (World.grownBy.trans HG5.out hg6); clear hi6 hg6 hs6))
      go_ret
      exact ⟨gm, rfl, HGM.out, KM.of (HR.out ▸ HI6.out) HND.out, HB.out.grown HG6.out HB.out.size (fun k hk => by rw [← Option.some.inj hk]; exact HGM.out)⟩
  · have hd0 : decide (d ≥ 0) = false := decide_eq_false h0
    have hd1 : decide (0 ≤ d) = false := decide_eq_false h0
    have hdI : ¬ 0 ≤ defI x := hd ▸ h0
    have HR := Aside0.mk (show kbehL l x = l by unfold kbehL; rw [if_neg hdI])
    clear hd hdI
    go_wp2_with fail
    go_ret
    exact ⟨gm, rfl, HGM.out, by rw [HR.out]; exact HM.out, HB.out⟩
end Go.Proofs.YtfhjkkcdeigkdaaDoor.PFoldRuns

namespace Go.Proofs.YtfhjkkcdeigkdaaDoor.PFoldRuns
open Go.RowKit Go.Proofs.YtfhjkkcdeigkdaaDoorW.PrintWords Go.Proofs.YtfhjkkcdeigkdaaDoorW.PrintLast Go.Proofs.YtfhjkkcdeigkdaaDoorW.PrintMore
set_option linter.unusedVariables false
set_option linter.unusedSimpArgs false
open Go.MapKept Go.RowKit
/-! fold: what two agree in. -/
/-- so far: what is left to be visited, and what was visited and stays -/
def mtF (a b : KL) (left : Int → Bool) : Int → Option Value := fun i => if left i = true then kvL a i else kvL (kmeetL a b) i
theorem mtF_at {a b : KL} {left : Int → Bool} {i : Int} (h : left i = true) : mtF a b left i = kvL a i := if_pos h
theorem mtF_off {a b : KL} {left : Int → Bool} {i : Int} (h : left i = false) : mtF a b left i = kvL (kmeetL a b) i := if_neg (by rw [h]; simp)
theorem mtF_step (a b : KL) (left : Int → Bool) {i j : Int} (hj : j ≠ i) : mtF a b (fun j => left j && !(j == i)) j = mtF a b left j := by
  have e : (left j && !(j == i)) = left j := by rw [show (j == i) = false by simpa using hj]; simp
  cases h : left j with
  | true => rw [mtF_at (left := left) h, mtF_at (left := fun j => left j && !(j == i)) (e.trans h)]
  | false => rw [mtF_off (left := left) h, mtF_off (left := fun j => left j && !(j == i)) (e.trans h)]
theorem mtF_here (a b : KL) (left : Int → Bool) (i : Int) : mtF a b (fun j => left j && !(j == i)) i = kvL (kmeetL a b) i := mtF_off (left := fun j => left j && !(j == i)) (by simp)
theorem kv_meet {a : KL} (h : NdK a) (b : KL) (i : Int) : kvL (kmeetL a b) i = if kgetL a i = kgetL b i then kvL a i else none := by
  unfold kvL
  rw [kget_meet h]
  unfold metK
  split <;> rfl
theorem IR.congr {w : World} {b r n cnt : Nat} {f g : Int → Option Value} {left : Int → Bool} (h : IR w b r f n left cnt) (hg : ∀ i, f i = g i) : IR w b r g n left cnt := by
  rwa [show f = g from funext hg] at h
set_option maxRecDepth 100000 in
set_option maxHeartbeats 8000000 in
theorem fmeet.calls (b1 b2 : Nat) (l1 l2 : KL) (w : World) (h1 : KM w b1 l1) (h2 : KM w b2 l2) (hne : b1 ≠ b2) :
    Calls Tryd.prog 36 #[.map (some b1), .map (some b2)] w fun e w' => e = .returned (.bool (decide ((kmeetL l1 l2).length < l1.length))) ∧ KM w' b1 (kmeetL l1 l2) ∧ w.grownBy w' (some b1) := by
  have HK1 := Aside0.mk h1.1
  have HN1 := Aside0.mk h1.2
  have HK2 := Aside0.mk h2.1
  have HNE := Aside0.mk hne
  clear h1 h2 hne
  go_enter Tryd.func36, Tryd.ntmps36
  go_wp2_with (first
    | (at_len; refine wpList_len_im _ rfl _ 60 3 2 rfl Tryd.underlying60 b1 l1.length (kvL l1) rfl HK1.out ?_)
    | (at_range; refine wpList_range_im _ rfl _ 60 rfl 3 2 Tryd.underlying60 b1 l1.length (kvL l1) rfl HK1.out ?_; intro w2 hrg0 hg0 hs0))
  have HRG0 := Aside0.mk (hrg0.congr (g := mtF l1 l2 (fun i => (kvL l1 i).isSome)) (fun i => by
    show kvL l1 i = if (kvL l1 i).isSome = true then kvL l1 i else kvL (kmeetL l1 l2) i
    by_cases h : (kvL l1 i).isSome = true
    · rw [if_pos h]
    · rw [if_neg h, kv_meet HN1.out, Option.not_isSome_iff_eq_none.1 h]
      split <;> rfl))
  have HG0 := Aside0.mk (hg0.but (some b1) : w.grownBy w2 (some b1))
  obtain ⟨r, hr⟩ : ∃ r, r = w.heap.size := ⟨_, rfl⟩
  rw [← hr] at HRG0 ⊢
  have HR0 := Aside0.mk hr
  clear hrg0 hg0 hs0 hr
  (try go_frame)
  go_loopw [6, 7, 8, 9] (fun _ _ _ _ wr => ∃ (left : Int → Bool) (cnt n : Nat), Aside0 (IR wr b1 r (mtF l1 l2 left) n left cnt) ∧ Aside0 (w.grownBy wr (some b1))) (fun _ _ _ _ wr => wr.rangeLeft b1 r)
  case atStart => exact ⟨_, _, _, HRG0, HG0⟩
  case round =>
    clear HRG0 HG0
    obtain ⟨left, cnt, n, HRG, HG⟩ := hrel
    go_wp2_with (first
      | (at_next; refine wpList_next_im _ rfl _ rfl b1 r n _ _ _ rfl HRG.out ?_ ?_)
      | go_in)
    · intro hc0 hl0
      have HM := Aside0.mk (KM.of ((HRG.out.im).congr (fun i => by unfold mtF; rw [hl0 i, if_neg (by simp)]) rfl) (show NdK (kmeetL l1 l2) from nd_filter HN1.out _))
      clear hc0 hl0
      have HM1 := Aside0.mk HM.out.1
      go_wp2_with (first
        | (at_len; refine wpList_len_im _ rfl _ 60 3 2 rfl Tryd.underlying60 b1 (kmeetL l1 l2).length (kvL (kmeetL l1 l2)) rfl HM1.out ?_)
        | go_in)
      go_ret
      exact ⟨by first | rfl | simp, HM.out, HG.out⟩
    · intro i v w3 cnt' hli hfi hrg3 hlt3 hg3 hs3 hent
      have hv1 : kvL l1 i = some v := by unfold mtF at hfi; rw [if_pos hli] at hfi; exact hfi
      obtain ⟨u, hu, rfl⟩ := Option.map_eq_some_iff.1 hv1
      have HRG3 := Aside0.mk hrg3
      have HG3 := Aside0.mk (HG.out.andThen hg3 (fun j hj => .inl (by cases hj; have := HR0.out; omega)))
      have HUX := Aside0.mk hu
      have HLI := Aside0.mk hlt3
      have G := Aside0.mk (kv_get l2 i)
      have K2 := Aside0.mk (HK2.out.move (HG3.out.block b2 HK2.out.lt (fun e => HNE.out (Option.some.inj e).symm)))
      have hll : (left i && !(i == i)) = false := by simp
      have HLL := Aside0.mk hll
      obtain ⟨⟨m, im⟩, hm⟩ : ∃ q, q = knQ (kgetL l2) i := ⟨_, rfl⟩
      rw [← hm] at G
      have HQ := Aside0.mk hm
      clear hli hfi hrg3 hlt3 hg3 hs3 hv1 hu hm hll
      dsimp only at G
      cases im with
      | false =>
        have HNE2 := Aside0.mk (show ¬ kgetL l1 i = kgetL l2 i by
          have hq := HQ.out
          unfold knQ at hq
          rw [HUX.out]
          intro e
          rw [← e] at hq
          cases hq)
        go_wp2_with (first
          | (at_lookup; refine wpList_lookup_ok_im _ rfl _ _ 60 rfl 3 2 Tryd.underlying60 rfl _ (zeroI64 _) b2 l2.length (kvL l2) rfl K2.out i rfl ?_; rw [G.out.1, G.out.2])
          | (at_delete; refine wpList_delete_ir _ rfl _ _ 60 3 2 rfl Tryd.underlying60 rfl b1 r n cnt' _ _ rfl HRG3.out i HLL.out rfl ?_; intro w5 n5 hi5 hg5; have HI5 := Aside0.mk hi5; have HG5 := Aside0.mk hg5; clear hi5 hg5; (try go_frame))
          | go_in)
        have HIR := Aside0.mk (HI5.out.congr (g := mtF l1 l2 (fun j => left j && !(j == i))) (fun j => by
          unfold del
          by_cases hj : j = i
          · rw [if_pos hj, hj, mtF_here, kv_meet HN1.out, if_neg HNE2.out]
          · rw [if_neg hj, mtF_step _ _ _ hj]))
        go_roundw
        case measure => rw [HIR.out.left_eq, HRG.out.left_eq]; exact HLI.out
        case rel => exact ⟨_, _, _, HIR, ⟨HG3.out.andThen HG5.out (fun j hj => .inr hj)⟩⟩
      | true =>
        have hl2 : kgetL l2 i = some m := by
          have hq := HQ.out
          unfold knQ at hq
          cases h2 : kgetL l2 i with
          | none => rw [h2] at hq; cases hq
          | some z => rw [h2] at hq; simp at hq; rw [hq]
        by_cases hmu : m = u
        · have e1 : (m != u) = false := bne_eq_false_iff_eq.2 hmu
          have HEQ := Aside0.mk (show kgetL l1 i = kgetL l2 i by rw [HUX.out, hl2, hmu])
          clear hl2 hmu
          go_wp2_with (first
          | (at_lookup; refine wpList_lookup_ok_im _ rfl _ _ 60 rfl 3 2 Tryd.underlying60 rfl _ (zeroI64 _) b2 l2.length (kvL l2) rfl K2.out i rfl ?_; rw [G.out.1, G.out.2])
          
          | go_in)
          have HIR := Aside0.mk (HRG3.out.congr (g := mtF l1 l2 (fun j => left j && !(j == i))) (fun j => by
            by_cases hj : j = i
            · rw [hj, mtF_here, kv_meet HN1.out, if_pos HEQ.out]
              cases h : left i with
              | true => exact mtF_at h
              | false => rw [mtF_off h, kv_meet HN1.out, if_pos HEQ.out]
            · exact (mtF_step _ _ _ hj).symm))
          go_roundw
          case measure => rw [HIR.out.left_eq, HRG.out.left_eq]; exact HLI.out
          case rel => exact ⟨_, _, _, HIR, HG3⟩
        · have e1 : (m != u) = true := bne_iff_ne.2 hmu
          have HNE2 := Aside0.mk (show ¬ kgetL l1 i = kgetL l2 i by
            rw [HUX.out, hl2]
            exact fun e => hmu (Option.some.inj e).symm)
          clear hl2 hmu
          go_wp2_with (first
          | (at_lookup; refine wpList_lookup_ok_im _ rfl _ _ 60 rfl 3 2 Tryd.underlying60 rfl _ (zeroI64 _) b2 l2.length (kvL l2) rfl K2.out i rfl ?_; rw [G.out.1, G.out.2])
          | (at_delete; refine wpList_delete_ir _ rfl _ _ 60 3 2 rfl Tryd.underlying60 rfl b1 r n cnt' _ _ rfl HRG3.out i HLL.out rfl ?_; intro w5 n5 hi5 hg5; have HI5 := Aside0.mk hi5; have HG5 := Aside0.mk hg5; clear hi5 hg5; (try go_frame))
          | go_in)
          have HIR := Aside0.mk (HI5.out.congr (g := mtF l1 l2 (fun j => left j && !(j == i))) (fun j => by
            unfold del
            by_cases hj : j = i
            · rw [if_pos hj, hj, mtF_here, kv_meet HN1.out, if_neg HNE2.out]
            · rw [if_neg hj, mtF_step _ _ _ hj]))
          go_roundw
          case measure => rw [HIR.out.left_eq, HRG.out.left_eq]; exact HLI.out
          case rel => exact ⟨_, _, _, HIR, ⟨HG3.out.andThen HG5.out (fun j hj => .inr hj)⟩⟩
end Go.Proofs.YtfhjkkcdeigkdaaDoor.PFoldRuns

namespace Go.Proofs.YtfhjkkcdeigkdaaDoor.PFoldRuns
open Go.RowKit Go.Proofs.YtfhjkkcdeigkdaaDoorW.PrintWords Go.Proofs.YtfhjkkcdeigkdaaDoorW.PrintLast Go.Proofs.YtfhjkkcdeigkdaaDoorW.PrintMore
set_option linter.unusedVariables false
set_option linter.unusedSimpArgs false
open Go.MapKept Go.RowKit
/-! fold.all: its rows of maps, and its queue, in memory. -/
section
variable {w w' : World} {base : Nat} {e : TypeId} {v : Value} {xs : List Int}
theorem QR.C (h : QR w base e v xs) : ∃ A c, v = .slice A xs.length c ∧ xs.length ≤ c ∧ Kd.C (Kd.int .i64) w A xs.length xs := by
  rcases h with ⟨rfl, rfl⟩ | ⟨g, off, cap, cur, rfl, _, hg, ho, hn, hm, hc⟩
  · exact ⟨none, 0, rfl, Nat.le_refl _, rfl, by simp, fun h => absurd h (by simp)⟩
  · refine ⟨_, _, rfl, hn, rfl, by unfold maxLen at hm; omega, fun _ => ⟨_, rfl, fun j p hj => ⟨[.int .i64 p], rfl, rfl, fun i u hu => ?_⟩⟩⟩
    have hi : i = 0 := by have := (List.getElem?_eq_some_iff.1 hu).1; simp at this; omega
    subst hi
    simp at hu
    subst hu
    rw [show (Kd.int .i64).sz = 1 from rfl, Nat.mul_one, Nat.add_zero, Addr.add_lit, cell_of_row w g (off + j) cur e (0, 0) hg]
    exact hc j p hj
theorem QR.tail {y : Int} (h : QR w base e v (y :: xs)) : ∃ g off c, v = .slice (some ⟨g, off, none⟩) (xs.length + 1) (c + 1) ∧ xs.length ≤ c ∧ w.cell? ⟨g, off, none⟩ = some (.int .i64 y) ∧ QR w base e (.slice (if c = 0 then some ⟨g, off, none⟩ else some ⟨g, off + 1, none⟩) xs.length c) xs := by
  rcases h with ⟨_, h⟩ | ⟨g, off, cap, cur, rfl, hb, hg, ho, hn, hm, hc⟩
  · cases h
  · obtain ⟨c, rfl⟩ : ∃ c, cap = c + 1 := ⟨cap - 1, by simp at hn; omega⟩
    refine ⟨g, off, c, by simp, by simpa using hn, ?_, ?_⟩
    · rw [cell_of_row w g off cur e (0, 0) hg]
      exact hc 0 y rfl
    · by_cases hc0 : c = 0
      · rw [if_pos hc0]
        obtain rfl : xs = [] := List.eq_nil_of_length_eq_zero (by simp at hn; omega)
        exact .inr ⟨g, off, c, cur, rfl, hb, hg, by omega, by simp, by omega, fun j x hj => by simp at hj⟩
      · rw [if_neg hc0]
        refine .inr ⟨g, off + 1, c, cur, rfl, hb, hg, by omega, by simpa using hn, by omega, fun j x hj => ?_⟩
        rw [show off + 1 + j = off + (j + 1) by omega]
        exact hc (j + 1) x (by simpa using hj)
theorem QR.one (w : World) (y : Int) (hb : base ≤ w.heap.size) : QR (w.alloc (.cells #[.int .i64 y] e)) base e (.slice (some ⟨w.heap.size, 0, none⟩) 1 1) [y] :=
  .inr ⟨w.heap.size, 0, 1, _, rfl, hb, blk_new w _, Nat.le_refl _, Nat.le_refl _, by unfold maxLen; omega, fun j x hj => by
    cases j with
    | zero => simp at hj; subst hj; rfl
    | succ j => simp at hj⟩
theorem QR.blk (h : QR w base e v xs) : ∀ k, v.ownBlock = some k → ∃ cur, w.heap[k]? = some (.cells cur e (0, 0)) := by
  rcases h with ⟨rfl, _⟩ | ⟨g, off, cap, cur, rfl, _, hg, _⟩
  · intro k hk; cases hk
  · intro k hk
    obtain rfl : g = k := Option.some.inj hk
    exact ⟨cur, hg⟩
end
theorem KM.noCells {w : World} {b : Nat} {l : KL} (h : KM w b l) {cs : Array Value} {t : TypeId} {fr : Nat × Nat} (hc : w.heap[b]? = some (.cells cs t fr)) : False := by
  obtain ⟨⟨es, clock, hb, _⟩, _⟩ := h
  rw [hb] at hc
  cases hc
/-- the row of maps -/
structure FE (W : World) (base g : Nat) (xb : List (Option Nat)) (o : OS) : Prop where
  hg : W.heap[g]? = some (.cells (xb.map Value.map).toArray 60 (0, 0))
  len : xb.length = o.length
  km : ∀ (i b : Nat), xb[i]? = some (some b) → ∃ m, o.getD i none = some m ∧ KM W b m
  no : ∀ i : Nat, xb[i]? = some none → o.getD i none = none
  inj : ∀ i j b : Nat, xb[i]? = some (some b) → xb[j]? = some (some b) → i = j
  lg : base ≤ g
  lb : ∀ i b : Nat, xb[i]? = some (some b) → base ≤ b
section
variable {W W' : World} {base g : Nat} {xb : List (Option Nat)} {o : OS}
theorem FE.move (h : FE W base g xb o) (hm : ∀ k, (k = g ∨ ∃ i : Nat, xb[i]? = some (some k)) → W'.heap[k]? = W.heap[k]?) : FE W' base g xb o :=
  ⟨(hm g (.inl rfl)).trans h.hg, h.len, fun i b hb => by
    obtain ⟨m, h1, h2⟩ := h.km i b hb
    exact ⟨m, h1, h2.move (hm b (.inr ⟨i, hb⟩))⟩, h.no, h.inj, h.lg, h.lb⟩
theorem FE.lt (h : FE W base g xb o) {k : Nat} (hk : k = g ∨ ∃ i : Nat, xb[i]? = some (some k)) : k < W.heap.size := by
  rcases hk with rfl | ⟨i, hi⟩
  · exact blk_lt h.hg
  · obtain ⟨m, _, h2⟩ := h.km i k hi
    exact h2.1.lt
theorem FE.below (h : FE W base g xb o) (hb : Below W.heap.size W W') : FE W' base g xb o := h.move (fun k hk => hb.block k (h.lt hk))
theorem FE.grown (h : FE W base g xb o) {row : Option Nat} (hg : W.grownBy W' row) (hr : ∀ k, row = some k → k ≠ g ∧ ∀ i : Nat, xb[i]? ≠ some (some k)) : FE W' base g xb o :=
  h.move (fun k hk => hg.block k (h.lt hk) (fun e => by
    obtain ⟨h1, h2⟩ := hr k e.symm
    rcases hk with hk | ⟨i, hi⟩
    · exact h1 hk
    · exact h2 i hi))
/-- what lies at a place -/
theorem FE.cell (h : FE W base g xb o) {i : Nat} (hi : i < o.length) : ∃ q, xb[i]? = some q ∧ W.cell? ⟨g, i, none⟩ = some (.map q) ∧ W.frozen? ⟨g, i, none⟩ = false ∧ (∀ b, q = some b → ∃ m, o.getD i none = some m ∧ KM W b m) ∧ (q = none → o.getD i none = none) := by
  have hl : i < xb.length := by rw [h.len]; exact hi
  refine ⟨xb[i], List.getElem?_eq_getElem hl, ?_, blk_frozen h.hg i, fun b hb => h.km i b (by rw [List.getElem?_eq_getElem hl, hb]), fun hq => h.no i (by rw [List.getElem?_eq_getElem hl, hq])⟩
  rw [blk_cell h.hg i]
  simp [hl]
/-- a new map is laid at a place -/
theorem FE.lay (h : FE W base g xb o) {i b : Nat} {m : KL} (hi : i < o.length) (hb : KM W b m) (hnew : ∀ j : Nat, xb[j]? ≠ some (some b)) (hbb : base ≤ b) : FE (W.setCell ⟨g, i, none⟩ (.map (some b))) base g (xb.set i (some b)) (o.set i (some m)) := by
  have hne : b ≠ g := fun e => hb.noCells (e ▸ h.hg)
  have hl : i < xb.length := by rw [h.len]; exact hi
  have far : ∀ k, k ≠ g → (W.setCell ⟨g, i, none⟩ (.map (some b))).heap[k]? = W.heap[k]? := fun k hk => Below.heap_setCell W ⟨g, i, none⟩ _ k hk
  have gx : ∀ j, (xb.set i (some b))[j]? = if j = i then some (some b) else xb[j]? := fun j => by
    rw [List.getElem?_set]
    by_cases hj : i = j
    · rw [if_pos hj, if_pos hl, if_pos hj.symm]
    · rw [if_neg hj, if_neg (fun e => hj e.symm)]
  have gm : ∀ (j k : Nat), (xb.set i (some b))[j]? = some (some k) → (j = i ∧ k = b) ∨ (j ≠ i ∧ xb[j]? = some (some k)) := fun j k hj => by
    rw [gx] at hj
    split at hj
    · rename_i e; exact .inl ⟨e, (Option.some.inj (Option.some.inj hj)).symm⟩
    · rename_i e; exact .inr ⟨e, hj⟩
  refine ⟨?_, by simp [h.len], fun j k hj => ?_, fun j hj => ?_, fun j j' k hj hj' => ?_, h.lg, fun j k hj => ?_⟩
  · have := blk_set h.hg i (.map (some b))
    rw [this]
    congr 2
    simp
  · rw [osGet_set o i j (some m) hi]
    rcases gm j k hj with ⟨rfl, rfl⟩ | ⟨hji, hj⟩
    · rw [if_pos rfl]
      exact ⟨m, rfl, hb.move (far _ hne)⟩
    · rw [if_neg hji]
      obtain ⟨m', h1, h2⟩ := h.km j k hj
      exact ⟨m', h1, h2.move (far k (fun e => h2.noCells (e ▸ h.hg)))⟩
  · rw [osGet_set o i j (some m) hi]
    rw [gx] at hj
    split at hj
    · cases Option.some.inj hj
    · rename_i e; rw [if_neg e]; exact h.no j hj
  · rcases gm j k hj with ⟨rfl, rfl⟩ | ⟨h1, h2⟩
    · rcases gm j' k hj' with ⟨rfl, _⟩ | ⟨_, h4⟩
      · rfl
      · exact absurd h4 (hnew j')
    · rcases gm j' k hj' with ⟨_, rfl⟩ | ⟨_, h4⟩
      · exact absurd h2 (hnew j)
      · exact h.inj j j' k h2 h4
  · rcases gm j k hj with ⟨_, rfl⟩ | ⟨_, h2⟩
    · exact hbb
    · exact h.lb j k h2
/-- the map at a place has turned -/
theorem FE.turn (h : FE W base g xb o) {i b : Nat} {m : KL} (hi : xb[i]? = some (some b)) (hb : KM W' b m) (hg : W.grownBy W' (some b)) : FE W' base g xb (o.set i (some m)) := by
  have hil : i < o.length := by rw [← h.len]; exact (List.getElem?_eq_some_iff.1 hi).1
  obtain ⟨m0, h1, h2⟩ := h.km i b hi
  have far : ∀ k, k < W.heap.size → k ≠ b → W'.heap[k]? = W.heap[k]? := fun k hk hne => hg.block k hk (fun e => hne (Option.some.inj e))
  refine ⟨(far g (blk_lt h.hg) (fun e => h2.noCells (e ▸ h.hg))).trans h.hg, by simp [h.len], fun j k hj => ?_, fun j hj => ?_, h.inj, h.lg, h.lb⟩
  · rw [osGet_set o i j (some m) hil]
    by_cases hji : j = i
    · subst hji
      rw [hi] at hj
      obtain rfl := Option.some.inj (Option.some.inj hj)
      rw [if_pos rfl]
      exact ⟨m, rfl, hb⟩
    · rw [if_neg hji]
      obtain ⟨m', h3, h4⟩ := h.km j k hj
      exact ⟨m', h3, h4.move (far k h4.1.lt (fun e => hji (h.inj j i k hj (e ▸ hi))))⟩
  · rw [osGet_set o i j (some m) hil]
    by_cases hji : j = i
    · subst hji; rw [hi] at hj; cases Option.some.inj hj
    · rw [if_neg hji]; exact h.no j hj
end
theorem fmakeInfo : (Tryd.prog.info? 60).map (fun i => (i.zero, i.size, i.bytes)) = some (some (.map none), 1, 8) := by kernel_rfl
theorem fMake (w : World) (n : Nat) (hn : n ≤ 1000) : (Instr.makeSlice 61 (.int .i64 (n : Int)) (.int .i64 (n : Int))).run Tryd.prog w = .ok (.slice (some ⟨w.heap.size, 0, none⟩) n n) (w.alloc (.cells (Array.replicate n (.map none)) 60)) := by
  obtain ⟨i, hi, hh⟩ := Option.map_eq_some_iff.1 fmakeInfo
  simp only [Prod.mk.injEq] at hh
  obtain ⟨h1, h2, h3⟩ := hh
  have h := run_make (P := Tryd.prog) w 61 60 i _ Tryd.underlying61 hi h1 .i64 .i64 (n : Int) (n : Int) (by omega) (by omega) (by rw [h3]; omega) (by omega)
  have hm : madeCells (Value.map none).cells ((n : Int).toNat * 1) = Array.replicate n (.map none) := by
    unfold madeCells
    rw [Int.toNat_natCast, Nat.mul_one]
    refine Array.ext (by simp) (fun k k1 k2 => ?_)
    simp [Value.cells, Nat.mod_one]
  rw [h, h2, hm]
  rfl
theorem wpList_fmake {ops : Array Oper} {rest : List Oper} {o : Oper} {a : Act} {Q : Exit → Act → World → Prop} (w : World) (hg : o.guard = none) (x y : Operand) (hop : o.op = Op.makeSlice 61 x y) (n : Nat) (hn : n ≤ 1000) (hx : a.eval x = .int .i64 (n : Int)) (hy : a.eval y = .int .i64 (n : Int))
    (hK : wpList Tryd.prog ops Q rest (a.put o.dst (.slice (some ⟨w.heap.size, 0, none⟩) n n)) (w.alloc (.cells (Array.replicate n (.map none)) 60))) : wpList Tryd.prog ops Q (o :: rest) a w := by
  refine wpList_plain hg fun K' hK' => ?_
  unfold Oper.wp
  simp only [execOp, hop, hx, hy, Sem.run_bind, fMake w n hn, Result.andThen]
  exact hK' _ _ hK
end Go.Proofs.YtfhjkkcdeigkdaaDoor.PFoldRuns

namespace Go.Proofs.YtfhjkkcdeigkdaaDoor.PFoldRuns
open Go.RowKit Go.Proofs.YtfhjkkcdeigkdaaDoorW.PrintWords Go.Proofs.YtfhjkkcdeigkdaaDoorW.PrintLast Go.Proofs.YtfhjkkcdeigkdaaDoorW.PrintMore
set_option linter.unusedVariables false
set_option linter.unusedSimpArgs false
/-! Two of the document's machines beside each other. -/
theorem eqEvent (d : Nat) (w : World) (x0 y0 x1 y1 x2 y2 : Int) : (Op.equalIn (d + 2) 37 (.agg #[.int .i64 x0, .int .i64 x1, .int .i64 x2]) (.agg #[.int .i64 y0, .int .i64 y1, .int .i64 y2])).run Tryd.prog w = .ok (x0 == y0 && (x1 == y1 && x2 == y2)) w := by
  refine eqA_of Tryd.underlying37 (by kernel_rfl) ?_
  refine eqf_cons (by rfl) (by go_simp; rfl) (by go_simp; rfl) (by go_simp) ?_
  refine eqf_cons (by rfl) (by go_simp; rfl) (by go_simp; rfl) (by go_simp) ?_
  exact eqf_last (by rfl) (by go_simp; rfl) (by go_simp; rfl) (by go_simp)
theorem runS_len (c : List S53) : ∀ (f : Nat) (s : MSt), (runS c f s).1.regs.length ≤ s.regs.length + f ∧ (runS c f s).1.own.length ≤ s.own.length + 1 ∧ (runS c f s).1.mem.length = s.mem.length
  | 0, s => ⟨Nat.le_refl _, Nat.le_succ _, rfl⟩
  | f + 1, s => by
    rw [show runS c (f + 1) s = if (fetchS c s).f0 = 11 then ({ s with pc := wrap64 (s.pc + 1) }, (0, getG s.regs (fetchS c s).f3), 0)
    else if (fetchS c s).f0 = 9 ∨ (fetchS c s).f0 = 10 then lockS (fetchS c s) s
    else if (fetchS c s).f0 = 12 then ({ s with over := true }, (3, (fetchS c s).f5), 0)
    else if (fetchS c s).f0 = 13 then ({ s with over := true }, (4, 0), 0)
    else runS c f (plainS (fetchS c s) s) from rfl]
    split
    · exact ⟨Nat.le_add_right _ _, Nat.le_succ _, rfl⟩
    split
    · unfold lockS
      split
      · exact ⟨Nat.le_add_right _ _, Nat.le_succ _, rfl⟩
      · refine ⟨Nat.le_add_right _ _, ?_, rfl⟩
        have := List.length_filter_le (fun y : S88 => !(y.f0 == (fetchS c s).f5)) s.own
        show (List.filter _ _ ++ _).length ≤ _
        rw [List.length_append]
        split <;> simp <;> omega
    split
    · exact ⟨Nat.le_add_right _ _, Nat.le_succ _, rfl⟩
    split
    · exact ⟨Nat.le_add_right _ _, Nat.le_succ _, rfl⟩
    · have ih := runS_len c f (plainS (fetchS c s) s)
      have hp := plainS_len (fetchS c s) s
      rw [plainS_own] at ih
      omega
theorem nextS_len (c : List S53) (f : Nat) (s : MSt) : (nextS c f s).1.regs.length ≤ s.regs.length + f ∧ (nextS c f s).1.own.length ≤ s.own.length + 1 ∧ (nextS c f s).1.mem.length = s.mem.length := by
  unfold nextS
  split
  · exact ⟨Nat.le_add_right _ _, Nat.le_succ _, rfl⟩
  · exact runS_len c f s
/-- a machine, and the blocks that are its own -/
def MS (W w0 : World) (F : Nat → Prop) (b gC gT : Nat) (A0 : Option Addr) (n0 c0 : Nat) (vM : Value) (s : MSt) : Prop := ∃ vO vG, MO W w0.heap.size F b gC gT A0 n0 c0 vM vO s.mem s.own ∧ MT W w0.heap.size F gT vG s.regs s.pc s.over ∧ ∀ k, F k → k < W.heap.size
section
variable {W W' w0 : World} {F F' : Nat → Prop} {b gC gT : Nat} {A0 : Option Addr} {n0 c0 : Nat} {vM : Value} {s : MSt}
theorem MS.below (h : MS W w0 F b gC gT A0 n0 c0 vM s) (hb : Below W.heap.size W W') : MS W' w0 F b gC gT A0 n0 c0 vM s := by
  obtain ⟨vO, vG, h1, h2, h3⟩ := h
  exact ⟨vO, vG, h1.below hb, h2.below hb, fun k hk => Nat.lt_of_lt_of_le (h3 k hk) hb.size⟩
theorem MS.other (h : MS W w0 F b gC gT A0 n0 c0 vM s) (hk : Kept W W' F') (hd : ∀ k, F k → ¬ F' k) : MS W' w0 F b gC gT A0 n0 c0 vM s := by
  obtain ⟨vO, vG, h1, h2, h3⟩ := h
  have hm : ∀ k, F k → k < W.heap.size → W'.heap[k]? = W.heap[k]? := fun k h h' => hk.2 k h' (hd k h)
  exact ⟨vO, vG, h1.move hm, h2.move h1.fb.2.2 hm, fun k hk' => Nat.lt_of_lt_of_le (h3 k hk') hk.1⟩
theorem MS.tight (hO : ∃ vO vG, MO W w0.heap.size F b gC gT A0 n0 c0 vM vO s.mem s.own ∧ MT W w0.heap.size F gT vG s.regs s.pc s.over) : MS W w0 (fun k => F k ∧ k < W.heap.size) b gC gT A0 n0 c0 vM s := by
  obtain ⟨vO, vG, h1, h2⟩ := hO
  exact ⟨vO, vG, h1.tight (blk_lt h2.hT), h2.tight, fun k hk => hk.2⟩
theorem MS.mem (h : MS W w0 F b gC gT A0 n0 c0 vM s) : W.heap[b]? = W.heap[b]? ∧ W.cell? ⟨b, 1, none⟩ = some vM ∧ Kd.R (Kd.int .i64) 2 W w0.heap.size F vM s.mem := by
  obtain ⟨vO, vG, h1, h2, h3⟩ := h
  exact ⟨rfl, (blk_cell h1.hb 1).trans rfl, h1.rM⟩
end
/-- a new one -/
theorem ms_new (w0 W : World) (gC : Nat) (A0 : Option Addr) (n0 c0 : Nat) (A1 : Option Addr) (c1 : Nat) (mem : List Int) (hC : W.heap[gC]? = some (.cells #[.slice A0 n0 c0] 28 (0, 0))) (hg : w0.heap.size ≤ gC)
    (hm : Kd.C (Kd.int .i64) W A1 mem.length mem) (hc1 : mem.length ≤ c1) (hB : Below w0.heap.size w0 W) (hl : mem.length ≤ 1000000) :
    Calls Tryd.prog 14 #[.slice (some ⟨gC, 0, none⟩) 1 1, .slice A1 mem.length c1] W fun e W' => ∃ (b gT : Nat) (vM : Value) (F : Nat → Prop), e = .returned (.pointer (some ⟨b, 0, none⟩)) ∧ Aside0 (MS W' w0 F b gC gT A0 n0 c0 vM ⟨mem, [], [], 0, false⟩) ∧ Aside0 (∀ k, F k → k = gC ∨ W.heap.size ≤ k) ∧ Aside0 (Below W.heap.size W W') := by
  refine (mnew.calls w0 W gC A0 n0 c0 A1 c1 mem hC hg hm hc1 hB hl).mono ?_
  rintro e W' ⟨b, gT, vM, he, h1, h2, h3⟩
  exact ⟨b, gT, vM, _, he, ⟨MS.tight (s := ⟨mem, [], [], 0, false⟩) ⟨_, _, h1, h2⟩⟩, ⟨fun k hk => hk.1⟩, ⟨h3⟩⟩
/-- its turn -/
theorem ms_next (c : List S53) (f : Nat) (fI : Int) (w0 W : World) (F : Nat → Prop) (b gC gT : Nat) (A0 : Option Addr) (c0 : Nat) (vM : Value) (s : MSt) (N : MSt × (Int × Int) × Int) (hc : Kd.C k53 w0 A0 c.length c) (hc0 : c.length ≤ c0)
    (hM : MS W w0 F b gC gT A0 c.length c0 vM s) (hB : Below w0.heap.size w0 W) (hl : s.regs.length + f ≤ 800000) (ho : s.own.length ≤ 800000) (hm : s.mem.length ≤ 1000000) (hf : f ≤ 800000) (hfI : fI = (f : Int)) (hN : N = nextS c f s) :
    Calls Tryd.prog 15 #[.pointer (some ⟨b, 0, none⟩), .int .i64 0, .int .i64 fI] W fun e W' => e = .returned (.tuple #[.agg #[.int .i64 N.2.1.1, .int .i64 0, .int .i64 N.2.1.2], .int .i64 N.2.2]) ∧
      ∃ F', Aside0 (MS W' w0 F' b gC gT A0 c.length c0 vM N.1) ∧ Aside0 (∀ k, F' k → F k ∨ W.heap.size ≤ k) ∧ Aside0 (Below w0.heap.size w0 W') ∧ Aside0 (Kept W W' F) := by
  subst hfI
  subst hN
  obtain ⟨vO, vG, h1, h2, h3⟩ := hM
  refine (mnext.calls c f w0 W F b gC gT A0 c0 vM vO vG s hc hc0 h1 h2 hB hl ho hm hf).mono ?_
  rintro e W' ⟨he, vO', vG', k1, k2, k3, k4⟩
  exact ⟨he, _, ⟨MS.tight ⟨vO', vG', k1, k2⟩⟩, ⟨fun k hk => hk.1⟩, ⟨k3⟩, ⟨k4⟩⟩
end Go.Proofs.YtfhjkkcdeigkdaaDoor.PFoldRuns

namespace Go.Proofs.YtfhjkkcdeigkdaaDoor.PFoldRuns
open Go.RowKit Go.Proofs.YtfhjkkcdeigkdaaDoorW.PrintWords Go.Proofs.YtfhjkkcdeigkdaaDoorW.PrintLast Go.Proofs.YtfhjkkcdeigkdaaDoorW.PrintMore
set_option linter.unusedVariables false
set_option linter.unusedSimpArgs false
open Go.MapKept Go.RowKit
/-! What a machine's cells hold. -/
theorem MS.see {W w0 : World} {F : Nat → Prop} {b gC gT : Nat} {A0 : Option Addr} {n0 c0 : Nat} {vM : Value} {s : MSt} (h : MS W w0 F b gC gT A0 n0 c0 vM s) :
    ∃ Ag cg, W.cell? ⟨b, 3, none⟩ = some (.slice (some ⟨gT, 0, none⟩) 1 1) ∧ W.cell? ⟨gT, 0, none⟩ = some (.int .i64 s.pc) ∧ W.cell? ⟨gT, 1, none⟩ = some (.slice Ag s.regs.length cg) ∧ W.cell? ⟨gT, 2, none⟩ = some (.bool s.over) ∧ Kd.C k69 W Ag s.regs.length s.regs ∧ s.regs.length ≤ cg := by
  obtain ⟨vO, vG, h1, h2, h3⟩ := h
  obtain ⟨Ag, cg, eg⟩ := Kd.R_slice h2.rG
  have hr := h2.rG
  rw [eg] at hr
  have hT := h2.hT
  rw [eg] at hT
  exact ⟨Ag, cg, (blk_cell h1.hb 3).trans rfl, (blk_cell hT 0).trans rfl, (blk_cell hT 1).trans rfl, (blk_cell hT 2).trans rfl, (Kd.R_reads' hr).2.2, (Kd.R_reads' hr).2.1⟩
end Go.Proofs.YtfhjkkcdeigkdaaDoor.PFoldRuns
