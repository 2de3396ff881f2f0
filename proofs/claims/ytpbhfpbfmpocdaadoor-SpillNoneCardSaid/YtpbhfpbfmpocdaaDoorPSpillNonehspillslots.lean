-- HAND paling/spill.Slots rounds=1 making=1 needs=paling/alloc.Spilled;slices.Contains[[]int,int]
import Derived.Test.YtpbhfpbfmpocdaaDoorPSpillNonex0
import Derived.Test.YtpbhfpbfmpocdaaDoorPSpillNonex2
namespace Go.Proofs.YtpbhfpbfmpocdaaDoor.PSpillNone
open Go.RowKit Go.Proofs.YtpbhfpbfmpocdaaDoorW.PrintWords Go.Proofs.YtpbhfpbfmpocdaaDoorW.PrintLast Go.Proofs.YtpbhfpbfmpocdaaDoorW.PrintMore
set_option linter.unusedVariables false
set_option linter.unusedSimpArgs false

def spill_Slots.l0 : Nat → List Int → List Int → Int → Int → Int → Option (Int × Int)
  | 0, _, _, _, _, _ => none
  | k + 1, s, sp, a, b, i => if i < sp.length then (slices_Contains_int_int.f k s (rd sp i)).bind fun c => if c = true then spill_Slots.l0 k s sp a (wrap64 (b + 1)) (wrap64 (i + 1)) else spill_Slots.l0 k s sp (wrap64 (a + 1)) b (wrap64 (i + 1)) else some (a, b)
def spill_Slots.f (k : Nat) (l0 : List S45) (l1 : List Int) : Option (Int × Int) := (alloc_Spilled.f k l0).bind fun sp => spill_Slots.l0 k l1 sp 0 0 0
theorem spill_Slots.mono_l : ∀ k s sp a b i, LeO (spill_Slots.l0 k s sp a b i) (spill_Slots.l0 (k + 1) s sp a b i)
  | 0 => fun _ _ _ _ _ r h => by simp [spill_Slots.l0] at h
  | k + 1 => fun s sp a b i => by
    unfold spill_Slots.l0
    exact LeO.ite (LeO.bind (slices_Contains_int_int.mono _ _ _) (fun c => LeO.ite (spill_Slots.mono_l k _ _ _ _ _) (spill_Slots.mono_l k _ _ _ _ _))) (LeO.refl _)
theorem spill_Slots.mono : ∀ a0 a1 k, LeO (spill_Slots.f k a0 a1) (spill_Slots.f (k + 1) a0 a1) := fun a0 a1 k => by
  unfold spill_Slots.f
  exact LeO.bind (alloc_Spilled.mono _ _) (fun sp => spill_Slots.mono_l k _ _ _ _ _)
set_option maxHeartbeats 2000000 in
theorem spill_Slots.calls (k : Nat) (A0 : Option Addr) (c0 : Nat) (l0 : List S45) (A1 : Option Addr) (c1 : Nat) (l1 : List Int) (r1 : Int) (r2 : Int) (w : World) (hr0 : Kd.C k45 w A0 l0.length l0) (hc0 : l0.length ≤ c0) (hr1 : Kd.C (Kd.int .i64) w A1 l1.length l1) (hc1 : l1.length ≤ c1) (h : spill_Slots.f k l0 l1 = some (r1, r2)) :
    Calls Tryd.prog 10 #[.slice A0 l0.length c0, .slice A1 l1.length c1] w fun e w' => e = .returned (.tuple #[.int .i64 r1, .int .i64 r2]) ∧ Below w.heap.size w w' := by
  unfold spill_Slots.f at h
  obtain ⟨sp, hsp, hl⟩ := Option.bind_eq_some_iff.1 h
  have HR0 := Aside0.mk hr0
  have HR1 := Aside0.mk hr1
  have HSP := Aside0.mk hsp
  have HL := Aside0.mk hl
  clear hr0 hr1 h hsp hl
  go_enter Tryd.func10, Tryd.ntmps10
  go_wp2_with fail
  have hc := alloc_Spilled.calls k A0 c0 l0 sp (w.alloc (Obj.cells #[Value.int IntKind.i64 0, Value.int IntKind.i64 0] 58)) (Kd.C_below HR0.out ((Below.refl _ _).alloc (Nat.le_refl _) _)) hc0 HSP.out
  refine hc.mono ?_
  rintro e w1 ⟨v, rfl, hR, hb⟩
  obtain ⟨A2, c2, rfl, hc2, hC2⟩ := Kd.R_reads hR
  have hg1 : w1.heap[w.heap.size]? = some (Obj.cells #[Value.int IntKind.i64 0, Value.int IntKind.i64 0] 58) := by
    rw [hb.block _ (by simp)]; exact blk_new w _
  have HR2 := Aside0.mk hR
  have HB := Aside0.mk (below_step ((Below.refl _ _).alloc (Nat.le_refl _) _) (hb.mono (by simp)) : Below w.heap.size w w1)
  clear hc hR hb hC2
  go_wp2_with fail
  go_loopg [8, 9, 13] k (fun kq _ _ s13 wr => ∃ (a b i : Int), 0 ≤ i ∧ s13 = .int .i64 i ∧ wr.heap[w.heap.size]? = some (Obj.cells #[Value.int IntKind.i64 a, Value.int IntKind.i64 b] 58) ∧ Aside0 (spill_Slots.l0 kq l1 sp a b i = some (r1, r2)) ∧ kq ≤ k ∧ Aside0 (Below w.heap.size w wr) ∧ Aside0 (Kd.R (Kd.int .i64) 3 wr (w.heap.size + 1) (fun _ => True) (.slice A2 sp.length c2) sp))
  case atStart => exact ⟨0, 0, 0, by omega, rfl, hg1, HL, by omega, HB, ⟨by simpa using HR2.out⟩⟩
  case round =>
    clear HL HB HR2 hg1 HSP
    obtain ⟨a, b, i, hi0, rfl, hg, HL, hkq, HB, HR⟩ := hrel
    cases gk with
    | zero => exact absurd HL.out (by simp [spill_Slots.l0])
    | succ k1 =>
      have hl := HL.out
      simp only [spill_Slots.l0] at hl
      clear HL
      have HG := Aside0.mk hg
      by_cases hlt : i < sp.length
      · rw [if_pos hlt] at hl
        obtain ⟨c, hcc, hn⟩ := Option.bind_eq_some_iff.1 hl
        have HN := Aside0.mk hn
        have HCC := Aside0.mk hcc
        clear hl hn hcc
        obtain ⟨ad, e1, hx⟩ := Kd.at_int (Kd.R_reads' HR.out).2.2 i hi0 hlt
        cases e1
        have hc0' := (blk_cell hg 0)
        have hc1' := (blk_cell hg 1)
        have hf0' := (blk_frozen hg 0)
        have hf1' := (blk_frozen hg 1)
        simp only [List.getElem?_toArray, List.getElem?_cons_zero, List.getElem?_cons_succ] at hc0' hc1'
        clear hg
        go_wp2_with fail
        refine (slices_Contains_int_int.calls k1 A1 c1 l1 (rd sp i) c _ (Kd.C_below HR1.out HB.out) hc1 HCC.out).mono ?_
        rintro e w' ⟨rfl, hd⟩
        obtain ⟨n, rfl⟩ := hd.out
        clear hd HCC
        cases c
        all_goals
          have hn := HN.out
          simp only [if_true, if_false, Bool.false_eq_true] at hn
          have HN' := Aside0.mk hn
          clear hn HN
          go_wp2_with fail
          have hmax := Kd.C_max (Kd.R_reads' HR.out).2.2
          have hw1 : wrap64 (i + 1) = i + 1 := by unfold wrap64; omega
          go_roundg k1
          case measure => omega
          case rel => exact ⟨_, _, _, by rw [hw1]; omega, rfl, blk_set (blk_drewN HG.out n) _ _, HN', by omega, ⟨(pw_below_drewN HB.out n).setCell (Nat.le_refl _) _⟩, ⟨Kd.R_set (Kd.R_drewN HR.out n) (blk_drewN HG.out n) (by decide) _ _⟩⟩
      · rw [if_neg hlt] at hl
        simp only [Option.some.injEq, Prod.mk.injEq] at hl
        obtain ⟨rfl, rfl⟩ := hl
        have hc0' := (blk_cell hg 0)
        have hc1' := (blk_cell hg 1)
        simp only [List.getElem?_toArray, List.getElem?_cons_zero, List.getElem?_cons_succ] at hc0' hc1'
        clear hg
        go_wp2_with fail
        go_quiet (fail)
        go_wp2_with fail
        go_ret2
        exact ⟨rfl, pw_below_drewN HB.out nq⟩
end Go.Proofs.YtpbhfpbfmpocdaaDoor.PSpillNone
