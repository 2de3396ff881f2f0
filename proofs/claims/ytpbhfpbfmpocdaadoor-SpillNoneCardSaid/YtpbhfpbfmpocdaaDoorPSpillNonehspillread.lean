-- HANDNOT (*paling/spill.writer).read
import Derived.Test.YtpbhfpbfmpocdaaDoorPSpillNonex0
import Derived.Test.YtpbhfpbfmpocdaaDoorPSpillNonex3
import Derived.Test.YtpbhfpbfmpocdaaDoorPSpillNonehplaces
namespace Go.Proofs.YtpbhfpbfmpocdaaDoor.PSpillNone
open Go.RowKit Go.Proofs.YtpbhfpbfmpocdaaDoorW.PrintWords Go.Proofs.YtpbhfpbfmpocdaaDoorW.PrintLast Go.Proofs.YtpbhfpbfmpocdaaDoorW.PrintMore
set_option linter.unusedVariables false
set_option linter.unusedSimpArgs false

theorem R_slice3 {α : Type} {d : Kd α} {e : Nat} {w : World} {base : Nat} {ok : Nat → Prop} {v : Value} {xs : List α} (h : d.R e w base ok v xs) : ∃ A n c, v = .slice A n c := by
  obtain ⟨A, c, h⟩ := Kd.R_slice h
  exact ⟨A, _, c, h⟩
theorem insInfo : (Tryd.prog.info? 48).map (fun i => (i.zero, i.size, i.bytes)) = some (some (.agg #[(.int .i64 0), (.int .i64 0), (.int .i64 0), (.int .i64 0), (.int .i64 0), (.int .i64 0), (.int .i64 0)]), 7, 56) := by kernel_rfl
/-- The writer of a spilled code, in block g. -/
def WrAt (w : World) (g : Nat) (A0 : Option Addr) (n0 c0 : Nat) (A1 : Option Addr) (n1 c1 : Nat) (p s : Int) (ov : Value) : Prop :=
  w.heap[g]? = some (.cells #[.slice A0 n0 c0, .slice A1 n1 c1, .int .i64 p, .int .i64 s, ov] 65 (0, 0))
def WrPost (w : World) (g : Nat) (A0 : Option Addr) (n0 c0 : Nat) (A1 : Option Addr) (n1 c1 : Nat) (p s : Int) (ov : Value) (out : List S48) (v : Option Value) (e : Ending) (w' : World) : Prop :=
  (∀ x, v = some x → e = .returned x) ∧ ∃ ov', WrAt w' g A0 n0 c0 A1 n1 c1 p s ov' ∧ Kd.R k48 48 w' (g + 1) (fun _ => True) ov' out ∧ Below g w w' ∧ KeepBut w w' g ov.ownBlock ∧ (ov'.ownBlock = ov.ownBlock ∨ ∃ b, ov'.ownBlock = some b ∧ w.heap.size ≤ b)
def spill_read.f (k : Nat) (l0 : List S45) (l1 : List Int) (p s : Int) (out : List S48) (reg by_ : Int) : Option (Int × List S48) :=
  if reg < 0 then some (reg, out) else (spill_Word.f k l0 l1 p s reg).bind fun at_ =>
    if at_ < 0 then (spill_find.f l0 reg).bind fun q => if 0 ≤ q then (if q < l0.length then some ((rd_T45 l0 q).f1, out) else none) else none
    else if out.length < 2000000000000 then some (by_, out ++ [(⟨4, 0, by_, -1, 0, at_, 0⟩ : S48)]) else none
theorem spill_read.mono : ∀ a0 a1 a2 a3 a4 a5 a6 k, LeO (spill_read.f k a0 a1 a2 a3 a4 a5 a6) (spill_read.f (k + 1) a0 a1 a2 a3 a4 a5 a6) := fun a0 a1 a2 a3 a4 a5 a6 k => by
  unfold spill_read.f
  exact LeO.ite (LeO.refl _) (LeO.bind (spill_Word.mono _ _ _ _ _ _) (fun at_ => LeO.refl _))
set_option maxRecDepth 100000 in
set_option maxHeartbeats 4000000 in
theorem spill_read.calls (k : Nat) (g : Nat) (A0 : Option Addr) (c0 : Nat) (l0 : List S45) (A1 : Option Addr) (c1 : Nat) (l1 : List Int) (p s : Int) (ov : Value) (out out' : List S48) (reg by_ r : Int) (w : World)
    (hr0 : Kd.C k45 w A0 l0.length l0) (hc0 : l0.length ≤ c0) (hr1 : Kd.C (Kd.int .i64) w A1 l1.length l1) (hc1 : l1.length ≤ c1)
    (hw : WrAt w g A0 l0.length c0 A1 l1.length c1 p s ov) (hR : Kd.R k48 48 w (g + 1) (fun _ => True) ov out) (h : spill_read.f k l0 l1 p s out reg by_ = some (r, out')) :
    Calls Tryd.prog 41 #[.pointer (some ⟨g, 0, none⟩), .int .i64 reg, .int .i64 by_] w (WrPost w g A0 l0.length c0 A1 l1.length c1 p s ov out' (some (.int .i64 r))) := by
  have hg := blk_lt hw
  have HW := Aside0.mk hw
  have HR0 := Aside0.mk hr0
  have HR1 := Aside0.mk hr1
  have HO := Aside0.mk hR
  have HC0 := Aside0.mk hc0
  have HC1 := Aside0.mk hc1
  have x0 : w.cell? ⟨g, 0, none⟩ = some (.slice A0 l0.length c0) := (blk_cell hw 0).trans rfl
  have x1 : w.cell? ⟨g, 1, none⟩ = some (.slice A1 l1.length c1) := (blk_cell hw 1).trans rfl
  have x2 : w.cell? ⟨g, 2, none⟩ = some (.int .i64 p) := (blk_cell hw 2).trans rfl
  have x3 : w.cell? ⟨g, 3, none⟩ = some (.int .i64 s) := (blk_cell hw 3).trans rfl
  have X0 := Aside0.mk x0
  have X1 := Aside0.mk x1
  have X2 := Aside0.mk x2
  have X3 := Aside0.mk x3
  clear hw hr0 hr1 hR hc0 hc1 x0 x1 x2 x3
  unfold spill_read.f at h
  by_cases hneg : reg < 0
  · rw [if_pos hneg] at h
    simp only [Option.some.injEq, Prod.mk.injEq] at h
    obtain ⟨rfl, rfl⟩ := h
    go_enter Tryd.func41, Tryd.ntmps41
    go_wp2_with fail
    go_ret
    exact ⟨fun x hx => by cases hx; rfl, ov, HW.out, HO.out, Below.refl _ _, KeepBut.refl _ _ _, .inl rfl⟩
  · rw [if_neg hneg] at h
    obtain ⟨at_, hat, h2⟩ := Option.bind_eq_some_iff.1 h
    have HAT := Aside0.mk hat
    have H := Aside0.mk h2
    clear h hat h2
    have x0 := X0.out
    have x1 := X1.out
    have x2 := X2.out
    have x3 := X3.out
    go_enter Tryd.func41, Tryd.ntmps41
    go_wp2_with fail
    go_region_held3 (fun w' => w'.cell? ⟨g, 0, none⟩ = some (.slice A0 l0.length c0) ∧ w'.cell? ⟨g, 1, none⟩ = some (.slice A1 l1.length c1) ∧ w'.cell? ⟨g, 2, none⟩ = some (.int .i64 p) ∧ w'.cell? ⟨g, 3, none⟩ = some (.int .i64 s))
      (first | go_keep | exact ⟨pw_cell_below hb x0, pw_cell_below hb x1, pw_cell_below hb x2, pw_cell_below hb x3⟩)
      (((with_reducible refine (spill_Word.calls k A0 c0 l0 A1 c1 l1 p s reg at_ _ (Kd.C_drew HR0.out) HC0.out (Kd.C_drew HR1.out) HC1.out HAT.out).mono ?_); rintro e w' ⟨rfl, hb⟩))
    have HB := Aside0.mk (below_step (below_drew (Below.refl w.heap.size w)) hb)
    have h := H.out
    clear hb H HAT x0 x1 x2 x3
    have hW' := blk_below HW.out HB.out
    have HW' := Aside0.mk (show WrAt w' g A0 l0.length c0 A1 l1.length c1 p s ov from hW')
    have HO' := Aside0.mk (Kd.R_below HO.out HB.out)
    have x0 : w'.cell? ⟨g, 0, none⟩ = some (.slice A0 l0.length c0) := pw_cell_below HB.out X0.out
    have x4 : w'.cell? ⟨g, 4, none⟩ = some ov := (blk_cell hW' 4).trans rfl
    have f4 : w'.frozen? ⟨g, 4, none⟩ = false := blk_frozen hW' 4
    clear hW' X0 X1 X2 X3
    by_cases hat : at_ < 0
    · rw [if_pos hat] at h
      obtain ⟨q, hq, h2⟩ := Option.bind_eq_some_iff.1 h
      clear h
      have h := h2
      clear h2
      by_cases q0 : 0 ≤ q
      · rw [if_pos q0] at h
        by_cases q1 : q < l0.length
        · rw [if_pos q1] at h
          simp only [Option.some.injEq, Prod.mk.injEq] at h
          obtain ⟨rfl, rfl⟩ := h
          have HQ := Aside0.mk hq
          clear hq
          obtain ⟨ad, e1, y0, y1⟩ := at_T45 (Kd.C_below HR0.out HB.out) q q0 q1
          cases e1
          go_wp2_with fail
          go_region_held3 (fun w' => w'.cell? ⟨g, 0, none⟩ = some (.slice (some ad) l0.length c0) ∧ w'.cell? ⟨(ad.add (q.toNat * 2)).block, (ad.add (q.toNat * 2)).off + 1, none⟩ = some (.int .i64 (rd_T45 l0 q).f1))
            (first | go_keep | exact ⟨pw_cell_below hb x0, pw_cell_below hb y1⟩)
            (((with_reducible refine (spill_find.calls (some ad) c0 l0 reg q _ (Kd.C_drew (Kd.C_below HR0.out HB.out)) HC0.out HQ.out).mono ?_); rintro e w2 ⟨rfl, hb⟩))
          have HB2 := Aside0.mk (below_step (below_drew HB.out) hb)
          have HB3 := Aside0.mk (below_step (below_drew (Below.refl w'.heap.size w')) hb)
          clear hb
          go_wp2_with fail
          go_ret
          exact ⟨fun x hx => by cases hx; rfl, ov, blk_below HW'.out HB3.out, Kd.R_below HO'.out HB3.out, HB2.out.mono (by omega), KeepBut.of_below HB2.out _ _, .inl rfl⟩
        · rw [if_neg q1] at h; cases h
      · rw [if_neg q0] at h; cases h
    · rw [if_neg hat] at h
      by_cases hlen : out.length < 2000000000000
      · rw [if_pos hlen] at h
        simp only [Option.some.injEq, Prod.mk.injEq] at h
        obtain ⟨rfl, rfl⟩ := h
        have HL := Aside0.mk hlen
        clear hlen
        have hne : some g ≠ ov.ownBlock := fun he => by have := Kd.R_base HO'.out g he.symm; omega
        go_wp2_with (first | ((with_reducible refine gate_builtin (b := .append) (xs := #[.tmp 44, .tmp 48]) rfl ?_); at_builtin; refine Kd.R_append k48 (w0 := w) (g + 1) rfl (.tmp 44) (.tmp 48) 38 48 (.agg #[(.int .i64 0), (.int .i64 0), (.int .i64 0), (.int .i64 0), (.int .i64 0), (.int .i64 0), (.int .i64 0)]) 56 rfl Tryd.underlying38 insInfo rfl (by decide) (by omega) ov out (⟨4, 0, by_, -1, 0, at_, 0⟩ : S48) _ (fun _ => True) (fun _ => False) rfl rfl (k48_mkM _ _ _ _) (fun _ hk => hk.elim) (fun _ _ => trivial) HO'.out (HB.out.mono (by omega)) (by have := blk_lt HW'.out; omega) (by have := HL.out; omega) ?_; intro v1 w1 hO1 hB1 hG1 hA1; obtain ⟨A9, n9, c9, e9⟩ := R_slice3 hO1; subst e9; have hW1 := blk_grown HW'.out hG1 hne; have y4 : w1.cell? ⟨g, 4, none⟩ = some ov := (blk_cell hW1 4).trans rfl; have g4 : w1.frozen? ⟨g, 4, none⟩ = false := blk_frozen hW1 4; clear x4 f4))
        go_ret
        exact ⟨fun x hx => by cases hx; rfl, _, blk_set hW1 4 _, Kd.R_set hO1 hW1 (by decide) 4 _, (hB1.mono (Nat.le_succ g) : Below g w w1).setCell (p := ⟨g, 4, none⟩) (Nat.le_refl _) _, ((KeepBut.of_below HB.out g ov.ownBlock).trans (KeepBut.of_grown hG1 g) (.inl rfl)).set_ 4 _, hA1.imp id (fun ⟨b, e, h⟩ => ⟨b, e, Nat.le_trans HB.out.size h⟩)⟩
      · rw [if_neg hlen] at h; cases h
end Go.Proofs.YtpbhfpbfmpocdaaDoor.PSpillNone
