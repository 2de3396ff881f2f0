-- HANDNOT put
import Derived.Test.YtpbhfpbfmpocdaaDoorPSpillNonex0
import Derived.Test.YtpbhfpbfmpocdaaDoorPSpillNonex3
import Derived.Test.YtpbhfpbfmpocdaaDoorPSpillNonehtabs
import Derived.Test.YtpbhfpbfmpocdaaDoorPSpillNonehplaces
import Derived.Test.YtpbhfpbfmpocdaaDoorPSpillNonehspillput
import Derived.Test.YtpbhfpbfmpocdaaDoorPSpillNonehspillread
import Derived.Deep.DeepCutAuto
import Derived.Deep.CutBlock
namespace Go.Proofs.YtpbhfpbfmpocdaaDoor.PSpillNone
open Go.RowKit Go.Proofs.YtpbhfpbfmpocdaaDoorW.PrintWords Go.Proofs.YtpbhfpbfmpocdaaDoorW.PrintLast Go.Proofs.YtpbhfpbfmpocdaaDoorW.PrintMore
set_option linter.unusedVariables false
set_option linter.unusedSimpArgs false

def rdA (kd : Int) : Bool := kd == 1 || (kd == 4 || (kd == 7 || (kd == 11 || (kd == 2 || (kd == 3 || kd == 5)))))
def rdB (kd : Int) : Bool := kd == 2 || (kd == 3 || kd == 5)
def pushI (o : List S48) (y : S48) : Option (List S48) := if o.length < 2000000000000 then some (o ++ [y]) else none
def spill_put.g (k : Nat) (l0 : List S45) (l1 : List Int) (p s : Int) (x : S48) (ra rb : Int) (out : List S48) : Option (List S48) :=
  if (if fmB 1 x.f0 = true then x.f2 else -1) < 0 then pushI out ⟨x.f0, x.f1, x.f2, ra, rb, x.f5, x.f6⟩ else
  (spill_Word.f k l0 l1 p s x.f2).bind fun at_ => if at_ < 0 then (spill_find.f l0 x.f2).bind fun q => (if 0 ≤ q then (if q < l0.length then pushI out ⟨x.f0, x.f1, (rd_T45 l0 q).f1, ra, rb, x.f5, x.f6⟩ else none) else none)
    else (if x.f0 = 3 then spill_read.f k l0 l1 p s out x.f2 15 else some (0, out)).bind fun r => (pushI r.2 ⟨x.f0, x.f1, 15, ra, rb, x.f5, x.f6⟩).bind fun o => pushI o ⟨5, 0, 0, -1, 15, at_, 0⟩
def spill_put.f (k : Nat) (l0 : List S45) (l1 : List Int) (p s : Int) (out : List S48) (x : S48) : Option (List S48) :=
  (if rdA x.f0 = true then spill_read.f k l0 l1 p s out x.f3 13 else some (x.f3, out)).bind fun a =>
  (if rdB x.f0 = true then spill_read.f k l0 l1 p s a.2 x.f4 14 else some (x.f4, a.2)).bind fun b => spill_put.g k l0 l1 p s x a.1 b.1 b.2
theorem pushI_some {o z : List S48} {y : S48} (h : pushI o y = some z) : o.length < 2000000000000 ∧ z = o ++ [y] := by
  unfold pushI at h
  by_cases hl : o.length < 2000000000000
  · rw [if_pos hl] at h; exact ⟨hl, (Option.some.inj h).symm⟩
  · rw [if_neg hl] at h; cases h
theorem spill_put.mono : ∀ a0 a1 a2 a3 a4 a5 k, LeO (spill_put.f k a0 a1 a2 a3 a4 a5) (spill_put.f (k + 1) a0 a1 a2 a3 a4 a5) := fun a0 a1 a2 a3 a4 a5 k => by
  unfold spill_put.f
  refine LeO.bind (LeO.ite (spill_read.mono _ _ _ _ _ _ _ _) (LeO.refl _)) (fun a => LeO.bind (LeO.ite (spill_read.mono _ _ _ _ _ _ _ _) (LeO.refl _)) (fun b => ?_))
  unfold spill_put.g
  exact LeO.ite (LeO.refl _) (LeO.bind (spill_Word.mono _ _ _ _ _ _) (fun at_ => LeO.ite (LeO.refl _) (LeO.bind (LeO.ite (spill_read.mono _ _ _ _ _ _ _ _) (LeO.refl _)) (fun r => LeO.refl _))))
theorem PutSt.init {w : World} {g : Nat} {A0 : Option Addr} {n0 c0 : Nat} {A1 : Option Addr} {n1 c1 : Nat} {p s : Int} {ov : Value} {out : List S48} (x : S48) (h : WrAt w g A0 n0 c0 A1 n1 c1 p s ov) (hR : Kd.R k48 48 w (g + 1) (fun _ => True) ov out) :
    PutSt w g A0 n0 c0 A1 n1 c1 p s ov ov x x out (((w.alloc (.cells #[.pointer (some ⟨g, 0, none⟩)] 63)).alloc (.cells (insCells x) 48)).alloc (.cells (insCells x) 48)) := by
  have hb : Below w.heap.size w (((w.alloc (.cells #[.pointer (some ⟨g, 0, none⟩)] 63)).alloc (.cells (insCells x) 48)).alloc (.cells (insCells x) 48)) := (((Below.refl _ _).alloc (Nat.le_refl _) _).alloc (by simp) _).alloc (by simp; omega) _
  exact ⟨blk_below h hb, Kd.R_below hR hb, hb.mono (Nat.le_of_lt (blk_lt h)), KeepBut.of_below hb g _, .inl rfl, Kd.R_lt hR, blk_alloc (blk_alloc (blk_new w _) _) _, blk_alloc (by have := blk_new (w.alloc (.cells #[.pointer (some ⟨g, 0, none⟩)] 63)) (.cells (insCells x) 48); simpa using this) _, by have := blk_new ((w.alloc (.cells #[.pointer (some ⟨g, 0, none⟩)] 63)).alloc (.cells (insCells x) 48)) (.cells (insCells x) 48); simpa using this, blk_lt h⟩
section
variable {w W w' : World} {g : Nat} {A0 : Option Addr} {n0 c0 : Nat} {A1 : Option Addr} {n1 c1 : Nat} {p s : Int} {ov ov2 : Value} {x y : S48} {out out' : List S48}
theorem PutSt.c2 (h : PutSt w g A0 n0 c0 A1 n1 c1 p s ov ov2 x y out W) : W.cell? ⟨w.heap.size, 0, none⟩ = some (.pointer (some ⟨g, 0, none⟩)) := (blk_cell h.2.2.2.2.2.2.1 0).trans rfl
theorem PutSt.c3 (h : PutSt w g A0 n0 c0 A1 n1 c1 p s ov ov2 x y out W) (i : Nat) : W.cell? ⟨w.heap.size + 1, i, none⟩ = (insCells x)[i]? := blk_cell h.2.2.2.2.2.2.2.1 i
theorem PutSt.c6 (h : PutSt w g A0 n0 c0 A1 n1 c1 p s ov ov2 x y out W) (i : Nat) : W.cell? ⟨w.heap.size + 1 + 1, i, none⟩ = (insCells y)[i]? := blk_cell h.2.2.2.2.2.2.2.2.1 i
theorem PutSt.f6 (h : PutSt w g A0 n0 c0 A1 n1 c1 p s ov ov2 x y out W) (i : Nat) : W.frozen? ⟨w.heap.size + 1 + 1, i, none⟩ = false := blk_frozen h.2.2.2.2.2.2.2.2.1 i
theorem PutSt.wr (h : PutSt w g A0 n0 c0 A1 n1 c1 p s ov ov2 x y out W) : WrAt W g A0 n0 c0 A1 n1 c1 p s ov2 := h.1
theorem PutSt.row (h : PutSt w g A0 n0 c0 A1 n1 c1 p s ov ov2 x y out W) : Kd.R k48 48 W (g + 1) (fun _ => True) ov2 out := h.2.1
theorem PutSt.neg_ (h : PutSt w g A0 n0 c0 A1 n1 c1 p s ov ov2 x y out W) : some g ≠ ov2.ownBlock := fun he => by have := Kd.R_base h.2.1 g he.symm; omega
theorem PutSt.ne_ (h : PutSt w g A0 n0 c0 A1 n1 c1 p s ov ov2 x y out W) (b : Nat) (h1 : w.heap.size ≤ b) (h2 : b < w.heap.size + 3) : some b ≠ ov2.ownBlock := by
  obtain ⟨_, _, _, _, h5, h6, _, _, _, _⟩ := h
  intro he
  rcases h5 with h5 | ⟨b', e', hb'⟩
  · have := h6 b (by rw [← h5, ← he]); omega
  · rw [e'] at he; cases he; omega
theorem PutSt.c4 (h : PutSt w g A0 n0 c0 A1 n1 c1 p s ov ov2 x y out W) : W.cell? ⟨g, 4, none⟩ = some ov2 := (blk_cell h.1 4).trans rfl
theorem cell_alloc1 {w : World} {o : Obj} {a : Addr} {v : Value} (h : w.cell? a = some v) : (w.alloc o).cell? a = some v := pw_cell_below ((Below.refl _ _).alloc (Nat.le_refl _) _) h
theorem cell_grown1 {w w1 : World} {row : Option Nat} {a : Addr} {v : Value} (hg : w.grownBy w1 row) (hne : some a.block ≠ row) (h : w.cell? a = some v) : w1.cell? a = some v := (hg.cell_far a (World.block_lt_of_cell? w _ h) hne).trans h
theorem cell_set1 {w : World} {p a : Addr} {u v : Value} (hne : a.block ≠ p.block) (h : w.cell? a = some v) : (w.setCell p u).cell? a = some v := (World.cell?_setCell_other w p a u (fun e => hne (by rw [e]))).trans h
/-- after 'w.out = append(w.out, y)' -/
theorem PutSt.pushed {w1 : World} {v1 : Value} {z : S48} (h : PutSt w g A0 n0 c0 A1 n1 c1 p s ov ov2 x y out W) (hO : Kd.R k48 48 w1 (g + 1) (fun _ => True) v1 (out ++ [z])) (hB : Below (g + 1) W w1) (hG : W.grownBy w1 ov2.ownBlock) (hA : v1.ownBlock = ov2.ownBlock ∨ ∃ b, v1.ownBlock = some b ∧ W.heap.size ≤ b) :
    PutSt w g A0 n0 c0 A1 n1 c1 p s ov v1 x y (out ++ [z]) (w1.setCell ⟨g, 4, none⟩ v1) := by
  have hW1 := blk_grown h.1 hG h.neg_
  exact (PutSt.after (v := none) (e := .returned .nilIface) h ⟨(fun _ hx => nomatch hx), v1, blk_set hW1 4 _, Kd.R_set hO hW1 (by decide) 4 _, (hB.mono (Nat.le_succ g) : Below g W w1).setCell (p := ⟨g, 4, none⟩) (Nat.le_refl _) _, (KeepBut.of_grown hG g).set_ 4 _, hA⟩).elim fun ov3 hh => by
    have : ov3 = v1 := by
      have e := hh.c4
      rw [(blk_cell (blk_set hW1 4 v1) 4)] at e
      exact (Option.some.inj (e.symm.trans rfl))
    subst this; exact hh
theorem PutSt.post {v : Option Value} {e : Ending} (h : PutSt w g A0 n0 c0 A1 n1 c1 p s ov ov2 x y out W) (he : ∀ x, v = some x → e = .returned x) : WrPost w g A0 n0 c0 A1 n1 c1 p s ov out v e W := by
  obtain ⟨h1, h2, h3, h4, h5, h6, h7, h8, h9, h0⟩ := h
  exact ⟨he, ov2, h1, h2, h3, h4, h5.imp id fun ⟨b, e, hb⟩ => ⟨b, e, by omega⟩⟩
theorem PutSt.bel (h : PutSt w g A0 n0 c0 A1 n1 c1 p s ov ov2 x y out W) : Below g w W := h.2.2.1
end
set_option maxRecDepth 100000 in
set_option maxHeartbeats 4000000 in
theorem spill_put2.calls (g b2 gb : Nat) (A0 : Option Addr) (n0 c0 : Nat) (A1 : Option Addr) (n1 c1 : Nat) (p s at_ : Int) (ov : Value) (out out' : List S48) (w : World)
    (hw : WrAt w g A0 n0 c0 A1 n1 c1 p s ov) (hR : Kd.R k48 48 w (g + 1) (fun _ => True) ov out) (c2 : w.cell? ⟨b2, 0, none⟩ = some (.pointer (some ⟨g, 0, none⟩))) (c8 : w.cell? ⟨gb, 0, none⟩ = some (.int .i64 at_)) (n2 : some b2 ≠ ov.ownBlock) (n8 : some gb ≠ ov.ownBlock) (h : pushI out ⟨5, 0, 0, -1, 15, at_, 0⟩ = some out') :
    Calls Tryd.prog 44 #[.pointer (some ⟨b2, 0, none⟩), .pointer (some ⟨gb, 0, none⟩)] w (WrPost w g A0 n0 c0 A1 n1 c1 p s ov out' (some (.tuple #[]))) := by
  unfold pushI at h
  have hlen : out.length < 2000000000000 := by
    by_cases hl : out.length < 2000000000000
    · exact hl
    · rw [if_neg hl] at h; cases h
  rw [if_pos hlen] at h
  have h := Option.some.inj h
  subst h
  have HL := Aside0.mk hlen
  have n4 : some g ≠ ov.ownBlock := fun he => by have := Kd.R_base hR g he.symm; omega
  have c4 : w.cell? ⟨g, 4, none⟩ = some ov := (blk_cell hw 4).trans rfl
  have HW := Aside0.mk hw
  have HO := Aside0.mk hR
  clear hlen hw hR
  go_enter Tryd.func44, Tryd.ntmps44
  go_wp2_with fail
  refine start_ (n := 12) (S := (fun W => W.cell? ⟨b2, 0, none⟩ = some (.pointer (some ⟨g, 0, none⟩)) ∧ W.cell? ⟨g, 4, none⟩ = some ov ∧ W.cell? ⟨gb, 0, none⟩ = some (.int .i64 at_))) (ds := [11]) #[false, false, false, false, false, false, false, false, false, false, false, false] (by kernel_rfl) rfl rfl (⟨c2, c4, c8⟩) (fun hHeld => ?_)
  refine take_ (i := 0) (N := (some 2)) (v := ?_) (a' := ?_) #[true, false, false, false, false, false, false, false, false, false, false, false] rfl rfl (by kernel_rfl) (fun _ _ _ h => h) (Or.inl ⟨by rfl, ?_⟩) hHeld ?_ ?_
  rotate_left
  · rintro w_ ⟨s0, s1, s2⟩
    go_simp
    with_reducible rfl
  rotate_left
  · simp only [Act.put, List.setIfInBounds_toArray, List.set_cons_zero, List.set_cons_succ, i64_w, i32_w]
    rfl
  refine take_ (i := 1) (N := (some 3)) (v := ?_) (a' := ?_) #[true, true, false, false, false, false, false, false, false, false, false, false] rfl rfl (by kernel_rfl) (fun _ _ _ h => h) (Or.inl ⟨by rfl, ?_⟩) hHeld ?_ ?_
  rotate_left
  · rintro w_ ⟨s0, s1, s2⟩
    go_simp
    with_reducible rfl
  rotate_left
  · simp only [Act.put, List.setIfInBounds_toArray, List.set_cons_zero, List.set_cons_succ, i64_w, i32_w]
    rfl
  refine pure_ (i := 2) (N := (some 4)) (v := ?_) (a' := ?_) #[true, true, true, false, false, false, false, false, false, false, false, false] rfl rfl (by kernel_rfl) (fun _ _ _ h => h) (Or.inl ⟨by rfl, ?_⟩) ?_ ?_
  rotate_left
  · intro w_
    go_simp
    with_reducible rfl
  rotate_left
  · simp only [Act.put, List.setIfInBounds_toArray, List.set_cons_zero, List.set_cons_succ, i64_w, i32_w]
    rfl
  refine pure_ (i := 3) (N := (some 5)) (v := ?_) (a' := ?_) #[true, true, true, true, false, false, false, false, false, false, false, false] rfl rfl (by kernel_rfl) (fun _ _ _ h => h) (Or.inl ⟨by rfl, ?_⟩) ?_ ?_
  rotate_left
  · intro w_
    go_simp
    with_reducible rfl
  rotate_left
  · simp only [Act.put, List.setIfInBounds_toArray, List.set_cons_zero, List.set_cons_succ, i64_w, i32_w]
    rfl
  refine take_ (i := 4) (N := (some 6)) (v := ?_) (a' := ?_) #[true, true, true, true, true, false, false, false, false, false, false, false] rfl rfl (by kernel_rfl) (fun _ _ _ h => h) (Or.inl ⟨by rfl, ?_⟩) hHeld ?_ ?_
  rotate_left
  · rintro w_ ⟨s0, s1, s2⟩
    go_simp
    with_reducible rfl
  rotate_left
  · simp only [Act.put, List.setIfInBounds_toArray, List.set_cons_zero, List.set_cons_succ, i64_w, i32_w]
    rfl
  refine take_ (i := 5) (N := (some 7)) (v := ?_) (a' := ?_) #[true, true, true, true, true, true, false, false, false, false, false, false] rfl rfl (by kernel_rfl) (fun _ _ _ h => h) (Or.inl ⟨by rfl, ?_⟩) hHeld ?_ ?_
  rotate_left
  · rintro w_ ⟨s0, s1, s2⟩
    go_simp
    with_reducible rfl
  rotate_left
  · simp only [Act.put, List.setIfInBounds_toArray, List.set_cons_zero, List.set_cons_succ, i64_w, i32_w]
    rfl
  refine pure_ (i := 6) (N := (some 8)) (v := ?_) (a' := ?_) #[true, true, true, true, true, true, true, false, false, false, false, false] rfl rfl (by kernel_rfl) (fun _ _ _ h => h) (Or.inl ⟨by rfl, ?_⟩) ?_ ?_
  rotate_left
  · intro w_
    go_simp
    with_reducible rfl
  rotate_left
  · simp only [Act.put, List.setIfInBounds_toArray, List.set_cons_zero, List.set_cons_succ, i64_w, i32_w]
    rfl
  refine one_ (i := 7) (N := (some 9)) #[true, true, true, true, true, true, true, true, false, false, false, false] rfl rfl (by kernel_rfl) (by decide) (fun K hK => ?_)
  refine value_ (w1 := ?_) (v := ?_) (by rfl) rfl ?_ ?_
  rotate_left 2
  · go_simp
    constructor
    · rfl
    · rfl
  refine hK.out _ _ (⟨cell_alloc1 c2, cell_alloc1 c4, cell_alloc1 c8⟩) (fun hHeld => ?_)
  clear hK K
  refine norm_ (a' := ?_) ?_ ?_
  rotate_left
  · show Act.put _ (some 9) _ = _
    simp only [Act.put, List.setIfInBounds_toArray, List.set_cons_zero, List.set_cons_succ, i64_w, i32_w]
    rfl
  refine one_ (i := 8) (N := (some 10)) #[true, true, true, true, true, true, true, true, true, false, false, false] rfl rfl (by kernel_rfl) (by decide) (fun K hK => ?_)
  refine Kd.R_append_step k48 (w0 := w) (g + 1) (by rfl) (.tmp 6) (.tmp 9) 38 48 (.agg #[(.int .i64 0), (.int .i64 0), (.int .i64 0), (.int .i64 0), (.int .i64 0), (.int .i64 0), (.int .i64 0)]) 56 rfl Tryd.underlying38 insInfo rfl (by decide) (by omega) ov out (⟨5, 0, 0, -1, 15, at_, 0⟩ : S48) _ (fun _ => True) (fun _ => False) (by rfl) (by rfl) (k48_mkM _ _ _ _) (fun _ hk => hk.elim) (fun _ _ => trivial) (Kd.R_drew HO.out) (below_drew (Below.refl _ _)) (by have := blk_lt HW.out; show g + 1 ≤ w.heap.size; omega) (by have := HL.out; omega) ?_
  intro v1 w1 hO1 hB1 hG1 hA1
  obtain ⟨A9, n9, c9, e9⟩ := R_slice3 hO1
  subst e9
  have y4 : w1.cell? ⟨g, 4, none⟩ = some ov := cell_grown1 hG1 n4 c4
  have g4 : w1.frozen? ⟨g, 4, none⟩ = false := blk_frozen (blk_grown (blk_drew HW.out) hG1 n4) 4
  refine hK.out _ _ (⟨cell_grown1 hG1 n2 c2, cell_grown1 hG1 n4 c4, cell_grown1 hG1 n8 c8⟩) (fun hHeld => ?_)
  clear hK K
  refine norm_ (a' := ?_) ?_ ?_
  rotate_left
  · show Act.put _ (some 10) _ = _
    simp only [Act.put, List.setIfInBounds_toArray, List.set_cons_zero, List.set_cons_succ, i64_w, i32_w]
    rfl
  refine pure_ (i := 9) (N := (some 11)) (v := ?_) (a' := ?_) #[true, true, true, true, true, true, true, true, true, true, false, false] rfl rfl (by kernel_rfl) (fun _ _ _ h => h) (Or.inl ⟨by rfl, ?_⟩) ?_ ?_
  rotate_left
  · intro w_
    go_simp
    with_reducible rfl
  rotate_left
  · simp only [Act.put, List.setIfInBounds_toArray, List.set_cons_zero, List.set_cons_succ, i64_w, i32_w]
    rfl
  refine pure_ (i := 10) (N := (some 12)) (v := ?_) (a' := ?_) #[true, true, true, true, true, true, true, true, true, true, true, false] rfl rfl (by kernel_rfl) (fun _ _ _ h => h) (Or.inl ⟨by rfl, ?_⟩) ?_ ?_
  rotate_left
  · intro w_
    go_simp
    with_reducible rfl
  rotate_left
  · simp only [Act.put, List.setIfInBounds_toArray, List.set_cons_zero, List.set_cons_succ, i64_w, i32_w]
    rfl
  refine last_ (i := 11) (N := none) #[true, true, true, true, true, true, true, true, true, true, true, true] rfl rfl (by kernel_rfl) (by decide) (fun K hK => ?_)
  refine skip_ (w1 := ?_) (by rfl) rfl ?_ ?_
  rotate_left
  · go_simp
    rfl
  refine hK.out _ _ ?_
  clear hK K
  refine done_ (by kernel_rfl) ?_
  go_wp2_with fail
  go_end0
  have hW1 := blk_grown (blk_drew HW.out) hG1 n4
  exact ⟨(fun _ hx => by cases hx; rfl), _, blk_set hW1 4 _, Kd.R_set hO1 hW1 (by decide) 4 _, (hB1.mono (Nat.le_succ g) : Below g w w1).setCell (p := ⟨g, 4, none⟩) (Nat.le_refl _) _, (show KeepBut w w1 g ov.ownBlock from KeepBut.of_grown (w := w.drew) hG1 g).set_ 4 _, hA1⟩
theorem WrPost.blk {w w' : World} {g : Nat} {A0 : Option Addr} {n0 c0 : Nat} {A1 : Option Addr} {n1 c1 : Nat} {p s : Int} {ov : Value} {out : List S48} {v : Option Value} {e : Ending} {b : Nat} {o : Obj} (hp : WrPost w g A0 n0 c0 A1 n1 c1 p s ov out v e w') (hb : w.heap[b]? = some o) (hg : b ≠ g) (hne : some b ≠ ov.ownBlock) : w'.heap[b]? = some o := by
  obtain ⟨_, ov3, q1, q2, q3, q4, q5⟩ := hp
  exact q4.blk hb hg hne
theorem spill_put1.calls (w : World) : Calls Tryd.prog 43 #[] w fun e w' => e = .returned (.tuple #[]) ∧ w = w' := by
  go_enter Tryd.func43, Tryd.ntmps43
  go_wp2_with fail
  go_end0
  exact ⟨rfl, rfl⟩
set_option maxRecDepth 100000 in
set_option maxHeartbeats 8000000 in
theorem spill_put.calls (k : Nat) (g : Nat) (A0 : Option Addr) (c0 : Nat) (l0 : List S45) (A1 : Option Addr) (c1 : Nat) (l1 : List Int) (p s : Int) (ov : Value) (out out' : List S48) (x : S48) (w0 w : World)
    (hr0 : Kd.C k45 w0 A0 l0.length l0) (hc0 : l0.length ≤ c0) (hr1 : Kd.C (Kd.int .i64) w0 A1 l1.length l1) (hc1 : l1.length ≤ c1) (hgl : GlobOK w0) (hb0 : Below w0.heap.size w0 w) (hg0 : w0.heap.size ≤ g)
    (hw : WrAt w g A0 l0.length c0 A1 l1.length c1 p s ov) (hR : Kd.R k48 48 w (g + 1) (fun _ => True) ov out) (h : spill_put.f k l0 l1 p s out x = some out') :
    Calls Tryd.prog 27 #[.pointer (some ⟨g, 0, none⟩), .agg #[.int .i64 x.f0, .int .i64 x.f1, .int .i64 x.f2, .int .i64 x.f3, .int .i64 x.f4, .int .i64 x.f5, .int .i64 x.f6]] w (WrPost w g A0 l0.length c0 A1 l1.length c1 p s ov out' (some (.tuple #[]))) := by
  have HS := Aside0.mk (PutSt.init x hw hR)
  have HR0 := Aside0.mk (fun W (hW : Below g w W) => Kd.C_below hr0 (hb0.trans (hW.mono hg0)))
  have HR1 := Aside0.mk (fun W (hW : Below g w W) => Kd.C_below hr1 (hb0.trans (hW.mono hg0)))
  have HGL := Aside0.mk (fun W (hW : Below g w W) => GlobOK.step hgl (hb0.trans (hW.mono hg0)))
  have HC0 := Aside0.mk hc0
  have HC1 := Aside0.mk hc1
  have hg := blk_lt hw
  clear hw hr0 hr1 hR hc0 hc1 hgl hb0
  unfold spill_put.f at h
  obtain ⟨⟨ra, o1⟩, h1, h2⟩ := Option.bind_eq_some_iff.1 h
  obtain ⟨⟨rb, o2⟩, h3, h4⟩ := Option.bind_eq_some_iff.1 h2
  clear h h2
  have H1 := Aside0.mk h1
  have H3 := Aside0.mk h3
  have H4 := Aside0.mk h4
  clear h1 h3 h4
  obtain ⟨x0, x1, x2, x3, x4, x5, x6⟩ := x
  obtain ⟨qa, hqa⟩ : ∃ q, q = rdA x0 := ⟨_, rfl⟩
  obtain ⟨qb, hqb⟩ : ∃ q, q = rdB x0 := ⟨_, rfl⟩
  have HQA := Aside0.mk hqa
  have HQB := Aside0.mk hqb
  have h1 := H1.out
  have h3 := H3.out
  simp only [] at h1 h3
  rw [← hqa] at h1
  rw [← hqb] at h3
  have H1' := Aside0.mk h1
  have H3' := Aside0.mk h3
  clear hqa hqb h1 h3 H1 H3
  go_enter Tryd.func27, Tryd.ntmps27
  go_upto_block 0 with fail
  go_cut [4, 5] (fun s4 s5 wc => s4 = .bool qa ∧ s5 = .bool qb ∧ wc = ((w.alloc (.cells #[.pointer (some ⟨g, 0, none⟩)] 63)).alloc (.cells #[.int .i64 x0, .int .i64 x1, .int .i64 x2, .int .i64 x3, .int .i64 x4, .int .i64 x5, .int .i64 x6] 48)))
  case first =>
    go_wp2_with fail
    all_goals
      go_meet
      refine ⟨congrArg Value.bool ?_, congrArg Value.bool ?_, rfl⟩
      · rw [HQA.out]; clear HQA HQB HS H4 H1' H3' HR0 HR1 HGL HC0 HC1; simp only [beq_iff_eq, beq_eq_false_iff_ne, ne_eq] at *; simp [rdA]; omega
      · rw [HQB.out]; clear HQA HQB HS H4 H1' H3' HR0 HR1 HGL HC0 HC1; simp only [beq_iff_eq, beq_eq_false_iff_ne, ne_eq] at *; simp [rdB]; omega
  case rest =>
    obtain ⟨rfl, rfl, rfl⟩ := hcut
    clear HQA HQB
    go_upto_if 22 with fail
    go_cut [6] (fun s6 wc => s6 = .pointer (some ⟨w.heap.size + 1 + 1, 0, none⟩) ∧ ∃ ov2, Aside0 (PutSt w g A0 l0.length c0 A1 l1.length c1 p s ov ov2 ⟨x0, x1, x2, x3, x4, x5, x6⟩ ⟨x0, x1, x2, ra, x4, x5, x6⟩ o1 wc))
    case first =>
      cases qa with
      | true =>
        have h1 := H1'.out
        rw [if_pos rfl] at h1
        have H1 := Aside0.mk h1
        clear h1 H1' H3' H4
        go_wp2_with fail
        refine (spill_read.calls k g A0 c0 l0 A1 c1 l1 p s ov out o1 x3 13 ra _ (HR0.out _ HS.out.bel) HC0.out (HR1.out _ HS.out.bel) HC1.out HS.out.wr HS.out.row H1.out).mono ?_
        rintro e w' hp
        cases hp.1 _ rfl
        obtain ⟨ov2, hS2⟩ := PutSt.after HS.out hp
        have c6 : w'.cell? ⟨w.heap.size + 1 + 1, 3, none⟩ = some (.int .i64 x3) := hS2.c6 3
        have f6 := hS2.f6 3
        have HS2 := Aside0.mk hS2
        clear hp hS2 HS
        go_wp2_with fail
        go_meet
        exact ⟨rfl, ov2, ⟨PutSt.set_ HS2.out 3 _ rfl⟩⟩
      | false =>
        have h1 := H1'.out
        rw [if_neg (by simp)] at h1
        simp only [Option.some.injEq, Prod.mk.injEq] at h1
        obtain ⟨rfl, rfl⟩ := h1
        go_wp2_with fail
        go_meet
        exact ⟨rfl, ov, HS⟩
    case rest =>
      obtain ⟨rfl, ov2, HS2⟩ := hcut
      clear H1' HS
      have c2 := HS2.out.c2
      have c3 : wc.cell? ⟨w.heap.size + 1, 4, none⟩ = some (.int .i64 x4) := HS2.out.c3 4
      go_upto_if 28 with fail
      go_cut [6] (fun s6 wc => s6 = .pointer (some ⟨w.heap.size + 1 + 1, 0, none⟩) ∧ ∃ ov2, Aside0 (PutSt w g A0 l0.length c0 A1 l1.length c1 p s ov ov2 ⟨x0, x1, x2, x3, x4, x5, x6⟩ ⟨x0, x1, x2, ra, rb, x5, x6⟩ o2 wc))
      case first =>
        cases qb with
        | true =>
          have h1 := H3'.out
          rw [if_pos rfl] at h1
          have H1 := Aside0.mk h1
          clear h1 H3' H4
          go_wp2_with fail
          refine (spill_read.calls k g A0 c0 l0 A1 c1 l1 p s ov2 o1 o2 x4 14 rb _ (HR0.out _ HS2.out.bel) HC0.out (HR1.out _ HS2.out.bel) HC1.out HS2.out.wr HS2.out.row H1.out).mono ?_
          rintro e w' hp
          cases hp.1 _ rfl
          obtain ⟨ov3, hS3⟩ := PutSt.after HS2.out hp
          have c6 : w'.cell? ⟨w.heap.size + 1 + 1, 4, none⟩ = some (.int .i64 x4) := hS3.c6 4
          have f6 := hS3.f6 4
          have HS3 := Aside0.mk hS3
          clear hp hS3 HS2 c2 c3
          go_wp2_with fail
          go_meet
          exact ⟨rfl, ov3, ⟨PutSt.set_ HS3.out 4 _ rfl⟩⟩
        | false =>
          have h1 := H3'.out
          rw [if_neg (by simp)] at h1
          simp only [Option.some.injEq, Prod.mk.injEq] at h1
          obtain ⟨rfl, rfl⟩ := h1
          clear c2 c3
          go_wp2_with fail
          go_meet
          exact ⟨rfl, ov2, HS2⟩
      case rest =>
        clear c2 c3 HS2
        obtain ⟨rfl, ov3, HS⟩ := hcut
        clear H3'
        have h4 := H4.out
        clear H4
        unfold spill_put.g at h4
        obtain ⟨d, hd⟩ : ∃ d, d = if fmB 1 x0 = true then x2 else -1 := ⟨_, rfl⟩
        simp only [] at h4
        rw [← hd] at h4
        have HD := Aside0.mk hd
        have H4 := Aside0.mk h4
        clear hd h4
        have c30 : wc.cell? ⟨w.heap.size + 1, 0, none⟩ = some (.int .i64 x0) := HS.out.c3 0
        have c31 : wc.cell? ⟨w.heap.size + 1, 1, none⟩ = some (.int .i64 x1) := HS.out.c3 1
        have c32 : wc.cell? ⟨w.heap.size + 1, 2, none⟩ = some (.int .i64 x2) := HS.out.c3 2
        have c33 : wc.cell? ⟨w.heap.size + 1, 3, none⟩ = some (.int .i64 x3) := HS.out.c3 3
        have c34 : wc.cell? ⟨w.heap.size + 1, 4, none⟩ = some (.int .i64 x4) := HS.out.c3 4
        have c35 : wc.cell? ⟨w.heap.size + 1, 5, none⟩ = some (.int .i64 x5) := HS.out.c3 5
        have c36 : wc.cell? ⟨w.heap.size + 1, 6, none⟩ = some (.int .i64 x6) := HS.out.c3 6
        go_wp2_with fail
        refine (ins_Def.calls x0 x1 x2 x3 x4 x5 x6 d _ (by unfold ins_Def.f; rw [HD.out]) (HGL.out _ HS.out.bel)).mono ?_
        rintro e w' ⟨rfl, hb⟩
        have HS' := Aside0.mk (PutSt.below HS.out hb)
        clear HS hb c30 c31 c32 c33 c34 c35 c36 HGL
        by_cases hd : d < 0
        · have h4 := H4.out
          rw [if_pos hd] at h4
          clear HD H4
          unfold pushI at h4
          by_cases hlen : o2.length < 2000000000000
          · rw [if_pos hlen] at h4
            have h4 := Option.some.inj h4
            subst h4
            have HL := Aside0.mk hlen
            clear hlen
            have c2 := HS'.out.c2
            have c4 := HS'.out.c4
            have c60 : w'.cell? ⟨w.heap.size + 1 + 1, 0, none⟩ = some (.int .i64 x0) := HS'.out.c6 0
            have c61 : w'.cell? ⟨w.heap.size + 1 + 1, 1, none⟩ = some (.int .i64 x1) := HS'.out.c6 1
            have c62 : w'.cell? ⟨w.heap.size + 1 + 1, 2, none⟩ = some (.int .i64 x2) := HS'.out.c6 2
            have c63 : w'.cell? ⟨w.heap.size + 1 + 1, 3, none⟩ = some (.int .i64 ra) := HS'.out.c6 3
            have c64 : w'.cell? ⟨w.heap.size + 1 + 1, 4, none⟩ = some (.int .i64 rb) := HS'.out.c6 4
            have c65 : w'.cell? ⟨w.heap.size + 1 + 1, 5, none⟩ = some (.int .i64 x5) := HS'.out.c6 5
            have c66 : w'.cell? ⟨w.heap.size + 1 + 1, 6, none⟩ = some (.int .i64 x6) := HS'.out.c6 6
            go_wp2_with fail
            refine start_ (n := 11) (S := (fun W => W.cell? ⟨w.heap.size, 0, none⟩ = some (.pointer (some ⟨g, 0, none⟩)) ∧ W.cell? ⟨g, 4, none⟩ = some ov3 ∧ W.cell? ⟨w.heap.size + 1 + 1, 0, none⟩ = some (.int .i64 x0) ∧ W.cell? ⟨w.heap.size + 1 + 1, 1, none⟩ = some (.int .i64 x1) ∧ W.cell? ⟨w.heap.size + 1 + 1, 2, none⟩ = some (.int .i64 x2) ∧ W.cell? ⟨w.heap.size + 1 + 1, 3, none⟩ = some (.int .i64 ra) ∧ W.cell? ⟨w.heap.size + 1 + 1, 4, none⟩ = some (.int .i64 rb) ∧ W.cell? ⟨w.heap.size + 1 + 1, 5, none⟩ = some (.int .i64 x5) ∧ W.cell? ⟨w.heap.size + 1 + 1, 6, none⟩ = some (.int .i64 x6))) (ds := [10]) #[false, false, false, false, false, false, false, false, false, false, false] (by kernel_rfl) rfl rfl (⟨c2, c4, c60, c61, c62, c63, c64, c65, c66⟩) (fun hHeld => ?_)
            refine take_ (i := 0) (N := (some 38)) (v := ?_) (a' := ?_) #[true, false, false, false, false, false, false, false, false, false, false] rfl rfl (by kernel_rfl) (fun _ _ _ h => h) (Or.inl ⟨by rfl, ?_⟩) hHeld ?_ ?_
            rotate_left
            · rintro w_ ⟨s0, s1, s2, s3, s4, s5, s6, s7, s8⟩
              go_simp
              with_reducible rfl
            rotate_left
            · simp only [Act.put, List.setIfInBounds_toArray, List.set_cons_zero, List.set_cons_succ, i64_w, i32_w]
              rfl
            refine take_ (i := 1) (N := (some 39)) (v := ?_) (a' := ?_) #[true, true, false, false, false, false, false, false, false, false, false] rfl rfl (by kernel_rfl) (fun _ _ _ h => h) (Or.inl ⟨by rfl, ?_⟩) hHeld ?_ ?_
            rotate_left
            · rintro w_ ⟨s0, s1, s2, s3, s4, s5, s6, s7, s8⟩
              go_simp
              with_reducible rfl
            rotate_left
            · simp only [Act.put, List.setIfInBounds_toArray, List.set_cons_zero, List.set_cons_succ, i64_w, i32_w]
              rfl
            refine pure_ (i := 2) (N := (some 40)) (v := ?_) (a' := ?_) #[true, true, true, false, false, false, false, false, false, false, false] rfl rfl (by kernel_rfl) (fun _ _ _ h => h) (Or.inl ⟨by rfl, ?_⟩) ?_ ?_
            rotate_left
            · intro w_
              go_simp
              with_reducible rfl
            rotate_left
            · simp only [Act.put, List.setIfInBounds_toArray, List.set_cons_zero, List.set_cons_succ, i64_w, i32_w]
              rfl
            refine pure_ (i := 3) (N := (some 41)) (v := ?_) (a' := ?_) #[true, true, true, true, false, false, false, false, false, false, false] rfl rfl (by kernel_rfl) (fun _ _ _ h => h) (Or.inl ⟨by rfl, ?_⟩) ?_ ?_
            rotate_left
            · intro w_
              go_simp
              with_reducible rfl
            rotate_left
            · simp only [Act.put, List.setIfInBounds_toArray, List.set_cons_zero, List.set_cons_succ, i64_w, i32_w]
              rfl
            refine take_ (i := 4) (N := (some 42)) (v := ?_) (a' := ?_) #[true, true, true, true, true, false, false, false, false, false, false] rfl rfl (by kernel_rfl) (fun _ _ _ h => h) (Or.inl ⟨by rfl, ?_⟩) hHeld ?_ ?_
            rotate_left
            · rintro w_ ⟨s0, s1, s2, s3, s4, s5, s6, s7, s8⟩
              go_simp
              with_reducible rfl
            rotate_left
            · simp only [Act.put, List.setIfInBounds_toArray, List.set_cons_zero, List.set_cons_succ, i64_w, i32_w]
              rfl
            refine take_ (i := 5) (N := (some 43)) (v := ?_) (a' := ?_) #[true, true, true, true, true, true, false, false, false, false, false] rfl rfl (by kernel_rfl) (fun _ _ _ h => h) (Or.inl ⟨by rfl, ?_⟩) hHeld ?_ ?_
            rotate_left
            · rintro w_ ⟨s0, s1, s2, s3, s4, s5, s6, s7, s8⟩
              go_simp
              with_reducible rfl
            rotate_left
            · simp only [Act.put, List.setIfInBounds_toArray, List.set_cons_zero, List.set_cons_succ, i64_w, i32_w]
              rfl
            refine one_ (i := 6) (N := (some 44)) #[true, true, true, true, true, true, true, false, false, false, false] rfl rfl (by kernel_rfl) (by decide) (fun K hK => ?_)
            refine value_ (w1 := ?_) (v := ?_) (by rfl) rfl ?_ ?_
            rotate_left 2
            · go_simp
              constructor
              · rfl
              · rfl
            refine hK.out _ _ (⟨cell_alloc1 c2, cell_alloc1 c4, cell_alloc1 c60, cell_alloc1 c61, cell_alloc1 c62, cell_alloc1 c63, cell_alloc1 c64, cell_alloc1 c65, cell_alloc1 c66⟩) (fun hHeld => ?_)
            clear hK K
            refine norm_ (a' := ?_) ?_ ?_
            rotate_left
            · show Act.put _ (some 44) _ = _
              simp only [Act.put, List.setIfInBounds_toArray, List.set_cons_zero, List.set_cons_succ, i64_w, i32_w]
              rfl
            refine one_ (i := 7) (N := (some 45)) #[true, true, true, true, true, true, true, true, false, false, false] rfl rfl (by kernel_rfl) (by decide) (fun K hK => ?_)
            refine Kd.R_append_step k48 (w0 := w'.drew) (g + 1) (by rfl) (.tmp 42) (.tmp 44) 38 48 (.agg #[(.int .i64 0), (.int .i64 0), (.int .i64 0), (.int .i64 0), (.int .i64 0), (.int .i64 0), (.int .i64 0)]) 56 rfl Tryd.underlying38 insInfo rfl (by decide) (by omega) ov3 o2 (⟨x0, x1, x2, ra, rb, x5, x6⟩ : S48) _ (fun _ => True) (fun _ => False) (by rfl) (by rfl) (k48_mkM _ _ _ _) (fun _ hk => hk.elim) (fun _ _ => trivial) (Kd.R_drew HS'.out.row) (Below.refl _ _) (by have := blk_lt HS'.out.wr; show g + 1 ≤ w'.heap.size; omega) (by have := HL.out; omega) ?_
            intro v1 w1 hO1 hB1 hG1 hA1
            obtain ⟨A9, n9, c9, e9⟩ := R_slice3 hO1
            subst e9
            have n2 := HS'.out.ne_ w.heap.size (by omega) (by omega)
            have n6 := HS'.out.ne_ (w.heap.size + 1 + 1) (by omega) (by omega)
            have n4 := HS'.out.neg_
            have y4 : w1.cell? ⟨g, 4, none⟩ = some ov3 := cell_grown1 hG1 n4 c4
            have g4 : w1.frozen? ⟨g, 4, none⟩ = false := blk_frozen (blk_grown (blk_drew HS'.out.wr) hG1 n4) 4
            refine hK.out _ _ (⟨cell_grown1 hG1 n2 c2, cell_grown1 hG1 n4 c4, cell_grown1 hG1 n6 c60, cell_grown1 hG1 n6 c61, cell_grown1 hG1 n6 c62, cell_grown1 hG1 n6 c63, cell_grown1 hG1 n6 c64, cell_grown1 hG1 n6 c65, cell_grown1 hG1 n6 c66⟩) (fun hHeld => ?_)
            clear hK K
            refine norm_ (a' := ?_) ?_ ?_
            rotate_left
            · show Act.put _ (some 45) _ = _
              simp only [Act.put, List.setIfInBounds_toArray, List.set_cons_zero, List.set_cons_succ, i64_w, i32_w]
              rfl
            refine pure_ (i := 8) (N := (some 46)) (v := ?_) (a' := ?_) #[true, true, true, true, true, true, true, true, true, false, false] rfl rfl (by kernel_rfl) (fun _ _ _ h => h) (Or.inl ⟨by rfl, ?_⟩) ?_ ?_
            rotate_left
            · intro w_
              go_simp
              with_reducible rfl
            rotate_left
            · simp only [Act.put, List.setIfInBounds_toArray, List.set_cons_zero, List.set_cons_succ, i64_w, i32_w]
              rfl
            refine pure_ (i := 9) (N := (some 47)) (v := ?_) (a' := ?_) #[true, true, true, true, true, true, true, true, true, true, false] rfl rfl (by kernel_rfl) (fun _ _ _ h => h) (Or.inl ⟨by rfl, ?_⟩) ?_ ?_
            rotate_left
            · intro w_
              go_simp
              with_reducible rfl
            rotate_left
            · simp only [Act.put, List.setIfInBounds_toArray, List.set_cons_zero, List.set_cons_succ, i64_w, i32_w]
              rfl
            refine last_ (i := 10) (N := none) #[true, true, true, true, true, true, true, true, true, true, true] rfl rfl (by kernel_rfl) (by decide) (fun K hK => ?_)
            refine skip_ (w1 := ?_) (by rfl) rfl ?_ ?_
            rotate_left
            · go_simp
              rfl
            refine hK.out _ _ ?_
            clear hK K
            refine done_ (by kernel_rfl) ?_
            go_wp2_with fail
            go_end0
            exact (PutSt.pushed (PutSt.below HS'.out (below_drew (Below.refl _ _))) hO1 hB1 hG1 hA1).post (fun _ hx => by cases hx; rfl)
          · rw [if_neg hlen] at h4; cases h4
        · have h4 := H4.out
          rw [if_neg hd] at h4
          clear H4
          have hdx : d = x2 := by
            have := HD.out
            by_cases hq : fmB 1 x0 = true
            · rw [if_pos hq] at this; exact this
            · rw [if_neg hq] at this; omega
          subst hdx
          clear HD
          obtain ⟨at_, hat, h5⟩ := Option.bind_eq_some_iff.1 h4
          clear h4
          have HAT := Aside0.mk hat
          have H5 := Aside0.mk h5
          clear hat h5
          have c2 := HS'.out.c2
          have w0 : w'.cell? ⟨g, 0, none⟩ = some (.slice A0 l0.length c0) := (blk_cell HS'.out.wr 0).trans rfl
          have w1 : w'.cell? ⟨g, 1, none⟩ = some (.slice A1 l1.length c1) := (blk_cell HS'.out.wr 1).trans rfl
          have w2 : w'.cell? ⟨g, 2, none⟩ = some (.int .i64 p) := (blk_cell HS'.out.wr 2).trans rfl
          have w3 : w'.cell? ⟨g, 3, none⟩ = some (.int .i64 s) := (blk_cell HS'.out.wr 3).trans rfl
          have HGS := Aside0.mk (show g ≤ w'.drew.heap.size from Nat.le_of_lt (blk_lt HS'.out.wr))
          have HGS2 := Aside0.mk (show g ≤ w'.heap.size from Nat.le_of_lt (blk_lt HS'.out.wr))
          have HE2 := Aside0.mk (show w.heap.size ≠ w'.heap.size by have := HS'.out.wr; have := blk_lt HS'.out.2.2.2.2.2.2.1; omega)
          have HE4 := Aside0.mk (show g ≠ w'.heap.size by have := blk_lt HS'.out.wr; omega)
          go_upto_region 20 with fail
          go_cut [8] (fun s8 wc => ∃ gb, s8 = .pointer (some ⟨gb, 0, none⟩) ∧ Aside0 (PutSt w g A0 l0.length c0 A1 l1.length c1 p s ov ov3 ⟨x0, x1, d, x3, x4, x5, x6⟩ ⟨x0, x1, d, ra, rb, x5, x6⟩ o2 wc) ∧ Aside0 (wc.heap[gb]? = some (.cells #[.int .i64 at_] 3 (0, 0))) ∧ w.heap.size + 3 ≤ gb)
          case first =>
            go_region_held3 (fun W => W.cell? ⟨w.heap.size, 0, none⟩ = some (.pointer (some ⟨g, 0, none⟩)) ∧ W.cell? ⟨g, 0, none⟩ = some (.slice A0 l0.length c0) ∧ W.cell? ⟨g, 1, none⟩ = some (.slice A1 l1.length c1) ∧ W.cell? ⟨g, 2, none⟩ = some (.int .i64 p) ∧ W.cell? ⟨g, 3, none⟩ = some (.int .i64 s))
              (first | exact ⟨c2, w0, w1, w2, w3⟩ | exact ⟨cell_alloc1 c2, cell_alloc1 w0, cell_alloc1 w1, cell_alloc1 w2, cell_alloc1 w3⟩ | exact ⟨pw_cell_below hb c2, pw_cell_below hb w0, pw_cell_below hb w1, pw_cell_below hb w2, pw_cell_below hb w3⟩ | exact ⟨pw_cell_below hb (cell_alloc1 c2), pw_cell_below hb (cell_alloc1 w0), pw_cell_below hb (cell_alloc1 w1), pw_cell_below hb (cell_alloc1 w2), pw_cell_below hb (cell_alloc1 w3)⟩ | exact ⟨cell_alloc1 (pw_cell_below hb c2), cell_alloc1 (pw_cell_below hb w0), cell_alloc1 (pw_cell_below hb w1), cell_alloc1 (pw_cell_below hb w2), cell_alloc1 (pw_cell_below hb w3)⟩ | exact ⟨cell_set1 HE2.out (pw_cell_below hb (cell_alloc1 c2)), cell_set1 HE4.out (pw_cell_below hb (cell_alloc1 w0)), cell_set1 HE4.out (pw_cell_below hb (cell_alloc1 w1)), cell_set1 HE4.out (pw_cell_below hb (cell_alloc1 w2)), cell_set1 HE4.out (pw_cell_below hb (cell_alloc1 w3))⟩ | go_keep)
              (first | ((with_reducible refine (spill_Word.calls k A0 c0 l0 A1 c1 l1 p s d at_ _ (HR0.out _ (below_drew HS'.out.bel)) HC0.out (HR1.out _ (below_drew HS'.out.bel)) HC1.out HAT.out).mono ?_); rintro e w'' ⟨rfl, hb⟩) | ((with_reducible refine (spill_Word.calls k A0 c0 l0 A1 c1 l1 p s d at_ _ (HR0.out _ (below_drew (HS'.out.bel.alloc HGS2.out _))) HC0.out (HR1.out _ (below_drew (HS'.out.bel.alloc HGS2.out _))) HC1.out HAT.out).mono ?_); rintro e w'' ⟨rfl, hb⟩; have hq := blk_below (blk_drew (blk_new w' _)) hb; have hq1 : w''.cell? ⟨w'.heap.size, 0, none⟩ = some (.int .i64 0) := (blk_cell hq 0).trans rfl; have hq2 : w''.frozen? ⟨w'.heap.size, 0, none⟩ = false := blk_frozen hq 0))
            · go_wp2_with fail
              go_meet
              have hB := below_step (below_drew (Below.refl w'.heap.size w')) hb
              have hs3 : w.heap.size + 1 + 1 < w'.heap.size := blk_lt HS'.out.2.2.2.2.2.2.2.2.1
              have hs4 := hB.size
              exact ⟨_, rfl, ⟨PutSt.below HS'.out (hB.alloc hs4 _)⟩, ⟨blk_new _ _⟩, by omega⟩
            · go_wp2_with fail
              go_meet
              have hB := (below_step (below_drew ((Below.refl w'.heap.size w').alloc (Nat.le_refl _) _)) hb)
              have hs3 : w.heap.size + 1 + 1 < w'.heap.size := blk_lt HS'.out.2.2.2.2.2.2.2.2.1
              exact ⟨_, rfl, ⟨PutSt.below HS'.out (hB.setCell (p := ⟨w'.heap.size, 0, none⟩) (Nat.le_refl _) _)⟩, ⟨blk_set hq 0 _⟩, by omega⟩
          case rest =>
            clear c2 w0 w1 w2 w3 HGS HGS2 HE2 HE4 HS'
            obtain ⟨gb, rfl, HS, HG, hgb⟩ := hcut
            have c8 : wc.cell? ⟨gb, 0, none⟩ = some (.int .i64 at_) := (blk_cell HG.out 0).trans rfl
            have c2 := HS.out.c2
            have w0 : wc.cell? ⟨g, 0, none⟩ = some (.slice A0 l0.length c0) := (blk_cell HS.out.wr 0).trans rfl
            have c30 : wc.cell? ⟨w.heap.size + 1, 0, none⟩ = some (.int .i64 x0) := HS.out.c3 0
            go_upto_block 1 with fail
            go_cut [9] (fun s9 wd => ∃ (ov4 : Value) (y' : S48) (o4 : List S48), Aside0 (PutSt w g A0 l0.length c0 A1 l1.length c1 p s ov ov4 ⟨x0, x1, d, x3, x4, x5, x6⟩ y' o4 wd) ∧ Aside0 (wd.heap[gb]? = some (.cells #[.int .i64 at_] 3 (0, 0))) ∧ ((Aside0 (pushI o4 y' = some out') ∧ s9 = .func (.func 43) #[] #[]) ∨ (Aside0 ((pushI o4 y').bind (fun o => pushI o ⟨5, 0, 0, -1, 15, at_, 0⟩) = some out') ∧ s9 = .func (.func 44) #[] #[.pointer (some ⟨w.heap.size, 0, none⟩), .pointer (some ⟨gb, 0, none⟩)])))
            case first =>
              by_cases hneg : at_ < 0
              · have h5 := H5.out
                rw [if_pos hneg] at h5
                obtain ⟨q, hq, h6⟩ := Option.bind_eq_some_iff.1 h5
                clear h5
                by_cases q0 : 0 ≤ q
                · rw [if_pos q0] at h6
                  by_cases q1 : q < l0.length
                  · rw [if_pos q1] at h6
                    have HQ := Aside0.mk hq
                    have H6 := Aside0.mk h6
                    clear hq h6
                    obtain ⟨ad, e1, y0, y1⟩ := at_T45 (HR0.out _ HS.out.bel) q q0 q1
                    cases e1
                    clear H5 y0
                    go_wp2_with fail
                    refine start_ (n := 15) (S := (fun W => W.cell? ⟨w.heap.size, 0, none⟩ = some (.pointer (some ⟨g, 0, none⟩)) ∧ W.cell? ⟨g, 0, none⟩ = some (.slice (some ad) l0.length c0) ∧ W.cell? ⟨(ad.add (q.toNat * 2)).block, (ad.add (q.toNat * 2)).off + 1, none⟩ = some (.int .i64 (rd_T45 l0 q).f1))) (ds := [14]) #[false, false, false, false, false, false, false, false, false, false, false, false, false, false, false] (by kernel_rfl) rfl rfl (⟨c2, w0, y1⟩) (fun hHeld => ?_)
                    refine take_ (i := 0) (N := (some 69)) (v := ?_) (a' := ?_) #[true, false, false, false, false, false, false, false, false, false, false, false, false, false, false] rfl rfl (by kernel_rfl) (fun _ _ _ h => h) (Or.inl ⟨by rfl, ?_⟩) hHeld ?_ ?_
                    rotate_left
                    · rintro w_ ⟨s0, s1, s2⟩
                      go_simp
                      with_reducible rfl
                    rotate_left
                    · simp only [Act.put, List.setIfInBounds_toArray, List.set_cons_zero, List.set_cons_succ, i64_w, i32_w]
                      rfl
                    refine pure_ (i := 1) (N := (some 70)) (v := ?_) (a' := ?_) #[true, true, false, false, false, false, false, false, false, false, false, false, false, false, false] rfl rfl (by kernel_rfl) (fun _ _ _ h => h) (Or.inl ⟨by rfl, ?_⟩) ?_ ?_
                    rotate_left
                    · intro w_
                      go_simp
                      with_reducible rfl
                    rotate_left
                    · simp only [Act.put, List.setIfInBounds_toArray, List.set_cons_zero, List.set_cons_succ, i64_w, i32_w]
                      rfl
                    refine pure_ (i := 2) (N := (some 71)) (v := ?_) (a' := ?_) #[true, true, true, false, false, false, false, false, false, false, false, false, false, false, false] rfl rfl (by kernel_rfl) (fun _ _ _ h => h) (Or.inl ⟨by rfl, ?_⟩) ?_ ?_
                    rotate_left
                    · intro w_
                      go_simp
                      with_reducible rfl
                    rotate_left
                    · simp only [Act.put, List.setIfInBounds_toArray, List.set_cons_zero, List.set_cons_succ, i64_w, i32_w]
                      rfl
                    refine take_ (i := 3) (N := (some 72)) (v := ?_) (a' := ?_) #[true, true, true, true, false, false, false, false, false, false, false, false, false, false, false] rfl rfl (by kernel_rfl) (fun _ _ _ h => h) (Or.inl ⟨by rfl, ?_⟩) hHeld ?_ ?_
                    rotate_left
                    · rintro w_ ⟨s0, s1, s2⟩
                      go_simp
                      with_reducible rfl
                    rotate_left
                    · simp only [Act.put, List.setIfInBounds_toArray, List.set_cons_zero, List.set_cons_succ, i64_w, i32_w]
                      rfl
                    refine take_ (i := 4) (N := (some 73)) (v := ?_) (a' := ?_) #[true, true, true, true, true, false, false, false, false, false, false, false, false, false, false] rfl rfl (by kernel_rfl) (fun _ _ _ h => h) (Or.inl ⟨by rfl, ?_⟩) hHeld ?_ ?_
                    rotate_left
                    · rintro w_ ⟨s0, s1, s2⟩
                      go_simp
                      with_reducible rfl
                    rotate_left
                    · simp only [Act.put, List.setIfInBounds_toArray, List.set_cons_zero, List.set_cons_succ, i64_w, i32_w]
                      rfl
                    refine pure_ (i := 5) (N := (some 74)) (v := ?_) (a' := ?_) #[true, true, true, true, true, true, false, false, false, false, false, false, false, false, false] rfl rfl (by kernel_rfl) (fun _ _ _ h => h) (Or.inl ⟨by rfl, ?_⟩) ?_ ?_
                    rotate_left
                    · intro w_
                      go_simp
                      with_reducible rfl
                    rotate_left
                    · simp only [Act.put, List.setIfInBounds_toArray, List.set_cons_zero, List.set_cons_succ, i64_w, i32_w]
                      rfl
                    refine pure_ (i := 6) (N := (some 75)) (v := ?_) (a' := ?_) #[true, true, true, true, true, true, true, false, false, false, false, false, false, false, false] rfl rfl (by kernel_rfl) (fun _ _ _ h => h) (Or.inl ⟨by rfl, ?_⟩) ?_ ?_
                    rotate_left
                    · intro w_
                      go_simp
                      with_reducible rfl
                    rotate_left
                    · simp only [Act.put, List.setIfInBounds_toArray, List.set_cons_zero, List.set_cons_succ, i64_w, i32_w]
                      rfl
                    refine take_ (i := 7) (N := (some 76)) (v := ?_) (a' := ?_) #[true, true, true, true, true, true, true, true, false, false, false, false, false, false, false] rfl rfl (by kernel_rfl) (fun _ _ _ h => h) (Or.inl ⟨by rfl, ?_⟩) hHeld ?_ ?_
                    rotate_left
                    · rintro w_ ⟨s0, s1, s2⟩
                      go_simp
                      with_reducible rfl
                    rotate_left
                    · simp only [Act.put, List.setIfInBounds_toArray, List.set_cons_zero, List.set_cons_succ, i64_w, i32_w]
                      rfl
                    refine pure_ (i := 8) (N := (some 77)) (v := ?_) (a' := ?_) #[true, true, true, true, true, true, true, true, true, false, false, false, false, false, false] rfl rfl (by kernel_rfl) (fun _ _ _ h => h) (Or.inl ⟨by rfl, ?_⟩) ?_ ?_
                    rotate_left
                    · intro w_
                      go_simp
                      with_reducible rfl
                    rotate_left
                    · simp only [Act.put, List.setIfInBounds_toArray, List.set_cons_zero, List.set_cons_succ, i64_w, i32_w]
                      rfl
                    refine one_ (i := 9) (N := (some 78)) #[true, true, true, true, true, true, true, true, true, true, false, false, false, false, false] rfl rfl (by kernel_rfl) (by decide) (fun K hK => ?_)
                    refine goes_ Tryd.func25 (by kernel_rfl) rfl #[.slice (some ad) l0.length c0, .int .i64 d] (by rfl) rfl rfl (by (try simp only [List.map_toArray, List.map_cons, List.map_nil]); rfl) ?_
                    refine (spill_find.calls (some ad) c0 l0 d q _ (Kd.C_drew (HR0.out _ HS.out.bel)) HC0.out HQ.out).mono ?_
                    rintro e w2 ⟨rfl, hb⟩
                    have c6 : w2.cell? ⟨w.heap.size + 1 + 1, 2, none⟩ = some (.int .i64 d) := (PutSt.below (PutSt.below HS.out (below_drew (Below.refl _ _))) hb).c6 2
                    have f6 := (PutSt.below (PutSt.below HS.out (below_drew (Below.refl _ _))) hb).f6 2
                    refine ⟨_, rfl, ?_⟩
                    refine hK.out _ _ (⟨pw_cell_below hb c2, pw_cell_below hb w0, pw_cell_below hb y1⟩) (fun hHeld => ?_)
                    clear hK K
                    refine norm_ (a' := ?_) ?_ ?_
                    rotate_left
                    · show Act.put _ (some 78) _ = _
                      simp only [Act.put, List.setIfInBounds_toArray, List.set_cons_zero, List.set_cons_succ, i64_w, i32_w]
                      rfl
                    refine pure_ (i := 10) (N := (some 79)) (v := ?_) (a' := ?_) #[true, true, true, true, true, true, true, true, true, true, true, false, false, false, false] rfl rfl (by kernel_rfl) (fun _ _ _ h => h) (Or.inl ⟨by rfl, ?_⟩) ?_ ?_
                    rotate_left
                    · intro w_
                      go_simp
                      with_reducible rfl
                    rotate_left
                    · simp only [Act.put, List.setIfInBounds_toArray, List.set_cons_zero, List.set_cons_succ, i64_w, i32_w]
                      rfl
                    refine pure_ (i := 11) (N := (some 80)) (v := ?_) (a' := ?_) #[true, true, true, true, true, true, true, true, true, true, true, true, false, false, false] rfl rfl (by kernel_rfl) (fun _ _ _ h => h) (Or.inl ⟨by rfl, ?_⟩) ?_ ?_
                    rotate_left
                    · intro w_
                      go_simp
                      with_reducible rfl
                    rotate_left
                    · simp only [Act.put, List.setIfInBounds_toArray, List.set_cons_zero, List.set_cons_succ, i64_w, i32_w]
                      rfl
                    refine take_ (i := 12) (N := (some 81)) (v := ?_) (a' := ?_) #[true, true, true, true, true, true, true, true, true, true, true, true, true, false, false] rfl rfl (by kernel_rfl) (fun _ _ _ h => h) (Or.inl ⟨by rfl, ?_⟩) hHeld ?_ ?_
                    rotate_left
                    · rintro w_ ⟨s0, s1, s2⟩
                      go_simp
                      with_reducible rfl
                    rotate_left
                    · simp only [Act.put, List.setIfInBounds_toArray, List.set_cons_zero, List.set_cons_succ, i64_w, i32_w]
                      rfl
                    refine pure_ (i := 13) (N := (some 82)) (v := ?_) (a' := ?_) #[true, true, true, true, true, true, true, true, true, true, true, true, true, true, false] rfl rfl (by kernel_rfl) (fun _ _ _ h => h) (Or.inl ⟨by rfl, ?_⟩) ?_ ?_
                    rotate_left
                    · intro w_
                      go_simp
                      with_reducible rfl
                    rotate_left
                    · simp only [Act.put, List.setIfInBounds_toArray, List.set_cons_zero, List.set_cons_succ, i64_w, i32_w]
                      rfl
                    refine last_ (i := 14) (N := none) #[true, true, true, true, true, true, true, true, true, true, true, true, true, true, true] rfl rfl (by kernel_rfl) (by decide) (fun K hK => ?_)
                    refine skip_ (w1 := ?_) (by rfl) rfl ?_ ?_
                    rotate_left
                    · go_simp
                      rfl
                    refine hK.out _ _ ?_
                    clear hK K
                    refine done_ (by kernel_rfl) ?_
                    go_wp2_with fail
                    go_meet
                    have hS2 := PutSt.below (PutSt.below HS.out (below_drew (Below.refl _ _))) hb
                    exact ⟨ov3, ⟨x0, x1, (rd_T45 l0 q).f1, ra, rb, x5, x6⟩, o2, ⟨PutSt.set_ hS2 2 _ rfl⟩, ⟨blk_far (blk_below (blk_drew HG.out) hb) (by show gb ≠ w.heap.size + 1 + 1; omega) _⟩, .inl ⟨H6, rfl⟩⟩
                  · rw [if_neg q1] at h6; cases h6
                · rw [if_neg q0] at h6; cases h6
              · have h5 := H5.out
                rw [if_neg hneg] at h5
                obtain ⟨r, hr, h7⟩ := Option.bind_eq_some_iff.1 h5
                have H7 := Aside0.mk h7
                clear h5 H5 h7
                have hmf : ∀ (fn : Fn) (first cap : Array Value) (w : World), (Instr.makeFunc fn first cap).run Tryd.prog w = .ok (.func fn first cap) w := fun _ _ _ _ => rfl
                by_cases e3 : x0 = 3
                · rw [if_pos e3] at hr
                  obtain ⟨r1, r2⟩ := r
                  subst e3
                  have HRD := Aside0.mk hr
                  clear hr
                  go_wp2_with fail
                  refine (spill_read.calls k g A0 c0 l0 A1 c1 l1 p s ov3 o2 r2 d 15 r1 _ (HR0.out _ HS.out.bel) HC0.out (HR1.out _ HS.out.bel) HC1.out HS.out.wr HS.out.row HRD.out).mono ?_
                  rintro e w' hp
                  cases hp.1 _ rfl
                  obtain ⟨ov4, hS4⟩ := PutSt.after HS.out hp
                  have HG4 := Aside0.mk (WrPost.blk hp HG.out (by omega) (Kd.R_ne HS.out.row HG.out (by decide)))
                  have c6 : w'.cell? ⟨w.heap.size + 1 + 1, 2, none⟩ = some (.int .i64 d) := hS4.c6 2
                  have f6 := hS4.f6 2
                  have HS4 := Aside0.mk hS4
                  clear hp hS4 HS HG c2 w0 c30 c8
                  go_wp2_with fail
                  go_meet
                  exact ⟨ov4, ⟨3, x1, 15, ra, rb, x5, x6⟩, r2, ⟨PutSt.set_ HS4.out 2 _ rfl⟩, ⟨blk_far HG4.out (by show gb ≠ w.heap.size + 1 + 1; omega) _⟩, .inr ⟨H7, rfl⟩⟩
                · rw [if_neg e3] at hr
                  have hr := Option.some.inj hr
                  subst hr
                  have c6 : wc.cell? ⟨w.heap.size + 1 + 1, 2, none⟩ = some (.int .i64 d) := HS.out.c6 2
                  have f6 := HS.out.f6 2
                  go_wp2_with fail
                  go_meet
                  exact ⟨ov3, ⟨x0, x1, 15, ra, rb, x5, x6⟩, o2, ⟨PutSt.set_ HS.out 2 _ rfl⟩, ⟨blk_far HG.out (by show gb ≠ w.heap.size + 1 + 1; omega) _⟩, .inr ⟨H7, rfl⟩⟩
            case rest =>
              clear c2 w0 c30 c8 HG HS H5
              obtain ⟨ov4, ⟨y0, y1, y2, y3, y4, y5, y6⟩, o4, HS, HG, hcase⟩ := hcut
              obtain ⟨wd, hwd⟩ : ∃ wd, wd = wc := ⟨_, rfl⟩
              subst hwd
              have HL : Aside0 (o4.length < 2000000000000) := by
                rcases hcase with ⟨HP, _⟩ | ⟨HP, _⟩
                · exact ⟨(pushI_some HP.out).1⟩
                · obtain ⟨z, hz, _⟩ := Option.bind_eq_some_iff.1 HP.out
                  exact ⟨(pushI_some hz).1⟩
              have HCASE := Aside0.mk hcase
              clear hcase
              have c2 := HS.out.c2
              have c4 := HS.out.c4
              have c60 : wd.cell? ⟨w.heap.size + 1 + 1, 0, none⟩ = some (.int .i64 y0) := HS.out.c6 0
              have c61 : wd.cell? ⟨w.heap.size + 1 + 1, 1, none⟩ = some (.int .i64 y1) := HS.out.c6 1
              have c62 : wd.cell? ⟨w.heap.size + 1 + 1, 2, none⟩ = some (.int .i64 y2) := HS.out.c6 2
              have c63 : wd.cell? ⟨w.heap.size + 1 + 1, 3, none⟩ = some (.int .i64 y3) := HS.out.c6 3
              have c64 : wd.cell? ⟨w.heap.size + 1 + 1, 4, none⟩ = some (.int .i64 y4) := HS.out.c6 4
              have c65 : wd.cell? ⟨w.heap.size + 1 + 1, 5, none⟩ = some (.int .i64 y5) := HS.out.c6 5
              have c66 : wd.cell? ⟨w.heap.size + 1 + 1, 6, none⟩ = some (.int .i64 y6) := HS.out.c6 6
              go_wp2_with fail
              refine start_ (n := 11) (S := (fun W => W.cell? ⟨w.heap.size, 0, none⟩ = some (.pointer (some ⟨g, 0, none⟩)) ∧ W.cell? ⟨g, 4, none⟩ = some ov4 ∧ W.cell? ⟨w.heap.size + 1 + 1, 0, none⟩ = some (.int .i64 y0) ∧ W.cell? ⟨w.heap.size + 1 + 1, 1, none⟩ = some (.int .i64 y1) ∧ W.cell? ⟨w.heap.size + 1 + 1, 2, none⟩ = some (.int .i64 y2) ∧ W.cell? ⟨w.heap.size + 1 + 1, 3, none⟩ = some (.int .i64 y3) ∧ W.cell? ⟨w.heap.size + 1 + 1, 4, none⟩ = some (.int .i64 y4) ∧ W.cell? ⟨w.heap.size + 1 + 1, 5, none⟩ = some (.int .i64 y5) ∧ W.cell? ⟨w.heap.size + 1 + 1, 6, none⟩ = some (.int .i64 y6))) (ds := [10]) #[false, false, false, false, false, false, false, false, false, false, false] (by kernel_rfl) rfl rfl (⟨c2, c4, c60, c61, c62, c63, c64, c65, c66⟩) (fun hHeld => ?_)
              refine take_ (i := 0) (N := (some 88)) (v := ?_) (a' := ?_) #[true, false, false, false, false, false, false, false, false, false, false] rfl rfl (by kernel_rfl) (fun _ _ _ h => h) (Or.inl ⟨by rfl, ?_⟩) hHeld ?_ ?_
              rotate_left
              · rintro w_ ⟨s0, s1, s2, s3, s4, s5, s6, s7, s8⟩
                go_simp
                with_reducible rfl
              rotate_left
              · simp only [Act.put, List.setIfInBounds_toArray, List.set_cons_zero, List.set_cons_succ, i64_w, i32_w]
                rfl
              refine take_ (i := 1) (N := (some 89)) (v := ?_) (a' := ?_) #[true, true, false, false, false, false, false, false, false, false, false] rfl rfl (by kernel_rfl) (fun _ _ _ h => h) (Or.inl ⟨by rfl, ?_⟩) hHeld ?_ ?_
              rotate_left
              · rintro w_ ⟨s0, s1, s2, s3, s4, s5, s6, s7, s8⟩
                go_simp
                with_reducible rfl
              rotate_left
              · simp only [Act.put, List.setIfInBounds_toArray, List.set_cons_zero, List.set_cons_succ, i64_w, i32_w]
                rfl
              refine pure_ (i := 2) (N := (some 90)) (v := ?_) (a' := ?_) #[true, true, true, false, false, false, false, false, false, false, false] rfl rfl (by kernel_rfl) (fun _ _ _ h => h) (Or.inl ⟨by rfl, ?_⟩) ?_ ?_
              rotate_left
              · intro w_
                go_simp
                with_reducible rfl
              rotate_left
              · simp only [Act.put, List.setIfInBounds_toArray, List.set_cons_zero, List.set_cons_succ, i64_w, i32_w]
                rfl
              refine pure_ (i := 3) (N := (some 91)) (v := ?_) (a' := ?_) #[true, true, true, true, false, false, false, false, false, false, false] rfl rfl (by kernel_rfl) (fun _ _ _ h => h) (Or.inl ⟨by rfl, ?_⟩) ?_ ?_
              rotate_left
              · intro w_
                go_simp
                with_reducible rfl
              rotate_left
              · simp only [Act.put, List.setIfInBounds_toArray, List.set_cons_zero, List.set_cons_succ, i64_w, i32_w]
                rfl
              refine take_ (i := 4) (N := (some 92)) (v := ?_) (a' := ?_) #[true, true, true, true, true, false, false, false, false, false, false] rfl rfl (by kernel_rfl) (fun _ _ _ h => h) (Or.inl ⟨by rfl, ?_⟩) hHeld ?_ ?_
              rotate_left
              · rintro w_ ⟨s0, s1, s2, s3, s4, s5, s6, s7, s8⟩
                go_simp
                with_reducible rfl
              rotate_left
              · simp only [Act.put, List.setIfInBounds_toArray, List.set_cons_zero, List.set_cons_succ, i64_w, i32_w]
                rfl
              refine take_ (i := 5) (N := (some 93)) (v := ?_) (a' := ?_) #[true, true, true, true, true, true, false, false, false, false, false] rfl rfl (by kernel_rfl) (fun _ _ _ h => h) (Or.inl ⟨by rfl, ?_⟩) hHeld ?_ ?_
              rotate_left
              · rintro w_ ⟨s0, s1, s2, s3, s4, s5, s6, s7, s8⟩
                go_simp
                with_reducible rfl
              rotate_left
              · simp only [Act.put, List.setIfInBounds_toArray, List.set_cons_zero, List.set_cons_succ, i64_w, i32_w]
                rfl
              refine one_ (i := 6) (N := (some 94)) #[true, true, true, true, true, true, true, false, false, false, false] rfl rfl (by kernel_rfl) (by decide) (fun K hK => ?_)
              refine value_ (w1 := ?_) (v := ?_) (by rfl) rfl ?_ ?_
              rotate_left 2
              · go_simp
                constructor
                · rfl
                · rfl
              refine hK.out _ _ (⟨cell_alloc1 c2, cell_alloc1 c4, cell_alloc1 c60, cell_alloc1 c61, cell_alloc1 c62, cell_alloc1 c63, cell_alloc1 c64, cell_alloc1 c65, cell_alloc1 c66⟩) (fun hHeld => ?_)
              clear hK K
              refine norm_ (a' := ?_) ?_ ?_
              rotate_left
              · show Act.put _ (some 94) _ = _
                simp only [Act.put, List.setIfInBounds_toArray, List.set_cons_zero, List.set_cons_succ, i64_w, i32_w]
                rfl
              refine one_ (i := 7) (N := (some 95)) #[true, true, true, true, true, true, true, true, false, false, false] rfl rfl (by kernel_rfl) (by decide) (fun K hK => ?_)
              refine Kd.R_append_step k48 (w0 := wd.drew) (g + 1) (by rfl) (.tmp 92) (.tmp 94) 38 48 (.agg #[(.int .i64 0), (.int .i64 0), (.int .i64 0), (.int .i64 0), (.int .i64 0), (.int .i64 0), (.int .i64 0)]) 56 rfl Tryd.underlying38 insInfo rfl (by decide) (by omega) ov4 o4 (⟨y0, y1, y2, y3, y4, y5, y6⟩ : S48) _ (fun _ => True) (fun _ => False) (by rfl) (by rfl) (k48_mkM _ _ _ _) (fun _ hk => hk.elim) (fun _ _ => trivial) (Kd.R_drew HS.out.row) (Below.refl _ _) (by have := blk_lt HS.out.wr; show g + 1 ≤ wd.heap.size; omega) (by have := HL.out; omega) ?_
              intro v1 w1 hO1 hB1 hG1 hA1
              obtain ⟨A9, n9, c9, e9⟩ := R_slice3 hO1
              subst e9
              have n2 := HS.out.ne_ w.heap.size (by omega) (by omega)
              have n6 := HS.out.ne_ (w.heap.size + 1 + 1) (by omega) (by omega)
              have n4 := HS.out.neg_
              have z4 : w1.cell? ⟨g, 4, none⟩ = some ov4 := cell_grown1 hG1 n4 c4
              have g4 : w1.frozen? ⟨g, 4, none⟩ = false := blk_frozen (blk_grown (blk_drew HS.out.wr) hG1 n4) 4
              refine hK.out _ _ (⟨cell_grown1 hG1 n2 c2, cell_grown1 hG1 n4 c4, cell_grown1 hG1 n6 c60, cell_grown1 hG1 n6 c61, cell_grown1 hG1 n6 c62, cell_grown1 hG1 n6 c63, cell_grown1 hG1 n6 c64, cell_grown1 hG1 n6 c65, cell_grown1 hG1 n6 c66⟩) (fun hHeld => ?_)
              clear hK K
              refine norm_ (a' := ?_) ?_ ?_
              rotate_left
              · show Act.put _ (some 95) _ = _
                simp only [Act.put, List.setIfInBounds_toArray, List.set_cons_zero, List.set_cons_succ, i64_w, i32_w]
                rfl
              refine pure_ (i := 8) (N := (some 96)) (v := ?_) (a' := ?_) #[true, true, true, true, true, true, true, true, true, false, false] rfl rfl (by kernel_rfl) (fun _ _ _ h => h) (Or.inl ⟨by rfl, ?_⟩) ?_ ?_
              rotate_left
              · intro w_
                go_simp
                with_reducible rfl
              rotate_left
              · simp only [Act.put, List.setIfInBounds_toArray, List.set_cons_zero, List.set_cons_succ, i64_w, i32_w]
                rfl
              refine pure_ (i := 9) (N := (some 97)) (v := ?_) (a' := ?_) #[true, true, true, true, true, true, true, true, true, true, false] rfl rfl (by kernel_rfl) (fun _ _ _ h => h) (Or.inl ⟨by rfl, ?_⟩) ?_ ?_
              rotate_left
              · intro w_
                go_simp
                with_reducible rfl
              rotate_left
              · simp only [Act.put, List.setIfInBounds_toArray, List.set_cons_zero, List.set_cons_succ, i64_w, i32_w]
                rfl
              refine last_ (i := 10) (N := none) #[true, true, true, true, true, true, true, true, true, true, true] rfl rfl (by kernel_rfl) (by decide) (fun K hK => ?_)
              refine skip_ (w1 := ?_) (by rfl) rfl ?_ ?_
              rotate_left
              · go_simp
                rfl
              refine hK.out _ _ ?_
              clear hK K
              refine done_ (by kernel_rfl) ?_
              have hS5 := PutSt.pushed (PutSt.below HS.out (below_drew (Below.refl _ _))) hO1 hB1 hG1 hA1
              have n8 : some gb ≠ ov4.ownBlock := Kd.R_ne HS.out.row HG.out (by decide)
              have hG5 : (w1.setCell ⟨g, 4, none⟩ (.slice A9 n9 c9)).heap[gb]? = some (.cells #[.int .i64 at_] 3 (0, 0)) := blk_far (blk_grown (blk_drew HG.out) hG1 n8) (by show gb ≠ g; omega) _
              have HS5 := Aside0.mk hS5
              have HG5 := Aside0.mk hG5
              clear hS5 hG5 hO1 hB1 hG1 hA1 n2 n6 n4 z4 g4 n8 c2 c4 c60 c61 c62 c63 c64 c65 c66 hHeld HS HG
              rcases HCASE.out with ⟨HP, rfl⟩ | ⟨HP, rfl⟩
              · obtain ⟨_, rfl⟩ := pushI_some HP.out
                have eg := enters_ Tryd.func43 (by kernel_rfl) rfl
                clear HCASE HP HL
                go_wp2_with fail
                refine (spill_put1.calls _).mono ?_
                rintro e w' ⟨rfl, rfl⟩
                clear eg
                go_wp2_with fail
                go_end0
                exact HS5.out.post (fun _ hx => by cases hx; rfl)
              · obtain ⟨z, hz, h8⟩ := Option.bind_eq_some_iff.1 HP.out
                obtain ⟨_, rfl⟩ := pushI_some hz
                have H8 := Aside0.mk h8
                have eg := enters_ Tryd.func44 (by kernel_rfl) rfl
                clear HCASE HP HL hz h8
                go_wp2_with fail
                refine (spill_put2.calls g w.heap.size gb A0 l0.length c0 A1 l1.length c1 p s at_ _ _ out' _ HS5.out.wr HS5.out.row HS5.out.c2 ((blk_cell HG5.out 0).trans rfl) (HS5.out.ne_ _ (by omega) (by omega)) (Kd.R_ne HS5.out.row HG5.out (by decide)) H8.out).mono ?_
                rintro e w' hp
                cases hp.1 _ rfl
                obtain ⟨ov6, hS6⟩ := PutSt.after HS5.out hp
                have HS6 := Aside0.mk hS6
                clear eg hp hS6
                go_wp2_with fail
                go_end0
                exact HS6.out.post (fun _ hx => by cases hx; rfl)
end Go.Proofs.YtpbhfpbfmpocdaaDoor.PSpillNone
