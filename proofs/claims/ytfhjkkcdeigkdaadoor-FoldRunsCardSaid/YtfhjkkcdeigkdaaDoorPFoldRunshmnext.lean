import Derived.Test.YtfhjkkcdeigkdaaDoorPFoldRunsx0
import Derived.Test.YtfhjkkcdeigkdaaDoorPFoldRunshg0
import Derived.Test.YtfhjkkcdeigkdaaDoorPFoldRunshmlock
import Derived.Test.YtfhjkkcdeigkdaaDoorPFoldRunshmplain
import Derived.Test.YtfhjkkcdeigkdaaDoorPFoldRunshg7
import Derived.Test.YtfhjkkcdeigkdaaDoorPFoldRunshg6
import Derived.Test.YtfhjkkcdeigkdaaDoorPFoldRunshmlock
import Derived.Test.YtfhjkkcdeigkdaaDoorPFoldRunshmplain
import Derived.Deep.QuietTactic
import Derived.BigQuiet
namespace Go.Proofs.YtfhjkkcdeigkdaaDoor.PFoldRuns
open Go.RowKit Go.Proofs.YtfhjkkcdeigkdaaDoorW.PrintWords Go.Proofs.YtfhjkkcdeigkdaaDoorW.PrintLast Go.Proofs.YtfhjkkcdeigkdaaDoorW.PrintMore
set_option linter.unusedVariables false
set_option linter.unusedSimpArgs false
/-! The document's machine: turns of it. -/
/-- the machine's block, its thread's, and what else stays -/
structure MW (W : World) (w0 W0 : World) (F : Nat → Prop) (b gC gT gE : Nat) (A0 : Option Addr) (n0 c0 : Nat) (vM vO vG : Value) (s : MSt) : Prop where
  o : MO W w0.heap.size (fun k => F k ∨ W0.heap.size ≤ k) b gC gT A0 n0 c0 vM vO s.mem s.own
  t : MT W w0.heap.size (fun k => F k ∨ W0.heap.size ≤ k) gT vG s.regs s.pc s.over
  e : W.heap[gE]? = some (.cells #[.int .i64 0, .int .i64 0, .int .i64 0] 37 (0, 0))
  b : Below w0.heap.size w0 W
  k : Kept W0 W F
theorem MW.below {W W' w0 W0 : World} {F : Nat → Prop} {b gC gT gE : Nat} {A0 : Option Addr} {n0 c0 : Nat} {vM vO vG : Value} {s : MSt} (h : MW W w0 W0 F b gC gT gE A0 n0 c0 vM vO vG s) (hb : Below W.heap.size W W') : MW W' w0 W0 F b gC gT gE A0 n0 c0 vM vO vG s :=
  ⟨h.o.below hb, h.t.below hb, blk_below h.e hb, h.b.trans (hb.mono h.b.size), h.k.below hb⟩
/-- the event is put, and the machine is as it is -/
theorem MW.event {W w0 W0 : World} {F : Nat → Prop} {b gC gT gE : Nat} {A0 : Option Addr} {n0 c0 : Nat} {vM vO vG : Value} {s : MSt} (h : MW W w0 W0 F b gC gT gE A0 n0 c0 vM vO vG s) (hE : W0.heap.size ≤ gE) (h0 : w0.heap.size ≤ W0.heap.size) (x y z : Value) :
    let W' := ((W.setCell ⟨gE, 0, none⟩ x).setCell ⟨gE, 1, none⟩ y).setCell ⟨gE, 2, none⟩ z
    W'.heap[gE]? = some (.cells #[x, y, z] 37 (0, 0)) ∧ MO W' w0.heap.size (fun k => F k ∨ W0.heap.size ≤ k) b gC gT A0 n0 c0 vM vO s.mem s.own ∧ MT W' w0.heap.size (fun k => F k ∨ W0.heap.size ≤ k) gT vG s.regs s.pc s.over ∧ Below w0.heap.size w0 W' ∧ Kept W0 W' F := by
  intro W'
  have g1 := blk_set h.e 0 x
  have g2 := blk_set g1 1 y
  have s1 : ∀ (T : List Nat), 37 ∉ T → Stay T W W' := fun T hT => ((Stay.set h.e hT 0 x).trans (Stay.set g1 hT 1 y)).trans (Stay.set g2 hT 2 z)
  have hw : w0.heap.size ≤ gE := Nat.le_trans h0 hE
  exact ⟨blk_set g2 2 z, h.o.stay (s1 _ (by decide)), h.t.stay (s1 _ (by decide)), ((h.b.setCell (p := ⟨gE, 0, none⟩) hw _).setCell (p := ⟨gE, 1, none⟩) hw _).setCell (p := ⟨gE, 2, none⟩) hw _, ((h.k.setCell (p := ⟨gE, 0, none⟩) (.inr hE) _).setCell (p := ⟨gE, 1, none⟩) (.inr hE) _).setCell (p := ⟨gE, 2, none⟩) (.inr hE) _⟩
theorem nF7 {w : World} {g : Nat} {t : TypeId} {v0 v1 v2 v3 v4 v5 v6 : Value} (h : w.heap[g]? = some (.cells #[v0, v1, v2, v3, v4, v5, v6] t (0, 0))) : w.cell? ⟨g, 0, none⟩ = some v0 ∧ w.cell? ⟨g, 1, none⟩ = some v1 ∧ w.cell? ⟨g, 2, none⟩ = some v2 ∧ w.cell? ⟨g, 3, none⟩ = some v3 ∧ w.cell? ⟨g, 4, none⟩ = some v4 ∧ w.cell? ⟨g, 5, none⟩ = some v5 ∧ w.cell? ⟨g, 6, none⟩ = some v6 ∧ w.frozen? ⟨g, 0, none⟩ = false ∧ w.frozen? ⟨g, 1, none⟩ = false ∧ w.frozen? ⟨g, 2, none⟩ = false ∧ w.frozen? ⟨g, 3, none⟩ = false ∧ w.frozen? ⟨g, 4, none⟩ = false ∧ w.frozen? ⟨g, 5, none⟩ = false ∧ w.frozen? ⟨g, 6, none⟩ = false := ⟨(blk_cell h 0).trans rfl, (blk_cell h 1).trans rfl, (blk_cell h 2).trans rfl, (blk_cell h 3).trans rfl, (blk_cell h 4).trans rfl, (blk_cell h 5).trans rfl, (blk_cell h 6).trans rfl, blk_frozen h 0, blk_frozen h 1, blk_frozen h 2, blk_frozen h 3, blk_frozen h 4, blk_frozen h 5, blk_frozen h 6⟩
theorem blk_no {W : World} {g g' t t' : Nat} {cs cs' : Array Value} (h : W.heap[g]? = some (.cells cs t (0, 0))) (h' : W.heap[g']? = some (.cells cs' t' (0, 0))) (ht : t ≠ t') : g ≠ g' := blk_ne h h' ht
theorem row_no {α : Type} {d : Kd α} {e base : Nat} {ok : Nat → Prop} {v : Value} {xs : List α} {W : World} {g t : Nat} {cs : Array Value} (hr : d.R e W base ok v xs) (hg : W.heap[g]? = some (.cells cs t (0, 0))) (ht : ∀ q, q ∈ e :: d.E → q ≠ t) : d.R e W base (fun k => ok k ∧ k ≠ g) v xs :=
  Kd.R_mono (Kd.R_bound hr) (fun k hk => by
    obtain ⟨h1, _, _, q, hq, cs', hc⟩ := hk
    exact ⟨h1, blk_ne hc hg (ht q hq)⟩)
theorem MO.no {W : World} {base : Nat} {F : Nat → Prop} {b gC gT g : Nat} {A0 : Option Addr} {n0 c0 : Nat} {vM vO : Value} {mem : List Int} {own : List S88} {cs ct : Array Value} (h : MO W base F b gC gT A0 n0 c0 vM vO mem own) (hT : W.heap[gT]? = some (.cells ct 42 (0, 0))) (hg : W.heap[g]? = some (.cells cs 37 (0, 0))) : MO W base (fun k => F k ∧ k ≠ g) b gC gT A0 n0 c0 vM vO mem own :=
  ⟨⟨⟨h.fb.1, blk_ne h.hb hg (by decide)⟩, ⟨h.fb.2.1, blk_ne h.hC hg (by decide)⟩, ⟨h.fb.2.2, blk_ne hT hg (by decide)⟩⟩, h.lb, h.hb, h.hC, row_no h.rM hg (by decide), row_no h.rO hg (by decide)⟩
theorem plainS_len (x : S53) (s : MSt) : (plainS x s).regs.length ≤ s.regs.length + 1 ∧ (plainS x s).mem.length = s.mem.length := by
  unfold plainS
  repeat' (first | (exact ⟨putG_len _ _ _, rfl⟩) | (exact ⟨Nat.le_succ _, rfl⟩) | (refine ⟨Nat.le_succ _, ?_⟩; show List.length (if _ then _ else _) = _; split <;> simp) | split)
theorem MW.setX {W w0 W0 : World} {F : Nat → Prop} {b gC gT gE gX : Nat} {A0 : Option Addr} {n0 c0 : Nat} {vM vO vG : Value} {s : MSt} {cs : Array Value} (h : MW W w0 W0 F b gC gT gE A0 n0 c0 vM vO vG s) (hX : W.heap[gX]? = some (.cells cs 53 (0, 0))) (hw : W0.heap.size ≤ gX) (h0 : w0.heap.size ≤ W0.heap.size) (j : Nat) (u : Value) : MW (W.setCell ⟨gX, j, none⟩ u) w0 W0 F b gC gT gE A0 n0 c0 vM vO vG s :=
  ⟨h.o.stay (Stay.set hX (by decide) j u), h.t.stay (Stay.set hX (by decide) j u), (Stay.set (T := [37]) hX (by decide) j u).blk h.e (by decide), h.b.setCell (p := ⟨gX, j, none⟩) (Nat.le_trans h0 hw) u, h.k.setCell (p := ⟨gX, j, none⟩) (.inr hw) u⟩
theorem MW.setT {W w0 W0 : World} {F : Nat → Prop} {b gC gT gE : Nat} {A0 : Option Addr} {n0 c0 : Nat} {vM vO vG : Value} {s s' : MSt} {j : Nat} {u : Value} (h : MW W w0 W0 F b gC gT gE A0 n0 c0 vM vO vG s) (hs : s'.mem = s.mem ∧ s'.own = s.own ∧ s'.regs = s.regs) (hc : (#[Value.int .i64 s.pc, vG, .bool s.over] : Array Value).setIfInBounds j u = #[.int .i64 s'.pc, vG, .bool s'.over]) : MW (W.setCell ⟨gT, j, none⟩ u) w0 W0 F b gC gT gE A0 n0 c0 vM vO vG s' :=
  ⟨by rw [hs.1, hs.2.1]; exact h.o.stay (Stay.set h.t.hT (by decide) j u), ⟨by rw [← hc]; exact blk_set h.t.hT j u, by rw [hs.2.2]; exact (Stay.set (T := [69]) h.t.hT (by decide) j u).row h.t.rG (by decide)⟩, (Stay.set (T := [37]) h.t.hT (by decide) j u).blk h.e (by decide), h.b.setCell (p := ⟨gT, j, none⟩) h.o.lb.2.2 u, h.k.setCell (p := ⟨gT, j, none⟩) h.o.fb.2.2 u⟩
theorem mEnds (k : Int) : (k == 11) = true ∨ ((k == 11) = false ∧ (k == 9) = true) ∨ ((k == 11) = false ∧ (k == 9) = false ∧ (k == 10) = true) ∨ ((k == 11) = false ∧ (k == 9) = false ∧ (k == 10) = false ∧ (k == 12) = true) ∨ ((k == 11) = false ∧ (k == 9) = false ∧ (k == 10) = false ∧ (k == 12) = false ∧ (k == 13) = true) ∨ ((k == 11) = false ∧ (k == 9) = false ∧ (k == 10) = false ∧ (k == 12) = false ∧ (k == 13) = false) := by
  cases (k == 11) <;> cases (k == 9) <;> cases (k == 10) <;> cases (k == 12) <;> cases (k == 13) <;> simp
set_option maxRecDepth 100000 in
set_option maxHeartbeats 8000000 in
theorem mnext.calls (c : List S53) (f : Nat) (w0 W : World) (F : Nat → Prop) (b gC gT : Nat) (A0 : Option Addr) (c0 : Nat) (vM vO vG : Value) (s : MSt) (hc : Kd.C k53 w0 A0 c.length c) (hc0 : c.length ≤ c0)
    (hO : MO W w0.heap.size F b gC gT A0 c.length c0 vM vO s.mem s.own) (hT : MT W w0.heap.size F gT vG s.regs s.pc s.over) (hB : Below w0.heap.size w0 W) (hl : s.regs.length + f ≤ 800000) (ho : s.own.length ≤ 800000) (hm : s.mem.length ≤ 1000000) (hf : f ≤ 800000) :
    Calls Tryd.prog 15 #[.pointer (some ⟨b, 0, none⟩), .int .i64 0, .int .i64 (f : Int)] W fun e W' => e = .returned (.tuple #[.agg #[.int .i64 (nextS c f s).2.1.1, .int .i64 0, .int .i64 (nextS c f s).2.1.2], .int .i64 (nextS c f s).2.2]) ∧
      ∃ vO' vG', MO W' w0.heap.size (fun k => F k ∨ W.heap.size ≤ k) b gC gT A0 c.length c0 vM vO' (nextS c f s).1.mem (nextS c f s).1.own ∧ MT W' w0.heap.size (fun k => F k ∨ W.heap.size ≤ k) gT vG' (nextS c f s).1.regs (nextS c f s).1.pc (nextS c f s).1.over ∧ Below w0.heap.size w0 W' ∧ Kept W W' F := by
  obtain ⟨gE, hgE⟩ : ∃ g, g = W.heap.size := ⟨_, rfl⟩
  have hb1 : Below W.heap.size W (W.alloc (.cells #[.int .i64 0, .int .i64 0, .int .i64 0] 37)) := (Below.refl _ _).alloc (Nat.le_refl _) _
  have HW := Aside0.mk (show MW (W.alloc (.cells #[.int .i64 0, .int .i64 0, .int .i64 0] 37)) w0 W F b gC gT gE A0 c.length c0 vM vO vG s from ⟨(hO.below hb1).mono (fun _ h => .inl h), (hT.below hb1).mono (fun _ h => .inl h), by rw [hgE]; exact blk_new W _, hB.trans (hb1.mono hB.size), Kept.of_below hb1 F⟩)
  have HGE := Aside0.mk hgE
  have HS0 := Aside0.mk hB.size
  have HC := Aside0.mk hc
  have HC0 := Aside0.mk hc0
  have HL := Aside0.mk hl
  have HLO := Aside0.mk ho
  have HM := Aside0.mk hm
  have HFU := Aside0.mk hf
  have HF := Aside0.mk hO.fb
  clear hgE hb1 hO hT hB hl ho hm hc hc0 hf
  have y3 : (W.alloc (.cells #[.int .i64 0, .int .i64 0, .int .i64 0] 37)).cell? ⟨b, 3, none⟩ = some (.slice (some ⟨gT, 0, none⟩) 1 1) := (blk_cell HW.out.o.hb 3).trans rfl
  have t2 : (W.alloc (.cells #[.int .i64 0, .int .i64 0, .int .i64 0] 37)).cell? ⟨gT, 2, none⟩ = some (.bool s.over) := (blk_cell HW.out.t.hT 2).trans rfl
  go_enter Tryd.func15, Tryd.ntmps15
  go_upto_region 1 with fail
  rw [← HGE.out]
  generalize (W.alloc (.cells #[.int .i64 0, .int .i64 0, .int .i64 0] 37)) = W1 at HW y3 t2 ⊢
  have HEW := Aside0.mk (show W.heap.size ≤ gE by rw [HGE.out]; exact Nat.le_refl _)
  cases hov : s.over with
  | true =>
    rw [hov] at t2
    have HN := Aside0.mk (show nextS c f s = (s, (0, 0), 2) by unfold nextS; rw [if_pos hov])
    have HOV := Aside0.mk hov
    clear hov
    have e0 : W1.cell? ⟨gE, 0, none⟩ = some (.int .i64 0) := (blk_cell HW.out.e 0).trans rfl
    have e1 : W1.cell? ⟨gE, 1, none⟩ = some (.int .i64 0) := (blk_cell HW.out.e 1).trans rfl
    have e2 : W1.cell? ⟨gE, 2, none⟩ = some (.int .i64 0) := (blk_cell HW.out.e 2).trans rfl
    have f0 : W1.frozen? ⟨gE, 0, none⟩ = false := blk_frozen HW.out.e 0
    have f1 : W1.frozen? ⟨gE, 1, none⟩ = false := blk_frozen HW.out.e 1
    have f2 : W1.frozen? ⟨gE, 2, none⟩ = false := blk_frozen HW.out.e 2
    go_wp2_with fail
    obtain ⟨m1, m2, m3, m4, m5⟩ := HW.out.event HEW.out HS0.out (.int .i64 0) (.int .i64 0) (.int .i64 0)
    refine bodyPost_ret (res_event rfl _ _ gE 0 0 0 rfl m1) rfl ?_
    rw [HN.out]
    first | exact ⟨rfl, vO, vG, m2, m3, m4, m5⟩ | exact ⟨rfl, ⟨vO, m2⟩, ⟨vG, m3⟩, m4, m5⟩ | exact ⟨rfl, vO, m2, ⟨vG, m3⟩, m4, m5⟩
  | false =>
    rw [hov] at t2
    have HN := Aside0.mk (show nextS c f s = runS c f s by unfold nextS; rw [if_neg (by rw [hov]; simp)])
    have HOV := Aside0.mk hov
    clear hov
    go_wp2_with fail
    clear y3 t2
    go_loopg [2] f (fun kq v2 wr => ∃ (g : Nat) (s1 : MSt) (vO1 vG1 : Value), v2 = .int .i64 (g : Int) ∧ g ≤ f ∧ g ≤ kq ∧ Aside0 (runS c f s = runS c g s1) ∧ Aside0 (s1.regs.length + g ≤ 800000 ∧ s1.own.length ≤ 800000 ∧ s1.mem.length ≤ 1000000 ∧ s1.over = false) ∧ Aside0 (MW wr w0 W F b gC gT gE A0 c.length c0 vM vO1 vG1 s1))
    case atStart => exact ⟨f, s, vO, vG, rfl, Nat.le_refl _, Nat.le_refl _, ⟨rfl⟩, ⟨HL.out, HLO.out, HM.out, HOV.out⟩, HW⟩
    case round =>
      clear HW
      obtain ⟨g, s1, vO1, vG1, rfl, hgf, hgk, HRUN, HLS, HW⟩ := hrel
      cases g with
      | zero =>
        have HQ := Aside0.mk (show nextS c f s = (s1, (0, 0), 3) by rw [HN.out, HRUN.out]; rfl)
        have e0 : wr.cell? ⟨gE, 0, none⟩ = some (.int .i64 0) := (blk_cell HW.out.e 0).trans rfl
        have e1 : wr.cell? ⟨gE, 1, none⟩ = some (.int .i64 0) := (blk_cell HW.out.e 1).trans rfl
        have e2 : wr.cell? ⟨gE, 2, none⟩ = some (.int .i64 0) := (blk_cell HW.out.e 2).trans rfl
        have f0 : wr.frozen? ⟨gE, 0, none⟩ = false := blk_frozen HW.out.e 0
        have f1 : wr.frozen? ⟨gE, 1, none⟩ = false := blk_frozen HW.out.e 1
        have f2 : wr.frozen? ⟨gE, 2, none⟩ = false := blk_frozen HW.out.e 2
        have hd0 : decide ((0 : Int) < ((0 : Nat) : Int)) = false := by decide
        go_wp2_with fail
        obtain ⟨m1, m2, m3, m4, m5⟩ := HW.out.event HEW.out HS0.out (.int .i64 0) (.int .i64 0) (.int .i64 0)
        refine bodyPost_ret (res_event rfl _ _ gE 0 0 0 rfl m1) rfl ?_
        rw [HQ.out]
        first | exact ⟨rfl, vO1, vG1, m2, m3, m4, m5⟩ | exact ⟨rfl, ⟨vO1, m2⟩, ⟨vG1, m3⟩, m4, m5⟩ | exact ⟨rfl, vO1, m2, ⟨vG1, m3⟩, m4, m5⟩
      | succ g1 =>
        obtain ⟨AG, cG, rfl⟩ := Kd.R_slice HW.out.t.rG
        have y3 : wr.cell? ⟨b, 3, none⟩ = some (.slice (some ⟨gT, 0, none⟩) 1 1) := (blk_cell HW.out.o.hb 3).trans rfl
        have t0 : wr.cell? ⟨gT, 0, none⟩ = some (.int .i64 s1.pc) := (blk_cell HW.out.t.hT 0).trans rfl
        have t1 : wr.cell? ⟨gT, 1, none⟩ = some (.slice AG s1.regs.length cG) := (blk_cell HW.out.t.hT 1).trans rfl
        have t2 : wr.cell? ⟨gT, 2, none⟩ = some (.bool s1.over) := (blk_cell HW.out.t.hT 2).trans rfl
        have hd0 : decide ((0 : Int) < ((g1 + 1 : Nat) : Int)) = true := decide_eq_true (by omega)
        have hd1 : (0 : Int) < ((g1 + 1 : Nat) : Int) := by omega
        go_upto_region 7 with fail
        have hs3 : (wr.alloc (.cells #[.int .i64 s1.pc, .slice AG s1.regs.length cG, .bool s1.over] 42)).heap.size = wr.heap.size + 1 := by simp
        have b3 : Below wr.heap.size wr ((wr.alloc (.cells #[.int .i64 s1.pc, .slice AG s1.regs.length cG, .bool s1.over] 42)).alloc (.cells #[.int .i64 13, .int .i64 0, .int .i64 0, .int .i64 0, .int .i64 0, .int .i64 0, .int .i64 0] 53)) := ((Below.refl _ _).alloc (Nat.le_refl _) _).alloc (by simp) _
        have HW3 := Aside0.mk (HW.out.below b3)
        have gh := blk_alloc (blk_new wr (.cells #[.int .i64 s1.pc, .slice AG s1.regs.length cG, .bool s1.over] 42)) (.cells #[.int .i64 13, .int .i64 0, .int .i64 0, .int .i64 0, .int .i64 0, .int .i64 0, .int .i64 0] 53)
        have gx := blk_new (wr.alloc (.cells #[.int .i64 s1.pc, .slice AG s1.regs.length cG, .bool s1.over] 42)) (.cells #[.int .i64 13, .int .i64 0, .int .i64 0, .int .i64 0, .int .i64 0, .int .i64 0, .int .i64 0] 53)
        rw [hs3] at gx
        obtain ⟨gH, hgH⟩ : ∃ q, q = wr.heap.size := ⟨_, rfl⟩
        obtain ⟨gX, hgX⟩ : ∃ q, q = wr.heap.size + 1 := ⟨_, rfl⟩
        rw [← hgX] at gx
        rw [← hgH] at gh
        have GH := Aside0.mk gh
        have GX := Aside0.mk gx
        have HNE := Aside0.mk (show gH ≠ gX by omega)
        have HNT := Aside0.mk (show gH ≠ gT by have := blk_lt HW.out.t.hT; omega)
        have HXW := Aside0.mk (show W.heap.size ≤ gX by have := HW.out.k.1; omega)
        rw [← hgX, ← hgH]
        clear hgH hgX gh gx b3 hs3 y3 t0 t1 t2 HW
        generalize ((wr.alloc (.cells #[.int .i64 s1.pc, .slice AG s1.regs.length cG, .bool s1.over] 42)).alloc (.cells #[.int .i64 13, .int .i64 0, .int .i64 0, .int .i64 0, .int .i64 0, .int .i64 0, .int .i64 0] 53)) = w3 at HW3 GH GX ⊢
        obtain ⟨inn, hin⟩ : ∃ inn, inn = (decide (0 ≤ s1.pc) && decide (s1.pc < (c.length : Int))) := ⟨_, rfl⟩
        have HIN := Aside0.mk hin
        clear hin
        go_cut [59] (fun v59 wc => v59 = .bool inn ∧ Aside0 (Below w3.heap.size w3 wc))
        case first =>
          have h0 : w3.cell? ⟨gH, 0, none⟩ = some (.int .i64 s1.pc) := (blk_cell GH.out 0).trans rfl
          have yb : w3.cell? ⟨b, 0, none⟩ = some (.slice (some ⟨gC, 0, none⟩) 1 1) := (blk_cell HW3.out.o.hb 0).trans rfl
          have yc : w3.cell? ⟨gC, 0, none⟩ = some (.slice A0 c.length c0) := (blk_cell HW3.out.o.hC 0).trans rfl
          cases d0 : decide (0 ≤ s1.pc) with
          | false =>
            rw [d0] at HIN
            go_quiet (fail)
            go_wp2_with fail
            go_meet
            case rel => exact ⟨by rw [HIN.out]; rfl, ⟨pw_below_drewN (Below.refl _ _) nq⟩⟩
          | true =>
            rw [d0] at HIN
            go_quiet (fail)
            go_wp2_with fail
            go_meet
            case rel => exact ⟨by rw [HIN.out]; rfl, ⟨pw_below_drewN (Below.refl _ _) nq⟩⟩
        case rest =>
          obtain ⟨rfl, HB3⟩ := hcut
          have HW4 := Aside0.mk (HW3.out.below HB3.out)
          have GH4 := Aside0.mk (blk_below GH.out HB3.out)
          have GX4 := Aside0.mk (blk_below GX.out HB3.out)
          clear HW3 GH GX HB3
          go_upto_if 59 with fail
          go_cut [] (fun w5 => Aside0 (MW w5 w0 W F b gC gT gE A0 c.length c0 vM vO1 (.slice AG s1.regs.length cG) s1) ∧ Aside0 (w5.heap[gX]? = some (.cells #[.int .i64 (fetchS c s1).f0, .int .i64 (fetchS c s1).f1, .int .i64 (fetchS c s1).f2, .int .i64 (fetchS c s1).f3, .int .i64 (fetchS c s1).f4, .int .i64 (fetchS c s1).f5, .int .i64 (fetchS c s1).f6] 53 (0, 0))) ∧ Aside0 (w5.heap[gH]? = some (.cells #[.int .i64 s1.pc, .slice AG s1.regs.length cG, .bool s1.over] 42 (0, 0))))
          case first =>
            cases inn with
            | false =>
              have hq := HIN.out
              simp only [Bool.false_eq, Bool.and_eq_false_iff, decide_eq_false_iff_not] at hq
              have HFE := Aside0.mk (show fetchS c s1 = ⟨13, 0, 0, 0, 0, 0, 0⟩ by unfold fetchS; rw [if_neg (by omega)])
              clear hq
              go_wp2_with fail
              go_meet
              case rel =>
                rw [HFE.out]
                exact ⟨HW4, GX4, GH4⟩
            | true =>
              have hq := HIN.out
              simp only [Bool.true_eq, Bool.and_eq_true, decide_eq_true_eq] at hq
              obtain ⟨p0, p1⟩ := hq
              obtain ⟨ad, e1, q0, q1, q2, q3, q4, q5, q6⟩ := at_T53 (Kd.C_below HC.out HW4.out.b) s1.pc p0 p1
              cases e1
              have HFE := Aside0.mk (show fetchS c s1 = rd_T53 c s1.pc by unfold fetchS; rw [if_pos ⟨p0, p1⟩]; rfl)
              obtain ⟨y, hy⟩ : ∃ y, y = rd_T53 c s1.pc := ⟨_, rfl⟩
              rw [← hy] at q0 q1 q2 q3 q4 q5 q6 HFE
              clear hy
              have yb : wc.cell? ⟨b, 0, none⟩ = some (.slice (some ⟨gC, 0, none⟩) 1 1) := (blk_cell HW4.out.o.hb 0).trans rfl
              have yc : wc.cell? ⟨gC, 0, none⟩ = some (.slice (some ad) c.length c0) := (blk_cell HW4.out.o.hC 0).trans rfl
              have h0 : wc.cell? ⟨gH, 0, none⟩ = some (.int .i64 s1.pc) := (blk_cell GH4.out 0).trans rfl
              have HWd := Aside0.mk (HW4.out.below (below_drew (Below.refl _ _)))
              have GHd := Aside0.mk (blk_drew GH4.out)
              have GXd := Aside0.mk (blk_drew GX4.out)
              go_upto_region 8 with fail
              refine start_ (n := 12) (S := (fun W' => W'.cell? ⟨b, 0, none⟩ = some (.slice (some ⟨gC, 0, none⟩) 1 1) ∧ W'.cell? ⟨gC, 0, none⟩ = some (.slice (some ad) c.length c0) ∧ W'.cell? ⟨gH, 0, none⟩ = some (.int .i64 s1.pc) ∧ W'.cell? (ad.add (s1.pc.toNat * 7)) = some (.int .i64 y.f0) ∧ W'.cell? ⟨(ad.add (s1.pc.toNat * 7)).block, (ad.add (s1.pc.toNat * 7)).off + 1, none⟩ = some (.int .i64 y.f1) ∧ W'.cell? ⟨(ad.add (s1.pc.toNat * 7)).block, (ad.add (s1.pc.toNat * 7)).off + 2, none⟩ = some (.int .i64 y.f2) ∧ W'.cell? ⟨(ad.add (s1.pc.toNat * 7)).block, (ad.add (s1.pc.toNat * 7)).off + 3, none⟩ = some (.int .i64 y.f3) ∧ W'.cell? ⟨(ad.add (s1.pc.toNat * 7)).block, (ad.add (s1.pc.toNat * 7)).off + 4, none⟩ = some (.int .i64 y.f4) ∧ W'.cell? ⟨(ad.add (s1.pc.toNat * 7)).block, (ad.add (s1.pc.toNat * 7)).off + 5, none⟩ = some (.int .i64 y.f5) ∧ W'.cell? ⟨(ad.add (s1.pc.toNat * 7)).block, (ad.add (s1.pc.toNat * 7)).off + 6, none⟩ = some (.int .i64 y.f6))) (ds := [11]) #[false, false, false, false, false, false, false, false, false, false, false, false] (by kernel_rfl) rfl rfl (⟨yb, yc, h0, q0, q1, q2, q3, q4, q5, q6⟩) (fun hHeld => ?_)
              generalize wc.drew = w5 at HWd GHd GXd hHeld ⊢
              clear yb yc h0 q0 q1 q2 q3 q4 q5 q6 HW4 GH4 GX4
              obtain ⟨hcz_0, hcz_1, hcz_2, hcz_3, hcz_4, hcz_5, hcz_6, hfz_0, hfz_1, hfz_2, hfz_3, hfz_4, hfz_5, hfz_6⟩ := nF7 GXd.out
              refine pure_ (i := 0) (N := (some 60)) (v := ?_) (a' := ?_) #[true, false, false, false, false, false, false, false, false, false, false, false] rfl rfl (by kernel_rfl) (fun _ _ _ h => h) (Or.inl ⟨by rfl, ?_⟩) ?_ ?_
              rotate_left
              · intro w_
                go_simp
                with_reducible rfl
              rotate_left
              · simp only [Act.put, List.setIfInBounds_toArray, List.set_cons_zero, List.set_cons_succ, i64_w, i32_w]
                rfl
              refine pure_ (i := 1) (N := (some 61)) (v := ?_) (a' := ?_) #[true, true, false, false, false, false, false, false, false, false, false, false] rfl rfl (by kernel_rfl) (fun _ _ _ h => h) (Or.inl ⟨by rfl, ?_⟩) ?_ ?_
              rotate_left
              · intro w_
                go_simp
                with_reducible rfl
              rotate_left
              · simp only [Act.put, List.setIfInBounds_toArray, List.set_cons_zero, List.set_cons_succ, i64_w, i32_w]
                rfl
              refine pure_ (i := 2) (N := (some 62)) (v := ?_) (a' := ?_) #[true, true, true, false, false, false, false, false, false, false, false, false] rfl rfl (by kernel_rfl) (fun _ _ _ h => h) (Or.inl ⟨by rfl, ?_⟩) ?_ ?_
              rotate_left
              · intro w_
                go_simp
                with_reducible rfl
              rotate_left
              · simp only [Act.put, List.setIfInBounds_toArray, List.set_cons_zero, List.set_cons_succ, i64_w, i32_w]
                rfl
              refine take_ (i := 3) (N := (some 63)) (v := ?_) (a' := ?_) #[true, true, true, true, false, false, false, false, false, false, false, false] rfl rfl (by kernel_rfl) (fun _ _ _ h => h) (Or.inl ⟨by rfl, ?_⟩) hHeld ?_ ?_
              rotate_left
              · rintro w_ ⟨s0, s1, s2, s3, s4, s5, s6, s7, s8, s9⟩
                go_simp
                with_reducible rfl
              rotate_left
              · simp only [Act.put, List.setIfInBounds_toArray, List.set_cons_zero, List.set_cons_succ, i64_w, i32_w]
                rfl
              refine pure_ (i := 4) (N := (some 64)) (v := ?_) (a' := ?_) #[true, true, true, true, true, false, false, false, false, false, false, false] rfl rfl (by kernel_rfl) (fun _ _ _ h => h) (Or.inl ⟨by rfl, ?_⟩) ?_ ?_
              rotate_left
              · intro w_
                go_simp
                with_reducible rfl
              rotate_left
              · simp only [Act.put, List.setIfInBounds_toArray, List.set_cons_zero, List.set_cons_succ, i64_w, i32_w]
                rfl
              refine pure_ (i := 5) (N := (some 65)) (v := ?_) (a' := ?_) #[true, true, true, true, true, true, false, false, false, false, false, false] rfl rfl (by kernel_rfl) (fun _ _ _ h => h) (Or.inl ⟨by rfl, ?_⟩) ?_ ?_
              rotate_left
              · intro w_
                go_simp
                with_reducible rfl
              rotate_left
              · simp only [Act.put, List.setIfInBounds_toArray, List.set_cons_zero, List.set_cons_succ, i64_w, i32_w]
                rfl
              refine take_ (i := 6) (N := (some 66)) (v := ?_) (a' := ?_) #[true, true, true, true, true, true, true, false, false, false, false, false] rfl rfl (by kernel_rfl) (fun _ _ _ h => h) (Or.inl ⟨by rfl, ?_⟩) hHeld ?_ ?_
              rotate_left
              · rintro w_ ⟨s0, s1, s2, s3, s4, s5, s6, s7, s8, s9⟩
                go_simp
                with_reducible rfl
              rotate_left
              · simp only [Act.put, List.setIfInBounds_toArray, List.set_cons_zero, List.set_cons_succ, i64_w, i32_w]
                rfl
              refine pure_ (i := 7) (N := (some 67)) (v := ?_) (a' := ?_) #[true, true, true, true, true, true, true, true, false, false, false, false] rfl rfl (by kernel_rfl) (fun _ _ _ h => h) (Or.inl ⟨by rfl, ?_⟩) ?_ ?_
              rotate_left
              · intro w_
                go_simp
                with_reducible rfl
              rotate_left
              · simp only [Act.put, List.setIfInBounds_toArray, List.set_cons_zero, List.set_cons_succ, i64_w, i32_w]
                rfl
              refine take_ (i := 8) (N := (some 68)) (v := ?_) (a' := ?_) #[true, true, true, true, true, true, true, true, true, false, false, false] rfl rfl (by kernel_rfl) (fun _ _ _ h => h) (Or.inl ⟨by rfl, ?_⟩) hHeld ?_ ?_
              rotate_left
              · rintro w_ ⟨s0, s1, s2, s3, s4, s5, s6, s7, s8, s9⟩
                go_simp
                with_reducible rfl
              rotate_left
              · simp only [Act.put, List.setIfInBounds_toArray, List.set_cons_zero, List.set_cons_succ, i64_w, i32_w]
                rfl
              refine pure_ (i := 9) (N := (some 69)) (v := ?_) (a' := ?_) #[true, true, true, true, true, true, true, true, true, true, false, false] rfl rfl (by kernel_rfl) (fun _ _ _ h => h) (Or.inl ⟨by rfl, ?_⟩) ?_ ?_
              rotate_left
              · intro w_
                go_simp
                with_reducible rfl
              rotate_left
              · simp only [Act.put, List.setIfInBounds_toArray, List.set_cons_zero, List.set_cons_succ, i64_w, i32_w]
                rfl
              refine take_ (i := 10) (N := (some 70)) (v := ?_) (a' := ?_) #[true, true, true, true, true, true, true, true, true, true, true, false] rfl rfl (by kernel_rfl) (fun _ _ _ h => h) (Or.inl ⟨by rfl, ?_⟩) hHeld ?_ ?_
              rotate_left
              · rintro w_ ⟨s0, s1, s2, s3, s4, s5, s6, s7, s8, s9⟩
                go_simp
                with_reducible rfl
              rotate_left
              · simp only [Act.put, List.setIfInBounds_toArray, List.set_cons_zero, List.set_cons_succ, i64_w, i32_w]
                rfl
              refine last_ (i := 11) (N := none) #[true, true, true, true, true, true, true, true, true, true, true, true] rfl rfl (by kernel_rfl) (by decide) (fun K hK => ?_)
              refine skip_ (w1 := ?_) (by rfl) rfl ?_ ?_
              rotate_left
              · go_simp
                rfl
              refine hK.out _ _ ?_
              clear hK K
              refine done_ (by kernel_rfl) ?_
              go_wp2_with fail
              go_meet
              case rel =>
                rw [HFE.out]
                have k0 := blk_set GXd.out 0 (.int .i64 y.f0)
                have k1 := blk_set k0 1 (.int .i64 y.f1)
                have k2 := blk_set k1 2 (.int .i64 y.f2)
                have k3 := blk_set k2 3 (.int .i64 y.f3)
                have k4 := blk_set k3 4 (.int .i64 y.f4)
                have k5 := blk_set k4 5 (.int .i64 y.f5)
                have k6 := blk_set k5 6 (.int .i64 y.f6)
                have m0 := HWd.out.setX GXd.out HXW.out HS0.out 0 (.int .i64 y.f0)
                have m1 := m0.setX k0 HXW.out HS0.out 1 (.int .i64 y.f1)
                have m2 := m1.setX k1 HXW.out HS0.out 2 (.int .i64 y.f2)
                have m3 := m2.setX k2 HXW.out HS0.out 3 (.int .i64 y.f3)
                have m4 := m3.setX k3 HXW.out HS0.out 4 (.int .i64 y.f4)
                have m5 := m4.setX k4 HXW.out HS0.out 5 (.int .i64 y.f5)
                have m6 := m5.setX k5 HXW.out HS0.out 6 (.int .i64 y.f6)
                have hx : ∀ {w : World} (_ : w.heap[gH]? = some (.cells #[.int .i64 s1.pc, .slice AG s1.regs.length cG, .bool s1.over] 42 (0, 0))) (j : Nat) (u : Value), (w.setCell ⟨gX, j, none⟩ u).heap[gH]? = some (.cells #[.int .i64 s1.pc, .slice AG s1.regs.length cG, .bool s1.over] 42 (0, 0)) := fun h j u => blk_far h HNE.out u (p := ⟨gX, j, none⟩)
                exact ⟨⟨m6⟩, ⟨k6⟩, ⟨hx (hx (hx (hx (hx (hx (hx GHd.out 0 _) 1 _) 2 _) 3 _) 4 _) 5 _) 6 _⟩⟩
          case rest =>
            clear HW4 GX4 GH4
            obtain ⟨HW5, GX5, GH5⟩ := hcut
            obtain ⟨x, hx⟩ : ∃ x, x = fetchS c s1 := ⟨_, rfl⟩
            rw [← hx] at GX5
            have HXE := Aside0.mk hx
            clear hx hd0 hd1
            have x0 : wc.cell? ⟨gX, 0, none⟩ = some (.int .i64 x.f0) := (blk_cell GX5.out 0).trans rfl
            rcases mEnds x.f0 with a1 | ⟨a1, a2⟩ | ⟨a1, a2, a3⟩ | ⟨a1, a2, a3, a4⟩ | ⟨a1, a2, a3, a4, a5⟩ | ⟨a1, a2, a3, a4, a5⟩
            · have HQ := Aside0.mk (show nextS c f s = ({ s1 with pc := wrap64 (s1.pc + 1) }, (0, getG s1.regs x.f3), 0) by rw [HN.out, HRUN.out, runS, ← HXE.out, if_pos (by simpa using a1)])
              have b3 : wc.cell? ⟨b, 3, none⟩ = some (.slice (some ⟨gT, 0, none⟩) 1 1) := (blk_cell HW5.out.o.hb 3).trans rfl
              have t0 : wc.cell? ⟨gT, 0, none⟩ = some (.int .i64 s1.pc) := (blk_cell HW5.out.t.hT 0).trans rfl
              have tf : wc.frozen? ⟨gT, 0, none⟩ = false := blk_frozen HW5.out.t.hT 0
              go_upto_region 12 with fail
              have HW6 := Aside0.mk (HW5.out.setT (s' := { s1 with pc := wrap64 (s1.pc + 1) }) (j := 0) (u := .int .i64 (wrap64 (s1.pc + 1))) ⟨rfl, rfl, rfl⟩ rfl)
              have GX6 := Aside0.mk ((Stay.set (T := [53]) HW5.out.t.hT (by decide) 0 (.int .i64 (wrap64 (s1.pc + 1)))).blk GX5.out (by decide))
              have GH6 := Aside0.mk (blk_far GH5.out HNT.out (.int .i64 (wrap64 (s1.pc + 1))) (p := ⟨gT, 0, none⟩))
              generalize (wc.setCell ⟨gT, 0, none⟩ (.int .i64 (wrap64 (s1.pc + 1)))) = w6 at HW6 GX6 GH6 ⊢
              clear b3 t0 tf x0 HW5 GX5 GH5
              have h1 : w6.cell? ⟨gH, 1, none⟩ = some (.slice AG s1.regs.length cG) := (blk_cell GH6.out 1).trans rfl
              have x3 : w6.cell? ⟨gX, 3, none⟩ = some (.int .i64 x.f3) := (blk_cell GX6.out 3).trans rfl
              go_wp2_with fail
              refine (mget.calls s1.regs x.f3 AG cG w6 (Kd.R_reads' HW6.out.t.rG).2.2 (Kd.R_reads' HW6.out.t.rG).2.1 (by have := HLS.out.1; omega)).mono ?_
              rintro e w7 ⟨rfl, hb7⟩
              have HW7 := Aside0.mk (HW6.out.below hb7)
              clear hb7 h1 x3
              have e0 : w7.cell? ⟨gE, 0, none⟩ = some (.int .i64 0) := (blk_cell HW7.out.e 0).trans rfl
              have e1 : w7.cell? ⟨gE, 1, none⟩ = some (.int .i64 0) := (blk_cell HW7.out.e 1).trans rfl
              have e2 : w7.cell? ⟨gE, 2, none⟩ = some (.int .i64 0) := (blk_cell HW7.out.e 2).trans rfl
              have f0 : w7.frozen? ⟨gE, 0, none⟩ = false := blk_frozen HW7.out.e 0
              have f1 : w7.frozen? ⟨gE, 1, none⟩ = false := blk_frozen HW7.out.e 1
              have f2 : w7.frozen? ⟨gE, 2, none⟩ = false := blk_frozen HW7.out.e 2
              go_wp2_with fail
              obtain ⟨m1, m2, m3, m4, m5⟩ := HW7.out.event HEW.out HS0.out (.int .i64 0) (.int .i64 0) (.int .i64 (getG s1.regs x.f3))
              refine bodyPost_ret (res_event rfl _ _ gE 0 0 (getG s1.regs x.f3) rfl m1) rfl ?_
              rw [HQ.out]
              first | exact ⟨rfl, _, _, m2, m3, m4, m5⟩ | exact ⟨rfl, ⟨_, m2⟩, ⟨_, m3⟩, m4, m5⟩ | exact ⟨rfl, _, m2, ⟨_, m3⟩, m4, m5⟩
            · have HQ := Aside0.mk (show nextS c f s = lockS x s1 by rw [HN.out, HRUN.out, runS, ← HXE.out, if_neg (by simpa using a1), if_pos (.inl (by simpa using a2))])
              have HX9 := Aside0.mk (show x.f0 = 9 ∨ x.f0 = 10 from .inl (by simpa using a2))
              have HMO := Aside0.mk (HW5.out.o.no HW5.out.t.hT HW5.out.e)
              have HMT := Aside0.mk (show MT wc w0.heap.size (fun k => (F k ∨ W.heap.size ≤ k) ∧ k ≠ gE) gT (.slice AG s1.regs.length cG) s1.regs s1.pc s1.over from ⟨HW5.out.t.hT, row_no HW5.out.t.rG HW5.out.e (by decide)⟩)
              have x1 : wc.cell? ⟨gX, 1, none⟩ = some (.int .i64 x.f1) := (blk_cell GX5.out 1).trans rfl
              have x2 : wc.cell? ⟨gX, 2, none⟩ = some (.int .i64 x.f2) := (blk_cell GX5.out 2).trans rfl
              have x3 : wc.cell? ⟨gX, 3, none⟩ = some (.int .i64 x.f3) := (blk_cell GX5.out 3).trans rfl
              have x4 : wc.cell? ⟨gX, 4, none⟩ = some (.int .i64 x.f4) := (blk_cell GX5.out 4).trans rfl
              have x5 : wc.cell? ⟨gX, 5, none⟩ = some (.int .i64 x.f5) := (blk_cell GX5.out 5).trans rfl
              have x6 : wc.cell? ⟨gX, 6, none⟩ = some (.int .i64 x.f6) := (blk_cell GX5.out 6).trans rfl
              go_wp2_with fail
              refine (mlock.calls x w0 wc (fun k => (F k ∨ W.heap.size ≤ k) ∧ k ≠ gE) b gC gT A0 c.length c0 vM vO1 (.slice AG s1.regs.length cG) s1 HX9.out HMO.out HMT.out HW5.out.b (by have := HLS.out.2.1; omega)).mono ?_
              rintro e w7 ⟨rfl, vO2, n1, n2, n3, n4⟩
              have hms : ∀ k, (fun k => (F k ∨ W.heap.size ≤ k) ∧ k ≠ gE) k ∨ wc.heap.size ≤ k → F k ∨ W.heap.size ≤ k := fun k hk => hk.elim (fun h => h.1) (fun h => .inr (Nat.le_trans HW5.out.k.1 h))
              have HW7 := Aside0.mk (show MW w7 w0 W F b gC gT gE A0 c.length c0 vM vO2 (.slice AG s1.regs.length cG) (lockS x s1).1 from ⟨n1.mono hms, n2.mono hms, (n4.2 gE (blk_lt HW5.out.e) (fun h => h.2 rfl)).trans HW5.out.e, n3, HW5.out.k.then_ n4 (fun k hk => hk.1)⟩)
              clear n1 n2 n3 n4 hms x0 x1 x2 x3 x4 x5 x6
              have e0 : w7.cell? ⟨gE, 0, none⟩ = some (.int .i64 0) := (blk_cell HW7.out.e 0).trans rfl
              have e1 : w7.cell? ⟨gE, 1, none⟩ = some (.int .i64 0) := (blk_cell HW7.out.e 1).trans rfl
              have e2 : w7.cell? ⟨gE, 2, none⟩ = some (.int .i64 0) := (blk_cell HW7.out.e 2).trans rfl
              have f0 : w7.frozen? ⟨gE, 0, none⟩ = false := blk_frozen HW7.out.e 0
              have f1 : w7.frozen? ⟨gE, 1, none⟩ = false := blk_frozen HW7.out.e 1
              have f2 : w7.frozen? ⟨gE, 2, none⟩ = false := blk_frozen HW7.out.e 2
              go_wp2_with fail
              obtain ⟨m1, m2, m3, m4, m5⟩ := HW7.out.event HEW.out HS0.out (.int .i64 (lockS x s1).2.1.1) (.int .i64 0) (.int .i64 (lockS x s1).2.1.2)
              refine bodyPost_ret (res_event rfl _ _ gE (lockS x s1).2.1.1 0 (lockS x s1).2.1.2 rfl m1) rfl ?_
              rw [HQ.out]
              first | exact ⟨rfl, _, _, m2, m3, m4, m5⟩ | exact ⟨rfl, ⟨_, m2⟩, ⟨_, m3⟩, m4, m5⟩ | exact ⟨rfl, _, m2, ⟨_, m3⟩, m4, m5⟩
            · have HQ := Aside0.mk (show nextS c f s = lockS x s1 by rw [HN.out, HRUN.out, runS, ← HXE.out, if_neg (by simpa using a1), if_pos (.inr (by simpa using a3))])
              have HX9 := Aside0.mk (show x.f0 = 9 ∨ x.f0 = 10 from .inr (by simpa using a3))
              have HMO := Aside0.mk (HW5.out.o.no HW5.out.t.hT HW5.out.e)
              have HMT := Aside0.mk (show MT wc w0.heap.size (fun k => (F k ∨ W.heap.size ≤ k) ∧ k ≠ gE) gT (.slice AG s1.regs.length cG) s1.regs s1.pc s1.over from ⟨HW5.out.t.hT, row_no HW5.out.t.rG HW5.out.e (by decide)⟩)
              have x1 : wc.cell? ⟨gX, 1, none⟩ = some (.int .i64 x.f1) := (blk_cell GX5.out 1).trans rfl
              have x2 : wc.cell? ⟨gX, 2, none⟩ = some (.int .i64 x.f2) := (blk_cell GX5.out 2).trans rfl
              have x3 : wc.cell? ⟨gX, 3, none⟩ = some (.int .i64 x.f3) := (blk_cell GX5.out 3).trans rfl
              have x4 : wc.cell? ⟨gX, 4, none⟩ = some (.int .i64 x.f4) := (blk_cell GX5.out 4).trans rfl
              have x5 : wc.cell? ⟨gX, 5, none⟩ = some (.int .i64 x.f5) := (blk_cell GX5.out 5).trans rfl
              have x6 : wc.cell? ⟨gX, 6, none⟩ = some (.int .i64 x.f6) := (blk_cell GX5.out 6).trans rfl
              go_wp2_with fail
              refine (mlock.calls x w0 wc (fun k => (F k ∨ W.heap.size ≤ k) ∧ k ≠ gE) b gC gT A0 c.length c0 vM vO1 (.slice AG s1.regs.length cG) s1 HX9.out HMO.out HMT.out HW5.out.b (by have := HLS.out.2.1; omega)).mono ?_
              rintro e w7 ⟨rfl, vO2, n1, n2, n3, n4⟩
              have hms : ∀ k, (fun k => (F k ∨ W.heap.size ≤ k) ∧ k ≠ gE) k ∨ wc.heap.size ≤ k → F k ∨ W.heap.size ≤ k := fun k hk => hk.elim (fun h => h.1) (fun h => .inr (Nat.le_trans HW5.out.k.1 h))
              have HW7 := Aside0.mk (show MW w7 w0 W F b gC gT gE A0 c.length c0 vM vO2 (.slice AG s1.regs.length cG) (lockS x s1).1 from ⟨n1.mono hms, n2.mono hms, (n4.2 gE (blk_lt HW5.out.e) (fun h => h.2 rfl)).trans HW5.out.e, n3, HW5.out.k.then_ n4 (fun k hk => hk.1)⟩)
              clear n1 n2 n3 n4 hms x0 x1 x2 x3 x4 x5 x6
              have e0 : w7.cell? ⟨gE, 0, none⟩ = some (.int .i64 0) := (blk_cell HW7.out.e 0).trans rfl
              have e1 : w7.cell? ⟨gE, 1, none⟩ = some (.int .i64 0) := (blk_cell HW7.out.e 1).trans rfl
              have e2 : w7.cell? ⟨gE, 2, none⟩ = some (.int .i64 0) := (blk_cell HW7.out.e 2).trans rfl
              have f0 : w7.frozen? ⟨gE, 0, none⟩ = false := blk_frozen HW7.out.e 0
              have f1 : w7.frozen? ⟨gE, 1, none⟩ = false := blk_frozen HW7.out.e 1
              have f2 : w7.frozen? ⟨gE, 2, none⟩ = false := blk_frozen HW7.out.e 2
              go_wp2_with fail
              obtain ⟨m1, m2, m3, m4, m5⟩ := HW7.out.event HEW.out HS0.out (.int .i64 (lockS x s1).2.1.1) (.int .i64 0) (.int .i64 (lockS x s1).2.1.2)
              refine bodyPost_ret (res_event rfl _ _ gE (lockS x s1).2.1.1 0 (lockS x s1).2.1.2 rfl m1) rfl ?_
              rw [HQ.out]
              first | exact ⟨rfl, _, _, m2, m3, m4, m5⟩ | exact ⟨rfl, ⟨_, m2⟩, ⟨_, m3⟩, m4, m5⟩ | exact ⟨rfl, _, m2, ⟨_, m3⟩, m4, m5⟩
            · have HQ := Aside0.mk (show nextS c f s = ({ s1 with over := true }, (3, x.f5), 0) by rw [HN.out, HRUN.out, runS, ← HXE.out, if_neg (by simpa using a1), if_neg (by simp at a2 a3; omega), if_pos (by simpa using a4)])
              have b3 : wc.cell? ⟨b, 3, none⟩ = some (.slice (some ⟨gT, 0, none⟩) 1 1) := (blk_cell HW5.out.o.hb 3).trans rfl
              have t2 : wc.cell? ⟨gT, 2, none⟩ = some (.bool s1.over) := (blk_cell HW5.out.t.hT 2).trans rfl
              have tf : wc.frozen? ⟨gT, 2, none⟩ = false := blk_frozen HW5.out.t.hT 2
              go_upto_region 18 with fail
              have HW6 := Aside0.mk (HW5.out.setT (s' := { s1 with over := true }) (j := 2) (u := .bool true) ⟨rfl, rfl, rfl⟩ rfl)
              have GX6 := Aside0.mk ((Stay.set (T := [53]) HW5.out.t.hT (by decide) 2 (.bool true)).blk GX5.out (by decide))
              generalize (wc.setCell ⟨gT, 2, none⟩ (.bool true)) = w6 at HW6 GX6 ⊢
              clear b3 t2 tf x0 HW5 GX5 GH5
              have x5 : w6.cell? ⟨gX, 5, none⟩ = some (.int .i64 x.f5) := (blk_cell GX6.out 5).trans rfl
              have e0 : w6.cell? ⟨gE, 0, none⟩ = some (.int .i64 0) := (blk_cell HW6.out.e 0).trans rfl
              have e1 : w6.cell? ⟨gE, 1, none⟩ = some (.int .i64 0) := (blk_cell HW6.out.e 1).trans rfl
              have e2 : w6.cell? ⟨gE, 2, none⟩ = some (.int .i64 0) := (blk_cell HW6.out.e 2).trans rfl
              have f0 : w6.frozen? ⟨gE, 0, none⟩ = false := blk_frozen HW6.out.e 0
              have f1 : w6.frozen? ⟨gE, 1, none⟩ = false := blk_frozen HW6.out.e 1
              have f2 : w6.frozen? ⟨gE, 2, none⟩ = false := blk_frozen HW6.out.e 2
              go_wp2_with fail
              obtain ⟨m1, m2, m3, m4, m5⟩ := HW6.out.event HEW.out HS0.out (.int .i64 3) (.int .i64 0) (.int .i64 x.f5)
              refine bodyPost_ret (res_event rfl _ _ gE 3 0 x.f5 rfl m1) rfl ?_
              rw [HQ.out]
              first | exact ⟨rfl, _, _, m2, m3, m4, m5⟩ | exact ⟨rfl, ⟨_, m2⟩, ⟨_, m3⟩, m4, m5⟩ | exact ⟨rfl, _, m2, ⟨_, m3⟩, m4, m5⟩
            · have HQ := Aside0.mk (show nextS c f s = ({ s1 with over := true }, (4, 0), 0) by rw [HN.out, HRUN.out, runS, ← HXE.out, if_neg (by simpa using a1), if_neg (by simp at a2 a3; omega), if_neg (by simpa using a4), if_pos (by simpa using a5)])
              have b3 : wc.cell? ⟨b, 3, none⟩ = some (.slice (some ⟨gT, 0, none⟩) 1 1) := (blk_cell HW5.out.o.hb 3).trans rfl
              have t2 : wc.cell? ⟨gT, 2, none⟩ = some (.bool s1.over) := (blk_cell HW5.out.t.hT 2).trans rfl
              have tf : wc.frozen? ⟨gT, 2, none⟩ = false := blk_frozen HW5.out.t.hT 2
              go_upto_region 21 with fail
              have HW6 := Aside0.mk (HW5.out.setT (s' := { s1 with over := true }) (j := 2) (u := .bool true) ⟨rfl, rfl, rfl⟩ rfl)
              have GX6 := Aside0.mk ((Stay.set (T := [53]) HW5.out.t.hT (by decide) 2 (.bool true)).blk GX5.out (by decide))
              generalize (wc.setCell ⟨gT, 2, none⟩ (.bool true)) = w6 at HW6 GX6 ⊢
              clear b3 t2 tf x0 HW5 GX5 GH5
              have x5 : w6.cell? ⟨gX, 5, none⟩ = some (.int .i64 x.f5) := (blk_cell GX6.out 5).trans rfl
              have e0 : w6.cell? ⟨gE, 0, none⟩ = some (.int .i64 0) := (blk_cell HW6.out.e 0).trans rfl
              have e1 : w6.cell? ⟨gE, 1, none⟩ = some (.int .i64 0) := (blk_cell HW6.out.e 1).trans rfl
              have e2 : w6.cell? ⟨gE, 2, none⟩ = some (.int .i64 0) := (blk_cell HW6.out.e 2).trans rfl
              have f0 : w6.frozen? ⟨gE, 0, none⟩ = false := blk_frozen HW6.out.e 0
              have f1 : w6.frozen? ⟨gE, 1, none⟩ = false := blk_frozen HW6.out.e 1
              have f2 : w6.frozen? ⟨gE, 2, none⟩ = false := blk_frozen HW6.out.e 2
              go_wp2_with fail
              obtain ⟨m1, m2, m3, m4, m5⟩ := HW6.out.event HEW.out HS0.out (.int .i64 4) (.int .i64 0) (.int .i64 0)
              refine bodyPost_ret (res_event rfl _ _ gE 4 0 0 rfl m1) rfl ?_
              rw [HQ.out]
              first | exact ⟨rfl, _, _, m2, m3, m4, m5⟩ | exact ⟨rfl, ⟨_, m2⟩, ⟨_, m3⟩, m4, m5⟩ | exact ⟨rfl, _, m2, ⟨_, m3⟩, m4, m5⟩
            · have HQ := Aside0.mk (show runS c f s = runS c g1 (plainS x s1) by rw [HRUN.out, runS, ← HXE.out, if_neg (by simpa using a1), if_neg (by simp at a2 a3; omega), if_neg (by simpa using a4), if_neg (by simpa using a5)])
              have HMO := Aside0.mk (HW5.out.o.no HW5.out.t.hT HW5.out.e)
              have HMT := Aside0.mk (show MT wc w0.heap.size (fun k => (F k ∨ W.heap.size ≤ k) ∧ k ≠ gE) gT (.slice AG s1.regs.length cG) s1.regs s1.pc s1.over from ⟨HW5.out.t.hT, row_no HW5.out.t.rG HW5.out.e (by decide)⟩)
              have x1 : wc.cell? ⟨gX, 1, none⟩ = some (.int .i64 x.f1) := (blk_cell GX5.out 1).trans rfl
              have x2 : wc.cell? ⟨gX, 2, none⟩ = some (.int .i64 x.f2) := (blk_cell GX5.out 2).trans rfl
              have x3 : wc.cell? ⟨gX, 3, none⟩ = some (.int .i64 x.f3) := (blk_cell GX5.out 3).trans rfl
              have x4 : wc.cell? ⟨gX, 4, none⟩ = some (.int .i64 x.f4) := (blk_cell GX5.out 4).trans rfl
              have x5 : wc.cell? ⟨gX, 5, none⟩ = some (.int .i64 x.f5) := (blk_cell GX5.out 5).trans rfl
              have x6 : wc.cell? ⟨gX, 6, none⟩ = some (.int .i64 x.f6) := (blk_cell GX5.out 6).trans rfl
              go_wp2_with fail
              refine (mplain.calls x w0 wc (fun k => (F k ∨ W.heap.size ≤ k) ∧ k ≠ gE) b gC gT A0 c.length c0 vM vO1 (.slice AG s1.regs.length cG) s1 HMO.out HMT.out HW5.out.b (by have := HLS.out.1; omega) HLS.out.2.2.1).mono ?_
              rintro e w7 ⟨rfl, vG2, n1, n2, n3, n4⟩
              have hms : ∀ k, (fun k => (F k ∨ W.heap.size ≤ k) ∧ k ≠ gE) k ∨ wc.heap.size ≤ k → F k ∨ W.heap.size ≤ k := fun k hk => hk.elim (fun h => h.1) (fun h => .inr (Nat.le_trans HW5.out.k.1 h))
              have HW7 := Aside0.mk (show MW w7 w0 W F b gC gT gE A0 c.length c0 vM vO1 vG2 (plainS x s1) from ⟨n1.mono hms, n2.mono hms, (n4.2 gE (blk_lt HW5.out.e) (fun h => h.2 rfl)).trans HW5.out.e, n3, HW5.out.k.then_ n4 (fun k hk => hk.1)⟩)
              have HPL := Aside0.mk (plainS_len x s1)
              have HPO := Aside0.mk (plainS_over x s1)
              have HPW := Aside0.mk (plainS_own x s1)
              clear n1 n2 n3 n4 hms x0 x1 x2 x3 x4 x5 x6
              go_wp2_with fail
              go_roundg g1
              case measure => omega
              case rel => have hfu := HFU.out; exact ⟨g1, plainS x s1, vO1, vG2, by first | rfl | (congr 1; (try unfold wrap64); omega), by omega, Nat.le_refl _, HQ, ⟨by have := HPL.out.1; have := HLS.out.1; omega, by rw [HPW.out]; exact HLS.out.2.1, by rw [HPL.out.2]; exact HLS.out.2.2.1, by rw [HPO.out]; exact HLS.out.2.2.2⟩, HW7⟩
end Go.Proofs.YtfhjkkcdeigkdaaDoor.PFoldRuns
