-- The row of the law paling/palinglaw11.InsTells, out of its plain theorem and the printed walk, by wip/row2.py.
import Derived.Test.YtggfikekggcclaaDoorRows
import Derived.Test.YtggfikekggcclaaDoorPInsTellsx9
import Derived.Test.YtggfikekggcclaaDoorPureInsTells
import Derived.Test.YtggfikekggcclaaDoorCards
import Derived.Test.YtggfikekggcclaaDoorTie
import Derived.Test.YtggfikekggcclaaDoorLaidInsTells
import Derived.WalkKit
import Derived.ProofKit
import Derived.OpenShut
import Derived.ShutString
import Derived.ChangeOld
import Derived.Below
import Derived.SizedLaws
import Derived.Deep.Slices
import Derived.Deep.Fields
import Derived.ChangeSame
import Derived.Test.YtggfikekggcclaaDoorPInsTellsWSized
namespace Go.Proofs.YtggfikekggcclaaDoor.insTells
open Go.ChangeShapes Go.WideShapes Go.ChangeAt Go.RowKit Go.Deep
open Go.ChangeMaps (open_string shut_string)
open Go.Proofs.YtggfikekggcclaaDoor.PInsTells Go.Proofs.YtggfikekggcclaaDoorW.PrintWords Go.Proofs.YtggfikekggcclaaDoorW.PrintLast
set_option linter.unusedVariables false
set_option linter.unusedSimpArgs false
theorem own : ownKnob Tryd.prog.godebug = none := by kernel_rfl
theorem laidOut : laidOutB Tryd.prog = true := by kernel_rfl
def IsRow (k : IntKind) (w : World) (a : Option Addr) (len cap : Nat) (zs : List Int) : Prop :=
  (a = none ∧ len = 0 ∧ cap = 0 ∧ zs = []) ∨
  ∃ x, a = some x ∧ len ≤ cap ∧ cap ≤ maxLen ∧ zs.length = cap ∧ (∀ i, i < zs.length → w.cell? (x.add i) = some (.int k (zs.getD i 0))) ∧ ∀ n ∈ zs, (Lit.int k n).wf = true
set_option maxRecDepth 100000 in
theorem openG23 {H : Type} {enc : TypeId × Value → H} {w : World} {r : Reach} {b0 : Nat} {v : Value} {d : DataW H} {p : List MemPlace} (hv : Value.okWide Tryd.prog w r b0 23 v) (h : DataW.Trod enc Tryd.prog w 0 (fun _ => true) true 23 v d p) :
    ∃ x0 x1 x2 x3 x4 x5 x6 : Int, v = .agg #[.int .i64 x0, .int .i64 x1, .int .i64 x2, .int .i64 x3, .int .i64 x4, .int .i64 x5, .int .i64 x6] ∧ (Lit.int .i64 x0).wf = true ∧ (Lit.int .i64 x1).wf = true ∧ (Lit.int .i64 x2).wf = true ∧ (Lit.int .i64 x3).wf = true ∧ (Lit.int .i64 x4).wf = true ∧ (Lit.int .i64 x5).wf = true ∧ (Lit.int .i64 x6).wf = true := by
  obtain ⟨cs, rfl, hsz⟩ := okWide_struct Tryd.underlying23 hv
  obtain ⟨l⟩ := cs
  have hC : Tryd.prog.cellsOf 23 = 7 := by kernel_rfl
  match l, hsz.trans hC with
  | [c0, c1, c2, c3, c4, c5, c6], _ =>
    obtain ⟨fuel, hf⟩ := h
    obtain ⟨xs, n, _, hx, _, hlen, hg⟩ := DataW.trod_struct Tryd.underlying23 hf
    have o_2 : Tryd.prog.cellsOf 2 = 1 := by kernel_rfl
    have o_3 : Tryd.prog.cellsOf 3 = 1 := by kernel_rfl
    match xs, hlen with
    | [y0, y1, y2, y3, y4, y5, y6], _ =>
      obtain ⟨x0, e0, _, w0⟩ := DataW.trod_int Tryd.underlying3 (show DataW.trod enc Tryd.prog w 0 (fun _ => true) true n 3 [c0] = some y0 by simpa [Value.cells, o_3] using hg 0 _ rfl)
      simp only [List.cons.injEq, and_true] at e0
      subst e0
      obtain ⟨x1, e1, _, w1⟩ := DataW.trod_int Tryd.underlying3 (show DataW.trod enc Tryd.prog w 0 (fun _ => true) true n 3 [c1] = some y1 by simpa [Value.cells, o_3] using hg 1 _ rfl)
      simp only [List.cons.injEq, and_true] at e1
      subst e1
      obtain ⟨x2, e2, _, w2⟩ := DataW.trod_int Tryd.underlying3 (show DataW.trod enc Tryd.prog w 0 (fun _ => true) true n 3 [c2] = some y2 by simpa [Value.cells, o_3] using hg 2 _ rfl)
      simp only [List.cons.injEq, and_true] at e2
      subst e2
      obtain ⟨x3, e3, _, w3⟩ := DataW.trod_int Tryd.underlying3 (show DataW.trod enc Tryd.prog w 0 (fun _ => true) true n 3 [c3] = some y3 by simpa [Value.cells, o_3] using hg 3 _ rfl)
      simp only [List.cons.injEq, and_true] at e3
      subst e3
      obtain ⟨x4, e4, _, w4⟩ := DataW.trod_int Tryd.underlying3 (show DataW.trod enc Tryd.prog w 0 (fun _ => true) true n 3 [c4] = some y4 by simpa [Value.cells, o_3] using hg 4 _ rfl)
      simp only [List.cons.injEq, and_true] at e4
      subst e4
      obtain ⟨x5, e5, _, w5⟩ := DataW.trod_int Tryd.underlying2 (show DataW.trod enc Tryd.prog w 0 (fun _ => true) true n 2 [c5] = some y5 by simpa [Value.cells, o_2] using hg 5 _ rfl)
      simp only [List.cons.injEq, and_true] at e5
      subst e5
      obtain ⟨x6, e6, _, w6⟩ := DataW.trod_int Tryd.underlying3 (show DataW.trod enc Tryd.prog w 0 (fun _ => true) true n 3 [c6] = some y6 by simpa [Value.cells, o_3] using hg 6 _ rfl)
      simp only [List.cons.injEq, and_true] at e6
      subst e6
      exact ⟨x0, x1, x2, x3, x4, x5, x6, rfl, w0, w1, w2, w3, w4, w5, w6⟩
set_option maxRecDepth 100000 in
set_option maxHeartbeats 1000000 in
theorem lifted (os : Os) (started : os.Started) (H : Type) (enc : TypeId × Value → H) :
    ReturnsInHanded {} Tryd.checked os 3 .any (fun w args => (Rows.insTellsSpec.pre enc Tryd.prog Tryd.f3 [] false w args ∧ laidMetH Tryd.prog LaidInsTells.laid w) ∧ sizedMet enc Tryd.prog Tryd.f3 (OpenSpec.ofChange Rows.insTellsSpec) false w args) (Rows.insTellsSpec.post enc Tryd.prog Tryd.f3 false true false false) := by
  refine returnsInHanded_of_change_and (C := Tryd.checked) (X := fun w _ => laidMetH Tryd.prog LaidInsTells.laid w) (fun _ _ _ hh h => h.of_heap hh) own started (by kernel_rfl) Tryd.func3
    (ChangeSpec.witness_shaped (enc := enc) (C := Tryd.checked) (os := os) (X := fun w _ => laidMetH Tryd.prog LaidInsTells.laid w) false (World.doorLaid Tryd.prog 400 os) #[.agg #[.int .i64 0, .int .i64 0, .int .i64 0, .int .i64 0, .int .i64 0, .int .i64 0, .int .i64 0], .int .i64 0] 8 rfl (World.shaped_of_RefB (by kernel_rfl) (by kernel_rfl)) (by kernel_rfl) (by kernel_rfl) (by kernel_rfl) (LaidInsTells.door_met os _)) ?_
  intro W base args ds gs before hval0 hW hcnd hsz0 hL _
  have hgl := LaidInsTells.globOK hL
  have hsz : (DataW.weightsEach Tryd.prog (Tryd.f3.params.toList ++ Rows.insTellsSpec.plain.varTypes Tryd.prog) (ds ++ gs)).all (· ≤ reachBytes) = true := hsz0
  have hval : ∀ (j : Nat) t v, Tryd.f3.params[j]? = some t → args[j]? = some v → Value.okWide Tryd.prog W .any base t v := hval0
  have hW' := hW
  obtain ⟨p, q, hA0, hV, rfl, hfz, hnd⟩ := hW
  have hA : DataW.TrodAll enc Tryd.prog W 0 (fun _ => true) true Tryd.f3.params.toList args.toList ds p := hA0
  rw [Tryd.params3] at hA hval hsz
  obtain ⟨v0, vs0, d0, ds0, p0, q0, hargs, rfl, rfl, h0, r0⟩ := trodAll_cons hA
  obtain ⟨v1, vs1, d1, ds1, p1, q1, rfl, rfl, rfl, h1, r1⟩ := trodAll_cons r0
  obtain ⟨rfl, rfl, rfl⟩ := trodAll_nil r1
  obtain rfl : args = #[v0, v1] := by cases args; simp_all
  obtain ⟨rfl, rfl⟩ := trodVars_none hV
  have k0 := h0
  have lt0 : ∀ x ∈ p0, x.block < W.heap.size := by obtain ⟨m, hm⟩ := k0; exact DataW.trod_lt m _ _ _ hm
  obtain ⟨a0_0, a0_1, a0_2, a0_3, a0_4, a0_5, a0_6, rfl, wa0_0, wa0_1, wa0_2, wa0_3, wa0_4, wa0_5, wa0_6⟩ := openG23 (hval 0 23 v0 rfl rfl) h0
  obtain ⟨a1, rfl, rfl, rfl, w1⟩ := open_int Tryd.underlying3 (hval 1 3 v1 rfl rfl) h1
  clear hA0 hval0 hsz0 hsz
  obtain ⟨k, hp⟩ := Pure.InsTells a0_0 a0_1 a0_2 a0_3 a0_4 a0_5 a0_6 a1 wa0_0 wa0_1 wa0_2 wa0_3 wa0_4 wa0_5 wa0_6 w1
  refine (palinglaw11_InsTells.calls k a0_0 a0_1 a0_2 a0_3 a0_4 a0_5 a0_6 a1 true W  hp hgl).mono fun e W' ⟨he, bel⟩ => ?_
  subst he
  exact ⟨_, rfl, _, _, _, [], _, [], hW', trodAll_mk1 (shut_bool Tryd.underlying4 _), (trodAll_cons_mk (Below.trod laidOut (by kernel_rfl) (of_decide_eq_true (by kernel_rfl)) k0 bel lt0) (trodAll_cons_mk (shut_int Tryd.underlying3 w1) trodAll_mk0)), rfl, bel.frame _, fun h => by cases h⟩
theorem over : Rows.insTellsRow.holds Tryd.pinned (OpenSpec.ofChange Rows.insTellsSpec) :=
  OpenClaim.holds_of_wide 3 Tryd.f3 rfl rfl rfl rfl rfl rfl rfl ⟨rfl, rfl, rfl, rfl, rfl⟩ rfl rfl rfl rfl rfl (by kernel_rfl) Tryd.func3 (by kernel_rfl)
    (of_decide_eq_true (by kernel_rfl)) (by unfold Func.isWrapper; first | (rw [if_pos (by decide +kernel)]; kernel_rfl) | (rw [if_neg (by decide +kernel)]; exact ⟨rfl, rfl⟩))
    (fun os started H enc _ => lifted os started H enc)
theorem proved : Rows.InsTellsSaid := over
theorem card_holds : Rows.InsTellsCardSaid :=
  Claim7.holds_tied_plain_at .later [] [.data, .data, .data, .widerDeep, .data] true (true, "1a69d629e13f48774e523a8c5c2adbc0b5e1f875c0a51972624c969cd158013f") false
    proved (fun _ h => by cases h) (by kernel_rfl) (fun _ h => by cases h) insTells_row_tie rfl ⟨rfl, rfl⟩ (by kernel_rfl) rfl
    (fun f fn hf hfn => by
      obtain rfl : f = 3 := Option.some.inj ((show Tryd.prog.funcNamed "paling/palinglaw11.InsTells" = some 3 by kernel_rfl).symm.trans hf) |>.symm
      obtain rfl : fn = Tryd.f3 := (Option.some.inj (Tryd.func3.symm.trans hfn)).symm
      exact ⟨by kernel_rfl, fun j t ht => by
        rw [Tryd.params3] at ht
        have h3 : t = 3 ∨ t = 23 := by
          match j, ht with
          | 0, ht => simp at ht; simp [ht.symm]
          | 1, ht => simp at ht; simp [ht.symm]
          | _ + 2, ht => simp at ht
        rcases h3 with rfl | rfl
        · exact (show Tryd.prog.wantsStandIn 3 = false by kernel_rfl)
        · exact (show Tryd.prog.wantsStandIn 23 = false by kernel_rfl)⟩)
    (by kernel_rfl)
#print axioms card_holds
end Go.Proofs.YtggfikekggcclaaDoor.insTells
namespace Go.Proofs.YtggfikekggcclaaDoor
/-- The card, under a short name, for the claim. -/
theorem insTells_holds : Rows.InsTellsCardSaid := insTells.card_holds
end Go.Proofs.YtggfikekggcclaaDoor
