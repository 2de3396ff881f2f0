/- What the rows' condition gives the walks: the table paling/ins.forms lies as the program lays it; and a world that meets the condition. -/
import Derived.Test.YtfhjkkcdeigkdaaDoorRows
import Derived.Test.YtfhjkkcdeigkdaaDoorPFoldRunshforms
import Derived.ProofKit
import Derived.LaidMore
import Derived.OpenShut
import Derived.MakeChecks
import Derived.Stop.Joined
import Derived.ChangeArms
namespace Go.Proofs.YtfhjkkcdeigkdaaDoor.LaidFoldRuns
open Go.ChangeShapes Go.WideShapes Go.ChangeAt Go.RowKit Go.Proofs.YtfhjkkcdeigkdaaDoor.PFoldRuns
set_option linter.unusedVariables false
set_option linter.unusedSimpArgs false
theorem gForms : Tryd.prog.globalNamed "paling/ins.forms" = some 0 := by kernel_rfl
theorem tForms : (Tryd.prog.globals[0]?).map (·.type) = some 102 := by kernel_rfl
theorem own : ownKnob Tryd.prog.godebug = none := by kernel_rfl
def laid : List (String × DataW Unit) := [("paling/ins.forms", Rows.laid_paling_ins_forms)]
theorem door_met (os : Os) (args : Array Value) : laidMetH Tryd.prog laid ((World.doorLaid Tryd.prog 400 os).forCall (fun _ _ => 0) ⟨#[], args, []⟩).memory :=
  laidMetH_of_parts3 (fuel := 8) (laidMet_of_run' 8 (by kernel_rfl) (by kernel_rfl)) (by kernel_rfl) (by kernel_rfl)
/-- the data, row by row -/
def rowD (k : Nat) : List (DataW Unit) := match (Rows.laid_paling_ins_forms : DataW Unit) with | .agg l => (match l[k]? with | some (.agg r) => r | _ => []) | _ => []
def cellD : DataW Unit → Value | .lit (.string l) => .string ⟨l.toArray⟩ | .lit (.bool b) => .bool b | _ => undef
theorem rows_eq : (Rows.laid_paling_ins_forms : DataW Unit) = .agg ((List.range 14).map fun k => .agg (rowD k)) := by kernel_rfl
theorem rows_len : (List.range 14).all (fun k => (rowD k).length == 10) = true := by kernel_rfl
theorem cells_eq : formsCells.toList = (List.range 14).flatMap (fun k => (rowD k).map cellD) := by kernel_rfl
theorem flat_take : ∀ (n m : Nat) (cs : List Value) (F : Nat → List Value), cs.length = n * m → (∀ k, k < n → (cs.drop (k * m)).take m = F k) → cs = (List.range n).flatMap F
  | 0, m, cs, F, hl, _ => by
    have : cs = [] := List.eq_nil_of_length_eq_zero (by omega)
    subst this; rfl
  | n + 1, m, cs, F, hl, h => by
    have h0 := h 0 (by omega)
    rw [Nat.zero_mul, List.drop_zero] at h0
    have hs := flat_take n m (cs.drop m) (fun k => F (k + 1)) (by rw [List.length_drop, hl, Nat.succ_mul]; omega) (fun k hk => by
      have := h (k + 1) (by omega)
      rw [List.drop_drop, show m + k * m = (k + 1) * m by rw [Nat.succ_mul]; omega]
      exact this)
    rw [List.range_succ_eq_map, List.flatMap_cons, List.flatMap_map, ← h0]
    rw [show (fun a => F (Nat.succ a)) = (fun k => F (k + 1)) from rfl, ← hs, List.take_append_drop]
set_option maxRecDepth 100000 in
/-- a form's cells out of its data -/
theorem form_cells {enc : TypeId × Value → Unit} {w : World} {base fuel : Nat} {sp : Nat → Bool} {held : Bool} {cs : List Value} {x : DataW Unit × List MemPlace} {r : List (DataW Unit)} (h : DataW.trod enc Tryd.prog w base sp held fuel 95 cs = some x) (hx : x.1 = .agg r) : cs = r.map cellD := by
  obtain ⟨xs, n, _, rfl, hlen, hxl, hf⟩ := DataW.trod_struct Tryd.underlying95 h
  have hl : cs.length = 10 := hlen.trans (by kernel_rfl)
  match cs, hl with
  | [c0, c1, c2, c3, c4, c5, c6, c7, c8, c9], _ =>
    match xs, hxl with
    | [y0, y1, y2, y3, y4, y5, y6, y7, y8, y9], _ =>
      have s9 : Tryd.prog.cellsOf 9 = 1 := by kernel_rfl
      have s4 : Tryd.prog.cellsOf 4 = 1 := by kernel_rfl
      simp only [DataW.agg.injEq] at hx
      subst hx
      obtain ⟨b0, p0, q0, _⟩ := DataW.trod_string Tryd.underlying9 (show DataW.trod enc Tryd.prog w base sp held n 9 [c0] = some y0 by simpa [s9] using hf 0 _ rfl)
      obtain ⟨b1, p1, q1⟩ := DataW.trod_bool Tryd.underlying4 (show DataW.trod enc Tryd.prog w base sp held n 4 [c1] = some y1 by simpa [s4] using hf 1 _ rfl)
      obtain ⟨b2, p2, q2⟩ := DataW.trod_bool Tryd.underlying4 (show DataW.trod enc Tryd.prog w base sp held n 4 [c2] = some y2 by simpa [s4] using hf 2 _ rfl)
      obtain ⟨b3, p3, q3⟩ := DataW.trod_bool Tryd.underlying4 (show DataW.trod enc Tryd.prog w base sp held n 4 [c3] = some y3 by simpa [s4] using hf 3 _ rfl)
      obtain ⟨b4, p4, q4⟩ := DataW.trod_bool Tryd.underlying4 (show DataW.trod enc Tryd.prog w base sp held n 4 [c4] = some y4 by simpa [s4] using hf 4 _ rfl)
      obtain ⟨b5, p5, q5⟩ := DataW.trod_bool Tryd.underlying4 (show DataW.trod enc Tryd.prog w base sp held n 4 [c5] = some y5 by simpa [s4] using hf 5 _ rfl)
      obtain ⟨b6, p6, q6⟩ := DataW.trod_bool Tryd.underlying4 (show DataW.trod enc Tryd.prog w base sp held n 4 [c6] = some y6 by simpa [s4] using hf 6 _ rfl)
      obtain ⟨b7, p7, q7⟩ := DataW.trod_bool Tryd.underlying4 (show DataW.trod enc Tryd.prog w base sp held n 4 [c7] = some y7 by simpa [s4] using hf 7 _ rfl)
      obtain ⟨b8, p8, q8⟩ := DataW.trod_bool Tryd.underlying4 (show DataW.trod enc Tryd.prog w base sp held n 4 [c8] = some y8 by simpa [s4] using hf 8 _ rfl)
      obtain ⟨b9, p9, q9⟩ := DataW.trod_bool Tryd.underlying4 (show DataW.trod enc Tryd.prog w base sp held n 4 [c9] = some y9 by simpa [s4] using hf 9 _ rfl)
      simp only [List.cons.injEq, and_true] at p0 p1 p2 p3 p4 p5 p6 p7 p8 p9
      subst p0; subst p1; subst p2; subst p3; subst p4; subst p5; subst p6; subst p7; subst p8; subst p9
      subst q0; subst q1; subst q2; subst q3; subst q4; subst q5; subst q6; subst q7; subst q8; subst q9
      simp [cellD]
/-- the table of forms, cell for cell -/
theorem forms_of {W : World} {f0 : Nat} {cs0 : Array Value} {p0 : List MemPlace} (hv0 : W.var? Tryd.prog "paling/ins.forms" = some cs0) (hd0 : DataW.trod (fun _ => ()) Tryd.prog W 0 (fun _ => true) false f0 102 cs0.toList = some (Rows.laid_paling_ins_forms, p0)) :
    ∀ (i : Nat) (v : Value), formsCells[i]? = some v → W.cell? ⟨0, i, none⟩ = some v := by
  have hcs : cs0.toList = formsCells.toList := by
    obtain ⟨xs, m1, _, hx1, hlen, hn, hel⟩ := DataW.trod_array Tryd.underlying102 hd0
    have c84 : Tryd.prog.cellsOf 95 = 10 := by kernel_rfl
    have hl : cs0.toList.length = 14 * 10 := hlen.trans (by kernel_rfl)
    rw [cells_eq]
    refine flat_take 14 10 _ _ hl (fun k hk => ?_)
    have hk' := hel k hk
    rw [c84] at hk'
    have hx2 := congrArg (·.1) hx1
    simp only [] at hx2
    have hxk : xs[k]? = some (xs[k]'(by omega)) := List.getElem?_eq_getElem (by omega)
    rw [hxk] at hk'
    refine form_cells hk' ?_
    have hx3 : (Rows.laid_paling_ins_forms : DataW Unit) = .agg (xs.map (·.1)) := hx2
    rw [rows_eq] at hx3
    simp only [DataW.agg.injEq] at hx3
    have := congrArg (fun l => l[k]?) hx3
    simpa [hk, hxk, List.getElem?_range] using this.symm
  have hcs' : cs0 = formsCells := by cases cs0; cases h : formsCells; rw [h] at hcs; simpa using hcs
  subst hcs'
  exact fun i v hv => (World.var?_cell gForms hv0 i).trans hv
theorem globOK {W : World} (h : laidMetH Tryd.prog laid W) : GlobOK W := by
  rw [MakeChecks.laidMetH_plain _ _ _ (by kernel_rfl)] at h
  obtain ⟨ps, h, _⟩ := h
  obtain ⟨g_forms, t_forms, cs_forms, f_forms, p_forms, q_forms, hg_forms, ht_forms, hv_forms, hd_forms, h, _⟩ := h
  obtain rfl := Option.some.inj (gForms.symm.trans hg_forms)
  obtain rfl := Option.some.inj (tForms.symm.trans ht_forms)
  exact {
    forms := forms_of hv_forms hd_forms

  }
end Go.Proofs.YtfhjkkcdeigkdaaDoor.LaidFoldRuns
