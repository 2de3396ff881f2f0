/-
  NARROWER THAN 'FOR EVERY INPUT', by the rows' own cells (each row's printed sentence says how): FoldTells: laid · FoldRuns: laid · FoldKnows: laid · FoldLeaves: laid.
  DERIVED. THE GIVEN ROWS OF THIS SEAT. 4 by the template 'for every input the law returns true; each argument reads behind the call as it read before'; 0 by the template 'total and deterministic' (their statements: YtfhjkkcdeigkdaaDoorTotals.lean).
  GIVEN WITH THE SEED: the statements are not yours to turn. If you find one false, say at which input.
  Laid BY PROGRAM, IN A SANDBOX (cutbox-rows.mjs): the forced cells as the released guide's own fill.sh prints them over the translation 5980a4984154bf2f… (all of the seat's roots in one cut). By AI agents, Wed Nov 11 2026. No macro, syntax, notation, axiom, sorry.
-/
import Derived.Test.YtfhjkkcdeigkdaaDoorChecked
import GoSem.Claim
import GoSem.ClaimJoined
import GoSem.ClaimMapViews
import Derived.JoinedTies
import Derived.KernelRfl
namespace Go.Proofs.YtfhjkkcdeigkdaaDoor
/- THE CELL 'sum', in the pinned program and in every row, IS THE sha256 OF THE DUMP (.gsa) THAT YtfhjkkcdeigkdaaDoorProg.lean LOADS. Nothing in Lean hashes anything: it is a label: what it is worth is what the hold of that sum in a sandbox is worth. -/
noncomputable def Tryd.pinned : Pinned := { name := "ytfhjkkcdeigkdaadoor", sum := "5980a4984154bf2f0a0b70be99dae805f260e14b9a4c806cb031f01f2fe5e1de", checked := Tryd.checked }
namespace Rows
def none {H : Type} : Left H := { results := [], args := [] }

/- WHAT THE LISTED PACKAGE-LEVEL VARIABLES READ AS WHEN THE CALL BEGINS. Each datum BY PROGRAM (the guide's laid-datum.mjs) off the statement by which the dump's own 'gosem.cut.vars' lays the variable. In a bare row this is a premise. The card (YtfhjkkcdeigkdaaDoorCards.lean) ties it to the program's text. -/
def laid_paling_ins_forms {H : Type} : DataW H := .agg [.agg [.lit (.string [115, 101, 116]), .lit (.bool true), .lit (.bool false), .lit (.bool false), .lit (.bool false), .lit (.bool true), .lit (.bool false), .lit (.bool false), .lit (.bool false), .lit (.bool false)], .agg [.lit (.string [109, 111, 118, 101]), .lit (.bool true), .lit (.bool true), .lit (.bool false), .lit (.bool false), .lit (.bool false), .lit (.bool false), .lit (.bool false), .lit (.bool false), .lit (.bool false)], .agg [.lit (.string [99, 97, 108, 99]), .lit (.bool true), .lit (.bool true), .lit (.bool true), .lit (.bool true), .lit (.bool false), .lit (.bool false), .lit (.bool false), .lit (.bool false), .lit (.bool false)], .agg [.lit (.string [112, 105, 99, 107]), .lit (.bool true), .lit (.bool true), .lit (.bool true), .lit (.bool false), .lit (.bool false), .lit (.bool false), .lit (.bool false), .lit (.bool true), .lit (.bool false)], .agg [.lit (.string [108, 111, 97, 100]), .lit (.bool true), .lit (.bool true), .lit (.bool false), .lit (.bool false), .lit (.bool true), .lit (.bool false), .lit (.bool true), .lit (.bool false), .lit (.bool false)], .agg [.lit (.string [115, 116, 111, 114, 101]), .lit (.bool false), .lit (.bool true), .lit (.bool true), .lit (.bool false), .lit (.bool true), .lit (.bool false), .lit (.bool true), .lit (.bool false), .lit (.bool false)], .agg [.lit (.string [106, 117, 109, 112]), .lit (.bool false), .lit (.bool false), .lit (.bool false), .lit (.bool false), .lit (.bool false), .lit (.bool true), .lit (.bool false), .lit (.bool false), .lit (.bool false)], .agg [.lit (.string [122, 101, 114, 111]), .lit (.bool false), .lit (.bool true), .lit (.bool false), .lit (.bool false), .lit (.bool false), .lit (.bool true), .lit (.bool false), .lit (.bool false), .lit (.bool false)], .agg [.lit (.string [102, 101, 110, 99, 101]), .lit (.bool false), .lit (.bool false), .lit (.bool false), .lit (.bool false), .lit (.bool false), .lit (.bool false), .lit (.bool false), .lit (.bool false), .lit (.bool false)], .agg [.lit (.string [116, 97, 107, 101]), .lit (.bool false), .lit (.bool false), .lit (.bool false), .lit (.bool false), .lit (.bool true), .lit (.bool false), .lit (.bool false), .lit (.bool false), .lit (.bool false)], .agg [.lit (.string [103, 105, 118, 101]), .lit (.bool false), .lit (.bool false), .lit (.bool false), .lit (.bool false), .lit (.bool true), .lit (.bool false), .lit (.bool false), .lit (.bool false), .lit (.bool false)], .agg [.lit (.string [111, 117, 116]), .lit (.bool false), .lit (.bool true), .lit (.bool false), .lit (.bool false), .lit (.bool false), .lit (.bool false), .lit (.bool false), .lit (.bool false), .lit (.bool false)], .agg [.lit (.string [116, 114, 97, 112]), .lit (.bool false), .lit (.bool false), .lit (.bool false), .lit (.bool false), .lit (.bool true), .lit (.bool false), .lit (.bool false), .lit (.bool false), .lit (.bool true)], .agg [.lit (.string [104, 97, 108, 116]), .lit (.bool false), .lit (.bool false), .lit (.bool false), .lit (.bool false), .lit (.bool false), .lit (.bool false), .lit (.bool false), .lit (.bool false), .lit (.bool true)]]

/-- 'palinglaw16.FoldTells': WHATEVER THE INPUT: true; the input reads as it did. -/
def foldTellsSpec : ChangeSpec := { name := "foldTells", fn := fun _ => fun
  | [d1, d2, d3] => { results := [.lit (.bool true)], args := [d1, d2, d3] }
  | _ => none }
def foldTellsRow : OpenClaim := { program := "ytfhjkkcdeigkdaadoor", sum := "5980a4984154bf2f0a0b70be99dae805f260e14b9a4c806cb031f01f2fe5e1de", func := "paling/palinglaw16.FoldTells", spec := "foldTells", inPlace := ["maps.clone"], unfollowed := true, recurses := true, named := ["paling/ins.forms"], apart := false, laid := [("paling/ins.forms", laid_paling_ins_forms)] }
def FoldTellsSaid : Prop := foldTellsRow.holds Tryd.pinned (OpenSpec.ofChange foldTellsSpec)

/-- ITS FALSE NEIGHBOUR: 'it returns false'. Refute it at one input. -/
def foldTellsWrong : ChangeSpec := { name := "foldTells", fn := fun _ => fun
  | [d1, d2, d3] => { results := [.lit (.bool false)], args := [d1, d2, d3] }
  | _ => none }
def FoldTellsWrongFalsely : Prop := foldTellsRow.holds Tryd.pinned (OpenSpec.ofChange foldTellsWrong)

/-- 'palinglaw16.FoldRuns': WHATEVER THE INPUT: true; the input reads as it did. -/
def foldRunsSpec : ChangeSpec := { name := "foldRuns", fn := fun _ => fun
  | [d1, d2, d3] => { results := [.lit (.bool true)], args := [d1, d2, d3] }
  | _ => none }
def foldRunsRow : OpenClaim := { program := "ytfhjkkcdeigkdaadoor", sum := "5980a4984154bf2f0a0b70be99dae805f260e14b9a4c806cb031f01f2fe5e1de", func := "paling/palinglaw16.FoldRuns", spec := "foldRuns", inPlace := ["maps.clone"], unfollowed := true, recurses := true, named := ["paling/ins.forms"], apart := false, laid := [("paling/ins.forms", laid_paling_ins_forms)] }
def FoldRunsSaid : Prop := foldRunsRow.holds Tryd.pinned (OpenSpec.ofChange foldRunsSpec)

/-- ITS FALSE NEIGHBOUR: 'it returns false'. Refute it at one input. -/
def foldRunsWrong : ChangeSpec := { name := "foldRuns", fn := fun _ => fun
  | [d1, d2, d3] => { results := [.lit (.bool false)], args := [d1, d2, d3] }
  | _ => none }
def FoldRunsWrongFalsely : Prop := foldRunsRow.holds Tryd.pinned (OpenSpec.ofChange foldRunsWrong)

/-- 'palinglaw16.FoldKnows': WHATEVER THE INPUT: true; the input reads as it did. -/
def foldKnowsSpec : ChangeSpec := { name := "foldKnows", fn := fun _ => fun
  | [d1, d2, d3] => { results := [.lit (.bool true)], args := [d1, d2, d3] }
  | _ => none }
def foldKnowsRow : OpenClaim := { program := "ytfhjkkcdeigkdaadoor", sum := "5980a4984154bf2f0a0b70be99dae805f260e14b9a4c806cb031f01f2fe5e1de", func := "paling/palinglaw16.FoldKnows", spec := "foldKnows", inPlace := ["maps.clone"], unfollowed := true, recurses := true, named := ["paling/ins.forms"], apart := false, laid := [("paling/ins.forms", laid_paling_ins_forms)] }
def FoldKnowsSaid : Prop := foldKnowsRow.holds Tryd.pinned (OpenSpec.ofChange foldKnowsSpec)

/-- ITS FALSE NEIGHBOUR: 'it returns false'. Refute it at one input. -/
def foldKnowsWrong : ChangeSpec := { name := "foldKnows", fn := fun _ => fun
  | [d1, d2, d3] => { results := [.lit (.bool false)], args := [d1, d2, d3] }
  | _ => none }
def FoldKnowsWrongFalsely : Prop := foldKnowsRow.holds Tryd.pinned (OpenSpec.ofChange foldKnowsWrong)

/-- 'palinglaw16.FoldLeaves': WHATEVER THE INPUT: true; the input reads as it did. -/
def foldLeavesSpec : ChangeSpec := { name := "foldLeaves", fn := fun _ => fun
  | [d] => { results := [.lit (.bool true)], args := [d] }
  | _ => none }
def foldLeavesRow : OpenClaim := { program := "ytfhjkkcdeigkdaadoor", sum := "5980a4984154bf2f0a0b70be99dae805f260e14b9a4c806cb031f01f2fe5e1de", func := "paling/palinglaw16.FoldLeaves", spec := "foldLeaves", inPlace := ["maps.clone"], unfollowed := true, recurses := true, named := ["paling/ins.forms"], apart := false, laid := [("paling/ins.forms", laid_paling_ins_forms)] }
def FoldLeavesSaid : Prop := foldLeavesRow.holds Tryd.pinned (OpenSpec.ofChange foldLeavesSpec)

/-- ITS FALSE NEIGHBOUR: 'it returns false'. Refute it at one input. -/
def foldLeavesWrong : ChangeSpec := { name := "foldLeaves", fn := fun _ => fun
  | [d] => { results := [.lit (.bool false)], args := [d] }
  | _ => none }
def FoldLeavesWrongFalsely : Prop := foldLeavesRow.holds Tryd.pinned (OpenSpec.ofChange foldLeavesWrong)

/- THE SECOND FORM. 'bulk': how many values and letters a reading holds, each counted each time it is reached (what is shared counts as often as it is met; a slice's spare places count too). A statement '..UptoSaid' is the law's where the arguments, and the package variables that the reading takes, are together of bulk at most 1048576: NARROWER than '..Said'. Prove '..Said' where nothing that the law and all that it calls make is longer than what came in: it says more and counts as full. Else prove '..UptoSaid'. A law counts once. -/
mutual
def uptoBulk {H : Type} : DataW H → Nat
  | .lit (.string bytes) => bytes.length + 1
  | .lit _ => 1
  | .nil => 1
  | .ptr d => uptoBulk d + 1
  | .slice elems spare => uptoBulkAll elems + uptoBulkAll spare + 1
  | .agg parts => uptoBulkAll parts + 1
  | .iface _ d => uptoBulk d + 1
  | .map entries => uptoBulkEntries entries + 1
  | .held _ => 1
def uptoBulkAll {H : Type} : List (DataW H) → Nat
  | [] => 0
  | d :: r => uptoBulk d + uptoBulkAll r
def uptoBulkEntries {H : Type} : List (Lit × DataW H) → Nat
  | [] => 0
  | x :: r => uptoBulkEntry x + uptoBulkEntries r
def uptoBulkEntry {H : Type} : Lit × DataW H → Nat
  | (.string bytes, d) => bytes.length + uptoBulk d + 1
  | (_, d) => uptoBulk d + 1
 end
def uptoSmall : (H : Type) → List (DataW H) → Bool := fun _ ds => decide (uptoBulkAll ds ≤ 1048576)
def OpenSpec.upto (s : _root_.Go.ChangeSpec) : _root_.Go.OpenSpec := { _root_.Go.OpenSpec.ofChange s with cond := some uptoSmall }

/-- 'palinglaw16.FoldTells', WHERE WHAT IT READS IS OF BULK AT MOST 1048576: true; the input reads as it did. -/
def foldTellsUptoRow : OpenClaim := { program := "ytfhjkkcdeigkdaadoor", sum := "5980a4984154bf2f0a0b70be99dae805f260e14b9a4c806cb031f01f2fe5e1de", func := "paling/palinglaw16.FoldTells", spec := "foldTells", inPlace := ["maps.clone"], unfollowed := true, recurses := true, named := ["paling/ins.forms"], apart := false, laid := [("paling/ins.forms", laid_paling_ins_forms)], narrowed := true }
def FoldTellsUptoSaid : Prop := foldTellsUptoRow.holds Tryd.pinned (OpenSpec.upto foldTellsSpec)

/-- 'palinglaw16.FoldRuns', WHERE WHAT IT READS IS OF BULK AT MOST 1048576: true; the input reads as it did. -/
def foldRunsUptoRow : OpenClaim := { program := "ytfhjkkcdeigkdaadoor", sum := "5980a4984154bf2f0a0b70be99dae805f260e14b9a4c806cb031f01f2fe5e1de", func := "paling/palinglaw16.FoldRuns", spec := "foldRuns", inPlace := ["maps.clone"], unfollowed := true, recurses := true, named := ["paling/ins.forms"], apart := false, laid := [("paling/ins.forms", laid_paling_ins_forms)], narrowed := true }
def FoldRunsUptoSaid : Prop := foldRunsUptoRow.holds Tryd.pinned (OpenSpec.upto foldRunsSpec)

/-- 'palinglaw16.FoldKnows', WHERE WHAT IT READS IS OF BULK AT MOST 1048576: true; the input reads as it did. -/
def foldKnowsUptoRow : OpenClaim := { program := "ytfhjkkcdeigkdaadoor", sum := "5980a4984154bf2f0a0b70be99dae805f260e14b9a4c806cb031f01f2fe5e1de", func := "paling/palinglaw16.FoldKnows", spec := "foldKnows", inPlace := ["maps.clone"], unfollowed := true, recurses := true, named := ["paling/ins.forms"], apart := false, laid := [("paling/ins.forms", laid_paling_ins_forms)], narrowed := true }
def FoldKnowsUptoSaid : Prop := foldKnowsUptoRow.holds Tryd.pinned (OpenSpec.upto foldKnowsSpec)

/-- 'palinglaw16.FoldLeaves', WHERE WHAT IT READS IS OF BULK AT MOST 1048576: true; the input reads as it did. -/
def foldLeavesUptoRow : OpenClaim := { program := "ytfhjkkcdeigkdaadoor", sum := "5980a4984154bf2f0a0b70be99dae805f260e14b9a4c806cb031f01f2fe5e1de", func := "paling/palinglaw16.FoldLeaves", spec := "foldLeaves", inPlace := ["maps.clone"], unfollowed := true, recurses := true, named := ["paling/ins.forms"], apart := false, laid := [("paling/ins.forms", laid_paling_ins_forms)], narrowed := true }
def FoldLeavesUptoSaid : Prop := foldLeavesUptoRow.holds Tryd.pinned (OpenSpec.upto foldLeavesSpec)

end Rows
end Go.Proofs.YtfhjkkcdeigkdaaDoor
