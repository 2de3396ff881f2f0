/-
  NARROWER THAN 'FOR EVERY INPUT', by the rows' own cells (each row's printed sentence says how): GraphReaches: laid · GraphLoops: laid · GraphAbove: laid · GraphStraight: laid.
  DERIVED. THE GIVEN ROWS OF THIS SEAT. 4 by the template 'for every input the law returns true; each argument reads behind the call as it read before'; 0 by the template 'total and deterministic' (their statements: YtoncneglplglhaaDoorTotals.lean).
  GIVEN WITH THE SEED: the statements are not yours to turn. If you find one false, say at which input.
  Laid BY PROGRAM, IN A SANDBOX (cutbox-rows.mjs): the forced cells as the released guide's own fill.sh prints them over the translation cbe5a4cbc96c14d5… (all of the seat's roots in one cut). By AI agents, Wed Nov 11 2026. No macro, syntax, notation, axiom, sorry.
-/
import Derived.Test.YtoncneglplglhaaDoorChecked
import GoSem.Claim
import GoSem.ClaimJoined
import GoSem.ClaimMapViews
import Derived.JoinedTies
import Derived.KernelRfl
namespace Go.Proofs.YtoncneglplglhaaDoor
/- THE CELL 'sum', in the pinned program and in every row, IS THE sha256 OF THE DUMP (.gsa) THAT YtoncneglplglhaaDoorProg.lean LOADS. Nothing in Lean hashes anything: it is a label: what it is worth is what the hold of that sum in a sandbox is worth. -/
noncomputable def Tryd.pinned : Pinned := { name := "ytoncneglplglhaadoor", sum := "cbe5a4cbc96c14d58a458b12c41f2605b3a7ed3af00764dba45b5129dda1b21e", checked := Tryd.checked }
namespace Rows
def none {H : Type} : Left H := { results := [], args := [] }

/- WHAT THE LISTED PACKAGE-LEVEL VARIABLES READ AS WHEN THE CALL BEGINS. Each datum BY PROGRAM (the guide's laid-datum.mjs) off the statement by which the dump's own 'gosem.cut.vars' lays the variable. In a bare row this is a premise. The card (YtoncneglplglhaaDoorCards.lean) ties it to the program's text. -/
def laid_paling_ins_forms {H : Type} : DataW H := .agg [.agg [.lit (.string [115, 101, 116]), .lit (.bool true), .lit (.bool false), .lit (.bool false), .lit (.bool false), .lit (.bool true), .lit (.bool false), .lit (.bool false), .lit (.bool false), .lit (.bool false)], .agg [.lit (.string [109, 111, 118, 101]), .lit (.bool true), .lit (.bool true), .lit (.bool false), .lit (.bool false), .lit (.bool false), .lit (.bool false), .lit (.bool false), .lit (.bool false), .lit (.bool false)], .agg [.lit (.string [99, 97, 108, 99]), .lit (.bool true), .lit (.bool true), .lit (.bool true), .lit (.bool true), .lit (.bool false), .lit (.bool false), .lit (.bool false), .lit (.bool false), .lit (.bool false)], .agg [.lit (.string [112, 105, 99, 107]), .lit (.bool true), .lit (.bool true), .lit (.bool true), .lit (.bool false), .lit (.bool false), .lit (.bool false), .lit (.bool false), .lit (.bool true), .lit (.bool false)], .agg [.lit (.string [108, 111, 97, 100]), .lit (.bool true), .lit (.bool true), .lit (.bool false), .lit (.bool false), .lit (.bool true), .lit (.bool false), .lit (.bool true), .lit (.bool false), .lit (.bool false)], .agg [.lit (.string [115, 116, 111, 114, 101]), .lit (.bool false), .lit (.bool true), .lit (.bool true), .lit (.bool false), .lit (.bool true), .lit (.bool false), .lit (.bool true), .lit (.bool false), .lit (.bool false)], .agg [.lit (.string [106, 117, 109, 112]), .lit (.bool false), .lit (.bool false), .lit (.bool false), .lit (.bool false), .lit (.bool false), .lit (.bool true), .lit (.bool false), .lit (.bool false), .lit (.bool false)], .agg [.lit (.string [122, 101, 114, 111]), .lit (.bool false), .lit (.bool true), .lit (.bool false), .lit (.bool false), .lit (.bool false), .lit (.bool true), .lit (.bool false), .lit (.bool false), .lit (.bool false)], .agg [.lit (.string [102, 101, 110, 99, 101]), .lit (.bool false), .lit (.bool false), .lit (.bool false), .lit (.bool false), .lit (.bool false), .lit (.bool false), .lit (.bool false), .lit (.bool false), .lit (.bool false)], .agg [.lit (.string [116, 97, 107, 101]), .lit (.bool false), .lit (.bool false), .lit (.bool false), .lit (.bool false), .lit (.bool true), .lit (.bool false), .lit (.bool false), .lit (.bool false), .lit (.bool false)], .agg [.lit (.string [103, 105, 118, 101]), .lit (.bool false), .lit (.bool false), .lit (.bool false), .lit (.bool false), .lit (.bool true), .lit (.bool false), .lit (.bool false), .lit (.bool false), .lit (.bool false)], .agg [.lit (.string [111, 117, 116]), .lit (.bool false), .lit (.bool true), .lit (.bool false), .lit (.bool false), .lit (.bool false), .lit (.bool false), .lit (.bool false), .lit (.bool false), .lit (.bool false)], .agg [.lit (.string [116, 114, 97, 112]), .lit (.bool false), .lit (.bool false), .lit (.bool false), .lit (.bool false), .lit (.bool true), .lit (.bool false), .lit (.bool false), .lit (.bool false), .lit (.bool true)], .agg [.lit (.string [104, 97, 108, 116]), .lit (.bool false), .lit (.bool false), .lit (.bool false), .lit (.bool false), .lit (.bool false), .lit (.bool false), .lit (.bool false), .lit (.bool false), .lit (.bool true)]]

/-- 'palinglaw14.GraphReaches': WHATEVER THE INPUT: true; the input reads as it did. -/
def graphReachesSpec : ChangeSpec := { name := "graphReaches", fn := fun _ => fun
  | [d] => { results := [.lit (.bool true)], args := [d] }
  | _ => none }
def graphReachesRow : OpenClaim := { program := "ytoncneglplglhaadoor", sum := "cbe5a4cbc96c14d58a458b12c41f2605b3a7ed3af00764dba45b5129dda1b21e", func := "paling/palinglaw14.GraphReaches", spec := "graphReaches", unfollowed := true, recurses := true, named := ["paling/ins.forms"], apart := false, laid := [("paling/ins.forms", laid_paling_ins_forms)] }
def GraphReachesSaid : Prop := graphReachesRow.holds Tryd.pinned (OpenSpec.ofChange graphReachesSpec)

/-- ITS FALSE NEIGHBOUR: 'it returns false'. Refute it at one input. -/
def graphReachesWrong : ChangeSpec := { name := "graphReaches", fn := fun _ => fun
  | [d] => { results := [.lit (.bool false)], args := [d] }
  | _ => none }
def GraphReachesWrongFalsely : Prop := graphReachesRow.holds Tryd.pinned (OpenSpec.ofChange graphReachesWrong)

/-- 'palinglaw14.GraphLoops': WHATEVER THE INPUT: true; the input reads as it did. -/
def graphLoopsSpec : ChangeSpec := { name := "graphLoops", fn := fun _ => fun
  | [d] => { results := [.lit (.bool true)], args := [d] }
  | _ => none }
def graphLoopsRow : OpenClaim := { program := "ytoncneglplglhaadoor", sum := "cbe5a4cbc96c14d58a458b12c41f2605b3a7ed3af00764dba45b5129dda1b21e", func := "paling/palinglaw14.GraphLoops", spec := "graphLoops", unfollowed := true, recurses := true, named := ["paling/ins.forms"], apart := false, laid := [("paling/ins.forms", laid_paling_ins_forms)] }
def GraphLoopsSaid : Prop := graphLoopsRow.holds Tryd.pinned (OpenSpec.ofChange graphLoopsSpec)

/-- ITS FALSE NEIGHBOUR: 'it returns false'. Refute it at one input. -/
def graphLoopsWrong : ChangeSpec := { name := "graphLoops", fn := fun _ => fun
  | [d] => { results := [.lit (.bool false)], args := [d] }
  | _ => none }
def GraphLoopsWrongFalsely : Prop := graphLoopsRow.holds Tryd.pinned (OpenSpec.ofChange graphLoopsWrong)

/-- 'palinglaw14.GraphAbove': WHATEVER THE INPUT: true; the input reads as it did. -/
def graphAboveSpec : ChangeSpec := { name := "graphAbove", fn := fun _ => fun
  | [d] => { results := [.lit (.bool true)], args := [d] }
  | _ => none }
def graphAboveRow : OpenClaim := { program := "ytoncneglplglhaadoor", sum := "cbe5a4cbc96c14d58a458b12c41f2605b3a7ed3af00764dba45b5129dda1b21e", func := "paling/palinglaw14.GraphAbove", spec := "graphAbove", unfollowed := true, recurses := true, named := ["paling/ins.forms"], apart := false, laid := [("paling/ins.forms", laid_paling_ins_forms)] }
def GraphAboveSaid : Prop := graphAboveRow.holds Tryd.pinned (OpenSpec.ofChange graphAboveSpec)

/-- ITS FALSE NEIGHBOUR: 'it returns false'. Refute it at one input. -/
def graphAboveWrong : ChangeSpec := { name := "graphAbove", fn := fun _ => fun
  | [d] => { results := [.lit (.bool false)], args := [d] }
  | _ => none }
def GraphAboveWrongFalsely : Prop := graphAboveRow.holds Tryd.pinned (OpenSpec.ofChange graphAboveWrong)

/-- 'palinglaw14.GraphStraight': WHATEVER THE INPUT: true; the input reads as it did. -/
def graphStraightSpec : ChangeSpec := { name := "graphStraight", fn := fun _ => fun
  | [d] => { results := [.lit (.bool true)], args := [d] }
  | _ => none }
def graphStraightRow : OpenClaim := { program := "ytoncneglplglhaadoor", sum := "cbe5a4cbc96c14d58a458b12c41f2605b3a7ed3af00764dba45b5129dda1b21e", func := "paling/palinglaw14.GraphStraight", spec := "graphStraight", unfollowed := true, recurses := true, named := ["paling/ins.forms"], apart := false, laid := [("paling/ins.forms", laid_paling_ins_forms)] }
def GraphStraightSaid : Prop := graphStraightRow.holds Tryd.pinned (OpenSpec.ofChange graphStraightSpec)

/-- ITS FALSE NEIGHBOUR: 'it returns false'. Refute it at one input. -/
def graphStraightWrong : ChangeSpec := { name := "graphStraight", fn := fun _ => fun
  | [d] => { results := [.lit (.bool false)], args := [d] }
  | _ => none }
def GraphStraightWrongFalsely : Prop := graphStraightRow.holds Tryd.pinned (OpenSpec.ofChange graphStraightWrong)

/- THE SECOND FORM. 'bulk': how many values and letters a reading holds, each counted each time it is reached (what is shared counts as often as it is met; a slice's spare places count too). A statement '..UptoSaid' is the law's where the arguments, and the package variables that the reading takes, are together of bulk at most 1048576: NARROWER than '..Said'. Prove '..Said' where nothing that the law and all that it calls make is longer than what came in: it says more and counts as full. Else prove '..UptoSaid'. A law counts once. -/
mutual
def uptoBulk {H : Type} : DataW H → Nat
  | .lit (.string bytes) => bytes.length + 1
  | .lit _ => 1
  | .nil => 1
  | .ptr d => uptoBulk d + 1
  | .slice elems spare => uptoBulkAll elems + uptoBulkAll spare + 1
  | .agg parts => uptoBulkAll parts + 1
  | .iface _ d => uptoBulk d + 1
  | .map entries => uptoBulkEntries entries + 1
  | .held _ => 1
def uptoBulkAll {H : Type} : List (DataW H) → Nat
  | [] => 0
  | d :: r => uptoBulk d + uptoBulkAll r
def uptoBulkEntries {H : Type} : List (Lit × DataW H) → Nat
  | [] => 0
  | x :: r => uptoBulkEntry x + uptoBulkEntries r
def uptoBulkEntry {H : Type} : Lit × DataW H → Nat
  | (.string bytes, d) => bytes.length + uptoBulk d + 1
  | (_, d) => uptoBulk d + 1
 end
def uptoSmall : (H : Type) → List (DataW H) → Bool := fun _ ds => decide (uptoBulkAll ds ≤ 1048576)
def OpenSpec.upto (s : _root_.Go.ChangeSpec) : _root_.Go.OpenSpec := { _root_.Go.OpenSpec.ofChange s with cond := some uptoSmall }

/-- 'palinglaw14.GraphReaches', WHERE WHAT IT READS IS OF BULK AT MOST 1048576: true; the input reads as it did. -/
def graphReachesUptoRow : OpenClaim := { program := "ytoncneglplglhaadoor", sum := "cbe5a4cbc96c14d58a458b12c41f2605b3a7ed3af00764dba45b5129dda1b21e", func := "paling/palinglaw14.GraphReaches", spec := "graphReaches", unfollowed := true, recurses := true, named := ["paling/ins.forms"], apart := false, laid := [("paling/ins.forms", laid_paling_ins_forms)], narrowed := true }
def GraphReachesUptoSaid : Prop := graphReachesUptoRow.holds Tryd.pinned (OpenSpec.upto graphReachesSpec)

/-- 'palinglaw14.GraphLoops', WHERE WHAT IT READS IS OF BULK AT MOST 1048576: true; the input reads as it did. -/
def graphLoopsUptoRow : OpenClaim := { program := "ytoncneglplglhaadoor", sum := "cbe5a4cbc96c14d58a458b12c41f2605b3a7ed3af00764dba45b5129dda1b21e", func := "paling/palinglaw14.GraphLoops", spec := "graphLoops", unfollowed := true, recurses := true, named := ["paling/ins.forms"], apart := false, laid := [("paling/ins.forms", laid_paling_ins_forms)], narrowed := true }
def GraphLoopsUptoSaid : Prop := graphLoopsUptoRow.holds Tryd.pinned (OpenSpec.upto graphLoopsSpec)

/-- 'palinglaw14.GraphAbove', WHERE WHAT IT READS IS OF BULK AT MOST 1048576: true; the input reads as it did. -/
def graphAboveUptoRow : OpenClaim := { program := "ytoncneglplglhaadoor", sum := "cbe5a4cbc96c14d58a458b12c41f2605b3a7ed3af00764dba45b5129dda1b21e", func := "paling/palinglaw14.GraphAbove", spec := "graphAbove", unfollowed := true, recurses := true, named := ["paling/ins.forms"], apart := false, laid := [("paling/ins.forms", laid_paling_ins_forms)], narrowed := true }
def GraphAboveUptoSaid : Prop := graphAboveUptoRow.holds Tryd.pinned (OpenSpec.upto graphAboveSpec)

/-- 'palinglaw14.GraphStraight', WHERE WHAT IT READS IS OF BULK AT MOST 1048576: true; the input reads as it did. -/
def graphStraightUptoRow : OpenClaim := { program := "ytoncneglplglhaadoor", sum := "cbe5a4cbc96c14d58a458b12c41f2605b3a7ed3af00764dba45b5129dda1b21e", func := "paling/palinglaw14.GraphStraight", spec := "graphStraight", unfollowed := true, recurses := true, named := ["paling/ins.forms"], apart := false, laid := [("paling/ins.forms", laid_paling_ins_forms)], narrowed := true }
def GraphStraightUptoSaid : Prop := graphStraightUptoRow.holds Tryd.pinned (OpenSpec.upto graphStraightSpec)

end Rows
end Go.Proofs.YtoncneglplglhaaDoor
