/-
  NARROWER THAN 'FOR EVERY INPUT', by the rows' own cells (each row's printed sentence says how): DeadTells: laid · DeadRuns: laid · DeadBack: laid · DeadOnce: laid.
  DERIVED. THE GIVEN ROWS OF THIS SEAT. 4 by the template 'for every input the law returns true; each argument reads behind the call as it read before'; 0 by the template 'total and deterministic' (their statements: YtdopacgaklaaeaaDoorTotals.lean).
  GIVEN WITH THE SEED: the statements are not yours to turn. If you find one false, say at which input.
  Laid BY PROGRAM, IN A SANDBOX (cutbox-rows.mjs): the forced cells as the released guide's own fill.sh prints them over the translation 3829e343c5f9e228… (all of the seat's roots in one cut). By AI agents, Wed Nov 11 2026. No macro, syntax, notation, axiom, sorry.
-/
import Derived.Test.YtdopacgaklaaeaaDoorChecked
import GoSem.Claim
import GoSem.ClaimJoined
import GoSem.ClaimMapViews
import Derived.JoinedTies
import Derived.KernelRfl
namespace Go.Proofs.YtdopacgaklaaeaaDoor
/- THE CELL 'sum', in the pinned program and in every row, IS THE sha256 OF THE DUMP (.gsa) THAT YtdopacgaklaaeaaDoorProg.lean LOADS. Nothing in Lean hashes anything: it is a label: what it is worth is what the hold of that sum in a sandbox is worth. -/
noncomputable def Tryd.pinned : Pinned := { name := "ytdopacgaklaaeaadoor", sum := "3829e343c5f9e228e45359f9d03b4541d2800f0a050cd326a9136aa0ef215169", checked := Tryd.checked }
namespace Rows
def none {H : Type} : Left H := { results := [], args := [] }

/- WHAT THE LISTED PACKAGE-LEVEL VARIABLES READ AS WHEN THE CALL BEGINS. Each datum BY PROGRAM (the guide's laid-datum.mjs) off the statement by which the dump's own 'gosem.cut.vars' lays the variable. In a bare row this is a premise. The card (YtdopacgaklaaeaaDoorCards.lean) ties it to the program's text. -/
def laid_paling_ins_forms {H : Type} : DataW H := .agg [.agg [.lit (.string [115, 101, 116]), .lit (.bool true), .lit (.bool false), .lit (.bool false), .lit (.bool false), .lit (.bool true), .lit (.bool false), .lit (.bool false), .lit (.bool false), .lit (.bool false)], .agg [.lit (.string [109, 111, 118, 101]), .lit (.bool true), .lit (.bool true), .lit (.bool false), .lit (.bool false), .lit (.bool false), .lit (.bool false), .lit (.bool false), .lit (.bool false), .lit (.bool false)], .agg [.lit (.string [99, 97, 108, 99]), .lit (.bool true), .lit (.bool true), .lit (.bool true), .lit (.bool true), .lit (.bool false), .lit (.bool false), .lit (.bool false), .lit (.bool false), .lit (.bool false)], .agg [.lit (.string [112, 105, 99, 107]), .lit (.bool true), .lit (.bool true), .lit (.bool true), .lit (.bool false), .lit (.bool false), .lit (.bool false), .lit (.bool false), .lit (.bool true), .lit (.bool false)], .agg [.lit (.string [108, 111, 97, 100]), .lit (.bool true), .lit (.bool true), .lit (.bool false), .lit (.bool false), .lit (.bool true), .lit (.bool false), .lit (.bool true), .lit (.bool false), .lit (.bool false)], .agg [.lit (.string [115, 116, 111, 114, 101]), .lit (.bool false), .lit (.bool true), .lit (.bool true), .lit (.bool false), .lit (.bool true), .lit (.bool false), .lit (.bool true), .lit (.bool false), .lit (.bool false)], .agg [.lit (.string [106, 117, 109, 112]), .lit (.bool false), .lit (.bool false), .lit (.bool false), .lit (.bool false), .lit (.bool false), .lit (.bool true), .lit (.bool false), .lit (.bool false), .lit (.bool false)], .agg [.lit (.string [122, 101, 114, 111]), .lit (.bool false), .lit (.bool true), .lit (.bool false), .lit (.bool false), .lit (.bool false), .lit (.bool true), .lit (.bool false), .lit (.bool false), .lit (.bool false)], .agg [.lit (.string [102, 101, 110, 99, 101]), .lit (.bool false), .lit (.bool false), .lit (.bool false), .lit (.bool false), .lit (.bool false), .lit (.bool false), .lit (.bool false), .lit (.bool false), .lit (.bool false)], .agg [.lit (.string [116, 97, 107, 101]), .lit (.bool false), .lit (.bool false), .lit (.bool false), .lit (.bool false), .lit (.bool true), .lit (.bool false), .lit (.bool false), .lit (.bool false), .lit (.bool false)], .agg [.lit (.string [103, 105, 118, 101]), .lit (.bool false), .lit (.bool false), .lit (.bool false), .lit (.bool false), .lit (.bool true), .lit (.bool false), .lit (.bool false), .lit (.bool false), .lit (.bool false)], .agg [.lit (.string [111, 117, 116]), .lit (.bool false), .lit (.bool true), .lit (.bool false), .lit (.bool false), .lit (.bool false), .lit (.bool false), .lit (.bool false), .lit (.bool false), .lit (.bool false)], .agg [.lit (.string [116, 114, 97, 112]), .lit (.bool false), .lit (.bool false), .lit (.bool false), .lit (.bool false), .lit (.bool true), .lit (.bool false), .lit (.bool false), .lit (.bool false), .lit (.bool true)], .agg [.lit (.string [104, 97, 108, 116]), .lit (.bool false), .lit (.bool false), .lit (.bool false), .lit (.bool false), .lit (.bool false), .lit (.bool false), .lit (.bool false), .lit (.bool false), .lit (.bool true)]]

/-- 'palinglaw18.DeadTells': WHATEVER THE INPUT: true; the input reads as it did. -/
def deadTellsSpec : ChangeSpec := { name := "deadTells", fn := fun _ => fun
  | [d1, d2] => { results := [.lit (.bool true)], args := [d1, d2] }
  | _ => none }
def deadTellsRow : OpenClaim := { program := "ytdopacgaklaaeaadoor", sum := "3829e343c5f9e228e45359f9d03b4541d2800f0a050cd326a9136aa0ef215169", func := "paling/palinglaw18.DeadTells", spec := "deadTells", unfollowed := true, recurses := true, named := ["paling/ins.forms"], apart := false, laid := [("paling/ins.forms", laid_paling_ins_forms)] }
def DeadTellsSaid : Prop := deadTellsRow.holds Tryd.pinned (OpenSpec.ofChange deadTellsSpec)

/-- ITS FALSE NEIGHBOUR: 'it returns false'. Refute it at one input. -/
def deadTellsWrong : ChangeSpec := { name := "deadTells", fn := fun _ => fun
  | [d1, d2] => { results := [.lit (.bool false)], args := [d1, d2] }
  | _ => none }
def DeadTellsWrongFalsely : Prop := deadTellsRow.holds Tryd.pinned (OpenSpec.ofChange deadTellsWrong)

/-- 'palinglaw18.DeadRuns': WHATEVER THE INPUT: true; the input reads as it did. -/
def deadRunsSpec : ChangeSpec := { name := "deadRuns", fn := fun _ => fun
  | [d1, d2, d3] => { results := [.lit (.bool true)], args := [d1, d2, d3] }
  | _ => none }
def deadRunsRow : OpenClaim := { program := "ytdopacgaklaaeaadoor", sum := "3829e343c5f9e228e45359f9d03b4541d2800f0a050cd326a9136aa0ef215169", func := "paling/palinglaw18.DeadRuns", spec := "deadRuns", unfollowed := true, recurses := true, named := ["paling/ins.forms"], apart := false, laid := [("paling/ins.forms", laid_paling_ins_forms)] }
def DeadRunsSaid : Prop := deadRunsRow.holds Tryd.pinned (OpenSpec.ofChange deadRunsSpec)

/-- ITS FALSE NEIGHBOUR: 'it returns false'. Refute it at one input. -/
def deadRunsWrong : ChangeSpec := { name := "deadRuns", fn := fun _ => fun
  | [d1, d2, d3] => { results := [.lit (.bool false)], args := [d1, d2, d3] }
  | _ => none }
def DeadRunsWrongFalsely : Prop := deadRunsRow.holds Tryd.pinned (OpenSpec.ofChange deadRunsWrong)

/-- 'palinglaw18.DeadBack': WHATEVER THE INPUT: true; the input reads as it did. -/
def deadBackSpec : ChangeSpec := { name := "deadBack", fn := fun _ => fun
  | [d1, d2, d3] => { results := [.lit (.bool true)], args := [d1, d2, d3] }
  | _ => none }
def deadBackRow : OpenClaim := { program := "ytdopacgaklaaeaadoor", sum := "3829e343c5f9e228e45359f9d03b4541d2800f0a050cd326a9136aa0ef215169", func := "paling/palinglaw18.DeadBack", spec := "deadBack", unfollowed := true, recurses := true, named := ["paling/ins.forms"], apart := false, laid := [("paling/ins.forms", laid_paling_ins_forms)] }
def DeadBackSaid : Prop := deadBackRow.holds Tryd.pinned (OpenSpec.ofChange deadBackSpec)

/-- ITS FALSE NEIGHBOUR: 'it returns false'. Refute it at one input. -/
def deadBackWrong : ChangeSpec := { name := "deadBack", fn := fun _ => fun
  | [d1, d2, d3] => { results := [.lit (.bool false)], args := [d1, d2, d3] }
  | _ => none }
def DeadBackWrongFalsely : Prop := deadBackRow.holds Tryd.pinned (OpenSpec.ofChange deadBackWrong)

/-- 'palinglaw18.DeadOnce': WHATEVER THE INPUT: true; the input reads as it did. -/
def deadOnceSpec : ChangeSpec := { name := "deadOnce", fn := fun _ => fun
  | [d] => { results := [.lit (.bool true)], args := [d] }
  | _ => none }
def deadOnceRow : OpenClaim := { program := "ytdopacgaklaaeaadoor", sum := "3829e343c5f9e228e45359f9d03b4541d2800f0a050cd326a9136aa0ef215169", func := "paling/palinglaw18.DeadOnce", spec := "deadOnce", unfollowed := true, recurses := true, named := ["paling/ins.forms"], apart := false, laid := [("paling/ins.forms", laid_paling_ins_forms)] }
def DeadOnceSaid : Prop := deadOnceRow.holds Tryd.pinned (OpenSpec.ofChange deadOnceSpec)

/-- ITS FALSE NEIGHBOUR: 'it returns false'. Refute it at one input. -/
def deadOnceWrong : ChangeSpec := { name := "deadOnce", fn := fun _ => fun
  | [d] => { results := [.lit (.bool false)], args := [d] }
  | _ => none }
def DeadOnceWrongFalsely : Prop := deadOnceRow.holds Tryd.pinned (OpenSpec.ofChange deadOnceWrong)

/- THE SECOND FORM. 'bulk': how many values and letters a reading holds, each counted each time it is reached (what is shared counts as often as it is met; a slice's spare places count too). A statement '..UptoSaid' is the law's where the arguments, and the package variables that the reading takes, are together of bulk at most 1048576: NARROWER than '..Said'. Prove '..Said' where nothing that the law and all that it calls make is longer than what came in: it says more and counts as full. Else prove '..UptoSaid'. A law counts once. -/
mutual
def uptoBulk {H : Type} : DataW H → Nat
  | .lit (.string bytes) => bytes.length + 1
  | .lit _ => 1
  | .nil => 1
  | .ptr d => uptoBulk d + 1
  | .slice elems spare => uptoBulkAll elems + uptoBulkAll spare + 1
  | .agg parts => uptoBulkAll parts + 1
  | .iface _ d => uptoBulk d + 1
  | .map entries => uptoBulkEntries entries + 1
  | .held _ => 1
def uptoBulkAll {H : Type} : List (DataW H) → Nat
  | [] => 0
  | d :: r => uptoBulk d + uptoBulkAll r
def uptoBulkEntries {H : Type} : List (Lit × DataW H) → Nat
  | [] => 0
  | x :: r => uptoBulkEntry x + uptoBulkEntries r
def uptoBulkEntry {H : Type} : Lit × DataW H → Nat
  | (.string bytes, d) => bytes.length + uptoBulk d + 1
  | (_, d) => uptoBulk d + 1
 end
def uptoSmall : (H : Type) → List (DataW H) → Bool := fun _ ds => decide (uptoBulkAll ds ≤ 1048576)
def OpenSpec.upto (s : _root_.Go.ChangeSpec) : _root_.Go.OpenSpec := { _root_.Go.OpenSpec.ofChange s with cond := some uptoSmall }

/-- 'palinglaw18.DeadTells', WHERE WHAT IT READS IS OF BULK AT MOST 1048576: true; the input reads as it did. -/
def deadTellsUptoRow : OpenClaim := { program := "ytdopacgaklaaeaadoor", sum := "3829e343c5f9e228e45359f9d03b4541d2800f0a050cd326a9136aa0ef215169", func := "paling/palinglaw18.DeadTells", spec := "deadTells", unfollowed := true, recurses := true, named := ["paling/ins.forms"], apart := false, laid := [("paling/ins.forms", laid_paling_ins_forms)], narrowed := true }
def DeadTellsUptoSaid : Prop := deadTellsUptoRow.holds Tryd.pinned (OpenSpec.upto deadTellsSpec)

/-- 'palinglaw18.DeadRuns', WHERE WHAT IT READS IS OF BULK AT MOST 1048576: true; the input reads as it did. -/
def deadRunsUptoRow : OpenClaim := { program := "ytdopacgaklaaeaadoor", sum := "3829e343c5f9e228e45359f9d03b4541d2800f0a050cd326a9136aa0ef215169", func := "paling/palinglaw18.DeadRuns", spec := "deadRuns", unfollowed := true, recurses := true, named := ["paling/ins.forms"], apart := false, laid := [("paling/ins.forms", laid_paling_ins_forms)], narrowed := true }
def DeadRunsUptoSaid : Prop := deadRunsUptoRow.holds Tryd.pinned (OpenSpec.upto deadRunsSpec)

/-- 'palinglaw18.DeadBack', WHERE WHAT IT READS IS OF BULK AT MOST 1048576: true; the input reads as it did. -/
def deadBackUptoRow : OpenClaim := { program := "ytdopacgaklaaeaadoor", sum := "3829e343c5f9e228e45359f9d03b4541d2800f0a050cd326a9136aa0ef215169", func := "paling/palinglaw18.DeadBack", spec := "deadBack", unfollowed := true, recurses := true, named := ["paling/ins.forms"], apart := false, laid := [("paling/ins.forms", laid_paling_ins_forms)], narrowed := true }
def DeadBackUptoSaid : Prop := deadBackUptoRow.holds Tryd.pinned (OpenSpec.upto deadBackSpec)

/-- 'palinglaw18.DeadOnce', WHERE WHAT IT READS IS OF BULK AT MOST 1048576: true; the input reads as it did. -/
def deadOnceUptoRow : OpenClaim := { program := "ytdopacgaklaaeaadoor", sum := "3829e343c5f9e228e45359f9d03b4541d2800f0a050cd326a9136aa0ef215169", func := "paling/palinglaw18.DeadOnce", spec := "deadOnce", unfollowed := true, recurses := true, named := ["paling/ins.forms"], apart := false, laid := [("paling/ins.forms", laid_paling_ins_forms)], narrowed := true }
def DeadOnceUptoSaid : Prop := deadOnceUptoRow.holds Tryd.pinned (OpenSpec.upto deadOnceSpec)

end Rows
end Go.Proofs.YtdopacgaklaaeaaDoor
