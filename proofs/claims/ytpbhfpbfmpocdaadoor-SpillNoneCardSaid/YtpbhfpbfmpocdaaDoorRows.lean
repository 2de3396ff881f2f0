/-
  NARROWER THAN 'FOR EVERY INPUT', by the rows' own cells (each row's printed sentence says how): SpillTells: laid · SpillApart: laid · SpillNone: laid.
  DERIVED. THE GIVEN ROWS OF THIS SEAT. 3 by the template 'for every input the law returns true; each argument reads behind the call as it read before'; 0 by the template 'total and deterministic' (their statements: YtpbhfpbfmpocdaaDoorTotals.lean).
  GIVEN WITH THE SEED: the statements are not yours to turn. If you find one false, say at which input.
  Laid BY PROGRAM, IN A SANDBOX (cutbox-rows.mjs): the forced cells as the released guide's own fill.sh prints them over the translation 90d39e63c3c8550e… (all of the seat's roots in one cut). By AI agents, Wed Nov 11 2026. No macro, syntax, notation, axiom, sorry.
-/
import Derived.Test.YtpbhfpbfmpocdaaDoorChecked
import GoSem.Claim
import GoSem.ClaimJoined
import GoSem.ClaimMapViews
import Derived.JoinedTies
import Derived.KernelRfl
namespace Go.Proofs.YtpbhfpbfmpocdaaDoor
/- THE CELL 'sum', in the pinned program and in every row, IS THE sha256 OF THE DUMP (.gsa) THAT YtpbhfpbfmpocdaaDoorProg.lean LOADS. Nothing in Lean hashes anything: it is a label: what it is worth is what the hold of that sum in a sandbox is worth. -/
noncomputable def Tryd.pinned : Pinned := { name := "ytpbhfpbfmpocdaadoor", sum := "90d39e63c3c8550e443fec29400834094cafe5fd2e30621b8115861f94882da5", checked := Tryd.checked }
namespace Rows
def none {H : Type} : Left H := { results := [], args := [] }

/- WHAT THE LISTED PACKAGE-LEVEL VARIABLES READ AS WHEN THE CALL BEGINS. Each datum BY PROGRAM (the guide's laid-datum.mjs) off the statement by which the dump's own 'gosem.cut.vars' lays the variable. In a bare row this is a premise. The card (YtpbhfpbfmpocdaaDoorCards.lean) ties it to the program's text. -/
def laid_paling_ins_forms {H : Type} : DataW H := .agg [.agg [.lit (.string [115, 101, 116]), .lit (.bool true), .lit (.bool false), .lit (.bool false), .lit (.bool false), .lit (.bool true), .lit (.bool false), .lit (.bool false), .lit (.bool false), .lit (.bool false)], .agg [.lit (.string [109, 111, 118, 101]), .lit (.bool true), .lit (.bool true), .lit (.bool false), .lit (.bool false), .lit (.bool false), .lit (.bool false), .lit (.bool false), .lit (.bool false), .lit (.bool false)], .agg [.lit (.string [99, 97, 108, 99]), .lit (.bool true), .lit (.bool true), .lit (.bool true), .lit (.bool true), .lit (.bool false), .lit (.bool false), .lit (.bool false), .lit (.bool false), .lit (.bool false)], .agg [.lit (.string [112, 105, 99, 107]), .lit (.bool true), .lit (.bool true), .lit (.bool true), .lit (.bool false), .lit (.bool false), .lit (.bool false), .lit (.bool false), .lit (.bool true), .lit (.bool false)], .agg [.lit (.string [108, 111, 97, 100]), .lit (.bool true), .lit (.bool true), .lit (.bool false), .lit (.bool false), .lit (.bool true), .lit (.bool false), .lit (.bool true), .lit (.bool false), .lit (.bool false)], .agg [.lit (.string [115, 116, 111, 114, 101]), .lit (.bool false), .lit (.bool true), .lit (.bool true), .lit (.bool false), .lit (.bool true), .lit (.bool false), .lit (.bool true), .lit (.bool false), .lit (.bool false)], .agg [.lit (.string [106, 117, 109, 112]), .lit (.bool false), .lit (.bool false), .lit (.bool false), .lit (.bool false), .lit (.bool false), .lit (.bool true), .lit (.bool false), .lit (.bool false), .lit (.bool false)], .agg [.lit (.string [122, 101, 114, 111]), .lit (.bool false), .lit (.bool true), .lit (.bool false), .lit (.bool false), .lit (.bool false), .lit (.bool true), .lit (.bool false), .lit (.bool false), .lit (.bool false)], .agg [.lit (.string [102, 101, 110, 99, 101]), .lit (.bool false), .lit (.bool false), .lit (.bool false), .lit (.bool false), .lit (.bool false), .lit (.bool false), .lit (.bool false), .lit (.bool false), .lit (.bool false)], .agg [.lit (.string [116, 97, 107, 101]), .lit (.bool false), .lit (.bool false), .lit (.bool false), .lit (.bool false), .lit (.bool true), .lit (.bool false), .lit (.bool false), .lit (.bool false), .lit (.bool false)], .agg [.lit (.string [103, 105, 118, 101]), .lit (.bool false), .lit (.bool false), .lit (.bool false), .lit (.bool false), .lit (.bool true), .lit (.bool false), .lit (.bool false), .lit (.bool false), .lit (.bool false)], .agg [.lit (.string [111, 117, 116]), .lit (.bool false), .lit (.bool true), .lit (.bool false), .lit (.bool false), .lit (.bool false), .lit (.bool false), .lit (.bool false), .lit (.bool false), .lit (.bool false)], .agg [.lit (.string [116, 114, 97, 112]), .lit (.bool false), .lit (.bool false), .lit (.bool false), .lit (.bool false), .lit (.bool true), .lit (.bool false), .lit (.bool false), .lit (.bool false), .lit (.bool true)], .agg [.lit (.string [104, 97, 108, 116]), .lit (.bool false), .lit (.bool false), .lit (.bool false), .lit (.bool false), .lit (.bool false), .lit (.bool false), .lit (.bool false), .lit (.bool false), .lit (.bool true)]]

/-- 'palinglaw22.SpillTells': WHATEVER THE INPUT: true; the input reads as it did. -/
def spillTellsSpec : ChangeSpec := { name := "spillTells", fn := fun _ => fun
  | [d1, d2, d3] => { results := [.lit (.bool true)], args := [d1, d2, d3] }
  | _ => none }
def spillTellsRow : OpenClaim := { program := "ytpbhfpbfmpocdaadoor", sum := "90d39e63c3c8550e443fec29400834094cafe5fd2e30621b8115861f94882da5", func := "paling/palinglaw22.SpillTells", spec := "spillTells", unfollowed := true, recurses := true, named := ["paling/ins.forms"], apart := false, laid := [("paling/ins.forms", laid_paling_ins_forms)] }
def SpillTellsSaid : Prop := spillTellsRow.holds Tryd.pinned (OpenSpec.ofChange spillTellsSpec)

/-- ITS FALSE NEIGHBOUR: 'it returns false'. Refute it at one input. -/
def spillTellsWrong : ChangeSpec := { name := "spillTells", fn := fun _ => fun
  | [d1, d2, d3] => { results := [.lit (.bool false)], args := [d1, d2, d3] }
  | _ => none }
def SpillTellsWrongFalsely : Prop := spillTellsRow.holds Tryd.pinned (OpenSpec.ofChange spillTellsWrong)

/-- 'palinglaw22.SpillApart': WHATEVER THE INPUT: true; the input reads as it did. -/
def spillApartSpec : ChangeSpec := { name := "spillApart", fn := fun _ => fun
  | [d1, d2] => { results := [.lit (.bool true)], args := [d1, d2] }
  | _ => none }
def spillApartRow : OpenClaim := { program := "ytpbhfpbfmpocdaadoor", sum := "90d39e63c3c8550e443fec29400834094cafe5fd2e30621b8115861f94882da5", func := "paling/palinglaw22.SpillApart", spec := "spillApart", unfollowed := true, recurses := true, named := ["paling/ins.forms"], apart := false, laid := [("paling/ins.forms", laid_paling_ins_forms)] }
def SpillApartSaid : Prop := spillApartRow.holds Tryd.pinned (OpenSpec.ofChange spillApartSpec)

/-- ITS FALSE NEIGHBOUR: 'it returns false'. Refute it at one input. -/
def spillApartWrong : ChangeSpec := { name := "spillApart", fn := fun _ => fun
  | [d1, d2] => { results := [.lit (.bool false)], args := [d1, d2] }
  | _ => none }
def SpillApartWrongFalsely : Prop := spillApartRow.holds Tryd.pinned (OpenSpec.ofChange spillApartWrong)

/-- 'palinglaw22.SpillNone': WHATEVER THE INPUT: true; the input reads as it did. -/
def spillNoneSpec : ChangeSpec := { name := "spillNone", fn := fun _ => fun
  | [d1, d2, d3] => { results := [.lit (.bool true)], args := [d1, d2, d3] }
  | _ => none }
def spillNoneRow : OpenClaim := { program := "ytpbhfpbfmpocdaadoor", sum := "90d39e63c3c8550e443fec29400834094cafe5fd2e30621b8115861f94882da5", func := "paling/palinglaw22.SpillNone", spec := "spillNone", unfollowed := true, recurses := true, named := ["paling/ins.forms"], apart := false, laid := [("paling/ins.forms", laid_paling_ins_forms)] }
def SpillNoneSaid : Prop := spillNoneRow.holds Tryd.pinned (OpenSpec.ofChange spillNoneSpec)

/-- ITS FALSE NEIGHBOUR: 'it returns false'. Refute it at one input. -/
def spillNoneWrong : ChangeSpec := { name := "spillNone", fn := fun _ => fun
  | [d1, d2, d3] => { results := [.lit (.bool false)], args := [d1, d2, d3] }
  | _ => none }
def SpillNoneWrongFalsely : Prop := spillNoneRow.holds Tryd.pinned (OpenSpec.ofChange spillNoneWrong)

/- THE SECOND FORM. 'bulk': how many values and letters a reading holds, each counted each time it is reached (what is shared counts as often as it is met; a slice's spare places count too). A statement '..UptoSaid' is the law's where the arguments, and the package variables that the reading takes, are together of bulk at most 1048576: NARROWER than '..Said'. Prove '..Said' where nothing that the law and all that it calls make is longer than what came in: it says more and counts as full. Else prove '..UptoSaid'. A law counts once. -/
mutual
def uptoBulk {H : Type} : DataW H → Nat
  | .lit (.string bytes) => bytes.length + 1
  | .lit _ => 1
  | .nil => 1
  | .ptr d => uptoBulk d + 1
  | .slice elems spare => uptoBulkAll elems + uptoBulkAll spare + 1
  | .agg parts => uptoBulkAll parts + 1
  | .iface _ d => uptoBulk d + 1
  | .map entries => uptoBulkEntries entries + 1
  | .held _ => 1
def uptoBulkAll {H : Type} : List (DataW H) → Nat
  | [] => 0
  | d :: r => uptoBulk d + uptoBulkAll r
def uptoBulkEntries {H : Type} : List (Lit × DataW H) → Nat
  | [] => 0
  | x :: r => uptoBulkEntry x + uptoBulkEntries r
def uptoBulkEntry {H : Type} : Lit × DataW H → Nat
  | (.string bytes, d) => bytes.length + uptoBulk d + 1
  | (_, d) => uptoBulk d + 1
 end
def uptoSmall : (H : Type) → List (DataW H) → Bool := fun _ ds => decide (uptoBulkAll ds ≤ 1048576)
def OpenSpec.upto (s : _root_.Go.ChangeSpec) : _root_.Go.OpenSpec := { _root_.Go.OpenSpec.ofChange s with cond := some uptoSmall }

/-- 'palinglaw22.SpillTells', WHERE WHAT IT READS IS OF BULK AT MOST 1048576: true; the input reads as it did. -/
def spillTellsUptoRow : OpenClaim := { program := "ytpbhfpbfmpocdaadoor", sum := "90d39e63c3c8550e443fec29400834094cafe5fd2e30621b8115861f94882da5", func := "paling/palinglaw22.SpillTells", spec := "spillTells", unfollowed := true, recurses := true, named := ["paling/ins.forms"], apart := false, laid := [("paling/ins.forms", laid_paling_ins_forms)], narrowed := true }
def SpillTellsUptoSaid : Prop := spillTellsUptoRow.holds Tryd.pinned (OpenSpec.upto spillTellsSpec)

/-- 'palinglaw22.SpillApart', WHERE WHAT IT READS IS OF BULK AT MOST 1048576: true; the input reads as it did. -/
def spillApartUptoRow : OpenClaim := { program := "ytpbhfpbfmpocdaadoor", sum := "90d39e63c3c8550e443fec29400834094cafe5fd2e30621b8115861f94882da5", func := "paling/palinglaw22.SpillApart", spec := "spillApart", unfollowed := true, recurses := true, named := ["paling/ins.forms"], apart := false, laid := [("paling/ins.forms", laid_paling_ins_forms)], narrowed := true }
def SpillApartUptoSaid : Prop := spillApartUptoRow.holds Tryd.pinned (OpenSpec.upto spillApartSpec)

/-- 'palinglaw22.SpillNone', WHERE WHAT IT READS IS OF BULK AT MOST 1048576: true; the input reads as it did. -/
def spillNoneUptoRow : OpenClaim := { program := "ytpbhfpbfmpocdaadoor", sum := "90d39e63c3c8550e443fec29400834094cafe5fd2e30621b8115861f94882da5", func := "paling/palinglaw22.SpillNone", spec := "spillNone", unfollowed := true, recurses := true, named := ["paling/ins.forms"], apart := false, laid := [("paling/ins.forms", laid_paling_ins_forms)], narrowed := true }
def SpillNoneUptoSaid : Prop := spillNoneUptoRow.holds Tryd.pinned (OpenSpec.upto spillNoneSpec)

end Rows
end Go.Proofs.YtpbhfpbfmpocdaaDoor
