/-
  NARROWER THAN 'FOR EVERY INPUT', by the rows' own cells (each row's printed sentence says how): LiveTells: laid · LiveFlows: laid · LiveBegins: laid · LiveMost: laid.
  DERIVED. THE GIVEN ROWS OF THIS SEAT. 4 by the template 'for every input the law returns true; each argument reads behind the call as it read before'; 0 by the template 'total and deterministic' (their statements: YtianfjhhhhmjlaaDoorTotals.lean).
  GIVEN WITH THE SEED: the statements are not yours to turn. If you find one false, say at which input.
  Laid BY PROGRAM, IN A SANDBOX (cutbox-rows.mjs): the forced cells as the released guide's own fill.sh prints them over the translation dca4824d40f1cbe8… (all of the seat's roots in one cut). By AI agents, Wed Nov 11 2026. No macro, syntax, notation, axiom, sorry.
-/
import Derived.Test.YtianfjhhhhmjlaaDoorChecked
import GoSem.Claim
import GoSem.ClaimJoined
import GoSem.ClaimMapViews
import Derived.JoinedTies
import Derived.KernelRfl
namespace Go.Proofs.YtianfjhhhhmjlaaDoor
/- THE CELL 'sum', in the pinned program and in every row, IS THE sha256 OF THE DUMP (.gsa) THAT YtianfjhhhhmjlaaDoorProg.lean LOADS. Nothing in Lean hashes anything: it is a label: what it is worth is what the hold of that sum in a sandbox is worth. -/
noncomputable def Tryd.pinned : Pinned := { name := "ytianfjhhhhmjlaadoor", sum := "dca4824d40f1cbe8aaa69dbe5abe043ab72797a46e2fb9e0f75236867bd08168", checked := Tryd.checked }
namespace Rows
def none {H : Type} : Left H := { results := [], args := [] }

/- WHAT THE LISTED PACKAGE-LEVEL VARIABLES READ AS WHEN THE CALL BEGINS. Each datum BY PROGRAM (the guide's laid-datum.mjs) off the statement by which the dump's own 'gosem.cut.vars' lays the variable. In a bare row this is a premise. The card (YtianfjhhhhmjlaaDoorCards.lean) ties it to the program's text. -/
def laid_paling_ins_forms {H : Type} : DataW H := .agg [.agg [.lit (.string [115, 101, 116]), .lit (.bool true), .lit (.bool false), .lit (.bool false), .lit (.bool false), .lit (.bool true), .lit (.bool false), .lit (.bool false), .lit (.bool false), .lit (.bool false)], .agg [.lit (.string [109, 111, 118, 101]), .lit (.bool true), .lit (.bool true), .lit (.bool false), .lit (.bool false), .lit (.bool false), .lit (.bool false), .lit (.bool false), .lit (.bool false), .lit (.bool false)], .agg [.lit (.string [99, 97, 108, 99]), .lit (.bool true), .lit (.bool true), .lit (.bool true), .lit (.bool true), .lit (.bool false), .lit (.bool false), .lit (.bool false), .lit (.bool false), .lit (.bool false)], .agg [.lit (.string [112, 105, 99, 107]), .lit (.bool true), .lit (.bool true), .lit (.bool true), .lit (.bool false), .lit (.bool false), .lit (.bool false), .lit (.bool false), .lit (.bool true), .lit (.bool false)], .agg [.lit (.string [108, 111, 97, 100]), .lit (.bool true), .lit (.bool true), .lit (.bool false), .lit (.bool false), .lit (.bool true), .lit (.bool false), .lit (.bool true), .lit (.bool false), .lit (.bool false)], .agg [.lit (.string [115, 116, 111, 114, 101]), .lit (.bool false), .lit (.bool true), .lit (.bool true), .lit (.bool false), .lit (.bool true), .lit (.bool false), .lit (.bool true), .lit (.bool false), .lit (.bool false)], .agg [.lit (.string [106, 117, 109, 112]), .lit (.bool false), .lit (.bool false), .lit (.bool false), .lit (.bool false), .lit (.bool false), .lit (.bool true), .lit (.bool false), .lit (.bool false), .lit (.bool false)], .agg [.lit (.string [122, 101, 114, 111]), .lit (.bool false), .lit (.bool true), .lit (.bool false), .lit (.bool false), .lit (.bool false), .lit (.bool true), .lit (.bool false), .lit (.bool false), .lit (.bool false)], .agg [.lit (.string [102, 101, 110, 99, 101]), .lit (.bool false), .lit (.bool false), .lit (.bool false), .lit (.bool false), .lit (.bool false), .lit (.bool false), .lit (.bool false), .lit (.bool false), .lit (.bool false)], .agg [.lit (.string [116, 97, 107, 101]), .lit (.bool false), .lit (.bool false), .lit (.bool false), .lit (.bool false), .lit (.bool true), .lit (.bool false), .lit (.bool false), .lit (.bool false), .lit (.bool false)], .agg [.lit (.string [103, 105, 118, 101]), .lit (.bool false), .lit (.bool false), .lit (.bool false), .lit (.bool false), .lit (.bool true), .lit (.bool false), .lit (.bool false), .lit (.bool false), .lit (.bool false)], .agg [.lit (.string [111, 117, 116]), .lit (.bool false), .lit (.bool true), .lit (.bool false), .lit (.bool false), .lit (.bool false), .lit (.bool false), .lit (.bool false), .lit (.bool false), .lit (.bool false)], .agg [.lit (.string [116, 114, 97, 112]), .lit (.bool false), .lit (.bool false), .lit (.bool false), .lit (.bool false), .lit (.bool true), .lit (.bool false), .lit (.bool false), .lit (.bool false), .lit (.bool true)], .agg [.lit (.string [104, 97, 108, 116]), .lit (.bool false), .lit (.bool false), .lit (.bool false), .lit (.bool false), .lit (.bool false), .lit (.bool false), .lit (.bool false), .lit (.bool false), .lit (.bool true)]]

/-- 'palinglaw15.LiveTells': WHATEVER THE INPUT: true; the input reads as it did. -/
def liveTellsSpec : ChangeSpec := { name := "liveTells", fn := fun _ => fun
  | [d] => { results := [.lit (.bool true)], args := [d] }
  | _ => none }
def liveTellsRow : OpenClaim := { program := "ytianfjhhhhmjlaadoor", sum := "dca4824d40f1cbe8aaa69dbe5abe043ab72797a46e2fb9e0f75236867bd08168", func := "paling/palinglaw15.LiveTells", spec := "liveTells", inPlace := ["maps.clone"], unfollowed := true, recurses := true, named := ["paling/ins.forms"], apart := false, laid := [("paling/ins.forms", laid_paling_ins_forms)] }
def LiveTellsSaid : Prop := liveTellsRow.holds Tryd.pinned (OpenSpec.ofChange liveTellsSpec)

/-- ITS FALSE NEIGHBOUR: 'it returns false'. Refute it at one input. -/
def liveTellsWrong : ChangeSpec := { name := "liveTells", fn := fun _ => fun
  | [d] => { results := [.lit (.bool false)], args := [d] }
  | _ => none }
def LiveTellsWrongFalsely : Prop := liveTellsRow.holds Tryd.pinned (OpenSpec.ofChange liveTellsWrong)

/-- 'palinglaw15.LiveFlows': WHATEVER THE INPUT: true; the input reads as it did. -/
def liveFlowsSpec : ChangeSpec := { name := "liveFlows", fn := fun _ => fun
  | [d] => { results := [.lit (.bool true)], args := [d] }
  | _ => none }
def liveFlowsRow : OpenClaim := { program := "ytianfjhhhhmjlaadoor", sum := "dca4824d40f1cbe8aaa69dbe5abe043ab72797a46e2fb9e0f75236867bd08168", func := "paling/palinglaw15.LiveFlows", spec := "liveFlows", inPlace := ["maps.clone"], unfollowed := true, recurses := true, named := ["paling/ins.forms"], apart := false, laid := [("paling/ins.forms", laid_paling_ins_forms)] }
def LiveFlowsSaid : Prop := liveFlowsRow.holds Tryd.pinned (OpenSpec.ofChange liveFlowsSpec)

/-- ITS FALSE NEIGHBOUR: 'it returns false'. Refute it at one input. -/
def liveFlowsWrong : ChangeSpec := { name := "liveFlows", fn := fun _ => fun
  | [d] => { results := [.lit (.bool false)], args := [d] }
  | _ => none }
def LiveFlowsWrongFalsely : Prop := liveFlowsRow.holds Tryd.pinned (OpenSpec.ofChange liveFlowsWrong)

/-- 'palinglaw15.LiveBegins': WHATEVER THE INPUT: true; the input reads as it did. -/
def liveBeginsSpec : ChangeSpec := { name := "liveBegins", fn := fun _ => fun
  | [d] => { results := [.lit (.bool true)], args := [d] }
  | _ => none }
def liveBeginsRow : OpenClaim := { program := "ytianfjhhhhmjlaadoor", sum := "dca4824d40f1cbe8aaa69dbe5abe043ab72797a46e2fb9e0f75236867bd08168", func := "paling/palinglaw15.LiveBegins", spec := "liveBegins", inPlace := ["maps.clone"], unfollowed := true, recurses := true, named := ["paling/ins.forms"], apart := false, laid := [("paling/ins.forms", laid_paling_ins_forms)] }
def LiveBeginsSaid : Prop := liveBeginsRow.holds Tryd.pinned (OpenSpec.ofChange liveBeginsSpec)

/-- ITS FALSE NEIGHBOUR: 'it returns false'. Refute it at one input. -/
def liveBeginsWrong : ChangeSpec := { name := "liveBegins", fn := fun _ => fun
  | [d] => { results := [.lit (.bool false)], args := [d] }
  | _ => none }
def LiveBeginsWrongFalsely : Prop := liveBeginsRow.holds Tryd.pinned (OpenSpec.ofChange liveBeginsWrong)

/-- 'palinglaw15.LiveMost': WHATEVER THE INPUT: true; the input reads as it did. -/
def liveMostSpec : ChangeSpec := { name := "liveMost", fn := fun _ => fun
  | [d] => { results := [.lit (.bool true)], args := [d] }
  | _ => none }
def liveMostRow : OpenClaim := { program := "ytianfjhhhhmjlaadoor", sum := "dca4824d40f1cbe8aaa69dbe5abe043ab72797a46e2fb9e0f75236867bd08168", func := "paling/palinglaw15.LiveMost", spec := "liveMost", inPlace := ["maps.clone"], unfollowed := true, recurses := true, named := ["paling/ins.forms"], apart := false, laid := [("paling/ins.forms", laid_paling_ins_forms)] }
def LiveMostSaid : Prop := liveMostRow.holds Tryd.pinned (OpenSpec.ofChange liveMostSpec)

/-- ITS FALSE NEIGHBOUR: 'it returns false'. Refute it at one input. -/
def liveMostWrong : ChangeSpec := { name := "liveMost", fn := fun _ => fun
  | [d] => { results := [.lit (.bool false)], args := [d] }
  | _ => none }
def LiveMostWrongFalsely : Prop := liveMostRow.holds Tryd.pinned (OpenSpec.ofChange liveMostWrong)

/- THE SECOND FORM. 'bulk': how many values and letters a reading holds, each counted each time it is reached (what is shared counts as often as it is met; a slice's spare places count too). A statement '..UptoSaid' is the law's where the arguments, and the package variables that the reading takes, are together of bulk at most 1048576: NARROWER than '..Said'. Prove '..Said' where nothing that the law and all that it calls make is longer than what came in: it says more and counts as full. Else prove '..UptoSaid'. A law counts once. -/
mutual
def uptoBulk {H : Type} : DataW H → Nat
  | .lit (.string bytes) => bytes.length + 1
  | .lit _ => 1
  | .nil => 1
  | .ptr d => uptoBulk d + 1
  | .slice elems spare => uptoBulkAll elems + uptoBulkAll spare + 1
  | .agg parts => uptoBulkAll parts + 1
  | .iface _ d => uptoBulk d + 1
  | .map entries => uptoBulkEntries entries + 1
  | .held _ => 1
def uptoBulkAll {H : Type} : List (DataW H) → Nat
  | [] => 0
  | d :: r => uptoBulk d + uptoBulkAll r
def uptoBulkEntries {H : Type} : List (Lit × DataW H) → Nat
  | [] => 0
  | x :: r => uptoBulkEntry x + uptoBulkEntries r
def uptoBulkEntry {H : Type} : Lit × DataW H → Nat
  | (.string bytes, d) => bytes.length + uptoBulk d + 1
  | (_, d) => uptoBulk d + 1
 end
def uptoSmall : (H : Type) → List (DataW H) → Bool := fun _ ds => decide (uptoBulkAll ds ≤ 1048576)
def OpenSpec.upto (s : _root_.Go.ChangeSpec) : _root_.Go.OpenSpec := { _root_.Go.OpenSpec.ofChange s with cond := some uptoSmall }

/-- 'palinglaw15.LiveTells', WHERE WHAT IT READS IS OF BULK AT MOST 1048576: true; the input reads as it did. -/
def liveTellsUptoRow : OpenClaim := { program := "ytianfjhhhhmjlaadoor", sum := "dca4824d40f1cbe8aaa69dbe5abe043ab72797a46e2fb9e0f75236867bd08168", func := "paling/palinglaw15.LiveTells", spec := "liveTells", inPlace := ["maps.clone"], unfollowed := true, recurses := true, named := ["paling/ins.forms"], apart := false, laid := [("paling/ins.forms", laid_paling_ins_forms)], narrowed := true }
def LiveTellsUptoSaid : Prop := liveTellsUptoRow.holds Tryd.pinned (OpenSpec.upto liveTellsSpec)

/-- 'palinglaw15.LiveFlows', WHERE WHAT IT READS IS OF BULK AT MOST 1048576: true; the input reads as it did. -/
def liveFlowsUptoRow : OpenClaim := { program := "ytianfjhhhhmjlaadoor", sum := "dca4824d40f1cbe8aaa69dbe5abe043ab72797a46e2fb9e0f75236867bd08168", func := "paling/palinglaw15.LiveFlows", spec := "liveFlows", inPlace := ["maps.clone"], unfollowed := true, recurses := true, named := ["paling/ins.forms"], apart := false, laid := [("paling/ins.forms", laid_paling_ins_forms)], narrowed := true }
def LiveFlowsUptoSaid : Prop := liveFlowsUptoRow.holds Tryd.pinned (OpenSpec.upto liveFlowsSpec)

/-- 'palinglaw15.LiveBegins', WHERE WHAT IT READS IS OF BULK AT MOST 1048576: true; the input reads as it did. -/
def liveBeginsUptoRow : OpenClaim := { program := "ytianfjhhhhmjlaadoor", sum := "dca4824d40f1cbe8aaa69dbe5abe043ab72797a46e2fb9e0f75236867bd08168", func := "paling/palinglaw15.LiveBegins", spec := "liveBegins", inPlace := ["maps.clone"], unfollowed := true, recurses := true, named := ["paling/ins.forms"], apart := false, laid := [("paling/ins.forms", laid_paling_ins_forms)], narrowed := true }
def LiveBeginsUptoSaid : Prop := liveBeginsUptoRow.holds Tryd.pinned (OpenSpec.upto liveBeginsSpec)

/-- 'palinglaw15.LiveMost', WHERE WHAT IT READS IS OF BULK AT MOST 1048576: true; the input reads as it did. -/
def liveMostUptoRow : OpenClaim := { program := "ytianfjhhhhmjlaadoor", sum := "dca4824d40f1cbe8aaa69dbe5abe043ab72797a46e2fb9e0f75236867bd08168", func := "paling/palinglaw15.LiveMost", spec := "liveMost", inPlace := ["maps.clone"], unfollowed := true, recurses := true, named := ["paling/ins.forms"], apart := false, laid := [("paling/ins.forms", laid_paling_ins_forms)], narrowed := true }
def LiveMostUptoSaid : Prop := liveMostUptoRow.holds Tryd.pinned (OpenSpec.upto liveMostSpec)

end Rows
end Go.Proofs.YtianfjhhhhmjlaaDoor
