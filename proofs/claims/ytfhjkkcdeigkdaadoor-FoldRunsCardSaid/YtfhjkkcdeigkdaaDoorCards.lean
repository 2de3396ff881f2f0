/-
  DERIVED. GIVEN WITH THE SEED: THE CARDS: each row of YtfhjkkcdeigkdaaDoorRows.lean that lists a variable, with what it lists TIED to the program's text (the seventh form; the later family's looks); each row that meets fmt, with fmt's text TOLD by the authors' own Lean function (tested against real Go, not proved from fmt's source: count such statements apart). THE CARD IS WHAT COUNTS. Prove the row's statement (the work); the ties are given (YtfhjkkcdeigkdaaDoorTie.lean); close each card by the builder's one call (the guide's Derived/Test/ToyasCard.lean, 'card_holds'). Laid BY PROGRAM, IN A SANDBOX (cutbox-door.mjs). By AI agents, Wed Nov 11 2026. No macro, syntax, notation, axiom, sorry.
-/
import Derived.Test.YtfhjkkcdeigkdaaDoorRows
import GoSem.ClaimSeven
namespace Go.Proofs.YtfhjkkcdeigkdaaDoor
namespace Rows

/-- THE TIED CARD OF 'palinglaw16.FoldTells'. -/
def foldTellsCard : Claim7 := { stood := { row := foldTellsRow, standIns := [], harness := (true, "86a0d3571d2dd8e863fde22c3d8de259098049cb8fab2c0591bf546b9e2d1d5e"), looks := true }, kinds := [], alts := [], laidByText := true, laidKinds := [.data], laidTests := true, laidLooks := .later }
def FoldTellsCardSaid : Prop := Claim7.holds Tryd.pinned (.plain (OpenSpec.ofChange foldTellsSpec)) foldTellsCard

/-- THE TIED CARD OF 'palinglaw16.FoldRuns'. -/
def foldRunsCard : Claim7 := { stood := { row := foldRunsRow, standIns := [], harness := (true, "86a0d3571d2dd8e863fde22c3d8de259098049cb8fab2c0591bf546b9e2d1d5e"), looks := true }, kinds := [], alts := [], laidByText := true, laidKinds := [.data], laidTests := true, laidLooks := .later }
def FoldRunsCardSaid : Prop := Claim7.holds Tryd.pinned (.plain (OpenSpec.ofChange foldRunsSpec)) foldRunsCard

/-- THE TIED CARD OF 'palinglaw16.FoldKnows'. -/
def foldKnowsCard : Claim7 := { stood := { row := foldKnowsRow, standIns := [], harness := (true, "86a0d3571d2dd8e863fde22c3d8de259098049cb8fab2c0591bf546b9e2d1d5e"), looks := true }, kinds := [], alts := [], laidByText := true, laidKinds := [.data], laidTests := true, laidLooks := .later }
def FoldKnowsCardSaid : Prop := Claim7.holds Tryd.pinned (.plain (OpenSpec.ofChange foldKnowsSpec)) foldKnowsCard

/-- THE TIED CARD OF 'palinglaw16.FoldLeaves'. -/
def foldLeavesCard : Claim7 := { stood := { row := foldLeavesRow, standIns := [], harness := (true, "86a0d3571d2dd8e863fde22c3d8de259098049cb8fab2c0591bf546b9e2d1d5e"), looks := true }, kinds := [], alts := [], laidByText := true, laidKinds := [.data], laidTests := true, laidLooks := .later }
def FoldLeavesCardSaid : Prop := Claim7.holds Tryd.pinned (.plain (OpenSpec.ofChange foldLeavesSpec)) foldLeavesCard

/-- THE SECOND FORM's CARD OF 'palinglaw16.FoldTells'. -/
def foldTellsUptoCard : Claim7 := { stood := { row := foldTellsUptoRow, standIns := [], harness := (true, "86a0d3571d2dd8e863fde22c3d8de259098049cb8fab2c0591bf546b9e2d1d5e"), looks := true }, kinds := [], alts := [], laidByText := true, laidKinds := [.data], laidTests := true, laidLooks := .later }
def FoldTellsUptoCardSaid : Prop := Claim7.holds Tryd.pinned (.plain (OpenSpec.upto foldTellsSpec)) foldTellsUptoCard

/-- THE SECOND FORM's CARD OF 'palinglaw16.FoldRuns'. -/
def foldRunsUptoCard : Claim7 := { stood := { row := foldRunsUptoRow, standIns := [], harness := (true, "86a0d3571d2dd8e863fde22c3d8de259098049cb8fab2c0591bf546b9e2d1d5e"), looks := true }, kinds := [], alts := [], laidByText := true, laidKinds := [.data], laidTests := true, laidLooks := .later }
def FoldRunsUptoCardSaid : Prop := Claim7.holds Tryd.pinned (.plain (OpenSpec.upto foldRunsSpec)) foldRunsUptoCard

/-- THE SECOND FORM's CARD OF 'palinglaw16.FoldKnows'. -/
def foldKnowsUptoCard : Claim7 := { stood := { row := foldKnowsUptoRow, standIns := [], harness := (true, "86a0d3571d2dd8e863fde22c3d8de259098049cb8fab2c0591bf546b9e2d1d5e"), looks := true }, kinds := [], alts := [], laidByText := true, laidKinds := [.data], laidTests := true, laidLooks := .later }
def FoldKnowsUptoCardSaid : Prop := Claim7.holds Tryd.pinned (.plain (OpenSpec.upto foldKnowsSpec)) foldKnowsUptoCard

/-- THE SECOND FORM's CARD OF 'palinglaw16.FoldLeaves'. -/
def foldLeavesUptoCard : Claim7 := { stood := { row := foldLeavesUptoRow, standIns := [], harness := (true, "86a0d3571d2dd8e863fde22c3d8de259098049cb8fab2c0591bf546b9e2d1d5e"), looks := true }, kinds := [], alts := [], laidByText := true, laidKinds := [.data], laidTests := true, laidLooks := .later }
def FoldLeavesUptoCardSaid : Prop := Claim7.holds Tryd.pinned (.plain (OpenSpec.upto foldLeavesSpec)) foldLeavesUptoCard
end Rows
end Go.Proofs.YtfhjkkcdeigkdaaDoor
