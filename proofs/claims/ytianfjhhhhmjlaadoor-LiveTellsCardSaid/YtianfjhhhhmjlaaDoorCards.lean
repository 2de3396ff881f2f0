/-
  DERIVED. GIVEN WITH THE SEED: THE CARDS: each row of YtianfjhhhhmjlaaDoorRows.lean that lists a variable, with what it lists TIED to the program's text (the seventh form; the later family's looks); each row that meets fmt, with fmt's text TOLD by the authors' own Lean function (tested against real Go, not proved from fmt's source: count such statements apart). THE CARD IS WHAT COUNTS. Prove the row's statement (the work); the ties are given (YtianfjhhhhmjlaaDoorTie.lean); close each card by the builder's one call (the guide's Derived/Test/ToyasCard.lean, 'card_holds'). Laid BY PROGRAM, IN A SANDBOX (cutbox-door.mjs). By AI agents, Wed Nov 11 2026. No macro, syntax, notation, axiom, sorry.
-/
import Derived.Test.YtianfjhhhhmjlaaDoorRows
import GoSem.ClaimSeven
namespace Go.Proofs.YtianfjhhhhmjlaaDoor
namespace Rows

/-- THE TIED CARD OF 'palinglaw15.LiveTells'. -/
def liveTellsCard : Claim7 := { stood := { row := liveTellsRow, standIns := [], harness := (true, "b9f7bb72e3ddf15058a7e3d4007e3bd7fd7dbdc206e2b5a88fd7eaa0a1f62518"), looks := true }, kinds := [], alts := [], laidByText := true, laidKinds := [.data], laidTests := true, laidLooks := .later }
def LiveTellsCardSaid : Prop := Claim7.holds Tryd.pinned (.plain (OpenSpec.ofChange liveTellsSpec)) liveTellsCard

/-- THE TIED CARD OF 'palinglaw15.LiveFlows'. -/
def liveFlowsCard : Claim7 := { stood := { row := liveFlowsRow, standIns := [], harness := (true, "b9f7bb72e3ddf15058a7e3d4007e3bd7fd7dbdc206e2b5a88fd7eaa0a1f62518"), looks := true }, kinds := [], alts := [], laidByText := true, laidKinds := [.data], laidTests := true, laidLooks := .later }
def LiveFlowsCardSaid : Prop := Claim7.holds Tryd.pinned (.plain (OpenSpec.ofChange liveFlowsSpec)) liveFlowsCard

/-- THE TIED CARD OF 'palinglaw15.LiveBegins'. -/
def liveBeginsCard : Claim7 := { stood := { row := liveBeginsRow, standIns := [], harness := (true, "b9f7bb72e3ddf15058a7e3d4007e3bd7fd7dbdc206e2b5a88fd7eaa0a1f62518"), looks := true }, kinds := [], alts := [], laidByText := true, laidKinds := [.data], laidTests := true, laidLooks := .later }
def LiveBeginsCardSaid : Prop := Claim7.holds Tryd.pinned (.plain (OpenSpec.ofChange liveBeginsSpec)) liveBeginsCard

/-- THE TIED CARD OF 'palinglaw15.LiveMost'. -/
def liveMostCard : Claim7 := { stood := { row := liveMostRow, standIns := [], harness := (true, "b9f7bb72e3ddf15058a7e3d4007e3bd7fd7dbdc206e2b5a88fd7eaa0a1f62518"), looks := true }, kinds := [], alts := [], laidByText := true, laidKinds := [.data], laidTests := true, laidLooks := .later }
def LiveMostCardSaid : Prop := Claim7.holds Tryd.pinned (.plain (OpenSpec.ofChange liveMostSpec)) liveMostCard

/-- THE SECOND FORM's CARD OF 'palinglaw15.LiveTells'. -/
def liveTellsUptoCard : Claim7 := { stood := { row := liveTellsUptoRow, standIns := [], harness := (true, "b9f7bb72e3ddf15058a7e3d4007e3bd7fd7dbdc206e2b5a88fd7eaa0a1f62518"), looks := true }, kinds := [], alts := [], laidByText := true, laidKinds := [.data], laidTests := true, laidLooks := .later }
def LiveTellsUptoCardSaid : Prop := Claim7.holds Tryd.pinned (.plain (OpenSpec.upto liveTellsSpec)) liveTellsUptoCard

/-- THE SECOND FORM's CARD OF 'palinglaw15.LiveFlows'. -/
def liveFlowsUptoCard : Claim7 := { stood := { row := liveFlowsUptoRow, standIns := [], harness := (true, "b9f7bb72e3ddf15058a7e3d4007e3bd7fd7dbdc206e2b5a88fd7eaa0a1f62518"), looks := true }, kinds := [], alts := [], laidByText := true, laidKinds := [.data], laidTests := true, laidLooks := .later }
def LiveFlowsUptoCardSaid : Prop := Claim7.holds Tryd.pinned (.plain (OpenSpec.upto liveFlowsSpec)) liveFlowsUptoCard

/-- THE SECOND FORM's CARD OF 'palinglaw15.LiveBegins'. -/
def liveBeginsUptoCard : Claim7 := { stood := { row := liveBeginsUptoRow, standIns := [], harness := (true, "b9f7bb72e3ddf15058a7e3d4007e3bd7fd7dbdc206e2b5a88fd7eaa0a1f62518"), looks := true }, kinds := [], alts := [], laidByText := true, laidKinds := [.data], laidTests := true, laidLooks := .later }
def LiveBeginsUptoCardSaid : Prop := Claim7.holds Tryd.pinned (.plain (OpenSpec.upto liveBeginsSpec)) liveBeginsUptoCard

/-- THE SECOND FORM's CARD OF 'palinglaw15.LiveMost'. -/
def liveMostUptoCard : Claim7 := { stood := { row := liveMostUptoRow, standIns := [], harness := (true, "b9f7bb72e3ddf15058a7e3d4007e3bd7fd7dbdc206e2b5a88fd7eaa0a1f62518"), looks := true }, kinds := [], alts := [], laidByText := true, laidKinds := [.data], laidTests := true, laidLooks := .later }
def LiveMostUptoCardSaid : Prop := Claim7.holds Tryd.pinned (.plain (OpenSpec.upto liveMostSpec)) liveMostUptoCard
end Rows
end Go.Proofs.YtianfjhhhhmjlaaDoor
