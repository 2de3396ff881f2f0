/-
  DERIVED. GIVEN WITH THE SEED: THE CARDS: each row of YtggfikekggcclaaDoorRows.lean that lists a variable, with what it lists TIED to the program's text (the seventh form; the later family's looks); each row that meets fmt, with fmt's text TOLD by the authors' own Lean function (tested against real Go, not proved from fmt's source: count such statements apart). THE CARD IS WHAT COUNTS. Prove the row's statement (the work); the ties are given (YtggfikekggcclaaDoorTie.lean); close each card by the builder's one call (the guide's Derived/Test/ToyasCard.lean, 'card_holds'). Laid BY PROGRAM, IN A SANDBOX (cutbox-door.mjs). By AI agents, Wed Nov 11 2026. No macro, syntax, notation, axiom, sorry.
-/
import Derived.Test.YtggfikekggcclaaDoorRows
import GoSem.ClaimSeven
namespace Go.Proofs.YtggfikekggcclaaDoor
namespace Rows

/-- THE TIED CARD OF 'palinglaw11.InsTells'. -/
def insTellsCard : Claim7 := { stood := { row := insTellsRow, standIns := [], harness := (true, "1a69d629e13f48774e523a8c5c2adbc0b5e1f875c0a51972624c969cd158013f"), looks := false }, kinds := [], alts := [], laidByText := true, laidKinds := [.data, .data, .data, .widerDeep, .data], laidTests := true, laidLooks := .later }
def InsTellsCardSaid : Prop := Claim7.holds Tryd.pinned (.plain (OpenSpec.ofChange insTellsSpec)) insTellsCard

/-- THE TIED CARD OF 'palinglaw11.InsChecks'. -/
def insChecksCard : Claim7 := { stood := { row := insChecksRow, standIns := [], harness := (true, "1a69d629e13f48774e523a8c5c2adbc0b5e1f875c0a51972624c969cd158013f"), looks := false }, kinds := [], alts := [], laidByText := true, laidKinds := [.data, .data, .data, .widerDeep, .data], laidTests := true, laidLooks := .later }
def InsChecksCardSaid : Prop := Claim7.holds Tryd.pinned (.plain (OpenSpec.ofChange insChecksSpec)) insChecksCard

/-- THE TIED CARD OF 'palinglaw11.InsStays'. -/
def insStaysCard : Claim7 := { stood := { row := insStaysRow, standIns := [], harness := (true, "1a69d629e13f48774e523a8c5c2adbc0b5e1f875c0a51972624c969cd158013f"), looks := false }, kinds := [], alts := [], laidByText := true, laidKinds := [.data, .data, .data, .widerDeep, .data], laidTests := true, laidLooks := .later }
def InsStaysCardSaid : Prop := Claim7.holds Tryd.pinned (.plain (OpenSpec.ofChange insStaysSpec)) insStaysCard

/-- THE TIED CARD OF 'palinglaw11.InsReads'. -/
def insReadsCard : Claim7 := { stood := { row := insReadsRow, standIns := [], harness := (true, "1a69d629e13f48774e523a8c5c2adbc0b5e1f875c0a51972624c969cd158013f"), looks := false }, kinds := [], alts := [], laidByText := true, laidKinds := [.data, .data, .data, .widerDeep, .data], laidTests := true, laidLooks := .later }
def InsReadsCardSaid : Prop := Claim7.holds Tryd.pinned (.plain (OpenSpec.ofChange insReadsSpec)) insReadsCard

/-- THE SECOND FORM's CARD OF 'palinglaw11.InsTells'. -/
def insTellsUptoCard : Claim7 := { stood := { row := insTellsUptoRow, standIns := [], harness := (true, "1a69d629e13f48774e523a8c5c2adbc0b5e1f875c0a51972624c969cd158013f"), looks := false }, kinds := [], alts := [], laidByText := true, laidKinds := [.data, .data, .data, .widerDeep, .data], laidTests := true, laidLooks := .later }
def InsTellsUptoCardSaid : Prop := Claim7.holds Tryd.pinned (.plain (OpenSpec.upto insTellsSpec)) insTellsUptoCard

/-- THE SECOND FORM's CARD OF 'palinglaw11.InsChecks'. -/
def insChecksUptoCard : Claim7 := { stood := { row := insChecksUptoRow, standIns := [], harness := (true, "1a69d629e13f48774e523a8c5c2adbc0b5e1f875c0a51972624c969cd158013f"), looks := false }, kinds := [], alts := [], laidByText := true, laidKinds := [.data, .data, .data, .widerDeep, .data], laidTests := true, laidLooks := .later }
def InsChecksUptoCardSaid : Prop := Claim7.holds Tryd.pinned (.plain (OpenSpec.upto insChecksSpec)) insChecksUptoCard

/-- THE SECOND FORM's CARD OF 'palinglaw11.InsStays'. -/
def insStaysUptoCard : Claim7 := { stood := { row := insStaysUptoRow, standIns := [], harness := (true, "1a69d629e13f48774e523a8c5c2adbc0b5e1f875c0a51972624c969cd158013f"), looks := false }, kinds := [], alts := [], laidByText := true, laidKinds := [.data, .data, .data, .widerDeep, .data], laidTests := true, laidLooks := .later }
def InsStaysUptoCardSaid : Prop := Claim7.holds Tryd.pinned (.plain (OpenSpec.upto insStaysSpec)) insStaysUptoCard

/-- THE SECOND FORM's CARD OF 'palinglaw11.InsReads'. -/
def insReadsUptoCard : Claim7 := { stood := { row := insReadsUptoRow, standIns := [], harness := (true, "1a69d629e13f48774e523a8c5c2adbc0b5e1f875c0a51972624c969cd158013f"), looks := false }, kinds := [], alts := [], laidByText := true, laidKinds := [.data, .data, .data, .widerDeep, .data], laidTests := true, laidLooks := .later }
def InsReadsUptoCardSaid : Prop := Claim7.holds Tryd.pinned (.plain (OpenSpec.upto insReadsSpec)) insReadsUptoCard
end Rows
end Go.Proofs.YtggfikekggcclaaDoor
