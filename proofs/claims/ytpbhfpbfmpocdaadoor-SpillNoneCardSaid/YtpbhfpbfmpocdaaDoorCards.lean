/-
  DERIVED. GIVEN WITH THE SEED: THE CARDS: each row of YtpbhfpbfmpocdaaDoorRows.lean that lists a variable, with what it lists TIED to the program's text (the seventh form; the later family's looks); each row that meets fmt, with fmt's text TOLD by the authors' own Lean function (tested against real Go, not proved from fmt's source: count such statements apart). THE CARD IS WHAT COUNTS. Prove the row's statement (the work); the ties are given (YtpbhfpbfmpocdaaDoorTie.lean); close each card by the builder's one call (the guide's Derived/Test/ToyasCard.lean, 'card_holds'). Laid BY PROGRAM, IN A SANDBOX (cutbox-door.mjs). By AI agents, Wed Nov 11 2026. No macro, syntax, notation, axiom, sorry.
-/
import Derived.Test.YtpbhfpbfmpocdaaDoorRows
import GoSem.ClaimSeven
namespace Go.Proofs.YtpbhfpbfmpocdaaDoor
namespace Rows

/-- THE TIED CARD OF 'palinglaw22.SpillTells'. -/
def spillTellsCard : Claim7 := { stood := { row := spillTellsRow, standIns := [], harness := (true, "8df265eb87bd4cdb7da4f484e495098039a7f175d325172cbe1efffd9a090fe0"), looks := false }, kinds := [], alts := [], laidByText := true, laidKinds := [.data], laidTests := true, laidLooks := .later }
def SpillTellsCardSaid : Prop := Claim7.holds Tryd.pinned (.plain (OpenSpec.ofChange spillTellsSpec)) spillTellsCard

/-- THE TIED CARD OF 'palinglaw22.SpillApart'. -/
def spillApartCard : Claim7 := { stood := { row := spillApartRow, standIns := [], harness := (true, "8df265eb87bd4cdb7da4f484e495098039a7f175d325172cbe1efffd9a090fe0"), looks := false }, kinds := [], alts := [], laidByText := true, laidKinds := [.data], laidTests := true, laidLooks := .later }
def SpillApartCardSaid : Prop := Claim7.holds Tryd.pinned (.plain (OpenSpec.ofChange spillApartSpec)) spillApartCard

/-- THE TIED CARD OF 'palinglaw22.SpillNone'. -/
def spillNoneCard : Claim7 := { stood := { row := spillNoneRow, standIns := [], harness := (true, "8df265eb87bd4cdb7da4f484e495098039a7f175d325172cbe1efffd9a090fe0"), looks := false }, kinds := [], alts := [], laidByText := true, laidKinds := [.data], laidTests := true, laidLooks := .later }
def SpillNoneCardSaid : Prop := Claim7.holds Tryd.pinned (.plain (OpenSpec.ofChange spillNoneSpec)) spillNoneCard

/-- THE SECOND FORM's CARD OF 'palinglaw22.SpillTells'. -/
def spillTellsUptoCard : Claim7 := { stood := { row := spillTellsUptoRow, standIns := [], harness := (true, "8df265eb87bd4cdb7da4f484e495098039a7f175d325172cbe1efffd9a090fe0"), looks := false }, kinds := [], alts := [], laidByText := true, laidKinds := [.data], laidTests := true, laidLooks := .later }
def SpillTellsUptoCardSaid : Prop := Claim7.holds Tryd.pinned (.plain (OpenSpec.upto spillTellsSpec)) spillTellsUptoCard

/-- THE SECOND FORM's CARD OF 'palinglaw22.SpillApart'. -/
def spillApartUptoCard : Claim7 := { stood := { row := spillApartUptoRow, standIns := [], harness := (true, "8df265eb87bd4cdb7da4f484e495098039a7f175d325172cbe1efffd9a090fe0"), looks := false }, kinds := [], alts := [], laidByText := true, laidKinds := [.data], laidTests := true, laidLooks := .later }
def SpillApartUptoCardSaid : Prop := Claim7.holds Tryd.pinned (.plain (OpenSpec.upto spillApartSpec)) spillApartUptoCard

/-- THE SECOND FORM's CARD OF 'palinglaw22.SpillNone'. -/
def spillNoneUptoCard : Claim7 := { stood := { row := spillNoneUptoRow, standIns := [], harness := (true, "8df265eb87bd4cdb7da4f484e495098039a7f175d325172cbe1efffd9a090fe0"), looks := false }, kinds := [], alts := [], laidByText := true, laidKinds := [.data], laidTests := true, laidLooks := .later }
def SpillNoneUptoCardSaid : Prop := Claim7.holds Tryd.pinned (.plain (OpenSpec.upto spillNoneSpec)) spillNoneUptoCard
end Rows
end Go.Proofs.YtpbhfpbfmpocdaaDoor
