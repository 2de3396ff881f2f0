/-
  DERIVED. GIVEN WITH THE SEED: THE CARDS: each row of YtoncneglplglhaaDoorRows.lean that lists a variable, with what it lists TIED to the program's text (the seventh form; the later family's looks); each row that meets fmt, with fmt's text TOLD by the authors' own Lean function (tested against real Go, not proved from fmt's source: count such statements apart). THE CARD IS WHAT COUNTS. Prove the row's statement (the work); the ties are given (YtoncneglplglhaaDoorTie.lean); close each card by the builder's one call (the guide's Derived/Test/ToyasCard.lean, 'card_holds'). Laid BY PROGRAM, IN A SANDBOX (cutbox-door.mjs). By AI agents, Wed Nov 11 2026. No macro, syntax, notation, axiom, sorry.
-/
import Derived.Test.YtoncneglplglhaaDoorRows
import GoSem.ClaimSeven
namespace Go.Proofs.YtoncneglplglhaaDoor
namespace Rows

/-- THE TIED CARD OF 'palinglaw14.GraphReaches'. -/
def graphReachesCard : Claim7 := { stood := { row := graphReachesRow, standIns := [], harness := (true, "3846aadaffb03c577a003ae8bb23536b7ee5e1f99091915ca261b0c01a73b788"), looks := false }, kinds := [], alts := [], laidByText := true, laidKinds := [.data], laidTests := true, laidLooks := .later }
def GraphReachesCardSaid : Prop := Claim7.holds Tryd.pinned (.plain (OpenSpec.ofChange graphReachesSpec)) graphReachesCard

/-- THE TIED CARD OF 'palinglaw14.GraphLoops'. -/
def graphLoopsCard : Claim7 := { stood := { row := graphLoopsRow, standIns := [], harness := (true, "3846aadaffb03c577a003ae8bb23536b7ee5e1f99091915ca261b0c01a73b788"), looks := false }, kinds := [], alts := [], laidByText := true, laidKinds := [.data], laidTests := true, laidLooks := .later }
def GraphLoopsCardSaid : Prop := Claim7.holds Tryd.pinned (.plain (OpenSpec.ofChange graphLoopsSpec)) graphLoopsCard

/-- THE TIED CARD OF 'palinglaw14.GraphAbove'. -/
def graphAboveCard : Claim7 := { stood := { row := graphAboveRow, standIns := [], harness := (true, "3846aadaffb03c577a003ae8bb23536b7ee5e1f99091915ca261b0c01a73b788"), looks := false }, kinds := [], alts := [], laidByText := true, laidKinds := [.data], laidTests := true, laidLooks := .later }
def GraphAboveCardSaid : Prop := Claim7.holds Tryd.pinned (.plain (OpenSpec.ofChange graphAboveSpec)) graphAboveCard

/-- THE TIED CARD OF 'palinglaw14.GraphStraight'. -/
def graphStraightCard : Claim7 := { stood := { row := graphStraightRow, standIns := [], harness := (true, "3846aadaffb03c577a003ae8bb23536b7ee5e1f99091915ca261b0c01a73b788"), looks := false }, kinds := [], alts := [], laidByText := true, laidKinds := [.data], laidTests := true, laidLooks := .later }
def GraphStraightCardSaid : Prop := Claim7.holds Tryd.pinned (.plain (OpenSpec.ofChange graphStraightSpec)) graphStraightCard

/-- THE SECOND FORM's CARD OF 'palinglaw14.GraphReaches'. -/
def graphReachesUptoCard : Claim7 := { stood := { row := graphReachesUptoRow, standIns := [], harness := (true, "3846aadaffb03c577a003ae8bb23536b7ee5e1f99091915ca261b0c01a73b788"), looks := false }, kinds := [], alts := [], laidByText := true, laidKinds := [.data], laidTests := true, laidLooks := .later }
def GraphReachesUptoCardSaid : Prop := Claim7.holds Tryd.pinned (.plain (OpenSpec.upto graphReachesSpec)) graphReachesUptoCard

/-- THE SECOND FORM's CARD OF 'palinglaw14.GraphLoops'. -/
def graphLoopsUptoCard : Claim7 := { stood := { row := graphLoopsUptoRow, standIns := [], harness := (true, "3846aadaffb03c577a003ae8bb23536b7ee5e1f99091915ca261b0c01a73b788"), looks := false }, kinds := [], alts := [], laidByText := true, laidKinds := [.data], laidTests := true, laidLooks := .later }
def GraphLoopsUptoCardSaid : Prop := Claim7.holds Tryd.pinned (.plain (OpenSpec.upto graphLoopsSpec)) graphLoopsUptoCard

/-- THE SECOND FORM's CARD OF 'palinglaw14.GraphAbove'. -/
def graphAboveUptoCard : Claim7 := { stood := { row := graphAboveUptoRow, standIns := [], harness := (true, "3846aadaffb03c577a003ae8bb23536b7ee5e1f99091915ca261b0c01a73b788"), looks := false }, kinds := [], alts := [], laidByText := true, laidKinds := [.data], laidTests := true, laidLooks := .later }
def GraphAboveUptoCardSaid : Prop := Claim7.holds Tryd.pinned (.plain (OpenSpec.upto graphAboveSpec)) graphAboveUptoCard

/-- THE SECOND FORM's CARD OF 'palinglaw14.GraphStraight'. -/
def graphStraightUptoCard : Claim7 := { stood := { row := graphStraightUptoRow, standIns := [], harness := (true, "3846aadaffb03c577a003ae8bb23536b7ee5e1f99091915ca261b0c01a73b788"), looks := false }, kinds := [], alts := [], laidByText := true, laidKinds := [.data], laidTests := true, laidLooks := .later }
def GraphStraightUptoCardSaid : Prop := Claim7.holds Tryd.pinned (.plain (OpenSpec.upto graphStraightSpec)) graphStraightUptoCard
end Rows
end Go.Proofs.YtoncneglplglhaaDoor
