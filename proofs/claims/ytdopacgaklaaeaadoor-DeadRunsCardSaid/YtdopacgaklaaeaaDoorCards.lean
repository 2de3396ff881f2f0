/-
  DERIVED. GIVEN WITH THE SEED: THE CARDS: each row of YtdopacgaklaaeaaDoorRows.lean that lists a variable, with what it lists TIED to the program's text (the seventh form; the later family's looks); each row that meets fmt, with fmt's text TOLD by the authors' own Lean function (tested against real Go, not proved from fmt's source: count such statements apart). THE CARD IS WHAT COUNTS. Prove the row's statement (the work); the ties are given (YtdopacgaklaaeaaDoorTie.lean); close each card by the builder's one call (the guide's Derived/Test/ToyasCard.lean, 'card_holds'). Laid BY PROGRAM, IN A SANDBOX (cutbox-door.mjs). By AI agents, Wed Nov 11 2026. No macro, syntax, notation, axiom, sorry.
-/
import Derived.Test.YtdopacgaklaaeaaDoorRows
import GoSem.ClaimSeven
namespace Go.Proofs.YtdopacgaklaaeaaDoor
namespace Rows

/-- THE TIED CARD OF 'palinglaw18.DeadTells'. -/
def deadTellsCard : Claim7 := { stood := { row := deadTellsRow, standIns := [], harness := (true, "cd3a52d2c8bddb1ce52909ce3f940c524954bca3b1a0f4e117c9b66e42248111"), looks := false }, kinds := [], alts := [], laidByText := true, laidKinds := [.data], laidTests := true, laidLooks := .later }
def DeadTellsCardSaid : Prop := Claim7.holds Tryd.pinned (.plain (OpenSpec.ofChange deadTellsSpec)) deadTellsCard

/-- THE TIED CARD OF 'palinglaw18.DeadRuns'. -/
def deadRunsCard : Claim7 := { stood := { row := deadRunsRow, standIns := [], harness := (true, "cd3a52d2c8bddb1ce52909ce3f940c524954bca3b1a0f4e117c9b66e42248111"), looks := false }, kinds := [], alts := [], laidByText := true, laidKinds := [.data], laidTests := true, laidLooks := .later }
def DeadRunsCardSaid : Prop := Claim7.holds Tryd.pinned (.plain (OpenSpec.ofChange deadRunsSpec)) deadRunsCard

/-- THE TIED CARD OF 'palinglaw18.DeadBack'. -/
def deadBackCard : Claim7 := { stood := { row := deadBackRow, standIns := [], harness := (true, "cd3a52d2c8bddb1ce52909ce3f940c524954bca3b1a0f4e117c9b66e42248111"), looks := false }, kinds := [], alts := [], laidByText := true, laidKinds := [.data], laidTests := true, laidLooks := .later }
def DeadBackCardSaid : Prop := Claim7.holds Tryd.pinned (.plain (OpenSpec.ofChange deadBackSpec)) deadBackCard

/-- THE TIED CARD OF 'palinglaw18.DeadOnce'. -/
def deadOnceCard : Claim7 := { stood := { row := deadOnceRow, standIns := [], harness := (true, "cd3a52d2c8bddb1ce52909ce3f940c524954bca3b1a0f4e117c9b66e42248111"), looks := false }, kinds := [], alts := [], laidByText := true, laidKinds := [.data], laidTests := true, laidLooks := .later }
def DeadOnceCardSaid : Prop := Claim7.holds Tryd.pinned (.plain (OpenSpec.ofChange deadOnceSpec)) deadOnceCard

/-- THE SECOND FORM's CARD OF 'palinglaw18.DeadTells'. -/
def deadTellsUptoCard : Claim7 := { stood := { row := deadTellsUptoRow, standIns := [], harness := (true, "cd3a52d2c8bddb1ce52909ce3f940c524954bca3b1a0f4e117c9b66e42248111"), looks := false }, kinds := [], alts := [], laidByText := true, laidKinds := [.data], laidTests := true, laidLooks := .later }
def DeadTellsUptoCardSaid : Prop := Claim7.holds Tryd.pinned (.plain (OpenSpec.upto deadTellsSpec)) deadTellsUptoCard

/-- THE SECOND FORM's CARD OF 'palinglaw18.DeadRuns'. -/
def deadRunsUptoCard : Claim7 := { stood := { row := deadRunsUptoRow, standIns := [], harness := (true, "cd3a52d2c8bddb1ce52909ce3f940c524954bca3b1a0f4e117c9b66e42248111"), looks := false }, kinds := [], alts := [], laidByText := true, laidKinds := [.data], laidTests := true, laidLooks := .later }
def DeadRunsUptoCardSaid : Prop := Claim7.holds Tryd.pinned (.plain (OpenSpec.upto deadRunsSpec)) deadRunsUptoCard

/-- THE SECOND FORM's CARD OF 'palinglaw18.DeadBack'. -/
def deadBackUptoCard : Claim7 := { stood := { row := deadBackUptoRow, standIns := [], harness := (true, "cd3a52d2c8bddb1ce52909ce3f940c524954bca3b1a0f4e117c9b66e42248111"), looks := false }, kinds := [], alts := [], laidByText := true, laidKinds := [.data], laidTests := true, laidLooks := .later }
def DeadBackUptoCardSaid : Prop := Claim7.holds Tryd.pinned (.plain (OpenSpec.upto deadBackSpec)) deadBackUptoCard

/-- THE SECOND FORM's CARD OF 'palinglaw18.DeadOnce'. -/
def deadOnceUptoCard : Claim7 := { stood := { row := deadOnceUptoRow, standIns := [], harness := (true, "cd3a52d2c8bddb1ce52909ce3f940c524954bca3b1a0f4e117c9b66e42248111"), looks := false }, kinds := [], alts := [], laidByText := true, laidKinds := [.data], laidTests := true, laidLooks := .later }
def DeadOnceUptoCardSaid : Prop := Claim7.holds Tryd.pinned (.plain (OpenSpec.upto deadOnceSpec)) deadOnceUptoCard
end Rows
end Go.Proofs.YtdopacgaklaaeaaDoor
