/-
  DERIVED. GIVEN WITH THE SEED: THE CARDS: each row of YtacinobmcgcccaaGreatDoorRows.lean that lists a variable, with what it lists TIED to the program's text (the seventh form; the later family's looks); each row that meets fmt, with fmt's text TOLD by the authors' own Lean function (tested against real Go, not proved from fmt's source: count such statements apart). THE CARD IS WHAT COUNTS. Prove the row's statement (the work); the ties are given (YtacinobmcgcccaaGreatDoorTie.lean); close each card by the builder's one call (the guide's Derived/Test/ToyasCard.lean, 'card_holds'). Laid BY PROGRAM, IN A SANDBOX (cutbox-door.mjs). By AI agents, Wed Nov 11 2026. No macro, syntax, notation, axiom, sorry.
-/
import Derived.Test.YtacinobmcgcccaaGreatDoorRows
import GoSem.ClaimSeven
namespace Go.Proofs.YtacinobmcgcccaaGreatDoor
namespace Rows

/-- THE TIED CARD OF 'merestonelaw12.GjsonEncodes'. -/
def gjsonEncodesCard : Claim7 := { stood := { row := gjsonEncodesRow, standIns := [], harness := (true, "f628e297ccd9b25f414fc8f1fbfab6593642e4caccc634b8e378246a3474f661"), looks := true }, kinds := [], alts := [], laidByText := true, laidKinds := [.data, .data, .data, .data, .pinned], laidTests := true, laidLooks := .later }
def GjsonEncodesCardSaid : Prop := Claim7.holds Tryz.pinned (.plain (OpenSpec.ofChange gjsonEncodesSpec)) gjsonEncodesCard

/-- THE TIED CARD OF 'merestonelaw12.GjsonJSON'. -/
def gjsonJSONCard : Claim7 := { stood := { row := gjsonJSONRow, standIns := [], harness := (true, "f628e297ccd9b25f414fc8f1fbfab6593642e4caccc634b8e378246a3474f661"), looks := true }, kinds := [], alts := [], laidByText := true, laidKinds := [.data, .data, .data, .data, .pinned], laidTests := true, laidLooks := .later }
def GjsonJSONCardSaid : Prop := Claim7.holds Tryz.pinned (.plain (OpenSpec.ofChange gjsonJSONSpec)) gjsonJSONCard

/-- THE TIED CARD OF 'merestonelaw12.GjsonBack'. -/
def gjsonBackCard : Claim7 := { stood := { row := gjsonBackRow, standIns := [], harness := (true, "f628e297ccd9b25f414fc8f1fbfab6593642e4caccc634b8e378246a3474f661"), looks := true }, kinds := [], alts := [], laidByText := true, laidKinds := [.data, .data, .data, .data, .sentinel, .sentinel, .pinned], laidTests := true, laidLooks := .later }
def GjsonBackCardSaid : Prop := Claim7.holds Tryz.pinned (.plain (OpenSpec.ofChange gjsonBackSpec)) gjsonBackCard

/-- THE TIED CARD OF 'merestonelaw12.GjsonOrders'. -/
def gjsonOrdersCard : Claim7 := { stood := { row := gjsonOrdersRow, standIns := [], harness := (true, "f628e297ccd9b25f414fc8f1fbfab6593642e4caccc634b8e378246a3474f661"), looks := true }, kinds := [], alts := [], laidByText := true, laidKinds := [.data, .data, .data, .data, .sentinel, .sentinel, .pinned], laidTests := true, laidLooks := .later }
def GjsonOrdersCardSaid : Prop := Claim7.holds Tryz.pinned (.plain (OpenSpec.ofChange gjsonOrdersSpec)) gjsonOrdersCard

/-- THE TIED CARD OF 'merestonelaw12.GjsonTurns'. -/
def gjsonTurnsCard : Claim7 := { stood := { row := gjsonTurnsRow, standIns := [], harness := (true, "f628e297ccd9b25f414fc8f1fbfab6593642e4caccc634b8e378246a3474f661"), looks := true }, kinds := [], alts := [], laidByText := true, laidKinds := [.data, .data, .data, .data, .sentinel, .sentinel, .pinned], laidTests := true, laidLooks := .later }
def GjsonTurnsCardSaid : Prop := Claim7.holds Tryz.pinned (.plain (OpenSpec.ofChange gjsonTurnsSpec)) gjsonTurnsCard

/-- THE SECOND FORM's CARD OF 'merestonelaw12.GjsonEncodes'. -/
def gjsonEncodesUptoCard : Claim7 := { stood := { row := gjsonEncodesUptoRow, standIns := [], harness := (true, "f628e297ccd9b25f414fc8f1fbfab6593642e4caccc634b8e378246a3474f661"), looks := true }, kinds := [], alts := [], laidByText := true, laidKinds := [.data, .data, .data, .data, .pinned], laidTests := true, laidLooks := .later }
def GjsonEncodesUptoCardSaid : Prop := Claim7.holds Tryz.pinned (.plain (OpenSpec.upto gjsonEncodesSpec)) gjsonEncodesUptoCard

/-- THE SECOND FORM's CARD OF 'merestonelaw12.GjsonJSON'. -/
def gjsonJSONUptoCard : Claim7 := { stood := { row := gjsonJSONUptoRow, standIns := [], harness := (true, "f628e297ccd9b25f414fc8f1fbfab6593642e4caccc634b8e378246a3474f661"), looks := true }, kinds := [], alts := [], laidByText := true, laidKinds := [.data, .data, .data, .data, .pinned], laidTests := true, laidLooks := .later }
def GjsonJSONUptoCardSaid : Prop := Claim7.holds Tryz.pinned (.plain (OpenSpec.upto gjsonJSONSpec)) gjsonJSONUptoCard

/-- THE SECOND FORM's CARD OF 'merestonelaw12.GjsonBack'. -/
def gjsonBackUptoCard : Claim7 := { stood := { row := gjsonBackUptoRow, standIns := [], harness := (true, "f628e297ccd9b25f414fc8f1fbfab6593642e4caccc634b8e378246a3474f661"), looks := true }, kinds := [], alts := [], laidByText := true, laidKinds := [.data, .data, .data, .data, .sentinel, .sentinel, .pinned], laidTests := true, laidLooks := .later }
def GjsonBackUptoCardSaid : Prop := Claim7.holds Tryz.pinned (.plain (OpenSpec.upto gjsonBackSpec)) gjsonBackUptoCard

/-- THE SECOND FORM's CARD OF 'merestonelaw12.GjsonOrders'. -/
def gjsonOrdersUptoCard : Claim7 := { stood := { row := gjsonOrdersUptoRow, standIns := [], harness := (true, "f628e297ccd9b25f414fc8f1fbfab6593642e4caccc634b8e378246a3474f661"), looks := true }, kinds := [], alts := [], laidByText := true, laidKinds := [.data, .data, .data, .data, .sentinel, .sentinel, .pinned], laidTests := true, laidLooks := .later }
def GjsonOrdersUptoCardSaid : Prop := Claim7.holds Tryz.pinned (.plain (OpenSpec.upto gjsonOrdersSpec)) gjsonOrdersUptoCard

/-- THE SECOND FORM's CARD OF 'merestonelaw12.GjsonTurns'. -/
def gjsonTurnsUptoCard : Claim7 := { stood := { row := gjsonTurnsUptoRow, standIns := [], harness := (true, "f628e297ccd9b25f414fc8f1fbfab6593642e4caccc634b8e378246a3474f661"), looks := true }, kinds := [], alts := [], laidByText := true, laidKinds := [.data, .data, .data, .data, .sentinel, .sentinel, .pinned], laidTests := true, laidLooks := .later }
def GjsonTurnsUptoCardSaid : Prop := Claim7.holds Tryz.pinned (.plain (OpenSpec.upto gjsonTurnsSpec)) gjsonTurnsUptoCard
end Rows
end Go.Proofs.YtacinobmcgcccaaGreatDoor
