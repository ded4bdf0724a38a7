/-
  DERIVED. GIVEN WITH THE SEED: THE CARDS: each row of YtmbjalcphdggnaaDoorRows.lean that lists a variable, with what it lists TIED to the program's text (the seventh form; the later family's looks); each row that meets fmt, with fmt's text TOLD by the authors' own Lean function (tested against real Go, not proved from fmt's source: count such statements apart). THE CARD IS WHAT COUNTS. Prove the row's statement (the work); the ties are given (YtmbjalcphdggnaaDoorTie.lean); close each card by the builder's one call (the guide's Derived/Test/ToyasCard.lean, 'card_holds'). Laid BY PROGRAM, IN A SANDBOX (cutbox-door.mjs). By AI agents, Wed Nov 11 2026. No macro, syntax, notation, axiom, sorry.
-/
import Derived.Test.YtmbjalcphdggnaaDoorRows
import GoSem.ClaimSeven
namespace Go.Proofs.YtmbjalcphdggnaaDoor
namespace Rows

/-- THE TIED CARD OF 'merestonelaw11.JsonBlanks'. -/
def jsonBlanksCard : Claim7 := { stood := { row := jsonBlanksRow, standIns := [], harness := (true, "84f6c57653705e2239ac4bb7ec139652c77cecfd16a4fad4083ee3c2f14231ac"), looks := true }, kinds := [], alts := [], laidByText := true, laidKinds := [.data, .pinned], laidTests := true, laidLooks := .later }
def JsonBlanksCardSaid : Prop := Claim7.holds Tryd.pinned (.plain (OpenSpec.ofChange jsonBlanksSpec)) jsonBlanksCard

/-- THE TIED CARD OF 'merestonelaw11.JsonNumbers'. -/
def jsonNumbersCard : Claim7 := { stood := { row := jsonNumbersRow, standIns := [], harness := (true, "84f6c57653705e2239ac4bb7ec139652c77cecfd16a4fad4083ee3c2f14231ac"), looks := true }, kinds := [], alts := [], laidByText := true, laidKinds := [.data, .pinned], laidTests := true, laidLooks := .later }
def JsonNumbersCardSaid : Prop := Claim7.holds Tryd.pinned (.plain (OpenSpec.ofChange jsonNumbersSpec)) jsonNumbersCard

/-- THE TIED CARD OF 'merestonelaw11.JsonPrints'. -/
def jsonPrintsCard : Claim7 := { stood := { row := jsonPrintsRow, standIns := [], harness := (true, "84f6c57653705e2239ac4bb7ec139652c77cecfd16a4fad4083ee3c2f14231ac"), looks := true }, kinds := [], alts := [], laidByText := true, laidKinds := [.data, .pinned], laidTests := true, laidLooks := .later }
def JsonPrintsCardSaid : Prop := Claim7.holds Tryd.pinned (.plain (OpenSpec.ofChange jsonPrintsSpec)) jsonPrintsCard

/-- THE TIED CARD OF 'merestonelaw11.JsonBack'. -/
def jsonBackCard : Claim7 := { stood := { row := jsonBackRow, standIns := [], harness := (true, "84f6c57653705e2239ac4bb7ec139652c77cecfd16a4fad4083ee3c2f14231ac"), looks := true }, kinds := [], alts := [], laidByText := true, laidKinds := [.data, .pinned], laidTests := true, laidLooks := .later }
def JsonBackCardSaid : Prop := Claim7.holds Tryd.pinned (.plain (OpenSpec.ofChange jsonBackSpec)) jsonBackCard

/-- THE TIED CARD OF 'merestonelaw11.JsonDeep'. -/
def jsonDeepCard : Claim7 := { stood := { row := jsonDeepRow, standIns := [], harness := (true, "84f6c57653705e2239ac4bb7ec139652c77cecfd16a4fad4083ee3c2f14231ac"), looks := true }, kinds := [], alts := [], laidByText := true, laidKinds := [.data, .pinned], laidTests := true, laidLooks := .later }
def JsonDeepCardSaid : Prop := Claim7.holds Tryd.pinned (.plain (OpenSpec.ofChange jsonDeepSpec)) jsonDeepCard

/-- THE TIED CARD OF 'merestonelaw11.JsonStrings'. -/
def jsonStringsCard : Claim7 := { stood := { row := jsonStringsRow, standIns := [], harness := (true, "84f6c57653705e2239ac4bb7ec139652c77cecfd16a4fad4083ee3c2f14231ac"), looks := true }, kinds := [], alts := [], laidByText := true, laidKinds := [.data, .pinned], laidTests := true, laidLooks := .later }
def JsonStringsCardSaid : Prop := Claim7.holds Tryd.pinned (.plain (OpenSpec.ofChange jsonStringsSpec)) jsonStringsCard

/-- THE SECOND FORM's CARD OF 'merestonelaw11.JsonBlanks'. -/
def jsonBlanksUptoCard : Claim7 := { stood := { row := jsonBlanksUptoRow, standIns := [], harness := (true, "84f6c57653705e2239ac4bb7ec139652c77cecfd16a4fad4083ee3c2f14231ac"), looks := true }, kinds := [], alts := [], laidByText := true, laidKinds := [.data, .pinned], laidTests := true, laidLooks := .later }
def JsonBlanksUptoCardSaid : Prop := Claim7.holds Tryd.pinned (.plain (OpenSpec.upto jsonBlanksSpec)) jsonBlanksUptoCard

/-- THE SECOND FORM's CARD OF 'merestonelaw11.JsonNumbers'. -/
def jsonNumbersUptoCard : Claim7 := { stood := { row := jsonNumbersUptoRow, standIns := [], harness := (true, "84f6c57653705e2239ac4bb7ec139652c77cecfd16a4fad4083ee3c2f14231ac"), looks := true }, kinds := [], alts := [], laidByText := true, laidKinds := [.data, .pinned], laidTests := true, laidLooks := .later }
def JsonNumbersUptoCardSaid : Prop := Claim7.holds Tryd.pinned (.plain (OpenSpec.upto jsonNumbersSpec)) jsonNumbersUptoCard

/-- THE SECOND FORM's CARD OF 'merestonelaw11.JsonPrints'. -/
def jsonPrintsUptoCard : Claim7 := { stood := { row := jsonPrintsUptoRow, standIns := [], harness := (true, "84f6c57653705e2239ac4bb7ec139652c77cecfd16a4fad4083ee3c2f14231ac"), looks := true }, kinds := [], alts := [], laidByText := true, laidKinds := [.data, .pinned], laidTests := true, laidLooks := .later }
def JsonPrintsUptoCardSaid : Prop := Claim7.holds Tryd.pinned (.plain (OpenSpec.upto jsonPrintsSpec)) jsonPrintsUptoCard

/-- THE SECOND FORM's CARD OF 'merestonelaw11.JsonBack'. -/
def jsonBackUptoCard : Claim7 := { stood := { row := jsonBackUptoRow, standIns := [], harness := (true, "84f6c57653705e2239ac4bb7ec139652c77cecfd16a4fad4083ee3c2f14231ac"), looks := true }, kinds := [], alts := [], laidByText := true, laidKinds := [.data, .pinned], laidTests := true, laidLooks := .later }
def JsonBackUptoCardSaid : Prop := Claim7.holds Tryd.pinned (.plain (OpenSpec.upto jsonBackSpec)) jsonBackUptoCard

/-- THE SECOND FORM's CARD OF 'merestonelaw11.JsonDeep'. -/
def jsonDeepUptoCard : Claim7 := { stood := { row := jsonDeepUptoRow, standIns := [], harness := (true, "84f6c57653705e2239ac4bb7ec139652c77cecfd16a4fad4083ee3c2f14231ac"), looks := true }, kinds := [], alts := [], laidByText := true, laidKinds := [.data, .pinned], laidTests := true, laidLooks := .later }
def JsonDeepUptoCardSaid : Prop := Claim7.holds Tryd.pinned (.plain (OpenSpec.upto jsonDeepSpec)) jsonDeepUptoCard

/-- THE SECOND FORM's CARD OF 'merestonelaw11.JsonStrings'. -/
def jsonStringsUptoCard : Claim7 := { stood := { row := jsonStringsUptoRow, standIns := [], harness := (true, "84f6c57653705e2239ac4bb7ec139652c77cecfd16a4fad4083ee3c2f14231ac"), looks := true }, kinds := [], alts := [], laidByText := true, laidKinds := [.data, .pinned], laidTests := true, laidLooks := .later }
def JsonStringsUptoCardSaid : Prop := Claim7.holds Tryd.pinned (.plain (OpenSpec.upto jsonStringsSpec)) jsonStringsUptoCard
end Rows
end Go.Proofs.YtmbjalcphdggnaaDoor
