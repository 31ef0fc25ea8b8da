/-
  DERIVED. GIVEN WITH THE SEED: THE CARDS: each row of YtkhakgbnfapifaaGreatDoorRows.lean that lists a variable, with what it lists TIED to the program's text (the seventh form; the later family's looks); each row that meets fmt, with fmt's text TOLD by the authors' own Lean function (tested against real Go, not proved from fmt's source: count such statements apart). THE CARD IS WHAT COUNTS. Prove the row's statement (the work); the ties are given (YtkhakgbnfapifaaGreatDoorTie.lean); close each card by the builder's one call (the guide's Derived/Test/ToyasCard.lean, 'card_holds'). Laid BY PROGRAM, IN A SANDBOX (cutbox-door.mjs). By AI agents, Wed Nov 11 2026. No macro, syntax, notation, axiom, sorry.
-/
import Derived.Test.YtkhakgbnfapifaaGreatDoorRows
import GoSem.ClaimSeven
namespace Go.Proofs.YtkhakgbnfapifaaGreatDoor
namespace Rows

/-- THE TIED CARD OF 'dragomanlaw.BrokerPackets'. -/
def brokerPacketsCard : Claim7 := { stood := { row := brokerPacketsRow, standIns := [], harness := (true, "cfa388bb097e2bfcfa81c8cb1b5f87eda92b1a17f4378b5d20fdd1c229b01e71"), looks := false }, kinds := [], alts := [], laidByText := true, laidKinds := [.data, .pinned], laidTests := true, laidLooks := .later }
def BrokerPacketsCardSaid : Prop := Claim7.holds Tryz.pinned (.plain (OpenSpec.ofChange brokerPacketsSpec)) brokerPacketsCard

/-- THE TIED CARD OF 'dragomanlaw.BrokerMessages'. -/
def brokerMessagesCard : Claim7 := { stood := { row := brokerMessagesRow, standIns := [], harness := (true, "cfa388bb097e2bfcfa81c8cb1b5f87eda92b1a17f4378b5d20fdd1c229b01e71"), looks := false }, kinds := [], alts := [], laidByText := true, laidKinds := [.data, .pinned], laidTests := true, laidLooks := .later }
def BrokerMessagesCardSaid : Prop := Claim7.holds Tryz.pinned (.plain (OpenSpec.ofChange brokerMessagesSpec)) brokerMessagesCard

/-- THE TIED CARD OF 'dragomanlaw.BrokerClean'. -/
def brokerCleanCard : Claim7 := { stood := { row := brokerCleanRow, standIns := [], harness := (true, "cfa388bb097e2bfcfa81c8cb1b5f87eda92b1a17f4378b5d20fdd1c229b01e71"), looks := false }, kinds := [], alts := [], laidByText := true, laidKinds := [.data, .pinned], laidTests := true, laidLooks := .later }
def BrokerCleanCardSaid : Prop := Claim7.holds Tryz.pinned (.plain (OpenSpec.ofChange brokerCleanSpec)) brokerCleanCard

/-- THE TIED CARD OF 'dragomanlaw.BrokerTold'. -/
def brokerToldCard : Claim7 := { stood := { row := brokerToldRow, standIns := [], harness := (true, "cfa388bb097e2bfcfa81c8cb1b5f87eda92b1a17f4378b5d20fdd1c229b01e71"), looks := false }, kinds := [], alts := [], laidByText := true, laidKinds := [.data, .pinned], laidTests := true, laidLooks := .later }
def BrokerToldCardSaid : Prop := Claim7.holds Tryz.pinned (.plain (OpenSpec.ofChange brokerToldSpec)) brokerToldCard

/-- THE TIED CARD OF 'dragomanlaw.BrokerRead'. -/
def brokerReadCard : Claim7 := { stood := { row := brokerReadRow, standIns := [], harness := (true, "cfa388bb097e2bfcfa81c8cb1b5f87eda92b1a17f4378b5d20fdd1c229b01e71"), looks := false }, kinds := [], alts := [], laidByText := true, laidKinds := [.data, .pinned], laidTests := true, laidLooks := .later }
def BrokerReadCardSaid : Prop := Claim7.holds Tryz.pinned (.plain (OpenSpec.ofChange brokerReadSpec)) brokerReadCard

/-- THE TIED CARD OF 'dragomanlaw.BrokerRight'. -/
def brokerRightCard : Claim7 := { stood := { row := brokerRightRow, standIns := [], harness := (true, "cfa388bb097e2bfcfa81c8cb1b5f87eda92b1a17f4378b5d20fdd1c229b01e71"), looks := false }, kinds := [], alts := [], laidByText := true, laidKinds := [.data, .pinned], laidTests := true, laidLooks := .later }
def BrokerRightCardSaid : Prop := Claim7.holds Tryz.pinned (.plain (OpenSpec.ofChange brokerRightSpec)) brokerRightCard

/-- THE SECOND FORM's CARD OF 'dragomanlaw.BrokerPackets'. -/
def brokerPacketsUptoCard : Claim7 := { stood := { row := brokerPacketsUptoRow, standIns := [], harness := (true, "cfa388bb097e2bfcfa81c8cb1b5f87eda92b1a17f4378b5d20fdd1c229b01e71"), looks := false }, kinds := [], alts := [], laidByText := true, laidKinds := [.data, .pinned], laidTests := true, laidLooks := .later }
def BrokerPacketsUptoCardSaid : Prop := Claim7.holds Tryz.pinned (.plain (OpenSpec.upto brokerPacketsSpec)) brokerPacketsUptoCard

/-- THE SECOND FORM's CARD OF 'dragomanlaw.BrokerMessages'. -/
def brokerMessagesUptoCard : Claim7 := { stood := { row := brokerMessagesUptoRow, standIns := [], harness := (true, "cfa388bb097e2bfcfa81c8cb1b5f87eda92b1a17f4378b5d20fdd1c229b01e71"), looks := false }, kinds := [], alts := [], laidByText := true, laidKinds := [.data, .pinned], laidTests := true, laidLooks := .later }
def BrokerMessagesUptoCardSaid : Prop := Claim7.holds Tryz.pinned (.plain (OpenSpec.upto brokerMessagesSpec)) brokerMessagesUptoCard

/-- THE SECOND FORM's CARD OF 'dragomanlaw.BrokerClean'. -/
def brokerCleanUptoCard : Claim7 := { stood := { row := brokerCleanUptoRow, standIns := [], harness := (true, "cfa388bb097e2bfcfa81c8cb1b5f87eda92b1a17f4378b5d20fdd1c229b01e71"), looks := false }, kinds := [], alts := [], laidByText := true, laidKinds := [.data, .pinned], laidTests := true, laidLooks := .later }
def BrokerCleanUptoCardSaid : Prop := Claim7.holds Tryz.pinned (.plain (OpenSpec.upto brokerCleanSpec)) brokerCleanUptoCard

/-- THE SECOND FORM's CARD OF 'dragomanlaw.BrokerTold'. -/
def brokerToldUptoCard : Claim7 := { stood := { row := brokerToldUptoRow, standIns := [], harness := (true, "cfa388bb097e2bfcfa81c8cb1b5f87eda92b1a17f4378b5d20fdd1c229b01e71"), looks := false }, kinds := [], alts := [], laidByText := true, laidKinds := [.data, .pinned], laidTests := true, laidLooks := .later }
def BrokerToldUptoCardSaid : Prop := Claim7.holds Tryz.pinned (.plain (OpenSpec.upto brokerToldSpec)) brokerToldUptoCard

/-- THE SECOND FORM's CARD OF 'dragomanlaw.BrokerRead'. -/
def brokerReadUptoCard : Claim7 := { stood := { row := brokerReadUptoRow, standIns := [], harness := (true, "cfa388bb097e2bfcfa81c8cb1b5f87eda92b1a17f4378b5d20fdd1c229b01e71"), looks := false }, kinds := [], alts := [], laidByText := true, laidKinds := [.data, .pinned], laidTests := true, laidLooks := .later }
def BrokerReadUptoCardSaid : Prop := Claim7.holds Tryz.pinned (.plain (OpenSpec.upto brokerReadSpec)) brokerReadUptoCard

/-- THE SECOND FORM's CARD OF 'dragomanlaw.BrokerRight'. -/
def brokerRightUptoCard : Claim7 := { stood := { row := brokerRightUptoRow, standIns := [], harness := (true, "cfa388bb097e2bfcfa81c8cb1b5f87eda92b1a17f4378b5d20fdd1c229b01e71"), looks := false }, kinds := [], alts := [], laidByText := true, laidKinds := [.data, .pinned], laidTests := true, laidLooks := .later }
def BrokerRightUptoCardSaid : Prop := Claim7.holds Tryz.pinned (.plain (OpenSpec.upto brokerRightSpec)) brokerRightUptoCard
end Rows
end Go.Proofs.YtkhakgbnfapifaaGreatDoor
