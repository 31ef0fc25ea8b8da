/-
  DERIVED. GIVEN WITH THE SEED: THE CARDS: each row of YtldmdbipjhkaeaaGreatDoorRows.lean that lists a variable, with what it lists TIED to the program's text (the seventh form; the later family's looks); each row that meets fmt, with fmt's text TOLD by the authors' own Lean function (tested against real Go, not proved from fmt's source: count such statements apart). THE CARD IS WHAT COUNTS. Prove the row's statement (the work); the ties are given (YtldmdbipjhkaeaaGreatDoorTie.lean); close each card by the builder's one call (the guide's Derived/Test/ToyasCard.lean, 'card_holds'). Laid BY PROGRAM, IN A SANDBOX (cutbox-door.mjs). By AI agents, Wed Nov 11 2026. No macro, syntax, notation, axiom, sorry.
-/
import Derived.Test.YtldmdbipjhkaeaaGreatDoorRows
import GoSem.ClaimSeven
namespace Go.Proofs.YtldmdbipjhkaeaaGreatDoor
namespace Rows

/-- THE TIED CARD OF 'dragomanlaw.BrokerPackets'. -/
def brokerPacketsCard : Claim7 := { stood := { row := brokerPacketsRow, standIns := [], harness := (true, "db2faf7c6f9a74cec95198d187a6b1c2a0ac939b71b51ac8a8575e2662ad08cf"), looks := false }, kinds := [], alts := [], laidByText := true, laidKinds := [.data, .pinned], laidTests := true, laidLooks := .later }
def BrokerPacketsCardSaid : Prop := Claim7.holds Tryz.pinned (.plain (OpenSpec.ofChange brokerPacketsSpec)) brokerPacketsCard

/-- THE TIED CARD OF 'dragomanlaw.BrokerMessages'. -/
def brokerMessagesCard : Claim7 := { stood := { row := brokerMessagesRow, standIns := [], harness := (true, "db2faf7c6f9a74cec95198d187a6b1c2a0ac939b71b51ac8a8575e2662ad08cf"), looks := false }, kinds := [], alts := [], laidByText := true, laidKinds := [.data, .pinned], laidTests := true, laidLooks := .later }
def BrokerMessagesCardSaid : Prop := Claim7.holds Tryz.pinned (.plain (OpenSpec.ofChange brokerMessagesSpec)) brokerMessagesCard

/-- THE SECOND FORM's CARD OF 'dragomanlaw.BrokerPackets'. -/
def brokerPacketsUptoCard : Claim7 := { stood := { row := brokerPacketsUptoRow, standIns := [], harness := (true, "db2faf7c6f9a74cec95198d187a6b1c2a0ac939b71b51ac8a8575e2662ad08cf"), looks := false }, kinds := [], alts := [], laidByText := true, laidKinds := [.data, .pinned], laidTests := true, laidLooks := .later }
def BrokerPacketsUptoCardSaid : Prop := Claim7.holds Tryz.pinned (.plain (OpenSpec.upto brokerPacketsSpec)) brokerPacketsUptoCard

/-- THE SECOND FORM's CARD OF 'dragomanlaw.BrokerMessages'. -/
def brokerMessagesUptoCard : Claim7 := { stood := { row := brokerMessagesUptoRow, standIns := [], harness := (true, "db2faf7c6f9a74cec95198d187a6b1c2a0ac939b71b51ac8a8575e2662ad08cf"), looks := false }, kinds := [], alts := [], laidByText := true, laidKinds := [.data, .pinned], laidTests := true, laidLooks := .later }
def BrokerMessagesUptoCardSaid : Prop := Claim7.holds Tryz.pinned (.plain (OpenSpec.upto brokerMessagesSpec)) brokerMessagesUptoCard
end Rows
end Go.Proofs.YtldmdbipjhkaeaaGreatDoor
