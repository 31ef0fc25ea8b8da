/-
  DERIVED. GIVEN WITH THE SEED: THE CARDS: each row of YtfcofbfbgcbocaaGreatDoorRows.lean that lists a variable, with what it lists TIED to the program's text (the seventh form; the later family's looks); each row that meets fmt, with fmt's text TOLD by the authors' own Lean function (tested against real Go, not proved from fmt's source: count such statements apart). THE CARD IS WHAT COUNTS. Prove the row's statement (the work); the ties are given (YtfcofbfbgcbocaaGreatDoorTie.lean); close each card by the builder's one call (the guide's Derived/Test/ToyasCard.lean, 'card_holds'). Laid BY PROGRAM, IN A SANDBOX (cutbox-door.mjs). By AI agents, Wed Nov 11 2026. No macro, syntax, notation, axiom, sorry.
-/
import Derived.Test.YtfcofbfbgcbocaaGreatDoorRows
import GoSem.ClaimSeven
namespace Go.Proofs.YtfcofbfbgcbocaaGreatDoor
namespace Rows

/-- THE TIED CARD OF 'dragomanlaw.WorldAlone'. -/
def worldAloneCard : Claim7 := { stood := { row := worldAloneRow, standIns := [], harness := (true, "817eb3b57f7c8e9b4b6902d9f54f0c44ec5bc57011a63ac815ea2af9da9b8f70"), looks := false }, kinds := [], alts := [], laidByText := true, laidKinds := [.data, .pinned], laidTests := true, laidLooks := .later }
def WorldAloneCardSaid : Prop := Claim7.holds Tryz.pinned (.plain (OpenSpec.ofChange worldAloneSpec)) worldAloneCard

/-- THE TIED CARD OF 'dragomanlaw.WorldRuns'. -/
def worldRunsCard : Claim7 := { stood := { row := worldRunsRow, standIns := [], harness := (true, "817eb3b57f7c8e9b4b6902d9f54f0c44ec5bc57011a63ac815ea2af9da9b8f70"), looks := false }, kinds := [], alts := [], laidByText := true, laidKinds := [.data, .pinned], laidTests := true, laidLooks := .later }
def WorldRunsCardSaid : Prop := Claim7.holds Tryz.pinned (.plain (OpenSpec.ofChange worldRunsSpec)) worldRunsCard

/-- THE TIED CARD OF 'dragomanlaw.WorldPieces'. -/
def worldPiecesCard : Claim7 := { stood := { row := worldPiecesRow, standIns := [], harness := (true, "817eb3b57f7c8e9b4b6902d9f54f0c44ec5bc57011a63ac815ea2af9da9b8f70"), looks := false }, kinds := [], alts := [], laidByText := true, laidKinds := [.data, .pinned], laidTests := true, laidLooks := .later }
def WorldPiecesCardSaid : Prop := Claim7.holds Tryz.pinned (.plain (OpenSpec.ofChange worldPiecesSpec)) worldPiecesCard

/-- THE SECOND FORM's CARD OF 'dragomanlaw.WorldAlone'. -/
def worldAloneUptoCard : Claim7 := { stood := { row := worldAloneUptoRow, standIns := [], harness := (true, "817eb3b57f7c8e9b4b6902d9f54f0c44ec5bc57011a63ac815ea2af9da9b8f70"), looks := false }, kinds := [], alts := [], laidByText := true, laidKinds := [.data, .pinned], laidTests := true, laidLooks := .later }
def WorldAloneUptoCardSaid : Prop := Claim7.holds Tryz.pinned (.plain (OpenSpec.upto worldAloneSpec)) worldAloneUptoCard

/-- THE SECOND FORM's CARD OF 'dragomanlaw.WorldRuns'. -/
def worldRunsUptoCard : Claim7 := { stood := { row := worldRunsUptoRow, standIns := [], harness := (true, "817eb3b57f7c8e9b4b6902d9f54f0c44ec5bc57011a63ac815ea2af9da9b8f70"), looks := false }, kinds := [], alts := [], laidByText := true, laidKinds := [.data, .pinned], laidTests := true, laidLooks := .later }
def WorldRunsUptoCardSaid : Prop := Claim7.holds Tryz.pinned (.plain (OpenSpec.upto worldRunsSpec)) worldRunsUptoCard

/-- THE SECOND FORM's CARD OF 'dragomanlaw.WorldPieces'. -/
def worldPiecesUptoCard : Claim7 := { stood := { row := worldPiecesUptoRow, standIns := [], harness := (true, "817eb3b57f7c8e9b4b6902d9f54f0c44ec5bc57011a63ac815ea2af9da9b8f70"), looks := false }, kinds := [], alts := [], laidByText := true, laidKinds := [.data, .pinned], laidTests := true, laidLooks := .later }
def WorldPiecesUptoCardSaid : Prop := Claim7.holds Tryz.pinned (.plain (OpenSpec.upto worldPiecesSpec)) worldPiecesUptoCard
end Rows
end Go.Proofs.YtfcofbfbgcbocaaGreatDoor
