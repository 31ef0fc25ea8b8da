/-
  DERIVED. GIVEN WITH THE SEED: THE CARDS: each row of YtkalmhdckoocbaaDoorRows.lean that lists a variable, with what it lists TIED to the program's text (the seventh form; the later family's looks); each row that meets fmt, with fmt's text TOLD by the authors' own Lean function (tested against real Go, not proved from fmt's source: count such statements apart). THE CARD IS WHAT COUNTS. Prove the row's statement (the work); the ties are given (YtkalmhdckoocbaaDoorTie.lean); close each card by the builder's one call (the guide's Derived/Test/ToyasCard.lean, 'card_holds'). Laid BY PROGRAM, IN A SANDBOX (cutbox-door.mjs). By AI agents, Wed Nov 11 2026. No macro, syntax, notation, axiom, sorry.
-/
import Derived.Test.YtkalmhdckoocbaaDoorRows
import GoSem.ClaimSeven
namespace Go.Proofs.YtkalmhdckoocbaaDoor
namespace Rows

/-- THE TIED CARD OF 'dragomanlaw.TopicPlain'. -/
def topicPlainCard : Claim7 := { stood := { row := topicPlainRow, standIns := [], harness := (true, "263ae8b7d4b47e54ad18566ca8b43fe417b45fefa56087f5a5bb258be8ec608c"), looks := false }, kinds := [], alts := [], laidByText := true, laidKinds := [.data, .pinned], laidTests := true, laidLooks := .later }
def TopicPlainCardSaid : Prop := Claim7.holds Tryd.pinned (.plain (OpenSpec.ofChange topicPlainSpec)) topicPlainCard

/-- THE TIED CARD OF 'dragomanlaw.TopicTells'. -/
def topicTellsCard : Claim7 := { stood := { row := topicTellsRow, standIns := [], harness := (true, "263ae8b7d4b47e54ad18566ca8b43fe417b45fefa56087f5a5bb258be8ec608c"), looks := false }, kinds := [], alts := [], laidByText := true, laidKinds := [.data, .pinned], laidTests := true, laidLooks := .later }
def TopicTellsCardSaid : Prop := Claim7.holds Tryd.pinned (.plain (OpenSpec.ofChange topicTellsSpec)) topicTellsCard

/-- THE TIED CARD OF 'dragomanlaw.TopicCovers'. -/
def topicCoversCard : Claim7 := { stood := { row := topicCoversRow, standIns := [], harness := (true, "263ae8b7d4b47e54ad18566ca8b43fe417b45fefa56087f5a5bb258be8ec608c"), looks := false }, kinds := [], alts := [], laidByText := true, laidKinds := [.data, .pinned], laidTests := true, laidLooks := .later }
def TopicCoversCardSaid : Prop := Claim7.holds Tryd.pinned (.plain (OpenSpec.ofChange topicCoversSpec)) topicCoversCard

/-- THE TIED CARD OF 'dragomanlaw.TopicWitness'. -/
def topicWitnessCard : Claim7 := { stood := { row := topicWitnessRow, standIns := [], harness := (true, "263ae8b7d4b47e54ad18566ca8b43fe417b45fefa56087f5a5bb258be8ec608c"), looks := false }, kinds := [], alts := [], laidByText := true, laidKinds := [.data, .pinned], laidTests := true, laidLooks := .later }
def TopicWitnessCardSaid : Prop := Claim7.holds Tryd.pinned (.plain (OpenSpec.ofChange topicWitnessSpec)) topicWitnessCard

/-- THE TIED CARD OF 'dragomanlaw.WatchTells'. -/
def watchTellsCard : Claim7 := { stood := { row := watchTellsRow, standIns := [], harness := (true, "263ae8b7d4b47e54ad18566ca8b43fe417b45fefa56087f5a5bb258be8ec608c"), looks := false }, kinds := [], alts := [], laidByText := true, laidKinds := [.data, .pinned], laidTests := true, laidLooks := .later }
def WatchTellsCardSaid : Prop := Claim7.holds Tryd.pinned (.plain (OpenSpec.ofChange watchTellsSpec)) watchTellsCard

/-- THE TIED CARD OF 'dragomanlaw.WatchFresh'. -/
def watchFreshCard : Claim7 := { stood := { row := watchFreshRow, standIns := [], harness := (true, "263ae8b7d4b47e54ad18566ca8b43fe417b45fefa56087f5a5bb258be8ec608c"), looks := false }, kinds := [], alts := [], laidByText := true, laidKinds := [.data, .pinned], laidTests := true, laidLooks := .later }
def WatchFreshCardSaid : Prop := Claim7.holds Tryd.pinned (.plain (OpenSpec.ofChange watchFreshSpec)) watchFreshCard

/-- THE TIED CARD OF 'dragomanlaw.WatchOne'. -/
def watchOneCard : Claim7 := { stood := { row := watchOneRow, standIns := [], harness := (true, "263ae8b7d4b47e54ad18566ca8b43fe417b45fefa56087f5a5bb258be8ec608c"), looks := false }, kinds := [], alts := [], laidByText := true, laidKinds := [.data, .pinned], laidTests := true, laidLooks := .later }
def WatchOneCardSaid : Prop := Claim7.holds Tryd.pinned (.plain (OpenSpec.ofChange watchOneSpec)) watchOneCard

/-- THE TIED CARD OF 'dragomanlaw.SessionTells'. -/
def sessionTellsCard : Claim7 := { stood := { row := sessionTellsRow, standIns := [], harness := (true, "263ae8b7d4b47e54ad18566ca8b43fe417b45fefa56087f5a5bb258be8ec608c"), looks := false }, kinds := [], alts := [], laidByText := true, laidKinds := [.data, .pinned], laidTests := true, laidLooks := .later }
def SessionTellsCardSaid : Prop := Claim7.holds Tryd.pinned (.plain (OpenSpec.ofChange sessionTellsSpec)) sessionTellsCard

/-- THE TIED CARD OF 'dragomanlaw.SessionHolds'. -/
def sessionHoldsCard : Claim7 := { stood := { row := sessionHoldsRow, standIns := [], harness := (true, "263ae8b7d4b47e54ad18566ca8b43fe417b45fefa56087f5a5bb258be8ec608c"), looks := false }, kinds := [], alts := [], laidByText := true, laidKinds := [.data, .pinned], laidTests := true, laidLooks := .later }
def SessionHoldsCardSaid : Prop := Claim7.holds Tryd.pinned (.plain (OpenSpec.ofChange sessionHoldsSpec)) sessionHoldsCard

/-- THE TIED CARD OF 'dragomanlaw.KeepTells'. -/
def keepTellsCard : Claim7 := { stood := { row := keepTellsRow, standIns := [], harness := (true, "263ae8b7d4b47e54ad18566ca8b43fe417b45fefa56087f5a5bb258be8ec608c"), looks := false }, kinds := [], alts := [], laidByText := true, laidKinds := [.data, .pinned], laidTests := true, laidLooks := .later }
def KeepTellsCardSaid : Prop := Claim7.holds Tryd.pinned (.plain (OpenSpec.ofChange keepTellsSpec)) keepTellsCard

/-- THE TIED CARD OF 'dragomanlaw.KeepLast'. -/
def keepLastCard : Claim7 := { stood := { row := keepLastRow, standIns := [], harness := (true, "263ae8b7d4b47e54ad18566ca8b43fe417b45fefa56087f5a5bb258be8ec608c"), looks := false }, kinds := [], alts := [], laidByText := true, laidKinds := [.data, .pinned], laidTests := true, laidLooks := .later }
def KeepLastCardSaid : Prop := Claim7.holds Tryd.pinned (.plain (OpenSpec.ofChange keepLastSpec)) keepLastCard

/-- THE TIED CARD OF 'dragomanlaw.KeepList'. -/
def keepListCard : Claim7 := { stood := { row := keepListRow, standIns := [], harness := (true, "263ae8b7d4b47e54ad18566ca8b43fe417b45fefa56087f5a5bb258be8ec608c"), looks := false }, kinds := [], alts := [], laidByText := true, laidKinds := [.data, .pinned], laidTests := true, laidLooks := .later }
def KeepListCardSaid : Prop := Claim7.holds Tryd.pinned (.plain (OpenSpec.ofChange keepListSpec)) keepListCard

/-- THE SECOND FORM's CARD OF 'dragomanlaw.TopicPlain'. -/
def topicPlainUptoCard : Claim7 := { stood := { row := topicPlainUptoRow, standIns := [], harness := (true, "263ae8b7d4b47e54ad18566ca8b43fe417b45fefa56087f5a5bb258be8ec608c"), looks := false }, kinds := [], alts := [], laidByText := true, laidKinds := [.data, .pinned], laidTests := true, laidLooks := .later }
def TopicPlainUptoCardSaid : Prop := Claim7.holds Tryd.pinned (.plain (OpenSpec.upto topicPlainSpec)) topicPlainUptoCard

/-- THE SECOND FORM's CARD OF 'dragomanlaw.TopicTells'. -/
def topicTellsUptoCard : Claim7 := { stood := { row := topicTellsUptoRow, standIns := [], harness := (true, "263ae8b7d4b47e54ad18566ca8b43fe417b45fefa56087f5a5bb258be8ec608c"), looks := false }, kinds := [], alts := [], laidByText := true, laidKinds := [.data, .pinned], laidTests := true, laidLooks := .later }
def TopicTellsUptoCardSaid : Prop := Claim7.holds Tryd.pinned (.plain (OpenSpec.upto topicTellsSpec)) topicTellsUptoCard

/-- THE SECOND FORM's CARD OF 'dragomanlaw.TopicCovers'. -/
def topicCoversUptoCard : Claim7 := { stood := { row := topicCoversUptoRow, standIns := [], harness := (true, "263ae8b7d4b47e54ad18566ca8b43fe417b45fefa56087f5a5bb258be8ec608c"), looks := false }, kinds := [], alts := [], laidByText := true, laidKinds := [.data, .pinned], laidTests := true, laidLooks := .later }
def TopicCoversUptoCardSaid : Prop := Claim7.holds Tryd.pinned (.plain (OpenSpec.upto topicCoversSpec)) topicCoversUptoCard

/-- THE SECOND FORM's CARD OF 'dragomanlaw.TopicWitness'. -/
def topicWitnessUptoCard : Claim7 := { stood := { row := topicWitnessUptoRow, standIns := [], harness := (true, "263ae8b7d4b47e54ad18566ca8b43fe417b45fefa56087f5a5bb258be8ec608c"), looks := false }, kinds := [], alts := [], laidByText := true, laidKinds := [.data, .pinned], laidTests := true, laidLooks := .later }
def TopicWitnessUptoCardSaid : Prop := Claim7.holds Tryd.pinned (.plain (OpenSpec.upto topicWitnessSpec)) topicWitnessUptoCard

/-- THE SECOND FORM's CARD OF 'dragomanlaw.WatchTells'. -/
def watchTellsUptoCard : Claim7 := { stood := { row := watchTellsUptoRow, standIns := [], harness := (true, "263ae8b7d4b47e54ad18566ca8b43fe417b45fefa56087f5a5bb258be8ec608c"), looks := false }, kinds := [], alts := [], laidByText := true, laidKinds := [.data, .pinned], laidTests := true, laidLooks := .later }
def WatchTellsUptoCardSaid : Prop := Claim7.holds Tryd.pinned (.plain (OpenSpec.upto watchTellsSpec)) watchTellsUptoCard

/-- THE SECOND FORM's CARD OF 'dragomanlaw.WatchFresh'. -/
def watchFreshUptoCard : Claim7 := { stood := { row := watchFreshUptoRow, standIns := [], harness := (true, "263ae8b7d4b47e54ad18566ca8b43fe417b45fefa56087f5a5bb258be8ec608c"), looks := false }, kinds := [], alts := [], laidByText := true, laidKinds := [.data, .pinned], laidTests := true, laidLooks := .later }
def WatchFreshUptoCardSaid : Prop := Claim7.holds Tryd.pinned (.plain (OpenSpec.upto watchFreshSpec)) watchFreshUptoCard

/-- THE SECOND FORM's CARD OF 'dragomanlaw.WatchOne'. -/
def watchOneUptoCard : Claim7 := { stood := { row := watchOneUptoRow, standIns := [], harness := (true, "263ae8b7d4b47e54ad18566ca8b43fe417b45fefa56087f5a5bb258be8ec608c"), looks := false }, kinds := [], alts := [], laidByText := true, laidKinds := [.data, .pinned], laidTests := true, laidLooks := .later }
def WatchOneUptoCardSaid : Prop := Claim7.holds Tryd.pinned (.plain (OpenSpec.upto watchOneSpec)) watchOneUptoCard

/-- THE SECOND FORM's CARD OF 'dragomanlaw.SessionTells'. -/
def sessionTellsUptoCard : Claim7 := { stood := { row := sessionTellsUptoRow, standIns := [], harness := (true, "263ae8b7d4b47e54ad18566ca8b43fe417b45fefa56087f5a5bb258be8ec608c"), looks := false }, kinds := [], alts := [], laidByText := true, laidKinds := [.data, .pinned], laidTests := true, laidLooks := .later }
def SessionTellsUptoCardSaid : Prop := Claim7.holds Tryd.pinned (.plain (OpenSpec.upto sessionTellsSpec)) sessionTellsUptoCard

/-- THE SECOND FORM's CARD OF 'dragomanlaw.SessionHolds'. -/
def sessionHoldsUptoCard : Claim7 := { stood := { row := sessionHoldsUptoRow, standIns := [], harness := (true, "263ae8b7d4b47e54ad18566ca8b43fe417b45fefa56087f5a5bb258be8ec608c"), looks := false }, kinds := [], alts := [], laidByText := true, laidKinds := [.data, .pinned], laidTests := true, laidLooks := .later }
def SessionHoldsUptoCardSaid : Prop := Claim7.holds Tryd.pinned (.plain (OpenSpec.upto sessionHoldsSpec)) sessionHoldsUptoCard

/-- THE SECOND FORM's CARD OF 'dragomanlaw.KeepTells'. -/
def keepTellsUptoCard : Claim7 := { stood := { row := keepTellsUptoRow, standIns := [], harness := (true, "263ae8b7d4b47e54ad18566ca8b43fe417b45fefa56087f5a5bb258be8ec608c"), looks := false }, kinds := [], alts := [], laidByText := true, laidKinds := [.data, .pinned], laidTests := true, laidLooks := .later }
def KeepTellsUptoCardSaid : Prop := Claim7.holds Tryd.pinned (.plain (OpenSpec.upto keepTellsSpec)) keepTellsUptoCard

/-- THE SECOND FORM's CARD OF 'dragomanlaw.KeepLast'. -/
def keepLastUptoCard : Claim7 := { stood := { row := keepLastUptoRow, standIns := [], harness := (true, "263ae8b7d4b47e54ad18566ca8b43fe417b45fefa56087f5a5bb258be8ec608c"), looks := false }, kinds := [], alts := [], laidByText := true, laidKinds := [.data, .pinned], laidTests := true, laidLooks := .later }
def KeepLastUptoCardSaid : Prop := Claim7.holds Tryd.pinned (.plain (OpenSpec.upto keepLastSpec)) keepLastUptoCard

/-- THE SECOND FORM's CARD OF 'dragomanlaw.KeepList'. -/
def keepListUptoCard : Claim7 := { stood := { row := keepListUptoRow, standIns := [], harness := (true, "263ae8b7d4b47e54ad18566ca8b43fe417b45fefa56087f5a5bb258be8ec608c"), looks := false }, kinds := [], alts := [], laidByText := true, laidKinds := [.data, .pinned], laidTests := true, laidLooks := .later }
def KeepListUptoCardSaid : Prop := Claim7.holds Tryd.pinned (.plain (OpenSpec.upto keepListSpec)) keepListUptoCard
end Rows
end Go.Proofs.YtkalmhdckoocbaaDoor
