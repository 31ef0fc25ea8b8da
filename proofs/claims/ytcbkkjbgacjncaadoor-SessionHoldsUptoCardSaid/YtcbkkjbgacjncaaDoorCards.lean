/-
  DERIVED. GIVEN WITH THE SEED: THE CARDS: each row of YtcbkkjbgacjncaaDoorRows.lean that lists a variable, with what it lists TIED to the program's text (the seventh form; the later family's looks); each row that meets fmt, with fmt's text TOLD by the authors' own Lean function (tested against real Go, not proved from fmt's source: count such statements apart). THE CARD IS WHAT COUNTS. Prove the row's statement (the work); the ties are given (YtcbkkjbgacjncaaDoorTie.lean); close each card by the builder's one call (the guide's Derived/Test/ToyasCard.lean, 'card_holds'). Laid BY PROGRAM, IN A SANDBOX (cutbox-door.mjs). By AI agents, Wed Nov 11 2026. No macro, syntax, notation, axiom, sorry.
-/
import Derived.Test.YtcbkkjbgacjncaaDoorRows
import GoSem.ClaimSeven
namespace Go.Proofs.YtcbkkjbgacjncaaDoor
namespace Rows

/-- THE TIED CARD OF 'dragomanlaw.TopicWitness'. -/
def topicWitnessCard : Claim7 := { stood := { row := topicWitnessRow, standIns := [], harness := (true, "8c22d78a80aa4c64abb09e1f8e68337151b655c4d39ab2d79beb0d8b6d08cc77"), looks := false }, kinds := [], alts := [], laidByText := true, laidKinds := [.data, .pinned], laidTests := true, laidLooks := .later }
def TopicWitnessCardSaid : Prop := Claim7.holds Tryd.pinned (.plain (OpenSpec.ofChange topicWitnessSpec)) topicWitnessCard

/-- THE TIED CARD OF 'dragomanlaw.SessionHolds'. -/
def sessionHoldsCard : Claim7 := { stood := { row := sessionHoldsRow, standIns := [], harness := (true, "8c22d78a80aa4c64abb09e1f8e68337151b655c4d39ab2d79beb0d8b6d08cc77"), looks := false }, kinds := [], alts := [], laidByText := true, laidKinds := [.data, .pinned], laidTests := true, laidLooks := .later }
def SessionHoldsCardSaid : Prop := Claim7.holds Tryd.pinned (.plain (OpenSpec.ofChange sessionHoldsSpec)) sessionHoldsCard

/-- THE SECOND FORM's CARD OF 'dragomanlaw.TopicWitness'. -/
def topicWitnessUptoCard : Claim7 := { stood := { row := topicWitnessUptoRow, standIns := [], harness := (true, "8c22d78a80aa4c64abb09e1f8e68337151b655c4d39ab2d79beb0d8b6d08cc77"), looks := false }, kinds := [], alts := [], laidByText := true, laidKinds := [.data, .pinned], laidTests := true, laidLooks := .later }
def TopicWitnessUptoCardSaid : Prop := Claim7.holds Tryd.pinned (.plain (OpenSpec.upto topicWitnessSpec)) topicWitnessUptoCard

/-- THE SECOND FORM's CARD OF 'dragomanlaw.SessionHolds'. -/
def sessionHoldsUptoCard : Claim7 := { stood := { row := sessionHoldsUptoRow, standIns := [], harness := (true, "8c22d78a80aa4c64abb09e1f8e68337151b655c4d39ab2d79beb0d8b6d08cc77"), looks := false }, kinds := [], alts := [], laidByText := true, laidKinds := [.data, .pinned], laidTests := true, laidLooks := .later }
def SessionHoldsUptoCardSaid : Prop := Claim7.holds Tryd.pinned (.plain (OpenSpec.upto sessionHoldsSpec)) sessionHoldsUptoCard
end Rows
end Go.Proofs.YtcbkkjbgacjncaaDoor
