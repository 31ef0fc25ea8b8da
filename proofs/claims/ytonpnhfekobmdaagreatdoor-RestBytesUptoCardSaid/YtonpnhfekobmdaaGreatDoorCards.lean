/-
  DERIVED. GIVEN WITH THE SEED: THE CARDS: each row of YtonpnhfekobmdaaGreatDoorRows.lean that lists a variable, with what it lists TIED to the program's text (the seventh form; the later family's looks); each row that meets fmt, with fmt's text TOLD by the authors' own Lean function (tested against real Go, not proved from fmt's source: count such statements apart). THE CARD IS WHAT COUNTS. Prove the row's statement (the work); the ties are given (YtonpnhfekobmdaaGreatDoorTie.lean); close each card by the builder's one call (the guide's Derived/Test/ToyasCard.lean, 'card_holds'). Laid BY PROGRAM, IN A SANDBOX (cutbox-door.mjs). By AI agents, Wed Nov 11 2026. No macro, syntax, notation, axiom, sorry.
-/
import Derived.Test.YtonpnhfekobmdaaGreatDoorRows
import GoSem.ClaimSeven
namespace Go.Proofs.YtonpnhfekobmdaaGreatDoor
namespace Rows

/-- THE TIED CARD OF 'dragomanlaw.RestBytes'. -/
def restBytesCard : Claim7 := { stood := { row := restBytesRow, standIns := [], harness := (true, "b9ec2cfa788a7743fe251e5866bf8a7172c16fbc90240451d4fe2d119f4bf8ab"), looks := false }, kinds := [], alts := [], laidByText := true, laidKinds := [.data, .pinned], laidTests := true, laidLooks := .later }
def RestBytesCardSaid : Prop := Claim7.holds Tryz.pinned (.plain (OpenSpec.ofChange restBytesSpec)) restBytesCard

/-- THE SECOND FORM's CARD OF 'dragomanlaw.RestBytes'. -/
def restBytesUptoCard : Claim7 := { stood := { row := restBytesUptoRow, standIns := [], harness := (true, "b9ec2cfa788a7743fe251e5866bf8a7172c16fbc90240451d4fe2d119f4bf8ab"), looks := false }, kinds := [], alts := [], laidByText := true, laidKinds := [.data, .pinned], laidTests := true, laidLooks := .later }
def RestBytesUptoCardSaid : Prop := Claim7.holds Tryz.pinned (.plain (OpenSpec.upto restBytesSpec)) restBytesUptoCard
end Rows
end Go.Proofs.YtonpnhfekobmdaaGreatDoor
