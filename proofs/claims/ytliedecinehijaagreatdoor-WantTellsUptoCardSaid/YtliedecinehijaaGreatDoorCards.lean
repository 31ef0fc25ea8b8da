/-
  DERIVED. GIVEN WITH THE SEED: THE CARDS: each row of YtliedecinehijaaGreatDoorRows.lean that lists a variable, with what it lists TIED to the program's text (the seventh form; the later family's looks); each row that meets fmt, with fmt's text TOLD by the authors' own Lean function (tested against real Go, not proved from fmt's source: count such statements apart). THE CARD IS WHAT COUNTS. Prove the row's statement (the work); the ties are given (YtliedecinehijaaGreatDoorTie.lean); close each card by the builder's one call (the guide's Derived/Test/ToyasCard.lean, 'card_holds'). Laid BY PROGRAM, IN A SANDBOX (cutbox-door.mjs). By AI agents, Wed Nov 11 2026. No macro, syntax, notation, axiom, sorry.
-/
import Derived.Test.YtliedecinehijaaGreatDoorRows
import GoSem.ClaimSeven
namespace Go.Proofs.YtliedecinehijaaGreatDoor
namespace Rows

/-- THE TIED CARD OF 'dragomanlaw.PacketTells'. -/
def packetTellsCard : Claim7 := { stood := { row := packetTellsRow, standIns := [], harness := (true, "7378a7f74f846e8293554304a1ed6e483fe1d15039ec0f96f999ee1b07731f20"), looks := false }, kinds := [], alts := [], laidByText := true, laidKinds := [.data, .pinned], laidTests := true, laidLooks := .later }
def PacketTellsCardSaid : Prop := Claim7.holds Tryz.pinned (.plain (OpenSpec.ofChange packetTellsSpec)) packetTellsCard

/-- THE TIED CARD OF 'dragomanlaw.FrameFeeds'. -/
def frameFeedsCard : Claim7 := { stood := { row := frameFeedsRow, standIns := [], harness := (true, "7378a7f74f846e8293554304a1ed6e483fe1d15039ec0f96f999ee1b07731f20"), looks := false }, kinds := [], alts := [], laidByText := true, laidKinds := [.data, .pinned], laidTests := true, laidLooks := .later }
def FrameFeedsCardSaid : Prop := Claim7.holds Tryz.pinned (.plain (OpenSpec.ofChange frameFeedsSpec)) frameFeedsCard

/-- THE TIED CARD OF 'dragomanlaw.WantTells'. -/
def wantTellsCard : Claim7 := { stood := { row := wantTellsRow, standIns := [], harness := (true, "7378a7f74f846e8293554304a1ed6e483fe1d15039ec0f96f999ee1b07731f20"), looks := false }, kinds := [], alts := [], laidByText := true, laidKinds := [.data, .pinned], laidTests := true, laidLooks := .later }
def WantTellsCardSaid : Prop := Claim7.holds Tryz.pinned (.plain (OpenSpec.ofChange wantTellsSpec)) wantTellsCard

/-- THE TIED CARD OF 'dragomanlaw.RestBytes'. -/
def restBytesCard : Claim7 := { stood := { row := restBytesRow, standIns := [], harness := (true, "7378a7f74f846e8293554304a1ed6e483fe1d15039ec0f96f999ee1b07731f20"), looks := false }, kinds := [], alts := [], laidByText := true, laidKinds := [.data, .pinned], laidTests := true, laidLooks := .later }
def RestBytesCardSaid : Prop := Claim7.holds Tryz.pinned (.plain (OpenSpec.ofChange restBytesSpec)) restBytesCard

/-- THE SECOND FORM's CARD OF 'dragomanlaw.PacketTells'. -/
def packetTellsUptoCard : Claim7 := { stood := { row := packetTellsUptoRow, standIns := [], harness := (true, "7378a7f74f846e8293554304a1ed6e483fe1d15039ec0f96f999ee1b07731f20"), looks := false }, kinds := [], alts := [], laidByText := true, laidKinds := [.data, .pinned], laidTests := true, laidLooks := .later }
def PacketTellsUptoCardSaid : Prop := Claim7.holds Tryz.pinned (.plain (OpenSpec.upto packetTellsSpec)) packetTellsUptoCard

/-- THE SECOND FORM's CARD OF 'dragomanlaw.FrameFeeds'. -/
def frameFeedsUptoCard : Claim7 := { stood := { row := frameFeedsUptoRow, standIns := [], harness := (true, "7378a7f74f846e8293554304a1ed6e483fe1d15039ec0f96f999ee1b07731f20"), looks := false }, kinds := [], alts := [], laidByText := true, laidKinds := [.data, .pinned], laidTests := true, laidLooks := .later }
def FrameFeedsUptoCardSaid : Prop := Claim7.holds Tryz.pinned (.plain (OpenSpec.upto frameFeedsSpec)) frameFeedsUptoCard

/-- THE SECOND FORM's CARD OF 'dragomanlaw.WantTells'. -/
def wantTellsUptoCard : Claim7 := { stood := { row := wantTellsUptoRow, standIns := [], harness := (true, "7378a7f74f846e8293554304a1ed6e483fe1d15039ec0f96f999ee1b07731f20"), looks := false }, kinds := [], alts := [], laidByText := true, laidKinds := [.data, .pinned], laidTests := true, laidLooks := .later }
def WantTellsUptoCardSaid : Prop := Claim7.holds Tryz.pinned (.plain (OpenSpec.upto wantTellsSpec)) wantTellsUptoCard

/-- THE SECOND FORM's CARD OF 'dragomanlaw.RestBytes'. -/
def restBytesUptoCard : Claim7 := { stood := { row := restBytesUptoRow, standIns := [], harness := (true, "7378a7f74f846e8293554304a1ed6e483fe1d15039ec0f96f999ee1b07731f20"), looks := false }, kinds := [], alts := [], laidByText := true, laidKinds := [.data, .pinned], laidTests := true, laidLooks := .later }
def RestBytesUptoCardSaid : Prop := Claim7.holds Tryz.pinned (.plain (OpenSpec.upto restBytesSpec)) restBytesUptoCard
end Rows
end Go.Proofs.YtliedecinehijaaGreatDoor
