/-
  DERIVED. GIVEN WITH THE SEED: THE CARDS: each row of YtliedecinehijaaDoorRows.lean that lists a variable, with what it lists TIED to the program's text (the seventh form; the later family's looks); each row that meets fmt, with fmt's text TOLD by the authors' own Lean function (tested against real Go, not proved from fmt's source: count such statements apart). THE CARD IS WHAT COUNTS. Prove the row's statement (the work); the ties are given (YtliedecinehijaaDoorTie.lean); close each card by the builder's one call (the guide's Derived/Test/ToyasCard.lean, 'card_holds'). Laid BY PROGRAM, IN A SANDBOX (cutbox-door.mjs). By AI agents, Wed Nov 11 2026. No macro, syntax, notation, axiom, sorry.
-/
import Derived.Test.YtliedecinehijaaDoorRows
import GoSem.ClaimSeven
namespace Go.Proofs.YtliedecinehijaaDoor
namespace Rows

/-- THE TIED CARD OF 'dragomanlaw.PacketApart'. -/
def packetApartCard : Claim7 := { stood := { row := packetApartRow, standIns := [], harness := (true, "57ea8720f18225e823f37e0e6627b51b6675c95752078296ff6f3df9fac2797f"), looks := false }, kinds := [], alts := [], laidByText := true, laidKinds := [.data, .pinned], laidTests := true, laidLooks := .later }
def PacketApartCardSaid : Prop := Claim7.holds Tryd.pinned (.plain (OpenSpec.ofChange packetApartSpec)) packetApartCard

/-- THE TIED CARD OF 'dragomanlaw.PacketBack'. -/
def packetBackCard : Claim7 := { stood := { row := packetBackRow, standIns := [], harness := (true, "57ea8720f18225e823f37e0e6627b51b6675c95752078296ff6f3df9fac2797f"), looks := false }, kinds := [], alts := [], laidByText := true, laidKinds := [.data, .pinned], laidTests := true, laidLooks := .later }
def PacketBackCardSaid : Prop := Claim7.holds Tryd.pinned (.plain (OpenSpec.ofChange packetBackSpec)) packetBackCard

/-- THE TIED CARD OF 'dragomanlaw.FramePieces'. -/
def framePiecesCard : Claim7 := { stood := { row := framePiecesRow, standIns := [], harness := (true, "57ea8720f18225e823f37e0e6627b51b6675c95752078296ff6f3df9fac2797f"), looks := false }, kinds := [], alts := [], laidByText := true, laidKinds := [.data, .pinned], laidTests := true, laidLooks := .later }
def FramePiecesCardSaid : Prop := Claim7.holds Tryd.pinned (.plain (OpenSpec.ofChange framePiecesSpec)) framePiecesCard

/-- THE TIED CARD OF 'dragomanlaw.FrameMany'. -/
def frameManyCard : Claim7 := { stood := { row := frameManyRow, standIns := [], harness := (true, "57ea8720f18225e823f37e0e6627b51b6675c95752078296ff6f3df9fac2797f"), looks := false }, kinds := [], alts := [], laidByText := true, laidKinds := [.data, .pinned], laidTests := true, laidLooks := .later }
def FrameManyCardSaid : Prop := Claim7.holds Tryd.pinned (.plain (OpenSpec.ofChange frameManySpec)) frameManyCard

/-- THE TIED CARD OF 'dragomanlaw.OptionTwice'. -/
def optionTwiceCard : Claim7 := { stood := { row := optionTwiceRow, standIns := [], harness := (true, "57ea8720f18225e823f37e0e6627b51b6675c95752078296ff6f3df9fac2797f"), looks := false }, kinds := [], alts := [], laidByText := true, laidKinds := [.data, .pinned], laidTests := true, laidLooks := .later }
def OptionTwiceCardSaid : Prop := Claim7.holds Tryd.pinned (.plain (OpenSpec.ofChange optionTwiceSpec)) optionTwiceCard

/-- THE TIED CARD OF 'dragomanlaw.OptionTells'. -/
def optionTellsCard : Claim7 := { stood := { row := optionTellsRow, standIns := [], harness := (true, "57ea8720f18225e823f37e0e6627b51b6675c95752078296ff6f3df9fac2797f"), looks := false }, kinds := [], alts := [], laidByText := true, laidKinds := [.data, .pinned], laidTests := true, laidLooks := .later }
def OptionTellsCardSaid : Prop := Claim7.holds Tryd.pinned (.plain (OpenSpec.ofChange optionTellsSpec)) optionTellsCard

/-- THE TIED CARD OF 'dragomanlaw.OptionBack'. -/
def optionBackCard : Claim7 := { stood := { row := optionBackRow, standIns := [], harness := (true, "57ea8720f18225e823f37e0e6627b51b6675c95752078296ff6f3df9fac2797f"), looks := false }, kinds := [], alts := [], laidByText := true, laidKinds := [.data, .pinned], laidTests := true, laidLooks := .later }
def OptionBackCardSaid : Prop := Claim7.holds Tryd.pinned (.plain (OpenSpec.ofChange optionBackSpec)) optionBackCard

/-- THE TIED CARD OF 'dragomanlaw.WantReads'. -/
def wantReadsCard : Claim7 := { stood := { row := wantReadsRow, standIns := [], harness := (true, "57ea8720f18225e823f37e0e6627b51b6675c95752078296ff6f3df9fac2797f"), looks := false }, kinds := [], alts := [], laidByText := true, laidKinds := [.data, .pinned], laidTests := true, laidLooks := .later }
def WantReadsCardSaid : Prop := Claim7.holds Tryd.pinned (.plain (OpenSpec.ofChange wantReadsSpec)) wantReadsCard

/-- THE SECOND FORM's CARD OF 'dragomanlaw.PacketApart'. -/
def packetApartUptoCard : Claim7 := { stood := { row := packetApartUptoRow, standIns := [], harness := (true, "57ea8720f18225e823f37e0e6627b51b6675c95752078296ff6f3df9fac2797f"), looks := false }, kinds := [], alts := [], laidByText := true, laidKinds := [.data, .pinned], laidTests := true, laidLooks := .later }
def PacketApartUptoCardSaid : Prop := Claim7.holds Tryd.pinned (.plain (OpenSpec.upto packetApartSpec)) packetApartUptoCard

/-- THE SECOND FORM's CARD OF 'dragomanlaw.PacketBack'. -/
def packetBackUptoCard : Claim7 := { stood := { row := packetBackUptoRow, standIns := [], harness := (true, "57ea8720f18225e823f37e0e6627b51b6675c95752078296ff6f3df9fac2797f"), looks := false }, kinds := [], alts := [], laidByText := true, laidKinds := [.data, .pinned], laidTests := true, laidLooks := .later }
def PacketBackUptoCardSaid : Prop := Claim7.holds Tryd.pinned (.plain (OpenSpec.upto packetBackSpec)) packetBackUptoCard

/-- THE SECOND FORM's CARD OF 'dragomanlaw.FramePieces'. -/
def framePiecesUptoCard : Claim7 := { stood := { row := framePiecesUptoRow, standIns := [], harness := (true, "57ea8720f18225e823f37e0e6627b51b6675c95752078296ff6f3df9fac2797f"), looks := false }, kinds := [], alts := [], laidByText := true, laidKinds := [.data, .pinned], laidTests := true, laidLooks := .later }
def FramePiecesUptoCardSaid : Prop := Claim7.holds Tryd.pinned (.plain (OpenSpec.upto framePiecesSpec)) framePiecesUptoCard

/-- THE SECOND FORM's CARD OF 'dragomanlaw.FrameMany'. -/
def frameManyUptoCard : Claim7 := { stood := { row := frameManyUptoRow, standIns := [], harness := (true, "57ea8720f18225e823f37e0e6627b51b6675c95752078296ff6f3df9fac2797f"), looks := false }, kinds := [], alts := [], laidByText := true, laidKinds := [.data, .pinned], laidTests := true, laidLooks := .later }
def FrameManyUptoCardSaid : Prop := Claim7.holds Tryd.pinned (.plain (OpenSpec.upto frameManySpec)) frameManyUptoCard

/-- THE SECOND FORM's CARD OF 'dragomanlaw.OptionTwice'. -/
def optionTwiceUptoCard : Claim7 := { stood := { row := optionTwiceUptoRow, standIns := [], harness := (true, "57ea8720f18225e823f37e0e6627b51b6675c95752078296ff6f3df9fac2797f"), looks := false }, kinds := [], alts := [], laidByText := true, laidKinds := [.data, .pinned], laidTests := true, laidLooks := .later }
def OptionTwiceUptoCardSaid : Prop := Claim7.holds Tryd.pinned (.plain (OpenSpec.upto optionTwiceSpec)) optionTwiceUptoCard

/-- THE SECOND FORM's CARD OF 'dragomanlaw.OptionTells'. -/
def optionTellsUptoCard : Claim7 := { stood := { row := optionTellsUptoRow, standIns := [], harness := (true, "57ea8720f18225e823f37e0e6627b51b6675c95752078296ff6f3df9fac2797f"), looks := false }, kinds := [], alts := [], laidByText := true, laidKinds := [.data, .pinned], laidTests := true, laidLooks := .later }
def OptionTellsUptoCardSaid : Prop := Claim7.holds Tryd.pinned (.plain (OpenSpec.upto optionTellsSpec)) optionTellsUptoCard

/-- THE SECOND FORM's CARD OF 'dragomanlaw.OptionBack'. -/
def optionBackUptoCard : Claim7 := { stood := { row := optionBackUptoRow, standIns := [], harness := (true, "57ea8720f18225e823f37e0e6627b51b6675c95752078296ff6f3df9fac2797f"), looks := false }, kinds := [], alts := [], laidByText := true, laidKinds := [.data, .pinned], laidTests := true, laidLooks := .later }
def OptionBackUptoCardSaid : Prop := Claim7.holds Tryd.pinned (.plain (OpenSpec.upto optionBackSpec)) optionBackUptoCard

/-- THE SECOND FORM's CARD OF 'dragomanlaw.WantReads'. -/
def wantReadsUptoCard : Claim7 := { stood := { row := wantReadsUptoRow, standIns := [], harness := (true, "57ea8720f18225e823f37e0e6627b51b6675c95752078296ff6f3df9fac2797f"), looks := false }, kinds := [], alts := [], laidByText := true, laidKinds := [.data, .pinned], laidTests := true, laidLooks := .later }
def WantReadsUptoCardSaid : Prop := Claim7.holds Tryd.pinned (.plain (OpenSpec.upto wantReadsSpec)) wantReadsUptoCard
end Rows
end Go.Proofs.YtliedecinehijaaDoor
