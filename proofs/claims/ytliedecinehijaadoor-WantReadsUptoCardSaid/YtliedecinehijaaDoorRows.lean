/-
  NARROWER THAN 'FOR EVERY INPUT', by the rows' own cells (each row's printed sentence says how): PacketApart: laid · PacketBack: laid · FramePieces: laid · FrameMany: laid · OptionTwice: laid · OptionTells: laid · OptionBack: laid · WantReads: laid.
  DERIVED. THE GIVEN ROWS OF THIS SEAT. 8 by the template 'for every input the law returns true; each argument reads behind the call as it read before'; 0 by the template 'total and deterministic' (their statements: YtliedecinehijaaDoorTotals.lean).
  GIVEN WITH THE SEED: the statements are not yours to turn. If you find one false, say at which input.
  Laid BY PROGRAM, IN A SANDBOX (cutbox-rows.mjs): the forced cells as the released guide's own fill.sh prints them over the translation 640b0093ffc3c7b7… (all of the seat's roots in one cut). By AI agents, Wed Nov 11 2026. No macro, syntax, notation, axiom, sorry.
-/
import Derived.Test.YtliedecinehijaaDoorChecked
import GoSem.PinnedTables
import GoSem.Claim
import GoSem.ClaimJoined
import GoSem.ClaimMapViews
import Derived.JoinedTies
import Derived.KernelRfl
namespace Go.Proofs.YtliedecinehijaaDoor
/- THE CELL 'sum', in the pinned program and in every row, IS THE sha256 OF THE DUMP (.gsa) THAT YtliedecinehijaaDoorProg.lean LOADS. Nothing in Lean hashes anything: it is a label: what it is worth is what the hold of that sum in a sandbox is worth. -/
noncomputable def Tryd.pinned : Pinned := { name := "ytliedecinehijaadoor", sum := "640b0093ffc3c7b7df44b0040379fa7daa70afc99823282d88ebbd7c7b1fdf1b", checked := Tryd.checked }
namespace Rows
def none {H : Type} : Left H := { results := [], args := [] }

/- WHAT THE LISTED PACKAGE-LEVEL VARIABLES READ AS WHEN THE CALL BEGINS. Each datum BY PROGRAM (the guide's laid-datum.mjs) off the statement by which the dump's own 'gosem.cut.vars' lays the variable. In a bare row this is a premise. The card (YtliedecinehijaaDoorCards.lean) ties it to the program's text. -/
def laid_unicode_utf8_acceptRanges {H : Type} : DataW H := .agg [.agg [.lit (.int .u8 128), .lit (.int .u8 191)], .agg [.lit (.int .u8 160), .lit (.int .u8 191)], .agg [.lit (.int .u8 128), .lit (.int .u8 159)], .agg [.lit (.int .u8 144), .lit (.int .u8 191)], .agg [.lit (.int .u8 128), .lit (.int .u8 143)], .agg [.lit (.int .u8 0), .lit (.int .u8 0)], .agg [.lit (.int .u8 0), .lit (.int .u8 0)], .agg [.lit (.int .u8 0), .lit (.int .u8 0)], .agg [.lit (.int .u8 0), .lit (.int .u8 0)], .agg [.lit (.int .u8 0), .lit (.int .u8 0)], .agg [.lit (.int .u8 0), .lit (.int .u8 0)], .agg [.lit (.int .u8 0), .lit (.int .u8 0)], .agg [.lit (.int .u8 0), .lit (.int .u8 0)], .agg [.lit (.int .u8 0), .lit (.int .u8 0)], .agg [.lit (.int .u8 0), .lit (.int .u8 0)], .agg [.lit (.int .u8 0), .lit (.int .u8 0)]]
/-- One of Go's own tables, pinned by name: the form's constant. -/
def laid_unicode_utf8_first : DataW Unit := Go.Pinned.utf8First

/-- 'dragomanlaw.PacketApart': WHATEVER THE INPUT: true; the input reads as it did. -/
def packetApartSpec : ChangeSpec := { name := "packetApart", fn := fun _ => fun
  | [d1, d2] => { results := [.lit (.bool true)], args := [d1, d2] }
  | _ => none }
def packetApartRow : OpenClaim := { program := "ytliedecinehijaadoor", sum := "640b0093ffc3c7b7df44b0040379fa7daa70afc99823282d88ebbd7c7b1fdf1b", func := "dragoman/dragomanlaw.PacketApart", spec := "packetApart", inPlace := ["internal/bytealg.CountString", "internal/bytealg.IndexByteString", "internal/bytealg.IndexString", "internal/abi.NoEscape"], unfollowed := true, recurses := true, named := ["unicode/utf8.first", "unicode/utf8.acceptRanges", "internal/bytealg.MaxLen"], apart := false, laid := [("unicode/utf8.acceptRanges", laid_unicode_utf8_acceptRanges), ("unicode/utf8.first", laid_unicode_utf8_first)] }
def PacketApartSaid : Prop := packetApartRow.holds Tryd.pinned (OpenSpec.ofChange packetApartSpec)

/-- ITS FALSE NEIGHBOUR: 'it returns false'. Refute it at one input. -/
def packetApartWrong : ChangeSpec := { name := "packetApart", fn := fun _ => fun
  | [d1, d2] => { results := [.lit (.bool false)], args := [d1, d2] }
  | _ => none }
def PacketApartWrongFalsely : Prop := packetApartRow.holds Tryd.pinned (OpenSpec.ofChange packetApartWrong)

/-- 'dragomanlaw.PacketBack': WHATEVER THE INPUT: true; the input reads as it did. -/
def packetBackSpec : ChangeSpec := { name := "packetBack", fn := fun _ => fun
  | [d1, d2] => { results := [.lit (.bool true)], args := [d1, d2] }
  | _ => none }
def packetBackRow : OpenClaim := { program := "ytliedecinehijaadoor", sum := "640b0093ffc3c7b7df44b0040379fa7daa70afc99823282d88ebbd7c7b1fdf1b", func := "dragoman/dragomanlaw.PacketBack", spec := "packetBack", inPlace := ["internal/bytealg.CountString", "internal/bytealg.IndexByteString", "internal/bytealg.IndexString", "internal/abi.NoEscape"], unfollowed := true, recurses := true, named := ["unicode/utf8.first", "unicode/utf8.acceptRanges", "internal/bytealg.MaxLen"], apart := false, laid := [("unicode/utf8.acceptRanges", laid_unicode_utf8_acceptRanges), ("unicode/utf8.first", laid_unicode_utf8_first)] }
def PacketBackSaid : Prop := packetBackRow.holds Tryd.pinned (OpenSpec.ofChange packetBackSpec)

/-- ITS FALSE NEIGHBOUR: 'it returns false'. Refute it at one input. -/
def packetBackWrong : ChangeSpec := { name := "packetBack", fn := fun _ => fun
  | [d1, d2] => { results := [.lit (.bool false)], args := [d1, d2] }
  | _ => none }
def PacketBackWrongFalsely : Prop := packetBackRow.holds Tryd.pinned (OpenSpec.ofChange packetBackWrong)

/-- 'dragomanlaw.FramePieces': WHATEVER THE INPUT: true; the input reads as it did. -/
def framePiecesSpec : ChangeSpec := { name := "framePieces", fn := fun _ => fun
  | [d1, d2, d3] => { results := [.lit (.bool true)], args := [d1, d2, d3] }
  | _ => none }
def framePiecesRow : OpenClaim := { program := "ytliedecinehijaadoor", sum := "640b0093ffc3c7b7df44b0040379fa7daa70afc99823282d88ebbd7c7b1fdf1b", func := "dragoman/dragomanlaw.FramePieces", spec := "framePieces", inPlace := ["internal/abi.NoEscape", "internal/bytealg.CountString", "internal/bytealg.IndexByteString", "internal/bytealg.IndexString"], unfollowed := true, recurses := true, named := ["unicode/utf8.first", "unicode/utf8.acceptRanges", "internal/bytealg.MaxLen"], apart := false, laid := [("unicode/utf8.acceptRanges", laid_unicode_utf8_acceptRanges), ("unicode/utf8.first", laid_unicode_utf8_first)] }
def FramePiecesSaid : Prop := framePiecesRow.holds Tryd.pinned (OpenSpec.ofChange framePiecesSpec)

/-- ITS FALSE NEIGHBOUR: 'it returns false'. Refute it at one input. -/
def framePiecesWrong : ChangeSpec := { name := "framePieces", fn := fun _ => fun
  | [d1, d2, d3] => { results := [.lit (.bool false)], args := [d1, d2, d3] }
  | _ => none }
def FramePiecesWrongFalsely : Prop := framePiecesRow.holds Tryd.pinned (OpenSpec.ofChange framePiecesWrong)

/-- 'dragomanlaw.FrameMany': WHATEVER THE INPUT: true; the input reads as it did. -/
def frameManySpec : ChangeSpec := { name := "frameMany", fn := fun _ => fun
  | [d] => { results := [.lit (.bool true)], args := [d] }
  | _ => none }
def frameManyRow : OpenClaim := { program := "ytliedecinehijaadoor", sum := "640b0093ffc3c7b7df44b0040379fa7daa70afc99823282d88ebbd7c7b1fdf1b", func := "dragoman/dragomanlaw.FrameMany", spec := "frameMany", inPlace := ["internal/bytealg.CountString", "internal/bytealg.IndexByteString", "internal/bytealg.IndexString", "internal/abi.NoEscape"], unfollowed := true, recurses := true, named := ["unicode/utf8.first", "unicode/utf8.acceptRanges", "internal/bytealg.MaxLen"], apart := false, laid := [("unicode/utf8.acceptRanges", laid_unicode_utf8_acceptRanges), ("unicode/utf8.first", laid_unicode_utf8_first)] }
def FrameManySaid : Prop := frameManyRow.holds Tryd.pinned (OpenSpec.ofChange frameManySpec)

/-- ITS FALSE NEIGHBOUR: 'it returns false'. Refute it at one input. -/
def frameManyWrong : ChangeSpec := { name := "frameMany", fn := fun _ => fun
  | [d] => { results := [.lit (.bool false)], args := [d] }
  | _ => none }
def FrameManyWrongFalsely : Prop := frameManyRow.holds Tryd.pinned (OpenSpec.ofChange frameManyWrong)

/-- 'dragomanlaw.OptionTwice': WHATEVER THE INPUT: true; the input reads as it did. -/
def optionTwiceSpec : ChangeSpec := { name := "optionTwice", fn := fun _ => fun
  | [d1, d2, d3, d4] => { results := [.lit (.bool true)], args := [d1, d2, d3, d4] }
  | _ => none }
def optionTwiceRow : OpenClaim := { program := "ytliedecinehijaadoor", sum := "640b0093ffc3c7b7df44b0040379fa7daa70afc99823282d88ebbd7c7b1fdf1b", func := "dragoman/dragomanlaw.OptionTwice", spec := "optionTwice", inPlace := ["internal/bytealg.IndexByteString", "internal/bytealg.IndexString", "internal/abi.NoEscape", "internal/bytealg.MakeNoZero", "internal/bytealg.CountString", "slices.overlaps[dragoman/api.Option]"], unfollowed := true, recurses := true, named := ["internal/bytealg.MaxLen", "unicode/utf8.first", "unicode/utf8.acceptRanges"], apart := false, laid := [("unicode/utf8.acceptRanges", laid_unicode_utf8_acceptRanges), ("unicode/utf8.first", laid_unicode_utf8_first)] }
def OptionTwiceSaid : Prop := optionTwiceRow.holds Tryd.pinned (OpenSpec.ofChange optionTwiceSpec)

/-- ITS FALSE NEIGHBOUR: 'it returns false'. Refute it at one input. -/
def optionTwiceWrong : ChangeSpec := { name := "optionTwice", fn := fun _ => fun
  | [d1, d2, d3, d4] => { results := [.lit (.bool false)], args := [d1, d2, d3, d4] }
  | _ => none }
def OptionTwiceWrongFalsely : Prop := optionTwiceRow.holds Tryd.pinned (OpenSpec.ofChange optionTwiceWrong)

/-- 'dragomanlaw.OptionTells': WHATEVER THE INPUT: true; the input reads as it did. -/
def optionTellsSpec : ChangeSpec := { name := "optionTells", fn := fun _ => fun
  | [d1, d2, d3, d4, d5] => { results := [.lit (.bool true)], args := [d1, d2, d3, d4, d5] }
  | _ => none }
def optionTellsRow : OpenClaim := { program := "ytliedecinehijaadoor", sum := "640b0093ffc3c7b7df44b0040379fa7daa70afc99823282d88ebbd7c7b1fdf1b", func := "dragoman/dragomanlaw.OptionTells", spec := "optionTells", inPlace := ["internal/bytealg.IndexByteString", "internal/bytealg.IndexString", "internal/abi.NoEscape", "internal/bytealg.MakeNoZero", "internal/bytealg.CountString", "slices.overlaps[dragoman/api.Option]"], unfollowed := true, recurses := true, named := ["internal/bytealg.MaxLen", "unicode/utf8.first", "unicode/utf8.acceptRanges"], apart := false, laid := [("unicode/utf8.acceptRanges", laid_unicode_utf8_acceptRanges), ("unicode/utf8.first", laid_unicode_utf8_first)] }
def OptionTellsSaid : Prop := optionTellsRow.holds Tryd.pinned (OpenSpec.ofChange optionTellsSpec)

/-- ITS FALSE NEIGHBOUR: 'it returns false'. Refute it at one input. -/
def optionTellsWrong : ChangeSpec := { name := "optionTells", fn := fun _ => fun
  | [d1, d2, d3, d4, d5] => { results := [.lit (.bool false)], args := [d1, d2, d3, d4, d5] }
  | _ => none }
def OptionTellsWrongFalsely : Prop := optionTellsRow.holds Tryd.pinned (OpenSpec.ofChange optionTellsWrong)

/-- 'dragomanlaw.OptionBack': WHATEVER THE INPUT: true; the input reads as it did. -/
def optionBackSpec : ChangeSpec := { name := "optionBack", fn := fun _ => fun
  | [d1, d2, d3, d4, d5] => { results := [.lit (.bool true)], args := [d1, d2, d3, d4, d5] }
  | _ => none }
def optionBackRow : OpenClaim := { program := "ytliedecinehijaadoor", sum := "640b0093ffc3c7b7df44b0040379fa7daa70afc99823282d88ebbd7c7b1fdf1b", func := "dragoman/dragomanlaw.OptionBack", spec := "optionBack", inPlace := ["internal/bytealg.IndexByteString", "internal/bytealg.IndexString", "internal/abi.NoEscape", "internal/bytealg.MakeNoZero", "internal/bytealg.CountString", "slices.overlaps[dragoman/api.Option]"], unfollowed := true, recurses := true, named := ["internal/bytealg.MaxLen", "unicode/utf8.first", "unicode/utf8.acceptRanges"], apart := false, laid := [("unicode/utf8.acceptRanges", laid_unicode_utf8_acceptRanges), ("unicode/utf8.first", laid_unicode_utf8_first)] }
def OptionBackSaid : Prop := optionBackRow.holds Tryd.pinned (OpenSpec.ofChange optionBackSpec)

/-- ITS FALSE NEIGHBOUR: 'it returns false'. Refute it at one input. -/
def optionBackWrong : ChangeSpec := { name := "optionBack", fn := fun _ => fun
  | [d1, d2, d3, d4, d5] => { results := [.lit (.bool false)], args := [d1, d2, d3, d4, d5] }
  | _ => none }
def OptionBackWrongFalsely : Prop := optionBackRow.holds Tryd.pinned (OpenSpec.ofChange optionBackWrong)

/-- 'dragomanlaw.WantReads': WHATEVER THE INPUT: true; the input reads as it did. -/
def wantReadsSpec : ChangeSpec := { name := "wantReads", fn := fun _ => fun
  | [d1, d2, d3, d4] => { results := [.lit (.bool true)], args := [d1, d2, d3, d4] }
  | _ => none }
def wantReadsRow : OpenClaim := { program := "ytliedecinehijaadoor", sum := "640b0093ffc3c7b7df44b0040379fa7daa70afc99823282d88ebbd7c7b1fdf1b", func := "dragoman/dragomanlaw.WantReads", spec := "wantReads", inPlace := ["internal/bytealg.CountString", "internal/bytealg.IndexByteString", "internal/bytealg.IndexString", "internal/bytealg.abigen_runtime_cmpstring", "slices.overlaps[dragoman/api.Want]"], unfollowed := true, recurses := true, named := ["unicode/utf8.first", "unicode/utf8.acceptRanges", "internal/bytealg.MaxLen"], apart := false, laid := [("unicode/utf8.acceptRanges", laid_unicode_utf8_acceptRanges), ("unicode/utf8.first", laid_unicode_utf8_first)] }
def WantReadsSaid : Prop := wantReadsRow.holds Tryd.pinned (OpenSpec.ofChange wantReadsSpec)

/-- ITS FALSE NEIGHBOUR: 'it returns false'. Refute it at one input. -/
def wantReadsWrong : ChangeSpec := { name := "wantReads", fn := fun _ => fun
  | [d1, d2, d3, d4] => { results := [.lit (.bool false)], args := [d1, d2, d3, d4] }
  | _ => none }
def WantReadsWrongFalsely : Prop := wantReadsRow.holds Tryd.pinned (OpenSpec.ofChange wantReadsWrong)

/- THE SECOND FORM. 'bulk': how many values and letters a reading holds, each counted each time it is reached (what is shared counts as often as it is met; a slice's spare places count too). A statement '..UptoSaid' is the law's where the arguments, and the package variables that the reading takes, are together of bulk at most 1048576: NARROWER than '..Said'. Prove '..Said' where nothing that the law and all that it calls make is longer than what came in: it says more and counts as full. Else prove '..UptoSaid'. A law counts once. -/
mutual
def uptoBulk {H : Type} : DataW H → Nat
  | .lit (.string bytes) => bytes.length + 1
  | .lit _ => 1
  | .nil => 1
  | .ptr d => uptoBulk d + 1
  | .slice elems spare => uptoBulkAll elems + uptoBulkAll spare + 1
  | .agg parts => uptoBulkAll parts + 1
  | .iface _ d => uptoBulk d + 1
  | .map entries => uptoBulkEntries entries + 1
  | .held _ => 1
def uptoBulkAll {H : Type} : List (DataW H) → Nat
  | [] => 0
  | d :: r => uptoBulk d + uptoBulkAll r
def uptoBulkEntries {H : Type} : List (Lit × DataW H) → Nat
  | [] => 0
  | x :: r => uptoBulkEntry x + uptoBulkEntries r
def uptoBulkEntry {H : Type} : Lit × DataW H → Nat
  | (.string bytes, d) => bytes.length + uptoBulk d + 1
  | (_, d) => uptoBulk d + 1
 end
def uptoSmall : (H : Type) → List (DataW H) → Bool := fun _ ds => decide (uptoBulkAll ds ≤ 1048576)
def OpenSpec.upto (s : _root_.Go.ChangeSpec) : _root_.Go.OpenSpec := { _root_.Go.OpenSpec.ofChange s with cond := some uptoSmall }

/-- 'dragomanlaw.PacketApart', WHERE WHAT IT READS IS OF BULK AT MOST 1048576: true; the input reads as it did. -/
def packetApartUptoRow : OpenClaim := { program := "ytliedecinehijaadoor", sum := "640b0093ffc3c7b7df44b0040379fa7daa70afc99823282d88ebbd7c7b1fdf1b", func := "dragoman/dragomanlaw.PacketApart", spec := "packetApart", inPlace := ["internal/bytealg.CountString", "internal/bytealg.IndexByteString", "internal/bytealg.IndexString", "internal/abi.NoEscape"], unfollowed := true, recurses := true, named := ["unicode/utf8.first", "unicode/utf8.acceptRanges", "internal/bytealg.MaxLen"], apart := false, laid := [("unicode/utf8.acceptRanges", laid_unicode_utf8_acceptRanges), ("unicode/utf8.first", laid_unicode_utf8_first)], narrowed := true }
def PacketApartUptoSaid : Prop := packetApartUptoRow.holds Tryd.pinned (OpenSpec.upto packetApartSpec)

/-- 'dragomanlaw.PacketBack', WHERE WHAT IT READS IS OF BULK AT MOST 1048576: true; the input reads as it did. -/
def packetBackUptoRow : OpenClaim := { program := "ytliedecinehijaadoor", sum := "640b0093ffc3c7b7df44b0040379fa7daa70afc99823282d88ebbd7c7b1fdf1b", func := "dragoman/dragomanlaw.PacketBack", spec := "packetBack", inPlace := ["internal/bytealg.CountString", "internal/bytealg.IndexByteString", "internal/bytealg.IndexString", "internal/abi.NoEscape"], unfollowed := true, recurses := true, named := ["unicode/utf8.first", "unicode/utf8.acceptRanges", "internal/bytealg.MaxLen"], apart := false, laid := [("unicode/utf8.acceptRanges", laid_unicode_utf8_acceptRanges), ("unicode/utf8.first", laid_unicode_utf8_first)], narrowed := true }
def PacketBackUptoSaid : Prop := packetBackUptoRow.holds Tryd.pinned (OpenSpec.upto packetBackSpec)

/-- 'dragomanlaw.FramePieces', WHERE WHAT IT READS IS OF BULK AT MOST 1048576: true; the input reads as it did. -/
def framePiecesUptoRow : OpenClaim := { program := "ytliedecinehijaadoor", sum := "640b0093ffc3c7b7df44b0040379fa7daa70afc99823282d88ebbd7c7b1fdf1b", func := "dragoman/dragomanlaw.FramePieces", spec := "framePieces", inPlace := ["internal/abi.NoEscape", "internal/bytealg.CountString", "internal/bytealg.IndexByteString", "internal/bytealg.IndexString"], unfollowed := true, recurses := true, named := ["unicode/utf8.first", "unicode/utf8.acceptRanges", "internal/bytealg.MaxLen"], apart := false, laid := [("unicode/utf8.acceptRanges", laid_unicode_utf8_acceptRanges), ("unicode/utf8.first", laid_unicode_utf8_first)], narrowed := true }
def FramePiecesUptoSaid : Prop := framePiecesUptoRow.holds Tryd.pinned (OpenSpec.upto framePiecesSpec)

/-- 'dragomanlaw.FrameMany', WHERE WHAT IT READS IS OF BULK AT MOST 1048576: true; the input reads as it did. -/
def frameManyUptoRow : OpenClaim := { program := "ytliedecinehijaadoor", sum := "640b0093ffc3c7b7df44b0040379fa7daa70afc99823282d88ebbd7c7b1fdf1b", func := "dragoman/dragomanlaw.FrameMany", spec := "frameMany", inPlace := ["internal/bytealg.CountString", "internal/bytealg.IndexByteString", "internal/bytealg.IndexString", "internal/abi.NoEscape"], unfollowed := true, recurses := true, named := ["unicode/utf8.first", "unicode/utf8.acceptRanges", "internal/bytealg.MaxLen"], apart := false, laid := [("unicode/utf8.acceptRanges", laid_unicode_utf8_acceptRanges), ("unicode/utf8.first", laid_unicode_utf8_first)], narrowed := true }
def FrameManyUptoSaid : Prop := frameManyUptoRow.holds Tryd.pinned (OpenSpec.upto frameManySpec)

/-- 'dragomanlaw.OptionTwice', WHERE WHAT IT READS IS OF BULK AT MOST 1048576: true; the input reads as it did. -/
def optionTwiceUptoRow : OpenClaim := { program := "ytliedecinehijaadoor", sum := "640b0093ffc3c7b7df44b0040379fa7daa70afc99823282d88ebbd7c7b1fdf1b", func := "dragoman/dragomanlaw.OptionTwice", spec := "optionTwice", inPlace := ["internal/bytealg.IndexByteString", "internal/bytealg.IndexString", "internal/abi.NoEscape", "internal/bytealg.MakeNoZero", "internal/bytealg.CountString", "slices.overlaps[dragoman/api.Option]"], unfollowed := true, recurses := true, named := ["internal/bytealg.MaxLen", "unicode/utf8.first", "unicode/utf8.acceptRanges"], apart := false, laid := [("unicode/utf8.acceptRanges", laid_unicode_utf8_acceptRanges), ("unicode/utf8.first", laid_unicode_utf8_first)], narrowed := true }
def OptionTwiceUptoSaid : Prop := optionTwiceUptoRow.holds Tryd.pinned (OpenSpec.upto optionTwiceSpec)

/-- 'dragomanlaw.OptionTells', WHERE WHAT IT READS IS OF BULK AT MOST 1048576: true; the input reads as it did. -/
def optionTellsUptoRow : OpenClaim := { program := "ytliedecinehijaadoor", sum := "640b0093ffc3c7b7df44b0040379fa7daa70afc99823282d88ebbd7c7b1fdf1b", func := "dragoman/dragomanlaw.OptionTells", spec := "optionTells", inPlace := ["internal/bytealg.IndexByteString", "internal/bytealg.IndexString", "internal/abi.NoEscape", "internal/bytealg.MakeNoZero", "internal/bytealg.CountString", "slices.overlaps[dragoman/api.Option]"], unfollowed := true, recurses := true, named := ["internal/bytealg.MaxLen", "unicode/utf8.first", "unicode/utf8.acceptRanges"], apart := false, laid := [("unicode/utf8.acceptRanges", laid_unicode_utf8_acceptRanges), ("unicode/utf8.first", laid_unicode_utf8_first)], narrowed := true }
def OptionTellsUptoSaid : Prop := optionTellsUptoRow.holds Tryd.pinned (OpenSpec.upto optionTellsSpec)

/-- 'dragomanlaw.OptionBack', WHERE WHAT IT READS IS OF BULK AT MOST 1048576: true; the input reads as it did. -/
def optionBackUptoRow : OpenClaim := { program := "ytliedecinehijaadoor", sum := "640b0093ffc3c7b7df44b0040379fa7daa70afc99823282d88ebbd7c7b1fdf1b", func := "dragoman/dragomanlaw.OptionBack", spec := "optionBack", inPlace := ["internal/bytealg.IndexByteString", "internal/bytealg.IndexString", "internal/abi.NoEscape", "internal/bytealg.MakeNoZero", "internal/bytealg.CountString", "slices.overlaps[dragoman/api.Option]"], unfollowed := true, recurses := true, named := ["internal/bytealg.MaxLen", "unicode/utf8.first", "unicode/utf8.acceptRanges"], apart := false, laid := [("unicode/utf8.acceptRanges", laid_unicode_utf8_acceptRanges), ("unicode/utf8.first", laid_unicode_utf8_first)], narrowed := true }
def OptionBackUptoSaid : Prop := optionBackUptoRow.holds Tryd.pinned (OpenSpec.upto optionBackSpec)

/-- 'dragomanlaw.WantReads', WHERE WHAT IT READS IS OF BULK AT MOST 1048576: true; the input reads as it did. -/
def wantReadsUptoRow : OpenClaim := { program := "ytliedecinehijaadoor", sum := "640b0093ffc3c7b7df44b0040379fa7daa70afc99823282d88ebbd7c7b1fdf1b", func := "dragoman/dragomanlaw.WantReads", spec := "wantReads", inPlace := ["internal/bytealg.CountString", "internal/bytealg.IndexByteString", "internal/bytealg.IndexString", "internal/bytealg.abigen_runtime_cmpstring", "slices.overlaps[dragoman/api.Want]"], unfollowed := true, recurses := true, named := ["unicode/utf8.first", "unicode/utf8.acceptRanges", "internal/bytealg.MaxLen"], apart := false, laid := [("unicode/utf8.acceptRanges", laid_unicode_utf8_acceptRanges), ("unicode/utf8.first", laid_unicode_utf8_first)], narrowed := true }
def WantReadsUptoSaid : Prop := wantReadsUptoRow.holds Tryd.pinned (OpenSpec.upto wantReadsSpec)

end Rows
end Go.Proofs.YtliedecinehijaaDoor
