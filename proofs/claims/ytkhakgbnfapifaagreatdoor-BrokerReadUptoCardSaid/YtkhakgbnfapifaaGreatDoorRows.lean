/-
  NARROWER THAN 'FOR EVERY INPUT', by the rows' own cells (each row's printed sentence says how): BrokerPackets: laid · BrokerMessages: laid · BrokerClean: laid · BrokerTold: laid · BrokerRead: laid · BrokerRight: laid.
  DERIVED. THE GIVEN ROWS OF THIS SEAT. 6 by the template 'for every input the law returns true; each argument reads behind the call as it read before'; 0 by the template 'total and deterministic' (their statements: YtkhakgbnfapifaaGreatDoorTotals.lean).
  GIVEN WITH THE SEED: the statements are not yours to turn. If you find one false, say at which input.
  Laid BY PROGRAM, IN A SANDBOX (cutbox-rows.mjs): the forced cells as the released guide's own fill.sh prints them over the translation 7f31a0383846b968… (all of the seat's roots in one cut). By AI agents, Wed Nov 11 2026. No macro, syntax, notation, axiom, sorry.
-/
import Derived.Test.YtkhakgbnfapifaaGreatDoorChecked
import GoSem.PinnedTables
import GoSem.Claim
import GoSem.ClaimJoined
import GoSem.ClaimMapViews
import Derived.JoinedTies
import Derived.KernelRfl
namespace Go.Proofs.YtkhakgbnfapifaaGreatDoor
/- THE CELL 'sum', in the pinned program and in every row, IS THE sha256 OF THE DUMP (.gsa) THAT YtkhakgbnfapifaaGreatDoorProg.lean LOADS. Nothing in Lean hashes anything: it is a label: what it is worth is what the hold of that sum in a sandbox is worth. -/
noncomputable def Tryz.pinned : Pinned := { name := "ytkhakgbnfapifaagreatdoor", sum := "7f31a0383846b968c1a0815e43ee849534f4473dd222a9e38edb4c73e0657627", checked := Tryz.checked }
namespace Rows
def none {H : Type} : Left H := { results := [], args := [] }

/- WHAT THE LISTED PACKAGE-LEVEL VARIABLES READ AS WHEN THE CALL BEGINS. Each datum BY PROGRAM (the guide's laid-datum.mjs) off the statement by which the dump's own 'gosem.cut.vars' lays the variable. In a bare row this is a premise. The card (YtkhakgbnfapifaaGreatDoorCards.lean) ties it to the program's text. -/
def laid_unicode_utf8_acceptRanges {H : Type} : DataW H := .agg [.agg [.lit (.int .u8 128), .lit (.int .u8 191)], .agg [.lit (.int .u8 160), .lit (.int .u8 191)], .agg [.lit (.int .u8 128), .lit (.int .u8 159)], .agg [.lit (.int .u8 144), .lit (.int .u8 191)], .agg [.lit (.int .u8 128), .lit (.int .u8 143)], .agg [.lit (.int .u8 0), .lit (.int .u8 0)], .agg [.lit (.int .u8 0), .lit (.int .u8 0)], .agg [.lit (.int .u8 0), .lit (.int .u8 0)], .agg [.lit (.int .u8 0), .lit (.int .u8 0)], .agg [.lit (.int .u8 0), .lit (.int .u8 0)], .agg [.lit (.int .u8 0), .lit (.int .u8 0)], .agg [.lit (.int .u8 0), .lit (.int .u8 0)], .agg [.lit (.int .u8 0), .lit (.int .u8 0)], .agg [.lit (.int .u8 0), .lit (.int .u8 0)], .agg [.lit (.int .u8 0), .lit (.int .u8 0)], .agg [.lit (.int .u8 0), .lit (.int .u8 0)]]
/-- One of Go's own tables, pinned by name: the form's constant. -/
def laid_unicode_utf8_first : DataW Unit := Go.Pinned.utf8First

/-- 'dragomanlaw.BrokerPackets': WHATEVER THE INPUT: true; the input reads as it did. -/
def brokerPacketsSpec : ChangeSpec := { name := "brokerPackets", fn := fun _ => fun
  | [d1, d2, d3] => { results := [.lit (.bool true)], args := [d1, d2, d3] }
  | _ => none }
def brokerPacketsRow : OpenClaim := { program := "ytkhakgbnfapifaagreatdoor", sum := "7f31a0383846b968c1a0815e43ee849534f4473dd222a9e38edb4c73e0657627", func := "dragoman/dragomanlaw.BrokerPackets", spec := "brokerPackets", inPlace := ["internal/bytealg.CountString", "internal/bytealg.IndexByteString", "internal/bytealg.IndexString", "internal/bytealg.abigen_runtime_cmpstring", "slices.overlaps[dragoman/api.Session]", "slices.overlaps[dragoman/api.Kept]", "slices.overlaps[dragoman/api.Option]", "slices.overlaps[dragoman/api.Want]", "internal/abi.NoEscape", "internal/bytealg.MakeNoZero"], unfollowed := true, recurses := true, named := ["unicode/utf8.first", "unicode/utf8.acceptRanges", "internal/bytealg.MaxLen"], apart := false, laid := [("unicode/utf8.acceptRanges", laid_unicode_utf8_acceptRanges), ("unicode/utf8.first", laid_unicode_utf8_first)] }
def BrokerPacketsSaid : Prop := brokerPacketsRow.holds Tryz.pinned (OpenSpec.ofChange brokerPacketsSpec)

/-- ITS FALSE NEIGHBOUR: 'it returns false'. Refute it at one input. -/
def brokerPacketsWrong : ChangeSpec := { name := "brokerPackets", fn := fun _ => fun
  | [d1, d2, d3] => { results := [.lit (.bool false)], args := [d1, d2, d3] }
  | _ => none }
def BrokerPacketsWrongFalsely : Prop := brokerPacketsRow.holds Tryz.pinned (OpenSpec.ofChange brokerPacketsWrong)

/-- 'dragomanlaw.BrokerMessages': WHATEVER THE INPUT: true; the input reads as it did. -/
def brokerMessagesSpec : ChangeSpec := { name := "brokerMessages", fn := fun _ => fun
  | [d1, d2, d3] => { results := [.lit (.bool true)], args := [d1, d2, d3] }
  | _ => none }
def brokerMessagesRow : OpenClaim := { program := "ytkhakgbnfapifaagreatdoor", sum := "7f31a0383846b968c1a0815e43ee849534f4473dd222a9e38edb4c73e0657627", func := "dragoman/dragomanlaw.BrokerMessages", spec := "brokerMessages", inPlace := ["internal/bytealg.CountString", "internal/bytealg.IndexByteString", "internal/bytealg.IndexString", "internal/bytealg.abigen_runtime_cmpstring", "internal/abi.NoEscape", "internal/bytealg.MakeNoZero", "slices.overlaps[dragoman/api.Option]", "slices.overlaps[dragoman/api.Kept]", "slices.overlaps[dragoman/api.Session]", "slices.overlaps[dragoman/api.Want]"], unfollowed := true, recurses := true, named := ["unicode/utf8.first", "unicode/utf8.acceptRanges", "internal/bytealg.MaxLen"], apart := false, laid := [("unicode/utf8.acceptRanges", laid_unicode_utf8_acceptRanges), ("unicode/utf8.first", laid_unicode_utf8_first)] }
def BrokerMessagesSaid : Prop := brokerMessagesRow.holds Tryz.pinned (OpenSpec.ofChange brokerMessagesSpec)

/-- ITS FALSE NEIGHBOUR: 'it returns false'. Refute it at one input. -/
def brokerMessagesWrong : ChangeSpec := { name := "brokerMessages", fn := fun _ => fun
  | [d1, d2, d3] => { results := [.lit (.bool false)], args := [d1, d2, d3] }
  | _ => none }
def BrokerMessagesWrongFalsely : Prop := brokerMessagesRow.holds Tryz.pinned (OpenSpec.ofChange brokerMessagesWrong)

/-- 'dragomanlaw.BrokerClean': WHATEVER THE INPUT: true; the input reads as it did. -/
def brokerCleanSpec : ChangeSpec := { name := "brokerClean", fn := fun _ => fun
  | [d1, d2, d3, d4] => { results := [.lit (.bool true)], args := [d1, d2, d3, d4] }
  | _ => none }
def brokerCleanRow : OpenClaim := { program := "ytkhakgbnfapifaagreatdoor", sum := "7f31a0383846b968c1a0815e43ee849534f4473dd222a9e38edb4c73e0657627", func := "dragoman/dragomanlaw.BrokerClean", spec := "brokerClean", inPlace := ["internal/bytealg.CountString", "internal/bytealg.IndexByteString", "internal/bytealg.IndexString", "internal/bytealg.abigen_runtime_cmpstring", "slices.overlaps[dragoman/api.Session]", "slices.overlaps[dragoman/api.Kept]", "slices.overlaps[dragoman/api.Option]", "slices.overlaps[dragoman/api.Want]", "internal/abi.NoEscape", "internal/bytealg.MakeNoZero"], unfollowed := true, recurses := true, named := ["unicode/utf8.first", "unicode/utf8.acceptRanges", "internal/bytealg.MaxLen"], apart := false, laid := [("unicode/utf8.acceptRanges", laid_unicode_utf8_acceptRanges), ("unicode/utf8.first", laid_unicode_utf8_first)] }
def BrokerCleanSaid : Prop := brokerCleanRow.holds Tryz.pinned (OpenSpec.ofChange brokerCleanSpec)

/-- ITS FALSE NEIGHBOUR: 'it returns false'. Refute it at one input. -/
def brokerCleanWrong : ChangeSpec := { name := "brokerClean", fn := fun _ => fun
  | [d1, d2, d3, d4] => { results := [.lit (.bool false)], args := [d1, d2, d3, d4] }
  | _ => none }
def BrokerCleanWrongFalsely : Prop := brokerCleanRow.holds Tryz.pinned (OpenSpec.ofChange brokerCleanWrong)

/-- 'dragomanlaw.BrokerTold': WHATEVER THE INPUT: true; the input reads as it did. -/
def brokerToldSpec : ChangeSpec := { name := "brokerTold", fn := fun _ => fun
  | [d1, d2, d3, d4] => { results := [.lit (.bool true)], args := [d1, d2, d3, d4] }
  | _ => none }
def brokerToldRow : OpenClaim := { program := "ytkhakgbnfapifaagreatdoor", sum := "7f31a0383846b968c1a0815e43ee849534f4473dd222a9e38edb4c73e0657627", func := "dragoman/dragomanlaw.BrokerTold", spec := "brokerTold", inPlace := ["internal/bytealg.CountString", "internal/bytealg.IndexByteString", "internal/bytealg.IndexString", "internal/bytealg.abigen_runtime_cmpstring", "slices.overlaps[dragoman/api.Session]", "slices.overlaps[dragoman/api.Kept]", "slices.overlaps[dragoman/api.Option]", "slices.overlaps[dragoman/api.Want]", "internal/abi.NoEscape", "internal/bytealg.MakeNoZero"], unfollowed := true, recurses := true, named := ["unicode/utf8.first", "unicode/utf8.acceptRanges", "internal/bytealg.MaxLen"], apart := false, laid := [("unicode/utf8.acceptRanges", laid_unicode_utf8_acceptRanges), ("unicode/utf8.first", laid_unicode_utf8_first)] }
def BrokerToldSaid : Prop := brokerToldRow.holds Tryz.pinned (OpenSpec.ofChange brokerToldSpec)

/-- ITS FALSE NEIGHBOUR: 'it returns false'. Refute it at one input. -/
def brokerToldWrong : ChangeSpec := { name := "brokerTold", fn := fun _ => fun
  | [d1, d2, d3, d4] => { results := [.lit (.bool false)], args := [d1, d2, d3, d4] }
  | _ => none }
def BrokerToldWrongFalsely : Prop := brokerToldRow.holds Tryz.pinned (OpenSpec.ofChange brokerToldWrong)

/-- 'dragomanlaw.BrokerRead': WHATEVER THE INPUT: true; the input reads as it did. -/
def brokerReadSpec : ChangeSpec := { name := "brokerRead", fn := fun _ => fun
  | [d1, d2, d3, d4, d5] => { results := [.lit (.bool true)], args := [d1, d2, d3, d4, d5] }
  | _ => none }
def brokerReadRow : OpenClaim := { program := "ytkhakgbnfapifaagreatdoor", sum := "7f31a0383846b968c1a0815e43ee849534f4473dd222a9e38edb4c73e0657627", func := "dragoman/dragomanlaw.BrokerRead", spec := "brokerRead", inPlace := ["internal/bytealg.CountString", "internal/bytealg.IndexByteString", "internal/bytealg.IndexString", "internal/bytealg.abigen_runtime_cmpstring", "slices.overlaps[dragoman/api.Session]", "slices.overlaps[dragoman/api.Kept]", "slices.overlaps[dragoman/api.Option]", "slices.overlaps[dragoman/api.Want]", "internal/abi.NoEscape", "internal/bytealg.MakeNoZero"], unfollowed := true, recurses := true, named := ["unicode/utf8.first", "unicode/utf8.acceptRanges", "internal/bytealg.MaxLen"], apart := false, laid := [("unicode/utf8.acceptRanges", laid_unicode_utf8_acceptRanges), ("unicode/utf8.first", laid_unicode_utf8_first)] }
def BrokerReadSaid : Prop := brokerReadRow.holds Tryz.pinned (OpenSpec.ofChange brokerReadSpec)

/-- ITS FALSE NEIGHBOUR: 'it returns false'. Refute it at one input. -/
def brokerReadWrong : ChangeSpec := { name := "brokerRead", fn := fun _ => fun
  | [d1, d2, d3, d4, d5] => { results := [.lit (.bool false)], args := [d1, d2, d3, d4, d5] }
  | _ => none }
def BrokerReadWrongFalsely : Prop := brokerReadRow.holds Tryz.pinned (OpenSpec.ofChange brokerReadWrong)

/-- 'dragomanlaw.BrokerRight': WHATEVER THE INPUT: true; the input reads as it did. -/
def brokerRightSpec : ChangeSpec := { name := "brokerRight", fn := fun _ => fun
  | [d1, d2, d3, d4, d5] => { results := [.lit (.bool true)], args := [d1, d2, d3, d4, d5] }
  | _ => none }
def brokerRightRow : OpenClaim := { program := "ytkhakgbnfapifaagreatdoor", sum := "7f31a0383846b968c1a0815e43ee849534f4473dd222a9e38edb4c73e0657627", func := "dragoman/dragomanlaw.BrokerRight", spec := "brokerRight", inPlace := ["internal/bytealg.CountString", "internal/bytealg.IndexByteString", "internal/bytealg.IndexString", "internal/bytealg.abigen_runtime_cmpstring", "slices.overlaps[dragoman/api.Session]", "slices.overlaps[dragoman/api.Kept]", "slices.overlaps[dragoman/api.Option]", "slices.overlaps[dragoman/api.Want]", "internal/abi.NoEscape", "internal/bytealg.MakeNoZero"], unfollowed := true, recurses := true, named := ["unicode/utf8.first", "unicode/utf8.acceptRanges", "internal/bytealg.MaxLen"], apart := false, laid := [("unicode/utf8.acceptRanges", laid_unicode_utf8_acceptRanges), ("unicode/utf8.first", laid_unicode_utf8_first)] }
def BrokerRightSaid : Prop := brokerRightRow.holds Tryz.pinned (OpenSpec.ofChange brokerRightSpec)

/-- ITS FALSE NEIGHBOUR: 'it returns false'. Refute it at one input. -/
def brokerRightWrong : ChangeSpec := { name := "brokerRight", fn := fun _ => fun
  | [d1, d2, d3, d4, d5] => { results := [.lit (.bool false)], args := [d1, d2, d3, d4, d5] }
  | _ => none }
def BrokerRightWrongFalsely : Prop := brokerRightRow.holds Tryz.pinned (OpenSpec.ofChange brokerRightWrong)

/- THE SECOND FORM. 'bulk': how many values and letters a reading holds, each counted each time it is reached (what is shared counts as often as it is met; a slice's spare places count too). A statement '..UptoSaid' is the law's where the arguments, and the package variables that the reading takes, are together of bulk at most 1048576: NARROWER than '..Said'. Prove '..Said' where nothing that the law and all that it calls make is longer than what came in: it says more and counts as full. Else prove '..UptoSaid'. A law counts once. -/
mutual
def uptoBulk {H : Type} : DataW H → Nat
  | .lit (.string bytes) => bytes.length + 1
  | .lit _ => 1
  | .nil => 1
  | .ptr d => uptoBulk d + 1
  | .slice elems spare => uptoBulkAll elems + uptoBulkAll spare + 1
  | .agg parts => uptoBulkAll parts + 1
  | .iface _ d => uptoBulk d + 1
  | .map entries => uptoBulkEntries entries + 1
  | .held _ => 1
def uptoBulkAll {H : Type} : List (DataW H) → Nat
  | [] => 0
  | d :: r => uptoBulk d + uptoBulkAll r
def uptoBulkEntries {H : Type} : List (Lit × DataW H) → Nat
  | [] => 0
  | x :: r => uptoBulkEntry x + uptoBulkEntries r
def uptoBulkEntry {H : Type} : Lit × DataW H → Nat
  | (.string bytes, d) => bytes.length + uptoBulk d + 1
  | (_, d) => uptoBulk d + 1
 end
def uptoSmall : (H : Type) → List (DataW H) → Bool := fun _ ds => decide (uptoBulkAll ds ≤ 1048576)
def OpenSpec.upto (s : _root_.Go.ChangeSpec) : _root_.Go.OpenSpec := { _root_.Go.OpenSpec.ofChange s with cond := some uptoSmall }

/-- 'dragomanlaw.BrokerPackets', WHERE WHAT IT READS IS OF BULK AT MOST 1048576: true; the input reads as it did. -/
def brokerPacketsUptoRow : OpenClaim := { program := "ytkhakgbnfapifaagreatdoor", sum := "7f31a0383846b968c1a0815e43ee849534f4473dd222a9e38edb4c73e0657627", func := "dragoman/dragomanlaw.BrokerPackets", spec := "brokerPackets", inPlace := ["internal/bytealg.CountString", "internal/bytealg.IndexByteString", "internal/bytealg.IndexString", "internal/bytealg.abigen_runtime_cmpstring", "slices.overlaps[dragoman/api.Session]", "slices.overlaps[dragoman/api.Kept]", "slices.overlaps[dragoman/api.Option]", "slices.overlaps[dragoman/api.Want]", "internal/abi.NoEscape", "internal/bytealg.MakeNoZero"], unfollowed := true, recurses := true, named := ["unicode/utf8.first", "unicode/utf8.acceptRanges", "internal/bytealg.MaxLen"], apart := false, laid := [("unicode/utf8.acceptRanges", laid_unicode_utf8_acceptRanges), ("unicode/utf8.first", laid_unicode_utf8_first)], narrowed := true }
def BrokerPacketsUptoSaid : Prop := brokerPacketsUptoRow.holds Tryz.pinned (OpenSpec.upto brokerPacketsSpec)

/-- 'dragomanlaw.BrokerMessages', WHERE WHAT IT READS IS OF BULK AT MOST 1048576: true; the input reads as it did. -/
def brokerMessagesUptoRow : OpenClaim := { program := "ytkhakgbnfapifaagreatdoor", sum := "7f31a0383846b968c1a0815e43ee849534f4473dd222a9e38edb4c73e0657627", func := "dragoman/dragomanlaw.BrokerMessages", spec := "brokerMessages", inPlace := ["internal/bytealg.CountString", "internal/bytealg.IndexByteString", "internal/bytealg.IndexString", "internal/bytealg.abigen_runtime_cmpstring", "internal/abi.NoEscape", "internal/bytealg.MakeNoZero", "slices.overlaps[dragoman/api.Option]", "slices.overlaps[dragoman/api.Kept]", "slices.overlaps[dragoman/api.Session]", "slices.overlaps[dragoman/api.Want]"], unfollowed := true, recurses := true, named := ["unicode/utf8.first", "unicode/utf8.acceptRanges", "internal/bytealg.MaxLen"], apart := false, laid := [("unicode/utf8.acceptRanges", laid_unicode_utf8_acceptRanges), ("unicode/utf8.first", laid_unicode_utf8_first)], narrowed := true }
def BrokerMessagesUptoSaid : Prop := brokerMessagesUptoRow.holds Tryz.pinned (OpenSpec.upto brokerMessagesSpec)

/-- 'dragomanlaw.BrokerClean', WHERE WHAT IT READS IS OF BULK AT MOST 1048576: true; the input reads as it did. -/
def brokerCleanUptoRow : OpenClaim := { program := "ytkhakgbnfapifaagreatdoor", sum := "7f31a0383846b968c1a0815e43ee849534f4473dd222a9e38edb4c73e0657627", func := "dragoman/dragomanlaw.BrokerClean", spec := "brokerClean", inPlace := ["internal/bytealg.CountString", "internal/bytealg.IndexByteString", "internal/bytealg.IndexString", "internal/bytealg.abigen_runtime_cmpstring", "slices.overlaps[dragoman/api.Session]", "slices.overlaps[dragoman/api.Kept]", "slices.overlaps[dragoman/api.Option]", "slices.overlaps[dragoman/api.Want]", "internal/abi.NoEscape", "internal/bytealg.MakeNoZero"], unfollowed := true, recurses := true, named := ["unicode/utf8.first", "unicode/utf8.acceptRanges", "internal/bytealg.MaxLen"], apart := false, laid := [("unicode/utf8.acceptRanges", laid_unicode_utf8_acceptRanges), ("unicode/utf8.first", laid_unicode_utf8_first)], narrowed := true }
def BrokerCleanUptoSaid : Prop := brokerCleanUptoRow.holds Tryz.pinned (OpenSpec.upto brokerCleanSpec)

/-- 'dragomanlaw.BrokerTold', WHERE WHAT IT READS IS OF BULK AT MOST 1048576: true; the input reads as it did. -/
def brokerToldUptoRow : OpenClaim := { program := "ytkhakgbnfapifaagreatdoor", sum := "7f31a0383846b968c1a0815e43ee849534f4473dd222a9e38edb4c73e0657627", func := "dragoman/dragomanlaw.BrokerTold", spec := "brokerTold", inPlace := ["internal/bytealg.CountString", "internal/bytealg.IndexByteString", "internal/bytealg.IndexString", "internal/bytealg.abigen_runtime_cmpstring", "slices.overlaps[dragoman/api.Session]", "slices.overlaps[dragoman/api.Kept]", "slices.overlaps[dragoman/api.Option]", "slices.overlaps[dragoman/api.Want]", "internal/abi.NoEscape", "internal/bytealg.MakeNoZero"], unfollowed := true, recurses := true, named := ["unicode/utf8.first", "unicode/utf8.acceptRanges", "internal/bytealg.MaxLen"], apart := false, laid := [("unicode/utf8.acceptRanges", laid_unicode_utf8_acceptRanges), ("unicode/utf8.first", laid_unicode_utf8_first)], narrowed := true }
def BrokerToldUptoSaid : Prop := brokerToldUptoRow.holds Tryz.pinned (OpenSpec.upto brokerToldSpec)

/-- 'dragomanlaw.BrokerRead', WHERE WHAT IT READS IS OF BULK AT MOST 1048576: true; the input reads as it did. -/
def brokerReadUptoRow : OpenClaim := { program := "ytkhakgbnfapifaagreatdoor", sum := "7f31a0383846b968c1a0815e43ee849534f4473dd222a9e38edb4c73e0657627", func := "dragoman/dragomanlaw.BrokerRead", spec := "brokerRead", inPlace := ["internal/bytealg.CountString", "internal/bytealg.IndexByteString", "internal/bytealg.IndexString", "internal/bytealg.abigen_runtime_cmpstring", "slices.overlaps[dragoman/api.Session]", "slices.overlaps[dragoman/api.Kept]", "slices.overlaps[dragoman/api.Option]", "slices.overlaps[dragoman/api.Want]", "internal/abi.NoEscape", "internal/bytealg.MakeNoZero"], unfollowed := true, recurses := true, named := ["unicode/utf8.first", "unicode/utf8.acceptRanges", "internal/bytealg.MaxLen"], apart := false, laid := [("unicode/utf8.acceptRanges", laid_unicode_utf8_acceptRanges), ("unicode/utf8.first", laid_unicode_utf8_first)], narrowed := true }
def BrokerReadUptoSaid : Prop := brokerReadUptoRow.holds Tryz.pinned (OpenSpec.upto brokerReadSpec)

/-- 'dragomanlaw.BrokerRight', WHERE WHAT IT READS IS OF BULK AT MOST 1048576: true; the input reads as it did. -/
def brokerRightUptoRow : OpenClaim := { program := "ytkhakgbnfapifaagreatdoor", sum := "7f31a0383846b968c1a0815e43ee849534f4473dd222a9e38edb4c73e0657627", func := "dragoman/dragomanlaw.BrokerRight", spec := "brokerRight", inPlace := ["internal/bytealg.CountString", "internal/bytealg.IndexByteString", "internal/bytealg.IndexString", "internal/bytealg.abigen_runtime_cmpstring", "slices.overlaps[dragoman/api.Session]", "slices.overlaps[dragoman/api.Kept]", "slices.overlaps[dragoman/api.Option]", "slices.overlaps[dragoman/api.Want]", "internal/abi.NoEscape", "internal/bytealg.MakeNoZero"], unfollowed := true, recurses := true, named := ["unicode/utf8.first", "unicode/utf8.acceptRanges", "internal/bytealg.MaxLen"], apart := false, laid := [("unicode/utf8.acceptRanges", laid_unicode_utf8_acceptRanges), ("unicode/utf8.first", laid_unicode_utf8_first)], narrowed := true }
def BrokerRightUptoSaid : Prop := brokerRightUptoRow.holds Tryz.pinned (OpenSpec.upto brokerRightSpec)

end Rows
end Go.Proofs.YtkhakgbnfapifaaGreatDoor
