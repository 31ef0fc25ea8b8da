/-
  NARROWER THAN 'FOR EVERY INPUT', by the rows' own cells (each row's printed sentence says how): TopicPlain: laid · TopicTells: laid · TopicCovers: laid · TopicWitness: laid · WatchTells: laid · WatchFresh: laid · WatchOne: laid · SessionTells: laid · SessionHolds: laid · KeepTells: laid · KeepLast: laid · KeepList: laid.
  DERIVED. THE GIVEN ROWS OF THIS SEAT. 12 by the template 'for every input the law returns true; each argument reads behind the call as it read before'; 0 by the template 'total and deterministic' (their statements: YtkalmhdckoocbaaDoorTotals.lean).
  GIVEN WITH THE SEED: the statements are not yours to turn. If you find one false, say at which input.
  Laid BY PROGRAM, IN A SANDBOX (cutbox-rows.mjs): the forced cells as the released guide's own fill.sh prints them over the translation b2785184bea2b629… (all of the seat's roots in one cut). By AI agents, Wed Nov 11 2026. No macro, syntax, notation, axiom, sorry.
-/
import Derived.Test.YtkalmhdckoocbaaDoorChecked
import GoSem.PinnedTables
import GoSem.Claim
import GoSem.ClaimJoined
import GoSem.ClaimMapViews
import Derived.JoinedTies
import Derived.KernelRfl
namespace Go.Proofs.YtkalmhdckoocbaaDoor
/- THE CELL 'sum', in the pinned program and in every row, IS THE sha256 OF THE DUMP (.gsa) THAT YtkalmhdckoocbaaDoorProg.lean LOADS. Nothing in Lean hashes anything: it is a label: what it is worth is what the hold of that sum in a sandbox is worth. -/
noncomputable def Tryd.pinned : Pinned := { name := "ytkalmhdckoocbaadoor", sum := "b2785184bea2b629ca36d1774ecdd689bd75264c745fb4cd7bee382f7c58ac97", checked := Tryd.checked }
namespace Rows
def none {H : Type} : Left H := { results := [], args := [] }

/- WHAT THE LISTED PACKAGE-LEVEL VARIABLES READ AS WHEN THE CALL BEGINS. Each datum BY PROGRAM (the guide's laid-datum.mjs) off the statement by which the dump's own 'gosem.cut.vars' lays the variable. In a bare row this is a premise. The card (YtkalmhdckoocbaaDoorCards.lean) ties it to the program's text. -/
def laid_unicode_utf8_acceptRanges {H : Type} : DataW H := .agg [.agg [.lit (.int .u8 128), .lit (.int .u8 191)], .agg [.lit (.int .u8 160), .lit (.int .u8 191)], .agg [.lit (.int .u8 128), .lit (.int .u8 159)], .agg [.lit (.int .u8 144), .lit (.int .u8 191)], .agg [.lit (.int .u8 128), .lit (.int .u8 143)], .agg [.lit (.int .u8 0), .lit (.int .u8 0)], .agg [.lit (.int .u8 0), .lit (.int .u8 0)], .agg [.lit (.int .u8 0), .lit (.int .u8 0)], .agg [.lit (.int .u8 0), .lit (.int .u8 0)], .agg [.lit (.int .u8 0), .lit (.int .u8 0)], .agg [.lit (.int .u8 0), .lit (.int .u8 0)], .agg [.lit (.int .u8 0), .lit (.int .u8 0)], .agg [.lit (.int .u8 0), .lit (.int .u8 0)], .agg [.lit (.int .u8 0), .lit (.int .u8 0)], .agg [.lit (.int .u8 0), .lit (.int .u8 0)], .agg [.lit (.int .u8 0), .lit (.int .u8 0)]]
/-- One of Go's own tables, pinned by name: the form's constant. -/
def laid_unicode_utf8_first : DataW Unit := Go.Pinned.utf8First

/-- 'dragomanlaw.TopicPlain': WHATEVER THE INPUT: true; the input reads as it did. -/
def topicPlainSpec : ChangeSpec := { name := "topicPlain", fn := fun _ => fun
  | [d1, d2] => { results := [.lit (.bool true)], args := [d1, d2] }
  | _ => none }
def topicPlainRow : OpenClaim := { program := "ytkalmhdckoocbaadoor", sum := "b2785184bea2b629ca36d1774ecdd689bd75264c745fb4cd7bee382f7c58ac97", func := "dragoman/dragomanlaw.TopicPlain", spec := "topicPlain", inPlace := ["internal/bytealg.CountString", "internal/bytealg.IndexByteString", "internal/bytealg.IndexString"], unfollowed := true, recurses := true, named := ["unicode/utf8.first", "unicode/utf8.acceptRanges", "internal/bytealg.MaxLen"], apart := false, laid := [("unicode/utf8.acceptRanges", laid_unicode_utf8_acceptRanges), ("unicode/utf8.first", laid_unicode_utf8_first)] }
def TopicPlainSaid : Prop := topicPlainRow.holds Tryd.pinned (OpenSpec.ofChange topicPlainSpec)

/-- ITS FALSE NEIGHBOUR: 'it returns false'. Refute it at one input. -/
def topicPlainWrong : ChangeSpec := { name := "topicPlain", fn := fun _ => fun
  | [d1, d2] => { results := [.lit (.bool false)], args := [d1, d2] }
  | _ => none }
def TopicPlainWrongFalsely : Prop := topicPlainRow.holds Tryd.pinned (OpenSpec.ofChange topicPlainWrong)

/-- 'dragomanlaw.TopicTells': WHATEVER THE INPUT: true; the input reads as it did. -/
def topicTellsSpec : ChangeSpec := { name := "topicTells", fn := fun _ => fun
  | [d1, d2] => { results := [.lit (.bool true)], args := [d1, d2] }
  | _ => none }
def topicTellsRow : OpenClaim := { program := "ytkalmhdckoocbaadoor", sum := "b2785184bea2b629ca36d1774ecdd689bd75264c745fb4cd7bee382f7c58ac97", func := "dragoman/dragomanlaw.TopicTells", spec := "topicTells", inPlace := ["internal/bytealg.CountString", "internal/bytealg.IndexByteString", "internal/bytealg.IndexString"], unfollowed := true, recurses := true, named := ["unicode/utf8.first", "unicode/utf8.acceptRanges", "internal/bytealg.MaxLen"], apart := false, laid := [("unicode/utf8.acceptRanges", laid_unicode_utf8_acceptRanges), ("unicode/utf8.first", laid_unicode_utf8_first)] }
def TopicTellsSaid : Prop := topicTellsRow.holds Tryd.pinned (OpenSpec.ofChange topicTellsSpec)

/-- ITS FALSE NEIGHBOUR: 'it returns false'. Refute it at one input. -/
def topicTellsWrong : ChangeSpec := { name := "topicTells", fn := fun _ => fun
  | [d1, d2] => { results := [.lit (.bool false)], args := [d1, d2] }
  | _ => none }
def TopicTellsWrongFalsely : Prop := topicTellsRow.holds Tryd.pinned (OpenSpec.ofChange topicTellsWrong)

/-- 'dragomanlaw.TopicCovers': WHATEVER THE INPUT: true; the input reads as it did. -/
def topicCoversSpec : ChangeSpec := { name := "topicCovers", fn := fun _ => fun
  | [d1, d2, d3, d4] => { results := [.lit (.bool true)], args := [d1, d2, d3, d4] }
  | _ => none }
def topicCoversRow : OpenClaim := { program := "ytkalmhdckoocbaadoor", sum := "b2785184bea2b629ca36d1774ecdd689bd75264c745fb4cd7bee382f7c58ac97", func := "dragoman/dragomanlaw.TopicCovers", spec := "topicCovers", inPlace := ["internal/bytealg.CountString", "internal/bytealg.IndexByteString", "internal/bytealg.IndexString"], unfollowed := true, recurses := true, named := ["unicode/utf8.first", "unicode/utf8.acceptRanges", "internal/bytealg.MaxLen"], apart := false, laid := [("unicode/utf8.acceptRanges", laid_unicode_utf8_acceptRanges), ("unicode/utf8.first", laid_unicode_utf8_first)] }
def TopicCoversSaid : Prop := topicCoversRow.holds Tryd.pinned (OpenSpec.ofChange topicCoversSpec)

/-- ITS FALSE NEIGHBOUR: 'it returns false'. Refute it at one input. -/
def topicCoversWrong : ChangeSpec := { name := "topicCovers", fn := fun _ => fun
  | [d1, d2, d3, d4] => { results := [.lit (.bool false)], args := [d1, d2, d3, d4] }
  | _ => none }
def TopicCoversWrongFalsely : Prop := topicCoversRow.holds Tryd.pinned (OpenSpec.ofChange topicCoversWrong)

/-- 'dragomanlaw.TopicWitness': WHATEVER THE INPUT: true; the input reads as it did. -/
def topicWitnessSpec : ChangeSpec := { name := "topicWitness", fn := fun _ => fun
  | [d1, d2] => { results := [.lit (.bool true)], args := [d1, d2] }
  | _ => none }
def topicWitnessRow : OpenClaim := { program := "ytkalmhdckoocbaadoor", sum := "b2785184bea2b629ca36d1774ecdd689bd75264c745fb4cd7bee382f7c58ac97", func := "dragoman/dragomanlaw.TopicWitness", spec := "topicWitness", inPlace := ["internal/bytealg.CountString", "internal/bytealg.IndexByteString", "internal/bytealg.IndexString"], unfollowed := true, recurses := true, named := ["unicode/utf8.first", "unicode/utf8.acceptRanges", "internal/bytealg.MaxLen"], apart := false, laid := [("unicode/utf8.acceptRanges", laid_unicode_utf8_acceptRanges), ("unicode/utf8.first", laid_unicode_utf8_first)] }
def TopicWitnessSaid : Prop := topicWitnessRow.holds Tryd.pinned (OpenSpec.ofChange topicWitnessSpec)

/-- ITS FALSE NEIGHBOUR: 'it returns false'. Refute it at one input. -/
def topicWitnessWrong : ChangeSpec := { name := "topicWitness", fn := fun _ => fun
  | [d1, d2] => { results := [.lit (.bool false)], args := [d1, d2] }
  | _ => none }
def TopicWitnessWrongFalsely : Prop := topicWitnessRow.holds Tryd.pinned (OpenSpec.ofChange topicWitnessWrong)

/-- 'dragomanlaw.WatchTells': WHATEVER THE INPUT: true; the input reads as it did. -/
def watchTellsSpec : ChangeSpec := { name := "watchTells", fn := fun _ => fun
  | [d1, d2, d3, d4, d5, d6] => { results := [.lit (.bool true)], args := [d1, d2, d3, d4, d5, d6] }
  | _ => none }
def watchTellsRow : OpenClaim := { program := "ytkalmhdckoocbaadoor", sum := "b2785184bea2b629ca36d1774ecdd689bd75264c745fb4cd7bee382f7c58ac97", func := "dragoman/dragomanlaw.WatchTells", spec := "watchTells", inPlace := ["internal/bytealg.CountString", "internal/bytealg.IndexByteString", "internal/bytealg.IndexString"], unfollowed := true, recurses := true, named := ["unicode/utf8.first", "unicode/utf8.acceptRanges", "internal/bytealg.MaxLen"], apart := false, laid := [("unicode/utf8.acceptRanges", laid_unicode_utf8_acceptRanges), ("unicode/utf8.first", laid_unicode_utf8_first)] }
def WatchTellsSaid : Prop := watchTellsRow.holds Tryd.pinned (OpenSpec.ofChange watchTellsSpec)

/-- ITS FALSE NEIGHBOUR: 'it returns false'. Refute it at one input. -/
def watchTellsWrong : ChangeSpec := { name := "watchTells", fn := fun _ => fun
  | [d1, d2, d3, d4, d5, d6] => { results := [.lit (.bool false)], args := [d1, d2, d3, d4, d5, d6] }
  | _ => none }
def WatchTellsWrongFalsely : Prop := watchTellsRow.holds Tryd.pinned (OpenSpec.ofChange watchTellsWrong)

/-- 'dragomanlaw.WatchFresh': WHATEVER THE INPUT: true; the input reads as it did. -/
def watchFreshSpec : ChangeSpec := { name := "watchFresh", fn := fun _ => fun
  | [d1, d2, d3] => { results := [.lit (.bool true)], args := [d1, d2, d3] }
  | _ => none }
def watchFreshRow : OpenClaim := { program := "ytkalmhdckoocbaadoor", sum := "b2785184bea2b629ca36d1774ecdd689bd75264c745fb4cd7bee382f7c58ac97", func := "dragoman/dragomanlaw.WatchFresh", spec := "watchFresh", inPlace := ["internal/bytealg.CountString", "internal/bytealg.IndexByteString", "internal/bytealg.IndexString"], unfollowed := true, recurses := true, named := ["unicode/utf8.first", "unicode/utf8.acceptRanges", "internal/bytealg.MaxLen"], apart := false, laid := [("unicode/utf8.acceptRanges", laid_unicode_utf8_acceptRanges), ("unicode/utf8.first", laid_unicode_utf8_first)] }
def WatchFreshSaid : Prop := watchFreshRow.holds Tryd.pinned (OpenSpec.ofChange watchFreshSpec)

/-- ITS FALSE NEIGHBOUR: 'it returns false'. Refute it at one input. -/
def watchFreshWrong : ChangeSpec := { name := "watchFresh", fn := fun _ => fun
  | [d1, d2, d3] => { results := [.lit (.bool false)], args := [d1, d2, d3] }
  | _ => none }
def WatchFreshWrongFalsely : Prop := watchFreshRow.holds Tryd.pinned (OpenSpec.ofChange watchFreshWrong)

/-- 'dragomanlaw.WatchOne': WHATEVER THE INPUT: true; the input reads as it did. -/
def watchOneSpec : ChangeSpec := { name := "watchOne", fn := fun _ => fun
  | [d1, d2, d3, d4] => { results := [.lit (.bool true)], args := [d1, d2, d3, d4] }
  | _ => none }
def watchOneRow : OpenClaim := { program := "ytkalmhdckoocbaadoor", sum := "b2785184bea2b629ca36d1774ecdd689bd75264c745fb4cd7bee382f7c58ac97", func := "dragoman/dragomanlaw.WatchOne", spec := "watchOne", inPlace := ["internal/bytealg.CountString", "internal/bytealg.IndexByteString", "internal/bytealg.IndexString"], unfollowed := true, recurses := true, named := ["unicode/utf8.first", "unicode/utf8.acceptRanges", "internal/bytealg.MaxLen"], apart := false, laid := [("unicode/utf8.acceptRanges", laid_unicode_utf8_acceptRanges), ("unicode/utf8.first", laid_unicode_utf8_first)] }
def WatchOneSaid : Prop := watchOneRow.holds Tryd.pinned (OpenSpec.ofChange watchOneSpec)

/-- ITS FALSE NEIGHBOUR: 'it returns false'. Refute it at one input. -/
def watchOneWrong : ChangeSpec := { name := "watchOne", fn := fun _ => fun
  | [d1, d2, d3, d4] => { results := [.lit (.bool false)], args := [d1, d2, d3, d4] }
  | _ => none }
def WatchOneWrongFalsely : Prop := watchOneRow.holds Tryd.pinned (OpenSpec.ofChange watchOneWrong)

/-- 'dragomanlaw.SessionTells': WHATEVER THE INPUT: true; the input reads as it did. -/
def sessionTellsSpec : ChangeSpec := { name := "sessionTells", fn := fun _ => fun
  | [d1, d2, d3, d4, d5] => { results := [.lit (.bool true)], args := [d1, d2, d3, d4, d5] }
  | _ => none }
def sessionTellsRow : OpenClaim := { program := "ytkalmhdckoocbaadoor", sum := "b2785184bea2b629ca36d1774ecdd689bd75264c745fb4cd7bee382f7c58ac97", func := "dragoman/dragomanlaw.SessionTells", spec := "sessionTells", inPlace := ["internal/bytealg.CountString", "internal/bytealg.IndexByteString", "internal/bytealg.IndexString"], unfollowed := true, recurses := true, named := ["unicode/utf8.first", "unicode/utf8.acceptRanges", "internal/bytealg.MaxLen"], apart := false, laid := [("unicode/utf8.acceptRanges", laid_unicode_utf8_acceptRanges), ("unicode/utf8.first", laid_unicode_utf8_first)] }
def SessionTellsSaid : Prop := sessionTellsRow.holds Tryd.pinned (OpenSpec.ofChange sessionTellsSpec)

/-- ITS FALSE NEIGHBOUR: 'it returns false'. Refute it at one input. -/
def sessionTellsWrong : ChangeSpec := { name := "sessionTells", fn := fun _ => fun
  | [d1, d2, d3, d4, d5] => { results := [.lit (.bool false)], args := [d1, d2, d3, d4, d5] }
  | _ => none }
def SessionTellsWrongFalsely : Prop := sessionTellsRow.holds Tryd.pinned (OpenSpec.ofChange sessionTellsWrong)

/-- 'dragomanlaw.SessionHolds': WHATEVER THE INPUT: true; the input reads as it did. -/
def sessionHoldsSpec : ChangeSpec := { name := "sessionHolds", fn := fun _ => fun
  | [d1, d2, d3, d4] => { results := [.lit (.bool true)], args := [d1, d2, d3, d4] }
  | _ => none }
def sessionHoldsRow : OpenClaim := { program := "ytkalmhdckoocbaadoor", sum := "b2785184bea2b629ca36d1774ecdd689bd75264c745fb4cd7bee382f7c58ac97", func := "dragoman/dragomanlaw.SessionHolds", spec := "sessionHolds", inPlace := ["internal/bytealg.CountString", "internal/bytealg.IndexByteString", "internal/bytealg.IndexString"], unfollowed := true, recurses := true, named := ["unicode/utf8.first", "unicode/utf8.acceptRanges", "internal/bytealg.MaxLen"], apart := false, laid := [("unicode/utf8.acceptRanges", laid_unicode_utf8_acceptRanges), ("unicode/utf8.first", laid_unicode_utf8_first)] }
def SessionHoldsSaid : Prop := sessionHoldsRow.holds Tryd.pinned (OpenSpec.ofChange sessionHoldsSpec)

/-- ITS FALSE NEIGHBOUR: 'it returns false'. Refute it at one input. -/
def sessionHoldsWrong : ChangeSpec := { name := "sessionHolds", fn := fun _ => fun
  | [d1, d2, d3, d4] => { results := [.lit (.bool false)], args := [d1, d2, d3, d4] }
  | _ => none }
def SessionHoldsWrongFalsely : Prop := sessionHoldsRow.holds Tryd.pinned (OpenSpec.ofChange sessionHoldsWrong)

/-- 'dragomanlaw.KeepTells': WHATEVER THE INPUT: true; the input reads as it did. -/
def keepTellsSpec : ChangeSpec := { name := "keepTells", fn := fun _ => fun
  | [d1, d2, d3] => { results := [.lit (.bool true)], args := [d1, d2, d3] }
  | _ => none }
def keepTellsRow : OpenClaim := { program := "ytkalmhdckoocbaadoor", sum := "b2785184bea2b629ca36d1774ecdd689bd75264c745fb4cd7bee382f7c58ac97", func := "dragoman/dragomanlaw.KeepTells", spec := "keepTells", inPlace := ["internal/bytealg.CountString", "internal/bytealg.IndexByteString", "internal/bytealg.IndexString", "internal/bytealg.abigen_runtime_cmpstring", "slices.overlaps[dragoman/api.Kept]"], unfollowed := true, recurses := true, named := ["unicode/utf8.first", "unicode/utf8.acceptRanges", "internal/bytealg.MaxLen"], apart := false, laid := [("unicode/utf8.acceptRanges", laid_unicode_utf8_acceptRanges), ("unicode/utf8.first", laid_unicode_utf8_first)] }
def KeepTellsSaid : Prop := keepTellsRow.holds Tryd.pinned (OpenSpec.ofChange keepTellsSpec)

/-- ITS FALSE NEIGHBOUR: 'it returns false'. Refute it at one input. -/
def keepTellsWrong : ChangeSpec := { name := "keepTells", fn := fun _ => fun
  | [d1, d2, d3] => { results := [.lit (.bool false)], args := [d1, d2, d3] }
  | _ => none }
def KeepTellsWrongFalsely : Prop := keepTellsRow.holds Tryd.pinned (OpenSpec.ofChange keepTellsWrong)

/-- 'dragomanlaw.KeepLast': WHATEVER THE INPUT: true; the input reads as it did. -/
def keepLastSpec : ChangeSpec := { name := "keepLast", fn := fun _ => fun
  | [d1, d2, d3, d4] => { results := [.lit (.bool true)], args := [d1, d2, d3, d4] }
  | _ => none }
def keepLastRow : OpenClaim := { program := "ytkalmhdckoocbaadoor", sum := "b2785184bea2b629ca36d1774ecdd689bd75264c745fb4cd7bee382f7c58ac97", func := "dragoman/dragomanlaw.KeepLast", spec := "keepLast", inPlace := ["internal/bytealg.CountString", "internal/bytealg.IndexByteString", "internal/bytealg.IndexString", "internal/bytealg.abigen_runtime_cmpstring", "slices.overlaps[dragoman/api.Kept]"], unfollowed := true, recurses := true, named := ["unicode/utf8.first", "unicode/utf8.acceptRanges", "internal/bytealg.MaxLen"], apart := false, laid := [("unicode/utf8.acceptRanges", laid_unicode_utf8_acceptRanges), ("unicode/utf8.first", laid_unicode_utf8_first)] }
def KeepLastSaid : Prop := keepLastRow.holds Tryd.pinned (OpenSpec.ofChange keepLastSpec)

/-- ITS FALSE NEIGHBOUR: 'it returns false'. Refute it at one input. -/
def keepLastWrong : ChangeSpec := { name := "keepLast", fn := fun _ => fun
  | [d1, d2, d3, d4] => { results := [.lit (.bool false)], args := [d1, d2, d3, d4] }
  | _ => none }
def KeepLastWrongFalsely : Prop := keepLastRow.holds Tryd.pinned (OpenSpec.ofChange keepLastWrong)

/-- 'dragomanlaw.KeepList': WHATEVER THE INPUT: true; the input reads as it did. -/
def keepListSpec : ChangeSpec := { name := "keepList", fn := fun _ => fun
  | [d1, d2, d3] => { results := [.lit (.bool true)], args := [d1, d2, d3] }
  | _ => none }
def keepListRow : OpenClaim := { program := "ytkalmhdckoocbaadoor", sum := "b2785184bea2b629ca36d1774ecdd689bd75264c745fb4cd7bee382f7c58ac97", func := "dragoman/dragomanlaw.KeepList", spec := "keepList", inPlace := ["internal/bytealg.CountString", "internal/bytealg.IndexByteString", "internal/bytealg.IndexString", "internal/bytealg.abigen_runtime_cmpstring", "slices.overlaps[dragoman/api.Kept]"], unfollowed := true, recurses := true, named := ["unicode/utf8.first", "unicode/utf8.acceptRanges", "internal/bytealg.MaxLen"], apart := false, laid := [("unicode/utf8.acceptRanges", laid_unicode_utf8_acceptRanges), ("unicode/utf8.first", laid_unicode_utf8_first)] }
def KeepListSaid : Prop := keepListRow.holds Tryd.pinned (OpenSpec.ofChange keepListSpec)

/-- ITS FALSE NEIGHBOUR: 'it returns false'. Refute it at one input. -/
def keepListWrong : ChangeSpec := { name := "keepList", fn := fun _ => fun
  | [d1, d2, d3] => { results := [.lit (.bool false)], args := [d1, d2, d3] }
  | _ => none }
def KeepListWrongFalsely : Prop := keepListRow.holds Tryd.pinned (OpenSpec.ofChange keepListWrong)

/- THE SECOND FORM. 'bulk': how many values and letters a reading holds, each counted each time it is reached (what is shared counts as often as it is met; a slice's spare places count too). A statement '..UptoSaid' is the law's where the arguments, and the package variables that the reading takes, are together of bulk at most 1048576: NARROWER than '..Said'. Prove '..Said' where nothing that the law and all that it calls make is longer than what came in: it says more and counts as full. Else prove '..UptoSaid'. A law counts once. -/
mutual
def uptoBulk {H : Type} : DataW H → Nat
  | .lit (.string bytes) => bytes.length + 1
  | .lit _ => 1
  | .nil => 1
  | .ptr d => uptoBulk d + 1
  | .slice elems spare => uptoBulkAll elems + uptoBulkAll spare + 1
  | .agg parts => uptoBulkAll parts + 1
  | .iface _ d => uptoBulk d + 1
  | .map entries => uptoBulkEntries entries + 1
  | .held _ => 1
def uptoBulkAll {H : Type} : List (DataW H) → Nat
  | [] => 0
  | d :: r => uptoBulk d + uptoBulkAll r
def uptoBulkEntries {H : Type} : List (Lit × DataW H) → Nat
  | [] => 0
  | x :: r => uptoBulkEntry x + uptoBulkEntries r
def uptoBulkEntry {H : Type} : Lit × DataW H → Nat
  | (.string bytes, d) => bytes.length + uptoBulk d + 1
  | (_, d) => uptoBulk d + 1
 end
def uptoSmall : (H : Type) → List (DataW H) → Bool := fun _ ds => decide (uptoBulkAll ds ≤ 1048576)
def OpenSpec.upto (s : _root_.Go.ChangeSpec) : _root_.Go.OpenSpec := { _root_.Go.OpenSpec.ofChange s with cond := some uptoSmall }

/-- 'dragomanlaw.TopicPlain', WHERE WHAT IT READS IS OF BULK AT MOST 1048576: true; the input reads as it did. -/
def topicPlainUptoRow : OpenClaim := { program := "ytkalmhdckoocbaadoor", sum := "b2785184bea2b629ca36d1774ecdd689bd75264c745fb4cd7bee382f7c58ac97", func := "dragoman/dragomanlaw.TopicPlain", spec := "topicPlain", inPlace := ["internal/bytealg.CountString", "internal/bytealg.IndexByteString", "internal/bytealg.IndexString"], unfollowed := true, recurses := true, named := ["unicode/utf8.first", "unicode/utf8.acceptRanges", "internal/bytealg.MaxLen"], apart := false, laid := [("unicode/utf8.acceptRanges", laid_unicode_utf8_acceptRanges), ("unicode/utf8.first", laid_unicode_utf8_first)], narrowed := true }
def TopicPlainUptoSaid : Prop := topicPlainUptoRow.holds Tryd.pinned (OpenSpec.upto topicPlainSpec)

/-- 'dragomanlaw.TopicTells', WHERE WHAT IT READS IS OF BULK AT MOST 1048576: true; the input reads as it did. -/
def topicTellsUptoRow : OpenClaim := { program := "ytkalmhdckoocbaadoor", sum := "b2785184bea2b629ca36d1774ecdd689bd75264c745fb4cd7bee382f7c58ac97", func := "dragoman/dragomanlaw.TopicTells", spec := "topicTells", inPlace := ["internal/bytealg.CountString", "internal/bytealg.IndexByteString", "internal/bytealg.IndexString"], unfollowed := true, recurses := true, named := ["unicode/utf8.first", "unicode/utf8.acceptRanges", "internal/bytealg.MaxLen"], apart := false, laid := [("unicode/utf8.acceptRanges", laid_unicode_utf8_acceptRanges), ("unicode/utf8.first", laid_unicode_utf8_first)], narrowed := true }
def TopicTellsUptoSaid : Prop := topicTellsUptoRow.holds Tryd.pinned (OpenSpec.upto topicTellsSpec)

/-- 'dragomanlaw.TopicCovers', WHERE WHAT IT READS IS OF BULK AT MOST 1048576: true; the input reads as it did. -/
def topicCoversUptoRow : OpenClaim := { program := "ytkalmhdckoocbaadoor", sum := "b2785184bea2b629ca36d1774ecdd689bd75264c745fb4cd7bee382f7c58ac97", func := "dragoman/dragomanlaw.TopicCovers", spec := "topicCovers", inPlace := ["internal/bytealg.CountString", "internal/bytealg.IndexByteString", "internal/bytealg.IndexString"], unfollowed := true, recurses := true, named := ["unicode/utf8.first", "unicode/utf8.acceptRanges", "internal/bytealg.MaxLen"], apart := false, laid := [("unicode/utf8.acceptRanges", laid_unicode_utf8_acceptRanges), ("unicode/utf8.first", laid_unicode_utf8_first)], narrowed := true }
def TopicCoversUptoSaid : Prop := topicCoversUptoRow.holds Tryd.pinned (OpenSpec.upto topicCoversSpec)

/-- 'dragomanlaw.TopicWitness', WHERE WHAT IT READS IS OF BULK AT MOST 1048576: true; the input reads as it did. -/
def topicWitnessUptoRow : OpenClaim := { program := "ytkalmhdckoocbaadoor", sum := "b2785184bea2b629ca36d1774ecdd689bd75264c745fb4cd7bee382f7c58ac97", func := "dragoman/dragomanlaw.TopicWitness", spec := "topicWitness", inPlace := ["internal/bytealg.CountString", "internal/bytealg.IndexByteString", "internal/bytealg.IndexString"], unfollowed := true, recurses := true, named := ["unicode/utf8.first", "unicode/utf8.acceptRanges", "internal/bytealg.MaxLen"], apart := false, laid := [("unicode/utf8.acceptRanges", laid_unicode_utf8_acceptRanges), ("unicode/utf8.first", laid_unicode_utf8_first)], narrowed := true }
def TopicWitnessUptoSaid : Prop := topicWitnessUptoRow.holds Tryd.pinned (OpenSpec.upto topicWitnessSpec)

/-- 'dragomanlaw.WatchTells', WHERE WHAT IT READS IS OF BULK AT MOST 1048576: true; the input reads as it did. -/
def watchTellsUptoRow : OpenClaim := { program := "ytkalmhdckoocbaadoor", sum := "b2785184bea2b629ca36d1774ecdd689bd75264c745fb4cd7bee382f7c58ac97", func := "dragoman/dragomanlaw.WatchTells", spec := "watchTells", inPlace := ["internal/bytealg.CountString", "internal/bytealg.IndexByteString", "internal/bytealg.IndexString"], unfollowed := true, recurses := true, named := ["unicode/utf8.first", "unicode/utf8.acceptRanges", "internal/bytealg.MaxLen"], apart := false, laid := [("unicode/utf8.acceptRanges", laid_unicode_utf8_acceptRanges), ("unicode/utf8.first", laid_unicode_utf8_first)], narrowed := true }
def WatchTellsUptoSaid : Prop := watchTellsUptoRow.holds Tryd.pinned (OpenSpec.upto watchTellsSpec)

/-- 'dragomanlaw.WatchFresh', WHERE WHAT IT READS IS OF BULK AT MOST 1048576: true; the input reads as it did. -/
def watchFreshUptoRow : OpenClaim := { program := "ytkalmhdckoocbaadoor", sum := "b2785184bea2b629ca36d1774ecdd689bd75264c745fb4cd7bee382f7c58ac97", func := "dragoman/dragomanlaw.WatchFresh", spec := "watchFresh", inPlace := ["internal/bytealg.CountString", "internal/bytealg.IndexByteString", "internal/bytealg.IndexString"], unfollowed := true, recurses := true, named := ["unicode/utf8.first", "unicode/utf8.acceptRanges", "internal/bytealg.MaxLen"], apart := false, laid := [("unicode/utf8.acceptRanges", laid_unicode_utf8_acceptRanges), ("unicode/utf8.first", laid_unicode_utf8_first)], narrowed := true }
def WatchFreshUptoSaid : Prop := watchFreshUptoRow.holds Tryd.pinned (OpenSpec.upto watchFreshSpec)

/-- 'dragomanlaw.WatchOne', WHERE WHAT IT READS IS OF BULK AT MOST 1048576: true; the input reads as it did. -/
def watchOneUptoRow : OpenClaim := { program := "ytkalmhdckoocbaadoor", sum := "b2785184bea2b629ca36d1774ecdd689bd75264c745fb4cd7bee382f7c58ac97", func := "dragoman/dragomanlaw.WatchOne", spec := "watchOne", inPlace := ["internal/bytealg.CountString", "internal/bytealg.IndexByteString", "internal/bytealg.IndexString"], unfollowed := true, recurses := true, named := ["unicode/utf8.first", "unicode/utf8.acceptRanges", "internal/bytealg.MaxLen"], apart := false, laid := [("unicode/utf8.acceptRanges", laid_unicode_utf8_acceptRanges), ("unicode/utf8.first", laid_unicode_utf8_first)], narrowed := true }
def WatchOneUptoSaid : Prop := watchOneUptoRow.holds Tryd.pinned (OpenSpec.upto watchOneSpec)

/-- 'dragomanlaw.SessionTells', WHERE WHAT IT READS IS OF BULK AT MOST 1048576: true; the input reads as it did. -/
def sessionTellsUptoRow : OpenClaim := { program := "ytkalmhdckoocbaadoor", sum := "b2785184bea2b629ca36d1774ecdd689bd75264c745fb4cd7bee382f7c58ac97", func := "dragoman/dragomanlaw.SessionTells", spec := "sessionTells", inPlace := ["internal/bytealg.CountString", "internal/bytealg.IndexByteString", "internal/bytealg.IndexString"], unfollowed := true, recurses := true, named := ["unicode/utf8.first", "unicode/utf8.acceptRanges", "internal/bytealg.MaxLen"], apart := false, laid := [("unicode/utf8.acceptRanges", laid_unicode_utf8_acceptRanges), ("unicode/utf8.first", laid_unicode_utf8_first)], narrowed := true }
def SessionTellsUptoSaid : Prop := sessionTellsUptoRow.holds Tryd.pinned (OpenSpec.upto sessionTellsSpec)

/-- 'dragomanlaw.SessionHolds', WHERE WHAT IT READS IS OF BULK AT MOST 1048576: true; the input reads as it did. -/
def sessionHoldsUptoRow : OpenClaim := { program := "ytkalmhdckoocbaadoor", sum := "b2785184bea2b629ca36d1774ecdd689bd75264c745fb4cd7bee382f7c58ac97", func := "dragoman/dragomanlaw.SessionHolds", spec := "sessionHolds", inPlace := ["internal/bytealg.CountString", "internal/bytealg.IndexByteString", "internal/bytealg.IndexString"], unfollowed := true, recurses := true, named := ["unicode/utf8.first", "unicode/utf8.acceptRanges", "internal/bytealg.MaxLen"], apart := false, laid := [("unicode/utf8.acceptRanges", laid_unicode_utf8_acceptRanges), ("unicode/utf8.first", laid_unicode_utf8_first)], narrowed := true }
def SessionHoldsUptoSaid : Prop := sessionHoldsUptoRow.holds Tryd.pinned (OpenSpec.upto sessionHoldsSpec)

/-- 'dragomanlaw.KeepTells', WHERE WHAT IT READS IS OF BULK AT MOST 1048576: true; the input reads as it did. -/
def keepTellsUptoRow : OpenClaim := { program := "ytkalmhdckoocbaadoor", sum := "b2785184bea2b629ca36d1774ecdd689bd75264c745fb4cd7bee382f7c58ac97", func := "dragoman/dragomanlaw.KeepTells", spec := "keepTells", inPlace := ["internal/bytealg.CountString", "internal/bytealg.IndexByteString", "internal/bytealg.IndexString", "internal/bytealg.abigen_runtime_cmpstring", "slices.overlaps[dragoman/api.Kept]"], unfollowed := true, recurses := true, named := ["unicode/utf8.first", "unicode/utf8.acceptRanges", "internal/bytealg.MaxLen"], apart := false, laid := [("unicode/utf8.acceptRanges", laid_unicode_utf8_acceptRanges), ("unicode/utf8.first", laid_unicode_utf8_first)], narrowed := true }
def KeepTellsUptoSaid : Prop := keepTellsUptoRow.holds Tryd.pinned (OpenSpec.upto keepTellsSpec)

/-- 'dragomanlaw.KeepLast', WHERE WHAT IT READS IS OF BULK AT MOST 1048576: true; the input reads as it did. -/
def keepLastUptoRow : OpenClaim := { program := "ytkalmhdckoocbaadoor", sum := "b2785184bea2b629ca36d1774ecdd689bd75264c745fb4cd7bee382f7c58ac97", func := "dragoman/dragomanlaw.KeepLast", spec := "keepLast", inPlace := ["internal/bytealg.CountString", "internal/bytealg.IndexByteString", "internal/bytealg.IndexString", "internal/bytealg.abigen_runtime_cmpstring", "slices.overlaps[dragoman/api.Kept]"], unfollowed := true, recurses := true, named := ["unicode/utf8.first", "unicode/utf8.acceptRanges", "internal/bytealg.MaxLen"], apart := false, laid := [("unicode/utf8.acceptRanges", laid_unicode_utf8_acceptRanges), ("unicode/utf8.first", laid_unicode_utf8_first)], narrowed := true }
def KeepLastUptoSaid : Prop := keepLastUptoRow.holds Tryd.pinned (OpenSpec.upto keepLastSpec)

/-- 'dragomanlaw.KeepList', WHERE WHAT IT READS IS OF BULK AT MOST 1048576: true; the input reads as it did. -/
def keepListUptoRow : OpenClaim := { program := "ytkalmhdckoocbaadoor", sum := "b2785184bea2b629ca36d1774ecdd689bd75264c745fb4cd7bee382f7c58ac97", func := "dragoman/dragomanlaw.KeepList", spec := "keepList", inPlace := ["internal/bytealg.CountString", "internal/bytealg.IndexByteString", "internal/bytealg.IndexString", "internal/bytealg.abigen_runtime_cmpstring", "slices.overlaps[dragoman/api.Kept]"], unfollowed := true, recurses := true, named := ["unicode/utf8.first", "unicode/utf8.acceptRanges", "internal/bytealg.MaxLen"], apart := false, laid := [("unicode/utf8.acceptRanges", laid_unicode_utf8_acceptRanges), ("unicode/utf8.first", laid_unicode_utf8_first)], narrowed := true }
def KeepListUptoSaid : Prop := keepListUptoRow.holds Tryd.pinned (OpenSpec.upto keepListSpec)

end Rows
end Go.Proofs.YtkalmhdckoocbaaDoor
