/-
  No cell of these rows narrows 'for every input' (looked for: loops, veiled, ifaces, maps, wideKeys, modest, calm, conditions, laid).
  DERIVED. THE GIVEN ROWS OF THIS SEAT. 8 by the template 'for every input the law returns true; each argument reads behind the call as it read before'; 0 by the template 'total and deterministic' (their statements: YtpcdkcbniokdgaaTotals.lean).
  GIVEN WITH THE SEED: the statements are not yours to turn. If you find one false, say at which input.
  Laid BY PROGRAM, IN A SANDBOX (cutbox-rows.mjs): the forced cells as the released guide's own fill.sh prints them over the translation cb68cb6ea6bb2e96… (all of the seat's roots in one cut). By AI agents, Wed Nov 11 2026. No macro, syntax, notation, axiom, sorry.
-/
import Derived.Test.YtpcdkcbniokdgaaChecked
import GoSem.Claim
import GoSem.ClaimJoined
import GoSem.ClaimMapViews
import Derived.JoinedTies
import Derived.KernelRfl
namespace Go.Proofs.Ytpcdkcbniokdgaa
/- THE CELL 'sum', in the pinned program and in every row, IS THE sha256 OF THE DUMP (.gsa) THAT YtpcdkcbniokdgaaProg.lean LOADS. Nothing in Lean hashes anything: it is a label: what it is worth is what the hold of that sum in a sandbox is worth. -/
noncomputable def Try.pinned : Pinned := { name := "ytpcdkcbniokdgaa", sum := "cb68cb6ea6bb2e9660ab6f86c3b3af7ec4d55c7bd4c255c268666d5c5ec2ada9", checked := Try.checked }
namespace Rows
def none {H : Type} : Left H := { results := [], args := [] }

/-- 'dragomanlaw.BlockMany': WHATEVER THE INPUT: true; the input reads as it did. -/
def blockManySpec : ChangeSpec := { name := "blockMany", fn := fun _ => fun
  | [d1, d2] => { results := [.lit (.bool true)], args := [d1, d2] }
  | _ => none }
def blockManyRow : OpenClaim := { program := "ytpcdkcbniokdgaa", sum := "cb68cb6ea6bb2e9660ab6f86c3b3af7ec4d55c7bd4c255c268666d5c5ec2ada9", func := "dragoman/dragomanlaw.BlockMany", spec := "blockMany", inPlace := ["internal/abi.NoEscape"], apart := false }
def BlockManySaid : Prop := blockManyRow.holds Try.pinned (OpenSpec.ofChange blockManySpec)

/-- ITS FALSE NEIGHBOUR: 'it returns false'. Refute it at one input. -/
def blockManyWrong : ChangeSpec := { name := "blockMany", fn := fun _ => fun
  | [d1, d2] => { results := [.lit (.bool false)], args := [d1, d2] }
  | _ => none }
def BlockManyWrongFalsely : Prop := blockManyRow.holds Try.pinned (OpenSpec.ofChange blockManyWrong)

/-- 'dragomanlaw.BlockTells': WHATEVER THE INPUT: true; the input reads as it did. -/
def blockTellsSpec : ChangeSpec := { name := "blockTells", fn := fun _ => fun
  | [d1, d2, d3, d4, d5] => { results := [.lit (.bool true)], args := [d1, d2, d3, d4, d5] }
  | _ => none }
def blockTellsRow : OpenClaim := { program := "ytpcdkcbniokdgaa", sum := "cb68cb6ea6bb2e9660ab6f86c3b3af7ec4d55c7bd4c255c268666d5c5ec2ada9", func := "dragoman/dragomanlaw.BlockTells", spec := "blockTells", inPlace := ["internal/abi.NoEscape"], apart := false }
def BlockTellsSaid : Prop := blockTellsRow.holds Try.pinned (OpenSpec.ofChange blockTellsSpec)

/-- ITS FALSE NEIGHBOUR: 'it returns false'. Refute it at one input. -/
def blockTellsWrong : ChangeSpec := { name := "blockTells", fn := fun _ => fun
  | [d1, d2, d3, d4, d5] => { results := [.lit (.bool false)], args := [d1, d2, d3, d4, d5] }
  | _ => none }
def BlockTellsWrongFalsely : Prop := blockTellsRow.holds Try.pinned (OpenSpec.ofChange blockTellsWrong)

/-- 'dragomanlaw.BlockBack': WHATEVER THE INPUT: true; the input reads as it did. -/
def blockBackSpec : ChangeSpec := { name := "blockBack", fn := fun _ => fun
  | [d1, d2] => { results := [.lit (.bool true)], args := [d1, d2] }
  | _ => none }
def blockBackRow : OpenClaim := { program := "ytpcdkcbniokdgaa", sum := "cb68cb6ea6bb2e9660ab6f86c3b3af7ec4d55c7bd4c255c268666d5c5ec2ada9", func := "dragoman/dragomanlaw.BlockBack", spec := "blockBack", inPlace := ["internal/abi.NoEscape"], apart := false }
def BlockBackSaid : Prop := blockBackRow.holds Try.pinned (OpenSpec.ofChange blockBackSpec)

/-- ITS FALSE NEIGHBOUR: 'it returns false'. Refute it at one input. -/
def blockBackWrong : ChangeSpec := { name := "blockBack", fn := fun _ => fun
  | [d1, d2] => { results := [.lit (.bool false)], args := [d1, d2] }
  | _ => none }
def BlockBackWrongFalsely : Prop := blockBackRow.holds Try.pinned (OpenSpec.ofChange blockBackWrong)

/-- 'dragomanlaw.WireTells': WHATEVER THE INPUT: true; the input reads as it did. -/
def wireTellsSpec : ChangeSpec := { name := "wireTells", fn := fun _ => fun
  | [d1, d2, d3, d4, d5] => { results := [.lit (.bool true)], args := [d1, d2, d3, d4, d5] }
  | _ => none }
def wireTellsRow : OpenClaim := { program := "ytpcdkcbniokdgaa", sum := "cb68cb6ea6bb2e9660ab6f86c3b3af7ec4d55c7bd4c255c268666d5c5ec2ada9", func := "dragoman/dragomanlaw.WireTells", spec := "wireTells", recurses := true, apart := false }
def WireTellsSaid : Prop := wireTellsRow.holds Try.pinned (OpenSpec.ofChange wireTellsSpec)

/-- ITS FALSE NEIGHBOUR: 'it returns false'. Refute it at one input. -/
def wireTellsWrong : ChangeSpec := { name := "wireTells", fn := fun _ => fun
  | [d1, d2, d3, d4, d5] => { results := [.lit (.bool false)], args := [d1, d2, d3, d4, d5] }
  | _ => none }
def WireTellsWrongFalsely : Prop := wireTellsRow.holds Try.pinned (OpenSpec.ofChange wireTellsWrong)

/-- 'dragomanlaw.WireBack': WHATEVER THE INPUT: true; the input reads as it did. -/
def wireBackSpec : ChangeSpec := { name := "wireBack", fn := fun _ => fun
  | [d1, d2, d3, d4, d5] => { results := [.lit (.bool true)], args := [d1, d2, d3, d4, d5] }
  | _ => none }
def wireBackRow : OpenClaim := { program := "ytpcdkcbniokdgaa", sum := "cb68cb6ea6bb2e9660ab6f86c3b3af7ec4d55c7bd4c255c268666d5c5ec2ada9", func := "dragoman/dragomanlaw.WireBack", spec := "wireBack", apart := false }
def WireBackSaid : Prop := wireBackRow.holds Try.pinned (OpenSpec.ofChange wireBackSpec)

/-- ITS FALSE NEIGHBOUR: 'it returns false'. Refute it at one input. -/
def wireBackWrong : ChangeSpec := { name := "wireBack", fn := fun _ => fun
  | [d1, d2, d3, d4, d5] => { results := [.lit (.bool false)], args := [d1, d2, d3, d4, d5] }
  | _ => none }
def WireBackWrongFalsely : Prop := wireBackRow.holds Try.pinned (OpenSpec.ofChange wireBackWrong)

/-- 'dragomanlaw.MessageMore': WHATEVER THE INPUT: true; the input reads as it did. -/
def messageMoreSpec : ChangeSpec := { name := "messageMore", fn := fun _ => fun
  | [d1, d2, d3] => { results := [.lit (.bool true)], args := [d1, d2, d3] }
  | _ => none }
def messageMoreRow : OpenClaim := { program := "ytpcdkcbniokdgaa", sum := "cb68cb6ea6bb2e9660ab6f86c3b3af7ec4d55c7bd4c255c268666d5c5ec2ada9", func := "dragoman/dragomanlaw.MessageMore", spec := "messageMore", apart := false }
def MessageMoreSaid : Prop := messageMoreRow.holds Try.pinned (OpenSpec.ofChange messageMoreSpec)

/-- ITS FALSE NEIGHBOUR: 'it returns false'. Refute it at one input. -/
def messageMoreWrong : ChangeSpec := { name := "messageMore", fn := fun _ => fun
  | [d1, d2, d3] => { results := [.lit (.bool false)], args := [d1, d2, d3] }
  | _ => none }
def MessageMoreWrongFalsely : Prop := messageMoreRow.holds Try.pinned (OpenSpec.ofChange messageMoreWrong)

/-- 'dragomanlaw.MessageTells': WHATEVER THE INPUT: true; the input reads as it did. -/
def messageTellsSpec : ChangeSpec := { name := "messageTells", fn := fun _ => fun
  | [d1, d2] => { results := [.lit (.bool true)], args := [d1, d2] }
  | _ => none }
def messageTellsRow : OpenClaim := { program := "ytpcdkcbniokdgaa", sum := "cb68cb6ea6bb2e9660ab6f86c3b3af7ec4d55c7bd4c255c268666d5c5ec2ada9", func := "dragoman/dragomanlaw.MessageTells", spec := "messageTells", apart := false }
def MessageTellsSaid : Prop := messageTellsRow.holds Try.pinned (OpenSpec.ofChange messageTellsSpec)

/-- ITS FALSE NEIGHBOUR: 'it returns false'. Refute it at one input. -/
def messageTellsWrong : ChangeSpec := { name := "messageTells", fn := fun _ => fun
  | [d1, d2] => { results := [.lit (.bool false)], args := [d1, d2] }
  | _ => none }
def MessageTellsWrongFalsely : Prop := messageTellsRow.holds Try.pinned (OpenSpec.ofChange messageTellsWrong)

/-- 'dragomanlaw.MessageBack': WHATEVER THE INPUT: true; the input reads as it did. -/
def messageBackSpec : ChangeSpec := { name := "messageBack", fn := fun _ => fun
  | [d1, d2] => { results := [.lit (.bool true)], args := [d1, d2] }
  | _ => none }
def messageBackRow : OpenClaim := { program := "ytpcdkcbniokdgaa", sum := "cb68cb6ea6bb2e9660ab6f86c3b3af7ec4d55c7bd4c255c268666d5c5ec2ada9", func := "dragoman/dragomanlaw.MessageBack", spec := "messageBack", apart := false }
def MessageBackSaid : Prop := messageBackRow.holds Try.pinned (OpenSpec.ofChange messageBackSpec)

/-- ITS FALSE NEIGHBOUR: 'it returns false'. Refute it at one input. -/
def messageBackWrong : ChangeSpec := { name := "messageBack", fn := fun _ => fun
  | [d1, d2] => { results := [.lit (.bool false)], args := [d1, d2] }
  | _ => none }
def MessageBackWrongFalsely : Prop := messageBackRow.holds Try.pinned (OpenSpec.ofChange messageBackWrong)

/- THE SECOND FORM. 'bulk': how many values and letters a reading holds, each counted each time it is reached (what is shared counts as often as it is met; a slice's spare places count too). A statement '..UptoSaid' is the law's where the arguments, and the package variables that the reading takes, are together of bulk at most 1048576: NARROWER than '..Said'. Prove '..Said' where nothing that the law and all that it calls make is longer than what came in: it says more and counts as full. Else prove '..UptoSaid'. A law counts once. -/
mutual
def uptoBulk {H : Type} : DataW H → Nat
  | .lit (.string bytes) => bytes.length + 1
  | .lit _ => 1
  | .nil => 1
  | .ptr d => uptoBulk d + 1
  | .slice elems spare => uptoBulkAll elems + uptoBulkAll spare + 1
  | .agg parts => uptoBulkAll parts + 1
  | .iface _ d => uptoBulk d + 1
  | .map entries => uptoBulkEntries entries + 1
  | .held _ => 1
def uptoBulkAll {H : Type} : List (DataW H) → Nat
  | [] => 0
  | d :: r => uptoBulk d + uptoBulkAll r
def uptoBulkEntries {H : Type} : List (Lit × DataW H) → Nat
  | [] => 0
  | x :: r => uptoBulkEntry x + uptoBulkEntries r
def uptoBulkEntry {H : Type} : Lit × DataW H → Nat
  | (.string bytes, d) => bytes.length + uptoBulk d + 1
  | (_, d) => uptoBulk d + 1
 end
def uptoSmall : (H : Type) → List (DataW H) → Bool := fun _ ds => decide (uptoBulkAll ds ≤ 1048576)
def OpenSpec.upto (s : _root_.Go.ChangeSpec) : _root_.Go.OpenSpec := { _root_.Go.OpenSpec.ofChange s with cond := some uptoSmall }

/-- 'dragomanlaw.BlockMany', WHERE WHAT IT READS IS OF BULK AT MOST 1048576: true; the input reads as it did. -/
def blockManyUptoRow : OpenClaim := { program := "ytpcdkcbniokdgaa", sum := "cb68cb6ea6bb2e9660ab6f86c3b3af7ec4d55c7bd4c255c268666d5c5ec2ada9", func := "dragoman/dragomanlaw.BlockMany", spec := "blockMany", inPlace := ["internal/abi.NoEscape"], apart := false, narrowed := true }
def BlockManyUptoSaid : Prop := blockManyUptoRow.holds Try.pinned (OpenSpec.upto blockManySpec)

/-- 'dragomanlaw.BlockTells', WHERE WHAT IT READS IS OF BULK AT MOST 1048576: true; the input reads as it did. -/
def blockTellsUptoRow : OpenClaim := { program := "ytpcdkcbniokdgaa", sum := "cb68cb6ea6bb2e9660ab6f86c3b3af7ec4d55c7bd4c255c268666d5c5ec2ada9", func := "dragoman/dragomanlaw.BlockTells", spec := "blockTells", inPlace := ["internal/abi.NoEscape"], apart := false, narrowed := true }
def BlockTellsUptoSaid : Prop := blockTellsUptoRow.holds Try.pinned (OpenSpec.upto blockTellsSpec)

/-- 'dragomanlaw.BlockBack', WHERE WHAT IT READS IS OF BULK AT MOST 1048576: true; the input reads as it did. -/
def blockBackUptoRow : OpenClaim := { program := "ytpcdkcbniokdgaa", sum := "cb68cb6ea6bb2e9660ab6f86c3b3af7ec4d55c7bd4c255c268666d5c5ec2ada9", func := "dragoman/dragomanlaw.BlockBack", spec := "blockBack", inPlace := ["internal/abi.NoEscape"], apart := false, narrowed := true }
def BlockBackUptoSaid : Prop := blockBackUptoRow.holds Try.pinned (OpenSpec.upto blockBackSpec)

/-- 'dragomanlaw.WireTells', WHERE WHAT IT READS IS OF BULK AT MOST 1048576: true; the input reads as it did. -/
def wireTellsUptoRow : OpenClaim := { program := "ytpcdkcbniokdgaa", sum := "cb68cb6ea6bb2e9660ab6f86c3b3af7ec4d55c7bd4c255c268666d5c5ec2ada9", func := "dragoman/dragomanlaw.WireTells", spec := "wireTells", recurses := true, apart := false, narrowed := true }
def WireTellsUptoSaid : Prop := wireTellsUptoRow.holds Try.pinned (OpenSpec.upto wireTellsSpec)

/-- 'dragomanlaw.WireBack', WHERE WHAT IT READS IS OF BULK AT MOST 1048576: true; the input reads as it did. -/
def wireBackUptoRow : OpenClaim := { program := "ytpcdkcbniokdgaa", sum := "cb68cb6ea6bb2e9660ab6f86c3b3af7ec4d55c7bd4c255c268666d5c5ec2ada9", func := "dragoman/dragomanlaw.WireBack", spec := "wireBack", apart := false, narrowed := true }
def WireBackUptoSaid : Prop := wireBackUptoRow.holds Try.pinned (OpenSpec.upto wireBackSpec)

/-- 'dragomanlaw.MessageMore', WHERE WHAT IT READS IS OF BULK AT MOST 1048576: true; the input reads as it did. -/
def messageMoreUptoRow : OpenClaim := { program := "ytpcdkcbniokdgaa", sum := "cb68cb6ea6bb2e9660ab6f86c3b3af7ec4d55c7bd4c255c268666d5c5ec2ada9", func := "dragoman/dragomanlaw.MessageMore", spec := "messageMore", apart := false, narrowed := true }
def MessageMoreUptoSaid : Prop := messageMoreUptoRow.holds Try.pinned (OpenSpec.upto messageMoreSpec)

/-- 'dragomanlaw.MessageTells', WHERE WHAT IT READS IS OF BULK AT MOST 1048576: true; the input reads as it did. -/
def messageTellsUptoRow : OpenClaim := { program := "ytpcdkcbniokdgaa", sum := "cb68cb6ea6bb2e9660ab6f86c3b3af7ec4d55c7bd4c255c268666d5c5ec2ada9", func := "dragoman/dragomanlaw.MessageTells", spec := "messageTells", apart := false, narrowed := true }
def MessageTellsUptoSaid : Prop := messageTellsUptoRow.holds Try.pinned (OpenSpec.upto messageTellsSpec)

/-- 'dragomanlaw.MessageBack', WHERE WHAT IT READS IS OF BULK AT MOST 1048576: true; the input reads as it did. -/
def messageBackUptoRow : OpenClaim := { program := "ytpcdkcbniokdgaa", sum := "cb68cb6ea6bb2e9660ab6f86c3b3af7ec4d55c7bd4c255c268666d5c5ec2ada9", func := "dragoman/dragomanlaw.MessageBack", spec := "messageBack", apart := false, narrowed := true }
def MessageBackUptoSaid : Prop := messageBackUptoRow.holds Try.pinned (OpenSpec.upto messageBackSpec)

end Rows
end Go.Proofs.Ytpcdkcbniokdgaa
