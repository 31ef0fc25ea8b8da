/-
  The executor's trees of functions of this translation. Written by a program of mine (wip/tools/gentrees3.py); the kernel checks each. By an AI agent.
-/
import Derived.Test.YtfcofbfbgcbocaaGreatDoorR06
set_option linter.all false
set_option maxHeartbeats 20000000
namespace Go.Proofs.Y
open Go.Sx
