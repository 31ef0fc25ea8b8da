/-
  What the functions of the package wire compute, and what the reference's do: powers of 256. By an AI agent.
-/
import Derived.Test.YtliedecinehijaaDoorTreesW
set_option linter.unusedSimpArgs false
set_option linter.unusedVariables false
namespace Go.Proofs.YtliedecinehijaaDoor
open Go.Sx

/-- 256 to the power k. -/
def pw : Nat → Nat
  | 0 => 1
  | k + 1 => 256 * pw k
theorem pw_mono {a b : Nat} (h : a ≤ b) : pw a ≤ pw b := by
  induction h with
  | refl => exact Nat.le_refl _
  | step _ ih => simp only [pw]; omega

/-- What is wrong with a number. -/
def numErr (n b : Int) : Int := if 1 ≤ b ∧ b ≤ 4 then (if 0 ≤ n ∧ n ≤ pw b.toNat - 1 then 0 else 3) else 7
/-- The bytes of a number, the greatest one first. -/
def numB (k : Nat) (n : Int) : List UInt8 := (List.range k).map fun j => UInt8.ofNat (n / pw (k - 1 - j) % 256).toNat

theorem pw_pos (k : Nat) : 1 ≤ pw k := pw_mono (Nat.zero_le k)

end Go.Proofs.YtliedecinehijaaDoor
