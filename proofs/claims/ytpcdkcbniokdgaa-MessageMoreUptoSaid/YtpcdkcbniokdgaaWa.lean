/-
  What the functions of the package wire compute, and what the reference's do: powers of 256. By an AI agent.
-/
import Derived.Test.YtpcdkcbniokdgaaTreesW
set_option linter.unusedSimpArgs false
set_option linter.unusedVariables false
namespace Go.Proofs.Ytpcdkcbniokdgaa
open Go.Sx

/-- 256 to the power k. -/
def pw : Nat → Nat
  | 0 => 1
  | k + 1 => 256 * pw k
theorem pw_mono {a b : Nat} (h : a ≤ b) : pw a ≤ pw b := by
  induction h with
  | refl => exact Nat.le_refl _
  | step _ ih => simp only [pw]; omega

theorem c_power (w : World) (n : Nat) (hn : n ≤ 7) : Calls Try.prog 51 #[.int .i64 n] w fun e w' => e = .returned (.int .i64 (pw n)) ∧ Mod [] w w' := by
  refine as_called (run_plain (ρ := [.i n]) sxE_ok Try.func51 tree_dragomanref_power rfl rfl rfl ?_) rfl
  simp only [Tree.goal, X.P, X.ev, V.toI_i, V.toB_b, V.toS_s, V.toR_r, V.toV_v, V.toN_n, V.toL_l, SV.ev, CV.ev, Sc.ev, List.getD_cons_zero, List.getD_cons_succ, List.getElem?_cons_zero, List.getElem?_cons_succ, List.map_cons, List.map_nil, List.length_cons, List.length_nil, List.cons_append, List.nil_append, Nat.zero_add, Nat.reduceAdd]
  refine ⟨fun vs => ∃ k : Nat, vs = [.i (pw k), .i k] ∧ k ≤ n, fun vs => (n - (vs.getD 1 (.i 0)).toI).toNat, ⟨0, rfl, by omega⟩, ?_⟩
  rintro _ - ⟨k, rfl, hk⟩
  simp only [Tree.goal, X.P, X.ev, V.toI_i, V.toB_b, V.toS_s, V.toR_r, V.toV_v, V.toN_n, V.toL_l, SV.ev, CV.ev, Sc.ev, List.getD_cons_zero, List.getD_cons_succ, List.getElem?_cons_zero, List.getElem?_cons_succ, List.map_cons, List.map_nil, List.length_cons, List.length_nil, List.cons_append, List.nil_append, Nat.zero_add, Nat.reduceAdd]
  refine ⟨fun h => ?_, fun h => ?_⟩
  · have h6 : pw k ≤ pw 6 := pw_mono (by omega)
    have h6 : pw k ≤ 281474976710656 := h6
    refine ⟨by omega, by omega, by omega, by omega, ⟨k + 1, ?_, by omega⟩, by omega⟩
    simp [pw]
  · intro w' hr
    have : k = n := by omega
    subst this
    exact ⟨rfl, hr.mod⟩

/-- What is wrong with a number. -/
def numErr (n b : Int) : Int := if 1 ≤ b ∧ b ≤ 4 then (if 0 ≤ n ∧ n ≤ pw b.toNat - 1 then 0 else 3) else 7
/-- The bytes of a number, the greatest one first. -/
def numB (k : Nat) (n : Int) : List UInt8 := (List.range k).map fun j => UInt8.ofNat (n / pw (k - 1 - j) % 256).toNat

theorem c_NumberErr (w : World) (n b : Int) : Calls Try.prog 24 #[.int .i64 n, .int .i64 b] w fun e w' => e = .returned (.int .i64 (numErr n b)) ∧ Mod [] w w' := by
  refine as_called (run_plain (ρ := [.i n, .i b]) sxE_ok Try.func24 tree_dragomanref_NumberErr rfl rfl rfl ?_) rfl
  simp only [Tree.goal, X.P, X.ev, V.toI_i, V.toB_b, V.toS_s, V.toR_r, V.toV_v, V.toN_n, V.toL_l, SV.ev, CV.ev, Sc.ev, List.getD_cons_zero, List.getD_cons_succ, List.getElem?_cons_zero, List.getElem?_cons_succ, List.map_cons, List.map_nil, List.length_cons, List.length_nil, List.cons_append, List.nil_append, Nat.zero_add, Nat.reduceAdd]
  refine ⟨fun h => ?_, fun h => ?_⟩
  · intro w' hr
    refine ⟨?_, hr.mod⟩
    simp only [numErr]
    rw [if_neg (by omega)]
  · obtain ⟨k, rfl⟩ : ∃ k : Nat, b = k := ⟨b.toNat, by omega⟩
    have hp : pw k ≤ 4294967296 := pw_mono (show k ≤ 4 by omega)
    refine ⟨[.i (pw k)], rfl, fun _ w' _ => c_power w' k (by omega), ?_⟩
    simp only [Tree.goal, X.P, X.ev, V.toI_i, V.toB_b, V.toS_s, V.toR_r, V.toV_v, V.toN_n, V.toL_l, SV.ev, CV.ev, Sc.ev, List.getD_cons_zero, List.getD_cons_succ, List.getElem?_cons_zero, List.getElem?_cons_succ, List.map_cons, List.map_nil, List.length_cons, List.length_nil, List.cons_append, List.nil_append, Nat.zero_add, Nat.reduceAdd]
    refine ⟨by omega, by omega, fun h2 => ?_, fun h2 => ?_⟩
    · intro w' hr
      refine ⟨?_, hr.mod⟩
      simp only [numErr, Int.toNat_natCast]
      rw [if_pos (by omega), if_neg (by omega)]
    · intro w' hr
      refine ⟨?_, hr.mod⟩
      simp only [numErr, Int.toNat_natCast]
      rw [if_pos (by omega), if_pos (by omega)]

theorem pw_pos (k : Nat) : 1 ≤ pw k := pw_mono (Nat.zero_le k)

theorem c_NumberOf (w : World) (n : Int) (k : Nat) (hk : k ≤ 8) (h0 : 0 ≤ n) (h1 : n ≤ 9223372036854775807) :
    Calls Try.prog 25 #[.int .i64 n, .int .i64 k] w fun e w' => e = .returned (.string ⟨(numB k n).toArray⟩) ∧ Mod [] w w' := by
  refine as_called (run_plain (ρ := [.i n, .i k]) sxE_ok Try.func25 tree_dragomanref_NumberOf rfl rfl rfl ?_) rfl
  simp only [Tree.goal, X.P, X.ev, V.toI_i, V.toB_b, V.toS_s, V.toR_r, V.toV_v, V.toN_n, V.toL_l, SV.ev, CV.ev, Sc.ev, List.getD_cons_zero, List.getD_cons_succ, List.getElem?_cons_zero, List.getElem?_cons_succ, List.map_cons, List.map_nil, List.length_cons, List.length_nil, List.cons_append, List.nil_append, Nat.zero_add, Nat.reduceAdd]
  refine ⟨by omega, by omega, fun vs => ∃ m : Nat, vs = [.s ((List.range m).map fun j => UInt8.ofNat (n / pw (k - 1 - j) % 256).toNat), .i (k - 1 - m)] ∧ m ≤ k, fun vs => ((vs.getD 1 (.i 0)).toI + 1).toNat, ⟨0, by simp, by omega⟩, ?_⟩
  rintro _ - ⟨m, rfl, hm⟩
  simp only [Tree.goal, X.P, X.ev, V.toI_i, V.toB_b, V.toS_s, V.toR_r, V.toV_v, V.toN_n, V.toL_l, SV.ev, CV.ev, Sc.ev, List.getD_cons_zero, List.getD_cons_succ, List.getElem?_cons_zero, List.getElem?_cons_succ, List.map_cons, List.map_nil, List.length_cons, List.length_nil, List.cons_append, List.nil_append, Nat.zero_add, Nat.reduceAdd]
  refine ⟨fun h => ?_, fun h => ?_⟩
  · obtain ⟨i, hi⟩ : ∃ i : Nat, (k : Int) - 1 - m = i := ⟨k - 1 - m, by omega⟩
    rw [hi]
    have hp := pw_pos i
    have hq : 0 ≤ n / (pw i : Int) := Int.ediv_nonneg h0 (by omega)
    refine ⟨[.i (pw i)], rfl, fun _ w' _ => c_power w' i (by omega), ?_⟩
    simp only [Tree.goal, X.P, X.ev, V.toI_i, V.toB_b, V.toS_s, V.toR_r, V.toV_v, V.toN_n, V.toL_l, SV.ev, CV.ev, Sc.ev, List.getD_cons_zero, List.getD_cons_succ, List.getElem?_cons_zero, List.getElem?_cons_succ, List.map_cons, List.map_nil, List.length_cons, List.length_nil, List.cons_append, List.nil_append, Nat.zero_add, Nat.reduceAdd]
    refine ⟨h0, h1, by omega, hq, fun v => ⟨by simp; omega, by omega, by omega, ⟨m + 1, ?_, by omega⟩, by omega⟩⟩
    have e1 : k - 1 - m = i := by omega
    simp only [List.range_succ, List.map_append, List.map_cons, List.map_nil, List.cons.injEq, V.s.injEq, V.i.injEq, and_true, e1]
    exact ⟨rfl, by omega⟩
  · intro w' hr
    have : m = k := by omega
    subst this
    exact ⟨rfl, hr.mod⟩

end Go.Proofs.Ytpcdkcbniokdgaa
