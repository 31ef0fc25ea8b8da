/-
  What the functions of the package block compute, and what the reference's do. By an AI agent.
-/
import Derived.Test.YtpcdkcbniokdgaaTreesB
import Derived.Test.YtpcdkcbniokdgaaBd
set_option linter.unusedSimpArgs false
set_option linter.unusedVariables false
namespace Go.Proofs.Ytpcdkcbniokdgaa
open Go.Sx

/-- How many bytes a block of a size has. -/
def blkL (s : Nat) : Nat := 16 * 2 ^ s
theorem shl16 (s : Nat) (h : s ≤ 6) : IntKind.i64.wrap ((16 : Int) * 2 ^ (Nat.min ((s : Int)).toNat IntKind.i64.bits)) = (blkL s : Int) := by
  have : ∀ s : Fin 7, IntKind.i64.wrap ((16 : Int) * 2 ^ (Nat.min ((s.val : Int)).toNat IntKind.i64.bits)) = (blkL s.val : Int) := by decide +kernel
  exact this ⟨s, by omega⟩
theorem blkL_bd (s : Nat) (h : s ≤ 6) : 16 ≤ blkL s ∧ blkL s ≤ 1024 := by
  have : ∀ s : Fin 7, 16 ≤ blkL s.val ∧ blkL s.val ≤ 1024 := by decide
  exact this ⟨s, by omega⟩

theorem c_LongBlock (w : World) (s : Nat) (hs : s ≤ 6) : Calls Try.prog 12 #[.int .i64 s] w fun e w' => e = .returned (.int .i64 (blkL s)) ∧ Mod [] w w' := by
  refine as_called (run_plain2 (ρ := [.i s]) sxE_ok Try.func12 tree_dragomanref_LongBlock rfl rfl rfl ?_) rfl
  simp only [Tree.goal, X.P, X.ev, V.toI_i, V.toB_b, V.toS_s, V.toR_r, V.toV_v, V.toN_n, V.toL_l, SV.ev, CV.ev, Sc.ev, List.getD_cons_zero, List.getD_cons_succ, List.getElem?_cons_zero, List.getElem?_cons_succ, List.map_cons, List.map_nil, List.length_cons, List.length_nil, List.cons_append, List.nil_append, Nat.zero_add, Nat.reduceAdd]
  refine ⟨fun vs => ∃ m : Nat, vs = [.i (blkL m), .i m] ∧ m ≤ s, fun vs => (s - (vs.getD 1 (.i 0)).toI).toNat, ⟨0, rfl, by omega⟩, ?_⟩
  rintro _ - ⟨m, rfl, hm⟩
  simp only [Tree.goal, X.P, X.ev, V.toI_i, V.toB_b, V.toS_s, V.toR_r, V.toV_v, V.toN_n, V.toL_l, SV.ev, CV.ev, Sc.ev, List.getD_cons_zero, List.getD_cons_succ, List.getElem?_cons_zero, List.getElem?_cons_succ, List.map_cons, List.map_nil, List.length_cons, List.length_nil, List.cons_append, List.nil_append, Nat.zero_add, Nat.reduceAdd]
  have := blkL_bd m (by omega)
  refine ⟨fun h => ⟨by omega, by omega, by omega, by omega, ⟨m + 1, ?_, by omega⟩, by omega⟩, fun h w' hr => ⟨?_, hr.mod⟩⟩
  · have e : blkL (m + 1) = 2 * blkL m := by simp only [blkL, Nat.pow_succ]; omega
    rw [e]; simp
  · have : m = s := by omega
    rw [this]

/-- A block's number, whether more come, its size. -/
abbrev Blk := Int × Bool × Int
def cutR (p : List UInt8) (n s : Int) : List UInt8 × Blk × Int :=
  if 200 < p.length then ([], (0, false, 0), 2)
  else if 0 ≤ s ∧ s ≤ 6 ∧ 0 ≤ n then
    if 0 < n ∧ (p.length : Int) ≤ n * blkL s.toNat then ([], (0, false, 0), 5)
    else ((p.drop (n.toNat * blkL s.toNat)).take (blkL s.toNat), (n, decide (blkL s.toNat < p.length - n.toNat * blkL s.toNat), s), 0)
  else ([], (0, false, 0), 3)

theorem ceil_le (a L n : Nat) (hL : 0 < L) : ((a : Int) + L - 1) / L ≤ n ↔ (a : Int) ≤ n * L := by
  have h1 : (a : Int) + L - 1 < ((n : Int) + 1) * L ↔ (a : Int) ≤ n * L := by rw [Int.add_mul]; omega
  rw [← h1, ← Int.ediv_lt_iff_lt_mul (by omega)]
  omega
theorem cut_rest (p : List UInt8) (a L : Nat) : (List.take (p.length : Int).toNat p).drop a = p.drop a := by simp

theorem c_Cut (w : World) (p : List UInt8) (n s : Int) (hp : p.length < 2305843009213693952) : Calls Try.prog 13 #[.string ⟨p.toArray⟩, .int .i64 n, .int .i64 s] w
    fun e w' => e = .returned (.tuple #[.string ⟨(cutR p n s).1.toArray⟩, .agg #[.int .i64 (cutR p n s).2.1.1, .bool (cutR p n s).2.1.2.1, .int .i64 (cutR p n s).2.1.2.2], .int .i64 (cutR p n s).2.2]) ∧ Mod [] w w' := by
  refine as_called (run_plain2 (ρ := [.s p, .i n, .i s]) sxE_ok Try.func13 tree_block_Cut rfl rfl rfl ?_) rfl
  simp only [Tree.goal, X.P, X.ev, V.toI_i, V.toB_b, V.toS_s, V.toR_r, V.toV_v, V.toN_n, V.toL_l, SV.ev, CV.ev, Sc.ev, List.getD_cons_zero, List.getD_cons_succ, List.getElem?_cons_zero, List.getElem?_cons_succ, List.map_cons, List.map_nil, List.length_cons, List.length_nil, List.cons_append, List.nil_append, Nat.zero_add, Nat.reduceAdd]
  intro b0
  refine ⟨fun h w' hr => ⟨by rw [cutR, if_pos (by omega)], hr.mod⟩, fun h => ?_⟩
  refine ⟨fun h1 w' hr => ⟨by rw [cutR, if_neg (by omega), if_neg (by omega)], hr.mod⟩, fun h1 => ?_⟩
  obtain ⟨k, rfl⟩ : ∃ k : Nat, s = k := ⟨s.toNat, by omega⟩
  obtain ⟨m, rfl⟩ : ∃ m : Nat, n = m := ⟨n.toNat, by omega⟩
  rw [shl16 k (by omega)]
  have hL := blkL_bd k (by omega)
  have hc := ceil_le p.length (blkL k) m (by omega)
  have e0 : cutR p m k = if 0 < (m : Int) ∧ (p.length : Int) ≤ m * blkL k then ([], (0, false, 0), 5)
    else ((p.drop (m * blkL k)).take (blkL k), ((m : Int), decide (blkL k < p.length - m * blkL k), (k : Int)), 0) := by
    rw [cutR, if_neg (by omega), if_pos (by omega)]; simp only [Int.toNat_natCast]
  generalize hLL : blkL k = LL at *
  have e1 : ((m : Int) * (LL : Int)).toNat = m * LL := by rw [← Int.natCast_mul, Int.toNat_natCast]
  have h5 : (0 : Int) ≤ m * LL := Int.mul_nonneg (by omega) (by omega)
  have h7 : ((m : Int) * (LL : Int)) = ((m * LL : Nat) : Int) := by simp
  simp only [e1, Int.toNat_natCast, List.take_length, List.length_drop, Int.toNat_zero, List.drop_zero]
  have hfin : ¬ (0 < (m : Int) ∧ (p.length : Int) ≤ m * LL) → ∀ x : Int, x = (if (LL : Int) < ((p.length - m * LL : Nat) : Int) then (LL : Int) else ((p.length - m * LL : Nat) : Int)) →
      (Value.tuple #[Value.string ⟨(List.take x.toNat (List.drop (m * LL) p)).toArray⟩, Value.agg #[.int .i64 m, .bool (decide ((LL : Int) < ((p.length - m * LL : Nat) : Int))), .int .i64 k], .int .i64 0]) =
      Value.tuple #[.string ⟨(cutR p m k).1.toArray⟩, .agg #[.int .i64 (cutR p m k).2.1.1, .bool (cutR p m k).2.1.2.1, .int .i64 (cutR p m k).2.1.2.2], .int .i64 (cutR p m k).2.2] := by
    rintro hno x rfl
    rw [e0, if_neg hno]
    have e2 : List.take (if (LL : Int) < ((p.length - m * LL : Nat) : Int) then (LL : Int) else ((p.length - m * LL : Nat) : Int)).toNat (List.drop (m * LL) p) = List.take LL (List.drop (m * LL) p) := by
      split
      · rw [Int.toNat_natCast]
      · rw [Int.toNat_natCast, List.take_of_length_le (by simp), List.take_of_length_le (by simp; omega)]
    have e3 : decide ((LL : Int) < ((p.length - m * LL : Nat) : Int)) = decide (LL < p.length - m * LL) := by
      simp only [Int.ofNat_lt]
    rw [e2, e3]
  refine ⟨fun h2 => ?_, fun h2 => ?_⟩
  · (repeat refine ⟨by omega, ?_⟩)
    refine ⟨fun h3 w' hr => ⟨by rw [e0, if_pos ⟨by omega, hc.1 h3⟩], hr.mod⟩, fun h3 => ?_⟩
    have h4 : ¬ (p.length : Int) ≤ m * LL := fun h => h3 (hc.2 h)
    rw [h7] at h4 ⊢
    (repeat refine ⟨by omega, ?_⟩)
    intro b1
    (repeat refine ⟨by omega, ?_⟩)
    exact fun w' hr => ⟨congrArg Ending.returned (hfin (fun h => h4 (by rw [← h7]; exact h.2)) _ rfl), hr.mod⟩
  · have hm0 : m = 0 := by omega
    have h8 : m * LL = 0 := by rw [hm0, Nat.zero_mul]
    rw [h7]
    (repeat refine ⟨by omega, ?_⟩)
    intro b1
    (repeat refine ⟨by omega, ?_⟩)
    exact fun w' hr => ⟨congrArg Ending.returned (hfin (fun h => h2 h.1) _ rfl), hr.mod⟩
end Go.Proofs.Ytpcdkcbniokdgaa
