/-
  The law BlockBack, walked. By an AI agent.
-/
import Derived.Test.YtpcdkcbniokdgaaBf
set_option linter.unusedSimpArgs false
set_option linter.unusedVariables false
namespace Go.Proofs.Ytpcdkcbniokdgaa
open Go.Sx

/-- The first n pieces, and what is told of them. -/
def cutP (p : List UInt8) (L n : Nat) : List (List UInt8) := (List.range n).map fun i => (p.drop (i * L)).take L
def cutB (p : List UInt8) (L k n : Nat) : List Blk := (List.range n).map fun (i : Nat) => ((i : Int), decide (L < p.length - i * L), (k : Int))
theorem cutP_succ (p : List UInt8) (L n : Nat) : cutP p L (n + 1) = cutP p L n ++ [(p.drop (n * L)).take L] := by simp [cutP, List.range_succ]
theorem cutB_succ (p : List UInt8) (L k n : Nat) : cutB p L k (n + 1) = cutB p L k n ++ [((n : Int), decide (L < p.length - n * L), (k : Int))] := by simp [cutB, List.range_succ]
theorem cutP_len (p : List UInt8) (L n : Nat) : (cutP p L n).length = n := by simp [cutP]
theorem cutB_len (p : List UInt8) (L k n : Nat) : (cutB p L k n).length = n := by simp [cutB]
theorem cutP_get (p : List UInt8) (L n i : Nat) (h : i < n) : (cutP p L n).getD i [] = (p.drop (i * L)).take L := by
  simp [cutP, List.getD_eq_getElem?_getD, List.getElem?_range h]
theorem cutB_get (p : List UInt8) (L k n i : Nat) (h : i < n) : (cutB p L k n).getD i bD = ((i : Int), decide (L < p.length - i * L), (k : Int)) := by
  simp [cutB, List.getD_eq_getElem?_getD, List.getElem?_range h]
theorem cutP_flat (p : List UInt8) (L : Nat) : ∀ n, (cutP p L n).flatten = p.take (n * L)
  | 0 => by simp [cutP]
  | n + 1 => by
    rw [cutP_succ, List.flatten_append, cutP_flat p L n, Nat.succ_mul, List.take_add]
    simp
theorem cutP_take (p : List UInt8) (L n : Nat) : (cutP p L (n + 1)).take n = cutP p L n := by rw [cutP_succ, List.take_append_of_le_length (by rw [cutP_len]; omega), List.take_of_length_le (by rw [cutP_len]; omega)]
theorem cutB_take (p : List UInt8) (L k n : Nat) : (cutB p L k (n + 1)).take n = cutB p L k n := by rw [cutB_succ, List.take_append_of_le_length (by rw [cutB_len]; omega), List.take_of_length_le (by rw [cutB_len]; omega)]

theorem cut_okAt {p : List UInt8} {k n m i : Nat} (hk : k ≤ 6) (hi : i < n) (hm : (blkL k < p.length - i * blkL k ↔ i + 1 < n)) (h0 : i = 0 ∨ i * blkL k < p.length) : okAt (cutP p (blkL k) n) (cutB p (blkL k) k n) i := by
  have hL := blkL_bd k hk
  have h00 := cutB_get p (blkL k) k n 0 (by omega)
  have hi0 := cutB_get p (blkL k) k n i hi
  rw [okAt_iff (k := k) (by rw [hi0])]
  rw [hi0, h00, cutP_get _ _ _ _ hi, cutP_len]
  refine ⟨rfl, rfl, by simp only [decide_eq_true_eq]; exact hm, by simp; omega, fun h => ?_, fun h => ?_⟩
  · have := of_decide_eq_true h; simp; omega
  · simp; omega
theorem join_all {p : List UInt8} {k n : Nat} (hp : p.length ≤ 200) (hk : k ≤ 6) (h1 : 0 < n) (h2 : p.length ≤ n * blkL k) (h3 : ∀ i, i < n → i = 0 ∨ i * blkL k < p.length) : joinR (cutP p (blkL k) n) (cutB p (blkL k) k n) = (p, 0) := by
  rw [joinR_eq (by rw [cutP_len, cutB_len]; omega), if_pos, if_pos, cutP_flat, List.take_of_length_le h2, if_neg (by omega)]
  · intro j hj
    rw [cutP_len] at hj
    exact cut_okAt (m := 0) hk hj (more_iff h2 h3 hj) (h3 j hj)
  · intro j hj
    rw [cutP_len] at hj
    rw [cutB_get _ _ _ _ _ hj]
    exact ⟨by simp, by simp; omega⟩
theorem join_less {p : List UInt8} {k n : Nat} (hp : p.length ≤ 200) (hk : k ≤ 6) (h2 : p.length ≤ (n + 1) * blkL k) (h3 : ∀ i, i < n + 1 → i = 0 ∨ i * blkL k < p.length) : (joinR (cutP p (blkL k) n) (cutB p (blkL k) k n)).2 ≠ 0 := by
  by_cases hn : n = 0
  · rw [joinR, if_pos (by rw [cutP_len, cutB_len]; omega)]; simp
  · rw [joinR_eq (by rw [cutP_len, cutB_len]; omega)]
    split
    · rw [if_neg]
      · simp
      · intro h
        have := (h (n - 1) (by rw [cutP_len]; omega)).2.2.1
        rw [cutB_get _ _ _ _ _ (by omega), cutP_len] at this
        have hm := (more_iff h2 h3 (show n - 1 < n + 1 by omega)).2 (by omega)
        have := this.1 (decide_eq_true hm)
        omega
    · simp

theorem row_P (p : List UInt8) (L n : Nat) : (cutP p L n).map encS ++ [[Value.string ⟨(List.take L (List.drop (n * L) p)).toArray⟩]] = (cutP p L (n + 1)).map encS := by rw [cutP_succ]; simp [encS]
theorem row_B (p : List UInt8) (L k n : Nat) : (cutB p L k n).map encB ++ [[Value.int .i64 n, .bool (decide (L < p.length - n * L)), .int .i64 k]] = (cutB p L k (n + 1)).map encB := by rw [cutB_succ]; simp [encB]

theorem cutR_zero {p : List UInt8} {i : Nat} {s : Int} (h : (cutR p i s).2.2 = 0) : p.length ≤ 200 ∧ 0 ≤ s ∧ s ≤ 6 ∧ (i = 0 ∨ i * blkL s.toNat < p.length) := by
  unfold cutR at h
  split at h
  · simp at h
  · split at h
    · split at h
      · simp at h
      · rename_i h1 h2 h3
        rw [← Int.natCast_mul] at h3
        omega
    · simp at h
set_option maxHeartbeats 1000000 in
theorem c_BlockBack (w : World) (p : List UInt8) (s : Int) (hpl : p.length < 1099511627776) : Calls Try.prog 5 #[.string ⟨p.toArray⟩, .int .i64 s] w fun e w' => e = .returned (.bool true) ∧ Mod [] w w' := by
  refine as_called (run_plain2 (ρ := [.s p, .i s]) sxE_ok Try.func5 tree_dragomanlaw_BlockBack rfl rfl rfl ?_) rfl
  simp only [Tree.goal, X.P, X.ev, V.toI_i, V.toB_b, V.toS_s, V.toR_r, V.toV_v, V.toN_n, V.toL_l, SV.ev, CV.ev, Sc.ev, List.getD_cons_zero, List.getD_cons_succ, List.getElem?_cons_zero, List.getElem?_cons_succ, List.map_cons, List.map_nil, List.length_cons, List.length_nil, List.cons_append, List.nil_append, Nat.zero_add, Nat.reduceAdd]
  refine ⟨[.b true], rfl, fun _ w' _ => c_blockBegun w', ?_⟩
  simp only [Tree.goal, X.P, X.ev, V.toI_i, V.toB_b, V.toS_s, V.toR_r, V.toV_v, V.toN_n, V.toL_l, SV.ev, CV.ev, Sc.ev, List.getD_cons_zero, List.getD_cons_succ, List.getElem?_cons_zero, List.getElem?_cons_succ, List.map_cons, List.map_nil, List.length_cons, List.length_nil, List.cons_append, List.nil_append, Nat.zero_add, Nat.reduceAdd]
  refine ⟨fun h => absurd trivial h, fun _ => ?_⟩
  refine ⟨fun vs => ∃ (i : Nat) (x : V) (a b : Value) (m : Bool), vs = [x, .v a, .r ((cutP p (blkL s.toNat) i).map encS), .v b, .r ((cutB p (blkL s.toNat) s.toNat i).map encB), .b m] ∧
    (i = 0 ∧ m = true ∨ 0 < i ∧ p.length ≤ 200 ∧ 0 ≤ s ∧ s ≤ 6 ∧ (∀ j, j < i → j = 0 ∨ j * blkL s.toNat < p.length) ∧ (m = true ↔ i * blkL s.toNat < p.length)), fun vs => 1000 - (vs.getD 2 (.i 0)).toR.length, ⟨0, .b false, .slice none 0 0, .slice none 0 0, true, rfl, .inl ⟨rfl, rfl⟩⟩, ?_⟩
  rintro _ - ⟨i, x, a, b, m, rfl, hinv⟩
  simp only [Tree.goal, X.P, X.ev, V.toI_i, V.toB_b, V.toS_s, V.toR_r, V.toV_v, V.toN_n, V.toL_l, SV.ev, CV.ev, Sc.ev, List.getD_cons_zero, List.getD_cons_succ, List.getElem?_cons_zero, List.getElem?_cons_succ, List.map_cons, List.map_nil, List.length_cons, List.length_nil, List.cons_append, List.nil_append, Nat.zero_add, Nat.reduceAdd, List.length_map, cutP_len, cutB_len]
  refine ⟨fun hm => ?_, fun hm => ?_⟩
  · refine ⟨cutV p i s, rfl, fun _ w' _ => c_Cut w' p i s (by omega), ?_⟩
    simp only [Tree.goal, X.P, X.ev, V.toI_i, V.toB_b, V.toS_s, V.toR_r, V.toV_v, V.toN_n, V.toL_l, SV.ev, CV.ev, Sc.ev, List.getD_cons_zero, List.getD_cons_succ, List.getElem?_cons_zero, List.getElem?_cons_succ, List.map_cons, List.map_nil, List.length_cons, List.length_nil, List.cons_append, List.nil_append, Nat.zero_add, Nat.reduceAdd, cutV, List.length_map, cutP_len, cutB_len, List.length_append]
    intro b1
    refine ⟨fun he w' hr => ⟨?_, hr.mod⟩, fun he => ?_⟩
    · have : i = 0 := by
        rcases hinv with h | ⟨h1, h2, h3, h4, h5, h6⟩
        · exact h.1
        · exfalso
          obtain ⟨k, rfl⟩ : ∃ k : Nat, s = k := ⟨s.toNat, by omega⟩
          rw [Int.toNat_natCast] at h6
          rw [cutR_ok h2 (by omega) (.inr (h6.1 hm))] at he
          exact he rfl
      subst this; simp
    · obtain ⟨z1, z2, z3, z4⟩ := cutR_zero (Classical.not_not.1 he)
      obtain ⟨k, rfl⟩ : ∃ k : Nat, s = k := ⟨s.toNat, by omega⟩
      rw [Int.toNat_natCast] at hinv z4 ⊢
      have hk : k ≤ 6 := by omega
      have hcut := cutR_ok z1 hk z4
      have hL := blkL_bd k hk
      have hib : i ≤ 13 := by
        rcases z4 with h | h
        · omega
        · have := Nat.mul_le_mul_left i hL.1
          omega
      have e5 : (i + 1) * blkL k = i * blkL k + blkL k := Nat.succ_mul _ _
      have hinv' : ∀ j, j < i + 1 → j = 0 ∨ j * blkL k < p.length := fun j hj => by
        by_cases h : j = i
        · subst h; exact z4
        · rcases hinv with h1 | h1
          · omega
          · exact h1.2.2.2.2.1 j (by omega)
      simp only [hcut, row_P, row_B]
      repeat' first
        | exact ⟨⟨i + 1, _, _, _, decide (blkL k < p.length - i * blkL k), rfl, .inr ⟨by omega, z1, by omega, by omega, hinv', by rw [decide_eq_true_eq]; omega⟩⟩, by omega⟩
        | (intro (_ : Value))
        | (refine ⟨by omega, ?_⟩)
        | (intro (_ : ¬ (200 : Int) < _))
        | (refine ⟨?_, ?_⟩)
        | fail
  · obtain ⟨h1, h2, h3, h4, h5, h6⟩ := hinv.resolve_left fun h => hm h.2
    obtain ⟨k, rfl⟩ : ∃ k : Nat, s = k := ⟨s.toNat, by omega⟩
    rw [Int.toNat_natCast] at h5 h6 ⊢
    have hk : k ≤ 6 := by omega
    have hL := blkL_bd k hk
    have h7 : p.length ≤ i * blkL k := by
      rcases Nat.lt_or_ge (i * blkL k) p.length with h | h
      · exact absurd (h6.2 h) hm
      · exact h
    have hib : i ≤ 201 := by
      rcases h5 (i - 1) (by omega) with h | h
      · omega
      · have := Nat.le_mul_of_pos_right (i - 1) (show 0 < blkL k by omega)
        omega
    refine ⟨cutV p i k, rfl, fun _ w' _ => c_Cut w' p i k (by omega), ?_⟩
    simp only [Tree.goal, X.P, X.ev, V.toI_i, V.toB_b, V.toS_s, V.toR_r, V.toV_v, V.toN_n, V.toL_l, SV.ev, CV.ev, Sc.ev, List.getD_cons_zero, List.getD_cons_succ, List.getElem?_cons_zero, List.getElem?_cons_succ, List.map_cons, List.map_nil, List.length_cons, List.length_nil, List.cons_append, List.nil_append, Nat.zero_add, Nat.reduceAdd, cutV, List.length_map, cutP_len, cutB_len, List.length_append]
    intro b1
    have hall := join_all h2 hk h1 h7 h5
    have hfl : (cutP p (blkL k) i).flatten.length < 1099511627776 := by rw [cutP_flat]; simp; omega
    refine ⟨[.s p, .i 0], rfl, fun _ w' hr => ?_, ?_⟩
    · have := c_Join w' a b _ _ (owns.reads (hr.at_ 2 rfl)) (owns.reads (hr.at_ 1 rfl)) (by rw [cutP_len]; omega) hfl
      rw [hall] at this
      exact this
    simp only [Tree.goal, X.P, X.ev, V.toI_i, V.toB_b, V.toS_s, V.toR_r, V.toV_v, V.toN_n, V.toL_l, SV.ev, CV.ev, Sc.ev, List.getD_cons_zero, List.getD_cons_succ, List.getElem?_cons_zero, List.getElem?_cons_succ, List.map_cons, List.map_nil, List.length_cons, List.length_nil, List.cons_append, List.nil_append, Nat.zero_add, Nat.reduceAdd, cutV, List.length_map, cutP_len, cutB_len, List.length_append, cutR_none h2 hk h1 h7]
    obtain ⟨n, rfl⟩ : ∃ n, i = n + 1 := ⟨i - 1, by omega⟩
    have hless := join_less h2 hk h7 h5
    have hn1 : (((n + 1 : Nat) : Int) - 1).toNat = n := by omega
    have hfl' : (cutP p (blkL k) n).flatten.length < 1099511627776 := by rw [cutP_flat]; simp; omega
    clear hinv
    repeat' first
      | (intro (_ : Value))
      | (refine ⟨by omega, ?_⟩)
      | (refine ⟨[.s (joinR (cutP p (blkL k) n) (cutB p (blkL k) k n)).1, .i (joinR (cutP p (blkL k) n) (cutB p (blkL k) k n)).2], rfl, fun _ w' hr => ?_, ?_⟩)
      | (refine ⟨?_, ?_⟩)
      | fail
    all_goals first
      | (have g0 := hr.at_ 0 rfl
         have g1 := hr.at_ 1 rfl
         simp only [Ent.holds, Tree.goal, X.P, X.ev, V.toI_i, V.toB_b, V.toS_s, V.toR_r, V.toV_v, V.toN_n, V.toL_l, SV.ev, CV.ev, Sc.ev, List.getD_cons_zero, List.getD_cons_succ, List.getElem?_cons_zero, List.getElem?_cons_succ, List.map_cons, List.map_nil, List.length_cons, List.length_nil, List.cons_append, List.nil_append, Nat.zero_add, Nat.reduceAdd, List.length_map, cutP_len, cutB_len, hn1, Int.toNat_zero, List.drop_zero, ← List.map_take, cutP_take, cutB_take] at g0 g1
         first | exact c_Join w' _ _ _ _ g1 g0 (by rw [cutP_len]; omega) hfl' | exact c_Join w' _ _ _ _ g0 g1 (by rw [cutP_len]; omega) hfl')
      | (exact fun w' hr => ⟨by simp [hless], hr.mod⟩)
      | (simp only [Tree.goal, X.P, X.ev, V.toI_i, V.toB_b, V.toS_s, V.toR_r, V.toV_v, V.toN_n, V.toL_l, SV.ev, CV.ev, Sc.ev, List.getD_cons_zero, List.getD_cons_succ, List.getElem?_cons_zero, List.getElem?_cons_succ, List.map_cons, List.map_nil, List.length_cons, List.length_nil, List.cons_append, List.nil_append, Nat.zero_add, Nat.reduceAdd, cutV]
         first | exact fun w' hr => ⟨by simp [hless], hr.mod⟩ | exact ⟨fun w' hr => ⟨by simp [hless], hr.mod⟩, fun w' hr => ⟨by simp [hless], hr.mod⟩⟩)
end Go.Proofs.Ytpcdkcbniokdgaa
