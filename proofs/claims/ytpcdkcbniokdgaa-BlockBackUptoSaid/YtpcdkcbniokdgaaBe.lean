/-
  The laws BlockTells and BlockMany, walked. By an AI agent.
-/
import Derived.Test.YtpcdkcbniokdgaaBc
set_option linter.unusedSimpArgs false
set_option linter.unusedVariables false
namespace Go.Proofs.Ytpcdkcbniokdgaa
open Go.Sx

/-- A call of Cut: what it gives back. -/
def cutV (p : List UInt8) (n s : Int) : List V := [.s (cutR p n s).1, .i (cutR p n s).2.1.1, .b (cutR p n s).2.1.2.1, .i (cutR p n s).2.1.2.2, .i (cutR p n s).2.2]

theorem begun_join : joinR [[48, 49, 50, 51, 52, 53, 54, 55, 56, 57, 97, 98, 99, 100, 101, 102], [88, 89]] [(0, true, 0), (1, false, 0)] = ([48, 49, 50, 51, 52, 53, 54, 55, 56, 57, 97, 98, 99, 100, 101, 102, 88, 89], 0) := by
  rw [joinR_eq (by decide), if_pos, if_pos, if_neg (by decide)]
  · rfl
  · intro j hj
    have : j = 0 ∨ j = 1 := by simp at hj; omega
    rcases this with rfl | rfl <;> simp [okAt, blkL]
  · intro j hj
    have : j = 0 ∨ j = 1 := by simp at hj; omega
    rcases this with rfl | rfl <;> simp [szOk]

theorem c_blockBegun (w : World) : Calls Try.prog 11 #[] w fun e w' => e = .returned (.bool true) ∧ Mod [] w w' := by
  refine as_called (run_plain2 (ρ := []) sxE_ok Try.func11 tree_dragomanlaw_blockBegun rfl rfl rfl ?_) rfl
  simp only [Tree.goal, X.P, X.ev, V.toI_i, V.toB_b, V.toS_s, V.toR_r, V.toV_v, V.toN_n, V.toL_l, SV.ev, CV.ev, Sc.ev, List.getD_cons_zero, List.getD_cons_succ, List.getElem?_cons_zero, List.getElem?_cons_succ, List.map_cons, List.map_nil, List.length_cons, List.length_nil, List.cons_append, List.nil_append, Nat.zero_add, Nat.reduceAdd]
  refine ⟨[.s [48, 49, 50, 51, 52, 53, 54, 55, 56, 57, 97, 98, 99, 100, 101, 102], .i 0, .b true, .i 0, .i 0], rfl, fun _ w' _ => c_Cut w' [48, 49, 50, 51, 52, 53, 54, 55, 56, 57, 97, 98, 99, 100, 101, 102, 88, 89] 0 0 (by decide), ?_⟩
  simp only [Tree.goal, X.P, X.ev, V.toI_i, V.toB_b, V.toS_s, V.toR_r, V.toV_v, V.toN_n, V.toL_l, SV.ev, CV.ev, Sc.ev, List.getD_cons_zero, List.getD_cons_succ, List.getElem?_cons_zero, List.getElem?_cons_succ, List.map_cons, List.map_nil, List.length_cons, List.length_nil, List.cons_append, List.nil_append, Nat.zero_add, Nat.reduceAdd]
  intro b0
  refine ⟨[.s [88, 89], .i 1, .b false, .i 0, .i 0], rfl, fun _ w' _ => c_Cut w' [48, 49, 50, 51, 52, 53, 54, 55, 56, 57, 97, 98, 99, 100, 101, 102, 88, 89] 1 0 (by decide), ?_⟩
  simp only [Tree.goal, X.P, X.ev, V.toI_i, V.toB_b, V.toS_s, V.toR_r, V.toV_v, V.toN_n, V.toL_l, SV.ev, CV.ev, Sc.ev, List.getD_cons_zero, List.getD_cons_succ, List.getElem?_cons_zero, List.getElem?_cons_succ, List.map_cons, List.map_nil, List.length_cons, List.length_nil, List.cons_append, List.nil_append, Nat.zero_add, Nat.reduceAdd]
  intro b1 v1 v2
  refine ⟨[.s [48, 49, 50, 51, 52, 53, 54, 55, 56, 57, 97, 98, 99, 100, 101, 102, 88, 89], .i 0], rfl, fun _ w' hr => ?_, ?_⟩
  · have h0 := owns.reads (hr.at_ 0 rfl)
    have h1 := owns.reads (hr.at_ 1 rfl)
    have := c_Join w' _ _ [[48, 49, 50, 51, 52, 53, 54, 55, 56, 57, 97, 98, 99, 100, 101, 102], [88, 89]] [(0, true, 0), (1, false, 0)] h1 h0 (by decide) (by decide)
    rw [begun_join] at this
    exact this
  · simp only [Tree.goal, X.P, X.ev, V.toI_i, V.toB_b, V.toS_s, V.toR_r, V.toV_v, V.toN_n, V.toL_l, SV.ev, CV.ev, Sc.ev, List.getD_cons_zero, List.getD_cons_succ, List.getElem?_cons_zero, List.getElem?_cons_succ, List.map_cons, List.map_nil, List.length_cons, List.length_nil, List.cons_append, List.nil_append, Nat.zero_add, Nat.reduceAdd]
    exact fun w' hr => ⟨by simp, hr.mod⟩

theorem cutR_limited (p : List UInt8) (n s : Int) : cutR p (if 1000 < n then 1000 else n) s = cutR p n s := by
  split
  · rename_i h
    unfold cutR
    split
    · rfl
    · split
      · rename_i h1 h2
        have hL := blkL_bd s.toNat (by omega)
        have hm : (p.length : Int) ≤ n * blkL s.toNat := Int.le_trans (show (p.length : Int) ≤ 1001 * 16 by omega) (Int.mul_le_mul (by omega) (by omega) (by omega) (by omega))
        rw [if_pos ⟨by omega, by omega⟩, if_pos ⟨by omega, by omega, by omega⟩, if_pos ⟨by omega, hm⟩]
      · rw [if_neg (by omega)]
  · rfl

theorem c_BlockTells (w : World) (p : List UInt8) (n s : Int) (u v : Value) (ps : List (List UInt8)) (bs : List Blk) (hu : reads w u [.str] (ps.map encS)) (hv : reads w v [.int .i64, .bool, .int .i64] (bs.map encB))
    (hp : p.length < 1099511627776) (hl : ps.length < 1099511627776) (hfl : ps.flatten.length < 1099511627776) :
    Calls Try.prog 4 #[.string ⟨p.toArray⟩, .int .i64 n, .int .i64 s, sc1 u, sc1 v] w fun e w' => e = .returned (.bool true) ∧ Mod [] w w' := by
  refine as_called (run_tree2 (ρ := [.s p, .i n, .i s, .v u, .r (ps.map encS), .v v, .r (bs.map encB)]) sxE_ok Try.func4 tree_dragomanlaw_BlockTells rfl rfl (Rel.start2 (by simp [Ent.holds, Ent.wr, hu, hv, X.ev])) rfl rfl ?_) rfl
  simp only [Tree.goal, X.P, X.ev, V.toI_i, V.toB_b, V.toS_s, V.toR_r, V.toV_v, V.toN_n, V.toL_l, SV.ev, CV.ev, Sc.ev, List.getD_cons_zero, List.getD_cons_succ, List.getElem?_cons_zero, List.getElem?_cons_succ, List.map_cons, List.map_nil, List.length_cons, List.length_nil, List.cons_append, List.nil_append, Nat.zero_add, Nat.reduceAdd]
  refine ⟨cutV p n s, rfl, fun _ w' _ => c_Cut w' p n s (by omega), ?_⟩
  simp only [Tree.goal, X.P, X.ev, V.toI_i, V.toB_b, V.toS_s, V.toR_r, V.toV_v, V.toN_n, V.toL_l, SV.ev, CV.ev, Sc.ev, List.getD_cons_zero, List.getD_cons_succ, List.getElem?_cons_zero, List.getElem?_cons_succ, List.map_cons, List.map_nil, List.length_cons, List.length_nil, List.cons_append, List.nil_append, Nat.zero_add, Nat.reduceAdd, cutV]
  intro b0
  refine ⟨[.s (joinR ps bs).1, .i (joinR ps bs).2], rfl, fun _ w' hr => c_Join w' u v ps bs (hr.at_ 1 rfl) (hr.at_ 2 rfl) hl hfl, ?_⟩
  simp only [Tree.goal, X.P, X.ev, V.toI_i, V.toB_b, V.toS_s, V.toR_r, V.toV_v, V.toN_n, V.toL_l, SV.ev, CV.ev, Sc.ev, List.getD_cons_zero, List.getD_cons_succ, List.getElem?_cons_zero, List.getElem?_cons_succ, List.map_cons, List.map_nil, List.length_cons, List.length_nil, List.cons_append, List.nil_append, Nat.zero_add, Nat.reduceAdd, cutV]
  refine ⟨[.i (if 1000 < n then 1000 else n)], rfl, fun _ w' _ => c_limited w' n, ?_⟩
  simp only [Tree.goal, X.P, X.ev, V.toI_i, V.toB_b, V.toS_s, V.toR_r, V.toV_v, V.toN_n, V.toL_l, SV.ev, CV.ev, Sc.ev, List.getD_cons_zero, List.getD_cons_succ, List.getElem?_cons_zero, List.getElem?_cons_succ, List.map_cons, List.map_nil, List.length_cons, List.length_nil, List.cons_append, List.nil_append, Nat.zero_add, Nat.reduceAdd, cutV]
  refine ⟨cutV p n s, rfl, fun _ w' _ => ?_, ?_⟩
  · have := c_CutOf w' p (if 1000 < n then 1000 else n) s (by split <;> omega) (by omega)
    rw [cutR_limited] at this
    exact this
  simp only [Tree.goal, X.P, X.ev, V.toI_i, V.toB_b, V.toS_s, V.toR_r, V.toV_v, V.toN_n, V.toL_l, SV.ev, CV.ev, Sc.ev, List.getD_cons_zero, List.getD_cons_succ, List.getElem?_cons_zero, List.getElem?_cons_succ, List.map_cons, List.map_nil, List.length_cons, List.length_nil, List.cons_append, List.nil_append, Nat.zero_add, Nat.reduceAdd, cutV]
  intro b1
  refine ⟨[.s (joinR ps bs).1, .i (joinR ps bs).2], rfl, fun _ w' hr => c_JoinOf w' u v ps bs (hr.at_ 2 rfl) (hr.at_ 3 rfl) hl hfl, ?_⟩
  simp only [Tree.goal, X.P, X.ev, V.toI_i, V.toB_b, V.toS_s, V.toR_r, V.toV_v, V.toN_n, V.toL_l, SV.ev, CV.ev, Sc.ev, List.getD_cons_zero, List.getD_cons_succ, List.getElem?_cons_zero, List.getElem?_cons_succ, List.map_cons, List.map_nil, List.length_cons, List.length_nil, List.cons_append, List.nil_append, Nat.zero_add, Nat.reduceAdd, cutV]
  refine ⟨[.b true], rfl, fun _ w' _ => c_blockBegun w', ?_⟩
  simp only [Tree.goal, X.P, X.ev, V.toI_i, V.toB_b, V.toS_s, V.toR_r, V.toV_v, V.toN_n, V.toL_l, SV.ev, CV.ev, Sc.ev, List.getD_cons_zero, List.getD_cons_succ, List.getElem?_cons_zero, List.getElem?_cons_succ, List.map_cons, List.map_nil, List.length_cons, List.length_nil, List.cons_append, List.nil_append, Nat.zero_add, Nat.reduceAdd]
  exact fun w' hr => ⟨by simp, hr.mod⟩

theorem cutR_ok {p : List UInt8} {i k : Nat} (hp : p.length ≤ 200) (hk : k ≤ 6) (h : i = 0 ∨ i * blkL k < p.length) :
    cutR p i k = ((p.drop (i * blkL k)).take (blkL k), ((i : Int), decide (blkL k < p.length - i * blkL k), (k : Int)), 0) := by
  rw [cutR, if_neg (by omega), if_pos (by omega), if_neg]
  · simp only [Int.toNat_natCast]
  · rw [Int.toNat_natCast, ← Int.natCast_mul]; omega
theorem cutR_none {p : List UInt8} {i k : Nat} (hp : p.length ≤ 200) (hk : k ≤ 6) (h : 0 < i) (h2 : p.length ≤ i * blkL k) : (cutR p i k).2.2 = 5 := by
  rw [cutR, if_neg (by omega), if_pos (by omega), if_pos]
  rw [Int.toNat_natCast, ← Int.natCast_mul]; omega
theorem blkL_succ (k : Nat) : blkL (k + 1) = 2 * blkL k := by simp only [blkL, Nat.pow_succ]; omega
/-- How many blocks there are. -/
theorem many_ok (a L : Nat) (hL : 0 < L) : ∃ n : Nat, 0 < n ∧ a ≤ n * L ∧ (∀ i, i < n → i = 0 ∨ i * L < a) ∧
    (((a : Int) + L - 1) / L = 0 ∧ n = 1 ∨ ((a : Int) + L - 1) / L = n) := by
  by_cases ha : a = 0
  · exact ⟨1, by omega, by omega, fun i hi => .inl (by omega), .inl ⟨Int.ediv_eq_zero_of_lt (by omega) (by omega), rfl⟩⟩
  · have h0 : (0 : Int) ≤ ((a : Int) + L - 1) / L := Int.ediv_nonneg (by omega) (by omega)
    obtain ⟨n, hn⟩ : ∃ n : Nat, ((a : Int) + L - 1) / L = n := ⟨(((a : Int) + L - 1) / L).toNat, by omega⟩
    have hc := fun m => ceil_le a L m hL
    rw [hn] at hc
    have h1 := (hc n).1 (Int.le_refl _)
    rw [← Int.natCast_mul] at h1
    refine ⟨n, ?_, by omega, fun i hi => .inr ?_, .inr hn⟩
    · rcases Nat.eq_zero_or_pos n with h | h
      · subst h; simp at h1; omega
      · exact h
    · have h2 := (hc i)
      rw [← Int.natCast_mul] at h2
      omega

theorem rows_S {rows : List (List Value)} (h : ∀ r ∈ rows, rowOk [.str] r) : ∃ ps, rows = List.map encS ps := by
  induction rows with
  | nil => exact ⟨[], rfl⟩
  | cons r rows ih =>
    obtain ⟨ps, hps⟩ := ih fun r hr => h r (List.mem_cons_of_mem _ hr)
    have h0 := h r (List.mem_cons_self ..)
    match r, h0 with
    | [_], ⟨⟨l, rfl⟩, _⟩ => exact ⟨l :: ps, by rw [hps]; rfl⟩
theorem rows_B {rows : List (List Value)} (h : ∀ r ∈ rows, rowOk [.int .i64, .bool, .int .i64] r) : ∃ bs, rows = List.map encB bs := by
  induction rows with
  | nil => exact ⟨[], rfl⟩
  | cons r rows ih =>
    obtain ⟨ps, hps⟩ := ih fun r hr => h r (List.mem_cons_of_mem _ hr)
    have h0 := h r (List.mem_cons_self ..)
    match r, h0 with
    | [_, _, _], ⟨⟨a, rfl⟩, ⟨b, rfl⟩, ⟨c, rfl⟩, _⟩ => exact ⟨(a, b, c) :: ps, by rw [hps]; rfl⟩
end Go.Proofs.Ytpcdkcbniokdgaa
