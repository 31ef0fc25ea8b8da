/-
  The law BlockMany, walked. By an AI agent.
-/
import Derived.Test.YtpcdkcbniokdgaaBe
set_option linter.unusedSimpArgs false
set_option linter.unusedVariables false
namespace Go.Proofs.Ytpcdkcbniokdgaa
open Go.Sx

theorem more_iff {a L n i : Nat} (h1 : a ≤ n * L) (h2 : ∀ i, i < n → i = 0 ∨ i * L < a) (hi : i < n) : L < a - i * L ↔ i + 1 < n := by
  have e : (i + 1) * L = i * L + L := Nat.succ_mul _ _
  constructor
  · intro h
    rcases Nat.lt_or_ge (i + 1) n with h3 | h3
    · exact h3
    · have : n * L ≤ (i + 1) * L := Nat.mul_le_mul_right _ h3
      omega
  · intro h
    rcases h2 (i + 1) h with h3 | h3 <;> omega

theorem idx_le {i L a : Nat} (h : i = 0 ∨ i * L < a) : i * L ≤ a := by
  rcases h with h | h
  · subst h; omega
  · omega
set_option maxHeartbeats 1000000 in
theorem c_BlockMany (w : World) (p : List UInt8) (s : Int) (hpl : p.length < 1099511627776) : Calls Try.prog 3 #[.string ⟨p.toArray⟩, .int .i64 s] w fun e w' => e = .returned (.bool true) ∧ Mod [] w w' := by
  refine as_called (run_plain2 (ρ := [.s p, .i s]) sxE_ok Try.func3 tree_dragomanlaw_BlockMany rfl rfl rfl ?_) rfl
  simp only [Tree.goal, X.P, X.ev, V.toI_i, V.toB_b, V.toS_s, V.toR_r, V.toV_v, V.toN_n, V.toL_l, SV.ev, CV.ev, Sc.ev, List.getD_cons_zero, List.getD_cons_succ, List.getElem?_cons_zero, List.getElem?_cons_succ, List.map_cons, List.map_nil, List.length_cons, List.length_nil, List.cons_append, List.nil_append, Nat.zero_add, Nat.reduceAdd]
  refine ⟨[.b true], rfl, fun _ w' _ => c_blockBegun w', ?_⟩
  simp only [Tree.goal, X.P, X.ev, V.toI_i, V.toB_b, V.toS_s, V.toR_r, V.toV_v, V.toN_n, V.toL_l, SV.ev, CV.ev, Sc.ev, List.getD_cons_zero, List.getD_cons_succ, List.getElem?_cons_zero, List.getElem?_cons_succ, List.map_cons, List.map_nil, List.length_cons, List.length_nil, List.cons_append, List.nil_append, Nat.zero_add, Nat.reduceAdd]
  refine ⟨fun h => absurd trivial h, fun _ => ?_⟩
  refine ⟨fun h w' hr => ⟨by trivial, hr.mod⟩, fun h => ?_⟩
  obtain ⟨k, rfl⟩ : ∃ k : Nat, s = k := ⟨s.toNat, by omega⟩
  have hk : k ≤ 6 := by omega
  have hp : p.length ≤ 200 := by omega
  refine ⟨[.i (blkL k)], rfl, fun _ w' _ => c_LongBlock w' k hk, ?_⟩
  simp only [Tree.goal, X.P, X.ev, V.toI_i, V.toB_b, V.toS_s, V.toR_r, V.toV_v, V.toN_n, V.toL_l, SV.ev, CV.ev, Sc.ev, List.getD_cons_zero, List.getD_cons_succ, List.getElem?_cons_zero, List.getElem?_cons_succ, List.map_cons, List.map_nil, List.length_cons, List.length_nil, List.cons_append, List.nil_append, Nat.zero_add, Nat.reduceAdd]
  have hL := blkL_bd k hk
  obtain ⟨n, hn1, hn2, hn3, hn4⟩ := many_ok p.length (blkL k) (by omega)
  have hnb : n ≤ p.length + 1 := by
    rcases hn3 (n - 1) (by omega) with h | h
    · omega
    · have := Nat.le_mul_of_pos_right (n - 1) (show 0 < blkL k by omega)
      omega
  have e1 : ∀ i : Nat, ((i : Int) * (blkL k : Int)) = ((i * blkL k : Nat) : Int) := fun i => by simp
  (repeat refine ⟨by omega, ?_⟩)
  refine ⟨fun h2 => ?_, fun h2 => ?_⟩
  · have hn : n = 1 := by rcases hn4 with h | h <;> omega
    refine ⟨fun vs => ∃ (i : Nat) (x : V), vs = [x, .i i] ∧ i ≤ n, fun vs => (n - (vs.getD 1 (.i 0)).toI).toNat, ⟨0, _, rfl, by omega⟩, ?_⟩; rintro _ - ⟨i, x, rfl, hi⟩; simp only [Tree.goal, X.P, X.ev, V.toI_i, V.toB_b, V.toS_s, V.toR_r, V.toV_v, V.toN_n, V.toL_l, SV.ev, CV.ev, Sc.ev, List.getD_cons_zero, List.getD_cons_succ, List.getElem?_cons_zero, List.getElem?_cons_succ, List.map_cons, List.map_nil, List.length_cons, List.length_nil, List.cons_append, List.nil_append, Nat.zero_add, Nat.reduceAdd]; refine ⟨fun h1 => ?_, fun h1 => ?_⟩; (· have hin : i < n := (by omega); have hcut := cutR_ok hp hk (hn3 i hin); have hm := more_iff hn2 hn3 hin; have hil := idx_le (hn3 i hin); refine ⟨cutV p i k, rfl, fun _ w' _ => c_Cut w' p i k (by omega), ?_⟩; simp only [Tree.goal, X.P, X.ev, V.toI_i, V.toB_b, V.toS_s, V.toR_r, V.toV_v, V.toN_n, V.toL_l, SV.ev, CV.ev, Sc.ev, List.getD_cons_zero, List.getD_cons_succ, List.getElem?_cons_zero, List.getElem?_cons_succ, List.map_cons, List.map_nil, List.length_cons, List.length_nil, List.cons_append, List.nil_append, Nat.zero_add, Nat.reduceAdd, cutV, hcut, e1]; intro b; have hlen : (List.take (blkL k) (List.drop (i * blkL k) p)).length = min (blkL k) (p.length - i * blkL k) := (by simp); (have hlL : (List.take (blkL k) (List.drop (i * blkL k) p)).length ≤ blkL k := by omega); (have hlR : i * blkL k + (List.take (blkL k) (List.drop (i * blkL k) p)).length ≤ p.length := by omega); (repeat first | refine ⟨by omega, ?_⟩ | refine ⟨.inr (by omega), ?_⟩); refine ⟨fun h => ?_, fun _ => ?_⟩; (· exfalso; rcases h with (((((h | h) | h) | h) | h) | h); (· exact h (by trivial)); (· exact h (by trivial)); (· exact h (by trivial)); (· exact h (by rw [decide_eq_decide]; omega)); (· obtain ⟨q1, q2⟩ := h; have q1 := of_decide_eq_true q1; exact q2 (by omega)); (· refine h ?_; have q3 : (((i * blkL k : Nat) : Int) + ((List.take (blkL k) (List.drop (i * blkL k) p)).length : Int)).toNat = i * blkL k + (List.take (blkL k) (List.drop (i * blkL k) p)).length := (by omega); rw [q3, Int.toNat_natCast, List.take_add, List.drop_append_of_le_length (by simp; omega)]; simp)); (· (repeat refine ⟨by omega, ?_⟩); refine ⟨⟨i + 1, x, rfl, by omega⟩, by omega⟩)); (· have : i = n := (by omega); subst this; have h5 := cutR_none hp hk hn1 hn2; refine ⟨cutV p i k, rfl, fun _ w' _ => by (have h9 : (i : Int) = 1 := by omega); rw [h9]; exact c_Cut w' p 1 k (by omega), ?_⟩; simp only [Tree.goal, X.P, X.ev, V.toI_i, V.toB_b, V.toS_s, V.toR_r, V.toV_v, V.toN_n, V.toL_l, SV.ev, CV.ev, Sc.ev, List.getD_cons_zero, List.getD_cons_succ, List.getElem?_cons_zero, List.getElem?_cons_succ, List.map_cons, List.map_nil, List.length_cons, List.length_nil, List.cons_append, List.nil_append, Nat.zero_add, Nat.reduceAdd, cutV, h5]; intro b; refine ⟨fun h2 w' hr => ⟨by simp, hr.mod⟩, fun h2 => ?_⟩; (repeat refine ⟨by omega, ?_⟩); have h6 := cutR_none (p := p) (i := i) (k := k + 1) hp (by omega) hn1 (by rw [blkL_succ, Nat.mul_left_comm]; omega); refine ⟨cutV p i ((k + 1 : Nat) : Int), rfl, fun _ w' _ => by (have h9 : (i : Int) = 1 := by omega); rw [h9]; exact c_Cut w' p 1 ((k + 1 : Nat) : Int) (by omega), ?_⟩; simp only [Tree.goal, X.P, X.ev, V.toI_i, V.toB_b, V.toS_s, V.toR_r, V.toV_v, V.toN_n, V.toL_l, SV.ev, CV.ev, Sc.ev, List.getD_cons_zero, List.getD_cons_succ, List.getElem?_cons_zero, List.getElem?_cons_succ, List.map_cons, List.map_nil, List.length_cons, List.length_nil, List.cons_append, List.nil_append, Nat.zero_add, Nat.reduceAdd, cutV, h6]; intro b; exact fun w' hr => ⟨by simp, hr.mod⟩)
  · have hn : (p.length + blkL k - 1 : Int) / blkL k = n := by rcases hn4 with h | h <;> omega
    rw [hn]
    refine ⟨fun vs => ∃ (i : Nat) (x : V), vs = [x, .i i] ∧ i ≤ n, fun vs => (n - (vs.getD 1 (.i 0)).toI).toNat, ⟨0, _, rfl, by omega⟩, ?_⟩; rintro _ - ⟨i, x, rfl, hi⟩; simp only [Tree.goal, X.P, X.ev, V.toI_i, V.toB_b, V.toS_s, V.toR_r, V.toV_v, V.toN_n, V.toL_l, SV.ev, CV.ev, Sc.ev, List.getD_cons_zero, List.getD_cons_succ, List.getElem?_cons_zero, List.getElem?_cons_succ, List.map_cons, List.map_nil, List.length_cons, List.length_nil, List.cons_append, List.nil_append, Nat.zero_add, Nat.reduceAdd]; refine ⟨fun h1 => ?_, fun h1 => ?_⟩; (· have hin : i < n := (by omega); have hcut := cutR_ok hp hk (hn3 i hin); have hm := more_iff hn2 hn3 hin; have hil := idx_le (hn3 i hin); refine ⟨cutV p i k, rfl, fun _ w' _ => c_Cut w' p i k (by omega), ?_⟩; simp only [Tree.goal, X.P, X.ev, V.toI_i, V.toB_b, V.toS_s, V.toR_r, V.toV_v, V.toN_n, V.toL_l, SV.ev, CV.ev, Sc.ev, List.getD_cons_zero, List.getD_cons_succ, List.getElem?_cons_zero, List.getElem?_cons_succ, List.map_cons, List.map_nil, List.length_cons, List.length_nil, List.cons_append, List.nil_append, Nat.zero_add, Nat.reduceAdd, cutV, hcut, e1]; intro b; have hlen : (List.take (blkL k) (List.drop (i * blkL k) p)).length = min (blkL k) (p.length - i * blkL k) := (by simp); (have hlL : (List.take (blkL k) (List.drop (i * blkL k) p)).length ≤ blkL k := by omega); (have hlR : i * blkL k + (List.take (blkL k) (List.drop (i * blkL k) p)).length ≤ p.length := by omega); (repeat first | refine ⟨by omega, ?_⟩ | refine ⟨.inr (by omega), ?_⟩); refine ⟨fun h => ?_, fun _ => ?_⟩; (· exfalso; rcases h with (((((h | h) | h) | h) | h) | h); (· exact h (by trivial)); (· exact h (by trivial)); (· exact h (by trivial)); (· exact h (by rw [decide_eq_decide]; omega)); (· obtain ⟨q1, q2⟩ := h; have q1 := of_decide_eq_true q1; exact q2 (by omega)); (· refine h ?_; have q3 : (((i * blkL k : Nat) : Int) + ((List.take (blkL k) (List.drop (i * blkL k) p)).length : Int)).toNat = i * blkL k + (List.take (blkL k) (List.drop (i * blkL k) p)).length := (by omega); rw [q3, Int.toNat_natCast, List.take_add, List.drop_append_of_le_length (by simp; omega)]; simp)); (· (repeat refine ⟨by omega, ?_⟩); refine ⟨⟨i + 1, x, rfl, by omega⟩, by omega⟩)); (· have : i = n := (by omega); subst this; have h5 := cutR_none hp hk hn1 hn2; refine ⟨cutV p i k, rfl, fun _ w' _ => c_Cut w' p i k (by omega), ?_⟩; simp only [Tree.goal, X.P, X.ev, V.toI_i, V.toB_b, V.toS_s, V.toR_r, V.toV_v, V.toN_n, V.toL_l, SV.ev, CV.ev, Sc.ev, List.getD_cons_zero, List.getD_cons_succ, List.getElem?_cons_zero, List.getElem?_cons_succ, List.map_cons, List.map_nil, List.length_cons, List.length_nil, List.cons_append, List.nil_append, Nat.zero_add, Nat.reduceAdd, cutV, h5]; intro b; refine ⟨fun h2 w' hr => ⟨by simp, hr.mod⟩, fun h2 => ?_⟩; (repeat refine ⟨by omega, ?_⟩); have h6 := cutR_none (p := p) (i := i) (k := k + 1) hp (by omega) hn1 (by rw [blkL_succ, Nat.mul_left_comm]; omega); refine ⟨cutV p i ((k + 1 : Nat) : Int), rfl, fun _ w' _ => c_Cut w' p i ((k + 1 : Nat) : Int) (by omega), ?_⟩; simp only [Tree.goal, X.P, X.ev, V.toI_i, V.toB_b, V.toS_s, V.toR_r, V.toV_v, V.toN_n, V.toL_l, SV.ev, CV.ev, Sc.ev, List.getD_cons_zero, List.getD_cons_succ, List.getElem?_cons_zero, List.getElem?_cons_succ, List.map_cons, List.map_nil, List.length_cons, List.length_nil, List.cons_append, List.nil_append, Nat.zero_add, Nat.reduceAdd, cutV, h6]; intro b; exact fun w' hr => ⟨by simp, hr.mod⟩)
end Go.Proofs.Ytpcdkcbniokdgaa
