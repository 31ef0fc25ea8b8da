/-
  The laws TopicTells, TopicPlain and TopicCovers, walked. By an AI agent.
-/
import Derived.Test.YtkalmhdckoocbaaDoorTc
set_option linter.unusedSimpArgs false
set_option linter.unusedVariables false
namespace Go.Proofs.YtkalmhdckoocbaaDoor
open Go.Sx
abbrev bB (x : Bool × Int) : List V := [.b x.1, .i x.2]
theorem tb1 : matR [97, 47, 43, 47, 35] [97, 47, 98] = (true, 0) := by decide
theorem tb2 : matR [97, 47, 43] [97, 47, 98, 47, 99] = (false, 0) := by decide
theorem tb3 : covR [35] [97, 47, 43] = (true, 0) := by decide
theorem tb4 : covR [97, 47, 43] [97, 47, 35] = (false, 0) := by decide
theorem tb5 : chkT [97, 47, 98] false = 0 := by decide
theorem tb6 : chkT [97, 47, 43, 47, 35] true = 0 := by decide
theorem tb7 : chkT [97, 47, 43] false = 1 := by decide
theorem c_topicBegun (w : World) : Calls Tryd.prog 15 #[] w fun e w' => e = .returned (.bool true) ∧ Mod [] w w' := by
  refine as_called (run_plain2 (ρ := []) sxE_ok Tryd.func15 tree_dragomanlaw_topicBegun rfl rfl rfl ?_) rfl
  simp only [Tree.goal, X.P, X.ev, V.toI_i, V.toB_b, V.toS_s, V.toR_r, V.toV_v, V.toN_n, V.toL_l, SV.ev, CV.ev, Sc.ev, List.getD_cons_zero, List.getD_cons_succ, List.getElem?_cons_zero, List.getElem?_cons_succ, List.map_cons, List.map_nil, List.length_cons, List.length_nil, List.cons_append, List.nil_append, Nat.zero_add, Nat.reduceAdd]
  refine ⟨bB (matR [97, 47, 43, 47, 35] [97, 47, 98]), rfl, fun _ w' _ => c_Match w' _ _ (by decide) (by decide), ?_⟩
  simp only [Tree.goal, X.P, X.ev, V.toI_i, V.toB_b, V.toS_s, V.toR_r, V.toV_v, V.toN_n, V.toL_l, SV.ev, CV.ev, Sc.ev, List.getD_cons_zero, List.getD_cons_succ, List.getElem?_cons_zero, List.getElem?_cons_succ, List.map_cons, List.map_nil, List.length_cons, List.length_nil, List.cons_append, List.nil_append, Nat.zero_add, Nat.reduceAdd, bB, tb1]
  refine ⟨bB (matR [97, 47, 43] [97, 47, 98, 47, 99]), rfl, fun _ w' _ => c_Match w' _ _ (by decide) (by decide), ?_⟩
  simp only [Tree.goal, X.P, X.ev, V.toI_i, V.toB_b, V.toS_s, V.toR_r, V.toV_v, V.toN_n, V.toL_l, SV.ev, CV.ev, Sc.ev, List.getD_cons_zero, List.getD_cons_succ, List.getElem?_cons_zero, List.getElem?_cons_succ, List.map_cons, List.map_nil, List.length_cons, List.length_nil, List.cons_append, List.nil_append, Nat.zero_add, Nat.reduceAdd, bB, tb2]
  refine ⟨bB (covR [35] [97, 47, 43]), rfl, fun _ w' _ => c_Covers w' _ _ (by decide) (by decide), ?_⟩
  simp only [Tree.goal, X.P, X.ev, V.toI_i, V.toB_b, V.toS_s, V.toR_r, V.toV_v, V.toN_n, V.toL_l, SV.ev, CV.ev, Sc.ev, List.getD_cons_zero, List.getD_cons_succ, List.getElem?_cons_zero, List.getElem?_cons_succ, List.map_cons, List.map_nil, List.length_cons, List.length_nil, List.cons_append, List.nil_append, Nat.zero_add, Nat.reduceAdd, bB, tb3]
  refine ⟨bB (covR [97, 47, 43] [97, 47, 35]), rfl, fun _ w' _ => c_Covers w' _ _ (by decide) (by decide), ?_⟩
  simp only [Tree.goal, X.P, X.ev, V.toI_i, V.toB_b, V.toS_s, V.toR_r, V.toV_v, V.toN_n, V.toL_l, SV.ev, CV.ev, Sc.ev, List.getD_cons_zero, List.getD_cons_succ, List.getElem?_cons_zero, List.getElem?_cons_succ, List.map_cons, List.map_nil, List.length_cons, List.length_nil, List.cons_append, List.nil_append, Nat.zero_add, Nat.reduceAdd, bB, tb4]
  refine ⟨[.i (chkT [97, 47, 98] false)], rfl, fun _ w' _ => c_Name w' _ (by decide), ?_⟩
  simp only [Tree.goal, X.P, X.ev, V.toI_i, V.toB_b, V.toS_s, V.toR_r, V.toV_v, V.toN_n, V.toL_l, SV.ev, CV.ev, Sc.ev, List.getD_cons_zero, List.getD_cons_succ, List.getElem?_cons_zero, List.getElem?_cons_succ, List.map_cons, List.map_nil, List.length_cons, List.length_nil, List.cons_append, List.nil_append, Nat.zero_add, Nat.reduceAdd, tb5]
  refine ⟨[.i (chkT [97, 47, 43, 47, 35] true)], rfl, fun _ w' _ => c_Filter w' _ (by decide), ?_⟩
  simp only [Tree.goal, X.P, X.ev, V.toI_i, V.toB_b, V.toS_s, V.toR_r, V.toV_v, V.toN_n, V.toL_l, SV.ev, CV.ev, Sc.ev, List.getD_cons_zero, List.getD_cons_succ, List.getElem?_cons_zero, List.getElem?_cons_succ, List.map_cons, List.map_nil, List.length_cons, List.length_nil, List.cons_append, List.nil_append, Nat.zero_add, Nat.reduceAdd, tb6]
  refine ⟨[.i (chkT [97, 47, 43] false)], rfl, fun _ w' _ => c_Name w' _ (by decide), ?_⟩
  simp only [Tree.goal, X.P, X.ev, V.toI_i, V.toB_b, V.toS_s, V.toR_r, V.toV_v, V.toN_n, V.toL_l, SV.ev, CV.ev, Sc.ev, List.getD_cons_zero, List.getD_cons_succ, List.getElem?_cons_zero, List.getElem?_cons_succ, List.map_cons, List.map_nil, List.length_cons, List.length_nil, List.cons_append, List.nil_append, Nat.zero_add, Nat.reduceAdd, tb7]
  exact fun w' hr => ⟨by rfl, hr.mod⟩

set_option maxHeartbeats 1000000 in
theorem c_TopicTells (w : World) (a b : List UInt8) (ha : a.length < 4294967281) (hb : b.length < 4294967281) : Calls Tryd.prog 4 #[.string ⟨a.toArray⟩, .string ⟨b.toArray⟩] w fun e w' => e = .returned (.bool true) ∧ Mod [] w w' := by
  refine as_called (run_plain2 (ρ := [.s a, .s b]) sxE_ok Tryd.func4 tree_dragomanlaw_TopicTells rfl rfl rfl ?_) rfl
  simp only [Tree.goal, X.P, X.ev, V.toI_i, V.toB_b, V.toS_s, V.toR_r, V.toV_v, V.toN_n, V.toL_l, SV.ev, CV.ev, Sc.ev, List.getD_cons_zero, List.getD_cons_succ, List.getElem?_cons_zero, List.getElem?_cons_succ, List.map_cons, List.map_nil, List.length_cons, List.length_nil, List.cons_append, List.nil_append, Nat.zero_add, Nat.reduceAdd]
  refine ⟨bB (matR a b), rfl, fun _ w' _ => c_Match w' _ _ ha hb, ?_⟩
  simp only [Tree.goal, X.P, X.ev, V.toI_i, V.toB_b, V.toS_s, V.toR_r, V.toV_v, V.toN_n, V.toL_l, SV.ev, CV.ev, Sc.ev, List.getD_cons_zero, List.getD_cons_succ, List.getElem?_cons_zero, List.getElem?_cons_succ, List.map_cons, List.map_nil, List.length_cons, List.length_nil, List.cons_append, List.nil_append, Nat.zero_add, Nat.reduceAdd, bB]
  refine ⟨bB (covR a b), rfl, fun _ w' _ => c_Covers w' _ _ ha hb, ?_⟩
  simp only [Tree.goal, X.P, X.ev, V.toI_i, V.toB_b, V.toS_s, V.toR_r, V.toV_v, V.toN_n, V.toL_l, SV.ev, CV.ev, Sc.ev, List.getD_cons_zero, List.getD_cons_succ, List.getElem?_cons_zero, List.getElem?_cons_succ, List.map_cons, List.map_nil, List.length_cons, List.length_nil, List.cons_append, List.nil_append, Nat.zero_add, Nat.reduceAdd, bB]
  refine ⟨[.i (chkT a true)], rfl, fun _ w' _ => c_CheckTopic w' a true ha, ?_⟩
  simp only [Tree.goal, X.P, X.ev, V.toI_i, V.toB_b, V.toS_s, V.toR_r, V.toV_v, V.toN_n, V.toL_l, SV.ev, CV.ev, Sc.ev, List.getD_cons_zero, List.getD_cons_succ, List.getElem?_cons_zero, List.getElem?_cons_succ, List.map_cons, List.map_nil, List.length_cons, List.length_nil, List.cons_append, List.nil_append, Nat.zero_add, Nat.reduceAdd]
  refine ⟨fun h => ?_, fun h => ?_⟩
  · refine ⟨[.i (chkT b false)], rfl, fun _ w' _ => c_CheckTopic w' b false hb, ?_⟩
    simp only [Tree.goal, X.P, X.ev, V.toI_i, V.toB_b, V.toS_s, V.toR_r, V.toV_v, V.toN_n, V.toL_l, SV.ev, CV.ev, Sc.ev, List.getD_cons_zero, List.getD_cons_succ, List.getElem?_cons_zero, List.getElem?_cons_succ, List.map_cons, List.map_nil, List.length_cons, List.length_nil, List.cons_append, List.nil_append, Nat.zero_add, Nat.reduceAdd]
    refine ⟨[.i (chkT b true)], rfl, fun _ w' _ => c_CheckTopic w' b true hb, ?_⟩
    simp only [Tree.goal, X.P, X.ev, V.toI_i, V.toB_b, V.toS_s, V.toR_r, V.toV_v, V.toN_n, V.toL_l, SV.ev, CV.ev, Sc.ev, List.getD_cons_zero, List.getD_cons_succ, List.getElem?_cons_zero, List.getElem?_cons_succ, List.map_cons, List.map_nil, List.length_cons, List.length_nil, List.cons_append, List.nil_append, Nat.zero_add, Nat.reduceAdd]
    refine ⟨[.b true], rfl, fun _ w' _ => c_topicBegun w', ?_⟩; simp only [Tree.goal, X.P, X.ev, V.toI_i, V.toB_b, V.toS_s, V.toR_r, V.toV_v, V.toN_n, V.toL_l, SV.ev, CV.ev, Sc.ev, List.getD_cons_zero, List.getD_cons_succ, List.getElem?_cons_zero, List.getElem?_cons_succ, List.map_cons, List.map_nil, List.length_cons, List.length_nil, List.cons_append, List.nil_append, Nat.zero_add, Nat.reduceAdd]; refine ⟨[.i (chkT a false)], rfl, fun _ w' _ => c_Name w' a ha, ?_⟩; simp only [Tree.goal, X.P, X.ev, V.toI_i, V.toB_b, V.toS_s, V.toR_r, V.toV_v, V.toN_n, V.toL_l, SV.ev, CV.ev, Sc.ev, List.getD_cons_zero, List.getD_cons_succ, List.getElem?_cons_zero, List.getElem?_cons_succ, List.map_cons, List.map_nil, List.length_cons, List.length_nil, List.cons_append, List.nil_append, Nat.zero_add, Nat.reduceAdd]; refine ⟨[.i (chkT a false)], rfl, fun _ w' _ => c_CheckTopic w' a false ha, ?_⟩; simp only [Tree.goal, X.P, X.ev, V.toI_i, V.toB_b, V.toS_s, V.toR_r, V.toV_v, V.toN_n, V.toL_l, SV.ev, CV.ev, Sc.ev, List.getD_cons_zero, List.getD_cons_succ, List.getElem?_cons_zero, List.getElem?_cons_succ, List.map_cons, List.map_nil, List.length_cons, List.length_nil, List.cons_append, List.nil_append, Nat.zero_add, Nat.reduceAdd]; refine ⟨[.i (chkT a true)], rfl, fun _ w' _ => c_Filter w' a ha, ?_⟩; simp only [Tree.goal, X.P, X.ev, V.toI_i, V.toB_b, V.toS_s, V.toR_r, V.toV_v, V.toN_n, V.toL_l, SV.ev, CV.ev, Sc.ev, List.getD_cons_zero, List.getD_cons_succ, List.getElem?_cons_zero, List.getElem?_cons_succ, List.map_cons, List.map_nil, List.length_cons, List.length_nil, List.cons_append, List.nil_append, Nat.zero_add, Nat.reduceAdd]; refine ⟨[.i (chkT a true)], rfl, fun _ w' _ => c_CheckTopic w' a true ha, ?_⟩; simp only [Tree.goal, X.P, X.ev, V.toI_i, V.toB_b, V.toS_s, V.toR_r, V.toV_v, V.toN_n, V.toL_l, SV.ev, CV.ev, Sc.ev, List.getD_cons_zero, List.getD_cons_succ, List.getElem?_cons_zero, List.getElem?_cons_succ, List.map_cons, List.map_nil, List.length_cons, List.length_nil, List.cons_append, List.nil_append, Nat.zero_add, Nat.reduceAdd]; refine ⟨[.b (mt (lev a) (lev b))], rfl, fun _ w' _ => c_IsFor w' a b ha hb, ?_⟩; simp only [Tree.goal, X.P, X.ev, V.toI_i, V.toB_b, V.toS_s, V.toR_r, V.toV_v, V.toN_n, V.toL_l, SV.ev, CV.ev, Sc.ev, List.getD_cons_zero, List.getD_cons_succ, List.getElem?_cons_zero, List.getElem?_cons_succ, List.map_cons, List.map_nil, List.length_cons, List.length_nil, List.cons_append, List.nil_append, Nat.zero_add, Nat.reduceAdd]; refine ⟨[.b (cv (lev a) (levC b))], rfl, fun _ w' _ => c_CoversOf w' a b ha hb, ?_⟩; simp only [Tree.goal, X.P, X.ev, V.toI_i, V.toB_b, V.toS_s, V.toR_r, V.toV_v, V.toN_n, V.toL_l, SV.ev, CV.ev, Sc.ev, List.getD_cons_zero, List.getD_cons_succ, List.getElem?_cons_zero, List.getElem?_cons_succ, List.map_cons, List.map_nil, List.length_cons, List.length_nil, List.cons_append, List.nil_append, Nat.zero_add, Nat.reduceAdd]
    refine fun w' hr => ⟨?_, hr.mod⟩
    simp only [matR, covR, if_pos h]
    by_cases h1 : chkT b false = 0 <;> by_cases h2 : chkT b true = 0 <;> simp [h1, h2]
  · refine ⟨[.b true], rfl, fun _ w' _ => c_topicBegun w', ?_⟩; simp only [Tree.goal, X.P, X.ev, V.toI_i, V.toB_b, V.toS_s, V.toR_r, V.toV_v, V.toN_n, V.toL_l, SV.ev, CV.ev, Sc.ev, List.getD_cons_zero, List.getD_cons_succ, List.getElem?_cons_zero, List.getElem?_cons_succ, List.map_cons, List.map_nil, List.length_cons, List.length_nil, List.cons_append, List.nil_append, Nat.zero_add, Nat.reduceAdd]; refine ⟨[.i (chkT a false)], rfl, fun _ w' _ => c_Name w' a ha, ?_⟩; simp only [Tree.goal, X.P, X.ev, V.toI_i, V.toB_b, V.toS_s, V.toR_r, V.toV_v, V.toN_n, V.toL_l, SV.ev, CV.ev, Sc.ev, List.getD_cons_zero, List.getD_cons_succ, List.getElem?_cons_zero, List.getElem?_cons_succ, List.map_cons, List.map_nil, List.length_cons, List.length_nil, List.cons_append, List.nil_append, Nat.zero_add, Nat.reduceAdd]; refine ⟨[.i (chkT a false)], rfl, fun _ w' _ => c_CheckTopic w' a false ha, ?_⟩; simp only [Tree.goal, X.P, X.ev, V.toI_i, V.toB_b, V.toS_s, V.toR_r, V.toV_v, V.toN_n, V.toL_l, SV.ev, CV.ev, Sc.ev, List.getD_cons_zero, List.getD_cons_succ, List.getElem?_cons_zero, List.getElem?_cons_succ, List.map_cons, List.map_nil, List.length_cons, List.length_nil, List.cons_append, List.nil_append, Nat.zero_add, Nat.reduceAdd]; refine ⟨[.i (chkT a true)], rfl, fun _ w' _ => c_Filter w' a ha, ?_⟩; simp only [Tree.goal, X.P, X.ev, V.toI_i, V.toB_b, V.toS_s, V.toR_r, V.toV_v, V.toN_n, V.toL_l, SV.ev, CV.ev, Sc.ev, List.getD_cons_zero, List.getD_cons_succ, List.getElem?_cons_zero, List.getElem?_cons_succ, List.map_cons, List.map_nil, List.length_cons, List.length_nil, List.cons_append, List.nil_append, Nat.zero_add, Nat.reduceAdd]; refine ⟨[.i (chkT a true)], rfl, fun _ w' _ => c_CheckTopic w' a true ha, ?_⟩; simp only [Tree.goal, X.P, X.ev, V.toI_i, V.toB_b, V.toS_s, V.toR_r, V.toV_v, V.toN_n, V.toL_l, SV.ev, CV.ev, Sc.ev, List.getD_cons_zero, List.getD_cons_succ, List.getElem?_cons_zero, List.getElem?_cons_succ, List.map_cons, List.map_nil, List.length_cons, List.length_nil, List.cons_append, List.nil_append, Nat.zero_add, Nat.reduceAdd]; refine ⟨[.b (mt (lev a) (lev b))], rfl, fun _ w' _ => c_IsFor w' a b ha hb, ?_⟩; simp only [Tree.goal, X.P, X.ev, V.toI_i, V.toB_b, V.toS_s, V.toR_r, V.toV_v, V.toN_n, V.toL_l, SV.ev, CV.ev, Sc.ev, List.getD_cons_zero, List.getD_cons_succ, List.getElem?_cons_zero, List.getElem?_cons_succ, List.map_cons, List.map_nil, List.length_cons, List.length_nil, List.cons_append, List.nil_append, Nat.zero_add, Nat.reduceAdd]; refine ⟨[.b (cv (lev a) (levC b))], rfl, fun _ w' _ => c_CoversOf w' a b ha hb, ?_⟩; simp only [Tree.goal, X.P, X.ev, V.toI_i, V.toB_b, V.toS_s, V.toR_r, V.toV_v, V.toN_n, V.toL_l, SV.ev, CV.ev, Sc.ev, List.getD_cons_zero, List.getD_cons_succ, List.getElem?_cons_zero, List.getElem?_cons_succ, List.map_cons, List.map_nil, List.length_cons, List.length_nil, List.cons_append, List.nil_append, Nat.zero_add, Nat.reduceAdd]
    refine fun w' hr => ⟨?_, hr.mod⟩
    simp only [matR, covR, if_neg h]
    simp [h]

/-- A text of its levels. -/
def unlev : List (List UInt8) → List UInt8
  | [] => []
  | [x] => x
  | x :: y :: xs => x ++ 47 :: unlev (y :: xs)
theorem unlev_glue (c : UInt8) (x : List UInt8) (xs : List (List UInt8)) : unlev ((c :: x) :: xs) = c :: unlev (x :: xs) := by cases xs <;> simp [unlev]
theorem unlev_lev : ∀ s : List UInt8, unlev (lev s) = s := by
  intro s
  induction s with
  | nil => rfl
  | cons c l ih =>
    obtain ⟨y, ys, e⟩ := lev_ne l
    by_cases hc : c = 47
    · subst hc
      rw [lev_slash, e]
      rw [e] at ih
      simp [unlev, ih]
    · rw [lev_other _ hc, e]
      rw [e] at ih
      simp only [glue, List.cons_append, List.nil_append]
      rw [unlev_glue, ih]
theorem lev_inj {a b : List UInt8} (h : lev a = lev b) : a = b := by rw [← unlev_lev a, h, unlev_lev]
theorem bad_name {l : List (List UInt8)} (h : badL false l = false) : (∀ x ∈ l, wild x = false) ∧ badL true l = false := by
  induction l with
  | nil => exact ⟨by simp, rfl⟩
  | cons x l ih =>
    simp only [badL, Bool.or_eq_false_iff, Bool.not_false, Bool.true_or, Bool.and_true] at h
    obtain ⟨i1, i2⟩ := ih h.2
    refine ⟨fun y hy => ?_, by simp [badL, h.1, i2]⟩
    rcases List.mem_cons.1 hy with rfl | hy
    · exact h.1
    · exact i1 y hy
theorem chkT_ok {s : List UInt8} {f : Bool} : chkT s f = 0 ↔ s ≠ [] ∧ (s.length ≤ 60 ∧ (lev s).length ≤ 6) ∧ plainS s = true ∧ badL f (lev s) = false := by
  unfold chkT
  by_cases h1 : s = []
  · rw [if_pos h1]; simp [h1]
  · rw [if_neg h1]
    by_cases h2 : 60 < (s.length : Int) ∨ 6 < ((lev s).length : Int)
    · rw [if_pos h2]
      refine ⟨fun h => absurd h (by decide), fun h => by omega⟩
    · rw [if_neg h2]
      by_cases h3 : plainS s = true
      · rw [if_pos h3]
        cases h4 : badL f (lev s)
        · exact ⟨fun _ => ⟨h1, by omega, h3, rfl⟩, fun _ => rfl⟩
        · exact ⟨fun h => absurd h (by decide), fun h => absurd h.2.2.2 (by simp)⟩
      · rw [if_neg h3]
        exact ⟨fun h => absurd h (by decide), fun h => absurd h.2.2.1 h3⟩
theorem chkT_name {s : List UInt8} (h : chkT s false = 0) : chkT s true = 0 := by
  obtain ⟨h1, h2, h3, h4⟩ := chkT_ok.1 h
  exact chkT_ok.2 ⟨h1, h2, h3, (bad_name h4).2⟩
theorem mt_plain : ∀ {fs ns : List (List UInt8)}, (∀ x ∈ fs, wild x = false) → mt fs ns = decide (fs = ns) := by
  intro fs
  induction fs with
  | nil => intro ns _; simp only [mt]; exact decide_eq_decide.2 ⟨fun h => h.symm, fun h => h.symm⟩
  | cons f fs ih =>
    intro ns h
    have hf := h f (List.mem_cons_self ..)
    have h35 : ¬ f = [35] := fun e => by rw [e] at hf; exact absurd hf (by decide)
    have h43 : ¬ f = [43] := fun e => by rw [e] at hf; exact absurd hf (by decide)
    rcases ns with _ | ⟨x, xs⟩
    · rw [mt_none _ h35]; simp
    · rw [mt_cons _ _ _ h35]
      by_cases hx : f = x
      · rw [if_pos (.inr hx), ih fun y hy => h y (List.mem_cons_of_mem _ hy)]
        simp [hx]
      · rw [if_neg (fun e => e.elim h43 hx)]
        simp [hx]
theorem chk_hash : chkT [35] true = 0 := by decide
theorem c_TopicPlain (w : World) (a b : List UInt8) (ha : a.length < 4294967281) (hb : b.length < 4294967281) : Calls Tryd.prog 3 #[.string ⟨a.toArray⟩, .string ⟨b.toArray⟩] w fun e w' => e = .returned (.bool true) ∧ Mod [] w w' := by
  refine as_called (run_plain2 (ρ := [.s a, .s b]) sxE_ok Tryd.func3 tree_dragomanlaw_TopicPlain rfl rfl rfl ?_) rfl
  simp only [Tree.goal, X.P, X.ev, V.toI_i, V.toB_b, V.toS_s, V.toR_r, V.toV_v, V.toN_n, V.toL_l, SV.ev, CV.ev, Sc.ev, List.getD_cons_zero, List.getD_cons_succ, List.getElem?_cons_zero, List.getElem?_cons_succ, List.map_cons, List.map_nil, List.length_cons, List.length_nil, List.cons_append, List.nil_append, Nat.zero_add, Nat.reduceAdd]
  refine ⟨[.b true], rfl, fun _ w' _ => c_topicBegun w', ?_⟩
  simp only [Tree.goal, X.P, X.ev, V.toI_i, V.toB_b, V.toS_s, V.toR_r, V.toV_v, V.toN_n, V.toL_l, SV.ev, CV.ev, Sc.ev, List.getD_cons_zero, List.getD_cons_succ, List.getElem?_cons_zero, List.getElem?_cons_succ, List.map_cons, List.map_nil, List.length_cons, List.length_nil, List.cons_append, List.nil_append, Nat.zero_add, Nat.reduceAdd]
  refine ⟨fun h => absurd trivial h, fun _ => ?_⟩
  refine ⟨[.i (chkT a false)], rfl, fun _ w' _ => c_Name w' a ha, ?_⟩
  simp only [Tree.goal, X.P, X.ev, V.toI_i, V.toB_b, V.toS_s, V.toR_r, V.toV_v, V.toN_n, V.toL_l, SV.ev, CV.ev, Sc.ev, List.getD_cons_zero, List.getD_cons_succ, List.getElem?_cons_zero, List.getElem?_cons_succ, List.map_cons, List.map_nil, List.length_cons, List.length_nil, List.cons_append, List.nil_append, Nat.zero_add, Nat.reduceAdd]
  refine ⟨[.i (chkT b false)], rfl, fun _ w' _ => c_Name w' b hb, ?_⟩
  simp only [Tree.goal, X.P, X.ev, V.toI_i, V.toB_b, V.toS_s, V.toR_r, V.toV_v, V.toN_n, V.toL_l, SV.ev, CV.ev, Sc.ev, List.getD_cons_zero, List.getD_cons_succ, List.getElem?_cons_zero, List.getElem?_cons_succ, List.map_cons, List.map_nil, List.length_cons, List.length_nil, List.cons_append, List.nil_append, Nat.zero_add, Nat.reduceAdd]
  refine ⟨fun h w' hr => ⟨by trivial, hr.mod⟩, fun h => ?_⟩
  have h1 : chkT a false = 0 := Classical.not_not.1 fun h1 => h (.inl h1)
  have h2 : chkT b false = 0 := Classical.not_not.1 fun h1 => h (.inr h1)
  have h3 := chkT_name h1
  refine ⟨bB (matR a b), rfl, fun _ w' _ => c_Match w' _ _ ha hb, ?_⟩
  simp only [Tree.goal, X.P, X.ev, V.toI_i, V.toB_b, V.toS_s, V.toR_r, V.toV_v, V.toN_n, V.toL_l, SV.ev, CV.ev, Sc.ev, List.getD_cons_zero, List.getD_cons_succ, List.getElem?_cons_zero, List.getElem?_cons_succ, List.map_cons, List.map_nil, List.length_cons, List.length_nil, List.cons_append, List.nil_append, Nat.zero_add, Nat.reduceAdd, bB]
  refine ⟨bB (matR [35] a), rfl, fun _ w' _ => c_Match w' _ _ (by decide) ha, ?_⟩
  simp only [Tree.goal, X.P, X.ev, V.toI_i, V.toB_b, V.toS_s, V.toR_r, V.toV_v, V.toN_n, V.toL_l, SV.ev, CV.ev, Sc.ev, List.getD_cons_zero, List.getD_cons_succ, List.getElem?_cons_zero, List.getElem?_cons_succ, List.map_cons, List.map_nil, List.length_cons, List.length_nil, List.cons_append, List.nil_append, Nat.zero_add, Nat.reduceAdd, bB]
  refine ⟨bB (covR [35] a), rfl, fun _ w' _ => c_Covers w' _ _ (by decide) ha, ?_⟩
  simp only [Tree.goal, X.P, X.ev, V.toI_i, V.toB_b, V.toS_s, V.toR_r, V.toV_v, V.toN_n, V.toL_l, SV.ev, CV.ev, Sc.ev, List.getD_cons_zero, List.getD_cons_succ, List.getElem?_cons_zero, List.getElem?_cons_succ, List.map_cons, List.map_nil, List.length_cons, List.length_nil, List.cons_append, List.nil_append, Nat.zero_add, Nat.reduceAdd, bB]
  refine ⟨[.i (chkT a true)], rfl, fun _ w' _ => c_Filter w' a ha, ?_⟩
  simp only [Tree.goal, X.P, X.ev, V.toI_i, V.toB_b, V.toS_s, V.toR_r, V.toV_v, V.toN_n, V.toL_l, SV.ev, CV.ev, Sc.ev, List.getD_cons_zero, List.getD_cons_succ, List.getElem?_cons_zero, List.getElem?_cons_succ, List.map_cons, List.map_nil, List.length_cons, List.length_nil, List.cons_append, List.nil_append, Nat.zero_add, Nat.reduceAdd]
  refine fun w' hr => ⟨?_, hr.mod⟩
  have e1 : matR a b = (decide (a = b), 0) := by
    rw [matR, if_pos h3, if_pos h2, mt_plain (bad_name (chkT_ok.1 h1).2.2.2).1]
    exact congrArg (fun x => (x, (0 : Int))) (decide_eq_decide.2 ⟨lev_inj, fun h => by rw [h]⟩)
  have e2 : matR [35] a = (true, 0) := by
    rw [matR, if_pos chk_hash, if_pos h1]
    exact congrArg (fun x => (x, (0 : Int))) (mt_all _ _ rfl)
  have e3 : covR [35] a = (true, 0) := by
    rw [covR, if_pos chk_hash, if_pos h3]
    exact congrArg (fun x => (x, (0 : Int))) (cv_all _ _ rfl)
  simp [e1, e2, e3, h3]

theorem cv_refl : ∀ l : List (List UInt8), cv l l = true := by
  intro l
  induction l with
  | nil => rfl
  | cons f fs ih =>
    by_cases h : f = [35]
    · exact cv_all _ _ h
    · rw [cv_cons _ _ _ h, if_neg h, if_pos (.inr rfl), ih]
theorem cv_inv {f : List UInt8} {fs g : List (List UInt8)} (hf : ¬ f = [35]) (h : cv (f :: fs) g = true) : ∃ x xs, g = x :: xs ∧ ¬ x = [35] ∧ (f = [43] ∨ f = x) ∧ cv fs xs = true := by
  rcases g with _ | ⟨x, xs⟩
  · rw [cv_none _ hf] at h; cases h
  · rw [cv_cons _ _ _ hf] at h
    split at h
    · cases h
    · split at h
      · exact ⟨x, xs, rfl, by assumption, by assumption, h⟩
      · cases h
theorem mt_inv {f : List UInt8} {fs g : List (List UInt8)} (hf : ¬ f = [35]) (h : mt (f :: fs) g = true) : ∃ x xs, g = x :: xs ∧ (f = [43] ∨ f = x) ∧ mt fs xs = true := by
  rcases g with _ | ⟨x, xs⟩
  · rw [mt_none _ hf] at h; cases h
  · rw [mt_cons _ _ _ hf] at h
    split at h
    · exact ⟨x, xs, rfl, by assumption, h⟩
    · cases h
theorem nil_of {g : List (List UInt8)} (h : cv [] g = true) : g = [] := of_decide_eq_true h
theorem cv_mt : ∀ {a g n : List (List UInt8)}, cv a g = true → mt g n = true → mt a n = true := by
  intro a
  induction a with
  | nil => intro g n h1 h2; rw [nil_of h1] at h2; exact h2
  | cons f fs ih =>
    intro g n h1 h2
    by_cases hf : f = [35]
    · exact mt_all _ _ hf
    · obtain ⟨x, xs, rfl, hx, hfx, h3⟩ := cv_inv hf h1
      obtain ⟨y, ys, rfl, hxy, h4⟩ := mt_inv hx h2
      rw [mt_cons _ _ _ hf, if_pos, ih h3 h4]
      rcases hfx with h | h
      · exact .inl h
      · rcases hxy with h5 | h5
        · exact .inl (h.trans h5)
        · exact .inr (h.trans h5)
theorem cv_trans : ∀ {a g h : List (List UInt8)}, cv a g = true → cv g h = true → cv a h = true := by
  intro a
  induction a with
  | nil => intro g h h1 h2; rw [nil_of h1] at h2; exact h2
  | cons f fs ih =>
    intro g n h1 h2
    by_cases hf : f = [35]
    · exact cv_all _ _ hf
    · obtain ⟨x, xs, rfl, hx, hfx, h3⟩ := cv_inv hf h1
      obtain ⟨y, ys, rfl, hy, hxy, h4⟩ := cv_inv hx h2
      rw [cv_cons _ _ _ hf, if_neg hy, if_pos, ih h3 h4]
      rcases hfx with h | h
      · exact .inl h
      · rcases hxy with h5 | h5
        · exact .inl (h.trans h5)
        · exact .inr (h.trans h5)
theorem lev_hash : lev [35] = [[35]] := by decide
theorem lev_hash2 : lev [47, 35] = [[], [35]] := by decide
theorem levC_hash : levC [35] = [[43], [35]] := by decide
theorem levC_hash2 : levC [47, 35] = [[], [43], [35]] := by decide
theorem mt_levC {b n : List UInt8} (hn : n ≠ []) (h : mt (lev b) (lev n) = true) : mt (levC b) (lev n) = true := by
  by_cases h1 : b = [35]
  · subst h1
    obtain ⟨y, ys, e⟩ := lev_ne n
    rw [levC_hash, e, mt_cons _ _ _ (by decide), if_pos (.inl rfl), mt_all _ _ rfl]
  · by_cases h2 : b = [47, 35]
    · subst h2
      rw [lev_hash2] at h
      obtain ⟨y, ys, e, hy, h3⟩ := mt_inv (by decide) h
      have hy : y = [] := by
        rcases hy with h4 | h4
        · exact absurd h4 (by decide)
        · exact h4.symm
      subst hy
      rcases ys with _ | ⟨z, zs⟩
      · exact absurd (by rw [← unlev_lev n, e]; rfl) hn
      · rw [levC_hash2, e, mt_cons _ _ _ (by decide), if_pos (.inr rfl), mt_cons _ _ _ (by decide), if_pos (.inl rfl), mt_all _ _ rfl]
    · rw [levC_no (fun h3 => h3.elim h1 h2)]; exact h
theorem bad_hash {r : List (List UInt8)} (h : badL true ([35] :: r) = false) : r = [] := by
  simp only [badL, Bool.or_eq_false_iff] at h
  have h1 := h.1
  have hw : wild [35] = true := by decide
  rw [hw] at h1
  simpa using h1
/-- The first levels that are covered. -/
theorem levC_head {c : List UInt8} (hc : chkT c true = 0) : ∃ x r, levC c = x :: r ∧ ¬ x = [35] ∧ (x = [] → ∃ y r', r = y :: r' ∧ ¬ y = [35]) := by
  by_cases h1 : c = [35]
  · subst h1; exact ⟨[43], [[35]], levC_hash, by decide, fun h => absurd h (by decide)⟩
  · by_cases h2 : c = [47, 35]
    · subst h2; exact ⟨[], [[43], [35]], levC_hash2, by decide, fun _ => ⟨[43], [[35]], rfl, by decide⟩⟩
    · rw [levC_no (fun h3 => h3.elim h1 h2)]
      obtain ⟨hne, -, -, hb⟩ := chkT_ok.1 hc
      obtain ⟨x, r, e⟩ := lev_ne c
      have hu := unlev_lev c
      rw [e] at hb hu
      refine ⟨x, r, e, fun h => ?_, fun h => ?_⟩
      · subst h
        rw [bad_hash hb] at hu
        exact h1 hu.symm
      · subst h
        rcases r with _ | ⟨y, r'⟩
        · exact absurd hu.symm hne
        · refine ⟨y, r', rfl, fun h => ?_⟩
          subst h
          have : badL true ([35] :: r') = false := by simp only [badL, Bool.or_eq_false_iff] at hb ⊢; exact hb.2
          rw [bad_hash this] at hu
          exact h2 hu.symm
theorem cv_levC {b c : List UInt8} (hc : chkT c true = 0) (h : cv (lev b) (levC c) = true) : cv (levC b) (levC c) = true := by
  obtain ⟨x, r, e, hx, hr⟩ := levC_head hc
  rw [e] at h ⊢
  by_cases h1 : b = [35]
  · subst h1
    rw [levC_hash, cv_cons _ _ _ (by decide), if_neg hx, if_pos (.inl rfl), cv_all _ _ rfl]
  · by_cases h2 : b = [47, 35]
    · subst h2
      rw [lev_hash2] at h
      obtain ⟨x', xs, e1, h3, h4, h5⟩ := cv_inv (by decide) h
      simp only [List.cons.injEq] at e1
      obtain ⟨rfl, rfl⟩ := e1
      have hx0 : x = [] := by
        rcases h4 with h4 | h4
        · exact absurd h4 (by decide)
        · exact h4.symm
      obtain ⟨y, r', rfl, hy⟩ := hr hx0
      rw [levC_hash2, cv_cons _ _ _ (by decide), if_neg hx, if_pos (.inr hx0.symm), cv_cons _ _ _ (by decide), if_neg hy, if_pos (.inl rfl), cv_all _ _ rfl]
    · rw [levC_no (fun h3 => h3.elim h1 h2)]; exact h
theorem cv_self {a : List UInt8} : cv (lev a) (levC a) = true := by
  by_cases h1 : a = [35]
  · subst h1; decide
  · by_cases h2 : a = [47, 35]
    · subst h2; decide
    · rw [levC_no (fun h3 => h3.elim h1 h2)]; exact cv_refl _

set_option maxHeartbeats 1000000 in
theorem c_TopicCovers (w : World) (a b c n : List UInt8) (ha : a.length < 4294967281) (hb : b.length < 4294967281) (hc : c.length < 4294967281) (hn : n.length < 4294967281) :
    Calls Tryd.prog 5 #[.string ⟨a.toArray⟩, .string ⟨b.toArray⟩, .string ⟨c.toArray⟩, .string ⟨n.toArray⟩] w fun e w' => e = .returned (.bool true) ∧ Mod [] w w' := by
  refine as_called (run_plain2 (ρ := [.s a, .s b, .s c, .s n]) sxE_ok Tryd.func5 tree_dragomanlaw_TopicCovers rfl rfl rfl ?_) rfl
  simp only [Tree.goal, X.P, X.ev, V.toI_i, V.toB_b, V.toS_s, V.toR_r, V.toV_v, V.toN_n, V.toL_l, SV.ev, CV.ev, Sc.ev, List.getD_cons_zero, List.getD_cons_succ, List.getElem?_cons_zero, List.getElem?_cons_succ, List.map_cons, List.map_nil, List.length_cons, List.length_nil, List.cons_append, List.nil_append, Nat.zero_add, Nat.reduceAdd]
  refine ⟨[.b true], rfl, fun _ w' _ => c_topicBegun w', ?_⟩
  simp only [Tree.goal, X.P, X.ev, V.toI_i, V.toB_b, V.toS_s, V.toR_r, V.toV_v, V.toN_n, V.toL_l, SV.ev, CV.ev, Sc.ev, List.getD_cons_zero, List.getD_cons_succ, List.getElem?_cons_zero, List.getElem?_cons_succ, List.map_cons, List.map_nil, List.length_cons, List.length_nil, List.cons_append, List.nil_append, Nat.zero_add, Nat.reduceAdd]
  refine ⟨fun h => absurd trivial h, fun _ => ?_⟩
  refine ⟨bB (covR a b), rfl, fun _ w' _ => c_Covers w' _ _ ha hb, ?_⟩
  simp only [Tree.goal, X.P, X.ev, V.toI_i, V.toB_b, V.toS_s, V.toR_r, V.toV_v, V.toN_n, V.toL_l, SV.ev, CV.ev, Sc.ev, List.getD_cons_zero, List.getD_cons_succ, List.getElem?_cons_zero, List.getElem?_cons_succ, List.map_cons, List.map_nil, List.length_cons, List.length_nil, List.cons_append, List.nil_append, Nat.zero_add, Nat.reduceAdd, bB]
  by_cases h1 : chkT a true = 0
  case neg =>
    have e : covR a b = (false, chkT a true) := by rw [covR, if_neg h1]
    rw [e]
    exact ⟨fun _ w' hr => ⟨by simp, hr.mod⟩, fun h => absurd h1 h⟩
  by_cases h2 : chkT b true = 0
  case neg =>
    have e : covR a b = (false, chkT b true) := by rw [covR, if_pos h1, if_neg h2]
    rw [e]
    exact ⟨fun _ w' hr => ⟨by simp, hr.mod⟩, fun h => absurd h2 h⟩
  have e1 : covR a b = (cv (lev a) (levC b), 0) := by rw [covR, if_pos h1, if_pos h2]
  have e2 : covR a a = (true, 0) := by rw [covR, if_pos h1, if_pos h1, cv_self]
  rw [e1]
  simp only
  refine ⟨fun h => absurd trivial h, fun _ => ?_⟩
  refine ⟨bB (covR a a), rfl, fun _ w' _ => c_Covers w' _ _ ha ha, ?_⟩
  simp only [Tree.goal, X.P, X.ev, V.toI_i, V.toB_b, V.toS_s, V.toR_r, V.toV_v, V.toN_n, V.toL_l, SV.ev, CV.ev, Sc.ev, List.getD_cons_zero, List.getD_cons_succ, List.getElem?_cons_zero, List.getElem?_cons_succ, List.map_cons, List.map_nil, List.length_cons, List.length_nil, List.cons_append, List.nil_append, Nat.zero_add, Nat.reduceAdd, bB, e2]
  refine ⟨fun h => ?_, fun _ => ?_⟩
  · rcases h with h | h
    · exact absurd trivial h
    · exact absurd trivial h
  refine ⟨bB (matR a n), rfl, fun _ w' _ => c_Match w' _ _ ha hn, ?_⟩
  simp only [Tree.goal, X.P, X.ev, V.toI_i, V.toB_b, V.toS_s, V.toR_r, V.toV_v, V.toN_n, V.toL_l, SV.ev, CV.ev, Sc.ev, List.getD_cons_zero, List.getD_cons_succ, List.getElem?_cons_zero, List.getElem?_cons_succ, List.map_cons, List.map_nil, List.length_cons, List.length_nil, List.cons_append, List.nil_append, Nat.zero_add, Nat.reduceAdd, bB]
  refine ⟨bB (matR b n), rfl, fun _ w' _ => c_Match w' _ _ hb hn, ?_⟩
  simp only [Tree.goal, X.P, X.ev, V.toI_i, V.toB_b, V.toS_s, V.toR_r, V.toV_v, V.toN_n, V.toL_l, SV.ev, CV.ev, Sc.ev, List.getD_cons_zero, List.getD_cons_succ, List.getElem?_cons_zero, List.getElem?_cons_succ, List.map_cons, List.map_nil, List.length_cons, List.length_nil, List.cons_append, List.nil_append, Nat.zero_add, Nat.reduceAdd, bB]
  have em : ((matR a n).2 = (matR b n).2) ∧ ¬ ((cv (lev a) (levC b) = true ∧ (matR b n).1 = true) ∧ ¬ (matR a n).1 = true) := by
    simp only [matR, if_pos h1, if_pos h2]
    by_cases h3 : chkT n false = 0
    · rw [if_pos h3, if_pos h3]
      refine ⟨rfl, fun h => h.2 (cv_mt h.1.1 (mt_levC (chkT_ok.1 h3).1 h.1.2))⟩
    · rw [if_neg h3, if_neg h3]
      exact ⟨rfl, fun h => absurd h.1.2 (by simp)⟩
  refine ⟨fun h => ?_, fun _ => ?_⟩
  · rcases h with h | h
    · exact absurd em.1 h
    · exact absurd h em.2
  refine ⟨bB (covR b c), rfl, fun _ w' _ => c_Covers w' _ _ hb hc, ?_⟩
  simp only [Tree.goal, X.P, X.ev, V.toI_i, V.toB_b, V.toS_s, V.toR_r, V.toV_v, V.toN_n, V.toL_l, SV.ev, CV.ev, Sc.ev, List.getD_cons_zero, List.getD_cons_succ, List.getElem?_cons_zero, List.getElem?_cons_succ, List.map_cons, List.map_nil, List.length_cons, List.length_nil, List.cons_append, List.nil_append, Nat.zero_add, Nat.reduceAdd, bB]
  refine ⟨bB (covR a c), rfl, fun _ w' _ => c_Covers w' _ _ ha hc, ?_⟩
  simp only [Tree.goal, X.P, X.ev, V.toI_i, V.toB_b, V.toS_s, V.toR_r, V.toV_v, V.toN_n, V.toL_l, SV.ev, CV.ev, Sc.ev, List.getD_cons_zero, List.getD_cons_succ, List.getElem?_cons_zero, List.getElem?_cons_succ, List.map_cons, List.map_nil, List.length_cons, List.length_nil, List.cons_append, List.nil_append, Nat.zero_add, Nat.reduceAdd, bB]
  refine fun w' hr => ⟨?_, hr.mod⟩
  simp only [covR, if_pos h1, if_pos h2]
  by_cases h3 : chkT c true = 0
  · rw [if_pos h3, if_pos h3]
    simp only [decide_true, Bool.true_and, Ending.returned.injEq, Value.bool.injEq]
    cases q1 : cv (lev a) (levC b)
    · rfl
    · cases q2 : cv (lev b) (levC c)
      · rfl
      · rw [cv_trans q1 (cv_levC h3 q2)]; rfl
  · rw [if_neg h3, if_neg h3]; simp
end Go.Proofs.YtkalmhdckoocbaaDoor
