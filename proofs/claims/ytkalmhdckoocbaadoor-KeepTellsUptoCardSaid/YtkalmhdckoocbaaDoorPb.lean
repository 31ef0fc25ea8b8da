/-
  What is kept: its form; where a topic stands. By an AI agent.
-/
import Derived.Test.YtkalmhdckoocbaaDoorPa
set_option linter.unusedSimpArgs false
set_option linter.unusedVariables false
namespace Go.Proofs.YtkalmhdckoocbaaDoor
open Go.Sx

/-- What is kept: topic, payload, version. -/
abbrev Kp := List UInt8 × List UInt8 × Int
def encK (k : Kp) : List Value := [.string ⟨k.1.toArray⟩, .string ⟨k.2.1.toArray⟩, .int .i64 k.2.2]
abbrev kD : Kp := ([], [], 0)
abbrev kK : List Kd := [.str, .str, .int .i64]
theorem gK0 (l : List Kp) (i : Nat) : Value.gS (((l.map encK).getD i []).getD 0 undef) = (l.getD i kD).1 := by
  simp only [List.getD_eq_getElem?_getD, List.getElem?_map]
  cases l[i]? <;> simp [encK, Value.gS, undef]
theorem gK1 (l : List Kp) (i : Nat) : Value.gS (((l.map encK).getD i []).getD 1 undef) = (l.getD i kD).2.1 := by
  simp only [List.getD_eq_getElem?_getD, List.getElem?_map]
  cases l[i]? <;> simp [encK, Value.gS, undef]
theorem gK2 (l : List Kp) (i : Nat) : Value.gI (((l.map encK).getD i []).getD 2 undef) = (l.getD i kD).2.2 := by
  simp only [List.getD_eq_getElem?_getD, List.getElem?_map]
  cases l[i]? <;> rfl
abbrev readsK (w : World) (v : Value) (l : List Kp) : Prop := reads w v kK (l.map encK)
abbrev ownsK (w : World) (v : Value) (l : List Kp) : Prop := owns w v 79 kK (l.map encK)
theorem dropK (l : List Kp) (i : Nat) (h : i < l.length) : l.drop i = l.getD i kD :: l.drop (i + 1) := by
  rw [List.drop_eq_getElem_cons h, List.getD_eq_getElem?_getD, List.getElem?_eq_getElem h]; rfl
theorem takeK (l : List Kp) (i : Nat) (h : i < l.length) : l.take (i + 1) = l.take i ++ [l.getD i kD] := by
  rw [List.take_add_one, List.getD_eq_getElem?_getD, List.getElem?_eq_getElem h]; rfl
def smallK (l : List Kp) : Prop := ∀ x ∈ l, x.1.length < 4294967281
theorem smallK_at {l : List Kp} (h : smallK l) (i : Nat) : (l.getD i kD).1.length < 4294967281 := by
  by_cases hi : i < l.length
  · rw [List.getD_eq_getElem?_getD, List.getElem?_eq_getElem hi]; exact h _ (List.getElem_mem hi)
  · rw [List.getD_eq_getElem?_getD, List.getElem?_eq_none (by omega)]; decide

/-- What is wrong with what is kept behind a topic. -/
def chkKr : Option (List UInt8) → List Kp → Int
  | _, [] => 0
  | p, k :: l => if chkT k.1 false ≠ 0 then chkT k.1 false else if k.2.1 = [] then 1 else if 200 < (k.2.1.length : Int) then 2 else if k.2.2 < 1 ∨ 16777215 < k.2.2 then 3
    else if (p.any fun t => !(ltB t k.1)) = true then 4 else chkKr (some k.1) l
def chkK (l : List Kp) : Int := if 16 < (l.length : Int) then 2 else chkKr none l
def prevK (l : List Kp) (i : Nat) : Option (List UInt8) := if i = 0 then none else some (l.getD (i - 1) kD).1
theorem prevK_any (l : List Kp) (i : Nat) : ((prevK l i).any fun t => !(ltB t (l.getD i kD).1)) = true ↔ (0 < (i : Int) ∧ (ltB (l.getD i kD).1 (l.getD (i - 1) kD).1 = true ∨ (l.getD i kD).1 = (l.getD (i - 1) kD).1)) := by
  unfold prevK
  by_cases h : i = 0
  · simp [h]
  · rw [if_neg h]
    simp only [Option.any_some, Bool.not_eq_true']
    rw [ltB_not]
    exact ⟨fun h2 => ⟨by omega, h2⟩, fun h2 => h2.2⟩
theorem chkKr_step {l : List Kp} {i : Nat} (h : i < l.length) : chkKr (prevK l i) (l.drop i) = if chkT (l.getD i kD).1 false ≠ 0 then chkT (l.getD i kD).1 false else if (l.getD i kD).2.1 = [] then 1 else if 200 < ((l.getD i kD).2.1.length : Int) then 2 else if (l.getD i kD).2.2 < 1 ∨ 16777215 < (l.getD i kD).2.2 then 3
    else if 0 < (i : Int) ∧ (ltB (l.getD i kD).1 (l.getD (i - 1) kD).1 = true ∨ (l.getD i kD).1 = (l.getD (i - 1) kD).1) then 4 else chkKr (prevK l (i + 1)) (l.drop (i + 1)) := by
  rw [dropK l i h, chkKr]
  simp only [prevK_any]
  rfl
set_option maxHeartbeats 1000000 in
theorem c_CheckK (w : World) (v : Value) (l : List Kp) (hv : readsK w v l) (hs : smallK l) (hl : l.length < 1000000000) : Calls Tryd.prog 58 #[sc1 v] w
    fun e w' => e = .returned (.int .i64 (chkK l)) ∧ Mod [] w w' := by
  refine as_called (run_tree2 (ρ := [.v v, .r (l.map encK)]) sxE_ok Tryd.func58 tree_keep_Check rfl rfl (Rel.start2 (by simp [Ent.holds, Ent.wr, hv, X.ev])) rfl rfl ?_) rfl
  simp only [Tree.goal, X.P, X.ev, V.toI_i, V.toB_b, V.toS_s, V.toR_r, V.toV_v, V.toN_n, V.toL_l, SV.ev, CV.ev, Sc.ev, List.getD_cons_zero, List.getD_cons_succ, List.getElem?_cons_zero, List.getElem?_cons_succ, List.map_cons, List.map_nil, List.length_cons, List.length_nil, List.cons_append, List.nil_append, Nat.zero_add, Nat.reduceAdd, List.length_map, Int.toNat_natCast, gK0, gK1, gK2]
  refine ⟨fun h w' hr => ⟨by rw [chkK, if_pos h], hr.mod⟩, fun h => ?_⟩
  rw [chkK, if_neg h]
  refine ⟨fun vs => ∃ (i : Nat) (x : V), vs = [x, .i i] ∧ i ≤ l.length ∧ chkKr (prevK l i) (l.drop i) = chkKr none l, fun vs => l.length - (vs.getD 1 (.i 0)).toI.toNat, ⟨0, _, rfl, by omega, rfl⟩, ?_⟩
  rintro _ - ⟨i, x, rfl, hi, hg⟩
  simp only [Tree.goal, X.P, X.ev, V.toI_i, V.toB_b, V.toS_s, V.toR_r, V.toV_v, V.toN_n, V.toL_l, SV.ev, CV.ev, Sc.ev, List.getD_cons_zero, List.getD_cons_succ, List.getElem?_cons_zero, List.getElem?_cons_succ, List.map_cons, List.map_nil, List.length_cons, List.length_nil, List.cons_append, List.nil_append, Nat.zero_add, Nat.reduceAdd, List.length_map, Int.toNat_natCast, gK0, gK1, gK2]
  have hi1 : ((i : Int) - 1).toNat = i - 1 := by omega
  try rw [hi1]
  refine ⟨fun h1 => ⟨by omega, fun b => ?_⟩, fun h1 w' hr => ⟨?_, hr.mod⟩⟩
  · rw [chkKr_step (by omega)] at hg
    refine ⟨[.i (chkT (l.getD i kD).1 false)], rfl, fun _ w' _ => c_Name w' _ (smallK_at hs i), ?_⟩
    simp only [Tree.goal, X.P, X.ev, V.toI_i, V.toB_b, V.toS_s, V.toR_r, V.toV_v, V.toN_n, V.toL_l, SV.ev, CV.ev, Sc.ev, List.getD_cons_zero, List.getD_cons_succ, List.getElem?_cons_zero, List.getElem?_cons_succ, List.map_cons, List.map_nil, List.length_cons, List.length_nil, List.cons_append, List.nil_append, Nat.zero_add, Nat.reduceAdd, List.length_map, Int.toNat_natCast, gK0, gK1, gK2]
    try rw [hi1]
    refine ⟨fun h2 w' hr => ⟨?_, hr.mod⟩, fun h2 => ⟨fun h3 w' hr => ⟨?_, hr.mod⟩, fun h3 => ⟨fun h4 w' hr => ⟨?_, hr.mod⟩, fun h4 => ⟨fun h5 w' hr => ⟨?_, hr.mod⟩, fun h5 => ⟨by omega, by omega, by omega, by omega, fun h6 w' hr => ⟨?_, hr.mod⟩, fun h6 => ⟨by omega, by omega, ⟨i + 1, x, rfl, by omega, ?_⟩, by omega⟩⟩⟩⟩⟩⟩
    · rw [if_pos h2] at hg; rw [← hg]
    · rw [if_neg h2, if_pos h3] at hg; rw [← hg]
    · rw [if_neg h2, if_neg h3, if_pos h4] at hg; rw [← hg]
    · rw [if_neg h2, if_neg h3, if_neg h4, if_pos h5] at hg; rw [← hg]
    · rw [if_neg h2, if_neg h3, if_neg h4, if_neg h5, if_pos h6] at hg; rw [← hg]
    · rw [if_neg h2, if_neg h3, if_neg h4, if_neg h5, if_neg h6] at hg; exact hg
  · have : i = l.length := by omega
    subst this
    rw [List.drop_length] at hg
    rw [← hg]; rfl
set_option maxHeartbeats 1000000 in
theorem c_CheckKept (w : World) (v : Value) (l : List Kp) (hv : readsK w v l) (hs : smallK l) (hl : l.length < 1000000000) : Calls Tryd.prog 53 #[sc1 v] w
    fun e w' => e = .returned (.int .i64 (chkK l)) ∧ Mod [] w w' := by
  refine as_called (run_tree2 (ρ := [.v v, .r (l.map encK)]) sxE_ok Tryd.func53 tree_dragomanref_CheckKept rfl rfl (Rel.start2 (by simp [Ent.holds, Ent.wr, hv, X.ev])) rfl rfl ?_) rfl
  simp only [Tree.goal, X.P, X.ev, V.toI_i, V.toB_b, V.toS_s, V.toR_r, V.toV_v, V.toN_n, V.toL_l, SV.ev, CV.ev, Sc.ev, List.getD_cons_zero, List.getD_cons_succ, List.getElem?_cons_zero, List.getElem?_cons_succ, List.map_cons, List.map_nil, List.length_cons, List.length_nil, List.cons_append, List.nil_append, Nat.zero_add, Nat.reduceAdd, List.length_map, Int.toNat_natCast, gK0, gK1, gK2]
  refine ⟨fun h w' hr => ⟨by rw [chkK, if_pos h], hr.mod⟩, fun h => ?_⟩
  rw [chkK, if_neg h]
  refine ⟨fun vs => ∃ (i : Nat) (x : V), vs = [x, .i i] ∧ i ≤ l.length ∧ chkKr (prevK l i) (l.drop i) = chkKr none l, fun vs => l.length - (vs.getD 1 (.i 0)).toI.toNat, ⟨0, _, rfl, by omega, rfl⟩, ?_⟩
  rintro _ - ⟨i, x, rfl, hi, hg⟩
  simp only [Tree.goal, X.P, X.ev, V.toI_i, V.toB_b, V.toS_s, V.toR_r, V.toV_v, V.toN_n, V.toL_l, SV.ev, CV.ev, Sc.ev, List.getD_cons_zero, List.getD_cons_succ, List.getElem?_cons_zero, List.getElem?_cons_succ, List.map_cons, List.map_nil, List.length_cons, List.length_nil, List.cons_append, List.nil_append, Nat.zero_add, Nat.reduceAdd, List.length_map, Int.toNat_natCast, gK0, gK1, gK2]
  have hi1 : ((i : Int) - 1).toNat = i - 1 := by omega
  try rw [hi1]
  refine ⟨fun h1 => ⟨by omega, ?_⟩, fun h1 w' hr => ⟨?_, hr.mod⟩⟩
  · rw [chkKr_step (by omega)] at hg
    refine ⟨[.i (chkT (l.getD i kD).1 false)], rfl, fun _ w' _ => c_CheckTopic w' _ false (smallK_at hs i), ?_⟩
    simp only [Tree.goal, X.P, X.ev, V.toI_i, V.toB_b, V.toS_s, V.toR_r, V.toV_v, V.toN_n, V.toL_l, SV.ev, CV.ev, Sc.ev, List.getD_cons_zero, List.getD_cons_succ, List.getElem?_cons_zero, List.getElem?_cons_succ, List.map_cons, List.map_nil, List.length_cons, List.length_nil, List.cons_append, List.nil_append, Nat.zero_add, Nat.reduceAdd, List.length_map, Int.toNat_natCast, gK0, gK1, gK2]
    try rw [hi1]
    refine ⟨fun h2 w' hr => ⟨?_, hr.mod⟩, fun h2 => ⟨fun h3 w' hr => ⟨?_, hr.mod⟩, fun h3 => ⟨fun h4 w' hr => ⟨?_, hr.mod⟩, fun h4 => ⟨fun h5 w' hr => ⟨?_, hr.mod⟩, fun h5 => ⟨by omega, by omega, by omega, by omega, ?_⟩⟩⟩⟩⟩
    · rw [if_pos h2] at hg; rw [← hg]
    · rw [if_neg h2, if_pos h3] at hg; rw [← hg]
    · rw [if_neg h2, if_neg h3, if_pos h4] at hg; rw [← hg]
    · rw [if_neg h2, if_neg h3, if_neg h4, if_pos (by omega)] at hg; rw [← hg]
    · rw [if_neg h2, if_neg h3, if_neg h4, if_neg (by omega)] at hg
      refine ⟨[.b (ltB (l.getD (i - 1) kD).1 (l.getD i kD).1)], rfl, fun _ w' _ => c_textLess w' _ _ (Nat.lt_trans (smallK_at hs (i - 1)) (by decide)), ?_⟩
      simp only [Tree.goal, X.P, X.ev, V.toI_i, V.toB_b, V.toS_s, V.toR_r, V.toV_v, V.toN_n, V.toL_l, SV.ev, CV.ev, Sc.ev, List.getD_cons_zero, List.getD_cons_succ, List.getElem?_cons_zero, List.getElem?_cons_succ, List.map_cons, List.map_nil, List.length_cons, List.length_nil, List.cons_append, List.nil_append, Nat.zero_add, Nat.reduceAdd, List.length_map, Int.toNat_natCast, gK0, gK1, gK2]
      refine ⟨fun h6 w' hr => ⟨?_, hr.mod⟩, fun h6 => ⟨by omega, by omega, ⟨i + 1, x, rfl, by omega, ?_⟩, by omega⟩⟩
      · rw [if_pos ⟨h6.1, ltB_not.1 (by simpa using h6.2)⟩] at hg; rw [← hg]
      · rw [if_neg (fun h7 => h6 ⟨h7.1, by simpa using ltB_not.2 h7.2⟩)] at hg; exact hg
  · have : i = l.length := by omega
    subst this
    rw [List.drop_length] at hg
    rw [← hg]; rfl

/-- One that is kept is right. -/
def okK (k : Kp) : Prop := chkT k.1 false = 0 ∧ k.2.1 ≠ [] ∧ ¬ 200 < (k.2.1.length : Int) ∧ 1 ≤ k.2.2 ∧ k.2.2 ≤ 16777215
def sortK (l : List Kp) : Prop := l.Pairwise fun a b => ltB a.1 b.1 = true
theorem chkKr_iff : ∀ (l : List Kp) (p : Option (List UInt8)), chkKr p l = 0 ↔ (∀ k ∈ l, okK k) ∧ sortK l ∧ ∀ t, p = some t → ∀ k ∈ l, ltB t k.1 = true
  | [], p => by simp [chkKr, sortK]
  | k :: l, p => by
    rw [chkKr]
    constructor
    · intro h
      split at h
      · exact absurd h (by assumption)
      rename_i h1
      split at h
      · exact absurd h (by decide)
      rename_i h2
      split at h
      · exact absurd h (by decide)
      rename_i h3
      split at h
      · exact absurd h (by decide)
      rename_i h4
      split at h
      · exact absurd h (by decide)
      rename_i h5
      obtain ⟨i1, i2, i3⟩ := (chkKr_iff l (some k.1)).1 h
      refine ⟨fun x hx => ?_, List.pairwise_cons.2 ⟨fun x hx => i3 _ rfl x hx, i2⟩, fun t ht x hx => ?_⟩
      · rcases List.mem_cons.1 hx with rfl | hx
        · exact ⟨Classical.not_not.1 h1, h2, h3, by omega, by omega⟩
        · exact i1 x hx
      · subst ht
        have h6 : ltB t k.1 = true := by simpa using h5
        rcases List.mem_cons.1 hx with rfl | hx
        · exact h6
        · exact ltB_trans h6 (i3 _ rfl x hx)
    · rintro ⟨i1, i2, i3⟩
      obtain ⟨j1, j2⟩ := List.pairwise_cons.1 i2
      obtain ⟨o1, o2, o3, o4, o5⟩ := i1 k (List.mem_cons_self ..)
      rw [if_neg (by simpa using o1), if_neg o2, if_neg o3, if_neg (by omega), if_neg]
      · exact (chkKr_iff l (some k.1)).2 ⟨fun x hx => i1 x (List.mem_cons_of_mem _ hx), j2, fun t ht x hx => by cases ht; exact j1 x hx⟩
      · cases p with
        | none => simp
        | some t => simpa using i3 t rfl k (List.mem_cons_self ..)
theorem chkK_iff {l : List Kp} : chkK l = 0 ↔ l.length ≤ 16 ∧ (∀ k ∈ l, okK k) ∧ sortK l := by
  unfold chkK
  constructor
  · intro h
    split at h
    · exact absurd h (by decide)
    · obtain ⟨a, b, -⟩ := (chkKr_iff l none).1 h
      exact ⟨by omega, a, b⟩
  · rintro ⟨a, b, c⟩
    rw [if_neg (by omega)]
    exact (chkKr_iff l none).2 ⟨b, c, fun t ht => by cases ht⟩
theorem sortK_at {l : List Kp} (h : sortK l) {i j : Nat} (hij : i < j) (hj : j < l.length) : ltB (l.getD i kD).1 (l.getD j kD).1 = true := by
  rw [sortK, List.pairwise_iff_getElem] at h
  have := h i j (by omega) hj hij
  simpa [List.getD_eq_getElem?_getD, List.getElem?_eq_getElem hj, List.getElem?_eq_getElem (Nat.lt_trans hij hj)] using this

/-- A topic's place. -/
def idx (l : List Kp) (n : List UInt8) : Nat := (l.filter fun k => ltB k.1 n).length
theorem idx_uniq {l : List Kp} {n : List UInt8} {i : Nat} (hi : i ≤ l.length) (h1 : ∀ j, j < i → ltB (l.getD j kD).1 n = true) (h2 : ∀ j, i ≤ j → j < l.length → ltB (l.getD j kD).1 n = false) : i = idx l n := by
  have e : l = l.take i ++ l.drop i := (List.take_append_drop i l).symm
  have f1 : (l.take i).filter (fun k => ltB k.1 n) = l.take i := by
    rw [List.filter_eq_self]
    intro x hx
    obtain ⟨j, hj, rfl⟩ := List.mem_iff_getElem.1 hx
    have hj' : j < i := by simp at hj; omega
    have := h1 j hj'
    rw [List.getElem_take]
    simpa [List.getD_eq_getElem?_getD, List.getElem?_eq_getElem (show j < l.length by omega)] using this
  have f2 : (l.drop i).filter (fun k => ltB k.1 n) = [] := by
    rw [List.filter_eq_nil_iff]
    intro x hx
    obtain ⟨j, hj, rfl⟩ := List.mem_iff_getElem.1 hx
    have hj' : i + j < l.length := by simp at hj; omega
    have := h2 (i + j) (by omega) hj'
    rw [List.getElem_drop]
    simpa [List.getD_eq_getElem?_getD, List.getElem?_eq_getElem hj'] using this
  rw [idx, e, List.filter_append, f1, f2]
  simp; omega
def hasK (l : List Kp) (n : List UInt8) : Bool := decide (idx l n < l.length ∧ (l.getD (idx l n) kD).1 = n)
theorem half (i j : Nat) (h : i + j < 4000000000) : Int.fdiv (IntKind.u64.wrap ((i : Int) + j)) (2 ^ (Nat.min (Int.toNat 1) IntKind.u64.bits)) = (((i + j) / 2 : Nat) : Int) := by
  have e : (2 : Int) ^ (Nat.min (Int.toNat 1) IntKind.u64.bits) = 2 := by decide
  rw [e, IntKind.wrap_u64, Int.emod_eq_of_lt (by omega) (by omega), Int.fdiv_eq_ediv_of_nonneg _ (by decide)]
  omega
set_option maxHeartbeats 1000000 in
theorem c_Find (w : World) (v : Value) (l : List Kp) (n : List UInt8) (hv : readsK w v l) (hs : sortK l) (hl : l.length < 1000000000) : Calls Tryd.prog 95 #[sc1 v, .string ⟨n.toArray⟩] w
    fun e w' => e = .returned (.tuple #[.int .i64 (idx l n), .bool (hasK l n)]) ∧ Mod [] w w' := by
  refine as_called (run_tree2 (ρ := [.v v, .r (l.map encK), .s n]) sxE_ok Tryd.func95 tree_keep_Find rfl rfl (Rel.start2 (by simp [Ent.holds, Ent.wr, hv, X.ev])) rfl rfl ?_) rfl
  simp only [Tree.goal, X.P, X.ev, V.toI_i, V.toB_b, V.toS_s, V.toR_r, V.toV_v, V.toN_n, V.toL_l, SV.ev, CV.ev, Sc.ev, List.getD_cons_zero, List.getD_cons_succ, List.getElem?_cons_zero, List.getElem?_cons_succ, List.map_cons, List.map_nil, List.length_cons, List.length_nil, List.cons_append, List.nil_append, Nat.zero_add, Nat.reduceAdd, List.length_map, Int.toNat_natCast, gK0, gK1, gK2]
  refine ⟨fun vs => ∃ (i j : Nat), vs = [.i i, .i j] ∧ i ≤ j ∧ j ≤ l.length ∧ (∀ k, k < i → ltB (l.getD k kD).1 n = true) ∧ (∀ k, j ≤ k → k < l.length → ltB (l.getD k kD).1 n = false), fun vs => (vs.getD 1 (.i 0)).toI.toNat - (vs.getD 0 (.i 0)).toI.toNat, ⟨0, l.length, rfl, by omega, by omega, fun k hk => by omega, fun k h1 h2 => by omega⟩, ?_⟩
  rintro _ - ⟨i, j, rfl, hij, hj, hA, hB⟩
  simp only [Tree.goal, X.P, X.ev, V.toI_i, V.toB_b, V.toS_s, V.toR_r, V.toV_v, V.toN_n, V.toL_l, SV.ev, CV.ev, Sc.ev, List.getD_cons_zero, List.getD_cons_succ, List.getElem?_cons_zero, List.getElem?_cons_succ, List.map_cons, List.map_nil, List.length_cons, List.length_nil, List.cons_append, List.nil_append, Nat.zero_add, Nat.reduceAdd, List.length_map, Int.toNat_natCast, gK0, gK1, gK2]
  refine ⟨fun h1 => ?_, fun h1 => ?_⟩
  · rw [half i j (by omega)]
    obtain ⟨h, hh⟩ : ∃ h, h = (i + j) / 2 := ⟨_, rfl⟩
    rw [← hh]
    have hh1 : i ≤ h ∧ h < j := by omega
    simp only [Int.toNat_natCast, gK0]
    refine ⟨by omega, by omega, by omega, by omega, by omega, by omega, fun b => ?_⟩
    refine ⟨[.i (cmpB (l.getD h kD).1 n)], rfl, fun _ w' _ => c_Compare w' _ _, ?_⟩
    simp only [Tree.goal, X.P, X.ev, V.toI_i, V.toB_b, V.toS_s, V.toR_r, V.toV_v, V.toN_n, V.toL_l, SV.ev, CV.ev, Sc.ev, List.getD_cons_zero, List.getD_cons_succ, List.getElem?_cons_zero, List.getElem?_cons_succ, List.map_cons, List.map_nil, List.length_cons, List.length_nil, List.cons_append, List.nil_append, Nat.zero_add, Nat.reduceAdd, List.length_map, Int.toNat_natCast, gK0, gK1, gK2]
    rw [cmpB_lt]
    refine ⟨fun h2 => ⟨by omega, by omega, ⟨h + 1, j, rfl, by omega, hj, fun k hk => ?_, hB⟩, by omega⟩, fun h2 => ⟨⟨i, h, rfl, by omega, by omega, hA, fun k hk1 hk2 => ?_⟩, by omega⟩⟩
    · by_cases hkh : k = h
      · rw [hkh]; exact h2
      · exact ltB_trans (sortK_at hs (i := k) (j := h) (by omega) (by omega)) h2
    · have h3 : ltB (l.getD h kD).1 n = false := by simpa using h2
      by_cases hkh : k = h
      · rw [hkh]; exact h3
      · cases h4 : ltB (l.getD k kD).1 n with
        | false => rfl
        | true =>
          have := ltB_trans (sortK_at hs (i := h) (j := k) (by omega) hk2) h4
          rw [h3] at this; cases this
  · have hie : i = j := by omega
    subst hie
    have e := idx_uniq (i := i) hj hA hB
    refine ⟨fun h2 => ⟨by omega, fun b => ?_⟩, fun h2 w' hr => ⟨?_, hr.mod⟩⟩
    · refine ⟨[.i (cmpB (l.getD i kD).1 n)], rfl, fun _ w' _ => c_Compare w' _ _, ?_⟩
      simp only [Tree.goal, X.P, X.ev, V.toI_i, V.toB_b, V.toS_s, V.toR_r, V.toV_v, V.toN_n, V.toL_l, SV.ev, CV.ev, Sc.ev, List.getD_cons_zero, List.getD_cons_succ, List.getElem?_cons_zero, List.getElem?_cons_succ, List.map_cons, List.map_nil, List.length_cons, List.length_nil, List.cons_append, List.nil_append, Nat.zero_add, Nat.reduceAdd, List.length_map, Int.toNat_natCast, gK0, gK1, gK2]
      intro w' hr
      refine ⟨?_, hr.mod⟩
      rw [hasK, ← e]
      simp only [cmpB_zero]
      congr 4
      simp; intro _; omega
    · rw [hasK, ← e]
      have : ¬ i < l.length := by omega
      simp [this]
end Go.Proofs.YtkalmhdckoocbaaDoor
