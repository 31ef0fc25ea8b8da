/-
  Watches: what is checked of them. By an AI agent.
-/
import Derived.Test.YtkalmhdckoocbaaDoorTc
import Derived.Test.YtkalmhdckoocbaaDoorTreesK
set_option linter.unusedSimpArgs false
set_option linter.unusedVariables false
namespace Go.Proofs.YtkalmhdckoocbaaDoor
open Go.Sx

/-- A watch: its peer, its token, its topic, its number. -/
abbrev Wat := Int × List UInt8 × List UInt8 × Int
def encW (w : Wat) : List Value := [.int .i64 w.1, .string ⟨w.2.1.toArray⟩, .string ⟨w.2.2.1.toArray⟩, .int .i64 w.2.2.2]
abbrev wD : Wat := (0, [], [], 0)
theorem gW0 (l : List Wat) (i : Nat) : Value.gI (((l.map encW).getD i []).getD 0 undef) = (l.getD i wD).1 := by
  simp only [List.getD_eq_getElem?_getD, List.getElem?_map]
  cases l[i]? <;> rfl
theorem gW1 (l : List Wat) (i : Nat) : Value.gS (((l.map encW).getD i []).getD 1 undef) = (l.getD i wD).2.1 := by
  simp only [List.getD_eq_getElem?_getD, List.getElem?_map]
  cases l[i]? <;> simp [encW, Value.gS, undef]
theorem gW2 (l : List Wat) (i : Nat) : Value.gS (((l.map encW).getD i []).getD 2 undef) = (l.getD i wD).2.2.1 := by
  simp only [List.getD_eq_getElem?_getD, List.getElem?_map]
  cases l[i]? <;> simp [encW, Value.gS, undef]
theorem gW3 (l : List Wat) (i : Nat) : Value.gI (((l.map encW).getD i []).getD 3 undef) = (l.getD i wD).2.2.2 := by
  simp only [List.getD_eq_getElem?_getD, List.getElem?_map]
  cases l[i]? <;> rfl
abbrev kW : List Kd := [.int .i64, .str, .str, .int .i64]
abbrev readsW (w : World) (v : Value) (l : List Wat) : Prop := reads w v kW (l.map encW)
def freshW (n : Nat) (v : Value) (l : List Wat) : Prop := ∀ k, (l.map encW).flatten ≠ [] ∧ blockOf v k → n ≤ k
theorem freshW_nil (n : Nat) (v : Value) : freshW n v [] := fun k hk => absurd rfl hk.1
theorem readsW_nil (w : World) : readsW w (.slice none 0 0) [] := ⟨by simp, none, 0, rfl, ⟨fun _ => rfl, Nat.le_refl _⟩, fun h => absurd rfl h⟩
theorem dropW (l : List Wat) (i : Nat) (h : i < l.length) : l.drop i = l.getD i wD :: l.drop (i + 1) := by
  rw [List.drop_eq_getElem_cons h, List.getD_eq_getElem?_getD, List.getElem?_eq_getElem h]; rfl
theorem takeW (l : List Wat) (i : Nat) (h : i < l.length) : l.take (i + 1) = l.take i ++ [l.getD i wD] := by
  rw [List.take_add_one, List.getD_eq_getElem?_getD, List.getElem?_eq_getElem h]; rfl
theorem getTakeW (l : List Wat) {k i : Nat} (h : k < i) : (l.take i).getD k wD = l.getD k wD := by
  simp only [List.getD_eq_getElem?_getD, List.getElem?_take, if_pos h]

/-- What is wrong with a watch of a peer, by a token, of a topic. -/
def oneE (p : Int) (t n : List UInt8) : Int := if 0 ≤ p ∧ p ≤ 9 then (if 8 < (t.length : Int) then 2 else chkT n false) else 3
def sameP (p : Int) (t : List UInt8) (w : Wat) : Bool := decide (w.1 = p ∧ w.2.1 = t)
/-- What is wrong with watches behind others. -/
def chkL : List Wat → List Wat → Int
  | _, [] => 0
  | prev, w :: l => if oneE w.1 w.2.1 w.2.2.1 ≠ 0 then oneE w.1 w.2.1 w.2.2.1 else if 0 ≤ w.2.2.2 ∧ w.2.2.2 ≤ 16777215 then (if prev.any (sameP w.1 w.2.1) = true then 6 else chkL (prev ++ [w]) l) else 3
def chkW (l : List Wat) : Int := if 12 < (l.length : Int) then 2 else chkL [] l

theorem c_one (w : World) (x : Wat) (hn : x.2.2.1.length < 4294967281) : Calls Tryd.prog 68 #[.agg #[.int .i64 x.1, .string ⟨x.2.1.toArray⟩, .string ⟨x.2.2.1.toArray⟩, .int .i64 x.2.2.2]] w
    fun e w' => e = .returned (.int .i64 (oneE x.1 x.2.1 x.2.2.1)) ∧ Mod [] w w' := by
  refine as_called (run_plain2 (ρ := [.i x.1, .s x.2.1, .s x.2.2.1, .i x.2.2.2]) sxE_ok Tryd.func68 tree_watch_one rfl rfl rfl ?_) rfl
  simp only [Tree.goal, X.P, X.ev, V.toI_i, V.toB_b, V.toS_s, V.toR_r, V.toV_v, V.toN_n, V.toL_l, SV.ev, CV.ev, Sc.ev, List.getD_cons_zero, List.getD_cons_succ, List.getElem?_cons_zero, List.getElem?_cons_succ, List.map_cons, List.map_nil, List.length_cons, List.length_nil, List.cons_append, List.nil_append, Nat.zero_add, Nat.reduceAdd]
  intro b
  refine ⟨fun h w' hr => ⟨by rw [oneE, if_neg h], hr.mod⟩, fun h => ⟨fun h1 w' hr => ⟨by rw [oneE, if_pos (Classical.not_not.1 h), if_pos h1], hr.mod⟩, fun h1 => ?_⟩⟩
  refine ⟨[.i (chkT x.2.2.1 false)], rfl, fun _ w' _ => c_Name w' _ hn, ?_⟩
  simp only [Tree.goal, X.P, X.ev, V.toI_i, V.toB_b, V.toS_s, V.toR_r, V.toV_v, V.toN_n, V.toL_l, SV.ev, CV.ev, Sc.ev, List.getD_cons_zero, List.getD_cons_succ, List.getElem?_cons_zero, List.getElem?_cons_succ, List.map_cons, List.map_nil, List.length_cons, List.length_nil, List.cons_append, List.nil_append, Nat.zero_add, Nat.reduceAdd]
  exact fun w' hr => ⟨by rw [oneE, if_pos (Classical.not_not.1 h), if_neg h1], hr.mod⟩
theorem c_CheckWatch (w : World) (p : Int) (t n : List UInt8) (hn : n.length < 4294967281) : Calls Tryd.prog 29 #[.int .i64 p, .string ⟨t.toArray⟩, .string ⟨n.toArray⟩] w
    fun e w' => e = .returned (.int .i64 (oneE p t n)) ∧ Mod [] w w' := by
  refine as_called (run_plain2 (ρ := [.i p, .s t, .s n]) sxE_ok Tryd.func29 tree_dragomanref_CheckWatch rfl rfl rfl ?_) rfl
  simp only [Tree.goal, X.P, X.ev, V.toI_i, V.toB_b, V.toS_s, V.toR_r, V.toV_v, V.toN_n, V.toL_l, SV.ev, CV.ev, Sc.ev, List.getD_cons_zero, List.getD_cons_succ, List.getElem?_cons_zero, List.getElem?_cons_succ, List.map_cons, List.map_nil, List.length_cons, List.length_nil, List.cons_append, List.nil_append, Nat.zero_add, Nat.reduceAdd]
  refine ⟨fun h w' hr => ⟨by rw [oneE, if_neg h], hr.mod⟩, fun h => ⟨fun h1 w' hr => ⟨by rw [oneE, if_pos (Classical.not_not.1 h), if_pos h1], hr.mod⟩, fun h1 => ?_⟩⟩
  refine ⟨[.i (chkT n false)], rfl, fun _ w' _ => c_CheckTopic w' n false hn, ?_⟩
  simp only [Tree.goal, X.P, X.ev, V.toI_i, V.toB_b, V.toS_s, V.toR_r, V.toV_v, V.toN_n, V.toL_l, SV.ev, CV.ev, Sc.ev, List.getD_cons_zero, List.getD_cons_succ, List.getElem?_cons_zero, List.getElem?_cons_succ, List.map_cons, List.map_nil, List.length_cons, List.length_nil, List.cons_append, List.nil_append, Nat.zero_add, Nat.reduceAdd]
  exact fun w' hr => ⟨by rw [oneE, if_pos (Classical.not_not.1 h), if_neg h1], hr.mod⟩

/-- All topics' sizes. -/
def smallW (l : List Wat) : Prop := ∀ x ∈ l, x.2.2.1.length < 4294967281
theorem smallW_at {l : List Wat} (h : smallW l) (i : Nat) : (l.getD i wD).2.2.1.length < 4294967281 := by
  by_cases hi : i < l.length
  · rw [List.getD_eq_getElem?_getD, List.getElem?_eq_getElem hi]; exact h _ (List.getElem_mem hi)
  · rw [List.getD_eq_getElem?_getD, List.getElem?_eq_none (by omega)]; decide
theorem any_snoc (p : Wat → Bool) (l : List Wat) (k : Nat) (h : k < l.length) : (l.take (k + 1)).any p = ((l.take k).any p || p (l.getD k wD)) := by
  rw [takeW l k h, List.any_append]; simp
theorem any_at {p : Wat → Bool} {l : List Wat} {k i : Nat} (hk : k < i) (hi : i ≤ l.length) (h : p (l.getD k wD) = true) : (l.take i).any p = true := by
  rw [List.any_eq_true]
  refine ⟨l.getD k wD, ?_, h⟩
  rw [← getTakeW l hk, List.getD_eq_getElem?_getD, List.getElem?_eq_getElem (by simp; omega)]
  exact List.getElem_mem _

set_option maxHeartbeats 1000000 in
theorem c_CheckWatches (w : World) (v : Value) (l : List Wat) (hv : readsW w v l) (hs : smallW l) (hl : l.length < 1099511627776) : Calls Tryd.prog 28 #[sc1 v] w
    fun e w' => e = .returned (.int .i64 (chkW l)) ∧ Mod [] w w' := by
  refine as_called (run_tree2 (ρ := [.v v, .r (l.map encW)]) sxE_ok Tryd.func28 tree_dragomanref_CheckWatches rfl rfl (Rel.start2 (by simp [Ent.holds, Ent.wr, hv, X.ev])) rfl rfl ?_) rfl
  simp only [Tree.goal, X.P, X.ev, V.toI_i, V.toB_b, V.toS_s, V.toR_r, V.toV_v, V.toN_n, V.toL_l, SV.ev, CV.ev, Sc.ev, List.getD_cons_zero, List.getD_cons_succ, List.getElem?_cons_zero, List.getElem?_cons_succ, List.map_cons, List.map_nil, List.length_cons, List.length_nil, List.cons_append, List.nil_append, Nat.zero_add, Nat.reduceAdd, List.length_map]
  refine ⟨fun h w' hr => ⟨by rw [chkW, if_pos h], hr.mod⟩, fun h => ?_⟩
  rw [chkW, if_neg h]
  refine ⟨fun vs => ∃ (i : Nat) (x : V), vs = [x, .i i] ∧ i ≤ l.length ∧ chkL (l.take i) (l.drop i) = chkL [] l, fun vs => l.length - (vs.getD 1 (.i 0)).toI.toNat, ⟨0, _, rfl, by omega, rfl⟩, ?_⟩
  rintro _ - ⟨i, x, rfl, hi, hg⟩
  simp only [Tree.goal, X.P, X.ev, V.toI_i, V.toB_b, V.toS_s, V.toR_r, V.toV_v, V.toN_n, V.toL_l, SV.ev, CV.ev, Sc.ev, List.getD_cons_zero, List.getD_cons_succ, List.getElem?_cons_zero, List.getElem?_cons_succ, List.map_cons, List.map_nil, List.length_cons, List.length_nil, List.cons_append, List.nil_append, Nat.zero_add, Nat.reduceAdd, List.length_map, Int.toNat_natCast, gW0, gW1, gW2, gW3]
  refine ⟨fun h1 => ?_, fun h1 w' hr => ⟨?_, hr.mod⟩⟩
  · have hsm := smallW_at hs i
    rw [dropW l i (by omega)] at hg
    simp only [chkL] at hg
    refine ⟨by omega, [.i (oneE (l.getD i wD).1 (l.getD i wD).2.1 (l.getD i wD).2.2.1)], rfl, fun _ w' _ => c_CheckWatch w' _ _ _ hsm, ?_⟩
    simp only [Tree.goal, X.P, X.ev, V.toI_i, V.toB_b, V.toS_s, V.toR_r, V.toV_v, V.toN_n, V.toL_l, SV.ev, CV.ev, Sc.ev, List.getD_cons_zero, List.getD_cons_succ, List.getElem?_cons_zero, List.getElem?_cons_succ, List.map_cons, List.map_nil, List.length_cons, List.length_nil, List.cons_append, List.nil_append, Nat.zero_add, Nat.reduceAdd, List.length_map, Int.toNat_natCast, gW0, gW1, gW2, gW3]
    refine ⟨fun h2 w' hr => ⟨by rw [← hg, if_pos h2], hr.mod⟩, fun h2 => ?_⟩
    rw [if_neg h2] at hg
    refine ⟨fun h3 w' hr => ⟨by rw [← hg, if_neg h3], hr.mod⟩, fun h3 => ?_⟩
    rw [if_pos (Classical.not_not.1 h3)] at hg
    refine ⟨fun vs => ∃ (k : Nat) (y : V), vs = [y, .i k] ∧ k ≤ i ∧ (l.take k).any (sameP (l.getD i wD).1 (l.getD i wD).2.1) = false, fun vs => i - (vs.getD 1 (.i 0)).toI.toNat, ⟨0, _, rfl, by omega, by simp⟩, ?_⟩
    rintro _ - ⟨k, y, rfl, hk, hno⟩
    simp only [Tree.goal, X.P, X.ev, V.toI_i, V.toB_b, V.toS_s, V.toR_r, V.toV_v, V.toN_n, V.toL_l, SV.ev, CV.ev, Sc.ev, List.getD_cons_zero, List.getD_cons_succ, List.getElem?_cons_zero, List.getElem?_cons_succ, List.map_cons, List.map_nil, List.length_cons, List.length_nil, List.cons_append, List.nil_append, Nat.zero_add, Nat.reduceAdd, List.length_map, Int.toNat_natCast, gW0, gW1, gW2, gW3]
    refine ⟨fun h4 => ⟨by omega, by omega, fun h5 w' hr => ⟨?_, hr.mod⟩, fun h5 => ?_⟩, fun h4 => ?_⟩
    · rw [← hg, if_pos (any_at (k := k) (by omega) (by omega) (by simp only [sameP, decide_eq_true_eq]; exact h5))]
    · refine ⟨by omega, by omega, ⟨k + 1, y, rfl, by omega, ?_⟩, by omega⟩
      rw [any_snoc _ l k (by omega), hno, Bool.false_or]
      simp only [sameP, decide_eq_false_iff_not]
      exact h5
    · have : k = i := by omega
      subst this
      rw [if_neg (by rw [hno]; decide), ← takeW l k (by omega)] at hg
      exact ⟨by omega, by omega, ⟨k + 1, _, rfl, by omega, hg⟩, by omega⟩
  · have : i = l.length := by omega
    subst this
    rw [List.drop_length] at hg
    rw [← hg]; rfl

set_option maxHeartbeats 1000000 in
theorem c_CheckW (w : World) (v : Value) (l : List Wat) (hv : readsW w v l) (hs : smallW l) (hl : l.length < 1099511627776) : Calls Tryd.prog 34 #[sc1 v] w
    fun e w' => e = .returned (.int .i64 (chkW l)) ∧ Mod [] w w' := by
  refine as_called (run_tree2 (ρ := [.v v, .r (l.map encW)]) sxE_ok Tryd.func34 tree_watch_Check rfl rfl (Rel.start2 (by simp [Ent.holds, Ent.wr, hv, X.ev])) rfl rfl ?_) rfl
  simp only [Tree.goal, X.P, X.ev, V.toI_i, V.toB_b, V.toS_s, V.toR_r, V.toV_v, V.toN_n, V.toL_l, SV.ev, CV.ev, Sc.ev, List.getD_cons_zero, List.getD_cons_succ, List.getElem?_cons_zero, List.getElem?_cons_succ, List.map_cons, List.map_nil, List.length_cons, List.length_nil, List.cons_append, List.nil_append, Nat.zero_add, Nat.reduceAdd, List.length_map]
  refine ⟨fun h w' hr => ⟨by rw [chkW, if_pos h], hr.mod⟩, fun h => ?_⟩
  rw [chkW, if_neg h]
  refine ⟨fun vs => ∃ (i : Nat) (x : V), vs = [x, .i i] ∧ i ≤ l.length ∧ chkL (l.take i) (l.drop i) = chkL [] l, fun vs => l.length - (vs.getD 1 (.i 0)).toI.toNat, ⟨0, _, rfl, by omega, rfl⟩, ?_⟩
  rintro _ - ⟨i, x, rfl, hi, hg⟩
  simp only [Tree.goal, X.P, X.ev, V.toI_i, V.toB_b, V.toS_s, V.toR_r, V.toV_v, V.toN_n, V.toL_l, SV.ev, CV.ev, Sc.ev, List.getD_cons_zero, List.getD_cons_succ, List.getElem?_cons_zero, List.getElem?_cons_succ, List.map_cons, List.map_nil, List.length_cons, List.length_nil, List.cons_append, List.nil_append, Nat.zero_add, Nat.reduceAdd, List.length_map, Int.toNat_natCast, gW0, gW1, gW2, gW3]
  refine ⟨fun h1 => ?_, fun h1 w' hr => ⟨?_, hr.mod⟩⟩
  · have hsm := smallW_at hs i
    rw [dropW l i (by omega)] at hg
    simp only [chkL] at hg
    refine ⟨by omega, fun b1 => ⟨[.i (oneE (l.getD i wD).1 (l.getD i wD).2.1 (l.getD i wD).2.2.1)], rfl, fun _ w' _ => c_one w' (l.getD i wD) hsm, ?_⟩⟩
    simp only [Tree.goal, X.P, X.ev, V.toI_i, V.toB_b, V.toS_s, V.toR_r, V.toV_v, V.toN_n, V.toL_l, SV.ev, CV.ev, Sc.ev, List.getD_cons_zero, List.getD_cons_succ, List.getElem?_cons_zero, List.getElem?_cons_succ, List.map_cons, List.map_nil, List.length_cons, List.length_nil, List.cons_append, List.nil_append, Nat.zero_add, Nat.reduceAdd, List.length_map, Int.toNat_natCast, gW0, gW1, gW2, gW3]
    refine ⟨fun h2 w' hr => ⟨by rw [← hg, if_pos h2], hr.mod⟩, fun h2 => ?_⟩
    rw [if_neg h2] at hg
    refine ⟨fun h3 w' hr => ⟨by rw [← hg, if_neg h3], hr.mod⟩, fun h3 => ?_⟩
    rw [if_pos (Classical.not_not.1 h3)] at hg
    refine ⟨by omega, fun v1 => ?_⟩
    refine ⟨fun vs => ∃ (k : Nat) (y : V), vs = [y, .i k] ∧ k ≤ i ∧ (l.take k).any (sameP (l.getD i wD).1 (l.getD i wD).2.1) = false, fun vs => i - (vs.getD 1 (.i 0)).toI.toNat, ⟨0, _, rfl, by omega, by simp⟩, ?_⟩
    rintro _ - ⟨k, y, rfl, hk, hno⟩
    simp only [Tree.goal, X.P, X.ev, V.toI_i, V.toB_b, V.toS_s, V.toR_r, V.toV_v, V.toN_n, V.toL_l, SV.ev, CV.ev, Sc.ev, List.getD_cons_zero, List.getD_cons_succ, List.getElem?_cons_zero, List.getElem?_cons_succ, List.map_cons, List.map_nil, List.length_cons, List.length_nil, List.cons_append, List.nil_append, Nat.zero_add, Nat.reduceAdd, Int.toNat_zero, List.drop_zero, Int.toNat_natCast, ← List.map_take, List.length_map, Int.toNat_natCast, gW0, gW1, gW2, gW3, List.length_take]
    refine ⟨fun h4 => ⟨by omega, fun b2 b3 => ?_⟩, fun h4 => ?_⟩
    · have hki : k < i := by omega
      rw [getTakeW l hki]
      refine ⟨fun h5 w' hr => ⟨?_, hr.mod⟩, fun h5 => ?_⟩
      · rw [← hg, if_pos (any_at (k := k) (by omega) (by omega) (by simp only [sameP, decide_eq_true_eq]; exact h5))]
      · refine ⟨by omega, by omega, ⟨k + 1, y, rfl, by omega, ?_⟩, by omega⟩
        rw [any_snoc _ l k (by omega), hno, Bool.false_or]
        simp only [sameP, decide_eq_false_iff_not]
        exact h5
    · have : k = i := by omega
      subst this
      rw [if_neg (by rw [hno]; decide), ← takeW l k (by omega)] at hg
      refine ⟨fun h5 => absurd h5 (by decide), fun _ => ⟨by omega, by omega, ⟨k + 1, _, rfl, by omega, hg⟩, by omega⟩⟩
  · have : i = l.length := by omega
    subst this
    rw [List.drop_length] at hg
    rw [← hg]; rfl

theorem c_SameWatches (w : World) (u v : Value) (a b : List Wat) (hu : readsW w u a) (hv : readsW w v b) (hl : a.length < 1099511627776) : Calls Tryd.prog 37 #[sc1 u, sc1 v] w
    fun e w' => e = .returned (.bool (decide (a = b))) ∧ Mod [] w w' := by
  refine as_called (run_tree2 (ρ := [.v u, .r (a.map encW), .v v, .r (b.map encW)]) sxE_ok Tryd.func37 tree_dragomanref_SameWatches rfl rfl (Rel.start2 (by simp [Ent.holds, Ent.wr, hu, hv, X.ev])) rfl rfl ?_) rfl
  simp only [Tree.goal, X.P, X.ev, V.toI_i, V.toB_b, V.toS_s, V.toR_r, V.toV_v, V.toN_n, V.toL_l, SV.ev, CV.ev, Sc.ev, List.getD_cons_zero, List.getD_cons_succ, List.getElem?_cons_zero, List.getElem?_cons_succ, List.map_cons, List.map_nil, List.length_cons, List.length_nil, List.cons_append, List.nil_append, Nat.zero_add, Nat.reduceAdd, List.length_map]
  refine ⟨fun h w' hr => ⟨?_, hr.mod⟩, fun h => ?_⟩
  · rw [decide_eq_false]
    intro e; rw [e] at h; exact h rfl
  · have hlen : a.length = b.length := by omega
    refine ⟨fun vs => ∃ (i : Nat) (x : V), vs = [x, .i i] ∧ i ≤ a.length ∧ ∀ j, j < i → a.getD j wD = b.getD j wD, fun vs => a.length - (vs.getD 1 (.i 0)).toI.toNat, ⟨0, _, rfl, by omega, fun j hj => by omega⟩, ?_⟩
    rintro _ - ⟨i, x, rfl, hi, hall⟩
    simp only [Tree.goal, X.P, X.ev, V.toI_i, V.toB_b, V.toS_s, V.toR_r, V.toV_v, V.toN_n, V.toL_l, SV.ev, CV.ev, Sc.ev, List.getD_cons_zero, List.getD_cons_succ, List.getElem?_cons_zero, List.getElem?_cons_succ, List.map_cons, List.map_nil, List.length_cons, List.length_nil, List.cons_append, List.nil_append, Nat.zero_add, Nat.reduceAdd, List.length_map, Int.toNat_natCast, gW0, gW1, gW2, gW3]
    refine ⟨fun h7 => ⟨by omega, by omega, fun h8 w' hr => ⟨?_, hr.mod⟩, fun h8 => ⟨by omega, by omega, ⟨i + 1, x, rfl, by omega, fun j hj => ?_⟩, by omega⟩⟩, fun h7 w' hr => ⟨?_, hr.mod⟩⟩
    · rw [decide_eq_false]
      intro e
      rw [e] at h8
      exact h8 ⟨rfl, rfl, rfl, rfl⟩
    · by_cases hji : j = i
      · subst hji
        have h9 := Classical.not_not.1 h8
        exact Prod.ext h9.1 (Prod.ext h9.2.1 (Prod.ext h9.2.2.1 h9.2.2.2))
      · exact hall j (by omega)
    · rw [decide_eq_true]
      refine List.ext_getElem? fun j => ?_
      by_cases hj : j < a.length
      · have := hall j (by omega)
        rw [List.getD_eq_getElem?_getD, List.getD_eq_getElem?_getD, List.getElem?_eq_getElem hj, List.getElem?_eq_getElem (by omega)] at this
        rw [List.getElem?_eq_getElem hj, List.getElem?_eq_getElem (by omega)]
        simpa using this
      · rw [List.getElem?_eq_none (by omega), List.getElem?_eq_none (by omega)]
end Go.Proofs.YtkalmhdckoocbaaDoor
