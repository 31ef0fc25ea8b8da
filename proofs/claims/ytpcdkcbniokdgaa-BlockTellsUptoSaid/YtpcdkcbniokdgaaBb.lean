/-
  What block.Join and the reference's JoinOf compute. By an AI agent.
-/
import Derived.Test.YtpcdkcbniokdgaaBa
set_option linter.unusedSimpArgs false
set_option linter.unusedVariables false
namespace Go.Proofs.Ytpcdkcbniokdgaa
open Go.Sx

theorem c_CutOf (w : World) (p : List UInt8) (n s : Int) (hn : n ≤ 1000) (hp : p.length < 2305843009213693952) : Calls Try.prog 15 #[.string ⟨p.toArray⟩, .int .i64 n, .int .i64 s] w
    fun e w' => e = .returned (.tuple #[.string ⟨(cutR p n s).1.toArray⟩, .agg #[.int .i64 (cutR p n s).2.1.1, .bool (cutR p n s).2.1.2.1, .int .i64 (cutR p n s).2.1.2.2], .int .i64 (cutR p n s).2.2]) ∧ Mod [] w w' := by
  refine as_called (run_plain2 (ρ := [.s p, .i n, .i s]) sxE_ok Try.func15 tree_dragomanref_CutOf rfl rfl rfl ?_) rfl
  simp only [Tree.goal, X.P, X.ev, V.toI_i, V.toB_b, V.toS_s, V.toR_r, V.toV_v, V.toN_n, V.toL_l, SV.ev, CV.ev, Sc.ev, List.getD_cons_zero, List.getD_cons_succ, List.getElem?_cons_zero, List.getElem?_cons_succ, List.map_cons, List.map_nil, List.length_cons, List.length_nil, List.cons_append, List.nil_append, Nat.zero_add, Nat.reduceAdd]
  intro b0
  refine ⟨fun h w' hr => ⟨by rw [cutR, if_pos (by omega)], hr.mod⟩, fun h => ?_⟩
  refine ⟨fun h1 w' hr => ⟨by rw [cutR, if_neg (by omega), if_neg (by omega)], hr.mod⟩, fun h1 => ?_⟩
  obtain ⟨k, rfl⟩ : ∃ k : Nat, s = k := ⟨s.toNat, by omega⟩
  obtain ⟨m, rfl⟩ : ∃ m : Nat, n = m := ⟨n.toNat, by omega⟩
  have hL := blkL_bd k (by omega)
  have e0 : cutR p m k = if 0 < (m : Int) ∧ (p.length : Int) ≤ m * blkL k then ([], (0, false, 0), 5)
    else ((p.drop (m * blkL k)).take (blkL k), ((m : Int), decide (blkL k < p.length - m * blkL k), (k : Int)), 0) := by
    rw [cutR, if_neg (by omega), if_pos (by omega)]; simp only [Int.toNat_natCast]
  refine ⟨[.i (blkL k)], rfl, fun _ w' _ => c_LongBlock w' k (by omega), ?_⟩
  generalize blkL k = LL at *
  simp only [Tree.goal, X.P, X.ev, V.toI_i, V.toB_b, V.toS_s, V.toR_r, V.toV_v, V.toN_n, V.toL_l, SV.ev, CV.ev, Sc.ev, List.getD_cons_zero, List.getD_cons_succ, List.getElem?_cons_zero, List.getElem?_cons_succ, List.map_cons, List.map_nil, List.length_cons, List.length_nil, List.cons_append, List.nil_append, Nat.zero_add, Nat.reduceAdd]
  refine ⟨fun vs => ∃ (i : Nat) (x6 x7 x9 x10 x11 : V), vs = [.s (p.drop (i * LL)), x6, x7, .i i, x9, x10, x11] ∧ i ≤ m ∧ (i = 0 ∨ i * LL < p.length), fun vs => (m - (vs.getD 3 (.i 0)).toI).toNat, ⟨0, _, _, _, _, _, by simp; exact ⟨rfl, rfl, rfl, rfl, rfl⟩, by omega, .inl rfl⟩, ?_⟩
  rintro _ - ⟨i, x6, x7, x9, x10, x11, rfl, hi, hil⟩
  simp only [Tree.goal, X.P, X.ev, V.toI_i, V.toB_b, V.toS_s, V.toR_r, V.toV_v, V.toN_n, V.toL_l, SV.ev, CV.ev, Sc.ev, List.getD_cons_zero, List.getD_cons_succ, List.getElem?_cons_zero, List.getElem?_cons_succ, List.map_cons, List.map_nil, List.length_cons, List.length_nil, List.cons_append, List.nil_append, Nat.zero_add, Nat.reduceAdd, List.length_drop, Int.toNat_natCast]
  have h5 : (i + 1) * LL = i * LL + LL := Nat.succ_mul _ _
  refine ⟨fun h2 => ?_, fun h2 => ?_⟩
  · refine ⟨fun h3 w' hr => ⟨?_, hr.mod⟩, fun h3 => ?_⟩
    · have h4 : (i + 1) * LL ≤ m * LL := Nat.mul_le_mul_right _ (by omega)
      have h6 : ((m : Int) * (LL : Int)) = ((m * LL : Nat) : Int) := by simp
      rw [e0, if_pos ⟨by omega, by rw [h6]; omega⟩]
    · (repeat refine ⟨by omega, ?_⟩)
      refine ⟨⟨i + 1, x6, x7, x9, x10, x11, ?_, by omega, .inr (by omega)⟩, by omega⟩
      have e1 : List.drop LL (List.take (p.length - i * LL) (List.drop (i * LL) p)) = List.drop ((i + 1) * LL) p := by
        rw [List.take_of_length_le (by simp), List.drop_drop, h5]
      rw [e1]; simp
  · have hmi : i = m := by omega
    subst hmi
    intro b1
    have h6 : ((i : Int) * (LL : Int)) = ((i * LL : Nat) : Int) := by simp
    have hno : ¬ (0 < (i : Int) ∧ (p.length : Int) ≤ i * LL) := fun h => by
      rw [h6] at h
      rcases hil with h7 | h7 <;> omega
    rw [e0, if_neg hno]
    refine ⟨fun h3 => ?_, fun h3 w' hr => ⟨?_, hr.mod⟩⟩
    · (repeat refine ⟨by omega, ?_⟩)
      refine fun w' hr => ⟨?_, hr.mod⟩
      have : decide (LL < p.length - i * LL) = true := by simp; omega
      rw [this]; rfl
    · have : decide (LL < p.length - i * LL) = false := by simp; omega
      rw [this, List.take_of_length_le (by simp; omega)]
theorem c_limited (w : World) (n : Int) : Calls Try.prog 16 #[.int .i64 n] w fun e w' => e = .returned (.int .i64 (if 1000 < n then 1000 else n)) ∧ Mod [] w w' := by
  refine as_called (run_plain2 (ρ := [.i n]) sxE_ok Try.func16 tree_dragomanlaw_limited rfl rfl rfl ?_) rfl
  simp only [Tree.goal, X.P, X.ev, V.toI_i, V.toB_b, V.toS_s, V.toR_r, V.toV_v, V.toN_n, V.toL_l, SV.ev, CV.ev, Sc.ev, List.getD_cons_zero, List.getD_cons_succ, List.getElem?_cons_zero, List.getElem?_cons_succ, List.map_cons, List.map_nil, List.length_cons, List.length_nil, List.cons_append, List.nil_append, Nat.zero_add, Nat.reduceAdd]
  exact ⟨fun h w' hr => ⟨by rw [if_pos h], hr.mod⟩, fun h w' hr => ⟨by rw [if_neg h], hr.mod⟩⟩

def encS (s : List UInt8) : List Value := [.string ⟨s.toArray⟩]
def encB (b : Blk) : List Value := [.int .i64 b.1, .bool b.2.1, .int .i64 b.2.2]
abbrev bD : Blk := (0, false, 0)
theorem gS_encS (ps : List (List UInt8)) (i : Nat) : Value.gS (((ps.map encS).getD i []).getD 0 undef) = ps.getD i [] := by
  simp only [List.getD_eq_getElem?_getD, List.getElem?_map]
  cases ps[i]? <;> simp [encS, Value.gS, undef]
theorem gI_encB0 (bs : List Blk) (i : Nat) : Value.gI (((bs.map encB).getD i []).getD 0 undef) = (bs.getD i bD).1 := by
  simp only [List.getD_eq_getElem?_getD, List.getElem?_map]
  cases bs[i]? <;> rfl
theorem gB_encB1 (bs : List Blk) (i : Nat) : Value.gB (((bs.map encB).getD i []).getD 1 undef) = (bs.getD i bD).2.1 := by
  simp only [List.getD_eq_getElem?_getD, List.getElem?_map]
  cases bs[i]? <;> rfl
theorem gI_encB2 (bs : List Blk) (i : Nat) : Value.gI (((bs.map encB).getD i []).getD 2 undef) = (bs.getD i bD).2.2 := by
  simp only [List.getD_eq_getElem?_getD, List.getElem?_map]
  cases bs[i]? <;> rfl

def szOk (b : Blk) : Prop := 0 ≤ b.2.2 ∧ b.2.2 ≤ 6
/-- What a piece and its block must be at a place. -/
def okAt (ps : List (List UInt8)) (bs : List Blk) (i : Nat) : Prop :=
  (bs.getD i bD).2.2 = (bs.getD 0 bD).2.2 ∧ (bs.getD i bD).1 = i ∧ ((bs.getD i bD).2.1 = true ↔ i + 1 < ps.length) ∧ (ps.getD i []).length ≤ blkL (bs.getD i bD).2.2.toNat ∧
    ((bs.getD i bD).2.1 = true → (ps.getD i []).length = blkL (bs.getD i bD).2.2.toNat) ∧ (0 < i → ps.getD i [] ≠ [])
theorem okAt_iff {ps : List (List UInt8)} {bs : List Blk} {i k : Nat} (hk : (bs.getD i bD).2.2 = k) : okAt ps bs i ↔ (k : Int) = (bs.getD 0 bD).2.2 ∧ (bs.getD i bD).1 = i ∧ ((bs.getD i bD).2.1 = true ↔ i + 1 < ps.length) ∧
    (ps.getD i []).length ≤ blkL k ∧ ((bs.getD i bD).2.1 = true → (ps.getD i []).length = blkL k) ∧ (0 < i → (ps.getD i []).length ≠ 0) := by
  unfold okAt
  rw [hk, Int.toNat_natCast]
  simp only [ne_eq, List.length_eq_zero_iff]
attribute [local instance] Classical.propDecidable
noncomputable def joinR (ps : List (List UInt8)) (bs : List Blk) : List UInt8 × Int :=
  if ps.length = 0 ∨ bs.length ≠ ps.length then ([], 1)
  else if ∀ j, j < ps.length → szOk (bs.getD j bD) then
    if ∀ j, j < ps.length → okAt ps bs j then (if 200 < ps.flatten.length then ([], 2) else (ps.flatten, 0)) else ([], 4)
  else ([], 3)

theorem joinR_eq {ps : List (List UInt8)} {bs : List Blk} (h : ¬ (ps.length = 0 ∨ bs.length ≠ ps.length)) : joinR ps bs = if ∀ j, j < ps.length → szOk (bs.getD j bD) then
    if ∀ j, j < ps.length → okAt ps bs j then (if 200 < ps.flatten.length then ([], 2) else (ps.flatten, 0)) else ([], 4)
  else ([], 3) := if_neg h
theorem take_flat (ps : List (List UInt8)) (i : Nat) (h : i < ps.length) : (ps.take (i + 1)).flatten = (ps.take i).flatten ++ ps.getD i [] := by
  rw [List.take_add_one, List.getElem?_eq_getElem h, List.flatten_append, List.getD_eq_getElem?_getD, List.getElem?_eq_getElem h]
  simp
theorem take_flat_len (ps : List (List UInt8)) (i : Nat) : (ps.take i).flatten.length ≤ ps.flatten.length := by
  have := congrArg List.length (congrArg List.flatten (List.take_append_drop i ps))
  rw [List.flatten_append, List.length_append] at this
  omega
theorem getD_flat_len (ps : List (List UInt8)) (i : Nat) : (ps.getD i []).length ≤ ps.flatten.length := by
  by_cases h : i < ps.length
  · have := take_flat_len ps (i + 1)
    rw [take_flat ps i h, List.length_append] at this; omega
  · rw [List.getD_eq_getElem?_getD, List.getElem?_eq_none (by omega)]; simp

theorem c_JoinOf (w : World) (u v : Value) (ps : List (List UInt8)) (bs : List Blk) (hu : reads w u [.str] (ps.map encS)) (hv : reads w v [.int .i64, .bool, .int .i64] (bs.map encB))
    (hl : ps.length < 1099511627776) (hfl : ps.flatten.length < 1099511627776) : Calls Try.prog 17 #[sc1 u, sc1 v] w
    fun e w' => e = .returned (.tuple #[.string ⟨(joinR ps bs).1.toArray⟩, .int .i64 (joinR ps bs).2]) ∧ Mod [] w w' := by
  refine as_called (run_tree2 (ρ := [.v u, .r (ps.map encS), .v v, .r (bs.map encB)]) sxE_ok Try.func17 tree_dragomanref_JoinOf rfl rfl (Rel.start2 (by simp [Ent.holds, Ent.wr, hu, hv, X.ev])) rfl rfl ?_) rfl
  simp only [Tree.goal, X.P, X.ev, V.toI_i, V.toB_b, V.toS_s, V.toR_r, V.toV_v, V.toN_n, V.toL_l, SV.ev, CV.ev, Sc.ev, List.getD_cons_zero, List.getD_cons_succ, List.getElem?_cons_zero, List.getElem?_cons_succ, List.map_cons, List.map_nil, List.length_cons, List.length_nil, List.cons_append, List.nil_append, Nat.zero_add, Nat.reduceAdd, List.length_map]
  refine ⟨fun h w' hr => ⟨by rw [joinR, if_pos (by omega)], hr.mod⟩, fun h => ?_⟩
  have e0 := joinR_eq (ps := ps) (bs := bs) (by omega)
  refine ⟨fun vs => ∃ (i : Nat) (x y : V), vs = [x, y, .i i] ∧ i ≤ ps.length ∧ ∀ j, j < i → szOk (bs.getD j bD), fun vs => (ps.length - (vs.getD 2 (.i 0)).toI).toNat, ⟨0, _, _, rfl, by omega, fun j hj => by omega⟩, ?_⟩
  rintro _ - ⟨i, x, y, rfl, hi, hsz⟩
  simp only [Tree.goal, X.P, X.ev, V.toI_i, V.toB_b, V.toS_s, V.toR_r, V.toV_v, V.toN_n, V.toL_l, SV.ev, CV.ev, Sc.ev, List.getD_cons_zero, List.getD_cons_succ, List.getElem?_cons_zero, List.getElem?_cons_succ, List.map_cons, List.map_nil, List.length_cons, List.length_nil, List.cons_append, List.nil_append, Nat.zero_add, Nat.reduceAdd, List.length_map, Int.toNat_natCast, gI_encB2]
  refine ⟨fun h1 => ?_, fun h1 => ?_⟩
  · (repeat refine ⟨by omega, ?_⟩)
    refine ⟨fun h2 w' hr => ⟨?_, hr.mod⟩, fun h2 => ?_⟩
    · rw [e0, if_neg (fun hh => h2 (hh i (by omega)))]
    · refine ⟨by omega, by omega, ⟨i + 1, x, y, rfl, by omega, fun j hj => ?_⟩, by omega⟩
      by_cases hji : j = i
      · subst hji; exact Classical.not_not.1 h2
      · exact hsz j (by omega)
  · have hin : i = ps.length := by omega
    subst hin
    rw [if_pos hsz] at e0
    refine ⟨fun vs => ∃ (i : Nat) (x y : V), vs = [x, y, .s (ps.take i).flatten, .i i] ∧ i ≤ ps.length ∧ ∀ j, j < i → okAt ps bs j, fun vs => (ps.length - (vs.getD 3 (.i 0)).toI).toNat, ⟨0, _, _, rfl, by omega, fun j hj => by omega⟩, ?_⟩
    rintro _ - ⟨i, x, y, rfl, hi, hok⟩
    simp only [Tree.goal, X.P, X.ev, V.toI_i, V.toB_b, V.toS_s, V.toR_r, V.toV_v, V.toN_n, V.toL_l, SV.ev, CV.ev, Sc.ev, List.getD_cons_zero, List.getD_cons_succ, List.getElem?_cons_zero, List.getElem?_cons_succ, List.map_cons, List.map_nil, List.length_cons, List.length_nil, List.cons_append, List.nil_append, Nat.zero_add, Nat.reduceAdd, List.length_map, Int.toNat_natCast, Int.toNat_zero, gI_encB2, gI_encB0, gB_encB1, gS_encS]
    refine ⟨fun h2 => ?_, fun h2 => ?_⟩
    · (repeat refine ⟨by omega, ?_⟩)
      intro b1
      have hs := hsz i (by omega)
      obtain ⟨k, hk⟩ : ∃ k : Nat, (bs.getD i bD).2.2 = k := ⟨(bs.getD i bD).2.2.toNat, by have := hs.1; omega⟩
      have hk6 : k ≤ 6 := by have := hs.2; omega
      refine ⟨[.i (blkL k)], rfl, fun _ w' _ => by rw [hk]; exact c_LongBlock w' k hk6, ?_⟩
      simp only [Tree.goal, X.P, X.ev, V.toI_i, V.toB_b, V.toS_s, V.toR_r, V.toV_v, V.toN_n, V.toL_l, SV.ev, CV.ev, Sc.ev, List.getD_cons_zero, List.getD_cons_succ, List.getElem?_cons_zero, List.getElem?_cons_succ, List.map_cons, List.map_nil, List.length_cons, List.length_nil, List.cons_append, List.nil_append, Nat.zero_add, Nat.reduceAdd, List.length_map, Int.toNat_natCast, Int.toNat_zero, gI_encB2, gI_encB0, gB_encB1, gS_encS]
      have hokd := okAt_iff (ps := ps) hk
      rw [hk]
      have q1 := getD_flat_len ps i
      have q2 := take_flat_len ps i
      generalize hb : (bs.getD i bD).2.1 = mo at *
      generalize hs' : (ps.getD i []) = si at *
      have hbool : (mo = decide ((i : Int) < (ps.length : Int) - 1)) ↔ (mo = true ↔ i + 1 < ps.length) := by
        cases mo <;> simp <;> omega
      rw [hbool]
      (repeat refine ⟨by omega, ?_⟩)
      refine ⟨fun h3 w' hr => ⟨?_, hr.mod⟩, fun h3 => ?_⟩
      · rw [e0, if_neg (fun hh => ?_)]
        have := hokd.1 (hh i (by omega))
        cases mo <;> simp only [reduceCtorEq, Bool.false_eq_true, false_iff, true_iff, false_and, true_and, false_or, or_false, false_implies, true_implies, implies_true, and_true, not_true_eq_false, not_false_eq_true] at this h3 <;> omega
      · (repeat refine ⟨by omega, ?_⟩)
        refine ⟨⟨i + 1, x, y, ?_, by omega, fun j hj => ?_⟩, by omega⟩
        · rw [take_flat ps i (by omega), hs']; rfl
        · by_cases hji : j = i
          · subst hji
            refine hokd.2 ?_
            cases mo <;> simp only [reduceCtorEq, Bool.false_eq_true, false_iff, true_iff, false_and, true_and, false_or, or_false, false_implies, true_implies, implies_true, and_true, not_true_eq_false, not_false_eq_true] at h3 ⊢ <;> omega
          · exact hok j (by omega)
    · have hin : i = ps.length := by omega
      subst hin
      rw [if_pos hok] at e0
      rw [List.take_length]
      refine ⟨fun h3 w' hr => ⟨?_, hr.mod⟩, fun h3 w' hr => ⟨?_, hr.mod⟩⟩
      · rw [e0, if_pos (by omega)]
      · rw [e0, if_neg (by omega)]
end Go.Proofs.Ytpcdkcbniokdgaa
