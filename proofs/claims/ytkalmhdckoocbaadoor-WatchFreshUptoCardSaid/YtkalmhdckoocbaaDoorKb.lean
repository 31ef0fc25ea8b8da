/-
  Watches: what the reference makes of them. By an AI agent.
-/
import Derived.Test.YtkalmhdckoocbaaDoorKa
set_option linter.unusedSimpArgs false
set_option linter.unusedVariables false
namespace Go.Proofs.YtkalmhdckoocbaaDoor
open Go.Sx

abbrev ownsW (w : World) (v : Value) (l : List Wat) : Prop := owns w v 49 kW (l.map encW)
def freshB (n : Nat) (v : Value) : Prop := ∀ k, blockOf v k → n ≤ k
/-- Without a peer's watch by a token. -/
def filt (p : Int) (t : List UInt8) (l : List Wat) : List Wat := l.filter fun w => !sameP p t w
theorem filt_snoc (p : Int) (t : List UInt8) (l : List Wat) (i : Nat) (h : i < l.length) : filt p t (l.take (i + 1)) = filt p t (l.take i) ++ (if sameP p t (l.getD i wD) = true then [] else [l.getD i wD]) := by
  rw [takeW l i h, filt, List.filter_append]
  congr 1
  cases h2 : sameP p t (l.getD i wD)
  · rw [List.filter_cons, h2]; rfl
  · rw [List.filter_cons, h2]; rfl
theorem filt_len (p : Int) (t : List UInt8) (l : List Wat) : (filt p t l).length ≤ l.length := List.length_filter_le ..
theorem row_snocW (l : List Wat) (x : Wat) : l.map encW ++ [[Value.int .i64 x.1, .string ⟨x.2.1.toArray⟩, .string ⟨x.2.2.1.toArray⟩, .int .i64 x.2.2.2]] = (l ++ [x]).map encW := by simp [encW]

theorem c_CancelOf (w : World) (v : Value) (l : List Wat) (p : Int) (t : List UInt8) (hv : readsW w v l) (hl : l.length < 1000000000) : Calls Tryd.prog 31 #[sc1 v, .int .i64 p, .string ⟨t.toArray⟩] w
    fun e w' => ∃ v', e = .returned (sc1 v') ∧ ownsW w' v' (filt p t l) ∧ freshB w.heap.size v' ∧ Mod [] w w' := by
  refine as_called (run_tree2 (ρ := [.v v, .r (l.map encW), .i p, .s t]) sxE_ok Tryd.func31 tree_dragomanref_CancelOf rfl rfl (Rel.start2 (by simp [Ent.holds, Ent.wr, hv, X.ev])) rfl rfl ?_) rfl
  simp only [Tree.goal, X.P, X.ev, V.toI_i, V.toB_b, V.toS_s, V.toR_r, V.toV_v, V.toN_n, V.toL_l, SV.ev, CV.ev, Sc.ev, List.getD_cons_zero, List.getD_cons_succ, List.getElem?_cons_zero, List.getElem?_cons_succ, List.map_cons, List.map_nil, List.length_cons, List.length_nil, List.cons_append, List.nil_append, Nat.zero_add, Nat.reduceAdd]
  refine ⟨fun vs => ∃ (i : Nat) (u : Value), vs = [.v u, .r ((filt p t (l.take i)).map encW), .i i] ∧ i ≤ l.length, fun vs => l.length - (vs.getD 2 (.i 0)).toI.toNat, ⟨0, _, rfl, by omega⟩, ?_⟩
  rintro _ - ⟨i, u, rfl, hi⟩
  simp only [Tree.goal, X.P, X.ev, V.toI_i, V.toB_b, V.toS_s, V.toR_r, V.toV_v, V.toN_n, V.toL_l, SV.ev, CV.ev, Sc.ev, List.getD_cons_zero, List.getD_cons_succ, List.getElem?_cons_zero, List.getElem?_cons_succ, List.map_cons, List.map_nil, List.length_cons, List.length_nil, List.cons_append, List.nil_append, Nat.zero_add, Nat.reduceAdd, List.length_map, Int.toNat_natCast, gW0, gW1, gW2, gW3]
  have hfl := filt_len p t (l.take i)
  rw [List.length_take] at hfl
  refine ⟨fun h1 => ?_, fun h1 w' hr => ?_⟩
  · have hf := filt_snoc p t l i (by omega)
    refine ⟨by omega, fun h2 => ?_, fun h2 => ?_⟩
    · rw [if_neg (by simp only [sameP, decide_eq_true_eq]; intro h; rcases h2 with h2 | h2; exact h2 h.1; exact h2 h.2)] at hf
      intro v1
      refine ⟨by omega, fun v2 => ⟨by omega, by omega, ⟨i + 1, v2, ?_, by omega⟩, by omega⟩⟩
      rw [hf, row_snocW]; rfl
    · rw [if_pos (by simp only [sameP, decide_eq_true_eq]; exact ⟨Classical.byContradiction fun h => h2 (.inl h), Classical.byContradiction fun h => h2 (.inr h)⟩), List.append_nil] at hf
      exact ⟨by omega, by omega, ⟨i + 1, u, by rw [hf]; rfl, by omega⟩, by omega⟩
  · have : i = l.length := by omega
    subst this
    rw [List.take_length] at hr
    refine ⟨u, rfl, hr.at_ 0 rfl, fun k hk => ?_, hr.mod⟩
    rcases hr.own _ (List.mem_cons_self ..) rfl k hk with h | h
    · exact h
    · simp at h

/-- A watch that is told of its topic. -/
def told1 (n : List UInt8) (w : Wat) : Wat := if w.2.2.1 = n then (w.1, w.2.1, w.2.2.1, if 16777215 < w.2.2.2 + 1 then 0 else w.2.2.2 + 1) else w
def toldL (n : List UInt8) (l : List Wat) : List Wat := l.map (told1 n)
def theseL (n : List UInt8) (l : List Wat) : List Wat := (l.filter fun w => decide (w.2.2.1 = n)).map (told1 n)
def okN (l : List Wat) : Prop := ∀ x ∈ l, 0 ≤ x.2.2.2 ∧ x.2.2.2 ≤ 16777215
theorem okN_at {l : List Wat} (h : okN l) (i : Nat) : 0 ≤ (l.getD i wD).2.2.2 ∧ (l.getD i wD).2.2.2 ≤ 16777215 := by
  by_cases hi : i < l.length
  · rw [List.getD_eq_getElem?_getD, List.getElem?_eq_getElem hi]; exact h _ (List.getElem_mem hi)
  · rw [List.getD_eq_getElem?_getD, List.getElem?_eq_none (by omega)]; decide
theorem chkL_okN : ∀ {l prev : List Wat}, chkL prev l = 0 → okN l := by
  intro l
  induction l with
  | nil => intro prev _ x hx; simp at hx
  | cons w l ih =>
    intro prev h x hx
    simp only [chkL] at h
    split at h
    · contradiction
    · split at h
      · rename_i h2
        split at h
        · exact absurd h (by decide)
        · rcases List.mem_cons.1 hx with rfl | hx
          · exact h2
          · exact ih h x hx
      · exact absurd h (by decide)
theorem chkW_ok {l : List Wat} (h : chkW l = 0) : l.length ≤ 12 ∧ okN l ∧ chkL [] l = 0 := by
  unfold chkW at h
  split at h
  · exact absurd h (by decide)
  · exact ⟨by omega, chkL_okN h, h⟩
theorem told_snoc (n : List UInt8) (l : List Wat) (i : Nat) (h : i < l.length) : toldL n (l.take (i + 1)) = toldL n (l.take i) ++ [told1 n (l.getD i wD)] := by
  rw [takeW l i h]; simp [toldL]
theorem these_snoc (n : List UInt8) (l : List Wat) (i : Nat) (h : i < l.length) : theseL n (l.take (i + 1)) = theseL n (l.take i) ++ (if (l.getD i wD).2.2.1 = n then [told1 n (l.getD i wD)] else []) := by
  rw [takeW l i h, theseL, List.filter_append, List.map_append]
  congr 1
  by_cases hc : (l.getD i wD).2.2.1 = n
  · rw [List.filter_cons, if_pos (by simpa using hc), if_pos hc]; rfl
  · rw [List.filter_cons, if_neg (by simpa using hc), if_neg hc]; rfl
theorem these_len (n : List UInt8) (l : List Wat) : (theseL n l).length ≤ l.length := by rw [theseL, List.length_map]; exact List.length_filter_le ..

set_option maxHeartbeats 1000000 in
theorem c_TellOf (w : World) (v : Value) (l : List Wat) (n : List UInt8) (hv : readsW w v l) (hl : l.length < 1000000000) (hok : okN l) : Calls Tryd.prog 32 #[sc1 v, .string ⟨n.toArray⟩] w
    fun e w' => ∃ v1 v2, e = .returned (.tuple #[sc1 v1, sc1 v2]) ∧ ownsW w' v1 (toldL n l) ∧ ownsW w' v2 (theseL n l) ∧ freshB w.heap.size v1 ∧ freshB w.heap.size v2 ∧ Mod [] w w' := by
  refine as_called (run_tree2 (ρ := [.v v, .r (l.map encW), .s n]) sxE_ok Tryd.func32 tree_dragomanref_TellOf rfl rfl (Rel.start2 (by simp [Ent.holds, Ent.wr, hv, X.ev])) rfl rfl ?_) rfl
  simp only [Tree.goal, X.P, X.ev, V.toI_i, V.toB_b, V.toS_s, V.toR_r, V.toV_v, V.toN_n, V.toL_l, SV.ev, CV.ev, Sc.ev, List.getD_cons_zero, List.getD_cons_succ, List.getElem?_cons_zero, List.getElem?_cons_succ, List.map_cons, List.map_nil, List.length_cons, List.length_nil, List.cons_append, List.nil_append, Nat.zero_add, Nat.reduceAdd]
  refine ⟨fun vs => ∃ (i : Nat) (u1 u2 : Value), vs = [.v u1, .r ((toldL n (l.take i)).map encW), .v u2, .r ((theseL n (l.take i)).map encW), .i i] ∧ i ≤ l.length, fun vs => l.length - (vs.getD 4 (.i 0)).toI.toNat, ⟨0, _, _, rfl, by omega⟩, ?_⟩
  rintro _ - ⟨i, u1, u2, rfl, hi⟩
  simp only [Tree.goal, X.P, X.ev, V.toI_i, V.toB_b, V.toS_s, V.toR_r, V.toV_v, V.toN_n, V.toL_l, SV.ev, CV.ev, Sc.ev, List.getD_cons_zero, List.getD_cons_succ, List.getElem?_cons_zero, List.getElem?_cons_succ, List.map_cons, List.map_nil, List.length_cons, List.length_nil, List.cons_append, List.nil_append, Nat.zero_add, Nat.reduceAdd, List.length_map, Int.toNat_natCast, gW0, gW1, gW2, gW3]
  have hfl := these_len n (l.take i)
  have htl : (toldL n (l.take i)).length = min i l.length := by simp [toldL]
  rw [List.length_take] at hfl
  refine ⟨fun h1 => ?_, fun h1 w' hr => ?_⟩
  · have hf1 := told_snoc n l i (by omega)
    have hf2 := these_snoc n l i (by omega)
    have hok1 := okN_at hok i
    refine ⟨by omega, fun b => ⟨fun h2 => ?_, fun h2 => ?_⟩⟩
    · rw [if_pos h2] at hf2
      refine ⟨by omega, by omega, fun h3 => ?_, fun h3 => ?_⟩
      · have ht : told1 n (l.getD i wD) = ((l.getD i wD).1, (l.getD i wD).2.1, (l.getD i wD).2.2.1, 0) := by rw [told1, if_pos h2, if_pos h3]
        intro v1
        refine ⟨by omega, fun v2 v3 => ⟨by omega, fun v4 => ⟨by omega, by omega, ⟨i + 1, v4, v2, ?_, by omega⟩, by omega⟩⟩⟩
        rw [hf1, hf2, ht, ← row_snocW, ← row_snocW]; rfl
      · have ht : told1 n (l.getD i wD) = ((l.getD i wD).1, (l.getD i wD).2.1, (l.getD i wD).2.2.1, (l.getD i wD).2.2.2 + 1) := by rw [told1, if_pos h2, if_neg h3]
        intro v1
        refine ⟨by omega, fun v2 v3 => ⟨by omega, fun v4 => ⟨by omega, by omega, ⟨i + 1, v4, v2, ?_, by omega⟩, by omega⟩⟩⟩
        rw [hf1, hf2, ht, ← row_snocW, ← row_snocW]; rfl
    · rw [if_neg h2, List.append_nil] at hf2
      have ht : told1 n (l.getD i wD) = l.getD i wD := by rw [told1, if_neg h2]
      intro v1
      refine ⟨by omega, fun v2 => ⟨by omega, by omega, ⟨i + 1, v2, u2, ?_, by omega⟩, by omega⟩⟩
      rw [hf1, hf2, ht, ← row_snocW]; rfl
  · have : i = l.length := by omega
    subst this
    rw [List.take_length] at hr
    refine ⟨u1, u2, rfl, hr.at_ 1 rfl, hr.at_ 0 rfl, ?_, ?_, hr.mod⟩
    · intro k hk
      rcases hr.own _ (List.mem_cons_of_mem _ (List.mem_cons_self ..)) rfl k hk with h | h
      · exact h
      · simp at h
    · intro k hk
      rcases hr.own _ (List.mem_cons_self ..) rfl k hk with h | h
      · exact h
      · simp at h

/-- Was a number told later? -/
def freshP (a b : Int) : Bool := decide (a < b ∧ b - a < 8388608) || decide (b < a ∧ 8388608 < a - b)
def freR (a b : Int) : Bool × Int := if (0 ≤ a ∧ a ≤ 16777215) ∧ 0 ≤ b ∧ b ≤ 16777215 then (freshP a b, 0) else (false, 3)
theorem c_Fresh (w : World) (a b : Int) : Calls Tryd.prog 27 #[.int .i64 a, .int .i64 b] w fun e w' => e = .returned (.tuple #[.bool (freR a b).1, .int .i64 (freR a b).2]) ∧ Mod [] w w' := by
  refine as_called (run_plain2 (ρ := [.i a, .i b]) sxE_ok Tryd.func27 tree_watch_Fresh rfl rfl rfl ?_) rfl
  simp only [Tree.goal, X.P, X.ev, V.toI_i, V.toB_b, V.toS_s, V.toR_r, V.toV_v, V.toN_n, V.toL_l, SV.ev, CV.ev, Sc.ev, List.getD_cons_zero, List.getD_cons_succ, List.getElem?_cons_zero, List.getElem?_cons_succ, List.map_cons, List.map_nil, List.length_cons, List.length_nil, List.cons_append, List.nil_append, Nat.zero_add, Nat.reduceAdd]
  refine ⟨fun h w' hr => ⟨by rw [freR, if_neg (fun h2 => h h2.1)], hr.mod⟩, fun h => ⟨fun h1 w' hr => ⟨by rw [freR, if_neg (fun h2 => h1 h2.2)], hr.mod⟩, fun h1 => ?_⟩⟩
  refine ⟨.inr (by omega), .inr (by omega), .inr (by omega), .inr (by omega), fun w' hr => ⟨?_, hr.mod⟩⟩
  rw [freR, if_pos ⟨Classical.not_not.1 h, Classical.not_not.1 h1⟩]
  simp [freshP]
theorem c_IsFresh (w : World) (a b : Int) (ha : 0 ≤ a ∧ a ≤ 16777215) (hb : 0 ≤ b ∧ b ≤ 16777215) : Calls Tryd.prog 36 #[.int .i64 a, .int .i64 b] w fun e w' => e = .returned (.bool (freshP a b)) ∧ Mod [] w w' := by
  refine as_called (run_plain2 (ρ := [.i a, .i b]) sxE_ok Tryd.func36 tree_dragomanref_IsFresh rfl rfl rfl ?_) rfl
  simp only [Tree.goal, X.P, X.ev, V.toI_i, V.toB_b, V.toS_s, V.toR_r, V.toV_v, V.toN_n, V.toL_l, SV.ev, CV.ev, Sc.ev, List.getD_cons_zero, List.getD_cons_succ, List.getElem?_cons_zero, List.getElem?_cons_succ, List.map_cons, List.map_nil, List.length_cons, List.length_nil, List.cons_append, List.nil_append, Nat.zero_add, Nat.reduceAdd]
  refine ⟨fun h => ⟨by omega, by omega, fun w' hr => ⟨?_, hr.mod⟩⟩, fun h => ⟨by omega, by omega, fun w' hr => ⟨?_, hr.mod⟩⟩⟩
  · rw [freshP, decide_eq_false (p := b < a ∧ 8388608 < a - b) (by omega), Bool.or_false]
    simp [h]
  · rw [freshP, decide_eq_false (p := a < b ∧ b - a < 8388608) (by omega), Bool.false_or]
    simp only [Ending.returned.injEq, Value.bool.injEq]
    exact decide_eq_decide.2 (by omega)
end Go.Proofs.YtkalmhdckoocbaaDoor
