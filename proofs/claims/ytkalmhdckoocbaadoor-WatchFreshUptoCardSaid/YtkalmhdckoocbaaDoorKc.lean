/-
  Watches: copies of slices. By an AI agent.
-/
import Derived.Test.YtkalmhdckoocbaaDoorKb
set_option linter.unusedSimpArgs false
set_option linter.unusedVariables false
namespace Go.Proofs.YtkalmhdckoocbaaDoor
open Go.Sx

theorem nil_rows {v : Value} (hn : (match v with | .slice none _ _ => true | _ => false) = true) {w : World} {ks : List Kd} {rows : List (List Value)} (h : reads w v ks rows) : rows = [] := by
  obtain ⟨_, a, cap, rfl, _, h2⟩ := h
  refine Classical.byContradiction fun hne => ?_
  obtain ⟨ad, rfl, _⟩ := h2 hne
  simp at hn
theorem c_CloneW (w : World) (v : Value) (l : List Wat) (hv : readsW w v l) (hl : l.length < 1000000000) : Calls Tryd.prog 105 #[sc1 v] w
    fun e w' => ∃ v', e = .returned (sc1 v') ∧ ownsW w' v' l ∧ freshB w.heap.size v' ∧ Mod [] w w' := by
  refine as_called (run_tree2 (ρ := [.v v, .r (l.map encW)]) sxE_ok Tryd.func105 tree_slices_Clone_api_Watch_api_Watch rfl rfl (Rel.start2 (by simp [Ent.holds, Ent.wr, hv, X.ev])) rfl rfl ?_) rfl
  simp only [Tree.goal, X.P, X.ev, V.toI_i, V.toB_b, V.toS_s, V.toR_r, V.toV_v, V.toN_n, V.toL_l, SV.ev, CV.ev, Sc.ev, List.getD_cons_zero, List.getD_cons_succ, List.getElem?_cons_zero, List.getElem?_cons_succ, List.map_cons, List.map_nil, List.length_cons, List.length_nil, List.cons_append, List.nil_append, Nat.zero_add, Nat.reduceAdd, List.length_map, List.nil_append]
  refine ⟨fun h w' hr => ?_, fun h v1 => ⟨by simp only [Int.natCast_zero]; omega, fun v2 w' hr => ?_⟩⟩
  · have hn : l = [] := List.map_eq_nil_iff.1 (nil_rows h hv)
    subst hn
    refine ⟨_, rfl, hr.at_ 0 rfl, fun k hk => ?_, hr.mod⟩
    rcases hr.own _ (List.mem_cons_self ..) rfl k hk with h | h
    · exact h
    · simp at h
  · refine ⟨v2, rfl, hr.at_ 0 rfl, fun k hk => ?_, hr.mod⟩
    rcases hr.own _ (List.mem_cons_self ..) rfl k hk with h | h
    · exact h
    · simp at h

theorem any_filt {p : Int} {t : List UInt8} {l : List Wat} (h : l.any (sameP p t) = false) : filt p t l = l := by
  rw [filt, List.filter_eq_self]
  intro x hx
  rw [List.any_eq_false] at h
  have := h x hx
  simpa using this
theorem getD_of_drop {R l : List Wat} {j : Nat} (h : R.drop j = l.drop j) : R.getD j wD = l.getD j wD := by
  have e : ∀ q : List Wat, q.getD j wD = (q.drop j).getD 0 wD := fun q => by simp [List.getD_eq_getElem?_getD]
  rw [e R, e l, h]
theorem set_row (R : List Wat) (m : Nat) (x : Wat) : (R.map encW).set m [Value.int .i64 x.1, .string ⟨x.2.1.toArray⟩, .string ⟨x.2.2.1.toArray⟩, .int .i64 x.2.2.2] = (R.set m x).map encW := by rw [List.map_set]; rfl
theorem set_take {R : List Wat} {m : Nat} {x : Wat} (h : m < R.length) : (R.set m x).take (m + 1) = R.take m ++ [x] := by
  rw [List.take_set, takeW R m h, List.set_append_right _ _ (by simp; omega)]
  have : m - (R.take m).length = 0 := by simp; omega
  rw [this]; rfl
theorem set_drop {R : List Wat} {m j : Nat} {x : Wat} (h : m < j) : (R.set m x).drop j = R.drop j := by rw [List.drop_set, if_pos h]

set_option maxHeartbeats 1000000 in
theorem c_Without (w : World) (v : Value) (l : List Wat) (p : Int) (t : List UInt8) (hv : readsW w v l) (hl : l.length < 1000000000) : Calls Tryd.prog 71 #[sc1 v, .int .i64 p, .string ⟨t.toArray⟩] w
    fun e w' => ∃ v', e = .returned (sc1 v') ∧ ownsW w' v' (filt p t l) ∧ freshB w.heap.size v' ∧ Mod [] w w' := by
  refine as_called (run_tree2 (ρ := [.v v, .r (l.map encW), .i p, .s t]) sxE_ok Tryd.func71 tree_watch_Without rfl rfl (Rel.start2 (by simp [Ent.holds, Ent.wr, hv, X.ev])) rfl rfl ?_) rfl
  simp only [Tree.goal, X.P, X.ev, V.toI_i, V.toB_b, V.toS_s, V.toR_r, V.toV_v, V.toN_n, V.toL_l, SV.ev, CV.ev, Sc.ev, List.getD_cons_zero, List.getD_cons_succ, List.getElem?_cons_zero, List.getElem?_cons_succ, List.map_cons, List.map_nil, List.length_cons, List.length_nil, List.cons_append, List.nil_append, Nat.zero_add, Nat.reduceAdd]
  intro b1 b2 w1 hr
  refine (c_CloneW w1 v l (hr.at_ 3 rfl) hl).mono ?_
  rintro e w2 ⟨u, rfl, o1, f1, m1⟩
  refine ⟨[.v u, .r (l.map encW)], rfl, rfl, m1, List.forall_mem_nil _, List.forall_mem_cons.2 ⟨⟨o1, fun k hk => .inl (f1 k hk)⟩, List.forall_mem_nil _⟩, apart_one, ?_⟩
  simp only [Tree.goal, X.P, X.ev, V.toI_i, V.toB_b, V.toS_s, V.toR_r, V.toV_v, V.toN_n, V.toL_l, SV.ev, CV.ev, Sc.ev, List.getD_cons_zero, List.getD_cons_succ, List.getElem?_cons_zero, List.getElem?_cons_succ, List.map_cons, List.map_nil, List.length_cons, List.length_nil, List.cons_append, List.nil_append, Nat.zero_add, Nat.reduceAdd]
  refine ⟨fun vs => ∃ (i : Nat) (x : V), vs = [x, .i i] ∧ i ≤ l.length ∧ (l.take i).any (sameP p t) = false, fun vs => l.length - (vs.getD 1 (.i 0)).toI.toNat, ⟨0, _, rfl, by omega, by simp⟩, ?_⟩
  rintro _ - ⟨i, x, rfl, hi, hno⟩
  simp only [Tree.goal, X.P, X.ev, V.toI_i, V.toB_b, V.toS_s, V.toR_r, V.toV_v, V.toN_n, V.toL_l, SV.ev, CV.ev, Sc.ev, List.getD_cons_zero, List.getD_cons_succ, List.getElem?_cons_zero, List.getElem?_cons_succ, List.map_cons, List.map_nil, List.length_cons, List.length_nil, List.cons_append, List.nil_append, Nat.zero_add, Nat.reduceAdd, List.length_map, Int.toNat_natCast, gW0, gW1, gW2, gW3]
  refine ⟨fun h1 => ⟨by omega, fun b3 b4 => ⟨fun h2 => ⟨fun h3 => absurd h3 (by omega), fun h3 => ⟨by omega, by omega, ?_⟩⟩, fun h2 => ?_⟩⟩, fun h1 => ⟨fun _ w' hr => ?_, fun h => absurd trivial h⟩⟩
  · refine ⟨fun vs => ∃ (m j : Nat) (R : List Wat), vs = [.i m, .i j, .r (R.map encW)] ∧ R.length = l.length ∧ m < j ∧ j ≤ l.length ∧ R.take m = filt p t (l.take j) ∧ R.drop j = l.drop j, fun vs => l.length - (vs.getD 1 (.i 0)).toI.toNat, ⟨i, i + 1, l, rfl, rfl, by omega, by omega, ?_, rfl⟩, ?_⟩
    · have hsn := filt_snoc p t l i (by omega)
      rw [if_pos (by simp only [sameP, decide_eq_true_eq]; exact h2), List.append_nil, any_filt hno] at hsn
      exact hsn.symm
    · rintro _ - ⟨m, j, R, rfl, hRl, hmj, hj, htk, hdr⟩
      simp only [Tree.goal, X.P, X.ev, V.toI_i, V.toB_b, V.toS_s, V.toR_r, V.toV_v, V.toN_n, V.toL_l, SV.ev, CV.ev, Sc.ev, List.getD_cons_zero, List.getD_cons_succ, List.getElem?_cons_zero, List.getElem?_cons_succ, List.map_cons, List.map_nil, List.length_cons, List.length_nil, List.cons_append, List.nil_append, Nat.zero_add, Nat.reduceAdd, List.length_map, Int.toNat_natCast, gW0, gW1, gW2, gW3]
      refine ⟨fun h4 => ⟨by omega, fun b5 b6 b7 => ?_⟩, fun h4 => ?_⟩
      · have hsn := filt_snoc p t l j (by omega)
        have hRj := getD_of_drop hdr
        have hdr1 : R.drop (j + 1) = l.drop (j + 1) := by rw [← List.drop_drop, ← List.drop_drop, hdr]
        rw [hRj]
        refine ⟨fun h5 => ?_, fun h5 => ?_⟩
        · rw [if_neg (by simp only [sameP, decide_eq_true_eq]; exact h5)] at hsn
          refine ⟨by omega, by omega, by omega, by omega, by omega, by omega, ⟨m + 1, j + 1, R.set m (l.getD j wD), ?_, by simpa using hRl, by omega, by omega, ?_, ?_⟩, by omega⟩
          · rw [set_row]; rfl
          · rw [set_take (by omega), htk, hsn]
          · rw [set_drop (by omega), hdr1]
        · rw [if_pos (by simp only [sameP, decide_eq_true_eq]; exact Classical.not_not.1 h5), List.append_nil] at hsn
          exact ⟨by omega, by omega, ⟨m, j + 1, R, rfl, hRl, by omega, by omega, by rw [htk, hsn], hdr1⟩, by omega⟩
      · have : j = l.length := by omega
        subst this
        rw [List.take_length] at htk
        refine ⟨by omega, by omega, ?_, fun v9 w' hr => ?_⟩
        · simp only [List.length_append, List.length_take, List.length_map, List.length_replicate]; omega
        · have h0 := hr.at_ 0 rfl
          simp only [Ent.holds, Tree.goal, X.P, X.ev, V.toI_i, V.toB_b, V.toS_s, V.toR_r, V.toV_v, V.toN_n, V.toL_l, SV.ev, CV.ev, Sc.ev, List.getD_cons_zero, List.getD_cons_succ, List.getElem?_cons_zero, List.getElem?_cons_succ, List.map_cons, List.map_nil, List.length_cons, List.length_nil, List.cons_append, List.nil_append, Nat.zero_add, Nat.reduceAdd, List.length_map, Int.toNat_natCast, gW0, gW1, gW2, gW3] at h0
          have e1 : (List.take m (List.take m (R.map encW) ++ List.replicate (R.length - m) [Value.int .i64 0, .string ⟨[].toArray⟩, .string ⟨[].toArray⟩, .int .i64 0])) = (filt p t l).map encW := by
            rw [List.take_append_of_le_length (by simp; omega), List.take_take, Nat.min_self, ← List.map_take, htk]
          rw [e1] at h0
          refine ⟨v9, rfl, h0, fun k hk => ?_, hr.mod⟩
          rcases hr.own _ (List.mem_cons_self ..) rfl k hk with h | h
          · exact h
          · simp at h
  · refine ⟨by omega, by omega, ⟨i + 1, x, rfl, by omega, ?_⟩, by omega⟩
    rw [any_snoc _ l i (by omega), hno, Bool.false_or]
    simp only [sameP, decide_eq_false_iff_not]
    exact h2
  · have : i = l.length := by omega
    subst this
    rw [List.take_length] at hno
    rw [any_filt hno]
    refine ⟨u, rfl, hr.at_ 1 rfl, fun k hk => ?_, hr.mod⟩
    rcases hr.own _ (List.mem_cons_of_mem _ (List.mem_cons_self ..)) rfl k hk with h | h
    · exact h
    · simp at h
end Go.Proofs.YtkalmhdckoocbaaDoor
