/-
  What is kept: a topic is put. By an AI agent.
-/
import Derived.Test.YtkalmhdckoocbaaDoorPb
import Derived.Test.YtkalmhdckoocbaaDoorIk
import Derived.Test.YtkalmhdckoocbaaDoorIl
set_option linter.unusedSimpArgs false
set_option linter.unusedVariables false
namespace Go.Proofs.YtkalmhdckoocbaaDoor
open Go.Sx

theorem nil_rowsK {v : Value} (hn : (match v with | .slice none _ _ => true | _ => false) = true) {w : World} {ks : List Kd} {rows : List (List Value)} (h : reads w v ks rows) : rows = [] := by
  obtain ⟨_, a, cap, rfl, _, h2⟩ := h
  refine Classical.byContradiction fun hne => ?_
  obtain ⟨ad, rfl, _⟩ := h2 hne
  simp at hn
theorem c_CloneK (w : World) (v : Value) (l : List Kp) (hv : readsK w v l) (hl : l.length < 1000000000) : Calls Tryd.prog 116 #[sc1 v] w
    fun e w' => ∃ v', e = .returned (sc1 v') ∧ ownsK w' v' l ∧ (∀ k, blockOf v' k → w.heap.size ≤ k) ∧ Mod [] w w' := by
  refine as_called (run_tree2 (ρ := [.v v, .r (l.map encK)]) sxE_ok Tryd.func116 tree_slices_Clone_api_Kept_api_Kept rfl rfl (Rel.start2 (by simp [Ent.holds, Ent.wr, hv, X.ev])) rfl rfl ?_) rfl
  simp only [Tree.goal, X.P, X.ev, V.toI_i, V.toB_b, V.toS_s, V.toR_r, V.toV_v, V.toN_n, V.toL_l, SV.ev, CV.ev, Sc.ev, List.getD_cons_zero, List.getD_cons_succ, List.getElem?_cons_zero, List.getElem?_cons_succ, List.map_cons, List.map_nil, List.length_cons, List.length_nil, List.cons_append, List.nil_append, Nat.zero_add, Nat.reduceAdd, List.length_map, List.nil_append]
  refine ⟨fun h w' hr => ?_, fun h v1 => ⟨by simp only [Int.natCast_zero]; omega, fun v2 w' hr => ?_⟩⟩
  · have hn : l = [] := List.map_eq_nil_iff.1 (nil_rowsK h hv)
    subst hn
    exact ⟨_, rfl, hr.at_ 0 rfl, hr.fresh 0 rfl, hr.mod⟩
  · exact ⟨v2, rfl, hr.at_ 0 rfl, hr.fresh 0 rfl, hr.mod⟩
theorem c_InsK (w : World) (s v : Value) (l : List Kp) (x : Kp) (i : Nat) (hs : ownsK w s l) (hv : ownsK w v [x]) (hne : ∀ k, blockOf s k → blockOf v k → False) (hi : i ≤ l.length) (hl : l.length < 1000000) :
    Calls Tryd.prog 118 #[sc1 s, .int .i64 i, sc1 v] w
    fun e w' => ∃ v', e = .returned (sc1 v') ∧ ownsK w' v' (l.take i ++ [x] ++ l.drop i) ∧ (∀ k, blockOf v' k → blockOf s k ∨ w.heap.size ≤ k) ∧ Mod s.ownBlock.toList w w' := by
  rw [hs.reads.sc1, hv.reads.sc1]
  refine (c_InsertK w s v i _ _ hs hv hne (by simpa using hi) (by simp; omega)).mono ?_
  rintro e w' ⟨v', rfl, g1, g2, g3⟩
  refine ⟨v', by rw [g1.reads.sc1], ?_, g2, Mod.of_grown g3 fun k hk => .inl (Option.mem_toList.2 hk)⟩
  rw [ownsK, List.map_append, List.map_append, List.map_take, List.map_drop]
  exact g1
theorem c_DelK (w : World) (s : Value) (l : List Kp) (i : Nat) (hs : ownsK w s l) (hi : i < l.length) :
    Calls Tryd.prog 117 #[sc1 s, .int .i64 i, .int .i64 ((i : Int) + 1)] w
    fun e w' => ∃ v', e = .returned (sc1 v') ∧ ownsK w' v' (l.take i ++ l.drop (i + 1)) ∧ (∀ k, blockOf v' k → blockOf s k ∨ w.heap.size ≤ k) ∧ Mod s.ownBlock.toList w w' := by
  rw [hs.reads.sc1]
  have hc := c_DeleteK w s i (i + 1) _ hs (by omega) (by rw [List.length_map]; omega)
  rw [show ((i + 1 : Nat) : Int) = (i : Int) + 1 by omega] at hc
  refine hc.mono ?_
  rintro e w' ⟨v', rfl, g1, g2, g3⟩
  refine ⟨v', by rw [g1.reads.sc1], ?_, g2, Mod.of_grown g3 fun k hk => .inl (Option.mem_toList.2 hk)⟩
  rw [ownsK, List.map_append, List.map_take, List.map_drop]
  exact g1

theorem gone_ofK {ρ : List V} {g : List Nat} {i : Nat} (hi : i ∈ g) {k : Nat} (h : blockOf (ρ.getD i (.i 0)).toV k) : k ∈ goneOf ρ g := List.mem_flatMap.2 ⟨i, hi, by rw [h]; simp⟩
/-- A slice is new. -/
def newK (n : Nat) (u : Value) : Prop := ∀ k, blockOf u k → n ≤ k
theorem newK_nil (n : Nat) : newK n (.slice none 0 0) := fun k hk => by simp [blockOf, Value.ownBlock] at hk
theorem readsK_nil (w : World) : readsK w (.slice none 0 0) [] := ⟨by simp, none, 0, rfl, ⟨fun _ => rfl, Nat.le_refl _⟩, fun h => absurd rfl h⟩
/-- What is kept comes, and an error. -/
def gotK (w w' : World) (e : Ending) (r : List Kp) (er : Int) : Prop := ∃ v', e = .returned (.tuple #[sc1 v', .int .i64 er]) ∧ readsK w' v' r ∧ newK w.heap.size v' ∧ Mod [] w w'
def minV (v : Int) : Int := if 16777215 < v + 1 then 16777215 else v + 1
def rawK (l : List Kp) (n p : List UInt8) : List Kp × Int :=
  if 200 < (p.length : Int) then ([], 2)
  else if hasK l n = true ∧ p = [] then (l.take (idx l n) ++ l.drop (idx l n + 1), 0)
  else if hasK l n = true then (l.set (idx l n) ((l.getD (idx l n) kD).1, p, minV (l.getD (idx l n) kD).2.2), 0)
  else if p = [] then (l, 0)
  else if (l.length : Int) = 16 then ([], 2) else (l.take (idx l n) ++ [((n, p, 1) : Kp)] ++ l.drop (idx l n), 0)
theorem idx_le (l : List Kp) (n : List UInt8) : idx l n ≤ l.length := List.length_filter_le _ _
theorem set_rowK (R : List Kp) (m : Nat) (x : Kp) : (R.map encK).set m [.string ⟨x.1.toArray⟩, .string ⟨x.2.1.toArray⟩, .int .i64 x.2.2] = (R.set m x).map encK := by rw [List.map_set]; rfl
theorem getD_setK {R : List Kp} {m : Nat} {x : Kp} (h : m < R.length) : (R.set m x).getD m kD = x := by
  rw [List.getD_eq_getElem?_getD, List.getElem?_set_self h]; rfl
set_option maxHeartbeats 1000000 in
theorem c_RawK (w : World) (v : Value) (l : List Kp) (n p : List UInt8) (hv : readsK w v l) (hs : chkK l = 0) : Calls Tryd.prog 94 #[sc1 v, .string ⟨n.toArray⟩, .string ⟨p.toArray⟩] w
    fun e w' => gotK w w' e (rawK l n p).1 (rawK l n p).2 := by
  obtain ⟨k1, k2, k3⟩ := chkK_iff.1 hs
  refine as_called (run_tree2 (ρ := [.v v, .r (l.map encK), .s n, .s p]) sxE_ok Tryd.func94 tree_keep_Raw rfl rfl (Rel.start2 (by simp [Ent.holds, Ent.wr, hv, X.ev])) rfl rfl ?_) rfl
  simp only [Tree.goal, X.P, X.ev, V.toI_i, V.toB_b, V.toS_s, V.toR_r, V.toV_v, V.toN_n, V.toL_l, SV.ev, CV.ev, Sc.ev, List.getD_cons_zero, List.getD_cons_succ, List.getElem?_cons_zero, List.getElem?_cons_succ, List.map_cons, List.map_nil, List.length_cons, List.length_nil, List.cons_append, List.nil_append, Nat.zero_add, Nat.reduceAdd, List.length_map, Int.toNat_natCast, gK0, gK1, gK2]
  refine ⟨fun h w' hr => ?_, fun h w1 hr => ?_⟩
  · rw [rawK, if_pos h]
    exact ⟨_, rfl, readsK_nil _, newK_nil _, hr.mod⟩
  refine (c_CloneK w1 v l (hr.at_ 1 rfl) (by omega)).mono ?_
  rintro e w2 ⟨u, rfl, a1, f1, m1⟩
  refine ⟨[.v u, .r (l.map encK)], rfl, rfl, m1, List.forall_mem_nil _, List.forall_mem_cons.2 ⟨⟨a1, fun k hk => .inl (f1 k hk)⟩, List.forall_mem_nil _⟩, apart_one, ?_⟩
  clear hr a1 f1 m1
  simp only [Tree.goal, X.P, X.ev, V.toI_i, V.toB_b, V.toS_s, V.toR_r, V.toV_v, V.toN_n, V.toL_l, SV.ev, CV.ev, Sc.ev, List.getD_cons_zero, List.getD_cons_succ, List.getElem?_cons_zero, List.getElem?_cons_succ, List.map_cons, List.map_nil, List.length_cons, List.length_nil, List.cons_append, List.nil_append, Nat.zero_add, Nat.reduceAdd, List.length_map, Int.toNat_natCast, gK0, gK1, gK2]
  refine ⟨[.i (idx l n), .b (hasK l n)], rfl, fun _ w' hr => c_Find w' u l n (hr.at_ 0 rfl).reads k3 (by omega), ?_⟩
  simp only [Tree.goal, X.P, X.ev, V.toI_i, V.toB_b, V.toS_s, V.toR_r, V.toV_v, V.toN_n, V.toL_l, SV.ev, CV.ev, Sc.ev, List.getD_cons_zero, List.getD_cons_succ, List.getElem?_cons_zero, List.getElem?_cons_succ, List.map_cons, List.map_nil, List.length_cons, List.length_nil, List.cons_append, List.nil_append, Nat.zero_add, Nat.reduceAdd, List.length_map, Int.toNat_natCast, gK0, gK1, gK2]
  rw [rawK, if_neg h]
  refine ⟨fun h1 => ?_, fun h1 => ?_⟩
  · have hlt := (of_decide_eq_true h1.1).1
    rw [if_pos h1]
    refine ⟨by omega, by omega, fun w3 hr => ?_⟩
    refine (c_DelK w3 u l (idx l n) (hr.at_ 0 rfl) hlt).mono ?_
    rintro e w4 ⟨v', rfl, g1, g2, g3⟩
    refine ⟨[.v v', .r ((l.take (idx l n) ++ l.drop (idx l n + 1)).map encK)], rfl, rfl, g3.mono fun k hk => .inl (by simpa [modsOf, goneOf, Value.ownBlock] using hk), List.forall_mem_nil _, List.forall_mem_cons.2 ⟨⟨g1, fun k hk => ?_⟩, List.forall_mem_nil _⟩, apart_one, ?_⟩
    · rcases g2 k hk with h2 | h2
      · exact .inr (.inr (gone_ofK (i := 5) (by simp) h2))
      · exact .inl h2
    · intro w5 hr5
      exact ⟨v', rfl, (hr5.at_ 0 rfl).reads, hr5.fresh 0 rfl, hr5.mod⟩
  rw [if_neg h1]
  refine ⟨fun h2 => ?_, fun h2 => ?_⟩
  · have hlt := (of_decide_eq_true h2).1
    have hm : l.getD (idx l n) kD ∈ l := by
      rw [List.getD_eq_getElem?_getD, List.getElem?_eq_getElem hlt]; exact List.getElem_mem hlt
    obtain ⟨-, -, -, o4, o5⟩ := k2 _ hm
    rw [if_pos h2]
    refine ⟨by omega, by omega, by omega, by omega, by simp only [List.length_set, List.length_map]; omega, fun w3 hr => ?_⟩
    have e1 : (l.map encK).set (idx l n) [Value.string ⟨(l.getD (idx l n) kD).1.toArray⟩, Value.string ⟨p.toArray⟩, Value.int .i64 (l.getD (idx l n) kD).2.2] = (l.set (idx l n) ((l.getD (idx l n) kD).1, p, (l.getD (idx l n) kD).2.2)).map encK := set_rowK l (idx l n) ((l.getD (idx l n) kD).1, p, (l.getD (idx l n) kD).2.2)
    refine ⟨u, rfl, ?_, hr.fresh 0 rfl, hr.mod⟩
    have h0 := (hr.at_ 0 rfl).reads
    simp only [Tree.goal, X.P, X.ev, V.toI_i, V.toB_b, V.toS_s, V.toR_r, V.toV_v, V.toN_n, V.toL_l, SV.ev, CV.ev, Sc.ev, List.getD_cons_zero, List.getD_cons_succ, List.getElem?_cons_zero, List.getElem?_cons_succ, List.map_cons, List.map_nil, List.length_cons, List.length_nil, List.cons_append, List.nil_append, Nat.zero_add, Nat.reduceAdd, List.length_map, Int.toNat_natCast, gK0, gK1, gK2, e1, getD_setK hlt] at h0
    have e2 : ((l.set (idx l n) ((l.getD (idx l n) kD).1, p, (l.getD (idx l n) kD).2.2)).map encK).set (idx l n) [Value.string ⟨(l.getD (idx l n) kD).1.toArray⟩, Value.string ⟨p.toArray⟩, Value.int .i64 (minV (l.getD (idx l n) kD).2.2)] = (l.set (idx l n) ((l.getD (idx l n) kD).1, p, minV (l.getD (idx l n) kD).2.2)).map encK := by
      have := set_rowK (l.set (idx l n) ((l.getD (idx l n) kD).1, p, (l.getD (idx l n) kD).2.2)) (idx l n) ((l.getD (idx l n) kD).1, p, minV (l.getD (idx l n) kD).2.2)
      rw [List.set_set] at this
      exact this
    rw [readsK, ← e2]
    exact h0
  rw [if_neg h2]
  refine ⟨fun h3 w3 hr => ?_, fun h3 => ⟨fun h4 w3 hr => ?_, fun h4 u2 w3 hr => ?_⟩⟩
  · rw [if_pos h3]
    exact ⟨u, rfl, (hr.at_ 0 rfl).reads, hr.fresh 0 rfl, hr.mod⟩
  · rw [if_neg h3, if_pos h4]
    exact ⟨_, rfl, readsK_nil _, newK_nil _, hr.mod⟩
  · rw [if_neg h3, if_neg h4]
    refine (c_InsK w3 u u2 l (n, p, 1) (idx l n) (hr.at_ 1 rfl) (hr.at_ 0 rfl) (fun k h5 h6 => hr.sep.disj (i := 1) (j := 0) rfl rfl (by omega) (.inl rfl) (k := k) h5 h6) (idx_le l n) (by omega)).mono ?_
    rintro e w4 ⟨v', rfl, g1, g2, g3⟩
    refine ⟨[.v v', .r ((l.take (idx l n) ++ [((n, p, 1) : Kp)] ++ l.drop (idx l n)).map encK)], rfl, rfl, g3.mono fun k hk => .inl (by unfold modsOf; exact List.mem_append_right _ (gone_ofK (i := 5) (by simp) (Option.mem_toList.1 hk))), List.forall_mem_nil _, List.forall_mem_cons.2 ⟨⟨g1, fun k hk => ?_⟩, List.forall_mem_nil _⟩, apart_one, ?_⟩
    · rcases g2 k hk with h5 | h5
      · exact .inr (.inr (gone_ofK (i := 5) (by simp) h5))
      · exact .inl h5
    · intro w5 hr5
      exact ⟨v', rfl, (hr5.at_ 0 rfl).reads, hr5.fresh 0 rfl, hr5.mod⟩
end Go.Proofs.YtkalmhdckoocbaaDoor
