/-
  Sessions: packets that are sent; copies of flights; are they what they must be? By an AI agent.
-/
import Derived.Test.YtkalmhdckoocbaaDoorNa
set_option linter.unusedSimpArgs false
set_option linter.unusedVariables false
namespace Go.Proofs.YtkalmhdckoocbaaDoor
open Go.Sx

/-- A packet that a session sends: dup, qos, id, topic, payload. -/
abbrev Pk := Bool × Int × Int × List UInt8 × List UInt8
def encP (p : Pk) : List Value := [.int .i64 3, .bool p.1, .bool false, .bool false, .bool false, .int .i64 p.2.1, .int .i64 p.2.2.1, .int .i64 0, .int .i64 0, .string ⟨([] : List UInt8).toArray⟩, .string ⟨p.2.2.2.1.toArray⟩, .string ⟨p.2.2.2.2.toArray⟩, .slice none 0 0, .slice none 0 0]
abbrev pD : Pk := (false, 0, 0, [], [])
abbrev kP : List Kd := [.int .i64, .bool, .bool, .bool, .bool, .int .i64, .int .i64, .int .i64, .int .i64, .str, .str, .str, .oth, .oth]
abbrev readsP (w : World) (v : Value) (l : List Pk) : Prop := reads w v kP (l.map encP)
theorem reads_nil (w : World) (ks : List Kd) : reads w (.slice none 0 0) ks [] := ⟨by simp, none, 0, rfl, ⟨fun _ => rfl, Nat.le_refl _⟩, fun h => absurd rfl h⟩
theorem gP_at {l : List Pk} {i : Nat} (h : i < l.length) : (l.map encP).getD i [] = encP (l.getD i pD) := by
  simp only [List.getD_eq_getElem?_getD, List.getElem?_map, List.getElem?_eq_getElem h]; rfl
set_option maxHeartbeats 1000000 in
theorem c_SamePacket (w : World) (a b : Pk) : Calls Tryd.prog 115 #[.agg (encP a).toArray, .agg (encP b).toArray] w fun e w' => e = .returned (.bool (decide (a = b))) ∧ Mod [] w w' := by
  refine as_called (run_tree2 (ρ := [.i 3, .b a.1, .b false, .b false, .b false, .i a.2.1, .i a.2.2.1, .i 0, .i 0, .s [], .s a.2.2.2.1, .s a.2.2.2.2, .v (.slice none 0 0), .r [], .v (.slice none 0 0), .r [], .i 3, .b b.1, .b false, .b false, .b false, .i b.2.1, .i b.2.2.1, .i 0, .i 0, .s [], .s b.2.2.2.1, .s b.2.2.2.2, .v (.slice none 0 0), .r [], .v (.slice none 0 0), .r []]) sxE_ok Tryd.func115 tree_dragomanref_SamePacket rfl rfl (Rel.start2 (by
    intro e he
    simp only [List.mem_cons, List.not_mem_nil, or_false] at he
    rcases he with rfl | rfl | rfl | rfl <;> exact ⟨reads_nil _ _, rfl⟩)) rfl rfl ?_) rfl
  simp only [Tree.goal, X.P, X.ev, V.toI_i, V.toB_b, V.toS_s, V.toR_r, V.toV_v, V.toN_n, V.toL_l, SV.ev, CV.ev, Sc.ev, List.getD_cons_zero, List.getD_cons_succ, List.getElem?_cons_zero, List.getElem?_cons_succ, List.map_cons, List.map_nil, List.length_cons, List.length_nil, List.cons_append, List.nil_append, Nat.zero_add, Nat.reduceAdd]
  intro b1 b2
  refine ⟨fun h w' hr => ⟨?_, hr.mod⟩, fun h => ?_⟩
  · rw [decide_eq_false]
    rintro rfl
    simp at h
  · refine ⟨fun vs => ∃ x : V, vs = [x, .i 0], fun vs => 0, ⟨_, rfl⟩, ?_⟩
    rintro _ - ⟨x, rfl⟩
    simp only [Tree.goal, X.P, X.ev, V.toI_i, V.toB_b, V.toS_s, V.toR_r, V.toV_v, V.toN_n, V.toL_l, SV.ev, CV.ev, Sc.ev, List.getD_cons_zero, List.getD_cons_succ, List.getElem?_cons_zero, List.getElem?_cons_succ, List.map_cons, List.map_nil, List.length_cons, List.length_nil, List.cons_append, List.nil_append, Nat.zero_add, Nat.reduceAdd]
    refine ⟨fun h1 => absurd h1 (by omega), fun _ => ?_⟩
    refine ⟨fun vs => ∃ x : V, vs = [x, .i 0], fun vs => 0, ⟨_, rfl⟩, ?_⟩
    rintro _ - ⟨x, rfl⟩
    simp only [Tree.goal, X.P, X.ev, V.toI_i, V.toB_b, V.toS_s, V.toR_r, V.toV_v, V.toN_n, V.toL_l, SV.ev, CV.ev, Sc.ev, List.getD_cons_zero, List.getD_cons_succ, List.getElem?_cons_zero, List.getElem?_cons_succ, List.map_cons, List.map_nil, List.length_cons, List.length_nil, List.cons_append, List.nil_append, Nat.zero_add, Nat.reduceAdd]
    refine ⟨fun h1 => absurd h1 (by omega), fun _ w' hr => ⟨?_, hr.mod⟩⟩
    rw [decide_eq_true]
    obtain ⟨a1, a2, a3, a4, a5⟩ := a
    obtain ⟨c1, c2, c3, c4, c5⟩ := b
    simp at h
    simp only [Prod.mk.injEq]
    refine ⟨?_, ?_, ?_, ?_, ?_⟩ <;> first | exact h.1 | exact h.2.1 | exact h.2.2.1 | exact h.2.2.2.1 | exact h.2.2.2.2 | simp_all
theorem c_SamePackets (w : World) (u v : Value) (a b : List Pk) (hu : readsP w u a) (hv : readsP w v b) (hl : a.length < 1000000000) : Calls Tryd.prog 92 #[sc1 u, sc1 v] w
    fun e w' => e = .returned (.bool (decide (a = b))) ∧ Mod [] w w' := by
  refine as_called (run_tree2 (ρ := [.v u, .r (a.map encP), .v v, .r (b.map encP)]) sxE_ok Tryd.func92 tree_dragomanref_SamePackets rfl rfl (Rel.start2 (by simp [Ent.holds, Ent.wr, hu, hv, X.ev])) rfl rfl ?_) rfl
  simp only [Tree.goal, X.P, X.ev, V.toI_i, V.toB_b, V.toS_s, V.toR_r, V.toV_v, V.toN_n, V.toL_l, SV.ev, CV.ev, Sc.ev, List.getD_cons_zero, List.getD_cons_succ, List.getElem?_cons_zero, List.getElem?_cons_succ, List.map_cons, List.map_nil, List.length_cons, List.length_nil, List.cons_append, List.nil_append, Nat.zero_add, Nat.reduceAdd, List.length_map]
  refine ⟨fun h w' hr => ⟨?_, hr.mod⟩, fun h => ?_⟩
  · rw [decide_eq_false]
    intro e; rw [e] at h; exact h rfl
  · have hlen : a.length = b.length := by omega
    refine ⟨fun vs => ∃ (i : Nat) (x : V), vs = [x, .i i] ∧ i ≤ a.length ∧ ∀ j, j < i → a.getD j pD = b.getD j pD, fun vs => a.length - (vs.getD 1 (.i 0)).toI.toNat, ⟨0, _, rfl, by omega, fun j hj => by omega⟩, ?_⟩
    rintro _ - ⟨i, x, rfl, hi, hall⟩
    simp only [Tree.goal, X.P, X.ev, V.toI_i, V.toB_b, V.toS_s, V.toR_r, V.toV_v, V.toN_n, V.toL_l, SV.ev, CV.ev, Sc.ev, List.getD_cons_zero, List.getD_cons_succ, List.getElem?_cons_zero, List.getElem?_cons_succ, List.map_cons, List.map_nil, List.length_cons, List.length_nil, List.cons_append, List.nil_append, Nat.zero_add, Nat.reduceAdd, List.length_map, Int.toNat_natCast]
    refine ⟨fun h7 => ⟨by omega, by omega, ?_⟩, fun h7 w' hr => ⟨?_, hr.mod⟩⟩
    · rw [gP_at (l := a) (i := i) (by omega), gP_at (l := b) (i := i) (by omega)]
      refine ⟨[.b (decide (a.getD i pD = b.getD i pD))], rfl, fun _ w' _ => as_called (c_SamePacket w' (a.getD i pD) (b.getD i pD)) rfl, ?_⟩
      simp only [Tree.goal, X.P, X.ev, V.toI_i, V.toB_b, V.toS_s, V.toR_r, V.toV_v, V.toN_n, V.toL_l, SV.ev, CV.ev, Sc.ev, List.getD_cons_zero, List.getD_cons_succ, List.getElem?_cons_zero, List.getElem?_cons_succ, List.map_cons, List.map_nil, List.length_cons, List.length_nil, List.cons_append, List.nil_append, Nat.zero_add, Nat.reduceAdd, List.length_map, decide_eq_true_eq]
      refine ⟨fun h8 w' hr => ⟨?_, hr.mod⟩, fun h8 => ⟨by omega, by omega, ⟨i + 1, x, rfl, by omega, fun j hj => ?_⟩, by omega⟩⟩
      · rw [decide_eq_false]
        intro e
        rw [e] at h8
        exact h8 rfl
      · by_cases hji : j = i
        · subst hji
          exact Classical.not_not.1 h8
        · exact hall j (by omega)
    · rw [decide_eq_true]
      refine List.ext_getElem? fun j => ?_
      by_cases hj : j < a.length
      · have := hall j (by omega)
        rw [List.getD_eq_getElem?_getD, List.getD_eq_getElem?_getD, List.getElem?_eq_getElem hj, List.getElem?_eq_getElem (by omega)] at this
        rw [List.getElem?_eq_getElem hj, List.getElem?_eq_getElem (by omega)]
        simpa using this
      · rw [List.getElem?_eq_none (by omega), List.getElem?_eq_none (by omega)]

abbrev ownsF (w : World) (v : Value) (l : List Fl) : Prop := owns w v 73 kF (l.map encF)
theorem nil_rows {v : Value} (hn : (match v with | .slice none _ _ => true | _ => false) = true) {w : World} {ks : List Kd} {rows : List (List Value)} (h : reads w v ks rows) : rows = [] := by
  obtain ⟨_, a, cap, rfl, _, h2⟩ := h
  refine Classical.byContradiction fun hne => ?_
  obtain ⟨ad, rfl, _⟩ := h2 hne
  simp at hn
theorem c_CloneF (w : World) (v : Value) (l : List Fl) (hv : readsF w v l) (hl : l.length < 1000000000) : Calls Tryd.prog 128 #[sc1 v] w
    fun e w' => ∃ v', e = .returned (sc1 v') ∧ ownsF w' v' l ∧ (∀ k, blockOf v' k → w.heap.size ≤ k) ∧ Mod [] w w' := by
  refine as_called (run_tree2 (ρ := [.v v, .r (l.map encF)]) sxE_ok Tryd.func128 tree_slices_Clone_api_Flight_api_Flight rfl rfl (Rel.start2 (by simp [Ent.holds, Ent.wr, hv, X.ev])) rfl rfl ?_) rfl
  simp only [Tree.goal, X.P, X.ev, V.toI_i, V.toB_b, V.toS_s, V.toR_r, V.toV_v, V.toN_n, V.toL_l, SV.ev, CV.ev, Sc.ev, List.getD_cons_zero, List.getD_cons_succ, List.getElem?_cons_zero, List.getElem?_cons_succ, List.map_cons, List.map_nil, List.length_cons, List.length_nil, List.cons_append, List.nil_append, Nat.zero_add, Nat.reduceAdd, List.length_map, List.nil_append]
  refine ⟨fun h w' hr => ?_, fun h v1 => ⟨by simp only [Int.natCast_zero]; omega, fun v2 w' hr => ?_⟩⟩
  · have hn : l = [] := List.map_eq_nil_iff.1 (nil_rows h hv)
    subst hn
    refine ⟨_, rfl, hr.at_ 0 rfl, fun k hk => ?_, hr.mod⟩
    rcases hr.own _ (List.mem_cons_self ..) rfl k hk with h | h
    · exact h
    · simp at h
  · refine ⟨v2, rfl, hr.at_ 0 rfl, fun k hk => ?_, hr.mod⟩
    rcases hr.own _ (List.mem_cons_self ..) rfl k hk with h | h
    · exact h
    · simp at h
/-- No session. -/
def s0 : Ses := ⟨[], false, false, [], [], 0⟩
set_option maxHeartbeats 1000000 in
theorem c_sIs (w : World) (a b : Ses) (u v u' v' x y : Value) (l m : List Pk) (e f : Int) (hu : readsF w u a.fl) (hv : readsF w v a.qu) (hx : readsP w x l) (hu' : readsF w u' b.fl) (hv' : readsF w v' b.qu) (hy : readsP w y m) (hl1 : a.fl.length < 1000000000) (hl2 : a.qu.length < 1000000000) (hl3 : l.length < 1000000000)
    (h1 : e = f) (h2 : a = if f = 0 then b else s0) (h3 : l = if f = 0 then m else []) : Calls Tryd.prog 49 #[sesV a u v, sc1 x, .int .i64 e, .int .i64 f, sesV b u' v', sc1 y] w
    fun e' w' => e' = .returned (.bool true) ∧ Mod [] w w' := by
  refine as_called (run_tree2 (ρ := [.s a.cl, .b a.on, .b a.clean, .v u, .r (a.fl.map encF), .v v, .r (a.qu.map encF), .i a.next, .v x, .r (l.map encP), .i e, .i f, .s b.cl, .b b.on, .b b.clean, .v u', .r (b.fl.map encF), .v v', .r (b.qu.map encF), .i b.next, .v y, .r (m.map encP)]) sxE_ok Tryd.func49 tree_dragomanlaw_sessionIs rfl rfl (Rel.start2 (by simp [Ent.holds, Ent.wr, hu, hv, hx, hu', hv', hy, X.ev])) rfl rfl ?_) rfl
  simp only [Tree.goal, X.P, X.ev, V.toI_i, V.toB_b, V.toS_s, V.toR_r, V.toV_v, V.toN_n, V.toL_l, SV.ev, CV.ev, Sc.ev, List.getD_cons_zero, List.getD_cons_succ, List.getElem?_cons_zero, List.getElem?_cons_succ, List.map_cons, List.map_nil, List.length_cons, List.length_nil, List.cons_append, List.nil_append, Nat.zero_add, Nat.reduceAdd]
  intro b1 b2
  refine ⟨fun h => ?_, fun h => ?_⟩
  · rw [if_neg h] at h2 h3
    refine ⟨[.b true], rfl, fun _ w' hr => ?_, ?_⟩
    · have := c_SameSession w' a s0 u v (.slice none 0 0) (.slice none 0 0) (hr.at_ 3 rfl) (hr.at_ 4 rfl) (reads_nil _ _) (reads_nil _ _) hl1 hl2
      rw [decide_eq_true h2] at this
      exact as_called this rfl
    simp only [Tree.goal, X.P, X.ev, V.toI_i, V.toB_b, V.toS_s, V.toR_r, V.toV_v, V.toN_n, V.toL_l, SV.ev, CV.ev, Sc.ev, List.getD_cons_zero, List.getD_cons_succ, List.getElem?_cons_zero, List.getElem?_cons_succ, List.map_cons, List.map_nil, List.length_cons, List.length_nil, List.cons_append, List.nil_append, Nat.zero_add, Nat.reduceAdd]
    refine ⟨[.b true], rfl, fun _ w' hr => ?_, ?_⟩
    · have := c_SamePackets w' x (.slice none 0 0) l [] (hr.at_ 5 rfl) (reads_nil _ _) hl3
      rw [decide_eq_true h3] at this
      exact as_called this rfl
    simp only [Tree.goal, X.P, X.ev, V.toI_i, V.toB_b, V.toS_s, V.toR_r, V.toV_v, V.toN_n, V.toL_l, SV.ev, CV.ev, Sc.ev, List.getD_cons_zero, List.getD_cons_succ, List.getElem?_cons_zero, List.getElem?_cons_succ, List.map_cons, List.map_nil, List.length_cons, List.length_nil, List.cons_append, List.nil_append, Nat.zero_add, Nat.reduceAdd]
    exact fun w' hr => ⟨by simp [h1], hr.mod⟩
  · rw [if_pos (Classical.not_not.1 h)] at h2 h3
    refine ⟨[.b true], rfl, fun _ w' hr => ?_, ?_⟩
    · have := c_SameSession w' a b u v u' v' (hr.at_ 2 rfl) (hr.at_ 3 rfl) (hr.at_ 5 rfl) (hr.at_ 6 rfl) hl1 hl2
      rw [decide_eq_true h2] at this
      exact as_called this rfl
    simp only [Tree.goal, X.P, X.ev, V.toI_i, V.toB_b, V.toS_s, V.toR_r, V.toV_v, V.toN_n, V.toL_l, SV.ev, CV.ev, Sc.ev, List.getD_cons_zero, List.getD_cons_succ, List.getElem?_cons_zero, List.getElem?_cons_succ, List.map_cons, List.map_nil, List.length_cons, List.length_nil, List.cons_append, List.nil_append, Nat.zero_add, Nat.reduceAdd]
    refine ⟨[.b true], rfl, fun _ w' hr => ?_, ?_⟩
    · have := c_SamePackets w' x y l m (hr.at_ 4 rfl) (hr.at_ 7 rfl) hl3
      rw [decide_eq_true h3] at this
      exact as_called this rfl
    simp only [Tree.goal, X.P, X.ev, V.toI_i, V.toB_b, V.toS_s, V.toR_r, V.toV_v, V.toN_n, V.toL_l, SV.ev, CV.ev, Sc.ev, List.getD_cons_zero, List.getD_cons_succ, List.getElem?_cons_zero, List.getElem?_cons_succ, List.map_cons, List.map_nil, List.length_cons, List.length_nil, List.cons_append, List.nil_append, Nat.zero_add, Nat.reduceAdd]
    exact fun w' hr => ⟨by simp [h1], hr.mod⟩
end Go.Proofs.YtkalmhdckoocbaaDoor
