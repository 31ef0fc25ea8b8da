/-
  Sessions: what the reference sends, lands, and what it does when a client comes. By an AI agent.
-/
import Derived.Test.YtkalmhdckoocbaaDoorNe
import Derived.Test.YtkalmhdckoocbaaDoorSxP
set_option linter.unusedSimpArgs false
set_option linter.unusedVariables false
namespace Go.Proofs.YtkalmhdckoocbaaDoor
open Go.Sx

theorem apart_ro {ρ : List V} {es : List Ent} (h : ∀ e ∈ es, e.wr = false) : Apart ρ es :=
  List.Pairwise.imp_of_mem (fun {a b} ha hb _ hw => by rcases hw with hw | hw; rw [h a ha] at hw; cases hw; rw [h b hb] at hw; cases hw) (List.pairwise_of_forall (R := fun _ _ => True) (fun _ _ => trivial))
def pk0 (n p : List UInt8) : Pk := (false, 0, 0, n, p)
def pk1 (f : Fl) : Pk := (true, 1, f.1, f.2.1, f.2.2)
def sendR (s : Ses) (n p : List UInt8) (q : Int) : Ses × List Pk :=
  if q = 0 then (s, if s.on = true then [pk0 n p] else [])
  else if ((¬ s.on = true) ∧ s.clean = true) ∨ (s.qu.length : Int) = 6 then (s, []) else flyS { s with qu := s.qu ++ [(0, n, p)] }
def landL (l : List Fl) (id : Int) : List Fl := l.filter fun f => !(idIs id f)
def landR (s : Ses) (id : Int) : Ses × List Pk := flyS { s with fl := landL s.fl id }
def comeR (s : Ses) : Ses × List Pk := ((flyS { s with on := true }).1, s.fl.map pk1 ++ (flyS { s with on := true }).2)

theorem fromS_u {n : Nat} {s : Ses} {u v : Value} : fromS n s u v u s.fl := fun k hk => .inr (.inl hk)
theorem fromS_v {n : Nat} {s : Ses} {u v : Value} : fromS n s u v v s.qu := fun k hk => .inr (.inr hk)
theorem gone_of {ρ : List V} {g : List Nat} {i : Nat} (hi : i ∈ g) {k : Nat} (h : blockOf (ρ.getD i (.i 0)).toV k) : k ∈ goneOf ρ g := List.mem_flatMap.2 ⟨i, hi, by rw [h]; simp⟩
/-- A session that comes from a call, with slices of another session. -/
theorem fromS_via {n m : Nat} {s t : Ses} {u v u1 v1 x : Value} {l : List Fl} (h : fromS m t u1 v1 x l) (hnm : n ≤ m) (hu : fromS n s u v u1 t.fl) (hv : fromS n s u v v1 t.qu) : fromS n s u v x l := fun k hk => by
  rcases h k hk with h1 | h1 | h1
  · exact .inl (Nat.le_trans hnm h1)
  · exact hu k h1
  · exact hv k h1

set_option maxHeartbeats 1000000 in
theorem c_SendOf (w : World) (s : Ses) (u v : Value) (n p : List UInt8) (q : Int) (hu : readsF w u s.fl) (hv : readsF w v s.qu) (hn : 1 ≤ s.next ∧ s.next ≤ 65535) (hl1 : s.fl.length < 100000) (hl2 : s.qu.length < 100000) : Calls Tryd.prog 43 #[sesV s u v, .string ⟨n.toArray⟩, .string ⟨p.toArray⟩, .int .i64 q] w
    fun e w' => gotSP w w' s u v e (sendR s n p q).1 (sendR s n p q).2 := by
  refine as_called (run_tree3 (ρ := [.s s.cl, .b s.on, .b s.clean, .v u, .r (s.fl.map encF), .v v, .r (s.qu.map encF), .i s.next, .s n, .s p, .i q]) sxE_ok Tryd.func43 tree_dragomanref_SendOf rfl rfl (Rel.start2 (by simp [Ent.holds, Ent.wr, hu, hv, X.ev])) rfl rfl ?_) rfl
  simp only [Tree.goal, X.P, X.ev, V.toI_i, V.toB_b, V.toS_s, V.toR_r, V.toV_v, V.toN_n, V.toL_l, SV.ev, CV.ev, Sc.ev, List.getD_cons_zero, List.getD_cons_succ, List.getElem?_cons_zero, List.getElem?_cons_succ, List.map_cons, List.map_nil, List.length_cons, List.length_nil, List.cons_append, List.nil_append, Nat.zero_add, Nat.reduceAdd, List.length_map, Int.toNat_natCast, gF0, gF1, gF2, List.nil_append]
  intro b1 b2
  refine ⟨fun h0 => ⟨fun h1 v1 o1 w' hr => ?_, fun h1 w' hr => ?_⟩, fun h0 => ⟨fun h1 w' hr => ?_, fun h1 v1 o1 => ⟨by omega, fun v2 o2 v3 o3 => ⟨by omega, fun v4 o4 w1 hr => ?_⟩⟩⟩⟩
  · rw [sendR, if_pos h0, if_pos h1]
    exact ⟨u, v, v1, rfl, hr.at_ 4 rfl, hr.at_ 5 rfl, (hr.at_ 0 rfl).reads, fromS_u, fromS_v, fun k hk => by simpa using o1 k hk, hr.mod⟩
  · rw [sendR, if_pos h0, if_neg h1]
    exact ⟨u, v, _, rfl, hr.at_ 4 rfl, hr.at_ 5 rfl, reads_nil _ _, fromS_u, fromS_v, fun k hk => by simp [blockOf, Value.ownBlock] at hk, hr.mod⟩
  · rw [sendR, if_neg h0, if_pos h1]
    exact ⟨u, v, _, rfl, hr.at_ 4 rfl, hr.at_ 5 rfl, reads_nil _ _, fromS_u, fromS_v, fun k hk => by simp [blockOf, Value.ownBlock] at hk, hr.mod⟩
  · rw [sendR, if_neg h0, if_neg h1]
    generalize hr2 : flyS { s with qu := s.qu ++ [(0, n, p)] } = rr
    obtain ⟨r, out⟩ := rr
    have hv4 : readsF w1 v4 (s.qu ++ [(0, n, p)]) := by
      have h4 := (hr.at_ 0 rfl).reads
      simp only [Tree.goal, X.P, X.ev, V.toI_i, V.toB_b, V.toS_s, V.toR_r, V.toV_v, V.toN_n, V.toL_l, SV.ev, CV.ev, Sc.ev, List.getD_cons_zero, List.getD_cons_succ, List.getElem?_cons_zero, List.getElem?_cons_succ, List.map_cons, List.map_nil, List.length_cons, List.length_nil, List.cons_append, List.nil_append, Nat.zero_add, Nat.reduceAdd, List.nil_append] at h4
      rw [readsF, List.map_append]
      exact h4
    have hc := c_FlyOf w1 { s with qu := s.qu ++ [(0, n, p)] } u v4 (hr.at_ 5 rfl) hv4 hn (by simp; omega) (by simp; omega)
    rw [hr2] at hc
    refine hc.mono ?_
    rintro e w2 ⟨u', v', x, rfl, g1, g2, g3, g4, g5, g6, gm⟩
    have src : ∀ (y : Value) (l : List Fl), fromS w1.heap.size { s with qu := s.qu ++ [(0, n, p)] } u v4 y l → fromS w.heap.size s u v y l := fun y l h => fromS_via h hr.mod.size fromS_u (fromS_own fun k hk => by simpa using o4 k hk)
    refine ⟨[.s r.cl, .b r.on, .b r.clean, .v u', .r (r.fl.map encF), .v v', .r (r.qu.map encF), .i r.next, .v x, .r (out.map encP)], rfl, rfl, gm.mono (by simp), List.forall_mem_nil _, List.forall_mem_cons.2 ⟨⟨g1, fun k hk => ?_⟩, List.forall_mem_cons.2 ⟨⟨g2, fun k hk => ?_⟩, List.forall_mem_cons.2 ⟨⟨g3, fun k hk => .inl (g6 k hk.2)⟩, List.forall_mem_nil _⟩⟩⟩, apart_ro (by simp [Ent.wr]), ?_⟩
    · rcases g4 k hk with h2 | h2 | h2
      · exact .inl h2
      · exact .inr (.inl ⟨rfl, _, List.mem_of_getElem? (i := 5) rfl, rfl, h2⟩)
      · exact .inr (.inr (gone_of (List.mem_singleton.2 rfl) h2.2))
    · rcases g5 k hk with h2 | h2 | h2
      · exact .inl h2
      · exact .inr (.inl ⟨rfl, _, List.mem_of_getElem? (i := 5) rfl, rfl, h2⟩)
      · exact .inr (.inr (gone_of (List.mem_singleton.2 rfl) h2.2))
    · simp only [Tree.goal, X.P, X.ev, V.toI_i, V.toB_b, V.toS_s, V.toR_r, V.toV_v, V.toN_n, V.toL_l, SV.ev, CV.ev, Sc.ev, List.getD_cons_zero, List.getD_cons_succ, List.getElem?_cons_zero, List.getElem?_cons_succ, List.map_cons, List.map_nil, List.length_cons, List.length_nil, List.cons_append, List.nil_append, Nat.zero_add, Nat.reduceAdd]
      intro w3 hr3
      exact ⟨u', v', x, rfl, hr3.at_ 0 rfl, hr3.at_ 1 rfl, hr3.at_ 2 rfl, src _ _ g4, src _ _ g5, fun k hk => Nat.le_trans hr.mod.size (g6 k hk), hr3.mod⟩
set_option maxHeartbeats 1000000 in
theorem c_LandedOf (w : World) (s : Ses) (u v : Value) (q : Int) (hu : readsF w u s.fl) (hv : readsF w v s.qu) (hn : 1 ≤ s.next ∧ s.next ≤ 65535) (hl1 : s.fl.length < 100000) (hl2 : s.qu.length < 100000) : Calls Tryd.prog 44 #[sesV s u v, .int .i64 q] w
    fun e w' => gotSP w w' s u v e (landR s q).1 (landR s q).2 := by
  refine as_called (run_tree3 (ρ := [.s s.cl, .b s.on, .b s.clean, .v u, .r (s.fl.map encF), .v v, .r (s.qu.map encF), .i s.next, .i q]) sxE_ok Tryd.func44 tree_dragomanref_LandedOf rfl rfl (Rel.start2 (by simp [Ent.holds, Ent.wr, hu, hv, X.ev])) rfl rfl ?_) rfl
  simp only [Tree.goal, X.P, X.ev, V.toI_i, V.toB_b, V.toS_s, V.toR_r, V.toV_v, V.toN_n, V.toL_l, SV.ev, CV.ev, Sc.ev, List.getD_cons_zero, List.getD_cons_succ, List.getElem?_cons_zero, List.getElem?_cons_succ, List.map_cons, List.map_nil, List.length_cons, List.length_nil, List.cons_append, List.nil_append, Nat.zero_add, Nat.reduceAdd, List.length_map, Int.toNat_natCast, gF0, gF1, gF2, List.nil_append]
  intro b1 b2
  refine ⟨fun vs => ∃ (i : Nat) (x : Value), vs = [.v x, .r ((landL (s.fl.take i) q).map encF), .i i] ∧ i ≤ s.fl.length ∧ ∀ k, blockOf x k → w.heap.size ≤ k, fun vs => s.fl.length - (vs.getD 2 (.i 0)).toI.toNat, ⟨0, _, by simp [landL]; rfl, by omega, fun k hk => by simp [blockOf, Value.ownBlock] at hk⟩, ?_⟩
  rintro _ - ⟨i, x, rfl, hi, hx⟩
  have hlen : (landL (s.fl.take i) q).length ≤ i := Nat.le_trans (List.length_filter_le _ _) (by simp; omega)
  simp only [Tree.goal, X.P, X.ev, V.toI_i, V.toB_b, V.toS_s, V.toR_r, V.toV_v, V.toN_n, V.toL_l, SV.ev, CV.ev, Sc.ev, List.getD_cons_zero, List.getD_cons_succ, List.getElem?_cons_zero, List.getElem?_cons_succ, List.map_cons, List.map_nil, List.length_cons, List.length_nil, List.cons_append, List.nil_append, Nat.zero_add, Nat.reduceAdd, List.length_map, Int.toNat_natCast, gF0, gF1, gF2, List.nil_append]
  refine ⟨fun h1 => ⟨by omega, ⟨fun h2 v1 o1 => ⟨by omega, fun v2 o2 => ⟨by omega, by omega, ⟨i + 1, v2, ?_, by omega, fun k hk => by simpa using o2 k hk⟩, by omega⟩⟩, fun h2 => ⟨by omega, by omega, ⟨i + 1, x, ?_, by omega, hx⟩, by omega⟩⟩⟩, fun h1 w1 hr => ?_⟩
  · have : landL (s.fl.take (i + 1)) q = landL (s.fl.take i) q ++ [s.fl.getD i fD] := by
      rw [takeF _ i (by omega), landL, List.filter_append]
      simp only [landL, List.filter_cons, List.filter_nil, idIs, decide_eq_false h2]; rfl
    rw [this]; simp [encF]
  · have : landL (s.fl.take (i + 1)) q = landL (s.fl.take i) q := by
      rw [takeF _ i (by omega), landL, List.filter_append]
      simp only [landL, List.filter_cons, List.filter_nil, idIs, decide_eq_true (Classical.not_not.1 h2)]; simp
    rw [this]; rfl
  · have hil : i = s.fl.length := by omega
    subst hil
    rw [List.take_length] at hlen hr
    rw [landR]
    generalize hr2 : flyS { s with fl := landL s.fl q } = rr
    obtain ⟨r, out⟩ := rr
    have hv4 : readsF w1 x (landL s.fl q) := (hr.at_ 0 rfl).reads
    have hc := c_FlyOf w1 { s with fl := landL s.fl q } x v hv4 (hr.at_ 5 rfl) hn (by simp; omega) (by simp; omega)
    rw [hr2] at hc
    refine hc.mono ?_
    rintro e w2 ⟨u', v', y, rfl, g1, g2, g3, g4, g5, g6, gm⟩
    have src : ∀ (y : Value) (l : List Fl), fromS w1.heap.size { s with fl := landL s.fl q } x v y l → fromS w.heap.size s u v y l := fun y l h => fromS_via h hr.mod.size (fromS_own hx) fromS_v
    refine ⟨[.s r.cl, .b r.on, .b r.clean, .v u', .r (r.fl.map encF), .v v', .r (r.qu.map encF), .i r.next, .v y, .r (out.map encP)], rfl, rfl, gm.mono (by simp), List.forall_mem_nil _, List.forall_mem_cons.2 ⟨⟨g1, fun k hk => ?_⟩, List.forall_mem_cons.2 ⟨⟨g2, fun k hk => ?_⟩, List.forall_mem_cons.2 ⟨⟨g3, fun k hk => .inl (g6 k hk.2)⟩, List.forall_mem_nil _⟩⟩⟩, apart_ro (by simp [Ent.wr]), ?_⟩
    · rcases g4 k hk with h2 | h2 | h2
      · exact .inl h2
      · exact .inr (.inr (gone_of (List.mem_singleton.2 rfl) h2.2))
      · exact .inr (.inl ⟨rfl, _, List.mem_of_getElem? (i := 5) rfl, rfl, h2⟩)
    · rcases g5 k hk with h2 | h2 | h2
      · exact .inl h2
      · exact .inr (.inr (gone_of (List.mem_singleton.2 rfl) h2.2))
      · exact .inr (.inl ⟨rfl, _, List.mem_of_getElem? (i := 5) rfl, rfl, h2⟩)
    · simp only [Tree.goal, X.P, X.ev, V.toI_i, V.toB_b, V.toS_s, V.toR_r, V.toV_v, V.toN_n, V.toL_l, SV.ev, CV.ev, Sc.ev, List.getD_cons_zero, List.getD_cons_succ, List.getElem?_cons_zero, List.getElem?_cons_succ, List.map_cons, List.map_nil, List.length_cons, List.length_nil, List.cons_append, List.nil_append, Nat.zero_add, Nat.reduceAdd]
      intro w3 hr3
      exact ⟨u', v', y, rfl, hr3.at_ 0 rfl, hr3.at_ 1 rfl, hr3.at_ 2 rfl, src _ _ g4, src _ _ g5, fun k hk => Nat.le_trans hr.mod.size (g6 k hk), hr3.mod⟩
theorem flyS_out (s : Ses) : (flyS s).2.length ≤ s.qu.length := by have := (flyR_len s.on s.qu s.fl s.next []).2.2; simp only [List.length_nil, Nat.zero_add] at this; exact this
set_option maxHeartbeats 1000000 in
theorem c_ComeOf (w : World) (s : Ses) (u v : Value) (hu : readsF w u s.fl) (hv : readsF w v s.qu) (hn : 1 ≤ s.next ∧ s.next ≤ 65535) (hl1 : s.fl.length < 100000) (hl2 : s.qu.length < 100000) : Calls Tryd.prog 45 #[sesV s u v] w
    fun e w' => gotSP w w' s u v e (comeR s).1 (comeR s).2 := by
  refine as_called (run_tree3 (ρ := [.s s.cl, .b s.on, .b s.clean, .v u, .r (s.fl.map encF), .v v, .r (s.qu.map encF), .i s.next]) sxE_ok Tryd.func45 tree_dragomanref_ComeOf rfl rfl (Rel.start2 (by simp [Ent.holds, Ent.wr, hu, hv, X.ev])) rfl rfl ?_) rfl
  simp only [Tree.goal, X.P, X.ev, V.toI_i, V.toB_b, V.toS_s, V.toR_r, V.toV_v, V.toN_n, V.toL_l, SV.ev, CV.ev, Sc.ev, List.getD_cons_zero, List.getD_cons_succ, List.getElem?_cons_zero, List.getElem?_cons_succ, List.map_cons, List.map_nil, List.length_cons, List.length_nil, List.cons_append, List.nil_append, Nat.zero_add, Nat.reduceAdd, List.length_map, Int.toNat_natCast, gF0, gF1, gF2, List.nil_append]
  intro b1 b2
  refine ⟨fun vs => ∃ (i : Nat) (x : Value), vs = [.v x, .r (((s.fl.take i).map pk1).map encP), .i i] ∧ i ≤ s.fl.length ∧ ∀ k, blockOf x k → w.heap.size ≤ k, fun vs => s.fl.length - (vs.getD 2 (.i 0)).toI.toNat, ⟨0, _, by simp; rfl, by omega, fun k hk => by simp [blockOf, Value.ownBlock] at hk⟩, ?_⟩
  rintro _ - ⟨i, x, rfl, hi, hx⟩
  simp only [Tree.goal, X.P, X.ev, V.toI_i, V.toB_b, V.toS_s, V.toR_r, V.toV_v, V.toN_n, V.toL_l, SV.ev, CV.ev, Sc.ev, List.getD_cons_zero, List.getD_cons_succ, List.getElem?_cons_zero, List.getElem?_cons_succ, List.map_cons, List.map_nil, List.length_cons, List.length_nil, List.cons_append, List.nil_append, Nat.zero_add, Nat.reduceAdd, List.length_map, Int.toNat_natCast, gF0, gF1, gF2, List.nil_append]
  refine ⟨fun h1 => ⟨by omega, fun b3 v1 o1 => ⟨by simp only [List.length_cons, List.length_nil, List.length_take]; omega, fun v2 o2 => ⟨by omega, by omega, ⟨i + 1, v2, ?_, by omega, fun k hk => by simpa using o2 k hk⟩, by omega⟩⟩⟩, fun h1 w1 hr => ?_⟩
  · rw [takeF _ i (by omega)]; simp [encP, pk1]
  · have hil : i = s.fl.length := by omega
    subst hil
    rw [List.take_length] at hr
    rw [comeR]
    have ho := flyS_out { s with on := true }
    generalize hr2 : flyS { s with on := true } = rr at ho
    obtain ⟨r, out⟩ := rr
    have hc := c_FlyOf w1 { s with on := true } u v (hr.at_ 4 rfl) (hr.at_ 5 rfl) hn (by simp; omega) (by simp; omega)
    rw [hr2] at hc
    refine hc.mono ?_
    rintro e w2 ⟨u', v', y, rfl, g1, g2, g3, g4, g5, g6, gm⟩
    have src : ∀ (y : Value) (l : List Fl), fromS w1.heap.size { s with on := true } u v y l → fromS w.heap.size s u v y l := fun y l h => fromS_via h hr.mod.size fromS_u fromS_v
    refine ⟨[.s r.cl, .b r.on, .b r.clean, .v u', .r (r.fl.map encF), .v v', .r (r.qu.map encF), .i r.next, .v y, .r (out.map encP)], rfl, rfl, gm.mono (by simp), List.forall_mem_nil _, List.forall_mem_cons.2 ⟨⟨g1, fun k hk => ?_⟩, List.forall_mem_cons.2 ⟨⟨g2, fun k hk => ?_⟩, List.forall_mem_cons.2 ⟨⟨g3, fun k hk => .inl (g6 k hk.2)⟩, List.forall_mem_nil _⟩⟩⟩, apart_ro (by simp [Ent.wr]), ?_⟩
    · rcases g4 k hk with h2 | h2 | h2
      · exact .inl h2
      · exact .inr (.inl ⟨rfl, _, List.mem_of_getElem? (i := 4) rfl, rfl, h2⟩)
      · exact .inr (.inl ⟨rfl, _, List.mem_of_getElem? (i := 5) rfl, rfl, h2⟩)
    · rcases g5 k hk with h2 | h2 | h2
      · exact .inl h2
      · exact .inr (.inl ⟨rfl, _, List.mem_of_getElem? (i := 4) rfl, rfl, h2⟩)
      · exact .inr (.inl ⟨rfl, _, List.mem_of_getElem? (i := 5) rfl, rfl, h2⟩)
    · simp only [Tree.goal, X.P, X.ev, V.toI_i, V.toB_b, V.toS_s, V.toR_r, V.toV_v, V.toN_n, V.toL_l, SV.ev, CV.ev, Sc.ev, List.getD_cons_zero, List.getD_cons_succ, List.getElem?_cons_zero, List.getElem?_cons_succ, List.map_cons, List.map_nil, List.length_cons, List.length_nil, List.cons_append, List.nil_append, Nat.zero_add, Nat.reduceAdd, List.length_map, Int.toNat_natCast, gF0, gF1, gF2]
      refine fun b4 => ⟨by simp only [List.length_take] at ho ⊢; omega, fun v3 o3 w3 hr3 => ?_⟩
      have h0 := (hr3.at_ 0 rfl).reads
      exact ⟨u', v', v3, rfl, hr3.at_ 2 rfl, hr3.at_ 3 rfl, by simpa [List.map_append, X.ev, readsP] using h0, src _ _ g4, src _ _ g5, fun k hk => by simpa using o3 k hk, hr3.mod⟩
end Go.Proofs.YtkalmhdckoocbaaDoor
