/-
  Sessions: the calls of sessions. By an AI agent.
-/
import Derived.Test.YtkalmhdckoocbaaDoorNj
set_option linter.unusedSimpArgs false
set_option linter.unusedVariables false
namespace Go.Proofs.YtkalmhdckoocbaaDoor
open Go.Sx

theorem chkS_ok {s : Ses} (h : chkS s = 0) : (1 ≤ s.next ∧ s.next ≤ 65535) ∧ s.fl.length ≤ 3 ∧ s.qu.length ≤ 6 := by
  unfold chkS at h
  split at h
  · split at h
    · exact absurd h (by decide)
    · split at h
      · split at h
        · exact ⟨by assumption, by omega, by omega⟩
        · exact absurd h (by decide)
      · exact absurd h (by assumption)
  · exact absurd h (by decide)
/-- A session comes, all new. -/
def gotM (w w' : World) (e : Ending) (r : Ses) : Prop :=
  ∃ u' v', e = .returned (sesV r u' v') ∧ readsF w' u' r.fl ∧ readsF w' v' r.qu ∧ newV w.heap.size u' ∧ newV w.heap.size v' ∧ Mod [] w w'
theorem c_Off (w : World) (s : Ses) (u v : Value) (hu : readsF w u s.fl) (hv : readsF w v s.qu) (hl1 : s.fl.length < 10000) (hl2 : s.qu.length < 10000) : Calls Tryd.prog 83 #[sesV s u v] w
    fun e w' => gotM w w' e (goR s) := by
  refine as_called (run_tree2 (ρ := [.s s.cl, .b s.on, .b s.clean, .v u, .r (s.fl.map encF), .v v, .r (s.qu.map encF), .i s.next]) sxE_ok Tryd.func83 tree_session_Off rfl rfl (Rel.start2 (by simp [Ent.holds, Ent.wr, hu, hv, X.ev])) rfl rfl ?_) rfl
  simp only [Tree.goal, X.P, X.ev, V.toI_i, V.toB_b, V.toS_s, V.toR_r, V.toV_v, V.toN_n, V.toL_l, SV.ev, CV.ev, Sc.ev, List.getD_cons_zero, List.getD_cons_succ, List.getElem?_cons_zero, List.getElem?_cons_succ, List.map_cons, List.map_nil, List.length_cons, List.length_nil, List.cons_append, List.nil_append, Nat.zero_add, Nat.reduceAdd, List.length_map, Int.toNat_natCast, gF0, gF1, gF2, List.nil_append]
  intro b1 b2 b3 b4 b5
  refine both_same ?_
  intro w1 hr1; refine (c_CloneF w1 u s.fl (hr1.at_ 5 rfl) (by omega)).mono ?_; rintro e w2 ⟨u1, rfl, a1, f1, m1⟩; refine ⟨[.v u1, .r (s.fl.map encF)], rfl, rfl, m1, List.forall_mem_nil _, List.forall_mem_cons.2 ⟨⟨a1, fun k hk => .inl (f1 k hk)⟩, List.forall_mem_nil _⟩, apart_one, ?_⟩; intro w3 hr3; refine (c_CloneF w3 v s.qu (hr3.at_ 7 rfl) (by omega)).mono ?_; rintro e w4 ⟨v1, rfl, a2, f2, m2⟩; refine ⟨[.v v1, .r (s.qu.map encF)], rfl, rfl, m2, List.forall_mem_nil _, List.forall_mem_cons.2 ⟨⟨a2, fun k hk => .inl (f2 k hk)⟩, List.forall_mem_nil _⟩, apart_one, ?_⟩; clear hr1 hr3 m1 m2 a1 a2 f1 f2
  intro b6
  simp only [Tree.goal, X.P, X.ev, V.toI_i, V.toB_b, V.toS_s, V.toR_r, V.toV_v, V.toN_n, V.toL_l, SV.ev, CV.ev, Sc.ev, List.getD_cons_zero, List.getD_cons_succ, List.getElem?_cons_zero, List.getElem?_cons_succ, List.map_cons, List.map_nil, List.length_cons, List.length_nil, List.cons_append, List.nil_append, Nat.zero_add, Nat.reduceAdd, List.length_map, Int.toNat_natCast, gF0, gF1, gF2, List.nil_append]
  refine ⟨fun h1 w5 hr => ?_, fun h1 w5 hr => ?_⟩
  · have e : goR s = ⟨s.cl, false, s.clean, [], [], s.next⟩ := by simp [goR, h1]
    rw [e]
    exact ⟨.slice none 0 0, .slice none 0 0, rfl, reads_nil _ _, reads_nil _ _, newV_nil _, newV_nil _, hr.mod⟩
  · have e : goR s = ⟨s.cl, false, s.clean, s.fl, s.qu, s.next⟩ := by simp [goR, h1]
    rw [e]
    exact ⟨u1, v1, rfl, (hr.at_ 2 rfl).reads, (hr.at_ 1 rfl).reads, hr.fresh 2 rfl, hr.fresh 1 rfl, hr.mod⟩

/-- A session, packets and an error come. -/
def gotE (w w' : World) (e : Ending) (r : Ses) (out : List Pk) (er : Int) : Prop :=
  ∃ u' v' x, e = .returned (.tuple #[sesV r u' v', sc1 x, .int .i64 er]) ∧ readsF w' u' r.fl ∧ readsF w' v' r.qu ∧ readsP w' x out ∧ newV w.heap.size u' ∧ newV w.heap.size v' ∧ newV w.heap.size x ∧ Mod [] w w'
def sendE (s : Ses) (n p : List UInt8) (q : Int) : Int := if chkS s = 0 then if flE (0, n, p) = 0 then if q ≠ 0 ∧ q ≠ 1 then 3 else 0 else flE (0, n, p) else chkS s
def sendC (s : Ses) (n p : List UInt8) (q : Int) : Ses × List Pk := if sendE s n p q = 0 then rawR s n p q else (s0, [])
def landC (s : Ses) (q : Int) : Ses × List Pk := if chkS s = 0 then landR s q else (s0, [])
def comeC (s : Ses) : Ses × List Pk := if chkS s = 0 then comeR s else (s0, [])
def goC (s : Ses) : Ses := if chkS s = 0 then goR s else s0

theorem newV_le {n m : Nat} {x : Value} (h : newV m x) (hm : n ≤ m) : newV n x := fun k hk => Nat.le_trans hm (h k hk)
set_option maxHeartbeats 1000000 in
theorem c_Send (w : World) (s : Ses) (u v : Value) (n p : List UInt8) (q : Int) (hu : readsF w u s.fl) (hv : readsF w v s.qu) (h1 : smallF s.fl) (h2 : smallF s.qu) (hl1 : s.fl.length < 1000000000) (hl2 : s.qu.length < 1000000000) (hc : s.cl.length < 1099511627776) (hn : n.length < 4294967281) : Calls Tryd.prog 38 #[sesV s u v, .string ⟨n.toArray⟩, .string ⟨p.toArray⟩, .int .i64 q] w
    fun e w' => gotE w w' e (sendC s n p q).1 (sendC s n p q).2 (sendE s n p q) := by
  refine as_called (run_tree2 (ρ := [.s s.cl, .b s.on, .b s.clean, .v u, .r (s.fl.map encF), .v v, .r (s.qu.map encF), .i s.next, .s n, .s p, .i q]) sxE_ok Tryd.func38 tree_session_Send rfl rfl (Rel.start2 (by simp [Ent.holds, Ent.wr, hu, hv, X.ev])) rfl rfl ?_) rfl
  simp only [Tree.goal, X.P, X.ev, V.toI_i, V.toB_b, V.toS_s, V.toR_r, V.toV_v, V.toN_n, V.toL_l, SV.ev, CV.ev, Sc.ev, List.getD_cons_zero, List.getD_cons_succ, List.getElem?_cons_zero, List.getElem?_cons_succ, List.map_cons, List.map_nil, List.length_cons, List.length_nil, List.cons_append, List.nil_append, Nat.zero_add, Nat.reduceAdd, List.length_map, Int.toNat_natCast, gF0, gF1, gF2, List.nil_append]
  intro b1 b2
  refine ⟨[.i (chkS s)], rfl, fun _ w' hr => c_CheckS w' s u v (hr.at_ 3 rfl) (hr.at_ 4 rfl) h1 h2 hl1 hl2 hc, ?_⟩
  simp only [Tree.goal, X.P, X.ev, V.toI_i, V.toB_b, V.toS_s, V.toR_r, V.toV_v, V.toN_n, V.toL_l, SV.ev, CV.ev, Sc.ev, List.getD_cons_zero, List.getD_cons_succ, List.getElem?_cons_zero, List.getElem?_cons_succ, List.map_cons, List.map_nil, List.length_cons, List.length_nil, List.cons_append, List.nil_append, Nat.zero_add, Nat.reduceAdd, List.length_map, Int.toNat_natCast, gF0, gF1, gF2, List.nil_append]
  refine ⟨fun h3 => ?_, fun h3 w1 hr => ?_⟩
  · obtain ⟨k1, k2, k3⟩ := chkS_ok h3
    refine ⟨[.i (flE (0, n, p))], rfl, fun _ w' _ => c_flight w' (0, n, p) hn, ?_⟩
    simp only [Tree.goal, X.P, X.ev, V.toI_i, V.toB_b, V.toS_s, V.toR_r, V.toV_v, V.toN_n, V.toL_l, SV.ev, CV.ev, Sc.ev, List.getD_cons_zero, List.getD_cons_succ, List.getElem?_cons_zero, List.getElem?_cons_succ, List.map_cons, List.map_nil, List.length_cons, List.length_nil, List.cons_append, List.nil_append, Nat.zero_add, Nat.reduceAdd, List.length_map, Int.toNat_natCast, gF0, gF1, gF2, List.nil_append]
    refine ⟨fun h4 => ⟨fun _ w1 hr => ?_, fun h => absurd (by decide) h⟩, fun h4 => ⟨fun h5 w1 hr => ?_, fun h5 w1 hr => ?_⟩⟩
    · have e : sendE s n p q = 3 := by rw [sendE, if_pos h3, if_pos h4.1.1, if_pos ⟨h4.1.2, h4.2⟩]
      rw [sendC, e]
      exact ⟨.slice none 0 0, .slice none 0 0, _, rfl, reads_nil _ _, reads_nil _ _, reads_nil _ _, newV_nil _, newV_nil _, newV_nil _, hr.mod⟩
    · have e : sendE s n p q = flE (0, n, p) := by rw [sendE, if_pos h3, if_neg h5]
      rw [sendC, e, if_neg h5]
      exact ⟨.slice none 0 0, .slice none 0 0, _, rfl, reads_nil _ _, reads_nil _ _, reads_nil _ _, newV_nil _, newV_nil _, newV_nil _, hr.mod⟩
    · have h5 : flE (0, n, p) = 0 := Classical.not_not.1 h5
      have e : sendE s n p q = 0 := by rw [sendE, if_pos h3, if_pos h5, if_neg (fun h => h4 ⟨⟨h5, h.1⟩, h.2⟩)]
      rw [sendC, e, if_pos rfl]
      have hc := c_Raw w1 s u v n p q (hr.at_ 3 rfl) (hr.at_ 4 rfl) k1 (by omega) (by omega)
      generalize rawR s n p q = rr at hc ⊢
      obtain ⟨r, out⟩ := rr
      refine hc.mono ?_
      rintro e w2 ⟨u', v', x, rfl, g1, g2, g3, g4, g5, g6, gm⟩; refine ⟨[.s r.cl, .b r.on, .b r.clean, .v u', .r (r.fl.map encF), .v v', .r (r.qu.map encF), .i r.next, .v x, .r (out.map encP)], rfl, rfl, gm, List.forall_mem_nil _, List.forall_mem_cons.2 ⟨⟨g1, fun k hk => .inl (g4 k hk.2)⟩, List.forall_mem_cons.2 ⟨⟨g2, fun k hk => .inl (g5 k hk.2)⟩, List.forall_mem_cons.2 ⟨⟨g3, fun k hk => .inl (g6 k hk.2)⟩, List.forall_mem_nil _⟩⟩⟩, apart_ro (by simp [Ent.wr]), ?_⟩; intro b9 w3 hr3; exact ⟨u', v', x, rfl, hr3.at_ 1 rfl, hr3.at_ 2 rfl, hr3.at_ 3 rfl, newV_le g4 hr.mod.size, newV_le g5 hr.mod.size, newV_le g6 hr.mod.size, hr3.mod⟩
  · have e : sendE s n p q = chkS s := by rw [sendE, if_neg h3]
    rw [sendC, e, if_neg h3]
    exact ⟨.slice none 0 0, .slice none 0 0, _, rfl, reads_nil _ _, reads_nil _ _, reads_nil _ _, newV_nil _, newV_nil _, newV_nil _, hr.mod⟩
set_option maxHeartbeats 1000000 in
theorem c_Landed (w : World) (s : Ses) (u v : Value) (q : Int) (hu : readsF w u s.fl) (hv : readsF w v s.qu) (h1 : smallF s.fl) (h2 : smallF s.qu) (hl1 : s.fl.length < 1000000000) (hl2 : s.qu.length < 1000000000) (hc : s.cl.length < 1099511627776) : Calls Tryd.prog 39 #[sesV s u v, .int .i64 q] w
    fun e w' => gotE w w' e (landC s q).1 (landC s q).2 (chkS s) := by
  refine as_called (run_tree2 (ρ := [.s s.cl, .b s.on, .b s.clean, .v u, .r (s.fl.map encF), .v v, .r (s.qu.map encF), .i s.next, .i q]) sxE_ok Tryd.func39 tree_session_Landed rfl rfl (Rel.start2 (by simp [Ent.holds, Ent.wr, hu, hv, X.ev])) rfl rfl ?_) rfl
  simp only [Tree.goal, X.P, X.ev, V.toI_i, V.toB_b, V.toS_s, V.toR_r, V.toV_v, V.toN_n, V.toL_l, SV.ev, CV.ev, Sc.ev, List.getD_cons_zero, List.getD_cons_succ, List.getElem?_cons_zero, List.getElem?_cons_succ, List.map_cons, List.map_nil, List.length_cons, List.length_nil, List.cons_append, List.nil_append, Nat.zero_add, Nat.reduceAdd, List.length_map, Int.toNat_natCast, gF0, gF1, gF2, List.nil_append]
  intro b1 b2
  refine ⟨[.i (chkS s)], rfl, fun _ w' hr => c_CheckS w' s u v (hr.at_ 3 rfl) (hr.at_ 4 rfl) h1 h2 hl1 hl2 hc, ?_⟩
  simp only [Tree.goal, X.P, X.ev, V.toI_i, V.toB_b, V.toS_s, V.toR_r, V.toV_v, V.toN_n, V.toL_l, SV.ev, CV.ev, Sc.ev, List.getD_cons_zero, List.getD_cons_succ, List.getElem?_cons_zero, List.getElem?_cons_succ, List.map_cons, List.map_nil, List.length_cons, List.length_nil, List.cons_append, List.nil_append, Nat.zero_add, Nat.reduceAdd, List.length_map, Int.toNat_natCast, gF0, gF1, gF2, List.nil_append]
  refine ⟨fun h3 w1 hr => ?_, fun h3 w1 hr => ?_⟩
  · rw [landC, if_neg h3]
    exact ⟨.slice none 0 0, .slice none 0 0, _, rfl, reads_nil _ _, reads_nil _ _, reads_nil _ _, newV_nil _, newV_nil _, newV_nil _, hr.mod⟩
  · have h3 : chkS s = 0 := Classical.not_not.1 h3
    obtain ⟨k1, k2, k3⟩ := chkS_ok h3
    rw [landC, if_pos h3, h3]
    have hc := c_Down w1 s u v q (hr.at_ 3 rfl) (hr.at_ 4 rfl) k1 (by omega) (by omega)
    generalize landR s q = rr at hc ⊢
    obtain ⟨r, out⟩ := rr
    refine hc.mono ?_
    rintro e w2 ⟨u', v', x, rfl, g1, g2, g3, g4, g5, g6, gm⟩; refine ⟨[.s r.cl, .b r.on, .b r.clean, .v u', .r (r.fl.map encF), .v v', .r (r.qu.map encF), .i r.next, .v x, .r (out.map encP)], rfl, rfl, gm, List.forall_mem_nil _, List.forall_mem_cons.2 ⟨⟨g1, fun k hk => .inl (g4 k hk.2)⟩, List.forall_mem_cons.2 ⟨⟨g2, fun k hk => .inl (g5 k hk.2)⟩, List.forall_mem_cons.2 ⟨⟨g3, fun k hk => .inl (g6 k hk.2)⟩, List.forall_mem_nil _⟩⟩⟩, apart_ro (by simp [Ent.wr]), ?_⟩; intro b9 w3 hr3; exact ⟨u', v', x, rfl, hr3.at_ 1 rfl, hr3.at_ 2 rfl, hr3.at_ 3 rfl, newV_le g4 hr.mod.size, newV_le g5 hr.mod.size, newV_le g6 hr.mod.size, hr3.mod⟩
set_option maxHeartbeats 1000000 in
theorem c_Come (w : World) (s : Ses) (u v : Value) (hu : readsF w u s.fl) (hv : readsF w v s.qu) (h1 : smallF s.fl) (h2 : smallF s.qu) (hl1 : s.fl.length < 1000000000) (hl2 : s.qu.length < 1000000000) (hc : s.cl.length < 1099511627776) : Calls Tryd.prog 40 #[sesV s u v] w
    fun e w' => gotE w w' e (comeC s).1 (comeC s).2 (chkS s) := by
  refine as_called (run_tree2 (ρ := [.s s.cl, .b s.on, .b s.clean, .v u, .r (s.fl.map encF), .v v, .r (s.qu.map encF), .i s.next]) sxE_ok Tryd.func40 tree_session_Come rfl rfl (Rel.start2 (by simp [Ent.holds, Ent.wr, hu, hv, X.ev])) rfl rfl ?_) rfl
  simp only [Tree.goal, X.P, X.ev, V.toI_i, V.toB_b, V.toS_s, V.toR_r, V.toV_v, V.toN_n, V.toL_l, SV.ev, CV.ev, Sc.ev, List.getD_cons_zero, List.getD_cons_succ, List.getElem?_cons_zero, List.getElem?_cons_succ, List.map_cons, List.map_nil, List.length_cons, List.length_nil, List.cons_append, List.nil_append, Nat.zero_add, Nat.reduceAdd, List.length_map, Int.toNat_natCast, gF0, gF1, gF2, List.nil_append]
  intro b1 b2
  refine ⟨[.i (chkS s)], rfl, fun _ w' hr => c_CheckS w' s u v (hr.at_ 3 rfl) (hr.at_ 4 rfl) h1 h2 hl1 hl2 hc, ?_⟩
  simp only [Tree.goal, X.P, X.ev, V.toI_i, V.toB_b, V.toS_s, V.toR_r, V.toV_v, V.toN_n, V.toL_l, SV.ev, CV.ev, Sc.ev, List.getD_cons_zero, List.getD_cons_succ, List.getElem?_cons_zero, List.getElem?_cons_succ, List.map_cons, List.map_nil, List.length_cons, List.length_nil, List.cons_append, List.nil_append, Nat.zero_add, Nat.reduceAdd, List.length_map, Int.toNat_natCast, gF0, gF1, gF2, List.nil_append]
  refine ⟨fun h3 w1 hr => ?_, fun h3 w1 hr => ?_⟩
  · rw [comeC, if_neg h3]
    exact ⟨.slice none 0 0, .slice none 0 0, _, rfl, reads_nil _ _, reads_nil _ _, reads_nil _ _, newV_nil _, newV_nil _, newV_nil _, hr.mod⟩
  · have h3 : chkS s = 0 := Classical.not_not.1 h3
    obtain ⟨k1, k2, k3⟩ := chkS_ok h3
    rw [comeC, if_pos h3, h3]
    have hc := c_Back w1 s u v (hr.at_ 3 rfl) (hr.at_ 4 rfl) k1 (by omega) (by omega)
    generalize comeR s = rr at hc ⊢
    obtain ⟨r, out⟩ := rr
    refine hc.mono ?_
    rintro e w2 ⟨u', v', x, rfl, g1, g2, g3, g4, g5, g6, gm⟩; refine ⟨[.s r.cl, .b r.on, .b r.clean, .v u', .r (r.fl.map encF), .v v', .r (r.qu.map encF), .i r.next, .v x, .r (out.map encP)], rfl, rfl, gm, List.forall_mem_nil _, List.forall_mem_cons.2 ⟨⟨g1, fun k hk => .inl (g4 k hk.2)⟩, List.forall_mem_cons.2 ⟨⟨g2, fun k hk => .inl (g5 k hk.2)⟩, List.forall_mem_cons.2 ⟨⟨g3, fun k hk => .inl (g6 k hk.2)⟩, List.forall_mem_nil _⟩⟩⟩, apart_ro (by simp [Ent.wr]), ?_⟩; intro b9 w3 hr3; exact ⟨u', v', x, rfl, hr3.at_ 1 rfl, hr3.at_ 2 rfl, hr3.at_ 3 rfl, newV_le g4 hr.mod.size, newV_le g5 hr.mod.size, newV_le g6 hr.mod.size, hr3.mod⟩
def gotEM (w w' : World) (e : Ending) (r : Ses) (er : Int) : Prop :=
  ∃ u' v', e = .returned (.tuple #[sesV r u' v', .int .i64 er]) ∧ readsF w' u' r.fl ∧ readsF w' v' r.qu ∧ newV w.heap.size u' ∧ newV w.heap.size v' ∧ Mod [] w w'
set_option maxHeartbeats 1000000 in
theorem c_Go (w : World) (s : Ses) (u v : Value) (hu : readsF w u s.fl) (hv : readsF w v s.qu) (h1 : smallF s.fl) (h2 : smallF s.qu) (hl1 : s.fl.length < 1000000000) (hl2 : s.qu.length < 1000000000) (hc : s.cl.length < 1099511627776) : Calls Tryd.prog 41 #[sesV s u v] w
    fun e w' => gotEM w w' e (goC s) (chkS s) := by
  refine as_called (run_tree2 (ρ := [.s s.cl, .b s.on, .b s.clean, .v u, .r (s.fl.map encF), .v v, .r (s.qu.map encF), .i s.next]) sxE_ok Tryd.func41 tree_session_Go rfl rfl (Rel.start2 (by simp [Ent.holds, Ent.wr, hu, hv, X.ev])) rfl rfl ?_) rfl
  simp only [Tree.goal, X.P, X.ev, V.toI_i, V.toB_b, V.toS_s, V.toR_r, V.toV_v, V.toN_n, V.toL_l, SV.ev, CV.ev, Sc.ev, List.getD_cons_zero, List.getD_cons_succ, List.getElem?_cons_zero, List.getElem?_cons_succ, List.map_cons, List.map_nil, List.length_cons, List.length_nil, List.cons_append, List.nil_append, Nat.zero_add, Nat.reduceAdd, List.length_map, Int.toNat_natCast, gF0, gF1, gF2, List.nil_append]
  intro b1 b2
  refine ⟨[.i (chkS s)], rfl, fun _ w' hr => c_CheckS w' s u v (hr.at_ 2 rfl) (hr.at_ 3 rfl) h1 h2 hl1 hl2 hc, ?_⟩
  simp only [Tree.goal, X.P, X.ev, V.toI_i, V.toB_b, V.toS_s, V.toR_r, V.toV_v, V.toN_n, V.toL_l, SV.ev, CV.ev, Sc.ev, List.getD_cons_zero, List.getD_cons_succ, List.getElem?_cons_zero, List.getElem?_cons_succ, List.map_cons, List.map_nil, List.length_cons, List.length_nil, List.cons_append, List.nil_append, Nat.zero_add, Nat.reduceAdd, List.length_map, Int.toNat_natCast, gF0, gF1, gF2, List.nil_append]
  refine ⟨fun h3 w1 hr => ?_, fun h3 w1 hr => ?_⟩
  · rw [goC, if_neg h3]
    exact ⟨.slice none 0 0, .slice none 0 0, rfl, reads_nil _ _, reads_nil _ _, newV_nil _, newV_nil _, hr.mod⟩
  · have h3 : chkS s = 0 := Classical.not_not.1 h3
    obtain ⟨k1, k2, k3⟩ := chkS_ok h3
    rw [goC, if_pos h3, h3]
    have hc := c_Off w1 s u v (hr.at_ 2 rfl) (hr.at_ 3 rfl) (by omega) (by omega)
    generalize goR s = r at hc ⊢
    refine hc.mono ?_
    rintro e w2 ⟨u', v', rfl, g1, g2, g4, g5, gm⟩
    refine ⟨[.s r.cl, .b r.on, .b r.clean, .v u', .r (r.fl.map encF), .v v', .r (r.qu.map encF), .i r.next], rfl, rfl, gm, List.forall_mem_nil _, List.forall_mem_cons.2 ⟨⟨g1, fun k hk => .inl (g4 k hk.2)⟩, List.forall_mem_cons.2 ⟨⟨g2, fun k hk => .inl (g5 k hk.2)⟩, List.forall_mem_nil _⟩⟩, apart_ro (by simp [Ent.wr]), ?_⟩
    intro w3 hr3
    exact ⟨u', v', rfl, hr3.at_ 0 rfl, hr3.at_ 1 rfl, newV_le g4 hr.mod.size, newV_le g5 hr.mod.size, hr3.mod⟩
end Go.Proofs.YtkalmhdckoocbaaDoor
