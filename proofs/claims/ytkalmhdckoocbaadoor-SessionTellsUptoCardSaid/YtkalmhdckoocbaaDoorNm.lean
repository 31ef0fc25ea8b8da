/-
  Sessions: the law SessionTells. By an AI agent.
-/
import Derived.Test.YtkalmhdckoocbaaDoorNl
import Derived.Test.YtkalmhdckoocbaaDoorTreesS2
set_option linter.unusedSimpArgs false
set_option linter.unusedVariables false
namespace Go.Proofs.YtkalmhdckoocbaaDoor
open Go.Sx

theorem flyS_len (s : Ses) : (flyS s).1.fl.length ≤ s.fl.length + s.qu.length ∧ (flyS s).1.qu.length ≤ s.qu.length ∧ (flyS s).2.length ≤ s.qu.length := by
  have := flyR_len s.on s.qu s.fl s.next []
  simp only [List.length_nil, Nat.zero_add] at this
  exact this
theorem rawR_len (s : Ses) (n p : List UInt8) (q : Int) : (rawR s n p q).1.fl.length ≤ s.fl.length + s.qu.length + 1 ∧ (rawR s n p q).1.qu.length ≤ s.qu.length + 1 ∧ (rawR s n p q).2.length ≤ s.qu.length + 1 := by
  unfold rawR
  split
  · simp; omega
  · split
    · have := flyS_len { s with qu := s.qu ++ [(0, n, p)] }
      simp only [List.length_append, List.length_cons, List.length_nil] at this
      omega
    · simp; omega
theorem sendC_len (s : Ses) (n p : List UInt8) (q : Int) : (sendC s n p q).1.fl.length ≤ s.fl.length + s.qu.length + 1 ∧ (sendC s n p q).1.qu.length ≤ s.qu.length + 1 ∧ (sendC s n p q).2.length ≤ s.qu.length + 1 := by
  unfold sendC
  split
  · exact rawR_len s n p q
  · simp [s0]
theorem landC_len (s : Ses) (q : Int) : (landC s q).1.fl.length ≤ s.fl.length + s.qu.length ∧ (landC s q).1.qu.length ≤ s.qu.length ∧ (landC s q).2.length ≤ s.qu.length := by
  unfold landC
  split
  · have := flyS_len { s with fl := landL s.fl q }
    have h2 : (landL s.fl q).length ≤ s.fl.length := List.length_filter_le _ _
    simp only at this
    exact ⟨Nat.le_trans this.1 (by omega), this.2.1, this.2.2⟩
  · simp [s0]
theorem comeC_len (s : Ses) : (comeC s).1.fl.length ≤ s.fl.length + s.qu.length ∧ (comeC s).1.qu.length ≤ s.qu.length ∧ (comeC s).2.length ≤ s.fl.length + s.qu.length := by
  unfold comeC
  split
  · have := flyS_len { s with on := true }
    simp only at this
    simp only [comeR, List.length_append, List.length_map]
    omega
  · simp [s0]
theorem goC_len (s : Ses) : (goC s).fl.length ≤ s.fl.length ∧ (goC s).qu.length ≤ s.qu.length := by
  unfold goC goR
  split
  · split <;> simp
  · simp [s0]
theorem raw_send {s : Ses} {n p : List UInt8} {q : Int} (h : s.qu.length ≤ 6) (hq : q = 0 ∨ q = 1) : rawR s n p q = sendR s n p q := by
  unfold rawR sendR
  rcases hq with rfl | rfl
  · by_cases h1 : s.on = true
    · simp [h1]
    · simp [h1]
  · by_cases h1 : s.on = true <;> by_cases h2 : s.clean = true <;> simp [h1, h2] <;> split <;> (try rw [if_neg (by omega)]) <;> (try rw [if_pos (by omega)])
theorem c_sIs' {w : World} {a b : Ses} {u v u' v' x y : Value} {l m : List Pk} {e f : Int} (hu : readsF w u a.fl) (hv : readsF w v a.qu) (hx : readsP w x l) (hu' : readsF w u' b.fl) (hv' : readsF w v' b.qu) (hy : readsP w y m) (hl1 : a.fl.length < 1000000000) (hl2 : a.qu.length < 1000000000) (hl3 : l.length < 1000000000)
    (h1 : e = f) (h2 : a = if f = 0 then b else s0) (h3 : l = if f = 0 then m else []) : Calls Tryd.prog 49 #[sesV a u v, sc1 x, .int .i64 e, .int .i64 f, sesV b u' v', sc1 y] w
    fun e' w' => e' = .returned (.bool true) ∧ Mod [] w w' := c_sIs w a b u v u' v' x y l m e f hu hv hx hu' hv' hy hl1 hl2 hl3 h1 h2 h3
set_option maxHeartbeats 4000000 in
theorem c_SessionTells (w : World) (s : Ses) (u v : Value) (n p : List UInt8) (q id : Int) (hu : readsF w u s.fl) (hv : readsF w v s.qu) (h1 : smallF s.fl) (h2 : smallF s.qu) (hl1 : s.fl.length < 100000000) (hl2 : s.qu.length < 100000000) (hc : s.cl.length < 1099511627776) (hn : n.length < 4294967281) : Calls Tryd.prog 10 #[sesV s u v, .string ⟨n.toArray⟩, .string ⟨p.toArray⟩, .int .i64 q, .int .i64 id] w
    fun e w' => e = .returned (.bool true) ∧ Mod [] w w' := by
  refine as_called (run_tree2 (ρ := [.s s.cl, .b s.on, .b s.clean, .v u, .r (s.fl.map encF), .v v, .r (s.qu.map encF), .i s.next, .s n, .s p, .i q, .i id]) sxE_ok Tryd.func10 tree_dragomanlaw_SessionTells rfl rfl (Rel.start2 (by simp [Ent.holds, Ent.wr, hu, hv, X.ev])) rfl rfl ?_) rfl
  simp only [Tree.goal, X.P, X.ev, V.toI_i, V.toB_b, V.toS_s, V.toR_r, V.toV_v, V.toN_n, V.toL_l, SV.ev, CV.ev, Sc.ev, List.getD_cons_zero, List.getD_cons_succ, List.getElem?_cons_zero, List.getElem?_cons_succ, List.map_cons, List.map_nil, List.length_cons, List.length_nil, List.cons_append, List.nil_append, Nat.zero_add, Nat.reduceAdd]
  intro b1 w1 hr
  have lA := sendC_len s n p q
  have lB := landC_len s id
  have lC := comeC_len s
  have lD := goC_len s
  have hc1 := c_Send w1 s u v n p q (by (first | exact reads_nil _ _ | (have hq := hr; repeat (first | exact hq.hd | replace hq := hq.tl)))) (by (first | exact reads_nil _ _ | (have hq := hr; repeat (first | exact hq.hd | replace hq := hq.tl)))) h1 h2 (by omega) (by omega) hc hn
  generalize eA : sendC s n p q = rA at hc1 lA
  generalize eA' : sendE s n p q = rA' at hc1
  obtain ⟨rA, oA⟩ := rA
  refine hc1.mono ?_
  rintro e w2 ⟨uA, vA, xA, rfl, g1, g2, g3, g4, g5, g6, gm⟩
  refine ⟨[.s rA.cl, .b rA.on, .b rA.clean, .v uA, .r (rA.fl.map encF), .v vA, .r (rA.qu.map encF), .i rA.next, .v xA, .r (oA.map encP), .i rA'], rfl, rfl, gm, List.forall_mem_nil _, List.forall_mem_cons.2 ⟨⟨g1, fun k hk => .inl (g4 k hk.2)⟩, List.forall_mem_cons.2 ⟨⟨g2, fun k hk => .inl (g5 k hk.2)⟩, List.forall_mem_cons.2 ⟨⟨g3, fun k hk => .inl (g6 k hk.2)⟩, List.forall_mem_nil _⟩⟩⟩, apart_ro (by simp [Ent.wr]), ?_⟩
  clear hc1 g1 g2 g3 g4 g5 g6 gm hr
  simp only [Tree.goal, X.P, X.ev, V.toI_i, V.toB_b, V.toS_s, V.toR_r, V.toV_v, V.toN_n, V.toL_l, SV.ev, CV.ev, Sc.ev, List.getD_cons_zero, List.getD_cons_succ, List.getElem?_cons_zero, List.getElem?_cons_succ, List.map_cons, List.map_nil, List.length_cons, List.length_nil, List.cons_append, List.nil_append, Nat.zero_add, Nat.reduceAdd]
  intro b1 w1 hr
  have hc1 := c_Landed w1 s u v id (by (first | exact reads_nil _ _ | (have hq := hr; repeat (first | exact hq.hd | replace hq := hq.tl)))) (by (first | exact reads_nil _ _ | (have hq := hr; repeat (first | exact hq.hd | replace hq := hq.tl)))) h1 h2 (by omega) (by omega) hc
  generalize eB : landC s id = rB at hc1 lB
  obtain ⟨rB, oB⟩ := rB
  refine hc1.mono ?_
  rintro e w2 ⟨uB, vB, xB, rfl, g1, g2, g3, g4, g5, g6, gm⟩
  refine ⟨[.s rB.cl, .b rB.on, .b rB.clean, .v uB, .r (rB.fl.map encF), .v vB, .r (rB.qu.map encF), .i rB.next, .v xB, .r (oB.map encP), .i (chkS s)], rfl, rfl, gm, List.forall_mem_nil _, List.forall_mem_cons.2 ⟨⟨g1, fun k hk => .inl (g4 k hk.2)⟩, List.forall_mem_cons.2 ⟨⟨g2, fun k hk => .inl (g5 k hk.2)⟩, List.forall_mem_cons.2 ⟨⟨g3, fun k hk => .inl (g6 k hk.2)⟩, List.forall_mem_nil _⟩⟩⟩, apart_ro (by simp [Ent.wr]), ?_⟩
  clear hc1 g1 g2 g3 g4 g5 g6 gm hr
  simp only [Tree.goal, X.P, X.ev, V.toI_i, V.toB_b, V.toS_s, V.toR_r, V.toV_v, V.toN_n, V.toL_l, SV.ev, CV.ev, Sc.ev, List.getD_cons_zero, List.getD_cons_succ, List.getElem?_cons_zero, List.getElem?_cons_succ, List.map_cons, List.map_nil, List.length_cons, List.length_nil, List.cons_append, List.nil_append, Nat.zero_add, Nat.reduceAdd]
  intro b1 w1 hr
  have hc1 := c_Come w1 s u v (by (first | exact reads_nil _ _ | (have hq := hr; repeat (first | exact hq.hd | replace hq := hq.tl)))) (by (first | exact reads_nil _ _ | (have hq := hr; repeat (first | exact hq.hd | replace hq := hq.tl)))) h1 h2 (by omega) (by omega) hc
  generalize eC : comeC s = rC at hc1 lC
  obtain ⟨rC, oC⟩ := rC
  refine hc1.mono ?_
  rintro e w2 ⟨uC, vC, xC, rfl, g1, g2, g3, g4, g5, g6, gm⟩
  refine ⟨[.s rC.cl, .b rC.on, .b rC.clean, .v uC, .r (rC.fl.map encF), .v vC, .r (rC.qu.map encF), .i rC.next, .v xC, .r (oC.map encP), .i (chkS s)], rfl, rfl, gm, List.forall_mem_nil _, List.forall_mem_cons.2 ⟨⟨g1, fun k hk => .inl (g4 k hk.2)⟩, List.forall_mem_cons.2 ⟨⟨g2, fun k hk => .inl (g5 k hk.2)⟩, List.forall_mem_cons.2 ⟨⟨g3, fun k hk => .inl (g6 k hk.2)⟩, List.forall_mem_nil _⟩⟩⟩, apart_ro (by simp [Ent.wr]), ?_⟩
  clear hc1 g1 g2 g3 g4 g5 g6 gm hr
  simp only [Tree.goal, X.P, X.ev, V.toI_i, V.toB_b, V.toS_s, V.toR_r, V.toV_v, V.toN_n, V.toL_l, SV.ev, CV.ev, Sc.ev, List.getD_cons_zero, List.getD_cons_succ, List.getElem?_cons_zero, List.getElem?_cons_succ, List.map_cons, List.map_nil, List.length_cons, List.length_nil, List.cons_append, List.nil_append, Nat.zero_add, Nat.reduceAdd]
  intro b1 w1 hr
  have hc1 := c_Go w1 s u v (by (first | exact reads_nil _ _ | (have hq := hr; repeat (first | exact hq.hd | replace hq := hq.tl)))) (by (first | exact reads_nil _ _ | (have hq := hr; repeat (first | exact hq.hd | replace hq := hq.tl)))) h1 h2 (by omega) (by omega) hc
  generalize eD : goC s = rD at hc1 lD
  refine hc1.mono ?_
  rintro e w2 ⟨uD, vD, rfl, g1, g2, g4, g5, gm⟩
  refine ⟨[.s rD.cl, .b rD.on, .b rD.clean, .v uD, .r (rD.fl.map encF), .v vD, .r (rD.qu.map encF), .i rD.next, .i (chkS s)], rfl, rfl, gm, List.forall_mem_nil _, List.forall_mem_cons.2 ⟨⟨g1, fun k hk => .inl (g4 k hk.2)⟩, List.forall_mem_cons.2 ⟨⟨g2, fun k hk => .inl (g5 k hk.2)⟩, List.forall_mem_nil _⟩⟩, apart_ro (by simp [Ent.wr]), ?_⟩
  clear hc1 g1 g2 g4 g5 gm hr
  simp only [Tree.goal, X.P, X.ev, V.toI_i, V.toB_b, V.toS_s, V.toR_r, V.toV_v, V.toN_n, V.toL_l, SV.ev, CV.ev, Sc.ev, List.getD_cons_zero, List.getD_cons_succ, List.getElem?_cons_zero, List.getElem?_cons_succ, List.map_cons, List.map_nil, List.length_cons, List.length_nil, List.cons_append, List.nil_append, Nat.zero_add, Nat.reduceAdd]
  intro b1
  refine ⟨[.i (chkS s)], rfl, fun _ w' hr => c_CheckSession w' s u v (by (first | exact reads_nil _ _ | (have hq := hr; repeat (first | exact hq.hd | replace hq := hq.tl)))) (by (first | exact reads_nil _ _ | (have hq := hr; repeat (first | exact hq.hd | replace hq := hq.tl)))) h1 h2 (by omega) (by omega) hc, ?_⟩
  simp only [Tree.goal, X.P, X.ev, V.toI_i, V.toB_b, V.toS_s, V.toR_r, V.toV_v, V.toN_n, V.toL_l, SV.ev, CV.ev, Sc.ev, List.getD_cons_zero, List.getD_cons_succ, List.getElem?_cons_zero, List.getElem?_cons_succ, List.map_cons, List.map_nil, List.length_cons, List.length_nil, List.cons_append, List.nil_append, Nat.zero_add, Nat.reduceAdd]
  simp only at lA lB lC lD
  refine ⟨fun (h0 : chkS s = 0) => ?_, fun (h0 : ¬chkS s = 0) => ?_⟩
  · obtain ⟨k1, k2, k3⟩ := chkS_ok h0
    simp only [dragomanlaw_SessionTells_5, Tree.goal, X.P, X.ev, V.toI_i, V.toB_b, V.toS_s, V.toR_r, V.toV_v, V.toN_n, V.toL_l, SV.ev, CV.ev, Sc.ev, List.getD_cons_zero, List.getD_cons_succ, List.getElem?_cons_zero, List.getElem?_cons_succ, List.map_cons, List.map_nil, List.length_cons, List.length_nil, List.cons_append, List.nil_append, Nat.zero_add, Nat.reduceAdd]
    refine ⟨[.i (chkT n false)], rfl, fun _ w' _ => c_CheckTopic w' n false hn, ?_⟩
    simp only [Tree.goal, X.P, X.ev, V.toI_i, V.toB_b, V.toS_s, V.toR_r, V.toV_v, V.toN_n, V.toL_l, SV.ev, CV.ev, Sc.ev, List.getD_cons_zero, List.getD_cons_succ, List.getElem?_cons_zero, List.getElem?_cons_succ, List.map_cons, List.map_nil, List.length_cons, List.length_nil, List.cons_append, List.nil_append, Nat.zero_add, Nat.reduceAdd]
    refine ⟨fun (h3 : chkT n false = 0 ∧ 200 < (p.length : Int)) => ?_, fun (h3 : ¬(chkT n false = 0 ∧ 200 < (p.length : Int))) => ⟨fun (h4 : (chkT n false = 0 ∧ ¬q = 0) ∧ ¬q = 1) => ?_, fun (h4 : ¬((chkT n false = 0 ∧ ¬q = 0) ∧ ¬q = 1)) => ?_⟩⟩
    · skip
      simp only [dragomanlaw_SessionTells_1, Tree.goal, X.P, X.ev, V.toI_i, V.toB_b, V.toS_s, V.toR_r, V.toV_v, V.toN_n, V.toL_l, SV.ev, CV.ev, Sc.ev, List.getD_cons_zero, List.getD_cons_succ, List.getElem?_cons_zero, List.getElem?_cons_succ, List.map_cons, List.map_nil, List.length_cons, List.length_nil, List.cons_append, List.nil_append, Nat.zero_add, Nat.reduceAdd]
      intro b1 b2 b3 b4
      intro w1 hr
      have hc1 := c_LandedOf w1 s u v id (by (first | exact reads_nil _ _ | (have hq := hr; repeat (first | exact hq.hd | replace hq := hq.tl)))) (by (first | exact reads_nil _ _ | (have hq := hr; repeat (first | exact hq.hd | replace hq := hq.tl)))) k1 (by omega) (by omega)
      generalize eF : landR s id = rF at hc1
      obtain ⟨rF, oF⟩ := rF
      refine hc1.mono ?_
      rintro e w2 ⟨uF, vF, xF, rfl, g1, g2, g3, g4, g5, g6, gm⟩
      refine ⟨[.s rF.cl, .b rF.on, .b rF.clean, .v uF, .r (rF.fl.map encF), .v vF, .r (rF.qu.map encF), .i rF.next, .v xF, .r (oF.map encP)], rfl, rfl, gm, List.forall_mem_nil _, List.forall_mem_cons.2 ⟨⟨g1, fun k hk => by rcases g4 k hk with h9 | h9 | h9 <;> (first | exact .inl h9 | (refine .inr (.inl ⟨rfl, ?_⟩); repeat (first | exact exq_hd ⟨rfl, h9⟩ | refine exq_tl ?_)))⟩, List.forall_mem_cons.2 ⟨⟨g2, fun k hk => by rcases g5 k hk with h9 | h9 | h9 <;> (first | exact .inl h9 | (refine .inr (.inl ⟨rfl, ?_⟩); repeat (first | exact exq_hd ⟨rfl, h9⟩ | refine exq_tl ?_)))⟩, List.forall_mem_cons.2 ⟨⟨g3, fun k hk => .inl (g6 k hk.2)⟩, List.forall_mem_nil _⟩⟩⟩, apart_ro (by simp [Ent.wr]), ?_⟩
      clear hc1 g1 g2 g3 g4 g5 g6 gm hr
      simp only [Tree.goal, X.P, X.ev, V.toI_i, V.toB_b, V.toS_s, V.toR_r, V.toV_v, V.toN_n, V.toL_l, SV.ev, CV.ev, Sc.ev, List.getD_cons_zero, List.getD_cons_succ, List.getElem?_cons_zero, List.getElem?_cons_succ, List.map_cons, List.map_nil, List.length_cons, List.length_nil, List.cons_append, List.nil_append, Nat.zero_add, Nat.reduceAdd]
      intro w1 hr
      have hc1 := c_ComeOf w1 s u v (by (first | exact reads_nil _ _ | (have hq := hr; repeat (first | exact hq.hd | replace hq := hq.tl)))) (by (first | exact reads_nil _ _ | (have hq := hr; repeat (first | exact hq.hd | replace hq := hq.tl)))) k1 (by omega) (by omega)
      generalize eG : comeR s = rG at hc1
      obtain ⟨rG, oG⟩ := rG
      refine hc1.mono ?_
      rintro e w2 ⟨uG, vG, xG, rfl, g1, g2, g3, g4, g5, g6, gm⟩
      refine ⟨[.s rG.cl, .b rG.on, .b rG.clean, .v uG, .r (rG.fl.map encF), .v vG, .r (rG.qu.map encF), .i rG.next, .v xG, .r (oG.map encP)], rfl, rfl, gm, List.forall_mem_nil _, List.forall_mem_cons.2 ⟨⟨g1, fun k hk => by rcases g4 k hk with h9 | h9 | h9 <;> (first | exact .inl h9 | (refine .inr (.inl ⟨rfl, ?_⟩); repeat (first | exact exq_hd ⟨rfl, h9⟩ | refine exq_tl ?_)))⟩, List.forall_mem_cons.2 ⟨⟨g2, fun k hk => by rcases g5 k hk with h9 | h9 | h9 <;> (first | exact .inl h9 | (refine .inr (.inl ⟨rfl, ?_⟩); repeat (first | exact exq_hd ⟨rfl, h9⟩ | refine exq_tl ?_)))⟩, List.forall_mem_cons.2 ⟨⟨g3, fun k hk => .inl (g6 k hk.2)⟩, List.forall_mem_nil _⟩⟩⟩, apart_ro (by simp [Ent.wr]), ?_⟩
      clear hc1 g1 g2 g3 g4 g5 g6 gm hr
      simp only [Tree.goal, X.P, X.ev, V.toI_i, V.toB_b, V.toS_s, V.toR_r, V.toV_v, V.toN_n, V.toL_l, SV.ev, CV.ev, Sc.ev, List.getD_cons_zero, List.getD_cons_succ, List.getElem?_cons_zero, List.getElem?_cons_succ, List.map_cons, List.map_nil, List.length_cons, List.length_nil, List.cons_append, List.nil_append, Nat.zero_add, Nat.reduceAdd]
      intro w1 hr
      have hc1 := c_GoOf w1 s u v (by (first | exact reads_nil _ _ | (have hq := hr; repeat (first | exact hq.hd | replace hq := hq.tl)))) (by (first | exact reads_nil _ _ | (have hq := hr; repeat (first | exact hq.hd | replace hq := hq.tl))))
      generalize eH : goR s = rH at hc1
      refine hc1.mono ?_
      rintro e w2 ⟨uH, vH, rfl, g1, g2, g4, g5, gm⟩
      refine ⟨[.s rH.cl, .b rH.on, .b rH.clean, .v uH, .r (rH.fl.map encF), .v vH, .r (rH.qu.map encF), .i rH.next], rfl, rfl, gm, List.forall_mem_nil _, List.forall_mem_cons.2 ⟨⟨g1, fun k hk => by rcases g4 k hk with h9 | h9 | h9 <;> (first | exact .inl h9 | (refine .inr (.inl ⟨rfl, ?_⟩); repeat (first | exact exq_hd ⟨rfl, h9⟩ | refine exq_tl ?_)))⟩, List.forall_mem_cons.2 ⟨⟨g2, fun k hk => by rcases g5 k hk with h9 | h9 | h9 <;> (first | exact .inl h9 | (refine .inr (.inl ⟨rfl, ?_⟩); repeat (first | exact exq_hd ⟨rfl, h9⟩ | refine exq_tl ?_)))⟩, List.forall_mem_nil _⟩⟩, apart_ro (by simp [Ent.wr]), ?_⟩
      clear hc1 g1 g2 g4 g5 gm hr
      simp only [Tree.goal, X.P, X.ev, V.toI_i, V.toB_b, V.toS_s, V.toR_r, V.toV_v, V.toN_n, V.toL_l, SV.ev, CV.ev, Sc.ev, List.getD_cons_zero, List.getD_cons_succ, List.getElem?_cons_zero, List.getElem?_cons_succ, List.map_cons, List.map_nil, List.length_cons, List.length_nil, List.cons_append, List.nil_append, Nat.zero_add, Nat.reduceAdd]
      have hE : sendE s n p q = 2 := by rw [sendE, if_pos h0, flE, if_pos h3.1, if_pos h3.2] <;> rfl
      have hS : (rA, oA) = (s0, []) := by rw [← eA, sendC, if_neg (by rw [hE]; decide)]
      have hF : (rB, oB) = (rF, oF) := by rw [← eB, landC, if_pos h0, eF]
      have hG : (rC, oC) = (rG, oG) := by rw [← eC, comeC, if_pos h0, eG]
      have hH : rD = rH := by rw [← eD, goC, if_pos h0, eH]
      refine ⟨[.b true], rfl, fun _ w' _ => c_sessionBegun w', ?_⟩
      simp only [Tree.goal, X.P, X.ev, V.toI_i, V.toB_b, V.toS_s, V.toR_r, V.toV_v, V.toN_n, V.toL_l, SV.ev, CV.ev, Sc.ev, List.getD_cons_zero, List.getD_cons_succ, List.getElem?_cons_zero, List.getElem?_cons_succ, List.map_cons, List.map_nil, List.length_cons, List.length_nil, List.cons_append, List.nil_append, Nat.zero_add, Nat.reduceAdd]
      refine ⟨[.i (chkS s)], rfl, fun _ w' hr => c_CheckS w' s u v (by (first | exact reads_nil _ _ | (have hq := hr; repeat (first | exact hq.hd | replace hq := hq.tl)))) (by (first | exact reads_nil _ _ | (have hq := hr; repeat (first | exact hq.hd | replace hq := hq.tl)))) h1 h2 (by omega) (by omega) hc, ?_⟩
      simp only [Tree.goal, X.P, X.ev, V.toI_i, V.toB_b, V.toS_s, V.toR_r, V.toV_v, V.toN_n, V.toL_l, SV.ev, CV.ev, Sc.ev, List.getD_cons_zero, List.getD_cons_succ, List.getElem?_cons_zero, List.getElem?_cons_succ, List.map_cons, List.map_nil, List.length_cons, List.length_nil, List.cons_append, List.nil_append, Nat.zero_add, Nat.reduceAdd]
      refine ⟨[.b true], rfl, fun _ w' hr => as_called (c_sIs' (w := w') (e := rA') (f := 2) (a := rA) (b := s0) (l := oA) (m := []) (by (first | exact reads_nil _ _ | (have hq := hr; repeat (first | exact hq.hd | replace hq := hq.tl)))) (by (first | exact reads_nil _ _ | (have hq := hr; repeat (first | exact hq.hd | replace hq := hq.tl)))) (by (first | exact reads_nil _ _ | (have hq := hr; repeat (first | exact hq.hd | replace hq := hq.tl)))) (by (first | exact reads_nil _ _ | (have hq := hr; repeat (first | exact hq.hd | replace hq := hq.tl)))) (by (first | exact reads_nil _ _ | (have hq := hr; repeat (first | exact hq.hd | replace hq := hq.tl)))) (by (first | exact reads_nil _ _ | (have hq := hr; repeat (first | exact hq.hd | replace hq := hq.tl)))) (by omega) (by omega) (by omega) (by rw [← eA']; exact hE) (by rw [ite_self]; exact (congrArg Prod.fst hS)) (by rw [ite_self]; exact (congrArg Prod.snd hS))) rfl, ?_⟩
      simp only [Tree.goal, X.P, X.ev, V.toI_i, V.toB_b, V.toS_s, V.toR_r, V.toV_v, V.toN_n, V.toL_l, SV.ev, CV.ev, Sc.ev, List.getD_cons_zero, List.getD_cons_succ, List.getElem?_cons_zero, List.getElem?_cons_succ, List.map_cons, List.map_nil, List.length_cons, List.length_nil, List.cons_append, List.nil_append, Nat.zero_add, Nat.reduceAdd]
      refine ⟨[.b true], rfl, fun _ w' hr => as_called (c_sIs' (w := w') (e := chkS s) (f := chkS s) (a := rB) (b := rF) (l := oB) (m := oF) (by (first | exact reads_nil _ _ | (have hq := hr; repeat (first | exact hq.hd | replace hq := hq.tl)))) (by (first | exact reads_nil _ _ | (have hq := hr; repeat (first | exact hq.hd | replace hq := hq.tl)))) (by (first | exact reads_nil _ _ | (have hq := hr; repeat (first | exact hq.hd | replace hq := hq.tl)))) (by (first | exact reads_nil _ _ | (have hq := hr; repeat (first | exact hq.hd | replace hq := hq.tl)))) (by (first | exact reads_nil _ _ | (have hq := hr; repeat (first | exact hq.hd | replace hq := hq.tl)))) (by (first | exact reads_nil _ _ | (have hq := hr; repeat (first | exact hq.hd | replace hq := hq.tl)))) (by omega) (by omega) (by omega) (rfl) (by rw [if_pos h0]; exact congrArg Prod.fst hF) (by rw [if_pos h0]; exact congrArg Prod.snd hF)) rfl, ?_⟩
      simp only [Tree.goal, X.P, X.ev, V.toI_i, V.toB_b, V.toS_s, V.toR_r, V.toV_v, V.toN_n, V.toL_l, SV.ev, CV.ev, Sc.ev, List.getD_cons_zero, List.getD_cons_succ, List.getElem?_cons_zero, List.getElem?_cons_succ, List.map_cons, List.map_nil, List.length_cons, List.length_nil, List.cons_append, List.nil_append, Nat.zero_add, Nat.reduceAdd]
      refine ⟨[.b true], rfl, fun _ w' hr => as_called (c_sIs' (w := w') (e := chkS s) (f := chkS s) (a := rC) (b := rG) (l := oC) (m := oG) (by (first | exact reads_nil _ _ | (have hq := hr; repeat (first | exact hq.hd | replace hq := hq.tl)))) (by (first | exact reads_nil _ _ | (have hq := hr; repeat (first | exact hq.hd | replace hq := hq.tl)))) (by (first | exact reads_nil _ _ | (have hq := hr; repeat (first | exact hq.hd | replace hq := hq.tl)))) (by (first | exact reads_nil _ _ | (have hq := hr; repeat (first | exact hq.hd | replace hq := hq.tl)))) (by (first | exact reads_nil _ _ | (have hq := hr; repeat (first | exact hq.hd | replace hq := hq.tl)))) (by (first | exact reads_nil _ _ | (have hq := hr; repeat (first | exact hq.hd | replace hq := hq.tl)))) (by omega) (by omega) (by omega) (rfl) (by rw [if_pos h0]; exact congrArg Prod.fst hG) (by rw [if_pos h0]; exact congrArg Prod.snd hG)) rfl, ?_⟩
      simp only [Tree.goal, X.P, X.ev, V.toI_i, V.toB_b, V.toS_s, V.toR_r, V.toV_v, V.toN_n, V.toL_l, SV.ev, CV.ev, Sc.ev, List.getD_cons_zero, List.getD_cons_succ, List.getElem?_cons_zero, List.getElem?_cons_succ, List.map_cons, List.map_nil, List.length_cons, List.length_nil, List.cons_append, List.nil_append, Nat.zero_add, Nat.reduceAdd]
      refine ⟨[.b true], rfl, fun _ w' hr => as_called (c_sIs' (w := w') (e := chkS s) (f := chkS s) (a := rD) (b := rH) (l := []) (m := []) (by (first | exact reads_nil _ _ | (have hq := hr; repeat (first | exact hq.hd | replace hq := hq.tl)))) (by (first | exact reads_nil _ _ | (have hq := hr; repeat (first | exact hq.hd | replace hq := hq.tl)))) (by (first | exact reads_nil _ _ | (have hq := hr; repeat (first | exact hq.hd | replace hq := hq.tl)))) (by (first | exact reads_nil _ _ | (have hq := hr; repeat (first | exact hq.hd | replace hq := hq.tl)))) (by (first | exact reads_nil _ _ | (have hq := hr; repeat (first | exact hq.hd | replace hq := hq.tl)))) (by (first | exact reads_nil _ _ | (have hq := hr; repeat (first | exact hq.hd | replace hq := hq.tl)))) (by omega) (by omega) (by decide) (rfl) (by rw [if_pos h0]; exact hH) (by rw [ite_self])) rfl, ?_⟩
      simp only [Tree.goal, X.P, X.ev, V.toI_i, V.toB_b, V.toS_s, V.toR_r, V.toV_v, V.toN_n, V.toL_l, SV.ev, CV.ev, Sc.ev, List.getD_cons_zero, List.getD_cons_succ, List.getElem?_cons_zero, List.getElem?_cons_succ, List.map_cons, List.map_nil, List.length_cons, List.length_nil, List.cons_append, List.nil_append, Nat.zero_add, Nat.reduceAdd]
      refine fun w' hr => ⟨?_, hr.mod⟩
      simp
    · skip
      simp only [dragomanlaw_SessionTells_2, Tree.goal, X.P, X.ev, V.toI_i, V.toB_b, V.toS_s, V.toR_r, V.toV_v, V.toN_n, V.toL_l, SV.ev, CV.ev, Sc.ev, List.getD_cons_zero, List.getD_cons_succ, List.getElem?_cons_zero, List.getElem?_cons_succ, List.map_cons, List.map_nil, List.length_cons, List.length_nil, List.cons_append, List.nil_append, Nat.zero_add, Nat.reduceAdd]
      intro b1 b2 b3 b4
      intro w1 hr
      have hc1 := c_LandedOf w1 s u v id (by (first | exact reads_nil _ _ | (have hq := hr; repeat (first | exact hq.hd | replace hq := hq.tl)))) (by (first | exact reads_nil _ _ | (have hq := hr; repeat (first | exact hq.hd | replace hq := hq.tl)))) k1 (by omega) (by omega)
      generalize eF : landR s id = rF at hc1
      obtain ⟨rF, oF⟩ := rF
      refine hc1.mono ?_
      rintro e w2 ⟨uF, vF, xF, rfl, g1, g2, g3, g4, g5, g6, gm⟩
      refine ⟨[.s rF.cl, .b rF.on, .b rF.clean, .v uF, .r (rF.fl.map encF), .v vF, .r (rF.qu.map encF), .i rF.next, .v xF, .r (oF.map encP)], rfl, rfl, gm, List.forall_mem_nil _, List.forall_mem_cons.2 ⟨⟨g1, fun k hk => by rcases g4 k hk with h9 | h9 | h9 <;> (first | exact .inl h9 | (refine .inr (.inl ⟨rfl, ?_⟩); repeat (first | exact exq_hd ⟨rfl, h9⟩ | refine exq_tl ?_)))⟩, List.forall_mem_cons.2 ⟨⟨g2, fun k hk => by rcases g5 k hk with h9 | h9 | h9 <;> (first | exact .inl h9 | (refine .inr (.inl ⟨rfl, ?_⟩); repeat (first | exact exq_hd ⟨rfl, h9⟩ | refine exq_tl ?_)))⟩, List.forall_mem_cons.2 ⟨⟨g3, fun k hk => .inl (g6 k hk.2)⟩, List.forall_mem_nil _⟩⟩⟩, apart_ro (by simp [Ent.wr]), ?_⟩
      clear hc1 g1 g2 g3 g4 g5 g6 gm hr
      simp only [Tree.goal, X.P, X.ev, V.toI_i, V.toB_b, V.toS_s, V.toR_r, V.toV_v, V.toN_n, V.toL_l, SV.ev, CV.ev, Sc.ev, List.getD_cons_zero, List.getD_cons_succ, List.getElem?_cons_zero, List.getElem?_cons_succ, List.map_cons, List.map_nil, List.length_cons, List.length_nil, List.cons_append, List.nil_append, Nat.zero_add, Nat.reduceAdd]
      intro w1 hr
      have hc1 := c_ComeOf w1 s u v (by (first | exact reads_nil _ _ | (have hq := hr; repeat (first | exact hq.hd | replace hq := hq.tl)))) (by (first | exact reads_nil _ _ | (have hq := hr; repeat (first | exact hq.hd | replace hq := hq.tl)))) k1 (by omega) (by omega)
      generalize eG : comeR s = rG at hc1
      obtain ⟨rG, oG⟩ := rG
      refine hc1.mono ?_
      rintro e w2 ⟨uG, vG, xG, rfl, g1, g2, g3, g4, g5, g6, gm⟩
      refine ⟨[.s rG.cl, .b rG.on, .b rG.clean, .v uG, .r (rG.fl.map encF), .v vG, .r (rG.qu.map encF), .i rG.next, .v xG, .r (oG.map encP)], rfl, rfl, gm, List.forall_mem_nil _, List.forall_mem_cons.2 ⟨⟨g1, fun k hk => by rcases g4 k hk with h9 | h9 | h9 <;> (first | exact .inl h9 | (refine .inr (.inl ⟨rfl, ?_⟩); repeat (first | exact exq_hd ⟨rfl, h9⟩ | refine exq_tl ?_)))⟩, List.forall_mem_cons.2 ⟨⟨g2, fun k hk => by rcases g5 k hk with h9 | h9 | h9 <;> (first | exact .inl h9 | (refine .inr (.inl ⟨rfl, ?_⟩); repeat (first | exact exq_hd ⟨rfl, h9⟩ | refine exq_tl ?_)))⟩, List.forall_mem_cons.2 ⟨⟨g3, fun k hk => .inl (g6 k hk.2)⟩, List.forall_mem_nil _⟩⟩⟩, apart_ro (by simp [Ent.wr]), ?_⟩
      clear hc1 g1 g2 g3 g4 g5 g6 gm hr
      simp only [Tree.goal, X.P, X.ev, V.toI_i, V.toB_b, V.toS_s, V.toR_r, V.toV_v, V.toN_n, V.toL_l, SV.ev, CV.ev, Sc.ev, List.getD_cons_zero, List.getD_cons_succ, List.getElem?_cons_zero, List.getElem?_cons_succ, List.map_cons, List.map_nil, List.length_cons, List.length_nil, List.cons_append, List.nil_append, Nat.zero_add, Nat.reduceAdd]
      intro w1 hr
      have hc1 := c_GoOf w1 s u v (by (first | exact reads_nil _ _ | (have hq := hr; repeat (first | exact hq.hd | replace hq := hq.tl)))) (by (first | exact reads_nil _ _ | (have hq := hr; repeat (first | exact hq.hd | replace hq := hq.tl))))
      generalize eH : goR s = rH at hc1
      refine hc1.mono ?_
      rintro e w2 ⟨uH, vH, rfl, g1, g2, g4, g5, gm⟩
      refine ⟨[.s rH.cl, .b rH.on, .b rH.clean, .v uH, .r (rH.fl.map encF), .v vH, .r (rH.qu.map encF), .i rH.next], rfl, rfl, gm, List.forall_mem_nil _, List.forall_mem_cons.2 ⟨⟨g1, fun k hk => by rcases g4 k hk with h9 | h9 | h9 <;> (first | exact .inl h9 | (refine .inr (.inl ⟨rfl, ?_⟩); repeat (first | exact exq_hd ⟨rfl, h9⟩ | refine exq_tl ?_)))⟩, List.forall_mem_cons.2 ⟨⟨g2, fun k hk => by rcases g5 k hk with h9 | h9 | h9 <;> (first | exact .inl h9 | (refine .inr (.inl ⟨rfl, ?_⟩); repeat (first | exact exq_hd ⟨rfl, h9⟩ | refine exq_tl ?_)))⟩, List.forall_mem_nil _⟩⟩, apart_ro (by simp [Ent.wr]), ?_⟩
      clear hc1 g1 g2 g4 g5 gm hr
      simp only [Tree.goal, X.P, X.ev, V.toI_i, V.toB_b, V.toS_s, V.toR_r, V.toV_v, V.toN_n, V.toL_l, SV.ev, CV.ev, Sc.ev, List.getD_cons_zero, List.getD_cons_succ, List.getElem?_cons_zero, List.getElem?_cons_succ, List.map_cons, List.map_nil, List.length_cons, List.length_nil, List.cons_append, List.nil_append, Nat.zero_add, Nat.reduceAdd]
      have hE : sendE s n p q = 3 := by rw [sendE, if_pos h0, flE, if_pos h4.1.1, if_neg (fun h => h3 ⟨h4.1.1, h⟩), if_pos rfl, if_pos ⟨h4.1.2, h4.2⟩]
      have hS : (rA, oA) = (s0, []) := by rw [← eA, sendC, if_neg (by rw [hE]; decide)]
      have hF : (rB, oB) = (rF, oF) := by rw [← eB, landC, if_pos h0, eF]
      have hG : (rC, oC) = (rG, oG) := by rw [← eC, comeC, if_pos h0, eG]
      have hH : rD = rH := by rw [← eD, goC, if_pos h0, eH]
      refine ⟨[.b true], rfl, fun _ w' _ => c_sessionBegun w', ?_⟩
      simp only [Tree.goal, X.P, X.ev, V.toI_i, V.toB_b, V.toS_s, V.toR_r, V.toV_v, V.toN_n, V.toL_l, SV.ev, CV.ev, Sc.ev, List.getD_cons_zero, List.getD_cons_succ, List.getElem?_cons_zero, List.getElem?_cons_succ, List.map_cons, List.map_nil, List.length_cons, List.length_nil, List.cons_append, List.nil_append, Nat.zero_add, Nat.reduceAdd]
      refine ⟨[.i (chkS s)], rfl, fun _ w' hr => c_CheckS w' s u v (by (first | exact reads_nil _ _ | (have hq := hr; repeat (first | exact hq.hd | replace hq := hq.tl)))) (by (first | exact reads_nil _ _ | (have hq := hr; repeat (first | exact hq.hd | replace hq := hq.tl)))) h1 h2 (by omega) (by omega) hc, ?_⟩
      simp only [Tree.goal, X.P, X.ev, V.toI_i, V.toB_b, V.toS_s, V.toR_r, V.toV_v, V.toN_n, V.toL_l, SV.ev, CV.ev, Sc.ev, List.getD_cons_zero, List.getD_cons_succ, List.getElem?_cons_zero, List.getElem?_cons_succ, List.map_cons, List.map_nil, List.length_cons, List.length_nil, List.cons_append, List.nil_append, Nat.zero_add, Nat.reduceAdd]
      refine ⟨[.b true], rfl, fun _ w' hr => as_called (c_sIs' (w := w') (e := rA') (f := 3) (a := rA) (b := s0) (l := oA) (m := []) (by (first | exact reads_nil _ _ | (have hq := hr; repeat (first | exact hq.hd | replace hq := hq.tl)))) (by (first | exact reads_nil _ _ | (have hq := hr; repeat (first | exact hq.hd | replace hq := hq.tl)))) (by (first | exact reads_nil _ _ | (have hq := hr; repeat (first | exact hq.hd | replace hq := hq.tl)))) (by (first | exact reads_nil _ _ | (have hq := hr; repeat (first | exact hq.hd | replace hq := hq.tl)))) (by (first | exact reads_nil _ _ | (have hq := hr; repeat (first | exact hq.hd | replace hq := hq.tl)))) (by (first | exact reads_nil _ _ | (have hq := hr; repeat (first | exact hq.hd | replace hq := hq.tl)))) (by omega) (by omega) (by omega) (by rw [← eA']; exact hE) (by rw [ite_self]; exact (congrArg Prod.fst hS)) (by rw [ite_self]; exact (congrArg Prod.snd hS))) rfl, ?_⟩
      simp only [Tree.goal, X.P, X.ev, V.toI_i, V.toB_b, V.toS_s, V.toR_r, V.toV_v, V.toN_n, V.toL_l, SV.ev, CV.ev, Sc.ev, List.getD_cons_zero, List.getD_cons_succ, List.getElem?_cons_zero, List.getElem?_cons_succ, List.map_cons, List.map_nil, List.length_cons, List.length_nil, List.cons_append, List.nil_append, Nat.zero_add, Nat.reduceAdd]
      refine ⟨[.b true], rfl, fun _ w' hr => as_called (c_sIs' (w := w') (e := chkS s) (f := chkS s) (a := rB) (b := rF) (l := oB) (m := oF) (by (first | exact reads_nil _ _ | (have hq := hr; repeat (first | exact hq.hd | replace hq := hq.tl)))) (by (first | exact reads_nil _ _ | (have hq := hr; repeat (first | exact hq.hd | replace hq := hq.tl)))) (by (first | exact reads_nil _ _ | (have hq := hr; repeat (first | exact hq.hd | replace hq := hq.tl)))) (by (first | exact reads_nil _ _ | (have hq := hr; repeat (first | exact hq.hd | replace hq := hq.tl)))) (by (first | exact reads_nil _ _ | (have hq := hr; repeat (first | exact hq.hd | replace hq := hq.tl)))) (by (first | exact reads_nil _ _ | (have hq := hr; repeat (first | exact hq.hd | replace hq := hq.tl)))) (by omega) (by omega) (by omega) (rfl) (by rw [if_pos h0]; exact congrArg Prod.fst hF) (by rw [if_pos h0]; exact congrArg Prod.snd hF)) rfl, ?_⟩
      simp only [Tree.goal, X.P, X.ev, V.toI_i, V.toB_b, V.toS_s, V.toR_r, V.toV_v, V.toN_n, V.toL_l, SV.ev, CV.ev, Sc.ev, List.getD_cons_zero, List.getD_cons_succ, List.getElem?_cons_zero, List.getElem?_cons_succ, List.map_cons, List.map_nil, List.length_cons, List.length_nil, List.cons_append, List.nil_append, Nat.zero_add, Nat.reduceAdd]
      refine ⟨[.b true], rfl, fun _ w' hr => as_called (c_sIs' (w := w') (e := chkS s) (f := chkS s) (a := rC) (b := rG) (l := oC) (m := oG) (by (first | exact reads_nil _ _ | (have hq := hr; repeat (first | exact hq.hd | replace hq := hq.tl)))) (by (first | exact reads_nil _ _ | (have hq := hr; repeat (first | exact hq.hd | replace hq := hq.tl)))) (by (first | exact reads_nil _ _ | (have hq := hr; repeat (first | exact hq.hd | replace hq := hq.tl)))) (by (first | exact reads_nil _ _ | (have hq := hr; repeat (first | exact hq.hd | replace hq := hq.tl)))) (by (first | exact reads_nil _ _ | (have hq := hr; repeat (first | exact hq.hd | replace hq := hq.tl)))) (by (first | exact reads_nil _ _ | (have hq := hr; repeat (first | exact hq.hd | replace hq := hq.tl)))) (by omega) (by omega) (by omega) (rfl) (by rw [if_pos h0]; exact congrArg Prod.fst hG) (by rw [if_pos h0]; exact congrArg Prod.snd hG)) rfl, ?_⟩
      simp only [Tree.goal, X.P, X.ev, V.toI_i, V.toB_b, V.toS_s, V.toR_r, V.toV_v, V.toN_n, V.toL_l, SV.ev, CV.ev, Sc.ev, List.getD_cons_zero, List.getD_cons_succ, List.getElem?_cons_zero, List.getElem?_cons_succ, List.map_cons, List.map_nil, List.length_cons, List.length_nil, List.cons_append, List.nil_append, Nat.zero_add, Nat.reduceAdd]
      refine ⟨[.b true], rfl, fun _ w' hr => as_called (c_sIs' (w := w') (e := chkS s) (f := chkS s) (a := rD) (b := rH) (l := []) (m := []) (by (first | exact reads_nil _ _ | (have hq := hr; repeat (first | exact hq.hd | replace hq := hq.tl)))) (by (first | exact reads_nil _ _ | (have hq := hr; repeat (first | exact hq.hd | replace hq := hq.tl)))) (by (first | exact reads_nil _ _ | (have hq := hr; repeat (first | exact hq.hd | replace hq := hq.tl)))) (by (first | exact reads_nil _ _ | (have hq := hr; repeat (first | exact hq.hd | replace hq := hq.tl)))) (by (first | exact reads_nil _ _ | (have hq := hr; repeat (first | exact hq.hd | replace hq := hq.tl)))) (by (first | exact reads_nil _ _ | (have hq := hr; repeat (first | exact hq.hd | replace hq := hq.tl)))) (by omega) (by omega) (by decide) (rfl) (by rw [if_pos h0]; exact hH) (by rw [ite_self])) rfl, ?_⟩
      simp only [Tree.goal, X.P, X.ev, V.toI_i, V.toB_b, V.toS_s, V.toR_r, V.toV_v, V.toN_n, V.toL_l, SV.ev, CV.ev, Sc.ev, List.getD_cons_zero, List.getD_cons_succ, List.getElem?_cons_zero, List.getElem?_cons_succ, List.map_cons, List.map_nil, List.length_cons, List.length_nil, List.cons_append, List.nil_append, Nat.zero_add, Nat.reduceAdd]
      refine fun w' hr => ⟨?_, hr.mod⟩
      simp
    · skip
      intro b1 b2 b3 b4
      try simp only [Tree.goal, X.P, X.ev, V.toI_i, V.toB_b, V.toS_s, V.toR_r, V.toV_v, V.toN_n, V.toL_l, SV.ev, CV.ev, Sc.ev, List.getD_cons_zero, List.getD_cons_succ, List.getElem?_cons_zero, List.getElem?_cons_succ, List.map_cons, List.map_nil, List.length_cons, List.length_nil, List.cons_append, List.nil_append, Nat.zero_add, Nat.reduceAdd]
      refine ⟨fun (h6 : chkT n false = 0) => ?_, fun (h6 : ¬chkT n false = 0) => ?_⟩
      · skip
        have hq : q = 0 ∨ q = 1 := by omega
        simp only [dragomanlaw_SessionTells_3, Tree.goal, X.P, X.ev, V.toI_i, V.toB_b, V.toS_s, V.toR_r, V.toV_v, V.toN_n, V.toL_l, SV.ev, CV.ev, Sc.ev, List.getD_cons_zero, List.getD_cons_succ, List.getElem?_cons_zero, List.getElem?_cons_succ, List.map_cons, List.map_nil, List.length_cons, List.length_nil, List.cons_append, List.nil_append, Nat.zero_add, Nat.reduceAdd]
        intro w1 hr
        have hc1 := c_SendOf w1 s u v n p q (by (first | exact reads_nil _ _ | (have hq := hr; repeat (first | exact hq.hd | replace hq := hq.tl)))) (by (first | exact reads_nil _ _ | (have hq := hr; repeat (first | exact hq.hd | replace hq := hq.tl)))) k1 (by omega) (by omega)
        generalize eE : sendR s n p q = rE at hc1
        obtain ⟨rE, oE⟩ := rE
        refine hc1.mono ?_
        rintro e w2 ⟨uE, vE, xE, rfl, g1, g2, g3, g4, g5, g6, gm⟩
        refine ⟨[.s rE.cl, .b rE.on, .b rE.clean, .v uE, .r (rE.fl.map encF), .v vE, .r (rE.qu.map encF), .i rE.next, .v xE, .r (oE.map encP)], rfl, rfl, gm, List.forall_mem_nil _, List.forall_mem_cons.2 ⟨⟨g1, fun k hk => by rcases g4 k hk with h9 | h9 | h9 <;> (first | exact .inl h9 | (refine .inr (.inl ⟨rfl, ?_⟩); repeat (first | exact exq_hd ⟨rfl, h9⟩ | refine exq_tl ?_)))⟩, List.forall_mem_cons.2 ⟨⟨g2, fun k hk => by rcases g5 k hk with h9 | h9 | h9 <;> (first | exact .inl h9 | (refine .inr (.inl ⟨rfl, ?_⟩); repeat (first | exact exq_hd ⟨rfl, h9⟩ | refine exq_tl ?_)))⟩, List.forall_mem_cons.2 ⟨⟨g3, fun k hk => .inl (g6 k hk.2)⟩, List.forall_mem_nil _⟩⟩⟩, apart_ro (by simp [Ent.wr]), ?_⟩
        clear hc1 g1 g2 g3 g4 g5 g6 gm hr
        simp only [Tree.goal, X.P, X.ev, V.toI_i, V.toB_b, V.toS_s, V.toR_r, V.toV_v, V.toN_n, V.toL_l, SV.ev, CV.ev, Sc.ev, List.getD_cons_zero, List.getD_cons_succ, List.getElem?_cons_zero, List.getElem?_cons_succ, List.map_cons, List.map_nil, List.length_cons, List.length_nil, List.cons_append, List.nil_append, Nat.zero_add, Nat.reduceAdd]
        intro w1 hr
        have hc1 := c_LandedOf w1 s u v id (by (first | exact reads_nil _ _ | (have hq := hr; repeat (first | exact hq.hd | replace hq := hq.tl)))) (by (first | exact reads_nil _ _ | (have hq := hr; repeat (first | exact hq.hd | replace hq := hq.tl)))) k1 (by omega) (by omega)
        generalize eF : landR s id = rF at hc1
        obtain ⟨rF, oF⟩ := rF
        refine hc1.mono ?_
        rintro e w2 ⟨uF, vF, xF, rfl, g1, g2, g3, g4, g5, g6, gm⟩
        refine ⟨[.s rF.cl, .b rF.on, .b rF.clean, .v uF, .r (rF.fl.map encF), .v vF, .r (rF.qu.map encF), .i rF.next, .v xF, .r (oF.map encP)], rfl, rfl, gm, List.forall_mem_nil _, List.forall_mem_cons.2 ⟨⟨g1, fun k hk => by rcases g4 k hk with h9 | h9 | h9 <;> (first | exact .inl h9 | (refine .inr (.inl ⟨rfl, ?_⟩); repeat (first | exact exq_hd ⟨rfl, h9⟩ | refine exq_tl ?_)))⟩, List.forall_mem_cons.2 ⟨⟨g2, fun k hk => by rcases g5 k hk with h9 | h9 | h9 <;> (first | exact .inl h9 | (refine .inr (.inl ⟨rfl, ?_⟩); repeat (first | exact exq_hd ⟨rfl, h9⟩ | refine exq_tl ?_)))⟩, List.forall_mem_cons.2 ⟨⟨g3, fun k hk => .inl (g6 k hk.2)⟩, List.forall_mem_nil _⟩⟩⟩, apart_ro (by simp [Ent.wr]), ?_⟩
        clear hc1 g1 g2 g3 g4 g5 g6 gm hr
        simp only [Tree.goal, X.P, X.ev, V.toI_i, V.toB_b, V.toS_s, V.toR_r, V.toV_v, V.toN_n, V.toL_l, SV.ev, CV.ev, Sc.ev, List.getD_cons_zero, List.getD_cons_succ, List.getElem?_cons_zero, List.getElem?_cons_succ, List.map_cons, List.map_nil, List.length_cons, List.length_nil, List.cons_append, List.nil_append, Nat.zero_add, Nat.reduceAdd]
        intro w1 hr
        have hc1 := c_ComeOf w1 s u v (by (first | exact reads_nil _ _ | (have hq := hr; repeat (first | exact hq.hd | replace hq := hq.tl)))) (by (first | exact reads_nil _ _ | (have hq := hr; repeat (first | exact hq.hd | replace hq := hq.tl)))) k1 (by omega) (by omega)
        generalize eG : comeR s = rG at hc1
        obtain ⟨rG, oG⟩ := rG
        refine hc1.mono ?_
        rintro e w2 ⟨uG, vG, xG, rfl, g1, g2, g3, g4, g5, g6, gm⟩
        refine ⟨[.s rG.cl, .b rG.on, .b rG.clean, .v uG, .r (rG.fl.map encF), .v vG, .r (rG.qu.map encF), .i rG.next, .v xG, .r (oG.map encP)], rfl, rfl, gm, List.forall_mem_nil _, List.forall_mem_cons.2 ⟨⟨g1, fun k hk => by rcases g4 k hk with h9 | h9 | h9 <;> (first | exact .inl h9 | (refine .inr (.inl ⟨rfl, ?_⟩); repeat (first | exact exq_hd ⟨rfl, h9⟩ | refine exq_tl ?_)))⟩, List.forall_mem_cons.2 ⟨⟨g2, fun k hk => by rcases g5 k hk with h9 | h9 | h9 <;> (first | exact .inl h9 | (refine .inr (.inl ⟨rfl, ?_⟩); repeat (first | exact exq_hd ⟨rfl, h9⟩ | refine exq_tl ?_)))⟩, List.forall_mem_cons.2 ⟨⟨g3, fun k hk => .inl (g6 k hk.2)⟩, List.forall_mem_nil _⟩⟩⟩, apart_ro (by simp [Ent.wr]), ?_⟩
        clear hc1 g1 g2 g3 g4 g5 g6 gm hr
        simp only [Tree.goal, X.P, X.ev, V.toI_i, V.toB_b, V.toS_s, V.toR_r, V.toV_v, V.toN_n, V.toL_l, SV.ev, CV.ev, Sc.ev, List.getD_cons_zero, List.getD_cons_succ, List.getElem?_cons_zero, List.getElem?_cons_succ, List.map_cons, List.map_nil, List.length_cons, List.length_nil, List.cons_append, List.nil_append, Nat.zero_add, Nat.reduceAdd]
        intro w1 hr
        have hc1 := c_GoOf w1 s u v (by (first | exact reads_nil _ _ | (have hq := hr; repeat (first | exact hq.hd | replace hq := hq.tl)))) (by (first | exact reads_nil _ _ | (have hq := hr; repeat (first | exact hq.hd | replace hq := hq.tl))))
        generalize eH : goR s = rH at hc1
        refine hc1.mono ?_
        rintro e w2 ⟨uH, vH, rfl, g1, g2, g4, g5, gm⟩
        refine ⟨[.s rH.cl, .b rH.on, .b rH.clean, .v uH, .r (rH.fl.map encF), .v vH, .r (rH.qu.map encF), .i rH.next], rfl, rfl, gm, List.forall_mem_nil _, List.forall_mem_cons.2 ⟨⟨g1, fun k hk => by rcases g4 k hk with h9 | h9 | h9 <;> (first | exact .inl h9 | (refine .inr (.inl ⟨rfl, ?_⟩); repeat (first | exact exq_hd ⟨rfl, h9⟩ | refine exq_tl ?_)))⟩, List.forall_mem_cons.2 ⟨⟨g2, fun k hk => by rcases g5 k hk with h9 | h9 | h9 <;> (first | exact .inl h9 | (refine .inr (.inl ⟨rfl, ?_⟩); repeat (first | exact exq_hd ⟨rfl, h9⟩ | refine exq_tl ?_)))⟩, List.forall_mem_nil _⟩⟩, apart_ro (by simp [Ent.wr]), ?_⟩
        clear hc1 g1 g2 g4 g5 gm hr
        simp only [Tree.goal, X.P, X.ev, V.toI_i, V.toB_b, V.toS_s, V.toR_r, V.toV_v, V.toN_n, V.toL_l, SV.ev, CV.ev, Sc.ev, List.getD_cons_zero, List.getD_cons_succ, List.getElem?_cons_zero, List.getElem?_cons_succ, List.map_cons, List.map_nil, List.length_cons, List.length_nil, List.cons_append, List.nil_append, Nat.zero_add, Nat.reduceAdd]
        have hE : sendE s n p q = 0 := by rw [sendE, if_pos h0, flE, if_pos h6, if_neg (fun h => h3 ⟨h6, h⟩), if_pos rfl, if_neg (by omega)]
        have hS : (rA, oA) = (rE, oE) := by rw [← eA, sendC, if_pos hE, raw_send k3 hq, eE]
        have hF : (rB, oB) = (rF, oF) := by rw [← eB, landC, if_pos h0, eF]
        have hG : (rC, oC) = (rG, oG) := by rw [← eC, comeC, if_pos h0, eG]
        have hH : rD = rH := by rw [← eD, goC, if_pos h0, eH]
        refine ⟨[.b true], rfl, fun _ w' _ => c_sessionBegun w', ?_⟩
        simp only [Tree.goal, X.P, X.ev, V.toI_i, V.toB_b, V.toS_s, V.toR_r, V.toV_v, V.toN_n, V.toL_l, SV.ev, CV.ev, Sc.ev, List.getD_cons_zero, List.getD_cons_succ, List.getElem?_cons_zero, List.getElem?_cons_succ, List.map_cons, List.map_nil, List.length_cons, List.length_nil, List.cons_append, List.nil_append, Nat.zero_add, Nat.reduceAdd]
        refine ⟨[.i (chkS s)], rfl, fun _ w' hr => c_CheckS w' s u v (by (first | exact reads_nil _ _ | (have hq := hr; repeat (first | exact hq.hd | replace hq := hq.tl)))) (by (first | exact reads_nil _ _ | (have hq := hr; repeat (first | exact hq.hd | replace hq := hq.tl)))) h1 h2 (by omega) (by omega) hc, ?_⟩
        simp only [Tree.goal, X.P, X.ev, V.toI_i, V.toB_b, V.toS_s, V.toR_r, V.toV_v, V.toN_n, V.toL_l, SV.ev, CV.ev, Sc.ev, List.getD_cons_zero, List.getD_cons_succ, List.getElem?_cons_zero, List.getElem?_cons_succ, List.map_cons, List.map_nil, List.length_cons, List.length_nil, List.cons_append, List.nil_append, Nat.zero_add, Nat.reduceAdd]
        refine ⟨[.b true], rfl, fun _ w' hr => as_called (c_sIs' (w := w') (e := rA') (f := chkT n false) (a := rA) (b := rE) (l := oA) (m := oE) (by (first | exact reads_nil _ _ | (have hq := hr; repeat (first | exact hq.hd | replace hq := hq.tl)))) (by (first | exact reads_nil _ _ | (have hq := hr; repeat (first | exact hq.hd | replace hq := hq.tl)))) (by (first | exact reads_nil _ _ | (have hq := hr; repeat (first | exact hq.hd | replace hq := hq.tl)))) (by (first | exact reads_nil _ _ | (have hq := hr; repeat (first | exact hq.hd | replace hq := hq.tl)))) (by (first | exact reads_nil _ _ | (have hq := hr; repeat (first | exact hq.hd | replace hq := hq.tl)))) (by (first | exact reads_nil _ _ | (have hq := hr; repeat (first | exact hq.hd | replace hq := hq.tl)))) (by omega) (by omega) (by omega) (by rw [← eA']; exact hE.trans h6.symm) (by rw [if_pos h6]; exact (congrArg Prod.fst hS)) (by rw [if_pos h6]; exact (congrArg Prod.snd hS))) rfl, ?_⟩
        simp only [Tree.goal, X.P, X.ev, V.toI_i, V.toB_b, V.toS_s, V.toR_r, V.toV_v, V.toN_n, V.toL_l, SV.ev, CV.ev, Sc.ev, List.getD_cons_zero, List.getD_cons_succ, List.getElem?_cons_zero, List.getElem?_cons_succ, List.map_cons, List.map_nil, List.length_cons, List.length_nil, List.cons_append, List.nil_append, Nat.zero_add, Nat.reduceAdd]
        refine ⟨[.b true], rfl, fun _ w' hr => as_called (c_sIs' (w := w') (e := chkS s) (f := chkS s) (a := rB) (b := rF) (l := oB) (m := oF) (by (first | exact reads_nil _ _ | (have hq := hr; repeat (first | exact hq.hd | replace hq := hq.tl)))) (by (first | exact reads_nil _ _ | (have hq := hr; repeat (first | exact hq.hd | replace hq := hq.tl)))) (by (first | exact reads_nil _ _ | (have hq := hr; repeat (first | exact hq.hd | replace hq := hq.tl)))) (by (first | exact reads_nil _ _ | (have hq := hr; repeat (first | exact hq.hd | replace hq := hq.tl)))) (by (first | exact reads_nil _ _ | (have hq := hr; repeat (first | exact hq.hd | replace hq := hq.tl)))) (by (first | exact reads_nil _ _ | (have hq := hr; repeat (first | exact hq.hd | replace hq := hq.tl)))) (by omega) (by omega) (by omega) (rfl) (by rw [if_pos h0]; exact congrArg Prod.fst hF) (by rw [if_pos h0]; exact congrArg Prod.snd hF)) rfl, ?_⟩
        simp only [Tree.goal, X.P, X.ev, V.toI_i, V.toB_b, V.toS_s, V.toR_r, V.toV_v, V.toN_n, V.toL_l, SV.ev, CV.ev, Sc.ev, List.getD_cons_zero, List.getD_cons_succ, List.getElem?_cons_zero, List.getElem?_cons_succ, List.map_cons, List.map_nil, List.length_cons, List.length_nil, List.cons_append, List.nil_append, Nat.zero_add, Nat.reduceAdd]
        refine ⟨[.b true], rfl, fun _ w' hr => as_called (c_sIs' (w := w') (e := chkS s) (f := chkS s) (a := rC) (b := rG) (l := oC) (m := oG) (by (first | exact reads_nil _ _ | (have hq := hr; repeat (first | exact hq.hd | replace hq := hq.tl)))) (by (first | exact reads_nil _ _ | (have hq := hr; repeat (first | exact hq.hd | replace hq := hq.tl)))) (by (first | exact reads_nil _ _ | (have hq := hr; repeat (first | exact hq.hd | replace hq := hq.tl)))) (by (first | exact reads_nil _ _ | (have hq := hr; repeat (first | exact hq.hd | replace hq := hq.tl)))) (by (first | exact reads_nil _ _ | (have hq := hr; repeat (first | exact hq.hd | replace hq := hq.tl)))) (by (first | exact reads_nil _ _ | (have hq := hr; repeat (first | exact hq.hd | replace hq := hq.tl)))) (by omega) (by omega) (by omega) (rfl) (by rw [if_pos h0]; exact congrArg Prod.fst hG) (by rw [if_pos h0]; exact congrArg Prod.snd hG)) rfl, ?_⟩
        simp only [Tree.goal, X.P, X.ev, V.toI_i, V.toB_b, V.toS_s, V.toR_r, V.toV_v, V.toN_n, V.toL_l, SV.ev, CV.ev, Sc.ev, List.getD_cons_zero, List.getD_cons_succ, List.getElem?_cons_zero, List.getElem?_cons_succ, List.map_cons, List.map_nil, List.length_cons, List.length_nil, List.cons_append, List.nil_append, Nat.zero_add, Nat.reduceAdd]
        refine ⟨[.b true], rfl, fun _ w' hr => as_called (c_sIs' (w := w') (e := chkS s) (f := chkS s) (a := rD) (b := rH) (l := []) (m := []) (by (first | exact reads_nil _ _ | (have hq := hr; repeat (first | exact hq.hd | replace hq := hq.tl)))) (by (first | exact reads_nil _ _ | (have hq := hr; repeat (first | exact hq.hd | replace hq := hq.tl)))) (by (first | exact reads_nil _ _ | (have hq := hr; repeat (first | exact hq.hd | replace hq := hq.tl)))) (by (first | exact reads_nil _ _ | (have hq := hr; repeat (first | exact hq.hd | replace hq := hq.tl)))) (by (first | exact reads_nil _ _ | (have hq := hr; repeat (first | exact hq.hd | replace hq := hq.tl)))) (by (first | exact reads_nil _ _ | (have hq := hr; repeat (first | exact hq.hd | replace hq := hq.tl)))) (by omega) (by omega) (by decide) (rfl) (by rw [if_pos h0]; exact hH) (by rw [ite_self])) rfl, ?_⟩
        simp only [Tree.goal, X.P, X.ev, V.toI_i, V.toB_b, V.toS_s, V.toR_r, V.toV_v, V.toN_n, V.toL_l, SV.ev, CV.ev, Sc.ev, List.getD_cons_zero, List.getD_cons_succ, List.getElem?_cons_zero, List.getElem?_cons_succ, List.map_cons, List.map_nil, List.length_cons, List.length_nil, List.cons_append, List.nil_append, Nat.zero_add, Nat.reduceAdd]
        refine fun w' hr => ⟨?_, hr.mod⟩
        simp
      · skip
        simp only [dragomanlaw_SessionTells_4, Tree.goal, X.P, X.ev, V.toI_i, V.toB_b, V.toS_s, V.toR_r, V.toV_v, V.toN_n, V.toL_l, SV.ev, CV.ev, Sc.ev, List.getD_cons_zero, List.getD_cons_succ, List.getElem?_cons_zero, List.getElem?_cons_succ, List.map_cons, List.map_nil, List.length_cons, List.length_nil, List.cons_append, List.nil_append, Nat.zero_add, Nat.reduceAdd]
        intro w1 hr
        have hc1 := c_LandedOf w1 s u v id (by (first | exact reads_nil _ _ | (have hq := hr; repeat (first | exact hq.hd | replace hq := hq.tl)))) (by (first | exact reads_nil _ _ | (have hq := hr; repeat (first | exact hq.hd | replace hq := hq.tl)))) k1 (by omega) (by omega)
        generalize eF : landR s id = rF at hc1
        obtain ⟨rF, oF⟩ := rF
        refine hc1.mono ?_
        rintro e w2 ⟨uF, vF, xF, rfl, g1, g2, g3, g4, g5, g6, gm⟩
        refine ⟨[.s rF.cl, .b rF.on, .b rF.clean, .v uF, .r (rF.fl.map encF), .v vF, .r (rF.qu.map encF), .i rF.next, .v xF, .r (oF.map encP)], rfl, rfl, gm, List.forall_mem_nil _, List.forall_mem_cons.2 ⟨⟨g1, fun k hk => by rcases g4 k hk with h9 | h9 | h9 <;> (first | exact .inl h9 | (refine .inr (.inl ⟨rfl, ?_⟩); repeat (first | exact exq_hd ⟨rfl, h9⟩ | refine exq_tl ?_)))⟩, List.forall_mem_cons.2 ⟨⟨g2, fun k hk => by rcases g5 k hk with h9 | h9 | h9 <;> (first | exact .inl h9 | (refine .inr (.inl ⟨rfl, ?_⟩); repeat (first | exact exq_hd ⟨rfl, h9⟩ | refine exq_tl ?_)))⟩, List.forall_mem_cons.2 ⟨⟨g3, fun k hk => .inl (g6 k hk.2)⟩, List.forall_mem_nil _⟩⟩⟩, apart_ro (by simp [Ent.wr]), ?_⟩
        clear hc1 g1 g2 g3 g4 g5 g6 gm hr
        simp only [Tree.goal, X.P, X.ev, V.toI_i, V.toB_b, V.toS_s, V.toR_r, V.toV_v, V.toN_n, V.toL_l, SV.ev, CV.ev, Sc.ev, List.getD_cons_zero, List.getD_cons_succ, List.getElem?_cons_zero, List.getElem?_cons_succ, List.map_cons, List.map_nil, List.length_cons, List.length_nil, List.cons_append, List.nil_append, Nat.zero_add, Nat.reduceAdd]
        intro w1 hr
        have hc1 := c_ComeOf w1 s u v (by (first | exact reads_nil _ _ | (have hq := hr; repeat (first | exact hq.hd | replace hq := hq.tl)))) (by (first | exact reads_nil _ _ | (have hq := hr; repeat (first | exact hq.hd | replace hq := hq.tl)))) k1 (by omega) (by omega)
        generalize eG : comeR s = rG at hc1
        obtain ⟨rG, oG⟩ := rG
        refine hc1.mono ?_
        rintro e w2 ⟨uG, vG, xG, rfl, g1, g2, g3, g4, g5, g6, gm⟩
        refine ⟨[.s rG.cl, .b rG.on, .b rG.clean, .v uG, .r (rG.fl.map encF), .v vG, .r (rG.qu.map encF), .i rG.next, .v xG, .r (oG.map encP)], rfl, rfl, gm, List.forall_mem_nil _, List.forall_mem_cons.2 ⟨⟨g1, fun k hk => by rcases g4 k hk with h9 | h9 | h9 <;> (first | exact .inl h9 | (refine .inr (.inl ⟨rfl, ?_⟩); repeat (first | exact exq_hd ⟨rfl, h9⟩ | refine exq_tl ?_)))⟩, List.forall_mem_cons.2 ⟨⟨g2, fun k hk => by rcases g5 k hk with h9 | h9 | h9 <;> (first | exact .inl h9 | (refine .inr (.inl ⟨rfl, ?_⟩); repeat (first | exact exq_hd ⟨rfl, h9⟩ | refine exq_tl ?_)))⟩, List.forall_mem_cons.2 ⟨⟨g3, fun k hk => .inl (g6 k hk.2)⟩, List.forall_mem_nil _⟩⟩⟩, apart_ro (by simp [Ent.wr]), ?_⟩
        clear hc1 g1 g2 g3 g4 g5 g6 gm hr
        simp only [Tree.goal, X.P, X.ev, V.toI_i, V.toB_b, V.toS_s, V.toR_r, V.toV_v, V.toN_n, V.toL_l, SV.ev, CV.ev, Sc.ev, List.getD_cons_zero, List.getD_cons_succ, List.getElem?_cons_zero, List.getElem?_cons_succ, List.map_cons, List.map_nil, List.length_cons, List.length_nil, List.cons_append, List.nil_append, Nat.zero_add, Nat.reduceAdd]
        intro w1 hr
        have hc1 := c_GoOf w1 s u v (by (first | exact reads_nil _ _ | (have hq := hr; repeat (first | exact hq.hd | replace hq := hq.tl)))) (by (first | exact reads_nil _ _ | (have hq := hr; repeat (first | exact hq.hd | replace hq := hq.tl))))
        generalize eH : goR s = rH at hc1
        refine hc1.mono ?_
        rintro e w2 ⟨uH, vH, rfl, g1, g2, g4, g5, gm⟩
        refine ⟨[.s rH.cl, .b rH.on, .b rH.clean, .v uH, .r (rH.fl.map encF), .v vH, .r (rH.qu.map encF), .i rH.next], rfl, rfl, gm, List.forall_mem_nil _, List.forall_mem_cons.2 ⟨⟨g1, fun k hk => by rcases g4 k hk with h9 | h9 | h9 <;> (first | exact .inl h9 | (refine .inr (.inl ⟨rfl, ?_⟩); repeat (first | exact exq_hd ⟨rfl, h9⟩ | refine exq_tl ?_)))⟩, List.forall_mem_cons.2 ⟨⟨g2, fun k hk => by rcases g5 k hk with h9 | h9 | h9 <;> (first | exact .inl h9 | (refine .inr (.inl ⟨rfl, ?_⟩); repeat (first | exact exq_hd ⟨rfl, h9⟩ | refine exq_tl ?_)))⟩, List.forall_mem_nil _⟩⟩, apart_ro (by simp [Ent.wr]), ?_⟩
        clear hc1 g1 g2 g4 g5 gm hr
        simp only [Tree.goal, X.P, X.ev, V.toI_i, V.toB_b, V.toS_s, V.toR_r, V.toV_v, V.toN_n, V.toL_l, SV.ev, CV.ev, Sc.ev, List.getD_cons_zero, List.getD_cons_succ, List.getElem?_cons_zero, List.getElem?_cons_succ, List.map_cons, List.map_nil, List.length_cons, List.length_nil, List.cons_append, List.nil_append, Nat.zero_add, Nat.reduceAdd]
        have hE : sendE s n p q = chkT n false := by rw [sendE, if_pos h0, flE, if_neg h6, if_neg h6]
        have hS : (rA, oA) = (s0, []) := by rw [← eA, sendC, if_neg (by rw [hE]; exact h6)]
        have hF : (rB, oB) = (rF, oF) := by rw [← eB, landC, if_pos h0, eF]
        have hG : (rC, oC) = (rG, oG) := by rw [← eC, comeC, if_pos h0, eG]
        have hH : rD = rH := by rw [← eD, goC, if_pos h0, eH]
        refine ⟨[.b true], rfl, fun _ w' _ => c_sessionBegun w', ?_⟩
        simp only [Tree.goal, X.P, X.ev, V.toI_i, V.toB_b, V.toS_s, V.toR_r, V.toV_v, V.toN_n, V.toL_l, SV.ev, CV.ev, Sc.ev, List.getD_cons_zero, List.getD_cons_succ, List.getElem?_cons_zero, List.getElem?_cons_succ, List.map_cons, List.map_nil, List.length_cons, List.length_nil, List.cons_append, List.nil_append, Nat.zero_add, Nat.reduceAdd]
        refine ⟨[.i (chkS s)], rfl, fun _ w' hr => c_CheckS w' s u v (by (first | exact reads_nil _ _ | (have hq := hr; repeat (first | exact hq.hd | replace hq := hq.tl)))) (by (first | exact reads_nil _ _ | (have hq := hr; repeat (first | exact hq.hd | replace hq := hq.tl)))) h1 h2 (by omega) (by omega) hc, ?_⟩
        simp only [Tree.goal, X.P, X.ev, V.toI_i, V.toB_b, V.toS_s, V.toR_r, V.toV_v, V.toN_n, V.toL_l, SV.ev, CV.ev, Sc.ev, List.getD_cons_zero, List.getD_cons_succ, List.getElem?_cons_zero, List.getElem?_cons_succ, List.map_cons, List.map_nil, List.length_cons, List.length_nil, List.cons_append, List.nil_append, Nat.zero_add, Nat.reduceAdd]
        refine ⟨[.b true], rfl, fun _ w' hr => as_called (c_sIs' (w := w') (e := rA') (f := chkT n false) (a := rA) (b := s0) (l := oA) (m := []) (by (first | exact reads_nil _ _ | (have hq := hr; repeat (first | exact hq.hd | replace hq := hq.tl)))) (by (first | exact reads_nil _ _ | (have hq := hr; repeat (first | exact hq.hd | replace hq := hq.tl)))) (by (first | exact reads_nil _ _ | (have hq := hr; repeat (first | exact hq.hd | replace hq := hq.tl)))) (by (first | exact reads_nil _ _ | (have hq := hr; repeat (first | exact hq.hd | replace hq := hq.tl)))) (by (first | exact reads_nil _ _ | (have hq := hr; repeat (first | exact hq.hd | replace hq := hq.tl)))) (by (first | exact reads_nil _ _ | (have hq := hr; repeat (first | exact hq.hd | replace hq := hq.tl)))) (by omega) (by omega) (by omega) (by rw [← eA']; exact hE) (by rw [ite_self]; exact (congrArg Prod.fst hS)) (by rw [ite_self]; exact (congrArg Prod.snd hS))) rfl, ?_⟩
        simp only [Tree.goal, X.P, X.ev, V.toI_i, V.toB_b, V.toS_s, V.toR_r, V.toV_v, V.toN_n, V.toL_l, SV.ev, CV.ev, Sc.ev, List.getD_cons_zero, List.getD_cons_succ, List.getElem?_cons_zero, List.getElem?_cons_succ, List.map_cons, List.map_nil, List.length_cons, List.length_nil, List.cons_append, List.nil_append, Nat.zero_add, Nat.reduceAdd]
        refine ⟨[.b true], rfl, fun _ w' hr => as_called (c_sIs' (w := w') (e := chkS s) (f := chkS s) (a := rB) (b := rF) (l := oB) (m := oF) (by (first | exact reads_nil _ _ | (have hq := hr; repeat (first | exact hq.hd | replace hq := hq.tl)))) (by (first | exact reads_nil _ _ | (have hq := hr; repeat (first | exact hq.hd | replace hq := hq.tl)))) (by (first | exact reads_nil _ _ | (have hq := hr; repeat (first | exact hq.hd | replace hq := hq.tl)))) (by (first | exact reads_nil _ _ | (have hq := hr; repeat (first | exact hq.hd | replace hq := hq.tl)))) (by (first | exact reads_nil _ _ | (have hq := hr; repeat (first | exact hq.hd | replace hq := hq.tl)))) (by (first | exact reads_nil _ _ | (have hq := hr; repeat (first | exact hq.hd | replace hq := hq.tl)))) (by omega) (by omega) (by omega) (rfl) (by rw [if_pos h0]; exact congrArg Prod.fst hF) (by rw [if_pos h0]; exact congrArg Prod.snd hF)) rfl, ?_⟩
        simp only [Tree.goal, X.P, X.ev, V.toI_i, V.toB_b, V.toS_s, V.toR_r, V.toV_v, V.toN_n, V.toL_l, SV.ev, CV.ev, Sc.ev, List.getD_cons_zero, List.getD_cons_succ, List.getElem?_cons_zero, List.getElem?_cons_succ, List.map_cons, List.map_nil, List.length_cons, List.length_nil, List.cons_append, List.nil_append, Nat.zero_add, Nat.reduceAdd]
        refine ⟨[.b true], rfl, fun _ w' hr => as_called (c_sIs' (w := w') (e := chkS s) (f := chkS s) (a := rC) (b := rG) (l := oC) (m := oG) (by (first | exact reads_nil _ _ | (have hq := hr; repeat (first | exact hq.hd | replace hq := hq.tl)))) (by (first | exact reads_nil _ _ | (have hq := hr; repeat (first | exact hq.hd | replace hq := hq.tl)))) (by (first | exact reads_nil _ _ | (have hq := hr; repeat (first | exact hq.hd | replace hq := hq.tl)))) (by (first | exact reads_nil _ _ | (have hq := hr; repeat (first | exact hq.hd | replace hq := hq.tl)))) (by (first | exact reads_nil _ _ | (have hq := hr; repeat (first | exact hq.hd | replace hq := hq.tl)))) (by (first | exact reads_nil _ _ | (have hq := hr; repeat (first | exact hq.hd | replace hq := hq.tl)))) (by omega) (by omega) (by omega) (rfl) (by rw [if_pos h0]; exact congrArg Prod.fst hG) (by rw [if_pos h0]; exact congrArg Prod.snd hG)) rfl, ?_⟩
        simp only [Tree.goal, X.P, X.ev, V.toI_i, V.toB_b, V.toS_s, V.toR_r, V.toV_v, V.toN_n, V.toL_l, SV.ev, CV.ev, Sc.ev, List.getD_cons_zero, List.getD_cons_succ, List.getElem?_cons_zero, List.getElem?_cons_succ, List.map_cons, List.map_nil, List.length_cons, List.length_nil, List.cons_append, List.nil_append, Nat.zero_add, Nat.reduceAdd]
        refine ⟨[.b true], rfl, fun _ w' hr => as_called (c_sIs' (w := w') (e := chkS s) (f := chkS s) (a := rD) (b := rH) (l := []) (m := []) (by (first | exact reads_nil _ _ | (have hq := hr; repeat (first | exact hq.hd | replace hq := hq.tl)))) (by (first | exact reads_nil _ _ | (have hq := hr; repeat (first | exact hq.hd | replace hq := hq.tl)))) (by (first | exact reads_nil _ _ | (have hq := hr; repeat (first | exact hq.hd | replace hq := hq.tl)))) (by (first | exact reads_nil _ _ | (have hq := hr; repeat (first | exact hq.hd | replace hq := hq.tl)))) (by (first | exact reads_nil _ _ | (have hq := hr; repeat (first | exact hq.hd | replace hq := hq.tl)))) (by (first | exact reads_nil _ _ | (have hq := hr; repeat (first | exact hq.hd | replace hq := hq.tl)))) (by omega) (by omega) (by decide) (rfl) (by rw [if_pos h0]; exact hH) (by rw [ite_self])) rfl, ?_⟩
        simp only [Tree.goal, X.P, X.ev, V.toI_i, V.toB_b, V.toS_s, V.toR_r, V.toV_v, V.toN_n, V.toL_l, SV.ev, CV.ev, Sc.ev, List.getD_cons_zero, List.getD_cons_succ, List.getElem?_cons_zero, List.getElem?_cons_succ, List.map_cons, List.map_nil, List.length_cons, List.length_nil, List.cons_append, List.nil_append, Nat.zero_add, Nat.reduceAdd]
        refine fun w' hr => ⟨?_, hr.mod⟩
        simp
  · skip
    simp only [dragomanlaw_SessionTells_6, Tree.goal, X.P, X.ev, V.toI_i, V.toB_b, V.toS_s, V.toR_r, V.toV_v, V.toN_n, V.toL_l, SV.ev, CV.ev, Sc.ev, List.getD_cons_zero, List.getD_cons_succ, List.getElem?_cons_zero, List.getElem?_cons_succ, List.map_cons, List.map_nil, List.length_cons, List.length_nil, List.cons_append, List.nil_append, Nat.zero_add, Nat.reduceAdd]
    intro b1 b2 b3 b4
    have hE : sendE s n p q = chkS s := by rw [sendE, if_neg h0]
    have hS : (rA, oA) = (s0, []) := by rw [← eA, sendC, if_neg (by rw [hE]; exact h0)]
    have hF : (rB, oB) = (s0, []) := by rw [← eB, landC, if_neg h0]
    have hG : (rC, oC) = (s0, []) := by rw [← eC, comeC, if_neg h0]
    have hH : rD = s0 := by rw [← eD, goC, if_neg h0]
    refine ⟨[.b true], rfl, fun _ w' _ => c_sessionBegun w', ?_⟩
    simp only [Tree.goal, X.P, X.ev, V.toI_i, V.toB_b, V.toS_s, V.toR_r, V.toV_v, V.toN_n, V.toL_l, SV.ev, CV.ev, Sc.ev, List.getD_cons_zero, List.getD_cons_succ, List.getElem?_cons_zero, List.getElem?_cons_succ, List.map_cons, List.map_nil, List.length_cons, List.length_nil, List.cons_append, List.nil_append, Nat.zero_add, Nat.reduceAdd]
    refine ⟨[.i (chkS s)], rfl, fun _ w' hr => c_CheckS w' s u v (by (first | exact reads_nil _ _ | (have hq := hr; repeat (first | exact hq.hd | replace hq := hq.tl)))) (by (first | exact reads_nil _ _ | (have hq := hr; repeat (first | exact hq.hd | replace hq := hq.tl)))) h1 h2 (by omega) (by omega) hc, ?_⟩
    simp only [Tree.goal, X.P, X.ev, V.toI_i, V.toB_b, V.toS_s, V.toR_r, V.toV_v, V.toN_n, V.toL_l, SV.ev, CV.ev, Sc.ev, List.getD_cons_zero, List.getD_cons_succ, List.getElem?_cons_zero, List.getElem?_cons_succ, List.map_cons, List.map_nil, List.length_cons, List.length_nil, List.cons_append, List.nil_append, Nat.zero_add, Nat.reduceAdd]
    refine ⟨[.b true], rfl, fun _ w' hr => as_called (c_sIs' (w := w') (e := rA') (f := chkS s) (a := rA) (b := s0) (l := oA) (m := []) (by (first | exact reads_nil _ _ | (have hq := hr; repeat (first | exact hq.hd | replace hq := hq.tl)))) (by (first | exact reads_nil _ _ | (have hq := hr; repeat (first | exact hq.hd | replace hq := hq.tl)))) (by (first | exact reads_nil _ _ | (have hq := hr; repeat (first | exact hq.hd | replace hq := hq.tl)))) (by (first | exact reads_nil _ _ | (have hq := hr; repeat (first | exact hq.hd | replace hq := hq.tl)))) (by (first | exact reads_nil _ _ | (have hq := hr; repeat (first | exact hq.hd | replace hq := hq.tl)))) (by (first | exact reads_nil _ _ | (have hq := hr; repeat (first | exact hq.hd | replace hq := hq.tl)))) (by omega) (by omega) (by omega) (by rw [← eA']; exact hE) (by rw [ite_self]; exact (congrArg Prod.fst hS)) (by rw [ite_self]; exact (congrArg Prod.snd hS))) rfl, ?_⟩
    simp only [Tree.goal, X.P, X.ev, V.toI_i, V.toB_b, V.toS_s, V.toR_r, V.toV_v, V.toN_n, V.toL_l, SV.ev, CV.ev, Sc.ev, List.getD_cons_zero, List.getD_cons_succ, List.getElem?_cons_zero, List.getElem?_cons_succ, List.map_cons, List.map_nil, List.length_cons, List.length_nil, List.cons_append, List.nil_append, Nat.zero_add, Nat.reduceAdd]
    refine ⟨[.b true], rfl, fun _ w' hr => as_called (c_sIs' (w := w') (e := chkS s) (f := chkS s) (a := rB) (b := s0) (l := oB) (m := []) (by (first | exact reads_nil _ _ | (have hq := hr; repeat (first | exact hq.hd | replace hq := hq.tl)))) (by (first | exact reads_nil _ _ | (have hq := hr; repeat (first | exact hq.hd | replace hq := hq.tl)))) (by (first | exact reads_nil _ _ | (have hq := hr; repeat (first | exact hq.hd | replace hq := hq.tl)))) (by (first | exact reads_nil _ _ | (have hq := hr; repeat (first | exact hq.hd | replace hq := hq.tl)))) (by (first | exact reads_nil _ _ | (have hq := hr; repeat (first | exact hq.hd | replace hq := hq.tl)))) (by (first | exact reads_nil _ _ | (have hq := hr; repeat (first | exact hq.hd | replace hq := hq.tl)))) (by omega) (by omega) (by omega) (rfl) (by rw [ite_self]; exact congrArg Prod.fst hF) (by rw [ite_self]; exact congrArg Prod.snd hF)) rfl, ?_⟩
    simp only [Tree.goal, X.P, X.ev, V.toI_i, V.toB_b, V.toS_s, V.toR_r, V.toV_v, V.toN_n, V.toL_l, SV.ev, CV.ev, Sc.ev, List.getD_cons_zero, List.getD_cons_succ, List.getElem?_cons_zero, List.getElem?_cons_succ, List.map_cons, List.map_nil, List.length_cons, List.length_nil, List.cons_append, List.nil_append, Nat.zero_add, Nat.reduceAdd]
    refine ⟨[.b true], rfl, fun _ w' hr => as_called (c_sIs' (w := w') (e := chkS s) (f := chkS s) (a := rC) (b := s0) (l := oC) (m := []) (by (first | exact reads_nil _ _ | (have hq := hr; repeat (first | exact hq.hd | replace hq := hq.tl)))) (by (first | exact reads_nil _ _ | (have hq := hr; repeat (first | exact hq.hd | replace hq := hq.tl)))) (by (first | exact reads_nil _ _ | (have hq := hr; repeat (first | exact hq.hd | replace hq := hq.tl)))) (by (first | exact reads_nil _ _ | (have hq := hr; repeat (first | exact hq.hd | replace hq := hq.tl)))) (by (first | exact reads_nil _ _ | (have hq := hr; repeat (first | exact hq.hd | replace hq := hq.tl)))) (by (first | exact reads_nil _ _ | (have hq := hr; repeat (first | exact hq.hd | replace hq := hq.tl)))) (by omega) (by omega) (by omega) (rfl) (by rw [ite_self]; exact congrArg Prod.fst hG) (by rw [ite_self]; exact congrArg Prod.snd hG)) rfl, ?_⟩
    simp only [Tree.goal, X.P, X.ev, V.toI_i, V.toB_b, V.toS_s, V.toR_r, V.toV_v, V.toN_n, V.toL_l, SV.ev, CV.ev, Sc.ev, List.getD_cons_zero, List.getD_cons_succ, List.getElem?_cons_zero, List.getElem?_cons_succ, List.map_cons, List.map_nil, List.length_cons, List.length_nil, List.cons_append, List.nil_append, Nat.zero_add, Nat.reduceAdd]
    refine ⟨[.b true], rfl, fun _ w' hr => as_called (c_sIs' (w := w') (e := chkS s) (f := chkS s) (a := rD) (b := s0) (l := []) (m := []) (by (first | exact reads_nil _ _ | (have hq := hr; repeat (first | exact hq.hd | replace hq := hq.tl)))) (by (first | exact reads_nil _ _ | (have hq := hr; repeat (first | exact hq.hd | replace hq := hq.tl)))) (by (first | exact reads_nil _ _ | (have hq := hr; repeat (first | exact hq.hd | replace hq := hq.tl)))) (by (first | exact reads_nil _ _ | (have hq := hr; repeat (first | exact hq.hd | replace hq := hq.tl)))) (by (first | exact reads_nil _ _ | (have hq := hr; repeat (first | exact hq.hd | replace hq := hq.tl)))) (by (first | exact reads_nil _ _ | (have hq := hr; repeat (first | exact hq.hd | replace hq := hq.tl)))) (by omega) (by omega) (by decide) (rfl) (by rw [ite_self]; exact hH) (by rw [ite_self])) rfl, ?_⟩
    simp only [Tree.goal, X.P, X.ev, V.toI_i, V.toB_b, V.toS_s, V.toR_r, V.toV_v, V.toN_n, V.toL_l, SV.ev, CV.ev, Sc.ev, List.getD_cons_zero, List.getD_cons_succ, List.getElem?_cons_zero, List.getElem?_cons_succ, List.map_cons, List.map_nil, List.length_cons, List.length_nil, List.cons_append, List.nil_append, Nat.zero_add, Nat.reduceAdd]
    refine fun w' hr => ⟨?_, hr.mod⟩
    simp
end Go.Proofs.YtkalmhdckoocbaaDoor
