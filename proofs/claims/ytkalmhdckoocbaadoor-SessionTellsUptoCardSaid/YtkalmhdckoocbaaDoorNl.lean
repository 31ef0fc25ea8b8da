/-
  Sessions: what must be in any case. By an AI agent.
-/
import Derived.Test.YtkalmhdckoocbaaDoorNk
set_option linter.unusedSimpArgs false
set_option linter.unusedVariables false
namespace Go.Proofs.YtkalmhdckoocbaaDoor
open Go.Sx

def sA : Ses := ⟨[97, 110, 110], true, false, [], [], 65535⟩
def sB : Ses := ⟨[97, 110, 110], true, false, [(65535, [97], [120])], [], 1⟩
def sC : Ses := ⟨[97, 110, 110], true, false, [(65535, [97], [120]), (1, [97], [121])], [], 2⟩
def sD : Ses := ⟨[97, 110, 110], true, false, [(1, [97], [121])], [], 2⟩
def sE : Ses := ⟨[97, 110, 110], false, false, [(1, [97], [121])], [], 2⟩
theorem sb1 : sendC sA [97] [120] 1 = (sB, [(false, 1, 65535, [97], [120])]) := Prod.ext (by decide) (by decide)
theorem sb2 : sendC sB [97] [121] 1 = (sC, [(false, 1, 1, [97], [121])]) := Prod.ext (by decide) (by decide)
theorem sb3 : landC sC 65535 = (sD, []) := Prod.ext (by decide) (by decide)
theorem sb4 : goC sD = sE := by decide
theorem sb5 : comeC sE = (sD, [(true, 1, 1, [97], [121])]) := Prod.ext (by decide) (by decide)
theorem se1 : sendE sA [97] [120] 1 = 0 := by decide
theorem se2 : sendE sB [97] [121] 1 = 0 := by decide
theorem se3 : chkS sC = 0 := by decide
theorem se4 : chkS sD = 0 := by decide
theorem se5 : chkS sE = 0 := by decide
theorem c_sess (w : World) : Calls Tryd.prog 87 #[] w fun e w' => e = .returned (sesV sA (.slice none 0 0) (.slice none 0 0)) ∧ Mod [] w w' := by
  refine as_called (run_plain2 (ρ := []) sxE_ok Tryd.func87 tree_dragomanlaw_sess rfl rfl rfl ?_) rfl
  simp only [Tree.goal, X.P, X.ev, V.toI_i, V.toB_b, V.toS_s, V.toR_r, V.toV_v, V.toN_n, V.toL_l, SV.ev, CV.ev, Sc.ev, List.getD_cons_zero, List.getD_cons_succ, List.getElem?_cons_zero, List.getElem?_cons_succ, List.map_cons, List.map_nil, List.length_cons, List.length_nil, List.cons_append, List.nil_append, Nat.zero_add, Nat.reduceAdd]
  exact fun b w' hr => ⟨rfl, hr.mod⟩
set_option maxHeartbeats 1000000 in
theorem c_sessionBegun (w : World) : Calls Tryd.prog 47 #[] w fun e w' => e = .returned (.bool true) ∧ Mod [] w w' := by
  refine as_called (run_plain2 (ρ := []) sxE_ok Tryd.func47 tree_dragomanlaw_sessionBegun rfl rfl rfl ?_) rfl
  simp only [Tree.goal, X.P, X.ev, V.toI_i, V.toB_b, V.toS_s, V.toR_r, V.toV_v, V.toN_n, V.toL_l, SV.ev, CV.ev, Sc.ev, List.getD_cons_zero, List.getD_cons_succ, List.getElem?_cons_zero, List.getElem?_cons_succ, List.map_cons, List.map_nil, List.length_cons, List.length_nil, List.cons_append, List.nil_append, Nat.zero_add, Nat.reduceAdd]
  intro w1 hr
  refine (c_sess w1).mono ?_
  rintro e w2 ⟨rfl, gm⟩
  refine ⟨[.s sA.cl, .b sA.on, .b sA.clean, .v (.slice none 0 0), .r (sA.fl.map encF), .v (.slice none 0 0), .r (sA.qu.map encF), .i sA.next], rfl, rfl, gm, List.forall_mem_nil _, List.forall_mem_cons.2 ⟨⟨reads_nil _ _, fun k hk => absurd rfl hk.1⟩, List.forall_mem_cons.2 ⟨⟨reads_nil _ _, fun k hk => absurd rfl hk.1⟩, List.forall_mem_nil _⟩⟩, apart_ro (by simp [Ent.wr]), ?_⟩
  simp only [Tree.goal, X.P, X.ev, V.toI_i, V.toB_b, V.toS_s, V.toR_r, V.toV_v, V.toN_n, V.toL_l, SV.ev, CV.ev, Sc.ev, List.getD_cons_zero, List.getD_cons_succ, List.getElem?_cons_zero, List.getElem?_cons_succ, List.map_cons, List.map_nil, List.length_cons, List.length_nil, List.cons_append, List.nil_append, Nat.zero_add, Nat.reduceAdd]
  intro w1 hr
  refine (c_Send w1 sA _ _ [97] [120] 1 (by (first | exact hr.at_ 0 rfl | exact hr.at_ 1 rfl | exact hr.at_ 2 rfl | exact hr.at_ 3 rfl | exact hr.at_ 4 rfl | exact hr.at_ 5 rfl | exact hr.at_ 6 rfl | exact hr.at_ 7 rfl | exact hr.at_ 8 rfl | exact hr.at_ 9 rfl | exact hr.at_ 10 rfl | exact hr.at_ 11 rfl | exact hr.at_ 12 rfl | exact hr.at_ 13 rfl | exact hr.at_ 14 rfl | exact hr.at_ 15 rfl | exact hr.at_ 16 rfl)) (by (first | exact hr.at_ 0 rfl | exact hr.at_ 1 rfl | exact hr.at_ 2 rfl | exact hr.at_ 3 rfl | exact hr.at_ 4 rfl | exact hr.at_ 5 rfl | exact hr.at_ 6 rfl | exact hr.at_ 7 rfl | exact hr.at_ 8 rfl | exact hr.at_ 9 rfl | exact hr.at_ 10 rfl | exact hr.at_ 11 rfl | exact hr.at_ 12 rfl | exact hr.at_ 13 rfl | exact hr.at_ 14 rfl | exact hr.at_ 15 rfl | exact hr.at_ 16 rfl)) (by unfold smallF; decide) (by unfold smallF; decide) (by decide) (by decide) (by decide) (by decide)).mono ?_
  rw [sb1, se1]
  rintro e w2 ⟨u', v', x, rfl, g1, g2, g3, g4, g5, g6, gm⟩
  refine ⟨[.s sB.cl, .b sB.on, .b sB.clean, .v u', .r (sB.fl.map encF), .v v', .r (sB.qu.map encF), .i sB.next, .v x, .r ([((false, 1, 65535, [97], [120]) : Pk)].map encP), .i 0], rfl, rfl, gm, List.forall_mem_nil _, List.forall_mem_cons.2 ⟨⟨g1, fun k hk => .inl (g4 k hk.2)⟩, List.forall_mem_cons.2 ⟨⟨g2, fun k hk => .inl (g5 k hk.2)⟩, List.forall_mem_cons.2 ⟨⟨g3, fun k hk => .inl (g6 k hk.2)⟩, List.forall_mem_nil _⟩⟩⟩, apart_ro (by simp [Ent.wr]), ?_⟩
  simp only [Tree.goal, X.P, X.ev, V.toI_i, V.toB_b, V.toS_s, V.toR_r, V.toV_v, V.toN_n, V.toL_l, SV.ev, CV.ev, Sc.ev, List.getD_cons_zero, List.getD_cons_succ, List.getElem?_cons_zero, List.getElem?_cons_succ, List.map_cons, List.map_nil, List.length_cons, List.length_nil, List.cons_append, List.nil_append, Nat.zero_add, Nat.reduceAdd]
  intro b1 w1 hr
  refine (c_Send w1 sB _ _ [97] [121] 1 (by (first | exact hr.at_ 0 rfl | exact hr.at_ 1 rfl | exact hr.at_ 2 rfl | exact hr.at_ 3 rfl | exact hr.at_ 4 rfl | exact hr.at_ 5 rfl | exact hr.at_ 6 rfl | exact hr.at_ 7 rfl | exact hr.at_ 8 rfl | exact hr.at_ 9 rfl | exact hr.at_ 10 rfl | exact hr.at_ 11 rfl | exact hr.at_ 12 rfl | exact hr.at_ 13 rfl | exact hr.at_ 14 rfl | exact hr.at_ 15 rfl | exact hr.at_ 16 rfl)) (by (first | exact hr.at_ 0 rfl | exact hr.at_ 1 rfl | exact hr.at_ 2 rfl | exact hr.at_ 3 rfl | exact hr.at_ 4 rfl | exact hr.at_ 5 rfl | exact hr.at_ 6 rfl | exact hr.at_ 7 rfl | exact hr.at_ 8 rfl | exact hr.at_ 9 rfl | exact hr.at_ 10 rfl | exact hr.at_ 11 rfl | exact hr.at_ 12 rfl | exact hr.at_ 13 rfl | exact hr.at_ 14 rfl | exact hr.at_ 15 rfl | exact hr.at_ 16 rfl)) (by unfold smallF; decide) (by unfold smallF; decide) (by decide) (by decide) (by decide) (by decide)).mono ?_
  rw [sb2, se2]
  rintro e w2 ⟨u2, v2, x2, rfl, g1, g2, g3, g4, g5, g6, gm⟩
  refine ⟨[.s sC.cl, .b sC.on, .b sC.clean, .v u2, .r (sC.fl.map encF), .v v2, .r (sC.qu.map encF), .i sC.next, .v x2, .r ([((false, 1, 1, [97], [121]) : Pk)].map encP), .i 0], rfl, rfl, gm, List.forall_mem_nil _, List.forall_mem_cons.2 ⟨⟨g1, fun k hk => .inl (g4 k hk.2)⟩, List.forall_mem_cons.2 ⟨⟨g2, fun k hk => .inl (g5 k hk.2)⟩, List.forall_mem_cons.2 ⟨⟨g3, fun k hk => .inl (g6 k hk.2)⟩, List.forall_mem_nil _⟩⟩⟩, apart_ro (by simp [Ent.wr]), ?_⟩
  simp only [Tree.goal, X.P, X.ev, V.toI_i, V.toB_b, V.toS_s, V.toR_r, V.toV_v, V.toN_n, V.toL_l, SV.ev, CV.ev, Sc.ev, List.getD_cons_zero, List.getD_cons_succ, List.getElem?_cons_zero, List.getElem?_cons_succ, List.map_cons, List.map_nil, List.length_cons, List.length_nil, List.cons_append, List.nil_append, Nat.zero_add, Nat.reduceAdd]
  intro b2 w1 hr
  refine (c_Landed w1 sC _ _ 65535 (by (first | exact hr.at_ 0 rfl | exact hr.at_ 1 rfl | exact hr.at_ 2 rfl | exact hr.at_ 3 rfl | exact hr.at_ 4 rfl | exact hr.at_ 5 rfl | exact hr.at_ 6 rfl | exact hr.at_ 7 rfl | exact hr.at_ 8 rfl | exact hr.at_ 9 rfl | exact hr.at_ 10 rfl | exact hr.at_ 11 rfl | exact hr.at_ 12 rfl | exact hr.at_ 13 rfl | exact hr.at_ 14 rfl | exact hr.at_ 15 rfl | exact hr.at_ 16 rfl)) (by (first | exact hr.at_ 0 rfl | exact hr.at_ 1 rfl | exact hr.at_ 2 rfl | exact hr.at_ 3 rfl | exact hr.at_ 4 rfl | exact hr.at_ 5 rfl | exact hr.at_ 6 rfl | exact hr.at_ 7 rfl | exact hr.at_ 8 rfl | exact hr.at_ 9 rfl | exact hr.at_ 10 rfl | exact hr.at_ 11 rfl | exact hr.at_ 12 rfl | exact hr.at_ 13 rfl | exact hr.at_ 14 rfl | exact hr.at_ 15 rfl | exact hr.at_ 16 rfl)) (by unfold smallF; decide) (by unfold smallF; decide) (by decide) (by decide) (by decide)).mono ?_
  rw [sb3, se3]
  rintro e w2 ⟨u3, v3, x3, rfl, g1, g2, g3, g4, g5, g6, gm⟩
  refine ⟨[.s sD.cl, .b sD.on, .b sD.clean, .v u3, .r (sD.fl.map encF), .v v3, .r (sD.qu.map encF), .i sD.next, .v x3, .r (([] : List Pk).map encP), .i 0], rfl, rfl, gm, List.forall_mem_nil _, List.forall_mem_cons.2 ⟨⟨g1, fun k hk => .inl (g4 k hk.2)⟩, List.forall_mem_cons.2 ⟨⟨g2, fun k hk => .inl (g5 k hk.2)⟩, List.forall_mem_cons.2 ⟨⟨g3, fun k hk => .inl (g6 k hk.2)⟩, List.forall_mem_nil _⟩⟩⟩, apart_ro (by simp [Ent.wr]), ?_⟩
  simp only [Tree.goal, X.P, X.ev, V.toI_i, V.toB_b, V.toS_s, V.toR_r, V.toV_v, V.toN_n, V.toL_l, SV.ev, CV.ev, Sc.ev, List.getD_cons_zero, List.getD_cons_succ, List.getElem?_cons_zero, List.getElem?_cons_succ, List.map_cons, List.map_nil, List.length_cons, List.length_nil, List.cons_append, List.nil_append, Nat.zero_add, Nat.reduceAdd]
  intro b3 w1 hr
  refine (c_Go w1 sD _ _ (by (first | exact hr.at_ 0 rfl | exact hr.at_ 1 rfl | exact hr.at_ 2 rfl | exact hr.at_ 3 rfl | exact hr.at_ 4 rfl | exact hr.at_ 5 rfl | exact hr.at_ 6 rfl | exact hr.at_ 7 rfl | exact hr.at_ 8 rfl | exact hr.at_ 9 rfl | exact hr.at_ 10 rfl | exact hr.at_ 11 rfl | exact hr.at_ 12 rfl | exact hr.at_ 13 rfl | exact hr.at_ 14 rfl | exact hr.at_ 15 rfl | exact hr.at_ 16 rfl)) (by (first | exact hr.at_ 0 rfl | exact hr.at_ 1 rfl | exact hr.at_ 2 rfl | exact hr.at_ 3 rfl | exact hr.at_ 4 rfl | exact hr.at_ 5 rfl | exact hr.at_ 6 rfl | exact hr.at_ 7 rfl | exact hr.at_ 8 rfl | exact hr.at_ 9 rfl | exact hr.at_ 10 rfl | exact hr.at_ 11 rfl | exact hr.at_ 12 rfl | exact hr.at_ 13 rfl | exact hr.at_ 14 rfl | exact hr.at_ 15 rfl | exact hr.at_ 16 rfl)) (by unfold smallF; decide) (by unfold smallF; decide) (by decide) (by decide) (by decide)).mono ?_
  rw [sb4, se4]
  rintro e w2 ⟨u4, v4, rfl, g1, g2, g4, g5, gm⟩
  refine ⟨[.s sE.cl, .b sE.on, .b sE.clean, .v u4, .r (sE.fl.map encF), .v v4, .r (sE.qu.map encF), .i sE.next, .i 0], rfl, rfl, gm, List.forall_mem_nil _, List.forall_mem_cons.2 ⟨⟨g1, fun k hk => .inl (g4 k hk.2)⟩, List.forall_mem_cons.2 ⟨⟨g2, fun k hk => .inl (g5 k hk.2)⟩, List.forall_mem_nil _⟩⟩, apart_ro (by simp [Ent.wr]), ?_⟩
  simp only [Tree.goal, X.P, X.ev, V.toI_i, V.toB_b, V.toS_s, V.toR_r, V.toV_v, V.toN_n, V.toL_l, SV.ev, CV.ev, Sc.ev, List.getD_cons_zero, List.getD_cons_succ, List.getElem?_cons_zero, List.getElem?_cons_succ, List.map_cons, List.map_nil, List.length_cons, List.length_nil, List.cons_append, List.nil_append, Nat.zero_add, Nat.reduceAdd]
  intro b4 w1 hr
  refine (c_Come w1 sE _ _ (by (first | exact hr.at_ 0 rfl | exact hr.at_ 1 rfl | exact hr.at_ 2 rfl | exact hr.at_ 3 rfl | exact hr.at_ 4 rfl | exact hr.at_ 5 rfl | exact hr.at_ 6 rfl | exact hr.at_ 7 rfl | exact hr.at_ 8 rfl | exact hr.at_ 9 rfl | exact hr.at_ 10 rfl | exact hr.at_ 11 rfl | exact hr.at_ 12 rfl | exact hr.at_ 13 rfl | exact hr.at_ 14 rfl | exact hr.at_ 15 rfl | exact hr.at_ 16 rfl)) (by (first | exact hr.at_ 0 rfl | exact hr.at_ 1 rfl | exact hr.at_ 2 rfl | exact hr.at_ 3 rfl | exact hr.at_ 4 rfl | exact hr.at_ 5 rfl | exact hr.at_ 6 rfl | exact hr.at_ 7 rfl | exact hr.at_ 8 rfl | exact hr.at_ 9 rfl | exact hr.at_ 10 rfl | exact hr.at_ 11 rfl | exact hr.at_ 12 rfl | exact hr.at_ 13 rfl | exact hr.at_ 14 rfl | exact hr.at_ 15 rfl | exact hr.at_ 16 rfl)) (by unfold smallF; decide) (by unfold smallF; decide) (by decide) (by decide) (by decide)).mono ?_
  rw [sb5, se5]
  rintro e w2 ⟨u5, v5, x5, rfl, g1, g2, g3, g4, g5, g6, gm⟩
  refine ⟨[.s sD.cl, .b sD.on, .b sD.clean, .v u5, .r (sD.fl.map encF), .v v5, .r (sD.qu.map encF), .i sD.next, .v x5, .r ([((true, 1, 1, [97], [121]) : Pk)].map encP), .i 0], rfl, rfl, gm, List.forall_mem_nil _, List.forall_mem_cons.2 ⟨⟨g1, fun k hk => .inl (g4 k hk.2)⟩, List.forall_mem_cons.2 ⟨⟨g2, fun k hk => .inl (g5 k hk.2)⟩, List.forall_mem_cons.2 ⟨⟨g3, fun k hk => .inl (g6 k hk.2)⟩, List.forall_mem_nil _⟩⟩⟩, apart_ro (by simp [Ent.wr]), ?_⟩
  simp only [Tree.goal, X.P, X.ev, V.toI_i, V.toB_b, V.toS_s, V.toR_r, V.toV_v, V.toN_n, V.toL_l, SV.ev, CV.ev, Sc.ev, List.getD_cons_zero, List.getD_cons_succ, List.getElem?_cons_zero, List.getElem?_cons_succ, List.map_cons, List.map_nil, List.length_cons, List.length_nil, List.cons_append, List.nil_append, Nat.zero_add, Nat.reduceAdd]
  intro b5
  refine ⟨[.i (chkS sC)], rfl, fun _ w' hr => c_CheckS w' sC _ _ (by (first | exact hr.at_ 0 rfl | exact hr.at_ 1 rfl | exact hr.at_ 2 rfl | exact hr.at_ 3 rfl | exact hr.at_ 4 rfl | exact hr.at_ 5 rfl | exact hr.at_ 6 rfl | exact hr.at_ 7 rfl | exact hr.at_ 8 rfl | exact hr.at_ 9 rfl | exact hr.at_ 10 rfl | exact hr.at_ 11 rfl | exact hr.at_ 12 rfl | exact hr.at_ 13 rfl | exact hr.at_ 14 rfl | exact hr.at_ 15 rfl | exact hr.at_ 16 rfl)) (by (first | exact hr.at_ 0 rfl | exact hr.at_ 1 rfl | exact hr.at_ 2 rfl | exact hr.at_ 3 rfl | exact hr.at_ 4 rfl | exact hr.at_ 5 rfl | exact hr.at_ 6 rfl | exact hr.at_ 7 rfl | exact hr.at_ 8 rfl | exact hr.at_ 9 rfl | exact hr.at_ 10 rfl | exact hr.at_ 11 rfl | exact hr.at_ 12 rfl | exact hr.at_ 13 rfl | exact hr.at_ 14 rfl | exact hr.at_ 15 rfl | exact hr.at_ 16 rfl)) (by unfold smallF; decide) (by unfold smallF; decide) (by decide) (by decide) (by decide), ?_⟩
  rw [se3]
  simp only [Tree.goal, X.P, X.ev, V.toI_i, V.toB_b, V.toS_s, V.toR_r, V.toV_v, V.toN_n, V.toL_l, SV.ev, CV.ev, Sc.ev, List.getD_cons_zero, List.getD_cons_succ, List.getElem?_cons_zero, List.getElem?_cons_succ, List.map_cons, List.map_nil, List.length_cons, List.length_nil, List.cons_append, List.nil_append, Nat.zero_add, Nat.reduceAdd]
  refine ⟨.inr (by decide), .inr (by decide), .inr (by decide), fun w' hr => ⟨by rfl, hr.mod⟩⟩
end Go.Proofs.YtkalmhdckoocbaaDoor
