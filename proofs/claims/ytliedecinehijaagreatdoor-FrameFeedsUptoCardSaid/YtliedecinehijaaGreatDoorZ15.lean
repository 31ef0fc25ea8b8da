/-
  Packets: the laws PacketApart, PacketBack, walked. By an AI agent.
-/
import Derived.Test.YtliedecinehijaaGreatDoorZ13
import Derived.Test.YtliedecinehijaaGreatDoorZ14
set_option linter.unusedSimpArgs false
set_option linter.unusedVariables false
namespace Go.Proofs.YtliedecinehijaaGreatDoor
open Go.Sx

def pubP : Pkt := ⟨3, false, false, false, false, 1, 10, 0, 0, [], [97, 47, 98], [104, 105], [], []⟩
theorem pubP_ok : chkP pubP = 0 := by decide +kernel
theorem pubP_bytes : bytesP pubP = [50, 9, 0, 3, 97, 47, 98, 0, 10, 104, 105] := by decide +kernel
theorem pubP_small : SmallP pubP := ⟨by decide, by decide, by decide, by decide, by decide, by decide⟩
theorem decD_pub : decD [50, 9, 0, 3, 97, 47, 98, 0, 10, 104, 105] = (pubP, 0) := by rw [← pubP_bytes]; exact decD_back pubP_ok
theorem c_pub (w : World) : Calls Tryz.prog 59 #[] w fun e w' => e = .returned (pV pubP nilV nilV) ∧ Mod [] w w' := by
  refine as_called (run_plain2 (ρ := []) sxE_ok Tryz.func59 tree_dragomanlaw_pub rfl rfl rfl ?_) rfl
  simp only [Tree.goal, X.P, X.ev, V.toI_i, V.toB_b, V.toS_s, V.toR_r, V.toV_v, V.toN_n, V.toL_l, SV.ev, CV.ev, Sc.ev, List.getD_cons_zero, List.getD_cons_succ, List.getElem?_cons_zero, List.getElem?_cons_succ, List.map_cons, List.map_nil, List.length_cons, List.length_nil, List.cons_append, List.nil_append, Nat.zero_add, Nat.reduceAdd]
  exact fun b w' hr => ⟨rfl, hr.mod⟩
theorem c_packetBegun (w : World) : Calls Tryz.prog 12 #[] w fun e w' => e = .returned (.bool true) ∧ Mod [] w w' := by
  refine as_called (run_plain2 (ρ := []) sxE_ok Tryz.func12 tree_dragomanlaw_packetBegun rfl rfl rfl ?_) rfl
  simp only [Tree.goal, X.P, X.ev, V.toI_i, V.toB_b, V.toS_s, V.toR_r, V.toV_v, V.toN_n, V.toL_l, SV.ev, CV.ev, Sc.ev, List.getD_cons_zero, List.getD_cons_succ, List.getElem?_cons_zero, List.getElem?_cons_succ, List.map_cons, List.map_nil, List.length_cons, List.length_nil, List.cons_append, List.nil_append, Nat.zero_add, Nat.reduceAdd]
  intro w1 hr; refine (c_pub w1).mono ?_; rintro e w2 ⟨rfl, m⟩; refine ⟨[.i 3, .b false, .b false, .b false, .b false, .i 1, .i 10, .i 0, .i 0, .s [], .s [97, 47, 98], .s [104, 105], .v nilV, .r [], .v nilV, .r []], rfl, rfl, m, List.forall_mem_nil _, List.forall_mem_cons.2 ⟨⟨readsA_nil _, fun k hk => absurd rfl hk.1⟩, List.forall_mem_cons.2 ⟨⟨readsI_nil _, fun k hk => absurd rfl hk.1⟩, List.forall_mem_nil _⟩⟩, apart_ro2 (by simp [Ent.wr]), ?_⟩; simp only [Tree.goal, X.P, X.ev, V.toI_i, V.toB_b, V.toS_s, V.toR_r, V.toV_v, V.toN_n, V.toL_l, SV.ev, CV.ev, Sc.ev, List.getD_cons_zero, List.getD_cons_succ, List.getElem?_cons_zero, List.getElem?_cons_succ, List.map_cons, List.map_nil, List.length_cons, List.length_nil, List.cons_append, List.nil_append, Nat.zero_add, Nat.reduceAdd]; clear m hr
  refine ⟨[.s (if chkP pubP = 0 then bytesP pubP else []), .i (chkP pubP)], rfl, fun _ w' hr => c_PEncode w' pubP nilV nilV (readsA_nil _) (readsI_nil _) pubP_small, ?_⟩
  simp only [Tree.goal, X.P, X.ev, V.toI_i, V.toB_b, V.toS_s, V.toR_r, V.toV_v, V.toN_n, V.toL_l, SV.ev, CV.ev, Sc.ev, List.getD_cons_zero, List.getD_cons_succ, List.getElem?_cons_zero, List.getElem?_cons_succ, List.map_cons, List.map_nil, List.length_cons, List.length_nil, List.cons_append, List.nil_append, Nat.zero_add, Nat.reduceAdd, pubP_ok, if_true, pubP_bytes]
  intro w1 hr
  refine (c_PDecode w1 [50, 9, 0, 3, 97, 47, 98, 0, 10, 104, 105] (by decide)).mono ?_
  rintro e w2 ⟨x, y, rfl, m, rx, ry, fx, fy⟩
  rw [decD_pub] at rx ry ⊢
  refine ⟨[.i 3, .b false, .b false, .b false, .b false, .i 1, .i 10, .i 0, .i 0, .s [], .s [97, 47, 98], .s [104, 105], .v x, .r [], .v y, .r [], .i 0], rfl, rfl, m, List.forall_mem_nil _, List.forall_mem_cons.2 ⟨⟨rx, fun k hk => .inl (fx k hk.2)⟩, List.forall_mem_cons.2 ⟨⟨ry, fun k hk => .inl (fy k hk.2)⟩, List.forall_mem_nil _⟩⟩, apart_ro2 (by simp [Ent.wr]), ?_⟩
  simp only [Tree.goal, X.P, X.ev, V.toI_i, V.toB_b, V.toS_s, V.toR_r, V.toV_v, V.toN_n, V.toL_l, SV.ev, CV.ev, Sc.ev, List.getD_cons_zero, List.getD_cons_succ, List.getElem?_cons_zero, List.getElem?_cons_succ, List.map_cons, List.map_nil, List.length_cons, List.length_nil, List.cons_append, List.nil_append, Nat.zero_add, Nat.reduceAdd]
  clear m hr
  intro bq
  refine ⟨fun _ => ?_, fun h => absurd ⟨trivial, trivial⟩ h⟩
  intro w1 hr; refine (c_pub w1).mono ?_; rintro e w2 ⟨rfl, m⟩; refine ⟨[.i 3, .b false, .b false, .b false, .b false, .i 1, .i 10, .i 0, .i 0, .s [], .s [97, 47, 98], .s [104, 105], .v nilV, .r [], .v nilV, .r []], rfl, rfl, m, List.forall_mem_nil _, List.forall_mem_cons.2 ⟨⟨readsA_nil _, fun k hk => absurd rfl hk.1⟩, List.forall_mem_cons.2 ⟨⟨readsI_nil _, fun k hk => absurd rfl hk.1⟩, List.forall_mem_nil _⟩⟩, apart_ro2 (by simp [Ent.wr]), ?_⟩; simp only [Tree.goal, X.P, X.ev, V.toI_i, V.toB_b, V.toS_s, V.toR_r, V.toV_v, V.toN_n, V.toL_l, SV.ev, CV.ev, Sc.ev, List.getD_cons_zero, List.getD_cons_succ, List.getElem?_cons_zero, List.getElem?_cons_succ, List.map_cons, List.map_nil, List.length_cons, List.length_nil, List.cons_append, List.nil_append, Nat.zero_add, Nat.reduceAdd]; clear m hr
  refine ⟨[.i (chkP pubP)], rfl, fun _ w' hr => c_PCheck w' pubP nilV nilV (readsA_nil _) (readsI_nil _) pubP_small, ?_⟩
  simp only [Tree.goal, X.P, X.ev, V.toI_i, V.toB_b, V.toS_s, V.toR_r, V.toV_v, V.toN_n, V.toL_l, SV.ev, CV.ev, Sc.ev, List.getD_cons_zero, List.getD_cons_succ, List.getElem?_cons_zero, List.getElem?_cons_succ, List.map_cons, List.map_nil, List.length_cons, List.length_nil, List.cons_append, List.nil_append, Nat.zero_add, Nat.reduceAdd, pubP_ok]
  refine ⟨⟨fun _ => ?_, fun h => absurd ⟨trivial, trivial⟩ h⟩, ⟨fun _ => ?_, fun h => absurd ⟨trivial, trivial⟩ h⟩⟩
  all_goals
    intro w1 hr; refine (c_pub w1).mono ?_; rintro e w2 ⟨rfl, m⟩; refine ⟨[.i 3, .b false, .b false, .b false, .b false, .i 1, .i 10, .i 0, .i 0, .s [], .s [97, 47, 98], .s [104, 105], .v nilV, .r [], .v nilV, .r []], rfl, rfl, m, List.forall_mem_nil _, List.forall_mem_cons.2 ⟨⟨readsA_nil _, fun k hk => absurd rfl hk.1⟩, List.forall_mem_cons.2 ⟨⟨readsI_nil _, fun k hk => absurd rfl hk.1⟩, List.forall_mem_nil _⟩⟩, apart_ro2 (by simp [Ent.wr]), ?_⟩; simp only [Tree.goal, X.P, X.ev, V.toI_i, V.toB_b, V.toS_s, V.toR_r, V.toV_v, V.toN_n, V.toL_l, SV.ev, CV.ev, Sc.ev, List.getD_cons_zero, List.getD_cons_succ, List.getElem?_cons_zero, List.getElem?_cons_succ, List.map_cons, List.map_nil, List.length_cons, List.length_nil, List.cons_append, List.nil_append, Nat.zero_add, Nat.reduceAdd]; clear m hr
    refine ⟨[.b (decide (pubP = pubP))], rfl, fun _ w' hr => c_SamePacket w' pubP pubP x y nilV nilV (by first | exact hr.at_ 5 rfl | exact hr.at_ 4 rfl) (by first | exact hr.at_ 6 rfl | exact hr.at_ 5 rfl) (readsA_nil _) (readsI_nil _) pubP_small, ?_⟩
    simp only [Tree.goal, X.P, X.ev, V.toI_i, V.toB_b, V.toS_s, V.toR_r, V.toV_v, V.toN_n, V.toL_l, SV.ev, CV.ev, Sc.ev, List.getD_cons_zero, List.getD_cons_succ, List.getElem?_cons_zero, List.getElem?_cons_succ, List.map_cons, List.map_nil, List.length_cons, List.length_nil, List.cons_append, List.nil_append, Nat.zero_add, Nat.reduceAdd]
    exact fun w' hr => ⟨by simp, hr.mod⟩
section
variable (w : World) (p q : Pkt) (u v x y : Value)
end
end Go.Proofs.YtliedecinehijaaGreatDoor
