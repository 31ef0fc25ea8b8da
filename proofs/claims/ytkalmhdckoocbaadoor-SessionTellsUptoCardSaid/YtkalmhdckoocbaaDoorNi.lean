/-
  Sessions: what the code sends and what it gives back. By an AI agent.
-/
import Derived.Test.YtkalmhdckoocbaaDoorNh
set_option linter.unusedSimpArgs false
set_option linter.unusedVariables false
namespace Go.Proofs.YtkalmhdckoocbaaDoor
open Go.Sx

theorem nil_none {ρ : List V} {g : List Nat} : ∀ k, blockOf (.slice none 0 0) k → k ∈ goneOf ρ g := fun k hk => by simp [blockOf, Value.ownBlock] at hk
theorem gone3 {ρ : List V} {g : List Nat} {i j n k : Nat} {x : Value} {p : Prop} (hi : i ∈ g) (hj : j ∈ g) (hx : ∀ k, blockOf x k → k ∈ goneOf ρ g) (h : n ≤ k ∨ blockOf (ρ.getD i (.i 0)).toV k ∨ blockOf (ρ.getD j (.i 0)).toV k ∨ blockOf x k) : n ≤ k ∨ p ∨ k ∈ goneOf ρ g := by
  rcases h with h | h | h | h
  · exact .inl h
  · exact .inr (.inr (gone_of hi h))
  · exact .inr (.inr (gone_of hj h))
  · exact .inr (.inr (hx k h))
theorem both_same {p : Prop} (h : p) : p ∧ p := ⟨h, h⟩
def newV (n : Nat) (u : Value) : Prop := ∀ k, blockOf u k → n ≤ k
theorem newV_nil (n : Nat) : newV n (.slice none 0 0) := fun k hk => by simp [blockOf, Value.ownBlock] at hk
/-- A session and packets come, all new. -/
def gotN (w w' : World) (e : Ending) (r : Ses) (out : List Pk) : Prop :=
  ∃ u' v' x, e = .returned (.tuple #[sesV r u' v', sc1 x]) ∧ readsF w' u' r.fl ∧ readsF w' v' r.qu ∧ readsP w' x out ∧ newV w.heap.size u' ∧ newV w.heap.size v' ∧ newV w.heap.size x ∧ Mod [] w w'
def rawR (s : Ses) (n p : List UInt8) (q : Int) : Ses × List Pk :=
  if q = 0 ∧ s.on = true then (s, [pk0 n p])
  else if (q = 1 ∧ (s.on = true ∨ ¬ s.clean = true)) ∧ (s.qu.length : Int) < 6 then flyS { s with qu := s.qu ++ [(0, n, p)] } else (s, [])

set_option maxHeartbeats 1000000 in
theorem c_Raw (w : World) (s : Ses) (u v : Value) (n p : List UInt8) (q : Int) (hu : readsF w u s.fl) (hv : readsF w v s.qu) (hn : 1 ≤ s.next ∧ s.next ≤ 65535) (hl1 : s.fl.length < 10000) (hl2 : s.qu.length < 10000) : Calls Tryd.prog 80 #[sesV s u v, .string ⟨n.toArray⟩, .string ⟨p.toArray⟩, .int .i64 q] w
    fun e w' => gotN w w' e (rawR s n p q).1 (rawR s n p q).2 := by
  refine as_called (run_tree2 (ρ := [.s s.cl, .b s.on, .b s.clean, .v u, .r (s.fl.map encF), .v v, .r (s.qu.map encF), .i s.next, .s n, .s p, .i q]) sxE_ok Tryd.func80 tree_session_Raw rfl rfl (Rel.start2 (by simp [Ent.holds, Ent.wr, hu, hv, X.ev])) rfl rfl ?_) rfl
  simp only [Tree.goal, X.P, X.ev, V.toI_i, V.toB_b, V.toS_s, V.toR_r, V.toV_v, V.toN_n, V.toL_l, SV.ev, CV.ev, Sc.ev, List.getD_cons_zero, List.getD_cons_succ, List.getElem?_cons_zero, List.getElem?_cons_succ, List.map_cons, List.map_nil, List.length_cons, List.length_nil, List.cons_append, List.nil_append, Nat.zero_add, Nat.reduceAdd, List.length_map, Int.toNat_natCast, gF0, gF1, gF2, List.nil_append]
  intro b1 b2 b3 b4 b5
  refine both_same ?_
  intro w1 hr1; refine (c_CloneF w1 u s.fl (hr1.at_ 6 rfl) (by omega)).mono ?_; rintro e w2 ⟨u1, rfl, a1, f1, m1⟩; refine ⟨[.v u1, .r (s.fl.map encF)], rfl, rfl, m1, List.forall_mem_nil _, List.forall_mem_cons.2 ⟨⟨a1, fun k hk => .inl (f1 k hk)⟩, List.forall_mem_nil _⟩, apart_one, ?_⟩; intro w3 hr3; refine (c_CloneF w3 v s.qu (hr3.at_ 8 rfl) (by omega)).mono ?_; rintro e w4 ⟨v1, rfl, a2, f2, m2⟩; refine ⟨[.v v1, .r (s.qu.map encF)], rfl, rfl, m2, List.forall_mem_nil _, List.forall_mem_cons.2 ⟨⟨a2, fun k hk => .inl (f2 k hk)⟩, List.forall_mem_nil _⟩, apart_one, ?_⟩; clear hr1 hr3 m1 m2 a1 a2 f1 f2
  intro b6
  simp only [Tree.goal, X.P, X.ev, V.toI_i, V.toB_b, V.toS_s, V.toR_r, V.toV_v, V.toN_n, V.toL_l, SV.ev, CV.ev, Sc.ev, List.getD_cons_zero, List.getD_cons_succ, List.getElem?_cons_zero, List.getElem?_cons_succ, List.map_cons, List.map_nil, List.length_cons, List.length_nil, List.cons_append, List.nil_append, Nat.zero_add, Nat.reduceAdd, List.length_map, Int.toNat_natCast, gF0, gF1, gF2, List.nil_append]
  refine ⟨fun h1 v2 => ⟨by omega, fun v3 w5 hr => ?_⟩, fun h1 => ⟨fun h2 v2 => ⟨by omega, fun v3 w5 hr => ?_⟩, fun h2 w5 hr => ?_⟩⟩
  · rw [rawR, if_pos h1]
    exact ⟨u1, v1, v3, rfl, (hr.at_ 4 rfl).reads, (hr.at_ 3 rfl).reads, (hr.at_ 0 rfl).reads, hr.fresh 4 rfl, hr.fresh 3 rfl, hr.fresh 0 rfl, hr.mod⟩
  · rw [rawR, if_neg h1, if_pos h2]
    refine (fly_call (s := { s with qu := s.qu ++ [(0, n, p)] }) (o0 := []) ((hr.pick [3, 0, 7, 2] (by decide)).conv (by simp only [sndA, List.map_append]; rfl)) hn (by simp; omega) (by simp; omega) (by simp)).mono ?_
    rintro e w6 ⟨rfl, u', v', x', g1, g2, g3, g4, g5, g6, g7, g8, g9, g10, gm⟩
    refine ⟨[.s s.cl, .b s.on, .b s.clean, .v u', .r ((flyS { s with qu := s.qu ++ [(0, n, p)] }).1.fl.map encF), .v v', .r ((flyS { s with qu := s.qu ++ [(0, n, p)] }).1.qu.map encF), .i (flyS { s with qu := s.qu ++ [(0, n, p)] }).1.next, .v x', .r ((flyS { s with qu := s.qu ++ [(0, n, p)] }).2.map encP)], rfl, rfl, ?_, List.forall_mem_cons.2 ⟨g1, List.forall_mem_nil _⟩,
      List.forall_mem_cons.2 ⟨⟨g2, fun k hk => gone3 (List.mem_cons_self ..) (List.mem_cons_of_mem _ (List.mem_cons_self ..)) nil_none <| g5 k hk⟩, List.forall_mem_cons.2 ⟨⟨g3, fun k hk => gone3 (List.mem_cons_self ..) (List.mem_cons_of_mem _ (List.mem_cons_self ..)) nil_none <| g6 k hk⟩, List.forall_mem_cons.2 ⟨⟨g4, fun k hk => gone3 (List.mem_cons_self ..) (List.mem_cons_of_mem _ (List.mem_cons_self ..)) nil_none <| g7 k hk⟩, List.forall_mem_nil _⟩⟩⟩, apart_rows3 g8 g9 g10, ?_⟩
    · exact gm.mono fun k hk => .inl (by simpa [modsOf, goneOf, Value.ownBlock] using hk)
    · intro w7 hr7
      exact ⟨u', v', x', rfl, (hr7.at_ 0 rfl).reads, (hr7.at_ 1 rfl).reads, (hr7.at_ 2 rfl).reads, hr7.fresh 0 rfl, hr7.fresh 1 rfl, hr7.fresh 2 rfl, hr7.mod⟩
  · rw [rawR, if_neg h1, if_neg h2]
    exact ⟨u1, v1, _, rfl, (hr.at_ 2 rfl).reads, (hr.at_ 1 rfl).reads, reads_nil _ _, hr.fresh 2 rfl, hr.fresh 1 rfl, newV_nil _, hr.mod⟩

theorem flyR_out (on : Bool) : ∀ (qu fl : List Fl) (next : Int) (o0 : List Pk), flyR on fl qu next o0 = ((flyR on fl qu next []).1, (flyR on fl qu next []).2.1, (flyR on fl qu next []).2.2.1, o0 ++ (flyR on fl qu next []).2.2.2) := by
  intro qu
  induction qu with
  | nil => intro fl next o0; simp [flyR]
  | cons f q ih =>
    intro fl next o0
    rw [flyR, flyR]
    split
    · rw [ih _ _ (o0 ++ _), ih _ _ ([] ++ _)]
      simp
    · simp
theorem flyG_out (s : Ses) (o0 : List Pk) : flyG s o0 = ((flyS s).1, o0 ++ (flyS s).2) := by
  simp only [flyG, flyS]
  rw [flyR_out]
set_option maxHeartbeats 1000000 in
theorem c_Back (w : World) (s : Ses) (u v : Value) (hu : readsF w u s.fl) (hv : readsF w v s.qu) (hn : 1 ≤ s.next ∧ s.next ≤ 65535) (hl1 : s.fl.length < 10000) (hl2 : s.qu.length < 10000) : Calls Tryd.prog 82 #[sesV s u v] w
    fun e w' => gotN w w' e (comeR s).1 (comeR s).2 := by
  refine as_called (run_tree2 (ρ := [.s s.cl, .b s.on, .b s.clean, .v u, .r (s.fl.map encF), .v v, .r (s.qu.map encF), .i s.next]) sxE_ok Tryd.func82 tree_session_Back rfl rfl (Rel.start2 (by simp [Ent.holds, Ent.wr, hu, hv, X.ev])) rfl rfl ?_) rfl
  simp only [Tree.goal, X.P, X.ev, V.toI_i, V.toB_b, V.toS_s, V.toR_r, V.toV_v, V.toN_n, V.toL_l, SV.ev, CV.ev, Sc.ev, List.getD_cons_zero, List.getD_cons_succ, List.getElem?_cons_zero, List.getElem?_cons_succ, List.map_cons, List.map_nil, List.length_cons, List.length_nil, List.cons_append, List.nil_append, Nat.zero_add, Nat.reduceAdd, List.length_map, Int.toNat_natCast, gF0, gF1, gF2, List.nil_append]
  intro b1 b2 b3 b4 b5
  refine both_same ?_
  intro w1 hr1; refine (c_CloneF w1 u s.fl (hr1.at_ 6 rfl) (by omega)).mono ?_; rintro e w2 ⟨u1, rfl, a1, f1, m1⟩; refine ⟨[.v u1, .r (s.fl.map encF)], rfl, rfl, m1, List.forall_mem_nil _, List.forall_mem_cons.2 ⟨⟨a1, fun k hk => .inl (f1 k hk)⟩, List.forall_mem_nil _⟩, apart_one, ?_⟩; intro w3 hr3; refine (c_CloneF w3 v s.qu (hr3.at_ 8 rfl) (by omega)).mono ?_; rintro e w4 ⟨v1, rfl, a2, f2, m2⟩; refine ⟨[.v v1, .r (s.qu.map encF)], rfl, rfl, m2, List.forall_mem_nil _, List.forall_mem_cons.2 ⟨⟨a2, fun k hk => .inl (f2 k hk)⟩, List.forall_mem_nil _⟩, apart_one, ?_⟩; clear hr1 hr3 m1 m2 a1 a2 f1 f2
  intro b6
  simp only [Tree.goal, X.P, X.ev, V.toI_i, V.toB_b, V.toS_s, V.toR_r, V.toV_v, V.toN_n, V.toL_l, SV.ev, CV.ev, Sc.ev, List.getD_cons_zero, List.getD_cons_succ, List.getElem?_cons_zero, List.getElem?_cons_succ, List.map_cons, List.map_nil, List.length_cons, List.length_nil, List.cons_append, List.nil_append, Nat.zero_add, Nat.reduceAdd, List.length_map, Int.toNat_natCast, gF0, gF1, gF2, List.nil_append]
  refine ⟨fun vs => ∃ (i : Nat) (x : Value), vs = [.i i, .s s.cl, .b true, .b s.clean, .v v1, .r (s.qu.map encF), .i s.next, .v x, .r (((s.fl.take i).map pk1).map encP)] ∧ i ≤ s.fl.length, fun vs => s.fl.length - (vs.getD 0 (.i 0)).toI.toNat, ⟨0, _, by simp; rfl, by omega⟩, ?_⟩
  rintro _ - ⟨i, x, rfl, hi⟩
  simp only [Tree.goal, X.P, X.ev, V.toI_i, V.toB_b, V.toS_s, V.toR_r, V.toV_v, V.toN_n, V.toL_l, SV.ev, CV.ev, Sc.ev, List.getD_cons_zero, List.getD_cons_succ, List.getElem?_cons_zero, List.getElem?_cons_succ, List.map_cons, List.map_nil, List.length_cons, List.length_nil, List.cons_append, List.nil_append, Nat.zero_add, Nat.reduceAdd, List.length_map, Int.toNat_natCast, gF0, gF1, gF2, List.nil_append]
  refine ⟨fun h1 => ⟨by omega, fun b7 b8 v2 => ⟨by simp only [List.length_take]; omega, fun v3 => ⟨by omega, by omega, ⟨i + 1, v3, ?_, by omega⟩, by omega⟩⟩⟩, fun h1 w5 hr => ?_⟩
  · rw [takeF _ i (by omega)]; simp [encP, pk1]
  · have hil : i = s.fl.length := by omega
    subst hil
    rw [List.take_length] at hr
    refine (fly_call (s := { s with on := true }) (o0 := s.fl.map pk1) ((hr.pick [2, 1, 11, 0] (by decide)).conv rfl) hn (by simp; omega) (by simp; omega) (by simp; omega)).mono ?_
    rintro e w6 ⟨rfl, u', v', x', g1, g2, g3, g4, g5, g6, g7, g8, g9, g10, gm⟩
    rw [flyG_out] at g1 g2 g3 g4
    refine ⟨[.s s.cl, .b true, .b s.clean, .v u', .r ((flyS { s with on := true }).1.fl.map encF), .v v', .r ((flyS { s with on := true }).1.qu.map encF), .i (flyS { s with on := true }).1.next, .v x', .r ((s.fl.map pk1 ++ (flyS { s with on := true }).2).map encP)], rfl, rfl, ?_, List.forall_mem_cons.2 ⟨g1, List.forall_mem_nil _⟩,
      List.forall_mem_cons.2 ⟨⟨g2, fun k hk => gone3 (List.mem_cons_self ..) (List.mem_cons_of_mem _ (List.mem_cons_self ..)) (fun k hk => gone_of (List.mem_cons_of_mem _ (List.mem_cons_of_mem _ (List.mem_cons_self ..))) hk) <| g5 k hk⟩, List.forall_mem_cons.2 ⟨⟨g3, fun k hk => gone3 (List.mem_cons_self ..) (List.mem_cons_of_mem _ (List.mem_cons_self ..)) (fun k hk => gone_of (List.mem_cons_of_mem _ (List.mem_cons_of_mem _ (List.mem_cons_self ..))) hk) <| g6 k hk⟩, List.forall_mem_cons.2 ⟨⟨g4, fun k hk => gone3 (List.mem_cons_self ..) (List.mem_cons_of_mem _ (List.mem_cons_self ..)) (fun k hk => gone_of (List.mem_cons_of_mem _ (List.mem_cons_of_mem _ (List.mem_cons_self ..))) hk) <| g7 k hk⟩, List.forall_mem_nil _⟩⟩⟩, apart_rows3 g8 g9 g10, ?_⟩
    · exact gm.mono fun k hk => .inl (by simpa [modsOf, goneOf, Value.ownBlock] using hk)
    · intro w7 hr7
      exact ⟨u', v', x', rfl, (hr7.at_ 0 rfl).reads, (hr7.at_ 1 rfl).reads, (hr7.at_ 2 rfl).reads, hr7.fresh 0 rfl, hr7.fresh 1 rfl, hr7.fresh 2 rfl, hr7.mod⟩
end Go.Proofs.YtkalmhdckoocbaaDoor
