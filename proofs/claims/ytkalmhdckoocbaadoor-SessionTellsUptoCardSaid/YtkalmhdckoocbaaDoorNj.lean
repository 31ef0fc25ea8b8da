/-
  Sessions: what lands, and who is not there any more. By an AI agent.
-/
import Derived.Test.YtkalmhdckoocbaaDoorNi
set_option linter.unusedSimpArgs false
set_option linter.unusedVariables false
namespace Go.Proofs.YtkalmhdckoocbaaDoor
open Go.Sx

theorem landL_snoc (l : List Fl) (id : Int) (i : Nat) (h : i < l.length) : landL (l.take (i + 1)) id = landL (l.take i) id ++ (if (l.getD i fD).1 = id then [] else [l.getD i fD]) := by
  rw [takeF l i h, landL, List.filter_append]
  simp only [landL, List.filter_cons, List.filter_nil, idIs]
  by_cases h1 : (l.getD i fD).1 = id
  · rw [if_pos h1, decide_eq_true h1]; simp
  · rw [if_neg h1, decide_eq_false h1]; simp
theorem any_landL {l : List Fl} {id : Int} (h : l.any (idIs id) = false) : landL l id = l := by
  rw [landL, List.filter_eq_self]
  intro x hx
  rw [List.any_eq_false] at h
  have := h x hx
  simpa using this
theorem getD_of_dropF {R l : List Fl} {j : Nat} (h : R.drop j = l.drop j) : R.getD j fD = l.getD j fD := by
  have e : ∀ q : List Fl, q.getD j fD = (q.drop j).getD 0 fD := fun q => by simp [List.getD_eq_getElem?_getD]
  rw [e R, e l, h]
theorem set_rowF (R : List Fl) (m : Nat) (x : Fl) : (R.map encF).set m [Value.int .i64 x.1, .string ⟨x.2.1.toArray⟩, .string ⟨x.2.2.toArray⟩] = (R.set m x).map encF := by rw [List.map_set]; rfl
theorem set_takeF {R : List Fl} {m : Nat} {x : Fl} (h : m < R.length) : (R.set m x).take (m + 1) = R.take m ++ [x] := by
  rw [List.take_set, takeF R m h, List.set_append_right _ _ (by simp; omega)]
  have : m - (R.take m).length = 0 := by simp; omega
  rw [this]; rfl
theorem set_dropF {R : List Fl} {m j : Nat} {x : Fl} (h : m < j) : (R.set m x).drop j = R.drop j := by rw [List.drop_set, if_pos h]

set_option maxHeartbeats 2000000 in
theorem c_Down (w : World) (s : Ses) (u v : Value) (q : Int) (hu : readsF w u s.fl) (hv : readsF w v s.qu) (hn : 1 ≤ s.next ∧ s.next ≤ 65535) (hl1 : s.fl.length < 10000) (hl2 : s.qu.length < 10000) : Calls Tryd.prog 81 #[sesV s u v, .int .i64 q] w
    fun e w' => gotN w w' e (landR s q).1 (landR s q).2 := by
  refine as_called (run_tree2 (ρ := [.s s.cl, .b s.on, .b s.clean, .v u, .r (s.fl.map encF), .v v, .r (s.qu.map encF), .i s.next, .i q]) sxE_ok Tryd.func81 tree_session_Down rfl rfl (Rel.start2 (by simp [Ent.holds, Ent.wr, hu, hv, X.ev])) rfl rfl ?_) rfl
  simp only [Tree.goal, X.P, X.ev, V.toI_i, V.toB_b, V.toS_s, V.toR_r, V.toV_v, V.toN_n, V.toL_l, SV.ev, CV.ev, Sc.ev, List.getD_cons_zero, List.getD_cons_succ, List.getElem?_cons_zero, List.getElem?_cons_succ, List.map_cons, List.map_nil, List.length_cons, List.length_nil, List.cons_append, List.nil_append, Nat.zero_add, Nat.reduceAdd, List.length_map, Int.toNat_natCast, gF0, gF1, gF2, List.nil_append]
  intro b0 b1 b2 b3 b4 b5
  refine both_same ?_
  intro w1 hr1; refine (c_CloneF w1 u s.fl (hr1.at_ 7 rfl) (by omega)).mono ?_; rintro e w2 ⟨u1, rfl, a1, f1, m1⟩; refine ⟨[.v u1, .r (s.fl.map encF)], rfl, rfl, m1, List.forall_mem_nil _, List.forall_mem_cons.2 ⟨⟨a1, fun k hk => .inl (f1 k hk)⟩, List.forall_mem_nil _⟩, apart_one, ?_⟩; intro w3 hr3; refine (c_CloneF w3 v s.qu (hr3.at_ 9 rfl) (by omega)).mono ?_; rintro e w4 ⟨v1, rfl, a2, f2, m2⟩; refine ⟨[.v v1, .r (s.qu.map encF)], rfl, rfl, m2, List.forall_mem_nil _, List.forall_mem_cons.2 ⟨⟨a2, fun k hk => .inl (f2 k hk)⟩, List.forall_mem_nil _⟩, apart_one, ?_⟩; clear hr1 hr3 m1 m2 a1 a2 f1 f2
  intro b6
  simp only [Tree.goal, X.P, X.ev, V.toI_i, V.toB_b, V.toS_s, V.toR_r, V.toV_v, V.toN_n, V.toL_l, SV.ev, CV.ev, Sc.ev, List.getD_cons_zero, List.getD_cons_succ, List.getElem?_cons_zero, List.getElem?_cons_succ, List.map_cons, List.map_nil, List.length_cons, List.length_nil, List.cons_append, List.nil_append, Nat.zero_add, Nat.reduceAdd, List.length_map, Int.toNat_natCast, gF0, gF1, gF2, List.nil_append]
  refine ⟨fun vs => ∃ (i : Nat) (x : V), vs = [x, .i i] ∧ i ≤ s.fl.length ∧ (s.fl.take i).any (idIs q) = false, fun vs => s.fl.length - (vs.getD 1 (.i 0)).toI.toNat, ⟨0, _, rfl, by omega, by simp⟩, ?_⟩
  rintro _ - ⟨i, x, rfl, hi, hno⟩
  simp only [Tree.goal, X.P, X.ev, V.toI_i, V.toB_b, V.toS_s, V.toR_r, V.toV_v, V.toN_n, V.toL_l, SV.ev, CV.ev, Sc.ev, List.getD_cons_zero, List.getD_cons_succ, List.getElem?_cons_zero, List.getElem?_cons_succ, List.map_cons, List.map_nil, List.length_cons, List.length_nil, List.cons_append, List.nil_append, Nat.zero_add, Nat.reduceAdd, List.length_map, Int.toNat_natCast, gF0, gF1, gF2, List.nil_append]
  refine ⟨fun h1 => ⟨by omega, fun b7 => ⟨fun h2 => ⟨fun h3 => absurd h3 (by omega), fun h3 => ⟨by omega, by omega, ?_⟩⟩, fun h2 => ?_⟩⟩, fun h1 w5 hr => ?_⟩
  · refine ⟨fun vs => ∃ (m j : Nat) (R : List Fl), vs = [.i m, .i j, .r (R.map encF)] ∧ R.length = s.fl.length ∧ m < j ∧ j ≤ s.fl.length ∧ R.take m = landL (s.fl.take j) q ∧ R.drop j = s.fl.drop j, fun vs => s.fl.length - (vs.getD 1 (.i 0)).toI.toNat, ⟨i, i + 1, s.fl, rfl, rfl, by omega, by omega, ?_, rfl⟩, ?_⟩
    · rw [landL_snoc _ _ i (by omega), if_pos h2, List.append_nil, any_landL hno]
    · rintro _ - ⟨m, j, R, rfl, hRl, hmj, hj, htk, hdr⟩
      simp only [Tree.goal, X.P, X.ev, V.toI_i, V.toB_b, V.toS_s, V.toR_r, V.toV_v, V.toN_n, V.toL_l, SV.ev, CV.ev, Sc.ev, List.getD_cons_zero, List.getD_cons_succ, List.getElem?_cons_zero, List.getElem?_cons_succ, List.map_cons, List.map_nil, List.length_cons, List.length_nil, List.cons_append, List.nil_append, Nat.zero_add, Nat.reduceAdd, List.length_map, Int.toNat_natCast, gF0, gF1, gF2, List.nil_append]
      refine ⟨fun h4 => ⟨by omega, fun b8 b9 => ?_⟩, fun h4 => ?_⟩
      · have hsn := landL_snoc s.fl q j (by omega)
        have hRj := getD_of_dropF hdr
        have hdr1 : R.drop (j + 1) = s.fl.drop (j + 1) := by rw [← List.drop_drop, ← List.drop_drop, hdr]
        rw [hRj]
        refine ⟨fun h5 => ?_, fun h5 => ?_⟩
        · rw [if_neg h5] at hsn
          refine ⟨by omega, by omega, by omega, by omega, by omega, by omega, ⟨m + 1, j + 1, R.set m (s.fl.getD j fD), ?_, by simpa using hRl, by omega, by omega, ?_, ?_⟩, by omega⟩
          · rw [set_rowF]; rfl
          · rw [set_takeF (by omega), htk, hsn]
          · rw [set_dropF (by omega), hdr1]
        · rw [if_pos (Classical.not_not.1 h5), List.append_nil] at hsn
          exact ⟨by omega, by omega, ⟨m, j + 1, R, rfl, hRl, by omega, by omega, by rw [htk, hsn], hdr1⟩, by omega⟩
      · have : j = s.fl.length := by omega
        subst this
        rw [List.take_length] at htk
        refine ⟨by omega, by omega, ?_, fun v9 w5 hr => ?_⟩
        · simp only [List.length_append, List.length_take, List.length_map, List.length_replicate]; omega
        · have e1 : (List.take m (List.take m (R.map encF) ++ List.replicate (R.length - m) [Value.int .i64 0, .string ⟨[].toArray⟩, .string ⟨[].toArray⟩])) = (landL s.fl q).map encF := by
            rw [List.take_append_of_le_length (by simp; omega), List.take_take, Nat.min_self, ← List.map_take, htk]
          have hll : (landL s.fl q).length ≤ s.fl.length := List.length_filter_le _ _
          refine (fly_call (s := { s with fl := landL s.fl q }) (o0 := []) ((hr.pick [0, 4, 8, 3] (by decide)).conv (by simp only [sndA, ← e1, ← List.length_map (f := encF)]; rfl)) hn (by simp; omega) (by simp; omega) (by simp)).mono ?_
          rintro e w6 ⟨rfl, u', v', x', g1, g2, g3, g4, g5, g6, g7, g8, g9, g10, gm⟩
          refine ⟨[.s s.cl, .b s.on, .b s.clean, .v u', .r ((landR s q).1.fl.map encF), .v v', .r ((landR s q).1.qu.map encF), .i (landR s q).1.next, .v x', .r ((landR s q).2.map encP)], rfl, rfl, gm.mono fun k hk => .inl (by simpa [modsOf, goneOf, Value.ownBlock] using hk), List.forall_mem_cons.2 ⟨g1, List.forall_mem_nil _⟩, List.forall_mem_cons.2 ⟨⟨g2, fun k hk => gone3 (List.mem_cons_self ..) (List.mem_cons_of_mem _ (List.mem_cons_self ..)) nil_none <| g5 k hk⟩, List.forall_mem_cons.2 ⟨⟨g3, fun k hk => gone3 (List.mem_cons_self ..) (List.mem_cons_of_mem _ (List.mem_cons_self ..)) nil_none <| g6 k hk⟩, List.forall_mem_cons.2 ⟨⟨g4, fun k hk => gone3 (List.mem_cons_self ..) (List.mem_cons_of_mem _ (List.mem_cons_self ..)) nil_none <| g7 k hk⟩, List.forall_mem_nil _⟩⟩⟩, apart_rows3 g8 g9 g10, ?_⟩; intro w7 hr7; exact ⟨u', v', x', rfl, (hr7.at_ 0 rfl).reads, (hr7.at_ 1 rfl).reads, (hr7.at_ 2 rfl).reads, hr7.fresh 0 rfl, hr7.fresh 1 rfl, hr7.fresh 2 rfl, hr7.mod⟩
  · refine ⟨by omega, by omega, ⟨i + 1, x, rfl, by omega, ?_⟩, by omega⟩
    rw [anyF_snoc _ _ i (by omega), hno, Bool.false_or]
    simp only [idIs, decide_eq_false_iff_not]
    exact h2
  · have : i = s.fl.length := by omega
    subst this
    rw [List.take_length] at hno
    have e1 := any_landL hno
    refine (fly_call (s := { s with fl := landL s.fl q }) (o0 := []) ((hr.pick [3, 2, 7, 1] (by decide)).conv (by simp only [sndA, e1]; rfl)) hn (by simp only [e1]; omega) (by simp; omega) (by simp)).mono ?_
    rintro e w6 ⟨rfl, u', v', x', g1, g2, g3, g4, g5, g6, g7, g8, g9, g10, gm⟩
    refine ⟨[.s s.cl, .b s.on, .b s.clean, .v u', .r ((landR s q).1.fl.map encF), .v v', .r ((landR s q).1.qu.map encF), .i (landR s q).1.next, .v x', .r ((landR s q).2.map encP)], rfl, rfl, gm.mono fun k hk => .inl (by simpa [modsOf, goneOf, Value.ownBlock] using hk), List.forall_mem_cons.2 ⟨g1, List.forall_mem_nil _⟩, List.forall_mem_cons.2 ⟨⟨g2, fun k hk => gone3 (List.mem_cons_self ..) (List.mem_cons_of_mem _ (List.mem_cons_self ..)) nil_none <| g5 k hk⟩, List.forall_mem_cons.2 ⟨⟨g3, fun k hk => gone3 (List.mem_cons_self ..) (List.mem_cons_of_mem _ (List.mem_cons_self ..)) nil_none <| g6 k hk⟩, List.forall_mem_cons.2 ⟨⟨g4, fun k hk => gone3 (List.mem_cons_self ..) (List.mem_cons_of_mem _ (List.mem_cons_self ..)) nil_none <| g7 k hk⟩, List.forall_mem_nil _⟩⟩⟩, apart_rows3 g8 g9 g10, ?_⟩; intro w7 hr7; exact ⟨u', v', x', rfl, (hr7.at_ 0 rfl).reads, (hr7.at_ 1 rfl).reads, (hr7.at_ 2 rfl).reads, hr7.fresh 0 rfl, hr7.fresh 1 rfl, hr7.fresh 2 rfl, hr7.mod⟩
end Go.Proofs.YtkalmhdckoocbaaDoor
