/-
  Watches: the law WatchTells. By an AI agent.
-/
import Derived.Test.YtkalmhdckoocbaaDoorKd
import Derived.Test.YtkalmhdckoocbaaDoorTreesK2
set_option linter.unusedSimpArgs false
set_option linter.unusedVariables false
namespace Go.Proofs.YtkalmhdckoocbaaDoor
open Go.Sx

/-- The watches that a law begins with. -/
def wL : List Wat := [(1, [116], [97, 47, 98], 16777215), (2, [116], [99], 5)]
theorem c_watches (w : World) : Calls Tryd.prog 75 #[] w fun e w' => ∃ v, e = .returned (sc1 v) ∧ readsW w' v wL ∧ freshB w.heap.size v ∧ Mod [] w w' := by
  refine as_called (run_plain2 (ρ := []) sxE_ok Tryd.func75 tree_dragomanlaw_watches rfl rfl rfl ?_) rfl
  simp only [Tree.goal, X.P, X.ev, V.toI_i, V.toB_b, V.toS_s, V.toR_r, V.toV_v, V.toN_n, V.toL_l, SV.ev, CV.ev, Sc.ev, List.getD_cons_zero, List.getD_cons_succ, List.getElem?_cons_zero, List.getElem?_cons_succ, List.map_cons, List.map_nil, List.length_cons, List.length_nil, List.cons_append, List.nil_append, Nat.zero_add, Nat.reduceAdd]
  intro v0 w' hr
  refine ⟨v0, rfl, owns.reads (hr.at_ 0 rfl), fun k hk => ?_, hr.mod⟩
  rcases hr.own _ (List.mem_cons_self ..) rfl k hk with h | h
  · exact h
  · simp at h
theorem wb1 : addR wL 1 [116] [99] = ([(2, [116], [99], 5), (1, [116], [99], 1)], 0) := by decide
theorem wb2 : cancelR wL 2 [116] = ([(1, [116], [97, 47, 98], 16777215)], 0) := by decide
theorem wb3 : tellR wL [97, 47, 98] = ([(1, [116], [97, 47, 98], 0), (2, [116], [99], 5)], [(1, [116], [97, 47, 98], 0)], 0) := by rfl
theorem wb4 : freR 16777215 0 = (true, 0) := by decide
theorem wb5 : freR 5 5 = (false, 0) := by decide
theorem wb6 : chkW wL = 0 := by decide
theorem wLs : smallW wL := by intro x hx; simp only [wL, List.mem_cons, List.not_mem_nil, or_false] at hx; rcases hx with rfl | rfl <;> decide
set_option maxHeartbeats 1000000 in
theorem c_watchBegun (w : World) : Calls Tryd.prog 33 #[] w fun e w' => e = .returned (.bool true) ∧ Mod [] w w' := by
  refine as_called (run_plain2 (ρ := []) sxE_ok Tryd.func33 tree_dragomanlaw_watchBegun rfl rfl rfl ?_) rfl
  simp only [Tree.goal, X.P, X.ev, V.toI_i, V.toB_b, V.toS_s, V.toR_r, V.toV_v, V.toN_n, V.toL_l, SV.ev, CV.ev, Sc.ev, List.getD_cons_zero, List.getD_cons_succ, List.getElem?_cons_zero, List.getElem?_cons_succ, List.map_cons, List.map_nil, List.length_cons, List.length_nil, List.cons_append, List.nil_append, Nat.zero_add, Nat.reduceAdd]
  intro w1 hr; refine (c_watches w1).mono ?_; rintro e w2 ⟨u, rfl, r1, f1, m1⟩; refine ⟨[.v u, .r (wL.map encW)], rfl, rfl, m1, List.forall_mem_nil _, List.forall_mem_cons.2 ⟨⟨r1, fun k hk => .inl (f1 k hk.2)⟩, List.forall_mem_nil _⟩, apart_one, ?_⟩; simp only [Tree.goal, X.P, X.ev, V.toI_i, V.toB_b, V.toS_s, V.toR_r, V.toV_v, V.toN_n, V.toL_l, SV.ev, CV.ev, Sc.ev, List.getD_cons_zero, List.getD_cons_succ, List.getElem?_cons_zero, List.getElem?_cons_succ, List.map_cons, List.map_nil, List.length_cons, List.length_nil, List.cons_append, List.nil_append, Nat.zero_add, Nat.reduceAdd]
  intro w1 hr
  refine (c_Add w1 u wL 1 [116] [99] (hr.at_ 0 rfl) wLs (by decide) (by decide)).mono ?_
  rintro e w2 ⟨u2, rfl, r1, f1, m1⟩
  refine ⟨[.v u2, .r ((addR wL 1 [116] [99]).1.map encW), .i (addR wL 1 [116] [99]).2], rfl, rfl, m1, List.forall_mem_nil _, List.forall_mem_cons.2 ⟨⟨r1, fun k hk => .inl (f1 k hk)⟩, List.forall_mem_nil _⟩, apart_one, ?_⟩
  simp only [Tree.goal, X.P, X.ev, V.toI_i, V.toB_b, V.toS_s, V.toR_r, V.toV_v, V.toN_n, V.toL_l, SV.ev, CV.ev, Sc.ev, List.getD_cons_zero, List.getD_cons_succ, List.getElem?_cons_zero, List.getElem?_cons_succ, List.map_cons, List.map_nil, List.length_cons, List.length_nil, List.cons_append, List.nil_append, Nat.zero_add, Nat.reduceAdd]
  intro w1 hr; refine (c_watches w1).mono ?_; rintro e w2 ⟨u, rfl, r1, f1, m1⟩; refine ⟨[.v u, .r (wL.map encW)], rfl, rfl, m1, List.forall_mem_nil _, List.forall_mem_cons.2 ⟨⟨r1, fun k hk => .inl (f1 k hk.2)⟩, List.forall_mem_nil _⟩, apart_one, ?_⟩; simp only [Tree.goal, X.P, X.ev, V.toI_i, V.toB_b, V.toS_s, V.toR_r, V.toV_v, V.toN_n, V.toL_l, SV.ev, CV.ev, Sc.ev, List.getD_cons_zero, List.getD_cons_succ, List.getElem?_cons_zero, List.getElem?_cons_succ, List.map_cons, List.map_nil, List.length_cons, List.length_nil, List.cons_append, List.nil_append, Nat.zero_add, Nat.reduceAdd]
  intro w1 hr
  refine (c_Cancel w1 u wL 2 [116] (hr.at_ 0 rfl) wLs (by decide)).mono ?_
  rintro e w2 ⟨u3, rfl, r1, f1, m1⟩
  refine ⟨[.v u3, .r ((cancelR wL 2 [116]).1.map encW), .i (cancelR wL 2 [116]).2], rfl, rfl, m1, List.forall_mem_nil _, List.forall_mem_cons.2 ⟨⟨r1, fun k hk => .inl (f1 k hk)⟩, List.forall_mem_nil _⟩, apart_one, ?_⟩
  simp only [Tree.goal, X.P, X.ev, V.toI_i, V.toB_b, V.toS_s, V.toR_r, V.toV_v, V.toN_n, V.toL_l, SV.ev, CV.ev, Sc.ev, List.getD_cons_zero, List.getD_cons_succ, List.getElem?_cons_zero, List.getElem?_cons_succ, List.map_cons, List.map_nil, List.length_cons, List.length_nil, List.cons_append, List.nil_append, Nat.zero_add, Nat.reduceAdd]
  intro w1 hr; refine (c_watches w1).mono ?_; rintro e w2 ⟨u, rfl, r1, f1, m1⟩; refine ⟨[.v u, .r (wL.map encW)], rfl, rfl, m1, List.forall_mem_nil _, List.forall_mem_cons.2 ⟨⟨r1, fun k hk => .inl (f1 k hk.2)⟩, List.forall_mem_nil _⟩, apart_one, ?_⟩; simp only [Tree.goal, X.P, X.ev, V.toI_i, V.toB_b, V.toS_s, V.toR_r, V.toV_v, V.toN_n, V.toL_l, SV.ev, CV.ev, Sc.ev, List.getD_cons_zero, List.getD_cons_succ, List.getElem?_cons_zero, List.getElem?_cons_succ, List.map_cons, List.map_nil, List.length_cons, List.length_nil, List.cons_append, List.nil_append, Nat.zero_add, Nat.reduceAdd]
  intro w1 hr
  refine (c_Tell w1 u wL [97, 47, 98] (hr.at_ 0 rfl) wLs (by decide) (by decide)).mono ?_
  rintro e w2 ⟨u4, u5, rfl, r1, r2, f1, f2, m1⟩
  refine ⟨[.v u4, .r ((tellR wL [97, 47, 98]).1.map encW), .v u5, .r ((tellR wL [97, 47, 98]).2.1.map encW), .i (tellR wL [97, 47, 98]).2.2], rfl, rfl, m1, List.forall_mem_nil _, List.forall_mem_cons.2 ⟨⟨r1, fun k hk => .inl (f1 k hk)⟩, List.forall_mem_cons.2 ⟨⟨r2, fun k hk => .inl (f2 k hk)⟩, List.forall_mem_nil _⟩⟩, apart_rd2, ?_⟩
  simp only [Tree.goal, X.P, X.ev, V.toI_i, V.toB_b, V.toS_s, V.toR_r, V.toV_v, V.toN_n, V.toL_l, SV.ev, CV.ev, Sc.ev, List.getD_cons_zero, List.getD_cons_succ, List.getElem?_cons_zero, List.getElem?_cons_succ, List.map_cons, List.map_nil, List.length_cons, List.length_nil, List.cons_append, List.nil_append, Nat.zero_add, Nat.reduceAdd]
  refine ⟨[.b (freR 16777215 0).1, .i (freR 16777215 0).2], rfl, fun _ w' _ => c_Fresh w' _ _, ?_⟩
  simp only [Tree.goal, X.P, X.ev, V.toI_i, V.toB_b, V.toS_s, V.toR_r, V.toV_v, V.toN_n, V.toL_l, SV.ev, CV.ev, Sc.ev, List.getD_cons_zero, List.getD_cons_succ, List.getElem?_cons_zero, List.getElem?_cons_succ, List.map_cons, List.map_nil, List.length_cons, List.length_nil, List.cons_append, List.nil_append, Nat.zero_add, Nat.reduceAdd]
  refine ⟨[.b (freR 5 5).1, .i (freR 5 5).2], rfl, fun _ w' _ => c_Fresh w' _ _, ?_⟩
  simp only [Tree.goal, X.P, X.ev, V.toI_i, V.toB_b, V.toS_s, V.toR_r, V.toV_v, V.toN_n, V.toL_l, SV.ev, CV.ev, Sc.ev, List.getD_cons_zero, List.getD_cons_succ, List.getElem?_cons_zero, List.getElem?_cons_succ, List.map_cons, List.map_nil, List.length_cons, List.length_nil, List.cons_append, List.nil_append, Nat.zero_add, Nat.reduceAdd]
  intro w1 hr; refine (c_watches w1).mono ?_; rintro e w2 ⟨u, rfl, r1, f1, m1⟩; refine ⟨[.v u, .r (wL.map encW)], rfl, rfl, m1, List.forall_mem_nil _, List.forall_mem_cons.2 ⟨⟨r1, fun k hk => .inl (f1 k hk.2)⟩, List.forall_mem_nil _⟩, apart_one, ?_⟩; simp only [Tree.goal, X.P, X.ev, V.toI_i, V.toB_b, V.toS_s, V.toR_r, V.toV_v, V.toN_n, V.toL_l, SV.ev, CV.ev, Sc.ev, List.getD_cons_zero, List.getD_cons_succ, List.getElem?_cons_zero, List.getElem?_cons_succ, List.map_cons, List.map_nil, List.length_cons, List.length_nil, List.cons_append, List.nil_append, Nat.zero_add, Nat.reduceAdd]
  refine ⟨[.i (chkW wL)], rfl, fun _ w' hr => c_CheckW w' u wL (hr.at_ 0 rfl) wLs (by decide), ?_⟩
  simp only [Tree.goal, X.P, X.ev, V.toI_i, V.toB_b, V.toS_s, V.toR_r, V.toV_v, V.toN_n, V.toL_l, SV.ev, CV.ev, Sc.ev, List.getD_cons_zero, List.getD_cons_succ, List.getElem?_cons_zero, List.getElem?_cons_succ, List.map_cons, List.map_nil, List.length_cons, List.length_nil, List.cons_append, List.nil_append, Nat.zero_add, Nat.reduceAdd, wb1, wb2, wb3, wb4, wb5, wb6]
  refine ⟨.inr (by decide), .inr (by decide), fun w' hr => ⟨by rfl, hr.mod⟩⟩

theorem c_ares (w : World) (u v : Value) (a b : List Wat) (e f : Int) (hu : readsW w u a) (hv : readsW w v b) (hl : a.length < 1099511627776) (h1 : e = f) (h2 : a = if f = 0 then b else []) : Calls Tryd.prog 35 #[sc1 u, .int .i64 e, .int .i64 f, sc1 v] w
    fun e' w' => e' = .returned (.bool true) ∧ Mod [] w w' := by
  refine (c_watchesAre w u v a b e f hu hv hl).mono ?_
  rintro e' w' ⟨rfl, hm⟩
  refine ⟨?_, hm⟩
  rw [decide_eq_true h1, decide_eq_true h2]; rfl
theorem raw_nil (l : List Wat) (x : Wat) : (rawR l x).1 = if (rawR l x).2 = 0 then (rawR l x).1 else [] := by
  unfold rawR
  split <;> simp
theorem raw_len (l : List Wat) (x : Wat) : (rawR l x).1.length ≤ l.length + 1 := by
  have := filt_len x.1 x.2.1 l
  unfold rawR
  split <;> simp <;> omega
theorem add_len (l : List Wat) (p : Int) (t n : List UInt8) : (addR l p t n).1.length ≤ l.length + 1 := by
  have := raw_len l (p, t, n, 1)
  unfold addR
  split
  · split
    · exact this
    · simp
  · simp
theorem cancel_len (l : List Wat) (p : Int) (t : List UInt8) : (cancelR l p t).1.length ≤ l.length := by
  have := filt_len p t l
  unfold cancelR
  split
  · split
    · split
      · simp
      · exact this
    · simp
  · simp
theorem told_len (n : List UInt8) (l : List Wat) : (toldL n l).length = l.length := by simp [toldL]
theorem tell_len (l : List Wat) (n : List UInt8) : (tellR l n).1.length ≤ l.length ∧ (tellR l n).2.1.length ≤ l.length := by
  have := these_len n l
  have := told_len n l
  unfold tellR
  split
  · split
    · exact ⟨by simp only; omega, by simp only; omega⟩
    · simp
  · simp
theorem cancel_one {l : List Wat} {p : Int} {t : List UInt8} (h : chkW l = 0) : cancelR l p t = if oneE p t [97] = 0 then (filt p t l, 0) else ([], oneE p t [97]) := by
  have h97 : chkT [97] false = 0 := by decide
  unfold cancelR oneE
  rw [if_pos h, h97]
  split
  · split <;> simp
  · simp
theorem fre_bad {a b : Int} (h : ((a < 0 ∨ 16777215 < a) ∨ b < 0) ∨ 16777215 < b) : freR a b = (false, 3) := by rw [freR, if_neg (by omega)]
theorem fre_ok {a b : Int} (h : ¬(((a < 0 ∨ 16777215 < a) ∨ b < 0) ∨ 16777215 < b)) : freR a b = (freshP a b, 0) := by rw [freR, if_pos (by omega)]
set_option maxHeartbeats 4000000 in
theorem c_WatchTells (w : World) (v : Value) (l : List Wat) (p : Int) (t n : List UInt8) (was now : Int) (hv : readsW w v l) (hs : smallW l) (hl : l.length < 1000000000) (hn : n.length < 4294967281) : Calls Tryd.prog 7 #[sc1 v, .int .i64 p, .string ⟨t.toArray⟩, .string ⟨n.toArray⟩, .int .i64 was, .int .i64 now] w
    fun e w' => e = .returned (.bool true) ∧ Mod [] w w' := by
  refine as_called (run_tree2 (ρ := [.v v, .r (l.map encW), .i p, .s t, .s n, .i was, .i now]) sxE_ok Tryd.func7 tree_dragomanlaw_WatchTells rfl rfl (Rel.start2 (by simp [Ent.holds, Ent.wr, hv, X.ev])) rfl rfl ?_) rfl
  simp only [Tree.goal, X.P, X.ev, V.toI_i, V.toB_b, V.toS_s, V.toR_r, V.toV_v, V.toN_n, V.toL_l, SV.ev, CV.ev, Sc.ev, List.getD_cons_zero, List.getD_cons_succ, List.getElem?_cons_zero, List.getElem?_cons_succ, List.map_cons, List.map_nil, List.length_cons, List.length_nil, List.cons_append, List.nil_append, Nat.zero_add, Nat.reduceAdd]
  have la := add_len l p t n
  have lc := cancel_len l p t
  have lt := tell_len l n
  intro w1 hr
  refine (c_Add w1 v l p t n (hr.at_ 0 rfl) hs hl hn).mono ?_
  rintro e w2 ⟨u1, rfl, r1, f1, m1⟩
  refine ⟨[.v u1, .r ((addR l p t n).1.map encW), .i (addR l p t n).2], rfl, rfl, m1, List.forall_mem_nil _, List.forall_mem_cons.2 ⟨⟨r1, fun k hk => .inl (f1 k hk)⟩, List.forall_mem_nil _⟩, apart_one, ?_⟩
  simp only [Tree.goal, X.P, X.ev, V.toI_i, V.toB_b, V.toS_s, V.toR_r, V.toV_v, V.toN_n, V.toL_l, SV.ev, CV.ev, Sc.ev, List.getD_cons_zero, List.getD_cons_succ, List.getElem?_cons_zero, List.getElem?_cons_succ, List.map_cons, List.map_nil, List.length_cons, List.length_nil, List.cons_append, List.nil_append, Nat.zero_add, Nat.reduceAdd]
  intro w1 hr
  refine (c_Cancel w1 v l p t (hr.at_ 1 rfl) hs hl).mono ?_
  rintro e w2 ⟨u2, rfl, r1, f1, m1⟩
  refine ⟨[.v u2, .r ((cancelR l p t).1.map encW), .i (cancelR l p t).2], rfl, rfl, m1, List.forall_mem_nil _, List.forall_mem_cons.2 ⟨⟨r1, fun k hk => .inl (f1 k hk)⟩, List.forall_mem_nil _⟩, apart_one, ?_⟩
  simp only [Tree.goal, X.P, X.ev, V.toI_i, V.toB_b, V.toS_s, V.toR_r, V.toV_v, V.toN_n, V.toL_l, SV.ev, CV.ev, Sc.ev, List.getD_cons_zero, List.getD_cons_succ, List.getElem?_cons_zero, List.getElem?_cons_succ, List.map_cons, List.map_nil, List.length_cons, List.length_nil, List.cons_append, List.nil_append, Nat.zero_add, Nat.reduceAdd]
  intro w1 hr
  refine (c_Tell w1 v l n (hr.at_ 2 rfl) hs hl hn).mono ?_
  rintro e w2 ⟨u3, u4, rfl, r1, r2, f1, f2, m1⟩
  refine ⟨[.v u3, .r ((tellR l n).1.map encW), .v u4, .r ((tellR l n).2.1.map encW), .i (tellR l n).2.2], rfl, rfl, m1, List.forall_mem_nil _, List.forall_mem_cons.2 ⟨⟨r1, fun k hk => .inl (f1 k hk)⟩, List.forall_mem_cons.2 ⟨⟨r2, fun k hk => .inl (f2 k hk)⟩, List.forall_mem_nil _⟩⟩, apart_rd2, ?_⟩
  simp only [Tree.goal, X.P, X.ev, V.toI_i, V.toB_b, V.toS_s, V.toR_r, V.toV_v, V.toN_n, V.toL_l, SV.ev, CV.ev, Sc.ev, List.getD_cons_zero, List.getD_cons_succ, List.getElem?_cons_zero, List.getElem?_cons_succ, List.map_cons, List.map_nil, List.length_cons, List.length_nil, List.cons_append, List.nil_append, Nat.zero_add, Nat.reduceAdd]
  refine ⟨[.b (freR was now).1, .i (freR was now).2], rfl, fun _ w' _ => c_Fresh w' _ _, ?_⟩
  simp only [Tree.goal, X.P, X.ev, V.toI_i, V.toB_b, V.toS_s, V.toR_r, V.toV_v, V.toN_n, V.toL_l, SV.ev, CV.ev, Sc.ev, List.getD_cons_zero, List.getD_cons_succ, List.getElem?_cons_zero, List.getElem?_cons_succ, List.map_cons, List.map_nil, List.length_cons, List.length_nil, List.cons_append, List.nil_append, Nat.zero_add, Nat.reduceAdd]
  refine ⟨[.i (chkW l)], rfl, fun _ w' hr => c_CheckWatches w' v l (hr.at_ 4 rfl) hs (by omega), ?_⟩
  simp only [Tree.goal, X.P, X.ev, V.toI_i, V.toB_b, V.toS_s, V.toR_r, V.toV_v, V.toN_n, V.toL_l, SV.ev, CV.ev, Sc.ev, List.getD_cons_zero, List.getD_cons_succ, List.getElem?_cons_zero, List.getElem?_cons_succ, List.map_cons, List.map_nil, List.length_cons, List.length_nil, List.cons_append, List.nil_append, Nat.zero_add, Nat.reduceAdd]
  refine ⟨fun (h0 : chkW l = 0) => ?_, fun (h0 : ¬chkW l = 0) => ?_⟩
  · simp only [dragomanlaw_WatchTells_23, Tree.goal, X.P, X.ev, V.toI_i, V.toB_b, V.toS_s, V.toR_r, V.toV_v, V.toN_n, V.toL_l, SV.ev, CV.ev, Sc.ev, List.getD_cons_zero, List.getD_cons_succ, List.getElem?_cons_zero, List.getElem?_cons_succ, List.map_cons, List.map_nil, List.length_cons, List.length_nil, List.cons_append, List.nil_append, Nat.zero_add, Nat.reduceAdd]
    refine ⟨[.i (oneE p t n)], rfl, fun _ w' _ => c_CheckWatch w' _ _ _ hn, ?_⟩
    simp only [Tree.goal, X.P, X.ev, V.toI_i, V.toB_b, V.toS_s, V.toR_r, V.toV_v, V.toN_n, V.toL_l, SV.ev, CV.ev, Sc.ev, List.getD_cons_zero, List.getD_cons_succ, List.getElem?_cons_zero, List.getElem?_cons_succ, List.map_cons, List.map_nil, List.length_cons, List.length_nil, List.cons_append, List.nil_append, Nat.zero_add, Nat.reduceAdd]
    refine ⟨[.i (oneE p t [97])], rfl, fun _ w' _ => c_CheckWatch w' _ _ _ (by decide), ?_⟩
    simp only [Tree.goal, X.P, X.ev, V.toI_i, V.toB_b, V.toS_s, V.toR_r, V.toV_v, V.toN_n, V.toL_l, SV.ev, CV.ev, Sc.ev, List.getD_cons_zero, List.getD_cons_succ, List.getElem?_cons_zero, List.getElem?_cons_succ, List.map_cons, List.map_nil, List.length_cons, List.length_nil, List.cons_append, List.nil_append, Nat.zero_add, Nat.reduceAdd]
    refine ⟨[.i (chkT n false)], rfl, fun _ w' _ => c_CheckTopic w' n false hn, ?_⟩
    simp only [Tree.goal, X.P, X.ev, V.toI_i, V.toB_b, V.toS_s, V.toR_r, V.toV_v, V.toN_n, V.toL_l, SV.ev, CV.ev, Sc.ev, List.getD_cons_zero, List.getD_cons_succ, List.getElem?_cons_zero, List.getElem?_cons_succ, List.map_cons, List.map_nil, List.length_cons, List.length_nil, List.cons_append, List.nil_append, Nat.zero_add, Nat.reduceAdd]
    refine ⟨fun (h4 : ((was < 0 ∨ 16777215 < was) ∨ now < 0) ∨ 16777215 < now) => ?_, fun (h4 : ¬(((was < 0 ∨ 16777215 < was) ∨ now < 0) ∨ 16777215 < now)) => ?_⟩
    · refine ⟨fun (h1 : oneE p t n = 0) => ?_, fun (h1 : ¬oneE p t n = 0) => ?_⟩
      · have hA : addR l p t n = rawR l (p, t, n, 1) := by rw [addR, if_pos h0, if_pos h1]
        simp only [dragomanlaw_WatchTells_6, Tree.goal, X.P, X.ev, V.toI_i, V.toB_b, V.toS_s, V.toR_r, V.toV_v, V.toN_n, V.toL_l, SV.ev, CV.ev, Sc.ev, List.getD_cons_zero, List.getD_cons_succ, List.getElem?_cons_zero, List.getElem?_cons_succ, List.map_cons, List.map_nil, List.length_cons, List.length_nil, List.cons_append, List.nil_append, Nat.zero_add, Nat.reduceAdd]
        intro w1 hr
        refine (c_AddWatch w1 v l p t n (hr.at_ 8 rfl) hl).mono ?_
        rintro e w2 ⟨u5, rfl, r1, f1, m1⟩
        refine ⟨[.v u5, .r ((rawR l (p, t, n, 1)).1.map encW), .i (rawR l (p, t, n, 1)).2], rfl, rfl, m1, List.forall_mem_nil _, List.forall_mem_cons.2 ⟨⟨r1, fun k hk => .inl (f1 k hk)⟩, List.forall_mem_nil _⟩, apart_one, ?_⟩
        try simp only [Tree.goal, X.P, X.ev, V.toI_i, V.toB_b, V.toS_s, V.toR_r, V.toV_v, V.toN_n, V.toL_l, SV.ev, CV.ev, Sc.ev, List.getD_cons_zero, List.getD_cons_succ, List.getElem?_cons_zero, List.getElem?_cons_succ, List.map_cons, List.map_nil, List.length_cons, List.length_nil, List.cons_append, List.nil_append, Nat.zero_add, Nat.reduceAdd]
        refine ⟨fun (h2 : oneE p t [97] = 0) => ?_, fun (h2 : ¬oneE p t [97] = 0) => ?_⟩
        · have hC : cancelR l p t = (filt p t l, 0) := by rw [cancel_one h0, if_pos h2]
          simp only [dragomanlaw_WatchTells_3, Tree.goal, X.P, X.ev, V.toI_i, V.toB_b, V.toS_s, V.toR_r, V.toV_v, V.toN_n, V.toL_l, SV.ev, CV.ev, Sc.ev, List.getD_cons_zero, List.getD_cons_succ, List.getElem?_cons_zero, List.getElem?_cons_succ, List.map_cons, List.map_nil, List.length_cons, List.length_nil, List.cons_append, List.nil_append, Nat.zero_add, Nat.reduceAdd]
          intro w1 hr
          refine (c_CancelOf w1 v l p t (hr.at_ 9 rfl) hl).mono ?_
          rintro e w2 ⟨u6, rfl, r1, f1, m1⟩
          refine ⟨[.v u6, .r ((filt p t l).map encW)], rfl, rfl, m1, List.forall_mem_nil _, List.forall_mem_cons.2 ⟨⟨r1, fun k hk => .inl (f1 k hk)⟩, List.forall_mem_nil _⟩, apart_one, ?_⟩
          try simp only [Tree.goal, X.P, X.ev, V.toI_i, V.toB_b, V.toS_s, V.toR_r, V.toV_v, V.toN_n, V.toL_l, SV.ev, CV.ev, Sc.ev, List.getD_cons_zero, List.getD_cons_succ, List.getElem?_cons_zero, List.getElem?_cons_succ, List.map_cons, List.map_nil, List.length_cons, List.length_nil, List.cons_append, List.nil_append, Nat.zero_add, Nat.reduceAdd]
          refine ⟨fun (h3 : chkT n false = 0) => ?_, fun (h3 : ¬chkT n false = 0) => ?_⟩
          · have hT : tellR l n = (toldL n l, theseL n l, 0) := by rw [tellR, if_pos h0, if_pos h3]
            simp only [dragomanlaw_WatchTells_1, Tree.goal, X.P, X.ev, V.toI_i, V.toB_b, V.toS_s, V.toR_r, V.toV_v, V.toN_n, V.toL_l, SV.ev, CV.ev, Sc.ev, List.getD_cons_zero, List.getD_cons_succ, List.getElem?_cons_zero, List.getElem?_cons_succ, List.map_cons, List.map_nil, List.length_cons, List.length_nil, List.cons_append, List.nil_append, Nat.zero_add, Nat.reduceAdd]
            intro w1 hr
            refine (c_TellOf w1 v l n (hr.at_ 10 rfl) hl (chkW_ok h0).2.1).mono ?_
            rintro e w2 ⟨u7, u8, rfl, o1, o2, f1, f2, m1⟩
            refine ⟨[.v u7, .r ((toldL n l).map encW), .v u8, .r ((theseL n l).map encW)], rfl, rfl, m1, List.forall_mem_nil _, List.forall_mem_cons.2 ⟨⟨owns.reads o1, fun k hk => .inl (f1 k hk.2)⟩, List.forall_mem_cons.2 ⟨⟨owns.reads o2, fun k hk => .inl (f2 k hk.2)⟩, List.forall_mem_nil _⟩⟩, apart_rd2, ?_⟩
            try simp only [Tree.goal, X.P, X.ev, V.toI_i, V.toB_b, V.toS_s, V.toR_r, V.toV_v, V.toN_n, V.toL_l, SV.ev, CV.ev, Sc.ev, List.getD_cons_zero, List.getD_cons_succ, List.getElem?_cons_zero, List.getElem?_cons_succ, List.map_cons, List.map_nil, List.length_cons, List.length_nil, List.cons_append, List.nil_append, Nat.zero_add, Nat.reduceAdd]
            refine ⟨[.b true], rfl, fun _ w' _ => c_watchBegun w', ?_⟩
            simp only [Tree.goal, X.P, X.ev, V.toI_i, V.toB_b, V.toS_s, V.toR_r, V.toV_v, V.toN_n, V.toL_l, SV.ev, CV.ev, Sc.ev, List.getD_cons_zero, List.getD_cons_succ, List.getElem?_cons_zero, List.getElem?_cons_succ, List.map_cons, List.map_nil, List.length_cons, List.length_nil, List.cons_append, List.nil_append, Nat.zero_add, Nat.reduceAdd]
            refine ⟨[.i (chkW l)], rfl, fun _ w' hr => c_CheckW w' v l (hr.at_ 12 rfl) hs (by omega), ?_⟩
            simp only [Tree.goal, X.P, X.ev, V.toI_i, V.toB_b, V.toS_s, V.toR_r, V.toV_v, V.toN_n, V.toL_l, SV.ev, CV.ev, Sc.ev, List.getD_cons_zero, List.getD_cons_succ, List.getElem?_cons_zero, List.getElem?_cons_succ, List.map_cons, List.map_nil, List.length_cons, List.length_nil, List.cons_append, List.nil_append, Nat.zero_add, Nat.reduceAdd]
            refine ⟨[.b true], rfl, fun _ w' hr => c_ares w' _ _ (addR l p t n).1 (rawR l (p, t, n, 1)).1 _ _ (hr.at_ 11 rfl) (hr.at_ 3 rfl) (by omega) (by rw [hA]) (by rw [hA]; exact raw_nil _ _), ?_⟩
            simp only [Tree.goal, X.P, X.ev, V.toI_i, V.toB_b, V.toS_s, V.toR_r, V.toV_v, V.toN_n, V.toL_l, SV.ev, CV.ev, Sc.ev, List.getD_cons_zero, List.getD_cons_succ, List.getElem?_cons_zero, List.getElem?_cons_succ, List.map_cons, List.map_nil, List.length_cons, List.length_nil, List.cons_append, List.nil_append, Nat.zero_add, Nat.reduceAdd]
            refine ⟨[.b true], rfl, fun _ w' hr => c_ares w' _ _ (cancelR l p t).1 (filt p t l) _ _ (hr.at_ 10 rfl) (owns.reads (hr.at_ 2 rfl)) (by omega) (by rw [hC]; exact h2.symm) (by rw [hC]; rw [if_pos h2]), ?_⟩
            simp only [Tree.goal, X.P, X.ev, V.toI_i, V.toB_b, V.toS_s, V.toR_r, V.toV_v, V.toN_n, V.toL_l, SV.ev, CV.ev, Sc.ev, List.getD_cons_zero, List.getD_cons_succ, List.getElem?_cons_zero, List.getElem?_cons_succ, List.map_cons, List.map_nil, List.length_cons, List.length_nil, List.cons_append, List.nil_append, Nat.zero_add, Nat.reduceAdd]
            refine ⟨[.b true], rfl, fun _ w' hr => c_ares w' _ _ (tellR l n).1 (toldL n l) _ _ (hr.at_ 8 rfl) (hr.at_ 0 rfl) (by omega) (by rw [hT]; exact h3.symm) (by rw [hT]; rw [if_pos h3]), ?_⟩
            simp only [Tree.goal, X.P, X.ev, V.toI_i, V.toB_b, V.toS_s, V.toR_r, V.toV_v, V.toN_n, V.toL_l, SV.ev, CV.ev, Sc.ev, List.getD_cons_zero, List.getD_cons_succ, List.getElem?_cons_zero, List.getElem?_cons_succ, List.map_cons, List.map_nil, List.length_cons, List.length_nil, List.cons_append, List.nil_append, Nat.zero_add, Nat.reduceAdd]
            refine ⟨[.b true], rfl, fun _ w' hr => c_ares w' _ _ (tellR l n).2.1 (theseL n l) _ _ (hr.at_ 9 rfl) (hr.at_ 1 rfl) (by omega) (by rw [hT]; exact h3.symm) (by rw [hT]; rw [if_pos h3]), ?_⟩
            simp only [Tree.goal, X.P, X.ev, V.toI_i, V.toB_b, V.toS_s, V.toR_r, V.toV_v, V.toN_n, V.toL_l, SV.ev, CV.ev, Sc.ev, List.getD_cons_zero, List.getD_cons_succ, List.getElem?_cons_zero, List.getElem?_cons_succ, List.map_cons, List.map_nil, List.length_cons, List.length_nil, List.cons_append, List.nil_append, Nat.zero_add, Nat.reduceAdd]
            refine ⟨[.b true], rfl, fun hg => absurd hg.2 (by decide), ?_⟩
            simp only [Tree.goal, X.P, X.ev, V.toI_i, V.toB_b, V.toS_s, V.toR_r, V.toV_v, V.toN_n, V.toL_l, SV.ev, CV.ev, Sc.ev, List.getD_cons_zero, List.getD_cons_succ, List.getElem?_cons_zero, List.getElem?_cons_succ, List.map_cons, List.map_nil, List.length_cons, List.length_nil, List.cons_append, List.nil_append, Nat.zero_add, Nat.reduceAdd]
            refine fun w' hr => ⟨?_, hr.mod⟩
            simp [fre_bad h4]
          · have hT : tellR l n = ([], [], chkT n false) := by rw [tellR, if_pos h0, if_neg h3]
            try simp only [dragomanlaw_WatchTells_2, Tree.goal, X.P, X.ev, V.toI_i, V.toB_b, V.toS_s, V.toR_r, V.toV_v, V.toN_n, V.toL_l, SV.ev, CV.ev, Sc.ev, List.getD_cons_zero, List.getD_cons_succ, List.getElem?_cons_zero, List.getElem?_cons_succ, List.map_cons, List.map_nil, List.length_cons, List.length_nil, List.cons_append, List.nil_append, Nat.zero_add, Nat.reduceAdd]
            refine ⟨[.b true], rfl, fun _ w' _ => c_watchBegun w', ?_⟩
            simp only [Tree.goal, X.P, X.ev, V.toI_i, V.toB_b, V.toS_s, V.toR_r, V.toV_v, V.toN_n, V.toL_l, SV.ev, CV.ev, Sc.ev, List.getD_cons_zero, List.getD_cons_succ, List.getElem?_cons_zero, List.getElem?_cons_succ, List.map_cons, List.map_nil, List.length_cons, List.length_nil, List.cons_append, List.nil_append, Nat.zero_add, Nat.reduceAdd]
            refine ⟨[.i (chkW l)], rfl, fun _ w' hr => c_CheckW w' v l (hr.at_ 10 rfl) hs (by omega), ?_⟩
            simp only [Tree.goal, X.P, X.ev, V.toI_i, V.toB_b, V.toS_s, V.toR_r, V.toV_v, V.toN_n, V.toL_l, SV.ev, CV.ev, Sc.ev, List.getD_cons_zero, List.getD_cons_succ, List.getElem?_cons_zero, List.getElem?_cons_succ, List.map_cons, List.map_nil, List.length_cons, List.length_nil, List.cons_append, List.nil_append, Nat.zero_add, Nat.reduceAdd]
            refine ⟨[.b true], rfl, fun _ w' hr => c_ares w' _ _ (addR l p t n).1 (rawR l (p, t, n, 1)).1 _ _ (hr.at_ 9 rfl) (hr.at_ 1 rfl) (by omega) (by rw [hA]) (by rw [hA]; exact raw_nil _ _), ?_⟩
            simp only [Tree.goal, X.P, X.ev, V.toI_i, V.toB_b, V.toS_s, V.toR_r, V.toV_v, V.toN_n, V.toL_l, SV.ev, CV.ev, Sc.ev, List.getD_cons_zero, List.getD_cons_succ, List.getElem?_cons_zero, List.getElem?_cons_succ, List.map_cons, List.map_nil, List.length_cons, List.length_nil, List.cons_append, List.nil_append, Nat.zero_add, Nat.reduceAdd]
            refine ⟨[.b true], rfl, fun _ w' hr => c_ares w' _ _ (cancelR l p t).1 (filt p t l) _ _ (hr.at_ 8 rfl) (owns.reads (hr.at_ 0 rfl)) (by omega) (by rw [hC]; exact h2.symm) (by rw [hC]; rw [if_pos h2]), ?_⟩
            simp only [Tree.goal, X.P, X.ev, V.toI_i, V.toB_b, V.toS_s, V.toR_r, V.toV_v, V.toN_n, V.toL_l, SV.ev, CV.ev, Sc.ev, List.getD_cons_zero, List.getD_cons_succ, List.getElem?_cons_zero, List.getElem?_cons_succ, List.map_cons, List.map_nil, List.length_cons, List.length_nil, List.cons_append, List.nil_append, Nat.zero_add, Nat.reduceAdd]
            refine ⟨[.b true], rfl, fun _ w' hr => c_ares w' _ _ (tellR l n).1 [] _ _ (hr.at_ 6 rfl) (owns.reads (hr.at_ 3 rfl)) (by omega) (by rw [hT]) (by rw [hT]; simp), ?_⟩
            simp only [Tree.goal, X.P, X.ev, V.toI_i, V.toB_b, V.toS_s, V.toR_r, V.toV_v, V.toN_n, V.toL_l, SV.ev, CV.ev, Sc.ev, List.getD_cons_zero, List.getD_cons_succ, List.getElem?_cons_zero, List.getElem?_cons_succ, List.map_cons, List.map_nil, List.length_cons, List.length_nil, List.cons_append, List.nil_append, Nat.zero_add, Nat.reduceAdd]
            refine ⟨[.b true], rfl, fun _ w' hr => c_ares w' _ _ (tellR l n).2.1 [] _ _ (hr.at_ 7 rfl) (owns.reads (hr.at_ 2 rfl)) (by omega) (by rw [hT]) (by rw [hT]; simp), ?_⟩
            simp only [Tree.goal, X.P, X.ev, V.toI_i, V.toB_b, V.toS_s, V.toR_r, V.toV_v, V.toN_n, V.toL_l, SV.ev, CV.ev, Sc.ev, List.getD_cons_zero, List.getD_cons_succ, List.getElem?_cons_zero, List.getElem?_cons_succ, List.map_cons, List.map_nil, List.length_cons, List.length_nil, List.cons_append, List.nil_append, Nat.zero_add, Nat.reduceAdd]
            refine ⟨[.b true], rfl, fun hg => absurd hg.2 (by decide), ?_⟩
            simp only [Tree.goal, X.P, X.ev, V.toI_i, V.toB_b, V.toS_s, V.toR_r, V.toV_v, V.toN_n, V.toL_l, SV.ev, CV.ev, Sc.ev, List.getD_cons_zero, List.getD_cons_succ, List.getElem?_cons_zero, List.getElem?_cons_succ, List.map_cons, List.map_nil, List.length_cons, List.length_nil, List.cons_append, List.nil_append, Nat.zero_add, Nat.reduceAdd]
            refine fun w' hr => ⟨?_, hr.mod⟩
            simp [fre_bad h4]
        · have hC : cancelR l p t = ([], oneE p t [97]) := by rw [cancel_one h0, if_neg h2]
          refine ⟨fun (h3 : chkT n false = 0) => ?_, fun (h3 : ¬chkT n false = 0) => ?_⟩
          · have hT : tellR l n = (toldL n l, theseL n l, 0) := by rw [tellR, if_pos h0, if_pos h3]
            simp only [dragomanlaw_WatchTells_4, Tree.goal, X.P, X.ev, V.toI_i, V.toB_b, V.toS_s, V.toR_r, V.toV_v, V.toN_n, V.toL_l, SV.ev, CV.ev, Sc.ev, List.getD_cons_zero, List.getD_cons_succ, List.getElem?_cons_zero, List.getElem?_cons_succ, List.map_cons, List.map_nil, List.length_cons, List.length_nil, List.cons_append, List.nil_append, Nat.zero_add, Nat.reduceAdd]
            intro w1 hr
            refine (c_TellOf w1 v l n (hr.at_ 9 rfl) hl (chkW_ok h0).2.1).mono ?_
            rintro e w2 ⟨u7, u8, rfl, o1, o2, f1, f2, m1⟩
            refine ⟨[.v u7, .r ((toldL n l).map encW), .v u8, .r ((theseL n l).map encW)], rfl, rfl, m1, List.forall_mem_nil _, List.forall_mem_cons.2 ⟨⟨owns.reads o1, fun k hk => .inl (f1 k hk.2)⟩, List.forall_mem_cons.2 ⟨⟨owns.reads o2, fun k hk => .inl (f2 k hk.2)⟩, List.forall_mem_nil _⟩⟩, apart_rd2, ?_⟩
            try simp only [Tree.goal, X.P, X.ev, V.toI_i, V.toB_b, V.toS_s, V.toR_r, V.toV_v, V.toN_n, V.toL_l, SV.ev, CV.ev, Sc.ev, List.getD_cons_zero, List.getD_cons_succ, List.getElem?_cons_zero, List.getElem?_cons_succ, List.map_cons, List.map_nil, List.length_cons, List.length_nil, List.cons_append, List.nil_append, Nat.zero_add, Nat.reduceAdd]
            refine ⟨[.b true], rfl, fun _ w' _ => c_watchBegun w', ?_⟩
            simp only [Tree.goal, X.P, X.ev, V.toI_i, V.toB_b, V.toS_s, V.toR_r, V.toV_v, V.toN_n, V.toL_l, SV.ev, CV.ev, Sc.ev, List.getD_cons_zero, List.getD_cons_succ, List.getElem?_cons_zero, List.getElem?_cons_succ, List.map_cons, List.map_nil, List.length_cons, List.length_nil, List.cons_append, List.nil_append, Nat.zero_add, Nat.reduceAdd]
            refine ⟨[.i (chkW l)], rfl, fun _ w' hr => c_CheckW w' v l (hr.at_ 11 rfl) hs (by omega), ?_⟩
            simp only [Tree.goal, X.P, X.ev, V.toI_i, V.toB_b, V.toS_s, V.toR_r, V.toV_v, V.toN_n, V.toL_l, SV.ev, CV.ev, Sc.ev, List.getD_cons_zero, List.getD_cons_succ, List.getElem?_cons_zero, List.getElem?_cons_succ, List.map_cons, List.map_nil, List.length_cons, List.length_nil, List.cons_append, List.nil_append, Nat.zero_add, Nat.reduceAdd]
            refine ⟨[.b true], rfl, fun _ w' hr => c_ares w' _ _ (addR l p t n).1 (rawR l (p, t, n, 1)).1 _ _ (hr.at_ 10 rfl) (hr.at_ 2 rfl) (by omega) (by rw [hA]) (by rw [hA]; exact raw_nil _ _), ?_⟩
            simp only [Tree.goal, X.P, X.ev, V.toI_i, V.toB_b, V.toS_s, V.toR_r, V.toV_v, V.toN_n, V.toL_l, SV.ev, CV.ev, Sc.ev, List.getD_cons_zero, List.getD_cons_succ, List.getElem?_cons_zero, List.getElem?_cons_succ, List.map_cons, List.map_nil, List.length_cons, List.length_nil, List.cons_append, List.nil_append, Nat.zero_add, Nat.reduceAdd]
            refine ⟨[.b true], rfl, fun _ w' hr => c_ares w' _ _ (cancelR l p t).1 [] _ _ (hr.at_ 9 rfl) (owns.reads (hr.at_ 5 rfl)) (by omega) (by rw [hC]) (by rw [hC]; simp), ?_⟩
            simp only [Tree.goal, X.P, X.ev, V.toI_i, V.toB_b, V.toS_s, V.toR_r, V.toV_v, V.toN_n, V.toL_l, SV.ev, CV.ev, Sc.ev, List.getD_cons_zero, List.getD_cons_succ, List.getElem?_cons_zero, List.getElem?_cons_succ, List.map_cons, List.map_nil, List.length_cons, List.length_nil, List.cons_append, List.nil_append, Nat.zero_add, Nat.reduceAdd]
            refine ⟨[.b true], rfl, fun _ w' hr => c_ares w' _ _ (tellR l n).1 (toldL n l) _ _ (hr.at_ 7 rfl) (hr.at_ 0 rfl) (by omega) (by rw [hT]; exact h3.symm) (by rw [hT]; rw [if_pos h3]), ?_⟩
            simp only [Tree.goal, X.P, X.ev, V.toI_i, V.toB_b, V.toS_s, V.toR_r, V.toV_v, V.toN_n, V.toL_l, SV.ev, CV.ev, Sc.ev, List.getD_cons_zero, List.getD_cons_succ, List.getElem?_cons_zero, List.getElem?_cons_succ, List.map_cons, List.map_nil, List.length_cons, List.length_nil, List.cons_append, List.nil_append, Nat.zero_add, Nat.reduceAdd]
            refine ⟨[.b true], rfl, fun _ w' hr => c_ares w' _ _ (tellR l n).2.1 (theseL n l) _ _ (hr.at_ 8 rfl) (hr.at_ 1 rfl) (by omega) (by rw [hT]; exact h3.symm) (by rw [hT]; rw [if_pos h3]), ?_⟩
            simp only [Tree.goal, X.P, X.ev, V.toI_i, V.toB_b, V.toS_s, V.toR_r, V.toV_v, V.toN_n, V.toL_l, SV.ev, CV.ev, Sc.ev, List.getD_cons_zero, List.getD_cons_succ, List.getElem?_cons_zero, List.getElem?_cons_succ, List.map_cons, List.map_nil, List.length_cons, List.length_nil, List.cons_append, List.nil_append, Nat.zero_add, Nat.reduceAdd]
            refine ⟨[.b true], rfl, fun hg => absurd hg.2 (by decide), ?_⟩
            simp only [Tree.goal, X.P, X.ev, V.toI_i, V.toB_b, V.toS_s, V.toR_r, V.toV_v, V.toN_n, V.toL_l, SV.ev, CV.ev, Sc.ev, List.getD_cons_zero, List.getD_cons_succ, List.getElem?_cons_zero, List.getElem?_cons_succ, List.map_cons, List.map_nil, List.length_cons, List.length_nil, List.cons_append, List.nil_append, Nat.zero_add, Nat.reduceAdd]
            refine fun w' hr => ⟨?_, hr.mod⟩
            simp [fre_bad h4]
          · have hT : tellR l n = ([], [], chkT n false) := by rw [tellR, if_pos h0, if_neg h3]
            try simp only [dragomanlaw_WatchTells_5, Tree.goal, X.P, X.ev, V.toI_i, V.toB_b, V.toS_s, V.toR_r, V.toV_v, V.toN_n, V.toL_l, SV.ev, CV.ev, Sc.ev, List.getD_cons_zero, List.getD_cons_succ, List.getElem?_cons_zero, List.getElem?_cons_succ, List.map_cons, List.map_nil, List.length_cons, List.length_nil, List.cons_append, List.nil_append, Nat.zero_add, Nat.reduceAdd]
            refine ⟨[.b true], rfl, fun _ w' _ => c_watchBegun w', ?_⟩
            simp only [Tree.goal, X.P, X.ev, V.toI_i, V.toB_b, V.toS_s, V.toR_r, V.toV_v, V.toN_n, V.toL_l, SV.ev, CV.ev, Sc.ev, List.getD_cons_zero, List.getD_cons_succ, List.getElem?_cons_zero, List.getElem?_cons_succ, List.map_cons, List.map_nil, List.length_cons, List.length_nil, List.cons_append, List.nil_append, Nat.zero_add, Nat.reduceAdd]
            refine ⟨[.i (chkW l)], rfl, fun _ w' hr => c_CheckW w' v l (hr.at_ 9 rfl) hs (by omega), ?_⟩
            simp only [Tree.goal, X.P, X.ev, V.toI_i, V.toB_b, V.toS_s, V.toR_r, V.toV_v, V.toN_n, V.toL_l, SV.ev, CV.ev, Sc.ev, List.getD_cons_zero, List.getD_cons_succ, List.getElem?_cons_zero, List.getElem?_cons_succ, List.map_cons, List.map_nil, List.length_cons, List.length_nil, List.cons_append, List.nil_append, Nat.zero_add, Nat.reduceAdd]
            refine ⟨[.b true], rfl, fun _ w' hr => c_ares w' _ _ (addR l p t n).1 (rawR l (p, t, n, 1)).1 _ _ (hr.at_ 8 rfl) (hr.at_ 0 rfl) (by omega) (by rw [hA]) (by rw [hA]; exact raw_nil _ _), ?_⟩
            simp only [Tree.goal, X.P, X.ev, V.toI_i, V.toB_b, V.toS_s, V.toR_r, V.toV_v, V.toN_n, V.toL_l, SV.ev, CV.ev, Sc.ev, List.getD_cons_zero, List.getD_cons_succ, List.getElem?_cons_zero, List.getElem?_cons_succ, List.map_cons, List.map_nil, List.length_cons, List.length_nil, List.cons_append, List.nil_append, Nat.zero_add, Nat.reduceAdd]
            refine ⟨[.b true], rfl, fun _ w' hr => c_ares w' _ _ (cancelR l p t).1 [] _ _ (hr.at_ 7 rfl) (owns.reads (hr.at_ 3 rfl)) (by omega) (by rw [hC]) (by rw [hC]; simp), ?_⟩
            simp only [Tree.goal, X.P, X.ev, V.toI_i, V.toB_b, V.toS_s, V.toR_r, V.toV_v, V.toN_n, V.toL_l, SV.ev, CV.ev, Sc.ev, List.getD_cons_zero, List.getD_cons_succ, List.getElem?_cons_zero, List.getElem?_cons_succ, List.map_cons, List.map_nil, List.length_cons, List.length_nil, List.cons_append, List.nil_append, Nat.zero_add, Nat.reduceAdd]
            refine ⟨[.b true], rfl, fun _ w' hr => c_ares w' _ _ (tellR l n).1 [] _ _ (hr.at_ 5 rfl) (owns.reads (hr.at_ 2 rfl)) (by omega) (by rw [hT]) (by rw [hT]; simp), ?_⟩
            simp only [Tree.goal, X.P, X.ev, V.toI_i, V.toB_b, V.toS_s, V.toR_r, V.toV_v, V.toN_n, V.toL_l, SV.ev, CV.ev, Sc.ev, List.getD_cons_zero, List.getD_cons_succ, List.getElem?_cons_zero, List.getElem?_cons_succ, List.map_cons, List.map_nil, List.length_cons, List.length_nil, List.cons_append, List.nil_append, Nat.zero_add, Nat.reduceAdd]
            refine ⟨[.b true], rfl, fun _ w' hr => c_ares w' _ _ (tellR l n).2.1 [] _ _ (hr.at_ 6 rfl) (owns.reads (hr.at_ 1 rfl)) (by omega) (by rw [hT]) (by rw [hT]; simp), ?_⟩
            simp only [Tree.goal, X.P, X.ev, V.toI_i, V.toB_b, V.toS_s, V.toR_r, V.toV_v, V.toN_n, V.toL_l, SV.ev, CV.ev, Sc.ev, List.getD_cons_zero, List.getD_cons_succ, List.getElem?_cons_zero, List.getElem?_cons_succ, List.map_cons, List.map_nil, List.length_cons, List.length_nil, List.cons_append, List.nil_append, Nat.zero_add, Nat.reduceAdd]
            refine ⟨[.b true], rfl, fun hg => absurd hg.2 (by decide), ?_⟩
            simp only [Tree.goal, X.P, X.ev, V.toI_i, V.toB_b, V.toS_s, V.toR_r, V.toV_v, V.toN_n, V.toL_l, SV.ev, CV.ev, Sc.ev, List.getD_cons_zero, List.getD_cons_succ, List.getElem?_cons_zero, List.getElem?_cons_succ, List.map_cons, List.map_nil, List.length_cons, List.length_nil, List.cons_append, List.nil_append, Nat.zero_add, Nat.reduceAdd]
            refine fun w' hr => ⟨?_, hr.mod⟩
            simp [fre_bad h4]
      · have hA : addR l p t n = ([], oneE p t n) := by rw [addR, if_pos h0, if_neg h1]
        refine ⟨fun (h2 : oneE p t [97] = 0) => ?_, fun (h2 : ¬oneE p t [97] = 0) => ?_⟩
        · have hC : cancelR l p t = (filt p t l, 0) := by rw [cancel_one h0, if_pos h2]
          simp only [dragomanlaw_WatchTells_9, Tree.goal, X.P, X.ev, V.toI_i, V.toB_b, V.toS_s, V.toR_r, V.toV_v, V.toN_n, V.toL_l, SV.ev, CV.ev, Sc.ev, List.getD_cons_zero, List.getD_cons_succ, List.getElem?_cons_zero, List.getElem?_cons_succ, List.map_cons, List.map_nil, List.length_cons, List.length_nil, List.cons_append, List.nil_append, Nat.zero_add, Nat.reduceAdd]
          intro w1 hr
          refine (c_CancelOf w1 v l p t (hr.at_ 8 rfl) hl).mono ?_
          rintro e w2 ⟨u6, rfl, r1, f1, m1⟩
          refine ⟨[.v u6, .r ((filt p t l).map encW)], rfl, rfl, m1, List.forall_mem_nil _, List.forall_mem_cons.2 ⟨⟨r1, fun k hk => .inl (f1 k hk)⟩, List.forall_mem_nil _⟩, apart_one, ?_⟩
          try simp only [Tree.goal, X.P, X.ev, V.toI_i, V.toB_b, V.toS_s, V.toR_r, V.toV_v, V.toN_n, V.toL_l, SV.ev, CV.ev, Sc.ev, List.getD_cons_zero, List.getD_cons_succ, List.getElem?_cons_zero, List.getElem?_cons_succ, List.map_cons, List.map_nil, List.length_cons, List.length_nil, List.cons_append, List.nil_append, Nat.zero_add, Nat.reduceAdd]
          refine ⟨fun (h3 : chkT n false = 0) => ?_, fun (h3 : ¬chkT n false = 0) => ?_⟩
          · have hT : tellR l n = (toldL n l, theseL n l, 0) := by rw [tellR, if_pos h0, if_pos h3]
            simp only [dragomanlaw_WatchTells_7, Tree.goal, X.P, X.ev, V.toI_i, V.toB_b, V.toS_s, V.toR_r, V.toV_v, V.toN_n, V.toL_l, SV.ev, CV.ev, Sc.ev, List.getD_cons_zero, List.getD_cons_succ, List.getElem?_cons_zero, List.getElem?_cons_succ, List.map_cons, List.map_nil, List.length_cons, List.length_nil, List.cons_append, List.nil_append, Nat.zero_add, Nat.reduceAdd]
            intro w1 hr
            refine (c_TellOf w1 v l n (hr.at_ 9 rfl) hl (chkW_ok h0).2.1).mono ?_
            rintro e w2 ⟨u7, u8, rfl, o1, o2, f1, f2, m1⟩
            refine ⟨[.v u7, .r ((toldL n l).map encW), .v u8, .r ((theseL n l).map encW)], rfl, rfl, m1, List.forall_mem_nil _, List.forall_mem_cons.2 ⟨⟨owns.reads o1, fun k hk => .inl (f1 k hk.2)⟩, List.forall_mem_cons.2 ⟨⟨owns.reads o2, fun k hk => .inl (f2 k hk.2)⟩, List.forall_mem_nil _⟩⟩, apart_rd2, ?_⟩
            try simp only [Tree.goal, X.P, X.ev, V.toI_i, V.toB_b, V.toS_s, V.toR_r, V.toV_v, V.toN_n, V.toL_l, SV.ev, CV.ev, Sc.ev, List.getD_cons_zero, List.getD_cons_succ, List.getElem?_cons_zero, List.getElem?_cons_succ, List.map_cons, List.map_nil, List.length_cons, List.length_nil, List.cons_append, List.nil_append, Nat.zero_add, Nat.reduceAdd]
            refine ⟨[.b true], rfl, fun _ w' _ => c_watchBegun w', ?_⟩
            simp only [Tree.goal, X.P, X.ev, V.toI_i, V.toB_b, V.toS_s, V.toR_r, V.toV_v, V.toN_n, V.toL_l, SV.ev, CV.ev, Sc.ev, List.getD_cons_zero, List.getD_cons_succ, List.getElem?_cons_zero, List.getElem?_cons_succ, List.map_cons, List.map_nil, List.length_cons, List.length_nil, List.cons_append, List.nil_append, Nat.zero_add, Nat.reduceAdd]
            refine ⟨[.i (chkW l)], rfl, fun _ w' hr => c_CheckW w' v l (hr.at_ 11 rfl) hs (by omega), ?_⟩
            simp only [Tree.goal, X.P, X.ev, V.toI_i, V.toB_b, V.toS_s, V.toR_r, V.toV_v, V.toN_n, V.toL_l, SV.ev, CV.ev, Sc.ev, List.getD_cons_zero, List.getD_cons_succ, List.getElem?_cons_zero, List.getElem?_cons_succ, List.map_cons, List.map_nil, List.length_cons, List.length_nil, List.cons_append, List.nil_append, Nat.zero_add, Nat.reduceAdd]
            refine ⟨[.b true], rfl, fun _ w' hr => c_ares w' _ _ (addR l p t n).1 [] _ _ (hr.at_ 10 rfl) (owns.reads (hr.at_ 6 rfl)) (by omega) (by rw [hA]) (by rw [hA]; simp), ?_⟩
            simp only [Tree.goal, X.P, X.ev, V.toI_i, V.toB_b, V.toS_s, V.toR_r, V.toV_v, V.toN_n, V.toL_l, SV.ev, CV.ev, Sc.ev, List.getD_cons_zero, List.getD_cons_succ, List.getElem?_cons_zero, List.getElem?_cons_succ, List.map_cons, List.map_nil, List.length_cons, List.length_nil, List.cons_append, List.nil_append, Nat.zero_add, Nat.reduceAdd]
            refine ⟨[.b true], rfl, fun _ w' hr => c_ares w' _ _ (cancelR l p t).1 (filt p t l) _ _ (hr.at_ 9 rfl) (owns.reads (hr.at_ 2 rfl)) (by omega) (by rw [hC]; exact h2.symm) (by rw [hC]; rw [if_pos h2]), ?_⟩
            simp only [Tree.goal, X.P, X.ev, V.toI_i, V.toB_b, V.toS_s, V.toR_r, V.toV_v, V.toN_n, V.toL_l, SV.ev, CV.ev, Sc.ev, List.getD_cons_zero, List.getD_cons_succ, List.getElem?_cons_zero, List.getElem?_cons_succ, List.map_cons, List.map_nil, List.length_cons, List.length_nil, List.cons_append, List.nil_append, Nat.zero_add, Nat.reduceAdd]
            refine ⟨[.b true], rfl, fun _ w' hr => c_ares w' _ _ (tellR l n).1 (toldL n l) _ _ (hr.at_ 7 rfl) (hr.at_ 0 rfl) (by omega) (by rw [hT]; exact h3.symm) (by rw [hT]; rw [if_pos h3]), ?_⟩
            simp only [Tree.goal, X.P, X.ev, V.toI_i, V.toB_b, V.toS_s, V.toR_r, V.toV_v, V.toN_n, V.toL_l, SV.ev, CV.ev, Sc.ev, List.getD_cons_zero, List.getD_cons_succ, List.getElem?_cons_zero, List.getElem?_cons_succ, List.map_cons, List.map_nil, List.length_cons, List.length_nil, List.cons_append, List.nil_append, Nat.zero_add, Nat.reduceAdd]
            refine ⟨[.b true], rfl, fun _ w' hr => c_ares w' _ _ (tellR l n).2.1 (theseL n l) _ _ (hr.at_ 8 rfl) (hr.at_ 1 rfl) (by omega) (by rw [hT]; exact h3.symm) (by rw [hT]; rw [if_pos h3]), ?_⟩
            simp only [Tree.goal, X.P, X.ev, V.toI_i, V.toB_b, V.toS_s, V.toR_r, V.toV_v, V.toN_n, V.toL_l, SV.ev, CV.ev, Sc.ev, List.getD_cons_zero, List.getD_cons_succ, List.getElem?_cons_zero, List.getElem?_cons_succ, List.map_cons, List.map_nil, List.length_cons, List.length_nil, List.cons_append, List.nil_append, Nat.zero_add, Nat.reduceAdd]
            refine ⟨[.b true], rfl, fun hg => absurd hg.2 (by decide), ?_⟩
            simp only [Tree.goal, X.P, X.ev, V.toI_i, V.toB_b, V.toS_s, V.toR_r, V.toV_v, V.toN_n, V.toL_l, SV.ev, CV.ev, Sc.ev, List.getD_cons_zero, List.getD_cons_succ, List.getElem?_cons_zero, List.getElem?_cons_succ, List.map_cons, List.map_nil, List.length_cons, List.length_nil, List.cons_append, List.nil_append, Nat.zero_add, Nat.reduceAdd]
            refine fun w' hr => ⟨?_, hr.mod⟩
            simp [fre_bad h4]
          · have hT : tellR l n = ([], [], chkT n false) := by rw [tellR, if_pos h0, if_neg h3]
            try simp only [dragomanlaw_WatchTells_8, Tree.goal, X.P, X.ev, V.toI_i, V.toB_b, V.toS_s, V.toR_r, V.toV_v, V.toN_n, V.toL_l, SV.ev, CV.ev, Sc.ev, List.getD_cons_zero, List.getD_cons_succ, List.getElem?_cons_zero, List.getElem?_cons_succ, List.map_cons, List.map_nil, List.length_cons, List.length_nil, List.cons_append, List.nil_append, Nat.zero_add, Nat.reduceAdd]
            refine ⟨[.b true], rfl, fun _ w' _ => c_watchBegun w', ?_⟩
            simp only [Tree.goal, X.P, X.ev, V.toI_i, V.toB_b, V.toS_s, V.toR_r, V.toV_v, V.toN_n, V.toL_l, SV.ev, CV.ev, Sc.ev, List.getD_cons_zero, List.getD_cons_succ, List.getElem?_cons_zero, List.getElem?_cons_succ, List.map_cons, List.map_nil, List.length_cons, List.length_nil, List.cons_append, List.nil_append, Nat.zero_add, Nat.reduceAdd]
            refine ⟨[.i (chkW l)], rfl, fun _ w' hr => c_CheckW w' v l (hr.at_ 9 rfl) hs (by omega), ?_⟩
            simp only [Tree.goal, X.P, X.ev, V.toI_i, V.toB_b, V.toS_s, V.toR_r, V.toV_v, V.toN_n, V.toL_l, SV.ev, CV.ev, Sc.ev, List.getD_cons_zero, List.getD_cons_succ, List.getElem?_cons_zero, List.getElem?_cons_succ, List.map_cons, List.map_nil, List.length_cons, List.length_nil, List.cons_append, List.nil_append, Nat.zero_add, Nat.reduceAdd]
            refine ⟨[.b true], rfl, fun _ w' hr => c_ares w' _ _ (addR l p t n).1 [] _ _ (hr.at_ 8 rfl) (owns.reads (hr.at_ 4 rfl)) (by omega) (by rw [hA]) (by rw [hA]; simp), ?_⟩
            simp only [Tree.goal, X.P, X.ev, V.toI_i, V.toB_b, V.toS_s, V.toR_r, V.toV_v, V.toN_n, V.toL_l, SV.ev, CV.ev, Sc.ev, List.getD_cons_zero, List.getD_cons_succ, List.getElem?_cons_zero, List.getElem?_cons_succ, List.map_cons, List.map_nil, List.length_cons, List.length_nil, List.cons_append, List.nil_append, Nat.zero_add, Nat.reduceAdd]
            refine ⟨[.b true], rfl, fun _ w' hr => c_ares w' _ _ (cancelR l p t).1 (filt p t l) _ _ (hr.at_ 7 rfl) (owns.reads (hr.at_ 0 rfl)) (by omega) (by rw [hC]; exact h2.symm) (by rw [hC]; rw [if_pos h2]), ?_⟩
            simp only [Tree.goal, X.P, X.ev, V.toI_i, V.toB_b, V.toS_s, V.toR_r, V.toV_v, V.toN_n, V.toL_l, SV.ev, CV.ev, Sc.ev, List.getD_cons_zero, List.getD_cons_succ, List.getElem?_cons_zero, List.getElem?_cons_succ, List.map_cons, List.map_nil, List.length_cons, List.length_nil, List.cons_append, List.nil_append, Nat.zero_add, Nat.reduceAdd]
            refine ⟨[.b true], rfl, fun _ w' hr => c_ares w' _ _ (tellR l n).1 [] _ _ (hr.at_ 5 rfl) (owns.reads (hr.at_ 2 rfl)) (by omega) (by rw [hT]) (by rw [hT]; simp), ?_⟩
            simp only [Tree.goal, X.P, X.ev, V.toI_i, V.toB_b, V.toS_s, V.toR_r, V.toV_v, V.toN_n, V.toL_l, SV.ev, CV.ev, Sc.ev, List.getD_cons_zero, List.getD_cons_succ, List.getElem?_cons_zero, List.getElem?_cons_succ, List.map_cons, List.map_nil, List.length_cons, List.length_nil, List.cons_append, List.nil_append, Nat.zero_add, Nat.reduceAdd]
            refine ⟨[.b true], rfl, fun _ w' hr => c_ares w' _ _ (tellR l n).2.1 [] _ _ (hr.at_ 6 rfl) (owns.reads (hr.at_ 1 rfl)) (by omega) (by rw [hT]) (by rw [hT]; simp), ?_⟩
            simp only [Tree.goal, X.P, X.ev, V.toI_i, V.toB_b, V.toS_s, V.toR_r, V.toV_v, V.toN_n, V.toL_l, SV.ev, CV.ev, Sc.ev, List.getD_cons_zero, List.getD_cons_succ, List.getElem?_cons_zero, List.getElem?_cons_succ, List.map_cons, List.map_nil, List.length_cons, List.length_nil, List.cons_append, List.nil_append, Nat.zero_add, Nat.reduceAdd]
            refine ⟨[.b true], rfl, fun hg => absurd hg.2 (by decide), ?_⟩
            simp only [Tree.goal, X.P, X.ev, V.toI_i, V.toB_b, V.toS_s, V.toR_r, V.toV_v, V.toN_n, V.toL_l, SV.ev, CV.ev, Sc.ev, List.getD_cons_zero, List.getD_cons_succ, List.getElem?_cons_zero, List.getElem?_cons_succ, List.map_cons, List.map_nil, List.length_cons, List.length_nil, List.cons_append, List.nil_append, Nat.zero_add, Nat.reduceAdd]
            refine fun w' hr => ⟨?_, hr.mod⟩
            simp [fre_bad h4]
        · have hC : cancelR l p t = ([], oneE p t [97]) := by rw [cancel_one h0, if_neg h2]
          refine ⟨fun (h3 : chkT n false = 0) => ?_, fun (h3 : ¬chkT n false = 0) => ?_⟩
          · have hT : tellR l n = (toldL n l, theseL n l, 0) := by rw [tellR, if_pos h0, if_pos h3]
            simp only [dragomanlaw_WatchTells_10, Tree.goal, X.P, X.ev, V.toI_i, V.toB_b, V.toS_s, V.toR_r, V.toV_v, V.toN_n, V.toL_l, SV.ev, CV.ev, Sc.ev, List.getD_cons_zero, List.getD_cons_succ, List.getElem?_cons_zero, List.getElem?_cons_succ, List.map_cons, List.map_nil, List.length_cons, List.length_nil, List.cons_append, List.nil_append, Nat.zero_add, Nat.reduceAdd]
            intro w1 hr
            refine (c_TellOf w1 v l n (hr.at_ 8 rfl) hl (chkW_ok h0).2.1).mono ?_
            rintro e w2 ⟨u7, u8, rfl, o1, o2, f1, f2, m1⟩
            refine ⟨[.v u7, .r ((toldL n l).map encW), .v u8, .r ((theseL n l).map encW)], rfl, rfl, m1, List.forall_mem_nil _, List.forall_mem_cons.2 ⟨⟨owns.reads o1, fun k hk => .inl (f1 k hk.2)⟩, List.forall_mem_cons.2 ⟨⟨owns.reads o2, fun k hk => .inl (f2 k hk.2)⟩, List.forall_mem_nil _⟩⟩, apart_rd2, ?_⟩
            try simp only [Tree.goal, X.P, X.ev, V.toI_i, V.toB_b, V.toS_s, V.toR_r, V.toV_v, V.toN_n, V.toL_l, SV.ev, CV.ev, Sc.ev, List.getD_cons_zero, List.getD_cons_succ, List.getElem?_cons_zero, List.getElem?_cons_succ, List.map_cons, List.map_nil, List.length_cons, List.length_nil, List.cons_append, List.nil_append, Nat.zero_add, Nat.reduceAdd]
            refine ⟨[.b true], rfl, fun _ w' _ => c_watchBegun w', ?_⟩
            simp only [Tree.goal, X.P, X.ev, V.toI_i, V.toB_b, V.toS_s, V.toR_r, V.toV_v, V.toN_n, V.toL_l, SV.ev, CV.ev, Sc.ev, List.getD_cons_zero, List.getD_cons_succ, List.getElem?_cons_zero, List.getElem?_cons_succ, List.map_cons, List.map_nil, List.length_cons, List.length_nil, List.cons_append, List.nil_append, Nat.zero_add, Nat.reduceAdd]
            refine ⟨[.i (chkW l)], rfl, fun _ w' hr => c_CheckW w' v l (hr.at_ 10 rfl) hs (by omega), ?_⟩
            simp only [Tree.goal, X.P, X.ev, V.toI_i, V.toB_b, V.toS_s, V.toR_r, V.toV_v, V.toN_n, V.toL_l, SV.ev, CV.ev, Sc.ev, List.getD_cons_zero, List.getD_cons_succ, List.getElem?_cons_zero, List.getElem?_cons_succ, List.map_cons, List.map_nil, List.length_cons, List.length_nil, List.cons_append, List.nil_append, Nat.zero_add, Nat.reduceAdd]
            refine ⟨[.b true], rfl, fun _ w' hr => c_ares w' _ _ (addR l p t n).1 [] _ _ (hr.at_ 9 rfl) (owns.reads (hr.at_ 5 rfl)) (by omega) (by rw [hA]) (by rw [hA]; simp), ?_⟩
            simp only [Tree.goal, X.P, X.ev, V.toI_i, V.toB_b, V.toS_s, V.toR_r, V.toV_v, V.toN_n, V.toL_l, SV.ev, CV.ev, Sc.ev, List.getD_cons_zero, List.getD_cons_succ, List.getElem?_cons_zero, List.getElem?_cons_succ, List.map_cons, List.map_nil, List.length_cons, List.length_nil, List.cons_append, List.nil_append, Nat.zero_add, Nat.reduceAdd]
            refine ⟨[.b true], rfl, fun _ w' hr => c_ares w' _ _ (cancelR l p t).1 [] _ _ (hr.at_ 8 rfl) (owns.reads (hr.at_ 4 rfl)) (by omega) (by rw [hC]) (by rw [hC]; simp), ?_⟩
            simp only [Tree.goal, X.P, X.ev, V.toI_i, V.toB_b, V.toS_s, V.toR_r, V.toV_v, V.toN_n, V.toL_l, SV.ev, CV.ev, Sc.ev, List.getD_cons_zero, List.getD_cons_succ, List.getElem?_cons_zero, List.getElem?_cons_succ, List.map_cons, List.map_nil, List.length_cons, List.length_nil, List.cons_append, List.nil_append, Nat.zero_add, Nat.reduceAdd]
            refine ⟨[.b true], rfl, fun _ w' hr => c_ares w' _ _ (tellR l n).1 (toldL n l) _ _ (hr.at_ 6 rfl) (hr.at_ 0 rfl) (by omega) (by rw [hT]; exact h3.symm) (by rw [hT]; rw [if_pos h3]), ?_⟩
            simp only [Tree.goal, X.P, X.ev, V.toI_i, V.toB_b, V.toS_s, V.toR_r, V.toV_v, V.toN_n, V.toL_l, SV.ev, CV.ev, Sc.ev, List.getD_cons_zero, List.getD_cons_succ, List.getElem?_cons_zero, List.getElem?_cons_succ, List.map_cons, List.map_nil, List.length_cons, List.length_nil, List.cons_append, List.nil_append, Nat.zero_add, Nat.reduceAdd]
            refine ⟨[.b true], rfl, fun _ w' hr => c_ares w' _ _ (tellR l n).2.1 (theseL n l) _ _ (hr.at_ 7 rfl) (hr.at_ 1 rfl) (by omega) (by rw [hT]; exact h3.symm) (by rw [hT]; rw [if_pos h3]), ?_⟩
            simp only [Tree.goal, X.P, X.ev, V.toI_i, V.toB_b, V.toS_s, V.toR_r, V.toV_v, V.toN_n, V.toL_l, SV.ev, CV.ev, Sc.ev, List.getD_cons_zero, List.getD_cons_succ, List.getElem?_cons_zero, List.getElem?_cons_succ, List.map_cons, List.map_nil, List.length_cons, List.length_nil, List.cons_append, List.nil_append, Nat.zero_add, Nat.reduceAdd]
            refine ⟨[.b true], rfl, fun hg => absurd hg.2 (by decide), ?_⟩
            simp only [Tree.goal, X.P, X.ev, V.toI_i, V.toB_b, V.toS_s, V.toR_r, V.toV_v, V.toN_n, V.toL_l, SV.ev, CV.ev, Sc.ev, List.getD_cons_zero, List.getD_cons_succ, List.getElem?_cons_zero, List.getElem?_cons_succ, List.map_cons, List.map_nil, List.length_cons, List.length_nil, List.cons_append, List.nil_append, Nat.zero_add, Nat.reduceAdd]
            refine fun w' hr => ⟨?_, hr.mod⟩
            simp [fre_bad h4]
          · have hT : tellR l n = ([], [], chkT n false) := by rw [tellR, if_pos h0, if_neg h3]
            try simp only [dragomanlaw_WatchTells_11, Tree.goal, X.P, X.ev, V.toI_i, V.toB_b, V.toS_s, V.toR_r, V.toV_v, V.toN_n, V.toL_l, SV.ev, CV.ev, Sc.ev, List.getD_cons_zero, List.getD_cons_succ, List.getElem?_cons_zero, List.getElem?_cons_succ, List.map_cons, List.map_nil, List.length_cons, List.length_nil, List.cons_append, List.nil_append, Nat.zero_add, Nat.reduceAdd]
            refine ⟨[.b true], rfl, fun _ w' _ => c_watchBegun w', ?_⟩
            simp only [Tree.goal, X.P, X.ev, V.toI_i, V.toB_b, V.toS_s, V.toR_r, V.toV_v, V.toN_n, V.toL_l, SV.ev, CV.ev, Sc.ev, List.getD_cons_zero, List.getD_cons_succ, List.getElem?_cons_zero, List.getElem?_cons_succ, List.map_cons, List.map_nil, List.length_cons, List.length_nil, List.cons_append, List.nil_append, Nat.zero_add, Nat.reduceAdd]
            refine ⟨[.i (chkW l)], rfl, fun _ w' hr => c_CheckW w' v l (hr.at_ 8 rfl) hs (by omega), ?_⟩
            simp only [Tree.goal, X.P, X.ev, V.toI_i, V.toB_b, V.toS_s, V.toR_r, V.toV_v, V.toN_n, V.toL_l, SV.ev, CV.ev, Sc.ev, List.getD_cons_zero, List.getD_cons_succ, List.getElem?_cons_zero, List.getElem?_cons_succ, List.map_cons, List.map_nil, List.length_cons, List.length_nil, List.cons_append, List.nil_append, Nat.zero_add, Nat.reduceAdd]
            refine ⟨[.b true], rfl, fun _ w' hr => c_ares w' _ _ (addR l p t n).1 [] _ _ (hr.at_ 7 rfl) (owns.reads (hr.at_ 3 rfl)) (by omega) (by rw [hA]) (by rw [hA]; simp), ?_⟩
            simp only [Tree.goal, X.P, X.ev, V.toI_i, V.toB_b, V.toS_s, V.toR_r, V.toV_v, V.toN_n, V.toL_l, SV.ev, CV.ev, Sc.ev, List.getD_cons_zero, List.getD_cons_succ, List.getElem?_cons_zero, List.getElem?_cons_succ, List.map_cons, List.map_nil, List.length_cons, List.length_nil, List.cons_append, List.nil_append, Nat.zero_add, Nat.reduceAdd]
            refine ⟨[.b true], rfl, fun _ w' hr => c_ares w' _ _ (cancelR l p t).1 [] _ _ (hr.at_ 6 rfl) (owns.reads (hr.at_ 2 rfl)) (by omega) (by rw [hC]) (by rw [hC]; simp), ?_⟩
            simp only [Tree.goal, X.P, X.ev, V.toI_i, V.toB_b, V.toS_s, V.toR_r, V.toV_v, V.toN_n, V.toL_l, SV.ev, CV.ev, Sc.ev, List.getD_cons_zero, List.getD_cons_succ, List.getElem?_cons_zero, List.getElem?_cons_succ, List.map_cons, List.map_nil, List.length_cons, List.length_nil, List.cons_append, List.nil_append, Nat.zero_add, Nat.reduceAdd]
            refine ⟨[.b true], rfl, fun _ w' hr => c_ares w' _ _ (tellR l n).1 [] _ _ (hr.at_ 4 rfl) (owns.reads (hr.at_ 1 rfl)) (by omega) (by rw [hT]) (by rw [hT]; simp), ?_⟩
            simp only [Tree.goal, X.P, X.ev, V.toI_i, V.toB_b, V.toS_s, V.toR_r, V.toV_v, V.toN_n, V.toL_l, SV.ev, CV.ev, Sc.ev, List.getD_cons_zero, List.getD_cons_succ, List.getElem?_cons_zero, List.getElem?_cons_succ, List.map_cons, List.map_nil, List.length_cons, List.length_nil, List.cons_append, List.nil_append, Nat.zero_add, Nat.reduceAdd]
            refine ⟨[.b true], rfl, fun _ w' hr => c_ares w' _ _ (tellR l n).2.1 [] _ _ (hr.at_ 5 rfl) (owns.reads (hr.at_ 0 rfl)) (by omega) (by rw [hT]) (by rw [hT]; simp), ?_⟩
            simp only [Tree.goal, X.P, X.ev, V.toI_i, V.toB_b, V.toS_s, V.toR_r, V.toV_v, V.toN_n, V.toL_l, SV.ev, CV.ev, Sc.ev, List.getD_cons_zero, List.getD_cons_succ, List.getElem?_cons_zero, List.getElem?_cons_succ, List.map_cons, List.map_nil, List.length_cons, List.length_nil, List.cons_append, List.nil_append, Nat.zero_add, Nat.reduceAdd]
            refine ⟨[.b true], rfl, fun hg => absurd hg.2 (by decide), ?_⟩
            simp only [Tree.goal, X.P, X.ev, V.toI_i, V.toB_b, V.toS_s, V.toR_r, V.toV_v, V.toN_n, V.toL_l, SV.ev, CV.ev, Sc.ev, List.getD_cons_zero, List.getD_cons_succ, List.getElem?_cons_zero, List.getElem?_cons_succ, List.map_cons, List.map_nil, List.length_cons, List.length_nil, List.cons_append, List.nil_append, Nat.zero_add, Nat.reduceAdd]
            refine fun w' hr => ⟨?_, hr.mod⟩
            simp [fre_bad h4]
    · refine ⟨fun (h1 : oneE p t n = 0) => ?_, fun (h1 : ¬oneE p t n = 0) => ?_⟩
      · have hA : addR l p t n = rawR l (p, t, n, 1) := by rw [addR, if_pos h0, if_pos h1]
        simp only [dragomanlaw_WatchTells_17, Tree.goal, X.P, X.ev, V.toI_i, V.toB_b, V.toS_s, V.toR_r, V.toV_v, V.toN_n, V.toL_l, SV.ev, CV.ev, Sc.ev, List.getD_cons_zero, List.getD_cons_succ, List.getElem?_cons_zero, List.getElem?_cons_succ, List.map_cons, List.map_nil, List.length_cons, List.length_nil, List.cons_append, List.nil_append, Nat.zero_add, Nat.reduceAdd]
        intro w1 hr
        refine (c_AddWatch w1 v l p t n (hr.at_ 8 rfl) hl).mono ?_
        rintro e w2 ⟨u5, rfl, r1, f1, m1⟩
        refine ⟨[.v u5, .r ((rawR l (p, t, n, 1)).1.map encW), .i (rawR l (p, t, n, 1)).2], rfl, rfl, m1, List.forall_mem_nil _, List.forall_mem_cons.2 ⟨⟨r1, fun k hk => .inl (f1 k hk)⟩, List.forall_mem_nil _⟩, apart_one, ?_⟩
        try simp only [Tree.goal, X.P, X.ev, V.toI_i, V.toB_b, V.toS_s, V.toR_r, V.toV_v, V.toN_n, V.toL_l, SV.ev, CV.ev, Sc.ev, List.getD_cons_zero, List.getD_cons_succ, List.getElem?_cons_zero, List.getElem?_cons_succ, List.map_cons, List.map_nil, List.length_cons, List.length_nil, List.cons_append, List.nil_append, Nat.zero_add, Nat.reduceAdd]
        refine ⟨fun (h2 : oneE p t [97] = 0) => ?_, fun (h2 : ¬oneE p t [97] = 0) => ?_⟩
        · have hC : cancelR l p t = (filt p t l, 0) := by rw [cancel_one h0, if_pos h2]
          simp only [dragomanlaw_WatchTells_14, Tree.goal, X.P, X.ev, V.toI_i, V.toB_b, V.toS_s, V.toR_r, V.toV_v, V.toN_n, V.toL_l, SV.ev, CV.ev, Sc.ev, List.getD_cons_zero, List.getD_cons_succ, List.getElem?_cons_zero, List.getElem?_cons_succ, List.map_cons, List.map_nil, List.length_cons, List.length_nil, List.cons_append, List.nil_append, Nat.zero_add, Nat.reduceAdd]
          intro w1 hr
          refine (c_CancelOf w1 v l p t (hr.at_ 9 rfl) hl).mono ?_
          rintro e w2 ⟨u6, rfl, r1, f1, m1⟩
          refine ⟨[.v u6, .r ((filt p t l).map encW)], rfl, rfl, m1, List.forall_mem_nil _, List.forall_mem_cons.2 ⟨⟨r1, fun k hk => .inl (f1 k hk)⟩, List.forall_mem_nil _⟩, apart_one, ?_⟩
          try simp only [Tree.goal, X.P, X.ev, V.toI_i, V.toB_b, V.toS_s, V.toR_r, V.toV_v, V.toN_n, V.toL_l, SV.ev, CV.ev, Sc.ev, List.getD_cons_zero, List.getD_cons_succ, List.getElem?_cons_zero, List.getElem?_cons_succ, List.map_cons, List.map_nil, List.length_cons, List.length_nil, List.cons_append, List.nil_append, Nat.zero_add, Nat.reduceAdd]
          refine ⟨fun (h3 : chkT n false = 0) => ?_, fun (h3 : ¬chkT n false = 0) => ?_⟩
          · have hT : tellR l n = (toldL n l, theseL n l, 0) := by rw [tellR, if_pos h0, if_pos h3]
            simp only [dragomanlaw_WatchTells_12, Tree.goal, X.P, X.ev, V.toI_i, V.toB_b, V.toS_s, V.toR_r, V.toV_v, V.toN_n, V.toL_l, SV.ev, CV.ev, Sc.ev, List.getD_cons_zero, List.getD_cons_succ, List.getElem?_cons_zero, List.getElem?_cons_succ, List.map_cons, List.map_nil, List.length_cons, List.length_nil, List.cons_append, List.nil_append, Nat.zero_add, Nat.reduceAdd]
            intro w1 hr
            refine (c_TellOf w1 v l n (hr.at_ 10 rfl) hl (chkW_ok h0).2.1).mono ?_
            rintro e w2 ⟨u7, u8, rfl, o1, o2, f1, f2, m1⟩
            refine ⟨[.v u7, .r ((toldL n l).map encW), .v u8, .r ((theseL n l).map encW)], rfl, rfl, m1, List.forall_mem_nil _, List.forall_mem_cons.2 ⟨⟨owns.reads o1, fun k hk => .inl (f1 k hk.2)⟩, List.forall_mem_cons.2 ⟨⟨owns.reads o2, fun k hk => .inl (f2 k hk.2)⟩, List.forall_mem_nil _⟩⟩, apart_rd2, ?_⟩
            try simp only [Tree.goal, X.P, X.ev, V.toI_i, V.toB_b, V.toS_s, V.toR_r, V.toV_v, V.toN_n, V.toL_l, SV.ev, CV.ev, Sc.ev, List.getD_cons_zero, List.getD_cons_succ, List.getElem?_cons_zero, List.getElem?_cons_succ, List.map_cons, List.map_nil, List.length_cons, List.length_nil, List.cons_append, List.nil_append, Nat.zero_add, Nat.reduceAdd]
            refine ⟨[.b true], rfl, fun _ w' _ => c_watchBegun w', ?_⟩
            simp only [Tree.goal, X.P, X.ev, V.toI_i, V.toB_b, V.toS_s, V.toR_r, V.toV_v, V.toN_n, V.toL_l, SV.ev, CV.ev, Sc.ev, List.getD_cons_zero, List.getD_cons_succ, List.getElem?_cons_zero, List.getElem?_cons_succ, List.map_cons, List.map_nil, List.length_cons, List.length_nil, List.cons_append, List.nil_append, Nat.zero_add, Nat.reduceAdd]
            refine ⟨[.i (chkW l)], rfl, fun _ w' hr => c_CheckW w' v l (hr.at_ 12 rfl) hs (by omega), ?_⟩
            simp only [Tree.goal, X.P, X.ev, V.toI_i, V.toB_b, V.toS_s, V.toR_r, V.toV_v, V.toN_n, V.toL_l, SV.ev, CV.ev, Sc.ev, List.getD_cons_zero, List.getD_cons_succ, List.getElem?_cons_zero, List.getElem?_cons_succ, List.map_cons, List.map_nil, List.length_cons, List.length_nil, List.cons_append, List.nil_append, Nat.zero_add, Nat.reduceAdd]
            refine ⟨[.b true], rfl, fun _ w' hr => c_ares w' _ _ (addR l p t n).1 (rawR l (p, t, n, 1)).1 _ _ (hr.at_ 11 rfl) (hr.at_ 3 rfl) (by omega) (by rw [hA]) (by rw [hA]; exact raw_nil _ _), ?_⟩
            simp only [Tree.goal, X.P, X.ev, V.toI_i, V.toB_b, V.toS_s, V.toR_r, V.toV_v, V.toN_n, V.toL_l, SV.ev, CV.ev, Sc.ev, List.getD_cons_zero, List.getD_cons_succ, List.getElem?_cons_zero, List.getElem?_cons_succ, List.map_cons, List.map_nil, List.length_cons, List.length_nil, List.cons_append, List.nil_append, Nat.zero_add, Nat.reduceAdd]
            refine ⟨[.b true], rfl, fun _ w' hr => c_ares w' _ _ (cancelR l p t).1 (filt p t l) _ _ (hr.at_ 10 rfl) (owns.reads (hr.at_ 2 rfl)) (by omega) (by rw [hC]; exact h2.symm) (by rw [hC]; rw [if_pos h2]), ?_⟩
            simp only [Tree.goal, X.P, X.ev, V.toI_i, V.toB_b, V.toS_s, V.toR_r, V.toV_v, V.toN_n, V.toL_l, SV.ev, CV.ev, Sc.ev, List.getD_cons_zero, List.getD_cons_succ, List.getElem?_cons_zero, List.getElem?_cons_succ, List.map_cons, List.map_nil, List.length_cons, List.length_nil, List.cons_append, List.nil_append, Nat.zero_add, Nat.reduceAdd]
            refine ⟨[.b true], rfl, fun _ w' hr => c_ares w' _ _ (tellR l n).1 (toldL n l) _ _ (hr.at_ 8 rfl) (hr.at_ 0 rfl) (by omega) (by rw [hT]; exact h3.symm) (by rw [hT]; rw [if_pos h3]), ?_⟩
            simp only [Tree.goal, X.P, X.ev, V.toI_i, V.toB_b, V.toS_s, V.toR_r, V.toV_v, V.toN_n, V.toL_l, SV.ev, CV.ev, Sc.ev, List.getD_cons_zero, List.getD_cons_succ, List.getElem?_cons_zero, List.getElem?_cons_succ, List.map_cons, List.map_nil, List.length_cons, List.length_nil, List.cons_append, List.nil_append, Nat.zero_add, Nat.reduceAdd]
            refine ⟨[.b true], rfl, fun _ w' hr => c_ares w' _ _ (tellR l n).2.1 (theseL n l) _ _ (hr.at_ 9 rfl) (hr.at_ 1 rfl) (by omega) (by rw [hT]; exact h3.symm) (by rw [hT]; rw [if_pos h3]), ?_⟩
            simp only [Tree.goal, X.P, X.ev, V.toI_i, V.toB_b, V.toS_s, V.toR_r, V.toV_v, V.toN_n, V.toL_l, SV.ev, CV.ev, Sc.ev, List.getD_cons_zero, List.getD_cons_succ, List.getElem?_cons_zero, List.getElem?_cons_succ, List.map_cons, List.map_nil, List.length_cons, List.length_nil, List.cons_append, List.nil_append, Nat.zero_add, Nat.reduceAdd]
            refine ⟨[.b (freshP was now)], rfl, fun _ w' _ => c_IsFresh w' _ _ (by omega) (by omega), ?_⟩
            simp only [Tree.goal, X.P, X.ev, V.toI_i, V.toB_b, V.toS_s, V.toR_r, V.toV_v, V.toN_n, V.toL_l, SV.ev, CV.ev, Sc.ev, List.getD_cons_zero, List.getD_cons_succ, List.getElem?_cons_zero, List.getElem?_cons_succ, List.map_cons, List.map_nil, List.length_cons, List.length_nil, List.cons_append, List.nil_append, Nat.zero_add, Nat.reduceAdd]
            refine fun w' hr => ⟨?_, hr.mod⟩
            simp [fre_ok h4]
          · have hT : tellR l n = ([], [], chkT n false) := by rw [tellR, if_pos h0, if_neg h3]
            try simp only [dragomanlaw_WatchTells_13, Tree.goal, X.P, X.ev, V.toI_i, V.toB_b, V.toS_s, V.toR_r, V.toV_v, V.toN_n, V.toL_l, SV.ev, CV.ev, Sc.ev, List.getD_cons_zero, List.getD_cons_succ, List.getElem?_cons_zero, List.getElem?_cons_succ, List.map_cons, List.map_nil, List.length_cons, List.length_nil, List.cons_append, List.nil_append, Nat.zero_add, Nat.reduceAdd]
            refine ⟨[.b true], rfl, fun _ w' _ => c_watchBegun w', ?_⟩
            simp only [Tree.goal, X.P, X.ev, V.toI_i, V.toB_b, V.toS_s, V.toR_r, V.toV_v, V.toN_n, V.toL_l, SV.ev, CV.ev, Sc.ev, List.getD_cons_zero, List.getD_cons_succ, List.getElem?_cons_zero, List.getElem?_cons_succ, List.map_cons, List.map_nil, List.length_cons, List.length_nil, List.cons_append, List.nil_append, Nat.zero_add, Nat.reduceAdd]
            refine ⟨[.i (chkW l)], rfl, fun _ w' hr => c_CheckW w' v l (hr.at_ 10 rfl) hs (by omega), ?_⟩
            simp only [Tree.goal, X.P, X.ev, V.toI_i, V.toB_b, V.toS_s, V.toR_r, V.toV_v, V.toN_n, V.toL_l, SV.ev, CV.ev, Sc.ev, List.getD_cons_zero, List.getD_cons_succ, List.getElem?_cons_zero, List.getElem?_cons_succ, List.map_cons, List.map_nil, List.length_cons, List.length_nil, List.cons_append, List.nil_append, Nat.zero_add, Nat.reduceAdd]
            refine ⟨[.b true], rfl, fun _ w' hr => c_ares w' _ _ (addR l p t n).1 (rawR l (p, t, n, 1)).1 _ _ (hr.at_ 9 rfl) (hr.at_ 1 rfl) (by omega) (by rw [hA]) (by rw [hA]; exact raw_nil _ _), ?_⟩
            simp only [Tree.goal, X.P, X.ev, V.toI_i, V.toB_b, V.toS_s, V.toR_r, V.toV_v, V.toN_n, V.toL_l, SV.ev, CV.ev, Sc.ev, List.getD_cons_zero, List.getD_cons_succ, List.getElem?_cons_zero, List.getElem?_cons_succ, List.map_cons, List.map_nil, List.length_cons, List.length_nil, List.cons_append, List.nil_append, Nat.zero_add, Nat.reduceAdd]
            refine ⟨[.b true], rfl, fun _ w' hr => c_ares w' _ _ (cancelR l p t).1 (filt p t l) _ _ (hr.at_ 8 rfl) (owns.reads (hr.at_ 0 rfl)) (by omega) (by rw [hC]; exact h2.symm) (by rw [hC]; rw [if_pos h2]), ?_⟩
            simp only [Tree.goal, X.P, X.ev, V.toI_i, V.toB_b, V.toS_s, V.toR_r, V.toV_v, V.toN_n, V.toL_l, SV.ev, CV.ev, Sc.ev, List.getD_cons_zero, List.getD_cons_succ, List.getElem?_cons_zero, List.getElem?_cons_succ, List.map_cons, List.map_nil, List.length_cons, List.length_nil, List.cons_append, List.nil_append, Nat.zero_add, Nat.reduceAdd]
            refine ⟨[.b true], rfl, fun _ w' hr => c_ares w' _ _ (tellR l n).1 [] _ _ (hr.at_ 6 rfl) (owns.reads (hr.at_ 3 rfl)) (by omega) (by rw [hT]) (by rw [hT]; simp), ?_⟩
            simp only [Tree.goal, X.P, X.ev, V.toI_i, V.toB_b, V.toS_s, V.toR_r, V.toV_v, V.toN_n, V.toL_l, SV.ev, CV.ev, Sc.ev, List.getD_cons_zero, List.getD_cons_succ, List.getElem?_cons_zero, List.getElem?_cons_succ, List.map_cons, List.map_nil, List.length_cons, List.length_nil, List.cons_append, List.nil_append, Nat.zero_add, Nat.reduceAdd]
            refine ⟨[.b true], rfl, fun _ w' hr => c_ares w' _ _ (tellR l n).2.1 [] _ _ (hr.at_ 7 rfl) (owns.reads (hr.at_ 2 rfl)) (by omega) (by rw [hT]) (by rw [hT]; simp), ?_⟩
            simp only [Tree.goal, X.P, X.ev, V.toI_i, V.toB_b, V.toS_s, V.toR_r, V.toV_v, V.toN_n, V.toL_l, SV.ev, CV.ev, Sc.ev, List.getD_cons_zero, List.getD_cons_succ, List.getElem?_cons_zero, List.getElem?_cons_succ, List.map_cons, List.map_nil, List.length_cons, List.length_nil, List.cons_append, List.nil_append, Nat.zero_add, Nat.reduceAdd]
            refine ⟨[.b (freshP was now)], rfl, fun _ w' _ => c_IsFresh w' _ _ (by omega) (by omega), ?_⟩
            simp only [Tree.goal, X.P, X.ev, V.toI_i, V.toB_b, V.toS_s, V.toR_r, V.toV_v, V.toN_n, V.toL_l, SV.ev, CV.ev, Sc.ev, List.getD_cons_zero, List.getD_cons_succ, List.getElem?_cons_zero, List.getElem?_cons_succ, List.map_cons, List.map_nil, List.length_cons, List.length_nil, List.cons_append, List.nil_append, Nat.zero_add, Nat.reduceAdd]
            refine fun w' hr => ⟨?_, hr.mod⟩
            simp [fre_ok h4]
        · have hC : cancelR l p t = ([], oneE p t [97]) := by rw [cancel_one h0, if_neg h2]
          refine ⟨fun (h3 : chkT n false = 0) => ?_, fun (h3 : ¬chkT n false = 0) => ?_⟩
          · have hT : tellR l n = (toldL n l, theseL n l, 0) := by rw [tellR, if_pos h0, if_pos h3]
            simp only [dragomanlaw_WatchTells_15, Tree.goal, X.P, X.ev, V.toI_i, V.toB_b, V.toS_s, V.toR_r, V.toV_v, V.toN_n, V.toL_l, SV.ev, CV.ev, Sc.ev, List.getD_cons_zero, List.getD_cons_succ, List.getElem?_cons_zero, List.getElem?_cons_succ, List.map_cons, List.map_nil, List.length_cons, List.length_nil, List.cons_append, List.nil_append, Nat.zero_add, Nat.reduceAdd]
            intro w1 hr
            refine (c_TellOf w1 v l n (hr.at_ 9 rfl) hl (chkW_ok h0).2.1).mono ?_
            rintro e w2 ⟨u7, u8, rfl, o1, o2, f1, f2, m1⟩
            refine ⟨[.v u7, .r ((toldL n l).map encW), .v u8, .r ((theseL n l).map encW)], rfl, rfl, m1, List.forall_mem_nil _, List.forall_mem_cons.2 ⟨⟨owns.reads o1, fun k hk => .inl (f1 k hk.2)⟩, List.forall_mem_cons.2 ⟨⟨owns.reads o2, fun k hk => .inl (f2 k hk.2)⟩, List.forall_mem_nil _⟩⟩, apart_rd2, ?_⟩
            try simp only [Tree.goal, X.P, X.ev, V.toI_i, V.toB_b, V.toS_s, V.toR_r, V.toV_v, V.toN_n, V.toL_l, SV.ev, CV.ev, Sc.ev, List.getD_cons_zero, List.getD_cons_succ, List.getElem?_cons_zero, List.getElem?_cons_succ, List.map_cons, List.map_nil, List.length_cons, List.length_nil, List.cons_append, List.nil_append, Nat.zero_add, Nat.reduceAdd]
            refine ⟨[.b true], rfl, fun _ w' _ => c_watchBegun w', ?_⟩
            simp only [Tree.goal, X.P, X.ev, V.toI_i, V.toB_b, V.toS_s, V.toR_r, V.toV_v, V.toN_n, V.toL_l, SV.ev, CV.ev, Sc.ev, List.getD_cons_zero, List.getD_cons_succ, List.getElem?_cons_zero, List.getElem?_cons_succ, List.map_cons, List.map_nil, List.length_cons, List.length_nil, List.cons_append, List.nil_append, Nat.zero_add, Nat.reduceAdd]
            refine ⟨[.i (chkW l)], rfl, fun _ w' hr => c_CheckW w' v l (hr.at_ 11 rfl) hs (by omega), ?_⟩
            simp only [Tree.goal, X.P, X.ev, V.toI_i, V.toB_b, V.toS_s, V.toR_r, V.toV_v, V.toN_n, V.toL_l, SV.ev, CV.ev, Sc.ev, List.getD_cons_zero, List.getD_cons_succ, List.getElem?_cons_zero, List.getElem?_cons_succ, List.map_cons, List.map_nil, List.length_cons, List.length_nil, List.cons_append, List.nil_append, Nat.zero_add, Nat.reduceAdd]
            refine ⟨[.b true], rfl, fun _ w' hr => c_ares w' _ _ (addR l p t n).1 (rawR l (p, t, n, 1)).1 _ _ (hr.at_ 10 rfl) (hr.at_ 2 rfl) (by omega) (by rw [hA]) (by rw [hA]; exact raw_nil _ _), ?_⟩
            simp only [Tree.goal, X.P, X.ev, V.toI_i, V.toB_b, V.toS_s, V.toR_r, V.toV_v, V.toN_n, V.toL_l, SV.ev, CV.ev, Sc.ev, List.getD_cons_zero, List.getD_cons_succ, List.getElem?_cons_zero, List.getElem?_cons_succ, List.map_cons, List.map_nil, List.length_cons, List.length_nil, List.cons_append, List.nil_append, Nat.zero_add, Nat.reduceAdd]
            refine ⟨[.b true], rfl, fun _ w' hr => c_ares w' _ _ (cancelR l p t).1 [] _ _ (hr.at_ 9 rfl) (owns.reads (hr.at_ 5 rfl)) (by omega) (by rw [hC]) (by rw [hC]; simp), ?_⟩
            simp only [Tree.goal, X.P, X.ev, V.toI_i, V.toB_b, V.toS_s, V.toR_r, V.toV_v, V.toN_n, V.toL_l, SV.ev, CV.ev, Sc.ev, List.getD_cons_zero, List.getD_cons_succ, List.getElem?_cons_zero, List.getElem?_cons_succ, List.map_cons, List.map_nil, List.length_cons, List.length_nil, List.cons_append, List.nil_append, Nat.zero_add, Nat.reduceAdd]
            refine ⟨[.b true], rfl, fun _ w' hr => c_ares w' _ _ (tellR l n).1 (toldL n l) _ _ (hr.at_ 7 rfl) (hr.at_ 0 rfl) (by omega) (by rw [hT]; exact h3.symm) (by rw [hT]; rw [if_pos h3]), ?_⟩
            simp only [Tree.goal, X.P, X.ev, V.toI_i, V.toB_b, V.toS_s, V.toR_r, V.toV_v, V.toN_n, V.toL_l, SV.ev, CV.ev, Sc.ev, List.getD_cons_zero, List.getD_cons_succ, List.getElem?_cons_zero, List.getElem?_cons_succ, List.map_cons, List.map_nil, List.length_cons, List.length_nil, List.cons_append, List.nil_append, Nat.zero_add, Nat.reduceAdd]
            refine ⟨[.b true], rfl, fun _ w' hr => c_ares w' _ _ (tellR l n).2.1 (theseL n l) _ _ (hr.at_ 8 rfl) (hr.at_ 1 rfl) (by omega) (by rw [hT]; exact h3.symm) (by rw [hT]; rw [if_pos h3]), ?_⟩
            simp only [Tree.goal, X.P, X.ev, V.toI_i, V.toB_b, V.toS_s, V.toR_r, V.toV_v, V.toN_n, V.toL_l, SV.ev, CV.ev, Sc.ev, List.getD_cons_zero, List.getD_cons_succ, List.getElem?_cons_zero, List.getElem?_cons_succ, List.map_cons, List.map_nil, List.length_cons, List.length_nil, List.cons_append, List.nil_append, Nat.zero_add, Nat.reduceAdd]
            refine ⟨[.b (freshP was now)], rfl, fun _ w' _ => c_IsFresh w' _ _ (by omega) (by omega), ?_⟩
            simp only [Tree.goal, X.P, X.ev, V.toI_i, V.toB_b, V.toS_s, V.toR_r, V.toV_v, V.toN_n, V.toL_l, SV.ev, CV.ev, Sc.ev, List.getD_cons_zero, List.getD_cons_succ, List.getElem?_cons_zero, List.getElem?_cons_succ, List.map_cons, List.map_nil, List.length_cons, List.length_nil, List.cons_append, List.nil_append, Nat.zero_add, Nat.reduceAdd]
            refine fun w' hr => ⟨?_, hr.mod⟩
            simp [fre_ok h4]
          · have hT : tellR l n = ([], [], chkT n false) := by rw [tellR, if_pos h0, if_neg h3]
            try simp only [dragomanlaw_WatchTells_16, Tree.goal, X.P, X.ev, V.toI_i, V.toB_b, V.toS_s, V.toR_r, V.toV_v, V.toN_n, V.toL_l, SV.ev, CV.ev, Sc.ev, List.getD_cons_zero, List.getD_cons_succ, List.getElem?_cons_zero, List.getElem?_cons_succ, List.map_cons, List.map_nil, List.length_cons, List.length_nil, List.cons_append, List.nil_append, Nat.zero_add, Nat.reduceAdd]
            refine ⟨[.b true], rfl, fun _ w' _ => c_watchBegun w', ?_⟩
            simp only [Tree.goal, X.P, X.ev, V.toI_i, V.toB_b, V.toS_s, V.toR_r, V.toV_v, V.toN_n, V.toL_l, SV.ev, CV.ev, Sc.ev, List.getD_cons_zero, List.getD_cons_succ, List.getElem?_cons_zero, List.getElem?_cons_succ, List.map_cons, List.map_nil, List.length_cons, List.length_nil, List.cons_append, List.nil_append, Nat.zero_add, Nat.reduceAdd]
            refine ⟨[.i (chkW l)], rfl, fun _ w' hr => c_CheckW w' v l (hr.at_ 9 rfl) hs (by omega), ?_⟩
            simp only [Tree.goal, X.P, X.ev, V.toI_i, V.toB_b, V.toS_s, V.toR_r, V.toV_v, V.toN_n, V.toL_l, SV.ev, CV.ev, Sc.ev, List.getD_cons_zero, List.getD_cons_succ, List.getElem?_cons_zero, List.getElem?_cons_succ, List.map_cons, List.map_nil, List.length_cons, List.length_nil, List.cons_append, List.nil_append, Nat.zero_add, Nat.reduceAdd]
            refine ⟨[.b true], rfl, fun _ w' hr => c_ares w' _ _ (addR l p t n).1 (rawR l (p, t, n, 1)).1 _ _ (hr.at_ 8 rfl) (hr.at_ 0 rfl) (by omega) (by rw [hA]) (by rw [hA]; exact raw_nil _ _), ?_⟩
            simp only [Tree.goal, X.P, X.ev, V.toI_i, V.toB_b, V.toS_s, V.toR_r, V.toV_v, V.toN_n, V.toL_l, SV.ev, CV.ev, Sc.ev, List.getD_cons_zero, List.getD_cons_succ, List.getElem?_cons_zero, List.getElem?_cons_succ, List.map_cons, List.map_nil, List.length_cons, List.length_nil, List.cons_append, List.nil_append, Nat.zero_add, Nat.reduceAdd]
            refine ⟨[.b true], rfl, fun _ w' hr => c_ares w' _ _ (cancelR l p t).1 [] _ _ (hr.at_ 7 rfl) (owns.reads (hr.at_ 3 rfl)) (by omega) (by rw [hC]) (by rw [hC]; simp), ?_⟩
            simp only [Tree.goal, X.P, X.ev, V.toI_i, V.toB_b, V.toS_s, V.toR_r, V.toV_v, V.toN_n, V.toL_l, SV.ev, CV.ev, Sc.ev, List.getD_cons_zero, List.getD_cons_succ, List.getElem?_cons_zero, List.getElem?_cons_succ, List.map_cons, List.map_nil, List.length_cons, List.length_nil, List.cons_append, List.nil_append, Nat.zero_add, Nat.reduceAdd]
            refine ⟨[.b true], rfl, fun _ w' hr => c_ares w' _ _ (tellR l n).1 [] _ _ (hr.at_ 5 rfl) (owns.reads (hr.at_ 2 rfl)) (by omega) (by rw [hT]) (by rw [hT]; simp), ?_⟩
            simp only [Tree.goal, X.P, X.ev, V.toI_i, V.toB_b, V.toS_s, V.toR_r, V.toV_v, V.toN_n, V.toL_l, SV.ev, CV.ev, Sc.ev, List.getD_cons_zero, List.getD_cons_succ, List.getElem?_cons_zero, List.getElem?_cons_succ, List.map_cons, List.map_nil, List.length_cons, List.length_nil, List.cons_append, List.nil_append, Nat.zero_add, Nat.reduceAdd]
            refine ⟨[.b true], rfl, fun _ w' hr => c_ares w' _ _ (tellR l n).2.1 [] _ _ (hr.at_ 6 rfl) (owns.reads (hr.at_ 1 rfl)) (by omega) (by rw [hT]) (by rw [hT]; simp), ?_⟩
            simp only [Tree.goal, X.P, X.ev, V.toI_i, V.toB_b, V.toS_s, V.toR_r, V.toV_v, V.toN_n, V.toL_l, SV.ev, CV.ev, Sc.ev, List.getD_cons_zero, List.getD_cons_succ, List.getElem?_cons_zero, List.getElem?_cons_succ, List.map_cons, List.map_nil, List.length_cons, List.length_nil, List.cons_append, List.nil_append, Nat.zero_add, Nat.reduceAdd]
            refine ⟨[.b (freshP was now)], rfl, fun _ w' _ => c_IsFresh w' _ _ (by omega) (by omega), ?_⟩
            simp only [Tree.goal, X.P, X.ev, V.toI_i, V.toB_b, V.toS_s, V.toR_r, V.toV_v, V.toN_n, V.toL_l, SV.ev, CV.ev, Sc.ev, List.getD_cons_zero, List.getD_cons_succ, List.getElem?_cons_zero, List.getElem?_cons_succ, List.map_cons, List.map_nil, List.length_cons, List.length_nil, List.cons_append, List.nil_append, Nat.zero_add, Nat.reduceAdd]
            refine fun w' hr => ⟨?_, hr.mod⟩
            simp [fre_ok h4]
      · have hA : addR l p t n = ([], oneE p t n) := by rw [addR, if_pos h0, if_neg h1]
        refine ⟨fun (h2 : oneE p t [97] = 0) => ?_, fun (h2 : ¬oneE p t [97] = 0) => ?_⟩
        · have hC : cancelR l p t = (filt p t l, 0) := by rw [cancel_one h0, if_pos h2]
          simp only [dragomanlaw_WatchTells_20, Tree.goal, X.P, X.ev, V.toI_i, V.toB_b, V.toS_s, V.toR_r, V.toV_v, V.toN_n, V.toL_l, SV.ev, CV.ev, Sc.ev, List.getD_cons_zero, List.getD_cons_succ, List.getElem?_cons_zero, List.getElem?_cons_succ, List.map_cons, List.map_nil, List.length_cons, List.length_nil, List.cons_append, List.nil_append, Nat.zero_add, Nat.reduceAdd]
          intro w1 hr
          refine (c_CancelOf w1 v l p t (hr.at_ 8 rfl) hl).mono ?_
          rintro e w2 ⟨u6, rfl, r1, f1, m1⟩
          refine ⟨[.v u6, .r ((filt p t l).map encW)], rfl, rfl, m1, List.forall_mem_nil _, List.forall_mem_cons.2 ⟨⟨r1, fun k hk => .inl (f1 k hk)⟩, List.forall_mem_nil _⟩, apart_one, ?_⟩
          try simp only [Tree.goal, X.P, X.ev, V.toI_i, V.toB_b, V.toS_s, V.toR_r, V.toV_v, V.toN_n, V.toL_l, SV.ev, CV.ev, Sc.ev, List.getD_cons_zero, List.getD_cons_succ, List.getElem?_cons_zero, List.getElem?_cons_succ, List.map_cons, List.map_nil, List.length_cons, List.length_nil, List.cons_append, List.nil_append, Nat.zero_add, Nat.reduceAdd]
          refine ⟨fun (h3 : chkT n false = 0) => ?_, fun (h3 : ¬chkT n false = 0) => ?_⟩
          · have hT : tellR l n = (toldL n l, theseL n l, 0) := by rw [tellR, if_pos h0, if_pos h3]
            simp only [dragomanlaw_WatchTells_18, Tree.goal, X.P, X.ev, V.toI_i, V.toB_b, V.toS_s, V.toR_r, V.toV_v, V.toN_n, V.toL_l, SV.ev, CV.ev, Sc.ev, List.getD_cons_zero, List.getD_cons_succ, List.getElem?_cons_zero, List.getElem?_cons_succ, List.map_cons, List.map_nil, List.length_cons, List.length_nil, List.cons_append, List.nil_append, Nat.zero_add, Nat.reduceAdd]
            intro w1 hr
            refine (c_TellOf w1 v l n (hr.at_ 9 rfl) hl (chkW_ok h0).2.1).mono ?_
            rintro e w2 ⟨u7, u8, rfl, o1, o2, f1, f2, m1⟩
            refine ⟨[.v u7, .r ((toldL n l).map encW), .v u8, .r ((theseL n l).map encW)], rfl, rfl, m1, List.forall_mem_nil _, List.forall_mem_cons.2 ⟨⟨owns.reads o1, fun k hk => .inl (f1 k hk.2)⟩, List.forall_mem_cons.2 ⟨⟨owns.reads o2, fun k hk => .inl (f2 k hk.2)⟩, List.forall_mem_nil _⟩⟩, apart_rd2, ?_⟩
            try simp only [Tree.goal, X.P, X.ev, V.toI_i, V.toB_b, V.toS_s, V.toR_r, V.toV_v, V.toN_n, V.toL_l, SV.ev, CV.ev, Sc.ev, List.getD_cons_zero, List.getD_cons_succ, List.getElem?_cons_zero, List.getElem?_cons_succ, List.map_cons, List.map_nil, List.length_cons, List.length_nil, List.cons_append, List.nil_append, Nat.zero_add, Nat.reduceAdd]
            refine ⟨[.b true], rfl, fun _ w' _ => c_watchBegun w', ?_⟩
            simp only [Tree.goal, X.P, X.ev, V.toI_i, V.toB_b, V.toS_s, V.toR_r, V.toV_v, V.toN_n, V.toL_l, SV.ev, CV.ev, Sc.ev, List.getD_cons_zero, List.getD_cons_succ, List.getElem?_cons_zero, List.getElem?_cons_succ, List.map_cons, List.map_nil, List.length_cons, List.length_nil, List.cons_append, List.nil_append, Nat.zero_add, Nat.reduceAdd]
            refine ⟨[.i (chkW l)], rfl, fun _ w' hr => c_CheckW w' v l (hr.at_ 11 rfl) hs (by omega), ?_⟩
            simp only [Tree.goal, X.P, X.ev, V.toI_i, V.toB_b, V.toS_s, V.toR_r, V.toV_v, V.toN_n, V.toL_l, SV.ev, CV.ev, Sc.ev, List.getD_cons_zero, List.getD_cons_succ, List.getElem?_cons_zero, List.getElem?_cons_succ, List.map_cons, List.map_nil, List.length_cons, List.length_nil, List.cons_append, List.nil_append, Nat.zero_add, Nat.reduceAdd]
            refine ⟨[.b true], rfl, fun _ w' hr => c_ares w' _ _ (addR l p t n).1 [] _ _ (hr.at_ 10 rfl) (owns.reads (hr.at_ 6 rfl)) (by omega) (by rw [hA]) (by rw [hA]; simp), ?_⟩
            simp only [Tree.goal, X.P, X.ev, V.toI_i, V.toB_b, V.toS_s, V.toR_r, V.toV_v, V.toN_n, V.toL_l, SV.ev, CV.ev, Sc.ev, List.getD_cons_zero, List.getD_cons_succ, List.getElem?_cons_zero, List.getElem?_cons_succ, List.map_cons, List.map_nil, List.length_cons, List.length_nil, List.cons_append, List.nil_append, Nat.zero_add, Nat.reduceAdd]
            refine ⟨[.b true], rfl, fun _ w' hr => c_ares w' _ _ (cancelR l p t).1 (filt p t l) _ _ (hr.at_ 9 rfl) (owns.reads (hr.at_ 2 rfl)) (by omega) (by rw [hC]; exact h2.symm) (by rw [hC]; rw [if_pos h2]), ?_⟩
            simp only [Tree.goal, X.P, X.ev, V.toI_i, V.toB_b, V.toS_s, V.toR_r, V.toV_v, V.toN_n, V.toL_l, SV.ev, CV.ev, Sc.ev, List.getD_cons_zero, List.getD_cons_succ, List.getElem?_cons_zero, List.getElem?_cons_succ, List.map_cons, List.map_nil, List.length_cons, List.length_nil, List.cons_append, List.nil_append, Nat.zero_add, Nat.reduceAdd]
            refine ⟨[.b true], rfl, fun _ w' hr => c_ares w' _ _ (tellR l n).1 (toldL n l) _ _ (hr.at_ 7 rfl) (hr.at_ 0 rfl) (by omega) (by rw [hT]; exact h3.symm) (by rw [hT]; rw [if_pos h3]), ?_⟩
            simp only [Tree.goal, X.P, X.ev, V.toI_i, V.toB_b, V.toS_s, V.toR_r, V.toV_v, V.toN_n, V.toL_l, SV.ev, CV.ev, Sc.ev, List.getD_cons_zero, List.getD_cons_succ, List.getElem?_cons_zero, List.getElem?_cons_succ, List.map_cons, List.map_nil, List.length_cons, List.length_nil, List.cons_append, List.nil_append, Nat.zero_add, Nat.reduceAdd]
            refine ⟨[.b true], rfl, fun _ w' hr => c_ares w' _ _ (tellR l n).2.1 (theseL n l) _ _ (hr.at_ 8 rfl) (hr.at_ 1 rfl) (by omega) (by rw [hT]; exact h3.symm) (by rw [hT]; rw [if_pos h3]), ?_⟩
            simp only [Tree.goal, X.P, X.ev, V.toI_i, V.toB_b, V.toS_s, V.toR_r, V.toV_v, V.toN_n, V.toL_l, SV.ev, CV.ev, Sc.ev, List.getD_cons_zero, List.getD_cons_succ, List.getElem?_cons_zero, List.getElem?_cons_succ, List.map_cons, List.map_nil, List.length_cons, List.length_nil, List.cons_append, List.nil_append, Nat.zero_add, Nat.reduceAdd]
            refine ⟨[.b (freshP was now)], rfl, fun _ w' _ => c_IsFresh w' _ _ (by omega) (by omega), ?_⟩
            simp only [Tree.goal, X.P, X.ev, V.toI_i, V.toB_b, V.toS_s, V.toR_r, V.toV_v, V.toN_n, V.toL_l, SV.ev, CV.ev, Sc.ev, List.getD_cons_zero, List.getD_cons_succ, List.getElem?_cons_zero, List.getElem?_cons_succ, List.map_cons, List.map_nil, List.length_cons, List.length_nil, List.cons_append, List.nil_append, Nat.zero_add, Nat.reduceAdd]
            refine fun w' hr => ⟨?_, hr.mod⟩
            simp [fre_ok h4]
          · have hT : tellR l n = ([], [], chkT n false) := by rw [tellR, if_pos h0, if_neg h3]
            try simp only [dragomanlaw_WatchTells_19, Tree.goal, X.P, X.ev, V.toI_i, V.toB_b, V.toS_s, V.toR_r, V.toV_v, V.toN_n, V.toL_l, SV.ev, CV.ev, Sc.ev, List.getD_cons_zero, List.getD_cons_succ, List.getElem?_cons_zero, List.getElem?_cons_succ, List.map_cons, List.map_nil, List.length_cons, List.length_nil, List.cons_append, List.nil_append, Nat.zero_add, Nat.reduceAdd]
            refine ⟨[.b true], rfl, fun _ w' _ => c_watchBegun w', ?_⟩
            simp only [Tree.goal, X.P, X.ev, V.toI_i, V.toB_b, V.toS_s, V.toR_r, V.toV_v, V.toN_n, V.toL_l, SV.ev, CV.ev, Sc.ev, List.getD_cons_zero, List.getD_cons_succ, List.getElem?_cons_zero, List.getElem?_cons_succ, List.map_cons, List.map_nil, List.length_cons, List.length_nil, List.cons_append, List.nil_append, Nat.zero_add, Nat.reduceAdd]
            refine ⟨[.i (chkW l)], rfl, fun _ w' hr => c_CheckW w' v l (hr.at_ 9 rfl) hs (by omega), ?_⟩
            simp only [Tree.goal, X.P, X.ev, V.toI_i, V.toB_b, V.toS_s, V.toR_r, V.toV_v, V.toN_n, V.toL_l, SV.ev, CV.ev, Sc.ev, List.getD_cons_zero, List.getD_cons_succ, List.getElem?_cons_zero, List.getElem?_cons_succ, List.map_cons, List.map_nil, List.length_cons, List.length_nil, List.cons_append, List.nil_append, Nat.zero_add, Nat.reduceAdd]
            refine ⟨[.b true], rfl, fun _ w' hr => c_ares w' _ _ (addR l p t n).1 [] _ _ (hr.at_ 8 rfl) (owns.reads (hr.at_ 4 rfl)) (by omega) (by rw [hA]) (by rw [hA]; simp), ?_⟩
            simp only [Tree.goal, X.P, X.ev, V.toI_i, V.toB_b, V.toS_s, V.toR_r, V.toV_v, V.toN_n, V.toL_l, SV.ev, CV.ev, Sc.ev, List.getD_cons_zero, List.getD_cons_succ, List.getElem?_cons_zero, List.getElem?_cons_succ, List.map_cons, List.map_nil, List.length_cons, List.length_nil, List.cons_append, List.nil_append, Nat.zero_add, Nat.reduceAdd]
            refine ⟨[.b true], rfl, fun _ w' hr => c_ares w' _ _ (cancelR l p t).1 (filt p t l) _ _ (hr.at_ 7 rfl) (owns.reads (hr.at_ 0 rfl)) (by omega) (by rw [hC]; exact h2.symm) (by rw [hC]; rw [if_pos h2]), ?_⟩
            simp only [Tree.goal, X.P, X.ev, V.toI_i, V.toB_b, V.toS_s, V.toR_r, V.toV_v, V.toN_n, V.toL_l, SV.ev, CV.ev, Sc.ev, List.getD_cons_zero, List.getD_cons_succ, List.getElem?_cons_zero, List.getElem?_cons_succ, List.map_cons, List.map_nil, List.length_cons, List.length_nil, List.cons_append, List.nil_append, Nat.zero_add, Nat.reduceAdd]
            refine ⟨[.b true], rfl, fun _ w' hr => c_ares w' _ _ (tellR l n).1 [] _ _ (hr.at_ 5 rfl) (owns.reads (hr.at_ 2 rfl)) (by omega) (by rw [hT]) (by rw [hT]; simp), ?_⟩
            simp only [Tree.goal, X.P, X.ev, V.toI_i, V.toB_b, V.toS_s, V.toR_r, V.toV_v, V.toN_n, V.toL_l, SV.ev, CV.ev, Sc.ev, List.getD_cons_zero, List.getD_cons_succ, List.getElem?_cons_zero, List.getElem?_cons_succ, List.map_cons, List.map_nil, List.length_cons, List.length_nil, List.cons_append, List.nil_append, Nat.zero_add, Nat.reduceAdd]
            refine ⟨[.b true], rfl, fun _ w' hr => c_ares w' _ _ (tellR l n).2.1 [] _ _ (hr.at_ 6 rfl) (owns.reads (hr.at_ 1 rfl)) (by omega) (by rw [hT]) (by rw [hT]; simp), ?_⟩
            simp only [Tree.goal, X.P, X.ev, V.toI_i, V.toB_b, V.toS_s, V.toR_r, V.toV_v, V.toN_n, V.toL_l, SV.ev, CV.ev, Sc.ev, List.getD_cons_zero, List.getD_cons_succ, List.getElem?_cons_zero, List.getElem?_cons_succ, List.map_cons, List.map_nil, List.length_cons, List.length_nil, List.cons_append, List.nil_append, Nat.zero_add, Nat.reduceAdd]
            refine ⟨[.b (freshP was now)], rfl, fun _ w' _ => c_IsFresh w' _ _ (by omega) (by omega), ?_⟩
            simp only [Tree.goal, X.P, X.ev, V.toI_i, V.toB_b, V.toS_s, V.toR_r, V.toV_v, V.toN_n, V.toL_l, SV.ev, CV.ev, Sc.ev, List.getD_cons_zero, List.getD_cons_succ, List.getElem?_cons_zero, List.getElem?_cons_succ, List.map_cons, List.map_nil, List.length_cons, List.length_nil, List.cons_append, List.nil_append, Nat.zero_add, Nat.reduceAdd]
            refine fun w' hr => ⟨?_, hr.mod⟩
            simp [fre_ok h4]
        · have hC : cancelR l p t = ([], oneE p t [97]) := by rw [cancel_one h0, if_neg h2]
          refine ⟨fun (h3 : chkT n false = 0) => ?_, fun (h3 : ¬chkT n false = 0) => ?_⟩
          · have hT : tellR l n = (toldL n l, theseL n l, 0) := by rw [tellR, if_pos h0, if_pos h3]
            simp only [dragomanlaw_WatchTells_21, Tree.goal, X.P, X.ev, V.toI_i, V.toB_b, V.toS_s, V.toR_r, V.toV_v, V.toN_n, V.toL_l, SV.ev, CV.ev, Sc.ev, List.getD_cons_zero, List.getD_cons_succ, List.getElem?_cons_zero, List.getElem?_cons_succ, List.map_cons, List.map_nil, List.length_cons, List.length_nil, List.cons_append, List.nil_append, Nat.zero_add, Nat.reduceAdd]
            intro w1 hr
            refine (c_TellOf w1 v l n (hr.at_ 8 rfl) hl (chkW_ok h0).2.1).mono ?_
            rintro e w2 ⟨u7, u8, rfl, o1, o2, f1, f2, m1⟩
            refine ⟨[.v u7, .r ((toldL n l).map encW), .v u8, .r ((theseL n l).map encW)], rfl, rfl, m1, List.forall_mem_nil _, List.forall_mem_cons.2 ⟨⟨owns.reads o1, fun k hk => .inl (f1 k hk.2)⟩, List.forall_mem_cons.2 ⟨⟨owns.reads o2, fun k hk => .inl (f2 k hk.2)⟩, List.forall_mem_nil _⟩⟩, apart_rd2, ?_⟩
            try simp only [Tree.goal, X.P, X.ev, V.toI_i, V.toB_b, V.toS_s, V.toR_r, V.toV_v, V.toN_n, V.toL_l, SV.ev, CV.ev, Sc.ev, List.getD_cons_zero, List.getD_cons_succ, List.getElem?_cons_zero, List.getElem?_cons_succ, List.map_cons, List.map_nil, List.length_cons, List.length_nil, List.cons_append, List.nil_append, Nat.zero_add, Nat.reduceAdd]
            refine ⟨[.b true], rfl, fun _ w' _ => c_watchBegun w', ?_⟩
            simp only [Tree.goal, X.P, X.ev, V.toI_i, V.toB_b, V.toS_s, V.toR_r, V.toV_v, V.toN_n, V.toL_l, SV.ev, CV.ev, Sc.ev, List.getD_cons_zero, List.getD_cons_succ, List.getElem?_cons_zero, List.getElem?_cons_succ, List.map_cons, List.map_nil, List.length_cons, List.length_nil, List.cons_append, List.nil_append, Nat.zero_add, Nat.reduceAdd]
            refine ⟨[.i (chkW l)], rfl, fun _ w' hr => c_CheckW w' v l (hr.at_ 10 rfl) hs (by omega), ?_⟩
            simp only [Tree.goal, X.P, X.ev, V.toI_i, V.toB_b, V.toS_s, V.toR_r, V.toV_v, V.toN_n, V.toL_l, SV.ev, CV.ev, Sc.ev, List.getD_cons_zero, List.getD_cons_succ, List.getElem?_cons_zero, List.getElem?_cons_succ, List.map_cons, List.map_nil, List.length_cons, List.length_nil, List.cons_append, List.nil_append, Nat.zero_add, Nat.reduceAdd]
            refine ⟨[.b true], rfl, fun _ w' hr => c_ares w' _ _ (addR l p t n).1 [] _ _ (hr.at_ 9 rfl) (owns.reads (hr.at_ 5 rfl)) (by omega) (by rw [hA]) (by rw [hA]; simp), ?_⟩
            simp only [Tree.goal, X.P, X.ev, V.toI_i, V.toB_b, V.toS_s, V.toR_r, V.toV_v, V.toN_n, V.toL_l, SV.ev, CV.ev, Sc.ev, List.getD_cons_zero, List.getD_cons_succ, List.getElem?_cons_zero, List.getElem?_cons_succ, List.map_cons, List.map_nil, List.length_cons, List.length_nil, List.cons_append, List.nil_append, Nat.zero_add, Nat.reduceAdd]
            refine ⟨[.b true], rfl, fun _ w' hr => c_ares w' _ _ (cancelR l p t).1 [] _ _ (hr.at_ 8 rfl) (owns.reads (hr.at_ 4 rfl)) (by omega) (by rw [hC]) (by rw [hC]; simp), ?_⟩
            simp only [Tree.goal, X.P, X.ev, V.toI_i, V.toB_b, V.toS_s, V.toR_r, V.toV_v, V.toN_n, V.toL_l, SV.ev, CV.ev, Sc.ev, List.getD_cons_zero, List.getD_cons_succ, List.getElem?_cons_zero, List.getElem?_cons_succ, List.map_cons, List.map_nil, List.length_cons, List.length_nil, List.cons_append, List.nil_append, Nat.zero_add, Nat.reduceAdd]
            refine ⟨[.b true], rfl, fun _ w' hr => c_ares w' _ _ (tellR l n).1 (toldL n l) _ _ (hr.at_ 6 rfl) (hr.at_ 0 rfl) (by omega) (by rw [hT]; exact h3.symm) (by rw [hT]; rw [if_pos h3]), ?_⟩
            simp only [Tree.goal, X.P, X.ev, V.toI_i, V.toB_b, V.toS_s, V.toR_r, V.toV_v, V.toN_n, V.toL_l, SV.ev, CV.ev, Sc.ev, List.getD_cons_zero, List.getD_cons_succ, List.getElem?_cons_zero, List.getElem?_cons_succ, List.map_cons, List.map_nil, List.length_cons, List.length_nil, List.cons_append, List.nil_append, Nat.zero_add, Nat.reduceAdd]
            refine ⟨[.b true], rfl, fun _ w' hr => c_ares w' _ _ (tellR l n).2.1 (theseL n l) _ _ (hr.at_ 7 rfl) (hr.at_ 1 rfl) (by omega) (by rw [hT]; exact h3.symm) (by rw [hT]; rw [if_pos h3]), ?_⟩
            simp only [Tree.goal, X.P, X.ev, V.toI_i, V.toB_b, V.toS_s, V.toR_r, V.toV_v, V.toN_n, V.toL_l, SV.ev, CV.ev, Sc.ev, List.getD_cons_zero, List.getD_cons_succ, List.getElem?_cons_zero, List.getElem?_cons_succ, List.map_cons, List.map_nil, List.length_cons, List.length_nil, List.cons_append, List.nil_append, Nat.zero_add, Nat.reduceAdd]
            refine ⟨[.b (freshP was now)], rfl, fun _ w' _ => c_IsFresh w' _ _ (by omega) (by omega), ?_⟩
            simp only [Tree.goal, X.P, X.ev, V.toI_i, V.toB_b, V.toS_s, V.toR_r, V.toV_v, V.toN_n, V.toL_l, SV.ev, CV.ev, Sc.ev, List.getD_cons_zero, List.getD_cons_succ, List.getElem?_cons_zero, List.getElem?_cons_succ, List.map_cons, List.map_nil, List.length_cons, List.length_nil, List.cons_append, List.nil_append, Nat.zero_add, Nat.reduceAdd]
            refine fun w' hr => ⟨?_, hr.mod⟩
            simp [fre_ok h4]
          · have hT : tellR l n = ([], [], chkT n false) := by rw [tellR, if_pos h0, if_neg h3]
            try simp only [dragomanlaw_WatchTells_22, Tree.goal, X.P, X.ev, V.toI_i, V.toB_b, V.toS_s, V.toR_r, V.toV_v, V.toN_n, V.toL_l, SV.ev, CV.ev, Sc.ev, List.getD_cons_zero, List.getD_cons_succ, List.getElem?_cons_zero, List.getElem?_cons_succ, List.map_cons, List.map_nil, List.length_cons, List.length_nil, List.cons_append, List.nil_append, Nat.zero_add, Nat.reduceAdd]
            refine ⟨[.b true], rfl, fun _ w' _ => c_watchBegun w', ?_⟩
            simp only [Tree.goal, X.P, X.ev, V.toI_i, V.toB_b, V.toS_s, V.toR_r, V.toV_v, V.toN_n, V.toL_l, SV.ev, CV.ev, Sc.ev, List.getD_cons_zero, List.getD_cons_succ, List.getElem?_cons_zero, List.getElem?_cons_succ, List.map_cons, List.map_nil, List.length_cons, List.length_nil, List.cons_append, List.nil_append, Nat.zero_add, Nat.reduceAdd]
            refine ⟨[.i (chkW l)], rfl, fun _ w' hr => c_CheckW w' v l (hr.at_ 8 rfl) hs (by omega), ?_⟩
            simp only [Tree.goal, X.P, X.ev, V.toI_i, V.toB_b, V.toS_s, V.toR_r, V.toV_v, V.toN_n, V.toL_l, SV.ev, CV.ev, Sc.ev, List.getD_cons_zero, List.getD_cons_succ, List.getElem?_cons_zero, List.getElem?_cons_succ, List.map_cons, List.map_nil, List.length_cons, List.length_nil, List.cons_append, List.nil_append, Nat.zero_add, Nat.reduceAdd]
            refine ⟨[.b true], rfl, fun _ w' hr => c_ares w' _ _ (addR l p t n).1 [] _ _ (hr.at_ 7 rfl) (owns.reads (hr.at_ 3 rfl)) (by omega) (by rw [hA]) (by rw [hA]; simp), ?_⟩
            simp only [Tree.goal, X.P, X.ev, V.toI_i, V.toB_b, V.toS_s, V.toR_r, V.toV_v, V.toN_n, V.toL_l, SV.ev, CV.ev, Sc.ev, List.getD_cons_zero, List.getD_cons_succ, List.getElem?_cons_zero, List.getElem?_cons_succ, List.map_cons, List.map_nil, List.length_cons, List.length_nil, List.cons_append, List.nil_append, Nat.zero_add, Nat.reduceAdd]
            refine ⟨[.b true], rfl, fun _ w' hr => c_ares w' _ _ (cancelR l p t).1 [] _ _ (hr.at_ 6 rfl) (owns.reads (hr.at_ 2 rfl)) (by omega) (by rw [hC]) (by rw [hC]; simp), ?_⟩
            simp only [Tree.goal, X.P, X.ev, V.toI_i, V.toB_b, V.toS_s, V.toR_r, V.toV_v, V.toN_n, V.toL_l, SV.ev, CV.ev, Sc.ev, List.getD_cons_zero, List.getD_cons_succ, List.getElem?_cons_zero, List.getElem?_cons_succ, List.map_cons, List.map_nil, List.length_cons, List.length_nil, List.cons_append, List.nil_append, Nat.zero_add, Nat.reduceAdd]
            refine ⟨[.b true], rfl, fun _ w' hr => c_ares w' _ _ (tellR l n).1 [] _ _ (hr.at_ 4 rfl) (owns.reads (hr.at_ 1 rfl)) (by omega) (by rw [hT]) (by rw [hT]; simp), ?_⟩
            simp only [Tree.goal, X.P, X.ev, V.toI_i, V.toB_b, V.toS_s, V.toR_r, V.toV_v, V.toN_n, V.toL_l, SV.ev, CV.ev, Sc.ev, List.getD_cons_zero, List.getD_cons_succ, List.getElem?_cons_zero, List.getElem?_cons_succ, List.map_cons, List.map_nil, List.length_cons, List.length_nil, List.cons_append, List.nil_append, Nat.zero_add, Nat.reduceAdd]
            refine ⟨[.b true], rfl, fun _ w' hr => c_ares w' _ _ (tellR l n).2.1 [] _ _ (hr.at_ 5 rfl) (owns.reads (hr.at_ 0 rfl)) (by omega) (by rw [hT]) (by rw [hT]; simp), ?_⟩
            simp only [Tree.goal, X.P, X.ev, V.toI_i, V.toB_b, V.toS_s, V.toR_r, V.toV_v, V.toN_n, V.toL_l, SV.ev, CV.ev, Sc.ev, List.getD_cons_zero, List.getD_cons_succ, List.getElem?_cons_zero, List.getElem?_cons_succ, List.map_cons, List.map_nil, List.length_cons, List.length_nil, List.cons_append, List.nil_append, Nat.zero_add, Nat.reduceAdd]
            refine ⟨[.b (freshP was now)], rfl, fun _ w' _ => c_IsFresh w' _ _ (by omega) (by omega), ?_⟩
            simp only [Tree.goal, X.P, X.ev, V.toI_i, V.toB_b, V.toS_s, V.toR_r, V.toV_v, V.toN_n, V.toL_l, SV.ev, CV.ev, Sc.ev, List.getD_cons_zero, List.getD_cons_succ, List.getElem?_cons_zero, List.getElem?_cons_succ, List.map_cons, List.map_nil, List.length_cons, List.length_nil, List.cons_append, List.nil_append, Nat.zero_add, Nat.reduceAdd]
            refine fun w' hr => ⟨?_, hr.mod⟩
            simp [fre_ok h4]
  · have hA : addR l p t n = ([], chkW l) := by rw [addR, if_neg h0]
    have hC : cancelR l p t = ([], chkW l) := by rw [cancelR, if_neg h0]
    have hT : tellR l n = ([], [], chkW l) := by rw [tellR, if_neg h0]
    refine ⟨fun (h4 : ((was < 0 ∨ 16777215 < was) ∨ now < 0) ∨ 16777215 < now) => ?_, fun (h4 : ¬(((was < 0 ∨ 16777215 < was) ∨ now < 0) ∨ 16777215 < now)) => ?_⟩
    · skip
      try simp only [dragomanlaw_WatchTells_24, Tree.goal, X.P, X.ev, V.toI_i, V.toB_b, V.toS_s, V.toR_r, V.toV_v, V.toN_n, V.toL_l, SV.ev, CV.ev, Sc.ev, List.getD_cons_zero, List.getD_cons_succ, List.getElem?_cons_zero, List.getElem?_cons_succ, List.map_cons, List.map_nil, List.length_cons, List.length_nil, List.cons_append, List.nil_append, Nat.zero_add, Nat.reduceAdd]
      refine ⟨[.b true], rfl, fun _ w' _ => c_watchBegun w', ?_⟩
      simp only [Tree.goal, X.P, X.ev, V.toI_i, V.toB_b, V.toS_s, V.toR_r, V.toV_v, V.toN_n, V.toL_l, SV.ev, CV.ev, Sc.ev, List.getD_cons_zero, List.getD_cons_succ, List.getElem?_cons_zero, List.getElem?_cons_succ, List.map_cons, List.map_nil, List.length_cons, List.length_nil, List.cons_append, List.nil_append, Nat.zero_add, Nat.reduceAdd]
      refine ⟨[.i (chkW l)], rfl, fun _ w' hr => c_CheckW w' v l (hr.at_ 8 rfl) hs (by omega), ?_⟩
      simp only [Tree.goal, X.P, X.ev, V.toI_i, V.toB_b, V.toS_s, V.toR_r, V.toV_v, V.toN_n, V.toL_l, SV.ev, CV.ev, Sc.ev, List.getD_cons_zero, List.getD_cons_succ, List.getElem?_cons_zero, List.getElem?_cons_succ, List.map_cons, List.map_nil, List.length_cons, List.length_nil, List.cons_append, List.nil_append, Nat.zero_add, Nat.reduceAdd]
      refine ⟨[.b true], rfl, fun _ w' hr => c_ares w' _ _ (addR l p t n).1 [] _ _ (hr.at_ 7 rfl) (owns.reads (hr.at_ 3 rfl)) (by omega) (by rw [hA]) (by rw [hA]; simp), ?_⟩
      simp only [Tree.goal, X.P, X.ev, V.toI_i, V.toB_b, V.toS_s, V.toR_r, V.toV_v, V.toN_n, V.toL_l, SV.ev, CV.ev, Sc.ev, List.getD_cons_zero, List.getD_cons_succ, List.getElem?_cons_zero, List.getElem?_cons_succ, List.map_cons, List.map_nil, List.length_cons, List.length_nil, List.cons_append, List.nil_append, Nat.zero_add, Nat.reduceAdd]
      refine ⟨[.b true], rfl, fun _ w' hr => c_ares w' _ _ (cancelR l p t).1 [] _ _ (hr.at_ 6 rfl) (owns.reads (hr.at_ 2 rfl)) (by omega) (by rw [hC]) (by rw [hC]; simp), ?_⟩
      simp only [Tree.goal, X.P, X.ev, V.toI_i, V.toB_b, V.toS_s, V.toR_r, V.toV_v, V.toN_n, V.toL_l, SV.ev, CV.ev, Sc.ev, List.getD_cons_zero, List.getD_cons_succ, List.getElem?_cons_zero, List.getElem?_cons_succ, List.map_cons, List.map_nil, List.length_cons, List.length_nil, List.cons_append, List.nil_append, Nat.zero_add, Nat.reduceAdd]
      refine ⟨[.b true], rfl, fun _ w' hr => c_ares w' _ _ (tellR l n).1 [] _ _ (hr.at_ 4 rfl) (owns.reads (hr.at_ 1 rfl)) (by omega) (by rw [hT]) (by rw [hT]; simp), ?_⟩
      simp only [Tree.goal, X.P, X.ev, V.toI_i, V.toB_b, V.toS_s, V.toR_r, V.toV_v, V.toN_n, V.toL_l, SV.ev, CV.ev, Sc.ev, List.getD_cons_zero, List.getD_cons_succ, List.getElem?_cons_zero, List.getElem?_cons_succ, List.map_cons, List.map_nil, List.length_cons, List.length_nil, List.cons_append, List.nil_append, Nat.zero_add, Nat.reduceAdd]
      refine ⟨[.b true], rfl, fun _ w' hr => c_ares w' _ _ (tellR l n).2.1 [] _ _ (hr.at_ 5 rfl) (owns.reads (hr.at_ 0 rfl)) (by omega) (by rw [hT]) (by rw [hT]; simp), ?_⟩
      simp only [Tree.goal, X.P, X.ev, V.toI_i, V.toB_b, V.toS_s, V.toR_r, V.toV_v, V.toN_n, V.toL_l, SV.ev, CV.ev, Sc.ev, List.getD_cons_zero, List.getD_cons_succ, List.getElem?_cons_zero, List.getElem?_cons_succ, List.map_cons, List.map_nil, List.length_cons, List.length_nil, List.cons_append, List.nil_append, Nat.zero_add, Nat.reduceAdd]
      refine ⟨[.b true], rfl, fun hg => absurd hg.2 (by decide), ?_⟩
      simp only [Tree.goal, X.P, X.ev, V.toI_i, V.toB_b, V.toS_s, V.toR_r, V.toV_v, V.toN_n, V.toL_l, SV.ev, CV.ev, Sc.ev, List.getD_cons_zero, List.getD_cons_succ, List.getElem?_cons_zero, List.getElem?_cons_succ, List.map_cons, List.map_nil, List.length_cons, List.length_nil, List.cons_append, List.nil_append, Nat.zero_add, Nat.reduceAdd]
      refine fun w' hr => ⟨?_, hr.mod⟩
      simp [fre_bad h4]
    · skip
      try simp only [dragomanlaw_WatchTells_25, Tree.goal, X.P, X.ev, V.toI_i, V.toB_b, V.toS_s, V.toR_r, V.toV_v, V.toN_n, V.toL_l, SV.ev, CV.ev, Sc.ev, List.getD_cons_zero, List.getD_cons_succ, List.getElem?_cons_zero, List.getElem?_cons_succ, List.map_cons, List.map_nil, List.length_cons, List.length_nil, List.cons_append, List.nil_append, Nat.zero_add, Nat.reduceAdd]
      refine ⟨[.b true], rfl, fun _ w' _ => c_watchBegun w', ?_⟩
      simp only [Tree.goal, X.P, X.ev, V.toI_i, V.toB_b, V.toS_s, V.toR_r, V.toV_v, V.toN_n, V.toL_l, SV.ev, CV.ev, Sc.ev, List.getD_cons_zero, List.getD_cons_succ, List.getElem?_cons_zero, List.getElem?_cons_succ, List.map_cons, List.map_nil, List.length_cons, List.length_nil, List.cons_append, List.nil_append, Nat.zero_add, Nat.reduceAdd]
      refine ⟨[.i (chkW l)], rfl, fun _ w' hr => c_CheckW w' v l (hr.at_ 8 rfl) hs (by omega), ?_⟩
      simp only [Tree.goal, X.P, X.ev, V.toI_i, V.toB_b, V.toS_s, V.toR_r, V.toV_v, V.toN_n, V.toL_l, SV.ev, CV.ev, Sc.ev, List.getD_cons_zero, List.getD_cons_succ, List.getElem?_cons_zero, List.getElem?_cons_succ, List.map_cons, List.map_nil, List.length_cons, List.length_nil, List.cons_append, List.nil_append, Nat.zero_add, Nat.reduceAdd]
      refine ⟨[.b true], rfl, fun _ w' hr => c_ares w' _ _ (addR l p t n).1 [] _ _ (hr.at_ 7 rfl) (owns.reads (hr.at_ 3 rfl)) (by omega) (by rw [hA]) (by rw [hA]; simp), ?_⟩
      simp only [Tree.goal, X.P, X.ev, V.toI_i, V.toB_b, V.toS_s, V.toR_r, V.toV_v, V.toN_n, V.toL_l, SV.ev, CV.ev, Sc.ev, List.getD_cons_zero, List.getD_cons_succ, List.getElem?_cons_zero, List.getElem?_cons_succ, List.map_cons, List.map_nil, List.length_cons, List.length_nil, List.cons_append, List.nil_append, Nat.zero_add, Nat.reduceAdd]
      refine ⟨[.b true], rfl, fun _ w' hr => c_ares w' _ _ (cancelR l p t).1 [] _ _ (hr.at_ 6 rfl) (owns.reads (hr.at_ 2 rfl)) (by omega) (by rw [hC]) (by rw [hC]; simp), ?_⟩
      simp only [Tree.goal, X.P, X.ev, V.toI_i, V.toB_b, V.toS_s, V.toR_r, V.toV_v, V.toN_n, V.toL_l, SV.ev, CV.ev, Sc.ev, List.getD_cons_zero, List.getD_cons_succ, List.getElem?_cons_zero, List.getElem?_cons_succ, List.map_cons, List.map_nil, List.length_cons, List.length_nil, List.cons_append, List.nil_append, Nat.zero_add, Nat.reduceAdd]
      refine ⟨[.b true], rfl, fun _ w' hr => c_ares w' _ _ (tellR l n).1 [] _ _ (hr.at_ 4 rfl) (owns.reads (hr.at_ 1 rfl)) (by omega) (by rw [hT]) (by rw [hT]; simp), ?_⟩
      simp only [Tree.goal, X.P, X.ev, V.toI_i, V.toB_b, V.toS_s, V.toR_r, V.toV_v, V.toN_n, V.toL_l, SV.ev, CV.ev, Sc.ev, List.getD_cons_zero, List.getD_cons_succ, List.getElem?_cons_zero, List.getElem?_cons_succ, List.map_cons, List.map_nil, List.length_cons, List.length_nil, List.cons_append, List.nil_append, Nat.zero_add, Nat.reduceAdd]
      refine ⟨[.b true], rfl, fun _ w' hr => c_ares w' _ _ (tellR l n).2.1 [] _ _ (hr.at_ 5 rfl) (owns.reads (hr.at_ 0 rfl)) (by omega) (by rw [hT]) (by rw [hT]; simp), ?_⟩
      simp only [Tree.goal, X.P, X.ev, V.toI_i, V.toB_b, V.toS_s, V.toR_r, V.toV_v, V.toN_n, V.toL_l, SV.ev, CV.ev, Sc.ev, List.getD_cons_zero, List.getD_cons_succ, List.getElem?_cons_zero, List.getElem?_cons_succ, List.map_cons, List.map_nil, List.length_cons, List.length_nil, List.cons_append, List.nil_append, Nat.zero_add, Nat.reduceAdd]
      refine ⟨[.b (freshP was now)], rfl, fun _ w' _ => c_IsFresh w' _ _ (by omega) (by omega), ?_⟩
      simp only [Tree.goal, X.P, X.ev, V.toI_i, V.toB_b, V.toS_s, V.toR_r, V.toV_v, V.toN_n, V.toL_l, SV.ev, CV.ev, Sc.ev, List.getD_cons_zero, List.getD_cons_succ, List.getElem?_cons_zero, List.getElem?_cons_succ, List.map_cons, List.map_nil, List.length_cons, List.length_nil, List.cons_append, List.nil_append, Nat.zero_add, Nat.reduceAdd]
      refine fun w' hr => ⟨?_, hr.mod⟩
      simp [fre_ok h4]
end Go.Proofs.YtkalmhdckoocbaaDoor
