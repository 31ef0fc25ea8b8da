/-
  Sessions: what was sent is there till it has landed: the law SessionHolds, walked. By an AI agent.
-/
import Derived.Test.YtcbkkjbgacjncaaDoorZ13
import Derived.Test.YtcbkkjbgacjncaaDoorZ14
import Derived.Test.YtcbkkjbgacjncaaDoorZ07
set_option linter.unusedSimpArgs false
set_option linter.unusedVariables false
namespace Go.Proofs.YtcbkkjbgacjncaaDoor
open Go Go.Sx

def encI (n : Int) : List Value := [.int .i64 n]
theorem gI_encI (l : List Int) (i : Nat) : Value.gI (((l.map encI).getD i []).getD 0 undef) = l.getD i 0 := by
  simp only [List.getD_eq_getElem?_getD, List.getElem?_map]
  cases l[i]? <;> simp [encI, Value.gI, undef]
abbrev readsN (w : World) (v : Value) (l : List Int) : Prop := reads w v [.int .i64] (l.map encI)
/-- A session of the law, between its steps. -/
structure Hq (clean : Bool) (s : Ses) : Prop where
  ok : SesOk s
  on : s.on = true
  cn : s.clean = clean
  cl : s.cl = [97, 110, 110]
theorem flE_small {f : Fl} (h : flE f = 0) : f.2.1.length < 4294967281 := by
  unfold flE at h
  split at h
  · obtain ⟨-, ⟨b2, b3⟩, -, -⟩ := chkT_ok.1 (by assumption)
    omega
  · exact absurd h (by assumption)
theorem Hq.sf {c : Bool} {s : Ses} (h : Hq c s) : smallF s.fl ∧ smallF s.qu := ⟨fun x hx => flE_small (h.ok.fl.each x hx).1, fun x hx => flE_small (h.ok.qu x hx).1⟩
theorem Hq.lt {c : Bool} {s : Ses} (h : Hq c s) : (there s).length ≤ 9 := by
  have := h.ok.nf
  have := h.ok.nq
  simp only [there, List.length_append, List.length_map]
  omega
def sH (clean : Bool) : Ses := ⟨[97, 110, 110], true, clean, [], [], 1⟩
theorem Hq.first (clean : Bool) : Hq clean (sH clean) := ⟨⟨by cases clean <;> decide, Nat.zero_le _, Nat.zero_le _, .nil, by simp [sH], ⟨by simp [sH], by simp [sH]⟩, fun h => by simp [sH] at h, fun h => by simp [sH]⟩, rfl, rfl, rfl⟩
theorem Hq.len {c : Bool} {s : Ses} (h : Hq c s) : s.fl.length < 1000000000 ∧ s.qu.length < 1000000000 ∧ s.cl.length < 1099511627776 := by
  have := h.ok.nf
  have := h.ok.nq
  rw [h.cl]
  exact ⟨by omega, by omega, by decide⟩
theorem Hq.sess {c : Bool} {s : Ses} (h : SesOk s) (hc : s.cl = [97, 110, 110]) : smallF s.fl ∧ smallF s.qu ∧ s.fl.length < 1000000000 ∧ s.qu.length < 1000000000 ∧ s.cl.length < 1099511627776 := by
  have := h.nf
  have := h.nq
  rw [hc]
  exact ⟨fun x hx => flE_small (h.fl.each x hx).1, fun x hx => flE_small (h.qu x hx).1, by omega, by omega, by decide⟩
theorem goR_same (s : Ses) : (goR s).cl = s.cl ∧ (goR s).clean = s.clean := by unfold goR; split <;> exact ⟨rfl, rfl⟩
theorem rawR_same (s : Ses) (n p : List UInt8) (q : Int) : (rawR s n p q).1.cl = s.cl ∧ (rawR s n p q).1.clean = s.clean ∧ (rawR s n p q).1.on = s.on := by
  unfold rawR
  split
  · exact ⟨rfl, rfl, rfl⟩
  · split <;> exact ⟨rfl, rfl, rfl⟩
set_option maxHeartbeats 16000000 in
theorem c_SessionHolds (w : World) (clean : Bool) (vp : Value) (ps : List (List UInt8)) (vl : Value) (ld : List Int) (away : Int) (hp : readsS w vp ps) (hl : readsN w vl ld) (h1 : ps.length < 1000000000) (h2 : ld.length < 1000000000) :
    Calls Tryd.prog 4 #[.bool clean, sc1 vp, sc1 vl, .int .i64 away] w fun e w' => e = .returned (.bool true) ∧ Mod [] w w' := by
  refine as_called (run_tree2 (ρ := [.b clean, .v vp, .r (ps.map encS), .v vl, .r (ld.map encI), .i away]) (sxE_ok.joins _) Tryd.func4 tree_dragomanlaw_SessionHolds rfl rfl (Rel.start2 (by simp [Ent.holds, Ent.wr, hp, hl, X.ev])) rfl rfl ?_) rfl
  simp only [Tree.goal, X.P, X.ev, V.toI_i, V.toB_b, V.toS_s, V.toR_r, V.toV_v, V.toN_n, V.toL_l, SV.ev, CV.ev, Sc.ev, List.getD_cons_zero, List.getD_cons_succ, List.getElem?_cons_zero, List.getElem?_cons_succ, List.map_cons, List.map_nil, List.length_cons, List.length_nil, List.cons_append, List.nil_append, Nat.zero_add, Nat.reduceAdd]
  refine ⟨[.b true], rfl, fun _ w' _ => c_sessionBegun w', ?_⟩
  simp only [Tree.goal, X.P, X.ev, V.toI_i, V.toB_b, V.toS_s, V.toR_r, V.toV_v, V.toN_n, V.toL_l, SV.ev, CV.ev, Sc.ev, List.getD_cons_zero, List.getD_cons_succ, List.getElem?_cons_zero, List.getElem?_cons_succ, List.map_cons, List.map_nil, List.length_cons, List.length_nil, List.cons_append, List.nil_append, Nat.zero_add, Nat.reduceAdd]
  refine ⟨fun h => absurd trivial h, fun hz => ?_⟩
  clear hz
  (first | unfold dragomanlaw_SessionHolds_1 | unfold dragomanlaw_SessionHolds_2 | unfold dragomanlaw_SessionHolds_3 | unfold dragomanlaw_SessionHolds_4 | unfold dragomanlaw_SessionHolds_5 | unfold dragomanlaw_SessionHolds_6 | unfold dragomanlaw_SessionHolds_7 | unfold dragomanlaw_SessionHolds_8 | unfold dragomanlaw_SessionHolds_9 | unfold dragomanlaw_SessionHolds_10 | unfold dragomanlaw_SessionHolds_11 | unfold dragomanlaw_SessionHolds_12 | unfold dragomanlaw_SessionHolds_13 | unfold dragomanlaw_SessionHolds_14 | unfold dragomanlaw_SessionHolds_15 | unfold dragomanlaw_SessionHolds_16 | unfold dragomanlaw_SessionHolds_17 | unfold dragomanlaw_SessionHolds_18 | unfold dragomanlaw_SessionHolds_19 | unfold dragomanlaw_SessionHolds_20 | unfold dragomanlaw_SessionHolds_21 | unfold dragomanlaw_SessionHolds_22 | unfold dragomanlaw_SessionHolds_23)
  simp only [Tree.goal, X.P, X.ev, V.toI_i, V.toB_b, V.toS_s, V.toR_r, V.toV_v, V.toN_n, V.toL_l, SV.ev, CV.ev, Sc.ev, List.getD_cons_zero, List.getD_cons_succ, List.getElem?_cons_zero, List.getElem?_cons_succ, List.map_cons, List.map_nil, List.length_cons, List.length_nil, List.cons_append, List.nil_append, Nat.zero_add, Nat.reduceAdd]
  intro b1
  refine ⟨fun vs => ∃ (s : Ses) (x : V) (a u v : Value) (i : Nat), vs = [x, .v a, .r ((there s).map encS), .i i, .s s.cl, .b s.on, .b s.clean, .v u, .r (s.fl.map encF), .v v, .r (s.qu.map encF), .i s.next] ∧ Hq clean s ∧ i ≤ ps.length, fun vs => ps.length - (vs.getD 3 (.i 0)).toI.toNat, ⟨sH clean, _, _, _, _, 0, rfl, .first clean, by omega⟩, ?_⟩
  rintro _ - ⟨s, x, a, u, v, i, rfl, hs, hi⟩
  simp only [Tree.goal, X.P, X.ev, V.toI_i, V.toB_b, V.toS_s, V.toR_r, V.toV_v, V.toN_n, V.toL_l, SV.ev, CV.ev, Sc.ev, List.getD_cons_zero, List.getD_cons_succ, List.getElem?_cons_zero, List.getElem?_cons_succ, List.map_cons, List.map_nil, List.length_cons, List.length_nil, List.cons_append, List.nil_append, Nat.zero_add, Nat.reduceAdd, List.length_map, Int.toNat_natCast, gF0, gF1, gF2, gS_encS, gI_encI, List.nil_append]
  refine ⟨fun h3 => ?_, fun h3 w' hr => ⟨by trivial, hr.mod⟩⟩
  refine ⟨by omega, fun h4 => ⟨by omega, by omega, ⟨s, x, a, u, v, i + 1, rfl, hs, by omega⟩, by omega⟩, fun h4 => ?_⟩
  unfold dragomanlaw_SessionHolds_22
  rw [Tree.goal]
  have hgoal : ∀ m, (.back 0 m : Tree) = .back 0 m := fun _ => rfl
  refine ⟨fun vs => ∃ (s : Ses) (a u v : Value), vs = [.i 0, .i 0, .i 0, .i 0, .i 0, .i 0, .i 0, .i 0, .i 0, .i 0, .i 0, .i 0, .i 0, .i 0, .i 0, .i 0, .i 0, .i 0, .i 0, .i 0, .i 0, .i 0, .i 0, .i 0, .i 0, .i 0, .v a, .s s.cl, .b s.on, .b s.clean, .v u, .v v, .i s.next, .r ((there s).map encS), .r (s.fl.map encF), .r (s.qu.map encF)] ∧ Hq clean s, ?_, ?_⟩
  · simp only [Tree.goal, X.P, X.ev, V.toI_i, V.toB_b, V.toS_s, V.toR_r, V.toV_v, V.toN_n, V.toL_l, SV.ev, CV.ev, Sc.ev, List.getD_cons_zero, List.getD_cons_succ, List.getElem?_cons_zero, List.getElem?_cons_succ, List.map_cons, List.map_nil, List.length_cons, List.length_nil, List.cons_append, List.nil_append, Nat.zero_add, Nat.reduceAdd, List.length_map, Int.toNat_natCast, gF0, gF1, gF2, gS_encS, gI_encI, List.nil_append]
    refine ⟨fun h5 => ?_, fun h5 => ⟨s, a, u, v, rfl, hs⟩⟩
    (first | unfold dragomanlaw_SessionHolds_1 | unfold dragomanlaw_SessionHolds_2 | unfold dragomanlaw_SessionHolds_3 | unfold dragomanlaw_SessionHolds_4 | unfold dragomanlaw_SessionHolds_5 | unfold dragomanlaw_SessionHolds_6 | unfold dragomanlaw_SessionHolds_7 | unfold dragomanlaw_SessionHolds_8 | unfold dragomanlaw_SessionHolds_9 | unfold dragomanlaw_SessionHolds_10 | unfold dragomanlaw_SessionHolds_11 | unfold dragomanlaw_SessionHolds_12 | unfold dragomanlaw_SessionHolds_13 | unfold dragomanlaw_SessionHolds_14 | unfold dragomanlaw_SessionHolds_15 | unfold dragomanlaw_SessionHolds_16 | unfold dragomanlaw_SessionHolds_17 | unfold dragomanlaw_SessionHolds_18 | unfold dragomanlaw_SessionHolds_19 | unfold dragomanlaw_SessionHolds_20 | unfold dragomanlaw_SessionHolds_21 | unfold dragomanlaw_SessionHolds_22 | unfold dragomanlaw_SessionHolds_23)
    simp only [Tree.goal, X.P, X.ev, V.toI_i, V.toB_b, V.toS_s, V.toR_r, V.toV_v, V.toN_n, V.toL_l, SV.ev, CV.ev, Sc.ev, List.getD_cons_zero, List.getD_cons_succ, List.getElem?_cons_zero, List.getElem?_cons_succ, List.map_cons, List.map_nil, List.length_cons, List.length_nil, List.cons_append, List.nil_append, Nat.zero_add, Nat.reduceAdd, List.length_map, Int.toNat_natCast, gF0, gF1, gF2, gS_encS, gI_encI, List.nil_append]
    intro w1 hr
    obtain ⟨q1, q2, q3, q4, q5⟩ := Hq.sess (c := clean) hs.ok hs.cl
    have hg := c_Go w1 s u v (by (have hq := hr; repeat (first | exact hq.hd | replace hq := hq.tl))) (by (have hq := hr; repeat (first | exact hq.hd | replace hq := hq.tl))) q1 q2 q3 q4 q5
    rw [goC, if_pos (chkS_iff.2 hs.ok), chkS_iff.2 hs.ok] at hg
    have hgo := go_ok hs.ok
    have hsm := goR_same s
    rw [hs.cl, hs.cn] at hsm
    rw [hs.cn] at hgo
    generalize goR s = r at hg hgo hsm
    refine hg.mono ?_
    rintro e w2 ⟨u1, v1, rfl, g1, g2, g4, g5, gm⟩
    refine ⟨[.s r.cl, .b r.on, .b r.clean, .v u1, .r (r.fl.map encF), .v v1, .r (r.qu.map encF), .i r.next, .i 0], rfl, rfl, gm, List.forall_mem_nil _, List.forall_mem_cons.2 ⟨⟨g1, fun k hk => .inl (g4 k hk.2)⟩, List.forall_mem_cons.2 ⟨⟨g2, fun k hk => .inl (g5 k hk.2)⟩, List.forall_mem_nil _⟩⟩, apart_ro (by simp [Ent.wr]), ?_⟩; clear hr g1 g2 g4 g5 gm; simp only [Tree.goal, X.P, X.ev, V.toI_i, V.toB_b, V.toS_s, V.toR_r, V.toV_v, V.toN_n, V.toL_l, SV.ev, CV.ev, Sc.ev, List.getD_cons_zero, List.getD_cons_succ, List.getElem?_cons_zero, List.getElem?_cons_succ, List.map_cons, List.map_nil, List.length_cons, List.length_nil, List.cons_append, List.nil_append, Nat.zero_add, Nat.reduceAdd, List.length_map, Int.toNat_natCast, gF0, gF1, gF2, gS_encS, gI_encI, List.nil_append]
    intro b2
    obtain ⟨q1, q2, q3, q4, q5⟩ := Hq.sess (c := clean) hgo.1 hsm.1
    refine ⟨[.i (chkS r)], rfl, fun _ w' hr => c_CheckS w' r u1 v1 (by (have hq := hr; repeat (first | exact hq.hd | replace hq := hq.tl))) (by (have hq := hr; repeat (first | exact hq.hd | replace hq := hq.tl))) q1 q2 q3 q4 q5, ?_⟩
    rw [chkS_iff.2 hgo.1]
    simp only [Tree.goal, X.P, X.ev, V.toI_i, V.toB_b, V.toS_s, V.toR_r, V.toV_v, V.toN_n, V.toL_l, SV.ev, CV.ev, Sc.ev, List.getD_cons_zero, List.getD_cons_succ, List.getElem?_cons_zero, List.getElem?_cons_succ, List.map_cons, List.map_nil, List.length_cons, List.length_nil, List.cons_append, List.nil_append, Nat.zero_add, Nat.reduceAdd, List.length_map, Int.toNat_natCast, gF0, gF1, gF2, gS_encS, gI_encI, List.nil_append]
    refine ⟨fun h => h.elim (fun h => absurd trivial h) (fun h => absurd trivial h), fun hz => ?_⟩
    clear hz
    (first | unfold dragomanlaw_SessionHolds_1 | unfold dragomanlaw_SessionHolds_2 | unfold dragomanlaw_SessionHolds_3 | unfold dragomanlaw_SessionHolds_4 | unfold dragomanlaw_SessionHolds_5 | unfold dragomanlaw_SessionHolds_6 | unfold dragomanlaw_SessionHolds_7 | unfold dragomanlaw_SessionHolds_8 | unfold dragomanlaw_SessionHolds_9 | unfold dragomanlaw_SessionHolds_10 | unfold dragomanlaw_SessionHolds_11 | unfold dragomanlaw_SessionHolds_12 | unfold dragomanlaw_SessionHolds_13 | unfold dragomanlaw_SessionHolds_14 | unfold dragomanlaw_SessionHolds_15 | unfold dragomanlaw_SessionHolds_16 | unfold dragomanlaw_SessionHolds_17 | unfold dragomanlaw_SessionHolds_18 | unfold dragomanlaw_SessionHolds_19 | unfold dragomanlaw_SessionHolds_20 | unfold dragomanlaw_SessionHolds_21 | unfold dragomanlaw_SessionHolds_22 | unfold dragomanlaw_SessionHolds_23)
    simp only [Tree.goal, X.P, X.ev, V.toI_i, V.toB_b, V.toS_s, V.toR_r, V.toV_v, V.toN_n, V.toL_l, SV.ev, CV.ev, Sc.ev, List.getD_cons_zero, List.getD_cons_succ, List.getElem?_cons_zero, List.getElem?_cons_succ, List.map_cons, List.map_nil, List.length_cons, List.length_nil, List.cons_append, List.nil_append, Nat.zero_add, Nat.reduceAdd, List.length_map, Int.toNat_natCast, gF0, gF1, gF2, gS_encS, gI_encI, List.nil_append]
    intro w1 hr
    have hc := c_Come w1 r u1 v1 (by (have hq := hr; repeat (first | exact hq.hd | replace hq := hq.tl))) (by (have hq := hr; repeat (first | exact hq.hd | replace hq := hq.tl))) q1 q2 q3 q4 q5
    rw [comeC, if_pos (chkS_iff.2 hgo.1), chkS_iff.2 hgo.1] at hc
    have hco := come_ok hgo.1
    have hcs : (comeR r).1.cl = r.cl ∧ (comeR r).1.clean = r.clean ∧ (comeR r).1.on = true := ⟨rfl, rfl, rfl⟩
    rw [hsm.1, hsm.2] at hcs
    rw [hgo.2] at hco
    generalize comeR r = rr at hc hco hcs
    obtain ⟨r2, out⟩ := rr
    refine hc.mono ?_
    rintro e w2 ⟨u2, v2, o2, rfl, g1, g2, g3, g4, g5, g6, gm⟩
    refine ⟨[.s r2.cl, .b r2.on, .b r2.clean, .v u2, .r (r2.fl.map encF), .v v2, .r (r2.qu.map encF), .i r2.next, .v o2, .r (out.map encP), .i 0], rfl, rfl, gm, List.forall_mem_nil _, List.forall_mem_cons.2 ⟨⟨g1, fun k hk => .inl (g4 k hk.2)⟩, List.forall_mem_cons.2 ⟨⟨g2, fun k hk => .inl (g5 k hk.2)⟩, List.forall_mem_cons.2 ⟨⟨g3, fun k hk => .inl (g6 k hk.2)⟩, List.forall_mem_nil _⟩⟩⟩, apart_ro (by simp [Ent.wr]), ?_⟩; clear hr g1 g2 g3 g4 g5 g6 gm; simp only [Tree.goal, X.P, X.ev, V.toI_i, V.toB_b, V.toS_s, V.toR_r, V.toV_v, V.toN_n, V.toL_l, SV.ev, CV.ev, Sc.ev, List.getD_cons_zero, List.getD_cons_succ, List.getElem?_cons_zero, List.getElem?_cons_succ, List.map_cons, List.map_nil, List.length_cons, List.length_nil, List.cons_append, List.nil_append, Nat.zero_add, Nat.reduceAdd, List.length_map, Int.toNat_natCast, gF0, gF1, gF2, gS_encS, gI_encI, List.nil_append]
    intro b3
    refine ⟨fun h => absurd trivial h, fun hz => ?_⟩
    clear hz
    (first | unfold dragomanlaw_SessionHolds_1 | unfold dragomanlaw_SessionHolds_2 | unfold dragomanlaw_SessionHolds_3 | unfold dragomanlaw_SessionHolds_4 | unfold dragomanlaw_SessionHolds_5 | unfold dragomanlaw_SessionHolds_6 | unfold dragomanlaw_SessionHolds_7 | unfold dragomanlaw_SessionHolds_8 | unfold dragomanlaw_SessionHolds_9 | unfold dragomanlaw_SessionHolds_10 | unfold dragomanlaw_SessionHolds_11 | unfold dragomanlaw_SessionHolds_12 | unfold dragomanlaw_SessionHolds_13 | unfold dragomanlaw_SessionHolds_14 | unfold dragomanlaw_SessionHolds_15 | unfold dragomanlaw_SessionHolds_16 | unfold dragomanlaw_SessionHolds_17 | unfold dragomanlaw_SessionHolds_18 | unfold dragomanlaw_SessionHolds_19 | unfold dragomanlaw_SessionHolds_20 | unfold dragomanlaw_SessionHolds_21 | unfold dragomanlaw_SessionHolds_22 | unfold dragomanlaw_SessionHolds_23)
    rw [Tree.goal]
    refine ⟨fun vs => ∃ a' : Value, vs = [.i 0, .v a', .r ((there r2).map encS)], ?_, ?_⟩
    · simp only [Tree.goal, X.P, X.ev, V.toI_i, V.toB_b, V.toS_s, V.toR_r, V.toV_v, V.toN_n, V.toL_l, SV.ev, CV.ev, Sc.ev, List.getD_cons_zero, List.getD_cons_succ, List.getElem?_cons_zero, List.getElem?_cons_succ, List.map_cons, List.map_nil, List.length_cons, List.length_nil, List.cons_append, List.nil_append, Nat.zero_add, Nat.reduceAdd, List.length_map, Int.toNat_natCast, gF0, gF1, gF2, gS_encS, gI_encI, List.nil_append]
      refine ⟨fun h6 => ⟨_, by rw [hco.2, if_pos h6]; rfl⟩, fun h6 => ⟨_, by rw [hco.2, if_neg h6]⟩⟩
    · rintro _ - ⟨a', rfl⟩
      simp only [Tree.goal, X.P, X.ev, V.toI_i, V.toB_b, V.toS_s, V.toR_r, V.toV_v, V.toN_n, V.toL_l, SV.ev, CV.ev, Sc.ev, List.getD_cons_zero, List.getD_cons_succ, List.getElem?_cons_zero, List.getElem?_cons_succ, List.map_cons, List.map_nil, List.length_cons, List.length_nil, List.cons_append, List.nil_append, Nat.zero_add, Nat.reduceAdd, List.length_map, Int.toNat_natCast, gF0, gF1, gF2, gS_encS, gI_encI, List.nil_append]
      exact ⟨r2, a', u2, v2, rfl, ⟨hco.1, hcs.2.2, hcs.2.1, hcs.1⟩⟩
  clear hs
  rintro _ - ⟨s, a, u, v, rfl, hs⟩
  simp only [List.cons_append, List.nil_append]
  rw [Tree.goal]
  obtain ⟨q1, q2, q3, q4, q5⟩ := Hq.sess (c := clean) hs.ok hs.cl
  have hpl : flE (0, [97], ps.getD i []) = 0 := by
    unfold flE
    rw [if_pos (show chkT [97] false = 0 by decide), if_neg (by omega)]
  have hse : sendE s [97] (ps.getD i []) 1 = 0 := by
    rw [sendE, if_pos (chkS_iff.2 hs.ok), if_pos hpl, if_neg (fun h => h.2 rfl)]
  have hcS := fun (w1 : World) (hu : readsF w1 u s.fl) (hv : readsF w1 v s.qu) => c_Send w1 s u v [97] (ps.getD i []) 1 hu hv q1 q2 q3 q4 q5 (by decide)
  rw [sendC, hse, if_pos rfl] at hcS
  have hro := raw_ok hs.ok hpl hs.on
  have hrs := rawR_same s [97] (ps.getD i []) 1
  rw [hs.cl, hs.cn, hs.on] at hrs
  generalize rawR s [97] (ps.getD i []) 1 = rr at hcS hro hrs
  obtain ⟨r, out⟩ := rr
  refine ⟨fun vs => ∃ (u' v' o' : Value) (n : Nat), vs = [.s r.cl, .b r.on, .b r.clean, .v u', .r (r.fl.map encF), .v v', .r (r.qu.map encF), .i r.next, .v o', .r (out.map encP), .i 0, .n n], ?_, ?_⟩
  · rw [Tree.goal]
    refine ⟨?_, ?_⟩
    · (first | unfold dragomanlaw_SessionHolds_1 | unfold dragomanlaw_SessionHolds_2 | unfold dragomanlaw_SessionHolds_3 | unfold dragomanlaw_SessionHolds_4 | unfold dragomanlaw_SessionHolds_5 | unfold dragomanlaw_SessionHolds_6 | unfold dragomanlaw_SessionHolds_7 | unfold dragomanlaw_SessionHolds_8 | unfold dragomanlaw_SessionHolds_9 | unfold dragomanlaw_SessionHolds_10 | unfold dragomanlaw_SessionHolds_11 | unfold dragomanlaw_SessionHolds_12 | unfold dragomanlaw_SessionHolds_13 | unfold dragomanlaw_SessionHolds_14 | unfold dragomanlaw_SessionHolds_15 | unfold dragomanlaw_SessionHolds_16 | unfold dragomanlaw_SessionHolds_17 | unfold dragomanlaw_SessionHolds_18 | unfold dragomanlaw_SessionHolds_19 | unfold dragomanlaw_SessionHolds_20 | unfold dragomanlaw_SessionHolds_21 | unfold dragomanlaw_SessionHolds_22 | unfold dragomanlaw_SessionHolds_23)
      simp only [Tree.goal, X.P, X.ev, V.toI_i, V.toB_b, V.toS_s, V.toR_r, V.toV_v, V.toN_n, V.toL_l, SV.ev, CV.ev, Sc.ev, List.getD_cons_zero, List.getD_cons_succ, List.getElem?_cons_zero, List.getElem?_cons_succ, List.map_cons, List.map_nil, List.length_cons, List.length_nil, List.cons_append, List.nil_append, Nat.zero_add, Nat.reduceAdd, List.length_map, Int.toNat_natCast, gF0, gF1, gF2, gS_encS, gI_encI, List.nil_append]
      intro w1 hr
      refine (hcS w1 (by (have hq := hr; repeat (first | exact hq.hd | replace hq := hq.tl))) (by (have hq := hr; repeat (first | exact hq.hd | replace hq := hq.tl)))).mono ?_
      rintro e w2 ⟨u2, v2, o2, rfl, g1, g2, g3, g4, g5, g6, gm⟩
      refine ⟨[.s r.cl, .b r.on, .b r.clean, .v u2, .r (r.fl.map encF), .v v2, .r (r.qu.map encF), .i r.next, .v o2, .r (out.map encP), .i 0], rfl, rfl, gm, List.forall_mem_nil _, List.forall_mem_cons.2 ⟨⟨g1, fun k hk => .inl (g4 k hk.2)⟩, List.forall_mem_cons.2 ⟨⟨g2, fun k hk => .inl (g5 k hk.2)⟩, List.forall_mem_cons.2 ⟨⟨g3, fun k hk => .inl (g6 k hk.2)⟩, List.forall_mem_nil _⟩⟩⟩, apart_ro (by simp [Ent.wr]), ?_⟩; clear hr g1 g2 g3 g4 g5 g6 gm; simp only [Tree.goal, X.P, X.ev, V.toI_i, V.toB_b, V.toS_s, V.toR_r, V.toV_v, V.toN_n, V.toL_l, SV.ev, CV.ev, Sc.ev, List.getD_cons_zero, List.getD_cons_succ, List.getElem?_cons_zero, List.getElem?_cons_succ, List.map_cons, List.map_nil, List.length_cons, List.length_nil, List.cons_append, List.nil_append, Nat.zero_add, Nat.reduceAdd, List.length_map, Int.toNat_natCast, gF0, gF1, gF2, gS_encS, gI_encI, List.nil_append]
      exact fun b => ⟨u2, v2, o2, b, rfl⟩
    · (first | unfold dragomanlaw_SessionHolds_1 | unfold dragomanlaw_SessionHolds_2 | unfold dragomanlaw_SessionHolds_3 | unfold dragomanlaw_SessionHolds_4 | unfold dragomanlaw_SessionHolds_5 | unfold dragomanlaw_SessionHolds_6 | unfold dragomanlaw_SessionHolds_7 | unfold dragomanlaw_SessionHolds_8 | unfold dragomanlaw_SessionHolds_9 | unfold dragomanlaw_SessionHolds_10 | unfold dragomanlaw_SessionHolds_11 | unfold dragomanlaw_SessionHolds_12 | unfold dragomanlaw_SessionHolds_13 | unfold dragomanlaw_SessionHolds_14 | unfold dragomanlaw_SessionHolds_15 | unfold dragomanlaw_SessionHolds_16 | unfold dragomanlaw_SessionHolds_17 | unfold dragomanlaw_SessionHolds_18 | unfold dragomanlaw_SessionHolds_19 | unfold dragomanlaw_SessionHolds_20 | unfold dragomanlaw_SessionHolds_21 | unfold dragomanlaw_SessionHolds_22 | unfold dragomanlaw_SessionHolds_23)
      simp only [Tree.goal, X.P, X.ev, V.toI_i, V.toB_b, V.toS_s, V.toR_r, V.toV_v, V.toN_n, V.toL_l, SV.ev, CV.ev, Sc.ev, List.getD_cons_zero, List.getD_cons_succ, List.getElem?_cons_zero, List.getElem?_cons_succ, List.map_cons, List.map_nil, List.length_cons, List.length_nil, List.cons_append, List.nil_append, Nat.zero_add, Nat.reduceAdd, List.length_map, Int.toNat_natCast, gF0, gF1, gF2, gS_encS, gI_encI, List.nil_append]
      intro b w1 hr
      refine (hcS w1 (by (have hq := hr; repeat (first | exact hq.hd | replace hq := hq.tl))) (by (have hq := hr; repeat (first | exact hq.hd | replace hq := hq.tl)))).mono ?_
      rintro e w2 ⟨u2, v2, o2, rfl, g1, g2, g3, g4, g5, g6, gm⟩
      refine ⟨[.s r.cl, .b r.on, .b r.clean, .v u2, .r (r.fl.map encF), .v v2, .r (r.qu.map encF), .i r.next, .v o2, .r (out.map encP), .i 0], rfl, rfl, gm, List.forall_mem_nil _, List.forall_mem_cons.2 ⟨⟨g1, fun k hk => .inl (g4 k hk.2)⟩, List.forall_mem_cons.2 ⟨⟨g2, fun k hk => .inl (g5 k hk.2)⟩, List.forall_mem_cons.2 ⟨⟨g3, fun k hk => .inl (g6 k hk.2)⟩, List.forall_mem_nil _⟩⟩⟩, apart_ro (by simp [Ent.wr]), ?_⟩; clear hr g1 g2 g3 g4 g5 g6 gm; simp only [Tree.goal, X.P, X.ev, V.toI_i, V.toB_b, V.toS_s, V.toR_r, V.toV_v, V.toN_n, V.toL_l, SV.ev, CV.ev, Sc.ev, List.getD_cons_zero, List.getD_cons_succ, List.getElem?_cons_zero, List.getElem?_cons_succ, List.map_cons, List.map_nil, List.length_cons, List.length_nil, List.cons_append, List.nil_append, Nat.zero_add, Nat.reduceAdd, List.length_map, Int.toNat_natCast, gF0, gF1, gF2, gS_encS, gI_encI, List.nil_append]
      exact ⟨u2, v2, o2, b, rfl⟩
  rintro _ - ⟨u2, v2, o2, n2, rfl⟩
  simp only [Tree.goal, X.P, X.ev, V.toI_i, V.toB_b, V.toS_s, V.toR_r, V.toV_v, V.toN_n, V.toL_l, SV.ev, CV.ev, Sc.ev, List.getD_cons_zero, List.getD_cons_succ, List.getElem?_cons_zero, List.getElem?_cons_succ, List.map_cons, List.map_nil, List.length_cons, List.length_nil, List.cons_append, List.nil_append, Nat.zero_add, Nat.reduceAdd, List.length_map, Int.toNat_natCast, gF0, gF1, gF2, gS_encS, gI_encI, List.nil_append]
  refine ⟨fun h => absurd trivial h, fun hz => ?_⟩
  clear hz
  unfold dragomanlaw_SessionHolds_21
  rw [Tree.goal]
  have hlt := hs.lt
  refine ⟨fun vs => ∃ a' : Value, vs = [.i 0, .i 0, .v a', .r ((there r).map encS)], ?_, ?_⟩
  · simp only [Tree.goal, X.P, X.ev, V.toI_i, V.toB_b, V.toS_s, V.toR_r, V.toV_v, V.toN_n, V.toL_l, SV.ev, CV.ev, Sc.ev, List.getD_cons_zero, List.getD_cons_succ, List.getElem?_cons_zero, List.getElem?_cons_succ, List.map_cons, List.map_nil, List.length_cons, List.length_nil, List.cons_append, List.nil_append, Nat.zero_add, Nat.reduceAdd, List.length_map, Int.toNat_natCast, gF0, gF1, gF2, gS_encS, gI_encI, List.nil_append]
    refine ⟨fun h6 v70 => ⟨by omega, fun v71 => ⟨_, by rw [hro.2, if_pos (by omega), List.map_append]; rfl⟩⟩, fun h6 => ⟨_, by rw [hro.2, if_neg (by omega)]⟩⟩
  rintro _ - ⟨a2, rfl⟩
  simp only [List.cons_append, List.nil_append]
  have hq : Hq clean r := ⟨hro.1, hrs.2.2, hrs.2.1, hrs.1⟩
  clear hro hrs hcS hse hpl q1 q2 q3 q4 q5 hs hlt
  rw [Tree.goal]
  refine ⟨by simp only [Tree.goal, X.P, X.ev, V.toI_i, V.toB_b, V.toS_s, V.toR_r, V.toV_v, V.toN_n, V.toL_l, SV.ev, CV.ev, Sc.ev, List.getD_cons_zero, List.getD_cons_succ, List.getElem?_cons_zero, List.getElem?_cons_succ, List.map_cons, List.map_nil, List.length_cons, List.length_nil, List.cons_append, List.nil_append, Nat.zero_add, Nat.reduceAdd, List.length_map, Int.toNat_natCast, gF0, gF1, gF2, gS_encS, gI_encI, List.nil_append]; omega, ?_⟩
  rw [Tree.goal]
  refine ⟨by simp only [Tree.goal, X.P, X.ev, V.toI_i, V.toB_b, V.toS_s, V.toR_r, V.toV_v, V.toN_n, V.toL_l, SV.ev, CV.ev, Sc.ev, List.getD_cons_zero, List.getD_cons_succ, List.getElem?_cons_zero, List.getElem?_cons_succ, List.map_cons, List.map_nil, List.length_cons, List.length_nil, List.cons_append, List.nil_append, Nat.zero_add, Nat.reduceAdd, List.length_map, Int.toNat_natCast, gF0, gF1, gF2, gS_encS, gI_encI, List.nil_append]; omega, ?_⟩
  rw [Tree.goal]
  refine ⟨fun vs => ∃ (s : Ses) (a u v : Value), vs = [.i 0, .i 0, .i 0, .i 0, .i 0, .i 0, .i 0, .i 0, .i 0, .i 0, .i 0, .i 0, .i 0, .i 0, .i 0, .i 0, .i 0, .v a, .s s.cl, .b s.on, .b s.clean, .v u, .v v, .i s.next, .r ((there s).map encS), .r (s.fl.map encF), .r (s.qu.map encF)] ∧ Hq clean s, ?_, ?_⟩
  · unfold dragomanlaw_SessionHolds_18
    rw [Tree.goal]
    refine ⟨fun h6 => ?_, fun h6 => ?_⟩
    · simp only [Tree.goal, X.P, X.ev, V.toI_i, V.toB_b, V.toS_s, V.toR_r, V.toV_v, V.toN_n, V.toL_l, SV.ev, CV.ev, Sc.ev, List.getD_cons_zero, List.getD_cons_succ, List.getElem?_cons_zero, List.getElem?_cons_succ, List.map_cons, List.map_nil, List.length_cons, List.length_nil, List.cons_append, List.nil_append, Nat.zero_add, Nat.reduceAdd, List.length_map, Int.toNat_natCast, gF0, gF1, gF2, gS_encS, gI_encI, List.nil_append] at h6
      obtain ⟨⟨h6, h7⟩, h8⟩ := h6
      rw [Tree.goal]
      obtain ⟨N, hN⟩ : ∃ N : Nat, ld.getD i 0 = N := ⟨(ld.getD i 0).toNat, by omega⟩
      rw [hN] at h8 h7
      obtain ⟨q1, q2, q3, q4, q5⟩ := Hq.sess (c := clean) hq.ok hq.cl
      have hcL := fun (w1 : World) (hu : readsF w1 u2 r.fl) (hv : readsF w1 v2 r.qu) => c_Landed w1 r u2 v2 (r.fl.getD N fD).1 hu hv q1 q2 q3 q4 q5
      rw [landC, chkS_iff.2 hq.ok, if_pos rfl] at hcL
      have hlo := land_ok (n := N) hq.ok hq.on (by omega)
      have hls : (landR r (r.fl.getD N fD).1).1.cl = r.cl ∧ (landR r (r.fl.getD N fD).1).1.clean = r.clean ∧ (landR r (r.fl.getD N fD).1).1.on = r.on := ⟨rfl, rfl, rfl⟩
      rw [hq.cl, hq.cn, hq.on] at hls
      generalize landR r (r.fl.getD N fD).1 = rr at hcL hlo hls
      obtain ⟨r2, out2⟩ := rr
      refine ⟨fun vs => ∃ (u' v' o' : Value) (n : Nat), vs = [.s r2.cl, .b r2.on, .b r2.clean, .v u', .r (r2.fl.map encF), .v v', .r (r2.qu.map encF), .i r2.next, .v o', .r (out2.map encP), .i 0, .n n], ?_, ?_⟩
      · rw [Tree.goal]
        refine ⟨?_, ?_⟩
        · (first | unfold dragomanlaw_SessionHolds_1 | unfold dragomanlaw_SessionHolds_2 | unfold dragomanlaw_SessionHolds_3 | unfold dragomanlaw_SessionHolds_4 | unfold dragomanlaw_SessionHolds_5 | unfold dragomanlaw_SessionHolds_6 | unfold dragomanlaw_SessionHolds_7 | unfold dragomanlaw_SessionHolds_8 | unfold dragomanlaw_SessionHolds_9 | unfold dragomanlaw_SessionHolds_10 | unfold dragomanlaw_SessionHolds_11 | unfold dragomanlaw_SessionHolds_12 | unfold dragomanlaw_SessionHolds_13 | unfold dragomanlaw_SessionHolds_14 | unfold dragomanlaw_SessionHolds_15 | unfold dragomanlaw_SessionHolds_16 | unfold dragomanlaw_SessionHolds_17 | unfold dragomanlaw_SessionHolds_18 | unfold dragomanlaw_SessionHolds_19 | unfold dragomanlaw_SessionHolds_20 | unfold dragomanlaw_SessionHolds_21 | unfold dragomanlaw_SessionHolds_22 | unfold dragomanlaw_SessionHolds_23)
          simp only [Tree.goal, X.P, X.ev, V.toI_i, V.toB_b, V.toS_s, V.toR_r, V.toV_v, V.toN_n, V.toL_l, SV.ev, CV.ev, Sc.ev, List.getD_cons_zero, List.getD_cons_succ, List.getElem?_cons_zero, List.getElem?_cons_succ, List.map_cons, List.map_nil, List.length_cons, List.length_nil, List.cons_append, List.nil_append, Nat.zero_add, Nat.reduceAdd, List.length_map, Int.toNat_natCast, gF0, gF1, gF2, gS_encS, gI_encI, List.nil_append, hN]
          intro w1 hr
          refine (hcL w1 (by (have hq := hr; repeat (first | exact hq.hd | replace hq := hq.tl))) (by (have hq := hr; repeat (first | exact hq.hd | replace hq := hq.tl)))).mono ?_
          rintro e w2 ⟨u3, v3, o3, rfl, g1, g2, g3, g4, g5, g6, gm⟩
          refine ⟨[.s r2.cl, .b r2.on, .b r2.clean, .v u3, .r (r2.fl.map encF), .v v3, .r (r2.qu.map encF), .i r2.next, .v o3, .r (out2.map encP), .i 0], rfl, rfl, gm, List.forall_mem_nil _, List.forall_mem_cons.2 ⟨⟨g1, fun k hk => .inl (g4 k hk.2)⟩, List.forall_mem_cons.2 ⟨⟨g2, fun k hk => .inl (g5 k hk.2)⟩, List.forall_mem_cons.2 ⟨⟨g3, fun k hk => .inl (g6 k hk.2)⟩, List.forall_mem_nil _⟩⟩⟩, apart_ro (by simp [Ent.wr]), ?_⟩; clear hr g1 g2 g3 g4 g5 g6 gm; simp only [Tree.goal, X.P, X.ev, V.toI_i, V.toB_b, V.toS_s, V.toR_r, V.toV_v, V.toN_n, V.toL_l, SV.ev, CV.ev, Sc.ev, List.getD_cons_zero, List.getD_cons_succ, List.getElem?_cons_zero, List.getElem?_cons_succ, List.map_cons, List.map_nil, List.length_cons, List.length_nil, List.cons_append, List.nil_append, Nat.zero_add, Nat.reduceAdd, List.length_map, Int.toNat_natCast, gF0, gF1, gF2, gS_encS, gI_encI, List.nil_append]
          exact fun b => ⟨u3, v3, o3, b, rfl⟩
        · (first | unfold dragomanlaw_SessionHolds_1 | unfold dragomanlaw_SessionHolds_2 | unfold dragomanlaw_SessionHolds_3 | unfold dragomanlaw_SessionHolds_4 | unfold dragomanlaw_SessionHolds_5 | unfold dragomanlaw_SessionHolds_6 | unfold dragomanlaw_SessionHolds_7 | unfold dragomanlaw_SessionHolds_8 | unfold dragomanlaw_SessionHolds_9 | unfold dragomanlaw_SessionHolds_10 | unfold dragomanlaw_SessionHolds_11 | unfold dragomanlaw_SessionHolds_12 | unfold dragomanlaw_SessionHolds_13 | unfold dragomanlaw_SessionHolds_14 | unfold dragomanlaw_SessionHolds_15 | unfold dragomanlaw_SessionHolds_16 | unfold dragomanlaw_SessionHolds_17 | unfold dragomanlaw_SessionHolds_18 | unfold dragomanlaw_SessionHolds_19 | unfold dragomanlaw_SessionHolds_20 | unfold dragomanlaw_SessionHolds_21 | unfold dragomanlaw_SessionHolds_22 | unfold dragomanlaw_SessionHolds_23)
          simp only [Tree.goal, X.P, X.ev, V.toI_i, V.toB_b, V.toS_s, V.toR_r, V.toV_v, V.toN_n, V.toL_l, SV.ev, CV.ev, Sc.ev, List.getD_cons_zero, List.getD_cons_succ, List.getElem?_cons_zero, List.getElem?_cons_succ, List.map_cons, List.map_nil, List.length_cons, List.length_nil, List.cons_append, List.nil_append, Nat.zero_add, Nat.reduceAdd, List.length_map, Int.toNat_natCast, gF0, gF1, gF2, gS_encS, gI_encI, List.nil_append, hN]
          intro b w1 hr
          refine (hcL w1 (by (have hq := hr; repeat (first | exact hq.hd | replace hq := hq.tl))) (by (have hq := hr; repeat (first | exact hq.hd | replace hq := hq.tl)))).mono ?_
          rintro e w2 ⟨u3, v3, o3, rfl, g1, g2, g3, g4, g5, g6, gm⟩
          refine ⟨[.s r2.cl, .b r2.on, .b r2.clean, .v u3, .r (r2.fl.map encF), .v v3, .r (r2.qu.map encF), .i r2.next, .v o3, .r (out2.map encP), .i 0], rfl, rfl, gm, List.forall_mem_nil _, List.forall_mem_cons.2 ⟨⟨g1, fun k hk => .inl (g4 k hk.2)⟩, List.forall_mem_cons.2 ⟨⟨g2, fun k hk => .inl (g5 k hk.2)⟩, List.forall_mem_cons.2 ⟨⟨g3, fun k hk => .inl (g6 k hk.2)⟩, List.forall_mem_nil _⟩⟩⟩, apart_ro (by simp [Ent.wr]), ?_⟩; clear hr g1 g2 g3 g4 g5 g6 gm; simp only [Tree.goal, X.P, X.ev, V.toI_i, V.toB_b, V.toS_s, V.toR_r, V.toV_v, V.toN_n, V.toL_l, SV.ev, CV.ev, Sc.ev, List.getD_cons_zero, List.getD_cons_succ, List.getElem?_cons_zero, List.getElem?_cons_succ, List.map_cons, List.map_nil, List.length_cons, List.length_nil, List.cons_append, List.nil_append, Nat.zero_add, Nat.reduceAdd, List.length_map, Int.toNat_natCast, gF0, gF1, gF2, gS_encS, gI_encI, List.nil_append]
          exact ⟨u3, v3, o3, b, rfl⟩
      rintro _ - ⟨u3, v3, o3, n3, rfl⟩
      simp only [List.cons_append, List.nil_append]
      rw [Tree.goal]
      refine ⟨fun h => absurd trivial (by simpa only [Tree.goal, X.P, X.ev, V.toI_i, V.toB_b, V.toS_s, V.toR_r, V.toV_v, V.toN_n, V.toL_l, SV.ev, CV.ev, Sc.ev, List.getD_cons_zero, List.getD_cons_succ, List.getElem?_cons_zero, List.getElem?_cons_succ, List.map_cons, List.map_nil, List.length_cons, List.length_nil, List.cons_append, List.nil_append, Nat.zero_add, Nat.reduceAdd, List.length_map, Int.toNat_natCast, gF0, gF1, gF2, gS_encS, gI_encI, List.nil_append] using h), fun hz => ?_⟩
      clear hz
      rw [Tree.goal]
      have hlt := hq.lt
      have hnl : N < (there r).length := by
        simp only [there, List.length_append, List.length_map]
        omega
      have hq2 : Hq clean r2 := ⟨hlo.1, hls.2.2, hls.2.1, hls.1⟩
      refine ⟨fun vs => ∃ (x1 x2 x3 x4 : V) (a : Value), vs = [x1, x2, x3, x4, .v a], ?_, ?_⟩
      · unfold dragomanlaw_SessionHolds_16
        simp only [Tree.goal, X.P, X.ev, V.toI_i, V.toB_b, V.toS_s, V.toR_r, V.toV_v, V.toN_n, V.toL_l, SV.ev, CV.ev, Sc.ev, List.getD_cons_zero, List.getD_cons_succ, List.getElem?_cons_zero, List.getElem?_cons_succ, List.map_cons, List.map_nil, List.length_cons, List.length_nil, List.cons_append, List.nil_append, Nat.zero_add, Nat.reduceAdd, List.length_map, Int.toNat_natCast, gF0, gF1, gF2, gS_encS, gI_encI, List.nil_append, hN, Tree.goal, dragomanlaw_SessionHolds_8, dragomanlaw_SessionHolds_9, dragomanlaw_SessionHolds_10, dragomanlaw_SessionHolds_11, dragomanlaw_SessionHolds_12, dragomanlaw_SessionHolds_13, dragomanlaw_SessionHolds_14, dragomanlaw_SessionHolds_15]
        repeat' (first | exact ⟨_, _, _, _, _, rfl⟩ | omega | (simp only [List.length_append, List.length_drop, List.length_take, List.length_map, List.length_nil]; omega) | intro _ | refine ⟨?_, ?_⟩)
      rintro _ - ⟨x1, x2, x3, x4, a3, rfl⟩
      simp only [List.cons_append, List.nil_append]
      unfold dragomanlaw_SessionHolds_17
      simp only [Tree.goal, X.P, X.ev, V.toI_i, V.toB_b, V.toS_s, V.toR_r, V.toV_v, V.toN_n, V.toL_l, SV.ev, CV.ev, Sc.ev, List.getD_cons_zero, List.getD_cons_succ, List.getElem?_cons_zero, List.getElem?_cons_succ, List.map_cons, List.map_nil, List.length_cons, List.length_nil, List.cons_append, List.nil_append, Nat.zero_add, Nat.reduceAdd, List.length_map, Int.toNat_natCast, gF0, gF1, gF2, gS_encS, gI_encI, List.nil_append, hN]
      refine ⟨r2, a3, u3, v3, ?_, hq2⟩
      have e2 : there r2 = (there r).take N ++ (there r).drop (N + 1) := hlo.2
      have e3 : ((N : Int) + 1).toNat = N + 1 := by omega
      have e4 : List.take (there r).length (List.map encS (there r)) = List.map encS (there r) := List.take_of_length_le (by simp)
      rw [e2, e3, e4, List.map_append, List.map_take, List.map_drop]
      rfl
    · simp only [Tree.goal, X.P, X.ev, V.toI_i, V.toB_b, V.toS_s, V.toR_r, V.toV_v, V.toN_n, V.toL_l, SV.ev, CV.ev, Sc.ev, List.getD_cons_zero, List.getD_cons_succ, List.getElem?_cons_zero, List.getElem?_cons_succ, List.map_cons, List.map_nil, List.length_cons, List.length_nil, List.cons_append, List.nil_append, Nat.zero_add, Nat.reduceAdd, List.length_map, Int.toNat_natCast, gF0, gF1, gF2, gS_encS, gI_encI, List.nil_append]
      exact ⟨r, a2, u2, v2, rfl, hq⟩
  clear hq
  rintro _ - ⟨s, a, u, v, rfl, hs⟩
  simp only [List.cons_append, List.nil_append]
  unfold dragomanlaw_SessionHolds_20
  simp only [Tree.goal, X.P, X.ev, V.toI_i, V.toB_b, V.toS_s, V.toR_r, V.toV_v, V.toN_n, V.toL_l, SV.ev, CV.ev, Sc.ev, List.getD_cons_zero, List.getD_cons_succ, List.getElem?_cons_zero, List.getElem?_cons_succ, List.map_cons, List.map_nil, List.length_cons, List.length_nil, List.cons_append, List.nil_append, Nat.zero_add, Nat.reduceAdd, List.length_map, Int.toNat_natCast, gF0, gF1, gF2, gS_encS, gI_encI, List.nil_append]
  have hlt := hs.lt
  have hlen : s.fl.length + s.qu.length = (there s).length := by simp [there]
  obtain ⟨q1, q2, q3, q4, q5⟩ := Hq.sess (c := clean) hs.ok hs.cl
  intro v1
  refine ⟨by first | omega | (simp only [List.length_append, List.length_drop, List.length_take, List.length_map, List.length_nil]; omega), fun v2 => ⟨by first | omega | (simp only [List.length_append, List.length_drop, List.length_take, List.length_map, List.length_nil]; omega), fun v3 => ?_⟩⟩
  refine ⟨[.i (chkS s)], rfl, fun _ w' hr => c_CheckS w' s u v (by (have hq := hr; repeat (first | exact hq.hd | replace hq := hq.tl))) (by (have hq := hr; repeat (first | exact hq.hd | replace hq := hq.tl))) q1 q2 q3 q4 q5, ?_⟩
  rw [chkS_iff.2 hs.ok]
  simp only [Tree.goal, X.P, X.ev, V.toI_i, V.toB_b, V.toS_s, V.toR_r, V.toV_v, V.toN_n, V.toL_l, SV.ev, CV.ev, Sc.ev, List.getD_cons_zero, List.getD_cons_succ, List.getElem?_cons_zero, List.getElem?_cons_succ, List.map_cons, List.map_nil, List.length_cons, List.length_nil, List.cons_append, List.nil_append, Nat.zero_add, Nat.reduceAdd, List.length_map, Int.toNat_natCast, gF0, gF1, gF2, gS_encS, gI_encI, List.nil_append]
  refine ⟨fun h => h.elim (fun h => absurd trivial h) (fun h => absurd (by first | omega | (simp only [List.length_append, List.length_drop, List.length_take, List.length_map, List.length_nil]; omega)) h), fun hz => ?_⟩
  clear hz
  refine ⟨fun vs => ∃ (x : V) (k : Nat), vs = [x, .i k] ∧ k ≤ (there s).length, fun vs => (there s).length - (vs.getD 1 (.i 0)).toI.toNat, ⟨x, 0, rfl, by omega⟩, ?_⟩
  rintro _ - ⟨y, k, rfl, hk⟩
  simp only [Tree.goal, X.P, X.ev, V.toI_i, V.toB_b, V.toS_s, V.toR_r, V.toV_v, V.toN_n, V.toL_l, SV.ev, CV.ev, Sc.ev, List.getD_cons_zero, List.getD_cons_succ, List.getElem?_cons_zero, List.getElem?_cons_succ, List.map_cons, List.map_nil, List.length_cons, List.length_nil, List.cons_append, List.nil_append, Nat.zero_add, Nat.reduceAdd, List.length_map, Int.toNat_natCast, gF0, gF1, gF2, gS_encS, gI_encI, List.nil_append]
  refine ⟨fun h6 => ?_, fun h6 => ⟨by omega, by omega, ⟨s, _, a, u, v, i + 1, rfl, hs, by omega⟩, by omega⟩⟩
  unfold dragomanlaw_SessionHolds_19
  simp only [← List.map_append, Tree.goal, X.P, X.ev, V.toI_i, V.toB_b, V.toS_s, V.toR_r, V.toV_v, V.toN_n, V.toL_l, SV.ev, CV.ev, Sc.ev, List.getD_cons_zero, List.getD_cons_succ, List.getElem?_cons_zero, List.getElem?_cons_succ, List.map_cons, List.map_nil, List.length_cons, List.length_nil, List.cons_append, List.nil_append, Nat.zero_add, Nat.reduceAdd, List.length_map, Int.toNat_natCast, gF0, gF1, gF2, gS_encS, gI_encI, List.nil_append]
  refine ⟨by first | omega | (simp only [List.length_append, List.length_drop, List.length_take, List.length_map, List.length_nil]; omega), by first | omega | (simp only [List.length_append, List.length_drop, List.length_take, List.length_map, List.length_nil]; omega), ?_⟩
  refine ⟨fun h7 => absurd ?_ h7, fun h7 => ⟨by omega, by omega, ⟨_, k + 1, rfl, by omega⟩, by omega⟩⟩
  rw [there, ← List.map_append, List.getD_eq_getElem?_getD, List.getD_eq_getElem?_getD, List.getElem?_map]
  cases (s.fl ++ s.qu)[k]? <;> rfl
end Go.Proofs.YtcbkkjbgacjncaaDoor

/-
  A reading's rows of strings, and of numbers. By an AI agent.
-/
set_option linter.unusedSimpArgs false
set_option linter.unusedVariables false
namespace Go.Proofs.YtcbkkjbgacjncaaDoor
open Go Go.Sx
theorem rows_S {rows : List (List Value)} (h : ∀ r ∈ rows, rowOk [.str] r) : ∃ ps, rows = List.map encS ps := by
  induction rows with
  | nil => exact ⟨[], rfl⟩
  | cons r rows ih =>
    obtain ⟨ps, hps⟩ := ih fun r hr => h r (List.mem_cons_of_mem _ hr)
    have h0 := h r (List.mem_cons_self ..)
    match r, h0 with
    | [_], ⟨⟨l, rfl⟩, _⟩ => exact ⟨l :: ps, by rw [hps]; rfl⟩
theorem rows_I {rows : List (List Value)} (h : ∀ r ∈ rows, rowOk [.int .i64] r) : ∃ ps, rows = List.map encI ps := by
  induction rows with
  | nil => exact ⟨[], rfl⟩
  | cons r rows ih =>
    obtain ⟨ps, hps⟩ := ih fun r hr => h r (List.mem_cons_of_mem _ hr)
    have h0 := h r (List.mem_cons_self ..)
    match r, h0 with
    | [_], ⟨⟨l, rfl⟩, _⟩ => exact ⟨l :: ps, by rw [hps]; rfl⟩
end Go.Proofs.YtcbkkjbgacjncaaDoor
