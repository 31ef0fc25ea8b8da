/-
  Wants: the law WantReads, walked. By an AI agent.
-/
import Derived.Test.YtliedecinehijaaDoorZ15
import Derived.Test.YtliedecinehijaaDoorZ01
import Derived.WalkKit
import Derived.ProofKit
import Derived.OpenShut
import Derived.JoinedCond
import Derived.ChangeStays
import Derived.Test.YtliedecinehijaaDoorZ05
import Derived.Test.YtliedecinehijaaDoorZ09
set_option linter.unusedSimpArgs false
set_option linter.unusedVariables false
namespace Go.Proofs.YtliedecinehijaaDoor
open Go Go.Sx

theorem matR_ok {f n : List UInt8} (h1 : chkT f true = 0) (h2 : chkT n false = 0) : matR f n = (mt (lev f) (lev n), 0) := by rw [matR, if_pos h1, if_pos h2]
theorem readC_ok {l : List Wt} {n : List UInt8} (h1 : chkW l = 0) (h2 : chkT n false = 0) : readC l n = (rdOf n l, 0) := by
  have e : readE l n = 0 := by rw [readE, if_pos h1, h2]
  rw [readC, if_pos e]
theorem goneC_ok {l : List Wt} {p : Wt → Bool} (h1 : chkW l = 0) : goneC p l = (l.filter p, 0) := by rw [goneC, if_pos h1]
theorem small_filter {l : List Wt} {p : Wt → Bool} (h : smallW l) : smallW (l.filter p) := fun x hx => h x (List.mem_filter.1 hx).1
theorem len_of {l : List Wt} (h : chkW l = 0) : l.length ≤ 20 := (chkW_iff.1 h).1
theorem rd_len {l : List Wt} (n : List UInt8) (h : chkW l = 0) : (rdOf n l).length ≤ 20 := by
  have := rdOf_len n l []
  have := len_of h
  simp only [List.length_nil] at *
  exact Nat.le_trans (by assumption) (by omega)
theorem rise_of {l : List Wt} (h : chkW l = 0) : riseW l := sortW_rise (chkW_iff.1 h).2.2
/-- The law's parts, plain. -/
theorem reads_ge {l : List Wt} {n : List UInt8} (h : chkW l = 0) {x : Wt} (hx : x ∈ l) (hf : forW n x = true) : x.2.2 ≤ qosY (rdOf n l) x.1 := by
  rw [qosY_of (rise_of h)]
  obtain ⟨q, h1, h2⟩ := bst_ge hf none hx
  rw [h1]; exact h2
theorem reads_by {l : List Wt} {n : List UInt8} (h : chkW l = 0) {y : Rd} (hy : y ∈ rdOf n l) : ∃ x ∈ l, forW n x = true ∧ x.1 = y.1 ∧ x.2.2 = y.2 := by
  have h1 := ((rdOf_ok (n := n) (rise_of h)).2 y.1 y.2).1 hy
  rcases bst_by (fun w hw => (chkW_q h w hw).2.2.1) h1 with h2 | h2
  · cases h2
  · exact h2
theorem leave_none {l : List Wt} {n c : List UInt8} (h : chkW l = 0) : qosY (rdOf n (l.filter fun w => decide (¬ w.1 = c))) c = -1 := by
  rw [qosY_of (rise_of (goneW_ok h)), bst_none fun w hw => by have := (List.mem_filter.1 hw).2; simpa using this]
  rfl
theorem leave_other {l : List Wt} {n c o : List UInt8} (h : chkW l = 0) (ho : ¬ o = c) : qosY (rdOf n (l.filter fun w => decide (¬ w.1 = c))) o = qosY (rdOf n l) o := by
  rw [qosY_of (rise_of (goneW_ok h)), qosY_of (rise_of h), bst_filter]
  intro w _ hw
  rw [hw]; exact decide_eq_true ho
theorem add_ge {l : List Wt} {n : List UInt8} {x : Wt} (h : chkW l = 0) (hx : oneE x = 0) (h0 : (rawW l x).2 = 0) (hf : forW n x = true) : x.2.2 ≤ qosY (rdOf n (rawW l x).1) x.1 := by
  refine reads_ge (rawW_ok h hx h0) ?_ hf
  rw [rawW_lo (chkW_iff.1 h).2.2 h0]; simp
theorem add_other {l : List Wt} {n o : List UInt8} {x : Wt} (h : chkW l = 0) (hx : oneE x = 0) (h0 : (rawW l x).2 = 0) (ho : ¬ o = x.1) : qosY (rdOf n (rawW l x).1) o = qosY (rdOf n l) o := by
  rw [qosY_of (rise_of (rawW_ok h hx h0)), qosY_of (rise_of h)]
  have e1 := rawW_lo (chkW_iff.1 h).2.2 h0
  have e2 := (threeW l (ky x) (chkW_iff.1 h).2.2).1
  have f : ∀ m : List Wt, bst n o none (m.filter fun w => decide (w.1 = o)) = bst n o none m := fun m => bst_filter n o _ m none fun w _ hw => decide_eq_true hw
  have z1 : [x].filter (fun w => decide (w.1 = o)) = [] := by simp [Ne.symm ho]
  have z2 : (miW l (ky x)).filter (fun w => decide (w.1 = o)) = [] := by
    rw [List.filter_eq_nil_iff]
    intro w hw
    have : ky w = ky x := by simpa using (List.mem_filter.1 hw).2
    have : w.1 = x.1 := congrArg (fun k : Ky => k.1) this
    rw [this]; simpa using Ne.symm ho
  rw [← f (rawW l x).1, ← f l, e1]
  conv => rhs; rw [e2]
  rw [List.filter_append, List.filter_append, List.filter_append, List.filter_append, z1, z2]
theorem rawW_small {l : List Wt} {x : Wt} (h : chkW l = 0) (hs : smallW l) (hx : smW x) (h0 : (rawW l x).2 = 0) : smallW (rawW l x).1 := by
  rw [rawW_lo (chkW_iff.1 h).2.2 h0]
  intro y hy
  rcases List.mem_append.1 hy with hy | hy
  · rcases List.mem_append.1 hy with hy | hy
    · exact hs y (List.mem_filter.1 hy).1
    · rw [List.mem_singleton.1 hy]; exact hx
  · exact hs y (List.mem_filter.1 hy).1
set_option maxHeartbeats 4000000 in
theorem c_WantReads (w : World) (v : Value) (l : List Wt) (c : List UInt8) (f : List UInt8) (q : Int) (n : List UInt8) (hv : readsW w v l) (hs : smallW l) (hl : l.length < 1000000000) (hc : c.length < 1000000000) (hf : f.length < 1000000000) (hn : n.length < 1000000000) :
    Calls Tryd.prog 10 #[sc1 v, .string ⟨c.toArray⟩, .agg #[.string ⟨f.toArray⟩, .int .i64 q], .string ⟨n.toArray⟩] w fun e w' => e = .returned (.bool true) ∧ Mod [] w w' := by
  refine as_called (run_tree2 (ρ := [.v v, .r (l.map encW), .s c, .s f, .i q, .s n]) sxE_ok Tryd.func10 tree_dragomanlaw_WantReads rfl rfl (Rel.start2 (by simp [Ent.holds, Ent.wr, hv, X.ev])) rfl rfl ?_) rfl
  simp only [Tree.goal, X.P, X.ev, V.toI_i, V.toB_b, V.toS_s, V.toR_r, V.toV_v, V.toN_n, V.toL_l, SV.ev, CV.ev, Sc.ev, List.getD_cons_zero, List.getD_cons_succ, List.getElem?_cons_zero, List.getElem?_cons_succ, List.map_cons, List.map_nil, List.length_cons, List.length_nil, List.cons_append, List.nil_append, Nat.zero_add, Nat.reduceAdd, List.length_map, Int.toNat_natCast, gW0, gW1, gW2, gY0, gY1]
  intro b1
  refine ⟨[.b true], rfl, fun _ w' _ => c_wantBegun w', ?_⟩
  simp only [Tree.goal, X.P, X.ev, V.toI_i, V.toB_b, V.toS_s, V.toR_r, V.toV_v, V.toN_n, V.toL_l, SV.ev, CV.ev, Sc.ev, List.getD_cons_zero, List.getD_cons_succ, List.getElem?_cons_zero, List.getElem?_cons_succ, List.map_cons, List.map_nil, List.length_cons, List.length_nil, List.cons_append, List.nil_append, Nat.zero_add, Nat.reduceAdd, List.length_map, Int.toNat_natCast, gW0, gW1, gW2, gY0, gY1]
  refine ⟨[.b true], rfl, fun _ w' _ => c_topicBegun w', ?_⟩
  simp only [Tree.goal, X.P, X.ev, V.toI_i, V.toB_b, V.toS_s, V.toR_r, V.toV_v, V.toN_n, V.toL_l, SV.ev, CV.ev, Sc.ev, List.getD_cons_zero, List.getD_cons_succ, List.getElem?_cons_zero, List.getElem?_cons_succ, List.map_cons, List.map_nil, List.length_cons, List.length_nil, List.cons_append, List.nil_append, Nat.zero_add, Nat.reduceAdd, List.length_map, Int.toNat_natCast, gW0, gW1, gW2, gY0, gY1]
  refine ⟨fun h => h.elim (fun h => absurd trivial h) (fun h => absurd trivial h), fun _ => ?_⟩
  intro w1 hr
  refine (c_Readers w1 v l n (by (have hq := hr; repeat (first | exact hq.hd | replace hq := hq.tl))) hs hl hn).mono ?_
  by_cases hE : ¬ readE l n = 0
  · have e1 : readC l n = ([], readE l n) := by rw [readC, if_neg hE]
    rw [e1]
    rintro e w2 ⟨vR, rfl, g1, g2, gm⟩
    refine ⟨[.v vR, .r (([] : List Rd).map encY), .i (readE l n)], rfl, rfl, gm, List.forall_mem_nil _, List.forall_mem_cons.2 ⟨⟨g1, fun k hk => .inl (g2 k hk.2)⟩, List.forall_mem_nil _⟩, apart_one, ?_⟩; clear hr g1 g2 gm; simp only [Tree.goal, X.P, X.ev, V.toI_i, V.toB_b, V.toS_s, V.toR_r, V.toV_v, V.toN_n, V.toL_l, SV.ev, CV.ev, Sc.ev, List.getD_cons_zero, List.getD_cons_succ, List.getElem?_cons_zero, List.getElem?_cons_succ, List.map_cons, List.map_nil, List.length_cons, List.length_nil, List.cons_append, List.nil_append, Nat.zero_add, Nat.reduceAdd, List.length_map, Int.toNat_natCast, gW0, gW1, gW2, gY0, gY1]
    exact ⟨fun _ w' hr => ⟨by simp, hr.mod⟩, fun h => absurd hE h⟩
  have hE := Classical.not_not.1 hE
  have h0 : chkW l = 0 := by
    refine Classical.byContradiction fun h => ?_
    rw [readE, if_neg h] at hE; exact h hE
  have hN : chkT n false = 0 := by rwa [readE, if_pos h0] at hE
  rw [readC_ok h0 hN]
  have lR := rd_len n h0
  have lL := len_of h0
  rintro e w2 ⟨vR, rfl, g1, g2, gm⟩
  refine ⟨[.v vR, .r ((rdOf n l).map encY), .i 0], rfl, rfl, gm, List.forall_mem_nil _, List.forall_mem_cons.2 ⟨⟨g1, fun k hk => .inl (g2 k hk.2)⟩, List.forall_mem_nil _⟩, apart_one, ?_⟩; clear hr g1 g2 gm; simp only [Tree.goal, X.P, X.ev, V.toI_i, V.toB_b, V.toS_s, V.toR_r, V.toV_v, V.toN_n, V.toL_l, SV.ev, CV.ev, Sc.ev, List.getD_cons_zero, List.getD_cons_succ, List.getElem?_cons_zero, List.getElem?_cons_succ, List.map_cons, List.map_nil, List.length_cons, List.length_nil, List.cons_append, List.nil_append, Nat.zero_add, Nat.reduceAdd, List.length_map, Int.toNat_natCast, gW0, gW1, gW2, gY0, gY1]
  refine ⟨fun h => absurd trivial h, fun _ => ?_⟩
  -- each want that is for the topic
  refine ⟨fun vs => ∃ (i : Nat) (u : V), vs = [u, .i i] ∧ i ≤ l.length, fun vs => l.length - (vs.getD 1 (.i 0)).toI.toNat, ⟨0, _, rfl, by omega⟩, ?_⟩
  rintro _ - ⟨i, u, rfl, hi⟩
  simp only [Tree.goal, X.P, X.ev, V.toI_i, V.toB_b, V.toS_s, V.toR_r, V.toV_v, V.toN_n, V.toL_l, SV.ev, CV.ev, Sc.ev, List.getD_cons_zero, List.getD_cons_succ, List.getElem?_cons_zero, List.getElem?_cons_succ, List.map_cons, List.map_nil, List.length_cons, List.length_nil, List.cons_append, List.nil_append, Nat.zero_add, Nat.reduceAdd, List.length_map, Int.toNat_natCast, gW0, gW1, gW2, gY0, gY1]
  refine ⟨fun h1 => ?_, fun h1 => ?_⟩
  · have hx := memW l i (by omega)
    have hq := chkW_q h0 _ hx
    have sx := smallW_at hs i
    refine ⟨by omega, ?_⟩
    refine ⟨[.b (matR (l.getD i wD).2.1 n).1, .i (matR (l.getD i wD).2.1 n).2], rfl, fun _ w' _ => c_Match w' _ _ (by have := sx.2; omega) (by omega), ?_⟩
    rw [matR_ok hq.2.1 hN]
    simp only [Tree.goal, X.P, X.ev, V.toI_i, V.toB_b, V.toS_s, V.toR_r, V.toV_v, V.toN_n, V.toL_l, SV.ev, CV.ev, Sc.ev, List.getD_cons_zero, List.getD_cons_succ, List.getElem?_cons_zero, List.getElem?_cons_succ, List.map_cons, List.map_nil, List.length_cons, List.length_nil, List.cons_append, List.nil_append, Nat.zero_add, Nat.reduceAdd, List.length_map, Int.toNat_natCast, gW0, gW1, gW2, gY0, gY1]
    refine ⟨[.i (qosY (rdOf n l) (l.getD i wD).1)], rfl, fun _ w' hr => c_qosOf w' vR (rdOf n l) _ (by (have hq := hr; repeat (first | exact hq.hd | replace hq := hq.tl))) (by omega), ?_⟩
    simp only [Tree.goal, X.P, X.ev, V.toI_i, V.toB_b, V.toS_s, V.toR_r, V.toV_v, V.toN_n, V.toL_l, SV.ev, CV.ev, Sc.ev, List.getD_cons_zero, List.getD_cons_succ, List.getElem?_cons_zero, List.getElem?_cons_succ, List.map_cons, List.map_nil, List.length_cons, List.length_nil, List.cons_append, List.nil_append, Nat.zero_add, Nat.reduceAdd, List.length_map, Int.toNat_natCast, gW0, gW1, gW2, gY0, gY1]
    refine ⟨fun h2 => ?_, fun h2 => ⟨by omega, by omega, ⟨i + 1, _, rfl, by omega⟩, by omega⟩⟩
    rcases h2 with h2 | ⟨h2, h3⟩
    · exact absurd trivial h2
    · have := reads_ge h0 hx h2
      omega
  -- each reader
  refine ⟨fun vs => ∃ (i : Nat) (u : V), vs = [u, .i i] ∧ i ≤ (rdOf n l).length, fun vs => (rdOf n l).length - (vs.getD 1 (.i 0)).toI.toNat, ⟨0, _, rfl, by omega⟩, ?_⟩
  rintro _ - ⟨i, u, rfl, hi⟩
  simp only [Tree.goal, X.P, X.ev, V.toI_i, V.toB_b, V.toS_s, V.toR_r, V.toV_v, V.toN_n, V.toL_l, SV.ev, CV.ev, Sc.ev, List.getD_cons_zero, List.getD_cons_succ, List.getElem?_cons_zero, List.getElem?_cons_succ, List.map_cons, List.map_nil, List.length_cons, List.length_nil, List.cons_append, List.nil_append, Nat.zero_add, Nat.reduceAdd, List.length_map, Int.toNat_natCast, gW0, gW1, gW2, gY0, gY1]
  refine ⟨fun h2 => ?_, fun h2 => ?_⟩
  · have hy := memY (rdOf n l) i (by omega)
    obtain ⟨x0, hx0, hb1, hb2, hb3⟩ := reads_by h0 hy
    generalize (rdOf n l).getD i yD = y at hb2 hb3
    refine ⟨fun vs => ∃ (is : Bool) (k : Nat), vs = [.b is, .i k] ∧ k ≤ l.length ∧ (is = false → ∀ j, j < k → ¬ (forW n (l.getD j wD) = true ∧ (l.getD j wD).1 = y.1 ∧ (l.getD j wD).2.2 = y.2)), fun vs => l.length - (vs.getD 1 (.i 0)).toI.toNat, ⟨false, 0, rfl, by omega, fun _ j hj => by omega⟩, ?_⟩
    rintro _ - ⟨is, k, rfl, hk, hno⟩
    simp only [Tree.goal, X.P, X.ev, V.toI_i, V.toB_b, V.toS_s, V.toR_r, V.toV_v, V.toN_n, V.toL_l, SV.ev, CV.ev, Sc.ev, List.getD_cons_zero, List.getD_cons_succ, List.getElem?_cons_zero, List.getElem?_cons_succ, List.map_cons, List.map_nil, List.length_cons, List.length_nil, List.cons_append, List.nil_append, Nat.zero_add, Nat.reduceAdd, List.length_map, Int.toNat_natCast, gW0, gW1, gW2, gY0, gY1]
    refine ⟨fun h3 => ?_, fun h3 => ⟨fun h4 => ?_, fun h4 => ⟨by omega, by omega, ⟨i + 1, _, rfl, by omega⟩, by omega⟩⟩⟩
    · have hx := memW l k (by omega)
      have hq := chkW_q h0 _ hx
      have sx := smallW_at hs k
      refine ⟨by omega, ?_⟩
      refine ⟨[.b (matR (l.getD k wD).2.1 n).1, .i (matR (l.getD k wD).2.1 n).2], rfl, fun _ w' _ => c_Match w' _ _ (by have := sx.2; omega) (by omega), ?_⟩
      rw [matR_ok hq.2.1 hN]
      simp only [Tree.goal, X.P, X.ev, V.toI_i, V.toB_b, V.toS_s, V.toR_r, V.toV_v, V.toN_n, V.toL_l, SV.ev, CV.ev, Sc.ev, List.getD_cons_zero, List.getD_cons_succ, List.getElem?_cons_zero, List.getElem?_cons_succ, List.map_cons, List.map_nil, List.length_cons, List.length_nil, List.cons_append, List.nil_append, Nat.zero_add, Nat.reduceAdd, List.length_map, Int.toNat_natCast, gW0, gW1, gW2, gY0, gY1]
      refine ⟨.inr (by omega), .inr (by omega), by omega, by omega, ⟨_, k + 1, rfl, by omega, fun hf j hj => ?_⟩, by omega⟩
      by_cases hji : j = k
      · subst hji
        rintro ⟨a1, a2, a3⟩
        rw [forW] at a1
        rw [a1, decide_eq_true a2, decide_eq_true a3] at hf
        simp at hf
      · exact hno (Bool.or_eq_false_iff.1 hf).1 j (by omega)
    · exfalso
      obtain ⟨j, hj, rfl⟩ := List.getElem_of_mem hx0
      have := hno (by simpa using h4) j (by omega)
      rw [List.getD_eq_getElem?_getD, List.getElem?_eq_getElem hj] at this
      exact this ⟨hb1, hb2, hb3⟩
  -- one want more, one client less
  intro w1 hr
  have hca := c_AddW w1 v l (c, f, q) (by (have hq := hr; repeat (first | exact hq.hd | replace hq := hq.tl))) hs hl ⟨hc, hf⟩
  generalize eA : addC l (c, f, q) = rA at hca
  obtain ⟨rA, eA'⟩ := rA
  refine hca.mono ?_
  rintro e w2 ⟨vB, rfl, g1, g2, gm⟩
  refine ⟨[.v vB, .r (rA.map encW), .i eA'], rfl, rfl, gm, List.forall_mem_nil _, List.forall_mem_cons.2 ⟨⟨g1, fun k hk => .inl (g2 k hk.2)⟩, List.forall_mem_nil _⟩, apart_one, ?_⟩; clear hr g1 g2 gm; simp only [Tree.goal, X.P, X.ev, V.toI_i, V.toB_b, V.toS_s, V.toR_r, V.toV_v, V.toN_n, V.toL_l, SV.ev, CV.ev, Sc.ev, List.getD_cons_zero, List.getD_cons_succ, List.getElem?_cons_zero, List.getElem?_cons_succ, List.map_cons, List.map_nil, List.length_cons, List.length_nil, List.cons_append, List.nil_append, Nat.zero_add, Nat.reduceAdd, List.length_map, Int.toNat_natCast, gW0, gW1, gW2, gY0, gY1]
  intro w1 hr
  have hcl := c_LeaveW w1 v l c (by (have hq := hr; repeat (first | exact hq.hd | replace hq := hq.tl))) hs hl
  rw [goneC_ok h0] at hcl
  generalize elv : l.filter (fun w => decide (¬ w.1 = c)) = lv at hcl
  have hlv : chkW lv = 0 := elv ▸ goneW_ok h0
  have slv : smallW lv := elv ▸ small_filter hs
  have llv := len_of hlv
  refine hcl.mono ?_
  rintro e w2 ⟨vC, rfl, g1, g2, gm⟩
  refine ⟨[.v vC, .r (lv.map encW), .i 0], rfl, rfl, gm, List.forall_mem_nil _, List.forall_mem_cons.2 ⟨⟨g1, fun k hk => .inl (g2 k hk.2)⟩, List.forall_mem_nil _⟩, apart_one, ?_⟩; clear hr g1 g2 gm; simp only [Tree.goal, X.P, X.ev, V.toI_i, V.toB_b, V.toS_s, V.toR_r, V.toV_v, V.toN_n, V.toL_l, SV.ev, CV.ev, Sc.ev, List.getD_cons_zero, List.getD_cons_succ, List.getElem?_cons_zero, List.getElem?_cons_succ, List.map_cons, List.map_nil, List.length_cons, List.length_nil, List.cons_append, List.nil_append, Nat.zero_add, Nat.reduceAdd, List.length_map, Int.toNat_natCast, gW0, gW1, gW2, gY0, gY1]
  refine ⟨fun h => absurd trivial h, fun _ => ?_⟩
  intro w1 hr
  have hcr := c_Readers w1 vC lv n (by (have hq := hr; repeat (first | exact hq.hd | replace hq := hq.tl))) slv (by omega) hn
  rw [readC_ok hlv hN] at hcr
  refine hcr.mono ?_
  rintro e w2 ⟨vX, rfl, g1, g2, gm⟩
  refine ⟨[.v vX, .r ((rdOf n lv).map encY), .i 0], rfl, rfl, gm, List.forall_mem_nil _, List.forall_mem_cons.2 ⟨⟨g1, fun k hk => .inl (g2 k hk.2)⟩, List.forall_mem_nil _⟩, apart_one, ?_⟩; clear hr g1 g2 gm; simp only [Tree.goal, X.P, X.ev, V.toI_i, V.toB_b, V.toS_s, V.toR_r, V.toV_v, V.toN_n, V.toL_l, SV.ev, CV.ev, Sc.ev, List.getD_cons_zero, List.getD_cons_succ, List.getElem?_cons_zero, List.getElem?_cons_succ, List.map_cons, List.map_nil, List.length_cons, List.length_nil, List.cons_append, List.nil_append, Nat.zero_add, Nat.reduceAdd, List.length_map, Int.toNat_natCast, gW0, gW1, gW2, gY0, gY1]
  have lX := rd_len n hlv
  have hnone : qosY (rdOf n lv) c = -1 := elv ▸ leave_none h0
  have hoth : ∀ o, ¬ o = c → qosY (rdOf n lv) o = qosY (rdOf n l) o := fun o ho => elv ▸ leave_other h0 ho
  refine ⟨[.i (qosY (rdOf n lv) c)], rfl, fun _ w' hr => c_qosOf w' vX (rdOf n lv) c (by (have hq := hr; repeat (first | exact hq.hd | replace hq := hq.tl))) (by omega), ?_⟩
  simp only [Tree.goal, X.P, X.ev, V.toI_i, V.toB_b, V.toS_s, V.toR_r, V.toV_v, V.toN_n, V.toL_l, SV.ev, CV.ev, Sc.ev, List.getD_cons_zero, List.getD_cons_succ, List.getElem?_cons_zero, List.getElem?_cons_succ, List.map_cons, List.map_nil, List.length_cons, List.length_nil, List.cons_append, List.nil_append, Nat.zero_add, Nat.reduceAdd, List.length_map, Int.toNat_natCast, gW0, gW1, gW2, gY0, gY1, hnone]
  refine ⟨fun h => h.elim (fun h => absurd trivial h) (fun h => absurd h (by decide)), fun _ => ?_⟩
  refine ⟨fun hA => ?_, fun hA => ?_⟩
  · obtain ⟨hx1, hr0, rfl⟩ : oneE (c, f, q) = 0 ∧ (rawW l (c, f, q)).2 = 0 ∧ rA = (rawW l (c, f, q)).1 := by
      have hA' : eA' = 0 := hA
      unfold addC at eA
      by_cases h : addE l (c, f, q) = 0
      · rw [if_pos h] at eA
        have : oneE (c, f, q) = 0 := by rwa [addE, if_pos h0] at h
        exact ⟨this, by rw [eA]; exact hA', by rw [eA]⟩
      · rw [if_neg h] at eA
        have := congrArg Prod.snd eA
        exact absurd (this.trans hA') h
    have hb := rawW_ok h0 hx1 hr0
    have sb := rawW_small h0 hs ⟨hc, hf⟩ hr0
    have hge := fun hm => add_ge (n := n) h0 hx1 hr0 hm
    have hadd : ∀ o, ¬ o = c → qosY (rdOf n (rawW l (c, f, q)).1) o = qosY (rdOf n l) o := fun o ho => add_other h0 hx1 hr0 ho
    have lb := len_of hb
    have lY := rd_len n hb
    have hq1 := oneE_q hx1
    generalize (rawW l (c, f, q)).1 = lw at hb sb hge hadd lb lY
    clear eA hca
    intro w1 hr
    have hcr := c_Readers w1 vB lw n (by (have hq := hr; repeat (first | exact hq.hd | replace hq := hq.tl))) sb (by omega) hn
    rw [readC_ok hb hN] at hcr
    refine hcr.mono ?_
    rintro e w2 ⟨vY, rfl, g1, g2, gm⟩
    refine ⟨[.v vY, .r ((rdOf n lw).map encY), .i 0], rfl, rfl, gm, List.forall_mem_nil _, List.forall_mem_cons.2 ⟨⟨g1, fun k hk => .inl (g2 k hk.2)⟩, List.forall_mem_nil _⟩, apart_one, ?_⟩; clear hr g1 g2 gm; simp only [Tree.goal, X.P, X.ev, V.toI_i, V.toB_b, V.toS_s, V.toR_r, V.toV_v, V.toN_n, V.toL_l, SV.ev, CV.ev, Sc.ev, List.getD_cons_zero, List.getD_cons_succ, List.getElem?_cons_zero, List.getElem?_cons_succ, List.map_cons, List.map_nil, List.length_cons, List.length_nil, List.cons_append, List.nil_append, Nat.zero_add, Nat.reduceAdd, List.length_map, Int.toNat_natCast, gW0, gW1, gW2, gY0, gY1]
    refine ⟨[.b (matR f n).1, .i (matR f n).2], rfl, fun _ w' _ => c_Match w' f n (by omega) (by omega), ?_⟩
    rw [matR_ok hq1.2.1 hN]
    simp only [Tree.goal, X.P, X.ev, V.toI_i, V.toB_b, V.toS_s, V.toR_r, V.toV_v, V.toN_n, V.toL_l, SV.ev, CV.ev, Sc.ev, List.getD_cons_zero, List.getD_cons_succ, List.getElem?_cons_zero, List.getElem?_cons_succ, List.map_cons, List.map_nil, List.length_cons, List.length_nil, List.cons_append, List.nil_append, Nat.zero_add, Nat.reduceAdd, List.length_map, Int.toNat_natCast, gW0, gW1, gW2, gY0, gY1]
    refine ⟨[.i (qosY (rdOf n lw) c)], rfl, fun _ w' hr => c_qosOf w' vY (rdOf n lw) c (by (have hq := hr; repeat (first | exact hq.hd | replace hq := hq.tl))) (by omega), ?_⟩
    simp only [Tree.goal, X.P, X.ev, V.toI_i, V.toB_b, V.toS_s, V.toR_r, V.toV_v, V.toN_n, V.toL_l, SV.ev, CV.ev, Sc.ev, List.getD_cons_zero, List.getD_cons_succ, List.getElem?_cons_zero, List.getElem?_cons_succ, List.map_cons, List.map_nil, List.length_cons, List.length_nil, List.cons_append, List.nil_append, Nat.zero_add, Nat.reduceAdd, List.length_map, Int.toNat_natCast, gW0, gW1, gW2, gY0, gY1]
    refine ⟨fun h => ?_, fun _ => ?_⟩
    · exfalso
      rcases h with (h | h) | ⟨h1, h2⟩
      · exact h trivial
      · exact h trivial
      · have := hge h1
        simp only at this
        omega
    refine ⟨fun vs => ∃ (i : Nat) (u : V), vs = [u, .i i] ∧ i ≤ l.length, fun vs => l.length - (vs.getD 1 (.i 0)).toI.toNat, ⟨0, _, rfl, by omega⟩, ?_⟩; rintro _ - ⟨i, u, rfl, hi⟩; simp only [Tree.goal, X.P, X.ev, V.toI_i, V.toB_b, V.toS_s, V.toR_r, V.toV_v, V.toN_n, V.toL_l, SV.ev, CV.ev, Sc.ev, List.getD_cons_zero, List.getD_cons_succ, List.getElem?_cons_zero, List.getElem?_cons_succ, List.map_cons, List.map_nil, List.length_cons, List.length_nil, List.cons_append, List.nil_append, Nat.zero_add, Nat.reduceAdd, List.length_map, Int.toNat_natCast, gW0, gW1, gW2, gY0, gY1]; refine ⟨fun h1 => ⟨by omega, ?_⟩, fun h1 w' hr => ⟨by trivial, hr.mod⟩⟩; refine ⟨[.i (qosY (rdOf n lv) (l.getD i wD).1)], rfl, fun _ w' hr => c_qosOf w' vX (rdOf n lv) _ (by (have hq := hr; repeat (first | exact hq.hd | replace hq := hq.tl))) (by omega), ?_⟩; simp only [Tree.goal, X.P, X.ev, V.toI_i, V.toB_b, V.toS_s, V.toR_r, V.toV_v, V.toN_n, V.toL_l, SV.ev, CV.ev, Sc.ev, List.getD_cons_zero, List.getD_cons_succ, List.getElem?_cons_zero, List.getElem?_cons_succ, List.map_cons, List.map_nil, List.length_cons, List.length_nil, List.cons_append, List.nil_append, Nat.zero_add, Nat.reduceAdd, List.length_map, Int.toNat_natCast, gW0, gW1, gW2, gY0, gY1]; refine ⟨[.i (qosY (rdOf n l) (l.getD i wD).1)], rfl, fun _ w' hr => c_qosOf w' vR (rdOf n l) _ (by (have hq := hr; repeat (first | exact hq.hd | replace hq := hq.tl))) (by omega), ?_⟩; simp only [Tree.goal, X.P, X.ev, V.toI_i, V.toB_b, V.toS_s, V.toR_r, V.toV_v, V.toN_n, V.toL_l, SV.ev, CV.ev, Sc.ev, List.getD_cons_zero, List.getD_cons_succ, List.getElem?_cons_zero, List.getElem?_cons_succ, List.map_cons, List.map_nil, List.length_cons, List.length_nil, List.cons_append, List.nil_append, Nat.zero_add, Nat.reduceAdd, List.length_map, Int.toNat_natCast, gW0, gW1, gW2, gY0, gY1]
    refine ⟨[.i (qosY (rdOf n lw) (l.getD i wD).1)], rfl, fun _ w' hr => c_qosOf w' vY (rdOf n lw) _ (by (have hq := hr; repeat (first | exact hq.hd | replace hq := hq.tl))) (by omega), ?_⟩
    simp only [Tree.goal, X.P, X.ev, V.toI_i, V.toB_b, V.toS_s, V.toR_r, V.toV_v, V.toN_n, V.toL_l, SV.ev, CV.ev, Sc.ev, List.getD_cons_zero, List.getD_cons_succ, List.getElem?_cons_zero, List.getElem?_cons_succ, List.map_cons, List.map_nil, List.length_cons, List.length_nil, List.cons_append, List.nil_append, Nat.zero_add, Nat.reduceAdd, List.length_map, Int.toNat_natCast, gW0, gW1, gW2, gY0, gY1]
    refine ⟨[.i (qosY (rdOf n l) (l.getD i wD).1)], rfl, fun _ w' hr => c_qosOf w' vR (rdOf n l) _ (by (have hq := hr; repeat (first | exact hq.hd | replace hq := hq.tl))) (by omega), ?_⟩; simp only [Tree.goal, X.P, X.ev, V.toI_i, V.toB_b, V.toS_s, V.toR_r, V.toV_v, V.toN_n, V.toL_l, SV.ev, CV.ev, Sc.ev, List.getD_cons_zero, List.getD_cons_succ, List.getElem?_cons_zero, List.getElem?_cons_succ, List.map_cons, List.map_nil, List.length_cons, List.length_nil, List.cons_append, List.nil_append, Nat.zero_add, Nat.reduceAdd, List.length_map, Int.toNat_natCast, gW0, gW1, gW2, gY0, gY1]; refine ⟨fun h2 => ?_, fun h2 => ⟨by omega, by omega, ⟨i + 1, _, rfl, by omega⟩, by omega⟩⟩
    exfalso
    rcases h2.2 with h3 | h3
    · exact h3 (hoth _ h2.1)
    · exact h3 (hadd _ h2.1)
  · refine ⟨fun vs => ∃ (i : Nat) (u : V), vs = [u, .i i] ∧ i ≤ l.length, fun vs => l.length - (vs.getD 1 (.i 0)).toI.toNat, ⟨0, _, rfl, by omega⟩, ?_⟩; rintro _ - ⟨i, u, rfl, hi⟩; simp only [Tree.goal, X.P, X.ev, V.toI_i, V.toB_b, V.toS_s, V.toR_r, V.toV_v, V.toN_n, V.toL_l, SV.ev, CV.ev, Sc.ev, List.getD_cons_zero, List.getD_cons_succ, List.getElem?_cons_zero, List.getElem?_cons_succ, List.map_cons, List.map_nil, List.length_cons, List.length_nil, List.cons_append, List.nil_append, Nat.zero_add, Nat.reduceAdd, List.length_map, Int.toNat_natCast, gW0, gW1, gW2, gY0, gY1]; refine ⟨fun h1 => ⟨by omega, ?_⟩, fun h1 w' hr => ⟨by trivial, hr.mod⟩⟩; refine ⟨[.i (qosY (rdOf n lv) (l.getD i wD).1)], rfl, fun _ w' hr => c_qosOf w' vX (rdOf n lv) _ (by (have hq := hr; repeat (first | exact hq.hd | replace hq := hq.tl))) (by omega), ?_⟩; simp only [Tree.goal, X.P, X.ev, V.toI_i, V.toB_b, V.toS_s, V.toR_r, V.toV_v, V.toN_n, V.toL_l, SV.ev, CV.ev, Sc.ev, List.getD_cons_zero, List.getD_cons_succ, List.getElem?_cons_zero, List.getElem?_cons_succ, List.map_cons, List.map_nil, List.length_cons, List.length_nil, List.cons_append, List.nil_append, Nat.zero_add, Nat.reduceAdd, List.length_map, Int.toNat_natCast, gW0, gW1, gW2, gY0, gY1]; refine ⟨[.i (qosY (rdOf n l) (l.getD i wD).1)], rfl, fun _ w' hr => c_qosOf w' vR (rdOf n l) _ (by (have hq := hr; repeat (first | exact hq.hd | replace hq := hq.tl))) (by omega), ?_⟩; simp only [Tree.goal, X.P, X.ev, V.toI_i, V.toB_b, V.toS_s, V.toR_r, V.toV_v, V.toN_n, V.toL_l, SV.ev, CV.ev, Sc.ev, List.getD_cons_zero, List.getD_cons_succ, List.getElem?_cons_zero, List.getElem?_cons_succ, List.map_cons, List.map_nil, List.length_cons, List.length_nil, List.cons_append, List.nil_append, Nat.zero_add, Nat.reduceAdd, List.length_map, Int.toNat_natCast, gW0, gW1, gW2, gY0, gY1]
    refine ⟨[.i (qosY (rdOf n lv) (l.getD i wD).1)], rfl, fun _ w' hr => c_qosOf w' vX (rdOf n lv) _ (by (have hq := hr; repeat (first | exact hq.hd | replace hq := hq.tl))) (by omega), ?_⟩
    simp only [Tree.goal, X.P, X.ev, V.toI_i, V.toB_b, V.toS_s, V.toR_r, V.toV_v, V.toN_n, V.toL_l, SV.ev, CV.ev, Sc.ev, List.getD_cons_zero, List.getD_cons_succ, List.getElem?_cons_zero, List.getElem?_cons_succ, List.map_cons, List.map_nil, List.length_cons, List.length_nil, List.cons_append, List.nil_append, Nat.zero_add, Nat.reduceAdd, List.length_map, Int.toNat_natCast, gW0, gW1, gW2, gY0, gY1]
    refine ⟨[.i (qosY (rdOf n l) (l.getD i wD).1)], rfl, fun _ w' hr => c_qosOf w' vR (rdOf n l) _ (by (have hq := hr; repeat (first | exact hq.hd | replace hq := hq.tl))) (by omega), ?_⟩; simp only [Tree.goal, X.P, X.ev, V.toI_i, V.toB_b, V.toS_s, V.toR_r, V.toV_v, V.toN_n, V.toL_l, SV.ev, CV.ev, Sc.ev, List.getD_cons_zero, List.getD_cons_succ, List.getElem?_cons_zero, List.getElem?_cons_succ, List.map_cons, List.map_nil, List.length_cons, List.length_nil, List.cons_append, List.nil_append, Nat.zero_add, Nat.reduceAdd, List.length_map, Int.toNat_natCast, gW0, gW1, gW2, gY0, gY1]; refine ⟨fun h2 => ?_, fun h2 => ⟨by omega, by omega, ⟨i + 1, _, rfl, by omega⟩, by omega⟩⟩
    exfalso
    rcases h2.2 with h3 | h3
    · exact h3 (hoth _ h2.1)
    · exact h3 (hoth _ h2.1)
end Go.Proofs.YtliedecinehijaaDoor

/-
  What a law's row wants of a walk that leaves all old memory as it was. By an AI agent.
-/
set_option linter.unusedSimpArgs false
set_option linter.unusedVariables false
namespace Go.Sx
open Go Go.ChangeShapes Go.WideShapes Go.ChangeAt Go.RowKit
section
variable {H : Type} {enc : TypeId × Value → H} {P : Program}

/-- No slice's element is without cells. -/
def solidB (P : Program) (ts : List TypeId) : Bool := ts.all fun t => match P.underlying t with | some (.slice e) => decide (0 < P.cellsOf e) | _ => true
/-- Closed under what a reading goes to. -/
def closedB (P : Program) (ts : List TypeId) : Bool := ts.all fun t => match P.underlying t with
  | some (.slice e) => ts.contains e
  | some (.pointer e) => ts.contains e
  | some (.array _ e) => ts.contains e
  | some (.map _ e) => ts.contains e
  | some (.struct fs) => fs.toList.all fun f => ts.contains f.type
  | _ => true

theorem kids_of (hl : laidOutB P = true) (hm : mapsRowed P = true) {ts : List TypeId} (hc : closedB P ts = true) (hs : ts.all (fun t => decide (t < P.types.size)) = true) : Kids P (· ∈ ts) := by
  have K := kids_rows hl hm
  have hs' : ∀ t ∈ ts, t < P.types.size := fun t ht => by simpa using List.all_eq_true.1 hs t ht
  have hc' := fun t ht => List.all_eq_true.1 hc t ht
  refine ⟨fun {t e} ht hu => ?_, fun {t e} ht hu => ?_, fun {t e n} ht hu => ⟨?_, (K.array (hs' t ht) hu).2⟩, fun {t fs} ht hu => ⟨?_, (K.struct (hs' t ht) hu).2⟩, fun {t k e} ht hu => ?_⟩
  · have := hc' t ht; rw [hu] at this; simpa using this
  · have := hc' t ht; rw [hu] at this; simpa using this
  · have := hc' t ht; rw [hu] at this; simpa using this
  · have := hc' t ht; rw [hu] at this; simp only [List.all_eq_true] at this; exact fun f hf => by simpa using this f hf
  · have := hc' t ht; rw [hu] at this; simpa using this

theorem sameAt_of_block {w w' : World} {p : MemPlace} (h : w'.heap[p.block]? = w.heap[p.block]?) : w.sameAt w' p := by
  cases p with
  | cell b off => exact World.cell?_of_block h
  | map b => exact h

theorem trodAll_stays {w w' : World} {sp : Nat → Bool} {T : TypeId → Prop} (K : Kids P T) (hsz : ∀ {t e : TypeId}, T t → P.underlying t = some (.slice e) → 0 < P.cellsOf e) :
    ∀ {ts : List TypeId} {vs : List Value} {ds : List (DataW H)} {ps : List MemPlace}, (∀ t ∈ ts, T t) → DataW.TrodAll enc P w 0 (fun _ => true) true ts vs ds ps →
      (∀ p ∈ ps, w.sameAt w' p) → (∀ p ∈ ps, sp p.block = true) → DataW.TrodAll enc P w' 0 sp true ts vs ds ps
  | [], _, _, _, _, h, _, _ => by
    obtain ⟨rfl, rfl, rfl⟩ := trodAll_nil h
    exact trodAll_mk0
  | t :: ts, _, _, _, ht, h, hs, hp => by
    obtain ⟨v, vs1, d, ds1, a, b, rfl, rfl, rfl, h1, h2⟩ := trodAll_cons h
    obtain ⟨n, h1⟩ := h1
    exact ⟨a, b, ⟨n, DataW.trod_stays K hsz (fun h => by cases h) (ht t (List.mem_cons_self ..)) h1 (fun p hp' => hs p (List.mem_append_left _ hp')) (fun p hp' => hp p (List.mem_append_left _ hp'))⟩,
      trodAll_stays K hsz (fun u hu => ht u (List.mem_cons_of_mem _ hu)) h2 (fun p hp' => hs p (List.mem_append_right _ hp')) (fun p hp' => hp p (List.mem_append_right _ hp')), rfl⟩

/-- A law that answered true, and left all old memory as it was. -/
theorem law_post {f : Func} {s : ChangeSpec} {fresh handsOn again : Bool} {W W' : World} {args : Array Value} {ds gs : List (DataW H)} {before : List MemPlace} {tb : TypeId} (ts : List TypeId)
    (hW : DataW.Whole enc P f.params.toList s.vars false W args.toList ds gs before) (hv : s.vars = [])
    (hr : f.resultTypes = #[tb]) (htb : P.underlying tb = some .bool) (hfn : gs = [] → (s.fn H ds).results = [.lit (.bool true)] ∧ (s.fn H ds).args = ds ∧ (s.fn H ds).vars = [])
    (hl : laidOutB P = true) (hm : mapsRowed P = true) (hc : closedB P ts = true) (hs : ts.all (fun t => decide (t < P.types.size)) = true) (hz : solidB P ts = true) (hp : f.params.toList.all ts.contains = true)
    (h : Mod [] W W') : s.post enc P f false fresh handsOn again W args (.bool true) W' := by
  have hW' := hW
  have hlt := hW.lt
  obtain ⟨p, q, hA, hV, rfl, hfz, hn⟩ := hW
  rw [hv] at hV
  obtain ⟨rfl, rfl⟩ := trodVars_none hV
  obtain ⟨f1, f2, f3⟩ := hfn rfl
  have K := kids_of hl hm hc hs
  have hsz : ∀ {t e : TypeId}, t ∈ ts → P.underlying t = some (.slice e) → 0 < P.cellsOf e := fun {t e} ht hu => by
    have := List.all_eq_true.1 hz t ht; rw [hu] at this; simpa using this
  have hT : ∀ t ∈ f.params.toList, t ∈ ts := fun t ht => by simpa using List.all_eq_true.1 hp t ht
  have hblk : ∀ k, k < W.heap.size → W'.heap[k]? = W.heap[k]? := fun k hk => h.block k hk (by simp)
  have hsame : ∀ x ∈ p, W.sameAt W' x := fun x hx => sameAt_of_block (hblk _ (hlt x (by simpa using hx)))
  have hargs : ∀ sp : Nat → Bool, (∀ x ∈ p, sp x.block = true) → DataW.TrodAll enc P W' 0 sp true f.params.toList args.toList (s.fn H (ds ++ [])).args p := fun sp hsp => by
    rw [List.append_nil, f2]; exact trodAll_stays K hsz hT hA hsame hsp
  have hres : ∀ (b : Nat) (sp : Nat → Bool) (hd : Bool), DataW.TrodAll enc P W' b sp hd f.resultTypes.toList ((Value.bool true).resultList f.resultTypes.size) (s.fn H (ds ++ [])).results [] := fun b sp hd => by
    rw [List.append_nil, f1, hr]; exact trodAll_cons_mk (shut_bool htb _) trodAll_mk0
  have hvars : ∀ sp : Nat → Bool, DataW.TrodVars enc P W' sp s.vars (s.fn H (ds ++ [])).vars [] := fun sp => by
    rw [List.append_nil, f3, hv]; rfl
  have hold : ∀ x ∈ p, (fun b => decide (b < W.heap.size)) x.block = true := fun x hx => by simpa using hlt x (by simpa using hx)
  refine ⟨ds, [], p ++ [], [], p, [], hW', hres _ _ _, hargs _ hold, hvars _, ⟨h.os, h.output, fun i hi => ?_⟩, fun _ => ⟨?_, [.lit (.bool true)] ++ ds, [], ([] ++ p) ++ [], ⟨[] ++ p, [], trodAll_append (by have := hargs (fun _ => true) (fun _ _ => rfl); rw [List.append_nil, f2] at this; exact this) (by have := hres 0 (fun _ => true) true; rw [List.append_nil, f1] at this; exact this), by rw [hv]; rfl, rfl, ?_, by simp⟩, ?_⟩⟩
  · have e := hblk i hi
    rw [e]
    cases W.heap[i]? with
    | none => rfl
    | some o => cases o <;> simp
  · exact ok_one hr rfl (okWide_bool_mk htb _)
  · intro b off hb
    have hb : MemPlace.cell b off ∈ p := by simpa using hb
    have hlt' := hlt _ (show MemPlace.cell b off ∈ p ++ [] by simpa using hb)
    have := hfz b off (by simpa using hb)
    simp only [World.frozen?, hblk b hlt'] at this ⊢
    exact this
  · intro x hx _
    simpa using hx
end
end Go.Sx

/-
  What a reading of an argument tells of its cells: structs cell by cell, slices row by row. By an AI agent.
-/
set_option linter.unusedSimpArgs false
set_option linter.unusedVariables false
namespace Go.Sx
open Go Go.ChangeShapes Go.WideShapes Go.ChangeAt Go.RowKit
section
variable {H : Type} {enc : TypeId × Value → H} {P : Program} {w : World} {sp : Nat → Bool}

/-- How great a reading is. -/
structure Bulk (B : DataW H → Nat) : Prop where
  agg : ∀ l : List (DataW H), (l.map B).sum ≤ B (.agg l)
  slice : ∀ l r : List (DataW H), (l.map B).sum + 1 ≤ B (.slice l r)
  str : ∀ s : List UInt8, s.length + 1 ≤ B (.lit (.string s))
  one : ∀ d : DataW H, 1 ≤ B d

def leavesL (P : Program) (g : TypeId → Option (List (TypeId × Kd))) : List Field → Nat → Option (List (TypeId × Kd))
  | [], _ => some []
  | f :: fs, off => do
    let l ← g f.type
    let r ← leavesL P g fs (off + l.length)
    if f.offset = off ∧ P.cellsOf f.type = l.length then some (l ++ r) else none
/-- The types and kinds of a type's cells. -/
def leaves (P : Program) : Nat → TypeId → Option (List (TypeId × Kd))
  | 0, _ => none
  | f + 1, t => match P.underlying t with
    | some .bool => some [(t, .bool)]
    | some (.int k) => some [(t, .int k)]
    | some .string => some [(t, .str)]
    | some (.slice _) => some [(t, .oth)]
    | some (.struct fs) => match leavesL P (leaves P f) fs.toList 0 with
      | some l => if P.cellsOf t = l.length then some l else none
      | none => none
    | _ => none

/-- What is known of a cell of a type. -/
def CellRd (enc : TypeId × Value → H) (P : Program) (w : World) (sp : Nat → Bool) (B : DataW H → Nat) (l : TypeId × Kd) (c : Value) (b : Nat) : Prop :=
  l.2.ok c ∧ ∃ n d ps, DataW.trod enc P w 0 sp true n l.1 [c] = some (d, ps) ∧ B d ≤ b
inductive Lv (enc : TypeId × Value → H) (P : Program) (w : World) (sp : Nat → Bool) (B : DataW H → Nat) : List (TypeId × Kd) → List Value → Nat → Prop
  | nil (b : Nat) : Lv enc P w sp B [] [] b
  | cons {l : TypeId × Kd} {ls : List (TypeId × Kd)} {c : Value} {cs : List Value} {b1 b2 b : Nat} : CellRd enc P w sp B l c b1 → Lv enc P w sp B ls cs b2 → b1 + b2 ≤ b → Lv enc P w sp B (l :: ls) (c :: cs) b
variable {B : DataW H → Nat}
theorem Lv.mono {ls : List (TypeId × Kd)} {cs : List Value} {b b' : Nat} (h : Lv enc P w sp B ls cs b) (hb : b ≤ b') : Lv enc P w sp B ls cs b' := by
  cases h with
  | nil => exact .nil _
  | cons h1 h2 h3 => exact .cons h1 h2 (by omega)
theorem Lv.append {l2 : List (TypeId × Kd)} {c2 : List Value} {b2 : Nat} (h' : Lv enc P w sp B l2 c2 b2) : ∀ {l1 : List (TypeId × Kd)} {c1 : List Value} {b1 : Nat}, Lv enc P w sp B l1 c1 b1 → Lv enc P w sp B (l1 ++ l2) (c1 ++ c2) (b1 + b2) := by
  intro l1 c1 b1 h
  induction h with
  | nil b => exact h'.mono (by omega)
  | cons h1 h2 h3 ih => exact .cons h1 ih (by omega)
theorem Lv.rowOk {ls : List (TypeId × Kd)} {cs : List Value} {b : Nat} (h : Lv enc P w sp B ls cs b) : rowOk (ls.map (·.2)) cs := by
  induction h with
  | nil => trivial
  | cons h1 h2 h3 ih => exact ⟨h1.1, ih⟩

theorem leavesL_ok {g : TypeId → Option (List (TypeId × Kd))} {cs : List Value} {n : Nat} (hg : ∀ t l cs x, g t = some l → DataW.trod enc P w 0 sp true n t cs = some x → Lv enc P w sp B l cs (B x.1)) :
    ∀ {fs : List Field} {xs : List (DataW H × List MemPlace)} {off : Nat} {l : List (TypeId × Kd)}, leavesL P g fs off = some l → xs.length = fs.length →
      (∀ (i : Nat) (f : Field), fs[i]? = some f → DataW.trod enc P w 0 sp true n f.type ((cs.drop f.offset).take (P.cellsOf f.type)) = xs[i]?) → off + l.length ≤ cs.length →
      Lv enc P w sp B l ((cs.drop off).take l.length) ((xs.map fun x => B x.1).sum)
  | [], [], off, l, h, _, _, _ => by simp [leavesL] at h; subst h; simp; exact .nil _
  | f :: fs, [], off, l, h, hl, _, _ => by simp at hl
  | [], x :: xs, off, l, h, hl, _, _ => by simp at hl
  | f :: fs, x :: xs, off, l, h, hl, hx, hc => by
    simp only [leavesL, Option.bind_eq_bind, Option.bind_eq_some_iff, Option.ite_none_right_eq_some, Option.some.injEq] at h
    obtain ⟨l1, h1, l2, h2, ⟨ho, hcs⟩, rfl⟩ := h
    have hx0 := hx 0 f rfl
    simp only [List.getElem?_cons_zero] at hx0
    rw [ho, hcs] at hx0
    have i1 := hg _ _ _ _ h1 hx0
    simp only [List.length_append] at hc
    have i2 := leavesL_ok hg (xs := xs) h2 (by simpa using hl) (fun i f' hf => by have := hx (i + 1) f' (by simpa using hf); simpa using this) (by omega)
    have e : (cs.drop off).take (l1 ++ l2).length = (cs.drop off).take l1.length ++ (cs.drop (off + l1.length)).take l2.length := by
      rw [List.length_append, ← List.drop_drop, List.take_add]
    rw [e]
    exact i2.append i1
theorem leaves_ok (hB : Bulk B) : ∀ (f : Nat) {t : TypeId} {l : List (TypeId × Kd)} {n : Nat} {cs : List Value} {x : DataW H × List MemPlace}, leaves P f t = some l → DataW.trod enc P w 0 sp true n t cs = some x → Lv enc P w sp B l cs (B x.1)
  | 0, t, l, n, cs, x, h, _ => by simp [leaves] at h
  | f + 1, t, l, n, cs, x, h, hx => by
    simp only [leaves] at h
    have one : ∀ (k : Kd) (c : Value), cs = [c] → k.ok c → Lv enc P w sp B [(t, k)] cs (B x.1) := fun k c hc hk => by
      subst hc
      exact .cons ⟨hk, n, x.1, x.2, hx, Nat.le_refl _⟩ (.nil 0) (by omega)
    split at h
    · rename_i hu
      simp at h; subst h
      obtain ⟨b, rfl, -⟩ := DataW.trod_bool hu hx
      exact one _ _ rfl ⟨b, rfl⟩
    · rename_i k hu
      simp at h; subst h
      obtain ⟨m, rfl, -⟩ := DataW.trod_int hu hx
      exact one _ _ rfl ⟨m, rfl⟩
    · rename_i hu
      simp at h; subst h
      obtain ⟨⟨⟨s⟩⟩, rfl, -⟩ := DataW.trod_string hu hx
      exact one _ _ rfl ⟨s, rfl⟩
    · rename_i e hu
      simp at h; subst h
      rcases DataW.trod_slice hu hx with ⟨rfl, -⟩ | ⟨a, len, cap, elems, rest, m, -, rfl, -⟩
      · exact one _ _ rfl rfl
      · exact one _ _ rfl rfl
    · rename_i fs hu
      split at h
      · rename_i l' hl
        split at h
        · rename_i hc
          simp at h; subst h
          obtain ⟨xs, m, rfl, rfl, hcl, hxl, hf⟩ := DataW.trod_struct hu hx
          have := leavesL_ok (cs := cs) (fun t l cs x => leaves_ok hB f (t := t) (l := l) (n := m) (cs := cs) (x := x)) hl (by simpa using hxl) (fun i f hi => hf i f (by simpa using hi)) (by omega)
          rw [List.drop_zero, List.take_of_length_le (by omega)] at this
          refine this.mono ?_
          have := hB.agg (xs.map (·.1))
          rw [List.map_map] at this
          exact this
        · cases h
      · cases h
    · cases h

/-- A slice's rows. -/
theorem slice_rd (hB : Bulk B) {f n : Nat} {t e : TypeId} {ls : List (TypeId × Kd)} {v : Value} {x : DataW H × List MemPlace} (hu : P.underlying t = some (.slice e)) (hl : leaves P f e = some ls) (hc : P.cellsOf e = ls.length) (hpos : 0 < ls.length)
    (hx : DataW.trod enc P w 0 sp true n t [v] = some x) :
    ∃ (rows : List (List Value)) (bs : List Nat), reads w v (ls.map (·.2)) rows ∧ bs.length = rows.length ∧ (∀ (i : Nat) r b, rows[i]? = some r → bs[i]? = some b → Lv enc P w sp B ls r b) ∧ bs.sum + 1 ≤ B x.1 := by
  rcases DataW.trod_slice hu hx with ⟨hv, rfl⟩ | ⟨a, len, cap, elems, rest, m, -, hv, rfl, -, hlc, hcm, hel, hget, -⟩
  · simp only [List.cons.injEq, and_true] at hv; subst hv
    exact ⟨[], [], ⟨by simp, none, 0, rfl, ⟨fun _ => rfl, by simp⟩, by simp⟩, rfl, by simp, by simpa using hB.one _⟩
  · simp only [List.cons.injEq, and_true] at hv; subst hv
    rw [hc] at hget
    have hrow : ∀ i, i < len → ∃ r y, w.cells? 0 (a.add (i * ls.length)) ls.length = some r ∧ elems[i]? = some y ∧ DataW.trod enc P w 0 sp true m e r = some y := fun i hi => by
      have h1 := hget i hi
      have h2 : elems[i]? = some (elems[i]'(by omega)) := List.getElem?_eq_getElem (by omega)
      rw [h2, Option.bind_eq_some_iff] at h1
      obtain ⟨r, h3, h4⟩ := h1
      exact ⟨r, _, h3, h2, h4⟩
    let rows := (List.range len).map fun i => (w.cells? 0 (a.add (i * ls.length)) ls.length).getD []
    have hrl : rows.length = len := by simp [rows]
    have hri : ∀ i, i < len → ∃ r y, rows[i]? = some r ∧ w.cells? 0 (a.add (i * ls.length)) ls.length = some r ∧ elems[i]? = some y ∧ Lv enc P w sp B ls r (B y.1) := fun i hi => by
      obtain ⟨r, y, h1, h2, h3⟩ := hrow i hi
      exact ⟨r, y, by simp [rows, List.getElem?_range hi, h1], h1, h2, leaves_ok hB f hl h3⟩
    have hlen : ∀ r ∈ rows, r.length = (ls.map (·.2)).length ∧ rowOk (ls.map (·.2)) r := fun r hr => by
      obtain ⟨i, hi, hri'⟩ := List.getElem_of_mem hr
      obtain ⟨r', y, h1, h2, h3, h4⟩ := hri i (by omega)
      rw [List.getElem?_eq_getElem hi, hri'] at h1
      simp at h1; subst h1
      exact ⟨h4.rowOk.length, h4.rowOk⟩
    refine ⟨rows, elems.map fun y => B y.1, ⟨fun r hr => (hlen r hr).2, some a, cap, by rw [hrl], ⟨(fun h => by cases h), by omega⟩, fun hne => ⟨a, rfl, fun j u hj => ?_⟩⟩, by simp [hrl, hel], fun i r b hr hb => ?_, ?_⟩
    · have hL : (ls.map (·.2)).length = ls.length := by simp
      have hfl := flatten_length (fun r hr => (hlen r hr).1)
      have hjl : j < rows.length * ls.length := by
        have := (List.getElem?_eq_some_iff.1 hj).1
        rw [hfl, hL] at this; exact this
      have hi : j / ls.length < len := by rw [← hrl]; exact Nat.div_lt_of_lt_mul (by rw [Nat.mul_comm]; exact hjl)
      obtain ⟨r, y, h1, h2, h3, h4⟩ := hri _ hi
      have hk := Nat.mod_lt j hpos
      have hjj : j = j / ls.length * ls.length + j % ls.length := by rw [Nat.mul_comm]; exact (Nat.div_add_mod j _).symm
      have := flatten_get (fun r hr => by rw [← hL]; exact (hlen r hr).1) (i := j / ls.length) (c := j % ls.length) hk
      rw [← hjj, hj, h1] at this
      obtain ⟨c1, c2⟩ := World.cells?_some h2
      have c3 := c2.2 _ hk
      rw [add_add', ← hjj] at c3
      rw [c3]
      exact this.symm
    · obtain ⟨r', y, h1, h2, h3, h4⟩ := hri i (by rw [← hrl]; exact (List.getElem?_eq_some_iff.1 hr).1)
      rw [h1] at hr; simp at hr; subst hr
      rw [List.getElem?_map, h3] at hb
      simp at hb; subst hb
      exact h4
    · have := hB.slice (elems.map (·.1)) (rest.map (·.1))
      rw [List.map_map] at this
      exact this
theorem open_slice {r : Reach} {b0 base : Nat} {held : Bool} {t e : TypeId} {v : Value} {d : DataW H} {ps : List MemPlace} (ht : P.underlying t = some (.slice e)) (hval : Value.okWide P w r b0 t v) (hd : DataW.Trod enc P w base sp held t v d ps) :
    ∃ n, DataW.trod enc P w base sp held n t [v] = some (d, ps) := by
  obtain ⟨n, hd⟩ := hd
  refine ⟨n, ?_⟩
  have : v.cells.toList = [v] := by
    simp only [Value.okWide, ht, Cell.okWide] at hval
    cases v <;> first | rfl | (simp [Cell.ok] at hval)
  rw [← this]; exact hd
theorem open_struct {r : Reach} {b0 base : Nat} {held : Bool} {t : TypeId} {fs : Array Field} {v : Value} {d : DataW H} {ps : List MemPlace} (ht : P.underlying t = some (.struct fs)) (hval : Value.okWide P w r b0 t v) (hd : DataW.Trod enc P w base sp held t v d ps) :
    ∃ (cs : List Value) (n : Nat), v = .agg cs.toArray ∧ DataW.trod enc P w base sp held n t cs = some (d, ps) := by
  obtain ⟨n, hd⟩ := hd
  simp only [Value.okWide, ht] at hval
  obtain ⟨cs, rfl, -⟩ := hval
  exact ⟨cs.toList, n, by simp, by simpa [Value.cells] using hd⟩

theorem sum_le {α : Type} {g : α → Nat} : ∀ {rows : List α} {bs : List Nat}, bs.length = rows.length → (∀ (i : Nat) r b, rows[i]? = some r → bs[i]? = some b → g r ≤ b) → (rows.map g).sum ≤ bs.sum
  | [], [], _, _ => by simp
  | r :: rows, b :: bs, hl, h => by
    have h0 := h 0 r b rfl rfl
    have := sum_le (rows := rows) (bs := bs) (by simpa using hl) (fun i r' b' hr hb => h (i + 1) r' b' (by simpa using hr) (by simpa using hb))
    simp only [List.map_cons, List.sum_cons]; omega
  | [], _ :: _, hl, _ => by simp at hl
  | _ :: _, [], hl, _ => by simp at hl
/-- There are no more rows than values. -/
theorem rows_le (hB : Bulk B) {ls : List (TypeId × Kd)} (h0 : ls ≠ []) {rows : List (List Value)} {bs : List Nat} (hl : bs.length = rows.length) (h : ∀ (i : Nat) r b, rows[i]? = some r → bs[i]? = some b → Lv enc P w sp B ls r b) : rows.length ≤ bs.sum := by
  have := sum_le (g := fun _ : List Value => 1) hl (fun i r b hr hb => by
    cases h i r b hr hb with
    | nil b => exact absurd rfl h0
    | cons h1 h2 h3 => obtain ⟨-, n, d, q, -, h5⟩ := h1; have := hB.one d; omega)
  have e : (rows.map fun _ => 1).sum = rows.length := by
    clear hl h this
    induction rows with
    | nil => rfl
    | cons r rows ih => simp only [List.map_cons, List.sum_cons, List.length_cons, ih]; omega
  omega
/-- A text's cell. -/
theorem CellRd.str (hB : Bulk B) {t : TypeId} (ht : P.underlying t = some .string) {s : List UInt8} {b : Nat} (h : CellRd enc P w sp B (t, .str) (.string ⟨s.toArray⟩) b) : s.length + 1 ≤ b := by
  obtain ⟨-, n, d, ps, h1, h2⟩ := h
  obtain ⟨s', h3, h4⟩ := DataW.trod_string ht h1
  simp only [List.cons.injEq, Value.string.injEq, and_true] at h3
  subst h3
  simp only [Prod.mk.injEq] at h4
  obtain ⟨⟨rfl, -⟩, -⟩ := h4
  have := hB.str s
  omega
theorem CellRd.int {t : TypeId} {k : IntKind} (ht : P.underlying t = some (.int k)) {n : Int} {b : Nat} (h : CellRd enc P w sp B (t, .int k) (.int k n) b) : (Lit.int k n).wf = true := by
  obtain ⟨-, m, d, ps, h1, h2⟩ := h
  cases m with
  | zero => simp [DataW.trod] at h1
  | succ m =>
    unfold DataW.trod at h1
    rw [ht] at h1
    simp only [] at h1
    split at h1
    · rename_i hw; exact hw.2
    · cases h1
end
end Go.Sx

/-
  What a reading of wants tells. By an AI agent.
-/
set_option linter.unusedSimpArgs false
set_option linter.unusedVariables false
namespace Go.Proofs.YtliedecinehijaaDoor
open Go Go.Sx Go.ChangeShapes Go.WideShapes Go.ChangeAt Go.RowKit
section
variable {H : Type} {enc : TypeId × Value → H} {w : World} {sp : Nat → Bool} {B : DataW H → Nat}
def isStruct (P : Program) (t : TypeId) : Bool := match P.underlying t with | some (.struct _) => true | _ => false
theorem open_struct' {P : Program} {r : Reach} {b0 base : Nat} {held : Bool} {t : TypeId} {v : Value} {d : DataW H} {ps : List MemPlace} (ht : isStruct P t = true) (hval : Value.okWide P w r b0 t v) (hd : DataW.Trod enc P w base sp held t v d ps) :
    ∃ (cs : List Value) (n : Nat), v = .agg cs.toArray ∧ DataW.trod enc P w base sp held n t cs = some (d, ps) := by
  unfold isStruct at ht
  split at ht
  · exact open_struct (by assumption) hval hd
  · cases ht
theorem lv_ask (hB : Bulk B) {cs : List Value} {b : Nat} (h : Lv enc Tryd.prog w sp B [(9, .str), (3, .int .i64)] cs b) : ∃ (f : List UInt8) (q : Int), Value.agg cs.toArray = .agg #[.string ⟨f.toArray⟩, .int .i64 q] ∧ f.length ≤ b := by
  cases h with
  | cons c1 h e1 =>
  cases h with
  | cons c2 h e2 =>
  cases h
  obtain ⟨p, rfl⟩ := c1.1
  obtain ⟨n, rfl⟩ := c2.1
  have q1 := CellRd.str hB Tryd.underlying9 c1
  exact ⟨p, n, rfl, by omega⟩
theorem lv_want (hB : Bulk B) {cs : List Value} {b : Nat} (h : Lv enc Tryd.prog w sp B [(9, .str), (9, .str), (3, .int .i64)] cs b) : ∃ o : Wt, cs = encW o ∧ o.1.length + o.2.1.length + 1 ≤ b := by
  cases h with
  | cons c1 h e1 =>
  cases h with
  | cons c2 h e2 =>
  cases h with
  | cons c3 h e3 =>
  cases h
  obtain ⟨p, rfl⟩ := c1.1
  obtain ⟨t, rfl⟩ := c2.1
  obtain ⟨n, rfl⟩ := c3.1
  have q1 := CellRd.str hB Tryd.underlying9 c1
  have q2 := CellRd.str hB Tryd.underlying9 c2
  exact ⟨(p, t, n), rfl, by simp only; omega⟩
theorem rows_V (hB : Bulk B) : ∀ {rows : List (List Value)} {bs : List Nat}, bs.length = rows.length → (∀ (i : Nat) r b, rows[i]? = some r → bs[i]? = some b → Lv enc Tryd.prog w sp B [(9, .str), (9, .str), (3, .int .i64)] r b) →
    ∃ l : List Wt, rows = l.map encW ∧ ∀ x ∈ l, x.1.length ≤ bs.sum ∧ x.2.1.length ≤ bs.sum := by
  intro rows
  induction rows with
  | nil => exact fun _ _ => ⟨[], rfl, by simp⟩
  | cons r rows ih =>
    intro bs hl h
    match bs, hl with
    | b :: bs, hl =>
      obtain ⟨l, e, hb⟩ := ih (bs := bs) (by simpa using hl) (fun i r' b' h1 h2 => h (i + 1) r' b' (by simpa using h1) (by simpa using h2))
      obtain ⟨o, rfl, hob⟩ := lv_want hB (h 0 r b rfl rfl)
      refine ⟨o :: l, by rw [e]; rfl, ?_⟩
      intro x hx
      rw [List.sum_cons]
      rcases List.mem_cons.1 hx with rfl | hx
      · omega
      · have := hb x hx; omega
end
end Go.Proofs.YtliedecinehijaaDoor
