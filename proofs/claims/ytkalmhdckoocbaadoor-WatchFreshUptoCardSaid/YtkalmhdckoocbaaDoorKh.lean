/-
  Watches: what is told again and again. By an AI agent.
-/
import Derived.Test.YtkalmhdckoocbaaDoorKf
import Derived.Test.YtkalmhdckoocbaaDoorTreesK4
set_option linter.unusedSimpArgs false
set_option linter.unusedVariables false
namespace Go.Proofs.YtkalmhdckoocbaaDoor
open Go.Sx

/-- A watch that was told i times of its topic. -/
def adv1 (i : Int) (n : List UInt8) (w : Wat) : Wat := if w.2.2.1 = n then (w.1, w.2.1, w.2.2.1, (w.2.2.2 + i) % 16777216) else w
def advL (i : Int) (n : List UInt8) (l : List Wat) : List Wat := l.map (adv1 i n)
theorem adv_topic (i : Int) (n : List UInt8) (w : Wat) : (adv1 i n w).2.2.1 = w.2.2.1 := by unfold adv1; split <;> rfl
theorem adv_pt (i : Int) (n : List UInt8) (w : Wat) : (adv1 i n w).1 = w.1 ∧ (adv1 i n w).2.1 = w.2.1 := by unfold adv1; split <;> exact ⟨rfl, rfl⟩
theorem adv_len (i : Int) (n : List UInt8) (l : List Wat) : (advL i n l).length = l.length := by simp [advL]
theorem adv_num {i : Int} {n : List UInt8} {w : Wat} (h : 0 ≤ w.2.2.2 ∧ w.2.2.2 ≤ 16777215) : 0 ≤ (adv1 i n w).2.2.2 ∧ (adv1 i n w).2.2.2 ≤ 16777215 := by
  unfold adv1; split
  · simp only; omega
  · exact h
theorem told_adv (i : Int) (n : List UInt8) (w : Wat) (h : 0 ≤ w.2.2.2 ∧ w.2.2.2 ≤ 16777215) : told1 n (adv1 i n w) = adv1 (i + 1) n w := by
  by_cases hn : w.2.2.1 = n
  · have e1 : adv1 i n w = (w.1, w.2.1, w.2.2.1, (w.2.2.2 + i) % 16777216) := by rw [adv1, if_pos hn]
    have e2 : adv1 (i + 1) n w = (w.1, w.2.1, w.2.2.1, (w.2.2.2 + (i + 1)) % 16777216) := by rw [adv1, if_pos hn]
    rw [e1, e2, told1]
    simp only
    rw [if_pos hn]
    have : (if 16777215 < (w.2.2.2 + i) % 16777216 + 1 then (0 : Int) else (w.2.2.2 + i) % 16777216 + 1) = (w.2.2.2 + (i + 1)) % 16777216 := by split <;> omega
    rw [this]
  · have e1 : ∀ k : Int, adv1 k n w = w := fun k => by rw [adv1, if_neg hn]
    rw [e1, e1, told1, if_neg hn]
theorem adv_told {i : Int} {n : List UInt8} {l : List Wat} (h : okN l) : toldL n (advL i n l) = advL (i + 1) n l := by
  rw [toldL, advL, List.map_map]
  exact List.map_congr_left fun w hw => told_adv i n w (h w hw)
theorem adv_zero {n : List UInt8} {l : List Wat} (h : okN l) : advL 0 n l = l := by
  have : l.map (adv1 0 n) = l.map id := List.map_congr_left fun w hw => by
    have := h w hw
    unfold adv1
    split
    · have e : (w.2.2.2 + 0) % 16777216 = w.2.2.2 := by omega
      rw [e]; rfl
    · rfl
  rw [advL, this, List.map_id]
theorem adv_chk {i : Int} {n : List UInt8} {l : List Wat} (h : chkW l = 0) : chkW (advL i n l) = 0 := by
  rw [chkW_iff] at h ⊢
  refine ⟨by rw [adv_len]; exact h.1, fun x hx => ?_, ?_⟩
  · obtain ⟨w, hw, rfl⟩ := List.mem_map.1 hx
    have hw := h.2.1 w hw
    refine ⟨?_, adv_num hw.2⟩
    rw [(adv_pt i n w).1, (adv_pt i n w).2, adv_topic]
    exact hw.1
  · rw [advL, List.pairwise_map]
    refine h.2.2.imp fun {a b} hab => ?_
    rw [apartW, sameP, (adv_pt i n a).1, (adv_pt i n a).2, (adv_pt i n b).1, (adv_pt i n b).2]
    exact hab
theorem adv_small {i : Int} {n : List UInt8} {l : List Wat} (h : smallW l) : smallW (advL i n l) := by
  intro x hx
  obtain ⟨w, hw, rfl⟩ := List.mem_map.1 hx
  rw [adv_topic]
  exact h w hw
theorem adv_at {i : Int} {n : List UInt8} {l : List Wat} {j : Nat} (h : j < l.length) : (advL i n l).getD j wD = adv1 i n (l.getD j wD) := by
  rw [List.getD_eq_getElem?_getD, List.getD_eq_getElem?_getD, advL, List.getElem?_map, List.getElem?_eq_getElem h]
  rfl
theorem these_app (n : List UInt8) (a b : List Wat) : theseL n (a ++ b) = theseL n a ++ theseL n b := by simp [theseL]
theorem these_cut {n : List UInt8} {l : List Wat} {i : Nat} (hi : i < l.length) (hn : (l.getD i wD).2.2.1 = n) : theseL n l = theseL n (l.take i) ++ told1 n (l.getD i wD) :: theseL n (l.drop (i + 1)) := by
  have e : l = l.take i ++ (l.getD i wD :: l.drop (i + 1)) := by rw [← dropW l i hi, List.take_append_drop]
  have e2 : theseL n (l.getD i wD :: l.drop (i + 1)) = told1 n (l.getD i wD) :: theseL n (l.drop (i + 1)) := by
    rw [theseL, List.filter_cons, if_pos (by simpa using hn)]; rfl
  conv => lhs; rw [e]
  rw [these_app, e2]
theorem these_at {n : List UInt8} {l : List Wat} {i : Nat} (hi : i < l.length) (hn : (l.getD i wD).2.2.1 = n) : (theseL n (l.take i)).length < (theseL n l).length ∧ (theseL n l).getD (theseL n (l.take i)).length wD = told1 n (l.getD i wD) := by
  rw [these_cut hi hn]
  refine ⟨by simp, ?_⟩
  rw [List.getD_eq_getElem?_getD, List.getElem?_append_right (Nat.le_refl _), Nat.sub_self]
  rfl
theorem fre1 {a : Int} (h : 0 ≤ a ∧ a ≤ 16777215) : freR a ((a + 1) % 16777216) = (true, 0) := by
  rw [freR, if_pos (by omega)]
  have : freshP a ((a + 1) % 16777216) = true := by
    simp only [freshP, Bool.or_eq_true, decide_eq_true_eq]; omega
  rw [this]
theorem fre2 {a i : Int} (h : 0 ≤ a ∧ a ≤ 16777215) (hi : 0 ≤ i ∧ i < 50) : freR a ((a + (i + 1)) % 16777216) = (true, 0) := by
  rw [freR, if_pos (by omega)]
  have : freshP a ((a + (i + 1)) % 16777216) = true := by
    simp only [freshP, Bool.or_eq_true, decide_eq_true_eq]; omega
  rw [this]
theorem fre3 {a i : Int} (h : 0 ≤ a ∧ a ≤ 16777215) (hi : 0 ≤ i ∧ i < 50) : freR ((a + (i + 1)) % 16777216) a = (false, 0) := by
  rw [freR, if_pos (by omega)]
  have : freshP ((a + (i + 1)) % 16777216) a = false := by
    simp only [freshP, Bool.or_eq_false_iff, decide_eq_false_iff_not]; omega
  rw [this]

theorem c_FreshT (w : World) (a b : Int) (x : Bool) (h : freR a b = (x, 0)) : Calls Tryd.prog 27 #[.int .i64 a, .int .i64 b] w fun e w' => e = .returned (.tuple #[.bool x, .int .i64 0]) ∧ Mod [] w w' := by
  have := c_Fresh w a b
  rw [h] at this
  exact this
set_option maxHeartbeats 2000000 in
theorem c_WatchFresh (w : World) (v : Value) (l : List Wat) (n : List UInt8) (times : Int) (hv : readsW w v l) (hs : smallW l) (hl : l.length < 1000000000) (hn : n.length < 4294967281) : Calls Tryd.prog 8 #[sc1 v, .string ⟨n.toArray⟩, .int .i64 times] w
    fun e w' => e = .returned (.bool true) ∧ Mod [] w w' := by
  refine as_called (run_tree2 (ρ := [.v v, .r (l.map encW), .s n, .i times]) sxE_ok Tryd.func8 tree_dragomanlaw_WatchFresh rfl rfl (Rel.start2 (by simp [Ent.holds, Ent.wr, hv, X.ev])) rfl rfl ?_) rfl
  simp only [Tree.goal, X.P, X.ev, V.toI_i, V.toB_b, V.toS_s, V.toR_r, V.toV_v, V.toN_n, V.toL_l, SV.ev, CV.ev, Sc.ev, List.getD_cons_zero, List.getD_cons_succ, List.getElem?_cons_zero, List.getElem?_cons_succ, List.map_cons, List.map_nil, List.length_cons, List.length_nil, List.cons_append, List.nil_append, Nat.zero_add, Nat.reduceAdd]
  refine ⟨[.b true], rfl, fun _ w' _ => c_watchBegun w', ?_⟩
  simp only [Tree.goal, X.P, X.ev, V.toI_i, V.toB_b, V.toS_s, V.toR_r, V.toV_v, V.toN_n, V.toL_l, SV.ev, CV.ev, Sc.ev, List.getD_cons_zero, List.getD_cons_succ, List.getElem?_cons_zero, List.getElem?_cons_succ, List.map_cons, List.map_nil, List.length_cons, List.length_nil, List.cons_append, List.nil_append, Nat.zero_add, Nat.reduceAdd]
  refine ⟨fun h => absurd trivial h, fun _ => ?_⟩
  refine ⟨[.i (chkW l)], rfl, fun _ w' hr => c_CheckWatches w' v l (hr.at_ 0 rfl) hs (by omega), ?_⟩
  simp only [Tree.goal, X.P, X.ev, V.toI_i, V.toB_b, V.toS_s, V.toR_r, V.toV_v, V.toN_n, V.toL_l, SV.ev, CV.ev, Sc.ev, List.getD_cons_zero, List.getD_cons_succ, List.getElem?_cons_zero, List.getElem?_cons_succ, List.map_cons, List.map_nil, List.length_cons, List.length_nil, List.cons_append, List.nil_append, Nat.zero_add, Nat.reduceAdd]
  refine ⟨[.i (chkT n false)], rfl, fun _ w' _ => c_CheckTopic w' n false hn, ?_⟩
  simp only [Tree.goal, X.P, X.ev, V.toI_i, V.toB_b, V.toS_s, V.toR_r, V.toV_v, V.toN_n, V.toL_l, SV.ev, CV.ev, Sc.ev, List.getD_cons_zero, List.getD_cons_succ, List.getElem?_cons_zero, List.getElem?_cons_succ, List.map_cons, List.map_nil, List.length_cons, List.length_nil, List.cons_append, List.nil_append, Nat.zero_add, Nat.reduceAdd]
  refine ⟨fun h w' hr => ⟨trivial, hr.mod⟩, fun h => ?_⟩
  have h0 : chkW l = 0 := Classical.byContradiction fun h1 => h (.inl h1)
  have h1 : chkT n false = 0 := Classical.byContradiction fun h1 => h (.inr h1)
  have hok := (chkW_ok h0).2.1
  refine ⟨fun vs => ∃ (i : Nat) (u : Value) (y : V), vs = [.v u, .r ((advL i n l).map encW), y, .i i] ∧ i ≤ 50, fun vs => 50 - (vs.getD 3 (.i 0)).toI.toNat, ⟨0, v, .b false, by rw [show ((0 : Nat) : Int) = 0 from rfl, adv_zero hok], by omega⟩, ?_⟩
  rintro _ - ⟨i, u, y, rfl, hi⟩
  simp only [Tree.goal, X.P, X.ev, V.toI_i, V.toB_b, V.toS_s, V.toR_r, V.toV_v, V.toN_n, V.toL_l, SV.ev, CV.ev, Sc.ev, List.getD_cons_zero, List.getD_cons_succ, List.getElem?_cons_zero, List.getElem?_cons_succ, List.map_cons, List.map_nil, List.length_cons, List.length_nil, List.cons_append, List.nil_append, Nat.zero_add, Nat.reduceAdd, List.length_map, Int.toNat_natCast, gW0, gW1, gW2, gW3]
  refine ⟨fun h2 => ?_, fun h2 w' hr => ⟨trivial, hr.mod⟩⟩
  have hc := adv_chk (i := i) (n := n) h0
  have hs' := adv_small (i := i) (n := n) hs
  have hlen := adv_len i n l
  have htl := these_len n (advL i n l)
  have hlen1 := adv_len (i + 1) n l
  have hT : tellR (advL i n l) n = (advL (i + 1) n l, theseL n (advL i n l), 0) := by rw [tellR, if_pos hc, if_pos h1, adv_told hok]
  intro w1 hr
  refine (c_Tell w1 u (advL i n l) n (hr.at_ 0 rfl) hs' (by omega) hn).mono ?_
  rw [hT]
  rintro e w2 ⟨u3, u4, rfl, r1, r2, f1, f2, m1⟩
  refine ⟨[.v u3, .r ((advL (i + 1) n l).map encW), .v u4, .r ((theseL n (advL i n l)).map encW), .i 0], rfl, rfl, m1, List.forall_mem_nil _, List.forall_mem_cons.2 ⟨⟨r1, fun k hk => .inl (f1 k hk)⟩, List.forall_mem_cons.2 ⟨⟨r2, fun k hk => .inl (f2 k hk)⟩, List.forall_mem_nil _⟩⟩, apart_rd2, ?_⟩
  simp only [Tree.goal, X.P, X.ev, V.toI_i, V.toB_b, V.toS_s, V.toR_r, V.toV_v, V.toN_n, V.toL_l, SV.ev, CV.ev, Sc.ev, List.getD_cons_zero, List.getD_cons_succ, List.getElem?_cons_zero, List.getElem?_cons_succ, List.map_cons, List.map_nil, List.length_cons, List.length_nil, List.cons_append, List.nil_append, Nat.zero_add, Nat.reduceAdd, List.length_map, Int.toNat_natCast, gW0, gW1, gW2, gW3]
  refine ⟨[.i (chkW (advL (i + 1) n l))], rfl, fun _ w' hr => c_CheckW w' u3 _ (hr.at_ 0 rfl) (adv_small hs) (by omega), ?_⟩
  simp only [Tree.goal, X.P, X.ev, V.toI_i, V.toB_b, V.toS_s, V.toR_r, V.toV_v, V.toN_n, V.toL_l, SV.ev, CV.ev, Sc.ev, List.getD_cons_zero, List.getD_cons_succ, List.getElem?_cons_zero, List.getElem?_cons_succ, List.map_cons, List.map_nil, List.length_cons, List.length_nil, List.cons_append, List.nil_append, Nat.zero_add, Nat.reduceAdd, List.length_map, Int.toNat_natCast, gW0, gW1, gW2, gW3]
  refine ⟨fun h3 => ?_, fun _ => ?_⟩
  · rw [adv_chk h0] at h3
    simp at h3; omega
  refine ⟨fun vs => ∃ (j : Nat) (y : V), vs = [y, .i (theseL n ((advL i n l).take j)).length, .i j] ∧ j ≤ l.length, fun vs => l.length - (vs.getD 2 (.i 0)).toI.toNat, ⟨0, y, rfl, by omega⟩, ?_⟩
  rintro _ - ⟨j, y', rfl, hj⟩
  simp only [Tree.goal, X.P, X.ev, V.toI_i, V.toB_b, V.toS_s, V.toR_r, V.toV_v, V.toN_n, V.toL_l, SV.ev, CV.ev, Sc.ev, List.getD_cons_zero, List.getD_cons_succ, List.getElem?_cons_zero, List.getElem?_cons_succ, List.map_cons, List.map_nil, List.length_cons, List.length_nil, List.cons_append, List.nil_append, Nat.zero_add, Nat.reduceAdd, List.length_map, Int.toNat_natCast, gW0, gW1, gW2, gW3]
  refine ⟨fun h4 => ?_, fun h4 => ?_⟩
  · have hjl : j < l.length := by omega
    have eA := adv_at (i := i) (n := n) hjl
    have eX := adv_at (i := i + 1) (n := n) hjl
    have hnum := okN_at hok j
    have hsn := these_snoc n (advL i n l) j (by omega)
    rw [eA, adv_topic] at hsn
    simp only [eA, eX, adv_topic]
    refine ⟨by omega, by omega, fun h5 => ?_, fun h5 => ?_⟩
    · have e1 : ∀ k : Int, adv1 k n (l.getD j wD) = l.getD j wD := fun k => by rw [adv1, if_neg h5]
      rw [if_neg h5, List.append_nil] at hsn
      rw [e1, e1]
      refine ⟨fun h6 => absurd ⟨rfl, rfl, trivial, rfl⟩ h6, fun _ => ⟨by omega, by omega, ⟨j + 1, y', by rw [hsn]; rfl, by omega⟩, by omega⟩⟩
    · have h5 := Classical.not_not.1 h5
      rw [if_pos h5] at hsn
      have e1 : ∀ k : Int, (adv1 k n (l.getD j wD)).2.2.2 = ((l.getD j wD).2.2.2 + k) % 16777216 := fun k => by rw [adv1, if_pos h5]
      obtain ⟨k1, k2⟩ := these_at (n := n) (l := advL i n l) (i := j) (by omega) (by rw [eA, adv_topic]; exact h5)
      rw [eA, told_adv _ _ _ hnum] at k2
      have e2 : (((l.getD j wD).2.2.2 + (i : Int)) % 16777216 + 1) % 16777216 = ((l.getD j wD).2.2.2 + ((i : Int) + 1)) % 16777216 := by omega
      have g1 : freR (((l.getD j wD).2.2.2 + (i : Int)) % 16777216) (((l.getD j wD).2.2.2 + ((i : Int) + 1)) % 16777216) = (true, 0) := by
        rw [← e2]; exact fre1 (by omega)
      have g2 := fre2 (a := (l.getD j wD).2.2.2) (i := i) hnum (by omega)
      have g3 := fre3 (a := (l.getD j wD).2.2.2) (i := i) hnum (by omega)
      rw [e1, e1]
      refine ⟨[.b true, .i 0], rfl, fun _ w' _ => c_FreshT w' _ _ true g1, ?_⟩
      simp only [Tree.goal, X.P, X.ev, V.toI_i, V.toB_b, V.toS_s, V.toR_r, V.toV_v, V.toN_n, V.toL_l, SV.ev, CV.ev, Sc.ev, List.getD_cons_zero, List.getD_cons_succ, List.getElem?_cons_zero, List.getElem?_cons_succ, List.map_cons, List.map_nil, List.length_cons, List.length_nil, List.cons_append, List.nil_append, Nat.zero_add, Nat.reduceAdd, List.length_map, Int.toNat_natCast, gW0, gW1, gW2, gW3]
      refine and_self_iff.2 ⟨by omega, [.b true, .i 0], rfl, fun _ w' _ => c_FreshT w' _ _ true g2, ?_⟩
      simp only [Tree.goal, X.P, X.ev, V.toI_i, V.toB_b, V.toS_s, V.toR_r, V.toV_v, V.toN_n, V.toL_l, SV.ev, CV.ev, Sc.ev, List.getD_cons_zero, List.getD_cons_succ, List.getElem?_cons_zero, List.getElem?_cons_succ, List.map_cons, List.map_nil, List.length_cons, List.length_nil, List.cons_append, List.nil_append, Nat.zero_add, Nat.reduceAdd, List.length_map, Int.toNat_natCast, gW0, gW1, gW2, gW3]
      refine and_self_iff.2 ⟨[.b false, .i 0], rfl, fun _ w' _ => c_FreshT w' _ _ false g3, ?_⟩
      simp only [Tree.goal, X.P, X.ev, V.toI_i, V.toB_b, V.toS_s, V.toR_r, V.toV_v, V.toN_n, V.toL_l, SV.ev, CV.ev, Sc.ev, List.getD_cons_zero, List.getD_cons_succ, List.getElem?_cons_zero, List.getElem?_cons_succ, List.map_cons, List.map_nil, List.length_cons, List.length_nil, List.cons_append, List.nil_append, Nat.zero_add, Nat.reduceAdd, List.length_map, Int.toNat_natCast, gW0, gW1, gW2, gW3, k2]
      refine and_self_iff.2 ⟨.inr (by omega), .inr (by omega), fun h6 => ?_, fun _ => ?_⟩
      · clear hsn g1 g2 g3 e2 hT; simp at h6; rcases h6 with h6 | h6; (· omega); (· exact (h6 (adv_topic _ _ _) (e1 _)).elim)
      · refine ⟨by omega, by omega, by omega, by omega, ⟨j + 1, y', ?_, by omega⟩, by omega⟩
        rw [hsn, List.length_append]; rfl
  · have : j = l.length := by omega
    subst this
    rw [← hlen, List.take_length]
    refine ⟨fun h5 => absurd rfl h5, fun _ => ⟨by omega, by omega, ⟨i + 1, u3, y', rfl, by omega⟩, by omega⟩⟩
end Go.Proofs.YtkalmhdckoocbaaDoor
