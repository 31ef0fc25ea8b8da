/-
  What is kept: the law KeepList. By an AI agent.
-/
import Derived.Test.YtkalmhdckoocbaaDoorPf
set_option linter.unusedSimpArgs false
set_option linter.unusedVariables false
namespace Go.Proofs.YtkalmhdckoocbaaDoor
open Go.Sx

theorem filt_at (p : Kp → Bool) (l : List Kp) (i : Nat) (hi : i < l.length) (h : p (l.getD i kD) = true) : ((l.take i).filter p).length < (l.filter p).length ∧ (l.filter p).getD ((l.take i).filter p).length kD = l.getD i kD := by
  have e : l.filter p = (l.take i).filter p ++ l.getD i kD :: (l.drop (i + 1)).filter p := by
    conv => lhs; rw [← List.take_append_drop i l]
    rw [List.filter_append, dropK l i hi, List.filter_cons, if_pos h]
  rw [e]
  constructor
  · simp
  · simp [List.getD_eq_getElem?_getD]
theorem mem_getD {l : List Kp} {i : Nat} (h : i < l.length) : l.getD i kD ∈ l := by
  rw [List.getD_eq_getElem?_getD, List.getElem?_eq_getElem h]; exact List.getElem_mem h
theorem has_mem {l : List Kp} {n : List UInt8} (h : sortK l) (hm : ∃ k ∈ l, k.1 = n) : hasK l n = true := by
  rcases has_iff (n := n) h with ⟨h1, -⟩ | ⟨-, h2⟩
  · exact h1
  · obtain ⟨k, hk, he⟩ := hm
    have : k ∈ miK l n := List.mem_filter.2 ⟨hk, by simp [he]⟩
    rw [h2] at this; cases this
set_option maxHeartbeats 1000000 in
theorem c_KeepList (w : World) (v : Value) (l : List Kp) (a b : List UInt8) (hv : readsK w v l) (hs : smallK l) (hl : l.length < 100000000) (ha : a.length < 4294967281) (hb : b.length < 4294967281) : Calls Tryd.prog 14 #[sc1 v, .string ⟨a.toArray⟩, .string ⟨b.toArray⟩] w
    fun e w' => e = .returned (.bool true) ∧ Mod [] w w' := by
  refine as_called (run_tree2 (ρ := [.v v, .r (l.map encK), .s a, .s b]) sxE_ok Tryd.func14 tree_dragomanlaw_KeepList rfl rfl (Rel.start2 (by simp [Ent.holds, Ent.wr, hv, X.ev])) rfl rfl ?_) rfl
  simp only [Tree.goal, X.P, X.ev, V.toI_i, V.toB_b, V.toS_s, V.toR_r, V.toV_v, V.toN_n, V.toL_l, SV.ev, CV.ev, Sc.ev, List.getD_cons_zero, List.getD_cons_succ, List.getElem?_cons_zero, List.getElem?_cons_succ, List.map_cons, List.map_nil, List.length_cons, List.length_nil, List.cons_append, List.nil_append, Nat.zero_add, Nat.reduceAdd]
  refine ⟨[.b true], rfl, fun _ w' _ => c_keepBegun w', ?_⟩
  simp only [Tree.goal, X.P, X.ev, V.toI_i, V.toB_b, V.toS_s, V.toR_r, V.toV_v, V.toN_n, V.toL_l, SV.ev, CV.ev, Sc.ev, List.getD_cons_zero, List.getD_cons_succ, List.getElem?_cons_zero, List.getElem?_cons_succ, List.map_cons, List.map_nil, List.length_cons, List.length_nil, List.cons_append, List.nil_append, Nat.zero_add, Nat.reduceAdd]
  refine ⟨[.b true], rfl, fun _ w' _ => c_topicBegun w', ?_⟩
  simp only [Tree.goal, X.P, X.ev, V.toI_i, V.toB_b, V.toS_s, V.toR_r, V.toV_v, V.toN_n, V.toL_l, SV.ev, CV.ev, Sc.ev, List.getD_cons_zero, List.getD_cons_succ, List.getElem?_cons_zero, List.getElem?_cons_succ, List.map_cons, List.map_nil, List.length_cons, List.length_nil, List.cons_append, List.nil_append, Nat.zero_add, Nat.reduceAdd]
  refine ⟨fun h => (by simp at h), fun _ w1 hr => ?_⟩
  refine (c_List w1 v l a (by (first | exact readsK_nil _ | (have hq := hr; repeat (first | exact hq.hd | replace hq := hq.tl)))) hs (by omega) ha).mono ?_
  rintro e w2 ⟨u, rfl, g1, g2, gm⟩
  refine ⟨[.v u, .r ((listC l a).1.map encK), .i (listC l a).2], rfl, rfl, gm, List.forall_mem_nil _, List.forall_mem_cons.2 ⟨⟨g1, fun k hk => .inl (g2 k hk.2)⟩, List.forall_mem_nil _⟩, apart_one, ?_⟩
  clear g1 g2 gm hr
  simp only [Tree.goal, X.P, X.ev, V.toI_i, V.toB_b, V.toS_s, V.toR_r, V.toV_v, V.toN_n, V.toL_l, SV.ev, CV.ev, Sc.ev, List.getD_cons_zero, List.getD_cons_succ, List.getElem?_cons_zero, List.getElem?_cons_succ, List.map_cons, List.map_nil, List.length_cons, List.length_nil, List.cons_append, List.nil_append, Nat.zero_add, Nat.reduceAdd, List.length_map, Int.toNat_natCast, gK0, gK1, gK2]
  intro w1 hr
  refine (c_List w1 v l b (by (first | exact readsK_nil _ | (have hq := hr; repeat (first | exact hq.hd | replace hq := hq.tl)))) hs (by omega) hb).mono ?_
  rintro e w2 ⟨u2, rfl, g1, g2, gm⟩
  refine ⟨[.v u2, .r ((listC l b).1.map encK), .i (listC l b).2], rfl, rfl, gm, List.forall_mem_nil _, List.forall_mem_cons.2 ⟨⟨g1, fun k hk => .inl (g2 k hk.2)⟩, List.forall_mem_nil _⟩, apart_one, ?_⟩
  clear g1 g2 gm hr
  simp only [Tree.goal, X.P, X.ev, V.toI_i, V.toB_b, V.toS_s, V.toR_r, V.toV_v, V.toN_n, V.toL_l, SV.ev, CV.ev, Sc.ev, List.getD_cons_zero, List.getD_cons_succ, List.getElem?_cons_zero, List.getElem?_cons_succ, List.map_cons, List.map_nil, List.length_cons, List.length_nil, List.cons_append, List.nil_append, Nat.zero_add, Nat.reduceAdd, List.length_map, Int.toNat_natCast, gK0, gK1, gK2]
  have hno : ∀ c, ¬ (listC l c).2 = 0 → (listC l c).1 = [] := fun c h => by
    unfold listC at h ⊢
    split at h
    · exact absurd rfl h
    · rename_i he; rw [if_neg he]
  refine ⟨fun h w' hr => ⟨?_, hr.mod⟩, fun h => ?_⟩
  · by_cases h1 : (listC l a).2 = 0
    · simp [h1]
    · simp [hno a h1]
  · have h1 : (listC l a).2 = 0 := by
      refine Classical.byContradiction fun h2 => h (.inl h2)
    have h2 : (listC l b).2 = 0 := by
      refine Classical.byContradiction fun h2 => h (.inr h2)
    clear h
    have e1 : listE l a = 0 := by
      unfold listC at h1
      split at h1
      · assumption
      · exact h1
    have e2 : listE l b = 0 := by
      unfold listC at h2
      split at h2
      · assumption
      · exact h2
    have hc : chkK l = 0 := by
      unfold listE at e1
      split at e1
      · assumption
      · exact e1
    obtain ⟨k1, k2, k3⟩ := chkK_iff.1 hc
    have hta : chkT a true = 0 := by rw [listE, if_pos hc] at e1; exact e1
    have htb : chkT b true = 0 := by rw [listE, if_pos hc] at e2; exact e2
    have x1 : (listC l a).1 = l.filter (forF a) := by rw [listC, if_pos e1]
    have x2 : (listC l b).1 = l.filter (forF b) := by rw [listC, if_pos e2]
    rw [x1, x2]
    have hf1 : (l.filter (forF a)).length ≤ l.length := List.length_filter_le _ _
    have hf2 : (l.filter (forF b)).length ≤ l.length := List.length_filter_le _ _
    refine ⟨fun vs => ∃ (i : Nat) (x : V), vs = [x, .i (((l.take i).filter (forF a)).length : Int), .i i] ∧ i ≤ l.length, fun vs => l.length - (vs.getD 2 (.i 0)).toI.toNat, ⟨0, _, rfl, by omega⟩, ?_⟩
    rintro _ - ⟨i, x, rfl, hi⟩
    simp only [Tree.goal, X.P, X.ev, V.toI_i, V.toB_b, V.toS_s, V.toR_r, V.toV_v, V.toN_n, V.toL_l, SV.ev, CV.ev, Sc.ev, List.getD_cons_zero, List.getD_cons_succ, List.getElem?_cons_zero, List.getElem?_cons_succ, List.map_cons, List.map_nil, List.length_cons, List.length_nil, List.cons_append, List.nil_append, Nat.zero_add, Nat.reduceAdd, List.length_map, Int.toNat_natCast, gK0, gK1, gK2]
    refine ⟨fun h3 => ⟨by omega, ?_⟩, fun h3 => ?_⟩
    · have hmt : matR a (l.getD i kD).1 = (forF a (l.getD i kD), 0) := by
        rw [matR, if_pos hta, if_pos (k2 _ (mem_getD (by omega))).1]; rfl
      refine ⟨[.b (forF a (l.getD i kD)), .i 0], rfl, fun _ w' hr => by
        have := c_Match w' a (l.getD i kD).1 ha (smallK_at hs i)
        rw [hmt] at this
        exact this, ?_⟩
      simp only [Tree.goal, X.P, X.ev, V.toI_i, V.toB_b, V.toS_s, V.toR_r, V.toV_v, V.toN_n, V.toL_l, SV.ev, CV.ev, Sc.ev, List.getD_cons_zero, List.getD_cons_succ, List.getElem?_cons_zero, List.getElem?_cons_succ, List.map_cons, List.map_nil, List.length_cons, List.length_nil, List.cons_append, List.nil_append, Nat.zero_add, Nat.reduceAdd, List.length_map, Int.toNat_natCast, gK0, gK1, gK2]
      have hsn := filtK_snoc (forF a) l i (by omega)
      refine ⟨fun h => absurd trivial h, fun _ => ⟨fun h4 => ?_, fun h4 => ⟨by omega, by omega, ⟨i + 1, x, ?_, by omega⟩, by omega⟩⟩⟩
      · obtain ⟨f1, f2⟩ := filt_at (forF a) l i (by omega) h4
        refine ⟨.inr (by omega), .inr (by omega), fun h5 => ?_, fun h5 => ⟨by omega, by omega, by omega, by omega, ⟨i + 1, x, ?_, by omega⟩, by omega⟩⟩
        · exfalso
          rcases h5 with h5 | h5
          · omega
          · rw [f2] at h5; exact h5 ⟨rfl, rfl, rfl⟩
        · rw [hsn, if_pos h4]; simp
      · rw [hsn, if_neg h4]; simp
    · have hil : i = l.length := by omega
      subst hil
      rw [List.take_length]
      have hcv : covR a b = (cv (lev a) (levC b), 0) := by rw [covR, if_pos hta, if_pos htb]
      refine ⟨[.b (cv (lev a) (levC b)), .i 0], rfl, fun _ w' hr => by
        have := c_Covers w' a b ha hb
        rw [hcv] at this
        exact this, ?_⟩
      simp only [Tree.goal, X.P, X.ev, V.toI_i, V.toB_b, V.toS_s, V.toR_r, V.toV_v, V.toN_n, V.toL_l, SV.ev, CV.ev, Sc.ev, List.getD_cons_zero, List.getD_cons_succ, List.getElem?_cons_zero, List.getElem?_cons_succ, List.map_cons, List.map_nil, List.length_cons, List.length_nil, List.cons_append, List.nil_append, Nat.zero_add, Nat.reduceAdd, List.length_map, Int.toNat_natCast, gK0, gK1, gK2]
      refine ⟨fun vs => ∃ (i : Nat) (x : V), vs = [x, .i i] ∧ i ≤ (l.filter (forF b)).length, fun vs => (l.filter (forF b)).length - (vs.getD 1 (.i 0)).toI.toNat, ⟨0, _, rfl, by omega⟩, ?_⟩
      rintro _ - ⟨i, x', rfl, hi⟩
      simp only [Tree.goal, X.P, X.ev, V.toI_i, V.toB_b, V.toS_s, V.toR_r, V.toV_v, V.toN_n, V.toL_l, SV.ev, CV.ev, Sc.ev, List.getD_cons_zero, List.getD_cons_succ, List.getElem?_cons_zero, List.getElem?_cons_succ, List.map_cons, List.map_nil, List.length_cons, List.length_nil, List.cons_append, List.nil_append, Nat.zero_add, Nat.reduceAdd, List.length_map, Int.toNat_natCast, gK0, gK1, gK2]
      refine ⟨fun h4 => ⟨by omega, ?_⟩, fun h4 w' hr => ⟨by simp, hr.mod⟩⟩
      obtain ⟨y, hy⟩ : ∃ y, y = (l.filter (forF b)).getD i kD := ⟨_, rfl⟩
      have hym : y ∈ l.filter (forF b) := by rw [hy]; exact mem_getD (by omega)
      obtain ⟨hyl, hyb⟩ := List.mem_filter.1 hym
      have hys : sortK (l.filter (forF a)) := k3.sublist List.filter_sublist
      have hyn : y.1 ≠ [] := fun e => by
        have := (k2 y hyl).1
        rw [e] at this; exact absurd this (by decide)
      have hya : forF a y = true := cv_mt h4.2 (mt_levC hyn hyb)
      have hh := has_mem (n := y.1) hys ⟨y, List.mem_filter.2 ⟨hyl, hya⟩, rfl⟩
      rw [← hy]
      refine ⟨[.i (idx (l.filter (forF a)) y.1)], rfl, fun _ w' hr => by
        have := c_KeptAt w' u (l.filter (forF a)) y.1 (by (first | exact readsK_nil _ | (have hq := hr; repeat (first | exact hq.hd | replace hq := hq.tl)))) hys (by omega)
        rw [if_pos hh] at this
        exact this, ?_⟩
      simp only [Tree.goal, X.P, X.ev, V.toI_i, V.toB_b, V.toS_s, V.toR_r, V.toV_v, V.toN_n, V.toL_l, SV.ev, CV.ev, Sc.ev, List.getD_cons_zero, List.getD_cons_succ, List.getElem?_cons_zero, List.getElem?_cons_succ, List.map_cons, List.map_nil, List.length_cons, List.length_nil, List.cons_append, List.nil_append, Nat.zero_add, Nat.reduceAdd, List.length_map, Int.toNat_natCast, gK0, gK1, gK2]
      exact ⟨fun h5 => absurd h5 (by omega), fun h5 => ⟨by omega, by omega, ⟨i + 1, x', rfl, by omega⟩, by omega⟩⟩
end Go.Proofs.YtkalmhdckoocbaaDoor
