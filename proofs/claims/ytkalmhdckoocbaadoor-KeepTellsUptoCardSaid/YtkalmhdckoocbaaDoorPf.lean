/-
  What is kept: what must be in any case; the laws KeepLast and KeepList. By an AI agent.
-/
import Derived.Test.YtkalmhdckoocbaaDoorPe
import Derived.Test.YtkalmhdckoocbaaDoorTd
import Derived.Test.YtkalmhdckoocbaaDoorTreesP2
set_option linter.unusedSimpArgs false
set_option linter.unusedVariables false
namespace Go.Proofs.YtkalmhdckoocbaaDoor
open Go.Sx

/-- What the laws begin with. -/
def kA : List Kp := [([97, 47, 98], [49], 1), ([99], [50], 7)]
theorem c_kept (w : World) : Calls Tryd.prog 98 #[] w fun e w' => gotL w w' e kA := by
  refine as_called (run_plain2 (ρ := []) sxE_ok Tryd.func98 tree_dragomanlaw_kept rfl rfl rfl ?_) rfl
  simp only [Tree.goal, X.P, X.ev, V.toI_i, V.toB_b, V.toS_s, V.toR_r, V.toV_v, V.toN_n, V.toL_l, SV.ev, CV.ev, Sc.ev, List.getD_cons_zero, List.getD_cons_succ, List.getElem?_cons_zero, List.getElem?_cons_succ, List.map_cons, List.map_nil, List.length_cons, List.length_nil, List.cons_append, List.nil_append, Nat.zero_add, Nat.reduceAdd]
  exact fun v0 w' hr => ⟨v0, rfl, (hr.at_ 0 rfl).reads, hr.fresh 0 rfl, hr.mod⟩
theorem kb1 : putC kA [99] [51] = ([([97, 47, 98], [49], 1), ([99], [51], 8)], 0) := by decide
theorem kb2 : putC kA [97, 47, 98] [] = ([([99], [50], 7)], 0) := by decide
theorem kb3 : getC [([97, 47, 98], [49], 1), ([99], [51], 8)] [99] = (([99], [51], 8), 0) := by decide
theorem kb4 : listC kA [43, 47, 98] = ([([97, 47, 98], [49], 1)], 0) := by decide
theorem kb5 : chkK kA = 0 := by decide
theorem kAs : smallK kA := by unfold smallK; decide
set_option maxHeartbeats 1000000 in
theorem c_keepBegun (w : World) : Calls Tryd.prog 57 #[] w fun e w' => e = .returned (.bool true) ∧ Mod [] w w' := by
  refine as_called (run_plain2 (ρ := []) sxE_ok Tryd.func57 tree_dragomanlaw_keepBegun rfl rfl rfl ?_) rfl
  simp only [Tree.goal, X.P, X.ev, V.toI_i, V.toB_b, V.toS_s, V.toR_r, V.toV_v, V.toN_n, V.toL_l, SV.ev, CV.ev, Sc.ev, List.getD_cons_zero, List.getD_cons_succ, List.getElem?_cons_zero, List.getElem?_cons_succ, List.map_cons, List.map_nil, List.length_cons, List.length_nil, List.cons_append, List.nil_append, Nat.zero_add, Nat.reduceAdd]
  intro w1 hr; refine (c_kept w1).mono ?_; rintro e w2 ⟨u, rfl, g1, g2, gm⟩; refine ⟨[.v u, .r (kA.map encK)], rfl, rfl, gm, List.forall_mem_nil _, List.forall_mem_cons.2 ⟨⟨g1, fun k hk => .inl (g2 k hk.2)⟩, List.forall_mem_nil _⟩, apart_one, ?_⟩; clear g1 g2 gm hr; simp only [Tree.goal, X.P, X.ev, V.toI_i, V.toB_b, V.toS_s, V.toR_r, V.toV_v, V.toN_n, V.toL_l, SV.ev, CV.ev, Sc.ev, List.getD_cons_zero, List.getD_cons_succ, List.getElem?_cons_zero, List.getElem?_cons_succ, List.map_cons, List.map_nil, List.length_cons, List.length_nil, List.cons_append, List.nil_append, Nat.zero_add, Nat.reduceAdd]
  intro w1 hr
  refine (c_Put w1 u kA [99] [51] (by (first | exact readsK_nil _ | (have hq := hr; repeat (first | exact hq.hd | replace hq := hq.tl)))) kAs (by decide) (by decide)).mono ?_
  rw [kb1]
  rintro e w2 ⟨u1, rfl, g1, g2, gm⟩
  refine ⟨[.v u1, .r (([([97, 47, 98], [49], 1), ([99], [51], 8)] : List Kp).map encK), .i 0], rfl, rfl, gm, List.forall_mem_nil _, List.forall_mem_cons.2 ⟨⟨g1, fun k hk => .inl (g2 k hk.2)⟩, List.forall_mem_nil _⟩, apart_one, ?_⟩
  clear g1 g2 gm hr
  simp only [Tree.goal, X.P, X.ev, V.toI_i, V.toB_b, V.toS_s, V.toR_r, V.toV_v, V.toN_n, V.toL_l, SV.ev, CV.ev, Sc.ev, List.getD_cons_zero, List.getD_cons_succ, List.getElem?_cons_zero, List.getElem?_cons_succ, List.map_cons, List.map_nil, List.length_cons, List.length_nil, List.cons_append, List.nil_append, Nat.zero_add, Nat.reduceAdd]
  intro w1 hr; refine (c_kept w1).mono ?_; rintro e w2 ⟨u, rfl, g1, g2, gm⟩; refine ⟨[.v u, .r (kA.map encK)], rfl, rfl, gm, List.forall_mem_nil _, List.forall_mem_cons.2 ⟨⟨g1, fun k hk => .inl (g2 k hk.2)⟩, List.forall_mem_nil _⟩, apart_one, ?_⟩; clear g1 g2 gm hr; simp only [Tree.goal, X.P, X.ev, V.toI_i, V.toB_b, V.toS_s, V.toR_r, V.toV_v, V.toN_n, V.toL_l, SV.ev, CV.ev, Sc.ev, List.getD_cons_zero, List.getD_cons_succ, List.getElem?_cons_zero, List.getElem?_cons_succ, List.map_cons, List.map_nil, List.length_cons, List.length_nil, List.cons_append, List.nil_append, Nat.zero_add, Nat.reduceAdd]
  intro w1 hr
  refine (c_Put w1 u kA [97, 47, 98] [] (by (first | exact readsK_nil _ | (have hq := hr; repeat (first | exact hq.hd | replace hq := hq.tl)))) kAs (by decide) (by decide)).mono ?_
  rw [kb2]
  rintro e w2 ⟨u2, rfl, g1, g2, gm⟩
  refine ⟨[.v u2, .r (([([99], [50], 7)] : List Kp).map encK), .i 0], rfl, rfl, gm, List.forall_mem_nil _, List.forall_mem_cons.2 ⟨⟨g1, fun k hk => .inl (g2 k hk.2)⟩, List.forall_mem_nil _⟩, apart_one, ?_⟩
  clear g1 g2 gm hr
  simp only [Tree.goal, X.P, X.ev, V.toI_i, V.toB_b, V.toS_s, V.toR_r, V.toV_v, V.toN_n, V.toL_l, SV.ev, CV.ev, Sc.ev, List.getD_cons_zero, List.getD_cons_succ, List.getElem?_cons_zero, List.getElem?_cons_succ, List.map_cons, List.map_nil, List.length_cons, List.length_nil, List.cons_append, List.nil_append, Nat.zero_add, Nat.reduceAdd]
  refine ⟨[.s [99], .s [51], .i 8, .i 0], rfl, fun _ w' hr => by
    have := c_Get w' u1 [([97, 47, 98], [49], 1), ([99], [51], 8)] [99] (by (first | exact readsK_nil _ | (have hq := hr; repeat (first | exact hq.hd | replace hq := hq.tl)))) (by unfold smallK; decide) (by decide) (by decide)
    rw [kb3] at this
    exact this, ?_⟩
  simp only [Tree.goal, X.P, X.ev, V.toI_i, V.toB_b, V.toS_s, V.toR_r, V.toV_v, V.toN_n, V.toL_l, SV.ev, CV.ev, Sc.ev, List.getD_cons_zero, List.getD_cons_succ, List.getElem?_cons_zero, List.getElem?_cons_succ, List.map_cons, List.map_nil, List.length_cons, List.length_nil, List.cons_append, List.nil_append, Nat.zero_add, Nat.reduceAdd]
  intro b1
  intro w1 hr; refine (c_kept w1).mono ?_; rintro e w2 ⟨u, rfl, g1, g2, gm⟩; refine ⟨[.v u, .r (kA.map encK)], rfl, rfl, gm, List.forall_mem_nil _, List.forall_mem_cons.2 ⟨⟨g1, fun k hk => .inl (g2 k hk.2)⟩, List.forall_mem_nil _⟩, apart_one, ?_⟩; clear g1 g2 gm hr; simp only [Tree.goal, X.P, X.ev, V.toI_i, V.toB_b, V.toS_s, V.toR_r, V.toV_v, V.toN_n, V.toL_l, SV.ev, CV.ev, Sc.ev, List.getD_cons_zero, List.getD_cons_succ, List.getElem?_cons_zero, List.getElem?_cons_succ, List.map_cons, List.map_nil, List.length_cons, List.length_nil, List.cons_append, List.nil_append, Nat.zero_add, Nat.reduceAdd]
  intro w1 hr
  refine (c_List w1 u kA [43, 47, 98] (by (first | exact readsK_nil _ | (have hq := hr; repeat (first | exact hq.hd | replace hq := hq.tl)))) kAs (by decide) (by decide)).mono ?_
  rw [kb4]
  rintro e w2 ⟨u3, rfl, g1, g2, gm⟩
  refine ⟨[.v u3, .r (([([97, 47, 98], [49], 1)] : List Kp).map encK), .i 0], rfl, rfl, gm, List.forall_mem_nil _, List.forall_mem_cons.2 ⟨⟨g1, fun k hk => .inl (g2 k hk.2)⟩, List.forall_mem_nil _⟩, apart_one, ?_⟩
  clear g1 g2 gm hr
  simp only [Tree.goal, X.P, X.ev, V.toI_i, V.toB_b, V.toS_s, V.toR_r, V.toV_v, V.toN_n, V.toL_l, SV.ev, CV.ev, Sc.ev, List.getD_cons_zero, List.getD_cons_succ, List.getElem?_cons_zero, List.getElem?_cons_succ, List.map_cons, List.map_nil, List.length_cons, List.length_nil, List.cons_append, List.nil_append, Nat.zero_add, Nat.reduceAdd]
  intro w1 hr; refine (c_kept w1).mono ?_; rintro e w2 ⟨u, rfl, g1, g2, gm⟩; refine ⟨[.v u, .r (kA.map encK)], rfl, rfl, gm, List.forall_mem_nil _, List.forall_mem_cons.2 ⟨⟨g1, fun k hk => .inl (g2 k hk.2)⟩, List.forall_mem_nil _⟩, apart_one, ?_⟩; clear g1 g2 gm hr; simp only [Tree.goal, X.P, X.ev, V.toI_i, V.toB_b, V.toS_s, V.toR_r, V.toV_v, V.toN_n, V.toL_l, SV.ev, CV.ev, Sc.ev, List.getD_cons_zero, List.getD_cons_succ, List.getElem?_cons_zero, List.getElem?_cons_succ, List.map_cons, List.map_nil, List.length_cons, List.length_nil, List.cons_append, List.nil_append, Nat.zero_add, Nat.reduceAdd]
  refine ⟨[.i 0], rfl, fun _ w' hr => by
    have := c_CheckK w' u kA (by (first | exact readsK_nil _ | (have hq := hr; repeat (first | exact hq.hd | replace hq := hq.tl)))) kAs (by decide)
    rw [kb5] at this
    exact this, ?_⟩
  simp only [Tree.goal, X.P, X.ev, V.toI_i, V.toB_b, V.toS_s, V.toR_r, V.toV_v, V.toN_n, V.toL_l, SV.ev, CV.ev, Sc.ev, List.getD_cons_zero, List.getD_cons_succ, List.getElem?_cons_zero, List.getElem?_cons_succ, List.map_cons, List.map_nil, List.length_cons, List.length_nil, List.cons_append, List.nil_append, Nat.zero_add, Nat.reduceAdd]
  refine ⟨fun _ => ?_, fun h => absurd (by simp) h⟩
  intro w1 hr; refine (c_kept w1).mono ?_; rintro e w2 ⟨u, rfl, g1, g2, gm⟩; refine ⟨[.v u, .r (kA.map encK)], rfl, rfl, gm, List.forall_mem_nil _, List.forall_mem_cons.2 ⟨⟨g1, fun k hk => .inl (g2 k hk.2)⟩, List.forall_mem_nil _⟩, apart_one, ?_⟩; clear g1 g2 gm hr; simp only [Tree.goal, X.P, X.ev, V.toI_i, V.toB_b, V.toS_s, V.toR_r, V.toV_v, V.toN_n, V.toL_l, SV.ev, CV.ev, Sc.ev, List.getD_cons_zero, List.getD_cons_succ, List.getElem?_cons_zero, List.getElem?_cons_succ, List.map_cons, List.map_nil, List.length_cons, List.length_nil, List.cons_append, List.nil_append, Nat.zero_add, Nat.reduceAdd]
  refine ⟨by decide, fun v9 => ?_⟩
  refine ⟨[.b true], rfl, fun _ w' hr => ?_, ?_⟩
  · have := c_SameKept w' u3 v9 [([97, 47, 98], [49], 1)] [([97, 47, 98], [49], 1)] (by (first | exact readsK_nil _ | (have hq := hr; repeat (first | exact hq.hd | replace hq := hq.tl)))) (hr.at_ 0 rfl) (by decide)
    exact this
  simp only [Tree.goal, X.P, X.ev, V.toI_i, V.toB_b, V.toS_s, V.toR_r, V.toV_v, V.toN_n, V.toL_l, SV.ev, CV.ev, Sc.ev, List.getD_cons_zero, List.getD_cons_succ, List.getElem?_cons_zero, List.getElem?_cons_succ, List.map_cons, List.map_nil, List.length_cons, List.length_nil, List.cons_append, List.nil_append, Nat.zero_add, Nat.reduceAdd]
  exact fun w' hr => ⟨by trivial, hr.mod⟩

/-- What is got, by what is there. -/
theorem getC_eq {l : List Kp} {n : List UInt8} (h : chkK l = 0) (hn : chkT n false = 0) : getC l n = match miK l n with | k :: _ => (k, 0) | [] => (kD, 5) := by
  obtain ⟨k1, k2, k3⟩ := chkK_iff.1 h
  have e : putE l n = 0 := by rw [putE, if_pos h, hn]
  rw [getC, if_pos e, at_lo k3]
  rcases has_iff (n := n) k3 with ⟨h1, k, h2, h3⟩ | ⟨h1, h2⟩
  · rw [h1, h2]; rfl
  · rw [h1, h2]; rfl
theorem getC_bad {l : List Kp} {n : List UInt8} (h : chkK l = 0) (hn : ¬ chkT n false = 0) : getC l n = (kD, chkT n false) := by
  have e : putE l n = chkT n false := by rw [putE, if_pos h]
  rw [getC, e, if_neg hn]
def newX (l : List Kp) (n p : List UInt8) : List Kp := if p = [] then [] else [(n, p, match miK l n with | k :: _ => minV k.2.2 | [] => 1)]
theorem lo_lt {l : List Kp} {n : List UInt8} {x : Kp} (h : x ∈ loK l n) : ltB x.1 n = true := (List.mem_filter.1 h).2
theorem hi_lt {l : List Kp} {n : List UInt8} {x : Kp} (h : x ∈ hiK l n) : ltB n x.1 = true := (List.mem_filter.1 h).2
theorem rawK_eq {l : List Kp} {n p : List UInt8} (h : chkK l = 0) (he : (rawK l n p).2 = 0) : (rawK l n p).1 = loK l n ++ newX l n p ++ hiK l n ∧ p.length ≤ 200 ∧ (loK l n ++ newX l n p ++ hiK l n).length ≤ 16 := by
  obtain ⟨k1, k2, k3⟩ := chkK_iff.1 h
  rw [← put_raw h] at he ⊢
  unfold putO at he ⊢
  have ef : finF (n, p, verF n 1 l) [] (decide (p = [])) l = loK l n ++ newX l n p ++ hiK l n := by
    rw [finF_eq _ l [] _ k3, verF_eq, newX]
    by_cases hp : p = []
    · simp [hp]
    · rcases has_iff (n := n) k3 with ⟨h1, k, h2, h3⟩ | ⟨h1, h2⟩
      · simp [hp, h2]
      · simp [hp, h2]
  rw [ef] at he ⊢
  split at he
  · exact absurd he (by decide)
  split at he
  · exact absurd he (by decide)
  rename_i q1 q2
  rw [if_neg q1, if_neg q2]
  exact ⟨rfl, by omega, by omega⟩
theorem raw_chk {l : List Kp} {n p : List UInt8} (h : chkK l = 0) (hn : chkT n false = 0) (he : (rawK l n p).2 = 0) : chkK (rawK l n p).1 = 0 := by
  obtain ⟨k1, k2, k3⟩ := chkK_iff.1 h
  obtain ⟨e, hp, hl⟩ := rawK_eq h he
  rw [e]
  have hlo : sortK (loK l n) := k3.sublist List.filter_sublist
  have hhi : sortK (hiK l n) := k3.sublist List.filter_sublist
  have hnx : ∀ x ∈ newX l n p, x.1 = n ∧ okK x := by
    intro x hx
    unfold newX at hx
    split at hx
    · cases hx
    · rename_i hp0
      rw [List.mem_singleton] at hx
      subst hx
      refine ⟨rfl, hn, hp0, by simp only; omega, ?_, ?_⟩
      · cases hm : miK l n with
        | nil => simp
        | cons k r =>
          have := (k2 k (List.mem_filter.1 (show k ∈ miK l n by rw [hm]; exact List.mem_cons_self ..)).1).2.2.2
          simp only [minV]; split <;> omega
      · cases hm : miK l n with
        | nil => simp
        | cons k r =>
          have := (k2 k (List.mem_filter.1 (show k ∈ miK l n by rw [hm]; exact List.mem_cons_self ..)).1).2.2.2
          simp only [minV]; split <;> omega
  refine chkK_iff.2 ⟨hl, fun k hk => ?_, ?_⟩
  · simp only [List.mem_append] at hk
    rcases hk with (hk | hk) | hk
    · exact k2 k (List.mem_filter.1 hk).1
    · exact (hnx k hk).2
    · exact k2 k (List.mem_filter.1 hk).1
  · refine List.pairwise_append.2 ⟨List.pairwise_append.2 ⟨hlo, ?_, fun a ha b hb => ?_⟩, hhi, fun a ha b hb => ?_⟩
    · unfold newX; split <;> simp
    · rw [(hnx b hb).1]; exact lo_lt ha
    · rcases List.mem_append.1 ha with ha | ha
      · exact ltB_trans (lo_lt ha) (hi_lt hb)
      · rw [(hnx a ha).1]; exact hi_lt hb
theorem mi_app (a b : List Kp) (m : List UInt8) : miK (a ++ b) m = miK a m ++ miK b m := List.filter_append ..
theorem mi_lo {l : List Kp} {n : List UInt8} : miK (loK l n) n = [] := filt_none fun x hx => decide_eq_false (ltB_ne (lo_lt hx))
theorem mi_hi {l : List Kp} {n : List UInt8} : miK (hiK l n) n = [] := filt_none fun x hx => decide_eq_false (ltB_ne (hi_lt hx)).symm
theorem mi_new {l : List Kp} {n p : List UInt8} : miK (newX l n p) n = newX l n p := filt_all fun x hx => by
  unfold newX at hx
  split at hx
  · cases hx
  · rw [List.mem_singleton.1 hx]; simp
theorem mi_new_ne {l : List Kp} {n p m : List UInt8} (h : m ≠ n) : miK (newX l n p) m = [] := filt_none fun x hx => by
  unfold newX at hx
  split at hx
  · cases hx
  · rw [List.mem_singleton.1 hx]; exact decide_eq_false (Ne.symm h)
theorem mi_mi {l : List Kp} {n m : List UInt8} (h : m ≠ n) : miK (miK l n) m = [] := filt_none fun x hx => by
  have : x.1 = n := by simpa using (List.mem_filter.1 hx).2
  rw [this]; exact decide_eq_false (Ne.symm h)
theorem get_new {l : List Kp} {n p : List UInt8} (h : chkK l = 0) (hn : chkT n false = 0) (he : (rawK l n p).2 = 0) : getC (rawK l n p).1 n = match newX l n p with | k :: _ => (k, 0) | [] => (kD, 5) := by
  rw [getC_eq (raw_chk h hn he) hn, (rawK_eq h he).1, mi_app, mi_app, mi_lo, mi_hi, mi_new, List.nil_append, List.append_nil]
theorem get_other {l : List Kp} {n p m : List UInt8} (h : chkK l = 0) (hn : chkT n false = 0) (he : (rawK l n p).2 = 0) (hm : m ≠ n) : getC (rawK l n p).1 m = getC l m := by
  by_cases hc : chkT m false = 0
  · have e1 : miK (rawK l n p).1 m = miK l m := by
      rw [(rawK_eq h he).1]
      conv => rhs; rw [(three l n (chkK_iff.1 h).2.2).1]
      simp only [mi_app, mi_new_ne hm, mi_mi hm]
    rw [getC_eq (raw_chk h hn he) hc, getC_eq h hc, e1]
  · rw [getC_bad (raw_chk h hn he) hc, getC_bad h hc]
theorem raw_small {l : List Kp} {n p : List UInt8} (h : chkK l = 0) (hn : chkT n false = 0) (he : (rawK l n p).2 = 0) (hs : smallK l) (hnn : n.length < 4294967281) : smallK (rawK l n p).1 := by
  rw [(rawK_eq h he).1]
  intro x hx
  simp only [List.mem_append] at hx
  rcases hx with (hx | hx) | hx
  · exact hs x (List.mem_filter.1 hx).1
  · unfold newX at hx
    split at hx
    · cases hx
    · rw [List.mem_singleton.1 hx]; exact hnn
  · exact hs x (List.mem_filter.1 hx).1
set_option maxHeartbeats 1000000 in
theorem c_KeepLast (w : World) (v : Value) (l : List Kp) (n p o : List UInt8) (hv : readsK w v l) (hs : smallK l) (hl : l.length < 100000000) (hn : n.length < 4294967281) (ho : o.length < 4294967281) : Calls Tryd.prog 13 #[sc1 v, .string ⟨n.toArray⟩, .string ⟨p.toArray⟩, .string ⟨o.toArray⟩] w
    fun e w' => e = .returned (.bool true) ∧ Mod [] w w' := by
  refine as_called (run_tree2 (ρ := [.v v, .r (l.map encK), .s n, .s p, .s o]) sxE_ok Tryd.func13 tree_dragomanlaw_KeepLast rfl rfl (Rel.start2 (by simp [Ent.holds, Ent.wr, hv, X.ev])) rfl rfl ?_) rfl
  simp only [Tree.goal, X.P, X.ev, V.toI_i, V.toB_b, V.toS_s, V.toR_r, V.toV_v, V.toN_n, V.toL_l, SV.ev, CV.ev, Sc.ev, List.getD_cons_zero, List.getD_cons_succ, List.getElem?_cons_zero, List.getElem?_cons_succ, List.map_cons, List.map_nil, List.length_cons, List.length_nil, List.cons_append, List.nil_append, Nat.zero_add, Nat.reduceAdd]
  refine ⟨[.b true], rfl, fun _ w' _ => c_keepBegun w', ?_⟩
  simp only [Tree.goal, X.P, X.ev, V.toI_i, V.toB_b, V.toS_s, V.toR_r, V.toV_v, V.toN_n, V.toL_l, SV.ev, CV.ev, Sc.ev, List.getD_cons_zero, List.getD_cons_succ, List.getElem?_cons_zero, List.getElem?_cons_succ, List.map_cons, List.map_nil, List.length_cons, List.length_nil, List.cons_append, List.nil_append, Nat.zero_add, Nat.reduceAdd]
  refine ⟨fun h => absurd trivial h, fun _ w1 hr => ?_⟩
  refine (c_Put w1 v l n p (by (first | exact readsK_nil _ | (have hq := hr; repeat (first | exact hq.hd | replace hq := hq.tl)))) hs (by omega) hn).mono ?_
  rintro e w2 ⟨u, rfl, g1, g2, gm⟩
  refine ⟨[.v u, .r ((putC l n p).1.map encK), .i (putC l n p).2], rfl, rfl, gm, List.forall_mem_nil _, List.forall_mem_cons.2 ⟨⟨g1, fun k hk => .inl (g2 k hk.2)⟩, List.forall_mem_nil _⟩, apart_one, ?_⟩
  clear g1 g2 gm hr
  simp only [Tree.goal, X.P, X.ev, V.toI_i, V.toB_b, V.toS_s, V.toR_r, V.toV_v, V.toN_n, V.toL_l, SV.ev, CV.ev, Sc.ev, List.getD_cons_zero, List.getD_cons_succ, List.getElem?_cons_zero, List.getElem?_cons_succ, List.map_cons, List.map_nil, List.length_cons, List.length_nil, List.cons_append, List.nil_append, Nat.zero_add, Nat.reduceAdd, List.length_map, Int.toNat_natCast, gK0, gK1, gK2]
  refine ⟨fun h w' hr => ⟨?_, hr.mod⟩, fun h => ?_⟩
  · have : (putC l n p).1 = [] := by
      unfold putC at h ⊢
      split at h
      · rename_i he
        rw [if_pos he]
        unfold rawK at h ⊢
        split at h
        · rename_i h1; rw [if_pos h1]
        rename_i h1; rw [if_neg h1]
        split at h
        · exact absurd rfl h
        rename_i h2; rw [if_neg h2]
        split at h
        · exact absurd rfl h
        rename_i h3; rw [if_neg h3]
        split at h
        · exact absurd rfl h
        rename_i h4; rw [if_neg h4]
        split at h
        · rename_i h5; rw [if_pos h5]
        · exact absurd rfl h
      · rename_i he; rw [if_neg he]
    rw [this]; rfl
  · have h : (putC l n p).2 = 0 := Classical.not_not.1 h
    have he : putE l n = 0 := by
      unfold putC at h
      split at h
      · assumption
      · exact h
    have hc : chkK l = 0 := by
      unfold putE at he
      split at he
      · assumption
      · exact he
    have hnn : chkT n false = 0 := by rw [putE, if_pos hc] at he; exact he
    rw [putC, if_pos he] at h ⊢
    have hsa := raw_small hc hnn h hs hn
    have hla : (rawK l n p).1.length ≤ 16 := by rw [(rawK_eq hc h).1]; exact (rawK_eq hc h).2.2
    have hgn := get_new hc hnn h
    generalize hG : getC (rawK l n p).1 n = G at hgn
    refine ⟨[.s G.1.1, .s G.1.2.1, .i G.1.2.2, .i G.2], rfl, fun _ w' hr => by
      have := c_Get w' u _ n (show readsK w' u (rawK l n p).1 by (first | exact readsK_nil _ | (have hq := hr; repeat (first | exact hq.hd | replace hq := hq.tl)))) hsa (by omega) hn
      rw [hG] at this
      exact this, ?_⟩
    simp only [Tree.goal, X.P, X.ev, V.toI_i, V.toB_b, V.toS_s, V.toR_r, V.toV_v, V.toN_n, V.toL_l, SV.ev, CV.ev, Sc.ev, List.getD_cons_zero, List.getD_cons_succ, List.getElem?_cons_zero, List.getElem?_cons_succ, List.map_cons, List.map_nil, List.length_cons, List.length_nil, List.cons_append, List.nil_append, Nat.zero_add, Nat.reduceAdd, List.length_map, Int.toNat_natCast, gK0, gK1, gK2]
    intro b1
    refine ⟨[.i 0], rfl, fun _ w' hr => by
      have := c_CheckK w' u _ (show readsK w' u (rawK l n p).1 by (first | exact readsK_nil _ | (have hq := hr; repeat (first | exact hq.hd | replace hq := hq.tl)))) hsa (by omega)
      rw [raw_chk hc hnn h] at this
      exact this, ?_⟩
    simp only [Tree.goal, X.P, X.ev, V.toI_i, V.toB_b, V.toS_s, V.toR_r, V.toV_v, V.toN_n, V.toL_l, SV.ev, CV.ev, Sc.ev, List.getD_cons_zero, List.getD_cons_succ, List.getElem?_cons_zero, List.getElem?_cons_succ, List.map_cons, List.map_nil, List.length_cons, List.length_nil, List.cons_append, List.nil_append, Nat.zero_add, Nat.reduceAdd, List.length_map, Int.toNat_natCast, gK0, gK1, gK2]
    refine ⟨fun h1 => ?_, fun _ => ⟨fun h2 w' hr => ⟨by trivial, hr.mod⟩, fun h2 => ?_⟩⟩
    · exfalso
      unfold newX at hgn
      by_cases hp : p = []
      · rw [if_pos hp] at hgn
        rw [hgn] at h1
        simp [hp] at h1
      · rw [if_neg hp] at hgn
        rw [hgn] at h1
        simp [hp] at h1
    · generalize hG1 : getC l o = G1
      have hG2 : getC (rawK l n p).1 o = G1 := by rw [get_other hc hnn h h2, hG1]
      refine ⟨[.s G1.1.1, .s G1.1.2.1, .i G1.1.2.2, .i G1.2], rfl, fun _ w' hr => by
        have := c_Get w' v l o (by (first | exact readsK_nil _ | (have hq := hr; repeat (first | exact hq.hd | replace hq := hq.tl)))) hs (by omega) ho
        rw [hG1] at this
        exact this, ?_⟩
      simp only [Tree.goal, X.P, X.ev, V.toI_i, V.toB_b, V.toS_s, V.toR_r, V.toV_v, V.toN_n, V.toL_l, SV.ev, CV.ev, Sc.ev, List.getD_cons_zero, List.getD_cons_succ, List.getElem?_cons_zero, List.getElem?_cons_succ, List.map_cons, List.map_nil, List.length_cons, List.length_nil, List.cons_append, List.nil_append, Nat.zero_add, Nat.reduceAdd, List.length_map, Int.toNat_natCast, gK0, gK1, gK2]
      intro b2
      refine ⟨[.s G1.1.1, .s G1.1.2.1, .i G1.1.2.2, .i G1.2], rfl, fun _ w' hr => by
        have := c_Get w' u _ o (show readsK w' u (rawK l n p).1 by (first | exact readsK_nil _ | (have hq := hr; repeat (first | exact hq.hd | replace hq := hq.tl)))) hsa (by omega) ho
        rw [hG2] at this
        exact this, ?_⟩
      simp only [Tree.goal, X.P, X.ev, V.toI_i, V.toB_b, V.toS_s, V.toR_r, V.toV_v, V.toN_n, V.toL_l, SV.ev, CV.ev, Sc.ev, List.getD_cons_zero, List.getD_cons_succ, List.getElem?_cons_zero, List.getElem?_cons_succ, List.map_cons, List.map_nil, List.length_cons, List.length_nil, List.cons_append, List.nil_append, Nat.zero_add, Nat.reduceAdd, List.length_map, Int.toNat_natCast, gK0, gK1, gK2]
      exact fun b3 w' hr => ⟨by simp, hr.mod⟩
end Go.Proofs.YtkalmhdckoocbaaDoor
