/-
  Wants: the reference's calls, walked. By an AI agent.
-/
import Derived.Test.YtliedecinehijaaGreatDoorZ15
import Derived.Test.YtliedecinehijaaGreatDoorZ01
import Derived.WalkKit
import Derived.ProofKit
import Derived.OpenShut
import Derived.JoinedCond
import Derived.ChangeStays
import Derived.Test.YtliedecinehijaaGreatDoorZ05
import Derived.Test.YtliedecinehijaaGreatDoorZ09
set_option linter.unusedSimpArgs false
set_option linter.unusedVariables false
namespace Go.Proofs.YtliedecinehijaaGreatDoor
open Go Go.Sx

theorem c_CheckAsk (w : World) (x : Wt) (hs : smW x) : Calls Tryz.prog 24 #[.string ⟨x.1.toArray⟩, .agg #[.string ⟨x.2.1.toArray⟩, .int .i64 x.2.2]] w fun e w' => e = .returned (.int .i64 (oneE x)) ∧ Mod [] w w' := by
  have h1 := hs.1
  have h2 := hs.2
  refine as_called (run_plain2 (ρ := [.s x.1, .s x.2.1, .i x.2.2]) sxE_ok Tryz.func24 tree_dragomanref_CheckAsk rfl rfl rfl ?_) rfl
  simp only [Tree.goal, X.P, X.ev, V.toI_i, V.toB_b, V.toS_s, V.toR_r, V.toV_v, V.toN_n, V.toL_l, SV.ev, CV.ev, Sc.ev, List.getD_cons_zero, List.getD_cons_succ, List.getElem?_cons_zero, List.getElem?_cons_succ, List.map_cons, List.map_nil, List.length_cons, List.length_nil, List.cons_append, List.nil_append, Nat.zero_add, Nat.reduceAdd]
  intro b1
  refine ⟨[.b (cliB x.1)], rfl, fun _ w' _ => c_IsClient w' _ (by omega), ?_⟩
  simp only [Tree.goal, X.P, X.ev, V.toI_i, V.toB_b, V.toS_s, V.toR_r, V.toV_v, V.toN_n, V.toL_l, SV.ev, CV.ev, Sc.ev, List.getD_cons_zero, List.getD_cons_succ, List.getElem?_cons_zero, List.getElem?_cons_succ, List.map_cons, List.map_nil, List.length_cons, List.length_nil, List.cons_append, List.nil_append, Nat.zero_add, Nat.reduceAdd]
  refine ⟨fun h w' hr => ⟨by rw [oneE, if_neg h], hr.mod⟩, fun h => ?_⟩
  have h := Classical.not_not.1 h
  refine ⟨[.i (chkT x.2.1 true)], rfl, fun _ w' _ => c_CheckTopic w' _ true (by omega), ?_⟩
  simp only [Tree.goal, X.P, X.ev, V.toI_i, V.toB_b, V.toS_s, V.toR_r, V.toV_v, V.toN_n, V.toL_l, SV.ev, CV.ev, Sc.ev, List.getD_cons_zero, List.getD_cons_succ, List.getElem?_cons_zero, List.getElem?_cons_succ, List.map_cons, List.map_nil, List.length_cons, List.length_nil, List.cons_append, List.nil_append, Nat.zero_add, Nat.reduceAdd]
  have e : oneE x = askE (x.2.1, x.2.2) := by rw [oneE, if_pos h]
  refine ⟨fun h3 => ⟨fun h4 w' hr => ⟨?_, hr.mod⟩, fun h4 w' hr => ⟨?_, hr.mod⟩⟩, fun h3 w' hr => ⟨?_, hr.mod⟩⟩
  · rw [e, askE]; simp only; rw [if_pos h3, if_neg h4]
  · rw [e, askE]; simp only; rw [if_pos h3, if_pos (Classical.not_not.1 h4), h3]
  · rw [e, askE]; simp only; rw [if_neg h3]
theorem c_wantLess (w : World) (a b : Wt) (ha : smW a) : Calls Tryz.prog 74 #[wV a, wV b] w fun e w' => e = .returned (.bool (ltP (ky a) (ky b))) ∧ Mod [] w w' := by
  have h1 := ha.1
  have h2 := ha.2
  refine as_called (run_plain2 (ρ := [.s a.1, .s a.2.1, .i a.2.2, .s b.1, .s b.2.1, .i b.2.2]) sxE_ok Tryz.func74 tree_dragomanref_wantLess rfl rfl rfl ?_) rfl
  simp only [Tree.goal, X.P, X.ev, V.toI_i, V.toB_b, V.toS_s, V.toR_r, V.toV_v, V.toN_n, V.toL_l, SV.ev, CV.ev, Sc.ev, List.getD_cons_zero, List.getD_cons_succ, List.getElem?_cons_zero, List.getElem?_cons_succ, List.map_cons, List.map_nil, List.length_cons, List.length_nil, List.cons_append, List.nil_append, Nat.zero_add, Nat.reduceAdd]
  intro b1 b2
  refine ⟨fun h => ?_, fun h => ?_⟩
  · refine ⟨[.b (ltB a.1 b.1)], rfl, fun _ w' _ => c_textLess w' _ _ (by omega), ?_⟩
    simp only [Tree.goal, X.P, X.ev, V.toI_i, V.toB_b, V.toS_s, V.toR_r, V.toV_v, V.toN_n, V.toL_l, SV.ev, CV.ev, Sc.ev, List.getD_cons_zero, List.getD_cons_succ, List.getElem?_cons_zero, List.getElem?_cons_succ, List.map_cons, List.map_nil, List.length_cons, List.length_nil, List.cons_append, List.nil_append, Nat.zero_add, Nat.reduceAdd]
    refine fun w' hr => ⟨?_, hr.mod⟩
    simp [ltP, ky, h]
  · have h := Classical.not_not.1 h
    refine ⟨[.b (ltB a.2.1 b.2.1)], rfl, fun _ w' _ => c_textLess w' _ _ (by omega), ?_⟩
    simp only [Tree.goal, X.P, X.ev, V.toI_i, V.toB_b, V.toS_s, V.toR_r, V.toV_v, V.toN_n, V.toL_l, SV.ev, CV.ev, Sc.ev, List.getD_cons_zero, List.getD_cons_succ, List.getElem?_cons_zero, List.getElem?_cons_succ, List.map_cons, List.map_nil, List.length_cons, List.length_nil, List.cons_append, List.nil_append, Nat.zero_add, Nat.reduceAdd]
    refine fun w' hr => ⟨?_, hr.mod⟩
    simp [ltP, ky, h, ltB_irr]
set_option maxHeartbeats 1000000 in
theorem c_CheckWants (w : World) (v : Value) (l : List Wt) (hv : readsW w v l) (hs : smallW l) (hl : l.length < 1000000000) : Calls Tryz.prog 23 #[sc1 v] w
    fun e w' => e = .returned (.int .i64 (chkW l)) ∧ Mod [] w w' := by
  refine as_called (run_tree2 (ρ := [.v v, .r (l.map encW)]) sxE_ok Tryz.func23 tree_dragomanref_CheckWants rfl rfl (Rel.start2 (by simp [Ent.holds, Ent.wr, hv, X.ev])) rfl rfl ?_) rfl
  simp only [Tree.goal, X.P, X.ev, V.toI_i, V.toB_b, V.toS_s, V.toR_r, V.toV_v, V.toN_n, V.toL_l, SV.ev, CV.ev, Sc.ev, List.getD_cons_zero, List.getD_cons_succ, List.getElem?_cons_zero, List.getElem?_cons_succ, List.map_cons, List.map_nil, List.length_cons, List.length_nil, List.cons_append, List.nil_append, Nat.zero_add, Nat.reduceAdd, List.length_map, Int.toNat_natCast, gW0, gW1, gW2, gY0, gY1]
  refine ⟨fun h w' hr => ⟨by rw [chkW, if_pos h], hr.mod⟩, fun h => ?_⟩
  rw [chkW, if_neg h]
  refine ⟨fun vs => ∃ (i : Nat) (x : V), vs = [x, .i i] ∧ i ≤ l.length ∧ chkWr (prevW l i) (l.drop i) = chkWr none l, fun vs => l.length - (vs.getD 1 (.i 0)).toI.toNat, ⟨0, _, rfl, by omega, rfl⟩, ?_⟩
  rintro _ - ⟨i, x, rfl, hi, hg⟩
  simp only [Tree.goal, X.P, X.ev, V.toI_i, V.toB_b, V.toS_s, V.toR_r, V.toV_v, V.toN_n, V.toL_l, SV.ev, CV.ev, Sc.ev, List.getD_cons_zero, List.getD_cons_succ, List.getElem?_cons_zero, List.getElem?_cons_succ, List.map_cons, List.map_nil, List.length_cons, List.length_nil, List.cons_append, List.nil_append, Nat.zero_add, Nat.reduceAdd, List.length_map, Int.toNat_natCast, gW0, gW1, gW2, gY0, gY1]
  have hi1 : ((i : Int) - 1).toNat = i - 1 := by omega
  try rw [hi1]
  refine ⟨fun h1 => ⟨by omega, ?_⟩, fun h1 w' hr => ⟨?_, hr.mod⟩⟩
  · rw [chkWr_step (by omega)] at hg
    refine ⟨[.i (oneE (l.getD i wD))], rfl, fun _ w' _ => c_CheckAsk w' _ (smallW_at hs i), ?_⟩
    simp only [Tree.goal, X.P, X.ev, V.toI_i, V.toB_b, V.toS_s, V.toR_r, V.toV_v, V.toN_n, V.toL_l, SV.ev, CV.ev, Sc.ev, List.getD_cons_zero, List.getD_cons_succ, List.getElem?_cons_zero, List.getElem?_cons_succ, List.map_cons, List.map_nil, List.length_cons, List.length_nil, List.cons_append, List.nil_append, Nat.zero_add, Nat.reduceAdd, List.length_map, Int.toNat_natCast, gW0, gW1, gW2, gY0, gY1]
    try rw [hi1]
    refine ⟨fun h2 w' hr => ⟨?_, hr.mod⟩, fun h2 => ⟨by omega, by omega, by omega, by omega, ?_⟩⟩
    · rw [if_pos h2] at hg; rw [← hg]
    · rw [if_neg h2] at hg
      refine ⟨[.b (ltP (ky (l.getD (i - 1) wD)) (ky (l.getD i wD)))], rfl, fun _ w' _ => c_wantLess w' (l.getD (i - 1) wD) (l.getD i wD) (smallW_at hs (i - 1)), ?_⟩
      simp only [Tree.goal, X.P, X.ev, V.toI_i, V.toB_b, V.toS_s, V.toR_r, V.toV_v, V.toN_n, V.toL_l, SV.ev, CV.ev, Sc.ev, List.getD_cons_zero, List.getD_cons_succ, List.getElem?_cons_zero, List.getElem?_cons_succ, List.map_cons, List.map_nil, List.length_cons, List.length_nil, List.cons_append, List.nil_append, Nat.zero_add, Nat.reduceAdd]
      simp only [cmpP_ge] at hg
      refine ⟨fun h6 w' hr => ⟨?_, hr.mod⟩, fun h6 => ⟨by omega, by omega, ⟨i + 1, x, rfl, by omega, ?_⟩, by omega⟩⟩
      · rw [if_pos ⟨h6.1, by simpa using h6.2⟩] at hg; rw [← hg]
      · rw [if_neg (fun h7 => h6 ⟨h7.1, by simpa using h7.2⟩)] at hg; exact hg
  · have : i = l.length := by omega
    subst this
    rw [List.drop_length] at hg
    rw [← hg]; rfl
theorem snocW (R : List Wt) (x : Wt) : R.map encW ++ [[.string ⟨x.1.toArray⟩, .string ⟨x.2.1.toArray⟩, .int .i64 x.2.2]] = (R ++ [x]).map encW := by simp [encW]
set_option maxHeartbeats 1000000 in
theorem c_DropWant (w : World) (v : Value) (l : List Wt) (c f : List UInt8) (hv : readsW w v l) (hl : l.length < 1000000000) : Calls Tryz.prog 27 #[sc1 v, .string ⟨c.toArray⟩, .string ⟨f.toArray⟩] w
    fun e w' => ∃ v', e = .returned (sc1 v') ∧ ownsW w' v' (l.filter fun w => decide (¬ (w.1 = c ∧ w.2.1 = f))) ∧ newW w.heap.size v' ∧ Mod [] w w' := by
  refine as_called (run_tree2 (ρ := [.v v, .r (l.map encW), .s c, .s f]) sxE_ok Tryz.func27 tree_dragomanref_DropWant rfl rfl (Rel.start2 (by simp [Ent.holds, Ent.wr, hv, X.ev])) rfl rfl ?_) rfl
  simp only [Tree.goal, X.P, X.ev, V.toI_i, V.toB_b, V.toS_s, V.toR_r, V.toV_v, V.toN_n, V.toL_l, SV.ev, CV.ev, Sc.ev, List.getD_cons_zero, List.getD_cons_succ, List.getElem?_cons_zero, List.getElem?_cons_succ, List.map_cons, List.map_nil, List.length_cons, List.length_nil, List.cons_append, List.nil_append, Nat.zero_add, Nat.reduceAdd, List.length_map, Int.toNat_natCast, gW0, gW1, gW2, gY0, gY1]
  generalize hkp : (fun w : Wt => decide (¬ (w.1 = c ∧ w.2.1 = f))) = kp
  have kp0 : ∀ x : Wt, x.1 = c ∧ x.2.1 = f → ¬ kp x = true := fun x hx => by rw [← hkp]; simp [hx]
  have kp1 : ∀ x : Wt, ¬ (x.1 = c ∧ x.2.1 = f) → kp x = true := fun x hx => by rw [← hkp]; exact decide_eq_true hx
  refine ⟨fun vs => ∃ (i : Nat) (u : Value), vs = [.v u, .r (((l.take i).filter kp).map encW), .i i] ∧ i ≤ l.length, fun vs => (l.length - (vs.getD 2 (.i 0)).toI).toNat, ⟨0, _, rfl, by omega⟩, ?_⟩; rintro _ - ⟨i, u, rfl, hi⟩; have hfl : ((l.take i).filter kp).length ≤ l.length := Nat.le_trans (List.length_filter_le _ _) (by rw [List.length_take]; omega); simp only [Tree.goal, X.P, X.ev, V.toI_i, V.toB_b, V.toS_s, V.toR_r, V.toV_v, V.toN_n, V.toL_l, SV.ev, CV.ev, Sc.ev, List.getD_cons_zero, List.getD_cons_succ, List.getElem?_cons_zero, List.getElem?_cons_succ, List.map_cons, List.map_nil, List.length_cons, List.length_nil, List.cons_append, List.nil_append, Nat.zero_add, Nat.reduceAdd, List.length_map, Int.toNat_natCast, gW0, gW1, gW2, gY0, gY1]; refine ⟨fun h1 => ?_, fun h1 w' hr => ?_⟩
  · (repeat refine ⟨by omega, ?_⟩)
    refine ⟨fun h2 v1 => ⟨by simp; omega, fun v2 => ⟨by omega, by omega, ⟨i + 1, v2, ?_, by omega⟩, by omega⟩⟩, fun h2 => ⟨by omega, by omega, ⟨i + 1, u, ?_, by omega⟩, by omega⟩⟩
    · rw [filtW_snoc kp l i (by omega), if_pos (kp1 _ (fun h => h2.elim (fun h3 => h3 h.1) (fun h3 => h3 h.2))), ← snocW]
      rfl
    · rw [filtW_snoc kp l i (by omega), if_neg (kp0 _ ⟨Classical.not_not.1 fun h => h2 (.inl h), Classical.not_not.1 fun h => h2 (.inr h)⟩), List.append_nil]; rfl
  · (have hie : i = l.length := by omega); subst hie; rw [List.take_length] at hr
    exact ⟨u, rfl, hr.at_ 0 rfl, hr.fresh 0 rfl, hr.mod⟩
set_option maxHeartbeats 1000000 in
theorem c_LeaveWants (w : World) (v : Value) (l : List Wt) (c : List UInt8) (hv : readsW w v l) (hl : l.length < 1000000000) : Calls Tryz.prog 28 #[sc1 v, .string ⟨c.toArray⟩] w
    fun e w' => ∃ v', e = .returned (sc1 v') ∧ ownsW w' v' (l.filter fun w => decide (¬ w.1 = c)) ∧ newW w.heap.size v' ∧ Mod [] w w' := by
  refine as_called (run_tree2 (ρ := [.v v, .r (l.map encW), .s c]) sxE_ok Tryz.func28 tree_dragomanref_LeaveWants rfl rfl (Rel.start2 (by simp [Ent.holds, Ent.wr, hv, X.ev])) rfl rfl ?_) rfl
  simp only [Tree.goal, X.P, X.ev, V.toI_i, V.toB_b, V.toS_s, V.toR_r, V.toV_v, V.toN_n, V.toL_l, SV.ev, CV.ev, Sc.ev, List.getD_cons_zero, List.getD_cons_succ, List.getElem?_cons_zero, List.getElem?_cons_succ, List.map_cons, List.map_nil, List.length_cons, List.length_nil, List.cons_append, List.nil_append, Nat.zero_add, Nat.reduceAdd, List.length_map, Int.toNat_natCast, gW0, gW1, gW2, gY0, gY1]
  generalize hkp : (fun w : Wt => decide (¬ w.1 = c)) = kp
  have kp0 : ∀ x : Wt, x.1 = c → ¬ kp x = true := fun x hx => by rw [← hkp]; simp [hx]
  have kp1 : ∀ x : Wt, ¬ x.1 = c → kp x = true := fun x hx => by rw [← hkp]; simp [hx]
  refine ⟨fun vs => ∃ (i : Nat) (u : Value), vs = [.v u, .r (((l.take i).filter kp).map encW), .i i] ∧ i ≤ l.length, fun vs => (l.length - (vs.getD 2 (.i 0)).toI).toNat, ⟨0, _, rfl, by omega⟩, ?_⟩; rintro _ - ⟨i, u, rfl, hi⟩; have hfl : ((l.take i).filter kp).length ≤ l.length := Nat.le_trans (List.length_filter_le _ _) (by rw [List.length_take]; omega); simp only [Tree.goal, X.P, X.ev, V.toI_i, V.toB_b, V.toS_s, V.toR_r, V.toV_v, V.toN_n, V.toL_l, SV.ev, CV.ev, Sc.ev, List.getD_cons_zero, List.getD_cons_succ, List.getElem?_cons_zero, List.getElem?_cons_succ, List.map_cons, List.map_nil, List.length_cons, List.length_nil, List.cons_append, List.nil_append, Nat.zero_add, Nat.reduceAdd, List.length_map, Int.toNat_natCast, gW0, gW1, gW2, gY0, gY1]; refine ⟨fun h1 => ?_, fun h1 w' hr => ?_⟩
  · (repeat refine ⟨by omega, ?_⟩)
    refine ⟨fun h2 v1 => ⟨by simp; omega, fun v2 => ⟨by omega, by omega, ⟨i + 1, v2, ?_, by omega⟩, by omega⟩⟩, fun h2 => ⟨by omega, by omega, ⟨i + 1, u, ?_, by omega⟩, by omega⟩⟩
    · rw [filtW_snoc kp l i (by omega), if_pos (kp1 _ h2), ← snocW]
      rfl
    · rw [filtW_snoc kp l i (by omega), if_neg (kp0 _ (Classical.not_not.1 h2)), List.append_nil]; rfl
  · (have hie : i = l.length := by omega); subst hie; rw [List.take_length] at hr
    exact ⟨u, rfl, hr.at_ 0 rfl, hr.fresh 0 rfl, hr.mod⟩

/-- A want goes down to its place. -/
theorem down_set {d : List Wt} {x : Wt} {j : Nat} (h0 : 0 < j) (hj : j ≤ d.length) :
    ((d.take j ++ [x] ++ d.drop j).set j ((d.take j ++ [x] ++ d.drop j).getD (j - 1) wD)).set (j - 1) ((d.take j ++ [x] ++ d.drop j).getD j wD) = d.take (j - 1) ++ [x] ++ d.drop (j - 1) := by
  obtain ⟨k, rfl⟩ : ∃ k, j = k + 1 := ⟨j - 1, by omega⟩
  have e1 := takeW d k (by omega)
  have e2 := dropW d k (by omega)
  have lk : (d.take k).length = k := by simp; omega
  rw [Nat.add_sub_cancel]
  generalize d.getD k wD = y at e1 e2
  generalize d.take k = A at e1 e2 lk ⊢
  generalize d.drop (k + 1) = B at e2
  subst lk
  rw [e1, e2]
  have g1 : (A ++ [y] ++ [x] ++ B).getD A.length wD = y := by simp [List.getD_eq_getElem?_getD]
  have g2 : (A ++ [y] ++ [x] ++ B).getD (A.length + 1) wD = x := by simp [List.getD_eq_getElem?_getD, List.getElem?_append_right]
  rw [g1, g2]
  have s1 : (A ++ [y] ++ [x] ++ B).set (A.length + 1) y = A ++ [y, y] ++ B := by
    simp [List.set_append_right]
  rw [s1]
  simp [List.set_append_right]
theorem getD_down {d : List Wt} {x : Wt} {j : Nat} (hj : j ≤ d.length) : (d.take j ++ [x] ++ d.drop j).getD j wD = x := by
  have lk : (d.take j).length = j := by simp; omega
  rw [List.getD_eq_getElem?_getD, List.append_assoc, List.getElem?_append_right (by omega)]
  simp [lk]
theorem getD_down1 {d : List Wt} {x : Wt} {j : Nat} (h0 : 0 < j) (hj : j ≤ d.length) : (d.take j ++ [x] ++ d.drop j).getD (j - 1) wD = d.getD (j - 1) wD := by
  have lk : (d.take j).length = j := by simp; omega
  rw [List.getD_eq_getElem?_getD, List.append_assoc, List.getElem?_append_left (by omega), List.getElem?_take_of_lt (by omega), List.getD_eq_getElem?_getD]
theorem drop_parts {l : List Wt} (x : Wt) (hs : sortW l) : (l.filter fun w => decide (¬ (w.1 = x.1 ∧ w.2.1 = x.2.1))) = loW l (ky x) ++ hiW l (ky x) := by
  have hk : ∀ w : Wt, decide (¬ (w.1 = x.1 ∧ w.2.1 = x.2.1)) = !decide (ky w = ky x) := fun w => by
    by_cases h : ky w = ky x
    · have h1 : w.1 = x.1 := congrArg (fun k : Ky => k.1) h
      have h2 : w.2.1 = x.2.1 := congrArg (fun k : Ky => k.2) h
      simp [h, h1, h2]
    · have : ¬ (w.1 = x.1 ∧ w.2.1 = x.2.1) := fun h2 => h (Prod.ext h2.1 h2.2)
      simp only [this, not_false_eq_true, decide_true, h, decide_false, Bool.not_false]
  conv => lhs; rw [(threeW l (ky x) hs).1]
  rw [List.filter_append, List.filter_append]
  have q1 : (loW l (ky x)).filter (fun w => decide (¬ (w.1 = x.1 ∧ w.2.1 = x.2.1))) = loW l (ky x) := filt_allW fun y hy => by
    rw [hk]; have := ltP_ne (List.mem_filter.1 hy).2; simp [this]
  have q2 : (miW l (ky x)).filter (fun w => decide (¬ (w.1 = x.1 ∧ w.2.1 = x.2.1))) = [] := filt_noneW fun y hy => by
    rw [hk]; have := (List.mem_filter.1 hy).2; simp at this; simp [this]
  have q3 : (hiW l (ky x)).filter (fun w => decide (¬ (w.1 = x.1 ∧ w.2.1 = x.2.1))) = hiW l (ky x) := filt_allW fun y hy => by
    rw [hk]; have := ltP_ne (List.mem_filter.1 hy).2; simp [Ne.symm this]
  rw [q1, q2, q3, List.append_nil]
theorem rawW_by {l : List Wt} {x : Wt} (hs : sortW l) (hl : l.length ≤ 20) : rawW l x = if 20 < ((loW l (ky x) ++ [x] ++ hiW l (ky x)).length : Int) then ([], 2) else (loW l (ky x) ++ [x] ++ hiW l (ky x), 0) := by
  have hlen := len_loW (n := ky x) hs
  have hlo : idxW l (ky x) = (loW l (ky x)).length := rfl
  simp only [List.length_append, List.length_cons, List.length_nil]
  by_cases h0 : (rawW l x).2 = 0
  · have e := rawW_lo hs h0
    rw [if_neg, ← e, ← h0]
    have := congrArg List.length e
    simp only [List.length_append, List.length_cons, List.length_nil] at this
    have h2 : (rawW l x).1.length ≤ 20 := by
      unfold rawW at h0 ⊢
      by_cases h1 : hasW l (ky x) = true
      · rw [if_pos h1]; simpa using hl
      · rw [if_neg h1] at h0 ⊢
        by_cases h4 : (l.length : Int) = 20
        · rw [if_pos h4] at h0; exact absurd h0 (by decide)
        · rw [if_neg h4]
          have := idxW_le l (ky x)
          simp; omega
    omega
  · unfold rawW at h0 ⊢
    rcases hasW_iff (n := ky x) hs with ⟨h1, -⟩ | ⟨h1, h2⟩
    · rw [if_pos h1] at h0; exact absurd rfl h0
    · rw [if_neg (by rw [h1]; decide)] at h0 ⊢
      by_cases h4 : (l.length : Int) = 20
      · rw [if_pos h4, if_pos]
        rw [h2] at hlen
        simp only [List.length_nil] at hlen
        omega
      · rw [if_neg h4] at h0; exact absurd rfl h0
theorem lo_uniq {lo hi : List Wt} {n : Ky} {j : Nat} (h1 : ∀ y ∈ lo, ltP (ky y) n = true) (h2 : ∀ y ∈ hi, ltP n (ky y) = true) (hj : j ≤ (lo ++ hi).length) (h3 : ∀ y ∈ (lo ++ hi).take j, ltP (ky y) n = true) (h4 : ∀ y ∈ (lo ++ hi).drop j, ltP n (ky y) = true) : (lo ++ hi).take j = lo ∧ (lo ++ hi).drop j = hi := by
  have f1 : (lo ++ hi).filter (fun y => ltP (ky y) n) = lo := by
    rw [List.filter_append, filt_allW h1, filt_noneW fun y hy => ltP_asym (h2 y hy), List.append_nil]
  have f2 : (lo ++ hi).filter (fun y => ltP (ky y) n) = (lo ++ hi).take j := by
    conv => lhs; rw [← List.take_append_drop j (lo ++ hi)]
    rw [List.filter_append, filt_allW h3, filt_noneW fun y hy => ltP_asym (h4 y hy), List.append_nil]
  have e := f2.symm.trans f1
  refine ⟨e, ?_⟩
  have := List.take_append_drop j (lo ++ hi)
  rw [e] at this
  exact List.append_cancel_left this
theorem down_lo {l : List Wt} {x : Wt} (hs : sortW l) {j : Nat} (hj : j ≤ (loW l (ky x) ++ hiW l (ky x)).length)
    (h6 : ¬ (0 < (j : Int) ∧ ltP (ky (((loW l (ky x) ++ hiW l (ky x)).take j ++ [x] ++ (loW l (ky x) ++ hiW l (ky x)).drop j).getD j wD)) (ky (((loW l (ky x) ++ hiW l (ky x)).take j ++ [x] ++ (loW l (ky x) ++ hiW l (ky x)).drop j).getD (j - 1) wD)) = true)) :
    ∀ y ∈ (loW l (ky x) ++ hiW l (ky x)).take j, ltP (ky y) (ky x) = true := by
  have hsd : sortW (loW l (ky x) ++ hiW l (ky x)) := by rw [← drop_parts x hs]; exact hs.filter _
  have hne : ∀ y ∈ loW l (ky x) ++ hiW l (ky x), ky y ≠ ky x := fun y hy => by
    rcases List.mem_append.1 hy with hy | hy
    · exact ltP_ne (List.mem_filter.1 hy).2
    · exact (ltP_ne (List.mem_filter.1 hy).2).symm
  generalize loW l (ky x) ++ hiW l (ky x) = d at *
  intro y hy
  rcases Nat.eq_zero_or_pos j with rfl | h0
  · simp at hy
  rw [getD_down hj, getD_down1 h0 hj] at h6
  have h7 : ltP (ky x) (ky (d.getD (j - 1) wD)) = false := by
    cases h : ltP (ky x) (ky (d.getD (j - 1) wD)) with
    | false => rfl
    | true => exact absurd ⟨by omega, h⟩ h6
  have h8 : ltP (ky (d.getD (j - 1) wD)) (ky x) = true := by
    rcases ltP_not.1 h7 with h | h
    · exact h
    · exact absurd h (hne _ (memW d (j - 1) (by omega)))
  obtain ⟨i, hi, rfl⟩ := List.getElem_of_mem hy
  rw [List.length_take] at hi
  rw [List.getElem_take]
  by_cases hij : i = j - 1
  · subst hij
    rwa [List.getD_eq_getElem?_getD, List.getElem?_eq_getElem (by omega)] at h8
  · have := sortW_at hsd (i := i) (j := j - 1) (by omega) (by omega)
    have h9 := ltP_trans this h8
    rwa [List.getD_eq_getElem?_getD, List.getElem?_eq_getElem (by omega)] at h9
set_option maxHeartbeats 4000000 in
theorem c_AddWant (w : World) (v : Value) (l : List Wt) (x : Wt) (hv : readsW w v l) (hs : sortW l) (hl : l.length ≤ 20) (hx : smW x) : Calls Tryz.prog 26 #[sc1 v, wV x] w
    fun e w' => gotW w w' e (rawW l x).1 (rawW l x).2 := by
  refine as_called (run_tree2 (ρ := [.v v, .r (l.map encW), .s x.1, .s x.2.1, .i x.2.2]) sxE_ok Tryz.func26 tree_dragomanref_AddWant rfl rfl (Rel.start2 (by simp [Ent.holds, Ent.wr, hv, X.ev])) rfl rfl ?_) rfl
  have hd0 := drop_parts x hs
  have hdl : (loW l (ky x) ++ hiW l (ky x)).length ≤ 20 := by rw [← hd0]; exact Nat.le_trans (List.length_filter_le _ _) hl
  generalize hd : loW l (ky x) ++ hiW l (ky x) = d at hd0 hdl
  replace hd := hd.symm
  simp only [Tree.goal, X.P, X.ev, V.toI_i, V.toB_b, V.toS_s, V.toR_r, V.toV_v, V.toN_n, V.toL_l, SV.ev, CV.ev, Sc.ev, List.getD_cons_zero, List.getD_cons_succ, List.getElem?_cons_zero, List.getElem?_cons_succ, List.map_cons, List.map_nil, List.length_cons, List.length_nil, List.cons_append, List.nil_append, Nat.zero_add, Nat.reduceAdd, List.length_map, Int.toNat_natCast, gW0, gW1, gW2, gY0, gY1]
  intro b1
  refine ⟨?_, ⟨?_, ?_⟩⟩
  · intro w1 hr
    refine (c_DropWant w1 v l x.1 x.2.1 (by (have hq := hr; repeat (first | exact hq.hd | replace hq := hq.tl))) (by omega)).mono ?_; rw [hd0]; rintro e w2 ⟨v', rfl, g1, g2, gm⟩; refine ⟨[.v v', .r (d.map encW)], rfl, rfl, gm, List.forall_mem_nil _, List.forall_mem_cons.2 ⟨⟨g1, fun k hk => .inl (g2 k hk)⟩, List.forall_mem_nil _⟩, apart_one, ?_⟩; clear hr g1 g2 gm; simp only [Tree.goal, X.P, X.ev, V.toI_i, V.toB_b, V.toS_s, V.toR_r, V.toV_v, V.toN_n, V.toL_l, SV.ev, CV.ev, Sc.ev, List.getD_cons_zero, List.getD_cons_succ, List.getElem?_cons_zero, List.getElem?_cons_succ, List.map_cons, List.map_nil, List.length_cons, List.length_nil, List.cons_append, List.nil_append, Nat.zero_add, Nat.reduceAdd, List.length_map, Int.toNat_natCast, gW0, gW1, gW2, gY0, gY1]
    intro u1
    refine ⟨by first | omega | (simp only [List.length_append, List.length_map, List.length_cons, List.length_nil]; omega), fun u2 => ⟨by first | omega | (simp only [List.length_append, List.length_map, List.length_cons, List.length_nil]; omega), by first | omega | (simp only [List.length_append, List.length_map, List.length_cons, List.length_nil]; omega), ?_⟩⟩
    refine ⟨fun vs => ∃ j : Nat, vs = [.i j, .r ((d.take j ++ [x] ++ d.drop j).map encW)] ∧ j ≤ d.length ∧ ∀ y ∈ d.drop j, ltP (ky x) (ky y) = true, fun vs => (vs.getD 0 (.i 0)).toI.toNat, ⟨d.length, ?_, Nat.le_refl _, ?_⟩, ?_⟩; (· rw [List.take_length, List.drop_length, List.append_nil, ← snocW]; congr 1; congr 1; simp only [List.length_append, List.length_map, List.length_cons, List.length_nil]; omega); (· rw [List.drop_length]; exact fun y hy => by cases hy); rintro _ - ⟨j, rfl, hj, hgt⟩; have hlR : (d.take j ++ [x] ++ d.drop j).length = d.length + 1 := (by simp; omega); simp only [Tree.goal, X.P, X.ev, V.toI_i, V.toB_b, V.toS_s, V.toR_r, V.toV_v, V.toN_n, V.toL_l, SV.ev, CV.ev, Sc.ev, List.getD_cons_zero, List.getD_cons_succ, List.getElem?_cons_zero, List.getElem?_cons_succ, List.map_cons, List.map_nil, List.length_cons, List.length_nil, List.cons_append, List.nil_append, Nat.zero_add, Nat.reduceAdd, List.length_map, Int.toNat_natCast, gW0, gW1, gW2, gY0, gY1, hlR]; (have hj1 : ((j : Int) - 1).toNat = j - 1 := (by omega)); (try rw [hj1]); (repeat refine ⟨by omega, ?_⟩); refine ⟨[.b (ltP (ky ((d.take j ++ [x] ++ d.drop j).getD j wD)) (ky ((d.take j ++ [x] ++ d.drop j).getD (j - 1) wD)))], rfl, fun h5 w' _ => c_wantLess w' ((d.take j ++ [x] ++ d.drop j).getD j wD) ((d.take j ++ [x] ++ d.drop j).getD (j - 1) wD) (by rw [getD_down hj]; exact hx), ?_⟩; simp only [Tree.goal, X.P, X.ev, V.toI_i, V.toB_b, V.toS_s, V.toR_r, V.toV_v, V.toN_n, V.toL_l, SV.ev, CV.ev, Sc.ev, List.getD_cons_zero, List.getD_cons_succ, List.getElem?_cons_zero, List.getElem?_cons_succ, List.map_cons, List.map_nil, List.length_cons, List.length_nil, List.cons_append, List.nil_append, Nat.zero_add, Nat.reduceAdd, List.length_map, Int.toNat_natCast, gW0, gW1, gW2, gY0, gY1]; (try rw [hj1]); refine ⟨fun h6 => ?_, fun h6 => ?_⟩; (· (have h0 : 0 < j := by omega); (have h7 := h6.2); rw [getD_down hj, getD_down1 h0 hj] at h7; (repeat refine ⟨by omega, ?_⟩); refine ⟨by rw [List.length_set, List.length_map, hlR]; omega, ⟨j - 1, ?_, by omega, ?_⟩, by omega⟩; (· rw [← down_set h0 hj, ← set_rowW, ← set_rowW]; congr 1; congr 1; omega); (· intro y hy; obtain ⟨k, rfl⟩ : ∃ k, j = k + 1 := ⟨j - 1, by omega⟩; rw [Nat.add_sub_cancel] at hy h7; rw [dropW d k (by omega)] at hy; rcases List.mem_cons.1 hy with rfl | hy; (· exact h7); (· exact hgt y hy))); (· (have hpar : d.take j = loW l (ky x) ∧ d.drop j = hiW l (ky x) := by rw [hd] at hj hgt h6 ⊢; refine lo_uniq (n := ky x) (fun y hy => (List.mem_filter.1 hy).2) (fun y hy => (List.mem_filter.1 hy).2) hj (fun y hy => ?_) hgt; exact down_lo hs hj h6 y hy); rw [rawW_by hs hl, ← hpar.1, ← hpar.2, hlR]; refine ⟨fun h8 w3 hr => ?_, fun h8 w3 hr => ?_⟩; (· rw [if_pos h8]; exact ⟨_, rfl, readsW_nil _, newW_nil _, hr.mod⟩); (· rw [if_neg h8]; exact ⟨u2, rfl, (hr.at_ 0 rfl).reads, hr.fresh 0 rfl, hr.mod⟩))
  · intro w1 hr
    refine (c_DropWant w1 v l x.1 x.2.1 (by (have hq := hr; repeat (first | exact hq.hd | replace hq := hq.tl))) (by omega)).mono ?_; rw [hd0]; rintro e w2 ⟨v', rfl, g1, g2, gm⟩; refine ⟨[.v v', .r (d.map encW)], rfl, rfl, gm, List.forall_mem_nil _, List.forall_mem_cons.2 ⟨⟨g1, fun k hk => .inl (g2 k hk)⟩, List.forall_mem_nil _⟩, apart_one, ?_⟩; clear hr g1 g2 gm; simp only [Tree.goal, X.P, X.ev, V.toI_i, V.toB_b, V.toS_s, V.toR_r, V.toV_v, V.toN_n, V.toL_l, SV.ev, CV.ev, Sc.ev, List.getD_cons_zero, List.getD_cons_succ, List.getElem?_cons_zero, List.getElem?_cons_succ, List.map_cons, List.map_nil, List.length_cons, List.length_nil, List.cons_append, List.nil_append, Nat.zero_add, Nat.reduceAdd, List.length_map, Int.toNat_natCast, gW0, gW1, gW2, gY0, gY1]
    intro u1
    refine ⟨by first | omega | (simp only [List.length_append, List.length_map, List.length_cons, List.length_nil]; omega), fun u2 => ⟨by first | omega | (simp only [List.length_append, List.length_map, List.length_cons, List.length_nil]; omega), by first | omega | (simp only [List.length_append, List.length_map, List.length_cons, List.length_nil]; omega), ?_⟩⟩
    refine ⟨fun vs => ∃ j : Nat, vs = [.i j, .r ((d.take j ++ [x] ++ d.drop j).map encW)] ∧ j ≤ d.length ∧ ∀ y ∈ d.drop j, ltP (ky x) (ky y) = true, fun vs => (vs.getD 0 (.i 0)).toI.toNat, ⟨d.length, ?_, Nat.le_refl _, ?_⟩, ?_⟩; (· rw [List.take_length, List.drop_length, List.append_nil, ← snocW]; congr 1; congr 1; simp only [List.length_append, List.length_map, List.length_cons, List.length_nil]; omega); (· rw [List.drop_length]; exact fun y hy => by cases hy); rintro _ - ⟨j, rfl, hj, hgt⟩; have hlR : (d.take j ++ [x] ++ d.drop j).length = d.length + 1 := (by simp; omega); simp only [Tree.goal, X.P, X.ev, V.toI_i, V.toB_b, V.toS_s, V.toR_r, V.toV_v, V.toN_n, V.toL_l, SV.ev, CV.ev, Sc.ev, List.getD_cons_zero, List.getD_cons_succ, List.getElem?_cons_zero, List.getElem?_cons_succ, List.map_cons, List.map_nil, List.length_cons, List.length_nil, List.cons_append, List.nil_append, Nat.zero_add, Nat.reduceAdd, List.length_map, Int.toNat_natCast, gW0, gW1, gW2, gY0, gY1, hlR]; (have hj1 : ((j : Int) - 1).toNat = j - 1 := (by omega)); (try rw [hj1]); (repeat refine ⟨by omega, ?_⟩); refine ⟨[.b (ltP (ky ((d.take j ++ [x] ++ d.drop j).getD j wD)) (ky ((d.take j ++ [x] ++ d.drop j).getD (j - 1) wD)))], rfl, fun h5 w' _ => c_wantLess w' ((d.take j ++ [x] ++ d.drop j).getD j wD) ((d.take j ++ [x] ++ d.drop j).getD (j - 1) wD) (by rw [getD_down hj]; exact hx), ?_⟩; simp only [Tree.goal, X.P, X.ev, V.toI_i, V.toB_b, V.toS_s, V.toR_r, V.toV_v, V.toN_n, V.toL_l, SV.ev, CV.ev, Sc.ev, List.getD_cons_zero, List.getD_cons_succ, List.getElem?_cons_zero, List.getElem?_cons_succ, List.map_cons, List.map_nil, List.length_cons, List.length_nil, List.cons_append, List.nil_append, Nat.zero_add, Nat.reduceAdd, List.length_map, Int.toNat_natCast, gW0, gW1, gW2, gY0, gY1]; (try rw [hj1]); refine ⟨fun h6 => ?_, fun h6 => ?_⟩; (· (have h0 : 0 < j := by omega); (have h7 := h6.2); rw [getD_down hj, getD_down1 h0 hj] at h7; (repeat refine ⟨by omega, ?_⟩); refine ⟨by rw [List.length_set, List.length_map, hlR]; omega, ⟨j - 1, ?_, by omega, ?_⟩, by omega⟩; (· rw [← down_set h0 hj, ← set_rowW, ← set_rowW]; congr 1; congr 1; omega); (· intro y hy; obtain ⟨k, rfl⟩ : ∃ k, j = k + 1 := ⟨j - 1, by omega⟩; rw [Nat.add_sub_cancel] at hy h7; rw [dropW d k (by omega)] at hy; rcases List.mem_cons.1 hy with rfl | hy; (· exact h7); (· exact hgt y hy))); (· (have hpar : d.take j = loW l (ky x) ∧ d.drop j = hiW l (ky x) := by rw [hd] at hj hgt h6 ⊢; refine lo_uniq (n := ky x) (fun y hy => (List.mem_filter.1 hy).2) (fun y hy => (List.mem_filter.1 hy).2) hj (fun y hy => ?_) hgt; exact down_lo hs hj h6 y hy); rw [rawW_by hs hl, ← hpar.1, ← hpar.2, hlR]; refine ⟨fun h8 w3 hr => ?_, fun h8 w3 hr => ?_⟩; (· rw [if_pos h8]; exact ⟨_, rfl, readsW_nil _, newW_nil _, hr.mod⟩); (· rw [if_neg h8]; exact ⟨u2, rfl, (hr.at_ 0 rfl).reads, hr.fresh 0 rfl, hr.mod⟩))
  · intro u1 w1 hr
    refine (c_DropWant w1 v l x.1 x.2.1 (by (have hq := hr; repeat (first | exact hq.hd | replace hq := hq.tl))) (by omega)).mono ?_; rw [hd0]; rintro e w2 ⟨v', rfl, g1, g2, gm⟩; refine ⟨[.v v', .r (d.map encW)], rfl, rfl, gm, List.forall_mem_nil _, List.forall_mem_cons.2 ⟨⟨g1, fun k hk => .inl (g2 k hk)⟩, List.forall_mem_nil _⟩, apart_one, ?_⟩; clear hr g1 g2 gm; simp only [Tree.goal, X.P, X.ev, V.toI_i, V.toB_b, V.toS_s, V.toR_r, V.toV_v, V.toN_n, V.toL_l, SV.ev, CV.ev, Sc.ev, List.getD_cons_zero, List.getD_cons_succ, List.getElem?_cons_zero, List.getElem?_cons_succ, List.map_cons, List.map_nil, List.length_cons, List.length_nil, List.cons_append, List.nil_append, Nat.zero_add, Nat.reduceAdd, List.length_map, Int.toNat_natCast, gW0, gW1, gW2, gY0, gY1]
    refine ⟨by first | omega | (simp only [List.length_append, List.length_map, List.length_cons, List.length_nil]; omega), fun u2 => ⟨by first | omega | (simp only [List.length_append, List.length_map, List.length_cons, List.length_nil]; omega), by first | omega | (simp only [List.length_append, List.length_map, List.length_cons, List.length_nil]; omega), ?_⟩⟩
    refine ⟨fun vs => ∃ j : Nat, vs = [.i j, .r ((d.take j ++ [x] ++ d.drop j).map encW)] ∧ j ≤ d.length ∧ ∀ y ∈ d.drop j, ltP (ky x) (ky y) = true, fun vs => (vs.getD 0 (.i 0)).toI.toNat, ⟨d.length, ?_, Nat.le_refl _, ?_⟩, ?_⟩; (· rw [List.take_length, List.drop_length, List.append_nil, ← snocW]; congr 1; congr 1; simp only [List.length_append, List.length_map, List.length_cons, List.length_nil]; omega); (· rw [List.drop_length]; exact fun y hy => by cases hy); rintro _ - ⟨j, rfl, hj, hgt⟩; have hlR : (d.take j ++ [x] ++ d.drop j).length = d.length + 1 := (by simp; omega); simp only [Tree.goal, X.P, X.ev, V.toI_i, V.toB_b, V.toS_s, V.toR_r, V.toV_v, V.toN_n, V.toL_l, SV.ev, CV.ev, Sc.ev, List.getD_cons_zero, List.getD_cons_succ, List.getElem?_cons_zero, List.getElem?_cons_succ, List.map_cons, List.map_nil, List.length_cons, List.length_nil, List.cons_append, List.nil_append, Nat.zero_add, Nat.reduceAdd, List.length_map, Int.toNat_natCast, gW0, gW1, gW2, gY0, gY1, hlR]; (have hj1 : ((j : Int) - 1).toNat = j - 1 := (by omega)); (try rw [hj1]); (repeat refine ⟨by omega, ?_⟩); refine ⟨[.b (ltP (ky ((d.take j ++ [x] ++ d.drop j).getD j wD)) (ky ((d.take j ++ [x] ++ d.drop j).getD (j - 1) wD)))], rfl, fun h5 w' _ => c_wantLess w' ((d.take j ++ [x] ++ d.drop j).getD j wD) ((d.take j ++ [x] ++ d.drop j).getD (j - 1) wD) (by rw [getD_down hj]; exact hx), ?_⟩; simp only [Tree.goal, X.P, X.ev, V.toI_i, V.toB_b, V.toS_s, V.toR_r, V.toV_v, V.toN_n, V.toL_l, SV.ev, CV.ev, Sc.ev, List.getD_cons_zero, List.getD_cons_succ, List.getElem?_cons_zero, List.getElem?_cons_succ, List.map_cons, List.map_nil, List.length_cons, List.length_nil, List.cons_append, List.nil_append, Nat.zero_add, Nat.reduceAdd, List.length_map, Int.toNat_natCast, gW0, gW1, gW2, gY0, gY1]; (try rw [hj1]); refine ⟨fun h6 => ?_, fun h6 => ?_⟩; (· (have h0 : 0 < j := by omega); (have h7 := h6.2); rw [getD_down hj, getD_down1 h0 hj] at h7; (repeat refine ⟨by omega, ?_⟩); refine ⟨by rw [List.length_set, List.length_map, hlR]; omega, ⟨j - 1, ?_, by omega, ?_⟩, by omega⟩; (· rw [← down_set h0 hj, ← set_rowW, ← set_rowW]; congr 1; congr 1; omega); (· intro y hy; obtain ⟨k, rfl⟩ : ∃ k, j = k + 1 := ⟨j - 1, by omega⟩; rw [Nat.add_sub_cancel] at hy h7; rw [dropW d k (by omega)] at hy; rcases List.mem_cons.1 hy with rfl | hy; (· exact h7); (· exact hgt y hy))); (· (have hpar : d.take j = loW l (ky x) ∧ d.drop j = hiW l (ky x) := by rw [hd] at hj hgt h6 ⊢; refine lo_uniq (n := ky x) (fun y hy => (List.mem_filter.1 hy).2) (fun y hy => (List.mem_filter.1 hy).2) hj (fun y hy => ?_) hgt; exact down_lo hs hj h6 y hy); rw [rawW_by hs hl, ← hpar.1, ← hpar.2, hlR]; refine ⟨fun h8 w3 hr => ?_, fun h8 w3 hr => ?_⟩; (· rw [if_pos h8]; exact ⟨_, rfl, readsW_nil _, newW_nil _, hr.mod⟩); (· rw [if_neg h8]; exact ⟨u2, rfl, (hr.at_ 0 rfl).reads, hr.fresh 0 rfl, hr.mod⟩))
end Go.Proofs.YtliedecinehijaaGreatDoor

/-
  Wants: the reference's readers; the law WantTells, walked. By an AI agent.
-/
set_option linter.unusedSimpArgs false
set_option linter.unusedVariables false
namespace Go.Proofs.YtliedecinehijaaGreatDoor
open Go Go.Sx

theorem snocY (R : List Rd) (c : List UInt8) (q : Int) : R.map encY ++ [[.string ⟨c.toArray⟩, .int .i64 q]] = (R ++ [(c, q)]).map encY := by simp [encY]
theorem setY (R : List Rd) (m : Nat) (c : List UInt8) (q : Int) : (R.map encY).set m [.string ⟨c.toArray⟩, .int .i64 q] = (R.set m (c, q)).map encY := by rw [List.map_set]; rfl
theorem rdF_snoc (n : List UInt8) (l : List Wt) (i : Nat) (h : i < l.length) : rdF n [] (l.take (i + 1)) = if forW n (l.getD i wD) = true then addY (rdF n [] (l.take i)) (l.getD i wD) else rdF n [] (l.take i) := by
  rw [takeW l i h, rdF, List.foldl_append]; rfl
theorem addY_new {out : List Rd} {w : Wt} (h : out.length = 0 ∨ ¬ (out.getD (out.length - 1) yD).1 = w.1) : addY out w = out ++ [(w.1, max 0 w.2.2)] := by
  rcases List.eq_nil_or_concat out with rfl | ⟨o, x, rfl⟩
  · exact addY_nil w
  · rw [List.concat_eq_append] at *
    rw [addY_snoc, if_neg]
    rcases h with h | h
    · simp at h
    · simpa [List.getD_eq_getElem?_getD] using h
theorem addY_old {out : List Rd} {w : Wt} (h : ¬ (out.length = 0 ∨ ¬ (out.getD (out.length - 1) yD).1 = w.1)) : addY out w = out.set (out.length - 1) ((out.getD (out.length - 1) yD).1, max (out.getD (out.length - 1) yD).2 w.2.2) := by
  rcases List.eq_nil_or_concat out with rfl | ⟨o, x, rfl⟩
  · exact absurd (.inl rfl) h
  · rw [List.concat_eq_append] at *
    have h1 : x.1 = w.1 := Classical.not_not.1 fun h2 => h (.inr (by simpa [List.getD_eq_getElem?_getD] using h2))
    rw [addY_snoc, if_pos h1]
    simp [List.getD_eq_getElem?_getD, List.set_append_right]
set_option maxHeartbeats 2000000 in
theorem c_ReadersOf (w : World) (v : Value) (l : List Wt) (n : List UInt8) (hv : readsW w v l) (hs : smallW l) (hl : l.length < 1000000000) (hn : n.length < 1000000000) : Calls Tryz.prog 29 #[sc1 v, .string ⟨n.toArray⟩] w
    fun e w' => ∃ v', e = .returned (sc1 v') ∧ ownsY w' v' (rdOf n l) ∧ newW w.heap.size v' ∧ Mod [] w w' := by
  refine as_called (run_tree2 (ρ := [.v v, .r (l.map encW), .s n]) sxE_ok Tryz.func29 tree_dragomanref_ReadersOf rfl rfl (Rel.start2 (by simp [Ent.holds, Ent.wr, hv, X.ev])) rfl rfl ?_) rfl
  simp only [Tree.goal, X.P, X.ev, V.toI_i, V.toB_b, V.toS_s, V.toR_r, V.toV_v, V.toN_n, V.toL_l, SV.ev, CV.ev, Sc.ev, List.getD_cons_zero, List.getD_cons_succ, List.getElem?_cons_zero, List.getElem?_cons_succ, List.map_cons, List.map_nil, List.length_cons, List.length_nil, List.cons_append, List.nil_append, Nat.zero_add, Nat.reduceAdd, List.length_map, Int.toNat_natCast, gW0, gW1, gW2, gY0, gY1]
  refine ⟨fun vs => ∃ (i : Nat) (u : Value), vs = [.v u, .r ((rdF n [] (l.take i)).map encY), .i i] ∧ i ≤ l.length, fun vs => (l.length - (vs.getD 2 (.i 0)).toI).toNat, ⟨0, _, rfl, by omega⟩, ?_⟩
  rintro _ - ⟨i, u, rfl, hi⟩
  have hlen : (rdF n [] (l.take i)).length ≤ i := by
    have := rdOf_len n (l.take i) []
    rw [List.length_take] at this
    simp only [List.length_nil] at this
    omega
  simp only [Tree.goal, X.P, X.ev, V.toI_i, V.toB_b, V.toS_s, V.toR_r, V.toV_v, V.toN_n, V.toL_l, SV.ev, CV.ev, Sc.ev, List.getD_cons_zero, List.getD_cons_succ, List.getElem?_cons_zero, List.getElem?_cons_succ, List.map_cons, List.map_nil, List.length_cons, List.length_nil, List.cons_append, List.nil_append, Nat.zero_add, Nat.reduceAdd, List.length_map, Int.toNat_natCast, gW0, gW1, gW2, gY0, gY1]
  refine ⟨fun h1 => ⟨by omega, ?_⟩, fun h1 w' hr => ?_⟩
  · have sx := smallW_at hs i
    have hstep := rdF_snoc n l i (by omega)
    refine ⟨[.b (forW n (l.getD i wD))], rfl, fun _ w' _ => c_IsFor w' (l.getD i wD).2.1 n (by have := sx.2; omega) (by omega), ?_⟩
    generalize rdF n [] (l.take i) = out at hlen hstep ⊢
    generalize l.getD i wD = x at hstep ⊢
    have k1 : ((out.length : Int) - 1).toNat = out.length - 1 := by omega
    have k2 : ((out.length : Int) + 1 - 1).toNat = out.length := by omega
    simp only [Tree.goal, X.P, X.ev, V.toI_i, V.toB_b, V.toS_s, V.toR_r, V.toV_v, V.toN_n, V.toL_l, SV.ev, CV.ev, Sc.ev, List.getD_cons_zero, List.getD_cons_succ, List.getElem?_cons_zero, List.getElem?_cons_succ, List.map_cons, List.map_nil, List.length_cons, List.length_nil, List.cons_append, List.nil_append, Nat.zero_add, Nat.reduceAdd, List.length_map, Int.toNat_natCast, gW0, gW1, gW2, gY0, gY1, k1, k2, snocY, setY]
    refine ⟨fun h2 => ?_, fun h2 => ?_⟩
    · (repeat refine ⟨by omega, ?_⟩)
      refine ⟨⟨i + 1, u, ?_, by omega⟩, by omega⟩
      rw [hstep, if_neg h2]; rfl
    · have h2 : forW n x = true := Classical.not_not.1 h2
      rw [if_pos h2] at hstep
      (repeat refine ⟨by omega, ?_⟩)
      refine ⟨fun h3 v1 => ⟨by first | omega | (simp only [List.length_append, List.length_map, List.length_cons, List.length_nil]; omega), fun v2 => ?_⟩, fun h3 => ?_⟩
      · have e := addY_new (w := x) (out := out) (by rcases h3 with h3 | h3; · exact .inl (by omega)
                                                     · exact .inr h3)
        have g : (out ++ [(x.1, (0 : Int))]).getD out.length yD = (x.1, 0) := by simp [List.getD_eq_getElem?_getD]
        simp only [List.length_append, List.length_cons, List.length_nil, g]
        (repeat refine ⟨by omega, ?_⟩)
        refine ⟨fun h4 => ?_, fun h4 => ?_⟩
        · (repeat refine ⟨by omega, ?_⟩)
          refine ⟨⟨i + 1, v2, ?_, by omega⟩, by omega⟩
          rw [hstep, e, show max 0 x.2.2 = x.2.2 by omega]
          simp [List.set_append_right]
        · (repeat refine ⟨by omega, ?_⟩)
          refine ⟨⟨i + 1, v2, ?_, by omega⟩, by omega⟩
          rw [hstep, e, show max 0 x.2.2 = 0 by omega]
          rfl
      · have h3' : ¬ (out.length = 0 ∨ ¬ (out.getD (out.length - 1) yD).1 = x.1) := fun h => h3 (h.imp (fun h => by omega) id)
        have e := addY_old (w := x) (out := out) h3'
        have hpos : 0 < out.length := Nat.pos_of_ne_zero fun h => h3' (.inl h)
        (repeat refine ⟨by omega, ?_⟩)
        refine ⟨fun h4 => ?_, fun h4 => ?_⟩
        · (repeat refine ⟨by omega, ?_⟩)
          refine ⟨⟨i + 1, u, ?_, by omega⟩, by omega⟩
          rw [hstep, e, show max (out.getD (out.length - 1) yD).2 x.2.2 = x.2.2 by omega]
          rfl
        · (repeat refine ⟨by omega, ?_⟩)
          refine ⟨⟨i + 1, u, ?_, by omega⟩, by omega⟩
          rw [hstep, e, show max (out.getD (out.length - 1) yD).2 x.2.2 = (out.getD (out.length - 1) yD).2 by omega]
          have : out.set (out.length - 1) ((out.getD (out.length - 1) yD).1, (out.getD (out.length - 1) yD).2) = out := by
            rw [List.getD_eq_getElem?_getD, List.getElem?_eq_getElem (by omega)]
            exact List.set_getElem_self (by omega)
          rw [this]; rfl
  · have hie : i = l.length := by omega
    subst hie
    rw [List.take_length] at hr
    exact ⟨u, rfl, hr.at_ 0 rfl, hr.fresh 0 rfl, hr.mod⟩
theorem c_SameWants (w : World) (u v : Value) (a b : List Wt) (hu : readsW w u a) (hv : readsW w v b) (hl : a.length < 1000000000) : Calls Tryz.prog 80 #[sc1 u, sc1 v] w
    fun e w' => e = .returned (.bool (decide (a = b))) ∧ Mod [] w w' := by
  refine as_called (run_tree2 (ρ := [.v u, .r (a.map encW), .v v, .r (b.map encW)]) sxE_ok Tryz.func80 tree_dragomanref_SameWants rfl rfl (Rel.start2 (by simp [Ent.holds, Ent.wr, hu, hv, X.ev])) rfl rfl ?_) rfl
  simp only [Tree.goal, X.P, X.ev, V.toI_i, V.toB_b, V.toS_s, V.toR_r, V.toV_v, V.toN_n, V.toL_l, SV.ev, CV.ev, Sc.ev, List.getD_cons_zero, List.getD_cons_succ, List.getElem?_cons_zero, List.getElem?_cons_succ, List.map_cons, List.map_nil, List.length_cons, List.length_nil, List.cons_append, List.nil_append, Nat.zero_add, Nat.reduceAdd, List.length_map, Int.toNat_natCast, gW0, gW1, gW2, gY0, gY1]
  refine ⟨fun h w' hr => ⟨?_, hr.mod⟩, fun h => ?_⟩
  · rw [decide_eq_false]; rintro rfl; exact h rfl
  have h : a.length = b.length := by omega
  refine ⟨fun vs => ∃ (i : Nat) (x : V), vs = [x, .i i] ∧ i ≤ a.length ∧ ∀ j, j < i → a.getD j wD = b.getD j wD, fun vs => a.length - (vs.getD 1 (.i 0)).toI.toNat, ⟨0, _, rfl, by omega, fun j hj => by omega⟩, ?_⟩
  rintro _ - ⟨i, x, rfl, hi, hs⟩
  simp only [Tree.goal, X.P, X.ev, V.toI_i, V.toB_b, V.toS_s, V.toR_r, V.toV_v, V.toN_n, V.toL_l, SV.ev, CV.ev, Sc.ev, List.getD_cons_zero, List.getD_cons_succ, List.getElem?_cons_zero, List.getElem?_cons_succ, List.map_cons, List.map_nil, List.length_cons, List.length_nil, List.cons_append, List.nil_append, Nat.zero_add, Nat.reduceAdd, List.length_map, Int.toNat_natCast, gW0, gW1, gW2, gY0, gY1]
  refine ⟨fun h1 => ⟨by omega, by omega, fun h2 w' hr => ⟨?_, hr.mod⟩, fun h2 => ⟨by omega, by omega, ⟨i + 1, x, rfl, by omega, fun j hj => ?_⟩, by omega⟩⟩, fun h1 w' hr => ⟨?_, hr.mod⟩⟩
  · rw [decide_eq_false]; rintro rfl
    rcases h2 with h2 | h2
    · exact h2 rfl
    · exact h2 ⟨rfl, rfl⟩
  · by_cases hji : j = i
    · subst hji
      have h3 := Classical.not_not.1 fun h3 => h2 (.inl h3)
      have h4 := Classical.not_not.1 fun h3 => h2 (.inr h3)
      exact Prod.ext h3 (Prod.ext h4.1 h4.2)
    · exact hs j (by omega)
  · rw [decide_eq_true]
    refine List.ext_getElem h fun j hj1 hj2 => ?_
    have := hs j (by omega)
    rwa [List.getD_eq_getElem?_getD, List.getD_eq_getElem?_getD, List.getElem?_eq_getElem hj1, List.getElem?_eq_getElem hj2] at this
theorem c_wAre (w : World) (u v : Value) (a b : List Wt) (e f : Int) (hu : readsW w u a) (hv : readsW w v b) (hl : a.length < 1000000000) (h1 : e = f) (h2 : a = if f = 0 then b else []) : Calls Tryz.prog 32 #[sc1 u, .int .i64 e, .int .i64 f, sc1 v] w
    fun e' w' => e' = .returned (.bool true) ∧ Mod [] w w' := by
  refine as_called (run_tree2 (ρ := [.v u, .r (a.map encW), .i e, .i f, .v v, .r (b.map encW)]) sxE_ok Tryz.func32 tree_dragomanlaw_wantsAre rfl rfl (Rel.start2 (by simp [Ent.holds, Ent.wr, hu, hv, X.ev])) rfl rfl ?_) rfl
  simp only [Tree.goal, X.P, X.ev, V.toI_i, V.toB_b, V.toS_s, V.toR_r, V.toV_v, V.toN_n, V.toL_l, SV.ev, CV.ev, Sc.ev, List.getD_cons_zero, List.getD_cons_succ, List.getElem?_cons_zero, List.getElem?_cons_succ, List.map_cons, List.map_nil, List.length_cons, List.length_nil, List.cons_append, List.nil_append, Nat.zero_add, Nat.reduceAdd]
  refine ⟨fun h => ?_, fun h => ?_⟩
  · rw [if_neg h] at h2
    refine ⟨[.b true], rfl, fun _ w' hr => ?_, ?_⟩
    · have := c_SameWants w' u (.slice none 0 0) a [] (by (have hq := hr; repeat (first | exact hq.hd | replace hq := hq.tl))) (readsW_nil _) hl
      rw [decide_eq_true h2] at this
      exact as_called this rfl
    simp only [Tree.goal, X.P, X.ev, V.toI_i, V.toB_b, V.toS_s, V.toR_r, V.toV_v, V.toN_n, V.toL_l, SV.ev, CV.ev, Sc.ev, List.getD_cons_zero, List.getD_cons_succ, List.getElem?_cons_zero, List.getElem?_cons_succ, List.map_cons, List.map_nil, List.length_cons, List.length_nil, List.cons_append, List.nil_append, Nat.zero_add, Nat.reduceAdd]
    exact fun w' hr => ⟨by simp [h1], hr.mod⟩
  · rw [if_pos (Classical.not_not.1 h)] at h2
    refine ⟨[.b true], rfl, fun _ w' hr => ?_, ?_⟩
    · have := c_SameWants w' u v a b (by (have hq := hr; repeat (first | exact hq.hd | replace hq := hq.tl))) (by (have hq := hr; repeat (first | exact hq.hd | replace hq := hq.tl))) hl
      rw [decide_eq_true h2] at this
      exact this
    simp only [Tree.goal, X.P, X.ev, V.toI_i, V.toB_b, V.toS_s, V.toR_r, V.toV_v, V.toN_n, V.toL_l, SV.ev, CV.ev, Sc.ev, List.getD_cons_zero, List.getD_cons_succ, List.getElem?_cons_zero, List.getElem?_cons_succ, List.map_cons, List.map_nil, List.length_cons, List.length_nil, List.cons_append, List.nil_append, Nat.zero_add, Nat.reduceAdd]
    exact fun w' hr => ⟨by simp [h1], hr.mod⟩
set_option maxHeartbeats 8000000 in
theorem c_WantTells (w : World) (v : Value) (l : List Wt) (c f : List UInt8) (q : Int) (n : List UInt8) (hv : readsW w v l) (hs : smallW l) (hl : l.length < 1000000000) (hc : c.length < 1000000000) (hf : f.length < 1000000000) (hn : n.length < 1000000000) :
    Calls Tryz.prog 5 #[sc1 v, .string ⟨c.toArray⟩, .agg #[.string ⟨f.toArray⟩, .int .i64 q], .string ⟨n.toArray⟩] w fun e w' => e = .returned (.bool true) ∧ Mod [] w w' := by
  refine as_called (run_tree2 (ρ := [.v v, .r (l.map encW), .s c, .s f, .i q, .s n]) sxE_ok Tryz.func5 tree_dragomanlaw_WantTells rfl rfl (Rel.start2 (by simp [Ent.holds, Ent.wr, hv, X.ev])) rfl rfl ?_) rfl
  simp only [Tree.goal, X.P, X.ev, V.toI_i, V.toB_b, V.toS_s, V.toR_r, V.toV_v, V.toN_n, V.toL_l, SV.ev, CV.ev, Sc.ev, List.getD_cons_zero, List.getD_cons_succ, List.getElem?_cons_zero, List.getElem?_cons_succ, List.map_cons, List.map_nil, List.length_cons, List.length_nil, List.cons_append, List.nil_append, Nat.zero_add, Nat.reduceAdd, List.length_map, Int.toNat_natCast, gW0, gW1, gW2, gY0, gY1]
  intro b1 w1 hr
  have hca := c_AddW w1 v l (c, f, q) (by (first | exact readsW_nil _ | exact readsY_nil _ | (have hq := hr; repeat (first | exact hq.hd | exact (hq.hd).reads | replace hq := hq.tl)))) hs hl ⟨hc, hf⟩
  have laA : (addC l (c, f, q)).1.length ≤ l.length + 1 := by
    unfold addC rawW
    (repeat' split) <;> simp <;> omega
  generalize eA : addC l (c, f, q) = rA at hca laA
  obtain ⟨rA, eA'⟩ := rA
  simp only at laA
  refine hca.mono ?_
  rintro e w2 ⟨vA, rfl, g1, g2, gm⟩
  refine ⟨[.v vA, .r (rA.map encW), .i eA'], rfl, rfl, gm, List.forall_mem_nil _, List.forall_mem_cons.2 ⟨⟨g1, fun k hk => .inl (g2 k hk.2)⟩, List.forall_mem_nil _⟩, apart_one, ?_⟩; clear hr g1 g2 gm; simp only [Tree.goal, X.P, X.ev, V.toI_i, V.toB_b, V.toS_s, V.toR_r, V.toV_v, V.toN_n, V.toL_l, SV.ev, CV.ev, Sc.ev, List.getD_cons_zero, List.getD_cons_succ, List.getElem?_cons_zero, List.getElem?_cons_succ, List.map_cons, List.map_nil, List.length_cons, List.length_nil, List.cons_append, List.nil_append, Nat.zero_add, Nat.reduceAdd, List.length_map, Int.toNat_natCast, gW0, gW1, gW2, gY0, gY1]
  intro w1 hr
  have hcd := c_DropW w1 v l c f (by (first | exact readsW_nil _ | exact readsY_nil _ | (have hq := hr; repeat (first | exact hq.hd | exact (hq.hd).reads | replace hq := hq.tl)))) hs hl
  generalize eD : goneC (fun w => decide (¬ (w.1 = c ∧ w.2.1 = f))) l = rD at hcd
  obtain ⟨rD, eD'⟩ := rD
  refine hcd.mono ?_
  rintro e w2 ⟨vD, rfl, g1, g2, gm⟩
  refine ⟨[.v vD, .r (rD.map encW), .i eD'], rfl, rfl, gm, List.forall_mem_nil _, List.forall_mem_cons.2 ⟨⟨g1, fun k hk => .inl (g2 k hk.2)⟩, List.forall_mem_nil _⟩, apart_one, ?_⟩; clear hr g1 g2 gm; simp only [Tree.goal, X.P, X.ev, V.toI_i, V.toB_b, V.toS_s, V.toR_r, V.toV_v, V.toN_n, V.toL_l, SV.ev, CV.ev, Sc.ev, List.getD_cons_zero, List.getD_cons_succ, List.getElem?_cons_zero, List.getElem?_cons_succ, List.map_cons, List.map_nil, List.length_cons, List.length_nil, List.cons_append, List.nil_append, Nat.zero_add, Nat.reduceAdd, List.length_map, Int.toNat_natCast, gW0, gW1, gW2, gY0, gY1]
  intro w1 hr
  have hcl := c_LeaveW w1 v l c (by (first | exact readsW_nil _ | exact readsY_nil _ | (have hq := hr; repeat (first | exact hq.hd | exact (hq.hd).reads | replace hq := hq.tl)))) hs hl
  generalize eL : goneC (fun w => decide (¬ w.1 = c)) l = rL at hcl
  obtain ⟨rL, eL'⟩ := rL
  refine hcl.mono ?_
  rintro e w2 ⟨vL, rfl, g1, g2, gm⟩
  refine ⟨[.v vL, .r (rL.map encW), .i eL'], rfl, rfl, gm, List.forall_mem_nil _, List.forall_mem_cons.2 ⟨⟨g1, fun k hk => .inl (g2 k hk.2)⟩, List.forall_mem_nil _⟩, apart_one, ?_⟩; clear hr g1 g2 gm; simp only [Tree.goal, X.P, X.ev, V.toI_i, V.toB_b, V.toS_s, V.toR_r, V.toV_v, V.toN_n, V.toL_l, SV.ev, CV.ev, Sc.ev, List.getD_cons_zero, List.getD_cons_succ, List.getElem?_cons_zero, List.getElem?_cons_succ, List.map_cons, List.map_nil, List.length_cons, List.length_nil, List.cons_append, List.nil_append, Nat.zero_add, Nat.reduceAdd, List.length_map, Int.toNat_natCast, gW0, gW1, gW2, gY0, gY1]
  intro w1 hr
  have hcr := c_Readers w1 v l n (by (first | exact readsW_nil _ | exact readsY_nil _ | (have hq := hr; repeat (first | exact hq.hd | exact (hq.hd).reads | replace hq := hq.tl)))) hs hl hn
  generalize eR : readC l n = rR at hcr
  obtain ⟨rR, eR'⟩ := rR
  refine hcr.mono ?_
  rintro e w2 ⟨vR, rfl, g1, g2, gm⟩
  refine ⟨[.v vR, .r (rR.map encY), .i eR'], rfl, rfl, gm, List.forall_mem_nil _, List.forall_mem_cons.2 ⟨⟨g1, fun k hk => .inl (g2 k hk.2)⟩, List.forall_mem_nil _⟩, apart_one, ?_⟩; clear hr g1 g2 gm; simp only [Tree.goal, X.P, X.ev, V.toI_i, V.toB_b, V.toS_s, V.toR_r, V.toV_v, V.toN_n, V.toL_l, SV.ev, CV.ev, Sc.ev, List.getD_cons_zero, List.getD_cons_succ, List.getElem?_cons_zero, List.getElem?_cons_succ, List.map_cons, List.map_nil, List.length_cons, List.length_nil, List.cons_append, List.nil_append, Nat.zero_add, Nat.reduceAdd, List.length_map, Int.toNat_natCast, gW0, gW1, gW2, gY0, gY1]
  have laD : rD.length ≤ l.length := by
    have := congrArg (fun r => r.1.length) eD
    simp only at this
    rw [← this, goneC]
    split
    · exact List.length_filter_le _ _
    · simp
  have laL : rL.length ≤ l.length := by
    have := congrArg (fun r => r.1.length) eL
    simp only at this
    rw [← this, goneC]
    split
    · exact List.length_filter_le _ _
    · simp
  have laR : rR.length ≤ l.length := by
    have := congrArg (fun r => r.1.length) eR
    simp only at this
    rw [← this, readC]
    have h2 := rdOf_len n l []
    simp only [List.length_nil, Nat.zero_add] at h2
    split
    · exact h2
    · simp
  refine ⟨[.i (chkW l)], rfl, fun _ w' hr => c_CheckWants w' v l (by (first | exact readsW_nil _ | exact readsY_nil _ | (have hq := hr; repeat (first | exact hq.hd | exact (hq.hd).reads | replace hq := hq.tl)))) hs hl, ?_⟩
  simp only [Tree.goal, X.P, X.ev, V.toI_i, V.toB_b, V.toS_s, V.toR_r, V.toV_v, V.toN_n, V.toL_l, SV.ev, CV.ev, Sc.ev, List.getD_cons_zero, List.getD_cons_succ, List.getElem?_cons_zero, List.getElem?_cons_succ, List.map_cons, List.map_nil, List.length_cons, List.length_nil, List.cons_append, List.nil_append, Nat.zero_add, Nat.reduceAdd, List.length_map, Int.toNat_natCast, gW0, gW1, gW2, gY0, gY1]
  refine ⟨fun h0 => ?_, fun h0 => ?_⟩
  · rw [goneC, if_pos h0] at eD eL
    cases eD
    cases eL
    refine ⟨[.i (oneE (c, f, q))], rfl, fun _ w' hr => c_CheckAsk w' (c, f, q) ⟨hc, hf⟩, ?_⟩
    simp only [Tree.goal, X.P, X.ev, V.toI_i, V.toB_b, V.toS_s, V.toR_r, V.toV_v, V.toN_n, V.toL_l, SV.ev, CV.ev, Sc.ev, List.getD_cons_zero, List.getD_cons_succ, List.getElem?_cons_zero, List.getElem?_cons_succ, List.map_cons, List.map_nil, List.length_cons, List.length_nil, List.cons_append, List.nil_append, Nat.zero_add, Nat.reduceAdd, List.length_map, Int.toNat_natCast, gW0, gW1, gW2, gY0, gY1]
    refine ⟨[.i (chkT n false)], rfl, fun _ w' hr => c_CheckTopic w' n false (by omega), ?_⟩
    simp only [Tree.goal, X.P, X.ev, V.toI_i, V.toB_b, V.toS_s, V.toR_r, V.toV_v, V.toN_n, V.toL_l, SV.ev, CV.ev, Sc.ev, List.getD_cons_zero, List.getD_cons_succ, List.getElem?_cons_zero, List.getElem?_cons_succ, List.map_cons, List.map_nil, List.length_cons, List.length_nil, List.cons_append, List.nil_append, Nat.zero_add, Nat.reduceAdd, List.length_map, Int.toNat_natCast, gW0, gW1, gW2, gY0, gY1]
    refine ⟨fun h1 => ?_, fun h1 => ?_⟩
    · have eA2 : rawW l (c, f, q) = (rA, eA') := by rwa [addC, if_pos (show addE l (c, f, q) = 0 by rw [addE, if_pos h0, h1])] at eA
      obtain ⟨k1, k2, k3⟩ := chkW_iff.1 h0
      intro w1 hr
      have hcw := c_AddWant w1 v l (c, f, q) (by (first | exact readsW_nil _ | exact readsY_nil _ | (have hq := hr; repeat (first | exact hq.hd | exact (hq.hd).reads | replace hq := hq.tl)))) k3 k1 ⟨hc, hf⟩
      rw [eA2] at hcw
      refine hcw.mono ?_
      rintro e w2 ⟨d1, rfl, g1, g2, gm⟩
      refine ⟨[.v d1, .r (rA.map encW), .i eA'], rfl, rfl, gm, List.forall_mem_nil _, List.forall_mem_cons.2 ⟨⟨g1, fun k hk => .inl (g2 k hk.2)⟩, List.forall_mem_nil _⟩, apart_one, ?_⟩; clear hr g1 g2 gm; simp only [Tree.goal, X.P, X.ev, V.toI_i, V.toB_b, V.toS_s, V.toR_r, V.toV_v, V.toN_n, V.toL_l, SV.ev, CV.ev, Sc.ev, List.getD_cons_zero, List.getD_cons_succ, List.getElem?_cons_zero, List.getElem?_cons_succ, List.map_cons, List.map_nil, List.length_cons, List.length_nil, List.cons_append, List.nil_append, Nat.zero_add, Nat.reduceAdd, List.length_map, Int.toNat_natCast, gW0, gW1, gW2, gY0, gY1]
      have hz : rA = if eA' = 0 then rA else [] := by
        split
        · rfl
        · rename_i h2
          unfold rawW at eA2
          split at eA2
          · cases eA2; exact absurd rfl h2
          · split at eA2
            · cases eA2; rfl
            · cases eA2; exact absurd rfl h2
      intro w1 hr; refine (c_DropWant w1 v l c f (by (first | exact readsW_nil _ | exact readsY_nil _ | (have hq := hr; repeat (first | exact hq.hd | exact (hq.hd).reads | replace hq := hq.tl)))) hl).mono ?_; rintro e w2 ⟨d2, rfl, g1, g2, gm⟩; refine ⟨[.v d2, .r ((l.filter fun w : Wt => decide (¬ (w.1 = c ∧ w.2.1 = f))).map encW)], rfl, rfl, gm, List.forall_mem_nil _, List.forall_mem_cons.2 ⟨⟨g1, fun k hk => .inl (g2 k hk)⟩, List.forall_mem_nil _⟩, apart_one, ?_⟩; clear hr g1 g2 gm; simp only [Tree.goal, X.P, X.ev, V.toI_i, V.toB_b, V.toS_s, V.toR_r, V.toV_v, V.toN_n, V.toL_l, SV.ev, CV.ev, Sc.ev, List.getD_cons_zero, List.getD_cons_succ, List.getElem?_cons_zero, List.getElem?_cons_succ, List.map_cons, List.map_nil, List.length_cons, List.length_nil, List.cons_append, List.nil_append, Nat.zero_add, Nat.reduceAdd, List.length_map, Int.toNat_natCast, gW0, gW1, gW2, gY0, gY1]; intro w1 hr; refine (c_LeaveWants w1 v l c (by (first | exact readsW_nil _ | exact readsY_nil _ | (have hq := hr; repeat (first | exact hq.hd | exact (hq.hd).reads | replace hq := hq.tl)))) hl).mono ?_; rintro e w2 ⟨d3, rfl, g1, g2, gm⟩; refine ⟨[.v d3, .r ((l.filter fun w : Wt => decide (¬ w.1 = c)).map encW)], rfl, rfl, gm, List.forall_mem_nil _, List.forall_mem_cons.2 ⟨⟨g1.reads, fun k hk => .inl (g2 k hk.2)⟩, List.forall_mem_nil _⟩, apart_one, ?_⟩; clear hr g1 g2 gm; simp only [Tree.goal, X.P, X.ev, V.toI_i, V.toB_b, V.toS_s, V.toR_r, V.toV_v, V.toN_n, V.toL_l, SV.ev, CV.ev, Sc.ev, List.getD_cons_zero, List.getD_cons_succ, List.getElem?_cons_zero, List.getElem?_cons_succ, List.map_cons, List.map_nil, List.length_cons, List.length_nil, List.cons_append, List.nil_append, Nat.zero_add, Nat.reduceAdd, List.length_map, Int.toNat_natCast, gW0, gW1, gW2, gY0, gY1]
      refine ⟨fun h2 => ?_, fun h2 => ?_⟩
      · rw [readC, if_pos (show readE l n = 0 by rw [readE, if_pos h0, h2])] at eR
        cases eR
        intro w1 hr; refine (c_ReadersOf w1 v l n (by (first | exact readsW_nil _ | exact readsY_nil _ | (have hq := hr; repeat (first | exact hq.hd | exact (hq.hd).reads | replace hq := hq.tl)))) hs hl hn).mono ?_; rintro e w2 ⟨d4, rfl, g1, g2, gm⟩; refine ⟨[.v d4, .r ((rdOf n l).map encY)], rfl, rfl, gm, List.forall_mem_nil _, List.forall_mem_cons.2 ⟨⟨g1.reads, fun k hk => .inl (g2 k hk.2)⟩, List.forall_mem_nil _⟩, apart_one, ?_⟩; clear hr g1 g2 gm; simp only [Tree.goal, X.P, X.ev, V.toI_i, V.toB_b, V.toS_s, V.toR_r, V.toV_v, V.toN_n, V.toL_l, SV.ev, CV.ev, Sc.ev, List.getD_cons_zero, List.getD_cons_succ, List.getElem?_cons_zero, List.getElem?_cons_succ, List.map_cons, List.map_nil, List.length_cons, List.length_nil, List.cons_append, List.nil_append, Nat.zero_add, Nat.reduceAdd, List.length_map, Int.toNat_natCast, gW0, gW1, gW2, gY0, gY1]
        refine ⟨[.b true], rfl, fun _ w' _ => c_wantBegun w', ?_⟩; simp only [Tree.goal, X.P, X.ev, V.toI_i, V.toB_b, V.toS_s, V.toR_r, V.toV_v, V.toN_n, V.toL_l, SV.ev, CV.ev, Sc.ev, List.getD_cons_zero, List.getD_cons_succ, List.getElem?_cons_zero, List.getElem?_cons_succ, List.map_cons, List.map_nil, List.length_cons, List.length_nil, List.cons_append, List.nil_append, Nat.zero_add, Nat.reduceAdd, List.length_map, Int.toNat_natCast, gW0, gW1, gW2, gY0, gY1]; refine ⟨[.i (chkW l)], rfl, fun _ w' hr => c_CheckW w' v l (by (first | exact readsW_nil _ | exact readsY_nil _ | (have hq := hr; repeat (first | exact hq.hd | exact (hq.hd).reads | replace hq := hq.tl)))) hs hl, ?_⟩; simp only [Tree.goal, X.P, X.ev, V.toI_i, V.toB_b, V.toS_s, V.toR_r, V.toV_v, V.toN_n, V.toL_l, SV.ev, CV.ev, Sc.ev, List.getD_cons_zero, List.getD_cons_succ, List.getElem?_cons_zero, List.getElem?_cons_succ, List.map_cons, List.map_nil, List.length_cons, List.length_nil, List.cons_append, List.nil_append, Nat.zero_add, Nat.reduceAdd, List.length_map, Int.toNat_natCast, gW0, gW1, gW2, gY0, gY1]
        refine ⟨[.b true], rfl, fun _ w' hr => c_wAre w' vA d1 rA rA eA' eA' (by (first | exact readsW_nil _ | exact readsY_nil _ | (have hq := hr; repeat (first | exact hq.hd | exact (hq.hd).reads | replace hq := hq.tl)))) (by (first | exact readsW_nil _ | exact readsY_nil _ | (have hq := hr; repeat (first | exact hq.hd | exact (hq.hd).reads | replace hq := hq.tl)))) (by omega) rfl hz, ?_⟩
        simp only [Tree.goal, X.P, X.ev, V.toI_i, V.toB_b, V.toS_s, V.toR_r, V.toV_v, V.toN_n, V.toL_l, SV.ev, CV.ev, Sc.ev, List.getD_cons_zero, List.getD_cons_succ, List.getElem?_cons_zero, List.getElem?_cons_succ, List.map_cons, List.map_nil, List.length_cons, List.length_nil, List.cons_append, List.nil_append, Nat.zero_add, Nat.reduceAdd, List.length_map, Int.toNat_natCast, gW0, gW1, gW2, gY0, gY1]
        refine ⟨[.b true], rfl, fun _ w' hr => c_wAre w' vD d2 _ _ 0 (chkW l) (by (first | exact readsW_nil _ | exact readsY_nil _ | (have hq := hr; repeat (first | exact hq.hd | exact (hq.hd).reads | replace hq := hq.tl)))) (by (first | exact readsW_nil _ | exact readsY_nil _ | (have hq := hr; repeat (first | exact hq.hd | exact (hq.hd).reads | replace hq := hq.tl)))) (by omega) h0.symm (by rw [if_pos h0]), ?_⟩
        simp only [Tree.goal, X.P, X.ev, V.toI_i, V.toB_b, V.toS_s, V.toR_r, V.toV_v, V.toN_n, V.toL_l, SV.ev, CV.ev, Sc.ev, List.getD_cons_zero, List.getD_cons_succ, List.getElem?_cons_zero, List.getElem?_cons_succ, List.map_cons, List.map_nil, List.length_cons, List.length_nil, List.cons_append, List.nil_append, Nat.zero_add, Nat.reduceAdd, List.length_map, Int.toNat_natCast, gW0, gW1, gW2, gY0, gY1]
        refine ⟨[.b true], rfl, fun _ w' hr => c_wAre w' vL d3 _ _ 0 (chkW l) (by (first | exact readsW_nil _ | exact readsY_nil _ | (have hq := hr; repeat (first | exact hq.hd | exact (hq.hd).reads | replace hq := hq.tl)))) (by (first | exact readsW_nil _ | exact readsY_nil _ | (have hq := hr; repeat (first | exact hq.hd | exact (hq.hd).reads | replace hq := hq.tl)))) (by omega) h0.symm (by rw [if_pos h0]), ?_⟩
        simp only [Tree.goal, X.P, X.ev, V.toI_i, V.toB_b, V.toS_s, V.toR_r, V.toV_v, V.toN_n, V.toL_l, SV.ev, CV.ev, Sc.ev, List.getD_cons_zero, List.getD_cons_succ, List.getElem?_cons_zero, List.getElem?_cons_succ, List.map_cons, List.map_nil, List.length_cons, List.length_nil, List.cons_append, List.nil_append, Nat.zero_add, Nat.reduceAdd, List.length_map, Int.toNat_natCast, gW0, gW1, gW2, gY0, gY1]
        refine ⟨[.b true], rfl, fun _ w' hr => by have := c_sameReaders w' vR d4 (rdOf n l) (rdOf n l) (by (first | exact readsW_nil _ | exact readsY_nil _ | (have hq := hr; repeat (first | exact hq.hd | exact (hq.hd).reads | replace hq := hq.tl)))) (by (first | exact readsW_nil _ | exact readsY_nil _ | (have hq := hr; repeat (first | exact hq.hd | exact (hq.hd).reads | replace hq := hq.tl)))) (by omega); rwa [decide_eq_true rfl] at this, ?_⟩
        simp only [Tree.goal, X.P, X.ev, V.toI_i, V.toB_b, V.toS_s, V.toR_r, V.toV_v, V.toN_n, V.toL_l, SV.ev, CV.ev, Sc.ev, List.getD_cons_zero, List.getD_cons_succ, List.getElem?_cons_zero, List.getElem?_cons_succ, List.map_cons, List.map_nil, List.length_cons, List.length_nil, List.cons_append, List.nil_append, Nat.zero_add, Nat.reduceAdd, List.length_map, Int.toNat_natCast, gW0, gW1, gW2, gY0, gY1]
        exact fun w' hr => ⟨by simp [*], hr.mod⟩
      · have e2 : readE l n = chkT n false := by rw [readE, if_pos h0]
        rw [readC, e2, if_neg h2] at eR
        cases eR
        refine ⟨[.b true], rfl, fun _ w' _ => c_wantBegun w', ?_⟩; simp only [Tree.goal, X.P, X.ev, V.toI_i, V.toB_b, V.toS_s, V.toR_r, V.toV_v, V.toN_n, V.toL_l, SV.ev, CV.ev, Sc.ev, List.getD_cons_zero, List.getD_cons_succ, List.getElem?_cons_zero, List.getElem?_cons_succ, List.map_cons, List.map_nil, List.length_cons, List.length_nil, List.cons_append, List.nil_append, Nat.zero_add, Nat.reduceAdd, List.length_map, Int.toNat_natCast, gW0, gW1, gW2, gY0, gY1]; refine ⟨[.i (chkW l)], rfl, fun _ w' hr => c_CheckW w' v l (by (first | exact readsW_nil _ | exact readsY_nil _ | (have hq := hr; repeat (first | exact hq.hd | exact (hq.hd).reads | replace hq := hq.tl)))) hs hl, ?_⟩; simp only [Tree.goal, X.P, X.ev, V.toI_i, V.toB_b, V.toS_s, V.toR_r, V.toV_v, V.toN_n, V.toL_l, SV.ev, CV.ev, Sc.ev, List.getD_cons_zero, List.getD_cons_succ, List.getElem?_cons_zero, List.getElem?_cons_succ, List.map_cons, List.map_nil, List.length_cons, List.length_nil, List.cons_append, List.nil_append, Nat.zero_add, Nat.reduceAdd, List.length_map, Int.toNat_natCast, gW0, gW1, gW2, gY0, gY1]
        refine ⟨[.b true], rfl, fun _ w' hr => c_wAre w' vA d1 rA rA eA' eA' (by (first | exact readsW_nil _ | exact readsY_nil _ | (have hq := hr; repeat (first | exact hq.hd | exact (hq.hd).reads | replace hq := hq.tl)))) (by (first | exact readsW_nil _ | exact readsY_nil _ | (have hq := hr; repeat (first | exact hq.hd | exact (hq.hd).reads | replace hq := hq.tl)))) (by omega) rfl hz, ?_⟩
        simp only [Tree.goal, X.P, X.ev, V.toI_i, V.toB_b, V.toS_s, V.toR_r, V.toV_v, V.toN_n, V.toL_l, SV.ev, CV.ev, Sc.ev, List.getD_cons_zero, List.getD_cons_succ, List.getElem?_cons_zero, List.getElem?_cons_succ, List.map_cons, List.map_nil, List.length_cons, List.length_nil, List.cons_append, List.nil_append, Nat.zero_add, Nat.reduceAdd, List.length_map, Int.toNat_natCast, gW0, gW1, gW2, gY0, gY1]
        refine ⟨[.b true], rfl, fun _ w' hr => c_wAre w' vD d2 _ _ 0 (chkW l) (by (first | exact readsW_nil _ | exact readsY_nil _ | (have hq := hr; repeat (first | exact hq.hd | exact (hq.hd).reads | replace hq := hq.tl)))) (by (first | exact readsW_nil _ | exact readsY_nil _ | (have hq := hr; repeat (first | exact hq.hd | exact (hq.hd).reads | replace hq := hq.tl)))) (by omega) h0.symm (by rw [if_pos h0]), ?_⟩
        simp only [Tree.goal, X.P, X.ev, V.toI_i, V.toB_b, V.toS_s, V.toR_r, V.toV_v, V.toN_n, V.toL_l, SV.ev, CV.ev, Sc.ev, List.getD_cons_zero, List.getD_cons_succ, List.getElem?_cons_zero, List.getElem?_cons_succ, List.map_cons, List.map_nil, List.length_cons, List.length_nil, List.cons_append, List.nil_append, Nat.zero_add, Nat.reduceAdd, List.length_map, Int.toNat_natCast, gW0, gW1, gW2, gY0, gY1]
        refine ⟨[.b true], rfl, fun _ w' hr => c_wAre w' vL d3 _ _ 0 (chkW l) (by (first | exact readsW_nil _ | exact readsY_nil _ | (have hq := hr; repeat (first | exact hq.hd | exact (hq.hd).reads | replace hq := hq.tl)))) (by (first | exact readsW_nil _ | exact readsY_nil _ | (have hq := hr; repeat (first | exact hq.hd | exact (hq.hd).reads | replace hq := hq.tl)))) (by omega) h0.symm (by rw [if_pos h0]), ?_⟩
        simp only [Tree.goal, X.P, X.ev, V.toI_i, V.toB_b, V.toS_s, V.toR_r, V.toV_v, V.toN_n, V.toL_l, SV.ev, CV.ev, Sc.ev, List.getD_cons_zero, List.getD_cons_succ, List.getElem?_cons_zero, List.getElem?_cons_succ, List.map_cons, List.map_nil, List.length_cons, List.length_nil, List.cons_append, List.nil_append, Nat.zero_add, Nat.reduceAdd, List.length_map, Int.toNat_natCast, gW0, gW1, gW2, gY0, gY1]
        refine ⟨[.b true], rfl, fun _ w' hr => by have := c_sameReaders w' vR (.slice none 0 0) [] [] (by (first | exact readsW_nil _ | exact readsY_nil _ | (have hq := hr; repeat (first | exact hq.hd | exact (hq.hd).reads | replace hq := hq.tl)))) (readsY_nil _) (by decide); rw [decide_eq_true rfl] at this; exact as_called this rfl, ?_⟩
        simp only [Tree.goal, X.P, X.ev, V.toI_i, V.toB_b, V.toS_s, V.toR_r, V.toV_v, V.toN_n, V.toL_l, SV.ev, CV.ev, Sc.ev, List.getD_cons_zero, List.getD_cons_succ, List.getElem?_cons_zero, List.getElem?_cons_succ, List.map_cons, List.map_nil, List.length_cons, List.length_nil, List.cons_append, List.nil_append, Nat.zero_add, Nat.reduceAdd, List.length_map, Int.toNat_natCast, gW0, gW1, gW2, gY0, gY1]
        exact fun w' hr => ⟨by simp [*], hr.mod⟩
    · have e1 : addE l (c, f, q) = oneE (c, f, q) := by rw [addE, if_pos h0]
      rw [addC, e1, if_neg h1] at eA
      cases eA
      intro w1 hr; refine (c_DropWant w1 v l c f (by (first | exact readsW_nil _ | exact readsY_nil _ | (have hq := hr; repeat (first | exact hq.hd | exact (hq.hd).reads | replace hq := hq.tl)))) hl).mono ?_; rintro e w2 ⟨d2, rfl, g1, g2, gm⟩; refine ⟨[.v d2, .r ((l.filter fun w : Wt => decide (¬ (w.1 = c ∧ w.2.1 = f))).map encW)], rfl, rfl, gm, List.forall_mem_nil _, List.forall_mem_cons.2 ⟨⟨g1, fun k hk => .inl (g2 k hk)⟩, List.forall_mem_nil _⟩, apart_one, ?_⟩; clear hr g1 g2 gm; simp only [Tree.goal, X.P, X.ev, V.toI_i, V.toB_b, V.toS_s, V.toR_r, V.toV_v, V.toN_n, V.toL_l, SV.ev, CV.ev, Sc.ev, List.getD_cons_zero, List.getD_cons_succ, List.getElem?_cons_zero, List.getElem?_cons_succ, List.map_cons, List.map_nil, List.length_cons, List.length_nil, List.cons_append, List.nil_append, Nat.zero_add, Nat.reduceAdd, List.length_map, Int.toNat_natCast, gW0, gW1, gW2, gY0, gY1]; intro w1 hr; refine (c_LeaveWants w1 v l c (by (first | exact readsW_nil _ | exact readsY_nil _ | (have hq := hr; repeat (first | exact hq.hd | exact (hq.hd).reads | replace hq := hq.tl)))) hl).mono ?_; rintro e w2 ⟨d3, rfl, g1, g2, gm⟩; refine ⟨[.v d3, .r ((l.filter fun w : Wt => decide (¬ w.1 = c)).map encW)], rfl, rfl, gm, List.forall_mem_nil _, List.forall_mem_cons.2 ⟨⟨g1.reads, fun k hk => .inl (g2 k hk.2)⟩, List.forall_mem_nil _⟩, apart_one, ?_⟩; clear hr g1 g2 gm; simp only [Tree.goal, X.P, X.ev, V.toI_i, V.toB_b, V.toS_s, V.toR_r, V.toV_v, V.toN_n, V.toL_l, SV.ev, CV.ev, Sc.ev, List.getD_cons_zero, List.getD_cons_succ, List.getElem?_cons_zero, List.getElem?_cons_succ, List.map_cons, List.map_nil, List.length_cons, List.length_nil, List.cons_append, List.nil_append, Nat.zero_add, Nat.reduceAdd, List.length_map, Int.toNat_natCast, gW0, gW1, gW2, gY0, gY1]
      refine ⟨fun h2 => ?_, fun h2 => ?_⟩
      · rw [readC, if_pos (show readE l n = 0 by rw [readE, if_pos h0, h2])] at eR
        cases eR
        intro w1 hr; refine (c_ReadersOf w1 v l n (by (first | exact readsW_nil _ | exact readsY_nil _ | (have hq := hr; repeat (first | exact hq.hd | exact (hq.hd).reads | replace hq := hq.tl)))) hs hl hn).mono ?_; rintro e w2 ⟨d4, rfl, g1, g2, gm⟩; refine ⟨[.v d4, .r ((rdOf n l).map encY)], rfl, rfl, gm, List.forall_mem_nil _, List.forall_mem_cons.2 ⟨⟨g1.reads, fun k hk => .inl (g2 k hk.2)⟩, List.forall_mem_nil _⟩, apart_one, ?_⟩; clear hr g1 g2 gm; simp only [Tree.goal, X.P, X.ev, V.toI_i, V.toB_b, V.toS_s, V.toR_r, V.toV_v, V.toN_n, V.toL_l, SV.ev, CV.ev, Sc.ev, List.getD_cons_zero, List.getD_cons_succ, List.getElem?_cons_zero, List.getElem?_cons_succ, List.map_cons, List.map_nil, List.length_cons, List.length_nil, List.cons_append, List.nil_append, Nat.zero_add, Nat.reduceAdd, List.length_map, Int.toNat_natCast, gW0, gW1, gW2, gY0, gY1]
        refine ⟨[.b true], rfl, fun _ w' _ => c_wantBegun w', ?_⟩; simp only [Tree.goal, X.P, X.ev, V.toI_i, V.toB_b, V.toS_s, V.toR_r, V.toV_v, V.toN_n, V.toL_l, SV.ev, CV.ev, Sc.ev, List.getD_cons_zero, List.getD_cons_succ, List.getElem?_cons_zero, List.getElem?_cons_succ, List.map_cons, List.map_nil, List.length_cons, List.length_nil, List.cons_append, List.nil_append, Nat.zero_add, Nat.reduceAdd, List.length_map, Int.toNat_natCast, gW0, gW1, gW2, gY0, gY1]; refine ⟨[.i (chkW l)], rfl, fun _ w' hr => c_CheckW w' v l (by (first | exact readsW_nil _ | exact readsY_nil _ | (have hq := hr; repeat (first | exact hq.hd | exact (hq.hd).reads | replace hq := hq.tl)))) hs hl, ?_⟩; simp only [Tree.goal, X.P, X.ev, V.toI_i, V.toB_b, V.toS_s, V.toR_r, V.toV_v, V.toN_n, V.toL_l, SV.ev, CV.ev, Sc.ev, List.getD_cons_zero, List.getD_cons_succ, List.getElem?_cons_zero, List.getElem?_cons_succ, List.map_cons, List.map_nil, List.length_cons, List.length_nil, List.cons_append, List.nil_append, Nat.zero_add, Nat.reduceAdd, List.length_map, Int.toNat_natCast, gW0, gW1, gW2, gY0, gY1]
        refine ⟨[.b true], rfl, fun _ w' hr => as_called (c_wAre w' vA (.slice none 0 0) [] [] _ _ (by (first | exact readsW_nil _ | exact readsY_nil _ | (have hq := hr; repeat (first | exact hq.hd | exact (hq.hd).reads | replace hq := hq.tl)))) (readsW_nil _) (by decide) rfl (by simp)) rfl, ?_⟩
        simp only [Tree.goal, X.P, X.ev, V.toI_i, V.toB_b, V.toS_s, V.toR_r, V.toV_v, V.toN_n, V.toL_l, SV.ev, CV.ev, Sc.ev, List.getD_cons_zero, List.getD_cons_succ, List.getElem?_cons_zero, List.getElem?_cons_succ, List.map_cons, List.map_nil, List.length_cons, List.length_nil, List.cons_append, List.nil_append, Nat.zero_add, Nat.reduceAdd, List.length_map, Int.toNat_natCast, gW0, gW1, gW2, gY0, gY1]
        refine ⟨[.b true], rfl, fun _ w' hr => c_wAre w' vD d2 _ _ 0 (chkW l) (by (first | exact readsW_nil _ | exact readsY_nil _ | (have hq := hr; repeat (first | exact hq.hd | exact (hq.hd).reads | replace hq := hq.tl)))) (by (first | exact readsW_nil _ | exact readsY_nil _ | (have hq := hr; repeat (first | exact hq.hd | exact (hq.hd).reads | replace hq := hq.tl)))) (by omega) h0.symm (by rw [if_pos h0]), ?_⟩
        simp only [Tree.goal, X.P, X.ev, V.toI_i, V.toB_b, V.toS_s, V.toR_r, V.toV_v, V.toN_n, V.toL_l, SV.ev, CV.ev, Sc.ev, List.getD_cons_zero, List.getD_cons_succ, List.getElem?_cons_zero, List.getElem?_cons_succ, List.map_cons, List.map_nil, List.length_cons, List.length_nil, List.cons_append, List.nil_append, Nat.zero_add, Nat.reduceAdd, List.length_map, Int.toNat_natCast, gW0, gW1, gW2, gY0, gY1]
        refine ⟨[.b true], rfl, fun _ w' hr => c_wAre w' vL d3 _ _ 0 (chkW l) (by (first | exact readsW_nil _ | exact readsY_nil _ | (have hq := hr; repeat (first | exact hq.hd | exact (hq.hd).reads | replace hq := hq.tl)))) (by (first | exact readsW_nil _ | exact readsY_nil _ | (have hq := hr; repeat (first | exact hq.hd | exact (hq.hd).reads | replace hq := hq.tl)))) (by omega) h0.symm (by rw [if_pos h0]), ?_⟩
        simp only [Tree.goal, X.P, X.ev, V.toI_i, V.toB_b, V.toS_s, V.toR_r, V.toV_v, V.toN_n, V.toL_l, SV.ev, CV.ev, Sc.ev, List.getD_cons_zero, List.getD_cons_succ, List.getElem?_cons_zero, List.getElem?_cons_succ, List.map_cons, List.map_nil, List.length_cons, List.length_nil, List.cons_append, List.nil_append, Nat.zero_add, Nat.reduceAdd, List.length_map, Int.toNat_natCast, gW0, gW1, gW2, gY0, gY1]
        refine ⟨[.b true], rfl, fun _ w' hr => by have := c_sameReaders w' vR d4 (rdOf n l) (rdOf n l) (by (first | exact readsW_nil _ | exact readsY_nil _ | (have hq := hr; repeat (first | exact hq.hd | exact (hq.hd).reads | replace hq := hq.tl)))) (by (first | exact readsW_nil _ | exact readsY_nil _ | (have hq := hr; repeat (first | exact hq.hd | exact (hq.hd).reads | replace hq := hq.tl)))) (by omega); rwa [decide_eq_true rfl] at this, ?_⟩
        simp only [Tree.goal, X.P, X.ev, V.toI_i, V.toB_b, V.toS_s, V.toR_r, V.toV_v, V.toN_n, V.toL_l, SV.ev, CV.ev, Sc.ev, List.getD_cons_zero, List.getD_cons_succ, List.getElem?_cons_zero, List.getElem?_cons_succ, List.map_cons, List.map_nil, List.length_cons, List.length_nil, List.cons_append, List.nil_append, Nat.zero_add, Nat.reduceAdd, List.length_map, Int.toNat_natCast, gW0, gW1, gW2, gY0, gY1]
        exact fun w' hr => ⟨by simp [*], hr.mod⟩
      · have e2 : readE l n = chkT n false := by rw [readE, if_pos h0]
        rw [readC, e2, if_neg h2] at eR
        cases eR
        refine ⟨[.b true], rfl, fun _ w' _ => c_wantBegun w', ?_⟩; simp only [Tree.goal, X.P, X.ev, V.toI_i, V.toB_b, V.toS_s, V.toR_r, V.toV_v, V.toN_n, V.toL_l, SV.ev, CV.ev, Sc.ev, List.getD_cons_zero, List.getD_cons_succ, List.getElem?_cons_zero, List.getElem?_cons_succ, List.map_cons, List.map_nil, List.length_cons, List.length_nil, List.cons_append, List.nil_append, Nat.zero_add, Nat.reduceAdd, List.length_map, Int.toNat_natCast, gW0, gW1, gW2, gY0, gY1]; refine ⟨[.i (chkW l)], rfl, fun _ w' hr => c_CheckW w' v l (by (first | exact readsW_nil _ | exact readsY_nil _ | (have hq := hr; repeat (first | exact hq.hd | exact (hq.hd).reads | replace hq := hq.tl)))) hs hl, ?_⟩; simp only [Tree.goal, X.P, X.ev, V.toI_i, V.toB_b, V.toS_s, V.toR_r, V.toV_v, V.toN_n, V.toL_l, SV.ev, CV.ev, Sc.ev, List.getD_cons_zero, List.getD_cons_succ, List.getElem?_cons_zero, List.getElem?_cons_succ, List.map_cons, List.map_nil, List.length_cons, List.length_nil, List.cons_append, List.nil_append, Nat.zero_add, Nat.reduceAdd, List.length_map, Int.toNat_natCast, gW0, gW1, gW2, gY0, gY1]
        refine ⟨[.b true], rfl, fun _ w' hr => as_called (c_wAre w' vA (.slice none 0 0) [] [] _ _ (by (first | exact readsW_nil _ | exact readsY_nil _ | (have hq := hr; repeat (first | exact hq.hd | exact (hq.hd).reads | replace hq := hq.tl)))) (readsW_nil _) (by decide) rfl (by simp)) rfl, ?_⟩
        simp only [Tree.goal, X.P, X.ev, V.toI_i, V.toB_b, V.toS_s, V.toR_r, V.toV_v, V.toN_n, V.toL_l, SV.ev, CV.ev, Sc.ev, List.getD_cons_zero, List.getD_cons_succ, List.getElem?_cons_zero, List.getElem?_cons_succ, List.map_cons, List.map_nil, List.length_cons, List.length_nil, List.cons_append, List.nil_append, Nat.zero_add, Nat.reduceAdd, List.length_map, Int.toNat_natCast, gW0, gW1, gW2, gY0, gY1]
        refine ⟨[.b true], rfl, fun _ w' hr => c_wAre w' vD d2 _ _ 0 (chkW l) (by (first | exact readsW_nil _ | exact readsY_nil _ | (have hq := hr; repeat (first | exact hq.hd | exact (hq.hd).reads | replace hq := hq.tl)))) (by (first | exact readsW_nil _ | exact readsY_nil _ | (have hq := hr; repeat (first | exact hq.hd | exact (hq.hd).reads | replace hq := hq.tl)))) (by omega) h0.symm (by rw [if_pos h0]), ?_⟩
        simp only [Tree.goal, X.P, X.ev, V.toI_i, V.toB_b, V.toS_s, V.toR_r, V.toV_v, V.toN_n, V.toL_l, SV.ev, CV.ev, Sc.ev, List.getD_cons_zero, List.getD_cons_succ, List.getElem?_cons_zero, List.getElem?_cons_succ, List.map_cons, List.map_nil, List.length_cons, List.length_nil, List.cons_append, List.nil_append, Nat.zero_add, Nat.reduceAdd, List.length_map, Int.toNat_natCast, gW0, gW1, gW2, gY0, gY1]
        refine ⟨[.b true], rfl, fun _ w' hr => c_wAre w' vL d3 _ _ 0 (chkW l) (by (first | exact readsW_nil _ | exact readsY_nil _ | (have hq := hr; repeat (first | exact hq.hd | exact (hq.hd).reads | replace hq := hq.tl)))) (by (first | exact readsW_nil _ | exact readsY_nil _ | (have hq := hr; repeat (first | exact hq.hd | exact (hq.hd).reads | replace hq := hq.tl)))) (by omega) h0.symm (by rw [if_pos h0]), ?_⟩
        simp only [Tree.goal, X.P, X.ev, V.toI_i, V.toB_b, V.toS_s, V.toR_r, V.toV_v, V.toN_n, V.toL_l, SV.ev, CV.ev, Sc.ev, List.getD_cons_zero, List.getD_cons_succ, List.getElem?_cons_zero, List.getElem?_cons_succ, List.map_cons, List.map_nil, List.length_cons, List.length_nil, List.cons_append, List.nil_append, Nat.zero_add, Nat.reduceAdd, List.length_map, Int.toNat_natCast, gW0, gW1, gW2, gY0, gY1]
        refine ⟨[.b true], rfl, fun _ w' hr => by have := c_sameReaders w' vR (.slice none 0 0) [] [] (by (first | exact readsW_nil _ | exact readsY_nil _ | (have hq := hr; repeat (first | exact hq.hd | exact (hq.hd).reads | replace hq := hq.tl)))) (readsY_nil _) (by decide); rw [decide_eq_true rfl] at this; exact as_called this rfl, ?_⟩
        simp only [Tree.goal, X.P, X.ev, V.toI_i, V.toB_b, V.toS_s, V.toR_r, V.toV_v, V.toN_n, V.toL_l, SV.ev, CV.ev, Sc.ev, List.getD_cons_zero, List.getD_cons_succ, List.getElem?_cons_zero, List.getElem?_cons_succ, List.map_cons, List.map_nil, List.length_cons, List.length_nil, List.cons_append, List.nil_append, Nat.zero_add, Nat.reduceAdd, List.length_map, Int.toNat_natCast, gW0, gW1, gW2, gY0, gY1]
        exact fun w' hr => ⟨by simp [*], hr.mod⟩
  · rw [goneC, if_neg h0] at eD eL
    cases eD
    cases eL
    rw [addC, show addE l (c, f, q) = chkW l by rw [addE, if_neg h0], if_neg h0] at eA
    cases eA
    rw [readC, show readE l n = chkW l by rw [readE, if_neg h0], if_neg h0] at eR
    cases eR
    refine ⟨[.b true], rfl, fun _ w' _ => c_wantBegun w', ?_⟩; simp only [Tree.goal, X.P, X.ev, V.toI_i, V.toB_b, V.toS_s, V.toR_r, V.toV_v, V.toN_n, V.toL_l, SV.ev, CV.ev, Sc.ev, List.getD_cons_zero, List.getD_cons_succ, List.getElem?_cons_zero, List.getElem?_cons_succ, List.map_cons, List.map_nil, List.length_cons, List.length_nil, List.cons_append, List.nil_append, Nat.zero_add, Nat.reduceAdd, List.length_map, Int.toNat_natCast, gW0, gW1, gW2, gY0, gY1]; refine ⟨[.i (chkW l)], rfl, fun _ w' hr => c_CheckW w' v l (by (first | exact readsW_nil _ | exact readsY_nil _ | (have hq := hr; repeat (first | exact hq.hd | exact (hq.hd).reads | replace hq := hq.tl)))) hs hl, ?_⟩; simp only [Tree.goal, X.P, X.ev, V.toI_i, V.toB_b, V.toS_s, V.toR_r, V.toV_v, V.toN_n, V.toL_l, SV.ev, CV.ev, Sc.ev, List.getD_cons_zero, List.getD_cons_succ, List.getElem?_cons_zero, List.getElem?_cons_succ, List.map_cons, List.map_nil, List.length_cons, List.length_nil, List.cons_append, List.nil_append, Nat.zero_add, Nat.reduceAdd, List.length_map, Int.toNat_natCast, gW0, gW1, gW2, gY0, gY1]
    refine ⟨[.b true], rfl, fun _ w' hr => as_called (c_wAre w' vA (.slice none 0 0) [] [] _ _ (by (first | exact readsW_nil _ | exact readsY_nil _ | (have hq := hr; repeat (first | exact hq.hd | exact (hq.hd).reads | replace hq := hq.tl)))) (readsW_nil _) (by decide) rfl (by simp)) rfl, ?_⟩
    simp only [Tree.goal, X.P, X.ev, V.toI_i, V.toB_b, V.toS_s, V.toR_r, V.toV_v, V.toN_n, V.toL_l, SV.ev, CV.ev, Sc.ev, List.getD_cons_zero, List.getD_cons_succ, List.getElem?_cons_zero, List.getElem?_cons_succ, List.map_cons, List.map_nil, List.length_cons, List.length_nil, List.cons_append, List.nil_append, Nat.zero_add, Nat.reduceAdd, List.length_map, Int.toNat_natCast, gW0, gW1, gW2, gY0, gY1]
    refine ⟨[.b true], rfl, fun _ w' hr => as_called (c_wAre w' vD (.slice none 0 0) [] [] _ _ (by (first | exact readsW_nil _ | exact readsY_nil _ | (have hq := hr; repeat (first | exact hq.hd | exact (hq.hd).reads | replace hq := hq.tl)))) (readsW_nil _) (by decide) rfl (by simp)) rfl, ?_⟩
    simp only [Tree.goal, X.P, X.ev, V.toI_i, V.toB_b, V.toS_s, V.toR_r, V.toV_v, V.toN_n, V.toL_l, SV.ev, CV.ev, Sc.ev, List.getD_cons_zero, List.getD_cons_succ, List.getElem?_cons_zero, List.getElem?_cons_succ, List.map_cons, List.map_nil, List.length_cons, List.length_nil, List.cons_append, List.nil_append, Nat.zero_add, Nat.reduceAdd, List.length_map, Int.toNat_natCast, gW0, gW1, gW2, gY0, gY1]
    refine ⟨[.b true], rfl, fun _ w' hr => as_called (c_wAre w' vL (.slice none 0 0) [] [] _ _ (by (first | exact readsW_nil _ | exact readsY_nil _ | (have hq := hr; repeat (first | exact hq.hd | exact (hq.hd).reads | replace hq := hq.tl)))) (readsW_nil _) (by decide) rfl (by simp)) rfl, ?_⟩
    simp only [Tree.goal, X.P, X.ev, V.toI_i, V.toB_b, V.toS_s, V.toR_r, V.toV_v, V.toN_n, V.toL_l, SV.ev, CV.ev, Sc.ev, List.getD_cons_zero, List.getD_cons_succ, List.getElem?_cons_zero, List.getElem?_cons_succ, List.map_cons, List.map_nil, List.length_cons, List.length_nil, List.cons_append, List.nil_append, Nat.zero_add, Nat.reduceAdd, List.length_map, Int.toNat_natCast, gW0, gW1, gW2, gY0, gY1]
    refine ⟨[.b true], rfl, fun _ w' hr => by have := c_sameReaders w' vR (.slice none 0 0) [] [] (by (first | exact readsW_nil _ | exact readsY_nil _ | (have hq := hr; repeat (first | exact hq.hd | exact (hq.hd).reads | replace hq := hq.tl)))) (readsY_nil _) (by decide); rw [decide_eq_true rfl] at this; exact as_called this rfl, ?_⟩
    simp only [Tree.goal, X.P, X.ev, V.toI_i, V.toB_b, V.toS_s, V.toR_r, V.toV_v, V.toN_n, V.toL_l, SV.ev, CV.ev, Sc.ev, List.getD_cons_zero, List.getD_cons_succ, List.getElem?_cons_zero, List.getElem?_cons_succ, List.map_cons, List.map_nil, List.length_cons, List.length_nil, List.cons_append, List.nil_append, Nat.zero_add, Nat.reduceAdd, List.length_map, Int.toNat_natCast, gW0, gW1, gW2, gY0, gY1]
    exact fun w' hr => ⟨by simp [*], hr.mod⟩
end Go.Proofs.YtliedecinehijaaGreatDoor

/-
  What a law's row wants of a walk that leaves all old memory as it was. By an AI agent.
-/
set_option linter.unusedSimpArgs false
set_option linter.unusedVariables false
namespace Go.Sx
open Go Go.ChangeShapes Go.WideShapes Go.ChangeAt Go.RowKit
section
variable {H : Type} {enc : TypeId × Value → H} {P : Program}

/-- No slice's element is without cells. -/
def solidB (P : Program) (ts : List TypeId) : Bool := ts.all fun t => match P.underlying t with | some (.slice e) => decide (0 < P.cellsOf e) | _ => true
/-- Closed under what a reading goes to. -/
def closedB (P : Program) (ts : List TypeId) : Bool := ts.all fun t => match P.underlying t with
  | some (.slice e) => ts.contains e
  | some (.pointer e) => ts.contains e
  | some (.array _ e) => ts.contains e
  | some (.map _ e) => ts.contains e
  | some (.struct fs) => fs.toList.all fun f => ts.contains f.type
  | _ => true

theorem kids_of (hl : laidOutB P = true) (hm : mapsRowed P = true) {ts : List TypeId} (hc : closedB P ts = true) (hs : ts.all (fun t => decide (t < P.types.size)) = true) : Kids P (· ∈ ts) := by
  have K := kids_rows hl hm
  have hs' : ∀ t ∈ ts, t < P.types.size := fun t ht => by simpa using List.all_eq_true.1 hs t ht
  have hc' := fun t ht => List.all_eq_true.1 hc t ht
  refine ⟨fun {t e} ht hu => ?_, fun {t e} ht hu => ?_, fun {t e n} ht hu => ⟨?_, (K.array (hs' t ht) hu).2⟩, fun {t fs} ht hu => ⟨?_, (K.struct (hs' t ht) hu).2⟩, fun {t k e} ht hu => ?_⟩
  · have := hc' t ht; rw [hu] at this; simpa using this
  · have := hc' t ht; rw [hu] at this; simpa using this
  · have := hc' t ht; rw [hu] at this; simpa using this
  · have := hc' t ht; rw [hu] at this; simp only [List.all_eq_true] at this; exact fun f hf => by simpa using this f hf
  · have := hc' t ht; rw [hu] at this; simpa using this

theorem sameAt_of_block {w w' : World} {p : MemPlace} (h : w'.heap[p.block]? = w.heap[p.block]?) : w.sameAt w' p := by
  cases p with
  | cell b off => exact World.cell?_of_block h
  | map b => exact h

theorem trodAll_stays {w w' : World} {sp : Nat → Bool} {T : TypeId → Prop} (K : Kids P T) (hsz : ∀ {t e : TypeId}, T t → P.underlying t = some (.slice e) → 0 < P.cellsOf e) :
    ∀ {ts : List TypeId} {vs : List Value} {ds : List (DataW H)} {ps : List MemPlace}, (∀ t ∈ ts, T t) → DataW.TrodAll enc P w 0 (fun _ => true) true ts vs ds ps →
      (∀ p ∈ ps, w.sameAt w' p) → (∀ p ∈ ps, sp p.block = true) → DataW.TrodAll enc P w' 0 sp true ts vs ds ps
  | [], _, _, _, _, h, _, _ => by
    obtain ⟨rfl, rfl, rfl⟩ := trodAll_nil h
    exact trodAll_mk0
  | t :: ts, _, _, _, ht, h, hs, hp => by
    obtain ⟨v, vs1, d, ds1, a, b, rfl, rfl, rfl, h1, h2⟩ := trodAll_cons h
    obtain ⟨n, h1⟩ := h1
    exact ⟨a, b, ⟨n, DataW.trod_stays K hsz (fun h => by cases h) (ht t (List.mem_cons_self ..)) h1 (fun p hp' => hs p (List.mem_append_left _ hp')) (fun p hp' => hp p (List.mem_append_left _ hp'))⟩,
      trodAll_stays K hsz (fun u hu => ht u (List.mem_cons_of_mem _ hu)) h2 (fun p hp' => hs p (List.mem_append_right _ hp')) (fun p hp' => hp p (List.mem_append_right _ hp')), rfl⟩

/-- A law that answered true, and left all old memory as it was. -/
theorem law_post {f : Func} {s : ChangeSpec} {fresh handsOn again : Bool} {W W' : World} {args : Array Value} {ds gs : List (DataW H)} {before : List MemPlace} {tb : TypeId} (ts : List TypeId)
    (hW : DataW.Whole enc P f.params.toList s.vars false W args.toList ds gs before) (hv : s.vars = [])
    (hr : f.resultTypes = #[tb]) (htb : P.underlying tb = some .bool) (hfn : gs = [] → (s.fn H ds).results = [.lit (.bool true)] ∧ (s.fn H ds).args = ds ∧ (s.fn H ds).vars = [])
    (hl : laidOutB P = true) (hm : mapsRowed P = true) (hc : closedB P ts = true) (hs : ts.all (fun t => decide (t < P.types.size)) = true) (hz : solidB P ts = true) (hp : f.params.toList.all ts.contains = true)
    (h : Mod [] W W') : s.post enc P f false fresh handsOn again W args (.bool true) W' := by
  have hW' := hW
  have hlt := hW.lt
  obtain ⟨p, q, hA, hV, rfl, hfz, hn⟩ := hW
  rw [hv] at hV
  obtain ⟨rfl, rfl⟩ := trodVars_none hV
  obtain ⟨f1, f2, f3⟩ := hfn rfl
  have K := kids_of hl hm hc hs
  have hsz : ∀ {t e : TypeId}, t ∈ ts → P.underlying t = some (.slice e) → 0 < P.cellsOf e := fun {t e} ht hu => by
    have := List.all_eq_true.1 hz t ht; rw [hu] at this; simpa using this
  have hT : ∀ t ∈ f.params.toList, t ∈ ts := fun t ht => by simpa using List.all_eq_true.1 hp t ht
  have hblk : ∀ k, k < W.heap.size → W'.heap[k]? = W.heap[k]? := fun k hk => h.block k hk (by simp)
  have hsame : ∀ x ∈ p, W.sameAt W' x := fun x hx => sameAt_of_block (hblk _ (hlt x (by simpa using hx)))
  have hargs : ∀ sp : Nat → Bool, (∀ x ∈ p, sp x.block = true) → DataW.TrodAll enc P W' 0 sp true f.params.toList args.toList (s.fn H (ds ++ [])).args p := fun sp hsp => by
    rw [List.append_nil, f2]; exact trodAll_stays K hsz hT hA hsame hsp
  have hres : ∀ (b : Nat) (sp : Nat → Bool) (hd : Bool), DataW.TrodAll enc P W' b sp hd f.resultTypes.toList ((Value.bool true).resultList f.resultTypes.size) (s.fn H (ds ++ [])).results [] := fun b sp hd => by
    rw [List.append_nil, f1, hr]; exact trodAll_cons_mk (shut_bool htb _) trodAll_mk0
  have hvars : ∀ sp : Nat → Bool, DataW.TrodVars enc P W' sp s.vars (s.fn H (ds ++ [])).vars [] := fun sp => by
    rw [List.append_nil, f3, hv]; rfl
  have hold : ∀ x ∈ p, (fun b => decide (b < W.heap.size)) x.block = true := fun x hx => by simpa using hlt x (by simpa using hx)
  refine ⟨ds, [], p ++ [], [], p, [], hW', hres _ _ _, hargs _ hold, hvars _, ⟨h.os, h.output, fun i hi => ?_⟩, fun _ => ⟨?_, [.lit (.bool true)] ++ ds, [], ([] ++ p) ++ [], ⟨[] ++ p, [], trodAll_append (by have := hargs (fun _ => true) (fun _ _ => rfl); rw [List.append_nil, f2] at this; exact this) (by have := hres 0 (fun _ => true) true; rw [List.append_nil, f1] at this; exact this), by rw [hv]; rfl, rfl, ?_, by simp⟩, ?_⟩⟩
  · have e := hblk i hi
    rw [e]
    cases W.heap[i]? with
    | none => rfl
    | some o => cases o <;> simp
  · exact ok_one hr rfl (okWide_bool_mk htb _)
  · intro b off hb
    have hb : MemPlace.cell b off ∈ p := by simpa using hb
    have hlt' := hlt _ (show MemPlace.cell b off ∈ p ++ [] by simpa using hb)
    have := hfz b off (by simpa using hb)
    simp only [World.frozen?, hblk b hlt'] at this ⊢
    exact this
  · intro x hx _
    simpa using hx
end
end Go.Sx

/-
  What a reading of an argument tells of its cells: structs cell by cell, slices row by row. By an AI agent.
-/
set_option linter.unusedSimpArgs false
set_option linter.unusedVariables false
namespace Go.Sx
open Go Go.ChangeShapes Go.WideShapes Go.ChangeAt Go.RowKit
section
variable {H : Type} {enc : TypeId × Value → H} {P : Program} {w : World} {sp : Nat → Bool}

/-- How great a reading is. -/
structure Bulk (B : DataW H → Nat) : Prop where
  agg : ∀ l : List (DataW H), (l.map B).sum ≤ B (.agg l)
  slice : ∀ l r : List (DataW H), (l.map B).sum + 1 ≤ B (.slice l r)
  str : ∀ s : List UInt8, s.length + 1 ≤ B (.lit (.string s))
  one : ∀ d : DataW H, 1 ≤ B d

def leavesL (P : Program) (g : TypeId → Option (List (TypeId × Kd))) : List Field → Nat → Option (List (TypeId × Kd))
  | [], _ => some []
  | f :: fs, off => do
    let l ← g f.type
    let r ← leavesL P g fs (off + l.length)
    if f.offset = off ∧ P.cellsOf f.type = l.length then some (l ++ r) else none
/-- The types and kinds of a type's cells. -/
def leaves (P : Program) : Nat → TypeId → Option (List (TypeId × Kd))
  | 0, _ => none
  | f + 1, t => match P.underlying t with
    | some .bool => some [(t, .bool)]
    | some (.int k) => some [(t, .int k)]
    | some .string => some [(t, .str)]
    | some (.slice _) => some [(t, .oth)]
    | some (.struct fs) => match leavesL P (leaves P f) fs.toList 0 with
      | some l => if P.cellsOf t = l.length then some l else none
      | none => none
    | _ => none

/-- What is known of a cell of a type. -/
def CellRd (enc : TypeId × Value → H) (P : Program) (w : World) (sp : Nat → Bool) (B : DataW H → Nat) (l : TypeId × Kd) (c : Value) (b : Nat) : Prop :=
  l.2.ok c ∧ ∃ n d ps, DataW.trod enc P w 0 sp true n l.1 [c] = some (d, ps) ∧ B d ≤ b
inductive Lv (enc : TypeId × Value → H) (P : Program) (w : World) (sp : Nat → Bool) (B : DataW H → Nat) : List (TypeId × Kd) → List Value → Nat → Prop
  | nil (b : Nat) : Lv enc P w sp B [] [] b
  | cons {l : TypeId × Kd} {ls : List (TypeId × Kd)} {c : Value} {cs : List Value} {b1 b2 b : Nat} : CellRd enc P w sp B l c b1 → Lv enc P w sp B ls cs b2 → b1 + b2 ≤ b → Lv enc P w sp B (l :: ls) (c :: cs) b
variable {B : DataW H → Nat}
theorem Lv.mono {ls : List (TypeId × Kd)} {cs : List Value} {b b' : Nat} (h : Lv enc P w sp B ls cs b) (hb : b ≤ b') : Lv enc P w sp B ls cs b' := by
  cases h with
  | nil => exact .nil _
  | cons h1 h2 h3 => exact .cons h1 h2 (by omega)
theorem Lv.append {l2 : List (TypeId × Kd)} {c2 : List Value} {b2 : Nat} (h' : Lv enc P w sp B l2 c2 b2) : ∀ {l1 : List (TypeId × Kd)} {c1 : List Value} {b1 : Nat}, Lv enc P w sp B l1 c1 b1 → Lv enc P w sp B (l1 ++ l2) (c1 ++ c2) (b1 + b2) := by
  intro l1 c1 b1 h
  induction h with
  | nil b => exact h'.mono (by omega)
  | cons h1 h2 h3 ih => exact .cons h1 ih (by omega)
theorem Lv.rowOk {ls : List (TypeId × Kd)} {cs : List Value} {b : Nat} (h : Lv enc P w sp B ls cs b) : rowOk (ls.map (·.2)) cs := by
  induction h with
  | nil => trivial
  | cons h1 h2 h3 ih => exact ⟨h1.1, ih⟩

theorem leavesL_ok {g : TypeId → Option (List (TypeId × Kd))} {cs : List Value} {n : Nat} (hg : ∀ t l cs x, g t = some l → DataW.trod enc P w 0 sp true n t cs = some x → Lv enc P w sp B l cs (B x.1)) :
    ∀ {fs : List Field} {xs : List (DataW H × List MemPlace)} {off : Nat} {l : List (TypeId × Kd)}, leavesL P g fs off = some l → xs.length = fs.length →
      (∀ (i : Nat) (f : Field), fs[i]? = some f → DataW.trod enc P w 0 sp true n f.type ((cs.drop f.offset).take (P.cellsOf f.type)) = xs[i]?) → off + l.length ≤ cs.length →
      Lv enc P w sp B l ((cs.drop off).take l.length) ((xs.map fun x => B x.1).sum)
  | [], [], off, l, h, _, _, _ => by simp [leavesL] at h; subst h; simp; exact .nil _
  | f :: fs, [], off, l, h, hl, _, _ => by simp at hl
  | [], x :: xs, off, l, h, hl, _, _ => by simp at hl
  | f :: fs, x :: xs, off, l, h, hl, hx, hc => by
    simp only [leavesL, Option.bind_eq_bind, Option.bind_eq_some_iff, Option.ite_none_right_eq_some, Option.some.injEq] at h
    obtain ⟨l1, h1, l2, h2, ⟨ho, hcs⟩, rfl⟩ := h
    have hx0 := hx 0 f rfl
    simp only [List.getElem?_cons_zero] at hx0
    rw [ho, hcs] at hx0
    have i1 := hg _ _ _ _ h1 hx0
    simp only [List.length_append] at hc
    have i2 := leavesL_ok hg (xs := xs) h2 (by simpa using hl) (fun i f' hf => by have := hx (i + 1) f' (by simpa using hf); simpa using this) (by omega)
    have e : (cs.drop off).take (l1 ++ l2).length = (cs.drop off).take l1.length ++ (cs.drop (off + l1.length)).take l2.length := by
      rw [List.length_append, ← List.drop_drop, List.take_add]
    rw [e]
    exact i2.append i1
theorem leaves_ok (hB : Bulk B) : ∀ (f : Nat) {t : TypeId} {l : List (TypeId × Kd)} {n : Nat} {cs : List Value} {x : DataW H × List MemPlace}, leaves P f t = some l → DataW.trod enc P w 0 sp true n t cs = some x → Lv enc P w sp B l cs (B x.1)
  | 0, t, l, n, cs, x, h, _ => by simp [leaves] at h
  | f + 1, t, l, n, cs, x, h, hx => by
    simp only [leaves] at h
    have one : ∀ (k : Kd) (c : Value), cs = [c] → k.ok c → Lv enc P w sp B [(t, k)] cs (B x.1) := fun k c hc hk => by
      subst hc
      exact .cons ⟨hk, n, x.1, x.2, hx, Nat.le_refl _⟩ (.nil 0) (by omega)
    split at h
    · rename_i hu
      simp at h; subst h
      obtain ⟨b, rfl, -⟩ := DataW.trod_bool hu hx
      exact one _ _ rfl ⟨b, rfl⟩
    · rename_i k hu
      simp at h; subst h
      obtain ⟨m, rfl, -⟩ := DataW.trod_int hu hx
      exact one _ _ rfl ⟨m, rfl⟩
    · rename_i hu
      simp at h; subst h
      obtain ⟨⟨⟨s⟩⟩, rfl, -⟩ := DataW.trod_string hu hx
      exact one _ _ rfl ⟨s, rfl⟩
    · rename_i e hu
      simp at h; subst h
      rcases DataW.trod_slice hu hx with ⟨rfl, -⟩ | ⟨a, len, cap, elems, rest, m, -, rfl, -⟩
      · exact one _ _ rfl rfl
      · exact one _ _ rfl rfl
    · rename_i fs hu
      split at h
      · rename_i l' hl
        split at h
        · rename_i hc
          simp at h; subst h
          obtain ⟨xs, m, rfl, rfl, hcl, hxl, hf⟩ := DataW.trod_struct hu hx
          have := leavesL_ok (cs := cs) (fun t l cs x => leaves_ok hB f (t := t) (l := l) (n := m) (cs := cs) (x := x)) hl (by simpa using hxl) (fun i f hi => hf i f (by simpa using hi)) (by omega)
          rw [List.drop_zero, List.take_of_length_le (by omega)] at this
          refine this.mono ?_
          have := hB.agg (xs.map (·.1))
          rw [List.map_map] at this
          exact this
        · cases h
      · cases h
    · cases h

/-- A slice's rows. -/
theorem slice_rd (hB : Bulk B) {f n : Nat} {t e : TypeId} {ls : List (TypeId × Kd)} {v : Value} {x : DataW H × List MemPlace} (hu : P.underlying t = some (.slice e)) (hl : leaves P f e = some ls) (hc : P.cellsOf e = ls.length) (hpos : 0 < ls.length)
    (hx : DataW.trod enc P w 0 sp true n t [v] = some x) :
    ∃ (rows : List (List Value)) (bs : List Nat), reads w v (ls.map (·.2)) rows ∧ bs.length = rows.length ∧ (∀ (i : Nat) r b, rows[i]? = some r → bs[i]? = some b → Lv enc P w sp B ls r b) ∧ bs.sum + 1 ≤ B x.1 := by
  rcases DataW.trod_slice hu hx with ⟨hv, rfl⟩ | ⟨a, len, cap, elems, rest, m, -, hv, rfl, -, hlc, hcm, hel, hget, -⟩
  · simp only [List.cons.injEq, and_true] at hv; subst hv
    exact ⟨[], [], ⟨by simp, none, 0, rfl, ⟨fun _ => rfl, by simp⟩, by simp⟩, rfl, by simp, by simpa using hB.one _⟩
  · simp only [List.cons.injEq, and_true] at hv; subst hv
    rw [hc] at hget
    have hrow : ∀ i, i < len → ∃ r y, w.cells? 0 (a.add (i * ls.length)) ls.length = some r ∧ elems[i]? = some y ∧ DataW.trod enc P w 0 sp true m e r = some y := fun i hi => by
      have h1 := hget i hi
      have h2 : elems[i]? = some (elems[i]'(by omega)) := List.getElem?_eq_getElem (by omega)
      rw [h2, Option.bind_eq_some_iff] at h1
      obtain ⟨r, h3, h4⟩ := h1
      exact ⟨r, _, h3, h2, h4⟩
    let rows := (List.range len).map fun i => (w.cells? 0 (a.add (i * ls.length)) ls.length).getD []
    have hrl : rows.length = len := by simp [rows]
    have hri : ∀ i, i < len → ∃ r y, rows[i]? = some r ∧ w.cells? 0 (a.add (i * ls.length)) ls.length = some r ∧ elems[i]? = some y ∧ Lv enc P w sp B ls r (B y.1) := fun i hi => by
      obtain ⟨r, y, h1, h2, h3⟩ := hrow i hi
      exact ⟨r, y, by simp [rows, List.getElem?_range hi, h1], h1, h2, leaves_ok hB f hl h3⟩
    have hlen : ∀ r ∈ rows, r.length = (ls.map (·.2)).length ∧ rowOk (ls.map (·.2)) r := fun r hr => by
      obtain ⟨i, hi, hri'⟩ := List.getElem_of_mem hr
      obtain ⟨r', y, h1, h2, h3, h4⟩ := hri i (by omega)
      rw [List.getElem?_eq_getElem hi, hri'] at h1
      simp at h1; subst h1
      exact ⟨h4.rowOk.length, h4.rowOk⟩
    refine ⟨rows, elems.map fun y => B y.1, ⟨fun r hr => (hlen r hr).2, some a, cap, by rw [hrl], ⟨(fun h => by cases h), by omega⟩, fun hne => ⟨a, rfl, fun j u hj => ?_⟩⟩, by simp [hrl, hel], fun i r b hr hb => ?_, ?_⟩
    · have hL : (ls.map (·.2)).length = ls.length := by simp
      have hfl := flatten_length (fun r hr => (hlen r hr).1)
      have hjl : j < rows.length * ls.length := by
        have := (List.getElem?_eq_some_iff.1 hj).1
        rw [hfl, hL] at this; exact this
      have hi : j / ls.length < len := by rw [← hrl]; exact Nat.div_lt_of_lt_mul (by rw [Nat.mul_comm]; exact hjl)
      obtain ⟨r, y, h1, h2, h3, h4⟩ := hri _ hi
      have hk := Nat.mod_lt j hpos
      have hjj : j = j / ls.length * ls.length + j % ls.length := by rw [Nat.mul_comm]; exact (Nat.div_add_mod j _).symm
      have := flatten_get (fun r hr => by rw [← hL]; exact (hlen r hr).1) (i := j / ls.length) (c := j % ls.length) hk
      rw [← hjj, hj, h1] at this
      obtain ⟨c1, c2⟩ := World.cells?_some h2
      have c3 := c2.2 _ hk
      rw [add_add', ← hjj] at c3
      rw [c3]
      exact this.symm
    · obtain ⟨r', y, h1, h2, h3, h4⟩ := hri i (by rw [← hrl]; exact (List.getElem?_eq_some_iff.1 hr).1)
      rw [h1] at hr; simp at hr; subst hr
      rw [List.getElem?_map, h3] at hb
      simp at hb; subst hb
      exact h4
    · have := hB.slice (elems.map (·.1)) (rest.map (·.1))
      rw [List.map_map] at this
      exact this
theorem open_slice {r : Reach} {b0 base : Nat} {held : Bool} {t e : TypeId} {v : Value} {d : DataW H} {ps : List MemPlace} (ht : P.underlying t = some (.slice e)) (hval : Value.okWide P w r b0 t v) (hd : DataW.Trod enc P w base sp held t v d ps) :
    ∃ n, DataW.trod enc P w base sp held n t [v] = some (d, ps) := by
  obtain ⟨n, hd⟩ := hd
  refine ⟨n, ?_⟩
  have : v.cells.toList = [v] := by
    simp only [Value.okWide, ht, Cell.okWide] at hval
    cases v <;> first | rfl | (simp [Cell.ok] at hval)
  rw [← this]; exact hd
theorem open_struct {r : Reach} {b0 base : Nat} {held : Bool} {t : TypeId} {fs : Array Field} {v : Value} {d : DataW H} {ps : List MemPlace} (ht : P.underlying t = some (.struct fs)) (hval : Value.okWide P w r b0 t v) (hd : DataW.Trod enc P w base sp held t v d ps) :
    ∃ (cs : List Value) (n : Nat), v = .agg cs.toArray ∧ DataW.trod enc P w base sp held n t cs = some (d, ps) := by
  obtain ⟨n, hd⟩ := hd
  simp only [Value.okWide, ht] at hval
  obtain ⟨cs, rfl, -⟩ := hval
  exact ⟨cs.toList, n, by simp, by simpa [Value.cells] using hd⟩

theorem sum_le {α : Type} {g : α → Nat} : ∀ {rows : List α} {bs : List Nat}, bs.length = rows.length → (∀ (i : Nat) r b, rows[i]? = some r → bs[i]? = some b → g r ≤ b) → (rows.map g).sum ≤ bs.sum
  | [], [], _, _ => by simp
  | r :: rows, b :: bs, hl, h => by
    have h0 := h 0 r b rfl rfl
    have := sum_le (rows := rows) (bs := bs) (by simpa using hl) (fun i r' b' hr hb => h (i + 1) r' b' (by simpa using hr) (by simpa using hb))
    simp only [List.map_cons, List.sum_cons]; omega
  | [], _ :: _, hl, _ => by simp at hl
  | _ :: _, [], hl, _ => by simp at hl
/-- There are no more rows than values. -/
theorem rows_le (hB : Bulk B) {ls : List (TypeId × Kd)} (h0 : ls ≠ []) {rows : List (List Value)} {bs : List Nat} (hl : bs.length = rows.length) (h : ∀ (i : Nat) r b, rows[i]? = some r → bs[i]? = some b → Lv enc P w sp B ls r b) : rows.length ≤ bs.sum := by
  have := sum_le (g := fun _ : List Value => 1) hl (fun i r b hr hb => by
    cases h i r b hr hb with
    | nil b => exact absurd rfl h0
    | cons h1 h2 h3 => obtain ⟨-, n, d, q, -, h5⟩ := h1; have := hB.one d; omega)
  have e : (rows.map fun _ => 1).sum = rows.length := by
    clear hl h this
    induction rows with
    | nil => rfl
    | cons r rows ih => simp only [List.map_cons, List.sum_cons, List.length_cons, ih]; omega
  omega
/-- A text's cell. -/
theorem CellRd.str (hB : Bulk B) {t : TypeId} (ht : P.underlying t = some .string) {s : List UInt8} {b : Nat} (h : CellRd enc P w sp B (t, .str) (.string ⟨s.toArray⟩) b) : s.length + 1 ≤ b := by
  obtain ⟨-, n, d, ps, h1, h2⟩ := h
  obtain ⟨s', h3, h4⟩ := DataW.trod_string ht h1
  simp only [List.cons.injEq, Value.string.injEq, and_true] at h3
  subst h3
  simp only [Prod.mk.injEq] at h4
  obtain ⟨⟨rfl, -⟩, -⟩ := h4
  have := hB.str s
  omega
theorem CellRd.int {t : TypeId} {k : IntKind} (ht : P.underlying t = some (.int k)) {n : Int} {b : Nat} (h : CellRd enc P w sp B (t, .int k) (.int k n) b) : (Lit.int k n).wf = true := by
  obtain ⟨-, m, d, ps, h1, h2⟩ := h
  cases m with
  | zero => simp [DataW.trod] at h1
  | succ m =>
    unfold DataW.trod at h1
    rw [ht] at h1
    simp only [] at h1
    split at h1
    · rename_i hw; exact hw.2
    · cases h1
end
end Go.Sx

/-
  What a reading of wants tells. By an AI agent.
-/
set_option linter.unusedSimpArgs false
set_option linter.unusedVariables false
namespace Go.Proofs.YtliedecinehijaaGreatDoor
open Go Go.Sx Go.ChangeShapes Go.WideShapes Go.ChangeAt Go.RowKit
section
variable {H : Type} {enc : TypeId × Value → H} {w : World} {sp : Nat → Bool} {B : DataW H → Nat}
def isStruct (P : Program) (t : TypeId) : Bool := match P.underlying t with | some (.struct _) => true | _ => false
theorem open_struct' {P : Program} {r : Reach} {b0 base : Nat} {held : Bool} {t : TypeId} {v : Value} {d : DataW H} {ps : List MemPlace} (ht : isStruct P t = true) (hval : Value.okWide P w r b0 t v) (hd : DataW.Trod enc P w base sp held t v d ps) :
    ∃ (cs : List Value) (n : Nat), v = .agg cs.toArray ∧ DataW.trod enc P w base sp held n t cs = some (d, ps) := by
  unfold isStruct at ht
  split at ht
  · exact open_struct (by assumption) hval hd
  · cases ht
theorem lv_ask (hB : Bulk B) {cs : List Value} {b : Nat} (h : Lv enc Tryz.prog w sp B [(9, .str), (3, .int .i64)] cs b) : ∃ (f : List UInt8) (q : Int), Value.agg cs.toArray = .agg #[.string ⟨f.toArray⟩, .int .i64 q] ∧ f.length ≤ b := by
  cases h with
  | cons c1 h e1 =>
  cases h with
  | cons c2 h e2 =>
  cases h
  obtain ⟨p, rfl⟩ := c1.1
  obtain ⟨n, rfl⟩ := c2.1
  have q1 := CellRd.str hB Tryz.underlying9 c1
  exact ⟨p, n, rfl, by omega⟩
theorem lv_want (hB : Bulk B) {cs : List Value} {b : Nat} (h : Lv enc Tryz.prog w sp B [(9, .str), (9, .str), (3, .int .i64)] cs b) : ∃ o : Wt, cs = encW o ∧ o.1.length + o.2.1.length + 1 ≤ b := by
  cases h with
  | cons c1 h e1 =>
  cases h with
  | cons c2 h e2 =>
  cases h with
  | cons c3 h e3 =>
  cases h
  obtain ⟨p, rfl⟩ := c1.1
  obtain ⟨t, rfl⟩ := c2.1
  obtain ⟨n, rfl⟩ := c3.1
  have q1 := CellRd.str hB Tryz.underlying9 c1
  have q2 := CellRd.str hB Tryz.underlying9 c2
  exact ⟨(p, t, n), rfl, by simp only; omega⟩
theorem rows_V (hB : Bulk B) : ∀ {rows : List (List Value)} {bs : List Nat}, bs.length = rows.length → (∀ (i : Nat) r b, rows[i]? = some r → bs[i]? = some b → Lv enc Tryz.prog w sp B [(9, .str), (9, .str), (3, .int .i64)] r b) →
    ∃ l : List Wt, rows = l.map encW ∧ ∀ x ∈ l, x.1.length ≤ bs.sum ∧ x.2.1.length ≤ bs.sum := by
  intro rows
  induction rows with
  | nil => exact fun _ _ => ⟨[], rfl, by simp⟩
  | cons r rows ih =>
    intro bs hl h
    match bs, hl with
    | b :: bs, hl =>
      obtain ⟨l, e, hb⟩ := ih (bs := bs) (by simpa using hl) (fun i r' b' h1 h2 => h (i + 1) r' b' (by simpa using h1) (by simpa using h2))
      obtain ⟨o, rfl, hob⟩ := lv_want hB (h 0 r b rfl rfl)
      refine ⟨o :: l, by rw [e]; rfl, ?_⟩
      intro x hx
      rw [List.sum_cons]
      rcases List.mem_cons.1 hx with rfl | hx
      · omega
      · have := hb x hx; omega
end
end Go.Proofs.YtliedecinehijaaGreatDoor
