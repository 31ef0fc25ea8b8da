/-
  What is kept: the calls; what the reference puts and lists. By an AI agent.
-/
import Derived.Test.YtkalmhdckoocbaaDoorPc
set_option linter.unusedSimpArgs false
set_option linter.unusedVariables false
namespace Go.Proofs.YtkalmhdckoocbaaDoor
open Go.Sx

theorem newK_le {n m : Nat} {x : Value} (h : newK m x) (hm : n ≤ m) : newK n x := fun k hk => Nat.le_trans hm (h k hk)
def putE (l : List Kp) (n : List UInt8) : Int := if chkK l = 0 then chkT n false else chkK l
def putC (l : List Kp) (n p : List UInt8) : List Kp × Int := if putE l n = 0 then rawK l n p else ([], putE l n)
def getC (l : List Kp) (n : List UInt8) : Kp × Int := if putE l n = 0 then (if hasK l n = true then (l.getD (idx l n) kD, 0) else (kD, 5)) else (kD, putE l n)
def forF (f : List UInt8) (k : Kp) : Bool := mt (lev f) (lev k.1)
def listE (l : List Kp) (f : List UInt8) : Int := if chkK l = 0 then chkT f true else chkK l
def listC (l : List Kp) (f : List UInt8) : List Kp × Int := if listE l f = 0 then (l.filter (forF f), 0) else ([], listE l f)
set_option maxHeartbeats 1000000 in
theorem c_Put (w : World) (v : Value) (l : List Kp) (n p : List UInt8) (hv : readsK w v l) (hs : smallK l) (hl : l.length < 1000000000) (hn : n.length < 4294967281) : Calls Tryd.prog 50 #[sc1 v, .string ⟨n.toArray⟩, .string ⟨p.toArray⟩] w
    fun e w' => gotK w w' e (putC l n p).1 (putC l n p).2 := by
  refine as_called (run_tree2 (ρ := [.v v, .r (l.map encK), .s n, .s p]) sxE_ok Tryd.func50 tree_keep_Put rfl rfl (Rel.start2 (by simp [Ent.holds, Ent.wr, hv, X.ev])) rfl rfl ?_) rfl
  simp only [Tree.goal, X.P, X.ev, V.toI_i, V.toB_b, V.toS_s, V.toR_r, V.toV_v, V.toN_n, V.toL_l, SV.ev, CV.ev, Sc.ev, List.getD_cons_zero, List.getD_cons_succ, List.getElem?_cons_zero, List.getElem?_cons_succ, List.map_cons, List.map_nil, List.length_cons, List.length_nil, List.cons_append, List.nil_append, Nat.zero_add, Nat.reduceAdd, List.length_map, Int.toNat_natCast, gK0, gK1, gK2]
  refine ⟨[.i (chkK l)], rfl, fun _ w' hr => c_CheckK w' v l (hr.at_ 1 rfl) hs hl, ?_⟩
  simp only [Tree.goal, X.P, X.ev, V.toI_i, V.toB_b, V.toS_s, V.toR_r, V.toV_v, V.toN_n, V.toL_l, SV.ev, CV.ev, Sc.ev, List.getD_cons_zero, List.getD_cons_succ, List.getElem?_cons_zero, List.getElem?_cons_succ, List.map_cons, List.map_nil, List.length_cons, List.length_nil, List.cons_append, List.nil_append, Nat.zero_add, Nat.reduceAdd, List.length_map, Int.toNat_natCast, gK0, gK1, gK2]
  refine ⟨fun h w' hr => ?_, fun h => ?_⟩
  · have e : putE l n = chkK l := by rw [putE, if_neg h]
    rw [putC, e, if_neg h]
    exact ⟨_, rfl, readsK_nil _, newK_nil _, hr.mod⟩
  have h : chkK l = 0 := Classical.not_not.1 h
  refine ⟨[.i (chkT n false)], rfl, fun _ w' hr => c_Name w' n hn, ?_⟩
  simp only [Tree.goal, X.P, X.ev, V.toI_i, V.toB_b, V.toS_s, V.toR_r, V.toV_v, V.toN_n, V.toL_l, SV.ev, CV.ev, Sc.ev, List.getD_cons_zero, List.getD_cons_succ, List.getElem?_cons_zero, List.getElem?_cons_succ, List.map_cons, List.map_nil, List.length_cons, List.length_nil, List.cons_append, List.nil_append, Nat.zero_add, Nat.reduceAdd, List.length_map, Int.toNat_natCast, gK0, gK1, gK2]
  refine ⟨fun h1 w' hr => ?_, fun h1 w1 hr => ?_⟩
  · have e : putE l n = chkT n false := by rw [putE, if_pos h]
    rw [putC, e, if_neg h1]
    exact ⟨_, rfl, readsK_nil _, newK_nil _, hr.mod⟩
  · have h1 : chkT n false = 0 := Classical.not_not.1 h1
    have e : putE l n = 0 := by rw [putE, if_pos h, h1]
    rw [putC, if_pos e]
    refine (c_RawK w1 v l n p (hr.at_ 1 rfl) h).mono ?_
    rintro e w2 ⟨v', rfl, g1, g2, gm⟩
    refine ⟨[.v v', .r ((rawK l n p).1.map encK), .i (rawK l n p).2], rfl, rfl, gm, List.forall_mem_nil _, List.forall_mem_cons.2 ⟨⟨g1, fun k hk => .inl (g2 k hk.2)⟩, List.forall_mem_nil _⟩, apart_one, ?_⟩
    intro w3 hr3
    exact ⟨v', rfl, hr3.at_ 0 rfl, newK_le g2 hr.mod.size, hr3.mod⟩
set_option maxHeartbeats 1000000 in
theorem c_Get (w : World) (v : Value) (l : List Kp) (n : List UInt8) (hv : readsK w v l) (hs : smallK l) (hl : l.length < 1000000000) (hn : n.length < 4294967281) : Calls Tryd.prog 51 #[sc1 v, .string ⟨n.toArray⟩] w
    fun e w' => e = .returned (.tuple #[.agg (encK (getC l n).1).toArray, .int .i64 (getC l n).2]) ∧ Mod [] w w' := by
  refine as_called (run_tree2 (ρ := [.v v, .r (l.map encK), .s n]) sxE_ok Tryd.func51 tree_keep_Get rfl rfl (Rel.start2 (by simp [Ent.holds, Ent.wr, hv, X.ev])) rfl rfl ?_) rfl
  simp only [Tree.goal, X.P, X.ev, V.toI_i, V.toB_b, V.toS_s, V.toR_r, V.toV_v, V.toN_n, V.toL_l, SV.ev, CV.ev, Sc.ev, List.getD_cons_zero, List.getD_cons_succ, List.getElem?_cons_zero, List.getElem?_cons_succ, List.map_cons, List.map_nil, List.length_cons, List.length_nil, List.cons_append, List.nil_append, Nat.zero_add, Nat.reduceAdd, List.length_map, Int.toNat_natCast, gK0, gK1, gK2]
  intro b
  refine ⟨[.i (chkK l)], rfl, fun _ w' hr => c_CheckK w' v l (hr.at_ 1 rfl) hs hl, ?_⟩
  simp only [Tree.goal, X.P, X.ev, V.toI_i, V.toB_b, V.toS_s, V.toR_r, V.toV_v, V.toN_n, V.toL_l, SV.ev, CV.ev, Sc.ev, List.getD_cons_zero, List.getD_cons_succ, List.getElem?_cons_zero, List.getElem?_cons_succ, List.map_cons, List.map_nil, List.length_cons, List.length_nil, List.cons_append, List.nil_append, Nat.zero_add, Nat.reduceAdd, List.length_map, Int.toNat_natCast, gK0, gK1, gK2]
  refine ⟨fun h w' hr => ⟨?_, hr.mod⟩, fun h => ?_⟩
  · have e : putE l n = chkK l := by rw [putE, if_neg h]
    rw [getC, e, if_neg h]; rfl
  have h : chkK l = 0 := Classical.not_not.1 h
  refine ⟨[.i (chkT n false)], rfl, fun _ w' hr => c_Name w' n hn, ?_⟩
  simp only [Tree.goal, X.P, X.ev, V.toI_i, V.toB_b, V.toS_s, V.toR_r, V.toV_v, V.toN_n, V.toL_l, SV.ev, CV.ev, Sc.ev, List.getD_cons_zero, List.getD_cons_succ, List.getElem?_cons_zero, List.getElem?_cons_succ, List.map_cons, List.map_nil, List.length_cons, List.length_nil, List.cons_append, List.nil_append, Nat.zero_add, Nat.reduceAdd, List.length_map, Int.toNat_natCast, gK0, gK1, gK2]
  refine ⟨fun h1 w' hr => ⟨?_, hr.mod⟩, fun h1 => ?_⟩
  · have e : putE l n = chkT n false := by rw [putE, if_pos h]
    rw [getC, e, if_neg h1]; rfl
  · have h1 : chkT n false = 0 := Classical.not_not.1 h1
    have e : putE l n = 0 := by rw [putE, if_pos h, h1]
    rw [getC, if_pos e]
    refine ⟨[.i (idx l n), .b (hasK l n)], rfl, fun _ w' hr => c_Find w' v l n (hr.at_ 1 rfl) (chkK_iff.1 h).2.2 hl, ?_⟩
    simp only [Tree.goal, X.P, X.ev, V.toI_i, V.toB_b, V.toS_s, V.toR_r, V.toV_v, V.toN_n, V.toL_l, SV.ev, CV.ev, Sc.ev, List.getD_cons_zero, List.getD_cons_succ, List.getElem?_cons_zero, List.getElem?_cons_succ, List.map_cons, List.map_nil, List.length_cons, List.length_nil, List.cons_append, List.nil_append, Nat.zero_add, Nat.reduceAdd, List.length_map, Int.toNat_natCast, gK0, gK1, gK2]
    refine ⟨fun h2 w' hr => ⟨?_, hr.mod⟩, fun h2 => ?_⟩
    · rw [if_neg h2]; rfl
    · have h2 : hasK l n = true := Classical.not_not.1 h2
      have := (of_decide_eq_true h2).1
      refine ⟨by omega, by omega, fun w' hr => ⟨?_, hr.mod⟩⟩
      rw [if_pos h2]; rfl
theorem c_KeptAt (w : World) (v : Value) (l : List Kp) (n : List UInt8) (hv : readsK w v l) (hs : sortK l) (hl : l.length < 1000000000) : Calls Tryd.prog 55 #[sc1 v, .string ⟨n.toArray⟩] w
    fun e w' => e = .returned (.int .i64 (if hasK l n = true then (idx l n : Int) else -1)) ∧ Mod [] w w' := by
  have key : ∀ i, i < l.length → (l.getD i kD).1 = n → i = idx l n := by
    intro i hi he
    refine idx_uniq (by omega) (fun j hj => ?_) (fun j hj1 hj2 => ?_)
    · rw [← he]; exact sortK_at hs hj hi
    · rw [← he]
      by_cases hji : j = i
      · rw [hji]; exact ltB_irr _
      · exact ltB_asym (sortK_at hs (by omega) hj2)
  refine as_called (run_tree2 (ρ := [.v v, .r (l.map encK), .s n]) sxE_ok Tryd.func55 tree_dragomanref_KeptAt rfl rfl (Rel.start2 (by simp [Ent.holds, Ent.wr, hv, X.ev])) rfl rfl ?_) rfl
  simp only [Tree.goal, X.P, X.ev, V.toI_i, V.toB_b, V.toS_s, V.toR_r, V.toV_v, V.toN_n, V.toL_l, SV.ev, CV.ev, Sc.ev, List.getD_cons_zero, List.getD_cons_succ, List.getElem?_cons_zero, List.getElem?_cons_succ, List.map_cons, List.map_nil, List.length_cons, List.length_nil, List.cons_append, List.nil_append, Nat.zero_add, Nat.reduceAdd, List.length_map, Int.toNat_natCast, gK0, gK1, gK2]
  refine ⟨fun vs => ∃ (i : Nat) (x : V), vs = [x, .i i] ∧ i ≤ l.length ∧ ∀ j, j < i → ¬ (l.getD j kD).1 = n, fun vs => l.length - (vs.getD 1 (.i 0)).toI.toNat, ⟨0, _, rfl, by omega, fun j hj => by omega⟩, ?_⟩
  rintro _ - ⟨i, x, rfl, hi, hno⟩
  simp only [Tree.goal, X.P, X.ev, V.toI_i, V.toB_b, V.toS_s, V.toR_r, V.toV_v, V.toN_n, V.toL_l, SV.ev, CV.ev, Sc.ev, List.getD_cons_zero, List.getD_cons_succ, List.getElem?_cons_zero, List.getElem?_cons_succ, List.map_cons, List.map_nil, List.length_cons, List.length_nil, List.cons_append, List.nil_append, Nat.zero_add, Nat.reduceAdd, List.length_map, Int.toNat_natCast, gK0, gK1, gK2]
  refine ⟨fun h1 => ⟨by omega, fun h2 w' hr => ⟨?_, hr.mod⟩, fun h2 => ⟨by omega, by omega, ⟨i + 1, x, rfl, by omega, fun j hj => ?_⟩, by omega⟩⟩, fun h1 w' hr => ⟨?_, hr.mod⟩⟩
  · have e := key i (by omega) h2
    have : hasK l n = true := by rw [hasK, ← e]; exact decide_eq_true ⟨by omega, h2⟩
    rw [if_pos this, ← e]
  · by_cases hji : j = i
    · rw [hji]; exact h2
    · exact hno j (by omega)
  · have : ¬ hasK l n = true := fun h => by
      obtain ⟨h3, h4⟩ := of_decide_eq_true h
      exact hno (idx l n) (by omega) h4
    rw [if_neg this]
theorem c_SameKept (w : World) (u v : Value) (a b : List Kp) (hu : readsK w u a) (hv : readsK w v b) (hl : a.length < 1000000000) : Calls Tryd.prog 99 #[sc1 u, sc1 v] w
    fun e w' => e = .returned (.bool (decide (a = b))) ∧ Mod [] w w' := by
  refine as_called (run_tree2 (ρ := [.v u, .r (a.map encK), .v v, .r (b.map encK)]) sxE_ok Tryd.func99 tree_dragomanref_SameKept rfl rfl (Rel.start2 (by simp [Ent.holds, Ent.wr, hu, hv, X.ev])) rfl rfl ?_) rfl
  simp only [Tree.goal, X.P, X.ev, V.toI_i, V.toB_b, V.toS_s, V.toR_r, V.toV_v, V.toN_n, V.toL_l, SV.ev, CV.ev, Sc.ev, List.getD_cons_zero, List.getD_cons_succ, List.getElem?_cons_zero, List.getElem?_cons_succ, List.map_cons, List.map_nil, List.length_cons, List.length_nil, List.cons_append, List.nil_append, Nat.zero_add, Nat.reduceAdd, List.length_map]
  refine ⟨fun h w' hr => ⟨?_, hr.mod⟩, fun h => ?_⟩
  · rw [decide_eq_false]
    intro e; rw [e] at h; exact h rfl
  · have hlen : a.length = b.length := by omega
    refine ⟨fun vs => ∃ (i : Nat) (x : V), vs = [x, .i i] ∧ i ≤ a.length ∧ ∀ j, j < i → a.getD j kD = b.getD j kD, fun vs => a.length - (vs.getD 1 (.i 0)).toI.toNat, ⟨0, _, rfl, by omega, fun j hj => by omega⟩, ?_⟩
    rintro _ - ⟨i, x, rfl, hi, hall⟩
    simp only [Tree.goal, X.P, X.ev, V.toI_i, V.toB_b, V.toS_s, V.toR_r, V.toV_v, V.toN_n, V.toL_l, SV.ev, CV.ev, Sc.ev, List.getD_cons_zero, List.getD_cons_succ, List.getElem?_cons_zero, List.getElem?_cons_succ, List.map_cons, List.map_nil, List.length_cons, List.length_nil, List.cons_append, List.nil_append, Nat.zero_add, Nat.reduceAdd, List.length_map, Int.toNat_natCast, gK0, gK1, gK2]
    refine ⟨fun h7 => ⟨by omega, by omega, fun h8 w' hr => ⟨?_, hr.mod⟩, fun h8 => ⟨by omega, by omega, ⟨i + 1, x, rfl, by omega, fun j hj => ?_⟩, by omega⟩⟩, fun h7 w' hr => ⟨?_, hr.mod⟩⟩
    · rw [decide_eq_false]
      intro e
      rw [e] at h8
      exact h8 ⟨rfl, rfl, rfl⟩
    · by_cases hji : j = i
      · subst hji
        have h9 := Classical.not_not.1 h8
        exact Prod.ext h9.1 (Prod.ext h9.2.1 h9.2.2)
      · exact hall j (by omega)
    · rw [decide_eq_true]
      refine List.ext_getElem? fun j => ?_
      by_cases hj : j < a.length
      · have := hall j (by omega)
        rw [List.getD_eq_getElem?_getD, List.getD_eq_getElem?_getD, List.getElem?_eq_getElem hj, List.getElem?_eq_getElem (by omega)] at this
        rw [List.getElem?_eq_getElem hj, List.getElem?_eq_getElem (by omega)]
        simpa using this
      · rw [List.getElem?_eq_none (by omega), List.getElem?_eq_none (by omega)]
theorem c_kAre (w : World) (u v : Value) (a b : List Kp) (e f : Int) (hu : readsK w u a) (hv : readsK w v b) (hl : a.length < 1000000000) (h1 : e = f) (h2 : a = if f = 0 then b else []) : Calls Tryd.prog 59 #[sc1 u, .int .i64 e, .int .i64 f, sc1 v] w
    fun e' w' => e' = .returned (.bool true) ∧ Mod [] w w' := by
  refine as_called (run_tree2 (ρ := [.v u, .r (a.map encK), .i e, .i f, .v v, .r (b.map encK)]) sxE_ok Tryd.func59 tree_dragomanlaw_keptAre rfl rfl (Rel.start2 (by simp [Ent.holds, Ent.wr, hu, hv, X.ev])) rfl rfl ?_) rfl
  simp only [Tree.goal, X.P, X.ev, V.toI_i, V.toB_b, V.toS_s, V.toR_r, V.toV_v, V.toN_n, V.toL_l, SV.ev, CV.ev, Sc.ev, List.getD_cons_zero, List.getD_cons_succ, List.getElem?_cons_zero, List.getElem?_cons_succ, List.map_cons, List.map_nil, List.length_cons, List.length_nil, List.cons_append, List.nil_append, Nat.zero_add, Nat.reduceAdd]
  refine ⟨fun h => ?_, fun h => ?_⟩
  · rw [if_neg h] at h2
    refine ⟨[.b true], rfl, fun _ w' hr => ?_, ?_⟩
    · have := c_SameKept w' u (.slice none 0 0) a [] (hr.at_ 1 rfl) (readsK_nil _) hl
      rw [decide_eq_true h2] at this
      exact as_called this rfl
    simp only [Tree.goal, X.P, X.ev, V.toI_i, V.toB_b, V.toS_s, V.toR_r, V.toV_v, V.toN_n, V.toL_l, SV.ev, CV.ev, Sc.ev, List.getD_cons_zero, List.getD_cons_succ, List.getElem?_cons_zero, List.getElem?_cons_succ, List.map_cons, List.map_nil, List.length_cons, List.length_nil, List.cons_append, List.nil_append, Nat.zero_add, Nat.reduceAdd]
    exact fun w' hr => ⟨by simp [h1], hr.mod⟩
  · rw [if_pos (Classical.not_not.1 h)] at h2
    refine ⟨[.b true], rfl, fun _ w' hr => ?_, ?_⟩
    · have := c_SameKept w' u v a b (hr.at_ 0 rfl) (hr.at_ 1 rfl) hl
      rw [decide_eq_true h2] at this
      exact as_called this rfl
    simp only [Tree.goal, X.P, X.ev, V.toI_i, V.toB_b, V.toS_s, V.toR_r, V.toV_v, V.toN_n, V.toL_l, SV.ev, CV.ev, Sc.ev, List.getD_cons_zero, List.getD_cons_succ, List.getElem?_cons_zero, List.getElem?_cons_succ, List.map_cons, List.map_nil, List.length_cons, List.length_nil, List.cons_append, List.nil_append, Nat.zero_add, Nat.reduceAdd]
    exact fun w' hr => ⟨by simp [h1], hr.mod⟩

theorem filtK_snoc (p : Kp → Bool) (l : List Kp) (i : Nat) (h : i < l.length) : (l.take (i + 1)).filter p = (l.take i).filter p ++ (if p (l.getD i kD) = true then [l.getD i kD] else []) := by
  rw [takeK l i h, List.filter_append, List.filter_cons, List.filter_nil]
theorem getD_of_dropK {R l : List Kp} {j : Nat} (h : R.drop j = l.drop j) : R.getD j kD = l.getD j kD := by
  have e : ∀ q : List Kp, q.getD j kD = (q.drop j).getD 0 kD := fun q => by simp [List.getD_eq_getElem?_getD]
  rw [e R, e l, h]
theorem set_takeK {R : List Kp} {m : Nat} {x : Kp} (h : m < R.length) : (R.set m x).take (m + 1) = R.take m ++ [x] := by
  rw [List.take_set, takeK R m h, List.set_append_right _ _ (by simp; omega)]
  have : m - (R.take m).length = 0 := by simp; omega
  rw [this]; rfl
theorem set_dropK {R : List Kp} {m j : Nat} {x : Kp} (h : m < j) : (R.set m x).drop j = R.drop j := by rw [List.drop_set, if_pos h]
/-- What is kept comes. -/
def gotL (w w' : World) (e : Ending) (r : List Kp) : Prop := ∃ v', e = .returned (sc1 v') ∧ readsK w' v' r ∧ newK w.heap.size v' ∧ Mod [] w w'
set_option maxHeartbeats 2000000 in
theorem c_ForK (w : World) (v : Value) (l : List Kp) (f : List UInt8) (hv : readsK w v l) (hs : smallK l) (hl : l.length < 1000000000) (hf : f.length < 4294967281) : Calls Tryd.prog 96 #[sc1 v, .string ⟨f.toArray⟩] w
    fun e w' => gotL w w' e (l.filter (forF f)) := by
  refine as_called (run_tree2 (ρ := [.v v, .r (l.map encK), .s f]) sxE_ok Tryd.func96 tree_keep_For rfl rfl (Rel.start2 (by simp [Ent.holds, Ent.wr, hv, X.ev])) rfl rfl ?_) rfl
  simp only [Tree.goal, X.P, X.ev, V.toI_i, V.toB_b, V.toS_s, V.toR_r, V.toV_v, V.toN_n, V.toL_l, SV.ev, CV.ev, Sc.ev, List.getD_cons_zero, List.getD_cons_succ, List.getElem?_cons_zero, List.getElem?_cons_succ, List.map_cons, List.map_nil, List.length_cons, List.length_nil, List.cons_append, List.nil_append, Nat.zero_add, Nat.reduceAdd, List.length_map, Int.toNat_natCast, gK0, gK1, gK2]
  intro b1 w1 hr
  refine (c_CloneK w1 v l (hr.at_ 2 rfl) (by omega)).mono ?_
  rintro e w2 ⟨u, rfl, a1, f1, m1⟩
  refine ⟨[.v u, .r (l.map encK)], rfl, rfl, m1, List.forall_mem_nil _, List.forall_mem_cons.2 ⟨⟨a1, fun k hk => .inl (f1 k hk)⟩, List.forall_mem_nil _⟩, apart_one, ?_⟩
  clear hr a1 f1 m1
  simp only [Tree.goal, X.P, X.ev, V.toI_i, V.toB_b, V.toS_s, V.toR_r, V.toV_v, V.toN_n, V.toL_l, SV.ev, CV.ev, Sc.ev, List.getD_cons_zero, List.getD_cons_succ, List.getElem?_cons_zero, List.getElem?_cons_succ, List.map_cons, List.map_nil, List.length_cons, List.length_nil, List.cons_append, List.nil_append, Nat.zero_add, Nat.reduceAdd, List.length_map, Int.toNat_natCast, gK0, gK1, gK2]
  refine ⟨fun vs => ∃ (i : Nat) (x : V), vs = [x, .i i] ∧ i ≤ l.length ∧ (l.take i).filter (forF f) = l.take i, fun vs => l.length - (vs.getD 1 (.i 0)).toI.toNat, ⟨0, _, rfl, by omega, by simp⟩, ?_⟩
  rintro _ - ⟨i, x, rfl, hi, hall⟩
  simp only [Tree.goal, X.P, X.ev, V.toI_i, V.toB_b, V.toS_s, V.toR_r, V.toV_v, V.toN_n, V.toL_l, SV.ev, CV.ev, Sc.ev, List.getD_cons_zero, List.getD_cons_succ, List.getElem?_cons_zero, List.getElem?_cons_succ, List.map_cons, List.map_nil, List.length_cons, List.length_nil, List.cons_append, List.nil_append, Nat.zero_add, Nat.reduceAdd, List.length_map, Int.toNat_natCast, gK0, gK1, gK2]
  refine ⟨fun h1 => ⟨by omega, fun b2 => ?_⟩, fun h1 w3 hr => ?_⟩
  · refine ⟨[.b (forF f (l.getD i kD))], rfl, fun _ w' _ => c_For w' f _ hf (smallK_at hs i), ?_⟩
    simp only [Tree.goal, X.P, X.ev, V.toI_i, V.toB_b, V.toS_s, V.toR_r, V.toV_v, V.toN_n, V.toL_l, SV.ev, CV.ev, Sc.ev, List.getD_cons_zero, List.getD_cons_succ, List.getElem?_cons_zero, List.getElem?_cons_succ, List.map_cons, List.map_nil, List.length_cons, List.length_nil, List.cons_append, List.nil_append, Nat.zero_add, Nat.reduceAdd, List.length_map, Int.toNat_natCast, gK0, gK1, gK2]
    have hsn := filtK_snoc (forF f) l i (by omega)
    refine ⟨fun h2 => ⟨fun h3 => absurd h3 (by omega), fun h3 => ⟨by omega, by omega, ?_⟩⟩, fun h2 => ⟨by omega, by omega, ⟨i + 1, x, rfl, by omega, ?_⟩, by omega⟩⟩
    · rw [if_neg h2, List.append_nil] at hsn
      refine ⟨fun vs => ∃ (m j : Nat) (R : List Kp), vs = [.i m, .i j, .r (R.map encK)] ∧ R.length = l.length ∧ m < j ∧ j ≤ l.length ∧ R.take m = (l.take j).filter (forF f) ∧ R.drop j = l.drop j, fun vs => l.length - (vs.getD 1 (.i 0)).toI.toNat, ⟨i, i + 1, l, rfl, rfl, by omega, by omega, by rw [hsn, hall], rfl⟩, ?_⟩
      rintro _ - ⟨m, j, R, rfl, hRl, hmj, hj, htk, hdr⟩
      simp only [Tree.goal, X.P, X.ev, V.toI_i, V.toB_b, V.toS_s, V.toR_r, V.toV_v, V.toN_n, V.toL_l, SV.ev, CV.ev, Sc.ev, List.getD_cons_zero, List.getD_cons_succ, List.getElem?_cons_zero, List.getElem?_cons_succ, List.map_cons, List.map_nil, List.length_cons, List.length_nil, List.cons_append, List.nil_append, Nat.zero_add, Nat.reduceAdd, List.length_map, Int.toNat_natCast, gK0, gK1, gK2]
      refine ⟨fun h4 => ⟨by omega, fun b8 b9 => ?_⟩, fun h4 => ?_⟩
      · have hsn := filtK_snoc (forF f) l j (by omega)
        have hRj := getD_of_dropK hdr
        have hdr1 : R.drop (j + 1) = l.drop (j + 1) := by rw [← List.drop_drop, ← List.drop_drop, hdr]
        rw [hRj]
        refine ⟨[.b (forF f (l.getD j kD))], rfl, fun _ w' _ => c_For w' f _ hf (smallK_at hs j), ?_⟩
        simp only [Tree.goal, X.P, X.ev, V.toI_i, V.toB_b, V.toS_s, V.toR_r, V.toV_v, V.toN_n, V.toL_l, SV.ev, CV.ev, Sc.ev, List.getD_cons_zero, List.getD_cons_succ, List.getElem?_cons_zero, List.getElem?_cons_succ, List.map_cons, List.map_nil, List.length_cons, List.length_nil, List.cons_append, List.nil_append, Nat.zero_add, Nat.reduceAdd, List.length_map, Int.toNat_natCast, gK0, gK1, gK2, hRj]
        refine ⟨fun h5 => ?_, fun h5 => ?_⟩
        · rw [if_pos h5] at hsn
          refine ⟨by omega, by omega, by omega, by omega, by omega, by omega, ⟨m + 1, j + 1, R.set m (l.getD j kD), ?_, by simpa using hRl, by omega, by omega, ?_, ?_⟩, by omega⟩
          · rw [← set_rowK]; rfl
          · rw [set_takeK (by omega), htk, hsn]
          · rw [set_dropK (by omega), hdr1]
        · rw [if_neg h5, List.append_nil] at hsn
          exact ⟨by omega, by omega, ⟨m, j + 1, R, rfl, hRl, by omega, by omega, by rw [htk, hsn], hdr1⟩, by omega⟩
      · have : j = l.length := by omega
        subst this
        rw [List.take_length] at htk
        refine ⟨by omega, by omega, ?_, fun v9 w5 hr => ?_⟩
        · simp only [List.length_append, List.length_take, List.length_map, List.length_replicate]; omega
        · have e1 : (List.take m (List.take m (R.map encK) ++ List.replicate (R.length - m) [Value.string ⟨[].toArray⟩, .string ⟨[].toArray⟩, .int .i64 0])) = (l.filter (forF f)).map encK := by
            rw [List.take_append_of_le_length (by simp; omega), List.take_take, Nat.min_self, ← List.map_take, htk]
          have h0 := (hr.at_ 0 rfl).reads
          simp only [Tree.goal, X.P, X.ev, V.toI_i, V.toB_b, V.toS_s, V.toR_r, V.toV_v, V.toN_n, V.toL_l, SV.ev, CV.ev, Sc.ev, List.getD_cons_zero, List.getD_cons_succ, List.getElem?_cons_zero, List.getElem?_cons_succ, List.map_cons, List.map_nil, List.length_cons, List.length_nil, List.cons_append, List.nil_append, Nat.zero_add, Nat.reduceAdd, List.length_map, Int.toNat_natCast, gK0, gK1, gK2] at h0
          refine ⟨v9, rfl, ?_, hr.fresh 0 rfl, hr.mod⟩
          rw [readsK, ← e1]
          exact h0
    · have h2 : forF f (l.getD i kD) = true := Classical.not_not.1 h2
      rw [hsn, hall, if_pos h2, takeK l i (by omega)]
  · have : i = l.length := by omega
    subst this
    rw [List.take_length] at hall
    rw [hall]
    exact ⟨u, rfl, (hr.at_ 1 rfl).reads, hr.fresh 1 rfl, hr.mod⟩
set_option maxHeartbeats 1000000 in
theorem c_List (w : World) (v : Value) (l : List Kp) (f : List UInt8) (hv : readsK w v l) (hs : smallK l) (hl : l.length < 1000000000) (hf : f.length < 4294967281) : Calls Tryd.prog 52 #[sc1 v, .string ⟨f.toArray⟩] w
    fun e w' => gotK w w' e (listC l f).1 (listC l f).2 := by
  refine as_called (run_tree2 (ρ := [.v v, .r (l.map encK), .s f]) sxE_ok Tryd.func52 tree_keep_List rfl rfl (Rel.start2 (by simp [Ent.holds, Ent.wr, hv, X.ev])) rfl rfl ?_) rfl
  simp only [Tree.goal, X.P, X.ev, V.toI_i, V.toB_b, V.toS_s, V.toR_r, V.toV_v, V.toN_n, V.toL_l, SV.ev, CV.ev, Sc.ev, List.getD_cons_zero, List.getD_cons_succ, List.getElem?_cons_zero, List.getElem?_cons_succ, List.map_cons, List.map_nil, List.length_cons, List.length_nil, List.cons_append, List.nil_append, Nat.zero_add, Nat.reduceAdd, List.length_map, Int.toNat_natCast, gK0, gK1, gK2]
  refine ⟨[.i (chkK l)], rfl, fun _ w' hr => c_CheckK w' v l (hr.at_ 1 rfl) hs hl, ?_⟩
  simp only [Tree.goal, X.P, X.ev, V.toI_i, V.toB_b, V.toS_s, V.toR_r, V.toV_v, V.toN_n, V.toL_l, SV.ev, CV.ev, Sc.ev, List.getD_cons_zero, List.getD_cons_succ, List.getElem?_cons_zero, List.getElem?_cons_succ, List.map_cons, List.map_nil, List.length_cons, List.length_nil, List.cons_append, List.nil_append, Nat.zero_add, Nat.reduceAdd, List.length_map, Int.toNat_natCast, gK0, gK1, gK2]
  refine ⟨fun h w' hr => ?_, fun h => ?_⟩
  · have e : listE l f = chkK l := by rw [listE, if_neg h]
    rw [listC, e, if_neg h]
    exact ⟨_, rfl, readsK_nil _, newK_nil _, hr.mod⟩
  have h : chkK l = 0 := Classical.not_not.1 h
  refine ⟨[.i (chkT f true)], rfl, fun _ w' hr => c_Filter w' f hf, ?_⟩
  simp only [Tree.goal, X.P, X.ev, V.toI_i, V.toB_b, V.toS_s, V.toR_r, V.toV_v, V.toN_n, V.toL_l, SV.ev, CV.ev, Sc.ev, List.getD_cons_zero, List.getD_cons_succ, List.getElem?_cons_zero, List.getElem?_cons_succ, List.map_cons, List.map_nil, List.length_cons, List.length_nil, List.cons_append, List.nil_append, Nat.zero_add, Nat.reduceAdd, List.length_map, Int.toNat_natCast, gK0, gK1, gK2]
  refine ⟨fun h1 w' hr => ?_, fun h1 w1 hr => ?_⟩
  · have e : listE l f = chkT f true := by rw [listE, if_pos h]
    rw [listC, e, if_neg h1]
    exact ⟨_, rfl, readsK_nil _, newK_nil _, hr.mod⟩
  · have h1 : chkT f true = 0 := Classical.not_not.1 h1
    have e : listE l f = 0 := by rw [listE, if_pos h, h1]
    rw [listC, if_pos e]
    refine (c_ForK w1 v l f (hr.at_ 1 rfl) hs hl hf).mono ?_
    rintro e w2 ⟨v', rfl, g1, g2, gm⟩
    refine ⟨[.v v', .r ((l.filter (forF f)).map encK)], rfl, rfl, gm, List.forall_mem_nil _, List.forall_mem_cons.2 ⟨⟨g1, fun k hk => .inl (g2 k hk.2)⟩, List.forall_mem_nil _⟩, apart_one, ?_⟩
    intro w3 hr3
    exact ⟨v', rfl, hr3.at_ 0 rfl, newK_le g2 hr.mod.size, hr3.mod⟩
set_option maxHeartbeats 1000000 in
theorem c_ListOf (w : World) (v : Value) (l : List Kp) (f : List UInt8) (hv : readsK w v l) (hs : smallK l) (hl : l.length < 1000000000) (hf : f.length < 4294967281) : Calls Tryd.prog 56 #[sc1 v, .string ⟨f.toArray⟩] w
    fun e w' => gotL w w' e (l.filter (forF f)) := by
  refine as_called (run_tree2 (ρ := [.v v, .r (l.map encK), .s f]) sxE_ok Tryd.func56 tree_dragomanref_ListOf rfl rfl (Rel.start2 (by simp [Ent.holds, Ent.wr, hv, X.ev])) rfl rfl ?_) rfl
  simp only [Tree.goal, X.P, X.ev, V.toI_i, V.toB_b, V.toS_s, V.toR_r, V.toV_v, V.toN_n, V.toL_l, SV.ev, CV.ev, Sc.ev, List.getD_cons_zero, List.getD_cons_succ, List.getElem?_cons_zero, List.getElem?_cons_succ, List.map_cons, List.map_nil, List.length_cons, List.length_nil, List.cons_append, List.nil_append, Nat.zero_add, Nat.reduceAdd, List.length_map, Int.toNat_natCast, gK0, gK1, gK2, List.nil_append]
  refine ⟨fun vs => ∃ (i : Nat) (x : Value), vs = [.v x, .r (((l.take i).filter (forF f)).map encK), .i i] ∧ i ≤ l.length, fun vs => l.length - (vs.getD 2 (.i 0)).toI.toNat, ⟨0, _, rfl, by omega⟩, ?_⟩
  rintro _ - ⟨i, x, rfl, hi⟩
  have hlen : ((l.take i).filter (forF f)).length ≤ i := Nat.le_trans (List.length_filter_le _ _) (by simp; omega)
  simp only [Tree.goal, X.P, X.ev, V.toI_i, V.toB_b, V.toS_s, V.toR_r, V.toV_v, V.toN_n, V.toL_l, SV.ev, CV.ev, Sc.ev, List.getD_cons_zero, List.getD_cons_succ, List.getElem?_cons_zero, List.getElem?_cons_succ, List.map_cons, List.map_nil, List.length_cons, List.length_nil, List.cons_append, List.nil_append, Nat.zero_add, Nat.reduceAdd, List.length_map, Int.toNat_natCast, gK0, gK1, gK2, List.nil_append]
  refine ⟨fun h1 => ⟨by omega, ?_⟩, fun h1 w1 hr => ?_⟩
  · refine ⟨[.b (forF f (l.getD i kD))], rfl, fun _ w' _ => c_IsFor w' f _ hf (smallK_at hs i), ?_⟩
    simp only [Tree.goal, X.P, X.ev, V.toI_i, V.toB_b, V.toS_s, V.toR_r, V.toV_v, V.toN_n, V.toL_l, SV.ev, CV.ev, Sc.ev, List.getD_cons_zero, List.getD_cons_succ, List.getElem?_cons_zero, List.getElem?_cons_succ, List.map_cons, List.map_nil, List.length_cons, List.length_nil, List.cons_append, List.nil_append, Nat.zero_add, Nat.reduceAdd, List.length_map, Int.toNat_natCast, gK0, gK1, gK2]
    have hsn := filtK_snoc (forF f) l i (by omega)
    refine ⟨fun h2 v1 => ⟨by omega, fun v2 => ⟨by omega, by omega, ⟨i + 1, v2, ?_, by omega⟩, by omega⟩⟩, fun h2 => ⟨by omega, by omega, ⟨i + 1, x, ?_, by omega⟩, by omega⟩⟩
    · rw [hsn, if_pos h2]; simp [encK]
    · rw [hsn, if_neg h2, List.append_nil]; rfl
  · have : i = l.length := by omega
    subst this
    rw [List.take_length] at hr
    exact ⟨x, rfl, (hr.at_ 0 rfl).reads, hr.fresh 0 rfl, hr.mod⟩
end Go.Proofs.YtkalmhdckoocbaaDoor
