/-
  Watches: Add, Cancel, Tell. By an AI agent.
-/
import Derived.Test.YtkalmhdckoocbaaDoorKc
set_option linter.unusedSimpArgs false
set_option linter.unusedVariables false
namespace Go.Proofs.YtkalmhdckoocbaaDoor
open Go.Sx

theorem freshB.W {n : Nat} {v : Value} (h : freshB n v) (l : List Wat) : freshW n v l := fun k hk => h k hk.2
theorem freshW.mono {n m : Nat} {v : Value} {l : List Wat} (h : freshW n v l) (hm : m ≤ n) : freshW m v l := fun k hk => Nat.le_trans hm (h k hk)
theorem freshB.mono {n m : Nat} {v : Value} (h : freshB n v) (hm : m ≤ n) : freshB m v := fun k hk => Nat.le_trans hm (h k hk)
def gotW (w w' : World) (e : Ending) (r : List Wat × Int) : Prop := ∃ v, e = .returned (.tuple #[sc1 v, .int .i64 r.2]) ∧ readsW w' v r.1 ∧ freshW w.heap.size v r.1 ∧ Mod [] w w'
theorem gotW_nil {w w' : World} (n : Int) (h : Mod [] w w') : gotW w w' (.returned (.tuple #[.slice none 0 0, .int .i64 n])) ([], n) := ⟨.slice none 0 0, rfl, readsW_nil w', freshW_nil _ _, h⟩
theorem apart_rd2 {ρ : List V} {u v : Nat} {ks ks' : List Kd} {r r' : X} : Apart ρ [.rd u ks r, .rd v ks' r'] :=
  List.pairwise_cons.2 ⟨fun e he hw _ _ _ => by
    rw [List.mem_singleton] at he; subst he
    exact hw.elim (fun h => Bool.noConfusion h) (fun h => Bool.noConfusion h), List.pairwise_singleton _ _⟩

/-- Watches that are right with one that is. -/
def rawR (l : List Wat) (x : Wat) : List Wat × Int := if 12 < ((filt x.1 x.2.1 l).length + 1 : Int) then ([], 2) else (filt x.1 x.2.1 l ++ [x], 0)
set_option maxHeartbeats 1000000 in
theorem c_Raw (w : World) (v : Value) (l : List Wat) (x : Wat) (hv : readsW w v l) (hl : l.length < 1000000000) : Calls Tryd.prog 69 #[sc1 v, .agg #[.int .i64 x.1, .string ⟨x.2.1.toArray⟩, .string ⟨x.2.2.1.toArray⟩, .int .i64 x.2.2.2]] w
    fun e w' => gotW w w' e (rawR l x) := by
  refine as_called (run_tree2 (ρ := [.v v, .r (l.map encW), .i x.1, .s x.2.1, .s x.2.2.1, .i x.2.2.2]) sxE_ok Tryd.func69 tree_watch_Raw rfl rfl (Rel.start2 (by simp [Ent.holds, Ent.wr, hv, X.ev])) rfl rfl ?_) rfl
  simp only [Tree.goal, X.P, X.ev, V.toI_i, V.toB_b, V.toS_s, V.toR_r, V.toV_v, V.toN_n, V.toL_l, SV.ev, CV.ev, Sc.ev, List.getD_cons_zero, List.getD_cons_succ, List.getElem?_cons_zero, List.getElem?_cons_succ, List.map_cons, List.map_nil, List.length_cons, List.length_nil, List.cons_append, List.nil_append, Nat.zero_add, Nat.reduceAdd]
  have hfl := filt_len x.1 x.2.1 l
  intro b1
  refine ⟨?_, fun v0 => ?_⟩
  · intro w1 hr
    refine (c_Without w1 v l x.1 x.2.1 (hr.at_ 2 rfl) hl).mono ?_
    rintro e w2 ⟨u, rfl, o1, f1, m1⟩
    refine ⟨[.v u, .r ((filt x.1 x.2.1 l).map encW)], rfl, rfl, m1, List.forall_mem_nil _, List.forall_mem_cons.2 ⟨⟨o1, fun k hk => .inl (f1 k hk)⟩, List.forall_mem_nil _⟩, apart_one, ?_⟩
    simp only [Tree.goal, X.P, X.ev, V.toI_i, V.toB_b, V.toS_s, V.toR_r, V.toV_v, V.toN_n, V.toL_l, SV.ev, CV.ev, Sc.ev, List.getD_cons_zero, List.getD_cons_succ, List.getElem?_cons_zero, List.getElem?_cons_succ, List.map_cons, List.map_nil, List.length_cons, List.length_nil, List.cons_append, List.nil_append, Nat.zero_add, Nat.reduceAdd, List.length_map, List.length_append, List.length_cons, List.length_nil, Nat.zero_add]
    intro v1
    refine ⟨by omega, fun v2 => ⟨fun h w' hr => ?_, fun h w' hr => ?_⟩⟩
    · rw [rawR, if_pos (by omega)]; exact gotW_nil 2 hr.mod
    · rw [rawR, if_neg (by omega)]
      have h0 := hr.at_ 0 rfl
      simp only [Ent.holds, Tree.goal, X.P, X.ev, V.toI_i, V.toB_b, V.toS_s, V.toR_r, V.toV_v, V.toN_n, V.toL_l, SV.ev, CV.ev, Sc.ev, List.getD_cons_zero, List.getD_cons_succ, List.getElem?_cons_zero, List.getElem?_cons_succ, List.map_cons, List.map_nil, List.length_cons, List.length_nil, List.cons_append, List.nil_append, Nat.zero_add, Nat.reduceAdd] at h0
      rw [row_snocW _ x] at h0
      exact ⟨v2, rfl, owns.reads h0, fun k hk => (by rcases hr.own _ (List.mem_cons_self ..) rfl k hk.2 with h | h; (· exact h); (· simp at h)), hr.mod⟩
  · intro w1 hr
    refine (c_Without w1 v l x.1 x.2.1 (hr.at_ 3 rfl) hl).mono ?_
    rintro e w2 ⟨u, rfl, o1, f1, m1⟩
    refine ⟨[.v u, .r ((filt x.1 x.2.1 l).map encW)], rfl, rfl, m1, List.forall_mem_nil _, List.forall_mem_cons.2 ⟨⟨o1, fun k hk => .inl (f1 k hk)⟩, List.forall_mem_nil _⟩, apart_one, ?_⟩
    simp only [Tree.goal, X.P, X.ev, V.toI_i, V.toB_b, V.toS_s, V.toR_r, V.toV_v, V.toN_n, V.toL_l, SV.ev, CV.ev, Sc.ev, List.getD_cons_zero, List.getD_cons_succ, List.getElem?_cons_zero, List.getElem?_cons_succ, List.map_cons, List.map_nil, List.length_cons, List.length_nil, List.cons_append, List.nil_append, Nat.zero_add, Nat.reduceAdd, List.length_map, List.length_append, List.length_cons, List.length_nil, Nat.zero_add]
    refine ⟨by omega, fun v2 => ⟨fun h w' hr => ?_, fun h w' hr => ?_⟩⟩
    · rw [rawR, if_pos (by omega)]; exact gotW_nil 2 hr.mod
    · rw [rawR, if_neg (by omega)]
      have h0 := hr.at_ 0 rfl
      simp only [Ent.holds, Tree.goal, X.P, X.ev, V.toI_i, V.toB_b, V.toS_s, V.toR_r, V.toV_v, V.toN_n, V.toL_l, SV.ev, CV.ev, Sc.ev, List.getD_cons_zero, List.getD_cons_succ, List.getElem?_cons_zero, List.getElem?_cons_succ, List.map_cons, List.map_nil, List.length_cons, List.length_nil, List.cons_append, List.nil_append, Nat.zero_add, Nat.reduceAdd] at h0
      rw [row_snocW _ x] at h0
      exact ⟨v2, rfl, owns.reads h0, fun k hk => (by rcases hr.own _ (List.mem_cons_self ..) rfl k hk.2 with h | h; (· exact h); (· simp at h)), hr.mod⟩
theorem c_AddWatch (w : World) (v : Value) (l : List Wat) (p : Int) (t n : List UInt8) (hv : readsW w v l) (hl : l.length < 1000000000) : Calls Tryd.prog 30 #[sc1 v, .int .i64 p, .string ⟨t.toArray⟩, .string ⟨n.toArray⟩] w
    fun e w' => gotW w w' e (rawR l (p, t, n, 1)) := by
  refine as_called (run_tree2 (ρ := [.v v, .r (l.map encW), .i p, .s t, .s n]) sxE_ok Tryd.func30 tree_dragomanref_AddWatch rfl rfl (Rel.start2 (by simp [Ent.holds, Ent.wr, hv, X.ev])) rfl rfl ?_) rfl
  simp only [Tree.goal, X.P, X.ev, V.toI_i, V.toB_b, V.toS_s, V.toR_r, V.toV_v, V.toN_n, V.toL_l, SV.ev, CV.ev, Sc.ev, List.getD_cons_zero, List.getD_cons_succ, List.getElem?_cons_zero, List.getElem?_cons_succ, List.map_cons, List.map_nil, List.length_cons, List.length_nil, List.cons_append, List.nil_append, Nat.zero_add, Nat.reduceAdd]
  have hfl := filt_len p t l
  intro w1 hr
  refine (c_CancelOf w1 v l p t (hr.at_ 1 rfl) hl).mono ?_
  rintro e w2 ⟨u, rfl, o1, f1, m1⟩
  refine ⟨[.v u, .r ((filt p t l).map encW)], rfl, rfl, m1, List.forall_mem_nil _, List.forall_mem_cons.2 ⟨⟨o1, fun k hk => .inl (f1 k hk)⟩, List.forall_mem_nil _⟩, apart_one, ?_⟩
  simp only [Tree.goal, X.P, X.ev, V.toI_i, V.toB_b, V.toS_s, V.toR_r, V.toV_v, V.toN_n, V.toL_l, SV.ev, CV.ev, Sc.ev, List.getD_cons_zero, List.getD_cons_succ, List.getElem?_cons_zero, List.getElem?_cons_succ, List.map_cons, List.map_nil, List.length_cons, List.length_nil, List.cons_append, List.nil_append, Nat.zero_add, Nat.reduceAdd, List.length_map, List.length_append, List.length_cons, List.length_nil, Nat.zero_add]
  intro v1
  refine ⟨by omega, fun v2 => ⟨fun h w' hr => ?_, fun h w' hr => ?_⟩⟩
  · rw [rawR, if_pos (by simp only; omega)]; exact gotW_nil 2 hr.mod
  · rw [rawR, if_neg (by simp only; omega)]
    have h0 := hr.at_ 0 rfl
    simp only [Ent.holds, Tree.goal, X.P, X.ev, V.toI_i, V.toB_b, V.toS_s, V.toR_r, V.toV_v, V.toN_n, V.toL_l, SV.ev, CV.ev, Sc.ev, List.getD_cons_zero, List.getD_cons_succ, List.getElem?_cons_zero, List.getElem?_cons_succ, List.map_cons, List.map_nil, List.length_cons, List.length_nil, List.cons_append, List.nil_append, Nat.zero_add, Nat.reduceAdd] at h0
    have e0 := row_snocW (filt p t l) (p, t, n, 1)
    simp only at e0
    rw [e0] at h0
    exact ⟨v2, rfl, owns.reads h0, fun k hk => (by rcases hr.own _ (List.mem_cons_self ..) rfl k hk.2 with h | h; (· exact h); (· simp at h)), hr.mod⟩

def addR (l : List Wat) (p : Int) (t n : List UInt8) : List Wat × Int := if chkW l = 0 then (if oneE p t n = 0 then rawR l (p, t, n, 1) else ([], oneE p t n)) else ([], chkW l)
theorem c_Add (w : World) (v : Value) (l : List Wat) (p : Int) (t n : List UInt8) (hv : readsW w v l) (hs : smallW l) (hl : l.length < 1000000000) (hn : n.length < 4294967281) : Calls Tryd.prog 24 #[sc1 v, .int .i64 p, .string ⟨t.toArray⟩, .string ⟨n.toArray⟩] w
    fun e w' => gotW w w' e (addR l p t n) := by
  refine as_called (run_tree2 (ρ := [.v v, .r (l.map encW), .i p, .s t, .s n]) sxE_ok Tryd.func24 tree_watch_Add rfl rfl (Rel.start2 (by simp [Ent.holds, Ent.wr, hv, X.ev])) rfl rfl ?_) rfl
  simp only [Tree.goal, X.P, X.ev, V.toI_i, V.toB_b, V.toS_s, V.toR_r, V.toV_v, V.toN_n, V.toL_l, SV.ev, CV.ev, Sc.ev, List.getD_cons_zero, List.getD_cons_succ, List.getElem?_cons_zero, List.getElem?_cons_succ, List.map_cons, List.map_nil, List.length_cons, List.length_nil, List.cons_append, List.nil_append, Nat.zero_add, Nat.reduceAdd]
  intro b1
  refine ⟨[.i (chkW l)], rfl, fun _ w' hr => c_CheckW w' v l (hr.at_ 2 rfl) hs (by omega), ?_⟩
  simp only [Tree.goal, X.P, X.ev, V.toI_i, V.toB_b, V.toS_s, V.toR_r, V.toV_v, V.toN_n, V.toL_l, SV.ev, CV.ev, Sc.ev, List.getD_cons_zero, List.getD_cons_succ, List.getElem?_cons_zero, List.getElem?_cons_succ, List.map_cons, List.map_nil, List.length_cons, List.length_nil, List.cons_append, List.nil_append, Nat.zero_add, Nat.reduceAdd]
  refine ⟨fun h => ?_, fun h w' hr => ?_⟩
  · refine ⟨[.i (oneE p t n)], rfl, fun _ w' _ => c_one w' (p, t, n, 1) hn, ?_⟩
    simp only [Tree.goal, X.P, X.ev, V.toI_i, V.toB_b, V.toS_s, V.toR_r, V.toV_v, V.toN_n, V.toL_l, SV.ev, CV.ev, Sc.ev, List.getD_cons_zero, List.getD_cons_succ, List.getElem?_cons_zero, List.getElem?_cons_succ, List.map_cons, List.map_nil, List.length_cons, List.length_nil, List.cons_append, List.nil_append, Nat.zero_add, Nat.reduceAdd]
    refine ⟨fun h1 w' hr => ?_, fun h1 => ?_⟩
    · rw [addR, if_pos h, if_neg h1]; exact gotW_nil _ hr.mod
    · rw [addR, if_pos h, if_pos (Classical.not_not.1 h1)]
      intro w1 hr
      refine (c_Raw w1 v l (p, t, n, 1) (hr.at_ 2 rfl) hl).mono ?_
      rintro e w2 ⟨u, rfl, r1, f1, m1⟩
      have hsz := hr.mod.size
      refine ⟨[.v u, .r ((rawR l (p, t, n, 1)).1.map encW), .i (rawR l (p, t, n, 1)).2], rfl, rfl, m1, List.forall_mem_nil _, List.forall_mem_cons.2 ⟨⟨r1, fun k hk => .inl (f1 k hk)⟩, List.forall_mem_nil _⟩, apart_one, ?_⟩
      simp only [Tree.goal, X.P, X.ev, V.toI_i, V.toB_b, V.toS_s, V.toR_r, V.toV_v, V.toN_n, V.toL_l, SV.ev, CV.ev, Sc.ev, List.getD_cons_zero, List.getD_cons_succ, List.getElem?_cons_zero, List.getElem?_cons_succ, List.map_cons, List.map_nil, List.length_cons, List.length_nil, List.cons_append, List.nil_append, Nat.zero_add, Nat.reduceAdd]
      exact fun w' hr => ⟨u, rfl, hr.at_ 0 rfl, f1.mono hsz, hr.mod⟩
  · rw [addR, if_neg h]; exact gotW_nil _ hr.mod
def cancelR (l : List Wat) (p : Int) (t : List UInt8) : List Wat × Int := if chkW l = 0 then (if 0 ≤ p ∧ p ≤ 9 then (if 8 < (t.length : Int) then ([], 2) else (filt p t l, 0)) else ([], 3)) else ([], chkW l)
theorem c_Cancel (w : World) (v : Value) (l : List Wat) (p : Int) (t : List UInt8) (hv : readsW w v l) (hs : smallW l) (hl : l.length < 1000000000) : Calls Tryd.prog 25 #[sc1 v, .int .i64 p, .string ⟨t.toArray⟩] w
    fun e w' => gotW w w' e (cancelR l p t) := by
  refine as_called (run_tree2 (ρ := [.v v, .r (l.map encW), .i p, .s t]) sxE_ok Tryd.func25 tree_watch_Cancel rfl rfl (Rel.start2 (by simp [Ent.holds, Ent.wr, hv, X.ev])) rfl rfl ?_) rfl
  simp only [Tree.goal, X.P, X.ev, V.toI_i, V.toB_b, V.toS_s, V.toR_r, V.toV_v, V.toN_n, V.toL_l, SV.ev, CV.ev, Sc.ev, List.getD_cons_zero, List.getD_cons_succ, List.getElem?_cons_zero, List.getElem?_cons_succ, List.map_cons, List.map_nil, List.length_cons, List.length_nil, List.cons_append, List.nil_append, Nat.zero_add, Nat.reduceAdd]
  refine ⟨[.i (chkW l)], rfl, fun _ w' hr => c_CheckW w' v l (hr.at_ 1 rfl) hs (by omega), ?_⟩
  simp only [Tree.goal, X.P, X.ev, V.toI_i, V.toB_b, V.toS_s, V.toR_r, V.toV_v, V.toN_n, V.toL_l, SV.ev, CV.ev, Sc.ev, List.getD_cons_zero, List.getD_cons_succ, List.getElem?_cons_zero, List.getElem?_cons_succ, List.map_cons, List.map_nil, List.length_cons, List.length_nil, List.cons_append, List.nil_append, Nat.zero_add, Nat.reduceAdd]
  refine ⟨fun h w' hr => ?_, fun h => ⟨fun h1 w' hr => ?_, fun h1 => ⟨fun h2 w' hr => ?_, fun h2 => ?_⟩⟩⟩
  · rw [cancelR, if_neg h]; exact gotW_nil _ hr.mod
  · rw [cancelR, if_pos (Classical.not_not.1 h), if_neg h1]; exact gotW_nil _ hr.mod
  · rw [cancelR, if_pos (Classical.not_not.1 h), if_pos (Classical.not_not.1 h1), if_pos h2]; exact gotW_nil _ hr.mod
  · rw [cancelR, if_pos (Classical.not_not.1 h), if_pos (Classical.not_not.1 h1), if_neg h2]
    intro w1 hr
    refine (c_Without w1 v l p t (hr.at_ 1 rfl) hl).mono ?_
    rintro e w2 ⟨u, rfl, o1, f1, m1⟩
    have hsz := hr.mod.size
    refine ⟨[.v u, .r ((filt p t l).map encW)], rfl, rfl, m1, List.forall_mem_nil _, List.forall_mem_cons.2 ⟨⟨o1, fun k hk => .inl (f1 k hk)⟩, List.forall_mem_nil _⟩, apart_one, ?_⟩
    simp only [Tree.goal, X.P, X.ev, V.toI_i, V.toB_b, V.toS_s, V.toR_r, V.toV_v, V.toN_n, V.toL_l, SV.ev, CV.ev, Sc.ev, List.getD_cons_zero, List.getD_cons_succ, List.getElem?_cons_zero, List.getElem?_cons_succ, List.map_cons, List.map_nil, List.length_cons, List.length_nil, List.cons_append, List.nil_append, Nat.zero_add, Nat.reduceAdd]
    exact fun w' hr => ⟨u, rfl, owns.reads (hr.at_ 0 rfl), (f1.mono hsz).W _, hr.mod⟩

theorem andMax (n : Int) (h : 0 ≤ n ∧ n ≤ 16777216) : ibits .and .i64 n 16777215 = if 16777215 < n then 0 else n := by
  obtain ⟨x, rfl⟩ : ∃ x : Nat, n = x := ⟨n.toNat, by omega⟩
  have oi : ∀ x : Nat, x < 2 ^ 63 → (BitVec.ofInt 64 (x : Int)).toNat = x := fun x h => by simp [BitVec.toNat_ofInt]; omega
  have h127 : (16777215 : Int) = ((16777215 : Nat) : Int) := rfl
  simp only [ibits, h127]
  show IntKind.i64.wrap (((BitVec.ofInt 64 (x : Int)) &&& (BitVec.ofInt 64 ((16777215 : Nat) : Int))).toNat : Int) = _
  rw [BitVec.toNat_and, oi x (by omega), oi 16777215 (by omega)]
  have e : x &&& 16777215 = x % 16777216 := Nat.and_two_pow_sub_one_eq_mod x 24
  rw [e, IntKind.wrap_i64]
  split <;> omega
theorem getD_set {R : List Wat} {i : Nat} {x : Wat} (h : i < R.length) : (R.set i x).getD i wD = x := by
  rw [List.getD_eq_getElem?_getD, List.getElem?_set_self h]; rfl
theorem getD_mix {n : List UInt8} {l : List Wat} {i : Nat} (hi : i ≤ l.length) : (toldL n (l.take i) ++ l.drop i).getD i wD = l.getD i wD := by
  simp only [List.getD_eq_getElem?_getD]
  rw [List.getElem?_append_right (by simp [toldL]; omega)]
  simp [toldL, Nat.min_eq_left hi]
theorem set_mix {n : List UInt8} {l : List Wat} {i : Nat} (hi : i < l.length) : (toldL n (l.take i) ++ l.drop i).set i (told1 n (l.getD i wD)) = toldL n (l.take (i + 1)) ++ l.drop (i + 1) := by
  have hlen : (toldL n (l.take i)).length = i := by simp [toldL]; omega
  rw [List.set_append_right _ _ (by omega), hlen, Nat.sub_self, dropW l i hi, told_snoc n l i hi]
  simp
theorem mix_same {n : List UInt8} {l : List Wat} {i : Nat} (hi : i < l.length) (h : told1 n (l.getD i wD) = l.getD i wD) : toldL n (l.take i) ++ l.drop i = toldL n (l.take (i + 1)) ++ l.drop (i + 1) := by
  rw [told_snoc n l i hi, h, dropW l i hi]; simp
theorem mix_len {n : List UInt8} {l : List Wat} {i : Nat} (hi : i ≤ l.length) : (toldL n (l.take i) ++ l.drop i).length = l.length := by simp [toldL]; omega

set_option maxHeartbeats 2000000 in
theorem c_Told (w : World) (v : Value) (l : List Wat) (n : List UInt8) (hv : readsW w v l) (hl : l.length < 1000000000) (hok : okN l) : Calls Tryd.prog 72 #[sc1 v, .string ⟨n.toArray⟩] w
    fun e w' => ∃ v1 v2, e = .returned (.tuple #[sc1 v1, sc1 v2]) ∧ ownsW w' v1 (toldL n l) ∧ ownsW w' v2 (theseL n l) ∧ freshB w.heap.size v1 ∧ freshB w.heap.size v2 ∧ Mod [] w w' := by
  refine as_called (run_tree2 (ρ := [.v v, .r (l.map encW), .s n]) sxE_ok Tryd.func72 tree_watch_Told rfl rfl (Rel.start2 (by simp [Ent.holds, Ent.wr, hv, X.ev])) rfl rfl ?_) rfl
  simp only [Tree.goal, X.P, X.ev, V.toI_i, V.toB_b, V.toS_s, V.toR_r, V.toV_v, V.toN_n, V.toL_l, SV.ev, CV.ev, Sc.ev, List.getD_cons_zero, List.getD_cons_succ, List.getElem?_cons_zero, List.getElem?_cons_succ, List.map_cons, List.map_nil, List.length_cons, List.length_nil, List.cons_append, List.nil_append, Nat.zero_add, Nat.reduceAdd]
  intro w1 hr
  refine (c_CloneW w1 v l (hr.at_ 2 rfl) hl).mono ?_
  rintro e w2 ⟨u, rfl, o1, f1, m1⟩
  refine ⟨[.v u, .r (l.map encW)], rfl, rfl, m1, List.forall_mem_nil _, List.forall_mem_cons.2 ⟨⟨o1, fun k hk => .inl (f1 k hk)⟩, List.forall_mem_nil _⟩, apart_one, ?_⟩
  simp only [Tree.goal, X.P, X.ev, V.toI_i, V.toB_b, V.toS_s, V.toR_r, V.toV_v, V.toN_n, V.toL_l, SV.ev, CV.ev, Sc.ev, List.getD_cons_zero, List.getD_cons_succ, List.getElem?_cons_zero, List.getElem?_cons_succ, List.map_cons, List.map_nil, List.length_cons, List.length_nil, List.cons_append, List.nil_append, Nat.zero_add, Nat.reduceAdd]
  refine ⟨fun vs => ∃ (i : Nat) (u2 : Value), vs = [.v u2, .r ((theseL n (l.take i)).map encW), .i i, .r ((toldL n (l.take i) ++ l.drop i).map encW)] ∧ i ≤ l.length, fun vs => l.length - (vs.getD 2 (.i 0)).toI.toNat, ⟨0, _, rfl, by omega⟩, ?_⟩
  rintro _ - ⟨i, u2, rfl, hi⟩
  simp only [Tree.goal, X.P, X.ev, V.toI_i, V.toB_b, V.toS_s, V.toR_r, V.toV_v, V.toN_n, V.toL_l, SV.ev, CV.ev, Sc.ev, List.getD_cons_zero, List.getD_cons_succ, List.getElem?_cons_zero, List.getElem?_cons_succ, List.map_cons, List.map_nil, List.length_cons, List.length_nil, List.cons_append, List.nil_append, Nat.zero_add, Nat.reduceAdd, List.length_map, Int.toNat_natCast, gW0, gW1, gW2, gW3]
  have hfl := these_len n (l.take i)
  rw [List.length_take] at hfl
  rw [mix_len hi, getD_mix hi]
  refine ⟨fun h1 => ?_, fun h1 w' hr => ?_⟩
  · have hok1 := okN_at hok i
    have hf2 := these_snoc n l i (by omega)
    have hst := set_mix (n := n) (l := l) (i := i) (by omega)
    have hml := mix_len (n := n) (l := l) (i := i) hi
    refine ⟨by omega, by omega, fun h2 => ?_, fun h2 => ?_⟩
    · rw [if_pos h2] at hf2
      have ht : told1 n (l.getD i wD) = ((l.getD i wD).1, (l.getD i wD).2.1, (l.getD i wD).2.2.1, ibits .and .i64 ((l.getD i wD).2.2.2 + 1) 16777215) := by
        rw [told1, if_pos h2, andMax _ (by omega)]
      have hrow := set_row (toldL n (l.take i) ++ l.drop i) i (told1 n (l.getD i wD))
      rw [ht] at hrow
      simp only at hrow
      rw [hrow, ← ht]
      simp only [gW0, gW1, gW2, gW3, List.length_map, List.length_set, getD_set (show i < (toldL n (l.take i) ++ l.drop i).length by omega)]
      rw [row_snocW, hst]
      refine ⟨by omega, by omega, by omega, fun v1 => ⟨by omega, fun v2 => ⟨by omega, by omega, ⟨i + 1, v2, ?_, by omega⟩, by omega⟩⟩⟩
      rw [hf2]; rfl
    · rw [if_neg h2, List.append_nil] at hf2
      have ht : told1 n (l.getD i wD) = l.getD i wD := by rw [told1, if_neg h2]
      refine ⟨by omega, by omega, ⟨i + 1, u2, ?_, by omega⟩, by omega⟩
      rw [hf2, ← mix_same (by omega) ht]; rfl
  · have : i = l.length := by omega
    subst this
    rw [List.take_length, List.drop_length, List.append_nil] at hr
    refine ⟨u, u2, rfl, hr.at_ 1 rfl, hr.at_ 0 rfl, ?_, ?_, hr.mod⟩
    · intro k hk
      rcases hr.own _ (List.mem_cons_of_mem _ (List.mem_cons_self ..)) rfl k hk with h | h
      · exact h
      · simp at h
    · intro k hk
      rcases hr.own _ (List.mem_cons_self ..) rfl k hk with h | h
      · exact h
      · simp at h

def tellR (l : List Wat) (n : List UInt8) : List Wat × List Wat × Int := if chkW l = 0 then (if chkT n false = 0 then (toldL n l, theseL n l, 0) else ([], [], chkT n false)) else ([], [], chkW l)
def gotW2 (w w' : World) (e : Ending) (r : List Wat × List Wat × Int) : Prop := ∃ v1 v2, e = .returned (.tuple #[sc1 v1, sc1 v2, .int .i64 r.2.2]) ∧ readsW w' v1 r.1 ∧ readsW w' v2 r.2.1 ∧ freshW w.heap.size v1 r.1 ∧ freshW w.heap.size v2 r.2.1 ∧ Mod [] w w'
theorem gotW2_nil {w w' : World} (n : Int) (h : Mod [] w w') : gotW2 w w' (.returned (.tuple #[.slice none 0 0, .slice none 0 0, .int .i64 n])) ([], [], n) := ⟨.slice none 0 0, .slice none 0 0, rfl, readsW_nil w', readsW_nil w', freshW_nil _ _, freshW_nil _ _, h⟩
theorem c_Tell (w : World) (v : Value) (l : List Wat) (n : List UInt8) (hv : readsW w v l) (hs : smallW l) (hl : l.length < 1000000000) (hn : n.length < 4294967281) : Calls Tryd.prog 26 #[sc1 v, .string ⟨n.toArray⟩] w
    fun e w' => gotW2 w w' e (tellR l n) := by
  refine as_called (run_tree2 (ρ := [.v v, .r (l.map encW), .s n]) sxE_ok Tryd.func26 tree_watch_Tell rfl rfl (Rel.start2 (by simp [Ent.holds, Ent.wr, hv, X.ev])) rfl rfl ?_) rfl
  simp only [Tree.goal, X.P, X.ev, V.toI_i, V.toB_b, V.toS_s, V.toR_r, V.toV_v, V.toN_n, V.toL_l, SV.ev, CV.ev, Sc.ev, List.getD_cons_zero, List.getD_cons_succ, List.getElem?_cons_zero, List.getElem?_cons_succ, List.map_cons, List.map_nil, List.length_cons, List.length_nil, List.cons_append, List.nil_append, Nat.zero_add, Nat.reduceAdd]
  refine ⟨[.i (chkW l)], rfl, fun _ w' hr => c_CheckW w' v l (hr.at_ 2 rfl) hs (by omega), ?_⟩
  simp only [Tree.goal, X.P, X.ev, V.toI_i, V.toB_b, V.toS_s, V.toR_r, V.toV_v, V.toN_n, V.toL_l, SV.ev, CV.ev, Sc.ev, List.getD_cons_zero, List.getD_cons_succ, List.getElem?_cons_zero, List.getElem?_cons_succ, List.map_cons, List.map_nil, List.length_cons, List.length_nil, List.cons_append, List.nil_append, Nat.zero_add, Nat.reduceAdd]
  refine ⟨fun h => ?_, fun h w' hr => ?_⟩
  · refine ⟨[.i (chkT n false)], rfl, fun _ w' _ => c_Name w' n hn, ?_⟩
    simp only [Tree.goal, X.P, X.ev, V.toI_i, V.toB_b, V.toS_s, V.toR_r, V.toV_v, V.toN_n, V.toL_l, SV.ev, CV.ev, Sc.ev, List.getD_cons_zero, List.getD_cons_succ, List.getElem?_cons_zero, List.getElem?_cons_succ, List.map_cons, List.map_nil, List.length_cons, List.length_nil, List.cons_append, List.nil_append, Nat.zero_add, Nat.reduceAdd]
    refine ⟨fun h1 w' hr => ?_, fun h1 => ?_⟩
    · rw [tellR, if_pos h, if_neg h1]; exact gotW2_nil _ hr.mod
    · rw [tellR, if_pos h, if_pos (Classical.not_not.1 h1)]
      intro w1 hr
      refine (c_Told w1 v l n (hr.at_ 2 rfl) hl (chkW_ok h).2.1).mono ?_
      rintro e w2 ⟨u1, u2, rfl, o1, o2, f1, f2, m1⟩
      have hsz := hr.mod.size
      refine ⟨[.v u1, .r ((toldL n l).map encW), .v u2, .r ((theseL n l).map encW)], rfl, rfl, m1, List.forall_mem_nil _, List.forall_mem_cons.2 ⟨⟨owns.reads o1, fun k hk => .inl (f1 k hk.2)⟩, List.forall_mem_cons.2 ⟨⟨owns.reads o2, fun k hk => .inl (f2 k hk.2)⟩, List.forall_mem_nil _⟩⟩, apart_rd2, ?_⟩
      simp only [Tree.goal, X.P, X.ev, V.toI_i, V.toB_b, V.toS_s, V.toR_r, V.toV_v, V.toN_n, V.toL_l, SV.ev, CV.ev, Sc.ev, List.getD_cons_zero, List.getD_cons_succ, List.getElem?_cons_zero, List.getElem?_cons_succ, List.map_cons, List.map_nil, List.length_cons, List.length_nil, List.cons_append, List.nil_append, Nat.zero_add, Nat.reduceAdd]
      exact fun w' hr => ⟨u1, u2, rfl, hr.at_ 0 rfl, hr.at_ 1 rfl, (f1.mono hsz).W _, (f2.mono hsz).W _, hr.mod⟩
  · rw [tellR, if_neg h]; exact gotW2_nil _ hr.mod
theorem c_watchesAre (w : World) (u v : Value) (a b : List Wat) (e f : Int) (hu : readsW w u a) (hv : readsW w v b) (hl : a.length < 1099511627776) : Calls Tryd.prog 35 #[sc1 u, .int .i64 e, .int .i64 f, sc1 v] w
    fun e' w' => e' = .returned (.bool (decide (e = f) && decide (a = if f = 0 then b else []))) ∧ Mod [] w w' := by
  refine as_called (run_tree2 (ρ := [.v u, .r (a.map encW), .i e, .i f, .v v, .r (b.map encW)]) sxE_ok Tryd.func35 tree_dragomanlaw_watchesAre rfl rfl (Rel.start2 (by simp [Ent.holds, Ent.wr, hu, hv, X.ev])) rfl rfl ?_) rfl
  simp only [Tree.goal, X.P, X.ev, V.toI_i, V.toB_b, V.toS_s, V.toR_r, V.toV_v, V.toN_n, V.toL_l, SV.ev, CV.ev, Sc.ev, List.getD_cons_zero, List.getD_cons_succ, List.getElem?_cons_zero, List.getElem?_cons_succ, List.map_cons, List.map_nil, List.length_cons, List.length_nil, List.cons_append, List.nil_append, Nat.zero_add, Nat.reduceAdd]
  refine ⟨fun h => ?_, fun h => ?_⟩
  · refine ⟨[.b (decide (a = []))], rfl, fun _ w' hr => c_SameWatches w' u (.slice none 0 0) a [] (hr.at_ 1 rfl) (readsW_nil w') hl, ?_⟩
    simp only [Tree.goal, X.P, X.ev, V.toI_i, V.toB_b, V.toS_s, V.toR_r, V.toV_v, V.toN_n, V.toL_l, SV.ev, CV.ev, Sc.ev, List.getD_cons_zero, List.getD_cons_succ, List.getElem?_cons_zero, List.getElem?_cons_succ, List.map_cons, List.map_nil, List.length_cons, List.length_nil, List.cons_append, List.nil_append, Nat.zero_add, Nat.reduceAdd]
    exact fun w' hr => ⟨by rw [if_neg h], hr.mod⟩
  · refine ⟨[.b (decide (a = b))], rfl, fun _ w' hr => c_SameWatches w' u v a b (hr.at_ 0 rfl) (hr.at_ 1 rfl) hl, ?_⟩
    simp only [Tree.goal, X.P, X.ev, V.toI_i, V.toB_b, V.toS_s, V.toR_r, V.toV_v, V.toN_n, V.toL_l, SV.ev, CV.ev, Sc.ev, List.getD_cons_zero, List.getD_cons_succ, List.getElem?_cons_zero, List.getElem?_cons_succ, List.map_cons, List.map_nil, List.length_cons, List.length_nil, List.cons_append, List.nil_append, Nat.zero_add, Nat.reduceAdd]
    exact fun w' hr => ⟨by rw [if_pos (Classical.not_not.1 h)], hr.mod⟩
end Go.Proofs.YtkalmhdckoocbaaDoor
