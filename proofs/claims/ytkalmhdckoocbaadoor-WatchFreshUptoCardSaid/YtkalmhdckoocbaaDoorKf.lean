/-
  Watches: the law WatchOne. By an AI agent.
-/
import Derived.Test.YtkalmhdckoocbaaDoorKe
set_option linter.unusedSimpArgs false
set_option linter.unusedVariables false
namespace Go.Proofs.YtkalmhdckoocbaaDoor
open Go.Sx

def okOne (x : Wat) : Prop := oneE x.1 x.2.1 x.2.2.1 = 0 ∧ 0 ≤ x.2.2.2 ∧ x.2.2.2 ≤ 16777215
def apartW (a b : Wat) : Prop := sameP b.1 b.2.1 a = false
theorem chkL_iff : ∀ {l prev : List Wat}, chkL prev l = 0 ↔ (∀ x ∈ l, okOne x) ∧ l.Pairwise apartW ∧ ∀ a ∈ prev, ∀ b ∈ l, apartW a b := by
  intro l
  induction l with
  | nil => intro prev; simp [chkL]
  | cons w l ih =>
    intro prev
    simp only [chkL]
    split
    · rename_i h
      exact ⟨fun e => absurd e h, fun e => absurd (e.1 w (List.mem_cons_self ..)).1 h⟩
    · rename_i h
      have h := Classical.not_not.1 h
      split
      · rename_i h2
        split
        · rename_i h3
          refine ⟨fun e => absurd e (by decide), fun e => ?_⟩
          obtain ⟨a, ha, hs⟩ := List.any_eq_true.1 h3
          have := e.2.2 a ha w (List.mem_cons_self ..)
          rw [apartW, hs] at this
          cases this
        · rename_i h3
          rw [ih]
          have h3 : ∀ a ∈ prev, apartW a w := fun a ha => by
            have := List.any_eq_false.1 (Bool.eq_false_iff.2 h3) a ha
            exact Bool.eq_false_iff.2 this
          refine ⟨fun ⟨e1, e2, e3⟩ => ⟨?_, ?_, ?_⟩, fun ⟨e1, e2, e3⟩ => ⟨?_, ?_, ?_⟩⟩
          · intro x hx
            rcases List.mem_cons.1 hx with rfl | hx
            · exact ⟨h, h2⟩
            · exact e1 x hx
          · exact List.pairwise_cons.2 ⟨fun b hb => e3 w (by simp) b hb, e2⟩
          · intro a ha b hb
            rcases List.mem_cons.1 hb with rfl | hb
            · exact h3 a ha
            · exact e3 a (by simp [ha]) b hb
          · exact fun x hx => e1 x (List.mem_cons_of_mem _ hx)
          · exact (List.pairwise_cons.1 e2).2
          · intro a ha b hb
            rcases List.mem_append.1 ha with ha | ha
            · exact e3 a ha b (List.mem_cons_of_mem _ hb)
            · rw [List.mem_singleton] at ha; subst ha
              exact (List.pairwise_cons.1 e2).1 b hb
      · rename_i h2
        exact ⟨fun e => absurd e (by decide), fun e => absurd (e.1 w (List.mem_cons_self ..)).2 h2⟩
theorem chkW_iff {l : List Wat} : chkW l = 0 ↔ l.length ≤ 12 ∧ (∀ x ∈ l, okOne x) ∧ l.Pairwise apartW := by
  unfold chkW
  split
  · exact ⟨fun e => absurd e (by decide), fun e => absurd e.1 (by omega)⟩
  · rw [chkL_iff]
    exact ⟨fun e => ⟨by omega, e.1, e.2.1⟩, fun e => ⟨e.2.1, e.2.2, fun a ha => by cases ha⟩⟩
theorem filt_app (p : Int) (t n : List UInt8) (k : Int) (l : List Wat) : filt p t (filt p t l ++ [(p, t, n, k)]) = filt p t l := by
  have e : filt p t [(p, t, n, k)] = [] := by simp [filt, sameP]
  have e2 : filt p t (filt p t l ++ [(p, t, n, k)]) = filt p t (filt p t l) ++ filt p t [(p, t, n, k)] := List.filter_append ..
  rw [e2, e, List.append_nil]
  simp [filt, List.filter_filter]
theorem add_bad {l : List Wat} {p : Int} {t n : List UInt8} (h : ¬(addR l p t n).2 = 0) : (addR l p t n).1 = [] := by
  unfold addR at h ⊢
  split
  · rename_i h1
    rw [if_pos h1] at h
    split
    · rename_i h2
      rw [if_pos h2] at h
      rw [raw_nil, if_neg h]
    · rfl
  · rfl
theorem add_ok {l : List Wat} {p : Int} {t n : List UInt8} (h : (addR l p t n).2 = 0) : chkW l = 0 ∧ oneE p t n = 0 ∧ (filt p t l).length + 1 ≤ 12 ∧ addR l p t n = (filt p t l ++ [(p, t, n, 1)], 0) := by
  unfold addR at h ⊢
  split at h
  · rename_i h1
    split at h
    · rename_i h2
      unfold rawR at h ⊢
      split at h
      · exact absurd h (by decide)
      · rename_i h3
        simp only at h3
        exact ⟨h1, h2, by omega, by rw [if_pos h1, if_pos h2, if_neg h3]⟩
    · rename_i h2; exact absurd h h2
  · rename_i h1; exact absurd h h1
theorem chk_add {l : List Wat} {p : Int} {t n : List UInt8} (h : chkW l = 0) (h1 : oneE p t n = 0) (h2 : (filt p t l).length + 1 ≤ 12) : chkW (filt p t l ++ [(p, t, n, 1)]) = 0 := by
  rw [chkW_iff] at h ⊢
  refine ⟨by rw [List.length_append]; exact h2, fun x hx => ?_, List.pairwise_append.2 ⟨h.2.2.filter _, List.pairwise_singleton _ _, ?_⟩⟩
  · rcases List.mem_append.1 hx with hx | hx
    · exact h.2.1 x (List.mem_filter.1 hx).1
    · rw [List.mem_singleton] at hx; subst hx
      exact ⟨h1, (by decide : (0:Int) ≤ 1), (by decide : (1:Int) ≤ 16777215)⟩
  · intro a ha b hb
    rw [List.mem_singleton] at hb; subst hb
    have := (List.mem_filter.1 ha).2
    simpa [apartW] using this
theorem cancel_ok {l : List Wat} {p : Int} {t n : List UInt8} (h : chkW l = 0) (h1 : oneE p t n = 0) : cancelR l p t = (filt p t l, 0) := by
  rw [cancel_one h]
  unfold oneE at h1
  split at h1
  · rename_i h2
    split at h1
    · exact absurd h1 (by decide)
    · rename_i h3
      have : oneE p t [97] = 0 := by rw [oneE, if_pos h2, if_neg h3]; decide
      rw [if_pos this]
  · exact absurd h1 (by decide)
theorem small_app {l : List Wat} {p : Int} {t n : List UInt8} (h : smallW l) (hn : n.length < 4294967281) : smallW (filt p t l ++ [(p, t, n, 1)]) := by
  intro x hx
  rcases List.mem_append.1 hx with hx | hx
  · exact h x (List.mem_filter.1 hx).1
  · rw [List.mem_singleton] at hx; subst hx; exact hn
theorem c_same (w : World) (u v : Value) (a b : List Wat) (hu : readsW w u a) (hv : readsW w v b) (hl : a.length < 1099511627776) (h : a = b) : Calls Tryd.prog 37 #[sc1 u, sc1 v] w
    fun e w' => e = .returned (.bool true) ∧ Mod [] w w' := by
  refine (c_SameWatches w u v a b hu hv hl).mono ?_
  rintro e w' ⟨rfl, hm⟩
  exact ⟨by rw [decide_eq_true h], hm⟩
theorem last_app (l : List Wat) (x : Wat) : (l ++ [x]).getD (((l ++ [x]).length : Int) - 1).toNat wD = x := by
  have e : (((l ++ [x]).length : Int) - 1).toNat = l.length := by simp
  rw [e]
  simp [List.getD_eq_getElem?_getD]
theorem take_app (l : List Wat) (x : Wat) : (l ++ [x]).take (((l ++ [x]).length : Int) - 1).toNat = l := by
  have e : (((l ++ [x]).length : Int) - 1).toNat = l.length := by simp
  rw [e]
  simp

set_option maxHeartbeats 1000000 in
theorem c_WatchOne (w : World) (v : Value) (l : List Wat) (p : Int) (t n : List UInt8) (hv : readsW w v l) (hs : smallW l) (hl : l.length < 1000000000) (hn : n.length < 4294967281) : Calls Tryd.prog 9 #[sc1 v, .int .i64 p, .string ⟨t.toArray⟩, .string ⟨n.toArray⟩] w
    fun e w' => e = .returned (.bool true) ∧ Mod [] w w' := by
  refine as_called (run_tree2 (ρ := [.v v, .r (l.map encW), .i p, .s t, .s n]) sxE_ok Tryd.func9 tree_dragomanlaw_WatchOne rfl rfl (Rel.start2 (by simp [Ent.holds, Ent.wr, hv, X.ev])) rfl rfl ?_) rfl
  simp only [Tree.goal, X.P, X.ev, V.toI_i, V.toB_b, V.toS_s, V.toR_r, V.toV_v, V.toN_n, V.toL_l, SV.ev, CV.ev, Sc.ev, List.getD_cons_zero, List.getD_cons_succ, List.getElem?_cons_zero, List.getElem?_cons_succ, List.map_cons, List.map_nil, List.length_cons, List.length_nil, List.cons_append, List.nil_append, Nat.zero_add, Nat.reduceAdd]
  refine ⟨[.b true], rfl, fun _ w' _ => c_watchBegun w', ?_⟩
  simp only [Tree.goal, X.P, X.ev, V.toI_i, V.toB_b, V.toS_s, V.toR_r, V.toV_v, V.toN_n, V.toL_l, SV.ev, CV.ev, Sc.ev, List.getD_cons_zero, List.getD_cons_succ, List.getElem?_cons_zero, List.getElem?_cons_succ, List.map_cons, List.map_nil, List.length_cons, List.length_nil, List.cons_append, List.nil_append, Nat.zero_add, Nat.reduceAdd]
  refine ⟨fun h => absurd trivial h, fun _ => ?_⟩
  simp only [dragomanlaw_WatchOne_3, Tree.goal, X.P, X.ev, V.toI_i, V.toB_b, V.toS_s, V.toR_r, V.toV_v, V.toN_n, V.toL_l, SV.ev, CV.ev, Sc.ev, List.getD_cons_zero, List.getD_cons_succ, List.getElem?_cons_zero, List.getElem?_cons_succ, List.map_cons, List.map_nil, List.length_cons, List.length_nil, List.cons_append, List.nil_append, Nat.zero_add, Nat.reduceAdd]
  intro w1 hr
  refine (c_Add w1 v l p t n (hr.at_ 0 rfl) hs hl hn).mono ?_
  rintro e w2 ⟨u1, rfl, r1, f1, m1⟩
  refine ⟨[.v u1, .r ((addR l p t n).1.map encW), .i (addR l p t n).2], rfl, rfl, m1, List.forall_mem_nil _, List.forall_mem_cons.2 ⟨⟨r1, fun k hk => .inl (f1 k hk)⟩, List.forall_mem_nil _⟩, apart_one, ?_⟩
  simp only [Tree.goal, X.P, X.ev, V.toI_i, V.toB_b, V.toS_s, V.toR_r, V.toV_v, V.toN_n, V.toL_l, SV.ev, CV.ev, Sc.ev, List.getD_cons_zero, List.getD_cons_succ, List.getElem?_cons_zero, List.getElem?_cons_succ, List.map_cons, List.map_nil, List.length_cons, List.length_nil, List.cons_append, List.nil_append, Nat.zero_add, Nat.reduceAdd, List.length_map]
  refine ⟨fun h w' hr => ⟨by rw [add_bad h]; rfl, hr.mod⟩, fun h => ?_⟩
  obtain ⟨h0, h1, h2, hA⟩ := add_ok (Classical.not_not.1 h)
  have hB := chk_add h0 h1 h2
  have hC := cancel_ok hB h1
  have hD := cancel_ok h0 h1
  have hS := small_app (p := p) (t := t) hs hn
  have hE : addR (filt p t l ++ [(p, t, n, 1)]) p t n = (filt p t l ++ [(p, t, n, 1)], 0) := by
    rw [addR, if_pos hB, if_pos h1, rawR]
    simp only [filt_app]
    rw [if_neg (by omega)]
  rw [filt_app] at hC
  have hlast := last_app (filt p t l) (p, t, n, 1)
  have htake := take_app (filt p t l) (p, t, n, 1)
  have hlen : (filt p t l ++ [(p, t, n, 1)]).length = (filt p t l).length + 1 := by simp
  rw [hA]
  generalize hAA : filt p t l ++ [(p, t, n, (1 : Int))] = A at hA hB hC hD hS hE hlast htake hlen ⊢
  simp only [dragomanlaw_WatchOne_2, Tree.goal, X.P, X.ev, V.toI_i, V.toB_b, V.toS_s, V.toR_r, V.toV_v, V.toN_n, V.toL_l, SV.ev, CV.ev, Sc.ev, List.getD_cons_zero, List.getD_cons_succ, List.getElem?_cons_zero, List.getElem?_cons_succ, List.map_cons, List.map_nil, List.length_cons, List.length_nil, List.cons_append, List.nil_append, Nat.zero_add, Nat.reduceAdd]
  intro w1 hr
  refine (c_Add w1 u1 A p t n (hr.at_ 0 rfl) hS (by omega) hn).mono ?_
  rw [hE]
  rintro e w2 ⟨u2, rfl, r1, f1, m1⟩
  refine ⟨[.v u2, .r (A.map encW), .i 0], rfl, rfl, m1, List.forall_mem_nil _, List.forall_mem_cons.2 ⟨⟨r1, fun k hk => .inl (f1 k hk)⟩, List.forall_mem_nil _⟩, apart_one, ?_⟩
  simp only [Tree.goal, X.P, X.ev, V.toI_i, V.toB_b, V.toS_s, V.toR_r, V.toV_v, V.toN_n, V.toL_l, SV.ev, CV.ev, Sc.ev, List.getD_cons_zero, List.getD_cons_succ, List.getElem?_cons_zero, List.getElem?_cons_succ, List.map_cons, List.map_nil, List.length_cons, List.length_nil, List.cons_append, List.nil_append, Nat.zero_add, Nat.reduceAdd]
  intro w1 hr
  refine (c_Cancel w1 u1 A p t (hr.at_ 1 rfl) hS (by omega)).mono ?_
  rw [hC]
  rintro e w2 ⟨u3, rfl, r1, f1, m1⟩
  refine ⟨[.v u3, .r ((filt p t l).map encW), .i 0], rfl, rfl, m1, List.forall_mem_nil _, List.forall_mem_cons.2 ⟨⟨r1, fun k hk => .inl (f1 k hk)⟩, List.forall_mem_nil _⟩, apart_one, ?_⟩
  simp only [Tree.goal, X.P, X.ev, V.toI_i, V.toB_b, V.toS_s, V.toR_r, V.toV_v, V.toN_n, V.toL_l, SV.ev, CV.ev, Sc.ev, List.getD_cons_zero, List.getD_cons_succ, List.getElem?_cons_zero, List.getElem?_cons_succ, List.map_cons, List.map_nil, List.length_cons, List.length_nil, List.cons_append, List.nil_append, Nat.zero_add, Nat.reduceAdd]
  intro w1 hr
  refine (c_Cancel w1 v l p t (hr.at_ 3 rfl) hs hl).mono ?_
  rw [hD]
  rintro e w2 ⟨u4, rfl, r1, f1, m1⟩
  refine ⟨[.v u4, .r ((filt p t l).map encW), .i 0], rfl, rfl, m1, List.forall_mem_nil _, List.forall_mem_cons.2 ⟨⟨r1, fun k hk => .inl (f1 k hk)⟩, List.forall_mem_nil _⟩, apart_one, ?_⟩
  simp only [Tree.goal, X.P, X.ev, V.toI_i, V.toB_b, V.toS_s, V.toR_r, V.toV_v, V.toN_n, V.toL_l, SV.ev, CV.ev, Sc.ev, List.getD_cons_zero, List.getD_cons_succ, List.getElem?_cons_zero, List.getElem?_cons_succ, List.map_cons, List.map_nil, List.length_cons, List.length_nil, List.cons_append, List.nil_append, Nat.zero_add, Nat.reduceAdd, List.length_map, Int.toNat_natCast, gW0, gW1, gW2, gW3]
  refine ⟨.inr (by omega), .inr (by omega), .inr (by omega), .inr (by omega), ?_⟩
  refine ⟨[.b true], rfl, fun _ w' hr => c_same w' u1 u2 A A (hr.at_ 3 rfl) (hr.at_ 2 rfl) (by omega) rfl, ?_⟩
  simp only [Tree.goal, X.P, X.ev, V.toI_i, V.toB_b, V.toS_s, V.toR_r, V.toV_v, V.toN_n, V.toL_l, SV.ev, CV.ev, Sc.ev, List.getD_cons_zero, List.getD_cons_succ, List.getElem?_cons_zero, List.getElem?_cons_succ, List.map_cons, List.map_nil, List.length_cons, List.length_nil, List.cons_append, List.nil_append, Nat.zero_add, Nat.reduceAdd, List.length_map, Int.toNat_natCast, gW0, gW1, gW2, gW3]
  refine ⟨[.b true], rfl, fun _ w' hr => c_same w' u3 u4 (filt p t l) (filt p t l) (hr.at_ 1 rfl) (hr.at_ 0 rfl) (by omega) rfl, ?_⟩
  simp only [Tree.goal, X.P, X.ev, V.toI_i, V.toB_b, V.toS_s, V.toR_r, V.toV_v, V.toN_n, V.toL_l, SV.ev, CV.ev, Sc.ev, List.getD_cons_zero, List.getD_cons_succ, List.getElem?_cons_zero, List.getElem?_cons_succ, List.map_cons, List.map_nil, List.length_cons, List.length_nil, List.cons_append, List.nil_append, Nat.zero_add, Nat.reduceAdd, List.length_map, Int.toNat_natCast, gW0, gW1, gW2, gW3, hlast]
  refine ⟨.inr (by omega), .inr (by omega), fun _ => ?_, fun h => absurd ⟨⟨⟨⟨⟨⟨trivial, trivial⟩, trivial⟩, by omega⟩, trivial, trivial, trivial, trivial⟩, trivial⟩, trivial⟩ h⟩
  simp only [dragomanlaw_WatchOne_1, Tree.goal, X.P, X.ev, V.toI_i, V.toB_b, V.toS_s, V.toR_r, V.toV_v, V.toN_n, V.toL_l, SV.ev, CV.ev, Sc.ev, List.getD_cons_zero, List.getD_cons_succ, List.getElem?_cons_zero, List.getElem?_cons_succ, List.map_cons, List.map_nil, List.length_cons, List.length_nil, List.cons_append, List.nil_append, Nat.zero_add, Nat.reduceAdd, List.length_map, Int.toNat_natCast, gW0, gW1, gW2, gW3]
  refine ⟨by omega, by omega, fun v9 => ?_⟩
  refine ⟨[.b true], rfl, fun _ w' hr => ?_, ?_⟩
  · have h0 := hr.at_ 0 rfl
    simp only [Ent.holds, Tree.goal, X.P, X.ev, V.toI_i, V.toB_b, V.toS_s, V.toR_r, V.toV_v, V.toN_n, V.toL_l, SV.ev, CV.ev, Sc.ev, List.getD_cons_zero, List.getD_cons_succ, List.getElem?_cons_zero, List.getElem?_cons_succ, List.map_cons, List.map_nil, List.length_cons, List.length_nil, List.cons_append, List.nil_append, Nat.zero_add, Nat.reduceAdd, List.length_map, Int.toNat_natCast, gW0, gW1, gW2, gW3] at h0
    rw [← List.map_take, htake] at h0
    exact c_same w' v9 u3 (filt p t l) (filt p t l) h0 (hr.at_ 2 rfl) (by omega) rfl
  simp only [Tree.goal, X.P, X.ev, V.toI_i, V.toB_b, V.toS_s, V.toR_r, V.toV_v, V.toN_n, V.toL_l, SV.ev, CV.ev, Sc.ev, List.getD_cons_zero, List.getD_cons_succ, List.getElem?_cons_zero, List.getElem?_cons_succ, List.map_cons, List.map_nil, List.length_cons, List.length_nil, List.cons_append, List.nil_append, Nat.zero_add, Nat.reduceAdd]
  refine ⟨[.i (chkW A)], rfl, fun _ w' hr => c_CheckW w' u1 A (hr.at_ 4 rfl) hS (by omega), ?_⟩
  simp only [Tree.goal, X.P, X.ev, V.toI_i, V.toB_b, V.toS_s, V.toR_r, V.toV_v, V.toN_n, V.toL_l, SV.ev, CV.ev, Sc.ev, List.getD_cons_zero, List.getD_cons_succ, List.getElem?_cons_zero, List.getElem?_cons_succ, List.map_cons, List.map_nil, List.length_cons, List.length_nil, List.cons_append, List.nil_append, Nat.zero_add, Nat.reduceAdd]
  exact fun w' hr => ⟨by rw [hB]; rfl, hr.mod⟩
end Go.Proofs.YtkalmhdckoocbaaDoor
