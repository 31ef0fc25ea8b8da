/-
  Packets out of a stream: what Feed computes; Feed, walked. By an AI agent.
-/
import Derived.Test.YtliedecinehijaaGreatDoorZ15
import Derived.Test.YtliedecinehijaaGreatDoorZ16
set_option linter.unusedSimpArgs false
set_option linter.unusedVariables false
namespace Go.Proofs.YtliedecinehijaaGreatDoor
open Go.Sx

/-- Slices that read as these rows. -/
def rdsA (l : List (Value × List Kd × List (List Value))) : Asrt where
  holds w := ∀ t ∈ l, reads w t.1 t.2.1 t.2.2
  fp k := ∃ t ∈ l, t.2.2.flatten ≠ [] ∧ blockOf t.1 k
  stable := fun w w' h hh t ht => (hh t ht).stable fun k hk => h k ⟨t, ht, hk⟩
  bound := fun w hh k ⟨t, ht, hk⟩ => Ent.bound (ρ := [.v t.1, .r t.2.2]) (e := .rd 0 t.2.1 (.var 1)) (hh t ht) hk
/-- A packet and its two slices. -/
abbrev PkX := Pkt × Value × Value
abbrev xD : PkX := (pD 0, nilV, nilV)
def encX (t : PkX) : List Value := [.int .i64 t.1.kind, .bool t.1.dup, .bool t.1.retain, .bool t.1.clean, .bool t.1.session, .int .i64 t.1.qos, .int .i64 t.1.id, .int .i64 t.1.keep, .int .i64 t.1.code, .string ⟨t.1.client.toArray⟩, .string ⟨t.1.topic.toArray⟩, .string ⟨t.1.payload.toArray⟩, t.2.1, t.2.2]
abbrev KP : List Kd := [.int .i64, .bool, .bool, .bool, .bool, .int .i64, .int .i64, .int .i64, .int .i64, .str, .str, .str, .oth, .oth]
abbrev readsX (w : World) (v : Value) (l : List PkX) : Prop := reads w v KP (l.map encX)
def pkT (t : PkX) : List (Value × List Kd × List (List Value)) := [(t.2.1, [.str, .int .i64], t.1.asks.map encA), (t.2.2, [.int .i64], t.1.codes.map encI)]
def pksA (l : List PkX) : Asrt := rdsA (l.flatMap pkT)
theorem pksA_at {l : List PkX} {w : World} (h : (pksA l).holds w) {t : PkX} (ht : t ∈ l) : readsA w t.2.1 t.1.asks ∧ readsI w t.2.2 t.1.codes :=
  ⟨h (t.2.1, [.str, .int .i64], t.1.asks.map encA) (List.mem_flatMap.2 ⟨t, ht, by simp [pkT]⟩), h (t.2.2, [.int .i64], t.1.codes.map encI) (List.mem_flatMap.2 ⟨t, ht, by simp [pkT]⟩)⟩
theorem pksA_nil (w : World) : (pksA []).holds w := fun t ht => by cases ht
theorem pksA_nofp (k : Nat) : ¬ (pksA []).fp k := fun ⟨t, ht, _⟩ => by cases ht
theorem pksA_snoc {l : List PkX} {t : PkX} {w : World} (h : (pksA l).holds w) (h1 : readsA w t.2.1 t.1.asks) (h2 : readsI w t.2.2 t.1.codes) : (pksA (l ++ [t])).holds w := by
  intro x hx
  rw [List.flatMap_append, List.mem_append] at hx
  rcases hx with hx | hx
  · exact h x hx
  · simp only [List.flatMap_cons, List.flatMap_nil, List.append_nil, pkT, List.mem_cons, List.not_mem_nil, or_false] at hx
    rcases hx with rfl | rfl
    · exact h1
    · exact h2
theorem pksA_fp {l : List PkX} {t : PkX} {k : Nat} (h : (pksA (l ++ [t])).fp k) : (pksA l).fp k ∨ ((t.1.asks.map encA).flatten ≠ [] ∧ blockOf t.2.1 k) ∨ ((t.1.codes.map encI).flatten ≠ [] ∧ blockOf t.2.2 k) := by
  obtain ⟨x, hx, hk⟩ := h
  rw [List.flatMap_append, List.mem_append] at hx
  rcases hx with hx | hx
  · exact .inl ⟨x, hx, hk⟩
  · simp only [List.flatMap_cons, List.flatMap_nil, List.append_nil, pkT, List.mem_cons, List.not_mem_nil, or_false] at hx
    rcases hx with rfl | rfl
    · exact .inr (.inl hk)
    · exact .inr (.inr hk)
theorem rowX {l : List PkX} {i : Nat} (h : i < l.length) : (l.map encX).getD i [] = encX (l.getD i xD) := by
  rw [List.getD_eq_getElem?_getD, List.getD_eq_getElem?_getD, List.getElem?_map, List.getElem?_eq_getElem h]; rfl

/-- How many bytes the packet at a stream's beginning has; what is wrong. -/
def sizeF (s : List UInt8) : Int × Int :=
  if s = [] then (0, 8)
  else if (getL s 1).2.2 ≠ 0 then (0, (getL s 1).2.2)
  else if 600 < 1 + (getL s 1).2.1 + (getL s 1).1 then (0, 2)
  else if (s.length : Int) < 1 + (getL s 1).2.1 + (getL s 1).1 then (0, 8)
  else (1 + (getL s 1).2.1 + (getL s 1).1, 0)
def nextF (s : List UInt8) : Pkt × Int × Int :=
  if (sizeF s).2 ≠ 0 then (pD 0, 0, (sizeF s).2) else ((decD (s.take (sizeF s).1.toNat)).1, (sizeF s).1, (decD (s.take (sizeF s).1.toNat)).2)
def feedF : Nat → List UInt8 → List Pkt → List Pkt × List UInt8 × Int
  | 0, s, out => (out, s, 0)
  | f + 1, s, out =>
    if (nextF s).2.2 = 0 then feedF f (s.drop (nextF s).2.1.toNat) (out ++ [(nextF s).1])
    else if (nextF s).2.2 = 8 then (out, s, 0) else (out, [], (nextF s).2.2)
def feed (s : List UInt8) : List Pkt × List UInt8 × Int := feedF (s.length + 1) s []
theorem sizeF_ok {s : List UInt8} (h : (sizeF s).2 = 0) : s ≠ [] ∧ (getL s 1).2.2 = 0 ∧ (sizeF s).1 = 1 + (getL s 1).2.1 + (getL s 1).1 ∧ 1 ≤ (sizeF s).1 ∧ (sizeF s).1 ≤ s.length ∧ (sizeF s).1 ≤ 600 := by
  have hb := getL_bd s 1
  unfold sizeF at h ⊢
  split at h
  · simp at h
  · rename_i h0
    rw [if_neg h0]
    split at h
    · rename_i h1; exact absurd h h1
    · rename_i h1
      rw [if_neg h1]
      split at h
      · simp at h
      · rename_i h2
        rw [if_neg h2]
        split at h
        · simp at h
        · rename_i h3
          rw [if_neg h3]
          exact ⟨h0, by omega, rfl, by simp only; omega, by simp only; omega, by simp only; omega⟩
theorem nextF_ok {s : List UInt8} (h : (nextF s).2.2 = 0) : (sizeF s).2 = 0 ∧ (nextF s).2.1 = (sizeF s).1 ∧ (nextF s).1 = (decD (s.take (sizeF s).1.toNat)).1 ∧ (decD (s.take (sizeF s).1.toNat)).2 = 0 := by
  unfold nextF at h ⊢
  split at h
  · rename_i h0; exact absurd h h0
  · rename_i h0
    rw [if_neg h0]
    exact ⟨by omega, rfl, rfl, h⟩
theorem nextF_bd {s : List UInt8} (h : (nextF s).2.2 = 0) : 1 ≤ (nextF s).2.1 ∧ (nextF s).2.1 ≤ s.length := by
  obtain ⟨h1, h2, -, -⟩ := nextF_ok h
  have := sizeF_ok h1
  omega
theorem feedF_fuel : ∀ (f g : Nat) (s : List UInt8) (out : List Pkt), s.length < f → s.length < g → feedF f s out = feedF g s out
  | 0, _, s, _, h, _ => by omega
  | _ + 1, 0, s, _, _, h => by omega
  | f + 1, g + 1, s, out, h1, h2 => by
    rw [feedF, feedF]
    split
    · rename_i h
      have hb := nextF_bd h
      exact feedF_fuel f g _ _ (by rw [List.length_drop]; omega) (by rw [List.length_drop]; omega)
    · rfl
theorem feedF_step {s : List UInt8} {out : List Pkt} (h : (nextF s).2.2 = 0) : feedF (s.length + 1) s out = feedF ((s.drop (nextF s).2.1.toNat).length + 1) (s.drop (nextF s).2.1.toNat) (out ++ [(nextF s).1]) := by
  have hb := nextF_bd h
  rw [feedF, if_pos h]
  exact feedF_fuel _ _ _ _ (by rw [List.length_drop]; omega) (by omega)
theorem c_size (w : World) (s : List UInt8) (hs : s.length < 4611686018427387904) : Calls Tryz.prog 118 #[.string ⟨s.toArray⟩] w fun e w' => e = .returned (.tuple #[.int .i64 (sizeF s).1, .int .i64 (sizeF s).2]) ∧ Mod [] w w' := by
  refine as_called (run_plain2 (ρ := [.s s]) sxE_ok Tryz.func118 tree_frame_size rfl rfl rfl ?_) rfl
  have hb := getL_bd s 1
  simp only [Tree.goal, X.P, X.ev, V.toI_i, V.toB_b, V.toS_s, V.toR_r, V.toV_v, V.toN_n, V.toL_l, SV.ev, CV.ev, Sc.ev, List.getD_cons_zero, List.getD_cons_succ, List.getElem?_cons_zero, List.getElem?_cons_succ, List.map_cons, List.map_nil, List.length_cons, List.length_nil, List.cons_append, List.nil_append, Nat.zero_add, Nat.reduceAdd]
  refine ⟨fun h w' hr => ⟨by rw [sizeF, if_pos h], hr.mod⟩, fun h => ?_⟩
  rw [sizeF, if_neg h]
  refine ⟨[.i (getL s 1).1, .i (getL s 1).2.1, .i (getL s 1).2.2], rfl, fun _ w' _ => c_GetLong w' s 1 (by omega), ?_⟩
  simp only [Tree.goal, X.P, X.ev, V.toI_i, V.toB_b, V.toS_s, V.toR_r, V.toV_v, V.toN_n, V.toL_l, SV.ev, CV.ev, Sc.ev, List.getD_cons_zero, List.getD_cons_succ, List.getElem?_cons_zero, List.getElem?_cons_succ, List.map_cons, List.map_nil, List.length_cons, List.length_nil, List.cons_append, List.nil_append, Nat.zero_add, Nat.reduceAdd]
  refine ⟨by omega, by omega, by omega, by omega, fun h1 w' hr => ⟨by rw [if_pos h1], hr.mod⟩, fun h1 => ?_⟩
  rw [if_neg h1]
  refine ⟨fun h2 w' hr => ⟨by rw [if_pos h2], hr.mod⟩, fun h2 => ?_⟩
  rw [if_neg h2]
  exact ⟨fun h3 w' hr => ⟨by rw [if_pos h3], hr.mod⟩, fun h3 w' hr => ⟨by rw [if_neg h3], hr.mod⟩⟩
theorem c_next (w : World) (s : List UInt8) (hs : s.length ≤ 60000000) : Calls Tryz.prog 66 #[.string ⟨s.toArray⟩] w
    fun e w' => ∃ x y, e = .returned (.tuple #[pV (nextF s).1 x y, .int .i64 (nextF s).2.1, .int .i64 (nextF s).2.2]) ∧ decPost w w' (nextF s).1 x y := by
  refine as_called (run_plain2 (ρ := [.s s]) sxE_ok Tryz.func66 tree_frame_next rfl rfl rfl ?_) rfl
  simp only [Tree.goal, X.P, X.ev, V.toI_i, V.toB_b, V.toS_s, V.toR_r, V.toV_v, V.toN_n, V.toL_l, SV.ev, CV.ev, Sc.ev, List.getD_cons_zero, List.getD_cons_succ, List.getElem?_cons_zero, List.getElem?_cons_succ, List.map_cons, List.map_nil, List.length_cons, List.length_nil, List.cons_append, List.nil_append, Nat.zero_add, Nat.reduceAdd]
  intro b1
  refine ⟨[.i (sizeF s).1, .i (sizeF s).2], rfl, fun _ w' _ => c_size w' s (by omega), ?_⟩
  simp only [Tree.goal, X.P, X.ev, V.toI_i, V.toB_b, V.toS_s, V.toR_r, V.toV_v, V.toN_n, V.toL_l, SV.ev, CV.ev, Sc.ev, List.getD_cons_zero, List.getD_cons_succ, List.getElem?_cons_zero, List.getElem?_cons_succ, List.map_cons, List.map_nil, List.length_cons, List.length_nil, List.cons_append, List.nil_append, Nat.zero_add, Nat.reduceAdd]
  refine ⟨fun h w' hr => ⟨nilV, nilV, ?_⟩, fun h => ?_⟩
  · rw [nextF, if_pos h]
    exact ⟨rfl, decPost_nil hr.mod 0⟩
  have hz := sizeF_ok (Classical.not_not.1 h)
  rw [nextF, if_neg h]
  refine ⟨by omega, by omega, ?_⟩
  have hlt : (s.take (sizeF s).1.toNat).length ≤ 60000000 := by rw [List.length_take]; omega
  intro w1 hr
  refine (c_PDecode w1 (s.take (sizeF s).1.toNat) hlt).mono ?_
  generalize decD (s.take (sizeF s).1.toNat) = r
  obtain ⟨q, er⟩ := r
  rintro e w2 ⟨x, y, rfl, m, rx, ry, fx, fy⟩
  refine ⟨[.i q.kind, .b q.dup, .b q.retain, .b q.clean, .b q.session, .i q.qos, .i q.id, .i q.keep, .i q.code, .s q.client, .s q.topic, .s q.payload, .v x, .r (q.asks.map encA), .v y, .r (q.codes.map encI), .i er], rfl, rfl, m, List.forall_mem_nil _, List.forall_mem_cons.2 ⟨⟨rx, fun k hk => .inl (fx k hk.2)⟩, List.forall_mem_cons.2 ⟨⟨ry, fun k hk => .inl (fy k hk.2)⟩, List.forall_mem_nil _⟩⟩, apart_ro2 (by simp [Ent.wr]), ?_⟩
  simp only [Tree.goal, X.P, X.ev, V.toI_i, V.toB_b, V.toS_s, V.toR_r, V.toV_v, V.toN_n, V.toL_l, SV.ev, CV.ev, Sc.ev, List.getD_cons_zero, List.getD_cons_succ, List.getElem?_cons_zero, List.getElem?_cons_succ, List.map_cons, List.map_nil, List.length_cons, List.length_nil, List.cons_append, List.nil_append, Nat.zero_add, Nat.reduceAdd]
  have hw := hr.mod.size
  clear m hr
  intro b2
  exact fun w' hr => ⟨x, y, rfl, hr.mod, hr.at_ 1 rfl, hr.at_ 2 rfl, fun k hk => Nat.le_trans hw (fx k hk), fun k hk => Nat.le_trans hw (fy k hk)⟩
/-- What Feed leaves. -/
def feedPost (w w' : World) (x : Value) (l : List PkX) : Prop := Mod [] w w' ∧ readsX w' x l ∧ (pksA l).holds w' ∧ (∀ k, blockOf x k → w.heap.size ≤ k) ∧ ∀ k, (pksA l).fp k → w.heap.size ≤ k
end Go.Proofs.YtliedecinehijaaGreatDoor

/-
  Packets out of a stream: Feed, walked; lists of packets compared. By an AI agent.
-/
set_option linter.unusedSimpArgs false
set_option linter.unusedVariables false
namespace Go.Proofs.YtliedecinehijaaGreatDoor
open Go.Sx
theorem c_Feed (w : World) (r s : List UInt8) (hs : r.length + s.length ≤ 60000000) : Calls Tryz.prog 15 #[.string ⟨r.toArray⟩, .string ⟨s.toArray⟩] w
    fun e w' => ∃ (x : Value) (l : List PkX), e = .returned (.tuple #[sc1 x, .string ⟨(feed (r ++ s)).2.1.toArray⟩, .int .i64 (feed (r ++ s)).2.2]) ∧ l.map (·.1) = (feed (r ++ s)).1 ∧ feedPost w w' x l := by
  refine as_called (run_tree2 (ρ := [.s r, .s s]) (sxE_ok.joins _) Tryz.func15 tree_frame_Feed rfl rfl (Rel.start w _) rfl rfl ?_) rfl
  simp only [Tree.goal, X.P, X.ev, V.toI_i, V.toB_b, V.toS_s, V.toR_r, V.toV_v, V.toN_n, V.toL_l, SV.ev, CV.ev, Sc.ev, List.getD_cons_zero, List.getD_cons_succ, List.getElem?_cons_zero, List.getElem?_cons_succ, List.map_cons, List.map_nil, List.length_cons, List.length_nil, List.cons_append, List.nil_append, Nat.zero_add, Nat.reduceAdd]
  refine ⟨by omega, ?_⟩
  refine ⟨pksA [], fun w _ => pksA_nil w, fun k hk => absurd hk (pksA_nofp k), ?_⟩
  refine ⟨fun vs => ∃ (l : List PkX) (s' : List UInt8) (x : Value), vs = [.v nilV, .r [], .s [], .i 0, .s s', .v x, .r (l.map encX), .a (pksA l)] ∧ feedF (s'.length + 1) s' (l.map (·.1)) = feed (r ++ s) ∧ l.length + s'.length ≤ (r ++ s).length ∧ ∀ k, (pksA l).fp k → w.heap.size ≤ k,
    fun vs => (vs.getD 4 (.i 0)).toS.length, ⟨[], r ++ s, nilV, rfl, rfl, by simp, fun k hk => absurd hk (pksA_nofp k)⟩, ?_⟩
  rintro _ - ⟨l, s', x, rfl, hf, hlen, hfr⟩
  rw [List.length_append] at hlen
  simp only [Tree.goal, X.P, X.ev, V.toI_i, V.toB_b, V.toS_s, V.toR_r, V.toV_v, V.toN_n, V.toL_l, SV.ev, CV.ev, Sc.ev, List.getD_cons_zero, List.getD_cons_succ, List.getElem?_cons_zero, List.getElem?_cons_succ, List.map_cons, List.map_nil, List.length_cons, List.length_nil, List.cons_append, List.nil_append, Nat.zero_add, Nat.reduceAdd]
  intro w1 hr
  refine (c_next w1 s' (by omega)).mono ?_
  have hstep := @feedF_step s' (l.map (·.1))
  have hbd := @nextF_bd s'
  have hend : (nextF s').2.2 ≠ 0 → feed (r ++ s) = if (nextF s').2.2 = 8 then (l.map (·.1), s', 0) else (l.map (·.1), [], (nextF s').2.2) := fun h => by rw [← hf, feedF, if_neg h]
  generalize nextF s' = t at hstep hbd hend
  obtain ⟨q, n, er⟩ := t
  rintro e w2 ⟨px, py, rfl, m, rx, ry, fx, fy⟩
  refine ⟨[.i q.kind, .b q.dup, .b q.retain, .b q.clean, .b q.session, .i q.qos, .i q.id, .i q.keep, .i q.code, .s q.client, .s q.topic, .s q.payload, .v px, .r (q.asks.map encA), .v py, .r (q.codes.map encI), .i n, .i er], rfl, rfl, m, List.forall_mem_nil _, List.forall_mem_cons.2 ⟨⟨rx, fun k hk => .inl (fx k hk.2)⟩, List.forall_mem_cons.2 ⟨⟨ry, fun k hk => .inl (fy k hk.2)⟩, List.forall_mem_nil _⟩⟩, apart_ro2 (by simp [Ent.wr]), ?_⟩
  have hw := hr.mod.size
  simp only [Tree.goal, X.P, X.ev, V.toI_i, V.toB_b, V.toS_s, V.toR_r, V.toV_v, V.toN_n, V.toL_l, SV.ev, CV.ev, Sc.ev, List.getD_cons_zero, List.getD_cons_succ, List.getElem?_cons_zero, List.getElem?_cons_succ, List.map_cons, List.map_nil, List.length_cons, List.length_nil, List.cons_append, List.nil_append, Nat.zero_add, Nat.reduceAdd]
  clear m hr
  intro b1
  refine ⟨fun h0 => ?_, fun h0 => ⟨fun h8 w' hr => ?_, fun h8 w' hr => ?_⟩⟩
  · have hb := hbd h0
    simp only at hb
    intro z1
    refine ⟨by simp only [List.length_map, List.length_nil, List.length_append, List.length_cons]; omega, fun z2 => ⟨by omega, by omega, ?_⟩⟩
    refine ⟨pksA (l ++ [(q, px, py)]), fun w' hr => pksA_snoc (hr.at_ 5 rfl) (hr.at_ 3 rfl) (hr.at_ 4 rfl), fun k hk => ?_, ⟨l ++ [(q, px, py)], s'.drop n.toNat, z2, ?_, ?_, ?_, fun k hk => ?_⟩, ?_⟩
    · rcases pksA_fp hk with h | h | h
      · exact ⟨_, List.mem_of_getElem? (i := 5) rfl, rfl, h⟩
      · exact ⟨_, List.mem_of_getElem? (i := 3) rfl, rfl, h⟩
      · exact ⟨_, List.mem_of_getElem? (i := 4) rfl, rfl, h⟩
    · rw [rx.sc1, ry.sc1]
      simp [encX]
    · rw [List.map_append]
      rw [← hf]
      exact (hstep h0).symm
    · rw [List.length_append, List.length_drop, List.length_append, List.length_cons, List.length_nil]; omega
    · rcases pksA_fp hk with h | h | h
      · exact hfr k h
      · exact Nat.le_trans hw (fx k h.2)
      · exact Nat.le_trans hw (fy k h.2)
    · show (List.drop n.toNat (List.take (s'.length : Int).toNat s')).length < s'.length
      rw [Int.toNat_natCast, List.take_length, List.length_drop]
      omega
  · rw [hend h0, if_pos h8]
    have o := hr.at_ 4 rfl
    refine ⟨x, l, rfl, rfl, hr.mod, owns.reads o, hr.at_ 3 rfl, fun k hk => (hr.own _ (List.mem_of_getElem? (i := 4) rfl) rfl k hk).resolve_right (by simp), hfr⟩
  · rw [hend h0, if_neg h8]
    have o := hr.at_ 4 rfl
    refine ⟨x, l, rfl, rfl, hr.mod, owns.reads o, hr.at_ 3 rfl, fun k hk => (hr.own _ (List.mem_of_getElem? (i := 4) rfl) rfl k hk).resolve_right (by simp), hfr⟩
theorem lists_eq {a b : List PkX} (hl : a.length = b.length) (h : ∀ i, i < a.length → (a.getD i xD).1 = (b.getD i xD).1) : a.map (·.1) = b.map (·.1) := by
  refine List.ext_getElem (by simpa using hl) fun i h1 h2 => ?_
  have h1 : i < a.length := by simpa using h1
  have h2 : i < b.length := by simpa using h2
  have := h i h1
  rw [List.getD_eq_getElem?_getD, List.getD_eq_getElem?_getD, List.getElem?_eq_getElem h1, List.getElem?_eq_getElem h2] at this
  simpa using this
theorem c_SamePackets (w : World) (x y : Value) (a b : List PkX) (ha : readsX w x a) (hb : readsX w y b) (pa : (pksA a).holds w) (pb : (pksA b).holds w) (hs : ∀ t ∈ a, SmallP t.1) (hl : a.length < 1000000000) :
    Calls Tryz.prog 18 #[sc1 x, sc1 y] w fun e w' => e = .returned (.bool (decide (a.map (·.1) = b.map (·.1)))) ∧ Mod [] w w' := by
  refine as_called (run_tree2 (ρ := [.v x, .r (a.map encX), .a (pksA a), .v y, .r (b.map encX), .a (pksA b)]) sxE_ok Tryz.func18 tree_dragomanref_SamePackets rfl rfl (Rel.start2 (by
    refine List.forall_mem_cons.2 ⟨⟨ha, rfl⟩, List.forall_mem_cons.2 ⟨⟨pa, rfl⟩, List.forall_mem_cons.2 ⟨⟨hb, rfl⟩, List.forall_mem_cons.2 ⟨⟨pb, rfl⟩, List.forall_mem_nil _⟩⟩⟩⟩)) rfl rfl ?_) rfl
  simp only [Tree.goal, X.P, X.ev, V.toI_i, V.toB_b, V.toS_s, V.toR_r, V.toV_v, V.toN_n, V.toL_l, SV.ev, CV.ev, Sc.ev, List.getD_cons_zero, List.getD_cons_succ, List.getElem?_cons_zero, List.getElem?_cons_succ, List.map_cons, List.map_nil, List.length_cons, List.length_nil, List.cons_append, List.nil_append, Nat.zero_add, Nat.reduceAdd, List.length_map]
  refine ⟨fun h w' hr => ⟨?_, hr.mod⟩, fun h => ?_⟩
  · have : ¬ a.map (·.1) = b.map (·.1) := fun e => h (by have := congrArg List.length e; simp at this; omega)
    simp [this]
  have hlen : a.length = b.length := by omega
  refine ⟨fun vs => ∃ (i : Nat) (v : V), vs = [v, .i i] ∧ i ≤ a.length ∧ ∀ j, j < i → (a.getD j xD).1 = (b.getD j xD).1, fun vs => a.length - (vs.getD 1 (.i 0)).toI.toNat, ⟨0, _, rfl, by omega, by omega⟩, ?_⟩
  rintro _ - ⟨i, v, rfl, hi, hg⟩
  simp only [Tree.goal, X.P, X.ev, V.toI_i, V.toB_b, V.toS_s, V.toR_r, V.toV_v, V.toN_n, V.toL_l, SV.ev, CV.ev, Sc.ev, List.getD_cons_zero, List.getD_cons_succ, List.getElem?_cons_zero, List.getElem?_cons_succ, List.map_cons, List.map_nil, List.length_cons, List.length_nil, List.cons_append, List.nil_append, Nat.zero_add, Nat.reduceAdd, List.length_map, Int.toNat_natCast]
  refine ⟨fun h2 => ?_, fun h2 w' hr => ⟨?_, hr.mod⟩⟩
  · have hia : i < a.length := by omega
    have hib : i < b.length := by omega
    rw [rowX hia, rowX hib]
    have ma : a.getD i xD ∈ a := by rw [List.getD_eq_getElem?_getD, List.getElem?_eq_getElem hia]; exact List.getElem_mem hia
    have mb : b.getD i xD ∈ b := by rw [List.getD_eq_getElem?_getD, List.getElem?_eq_getElem hib]; exact List.getElem_mem hib
    refine ⟨by omega, by omega, ?_⟩
    refine ⟨[.b (decide ((a.getD i xD).1 = (b.getD i xD).1))], rfl, fun _ w' hr => ?_, ?_⟩
    · have qa := pksA_at (hr.at_ 1 rfl : (pksA a).holds w') ma
      have qb := pksA_at (hr.at_ 3 rfl : (pksA b).holds w') mb
      exact c_SamePacket w' (a.getD i xD).1 (b.getD i xD).1 _ _ _ _ qa.1 qa.2 qb.1 qb.2 (hs _ ma)
    simp only [Tree.goal, X.P, X.ev, V.toI_i, V.toB_b, V.toS_s, V.toR_r, V.toV_v, V.toN_n, V.toL_l, SV.ev, CV.ev, Sc.ev, List.getD_cons_zero, List.getD_cons_succ, List.getElem?_cons_zero, List.getElem?_cons_succ, List.map_cons, List.map_nil, List.length_cons, List.length_nil, List.cons_append, List.nil_append, Nat.zero_add, Nat.reduceAdd]
    refine ⟨fun h3 w' hr => ⟨?_, hr.mod⟩, fun h3 => ⟨by omega, by omega, ⟨i + 1, v, rfl, by omega, fun j hj => ?_⟩, by omega⟩⟩
    · have h3 : ¬ (a.getD i xD).1 = (b.getD i xD).1 := by simpa using h3
      have : ¬ a.map (·.1) = b.map (·.1) := fun e => h3 (by
        have e2 : (a.map (·.1)).getD i (pD 0) = (b.map (·.1)).getD i (pD 0) := by rw [e]
        rw [List.getD_eq_getElem?_getD, List.getD_eq_getElem?_getD, List.getElem?_map, List.getElem?_map, List.getElem?_eq_getElem hia, List.getElem?_eq_getElem hib] at e2
        rw [List.getD_eq_getElem?_getD, List.getD_eq_getElem?_getD, List.getElem?_eq_getElem hia, List.getElem?_eq_getElem hib]
        exact e2)
      simp [this]
    · have h3 : (a.getD i xD).1 = (b.getD i xD).1 := by simpa using h3
      by_cases hji : j = i
      · subst hji; exact h3
      · exact hg j (by omega)
  · have := lists_eq hlen fun j hj => hg j (by omega)
    simp [this]
end Go.Proofs.YtliedecinehijaaGreatDoor

/-
  Packets out of a stream: what holds of Feed, in plain terms. By an AI agent.
-/
set_option linter.unusedSimpArgs false
set_option linter.unusedVariables false
namespace Go.Proofs.YtliedecinehijaaGreatDoor
open Go.Sx

theorem chkT_ne {s : List UInt8} {f : Bool} : 0 ≤ chkT s f ∧ chkT s f ≤ 2 := by
  unfold chkT; (repeat' split) <;> omega
theorem countE_ne (n : Nat) : 0 ≤ countE n ∧ countE n ≤ 2 := by unfold countE; (repeat' split) <;> omega
theorem asksL_ne (k : Int) : ∀ l : List Ak, 0 ≤ asksL k l ∧ asksL k l ≤ 7
  | [] => by simp [asksL]
  | a :: l => by
    have h1 := @chkT_ne a.1 true
    have h2 := asksL_ne k l
    have h3 : 0 ≤ (if k = 8 then askE a else noaskE a) ∧ (if k = 8 then askE a else noaskE a) ≤ 7 := by
      unfold askE noaskE; (repeat' split) <;> omega
    rw [asksL]
    generalize (if k = 8 then askE a else noaskE a) = x at h3 ⊢
    split
    · exact h2
    · exact h3
theorem chkP_ne (p : Pkt) : 0 ≤ chkP p ∧ chkP p ≤ 7 := by
  have h1 := @chkT_ne p.topic false
  have h2 := asksL_ne p.kind p.asks
  have h3 := countE_ne p.asks.length
  have h4 := countE_ne p.codes.length
  unfold chkP partsE pubE connE connackE asksE codesE
  (repeat' split) <;> omega
theorem decD_ne (s : List UInt8) : 0 ≤ (decD s).2 ∧ (decD s).2 ≤ 7 := by
  have := chkP_ne (readP s).1
  unfold decD
  (repeat' split) <;> simp only <;> omega
/-- A long number that is whole, or wrong, stays so. -/
theorem glF_more (t : List UInt8) : ∀ (f i n : Nat) (l : List UInt8), (glF f i n l).2.2 ≠ 8 → glF f i n (l ++ t) = glF f i n l
  | 0, i, n, l, _ => rfl
  | f + 1, i, n, [], h => absurd rfl h
  | f + 1, i, n, c :: l, h => by
    simp only [List.cons_append, glF] at h ⊢
    split
    · rfl
    · rename_i hc
      rw [if_neg hc] at h
      exact glF_more t f (i + 1) _ l h
theorem getL_more {s : List UInt8} (t : List UInt8) (h0 : s ≠ []) (h : (getL s 1).2.2 ≠ 8) : getL (s ++ t) 1 = getL s 1 := by
  have hl : 1 ≤ s.length := List.length_pos_iff.2 h0
  have e1 : getL s 1 = glF 4 0 0 (s.drop (1 : Int).toNat) := by rw [getL, if_pos (by omega)]
  have e2 : getL (s ++ t) 1 = glF 4 0 0 ((s ++ t).drop (1 : Int).toNat) := by rw [getL, if_pos (by rw [List.length_append]; omega)]
  rw [e1] at h ⊢
  rw [e2]
  have e : (s ++ t).drop (1 : Int).toNat = s.drop (1 : Int).toNat ++ t := by
    rw [List.drop_append_of_le_length (by simpa using hl)]
  rw [e]
  exact glF_more t 4 0 0 _ h
theorem sizeF_more {s : List UInt8} (t : List UInt8) (h : (sizeF s).2 ≠ 8) : sizeF (s ++ t) = sizeF s := by
  by_cases h0 : s = []
  · rw [sizeF, if_pos h0] at h; exact absurd rfl h
  have h1 : s ++ t ≠ [] := fun e => h0 (List.append_eq_nil_iff.1 e).1
  rw [sizeF, if_neg h0] at h
  by_cases h2 : (getL s 1).2.2 = 8
  · rw [h2] at h; exact absurd rfl h
  have hg := getL_more t h0 h2
  rw [sizeF, if_neg h1, hg]
  conv => rhs; rw [sizeF, if_neg h0]
  split
  · rfl
  · split
    · rfl
    · rename_i h3 h4
      rw [if_neg h3, if_neg h4] at h
      split at h
      · exact absurd rfl h
      · rename_i h5
        rw [if_neg h5, if_neg (by rw [List.length_append]; omega)]
theorem nextF_more {s : List UInt8} (t : List UInt8) (h : (nextF s).2.2 ≠ 8) : nextF (s ++ t) = nextF s := by
  have h1 : (sizeF s).2 ≠ 8 := fun e => h (by rw [nextF, if_pos (by rw [e]; decide)]; exact e)
  rw [nextF, sizeF_more t h1]
  conv => rhs; rw [nextF]
  split
  · rfl
  · rename_i h2
    have := sizeF_ok (s := s) (by omega)
    rw [List.take_append_of_le_length (by omega)]
theorem nextF_eight {s : List UInt8} : (nextF s).2.2 = 8 ↔ (sizeF s).2 = 8 := by
  unfold nextF
  split
  · exact Iff.rfl
  · rename_i h
    have := decD_ne (s.take (sizeF s).1.toNat)
    simp only
    constructor <;> intro h2 <;> omega
theorem feedF_out : ∀ (f : Nat) (s : List UInt8) (out : List Pkt), feedF f s out = (out ++ (feedF f s []).1, (feedF f s []).2)
  | 0, s, out => by simp [feedF]
  | f + 1, s, out => by
    rw [feedF, feedF]
    split
    · rw [feedF_out f _ (out ++ _), feedF_out f _ ([] ++ _)]
      simp
    · split <;> simp
theorem feed_step {s : List UInt8} (h : (nextF s).2.2 = 0) : feed s = ((nextF s).1 :: (feed (s.drop (nextF s).2.1.toNat)).1, (feed (s.drop (nextF s).2.1.toNat)).2) := by
  rw [feed, feedF_step h, feedF_out]; rfl
theorem feed_short {s : List UInt8} (h : (nextF s).2.2 = 8) : feed s = ([], s, 0) := by
  rw [feed, feedF, if_neg (by rw [h]; decide), if_pos h]
theorem feed_err {s : List UInt8} (h : (nextF s).2.2 ≠ 0) (h8 : (nextF s).2.2 ≠ 8) : feed s = ([], [], (nextF s).2.2) := by
  rw [feed, feedF, if_neg h, if_neg h8]
/-- Bytes that come later. -/
theorem feed_more (t : List UInt8) : ∀ (k : Nat) (s : List UInt8), s.length ≤ k → feed (s ++ t) = if (feed s).2.2 = 0 then ((feed s).1 ++ (feed ((feed s).2.1 ++ t)).1, (feed ((feed s).2.1 ++ t)).2) else feed s
  | k, s, hk => by
    by_cases h0 : (nextF s).2.2 = 0
    · have hb := nextF_bd h0
      have hn := nextF_more t (s := s) (by rw [h0]; decide)
      have h0' : (nextF (s ++ t)).2.2 = 0 := by rw [hn]; exact h0
      obtain ⟨k', rfl⟩ : ∃ k', k = k' + 1 := ⟨k - 1, by omega⟩
      have e : (s ++ t).drop (nextF s).2.1.toNat = s.drop (nextF s).2.1.toNat ++ t := by rw [List.drop_append_of_le_length (by omega)]
      have ih := feed_more t k' (s.drop (nextF s).2.1.toNat) (by rw [List.length_drop]; omega)
      rw [feed_step h0', hn, e, ih, feed_step h0]
      simp only
      split
      · simp
      · rfl
    · by_cases h8 : (nextF s).2.2 = 8
      · rw [feed_short h8, if_pos rfl]
        simp
      · have hn := nextF_more t h8
        rw [feed_err h0 h8, if_neg h0, feed_err (by rw [hn]; exact h0) (by rw [hn]; exact h8), hn]
theorem feed_nil : feed [] = ([], [], 0) := feed_short (by rw [nextF_eight]; rfl)
/-- Packets that are encoded come out. -/
theorem next_bytes {p : Pkt} (h : chkP p = 0) (hl : (bytesP p).length ≤ 600) (t : List UInt8) : nextF (bytesP p ++ t) = (p, (((bytesP p).length : Nat) : Int), 0) := by
  have hb := (chk_form h).2
  have hg := getL_bytes (p := p) (by omega) t
  have hlen : (bytesP p).length = 1 + (lngB 3 (bodyB p).length).length + (bodyB p).length := by simp only [bytesP, List.length_append, numB_len]
  have hs : sizeF (bytesP p ++ t) = ((((bytesP p).length : Nat) : Int), 0) := by
    rw [sizeF, if_neg (fun e => bytesP_ne p (List.append_eq_nil_iff.1 e).1), hg]
    simp only [ne_eq, not_true_eq_false, if_false]
    rw [if_neg (by omega), if_neg (by rw [List.length_append]; omega)]
    simp only [Prod.mk.injEq, and_true]
    omega
  rw [nextF, hs, if_neg (by simp)]
  simp only [Int.toNat_natCast, List.take_left]
  rw [decD_back h]
theorem feed_many : ∀ l : List Pkt, (∀ p ∈ l, chkP p = 0 ∧ (bytesP p).length ≤ 600) → feed (l.map bytesP).flatten = (l, [], 0)
  | [], _ => feed_nil
  | p :: l, h => by
    obtain ⟨h1, h2⟩ := h p (List.mem_cons_self ..)
    have hn := next_bytes h1 h2 (l.map bytesP).flatten
    have ih := feed_many l fun q hq => h q (List.mem_cons_of_mem _ hq)
    rw [List.map_cons, List.flatten_cons, feed_step (by rw [hn]), hn]
    simp only [Int.toNat_natCast, List.drop_left, ih]
end Go.Proofs.YtliedecinehijaaGreatDoor

/-
  Packets out of a stream: the laws FramePieces, FrameMany, walked. By an AI agent.
-/
set_option linter.unusedSimpArgs false
set_option linter.unusedVariables false
namespace Go.Proofs.YtliedecinehijaaGreatDoor
open Go.Sx
theorem pksA_app {a b : List PkX} {w : World} (h1 : (pksA a).holds w) (h2 : (pksA b).holds w) : (pksA (a ++ b)).holds w := by
  intro x hx
  rw [List.flatMap_append, List.mem_append] at hx
  exact hx.elim (h1 x) (h2 x)
theorem feed_small : ∀ (k : Nat) (s : List UInt8), s.length ≤ k → s.length ≤ 60000000 → (∀ p ∈ (feed s).1, SmallP p) ∧ (feed s).1.length ≤ s.length
  | k, s, hk, hs => by
    by_cases h0 : (nextF s).2.2 = 0
    · have hb := nextF_bd h0
      obtain ⟨k', rfl⟩ : ∃ k', k = k' + 1 := ⟨k - 1, by omega⟩
      obtain ⟨i1, i2⟩ := feed_small k' (s.drop (nextF s).2.1.toNat) (by rw [List.length_drop]; omega) (by rw [List.length_drop]; omega)
      rw [feed_step h0]
      refine ⟨fun p hp => ?_, ?_⟩
      · rcases List.mem_cons.1 hp with rfl | hp
        · rw [(nextF_ok h0).2.2.1]
          exact decD_small (by rw [List.length_take]; omega)
        · exact i1 p hp
      · rw [List.length_drop] at i2
        simp only [List.length_cons]; omega
    · by_cases h8 : (nextF s).2.2 = 8
      · rw [feed_short h8]; simp
      · rw [feed_err h0 h8]; simp
theorem small_of {l : List PkX} {s : List UInt8} (h : l.map (·.1) = (feed s).1) (hs : s.length ≤ 60000000) : (∀ t ∈ l, SmallP t.1) ∧ l.length < 1000000000 := by
  obtain ⟨h1, h2⟩ := feed_small _ s (Nat.le_refl _) hs
  refine ⟨fun t ht => h1 _ (by rw [← h]; exact List.mem_map_of_mem ht), ?_⟩
  have := congrArg List.length h
  rw [List.length_map] at this
  omega
theorem feed_pub : feed ([50, 9, 0] ++ ([3, 97, 47, 98, 0, 10, 104, 105] ++ [50, 9, 0, 3, 97, 47, 98, 0, 10, 104, 105] ++ [48])) = ([pubP, pubP], [48], 0) := by decide +kernel
theorem c_frameBegun (w : World) : Calls Tryz.prog 17 #[] w fun e w' => e = .returned (.bool true) ∧ Mod [] w w' := by
  refine as_called (run_plain2 (ρ := []) sxE_ok Tryz.func17 tree_dragomanlaw_frameBegun rfl rfl rfl ?_) rfl
  simp only [Tree.goal, X.P, X.ev, V.toI_i, V.toB_b, V.toS_s, V.toR_r, V.toV_v, V.toN_n, V.toL_l, SV.ev, CV.ev, Sc.ev, List.getD_cons_zero, List.getD_cons_succ, List.getElem?_cons_zero, List.getElem?_cons_succ, List.map_cons, List.map_nil, List.length_cons, List.length_nil, List.cons_append, List.nil_append, Nat.zero_add, Nat.reduceAdd]
  intro w1 hr; refine (c_pub w1).mono ?_; rintro e w2 ⟨rfl, m⟩; refine ⟨[.i 3, .b false, .b false, .b false, .b false, .i 1, .i 10, .i 0, .i 0, .s [], .s [97, 47, 98], .s [104, 105], .v nilV, .r [], .v nilV, .r []], rfl, rfl, m, List.forall_mem_nil _, List.forall_mem_cons.2 ⟨⟨readsA_nil _, fun k hk => absurd rfl hk.1⟩, List.forall_mem_cons.2 ⟨⟨readsI_nil _, fun k hk => absurd rfl hk.1⟩, List.forall_mem_nil _⟩⟩, apart_ro2 (by simp [Ent.wr]), ?_⟩; simp only [Tree.goal, X.P, X.ev, V.toI_i, V.toB_b, V.toS_s, V.toR_r, V.toV_v, V.toN_n, V.toL_l, SV.ev, CV.ev, Sc.ev, List.getD_cons_zero, List.getD_cons_succ, List.getElem?_cons_zero, List.getElem?_cons_succ, List.map_cons, List.map_nil, List.length_cons, List.length_nil, List.cons_append, List.nil_append, Nat.zero_add, Nat.reduceAdd]; clear m hr
  refine ⟨[.s (if chkP pubP = 0 then bytesP pubP else []), .i (chkP pubP)], rfl, fun _ w' hr => c_PEncode w' pubP nilV nilV (readsA_nil _) (readsI_nil _) pubP_small, ?_⟩
  simp only [Tree.goal, X.P, X.ev, V.toI_i, V.toB_b, V.toS_s, V.toR_r, V.toV_v, V.toN_n, V.toL_l, SV.ev, CV.ev, Sc.ev, List.getD_cons_zero, List.getD_cons_succ, List.getElem?_cons_zero, List.getElem?_cons_succ, List.map_cons, List.map_nil, List.length_cons, List.length_nil, List.cons_append, List.nil_append, Nat.zero_add, Nat.reduceAdd, pubP_ok, if_true, pubP_bytes]
  refine ⟨fun h => absurd h (by decide), fun _ => ⟨by decide, by decide, by decide, ?_⟩⟩
  intro w1 hr
  refine (c_Feed w1 [50, 9, 0] ([3, 97, 47, 98, 0, 10, 104, 105] ++ [50, 9, 0, 3, 97, 47, 98, 0, 10, 104, 105] ++ [48]) (by decide)).mono ?_
  rw [feed_pub]
  rintro e w2 ⟨x, l, rfl, hl, m, rX, pX, fX, fP⟩; refine ⟨[.v x, .r (l.map encX), .s _, .i _, .a (pksA l)], rfl, rfl, m, List.forall_mem_nil _, List.forall_mem_cons.2 ⟨⟨rX, fun k hk => .inl (fX k hk.2)⟩, List.forall_mem_cons.2 ⟨⟨pX, fun k hk => .inl (fP k hk)⟩, List.forall_mem_nil _⟩⟩, apart_ro2 (by simp [Ent.wr]), ?_⟩; simp only [Tree.goal, X.P, X.ev, V.toI_i, V.toB_b, V.toS_s, V.toR_r, V.toV_v, V.toN_n, V.toL_l, SV.ev, CV.ev, Sc.ev, List.getD_cons_zero, List.getD_cons_succ, List.getElem?_cons_zero, List.getElem?_cons_succ, List.map_cons, List.map_nil, List.length_cons, List.length_nil, List.cons_append, List.nil_append, Nat.zero_add, Nat.reduceAdd]; clear m hr rX pX fX fP
  refine ⟨fun _ => ?_, fun h => absurd ⟨trivial, trivial⟩ h⟩
  intro w1 hr; refine (c_pub w1).mono ?_; rintro e w2 ⟨rfl, m⟩; refine ⟨[.i 3, .b false, .b false, .b false, .b false, .i 1, .i 10, .i 0, .i 0, .s [], .s [97, 47, 98], .s [104, 105], .v nilV, .r [], .v nilV, .r []], rfl, rfl, m, List.forall_mem_nil _, List.forall_mem_cons.2 ⟨⟨readsA_nil _, fun k hk => absurd rfl hk.1⟩, List.forall_mem_cons.2 ⟨⟨readsI_nil _, fun k hk => absurd rfl hk.1⟩, List.forall_mem_nil _⟩⟩, apart_ro2 (by simp [Ent.wr]), ?_⟩; simp only [Tree.goal, X.P, X.ev, V.toI_i, V.toB_b, V.toS_s, V.toR_r, V.toV_v, V.toN_n, V.toL_l, SV.ev, CV.ev, Sc.ev, List.getD_cons_zero, List.getD_cons_succ, List.getElem?_cons_zero, List.getElem?_cons_succ, List.map_cons, List.map_nil, List.length_cons, List.length_nil, List.cons_append, List.nil_append, Nat.zero_add, Nat.reduceAdd]; clear m hr
  intro w1 hr; refine (c_pub w1).mono ?_; rintro e w2 ⟨rfl, m⟩; refine ⟨[.i 3, .b false, .b false, .b false, .b false, .i 1, .i 10, .i 0, .i 0, .s [], .s [97, 47, 98], .s [104, 105], .v nilV, .r [], .v nilV, .r []], rfl, rfl, m, List.forall_mem_nil _, List.forall_mem_cons.2 ⟨⟨readsA_nil _, fun k hk => absurd rfl hk.1⟩, List.forall_mem_cons.2 ⟨⟨readsI_nil _, fun k hk => absurd rfl hk.1⟩, List.forall_mem_nil _⟩⟩, apart_ro2 (by simp [Ent.wr]), ?_⟩; simp only [Tree.goal, X.P, X.ev, V.toI_i, V.toB_b, V.toS_s, V.toR_r, V.toV_v, V.toN_n, V.toL_l, SV.ev, CV.ev, Sc.ev, List.getD_cons_zero, List.getD_cons_succ, List.getElem?_cons_zero, List.getElem?_cons_succ, List.map_cons, List.map_nil, List.length_cons, List.length_nil, List.cons_append, List.nil_append, Nat.zero_add, Nat.reduceAdd]; clear m hr
  intro z1
  have hsm := small_of (s := [50, 9, 0] ++ ([3, 97, 47, 98, 0, 10, 104, 105] ++ [50, 9, 0, 3, 97, 47, 98, 0, 10, 104, 105] ++ [48])) (l := l) (by rw [feed_pub]; exact hl) (by decide)
  refine ⟨[.b (decide (l.map (·.1) = [(pubP, nilV, nilV), (pubP, nilV, nilV)].map (·.1)))], rfl, fun _ w' hr => c_SamePackets w' x z1 l [(pubP, nilV, nilV), (pubP, nilV, nilV)] (by first | exact hr.at_ 0 rfl | exact hr.at_ 1 rfl | exact hr.at_ 2 rfl | exact hr.at_ 3 rfl | exact hr.at_ 4 rfl | exact hr.at_ 5 rfl | exact hr.at_ 6 rfl | exact hr.at_ 7 rfl | exact hr.at_ 8 rfl | exact hr.at_ 9 rfl | exact hr.at_ 10 rfl | exact hr.at_ 11 rfl) (owns.reads (hr.at_ 0 rfl)) (by first | exact hr.at_ 0 rfl | exact hr.at_ 1 rfl | exact hr.at_ 2 rfl | exact hr.at_ 3 rfl | exact hr.at_ 4 rfl | exact hr.at_ 5 rfl | exact hr.at_ 6 rfl | exact hr.at_ 7 rfl | exact hr.at_ 8 rfl | exact hr.at_ 9 rfl | exact hr.at_ 10 rfl | exact hr.at_ 11 rfl) ?_ hsm.1 hsm.2, ?_⟩
  · exact pksA_snoc (l := [(pubP, nilV, nilV)]) (pksA_snoc (l := []) (pksA_nil _) (readsA_nil _) (readsI_nil _)) (readsA_nil _) (readsI_nil _)
  simp only [Tree.goal, X.P, X.ev, V.toI_i, V.toB_b, V.toS_s, V.toR_r, V.toV_v, V.toN_n, V.toL_l, SV.ev, CV.ev, Sc.ev, List.getD_cons_zero, List.getD_cons_succ, List.getElem?_cons_zero, List.getElem?_cons_succ, List.map_cons, List.map_nil, List.length_cons, List.length_nil, List.cons_append, List.nil_append, Nat.zero_add, Nat.reduceAdd]
  exact fun w' hr => ⟨by simp [hl], hr.mod⟩
theorem feed_cut (s : List UInt8) (c m : Nat) (hc : c ≤ s.length) (hm : m ≤ s.length - c) :
    s = s.take c ++ (((s.take (c + m)).drop c) ++ s.drop (c + m)) := by
  have e : (s.take (c + m)).drop c = (s.drop c).take m := by rw [List.drop_take]; congr 1; omega
  rw [e, ← List.drop_drop, List.take_append_drop, List.take_append_drop]
/-- A packet that a stream can bear. -/
def goodX (t : PkX) : Bool := decide (chkP t.1 = 0) && decide ((bytesP t.1).length ≤ 600)
def goodsX (l : List PkX) (i : Nat) : List PkX := (l.take i).filter goodX
theorem goodsX_step {l : List PkX} {i : Nat} (h : i < l.length) : goodsX l (i + 1) = if goodX (l.getD i xD) = true then goodsX l i ++ [l.getD i xD] else goodsX l i := by
  unfold goodsX
  rw [List.take_add_one, List.getD_eq_getElem?_getD, List.getElem?_eq_getElem h]
  simp only [Option.toList_some, Option.getD_some, List.filter_append, List.filter_cons, List.filter_nil]
  split <;> simp
theorem goods_len (l : List PkX) (h : ∀ t ∈ l, goodX t = true) : (l.map fun t => bytesP t.1).flatten.length ≤ 600 * l.length := by
  induction l with
  | nil => simp
  | cons t l ih =>
    have h1 := h t (List.mem_cons_self ..)
    simp only [goodX, Bool.and_eq_true, decide_eq_true_eq] at h1
    have h2 := ih fun x hx => h x (List.mem_cons_of_mem _ hx)
    simp only [List.map_cons, List.flatten_cons, List.length_append, List.length_cons]
    omega
theorem goodsX_good (l : List PkX) (i : Nat) : ∀ t ∈ goodsX l i, goodX t = true ∧ t ∈ l := fun t ht => by
  unfold goodsX at ht
  rw [List.mem_filter] at ht
  exact ⟨ht.2, List.mem_of_mem_take ht.1⟩
theorem goodsX_len (l : List PkX) (i : Nat) : (goodsX l i).length ≤ i := by
  unfold goodsX
  exact Nat.le_trans (List.length_filter_le _ _) (by rw [List.length_take]; omega)
end Go.Proofs.YtliedecinehijaaGreatDoor

/-
  Packets: the reference's check, walked. By an AI agent.
-/
set_option linter.unusedSimpArgs false
set_option linter.unusedVariables false
namespace Go.Proofs.YtliedecinehijaaGreatDoor
open Go.Sx
theorem c_IsClient (w : World) (s : List UInt8) (hs : s.length < 1099511627776) : Calls Tryz.prog 50 #[.string ⟨s.toArray⟩] w fun e w' => e = .returned (.bool (cliB s)) ∧ Mod [] w w' := by
  refine as_called (run_plain2 (ρ := [.s s]) sxE_ok Tryz.func50 tree_dragomanref_IsClient rfl rfl rfl ?_) rfl
  simp only [Tree.goal, X.P, X.ev, V.toI_i, V.toB_b, V.toS_s, V.toR_r, V.toV_v, V.toN_n, V.toL_l, SV.ev, CV.ev, Sc.ev, List.getD_cons_zero, List.getD_cons_succ, List.getElem?_cons_zero, List.getElem?_cons_succ, List.map_cons, List.map_nil, List.length_cons, List.length_nil, List.cons_append, List.nil_append, Nat.zero_add, Nat.reduceAdd]
  refine ⟨[.b (plainS s)], rfl, fun _ w' _ => c_IsPlain w' s hs, ?_⟩
  simp only [Tree.goal, X.P, X.ev, V.toI_i, V.toB_b, V.toS_s, V.toR_r, V.toV_v, V.toN_n, V.toL_l, SV.ev, CV.ev, Sc.ev, List.getD_cons_zero, List.getD_cons_succ, List.getElem?_cons_zero, List.getElem?_cons_succ, List.map_cons, List.map_nil, List.length_cons, List.length_nil, List.cons_append, List.nil_append, Nat.zero_add, Nat.reduceAdd]
  exact fun w' hr => ⟨by simp [cliB], hr.mod⟩
theorem c_flag (w : World) (b : Bool) (n : Int) : Calls Tryz.prog 54 #[.bool b, .int .i64 n] w fun e w' => e = .returned (.int .i64 (bit b n)) ∧ Mod [] w w' := by
  refine as_called (run_plain2 (ρ := [.b b, .i n]) sxE_ok Tryz.func54 tree_dragomanref_flag rfl rfl rfl ?_) rfl
  simp only [Tree.goal, X.P, X.ev, V.toI_i, V.toB_b, V.toS_s, V.toR_r, V.toV_v, V.toN_n, V.toL_l, SV.ev, CV.ev, Sc.ev, List.getD_cons_zero, List.getD_cons_succ, List.getElem?_cons_zero, List.getElem?_cons_succ, List.map_cons, List.map_nil, List.length_cons, List.length_nil, List.cons_append, List.nil_append, Nat.zero_add, Nat.reduceAdd]
  exact ⟨fun h w' hr => ⟨by rw [bit, if_pos h], hr.mod⟩, fun h w' hr => ⟨by rw [bit, if_neg h], hr.mod⟩⟩
/-- The document's check of what a kind names. -/
def formR (p : Pkt) : Bool :=
  !decide ((p.kind ≠ 1 ∧ (p.client ≠ [] ∨ p.clean = true ∨ p.keep ≠ 0)) ∨ (p.kind ≠ 2 ∧ (p.session = true ∨ p.code ≠ 0)) ∨ (p.kind ≠ 3 ∧ (p.dup = true ∨ p.retain = true ∨ p.qos ≠ 0 ∨ p.topic ≠ [] ∨ p.payload ≠ [])) ∨
    (¬ (3 ≤ p.kind ∧ p.kind ≤ 4) ∧ ¬ (8 ≤ p.kind ∧ p.kind ≤ 11) ∧ p.id ≠ 0) ∨ (p.kind ≠ 8 ∧ p.kind ≠ 10 ∧ p.asks ≠ []) ∨ (p.kind ≠ 9 ∧ p.codes ≠ []))
theorem formR_iff (p : Pkt) : formR p = true ↔ emptyB (bareP p) = true := by
  rw [empty_iff, bare_iff]
  unfold formR
  simp only [Bool.not_eq_true', decide_eq_false_iff_not, not_or, not_and, Classical.not_not, Bool.not_eq_true]
  grind
/-- What is wrong with what a kind names alone. -/
def headE (p : Pkt) : Int := if p.kind = 1 then connE p else if p.kind = 2 then connackE p else if p.kind = 3 then pubE p else 0
theorem chkP_ref (p : Pkt) : chkP p = if kindB p.kind = true then (if emptyB (bareP p) = true then (if headE p = 0 then (if idB p = true ∧ ¬ (1 ≤ p.id ∧ p.id ≤ 65535) then 3 else
    (if (p.kind = 8 ∨ p.kind = 10) ∧ countE p.asks.length ≠ 0 then countE p.asks.length else if asksL p.kind p.asks ≠ 0 then asksL p.kind p.asks else if p.kind = 9 ∧ countE p.codes.length ≠ 0 then countE p.codes.length else if p.codes.any codeB = true then 3 else 0)) else headE p) else 1) else 7 := by
  unfold chkP
  split
  rotate_left
  · rfl
  split
  rotate_left
  · rfl
  rename_i hk he
  have hb := (bare_iff p).1 ((empty_iff p).1 he)
  obtain ⟨b1, b2, b3, b4, b5, b6⟩ := hb
  have n1 : p.kind = 1 ∨ p.kind = 2 → idB p = false := fun h => by unfold idB; rcases h with h | h <;> simp [h]
  have z1 : ¬ (p.kind = 8 ∨ p.kind = 10) → p.asks = [] := fun h => b5 (by omega)
  have z2 : p.kind ≠ 9 → p.codes = [] := fun h => b6 h
  by_cases k1 : p.kind = 1
  · rw [if_neg (by omega), partsE, if_pos k1, headE, if_pos k1, n1 (.inl k1), z1 (by omega), z2 (by omega)]
    simp [asksL, k1]
  by_cases k2 : p.kind = 2
  · rw [if_neg (by omega), partsE, if_neg k1, if_pos k2, headE, if_neg k1, if_pos k2, n1 (.inr k2), z1 (by omega), z2 (by omega)]
    simp [asksL, k2]
  by_cases k3 : p.kind = 3
  · rw [partsE, if_neg k1, if_neg k2, if_pos k3, headE, if_neg k1, if_neg k2, if_pos k3, z1 (by omega), z2 (by omega)]
    by_cases h0 : pubE p = 0
    · rw [if_neg (by simp [h0]), if_pos h0, h0]
      simp [asksL, k3]
    · rw [if_pos ⟨k3, h0⟩, if_neg h0]
  rw [if_neg (by omega), headE, if_neg k1, if_neg k2, if_neg k3, if_pos rfl, partsE, if_neg k1, if_neg k2, if_neg k3]
  split
  · rfl
  by_cases k8 : p.kind = 8 ∨ p.kind = 10
  · rw [if_pos k8, z2 (by omega), asksE]
    by_cases h0 : countE p.asks.length = 0
    · rw [if_pos h0, if_neg (show ¬ ((p.kind = 8 ∨ p.kind = 10) ∧ countE p.asks.length ≠ 0) from fun h => h.2 h0)]
      by_cases h1 : asksL p.kind p.asks = 0
      · rw [if_neg (show ¬ asksL p.kind p.asks ≠ 0 from fun h => h h1), h1, if_neg (show ¬ (p.kind = 9 ∧ _) from fun h => by omega)]; rfl
      · rw [if_pos h1]
    · rw [if_neg h0, if_pos ⟨k8, h0⟩]
  · have e0 : asksL p.kind [] = 0 := rfl
    rw [if_neg k8, if_neg (show ¬ ((p.kind = 8 ∨ p.kind = 10) ∧ countE p.asks.length ≠ 0) from fun h => k8 h.1), z1 k8, e0, if_neg (show ¬ (0 : Int) ≠ 0 from fun h => h rfl)]
    by_cases k9 : p.kind = 9
    · rw [if_pos k9, codesE]
      by_cases h0 : countE p.codes.length = 0
      · rw [if_pos h0, if_neg (show ¬ (p.kind = 9 ∧ countE p.codes.length ≠ 0) from fun h => h.2 h0)]
      · rw [if_neg h0, if_pos ⟨k9, h0⟩]
    · rw [if_neg k9, if_neg (show ¬ (p.kind = 9 ∧ countE p.codes.length ≠ 0) from fun h => k9 h.1), z2 k9]; rfl
section
variable (w : World) (p : Pkt) (u v : Value) (hu : readsA w u p.asks) (hv : readsI w v p.codes) (hs : SmallP p)
include hu hv
theorem c_HasId : Calls Tryz.prog 51 #[pV p u v] w fun e w' => e = .returned (.bool (idB p)) ∧ Mod [] w w' := by
  refine as_called (run_tree2 (ρ := [.i p.kind, .b p.dup, .b p.retain, .b p.clean, .b p.session, .i p.qos, .i p.id, .i p.keep, .i p.code, .s p.client, .s p.topic, .s p.payload, .v u, .r (p.asks.map encA), .v v, .r (p.codes.map encI)]) sxE_ok Tryz.func51 tree_dragomanref_HasId rfl rfl (Rel.start2 (by simp [Ent.holds, Ent.wr, hu, hv, X.ev])) rfl rfl ?_) rfl
  simp only [Tree.goal, X.P, X.ev, V.toI_i, V.toB_b, V.toS_s, V.toR_r, V.toV_v, V.toN_n, V.toL_l, SV.ev, CV.ev, Sc.ev, List.getD_cons_zero, List.getD_cons_succ, List.getElem?_cons_zero, List.getElem?_cons_succ, List.map_cons, List.map_nil, List.length_cons, List.length_nil, List.cons_append, List.nil_append, Nat.zero_add, Nat.reduceAdd]
  intro b
  refine ⟨fun h w' hr => ⟨?_, hr.mod⟩, fun h w' hr => ⟨?_, hr.mod⟩⟩
  · simp only [Ending.returned.injEq, Value.bool.injEq, idB]; symm; rw [decide_eq_true_eq]; omega
  · simp only [Ending.returned.injEq, Value.bool.injEq, idB]
    rw [← Bool.decide_and]
    exact decide_eq_decide.2 (by omega)
include hs
theorem c_CheckPacket : Calls Tryz.prog 9 #[pV p u v] w fun e w' => e = .returned (.int .i64 (chkP p)) ∧ Mod [] w w' := by
  refine as_called (run_tree2 (ρ := [.i p.kind, .b p.dup, .b p.retain, .b p.clean, .b p.session, .i p.qos, .i p.id, .i p.keep, .i p.code, .s p.client, .s p.topic, .s p.payload, .v u, .r (p.asks.map encA), .v v, .r (p.codes.map encI)]) (sxE_ok.joins _) Tryz.func9 tree_dragomanref_CheckPacket rfl rfl (Rel.start2 (by simp [Ent.holds, Ent.wr, hu, hv, X.ev])) rfl rfl ?_) rfl
  have h1 := hs.client; have h2 := hs.topic; have h3 := hs.payload; have h4 := hs.asks; have h5 := hs.codes
  have hf := hs.at_
  simp only [Tree.goal, X.P, X.ev, V.toI_i, V.toB_b, V.toS_s, V.toR_r, V.toV_v, V.toN_n, V.toL_l, SV.ev, CV.ev, Sc.ev, List.getD_cons_zero, List.getD_cons_succ, List.getElem?_cons_zero, List.getElem?_cons_succ, List.map_cons, List.map_nil, List.length_cons, List.length_nil, List.cons_append, List.nil_append, Nat.zero_add, Nat.reduceAdd, List.length_map]
  intro b
  refine ⟨fun vs => (vs.getD 3 (.i 0)).toB = !kindB p.kind, ⟨fun h => ?_, fun h => ?_⟩, ?_⟩
  · have e : kindB p.kind = (decide (8 ≤ p.kind) && decide (p.kind ≤ 14)) := by unfold kindB; rw [← Bool.decide_and]; exact decide_eq_decide.2 (by omega)
    rw [e]; rfl
  · have e : kindB p.kind = true := by unfold kindB; rw [decide_eq_true_eq]; omega
    rw [e]; rfl
  intro vs hl hI
  match vs, hl, hI with
  | [x0, x1, x2, x3], _, hI =>
  simp only [Tree.goal, X.P, X.ev, V.toI_i, V.toB_b, V.toS_s, V.toR_r, V.toV_v, V.toN_n, V.toL_l, SV.ev, CV.ev, Sc.ev, List.getD_cons_zero, List.getD_cons_succ, List.getElem?_cons_zero, List.getElem?_cons_succ, List.map_cons, List.map_nil, List.length_cons, List.length_nil, List.cons_append, List.nil_append, Nat.zero_add, Nat.reduceAdd, List.length_map] at hI ⊢
  rw [chkP_ref, hI]
  refine ⟨fun h w' hr => ⟨by rw [if_neg (by simpa using h)], hr.mod⟩, fun h => ?_⟩
  have hk : kindB p.kind = true := by simpa using h
  rw [if_pos hk]
  clear h
  have l0 : ∀ l : List Ak, (0 < (l.length : Int)) ↔ l ≠ [] := fun l => by rw [← List.length_pos_iff]; omega
  have l1 : ∀ l : List Int, (0 < (l.length : Int)) ↔ l ≠ [] := fun l => by rw [← List.length_pos_iff]; omega
  have fR := formR_iff p
  have bad : formR p = false → (if emptyB (bareP p) = true then (if headE p = 0 then (if idB p = true ∧ ¬ (1 ≤ p.id ∧ p.id ≤ 65535) then (3 : Int) else
    (if (p.kind = 8 ∨ p.kind = 10) ∧ countE p.asks.length ≠ 0 then countE p.asks.length else if asksL p.kind p.asks ≠ 0 then asksL p.kind p.asks else if p.kind = 9 ∧ countE p.codes.length ≠ 0 then countE p.codes.length else if p.codes.any codeB = true then 3 else 0)) else headE p) else 1) = 1 := fun h => by
    rw [if_neg (fun hh => by rw [fR.2 hh] at h; cases h)]
  refine ⟨fun h w' hr => ⟨?_, hr.mod⟩, fun g1 => ⟨fun h w' hr => ⟨?_, hr.mod⟩, fun g2 => ?_⟩⟩
  · rw [bad]; simp only [formR, Bool.not_eq_false', decide_eq_true_eq]; grind
  · rw [bad]; simp only [formR, Bool.not_eq_false', decide_eq_true_eq]; grind
  refine ⟨fun vs => (vs.getD 9 (.i 0)).toB = !formR p, ⟨fun h => ?_, fun h => ?_⟩, ?_⟩
  · simp only [List.getD_cons_succ, List.getD_cons_zero, V.toB_b, formR, Bool.not_not]
    rw [Bool.eq_iff_iff]
    simp only [Bool.or_eq_true, Bool.and_eq_true, Bool.not_eq_true', decide_eq_true_eq, decide_eq_false_iff_not, Bool.and_eq_false_iff, l0, l1]
    grind
  · simp only [List.getD_cons_succ, List.getD_cons_zero, V.toB_b, formR, Bool.not_not]
    rw [Bool.eq_iff_iff]
    simp only [Bool.or_eq_true, Bool.and_eq_true, Bool.not_eq_true', decide_eq_true_eq, decide_eq_false_iff_not, Bool.and_eq_false_iff, l0, l1]
    grind
  intro vs hl hI
  match vs, hl, hI with
  | [y0, y1, y2, y3, y4, y5, y6, y7, y8, y9], _, hI =>
  simp only [Tree.goal, X.P, X.ev, V.toI_i, V.toB_b, V.toS_s, V.toR_r, V.toV_v, V.toN_n, V.toL_l, SV.ev, CV.ev, Sc.ev, List.getD_cons_zero, List.getD_cons_succ, List.getElem?_cons_zero, List.getElem?_cons_succ, List.map_cons, List.map_nil, List.length_cons, List.length_nil, List.cons_append, List.nil_append, Nat.zero_add, Nat.reduceAdd, List.length_map] at hI ⊢
  rw [hI]
  refine ⟨fun h w' hr => ⟨by rw [bad (by simpa using h)], hr.mod⟩, fun h => ?_⟩
  have he : emptyB (bareP p) = true := fR.1 (by simpa using h)
  rw [if_pos he]
  clear h g1 g2 bad
  refine ⟨fun vs => headE p = 0, ⟨fun k1 => ?_, fun k1 => ⟨fun k2 => ?_, fun k2 => ⟨fun k3 => ?_, fun k3 => ?_⟩⟩⟩, ?_⟩
  · rw [headE, if_pos k1, connE]
    refine ⟨fun h w' hr => ⟨by rw [if_pos h]; rfl, hr.mod⟩, fun h => ?_⟩
    rw [if_neg h]
    refine ⟨[.b (cliB p.client)], rfl, fun _ w' _ => c_IsClient w' _ (by omega), ?_⟩
    simp only [Tree.goal, X.P, X.ev, V.toI_i, V.toB_b, V.toS_s, V.toR_r, V.toV_v, V.toN_n, V.toL_l, SV.ev, CV.ev, Sc.ev, List.getD_cons_zero, List.getD_cons_succ, List.getElem?_cons_zero, List.getElem?_cons_succ, List.map_cons, List.map_nil, List.length_cons, List.length_nil, List.cons_append, List.nil_append, Nat.zero_add, Nat.reduceAdd]
    refine ⟨fun h w' hr => ⟨by rw [if_neg h]; rfl, hr.mod⟩, fun h => ?_⟩
    rw [if_pos (Classical.not_not.1 h)]
    exact ⟨fun h w' hr => ⟨by rw [if_neg h]; rfl, hr.mod⟩, fun h => by rw [if_pos (Classical.not_not.1 h)]⟩
  · rw [headE, if_neg k1, if_pos k2, connackE]
    refine ⟨fun h w' hr => ⟨by rw [if_neg h]; rfl, hr.mod⟩, fun h => ?_⟩
    have h0 := Classical.not_not.1 h
    rw [if_pos h0]
    exact ⟨fun h w' hr => ⟨by rw [if_pos (show p.session = true ∧ p.code ≠ 0 from ⟨h.1, by omega⟩)]; rfl, hr.mod⟩, fun h => by rw [if_neg (show ¬ (p.session = true ∧ p.code ≠ 0) from fun hh => h ⟨hh.1, by omega⟩)]⟩
  · rw [headE, if_neg k1, if_neg k2, if_pos k3, pubE]
    refine ⟨[.i (chkT p.topic false)], rfl, fun _ w' _ => c_CheckTopic w' _ _ (by omega), ?_⟩
    simp only [Tree.goal, X.P, X.ev, V.toI_i, V.toB_b, V.toS_s, V.toR_r, V.toV_v, V.toN_n, V.toL_l, SV.ev, CV.ev, Sc.ev, List.getD_cons_zero, List.getD_cons_succ, List.getElem?_cons_zero, List.getElem?_cons_succ, List.map_cons, List.map_nil, List.length_cons, List.length_nil, List.cons_append, List.nil_append, Nat.zero_add, Nat.reduceAdd]
    refine ⟨fun h w' hr => ⟨by rw [if_neg h, if_neg h], hr.mod⟩, fun h => ?_⟩
    rw [if_pos (Classical.not_not.1 h)]
    refine ⟨fun h w' hr => ⟨by rw [if_pos h]; rfl, hr.mod⟩, fun h => ?_⟩
    rw [if_neg h]
    refine ⟨fun h w' hr => ⟨by rw [if_neg h]; rfl, hr.mod⟩, fun h => ?_⟩
    rw [if_pos (Classical.not_not.1 h)]
    exact ⟨fun h w' hr => ⟨by rw [if_pos h]; rfl, hr.mod⟩, fun h => by rw [if_neg h]⟩
  · rw [headE, if_neg k1, if_neg k2, if_neg k3]
  intro vs hl hI
  match vs, hl, hI with
  | [z0], _, hI =>
  simp only [Tree.goal, X.P, X.ev, V.toI_i, V.toB_b, V.toS_s, V.toR_r, V.toV_v, V.toN_n, V.toL_l, SV.ev, CV.ev, Sc.ev, List.getD_cons_zero, List.getD_cons_succ, List.getElem?_cons_zero, List.getElem?_cons_succ, List.map_cons, List.map_nil, List.length_cons, List.length_nil, List.cons_append, List.nil_append, Nat.zero_add, Nat.reduceAdd, List.length_map]
  rw [if_pos hI]
  refine ⟨fun vs => (vs.getD 3 (.i 0)).toB = (idB p && !decide (1 ≤ p.id ∧ p.id ≤ 65535)), ?_, ?_⟩
  · refine ⟨[.b (idB p)], rfl, fun _ w' hr => c_HasId w' p u v (hr.at_ 1 rfl) (hr.at_ 2 rfl), ?_⟩
    simp only [Tree.goal, X.P, X.ev, V.toI_i, V.toB_b, V.toS_s, V.toR_r, V.toV_v, V.toN_n, V.toL_l, SV.ev, CV.ev, Sc.ev, List.getD_cons_zero, List.getD_cons_succ, List.getElem?_cons_zero, List.getElem?_cons_succ, List.map_cons, List.map_nil, List.length_cons, List.length_nil, List.cons_append, List.nil_append, Nat.zero_add, Nat.reduceAdd]
    exact ⟨fun h => by simp [h], fun h => by simp [h]⟩
  intro vs hl hI
  match vs, hl, hI with
  | [t0, t1, t2, t3], _, hI =>
  simp only [Tree.goal, X.P, X.ev, V.toI_i, V.toB_b, V.toS_s, V.toR_r, V.toV_v, V.toN_n, V.toL_l, SV.ev, CV.ev, Sc.ev, List.getD_cons_zero, List.getD_cons_succ, List.getElem?_cons_zero, List.getElem?_cons_succ, List.map_cons, List.map_nil, List.length_cons, List.length_nil, List.cons_append, List.nil_append, Nat.zero_add, Nat.reduceAdd, List.length_map] at hI ⊢
  rw [hI]
  refine ⟨fun h w' hr => ⟨by rw [if_pos (show idB p = true ∧ ¬ (1 ≤ p.id ∧ p.id ≤ 65535) by simpa only [Bool.and_eq_true, Bool.not_eq_true', decide_eq_false_iff_not] using h)], hr.mod⟩, fun h => ?_⟩
  rw [if_neg (show ¬ (idB p = true ∧ ¬ (1 ≤ p.id ∧ p.id ≤ 65535)) by simpa only [Bool.and_eq_true, Bool.not_eq_true', decide_eq_false_iff_not] using h)]
  clear h
  refine ⟨fun vs => ¬ ((p.kind = 8 ∨ p.kind = 10) ∧ countE p.asks.length ≠ 0), ⟨fun h8 => ⟨fun h w' hr => ⟨?_, hr.mod⟩, fun h => ⟨fun h2 w' hr => ⟨?_, hr.mod⟩, fun h2 => ?_⟩⟩, fun h8 hh => h8 hh.1⟩, ?_⟩
  · have e : countE p.asks.length = 1 := by rw [countE, if_pos (by omega)]
    rw [if_pos ⟨h8, by rw [e]; decide⟩, e]
  · have e : countE p.asks.length = 2 := by rw [countE, if_neg (by omega), if_pos h2]
    rw [if_pos ⟨h8, by rw [e]; decide⟩, e]
  · exact fun hh => hh.2 (by rw [countE, if_neg (by omega), if_neg h2])
  intro vs hl hI
  match vs, hl, hI with
  | [q0], _, hI =>
  simp only [Tree.goal, X.P, X.ev, V.toI_i, V.toB_b, V.toS_s, V.toR_r, V.toV_v, V.toN_n, V.toL_l, SV.ev, CV.ev, Sc.ev, List.getD_cons_zero, List.getD_cons_succ, List.getElem?_cons_zero, List.getElem?_cons_succ, List.map_cons, List.map_nil, List.length_cons, List.length_nil, List.cons_append, List.nil_append, Nat.zero_add, Nat.reduceAdd, List.length_map]
  rw [if_neg hI]
  refine ⟨fun vs => ∃ (i : Nat) (x : V), vs = [x, .i i] ∧ i ≤ p.asks.length ∧ asksL p.kind (p.asks.drop i) = asksL p.kind p.asks, fun vs => p.asks.length - (vs.getD 1 (.i 0)).toI.toNat, ⟨0, _, rfl, by omega, rfl⟩, ?_⟩
  rintro _ - ⟨i, x, rfl, hi, hg⟩
  simp only [Tree.goal, X.P, X.ev, V.toI_i, V.toB_b, V.toS_s, V.toR_r, V.toV_v, V.toN_n, V.toL_l, SV.ev, CV.ev, Sc.ev, List.getD_cons_zero, List.getD_cons_succ, List.getElem?_cons_zero, List.getElem?_cons_succ, List.map_cons, List.map_nil, List.length_cons, List.length_nil, List.cons_append, List.nil_append, Nat.zero_add, Nat.reduceAdd, List.length_map, Int.toNat_natCast, gA0, gA1]
  refine ⟨fun h2 => ⟨by omega, ?_⟩, fun h2 => ?_⟩
  · rw [dropA _ _ (by omega), asksL] at hg
    have hfi := hf i
    have hask : p.kind = 8 ∨ p.kind = 10 := Classical.byContradiction fun hn => by
      have := ((bare_iff p).1 ((empty_iff p).1 he)).2.2.2.2.1 (by omega)
      rw [this] at h2; simp at h2; omega
    generalize p.asks.getD i aD = a at hg hfi ⊢
    refine ⟨[.i (chkT a.1 true)], rfl, fun _ w' _ => c_CheckTopic w' _ _ (by omega), ?_⟩
    simp only [Tree.goal, X.P, X.ev, V.toI_i, V.toB_b, V.toS_s, V.toR_r, V.toV_v, V.toN_n, V.toL_l, SV.ev, CV.ev, Sc.ev, List.getD_cons_zero, List.getD_cons_succ, List.getElem?_cons_zero, List.getElem?_cons_succ, List.map_cons, List.map_nil, List.length_cons, List.length_nil, List.cons_append, List.nil_append, Nat.zero_add, Nat.reduceAdd, gA1]
    have key : ∀ e : Int, e ≠ 0 → (if p.kind = 8 then askE a else noaskE a) = e → (if asksL p.kind p.asks ≠ 0 then asksL p.kind p.asks else if p.kind = 9 ∧ countE p.codes.length ≠ 0 then countE p.codes.length else if p.codes.any codeB = true then 3 else 0) = e := fun e h0 hE => by
      have : asksL p.kind p.asks = e := by rw [← hg, if_neg (by rw [hE]; exact h0), hE]
      rw [if_pos (show asksL p.kind p.asks ≠ 0 by rw [this]; exact h0), this]
    refine ⟨fun h w' hr => ⟨?_, hr.mod⟩, fun h => ⟨fun h3 w' hr => ⟨?_, hr.mod⟩, fun h3 => ⟨fun h4 w' hr => ⟨?_, hr.mod⟩, fun h4 => ⟨by omega, by omega, ⟨i + 1, x, rfl, by omega, ?_⟩, by omega⟩⟩⟩⟩
    · rw [key (chkT a.1 true) h (by split <;> simp [askE, noaskE, h])]
    · rw [key 1 (by decide) (by rw [if_neg (by omega), noaskE, if_pos (Classical.not_not.1 h), if_neg h3.2])]
    · rw [key 3 (by decide) (by rw [if_pos (by omega), askE, if_pos (Classical.not_not.1 h), if_neg h4])]
    · rw [← hg, if_pos]
      split
      · rw [askE, if_pos (Classical.not_not.1 h), if_pos (Classical.not_not.1 h4)]
      · rw [noaskE, if_pos (Classical.not_not.1 h), if_pos (by omega)]
  · have : i = p.asks.length := by omega
    subst this
    rw [List.drop_length] at hg
    have hg0 : asksL p.kind p.asks = 0 := by rw [← hg]; rfl
    rw [if_neg (show ¬ asksL p.kind p.asks ≠ 0 from fun h => h hg0)]
    refine ⟨fun vs => ¬ (p.kind = 9 ∧ countE p.codes.length ≠ 0), ⟨fun h9 => ⟨fun h w' hr => ⟨?_, hr.mod⟩, fun h => ⟨fun h2 w' hr => ⟨?_, hr.mod⟩, fun h2 => ?_⟩⟩, fun h9 hh => h9 hh.1⟩, ?_⟩
    · have e : countE p.codes.length = 1 := by rw [countE, if_pos (by omega)]
      rw [if_pos (show p.kind = 9 ∧ countE p.codes.length ≠ 0 from ⟨h9, by rw [e]; decide⟩), e]
    · have e : countE p.codes.length = 2 := by rw [countE, if_neg (by omega), if_pos h2]
      rw [if_pos (show p.kind = 9 ∧ countE p.codes.length ≠ 0 from ⟨h9, by rw [e]; decide⟩), e]
    · exact fun hh => hh.2 (by rw [countE, if_neg (by omega), if_neg h2])
    intro vs hl hI
    match vs, hl, hI with
    | [r0], _, hI =>
    simp only [Tree.goal, X.P, X.ev, V.toI_i, V.toB_b, V.toS_s, V.toR_r, V.toV_v, V.toN_n, V.toL_l, SV.ev, CV.ev, Sc.ev, List.getD_cons_zero, List.getD_cons_succ, List.getElem?_cons_zero, List.getElem?_cons_succ, List.map_cons, List.map_nil, List.length_cons, List.length_nil, List.cons_append, List.nil_append, Nat.zero_add, Nat.reduceAdd, List.length_map]
    rw [if_neg hI]
    refine ⟨fun vs => ∃ (i : Nat) (x : V), vs = [x, .i i] ∧ i ≤ p.codes.length ∧ (p.codes.drop i).any codeB = p.codes.any codeB, fun vs => p.codes.length - (vs.getD 1 (.i 0)).toI.toNat, ⟨0, _, rfl, by omega, rfl⟩, ?_⟩
    rintro _ - ⟨i, x, rfl, hi, hg⟩
    simp only [Tree.goal, X.P, X.ev, V.toI_i, V.toB_b, V.toS_s, V.toR_r, V.toV_v, V.toN_n, V.toL_l, SV.ev, CV.ev, Sc.ev, List.getD_cons_zero, List.getD_cons_succ, List.getElem?_cons_zero, List.getElem?_cons_succ, List.map_cons, List.map_nil, List.length_cons, List.length_nil, List.cons_append, List.nil_append, Nat.zero_add, Nat.reduceAdd, List.length_map, Int.toNat_natCast, gI0]
    refine ⟨fun h2 => ⟨by omega, fun h3 w' hr => ⟨?_, hr.mod⟩, fun h3 => ⟨by omega, by omega, ⟨i + 1, x, rfl, by omega, ?_⟩, by omega⟩⟩, fun h2 w' hr => ⟨?_, hr.mod⟩⟩
    · rw [dropI _ _ (by omega), List.any_cons] at hg
      have e : codeB (p.codes.getD i 0) = true := by simp only [codeB, decide_eq_true_eq]; exact ⟨h3.1.1, h3.1.2, h3.2⟩
      rw [← hg, e]; rfl
    · rw [dropI _ _ (by omega), List.any_cons] at hg
      have e : codeB (p.codes.getD i 0) = false := by
        simp only [codeB, decide_eq_false_iff_not]; exact fun h4 => h3 ⟨⟨h4.1, h4.2.1⟩, h4.2.2⟩
      rw [← hg, e]; rfl
    · have : i = p.codes.length := by omega
      subst this
      rw [List.drop_length] at hg
      rw [← hg]; rfl
end
end Go.Proofs.YtliedecinehijaaGreatDoor

/-
  Packets: the reference's bytes, walked. By an AI agent.
-/
set_option linter.unusedSimpArgs false
set_option linter.unusedVariables false
namespace Go.Proofs.YtliedecinehijaaGreatDoor
open Go.Sx
section
variable {p : Pkt} (hb : bareP p = pD p.kind)
include hb
theorem body_asks (k : p.kind = 8 ∨ p.kind = 10) : bodyB p = numB 2 p.id ++ (p.asks.map (askB p.kind)).flatten := by
  obtain ⟨b1, b2, b3, b4, b5, b6⟩ := (bare_iff p).1 hb
  have hi : idB p = true := by simp only [idB, decide_eq_true_eq]; omega
  rw [bodyB, headB, if_neg (by omega), if_neg (by omega), if_neg (by omega), if_pos hi, (b3 (by omega)).2.2.2.2, b6 (by omega)]
  simp
theorem body_codes (k : p.kind = 9) : bodyB p = numB 2 p.id ++ (p.codes.map (numB 1)).flatten := by
  obtain ⟨b1, b2, b3, b4, b5, b6⟩ := (bare_iff p).1 hb
  have hi : idB p = true := by simp only [idB, decide_eq_true_eq]; omega
  rw [bodyB, headB, if_neg (by omega), if_neg (by omega), if_neg (by omega), if_pos hi, (b3 (by omega)).2.2.2.2, b5 (by omega)]
  simp
theorem body_id (k : p.kind = 4 ∨ p.kind = 11) : bodyB p = numB 2 p.id := by
  obtain ⟨b1, b2, b3, b4, b5, b6⟩ := (bare_iff p).1 hb
  have hi : idB p = true := by simp only [idB, decide_eq_true_eq]; omega
  rw [bodyB, headB, if_neg (by omega), if_neg (by omega), if_neg (by omega), if_pos hi, (b3 (by omega)).2.2.2.2, b5 (by omega), b6 (by omega)]
  simp
theorem body_none (k : ¬ (1 ≤ p.kind ∧ p.kind ≤ 4) ∧ ¬ (8 ≤ p.kind ∧ p.kind ≤ 11)) : bodyB p = [] := by
  obtain ⟨b1, b2, b3, b4, b5, b6⟩ := (bare_iff p).1 hb
  have hi : idB p = false := by simp only [idB, decide_eq_false_iff_not]; omega
  rw [bodyB, headB, if_neg (by omega), if_neg (by omega), if_neg (by omega), hi, (b3 (by omega)).2.2.2.2, b5 (by omega), b6 (by omega)]
  simp
theorem body_conn (k : p.kind = 1) : bodyB p = txtB [77, 81, 84, 84] ++ (numB 1 4 ++ numB 1 (bit p.clean 2)) ++ numB 2 p.keep ++ txtB p.client := by
  obtain ⟨b1, b2, b3, b4, b5, b6⟩ := (bare_iff p).1 hb
  have hi : idB p = false := by simp only [idB, decide_eq_false_iff_not]; omega
  rw [bodyB, headB, if_pos k, hi, (b3 (by omega)).2.2.2.2, b5 (by omega), b6 (by omega)]
  simp
theorem body_ack (k : p.kind = 2) : bodyB p = numB 1 (bit p.session 1) ++ numB 1 p.code := by
  obtain ⟨b1, b2, b3, b4, b5, b6⟩ := (bare_iff p).1 hb
  have hi : idB p = false := by simp only [idB, decide_eq_false_iff_not]; omega
  rw [bodyB, headB, if_neg (by omega), if_pos k, hi, (b3 (by omega)).2.2.2.2, b5 (by omega), b6 (by omega)]
  simp
theorem body_pub (k : p.kind = 3) : bodyB p = txtB p.topic ++ (if p.qos = 1 then numB 2 p.id else []) ++ p.payload := by
  obtain ⟨b1, b2, b3, b4, b5, b6⟩ := (bare_iff p).1 hb
  have hi : (idB p = true) ↔ p.qos = 1 := by simp only [idB, decide_eq_true_eq]; omega
  rw [bodyB, headB, if_neg (by omega), if_neg (by omega), if_pos k, b5 (by omega), b6 (by omega)]
  simp [hi]
end
theorem asks_take {k : Int} {l : List Ak} {i : Nat} (h : i < l.length) : ((l.take (i + 1)).map (askB k)).flatten = ((l.take i).map (askB k)).flatten ++ askB k (l.getD i aD) := by
  rw [List.take_add_one, List.getD_eq_getElem?_getD, List.getElem?_eq_getElem h]
  simp only [Option.toList_some, Option.getD_some, List.map_append, List.map_cons, List.map_nil, List.flatten_append, List.flatten_cons, List.flatten_nil, List.append_nil]
theorem asks_take_len (k : Int) (l : List Ak) (i : Nat) : ((l.take i).map (askB k)).flatten.length ≤ totA k l := by
  conv => rhs; unfold totA; rw [← List.take_append_drop i l, List.map_append, List.flatten_append, List.length_append]
  omega
section
variable (w : World) (p : Pkt) (u v : Value) (hu : readsA w u p.asks) (hv : readsI w v p.codes) (hB : ByteP p) (hb : bareP p = pD p.kind)
include hu hv hB hb
set_option maxHeartbeats 1000000 in
theorem c_RPacketBytes : Calls Tryz.prog 10 #[pV p u v] w fun e w' => e = .returned (.string ⟨(bytesP p).toArray⟩) ∧ Mod [] w w' := by
  refine as_called (run_tree2 (ρ := [.i p.kind, .b p.dup, .b p.retain, .b p.clean, .b p.session, .i p.qos, .i p.id, .i p.keep, .i p.code, .s p.client, .s p.topic, .s p.payload, .v u, .r (p.asks.map encA), .v v, .r (p.codes.map encI)]) (sxE_ok.joins _) Tryz.func10 tree_dragomanref_PacketBytes rfl rfl (Rel.start2 (by simp [Ent.holds, Ent.wr, hu, hv, X.ev])) rfl rfl ?_) rfl
  have hs := hB.small
  have h1 := hs.client; have h2 := hs.topic; have h3 := hs.payload; have h4 := hs.asks; have h5 := hs.codes
  have hk := hB.kind; have hq := hB.qos; have hid := hB.id; have hke := hB.keep; have hco := hB.code
  have hbl := hB.body
  have b2 : ∀ b : Bool, 0 ≤ bit b 2 ∧ bit b 2 ≤ 2 := fun b => by unfold bit; split <;> omega
  have b1 : ∀ b : Bool, 0 ≤ bit b 1 ∧ bit b 1 ≤ 1 := fun b => by unfold bit; split <;> omega
  have b8 : ∀ b : Bool, 0 ≤ bit b 8 ∧ bit b 8 ≤ 8 := fun b => by unfold bit; split <;> omega
  simp only [Tree.goal, X.P, X.ev, V.toI_i, V.toB_b, V.toS_s, V.toR_r, V.toV_v, V.toN_n, V.toL_l, SV.ev, CV.ev, Sc.ev, List.getD_cons_zero, List.getD_cons_succ, List.getElem?_cons_zero, List.getElem?_cons_succ, List.map_cons, List.map_nil, List.length_cons, List.length_nil, List.cons_append, List.nil_append, Nat.zero_add, Nat.reduceAdd, List.length_map]
  intro b0
  (repeat refine ⟨by omega, ?_⟩)
  refine ⟨fun vs => vs = [.i (firstB p), .s (bodyB p)], ⟨fun k1 => ?_, fun k1 => ⟨fun k2 => ?_, fun k2 => ⟨fun k3 => ?_, fun k3 => ⟨fun k4 => ?_, fun k4 => ⟨fun k11 => ?_, fun k11 => ⟨fun k8 => ?_, fun k8 => ⟨fun k10 => ?_, fun k10 => ⟨fun k9 => ?_, fun k9 => ?_⟩⟩⟩⟩⟩⟩⟩⟩, ?_⟩
  · have hf : firstB p = 16 * p.kind := by rw [firstB, if_neg (by omega), if_neg (by omega)]; omega
    refine ⟨[.s (txtB [77, 81, 84, 84])], rfl, fun _ w' _ => c_TextOf w' _ (by decide), ?_⟩
    simp only [Tree.goal, X.P, X.ev, V.toI_i, V.toB_b, V.toS_s, V.toR_r, V.toV_v, V.toN_n, V.toL_l, SV.ev, CV.ev, Sc.ev, List.getD_cons_zero, List.getD_cons_succ, List.getElem?_cons_zero, List.getElem?_cons_succ, List.map_cons, List.map_nil, List.length_cons, List.length_nil, List.cons_append, List.nil_append, Nat.zero_add, Nat.reduceAdd]
    refine ⟨[.s (numB 1 4)], rfl, fun _ w' _ => c_NumberOf w' 4 1 (by omega) (by omega) (by omega), ?_⟩
    simp only [Tree.goal, X.P, X.ev, V.toI_i, V.toB_b, V.toS_s, V.toR_r, V.toV_v, V.toN_n, V.toL_l, SV.ev, CV.ev, Sc.ev, List.getD_cons_zero, List.getD_cons_succ, List.getElem?_cons_zero, List.getElem?_cons_succ, List.map_cons, List.map_nil, List.length_cons, List.length_nil, List.cons_append, List.nil_append, Nat.zero_add, Nat.reduceAdd, txtB_len, numB_len, List.length_append]
    (repeat refine ⟨by omega, ?_⟩)
    refine ⟨[.i (bit p.clean 2)], rfl, fun _ w' _ => c_flag w' _ _, ?_⟩
    simp only [Tree.goal, X.P, X.ev, V.toI_i, V.toB_b, V.toS_s, V.toR_r, V.toV_v, V.toN_n, V.toL_l, SV.ev, CV.ev, Sc.ev, List.getD_cons_zero, List.getD_cons_succ, List.getElem?_cons_zero, List.getElem?_cons_succ, List.map_cons, List.map_nil, List.length_cons, List.length_nil, List.cons_append, List.nil_append, Nat.zero_add, Nat.reduceAdd, txtB_len, numB_len, List.length_append]
    have := b2 p.clean
    refine ⟨[.s (numB 1 (bit p.clean 2))], rfl, fun _ w' _ => c_NumberOf w' _ 1 (by omega) (by omega) (by omega), ?_⟩
    simp only [Tree.goal, X.P, X.ev, V.toI_i, V.toB_b, V.toS_s, V.toR_r, V.toV_v, V.toN_n, V.toL_l, SV.ev, CV.ev, Sc.ev, List.getD_cons_zero, List.getD_cons_succ, List.getElem?_cons_zero, List.getElem?_cons_succ, List.map_cons, List.map_nil, List.length_cons, List.length_nil, List.cons_append, List.nil_append, Nat.zero_add, Nat.reduceAdd, txtB_len, numB_len, List.length_append]
    (repeat refine ⟨by omega, ?_⟩)
    refine ⟨[.s (numB 2 p.keep)], rfl, fun _ w' _ => c_NumberOf w' _ 2 (by omega) (by omega) (by omega), ?_⟩
    simp only [Tree.goal, X.P, X.ev, V.toI_i, V.toB_b, V.toS_s, V.toR_r, V.toV_v, V.toN_n, V.toL_l, SV.ev, CV.ev, Sc.ev, List.getD_cons_zero, List.getD_cons_succ, List.getElem?_cons_zero, List.getElem?_cons_succ, List.map_cons, List.map_nil, List.length_cons, List.length_nil, List.cons_append, List.nil_append, Nat.zero_add, Nat.reduceAdd, txtB_len, numB_len, List.length_append]
    (repeat refine ⟨by omega, ?_⟩)
    refine ⟨[.s (txtB p.client)], rfl, fun _ w' _ => c_TextOf w' _ (by omega), ?_⟩
    simp only [Tree.goal, X.P, X.ev, V.toI_i, V.toB_b, V.toS_s, V.toR_r, V.toV_v, V.toN_n, V.toL_l, SV.ev, CV.ev, Sc.ev, List.getD_cons_zero, List.getD_cons_succ, List.getElem?_cons_zero, List.getElem?_cons_succ, List.map_cons, List.map_nil, List.length_cons, List.length_nil, List.cons_append, List.nil_append, Nat.zero_add, Nat.reduceAdd, txtB_len, numB_len, List.length_append]
    refine ⟨by omega, ?_⟩
    rw [hf, body_conn hb k1]
    simp
  · have hf : firstB p = 16 * p.kind := by rw [firstB, if_neg (by omega), if_neg (by omega)]; omega
    have := b1 p.session
    refine ⟨[.i (bit p.session 1)], rfl, fun _ w' _ => c_flag w' _ _, ?_⟩
    simp only [Tree.goal, X.P, X.ev, V.toI_i, V.toB_b, V.toS_s, V.toR_r, V.toV_v, V.toN_n, V.toL_l, SV.ev, CV.ev, Sc.ev, List.getD_cons_zero, List.getD_cons_succ, List.getElem?_cons_zero, List.getElem?_cons_succ, List.map_cons, List.map_nil, List.length_cons, List.length_nil, List.cons_append, List.nil_append, Nat.zero_add, Nat.reduceAdd]
    refine ⟨[.s (numB 1 (bit p.session 1))], rfl, fun _ w' _ => c_NumberOf w' _ 1 (by omega) (by omega) (by omega), ?_⟩
    simp only [Tree.goal, X.P, X.ev, V.toI_i, V.toB_b, V.toS_s, V.toR_r, V.toV_v, V.toN_n, V.toL_l, SV.ev, CV.ev, Sc.ev, List.getD_cons_zero, List.getD_cons_succ, List.getElem?_cons_zero, List.getElem?_cons_succ, List.map_cons, List.map_nil, List.length_cons, List.length_nil, List.cons_append, List.nil_append, Nat.zero_add, Nat.reduceAdd]
    refine ⟨[.s (numB 1 p.code)], rfl, fun _ w' _ => c_NumberOf w' _ 1 (by omega) (by omega) (by omega), ?_⟩
    simp only [Tree.goal, X.P, X.ev, V.toI_i, V.toB_b, V.toS_s, V.toR_r, V.toV_v, V.toN_n, V.toL_l, SV.ev, CV.ev, Sc.ev, List.getD_cons_zero, List.getD_cons_succ, List.getElem?_cons_zero, List.getElem?_cons_succ, List.map_cons, List.map_nil, List.length_cons, List.length_nil, List.cons_append, List.nil_append, Nat.zero_add, Nat.reduceAdd, numB_len]
    refine ⟨by omega, ?_⟩
    rw [hf, body_ack hb k2]
  · (repeat refine ⟨by omega, ?_⟩)
    have := b8 p.dup; have := b1 p.retain
    refine ⟨[.i (bit p.dup 8)], rfl, fun _ w' _ => c_flag w' _ _, ?_⟩
    simp only [Tree.goal, X.P, X.ev, V.toI_i, V.toB_b, V.toS_s, V.toR_r, V.toV_v, V.toN_n, V.toL_l, SV.ev, CV.ev, Sc.ev, List.getD_cons_zero, List.getD_cons_succ, List.getElem?_cons_zero, List.getElem?_cons_succ, List.map_cons, List.map_nil, List.length_cons, List.length_nil, List.cons_append, List.nil_append, Nat.zero_add, Nat.reduceAdd]
    (repeat refine ⟨by omega, ?_⟩)
    refine ⟨[.i (bit p.retain 1)], rfl, fun _ w' _ => c_flag w' _ _, ?_⟩
    simp only [Tree.goal, X.P, X.ev, V.toI_i, V.toB_b, V.toS_s, V.toR_r, V.toV_v, V.toN_n, V.toL_l, SV.ev, CV.ev, Sc.ev, List.getD_cons_zero, List.getD_cons_succ, List.getElem?_cons_zero, List.getElem?_cons_succ, List.map_cons, List.map_nil, List.length_cons, List.length_nil, List.cons_append, List.nil_append, Nat.zero_add, Nat.reduceAdd]
    (repeat refine ⟨by omega, ?_⟩)
    refine ⟨[.s (txtB p.topic)], rfl, fun _ w' _ => c_TextOf w' _ (by omega), ?_⟩
    simp only [Tree.goal, X.P, X.ev, V.toI_i, V.toB_b, V.toS_s, V.toR_r, V.toV_v, V.toN_n, V.toL_l, SV.ev, CV.ev, Sc.ev, List.getD_cons_zero, List.getD_cons_succ, List.getElem?_cons_zero, List.getElem?_cons_succ, List.map_cons, List.map_nil, List.length_cons, List.length_nil, List.cons_append, List.nil_append, Nat.zero_add, Nat.reduceAdd, txtB_len, List.length_append]
    rw [body_pub hb k3, firstB, if_pos k3]
    refine ⟨fun hq1 => ?_, fun hq1 => ⟨by omega, ?_⟩⟩
    · refine ⟨[.s (numB 2 p.id)], rfl, fun _ w' _ => c_NumberOf w' _ 2 (by omega) (by omega) (by omega), ?_⟩
      simp only [Tree.goal, X.P, X.ev, V.toI_i, V.toB_b, V.toS_s, V.toR_r, V.toV_v, V.toN_n, V.toL_l, SV.ev, CV.ev, Sc.ev, List.getD_cons_zero, List.getD_cons_succ, List.getElem?_cons_zero, List.getElem?_cons_succ, List.map_cons, List.map_nil, List.length_cons, List.length_nil, List.cons_append, List.nil_append, Nat.zero_add, Nat.reduceAdd, txtB_len, numB_len, List.length_append]
      refine ⟨by omega, by omega, ?_⟩
      rw [if_pos hq1]
    · rw [if_neg hq1, List.append_nil]
  · have hf : firstB p = 16 * p.kind := by rw [firstB, if_neg (by omega), if_neg (by omega)]; omega
    refine ⟨[.s (numB 2 p.id)], rfl, fun _ w' _ => c_NumberOf w' _ 2 (by omega) (by omega) (by omega), ?_⟩
    simp only [Tree.goal, X.P, X.ev, V.toI_i, V.toB_b, V.toS_s, V.toR_r, V.toV_v, V.toN_n, V.toL_l, SV.ev, CV.ev, Sc.ev, List.getD_cons_zero, List.getD_cons_succ, List.getElem?_cons_zero, List.getElem?_cons_succ, List.map_cons, List.map_nil, List.length_cons, List.length_nil, List.cons_append, List.nil_append, Nat.zero_add, Nat.reduceAdd]
    rw [hf, body_id hb (.inl k4)]
  · have hf : firstB p = 16 * p.kind := by rw [firstB, if_neg (by omega), if_neg (by omega)]; omega
    refine ⟨[.s (numB 2 p.id)], rfl, fun _ w' _ => c_NumberOf w' _ 2 (by omega) (by omega) (by omega), ?_⟩
    simp only [Tree.goal, X.P, X.ev, V.toI_i, V.toB_b, V.toS_s, V.toR_r, V.toV_v, V.toN_n, V.toL_l, SV.ev, CV.ev, Sc.ev, List.getD_cons_zero, List.getD_cons_succ, List.getElem?_cons_zero, List.getElem?_cons_succ, List.map_cons, List.map_nil, List.length_cons, List.length_nil, List.cons_append, List.nil_append, Nat.zero_add, Nat.reduceAdd]
    rw [hf, body_id hb (.inr k11)]
  · have hf : firstB p = 16 * p.kind + 2 := by rw [firstB, if_neg (by omega), if_pos (by omega)]
    have hbb := body_asks hb (.inl k8)
    (repeat refine ⟨by omega, ?_⟩)
    refine ⟨[.s (numB 2 p.id)], rfl, fun _ w' _ => c_NumberOf w' _ 2 (by omega) (by omega) (by omega), ?_⟩
    simp only [Tree.goal, X.P, X.ev, V.toI_i, V.toB_b, V.toS_s, V.toR_r, V.toV_v, V.toN_n, V.toL_l, SV.ev, CV.ev, Sc.ev, List.getD_cons_zero, List.getD_cons_succ, List.getElem?_cons_zero, List.getElem?_cons_succ, List.map_cons, List.map_nil, List.length_cons, List.length_nil, List.cons_append, List.nil_append, Nat.zero_add, Nat.reduceAdd]
    refine ⟨fun vs => ∃ i : Nat, vs = [.s (numB 2 p.id ++ ((p.asks.take i).map (askB p.kind)).flatten), .i i] ∧ i ≤ p.asks.length, fun vs => p.asks.length - (vs.getD 1 (.i 0)).toI.toNat, ⟨0, by simp, by omega⟩, ?_⟩
    rintro _ - ⟨i, rfl, hi⟩
    have hfi := hs.at_ i
    have hqi := hB.ask i
    have htl := asks_take_len p.kind p.asks i
    have hbb2 : (bodyB p).length = 2 + totA p.kind p.asks := by rw [hbb, List.length_append, numB_len]
    simp only [Tree.goal, X.P, X.ev, V.toI_i, V.toB_b, V.toS_s, V.toR_r, V.toV_v, V.toN_n, V.toL_l, SV.ev, CV.ev, Sc.ev, List.getD_cons_zero, List.getD_cons_succ, List.getElem?_cons_zero, List.getElem?_cons_succ, List.map_cons, List.map_nil, List.length_cons, List.length_nil, List.cons_append, List.nil_append, Nat.zero_add, Nat.reduceAdd, List.length_map, Int.toNat_natCast, gA0, gA1, List.length_append, numB_len]
    refine ⟨fun h => ⟨by omega, ?_⟩, fun h => ?_⟩
    · refine ⟨[.s (txtB (p.asks.getD i aD).1)], rfl, fun _ w' _ => c_TextOf w' _ (by omega), ?_⟩
      simp only [Tree.goal, X.P, X.ev, V.toI_i, V.toB_b, V.toS_s, V.toR_r, V.toV_v, V.toN_n, V.toL_l, SV.ev, CV.ev, Sc.ev, List.getD_cons_zero, List.getD_cons_succ, List.getElem?_cons_zero, List.getElem?_cons_succ, List.map_cons, List.map_nil, List.length_cons, List.length_nil, List.cons_append, List.nil_append, Nat.zero_add, Nat.reduceAdd, List.length_map, Int.toNat_natCast, gA0, gA1, List.length_append, numB_len, txtB_len]
      refine ⟨by omega, ?_⟩
      refine ⟨[.s (numB 1 (p.asks.getD i aD).2)], rfl, fun _ w' _ => c_NumberOf w' _ 1 (by omega) (by omega) (by omega), ?_⟩
      simp only [Tree.goal, X.P, X.ev, V.toI_i, V.toB_b, V.toS_s, V.toR_r, V.toV_v, V.toN_n, V.toL_l, SV.ev, CV.ev, Sc.ev, List.getD_cons_zero, List.getD_cons_succ, List.getElem?_cons_zero, List.getElem?_cons_succ, List.map_cons, List.map_nil, List.length_cons, List.length_nil, List.cons_append, List.nil_append, Nat.zero_add, Nat.reduceAdd, List.length_map, Int.toNat_natCast, List.length_append, numB_len, txtB_len]
      refine ⟨by omega, by omega, by omega, ⟨i + 1, ?_, by omega⟩, by omega⟩
      rw [asks_take (by omega), askB, if_pos k8]
      simp
    · have : i = p.asks.length := by omega
      subst this
      rw [hf, hbb, List.take_length]
  · have hf : firstB p = 16 * p.kind + 2 := by rw [firstB, if_neg (by omega), if_pos (by omega)]
    have hbb := body_asks hb (.inr k10)
    (repeat refine ⟨by omega, ?_⟩)
    refine ⟨[.s (numB 2 p.id)], rfl, fun _ w' _ => c_NumberOf w' _ 2 (by omega) (by omega) (by omega), ?_⟩
    simp only [Tree.goal, X.P, X.ev, V.toI_i, V.toB_b, V.toS_s, V.toR_r, V.toV_v, V.toN_n, V.toL_l, SV.ev, CV.ev, Sc.ev, List.getD_cons_zero, List.getD_cons_succ, List.getElem?_cons_zero, List.getElem?_cons_succ, List.map_cons, List.map_nil, List.length_cons, List.length_nil, List.cons_append, List.nil_append, Nat.zero_add, Nat.reduceAdd]
    refine ⟨fun vs => ∃ i : Nat, vs = [.s (numB 2 p.id ++ ((p.asks.take i).map (askB p.kind)).flatten), .i i] ∧ i ≤ p.asks.length, fun vs => p.asks.length - (vs.getD 1 (.i 0)).toI.toNat, ⟨0, by simp, by omega⟩, ?_⟩
    rintro _ - ⟨i, rfl, hi⟩
    have hfi := hs.at_ i
    have hqi := hB.ask i
    have htl := asks_take_len p.kind p.asks i
    have hbb2 : (bodyB p).length = 2 + totA p.kind p.asks := by rw [hbb, List.length_append, numB_len]
    simp only [Tree.goal, X.P, X.ev, V.toI_i, V.toB_b, V.toS_s, V.toR_r, V.toV_v, V.toN_n, V.toL_l, SV.ev, CV.ev, Sc.ev, List.getD_cons_zero, List.getD_cons_succ, List.getElem?_cons_zero, List.getElem?_cons_succ, List.map_cons, List.map_nil, List.length_cons, List.length_nil, List.cons_append, List.nil_append, Nat.zero_add, Nat.reduceAdd, List.length_map, Int.toNat_natCast, gA0, gA1, List.length_append, numB_len]
    refine ⟨fun h => ⟨by omega, ?_⟩, fun h => ?_⟩
    · refine ⟨[.s (txtB (p.asks.getD i aD).1)], rfl, fun _ w' _ => c_TextOf w' _ (by omega), ?_⟩
      simp only [Tree.goal, X.P, X.ev, V.toI_i, V.toB_b, V.toS_s, V.toR_r, V.toV_v, V.toN_n, V.toL_l, SV.ev, CV.ev, Sc.ev, List.getD_cons_zero, List.getD_cons_succ, List.getElem?_cons_zero, List.getElem?_cons_succ, List.map_cons, List.map_nil, List.length_cons, List.length_nil, List.cons_append, List.nil_append, Nat.zero_add, Nat.reduceAdd, List.length_map, Int.toNat_natCast, gA0, gA1, List.length_append, numB_len, txtB_len]
      refine ⟨by omega, by omega, by omega, ⟨i + 1, ?_, by omega⟩, by omega⟩
      rw [asks_take (by omega), askB, if_neg (by omega)]
      simp
    · have : i = p.asks.length := by omega
      subst this
      rw [hf, hbb, List.take_length]
  · have hf : firstB p = 16 * p.kind := by rw [firstB, if_neg (by omega), if_neg (by omega)]; omega
    have hbb := body_codes hb k9
    refine ⟨[.s (numB 2 p.id)], rfl, fun _ w' _ => c_NumberOf w' _ 2 (by omega) (by omega) (by omega), ?_⟩
    simp only [Tree.goal, X.P, X.ev, V.toI_i, V.toB_b, V.toS_s, V.toR_r, V.toV_v, V.toN_n, V.toL_l, SV.ev, CV.ev, Sc.ev, List.getD_cons_zero, List.getD_cons_succ, List.getElem?_cons_zero, List.getElem?_cons_succ, List.map_cons, List.map_nil, List.length_cons, List.length_nil, List.cons_append, List.nil_append, Nat.zero_add, Nat.reduceAdd]
    refine ⟨fun vs => ∃ i : Nat, vs = [.s (numB 2 p.id ++ ((p.codes.take i).map (numB 1)).flatten), .i i] ∧ i ≤ p.codes.length, fun vs => p.codes.length - (vs.getD 1 (.i 0)).toI.toNat, ⟨0, by simp, by omega⟩, ?_⟩
    rintro _ - ⟨i, rfl, hi⟩
    have hll := flat_lenN 1 (p.codes.take i)
    have hlt : (p.codes.take i).length ≤ p.codes.length := by simp; omega
    simp only [Tree.goal, X.P, X.ev, V.toI_i, V.toB_b, V.toS_s, V.toR_r, V.toV_v, V.toN_n, V.toL_l, SV.ev, CV.ev, Sc.ev, List.getD_cons_zero, List.getD_cons_succ, List.getElem?_cons_zero, List.getElem?_cons_succ, List.map_cons, List.map_nil, List.length_cons, List.length_nil, List.cons_append, List.nil_append, Nat.zero_add, Nat.reduceAdd, List.length_map, Int.toNat_natCast, gI0, List.length_append, numB_len]
    refine ⟨fun h => ⟨by omega, ?_⟩, fun h => ?_⟩
    · have hci : 0 ≤ p.codes.getD i 0 ∧ p.codes.getD i 0 ≤ 65535 := by
        rw [List.getD_eq_getElem?_getD, List.getElem?_eq_getElem (by omega)]; exact hB.codes _ (List.getElem_mem _)
      refine ⟨[.s (numB 1 (p.codes.getD i 0))], rfl, fun _ w' _ => c_NumberOf w' _ 1 (by omega) (by omega) (by omega), ?_⟩
      simp only [Tree.goal, X.P, X.ev, V.toI_i, V.toB_b, V.toS_s, V.toR_r, V.toV_v, V.toN_n, V.toL_l, SV.ev, CV.ev, Sc.ev, List.getD_cons_zero, List.getD_cons_succ, List.getElem?_cons_zero, List.getElem?_cons_succ, List.map_cons, List.map_nil, List.length_cons, List.length_nil, List.cons_append, List.nil_append, Nat.zero_add, Nat.reduceAdd, List.length_map, Int.toNat_natCast, List.length_append, numB_len]
      refine ⟨by omega, by omega, by omega, ⟨i + 1, ?_, by omega⟩, by omega⟩
      rw [flat_take 1 _ _ (by omega)]
      simp
    · have : i = p.codes.length := by omega
      subst this
      rw [hf, hbb, List.take_length]
  · have hf : firstB p = 16 * p.kind := by rw [firstB, if_neg (by omega), if_neg (by omega)]; omega
    rw [hf, body_none hb (by omega)]
  rintro _ - rfl
  have hfb := firstB_bd hk hq
  simp only [Tree.goal, X.P, X.ev, V.toI_i, V.toB_b, V.toS_s, V.toR_r, V.toV_v, V.toN_n, V.toL_l, SV.ev, CV.ev, Sc.ev, List.getD_cons_zero, List.getD_cons_succ, List.getElem?_cons_zero, List.getElem?_cons_succ, List.map_cons, List.map_nil, List.length_cons, List.length_nil, List.cons_append, List.nil_append, Nat.zero_add, Nat.reduceAdd]
  refine ⟨[.s (numB 1 (firstB p))], rfl, fun _ w' _ => c_NumberOf w' _ 1 (by omega) (by omega) (by omega), ?_⟩
  simp only [Tree.goal, X.P, X.ev, V.toI_i, V.toB_b, V.toS_s, V.toR_r, V.toV_v, V.toN_n, V.toL_l, SV.ev, CV.ev, Sc.ev, List.getD_cons_zero, List.getD_cons_succ, List.getElem?_cons_zero, List.getElem?_cons_succ, List.map_cons, List.map_nil, List.length_cons, List.length_nil, List.cons_append, List.nil_append, Nat.zero_add, Nat.reduceAdd]
  refine ⟨[.s (lngB 3 (bodyB p).length)], rfl, fun _ w' _ => c_LongOf 3 w' _ (by omega) (by show _ < 268435456; exact hbl), ?_⟩
  have hll : (lngB 3 (bodyB p).length).length ≤ 4 := lngB_len 3 _
  simp only [Tree.goal, X.P, X.ev, V.toI_i, V.toB_b, V.toS_s, V.toR_r, V.toV_v, V.toN_n, V.toL_l, SV.ev, CV.ev, Sc.ev, List.getD_cons_zero, List.getD_cons_succ, List.getElem?_cons_zero, List.getElem?_cons_succ, List.map_cons, List.map_nil, List.length_cons, List.length_nil, List.cons_append, List.nil_append, Nat.zero_add, Nat.reduceAdd, List.length_append, numB_len]
  exact ⟨by omega, by omega, fun w' hr => ⟨by rw [bytesP], hr.mod⟩⟩
end
end Go.Proofs.YtliedecinehijaaGreatDoor

/-
  Packets: the reference's taker; what is read of each kind. By an AI agent.
-/
set_option linter.unusedSimpArgs false
set_option linter.unusedVariables false
namespace Go.Proofs.YtliedecinehijaaGreatDoor
open Go.Sx
abbrev tkAt (w : World) (b : Nat) (s : List UInt8) (a : Nat) (sh : Bool) : Prop := w.heap[b]? = some (.cells (rdV s a sh).toArray 96 (0, 0))
section
variable (w : World) (b : Nat) (s : List UInt8) (a' a : Nat) (sh : Bool) (h : tkAt w b s a' sh) (ha' : a' ≤ s.length) (ha : a ≤ s.length) (hs : s.length < 1000000000) (hsim : sh = true ∨ a' = a)
include h
theorem rel_t {k : V} : Rel ⟨[b], w⟩ [.n b, .s s, .i a', .b sh, k] [.cells 0 96 [.str (.var 1), .int .i64 (.var 2), .bool (.var 3)]] w :=
  rel_of (List.forall_mem_cons.2 ⟨h, List.forall_mem_nil _⟩) (List.forall_mem_cons.2 ⟨fun _ k hk => by simp only [Ent.fp, Tree.goal, X.P, X.ev, V.toI_i, V.toB_b, V.toS_s, V.toR_r, V.toV_v, V.toN_n, V.toL_l, SV.ev, CV.ev, Sc.ev, List.getD_cons_zero, List.getD_cons_succ, List.getElem?_cons_zero, List.getElem?_cons_succ, List.map_cons, List.map_nil, List.length_cons, List.length_nil, List.cons_append, List.nil_append, Nat.zero_add, Nat.reduceAdd] at hk; simp [hk], List.forall_mem_nil _⟩) apart_one
theorem rel_t4 : Rel ⟨[b], w⟩ [.n b, .s s, .i a', .b sh] [.cells 0 96 [.str (.var 1), .int .i64 (.var 2), .bool (.var 3)]] w :=
  rel_of (List.forall_mem_cons.2 ⟨h, List.forall_mem_nil _⟩) (List.forall_mem_cons.2 ⟨fun _ k hk => by simp only [Ent.fp, Tree.goal, X.P, X.ev, V.toI_i, V.toB_b, V.toS_s, V.toR_r, V.toV_v, V.toN_n, V.toL_l, SV.ev, CV.ev, Sc.ev, List.getD_cons_zero, List.getD_cons_succ, List.getElem?_cons_zero, List.getElem?_cons_succ, List.map_cons, List.map_nil, List.length_cons, List.length_nil, List.cons_append, List.nil_append, Nat.zero_add, Nat.reduceAdd] at hk; simp [hk], List.forall_mem_nil _⟩) apart_one
include ha' ha hs hsim
theorem c_tnumber (k : Nat) (hk : 1 ≤ k ∧ k ≤ 4) : Calls Tryz.prog 58 #[.pointer (some ⟨b, 0, none⟩), .int .i64 k] w
    fun e w' => ∃ n a1, e = .returned (.int .i64 n) ∧ tkAt w' b s a1 (rdN s k a sh).2.2 ∧ a1 ≤ s.length ∧ ((rdN s k a sh).2.2 = true ∨ n = (rdN s k a sh).1 ∧ a1 = (rdN s k a sh).2.1) ∧ Mod [b] w w' := by
  refine as_called (run_tree2 (ρ := [.n b, .s s, .i a', .b sh, .i k]) sxE_ok Tryz.func58 tree_dragomanref_Taker_Number rfl rfl (rel_t w b s a' sh h) rfl rfl ?_) rfl
  simp only [Tree.goal, X.P, X.ev, V.toI_i, V.toB_b, V.toS_s, V.toR_r, V.toV_v, V.toN_n, V.toL_l, SV.ev, CV.ev, Sc.ev, List.getD_cons_zero, List.getD_cons_succ, List.getElem?_cons_zero, List.getElem?_cons_succ, List.map_cons, List.map_nil, List.length_cons, List.length_nil, List.cons_append, List.nil_append, Nat.zero_add, Nat.reduceAdd]
  refine ⟨[.i (getR s a' k).1, .i (getR s a' k).2], rfl, fun _ w' _ => c_GetOf w' s a' k (by omega), ?_⟩
  simp only [Tree.goal, X.P, X.ev, V.toI_i, V.toB_b, V.toS_s, V.toR_r, V.toV_v, V.toN_n, V.toL_l, SV.ev, CV.ev, Sc.ev, List.getD_cons_zero, List.getD_cons_succ, List.getElem?_cons_zero, List.getElem?_cons_succ, List.map_cons, List.map_nil, List.length_cons, List.length_nil, List.cons_append, List.nil_append, Nat.zero_add, Nat.reduceAdd]
  by_cases hsh : sh = true
  · subst hsh
    have e : (rdN s k a true).2.2 = true := (rdN_bd s k a true ha).2.2.2.2.1 rfl
    rw [e]
    exact ⟨fun _ w' hr => ⟨0, a', rfl, hr.at_ 0 rfl, ha', .inl rfl, hr.mod⟩, fun h => absurd (.inl rfl) h⟩
  · have hsh : sh = false := by simpa using hsh
    subst hsh
    obtain rfl : a' = a := hsim.resolve_left (by simp)
    by_cases hh : a' + k ≤ s.length
    · have e1 : getR s a' k = (((beN ((s.drop a').take k) 0 : Nat) : Int), 0) := by
        have := getR_ok (s := s) (at_ := a') (b := k) (by omega) (by omega) (by omega)
        simpa using this
      have e2 : rdN s k a' false = (((beN ((s.drop a').take k) 0 : Nat) : Int), a' + k, false) := by rw [rdN, if_pos hh]
      rw [e1, e2]
      refine ⟨fun h => absurd h (by simp), fun _ => ⟨by omega, by omega, fun w' hr => ⟨_, a' + k, rfl, ?_, hh, .inr ⟨rfl, rfl⟩, hr.mod⟩⟩⟩
      have hc := hr.at_ 0 rfl
      simp only [Ent.holds, Tree.goal, X.P, X.ev, V.toI_i, V.toB_b, V.toS_s, V.toR_r, V.toV_v, V.toN_n, V.toL_l, SV.ev, CV.ev, Sc.ev, List.getD_cons_zero, List.getD_cons_succ, List.getElem?_cons_zero, List.getElem?_cons_succ, List.map_cons, List.map_nil, List.length_cons, List.length_nil, List.cons_append, List.nil_append, Nat.zero_add, Nat.reduceAdd] at hc
      rw [tkAt, hc]; simp [rdV]
    · have e1 : getR s a' k = (0, 8) := getR_short (by omega) (by omega) (by omega)
      have e2 : rdN s k a' false = (0, s.length, true) := by rw [rdN, if_neg hh]
      rw [e1, e2]
      exact ⟨fun _ w' hr => ⟨0, a', rfl, hr.at_ 0 rfl, ha', .inl rfl, hr.mod⟩, fun h => absurd (.inr (by decide)) h⟩
theorem c_ttext : Calls Tryz.prog 57 #[.pointer (some ⟨b, 0, none⟩)] w
    fun e w' => ∃ t a1, e = .returned (.string ⟨t.toArray⟩) ∧ tkAt w' b s a1 (rdT s a sh).2.2 ∧ a1 ≤ s.length ∧ ((rdT s a sh).2.2 = true ∨ t = (rdT s a sh).1 ∧ a1 = (rdT s a sh).2.1) ∧ Mod [b] w w' := by
  refine as_called (run_tree2 (ρ := [.n b, .s s, .i a', .b sh]) sxE_ok Tryz.func57 tree_dragomanref_Taker_Text rfl rfl (rel_t4 w b s a' sh h) rfl rfl ?_) rfl
  simp only [Tree.goal, X.P, X.ev, V.toI_i, V.toB_b, V.toS_s, V.toR_r, V.toV_v, V.toN_n, V.toL_l, SV.ev, CV.ev, Sc.ev, List.getD_cons_zero, List.getD_cons_succ, List.getElem?_cons_zero, List.getElem?_cons_succ, List.map_cons, List.map_nil, List.length_cons, List.length_nil, List.cons_append, List.nil_append, Nat.zero_add, Nat.reduceAdd]
  refine ⟨[.s (getT s a').1, .i (getT s a').2.1, .i (getT s a').2.2], rfl, fun _ w' _ => c_GetTextOf w' s a' (by omega), ?_⟩
  simp only [Tree.goal, X.P, X.ev, V.toI_i, V.toB_b, V.toS_s, V.toR_r, V.toV_v, V.toN_n, V.toL_l, SV.ev, CV.ev, Sc.ev, List.getD_cons_zero, List.getD_cons_succ, List.getElem?_cons_zero, List.getElem?_cons_succ, List.map_cons, List.map_nil, List.length_cons, List.length_nil, List.cons_append, List.nil_append, Nat.zero_add, Nat.reduceAdd]
  by_cases hsh : sh = true
  · subst hsh
    have e : (rdT s a true).2.2 = true := (rdT_bd s a true ha).2.2.2.1 rfl
    rw [e]
    exact ⟨fun _ w' hr => ⟨[], a', rfl, hr.at_ 0 rfl, ha', .inl rfl, hr.mod⟩, fun h => absurd (.inl rfl) h⟩
  · have hsh : sh = false := by simpa using hsh
    subst hsh
    obtain rfl : a' = a := hsim.resolve_left (by simp)
    have key : ((a' : Int) + (getT s a').2.1 = ((rdT s a' false).2.1 : Nat)) ∧ (getT s a').1 = (rdT s a' false).1 ∧ ((getT s a').2.2 = 0 ↔ (rdT s a' false).2.2 = false) := by
      by_cases h2 : a' + 2 ≤ s.length
      · have e1 : getR s a' 2 = (((beN ((s.drop a').take 2) 0 : Nat) : Int), 0) := by
          have := getR_ok (s := s) (at_ := a') (b := 2) (by omega) (by omega) (by omega)
          simpa using this
        rw [getT, e1, if_pos rfl, rdT]
        simp only
        by_cases h3 : a' + 2 + beN ((s.drop a').take 2) 0 ≤ s.length
        · rw [if_neg (by omega), if_pos ⟨h2, h3⟩]
          refine ⟨by simp only; omega, ?_, by simp⟩
          have e3 : ((a' : Int) + 2 + ((beN ((s.drop a').take 2) 0 : Nat) : Int)).toNat = a' + 2 + beN ((s.drop a').take 2) 0 := by omega
          have e4 : ((a' : Int) + 2).toNat = a' + 2 := by omega
          simp only [e3, e4]
          rw [List.drop_take]
          congr 1
          omega
        · rw [if_pos (by omega), if_neg (by omega)]
          exact ⟨by simp, rfl, by simp⟩
      · have e1 : getR s a' 2 = (0, 8) := getR_short (by omega) (by omega) (by omega)
        rw [getT, e1, if_neg (by simp), rdT, if_neg (by omega)]
        exact ⟨by simp, rfl, by simp⟩
    obtain ⟨k1, k2, k3⟩ := key
    have kb := rdT_bd s a' false ha
    cases hb : (rdT s a' false).2.2 with
    | true =>
      have hne : ¬ (getT s a').2.2 = 0 := fun h0 => by rw [k3.1 h0] at hb; cases hb
      exact ⟨fun _ w' hr => ⟨[], a', rfl, hr.at_ 0 rfl, ha', .inl rfl, hr.mod⟩, fun h => absurd (.inr hne) h⟩
    | false =>
      have he : (getT s a').2.2 = 0 := k3.2 hb
      refine ⟨fun h => absurd h (by simp [he]), fun _ => ?_⟩
      rw [k1]
      refine ⟨by omega, by omega, fun w' hr => ⟨_, (rdT s a' false).2.1, rfl, ?_, kb.2.1, .inr ⟨k2, rfl⟩, hr.mod⟩⟩
      have hc := hr.at_ 0 rfl
      simp only [Ent.holds, Tree.goal, X.P, X.ev, V.toI_i, V.toB_b, V.toS_s, V.toR_r, V.toV_v, V.toN_n, V.toL_l, SV.ev, CV.ev, Sc.ev, List.getD_cons_zero, List.getD_cons_succ, List.getElem?_cons_zero, List.getElem?_cons_succ, List.map_cons, List.map_nil, List.length_cons, List.length_nil, List.cons_append, List.nil_append, Nat.zero_add, Nat.reduceAdd] at hc
      rw [k1] at hc
      exact hc
end

/-- Where what is told of a packet begins. -/
abbrev at0 (s : List UInt8) : Nat := (1 + (getL s 1).2.1).toNat
abbrev knd (s : List UInt8) : Nat := (s.getD 0 0).toNat / 16
section
variable {s : List UInt8}
theorem beg_o (h : knd s ≠ 3) : begP (s.getD 0 0).toNat = pD ((knd s : Nat) : Int) := by rw [begP, if_neg h]
theorem read_1 (h : knd s = 1) : readP s = connD s (pD 1) (at0 s) false := by
  rw [readP, beg_o (by omega), h, bodyD]
  have e : headD s (pD ((1 : Nat) : Int)) (at0 s) false = connD s (pD 1) (at0 s) false := rfl
  rw [e]
  have e2 : idD s (connD s (pD 1) (at0 s) false) = connD s (pD 1) (at0 s) false := rfl
  rw [e2]; rfl
theorem read_2 (h : knd s = 2) : readP s = ({ pD 2 with session := decide ((rdN s 1 (at0 s) false).1 = 1), code := (rdN s 1 (rdN s 1 (at0 s) false).2.1 (rdN s 1 (at0 s) false).2.2).1 }, (rdN s 1 (rdN s 1 (at0 s) false).2.1 (rdN s 1 (at0 s) false).2.2).2) := by
  rw [readP, beg_o (by omega), h, bodyD]; rfl
theorem read_3 (h : knd s = 3) : readP s = tailD s (idD s ({ begP (s.getD 0 0).toNat with topic := (rdT s (at0 s) false).1 }, (rdT s (at0 s) false).2)) := by
  have hk : (begP (s.getD 0 0).toNat).kind = 3 := by rw [begP, if_pos h]
  rw [readP, bodyD, headD, if_neg (by omega), if_neg (by omega), if_pos hk]
theorem read_o (h : knd s = 4 ∨ (8 ≤ knd s ∧ knd s ≤ 11)) : readP s = tailD s ({ pD ((knd s : Nat) : Int) with id := (rdN s 2 (at0 s) false).1 }, (rdN s 2 (at0 s) false).2) := by
  rw [readP, beg_o (by omega)]
  generalize knd s = k at h ⊢
  have e : headD s (pD (k : Int)) (at0 s) false = (pD (k : Int), at0 s, false) := by
    rw [headD, if_neg (by simp only; omega), if_neg (by simp only; omega), if_neg (by simp only; omega)]
  rw [bodyD, e, idD, if_pos (by simp only [idB, decide_eq_true_eq]; omega)]
theorem read_x (h : 12 ≤ knd s ∧ knd s ≤ 14) : readP s = (pD ((knd s : Nat) : Int), at0 s, false) := by
  rw [readP, beg_o (by omega)]
  generalize knd s = k at h ⊢
  have e : headD s (pD (k : Int)) (at0 s) false = (pD (k : Int), at0 s, false) := by
    rw [headD, if_neg (by simp only; omega), if_neg (by simp only; omega), if_neg (by simp only; omega)]
  rw [bodyD, e, idD, if_neg (by simp only [idB, decide_eq_true_eq]; omega), tailD, if_neg (by simp only; omega), if_neg (by simp only; omega), if_neg (by simp only; omega)]
theorem tailD_end {q : Pkt} {a : Nat} {b : Bool} (hk : q.kind ≠ 3) (h : ¬ (8 ≤ q.kind ∧ q.kind ≤ 10 ∧ b = false ∧ a < s.length)) : tailD s (q, a, b) = (q, a, b) := by
  rw [tailD, if_neg hk]
  split
  · rename_i h8
    simp only at h8
    simp only
    rw [rdAs_end (fun hh => h ⟨by omega, by omega, hh.2, hh.1⟩)]
  · split
    · rename_i h9
      simp only at h9
      simp only
      rw [rdCs_end (fun hh => h ⟨by omega, by omega, hh.2, hh.1⟩)]
    · rfl
theorem tailD_asks {q : Pkt} {a : Nat} (hk : q.kind = 8 ∨ q.kind = 10) (h : a < s.length) : tailD s (q, a, false) = tailD s ({ q with asks := q.asks ++ [(rdA s q.kind a false).1] }, (rdA s q.kind a false).2) := by
  rw [tailD, if_neg (by simp only; omega), if_pos hk, tailD, if_neg (by simp only; omega), if_pos hk]
  simp only
  rw [rdAs_step ⟨h, rfl⟩]
theorem tailD_codes {q : Pkt} {a : Nat} (hk : q.kind = 9) (h : a < s.length) : tailD s (q, a, false) = tailD s ({ q with codes := q.codes ++ [(rdN s 1 a false).1] }, (rdN s 1 a false).2) := by
  rw [tailD, if_neg (by simp only; omega), if_neg (by simp only; omega), if_pos hk, tailD, if_neg (by simp only; omega), if_neg (by simp only; omega), if_pos hk]
  simp only
  rw [rdCs_step ⟨h, rfl⟩]
/-- What is read has just what its kind names. -/
theorem read_kq : (readP s).1.kind = (begP (s.getD 0 0).toNat).kind ∧ (readP s).1.qos = (begP (s.getD 0 0).toNat).qos := by
  unfold readP bodyD
  have h1 : ∀ (p : Pkt) a b, (headD s p a b).1.kind = p.kind ∧ (headD s p a b).1.qos = p.qos := fun p a b => by
    unfold headD; (repeat' split) <;> exact ⟨rfl, rfl⟩
  have h2 : ∀ q : RS, (idD s q).1.kind = q.1.kind ∧ (idD s q).1.qos = q.1.qos := fun q => by
    unfold idD; split <;> exact ⟨rfl, rfl⟩
  have h3 : ∀ q : RS, (tailD s q).1.kind = q.1.kind ∧ (tailD s q).1.qos = q.1.qos := fun q => by
    unfold tailD; (repeat' split) <;> exact ⟨rfl, rfl⟩
  exact ⟨by rw [(h3 _).1, (h2 _).1, (h1 _ _ _).1], by rw [(h3 _).2, (h2 _).2, (h1 _ _ _).2]⟩
theorem read_kind : (readP s).1.kind = ((knd s : Nat) : Int) := by
  rw [read_kq.1, begP]
  split
  · rename_i h; rw [show knd s = 3 from h]; rfl
  · rfl
theorem bare_tail {q : RS} (h : bareP q.1 = pD q.1.kind) : bareP (tailD s q).1 = pD (tailD s q).1.kind := by
  rw [bare_iff] at h ⊢
  obtain ⟨b1, b2, b3, b4, b5, b6⟩ := h
  unfold tailD
  split
  · rename_i hk
    exact ⟨b1, b2, fun hn => absurd hk hn, b4, b5, b6⟩
  · split
    · rename_i hk
      exact ⟨b1, b2, b3, b4, fun hn => by simp only at hn; omega, b6⟩
    · split
      · rename_i hk
        exact ⟨b1, b2, b3, b4, b5, fun hn => absurd hk hn⟩
      · exact ⟨b1, b2, b3, b4, b5, b6⟩
theorem bare_id {q : RS} (h : bareP q.1 = pD q.1.kind) : bareP (idD s q).1 = pD (idD s q).1.kind := by
  rw [bare_iff] at h ⊢
  obtain ⟨b1, b2, b3, b4, b5, b6⟩ := h
  unfold idD
  split
  · rename_i hk
    simp only [idB, decide_eq_true_eq] at hk
    exact ⟨b1, b2, b3, fun hn => by simp only at hn; omega, b5, b6⟩
  · exact ⟨b1, b2, b3, b4, b5, b6⟩
theorem bare_head {p : Pkt} {a : Nat} {b : Bool} (h : bareP p = pD p.kind) : bareP (headD s p a b).1 = pD (headD s p a b).1.kind := by
  rw [bare_iff] at h ⊢
  obtain ⟨b1, b2, b3, b4, b5, b6⟩ := h
  unfold headD
  split
  · rename_i hk
    exact ⟨fun hn => absurd hk hn, b2, b3, b4, b5, b6⟩
  · split
    · rename_i hk
      exact ⟨b1, fun hn => absurd hk hn, b3, b4, b5, b6⟩
    · split
      · rename_i hk
        exact ⟨b1, b2, fun hn => absurd hk hn, b4, b5, b6⟩
      · exact ⟨b1, b2, b3, b4, b5, b6⟩
theorem read_bare : bareP (readP s).1 = pD (readP s).1.kind := by
  unfold readP bodyD
  refine bare_tail (bare_id (bare_head ?_))
  rw [bare_iff]
  unfold begP
  split <;> simp
end
end Go.Proofs.YtliedecinehijaaGreatDoor
