/-
  Packets out of a stream: what Feed computes; Feed, walked. By an AI agent.
-/
import Derived.Test.YtliedecinehijaaDoorZ15
import Derived.Test.YtliedecinehijaaDoorZ16
import Derived.Test.YtliedecinehijaaDoorZ01
import Derived.WalkKit
import Derived.ProofKit
import Derived.OpenShut
import Derived.JoinedCond
import Derived.ChangeStays
import Derived.Test.YtliedecinehijaaDoorZ05
import Derived.Test.YtliedecinehijaaDoorZ12
set_option linter.unusedSimpArgs false
set_option linter.unusedVariables false
namespace Go.Proofs.YtliedecinehijaaDoor
open Go.Sx

/-- Slices that read as these rows. -/
def rdsA (l : List (Value × List Kd × List (List Value))) : Asrt where
  holds w := ∀ t ∈ l, reads w t.1 t.2.1 t.2.2
  fp k := ∃ t ∈ l, t.2.2.flatten ≠ [] ∧ blockOf t.1 k
  stable := fun w w' h hh t ht => (hh t ht).stable fun k hk => h k ⟨t, ht, hk⟩
  bound := fun w hh k ⟨t, ht, hk⟩ => Ent.bound (ρ := [.v t.1, .r t.2.2]) (e := .rd 0 t.2.1 (.var 1)) (hh t ht) hk
/-- A packet and its two slices. -/
abbrev PkX := Pkt × Value × Value
abbrev xD : PkX := (pD 0, nilV, nilV)
def encX (t : PkX) : List Value := [.int .i64 t.1.kind, .bool t.1.dup, .bool t.1.retain, .bool t.1.clean, .bool t.1.session, .int .i64 t.1.qos, .int .i64 t.1.id, .int .i64 t.1.keep, .int .i64 t.1.code, .string ⟨t.1.client.toArray⟩, .string ⟨t.1.topic.toArray⟩, .string ⟨t.1.payload.toArray⟩, t.2.1, t.2.2]
abbrev KP : List Kd := [.int .i64, .bool, .bool, .bool, .bool, .int .i64, .int .i64, .int .i64, .int .i64, .str, .str, .str, .oth, .oth]
abbrev readsX (w : World) (v : Value) (l : List PkX) : Prop := reads w v KP (l.map encX)
def pkT (t : PkX) : List (Value × List Kd × List (List Value)) := [(t.2.1, [.str, .int .i64], t.1.asks.map encA), (t.2.2, [.int .i64], t.1.codes.map encI)]
def pksA (l : List PkX) : Asrt := rdsA (l.flatMap pkT)
theorem pksA_at {l : List PkX} {w : World} (h : (pksA l).holds w) {t : PkX} (ht : t ∈ l) : readsA w t.2.1 t.1.asks ∧ readsI w t.2.2 t.1.codes :=
  ⟨h (t.2.1, [.str, .int .i64], t.1.asks.map encA) (List.mem_flatMap.2 ⟨t, ht, by simp [pkT]⟩), h (t.2.2, [.int .i64], t.1.codes.map encI) (List.mem_flatMap.2 ⟨t, ht, by simp [pkT]⟩)⟩
theorem pksA_nil (w : World) : (pksA []).holds w := fun t ht => by cases ht
theorem pksA_nofp (k : Nat) : ¬ (pksA []).fp k := fun ⟨t, ht, _⟩ => by cases ht
theorem pksA_snoc {l : List PkX} {t : PkX} {w : World} (h : (pksA l).holds w) (h1 : readsA w t.2.1 t.1.asks) (h2 : readsI w t.2.2 t.1.codes) : (pksA (l ++ [t])).holds w := by
  intro x hx
  rw [List.flatMap_append, List.mem_append] at hx
  rcases hx with hx | hx
  · exact h x hx
  · simp only [List.flatMap_cons, List.flatMap_nil, List.append_nil, pkT, List.mem_cons, List.not_mem_nil, or_false] at hx
    rcases hx with rfl | rfl
    · exact h1
    · exact h2
theorem pksA_fp {l : List PkX} {t : PkX} {k : Nat} (h : (pksA (l ++ [t])).fp k) : (pksA l).fp k ∨ ((t.1.asks.map encA).flatten ≠ [] ∧ blockOf t.2.1 k) ∨ ((t.1.codes.map encI).flatten ≠ [] ∧ blockOf t.2.2 k) := by
  obtain ⟨x, hx, hk⟩ := h
  rw [List.flatMap_append, List.mem_append] at hx
  rcases hx with hx | hx
  · exact .inl ⟨x, hx, hk⟩
  · simp only [List.flatMap_cons, List.flatMap_nil, List.append_nil, pkT, List.mem_cons, List.not_mem_nil, or_false] at hx
    rcases hx with rfl | rfl
    · exact .inr (.inl hk)
    · exact .inr (.inr hk)
theorem rowX {l : List PkX} {i : Nat} (h : i < l.length) : (l.map encX).getD i [] = encX (l.getD i xD) := by
  rw [List.getD_eq_getElem?_getD, List.getD_eq_getElem?_getD, List.getElem?_map, List.getElem?_eq_getElem h]; rfl

/-- How many bytes the packet at a stream's beginning has; what is wrong. -/
def sizeF (s : List UInt8) : Int × Int :=
  if s = [] then (0, 8)
  else if (getL s 1).2.2 ≠ 0 then (0, (getL s 1).2.2)
  else if 600 < 1 + (getL s 1).2.1 + (getL s 1).1 then (0, 2)
  else if (s.length : Int) < 1 + (getL s 1).2.1 + (getL s 1).1 then (0, 8)
  else (1 + (getL s 1).2.1 + (getL s 1).1, 0)
def nextF (s : List UInt8) : Pkt × Int × Int :=
  if (sizeF s).2 ≠ 0 then (pD 0, 0, (sizeF s).2) else ((decD (s.take (sizeF s).1.toNat)).1, (sizeF s).1, (decD (s.take (sizeF s).1.toNat)).2)
def feedF : Nat → List UInt8 → List Pkt → List Pkt × List UInt8 × Int
  | 0, s, out => (out, s, 0)
  | f + 1, s, out =>
    if (nextF s).2.2 = 0 then feedF f (s.drop (nextF s).2.1.toNat) (out ++ [(nextF s).1])
    else if (nextF s).2.2 = 8 then (out, s, 0) else (out, [], (nextF s).2.2)
def feed (s : List UInt8) : List Pkt × List UInt8 × Int := feedF (s.length + 1) s []
theorem sizeF_ok {s : List UInt8} (h : (sizeF s).2 = 0) : s ≠ [] ∧ (getL s 1).2.2 = 0 ∧ (sizeF s).1 = 1 + (getL s 1).2.1 + (getL s 1).1 ∧ 1 ≤ (sizeF s).1 ∧ (sizeF s).1 ≤ s.length ∧ (sizeF s).1 ≤ 600 := by
  have hb := getL_bd s 1
  unfold sizeF at h ⊢
  split at h
  · simp at h
  · rename_i h0
    rw [if_neg h0]
    split at h
    · rename_i h1; exact absurd h h1
    · rename_i h1
      rw [if_neg h1]
      split at h
      · simp at h
      · rename_i h2
        rw [if_neg h2]
        split at h
        · simp at h
        · rename_i h3
          rw [if_neg h3]
          exact ⟨h0, by omega, rfl, by simp only; omega, by simp only; omega, by simp only; omega⟩
theorem nextF_ok {s : List UInt8} (h : (nextF s).2.2 = 0) : (sizeF s).2 = 0 ∧ (nextF s).2.1 = (sizeF s).1 ∧ (nextF s).1 = (decD (s.take (sizeF s).1.toNat)).1 ∧ (decD (s.take (sizeF s).1.toNat)).2 = 0 := by
  unfold nextF at h ⊢
  split at h
  · rename_i h0; exact absurd h h0
  · rename_i h0
    rw [if_neg h0]
    exact ⟨by omega, rfl, rfl, h⟩
theorem nextF_bd {s : List UInt8} (h : (nextF s).2.2 = 0) : 1 ≤ (nextF s).2.1 ∧ (nextF s).2.1 ≤ s.length := by
  obtain ⟨h1, h2, -, -⟩ := nextF_ok h
  have := sizeF_ok h1
  omega
theorem feedF_fuel : ∀ (f g : Nat) (s : List UInt8) (out : List Pkt), s.length < f → s.length < g → feedF f s out = feedF g s out
  | 0, _, s, _, h, _ => by omega
  | _ + 1, 0, s, _, _, h => by omega
  | f + 1, g + 1, s, out, h1, h2 => by
    rw [feedF, feedF]
    split
    · rename_i h
      have hb := nextF_bd h
      exact feedF_fuel f g _ _ (by rw [List.length_drop]; omega) (by rw [List.length_drop]; omega)
    · rfl
theorem feedF_step {s : List UInt8} {out : List Pkt} (h : (nextF s).2.2 = 0) : feedF (s.length + 1) s out = feedF ((s.drop (nextF s).2.1.toNat).length + 1) (s.drop (nextF s).2.1.toNat) (out ++ [(nextF s).1]) := by
  have hb := nextF_bd h
  rw [feedF, if_pos h]
  exact feedF_fuel _ _ _ _ (by rw [List.length_drop]; omega) (by omega)
theorem c_size (w : World) (s : List UInt8) (hs : s.length < 4611686018427387904) : Calls Tryd.prog 96 #[.string ⟨s.toArray⟩] w fun e w' => e = .returned (.tuple #[.int .i64 (sizeF s).1, .int .i64 (sizeF s).2]) ∧ Mod [] w w' := by
  refine as_called (run_plain2 (ρ := [.s s]) sxE_ok Tryd.func96 tree_frame_size rfl rfl rfl ?_) rfl
  have hb := getL_bd s 1
  simp only [Tree.goal, X.P, X.ev, V.toI_i, V.toB_b, V.toS_s, V.toR_r, V.toV_v, V.toN_n, V.toL_l, SV.ev, CV.ev, Sc.ev, List.getD_cons_zero, List.getD_cons_succ, List.getElem?_cons_zero, List.getElem?_cons_succ, List.map_cons, List.map_nil, List.length_cons, List.length_nil, List.cons_append, List.nil_append, Nat.zero_add, Nat.reduceAdd]
  refine ⟨fun h w' hr => ⟨by rw [sizeF, if_pos h], hr.mod⟩, fun h => ?_⟩
  rw [sizeF, if_neg h]
  refine ⟨[.i (getL s 1).1, .i (getL s 1).2.1, .i (getL s 1).2.2], rfl, fun _ w' _ => c_GetLong w' s 1 (by omega), ?_⟩
  simp only [Tree.goal, X.P, X.ev, V.toI_i, V.toB_b, V.toS_s, V.toR_r, V.toV_v, V.toN_n, V.toL_l, SV.ev, CV.ev, Sc.ev, List.getD_cons_zero, List.getD_cons_succ, List.getElem?_cons_zero, List.getElem?_cons_succ, List.map_cons, List.map_nil, List.length_cons, List.length_nil, List.cons_append, List.nil_append, Nat.zero_add, Nat.reduceAdd]
  refine ⟨by omega, by omega, by omega, by omega, fun h1 w' hr => ⟨by rw [if_pos h1], hr.mod⟩, fun h1 => ?_⟩
  rw [if_neg h1]
  refine ⟨fun h2 w' hr => ⟨by rw [if_pos h2], hr.mod⟩, fun h2 => ?_⟩
  rw [if_neg h2]
  exact ⟨fun h3 w' hr => ⟨by rw [if_pos h3], hr.mod⟩, fun h3 w' hr => ⟨by rw [if_neg h3], hr.mod⟩⟩
theorem c_next (w : World) (s : List UInt8) (hs : s.length ≤ 60000000) : Calls Tryd.prog 51 #[.string ⟨s.toArray⟩] w
    fun e w' => ∃ x y, e = .returned (.tuple #[pV (nextF s).1 x y, .int .i64 (nextF s).2.1, .int .i64 (nextF s).2.2]) ∧ decPost w w' (nextF s).1 x y := by
  refine as_called (run_plain2 (ρ := [.s s]) sxE_ok Tryd.func51 tree_frame_next rfl rfl rfl ?_) rfl
  simp only [Tree.goal, X.P, X.ev, V.toI_i, V.toB_b, V.toS_s, V.toR_r, V.toV_v, V.toN_n, V.toL_l, SV.ev, CV.ev, Sc.ev, List.getD_cons_zero, List.getD_cons_succ, List.getElem?_cons_zero, List.getElem?_cons_succ, List.map_cons, List.map_nil, List.length_cons, List.length_nil, List.cons_append, List.nil_append, Nat.zero_add, Nat.reduceAdd]
  intro b1
  refine ⟨[.i (sizeF s).1, .i (sizeF s).2], rfl, fun _ w' _ => c_size w' s (by omega), ?_⟩
  simp only [Tree.goal, X.P, X.ev, V.toI_i, V.toB_b, V.toS_s, V.toR_r, V.toV_v, V.toN_n, V.toL_l, SV.ev, CV.ev, Sc.ev, List.getD_cons_zero, List.getD_cons_succ, List.getElem?_cons_zero, List.getElem?_cons_succ, List.map_cons, List.map_nil, List.length_cons, List.length_nil, List.cons_append, List.nil_append, Nat.zero_add, Nat.reduceAdd]
  refine ⟨fun h w' hr => ⟨nilV, nilV, ?_⟩, fun h => ?_⟩
  · rw [nextF, if_pos h]
    exact ⟨rfl, decPost_nil hr.mod 0⟩
  have hz := sizeF_ok (Classical.not_not.1 h)
  rw [nextF, if_neg h]
  refine ⟨by omega, by omega, ?_⟩
  have hlt : (s.take (sizeF s).1.toNat).length ≤ 60000000 := by rw [List.length_take]; omega
  intro w1 hr
  refine (c_PDecode w1 (s.take (sizeF s).1.toNat) hlt).mono ?_
  generalize decD (s.take (sizeF s).1.toNat) = r
  obtain ⟨q, er⟩ := r
  rintro e w2 ⟨x, y, rfl, m, rx, ry, fx, fy⟩
  refine ⟨[.i q.kind, .b q.dup, .b q.retain, .b q.clean, .b q.session, .i q.qos, .i q.id, .i q.keep, .i q.code, .s q.client, .s q.topic, .s q.payload, .v x, .r (q.asks.map encA), .v y, .r (q.codes.map encI), .i er], rfl, rfl, m, List.forall_mem_nil _, List.forall_mem_cons.2 ⟨⟨rx, fun k hk => .inl (fx k hk.2)⟩, List.forall_mem_cons.2 ⟨⟨ry, fun k hk => .inl (fy k hk.2)⟩, List.forall_mem_nil _⟩⟩, apart_ro2 (by simp [Ent.wr]), ?_⟩
  simp only [Tree.goal, X.P, X.ev, V.toI_i, V.toB_b, V.toS_s, V.toR_r, V.toV_v, V.toN_n, V.toL_l, SV.ev, CV.ev, Sc.ev, List.getD_cons_zero, List.getD_cons_succ, List.getElem?_cons_zero, List.getElem?_cons_succ, List.map_cons, List.map_nil, List.length_cons, List.length_nil, List.cons_append, List.nil_append, Nat.zero_add, Nat.reduceAdd]
  have hw := hr.mod.size
  clear m hr
  intro b2
  exact fun w' hr => ⟨x, y, rfl, hr.mod, hr.at_ 1 rfl, hr.at_ 2 rfl, fun k hk => Nat.le_trans hw (fx k hk), fun k hk => Nat.le_trans hw (fy k hk)⟩
/-- What Feed leaves. -/
def feedPost (w w' : World) (x : Value) (l : List PkX) : Prop := Mod [] w w' ∧ readsX w' x l ∧ (pksA l).holds w' ∧ (∀ k, blockOf x k → w.heap.size ≤ k) ∧ ∀ k, (pksA l).fp k → w.heap.size ≤ k
end Go.Proofs.YtliedecinehijaaDoor

/-
  Packets out of a stream: Feed, walked; lists of packets compared. By an AI agent.
-/
set_option linter.unusedSimpArgs false
set_option linter.unusedVariables false
namespace Go.Proofs.YtliedecinehijaaDoor
open Go.Sx
theorem c_Feed (w : World) (r s : List UInt8) (hs : r.length + s.length ≤ 60000000) : Calls Tryd.prog 15 #[.string ⟨r.toArray⟩, .string ⟨s.toArray⟩] w
    fun e w' => ∃ (x : Value) (l : List PkX), e = .returned (.tuple #[sc1 x, .string ⟨(feed (r ++ s)).2.1.toArray⟩, .int .i64 (feed (r ++ s)).2.2]) ∧ l.map (·.1) = (feed (r ++ s)).1 ∧ feedPost w w' x l := by
  refine as_called (run_tree2 (ρ := [.s r, .s s]) (sxE_ok.joins _) Tryd.func15 tree_frame_Feed rfl rfl (Rel.start w _) rfl rfl ?_) rfl
  simp only [Tree.goal, X.P, X.ev, V.toI_i, V.toB_b, V.toS_s, V.toR_r, V.toV_v, V.toN_n, V.toL_l, SV.ev, CV.ev, Sc.ev, List.getD_cons_zero, List.getD_cons_succ, List.getElem?_cons_zero, List.getElem?_cons_succ, List.map_cons, List.map_nil, List.length_cons, List.length_nil, List.cons_append, List.nil_append, Nat.zero_add, Nat.reduceAdd]
  refine ⟨by omega, ?_⟩
  refine ⟨pksA [], fun w _ => pksA_nil w, fun k hk => absurd hk (pksA_nofp k), ?_⟩
  refine ⟨fun vs => ∃ (l : List PkX) (s' : List UInt8) (x : Value), vs = [.v nilV, .r [], .s [], .i 0, .s s', .v x, .r (l.map encX), .a (pksA l)] ∧ feedF (s'.length + 1) s' (l.map (·.1)) = feed (r ++ s) ∧ l.length + s'.length ≤ (r ++ s).length ∧ ∀ k, (pksA l).fp k → w.heap.size ≤ k,
    fun vs => (vs.getD 4 (.i 0)).toS.length, ⟨[], r ++ s, nilV, rfl, rfl, by simp, fun k hk => absurd hk (pksA_nofp k)⟩, ?_⟩
  rintro _ - ⟨l, s', x, rfl, hf, hlen, hfr⟩
  rw [List.length_append] at hlen
  simp only [Tree.goal, X.P, X.ev, V.toI_i, V.toB_b, V.toS_s, V.toR_r, V.toV_v, V.toN_n, V.toL_l, SV.ev, CV.ev, Sc.ev, List.getD_cons_zero, List.getD_cons_succ, List.getElem?_cons_zero, List.getElem?_cons_succ, List.map_cons, List.map_nil, List.length_cons, List.length_nil, List.cons_append, List.nil_append, Nat.zero_add, Nat.reduceAdd]
  intro w1 hr
  refine (c_next w1 s' (by omega)).mono ?_
  have hstep := @feedF_step s' (l.map (·.1))
  have hbd := @nextF_bd s'
  have hend : (nextF s').2.2 ≠ 0 → feed (r ++ s) = if (nextF s').2.2 = 8 then (l.map (·.1), s', 0) else (l.map (·.1), [], (nextF s').2.2) := fun h => by rw [← hf, feedF, if_neg h]
  generalize nextF s' = t at hstep hbd hend
  obtain ⟨q, n, er⟩ := t
  rintro e w2 ⟨px, py, rfl, m, rx, ry, fx, fy⟩
  refine ⟨[.i q.kind, .b q.dup, .b q.retain, .b q.clean, .b q.session, .i q.qos, .i q.id, .i q.keep, .i q.code, .s q.client, .s q.topic, .s q.payload, .v px, .r (q.asks.map encA), .v py, .r (q.codes.map encI), .i n, .i er], rfl, rfl, m, List.forall_mem_nil _, List.forall_mem_cons.2 ⟨⟨rx, fun k hk => .inl (fx k hk.2)⟩, List.forall_mem_cons.2 ⟨⟨ry, fun k hk => .inl (fy k hk.2)⟩, List.forall_mem_nil _⟩⟩, apart_ro2 (by simp [Ent.wr]), ?_⟩
  have hw := hr.mod.size
  simp only [Tree.goal, X.P, X.ev, V.toI_i, V.toB_b, V.toS_s, V.toR_r, V.toV_v, V.toN_n, V.toL_l, SV.ev, CV.ev, Sc.ev, List.getD_cons_zero, List.getD_cons_succ, List.getElem?_cons_zero, List.getElem?_cons_succ, List.map_cons, List.map_nil, List.length_cons, List.length_nil, List.cons_append, List.nil_append, Nat.zero_add, Nat.reduceAdd]
  clear m hr
  intro b1
  refine ⟨fun h0 => ?_, fun h0 => ⟨fun h8 w' hr => ?_, fun h8 w' hr => ?_⟩⟩
  · have hb := hbd h0
    simp only at hb
    intro z1
    refine ⟨by simp only [List.length_map, List.length_nil, List.length_append, List.length_cons]; omega, fun z2 => ⟨by omega, by omega, ?_⟩⟩
    refine ⟨pksA (l ++ [(q, px, py)]), fun w' hr => pksA_snoc (hr.at_ 5 rfl) (hr.at_ 3 rfl) (hr.at_ 4 rfl), fun k hk => ?_, ⟨l ++ [(q, px, py)], s'.drop n.toNat, z2, ?_, ?_, ?_, fun k hk => ?_⟩, ?_⟩
    · rcases pksA_fp hk with h | h | h
      · exact ⟨_, List.mem_of_getElem? (i := 5) rfl, rfl, h⟩
      · exact ⟨_, List.mem_of_getElem? (i := 3) rfl, rfl, h⟩
      · exact ⟨_, List.mem_of_getElem? (i := 4) rfl, rfl, h⟩
    · rw [rx.sc1, ry.sc1]
      simp [encX]
    · rw [List.map_append]
      rw [← hf]
      exact (hstep h0).symm
    · rw [List.length_append, List.length_drop, List.length_append, List.length_cons, List.length_nil]; omega
    · rcases pksA_fp hk with h | h | h
      · exact hfr k h
      · exact Nat.le_trans hw (fx k h.2)
      · exact Nat.le_trans hw (fy k h.2)
    · show (List.drop n.toNat (List.take (s'.length : Int).toNat s')).length < s'.length
      rw [Int.toNat_natCast, List.take_length, List.length_drop]
      omega
  · rw [hend h0, if_pos h8]
    have o := hr.at_ 4 rfl
    refine ⟨x, l, rfl, rfl, hr.mod, owns.reads o, hr.at_ 3 rfl, fun k hk => (hr.own _ (List.mem_of_getElem? (i := 4) rfl) rfl k hk).resolve_right (by simp), hfr⟩
  · rw [hend h0, if_neg h8]
    have o := hr.at_ 4 rfl
    refine ⟨x, l, rfl, rfl, hr.mod, owns.reads o, hr.at_ 3 rfl, fun k hk => (hr.own _ (List.mem_of_getElem? (i := 4) rfl) rfl k hk).resolve_right (by simp), hfr⟩
theorem lists_eq {a b : List PkX} (hl : a.length = b.length) (h : ∀ i, i < a.length → (a.getD i xD).1 = (b.getD i xD).1) : a.map (·.1) = b.map (·.1) := by
  refine List.ext_getElem (by simpa using hl) fun i h1 h2 => ?_
  have h1 : i < a.length := by simpa using h1
  have h2 : i < b.length := by simpa using h2
  have := h i h1
  rw [List.getD_eq_getElem?_getD, List.getD_eq_getElem?_getD, List.getElem?_eq_getElem h1, List.getElem?_eq_getElem h2] at this
  simpa using this
theorem c_SamePackets (w : World) (x y : Value) (a b : List PkX) (ha : readsX w x a) (hb : readsX w y b) (pa : (pksA a).holds w) (pb : (pksA b).holds w) (hs : ∀ t ∈ a, SmallP t.1) (hl : a.length < 1000000000) :
    Calls Tryd.prog 17 #[sc1 x, sc1 y] w fun e w' => e = .returned (.bool (decide (a.map (·.1) = b.map (·.1)))) ∧ Mod [] w w' := by
  refine as_called (run_tree2 (ρ := [.v x, .r (a.map encX), .a (pksA a), .v y, .r (b.map encX), .a (pksA b)]) sxE_ok Tryd.func17 tree_dragomanref_SamePackets rfl rfl (Rel.start2 (by
    refine List.forall_mem_cons.2 ⟨⟨ha, rfl⟩, List.forall_mem_cons.2 ⟨⟨pa, rfl⟩, List.forall_mem_cons.2 ⟨⟨hb, rfl⟩, List.forall_mem_cons.2 ⟨⟨pb, rfl⟩, List.forall_mem_nil _⟩⟩⟩⟩)) rfl rfl ?_) rfl
  simp only [Tree.goal, X.P, X.ev, V.toI_i, V.toB_b, V.toS_s, V.toR_r, V.toV_v, V.toN_n, V.toL_l, SV.ev, CV.ev, Sc.ev, List.getD_cons_zero, List.getD_cons_succ, List.getElem?_cons_zero, List.getElem?_cons_succ, List.map_cons, List.map_nil, List.length_cons, List.length_nil, List.cons_append, List.nil_append, Nat.zero_add, Nat.reduceAdd, List.length_map]
  refine ⟨fun h w' hr => ⟨?_, hr.mod⟩, fun h => ?_⟩
  · have : ¬ a.map (·.1) = b.map (·.1) := fun e => h (by have := congrArg List.length e; simp at this; omega)
    simp [this]
  have hlen : a.length = b.length := by omega
  refine ⟨fun vs => ∃ (i : Nat) (v : V), vs = [v, .i i] ∧ i ≤ a.length ∧ ∀ j, j < i → (a.getD j xD).1 = (b.getD j xD).1, fun vs => a.length - (vs.getD 1 (.i 0)).toI.toNat, ⟨0, _, rfl, by omega, by omega⟩, ?_⟩
  rintro _ - ⟨i, v, rfl, hi, hg⟩
  simp only [Tree.goal, X.P, X.ev, V.toI_i, V.toB_b, V.toS_s, V.toR_r, V.toV_v, V.toN_n, V.toL_l, SV.ev, CV.ev, Sc.ev, List.getD_cons_zero, List.getD_cons_succ, List.getElem?_cons_zero, List.getElem?_cons_succ, List.map_cons, List.map_nil, List.length_cons, List.length_nil, List.cons_append, List.nil_append, Nat.zero_add, Nat.reduceAdd, List.length_map, Int.toNat_natCast]
  refine ⟨fun h2 => ?_, fun h2 w' hr => ⟨?_, hr.mod⟩⟩
  · have hia : i < a.length := by omega
    have hib : i < b.length := by omega
    rw [rowX hia, rowX hib]
    have ma : a.getD i xD ∈ a := by rw [List.getD_eq_getElem?_getD, List.getElem?_eq_getElem hia]; exact List.getElem_mem hia
    have mb : b.getD i xD ∈ b := by rw [List.getD_eq_getElem?_getD, List.getElem?_eq_getElem hib]; exact List.getElem_mem hib
    refine ⟨by omega, by omega, ?_⟩
    refine ⟨[.b (decide ((a.getD i xD).1 = (b.getD i xD).1))], rfl, fun _ w' hr => ?_, ?_⟩
    · have qa := pksA_at (hr.at_ 1 rfl : (pksA a).holds w') ma
      have qb := pksA_at (hr.at_ 3 rfl : (pksA b).holds w') mb
      exact c_SamePacket w' (a.getD i xD).1 (b.getD i xD).1 _ _ _ _ qa.1 qa.2 qb.1 qb.2 (hs _ ma)
    simp only [Tree.goal, X.P, X.ev, V.toI_i, V.toB_b, V.toS_s, V.toR_r, V.toV_v, V.toN_n, V.toL_l, SV.ev, CV.ev, Sc.ev, List.getD_cons_zero, List.getD_cons_succ, List.getElem?_cons_zero, List.getElem?_cons_succ, List.map_cons, List.map_nil, List.length_cons, List.length_nil, List.cons_append, List.nil_append, Nat.zero_add, Nat.reduceAdd]
    refine ⟨fun h3 w' hr => ⟨?_, hr.mod⟩, fun h3 => ⟨by omega, by omega, ⟨i + 1, v, rfl, by omega, fun j hj => ?_⟩, by omega⟩⟩
    · have h3 : ¬ (a.getD i xD).1 = (b.getD i xD).1 := by simpa using h3
      have : ¬ a.map (·.1) = b.map (·.1) := fun e => h3 (by
        have e2 : (a.map (·.1)).getD i (pD 0) = (b.map (·.1)).getD i (pD 0) := by rw [e]
        rw [List.getD_eq_getElem?_getD, List.getD_eq_getElem?_getD, List.getElem?_map, List.getElem?_map, List.getElem?_eq_getElem hia, List.getElem?_eq_getElem hib] at e2
        rw [List.getD_eq_getElem?_getD, List.getD_eq_getElem?_getD, List.getElem?_eq_getElem hia, List.getElem?_eq_getElem hib]
        exact e2)
      simp [this]
    · have h3 : (a.getD i xD).1 = (b.getD i xD).1 := by simpa using h3
      by_cases hji : j = i
      · subst hji; exact h3
      · exact hg j (by omega)
  · have := lists_eq hlen fun j hj => hg j (by omega)
    simp [this]
end Go.Proofs.YtliedecinehijaaDoor

/-
  Packets out of a stream: what holds of Feed, in plain terms. By an AI agent.
-/
set_option linter.unusedSimpArgs false
set_option linter.unusedVariables false
namespace Go.Proofs.YtliedecinehijaaDoor
open Go.Sx

theorem chkT_ne {s : List UInt8} {f : Bool} : 0 ≤ chkT s f ∧ chkT s f ≤ 2 := by
  unfold chkT; (repeat' split) <;> omega
theorem countE_ne (n : Nat) : 0 ≤ countE n ∧ countE n ≤ 2 := by unfold countE; (repeat' split) <;> omega
theorem asksL_ne (k : Int) : ∀ l : List Ak, 0 ≤ asksL k l ∧ asksL k l ≤ 7
  | [] => by simp [asksL]
  | a :: l => by
    have h1 := @chkT_ne a.1 true
    have h2 := asksL_ne k l
    have h3 : 0 ≤ (if k = 8 then askE a else noaskE a) ∧ (if k = 8 then askE a else noaskE a) ≤ 7 := by
      unfold askE noaskE; (repeat' split) <;> omega
    rw [asksL]
    generalize (if k = 8 then askE a else noaskE a) = x at h3 ⊢
    split
    · exact h2
    · exact h3
theorem chkP_ne (p : Pkt) : 0 ≤ chkP p ∧ chkP p ≤ 7 := by
  have h1 := @chkT_ne p.topic false
  have h2 := asksL_ne p.kind p.asks
  have h3 := countE_ne p.asks.length
  have h4 := countE_ne p.codes.length
  unfold chkP partsE pubE connE connackE asksE codesE
  (repeat' split) <;> omega
theorem decD_ne (s : List UInt8) : 0 ≤ (decD s).2 ∧ (decD s).2 ≤ 7 := by
  have := chkP_ne (readP s).1
  unfold decD
  (repeat' split) <;> simp only <;> omega
/-- A long number that is whole, or wrong, stays so. -/
theorem glF_more (t : List UInt8) : ∀ (f i n : Nat) (l : List UInt8), (glF f i n l).2.2 ≠ 8 → glF f i n (l ++ t) = glF f i n l
  | 0, i, n, l, _ => rfl
  | f + 1, i, n, [], h => absurd rfl h
  | f + 1, i, n, c :: l, h => by
    simp only [List.cons_append, glF] at h ⊢
    split
    · rfl
    · rename_i hc
      rw [if_neg hc] at h
      exact glF_more t f (i + 1) _ l h
theorem getL_more {s : List UInt8} (t : List UInt8) (h0 : s ≠ []) (h : (getL s 1).2.2 ≠ 8) : getL (s ++ t) 1 = getL s 1 := by
  have hl : 1 ≤ s.length := List.length_pos_iff.2 h0
  have e1 : getL s 1 = glF 4 0 0 (s.drop (1 : Int).toNat) := by rw [getL, if_pos (by omega)]
  have e2 : getL (s ++ t) 1 = glF 4 0 0 ((s ++ t).drop (1 : Int).toNat) := by rw [getL, if_pos (by rw [List.length_append]; omega)]
  rw [e1] at h ⊢
  rw [e2]
  have e : (s ++ t).drop (1 : Int).toNat = s.drop (1 : Int).toNat ++ t := by
    rw [List.drop_append_of_le_length (by simpa using hl)]
  rw [e]
  exact glF_more t 4 0 0 _ h
theorem sizeF_more {s : List UInt8} (t : List UInt8) (h : (sizeF s).2 ≠ 8) : sizeF (s ++ t) = sizeF s := by
  by_cases h0 : s = []
  · rw [sizeF, if_pos h0] at h; exact absurd rfl h
  have h1 : s ++ t ≠ [] := fun e => h0 (List.append_eq_nil_iff.1 e).1
  rw [sizeF, if_neg h0] at h
  by_cases h2 : (getL s 1).2.2 = 8
  · rw [h2] at h; exact absurd rfl h
  have hg := getL_more t h0 h2
  rw [sizeF, if_neg h1, hg]
  conv => rhs; rw [sizeF, if_neg h0]
  split
  · rfl
  · split
    · rfl
    · rename_i h3 h4
      rw [if_neg h3, if_neg h4] at h
      split at h
      · exact absurd rfl h
      · rename_i h5
        rw [if_neg h5, if_neg (by rw [List.length_append]; omega)]
theorem nextF_more {s : List UInt8} (t : List UInt8) (h : (nextF s).2.2 ≠ 8) : nextF (s ++ t) = nextF s := by
  have h1 : (sizeF s).2 ≠ 8 := fun e => h (by rw [nextF, if_pos (by rw [e]; decide)]; exact e)
  rw [nextF, sizeF_more t h1]
  conv => rhs; rw [nextF]
  split
  · rfl
  · rename_i h2
    have := sizeF_ok (s := s) (by omega)
    rw [List.take_append_of_le_length (by omega)]
theorem nextF_eight {s : List UInt8} : (nextF s).2.2 = 8 ↔ (sizeF s).2 = 8 := by
  unfold nextF
  split
  · exact Iff.rfl
  · rename_i h
    have := decD_ne (s.take (sizeF s).1.toNat)
    simp only
    constructor <;> intro h2 <;> omega
theorem feedF_out : ∀ (f : Nat) (s : List UInt8) (out : List Pkt), feedF f s out = (out ++ (feedF f s []).1, (feedF f s []).2)
  | 0, s, out => by simp [feedF]
  | f + 1, s, out => by
    rw [feedF, feedF]
    split
    · rw [feedF_out f _ (out ++ _), feedF_out f _ ([] ++ _)]
      simp
    · split <;> simp
theorem feed_step {s : List UInt8} (h : (nextF s).2.2 = 0) : feed s = ((nextF s).1 :: (feed (s.drop (nextF s).2.1.toNat)).1, (feed (s.drop (nextF s).2.1.toNat)).2) := by
  rw [feed, feedF_step h, feedF_out]; rfl
theorem feed_short {s : List UInt8} (h : (nextF s).2.2 = 8) : feed s = ([], s, 0) := by
  rw [feed, feedF, if_neg (by rw [h]; decide), if_pos h]
theorem feed_err {s : List UInt8} (h : (nextF s).2.2 ≠ 0) (h8 : (nextF s).2.2 ≠ 8) : feed s = ([], [], (nextF s).2.2) := by
  rw [feed, feedF, if_neg h, if_neg h8]
/-- Bytes that come later. -/
theorem feed_more (t : List UInt8) : ∀ (k : Nat) (s : List UInt8), s.length ≤ k → feed (s ++ t) = if (feed s).2.2 = 0 then ((feed s).1 ++ (feed ((feed s).2.1 ++ t)).1, (feed ((feed s).2.1 ++ t)).2) else feed s
  | k, s, hk => by
    by_cases h0 : (nextF s).2.2 = 0
    · have hb := nextF_bd h0
      have hn := nextF_more t (s := s) (by rw [h0]; decide)
      have h0' : (nextF (s ++ t)).2.2 = 0 := by rw [hn]; exact h0
      obtain ⟨k', rfl⟩ : ∃ k', k = k' + 1 := ⟨k - 1, by omega⟩
      have e : (s ++ t).drop (nextF s).2.1.toNat = s.drop (nextF s).2.1.toNat ++ t := by rw [List.drop_append_of_le_length (by omega)]
      have ih := feed_more t k' (s.drop (nextF s).2.1.toNat) (by rw [List.length_drop]; omega)
      rw [feed_step h0', hn, e, ih, feed_step h0]
      simp only
      split
      · simp
      · rfl
    · by_cases h8 : (nextF s).2.2 = 8
      · rw [feed_short h8, if_pos rfl]
        simp
      · have hn := nextF_more t h8
        rw [feed_err h0 h8, if_neg h0, feed_err (by rw [hn]; exact h0) (by rw [hn]; exact h8), hn]
theorem feed_nil : feed [] = ([], [], 0) := feed_short (by rw [nextF_eight]; rfl)
/-- Packets that are encoded come out. -/
theorem next_bytes {p : Pkt} (h : chkP p = 0) (hl : (bytesP p).length ≤ 600) (t : List UInt8) : nextF (bytesP p ++ t) = (p, (((bytesP p).length : Nat) : Int), 0) := by
  have hb := (chk_form h).2
  have hg := getL_bytes (p := p) (by omega) t
  have hlen : (bytesP p).length = 1 + (lngB 3 (bodyB p).length).length + (bodyB p).length := by simp only [bytesP, List.length_append, numB_len]
  have hs : sizeF (bytesP p ++ t) = ((((bytesP p).length : Nat) : Int), 0) := by
    rw [sizeF, if_neg (fun e => bytesP_ne p (List.append_eq_nil_iff.1 e).1), hg]
    simp only [ne_eq, not_true_eq_false, if_false]
    rw [if_neg (by omega), if_neg (by rw [List.length_append]; omega)]
    simp only [Prod.mk.injEq, and_true]
    omega
  rw [nextF, hs, if_neg (by simp)]
  simp only [Int.toNat_natCast, List.take_left]
  rw [decD_back h]
theorem feed_many : ∀ l : List Pkt, (∀ p ∈ l, chkP p = 0 ∧ (bytesP p).length ≤ 600) → feed (l.map bytesP).flatten = (l, [], 0)
  | [], _ => feed_nil
  | p :: l, h => by
    obtain ⟨h1, h2⟩ := h p (List.mem_cons_self ..)
    have hn := next_bytes h1 h2 (l.map bytesP).flatten
    have ih := feed_many l fun q hq => h q (List.mem_cons_of_mem _ hq)
    rw [List.map_cons, List.flatten_cons, feed_step (by rw [hn]), hn]
    simp only [Int.toNat_natCast, List.drop_left, ih]
end Go.Proofs.YtliedecinehijaaDoor

/-
  Packets out of a stream: the laws FramePieces, FrameMany, walked. By an AI agent.
-/
set_option linter.unusedSimpArgs false
set_option linter.unusedVariables false
namespace Go.Proofs.YtliedecinehijaaDoor
open Go.Sx
theorem pksA_app {a b : List PkX} {w : World} (h1 : (pksA a).holds w) (h2 : (pksA b).holds w) : (pksA (a ++ b)).holds w := by
  intro x hx
  rw [List.flatMap_append, List.mem_append] at hx
  exact hx.elim (h1 x) (h2 x)
theorem feed_small : ∀ (k : Nat) (s : List UInt8), s.length ≤ k → s.length ≤ 60000000 → (∀ p ∈ (feed s).1, SmallP p) ∧ (feed s).1.length ≤ s.length
  | k, s, hk, hs => by
    by_cases h0 : (nextF s).2.2 = 0
    · have hb := nextF_bd h0
      obtain ⟨k', rfl⟩ : ∃ k', k = k' + 1 := ⟨k - 1, by omega⟩
      obtain ⟨i1, i2⟩ := feed_small k' (s.drop (nextF s).2.1.toNat) (by rw [List.length_drop]; omega) (by rw [List.length_drop]; omega)
      rw [feed_step h0]
      refine ⟨fun p hp => ?_, ?_⟩
      · rcases List.mem_cons.1 hp with rfl | hp
        · rw [(nextF_ok h0).2.2.1]
          exact decD_small (by rw [List.length_take]; omega)
        · exact i1 p hp
      · rw [List.length_drop] at i2
        simp only [List.length_cons]; omega
    · by_cases h8 : (nextF s).2.2 = 8
      · rw [feed_short h8]; simp
      · rw [feed_err h0 h8]; simp
theorem small_of {l : List PkX} {s : List UInt8} (h : l.map (·.1) = (feed s).1) (hs : s.length ≤ 60000000) : (∀ t ∈ l, SmallP t.1) ∧ l.length < 1000000000 := by
  obtain ⟨h1, h2⟩ := feed_small _ s (Nat.le_refl _) hs
  refine ⟨fun t ht => h1 _ (by rw [← h]; exact List.mem_map_of_mem ht), ?_⟩
  have := congrArg List.length h
  rw [List.length_map] at this
  omega
theorem feed_pub : feed ([50, 9, 0] ++ ([3, 97, 47, 98, 0, 10, 104, 105] ++ [50, 9, 0, 3, 97, 47, 98, 0, 10, 104, 105] ++ [48])) = ([pubP, pubP], [48], 0) := by decide +kernel
theorem c_frameBegun (w : World) : Calls Tryd.prog 16 #[] w fun e w' => e = .returned (.bool true) ∧ Mod [] w w' := by
  refine as_called (run_plain2 (ρ := []) sxE_ok Tryd.func16 tree_dragomanlaw_frameBegun rfl rfl rfl ?_) rfl
  simp only [Tree.goal, X.P, X.ev, V.toI_i, V.toB_b, V.toS_s, V.toR_r, V.toV_v, V.toN_n, V.toL_l, SV.ev, CV.ev, Sc.ev, List.getD_cons_zero, List.getD_cons_succ, List.getElem?_cons_zero, List.getElem?_cons_succ, List.map_cons, List.map_nil, List.length_cons, List.length_nil, List.cons_append, List.nil_append, Nat.zero_add, Nat.reduceAdd]
  intro w1 hr; refine (c_pub w1).mono ?_; rintro e w2 ⟨rfl, m⟩; refine ⟨[.i 3, .b false, .b false, .b false, .b false, .i 1, .i 10, .i 0, .i 0, .s [], .s [97, 47, 98], .s [104, 105], .v nilV, .r [], .v nilV, .r []], rfl, rfl, m, List.forall_mem_nil _, List.forall_mem_cons.2 ⟨⟨readsA_nil _, fun k hk => absurd rfl hk.1⟩, List.forall_mem_cons.2 ⟨⟨readsI_nil _, fun k hk => absurd rfl hk.1⟩, List.forall_mem_nil _⟩⟩, apart_ro2 (by simp [Ent.wr]), ?_⟩; simp only [Tree.goal, X.P, X.ev, V.toI_i, V.toB_b, V.toS_s, V.toR_r, V.toV_v, V.toN_n, V.toL_l, SV.ev, CV.ev, Sc.ev, List.getD_cons_zero, List.getD_cons_succ, List.getElem?_cons_zero, List.getElem?_cons_succ, List.map_cons, List.map_nil, List.length_cons, List.length_nil, List.cons_append, List.nil_append, Nat.zero_add, Nat.reduceAdd]; clear m hr
  refine ⟨[.s (if chkP pubP = 0 then bytesP pubP else []), .i (chkP pubP)], rfl, fun _ w' hr => c_PEncode w' pubP nilV nilV (readsA_nil _) (readsI_nil _) pubP_small, ?_⟩
  simp only [Tree.goal, X.P, X.ev, V.toI_i, V.toB_b, V.toS_s, V.toR_r, V.toV_v, V.toN_n, V.toL_l, SV.ev, CV.ev, Sc.ev, List.getD_cons_zero, List.getD_cons_succ, List.getElem?_cons_zero, List.getElem?_cons_succ, List.map_cons, List.map_nil, List.length_cons, List.length_nil, List.cons_append, List.nil_append, Nat.zero_add, Nat.reduceAdd, pubP_ok, if_true, pubP_bytes]
  refine ⟨fun h => absurd h (by decide), fun _ => ⟨by decide, by decide, by decide, ?_⟩⟩
  intro w1 hr
  refine (c_Feed w1 [50, 9, 0] ([3, 97, 47, 98, 0, 10, 104, 105] ++ [50, 9, 0, 3, 97, 47, 98, 0, 10, 104, 105] ++ [48]) (by decide)).mono ?_
  rw [feed_pub]
  rintro e w2 ⟨x, l, rfl, hl, m, rX, pX, fX, fP⟩; refine ⟨[.v x, .r (l.map encX), .s _, .i _, .a (pksA l)], rfl, rfl, m, List.forall_mem_nil _, List.forall_mem_cons.2 ⟨⟨rX, fun k hk => .inl (fX k hk.2)⟩, List.forall_mem_cons.2 ⟨⟨pX, fun k hk => .inl (fP k hk)⟩, List.forall_mem_nil _⟩⟩, apart_ro2 (by simp [Ent.wr]), ?_⟩; simp only [Tree.goal, X.P, X.ev, V.toI_i, V.toB_b, V.toS_s, V.toR_r, V.toV_v, V.toN_n, V.toL_l, SV.ev, CV.ev, Sc.ev, List.getD_cons_zero, List.getD_cons_succ, List.getElem?_cons_zero, List.getElem?_cons_succ, List.map_cons, List.map_nil, List.length_cons, List.length_nil, List.cons_append, List.nil_append, Nat.zero_add, Nat.reduceAdd]; clear m hr rX pX fX fP
  refine ⟨fun _ => ?_, fun h => absurd ⟨trivial, trivial⟩ h⟩
  intro w1 hr; refine (c_pub w1).mono ?_; rintro e w2 ⟨rfl, m⟩; refine ⟨[.i 3, .b false, .b false, .b false, .b false, .i 1, .i 10, .i 0, .i 0, .s [], .s [97, 47, 98], .s [104, 105], .v nilV, .r [], .v nilV, .r []], rfl, rfl, m, List.forall_mem_nil _, List.forall_mem_cons.2 ⟨⟨readsA_nil _, fun k hk => absurd rfl hk.1⟩, List.forall_mem_cons.2 ⟨⟨readsI_nil _, fun k hk => absurd rfl hk.1⟩, List.forall_mem_nil _⟩⟩, apart_ro2 (by simp [Ent.wr]), ?_⟩; simp only [Tree.goal, X.P, X.ev, V.toI_i, V.toB_b, V.toS_s, V.toR_r, V.toV_v, V.toN_n, V.toL_l, SV.ev, CV.ev, Sc.ev, List.getD_cons_zero, List.getD_cons_succ, List.getElem?_cons_zero, List.getElem?_cons_succ, List.map_cons, List.map_nil, List.length_cons, List.length_nil, List.cons_append, List.nil_append, Nat.zero_add, Nat.reduceAdd]; clear m hr
  intro w1 hr; refine (c_pub w1).mono ?_; rintro e w2 ⟨rfl, m⟩; refine ⟨[.i 3, .b false, .b false, .b false, .b false, .i 1, .i 10, .i 0, .i 0, .s [], .s [97, 47, 98], .s [104, 105], .v nilV, .r [], .v nilV, .r []], rfl, rfl, m, List.forall_mem_nil _, List.forall_mem_cons.2 ⟨⟨readsA_nil _, fun k hk => absurd rfl hk.1⟩, List.forall_mem_cons.2 ⟨⟨readsI_nil _, fun k hk => absurd rfl hk.1⟩, List.forall_mem_nil _⟩⟩, apart_ro2 (by simp [Ent.wr]), ?_⟩; simp only [Tree.goal, X.P, X.ev, V.toI_i, V.toB_b, V.toS_s, V.toR_r, V.toV_v, V.toN_n, V.toL_l, SV.ev, CV.ev, Sc.ev, List.getD_cons_zero, List.getD_cons_succ, List.getElem?_cons_zero, List.getElem?_cons_succ, List.map_cons, List.map_nil, List.length_cons, List.length_nil, List.cons_append, List.nil_append, Nat.zero_add, Nat.reduceAdd]; clear m hr
  intro z1
  have hsm := small_of (s := [50, 9, 0] ++ ([3, 97, 47, 98, 0, 10, 104, 105] ++ [50, 9, 0, 3, 97, 47, 98, 0, 10, 104, 105] ++ [48])) (l := l) (by rw [feed_pub]; exact hl) (by decide)
  refine ⟨[.b (decide (l.map (·.1) = [(pubP, nilV, nilV), (pubP, nilV, nilV)].map (·.1)))], rfl, fun _ w' hr => c_SamePackets w' x z1 l [(pubP, nilV, nilV), (pubP, nilV, nilV)] (by first | exact hr.at_ 0 rfl | exact hr.at_ 1 rfl | exact hr.at_ 2 rfl | exact hr.at_ 3 rfl | exact hr.at_ 4 rfl | exact hr.at_ 5 rfl | exact hr.at_ 6 rfl | exact hr.at_ 7 rfl | exact hr.at_ 8 rfl | exact hr.at_ 9 rfl | exact hr.at_ 10 rfl | exact hr.at_ 11 rfl) (owns.reads (hr.at_ 0 rfl)) (by first | exact hr.at_ 0 rfl | exact hr.at_ 1 rfl | exact hr.at_ 2 rfl | exact hr.at_ 3 rfl | exact hr.at_ 4 rfl | exact hr.at_ 5 rfl | exact hr.at_ 6 rfl | exact hr.at_ 7 rfl | exact hr.at_ 8 rfl | exact hr.at_ 9 rfl | exact hr.at_ 10 rfl | exact hr.at_ 11 rfl) ?_ hsm.1 hsm.2, ?_⟩
  · exact pksA_snoc (l := [(pubP, nilV, nilV)]) (pksA_snoc (l := []) (pksA_nil _) (readsA_nil _) (readsI_nil _)) (readsA_nil _) (readsI_nil _)
  simp only [Tree.goal, X.P, X.ev, V.toI_i, V.toB_b, V.toS_s, V.toR_r, V.toV_v, V.toN_n, V.toL_l, SV.ev, CV.ev, Sc.ev, List.getD_cons_zero, List.getD_cons_succ, List.getElem?_cons_zero, List.getElem?_cons_succ, List.map_cons, List.map_nil, List.length_cons, List.length_nil, List.cons_append, List.nil_append, Nat.zero_add, Nat.reduceAdd]
  exact fun w' hr => ⟨by simp [hl], hr.mod⟩
theorem feed_cut (s : List UInt8) (c m : Nat) (hc : c ≤ s.length) (hm : m ≤ s.length - c) :
    s = s.take c ++ (((s.take (c + m)).drop c) ++ s.drop (c + m)) := by
  have e : (s.take (c + m)).drop c = (s.drop c).take m := by rw [List.drop_take]; congr 1; omega
  rw [e, ← List.drop_drop, List.take_append_drop, List.take_append_drop]
set_option maxHeartbeats 1000000 in
theorem c_FramePieces (w : World) (s : List UInt8) (c m : Int) (hs : s.length ≤ 20000000) (hc : -9223372036854775808 ≤ c ∧ c ≤ 9223372036854775807) (hm : -9223372036854775808 ≤ m ∧ m ≤ 9223372036854775807) :
    Calls Tryd.prog 5 #[.string ⟨s.toArray⟩, .int .i64 c, .int .i64 m] w fun e w' => e = .returned (.bool true) ∧ Mod [] w w' := by
  refine as_called (run_plain2 (ρ := [.s s, .i c, .i m]) sxE_ok Tryd.func5 tree_dragomanlaw_FramePieces rfl rfl rfl ?_) rfl
  simp only [Tree.goal, X.P, X.ev, V.toI_i, V.toB_b, V.toS_s, V.toR_r, V.toV_v, V.toN_n, V.toL_l, SV.ev, CV.ev, Sc.ev, List.getD_cons_zero, List.getD_cons_succ, List.getElem?_cons_zero, List.getElem?_cons_succ, List.map_cons, List.map_nil, List.length_cons, List.length_nil, List.cons_append, List.nil_append, Nat.zero_add, Nat.reduceAdd]
  intro w1 hr
  refine (c_Feed w1 [] s (by simp; omega)).mono ?_
  rw [List.nil_append]
  rintro e w2 ⟨x, l, rfl, hl, m1, rX, pX, fX, fP⟩
  refine ⟨[.v x, .r (l.map encX), .s _, .i _, .a (pksA l)], rfl, rfl, m1, List.forall_mem_nil _, List.forall_mem_cons.2 ⟨⟨rX, fun k hk => .inl (fX k hk.2)⟩, List.forall_mem_cons.2 ⟨⟨pX, fun k hk => .inl (fP k hk)⟩, List.forall_mem_nil _⟩⟩, apart_ro2 (by simp [Ent.wr]), ?_⟩
  simp only [Tree.goal, X.P, X.ev, V.toI_i, V.toB_b, V.toS_s, V.toR_r, V.toV_v, V.toN_n, V.toL_l, SV.ev, CV.ev, Sc.ev, List.getD_cons_zero, List.getD_cons_succ, List.getElem?_cons_zero, List.getElem?_cons_succ, List.map_cons, List.map_nil, List.length_cons, List.length_nil, List.cons_append, List.nil_append, Nat.zero_add, Nat.reduceAdd]
  clear m1 hr rX pX fX fP
  refine ⟨[.b true], rfl, fun _ w' _ => c_packetBegun w', ?_⟩
  simp only [Tree.goal, X.P, X.ev, V.toI_i, V.toB_b, V.toS_s, V.toR_r, V.toV_v, V.toN_n, V.toL_l, SV.ev, CV.ev, Sc.ev, List.getD_cons_zero, List.getD_cons_succ, List.getElem?_cons_zero, List.getElem?_cons_succ, List.map_cons, List.map_nil, List.length_cons, List.length_nil, List.cons_append, List.nil_append, Nat.zero_add, Nat.reduceAdd]
  refine ⟨[.b true], rfl, fun _ w' _ => c_frameBegun w', ?_⟩
  simp only [Tree.goal, X.P, X.ev, V.toI_i, V.toB_b, V.toS_s, V.toR_r, V.toV_v, V.toN_n, V.toL_l, SV.ev, CV.ev, Sc.ev, List.getD_cons_zero, List.getD_cons_succ, List.getElem?_cons_zero, List.getElem?_cons_succ, List.map_cons, List.map_nil, List.length_cons, List.length_nil, List.cons_append, List.nil_append, Nat.zero_add, Nat.reduceAdd]
  refine ⟨fun h => absurd h (by simp), fun _ => ⟨by omega, by omega, fun _ w' hr => ⟨by trivial, hr.mod⟩, fun h => ?_⟩⟩
  obtain ⟨c, rfl⟩ : ∃ c' : Nat, c = c' := ⟨c.toNat, by omega⟩
  obtain ⟨m, rfl⟩ : ∃ m' : Nat, m = m' := ⟨m.toNat, by omega⟩
  have hc' : c ≤ s.length := by omega
  have hm' : m ≤ s.length - c := by omega
  have hcut := feed_cut s c m hc' hm'
  have e0 : ((c : Int)).toNat = c := Int.toNat_natCast c
  have e1 : ((c : Int) + (m : Int)).toNat = c + m := by omega
  have e2 : ((s.length : Nat) : Int).toNat = s.length := Int.toNat_natCast _
  refine ⟨by omega, by omega, ?_⟩
  have hz : Int.toNat 0 = 0 := rfl
  simp only [hz, e0, e1, e2, List.drop_zero, List.take_length]
  generalize hs1 : s.take c = s1 at hcut ⊢
  generalize hs2 : (s.take (c + m)).drop c = s2 at hcut ⊢
  generalize hs3 : s.drop (c + m) = s3 at hcut ⊢
  have hl123 : s1.length + s2.length + s3.length = s.length := by
    have := congrArg List.length hcut
    simp only [List.length_append] at this
    omega
  have f1 := feed_more (s2 ++ s3) _ s1 (Nat.le_refl _)
  rw [← hcut] at f1
  have sm := small_of hl (by omega)
  intro w1 hr
  refine (c_Feed w1 [] s1 (by simp; omega)).mono ?_
  rw [List.nil_append]
  rintro e w2 ⟨xa, la, rfl, hla, m1, rX, pX, fX, fP⟩
  refine ⟨[.v xa, .r (la.map encX), .s _, .i _, .a (pksA la)], rfl, rfl, m1, List.forall_mem_nil _, List.forall_mem_cons.2 ⟨⟨rX, fun k hk => .inl (fX k hk.2)⟩, List.forall_mem_cons.2 ⟨⟨pX, fun k hk => .inl (fP k hk)⟩, List.forall_mem_nil _⟩⟩, apart_ro2 (by simp [Ent.wr]), ?_⟩
  simp only [Tree.goal, X.P, X.ev, V.toI_i, V.toB_b, V.toS_s, V.toR_r, V.toV_v, V.toN_n, V.toL_l, SV.ev, CV.ev, Sc.ev, List.getD_cons_zero, List.getD_cons_succ, List.getElem?_cons_zero, List.getElem?_cons_succ, List.map_cons, List.map_nil, List.length_cons, List.length_nil, List.cons_append, List.nil_append, Nat.zero_add, Nat.reduceAdd]
  clear m1 hr rX pX fX fP
  have sma := small_of hla (by omega)
  have hll := (feed_small _ s1 (Nat.le_refl _) (by omega)).2
  have hlla : la.length ≤ s1.length := by have := congrArg List.length hla; rw [List.length_map] at this; omega
  refine ⟨fun hf => ?_, fun hf => ?_⟩
  · rw [if_neg hf] at f1
    refine ⟨[.b (decide (la.map (·.1) = l.map (·.1)))], rfl, fun _ w' hr => c_SamePackets w' xa x la l (by first | exact hr.at_ 0 rfl | exact hr.at_ 1 rfl | exact hr.at_ 2 rfl | exact hr.at_ 3 rfl | exact hr.at_ 4 rfl | exact hr.at_ 5 rfl | exact hr.at_ 6 rfl | exact hr.at_ 7 rfl | exact hr.at_ 8 rfl | exact hr.at_ 9 rfl | exact hr.at_ 10 rfl | exact hr.at_ 11 rfl) (by first | exact hr.at_ 0 rfl | exact hr.at_ 1 rfl | exact hr.at_ 2 rfl | exact hr.at_ 3 rfl | exact hr.at_ 4 rfl | exact hr.at_ 5 rfl | exact hr.at_ 6 rfl | exact hr.at_ 7 rfl | exact hr.at_ 8 rfl | exact hr.at_ 9 rfl | exact hr.at_ 10 rfl | exact hr.at_ 11 rfl) (by first | exact hr.at_ 0 rfl | exact hr.at_ 1 rfl | exact hr.at_ 2 rfl | exact hr.at_ 3 rfl | exact hr.at_ 4 rfl | exact hr.at_ 5 rfl | exact hr.at_ 6 rfl | exact hr.at_ 7 rfl | exact hr.at_ 8 rfl | exact hr.at_ 9 rfl | exact hr.at_ 10 rfl | exact hr.at_ 11 rfl) (by first | exact hr.at_ 0 rfl | exact hr.at_ 1 rfl | exact hr.at_ 2 rfl | exact hr.at_ 3 rfl | exact hr.at_ 4 rfl | exact hr.at_ 5 rfl | exact hr.at_ 6 rfl | exact hr.at_ 7 rfl | exact hr.at_ 8 rfl | exact hr.at_ 9 rfl | exact hr.at_ 10 rfl | exact hr.at_ 11 rfl) sma.1 sma.2, ?_⟩
    simp only [Tree.goal, X.P, X.ev, V.toI_i, V.toB_b, V.toS_s, V.toR_r, V.toV_v, V.toN_n, V.toL_l, SV.ev, CV.ev, Sc.ev, List.getD_cons_zero, List.getD_cons_succ, List.getElem?_cons_zero, List.getElem?_cons_succ, List.map_cons, List.map_nil, List.length_cons, List.length_nil, List.cons_append, List.nil_append, Nat.zero_add, Nat.reduceAdd]
    exact fun w' hr => ⟨by simp [hla, hl, f1], hr.mod⟩
  have hf := Classical.not_not.1 hf
  rw [if_pos hf] at f1
  have hx1 : (feed s1).2.1.length ≤ s1.length := by
    have : ∀ (k : Nat) (s : List UInt8), s.length ≤ k → (feed s).2.1.length ≤ s.length := by
      intro k
      induction k with
      | zero => intro s hk; have : s = [] := List.length_eq_zero_iff.1 (by omega); subst this; rw [feed_nil]; simp
      | succ k ih =>
        intro s hk
        by_cases h0 : (nextF s).2.2 = 0
        · have hb := nextF_bd h0
          rw [feed_step h0]
          have := ih (s.drop (nextF s).2.1.toNat) (by rw [List.length_drop]; omega)
          rw [List.length_drop] at this
          simp only; omega
        · by_cases h8 : (nextF s).2.2 = 8
          · rw [feed_short h8]; simp
          · rw [feed_err h0 h8]; simp
    exact this _ s1 (Nat.le_refl _)
  refine ⟨by omega, by omega, by omega, by omega, ?_⟩
  have f2 := feed_more s3 _ ((feed s1).2.1 ++ s2) (Nat.le_refl _)
  rw [List.append_assoc] at f2
  have hbd2 : ((feed s1).2.1 ++ s2).length ≤ 60000000 := by rw [List.length_append]; omega
  intro w1 hr
  refine (c_Feed w1 (feed s1).2.1 s2 (by rw [List.length_append] at hbd2; exact hbd2)).mono ?_
  rintro e w2 ⟨xb, lb, rfl, hlb, m1, rX, pX, fX, fP⟩
  refine ⟨[.v xb, .r (lb.map encX), .s _, .i _, .a (pksA lb)], rfl, rfl, m1, List.forall_mem_nil _, List.forall_mem_cons.2 ⟨⟨rX, fun k hk => .inl (fX k hk.2)⟩, List.forall_mem_cons.2 ⟨⟨pX, fun k hk => .inl (fP k hk)⟩, List.forall_mem_nil _⟩⟩, apart_ro2 (by simp [Ent.wr]), ?_⟩
  simp only [Tree.goal, X.P, X.ev, V.toI_i, V.toB_b, V.toS_s, V.toR_r, V.toV_v, V.toN_n, V.toL_l, SV.ev, CV.ev, Sc.ev, List.getD_cons_zero, List.getD_cons_succ, List.getElem?_cons_zero, List.getElem?_cons_succ, List.map_cons, List.map_nil, List.length_cons, List.length_nil, List.cons_append, List.nil_append, Nat.zero_add, Nat.reduceAdd]
  clear m1 hr rX pX fX fP
  have smb := small_of hlb hbd2
  have hllb := (feed_small _ ((feed s1).2.1 ++ s2) (Nat.le_refl _) hbd2).2
  have hllb2 : lb.length ≤ ((feed s1).2.1 ++ s2).length := by have := congrArg List.length hlb; rw [List.length_map] at this; omega
  rw [List.length_append] at hllb2
  intro z1
  refine ⟨by simp only [List.length_map, List.length_nil]; omega, fun z2 => ⟨by simp only [List.length_map, List.length_nil, List.length_append]; omega, fun z3 => ?_⟩⟩
  have eab : (la.map encX ++ lb.map encX : List (List Value)) = (la ++ lb).map encX := by simp
  have smab : ∀ t ∈ la ++ lb, SmallP t.1 := fun t ht => (List.mem_append.1 ht).elim (sma.1 t) (smb.1 t)
  refine ⟨fun hg => ?_, fun hg => ?_⟩
  · rw [if_neg hg] at f2
    refine ⟨[.b (decide ((la ++ lb).map (·.1) = l.map (·.1)))], rfl, fun _ w' hr => ?_, ?_⟩
    · have o := owns.reads (hr.at_ 0 rfl)
      simp only [Ent.holds, Tree.goal, X.P, X.ev, V.toI_i, V.toB_b, V.toS_s, V.toR_r, V.toV_v, V.toN_n, V.toL_l, SV.ev, CV.ev, Sc.ev, List.getD_cons_zero, List.getD_cons_succ, List.getElem?_cons_zero, List.getElem?_cons_succ, List.map_cons, List.map_nil, List.length_cons, List.length_nil, List.cons_append, List.nil_append, Nat.zero_add, Nat.reduceAdd] at o
      rw [eab] at o
      exact c_SamePackets w' z3 x (la ++ lb) l o (by first | exact hr.at_ 0 rfl | exact hr.at_ 1 rfl | exact hr.at_ 2 rfl | exact hr.at_ 3 rfl | exact hr.at_ 4 rfl | exact hr.at_ 5 rfl | exact hr.at_ 6 rfl | exact hr.at_ 7 rfl | exact hr.at_ 8 rfl | exact hr.at_ 9 rfl | exact hr.at_ 10 rfl | exact hr.at_ 11 rfl) (pksA_app (by first | exact hr.at_ 0 rfl | exact hr.at_ 1 rfl | exact hr.at_ 2 rfl | exact hr.at_ 3 rfl | exact hr.at_ 4 rfl | exact hr.at_ 5 rfl | exact hr.at_ 6 rfl | exact hr.at_ 7 rfl | exact hr.at_ 8 rfl | exact hr.at_ 9 rfl | exact hr.at_ 10 rfl | exact hr.at_ 11 rfl) (by first | exact hr.at_ 0 rfl | exact hr.at_ 1 rfl | exact hr.at_ 2 rfl | exact hr.at_ 3 rfl | exact hr.at_ 4 rfl | exact hr.at_ 5 rfl | exact hr.at_ 6 rfl | exact hr.at_ 7 rfl | exact hr.at_ 8 rfl | exact hr.at_ 9 rfl | exact hr.at_ 10 rfl | exact hr.at_ 11 rfl)) (by first | exact hr.at_ 0 rfl | exact hr.at_ 1 rfl | exact hr.at_ 2 rfl | exact hr.at_ 3 rfl | exact hr.at_ 4 rfl | exact hr.at_ 5 rfl | exact hr.at_ 6 rfl | exact hr.at_ 7 rfl | exact hr.at_ 8 rfl | exact hr.at_ 9 rfl | exact hr.at_ 10 rfl | exact hr.at_ 11 rfl) smab (by rw [List.length_append]; omega)
    simp only [Tree.goal, X.P, X.ev, V.toI_i, V.toB_b, V.toS_s, V.toR_r, V.toV_v, V.toN_n, V.toL_l, SV.ev, CV.ev, Sc.ev, List.getD_cons_zero, List.getD_cons_succ, List.getElem?_cons_zero, List.getElem?_cons_succ, List.map_cons, List.map_nil, List.length_cons, List.length_nil, List.cons_append, List.nil_append, Nat.zero_add, Nat.reduceAdd]
    exact fun w' hr => ⟨by simp [hla, hlb, hl, f1, f2], hr.mod⟩
  have hg := Classical.not_not.1 hg
  rw [if_pos hg] at f2
  have hy1 : (feed ((feed s1).2.1 ++ s2)).2.1.length ≤ ((feed s1).2.1 ++ s2).length := by
    have : ∀ (k : Nat) (s : List UInt8), s.length ≤ k → (feed s).2.1.length ≤ s.length := by
      intro k
      induction k with
      | zero => intro s hk; have : s = [] := List.length_eq_zero_iff.1 (by omega); subst this; rw [feed_nil]; simp
      | succ k ih =>
        intro s hk
        by_cases h0 : (nextF s).2.2 = 0
        · have hb := nextF_bd h0
          rw [feed_step h0]
          have := ih (s.drop (nextF s).2.1.toNat) (by rw [List.length_drop]; omega)
          rw [List.length_drop] at this
          simp only; omega
        · by_cases h8 : (nextF s).2.2 = 8
          · rw [feed_short h8]; simp
          · rw [feed_err h0 h8]; simp
    exact this _ _ (Nat.le_refl _)
  have hbd3 : ((feed ((feed s1).2.1 ++ s2)).2.1 ++ s3).length ≤ 60000000 := by rw [List.length_append]; rw [List.length_append] at hy1; omega
  refine ⟨by omega, ?_⟩
  intro w1 hr
  refine (c_Feed w1 (feed ((feed s1).2.1 ++ s2)).2.1 s3 (by rw [List.length_append] at hbd3; exact hbd3)).mono ?_
  rintro e w2 ⟨xc, lc, rfl, hlc, m1, rX, pX, fX, fP⟩
  refine ⟨[.v xc, .r (lc.map encX), .s _, .i _, .a (pksA lc)], rfl, rfl, m1, List.forall_mem_nil _, List.forall_mem_cons.2 ⟨⟨rX, fun k hk => .inl (fX k hk.2)⟩, List.forall_mem_cons.2 ⟨⟨pX, fun k hk => .inl (fP k hk)⟩, List.forall_mem_nil _⟩⟩, apart_ro2 (by simp [Ent.wr]), ?_⟩
  simp only [Tree.goal, X.P, X.ev, V.toI_i, V.toB_b, V.toS_s, V.toR_r, V.toV_v, V.toN_n, V.toL_l, SV.ev, CV.ev, Sc.ev, List.getD_cons_zero, List.getD_cons_succ, List.getElem?_cons_zero, List.getElem?_cons_succ, List.map_cons, List.map_nil, List.length_cons, List.length_nil, List.cons_append, List.nil_append, Nat.zero_add, Nat.reduceAdd]
  clear m1 hr rX pX fX fP
  have smc := small_of hlc hbd3
  have hllc := (feed_small _ ((feed ((feed s1).2.1 ++ s2)).2.1 ++ s3) (Nat.le_refl _) hbd3).2
  have hllc2 : lc.length ≤ 60000000 := by have := congrArg List.length hlc; rw [List.length_map] at this; omega
  have hall : feed s = ((feed s1).1 ++ ((feed ((feed s1).2.1 ++ s2)).1 ++ (feed ((feed ((feed s1).2.1 ++ s2)).2.1 ++ s3)).1), (feed ((feed ((feed s1).2.1 ++ s2)).2.1 ++ s3)).2) := by rw [f1, f2]
  refine ⟨fun hh => ?_, fun hh => absurd ?_ hh⟩
  · refine ⟨by simp only [List.length_map, List.length_nil, List.length_append]; omega, fun z4 => ?_⟩
    have eabc : (la.map encX ++ lb.map encX ++ lc.map encX : List (List Value)) = (la ++ lb ++ lc).map encX := by simp
    have smabc : ∀ t ∈ la ++ lb ++ lc, SmallP t.1 := fun t ht => (List.mem_append.1 ht).elim (smab t) (smc.1 t)
    refine ⟨[.b (decide ((la ++ lb ++ lc).map (·.1) = l.map (·.1)))], rfl, fun _ w' hr => ?_, ?_⟩
    · have o := owns.reads (hr.at_ 0 rfl)
      simp only [Ent.holds, Tree.goal, X.P, X.ev, V.toI_i, V.toB_b, V.toS_s, V.toR_r, V.toV_v, V.toN_n, V.toL_l, SV.ev, CV.ev, Sc.ev, List.getD_cons_zero, List.getD_cons_succ, List.getElem?_cons_zero, List.getElem?_cons_succ, List.map_cons, List.map_nil, List.length_cons, List.length_nil, List.cons_append, List.nil_append, Nat.zero_add, Nat.reduceAdd] at o
      rw [eabc] at o
      exact c_SamePackets w' z4 x (la ++ lb ++ lc) l o (by first | exact hr.at_ 0 rfl | exact hr.at_ 1 rfl | exact hr.at_ 2 rfl | exact hr.at_ 3 rfl | exact hr.at_ 4 rfl | exact hr.at_ 5 rfl | exact hr.at_ 6 rfl | exact hr.at_ 7 rfl | exact hr.at_ 8 rfl | exact hr.at_ 9 rfl | exact hr.at_ 10 rfl | exact hr.at_ 11 rfl) (pksA_app (pksA_app (by first | exact hr.at_ 0 rfl | exact hr.at_ 1 rfl | exact hr.at_ 2 rfl | exact hr.at_ 3 rfl | exact hr.at_ 4 rfl | exact hr.at_ 5 rfl | exact hr.at_ 6 rfl | exact hr.at_ 7 rfl | exact hr.at_ 8 rfl | exact hr.at_ 9 rfl | exact hr.at_ 10 rfl | exact hr.at_ 11 rfl) (by first | exact hr.at_ 0 rfl | exact hr.at_ 1 rfl | exact hr.at_ 2 rfl | exact hr.at_ 3 rfl | exact hr.at_ 4 rfl | exact hr.at_ 5 rfl | exact hr.at_ 6 rfl | exact hr.at_ 7 rfl | exact hr.at_ 8 rfl | exact hr.at_ 9 rfl | exact hr.at_ 10 rfl | exact hr.at_ 11 rfl)) (by first | exact hr.at_ 0 rfl | exact hr.at_ 1 rfl | exact hr.at_ 2 rfl | exact hr.at_ 3 rfl | exact hr.at_ 4 rfl | exact hr.at_ 5 rfl | exact hr.at_ 6 rfl | exact hr.at_ 7 rfl | exact hr.at_ 8 rfl | exact hr.at_ 9 rfl | exact hr.at_ 10 rfl | exact hr.at_ 11 rfl)) (by first | exact hr.at_ 0 rfl | exact hr.at_ 1 rfl | exact hr.at_ 2 rfl | exact hr.at_ 3 rfl | exact hr.at_ 4 rfl | exact hr.at_ 5 rfl | exact hr.at_ 6 rfl | exact hr.at_ 7 rfl | exact hr.at_ 8 rfl | exact hr.at_ 9 rfl | exact hr.at_ 10 rfl | exact hr.at_ 11 rfl) smabc (by rw [List.length_append, List.length_append]; omega)
    simp only [Tree.goal, X.P, X.ev, V.toI_i, V.toB_b, V.toS_s, V.toR_r, V.toV_v, V.toN_n, V.toL_l, SV.ev, CV.ev, Sc.ev, List.getD_cons_zero, List.getD_cons_succ, List.getElem?_cons_zero, List.getElem?_cons_succ, List.map_cons, List.map_nil, List.length_cons, List.length_nil, List.cons_append, List.nil_append, Nat.zero_add, Nat.reduceAdd]
    exact fun w' hr => ⟨by simp [hla, hlb, hlc, hl, hall], hr.mod⟩
  · rw [hall]; exact ⟨rfl, rfl⟩
/-- A packet that a stream can bear. -/
def goodX (t : PkX) : Bool := decide (chkP t.1 = 0) && decide ((bytesP t.1).length ≤ 600)
def goodsX (l : List PkX) (i : Nat) : List PkX := (l.take i).filter goodX
theorem goodsX_step {l : List PkX} {i : Nat} (h : i < l.length) : goodsX l (i + 1) = if goodX (l.getD i xD) = true then goodsX l i ++ [l.getD i xD] else goodsX l i := by
  unfold goodsX
  rw [List.take_add_one, List.getD_eq_getElem?_getD, List.getElem?_eq_getElem h]
  simp only [Option.toList_some, Option.getD_some, List.filter_append, List.filter_cons, List.filter_nil]
  split <;> simp
theorem goods_len (l : List PkX) (h : ∀ t ∈ l, goodX t = true) : (l.map fun t => bytesP t.1).flatten.length ≤ 600 * l.length := by
  induction l with
  | nil => simp
  | cons t l ih =>
    have h1 := h t (List.mem_cons_self ..)
    simp only [goodX, Bool.and_eq_true, decide_eq_true_eq] at h1
    have h2 := ih fun x hx => h x (List.mem_cons_of_mem _ hx)
    simp only [List.map_cons, List.flatten_cons, List.length_append, List.length_cons]
    omega
theorem goodsX_good (l : List PkX) (i : Nat) : ∀ t ∈ goodsX l i, goodX t = true ∧ t ∈ l := fun t ht => by
  unfold goodsX at ht
  rw [List.mem_filter] at ht
  exact ⟨ht.2, List.mem_of_mem_take ht.1⟩
theorem goodsX_len (l : List PkX) (i : Nat) : (goodsX l i).length ≤ i := by
  unfold goodsX
  exact Nat.le_trans (List.length_filter_le _ _) (by rw [List.length_take]; omega)
theorem c_FrameMany (w : World) (x : Value) (l : List PkX) (hx : readsX w x l) (px : (pksA l).holds w) (hs : ∀ t ∈ l, SmallP t.1) (hl : l.length ≤ 100000) :
    Calls Tryd.prog 6 #[sc1 x] w fun e w' => e = .returned (.bool true) ∧ Mod [] w w' := by
  refine as_called (run_tree2 (ρ := [.v x, .r (l.map encX), .a (pksA l)]) sxE_ok Tryd.func6 tree_dragomanlaw_FrameMany rfl rfl (Rel.start2 (List.forall_mem_cons.2 ⟨⟨hx, rfl⟩, List.forall_mem_cons.2 ⟨⟨px, rfl⟩, List.forall_mem_nil _⟩⟩)) rfl rfl ?_) rfl
  simp only [Tree.goal, X.P, X.ev, V.toI_i, V.toB_b, V.toS_s, V.toR_r, V.toV_v, V.toN_n, V.toL_l, SV.ev, CV.ev, Sc.ev, List.getD_cons_zero, List.getD_cons_succ, List.getElem?_cons_zero, List.getElem?_cons_succ, List.map_cons, List.map_nil, List.length_cons, List.length_nil, List.cons_append, List.nil_append, Nat.zero_add, Nat.reduceAdd, List.length_map]
  refine ⟨[.b true], rfl, fun _ w' _ => c_packetBegun w', ?_⟩
  simp only [Tree.goal, X.P, X.ev, V.toI_i, V.toB_b, V.toS_s, V.toR_r, V.toV_v, V.toN_n, V.toL_l, SV.ev, CV.ev, Sc.ev, List.getD_cons_zero, List.getD_cons_succ, List.getElem?_cons_zero, List.getElem?_cons_succ, List.map_cons, List.map_nil, List.length_cons, List.length_nil, List.cons_append, List.nil_append, Nat.zero_add, Nat.reduceAdd, List.length_map]
  refine ⟨[.b true], rfl, fun _ w' _ => c_frameBegun w', ?_⟩
  simp only [Tree.goal, X.P, X.ev, V.toI_i, V.toB_b, V.toS_s, V.toR_r, V.toV_v, V.toN_n, V.toL_l, SV.ev, CV.ev, Sc.ev, List.getD_cons_zero, List.getD_cons_succ, List.getElem?_cons_zero, List.getElem?_cons_succ, List.map_cons, List.map_nil, List.length_cons, List.length_nil, List.cons_append, List.nil_append, Nat.zero_add, Nat.reduceAdd, List.length_map]
  refine ⟨fun h => absurd h (by simp), fun _ => ?_⟩
  refine ⟨fun vs => ∃ (i : Nat) (y : Value), vs = [.s ((goodsX l i).map fun t => bytesP t.1).flatten, .v y, .r ((goodsX l i).map encX), .i i] ∧ i ≤ l.length, fun vs => l.length - (vs.getD 3 (.i 0)).toI.toNat, ⟨0, _, rfl, by omega⟩, ?_⟩
  rintro _ - ⟨i, y, rfl, hi⟩
  simp only [Tree.goal, X.P, X.ev, V.toI_i, V.toB_b, V.toS_s, V.toR_r, V.toV_v, V.toN_n, V.toL_l, SV.ev, CV.ev, Sc.ev, List.getD_cons_zero, List.getD_cons_succ, List.getElem?_cons_zero, List.getElem?_cons_succ, List.map_cons, List.map_nil, List.length_cons, List.length_nil, List.cons_append, List.nil_append, Nat.zero_add, Nat.reduceAdd, List.length_map, Int.toNat_natCast]
  have hgl := goodsX_len l i
  have hgb := goods_len (goodsX l i) fun t ht => (goodsX_good l i t ht).1
  refine ⟨fun h2 => ⟨by omega, ?_⟩, fun h2 => ?_⟩
  · have hil : i < l.length := by omega
    have hst := goodsX_step hil
    rw [rowX hil]
    have ma : l.getD i xD ∈ l := by rw [List.getD_eq_getElem?_getD, List.getElem?_eq_getElem hil]; exact List.getElem_mem hil
    have q0 := pksA_at px ma
    have hsi := hs _ ma
    generalize l.getD i xD = t at hst ma q0 hsi ⊢
    refine ⟨[.s (if chkP t.1 = 0 then bytesP t.1 else []), .i (chkP t.1)], rfl, fun _ w' hr => ?_, ?_⟩
    · have q := pksA_at (hr.at_ 2 rfl : (pksA l).holds w') ma
      exact c_PEncode w' t.1 t.2.1 t.2.2 q.1 q.2 hsi
    simp only [Tree.goal, X.P, X.ev, V.toI_i, V.toB_b, V.toS_s, V.toR_r, V.toV_v, V.toN_n, V.toL_l, SV.ev, CV.ev, Sc.ev, List.getD_cons_zero, List.getD_cons_succ, List.getElem?_cons_zero, List.getElem?_cons_succ, List.map_cons, List.map_nil, List.length_cons, List.length_nil, List.cons_append, List.nil_append, Nat.zero_add, Nat.reduceAdd, List.length_map, Int.toNat_natCast]
    refine ⟨fun h3 => ?_, fun h3 => ⟨by omega, by omega, ⟨i + 1, y, ?_, by omega⟩, by omega⟩⟩
    · obtain ⟨h4, h5⟩ := h3
      rw [if_pos h4] at h5 ⊢
      have hg : goodX t = true := by simp only [goodX, Bool.and_eq_true, decide_eq_true_eq]; exact ⟨h4, by omega⟩
      refine ⟨by omega, fun z1 => ⟨by (try simp only [List.length_map, List.length_nil, List.length_append, List.length_cons]); omega, fun z2 => ⟨by omega, by omega, ⟨i + 1, z2, ?_, by omega⟩, by omega⟩⟩⟩
      rw [hst, if_pos hg]
      simp only [encX, List.getD_cons_zero, List.getD_cons_succ, Value.gI, Value.gB, Value.gS, q0.1.sc1, q0.2.sc1]
      simp [encX]
    · have hg : ¬ goodX t = true := fun hg => h3 (by
        simp only [goodX, Bool.and_eq_true, decide_eq_true_eq] at hg
        rw [if_pos hg.1]
        exact ⟨hg.1, by omega⟩)
      rw [hst, if_neg hg]
      rfl
  · have : i = l.length := by omega
    subst this
    have hfm := feed_many ((goodsX l l.length).map (·.1)) (fun p hp => by
      obtain ⟨t, ht, rfl⟩ := List.mem_map.1 hp
      have := (goodsX_good l _ t ht).1
      simpa only [goodX, Bool.and_eq_true, decide_eq_true_eq] using this)
    have he : (((goodsX l l.length).map (·.1)).map bytesP).flatten = ((goodsX l l.length).map fun t => bytesP t.1).flatten := by rw [List.map_map]; rfl
    rw [he] at hfm
    generalize hgg : goodsX l l.length = g at hfm hgl hgb ⊢
    generalize (g.map fun t => bytesP t.1).flatten = S at hfm hgb ⊢
    have hS : ([] : List UInt8).length + S.length ≤ 60000000 := by rw [List.length_nil]; omega
    intro w1 hr
    refine (c_Feed w1 [] S hS).mono ?_
    rw [List.nil_append, hfm]
    rintro e w2 ⟨xb, lb, rfl, hlb, m1, rX, pX, fX, fP⟩
    refine ⟨[.v xb, .r (lb.map encX), .s _, .i _, .a (pksA lb)], rfl, rfl, m1, List.forall_mem_nil _, List.forall_mem_cons.2 ⟨⟨rX, fun k hk => .inl (fX k hk.2)⟩, List.forall_mem_cons.2 ⟨⟨pX, fun k hk => .inl (fP k hk)⟩, List.forall_mem_nil _⟩⟩, apart_ro2 (by simp [Ent.wr]), ?_⟩
    simp only [Tree.goal, X.P, X.ev, V.toI_i, V.toB_b, V.toS_s, V.toR_r, V.toV_v, V.toN_n, V.toL_l, SV.ev, CV.ev, Sc.ev, List.getD_cons_zero, List.getD_cons_succ, List.getElem?_cons_zero, List.getElem?_cons_succ, List.map_cons, List.map_nil, List.length_cons, List.length_nil, List.cons_append, List.nil_append, Nat.zero_add, Nat.reduceAdd]
    clear m1 hr rX pX fX fP
    have hlb : lb.map (·.1) = g.map (·.1) := hlb
    have sml : ∀ t ∈ lb, SmallP t.1 := fun t ht => by
      have h1 : t.1 ∈ g.map (·.1) := by rw [← hlb]; exact List.mem_map_of_mem ht
      obtain ⟨u, hu, e⟩ := List.mem_map.1 h1
      rw [← e]
      exact hs u (goodsX_good l _ u (by rw [hgg]; exact hu)).2
    have hll : lb.length = g.length := by have := congrArg List.length hlb; simpa using this
    have hgm : (pksA l).holds w → True := fun _ => trivial
    refine ⟨[.b (decide (lb.map (·.1) = g.map (·.1)))], rfl, fun _ w' hr => c_SamePackets w' xb y lb g (by first | exact hr.at_ 0 rfl | exact hr.at_ 1 rfl | exact hr.at_ 2 rfl | exact hr.at_ 3 rfl | exact hr.at_ 4 rfl | exact hr.at_ 5 rfl | exact hr.at_ 6 rfl | exact hr.at_ 7 rfl | exact hr.at_ 8 rfl | exact hr.at_ 9 rfl | exact hr.at_ 10 rfl | exact hr.at_ 11 rfl) (owns.reads (by first | exact hr.at_ 0 rfl | exact hr.at_ 1 rfl | exact hr.at_ 2 rfl | exact hr.at_ 3 rfl | exact hr.at_ 4 rfl | exact hr.at_ 5 rfl | exact hr.at_ 6 rfl | exact hr.at_ 7 rfl | exact hr.at_ 8 rfl | exact hr.at_ 9 rfl | exact hr.at_ 10 rfl | exact hr.at_ 11 rfl)) (by first | exact hr.at_ 0 rfl | exact hr.at_ 1 rfl | exact hr.at_ 2 rfl | exact hr.at_ 3 rfl | exact hr.at_ 4 rfl | exact hr.at_ 5 rfl | exact hr.at_ 6 rfl | exact hr.at_ 7 rfl | exact hr.at_ 8 rfl | exact hr.at_ 9 rfl | exact hr.at_ 10 rfl | exact hr.at_ 11 rfl) (fun z hz => ?_) sml (by omega), ?_⟩
    · obtain ⟨t, ht, hz⟩ := List.mem_flatMap.1 hz
      have pl : (pksA l).holds w' := (by first | exact hr.at_ 0 rfl | exact hr.at_ 1 rfl | exact hr.at_ 2 rfl | exact hr.at_ 3 rfl | exact hr.at_ 4 rfl | exact hr.at_ 5 rfl | exact hr.at_ 6 rfl | exact hr.at_ 7 rfl | exact hr.at_ 8 rfl | exact hr.at_ 9 rfl | exact hr.at_ 10 rfl | exact hr.at_ 11 rfl)
      exact pl z (List.mem_flatMap.2 ⟨t, (goodsX_good l _ t (by rw [hgg]; exact ht)).2, hz⟩)
    simp only [Tree.goal, X.P, X.ev, V.toI_i, V.toB_b, V.toS_s, V.toR_r, V.toV_v, V.toN_n, V.toL_l, SV.ev, CV.ev, Sc.ev, List.getD_cons_zero, List.getD_cons_succ, List.getElem?_cons_zero, List.getElem?_cons_succ, List.map_cons, List.map_nil, List.length_cons, List.length_nil, List.cons_append, List.nil_append, Nat.zero_add, Nat.reduceAdd]
    exact fun w' hr => ⟨by simp [hlb], hr.mod⟩
end Go.Proofs.YtliedecinehijaaDoor

/-
  What a law's row wants of a walk that leaves all old memory as it was. By an AI agent.
-/
set_option linter.unusedSimpArgs false
set_option linter.unusedVariables false
namespace Go.Sx
open Go Go.ChangeShapes Go.WideShapes Go.ChangeAt Go.RowKit
section
variable {H : Type} {enc : TypeId × Value → H} {P : Program}

/-- No slice's element is without cells. -/
def solidB (P : Program) (ts : List TypeId) : Bool := ts.all fun t => match P.underlying t with | some (.slice e) => decide (0 < P.cellsOf e) | _ => true
/-- Closed under what a reading goes to. -/
def closedB (P : Program) (ts : List TypeId) : Bool := ts.all fun t => match P.underlying t with
  | some (.slice e) => ts.contains e
  | some (.pointer e) => ts.contains e
  | some (.array _ e) => ts.contains e
  | some (.map _ e) => ts.contains e
  | some (.struct fs) => fs.toList.all fun f => ts.contains f.type
  | _ => true

theorem kids_of (hl : laidOutB P = true) (hm : mapsRowed P = true) {ts : List TypeId} (hc : closedB P ts = true) (hs : ts.all (fun t => decide (t < P.types.size)) = true) : Kids P (· ∈ ts) := by
  have K := kids_rows hl hm
  have hs' : ∀ t ∈ ts, t < P.types.size := fun t ht => by simpa using List.all_eq_true.1 hs t ht
  have hc' := fun t ht => List.all_eq_true.1 hc t ht
  refine ⟨fun {t e} ht hu => ?_, fun {t e} ht hu => ?_, fun {t e n} ht hu => ⟨?_, (K.array (hs' t ht) hu).2⟩, fun {t fs} ht hu => ⟨?_, (K.struct (hs' t ht) hu).2⟩, fun {t k e} ht hu => ?_⟩
  · have := hc' t ht; rw [hu] at this; simpa using this
  · have := hc' t ht; rw [hu] at this; simpa using this
  · have := hc' t ht; rw [hu] at this; simpa using this
  · have := hc' t ht; rw [hu] at this; simp only [List.all_eq_true] at this; exact fun f hf => by simpa using this f hf
  · have := hc' t ht; rw [hu] at this; simpa using this

theorem sameAt_of_block {w w' : World} {p : MemPlace} (h : w'.heap[p.block]? = w.heap[p.block]?) : w.sameAt w' p := by
  cases p with
  | cell b off => exact World.cell?_of_block h
  | map b => exact h

theorem trodAll_stays {w w' : World} {sp : Nat → Bool} {T : TypeId → Prop} (K : Kids P T) (hsz : ∀ {t e : TypeId}, T t → P.underlying t = some (.slice e) → 0 < P.cellsOf e) :
    ∀ {ts : List TypeId} {vs : List Value} {ds : List (DataW H)} {ps : List MemPlace}, (∀ t ∈ ts, T t) → DataW.TrodAll enc P w 0 (fun _ => true) true ts vs ds ps →
      (∀ p ∈ ps, w.sameAt w' p) → (∀ p ∈ ps, sp p.block = true) → DataW.TrodAll enc P w' 0 sp true ts vs ds ps
  | [], _, _, _, _, h, _, _ => by
    obtain ⟨rfl, rfl, rfl⟩ := trodAll_nil h
    exact trodAll_mk0
  | t :: ts, _, _, _, ht, h, hs, hp => by
    obtain ⟨v, vs1, d, ds1, a, b, rfl, rfl, rfl, h1, h2⟩ := trodAll_cons h
    obtain ⟨n, h1⟩ := h1
    exact ⟨a, b, ⟨n, DataW.trod_stays K hsz (fun h => by cases h) (ht t (List.mem_cons_self ..)) h1 (fun p hp' => hs p (List.mem_append_left _ hp')) (fun p hp' => hp p (List.mem_append_left _ hp'))⟩,
      trodAll_stays K hsz (fun u hu => ht u (List.mem_cons_of_mem _ hu)) h2 (fun p hp' => hs p (List.mem_append_right _ hp')) (fun p hp' => hp p (List.mem_append_right _ hp')), rfl⟩

/-- A law that answered true, and left all old memory as it was. -/
theorem law_post {f : Func} {s : ChangeSpec} {fresh handsOn again : Bool} {W W' : World} {args : Array Value} {ds gs : List (DataW H)} {before : List MemPlace} {tb : TypeId} (ts : List TypeId)
    (hW : DataW.Whole enc P f.params.toList s.vars false W args.toList ds gs before) (hv : s.vars = [])
    (hr : f.resultTypes = #[tb]) (htb : P.underlying tb = some .bool) (hfn : gs = [] → (s.fn H ds).results = [.lit (.bool true)] ∧ (s.fn H ds).args = ds ∧ (s.fn H ds).vars = [])
    (hl : laidOutB P = true) (hm : mapsRowed P = true) (hc : closedB P ts = true) (hs : ts.all (fun t => decide (t < P.types.size)) = true) (hz : solidB P ts = true) (hp : f.params.toList.all ts.contains = true)
    (h : Mod [] W W') : s.post enc P f false fresh handsOn again W args (.bool true) W' := by
  have hW' := hW
  have hlt := hW.lt
  obtain ⟨p, q, hA, hV, rfl, hfz, hn⟩ := hW
  rw [hv] at hV
  obtain ⟨rfl, rfl⟩ := trodVars_none hV
  obtain ⟨f1, f2, f3⟩ := hfn rfl
  have K := kids_of hl hm hc hs
  have hsz : ∀ {t e : TypeId}, t ∈ ts → P.underlying t = some (.slice e) → 0 < P.cellsOf e := fun {t e} ht hu => by
    have := List.all_eq_true.1 hz t ht; rw [hu] at this; simpa using this
  have hT : ∀ t ∈ f.params.toList, t ∈ ts := fun t ht => by simpa using List.all_eq_true.1 hp t ht
  have hblk : ∀ k, k < W.heap.size → W'.heap[k]? = W.heap[k]? := fun k hk => h.block k hk (by simp)
  have hsame : ∀ x ∈ p, W.sameAt W' x := fun x hx => sameAt_of_block (hblk _ (hlt x (by simpa using hx)))
  have hargs : ∀ sp : Nat → Bool, (∀ x ∈ p, sp x.block = true) → DataW.TrodAll enc P W' 0 sp true f.params.toList args.toList (s.fn H (ds ++ [])).args p := fun sp hsp => by
    rw [List.append_nil, f2]; exact trodAll_stays K hsz hT hA hsame hsp
  have hres : ∀ (b : Nat) (sp : Nat → Bool) (hd : Bool), DataW.TrodAll enc P W' b sp hd f.resultTypes.toList ((Value.bool true).resultList f.resultTypes.size) (s.fn H (ds ++ [])).results [] := fun b sp hd => by
    rw [List.append_nil, f1, hr]; exact trodAll_cons_mk (shut_bool htb _) trodAll_mk0
  have hvars : ∀ sp : Nat → Bool, DataW.TrodVars enc P W' sp s.vars (s.fn H (ds ++ [])).vars [] := fun sp => by
    rw [List.append_nil, f3, hv]; rfl
  have hold : ∀ x ∈ p, (fun b => decide (b < W.heap.size)) x.block = true := fun x hx => by simpa using hlt x (by simpa using hx)
  refine ⟨ds, [], p ++ [], [], p, [], hW', hres _ _ _, hargs _ hold, hvars _, ⟨h.os, h.output, fun i hi => ?_⟩, fun _ => ⟨?_, [.lit (.bool true)] ++ ds, [], ([] ++ p) ++ [], ⟨[] ++ p, [], trodAll_append (by have := hargs (fun _ => true) (fun _ _ => rfl); rw [List.append_nil, f2] at this; exact this) (by have := hres 0 (fun _ => true) true; rw [List.append_nil, f1] at this; exact this), by rw [hv]; rfl, rfl, ?_, by simp⟩, ?_⟩⟩
  · have e := hblk i hi
    rw [e]
    cases W.heap[i]? with
    | none => rfl
    | some o => cases o <;> simp
  · exact ok_one hr rfl (okWide_bool_mk htb _)
  · intro b off hb
    have hb : MemPlace.cell b off ∈ p := by simpa using hb
    have hlt' := hlt _ (show MemPlace.cell b off ∈ p ++ [] by simpa using hb)
    have := hfz b off (by simpa using hb)
    simp only [World.frozen?, hblk b hlt'] at this ⊢
    exact this
  · intro x hx _
    simpa using hx
end
end Go.Sx

/-
  What a reading of an argument tells of its cells: structs cell by cell, slices row by row. By an AI agent.
-/
set_option linter.unusedSimpArgs false
set_option linter.unusedVariables false
namespace Go.Sx
open Go Go.ChangeShapes Go.WideShapes Go.ChangeAt Go.RowKit
section
variable {H : Type} {enc : TypeId × Value → H} {P : Program} {w : World} {sp : Nat → Bool}

/-- How great a reading is. -/
structure Bulk (B : DataW H → Nat) : Prop where
  agg : ∀ l : List (DataW H), (l.map B).sum ≤ B (.agg l)
  slice : ∀ l r : List (DataW H), (l.map B).sum + 1 ≤ B (.slice l r)
  str : ∀ s : List UInt8, s.length + 1 ≤ B (.lit (.string s))
  one : ∀ d : DataW H, 1 ≤ B d

def leavesL (P : Program) (g : TypeId → Option (List (TypeId × Kd))) : List Field → Nat → Option (List (TypeId × Kd))
  | [], _ => some []
  | f :: fs, off => do
    let l ← g f.type
    let r ← leavesL P g fs (off + l.length)
    if f.offset = off ∧ P.cellsOf f.type = l.length then some (l ++ r) else none
/-- The types and kinds of a type's cells. -/
def leaves (P : Program) : Nat → TypeId → Option (List (TypeId × Kd))
  | 0, _ => none
  | f + 1, t => match P.underlying t with
    | some .bool => some [(t, .bool)]
    | some (.int k) => some [(t, .int k)]
    | some .string => some [(t, .str)]
    | some (.slice _) => some [(t, .oth)]
    | some (.struct fs) => match leavesL P (leaves P f) fs.toList 0 with
      | some l => if P.cellsOf t = l.length then some l else none
      | none => none
    | _ => none

/-- What is known of a cell of a type. -/
def CellRd (enc : TypeId × Value → H) (P : Program) (w : World) (sp : Nat → Bool) (B : DataW H → Nat) (l : TypeId × Kd) (c : Value) (b : Nat) : Prop :=
  l.2.ok c ∧ ∃ n d ps, DataW.trod enc P w 0 sp true n l.1 [c] = some (d, ps) ∧ B d ≤ b
inductive Lv (enc : TypeId × Value → H) (P : Program) (w : World) (sp : Nat → Bool) (B : DataW H → Nat) : List (TypeId × Kd) → List Value → Nat → Prop
  | nil (b : Nat) : Lv enc P w sp B [] [] b
  | cons {l : TypeId × Kd} {ls : List (TypeId × Kd)} {c : Value} {cs : List Value} {b1 b2 b : Nat} : CellRd enc P w sp B l c b1 → Lv enc P w sp B ls cs b2 → b1 + b2 ≤ b → Lv enc P w sp B (l :: ls) (c :: cs) b
variable {B : DataW H → Nat}
theorem Lv.mono {ls : List (TypeId × Kd)} {cs : List Value} {b b' : Nat} (h : Lv enc P w sp B ls cs b) (hb : b ≤ b') : Lv enc P w sp B ls cs b' := by
  cases h with
  | nil => exact .nil _
  | cons h1 h2 h3 => exact .cons h1 h2 (by omega)
theorem Lv.append {l2 : List (TypeId × Kd)} {c2 : List Value} {b2 : Nat} (h' : Lv enc P w sp B l2 c2 b2) : ∀ {l1 : List (TypeId × Kd)} {c1 : List Value} {b1 : Nat}, Lv enc P w sp B l1 c1 b1 → Lv enc P w sp B (l1 ++ l2) (c1 ++ c2) (b1 + b2) := by
  intro l1 c1 b1 h
  induction h with
  | nil b => exact h'.mono (by omega)
  | cons h1 h2 h3 ih => exact .cons h1 ih (by omega)
theorem Lv.rowOk {ls : List (TypeId × Kd)} {cs : List Value} {b : Nat} (h : Lv enc P w sp B ls cs b) : rowOk (ls.map (·.2)) cs := by
  induction h with
  | nil => trivial
  | cons h1 h2 h3 ih => exact ⟨h1.1, ih⟩

theorem leavesL_ok {g : TypeId → Option (List (TypeId × Kd))} {cs : List Value} {n : Nat} (hg : ∀ t l cs x, g t = some l → DataW.trod enc P w 0 sp true n t cs = some x → Lv enc P w sp B l cs (B x.1)) :
    ∀ {fs : List Field} {xs : List (DataW H × List MemPlace)} {off : Nat} {l : List (TypeId × Kd)}, leavesL P g fs off = some l → xs.length = fs.length →
      (∀ (i : Nat) (f : Field), fs[i]? = some f → DataW.trod enc P w 0 sp true n f.type ((cs.drop f.offset).take (P.cellsOf f.type)) = xs[i]?) → off + l.length ≤ cs.length →
      Lv enc P w sp B l ((cs.drop off).take l.length) ((xs.map fun x => B x.1).sum)
  | [], [], off, l, h, _, _, _ => by simp [leavesL] at h; subst h; simp; exact .nil _
  | f :: fs, [], off, l, h, hl, _, _ => by simp at hl
  | [], x :: xs, off, l, h, hl, _, _ => by simp at hl
  | f :: fs, x :: xs, off, l, h, hl, hx, hc => by
    simp only [leavesL, Option.bind_eq_bind, Option.bind_eq_some_iff, Option.ite_none_right_eq_some, Option.some.injEq] at h
    obtain ⟨l1, h1, l2, h2, ⟨ho, hcs⟩, rfl⟩ := h
    have hx0 := hx 0 f rfl
    simp only [List.getElem?_cons_zero] at hx0
    rw [ho, hcs] at hx0
    have i1 := hg _ _ _ _ h1 hx0
    simp only [List.length_append] at hc
    have i2 := leavesL_ok hg (xs := xs) h2 (by simpa using hl) (fun i f' hf => by have := hx (i + 1) f' (by simpa using hf); simpa using this) (by omega)
    have e : (cs.drop off).take (l1 ++ l2).length = (cs.drop off).take l1.length ++ (cs.drop (off + l1.length)).take l2.length := by
      rw [List.length_append, ← List.drop_drop, List.take_add]
    rw [e]
    exact i2.append i1
theorem leaves_ok (hB : Bulk B) : ∀ (f : Nat) {t : TypeId} {l : List (TypeId × Kd)} {n : Nat} {cs : List Value} {x : DataW H × List MemPlace}, leaves P f t = some l → DataW.trod enc P w 0 sp true n t cs = some x → Lv enc P w sp B l cs (B x.1)
  | 0, t, l, n, cs, x, h, _ => by simp [leaves] at h
  | f + 1, t, l, n, cs, x, h, hx => by
    simp only [leaves] at h
    have one : ∀ (k : Kd) (c : Value), cs = [c] → k.ok c → Lv enc P w sp B [(t, k)] cs (B x.1) := fun k c hc hk => by
      subst hc
      exact .cons ⟨hk, n, x.1, x.2, hx, Nat.le_refl _⟩ (.nil 0) (by omega)
    split at h
    · rename_i hu
      simp at h; subst h
      obtain ⟨b, rfl, -⟩ := DataW.trod_bool hu hx
      exact one _ _ rfl ⟨b, rfl⟩
    · rename_i k hu
      simp at h; subst h
      obtain ⟨m, rfl, -⟩ := DataW.trod_int hu hx
      exact one _ _ rfl ⟨m, rfl⟩
    · rename_i hu
      simp at h; subst h
      obtain ⟨⟨⟨s⟩⟩, rfl, -⟩ := DataW.trod_string hu hx
      exact one _ _ rfl ⟨s, rfl⟩
    · rename_i e hu
      simp at h; subst h
      rcases DataW.trod_slice hu hx with ⟨rfl, -⟩ | ⟨a, len, cap, elems, rest, m, -, rfl, -⟩
      · exact one _ _ rfl rfl
      · exact one _ _ rfl rfl
    · rename_i fs hu
      split at h
      · rename_i l' hl
        split at h
        · rename_i hc
          simp at h; subst h
          obtain ⟨xs, m, rfl, rfl, hcl, hxl, hf⟩ := DataW.trod_struct hu hx
          have := leavesL_ok (cs := cs) (fun t l cs x => leaves_ok hB f (t := t) (l := l) (n := m) (cs := cs) (x := x)) hl (by simpa using hxl) (fun i f hi => hf i f (by simpa using hi)) (by omega)
          rw [List.drop_zero, List.take_of_length_le (by omega)] at this
          refine this.mono ?_
          have := hB.agg (xs.map (·.1))
          rw [List.map_map] at this
          exact this
        · cases h
      · cases h
    · cases h

/-- A slice's rows. -/
theorem slice_rd (hB : Bulk B) {f n : Nat} {t e : TypeId} {ls : List (TypeId × Kd)} {v : Value} {x : DataW H × List MemPlace} (hu : P.underlying t = some (.slice e)) (hl : leaves P f e = some ls) (hc : P.cellsOf e = ls.length) (hpos : 0 < ls.length)
    (hx : DataW.trod enc P w 0 sp true n t [v] = some x) :
    ∃ (rows : List (List Value)) (bs : List Nat), reads w v (ls.map (·.2)) rows ∧ bs.length = rows.length ∧ (∀ (i : Nat) r b, rows[i]? = some r → bs[i]? = some b → Lv enc P w sp B ls r b) ∧ bs.sum + 1 ≤ B x.1 := by
  rcases DataW.trod_slice hu hx with ⟨hv, rfl⟩ | ⟨a, len, cap, elems, rest, m, -, hv, rfl, -, hlc, hcm, hel, hget, -⟩
  · simp only [List.cons.injEq, and_true] at hv; subst hv
    exact ⟨[], [], ⟨by simp, none, 0, rfl, ⟨fun _ => rfl, by simp⟩, by simp⟩, rfl, by simp, by simpa using hB.one _⟩
  · simp only [List.cons.injEq, and_true] at hv; subst hv
    rw [hc] at hget
    have hrow : ∀ i, i < len → ∃ r y, w.cells? 0 (a.add (i * ls.length)) ls.length = some r ∧ elems[i]? = some y ∧ DataW.trod enc P w 0 sp true m e r = some y := fun i hi => by
      have h1 := hget i hi
      have h2 : elems[i]? = some (elems[i]'(by omega)) := List.getElem?_eq_getElem (by omega)
      rw [h2, Option.bind_eq_some_iff] at h1
      obtain ⟨r, h3, h4⟩ := h1
      exact ⟨r, _, h3, h2, h4⟩
    let rows := (List.range len).map fun i => (w.cells? 0 (a.add (i * ls.length)) ls.length).getD []
    have hrl : rows.length = len := by simp [rows]
    have hri : ∀ i, i < len → ∃ r y, rows[i]? = some r ∧ w.cells? 0 (a.add (i * ls.length)) ls.length = some r ∧ elems[i]? = some y ∧ Lv enc P w sp B ls r (B y.1) := fun i hi => by
      obtain ⟨r, y, h1, h2, h3⟩ := hrow i hi
      exact ⟨r, y, by simp [rows, List.getElem?_range hi, h1], h1, h2, leaves_ok hB f hl h3⟩
    have hlen : ∀ r ∈ rows, r.length = (ls.map (·.2)).length ∧ rowOk (ls.map (·.2)) r := fun r hr => by
      obtain ⟨i, hi, hri'⟩ := List.getElem_of_mem hr
      obtain ⟨r', y, h1, h2, h3, h4⟩ := hri i (by omega)
      rw [List.getElem?_eq_getElem hi, hri'] at h1
      simp at h1; subst h1
      exact ⟨h4.rowOk.length, h4.rowOk⟩
    refine ⟨rows, elems.map fun y => B y.1, ⟨fun r hr => (hlen r hr).2, some a, cap, by rw [hrl], ⟨(fun h => by cases h), by omega⟩, fun hne => ⟨a, rfl, fun j u hj => ?_⟩⟩, by simp [hrl, hel], fun i r b hr hb => ?_, ?_⟩
    · have hL : (ls.map (·.2)).length = ls.length := by simp
      have hfl := flatten_length (fun r hr => (hlen r hr).1)
      have hjl : j < rows.length * ls.length := by
        have := (List.getElem?_eq_some_iff.1 hj).1
        rw [hfl, hL] at this; exact this
      have hi : j / ls.length < len := by rw [← hrl]; exact Nat.div_lt_of_lt_mul (by rw [Nat.mul_comm]; exact hjl)
      obtain ⟨r, y, h1, h2, h3, h4⟩ := hri _ hi
      have hk := Nat.mod_lt j hpos
      have hjj : j = j / ls.length * ls.length + j % ls.length := by rw [Nat.mul_comm]; exact (Nat.div_add_mod j _).symm
      have := flatten_get (fun r hr => by rw [← hL]; exact (hlen r hr).1) (i := j / ls.length) (c := j % ls.length) hk
      rw [← hjj, hj, h1] at this
      obtain ⟨c1, c2⟩ := World.cells?_some h2
      have c3 := c2.2 _ hk
      rw [add_add', ← hjj] at c3
      rw [c3]
      exact this.symm
    · obtain ⟨r', y, h1, h2, h3, h4⟩ := hri i (by rw [← hrl]; exact (List.getElem?_eq_some_iff.1 hr).1)
      rw [h1] at hr; simp at hr; subst hr
      rw [List.getElem?_map, h3] at hb
      simp at hb; subst hb
      exact h4
    · have := hB.slice (elems.map (·.1)) (rest.map (·.1))
      rw [List.map_map] at this
      exact this
theorem open_slice {r : Reach} {b0 base : Nat} {held : Bool} {t e : TypeId} {v : Value} {d : DataW H} {ps : List MemPlace} (ht : P.underlying t = some (.slice e)) (hval : Value.okWide P w r b0 t v) (hd : DataW.Trod enc P w base sp held t v d ps) :
    ∃ n, DataW.trod enc P w base sp held n t [v] = some (d, ps) := by
  obtain ⟨n, hd⟩ := hd
  refine ⟨n, ?_⟩
  have : v.cells.toList = [v] := by
    simp only [Value.okWide, ht, Cell.okWide] at hval
    cases v <;> first | rfl | (simp [Cell.ok] at hval)
  rw [← this]; exact hd
theorem open_struct {r : Reach} {b0 base : Nat} {held : Bool} {t : TypeId} {fs : Array Field} {v : Value} {d : DataW H} {ps : List MemPlace} (ht : P.underlying t = some (.struct fs)) (hval : Value.okWide P w r b0 t v) (hd : DataW.Trod enc P w base sp held t v d ps) :
    ∃ (cs : List Value) (n : Nat), v = .agg cs.toArray ∧ DataW.trod enc P w base sp held n t cs = some (d, ps) := by
  obtain ⟨n, hd⟩ := hd
  simp only [Value.okWide, ht] at hval
  obtain ⟨cs, rfl, -⟩ := hval
  exact ⟨cs.toList, n, by simp, by simpa [Value.cells] using hd⟩

theorem sum_le {α : Type} {g : α → Nat} : ∀ {rows : List α} {bs : List Nat}, bs.length = rows.length → (∀ (i : Nat) r b, rows[i]? = some r → bs[i]? = some b → g r ≤ b) → (rows.map g).sum ≤ bs.sum
  | [], [], _, _ => by simp
  | r :: rows, b :: bs, hl, h => by
    have h0 := h 0 r b rfl rfl
    have := sum_le (rows := rows) (bs := bs) (by simpa using hl) (fun i r' b' hr hb => h (i + 1) r' b' (by simpa using hr) (by simpa using hb))
    simp only [List.map_cons, List.sum_cons]; omega
  | [], _ :: _, hl, _ => by simp at hl
  | _ :: _, [], hl, _ => by simp at hl
/-- There are no more rows than values. -/
theorem rows_le (hB : Bulk B) {ls : List (TypeId × Kd)} (h0 : ls ≠ []) {rows : List (List Value)} {bs : List Nat} (hl : bs.length = rows.length) (h : ∀ (i : Nat) r b, rows[i]? = some r → bs[i]? = some b → Lv enc P w sp B ls r b) : rows.length ≤ bs.sum := by
  have := sum_le (g := fun _ : List Value => 1) hl (fun i r b hr hb => by
    cases h i r b hr hb with
    | nil b => exact absurd rfl h0
    | cons h1 h2 h3 => obtain ⟨-, n, d, q, -, h5⟩ := h1; have := hB.one d; omega)
  have e : (rows.map fun _ => 1).sum = rows.length := by
    clear hl h this
    induction rows with
    | nil => rfl
    | cons r rows ih => simp only [List.map_cons, List.sum_cons, List.length_cons, ih]; omega
  omega
/-- A text's cell. -/
theorem CellRd.str (hB : Bulk B) {t : TypeId} (ht : P.underlying t = some .string) {s : List UInt8} {b : Nat} (h : CellRd enc P w sp B (t, .str) (.string ⟨s.toArray⟩) b) : s.length + 1 ≤ b := by
  obtain ⟨-, n, d, ps, h1, h2⟩ := h
  obtain ⟨s', h3, h4⟩ := DataW.trod_string ht h1
  simp only [List.cons.injEq, Value.string.injEq, and_true] at h3
  subst h3
  simp only [Prod.mk.injEq] at h4
  obtain ⟨⟨rfl, -⟩, -⟩ := h4
  have := hB.str s
  omega
theorem CellRd.int {t : TypeId} {k : IntKind} (ht : P.underlying t = some (.int k)) {n : Int} {b : Nat} (h : CellRd enc P w sp B (t, .int k) (.int k n) b) : (Lit.int k n).wf = true := by
  obtain ⟨-, m, d, ps, h1, h2⟩ := h
  cases m with
  | zero => simp [DataW.trod] at h1
  | succ m =>
    unfold DataW.trod at h1
    rw [ht] at h1
    simp only [] at h1
    split at h1
    · rename_i hw; exact hw.2
    · cases h1
end
end Go.Sx

/-
  What a reading of a packet tells. By an AI agent.
-/
set_option linter.unusedSimpArgs false
set_option linter.unusedVariables false
namespace Go.Proofs.YtliedecinehijaaDoor
open Go Go.Sx Go.ChangeShapes Go.WideShapes Go.ChangeAt Go.RowKit
section
variable {H : Type} {enc : TypeId × Value → H} {w : World} {sp : Nat → Bool} {B : DataW H → Nat}
def isStruct (P : Program) (t : TypeId) : Bool := match P.underlying t with | some (.struct _) => true | _ => false
theorem open_struct' {P : Program} {r : Reach} {b0 base : Nat} {held : Bool} {t : TypeId} {v : Value} {d : DataW H} {ps : List MemPlace} (ht : isStruct P t = true) (hval : Value.okWide P w r b0 t v) (hd : DataW.Trod enc P w base sp held t v d ps) :
    ∃ (cs : List Value) (n : Nat), v = .agg cs.toArray ∧ DataW.trod enc P w base sp held n t cs = some (d, ps) := by
  unfold isStruct at ht
  split at ht
  · exact open_struct (by assumption) hval hd
  · cases ht
theorem lv_ask (hB : Bulk B) {cs : List Value} {b : Nat} (h : Lv enc Tryd.prog w sp B [(9, .str), (3, .int .i64)] cs b) : ∃ o : Ak, cs = encA o ∧ o.1.length + 1 ≤ b := by
  cases h with
  | cons c1 h e1 =>
  cases h with
  | cons c2 h e2 =>
  cases h
  obtain ⟨s, rfl⟩ := c1.1
  obtain ⟨n, rfl⟩ := c2.1
  have q1 := CellRd.str hB Tryd.underlying9 c1
  exact ⟨(s, n), rfl, by simp only; omega⟩
theorem rows_A (hB : Bulk B) : ∀ {rows : List (List Value)} {bs : List Nat}, bs.length = rows.length → (∀ (i : Nat) r b, rows[i]? = some r → bs[i]? = some b → Lv enc Tryd.prog w sp B [(9, .str), (3, .int .i64)] r b) →
    ∃ l : List Ak, rows = l.map encA ∧ ∀ x ∈ l, x.1.length ≤ bs.sum := by
  intro rows
  induction rows with
  | nil => exact fun _ _ => ⟨[], rfl, by simp⟩
  | cons r rows ih =>
    intro bs hl h
    match bs, hl with
    | b :: bs, hl =>
      obtain ⟨l, e, hb⟩ := ih (bs := bs) (by simpa using hl) (fun i r' b' h1 h2 => h (i + 1) r' b' (by simpa using h1) (by simpa using h2))
      obtain ⟨o, rfl, hob⟩ := lv_ask hB (h 0 r b rfl rfl)
      refine ⟨o :: l, by rw [e]; rfl, ?_⟩
      intro x hx
      rw [List.sum_cons]
      rcases List.mem_cons.1 hx with rfl | hx
      · omega
      · have := hb x hx; omega
theorem rows_I {rows : List (List Value)} (h : ∀ r ∈ rows, rowOk [.int .i64] r) : ∃ l, rows = List.map encI l := by
  induction rows with
  | nil => exact ⟨[], rfl⟩
  | cons r rows ih =>
    obtain ⟨ps, hps⟩ := ih fun r hr => h r (List.mem_cons_of_mem _ hr)
    have h0 := h r (List.mem_cons_self ..)
    match r, h0 with
    | [_], ⟨⟨a, rfl⟩, _⟩ => exact ⟨a :: ps, by rw [hps]; rfl⟩
theorem lv_pkt (hB : Bulk B) (h1 : Tryd.prog.underlying 22 = some (.slice 71)) (h2 : leaves Tryd.prog 8 71 = some [(9, .str), (3, .int .i64)]) (h3 : Tryd.prog.cellsOf 71 = 2)
    (i1 : Tryd.prog.underlying 23 = some (.slice 3)) (i2 : leaves Tryd.prog 8 3 = some [(3, .int .i64)]) (i3 : Tryd.prog.cellsOf 3 = 1) {cs : List Value} {b : Nat}
    (h : Lv enc Tryd.prog w (fun _ => true) B [(3, .int .i64), (4, .bool), (4, .bool), (4, .bool), (4, .bool), (3, .int .i64), (3, .int .i64), (3, .int .i64), (3, .int .i64), (9, .str), (9, .str), (9, .str), (22, .oth), (23, .oth)] cs b) :
    ∃ (p : Pkt) (u v : Value), Value.agg cs.toArray = pV p u v ∧ cs = [.int .i64 p.kind, .bool p.dup, .bool p.retain, .bool p.clean, .bool p.session, .int .i64 p.qos, .int .i64 p.id, .int .i64 p.keep, .int .i64 p.code, .string ⟨p.client.toArray⟩, .string ⟨p.topic.toArray⟩, .string ⟨p.payload.toArray⟩, u, v] ∧
      readsA w u p.asks ∧ readsI w v p.codes ∧ p.client.length + p.topic.length + p.payload.length + p.asks.length + p.codes.length ≤ b ∧ ∀ a ∈ p.asks, a.1.length ≤ b := by
  cases h with
  | cons c1 h e1 =>
  cases h with
  | cons c2 h e2 =>
  cases h with
  | cons c3 h e3 =>
  cases h with
  | cons c4 h e4 =>
  cases h with
  | cons c5 h e5 =>
  cases h with
  | cons c6 h e6 =>
  cases h with
  | cons c7 h e7 =>
  cases h with
  | cons c8 h e8 =>
  cases h with
  | cons c9 h e9 =>
  cases h with
  | cons c10 h e10 =>
  cases h with
  | cons c11 h e11 =>
  cases h with
  | cons c12 h e12 =>
  cases h with
  | cons c13 h e13 =>
  cases h with
  | cons c14 h e14 =>
  cases h
  obtain ⟨kd, rfl⟩ := c1.1
  obtain ⟨b1, rfl⟩ := c2.1
  obtain ⟨b2, rfl⟩ := c3.1
  obtain ⟨b3, rfl⟩ := c4.1
  obtain ⟨b4, rfl⟩ := c5.1
  obtain ⟨n1, rfl⟩ := c6.1
  obtain ⟨n2, rfl⟩ := c7.1
  obtain ⟨n3, rfl⟩ := c8.1
  obtain ⟨n4, rfl⟩ := c9.1
  obtain ⟨s1, rfl⟩ := c10.1
  obtain ⟨s2, rfl⟩ := c11.1
  obtain ⟨s3, rfl⟩ := c12.1
  have q1 := CellRd.str hB Tryd.underlying9 c10
  have q2 := CellRd.str hB Tryd.underlying9 c11
  have q3 := CellRd.str hB Tryd.underlying9 c12
  obtain ⟨-, n, d, ps, hx, hb⟩ := c13
  obtain ⟨rows, bs, rd, bl, lv, bk⟩ := slice_rd hB (f := 8) h1 h2 h3 (by decide) hx
  have rl := rows_le hB (by decide) bl lv
  obtain ⟨l, rfl, hs⟩ := rows_A hB bl lv
  obtain ⟨-, n', d', ps', hx', hb'⟩ := c14
  obtain ⟨rows', bs', rd', bl', lv', bk'⟩ := slice_rd hB (f := 8) i1 i2 i3 (by decide) hx'
  have rl' := rows_le hB (by decide) bl' lv'
  obtain ⟨l', rfl⟩ := rows_I rd'.1
  rw [List.length_map] at rl rl'
  simp only at bk bk'
  exact ⟨⟨kd, b1, b2, b3, b4, n1, n2, n3, n4, s1, s2, s3, l, l'⟩, _, _, by rw [pV, rd.sc1, rd'.sc1], rfl, rd, rd', by simp only; omega, fun x hx => by have := hs x hx; omega⟩
end
end Go.Proofs.YtliedecinehijaaDoor

/-
  What a reading of a list of packets tells. By an AI agent.
-/
set_option linter.unusedSimpArgs false
set_option linter.unusedVariables false
namespace Go.Proofs.YtliedecinehijaaDoor
open Go Go.Sx Go.ChangeShapes Go.WideShapes Go.ChangeAt Go.RowKit
section
variable {H : Type} {enc : TypeId × Value → H} {w : World} {B : DataW H → Nat}
theorem lv_len (hB : Bulk B) {P : Program} {sp : Nat → Bool} {ls : List (TypeId × Kd)} {cs : List Value} {b : Nat} (h : Lv enc P w sp B ls cs b) : ls.length ≤ b := by
  induction h with
  | nil b => exact Nat.zero_le _
  | cons h1 h2 h3 ih =>
    obtain ⟨-, n, d, ps, -, h5⟩ := h1
    have := hB.one d
    rw [List.length_cons]; omega
theorem rows_X (hB : Bulk B) (h1 : Tryd.prog.underlying 22 = some (.slice 71)) (h2 : leaves Tryd.prog 8 71 = some [(9, .str), (3, .int .i64)]) (h3 : Tryd.prog.cellsOf 71 = 2)
    (i1 : Tryd.prog.underlying 23 = some (.slice 3)) (i2 : leaves Tryd.prog 8 3 = some [(3, .int .i64)]) (i3 : Tryd.prog.cellsOf 3 = 1) :
    ∀ {rows : List (List Value)} {bs : List Nat}, bs.length = rows.length → (∀ (i : Nat) r b, rows[i]? = some r → bs[i]? = some b → Lv enc Tryd.prog w (fun _ => true) B [(3, .int .i64), (4, .bool), (4, .bool), (4, .bool), (4, .bool), (3, .int .i64), (3, .int .i64), (3, .int .i64), (3, .int .i64), (9, .str), (9, .str), (9, .str), (22, .oth), (23, .oth)] r b) →
    ∃ l : List PkX, rows = l.map encX ∧ (pksA l).holds w ∧ (∀ t ∈ l, t.1.client.length + t.1.topic.length + t.1.payload.length + t.1.asks.length + t.1.codes.length ≤ bs.sum ∧ ∀ a ∈ t.1.asks, a.1.length ≤ bs.sum) ∧ 14 * l.length ≤ bs.sum := by
  intro rows
  induction rows with
  | nil => exact fun _ _ => ⟨[], rfl, pksA_nil w, by simp, by simp⟩
  | cons r rows ih =>
    intro bs hl h
    match bs, hl with
    | b :: bs, hl =>
      obtain ⟨l, e, hp, hb, hn⟩ := ih (bs := bs) (by simpa using hl) (fun i r' b' h1 h2 => h (i + 1) r' b' (by simpa using h1) (by simpa using h2))
      have hlv := h 0 r b rfl rfl
      have hle := lv_len hB hlv
      obtain ⟨p, u, v, -, e2, ru, rv, z, y⟩ := lv_pkt hB h1 h2 h3 i1 i2 i3 hlv
      refine ⟨(p, u, v) :: l, by rw [e, e2]; rfl, ?_, ?_, ?_⟩
      · intro t ht
        rw [List.flatMap_cons, List.mem_append] at ht
        rcases ht with ht | ht
        · simp only [pkT, List.mem_cons, List.not_mem_nil, or_false] at ht
          rcases ht with rfl | rfl
          · exact ru
          · exact rv
        · exact hp t ht
      · intro t ht
        rw [List.sum_cons]
        rcases List.mem_cons.1 ht with rfl | ht
        · exact ⟨by simp only; omega, fun a ha => by have := y a ha; omega⟩
        · obtain ⟨q1, q2⟩ := hb t ht
          exact ⟨by omega, fun a ha => by have := q2 a ha; omega⟩
      · simp only [List.length_cons, List.length_nil] at hle
        rw [List.sum_cons, List.length_cons]; omega
end
end Go.Proofs.YtliedecinehijaaDoor
