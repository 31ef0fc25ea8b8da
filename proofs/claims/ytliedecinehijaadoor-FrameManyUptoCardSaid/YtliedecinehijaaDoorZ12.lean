/-
  Packets: what is checked of them, walked. By an AI agent.
-/
import Derived.Test.YtliedecinehijaaDoorZ10
import Derived.Test.YtliedecinehijaaDoorZ11
import Derived.Test.YtliedecinehijaaDoorZ06
import Derived.Shelf.RegionOpenPlain
import Derived.Lib.Strings
import Derived.Lib.Slices
import Derived.Lib.Walk
import Derived.Lib.Builder
import Derived.Lib.AppendStr
import Derived.Lib.UnsafeStr
import Derived.WalkKit
import Derived.Test.YtliedecinehijaaDoorZ05
set_option linter.unusedSimpArgs false
set_option linter.unusedVariables false
namespace Go.Proofs.YtliedecinehijaaDoor
open Go.Sx

def encA (a : Ak) : List Value := [.string ⟨a.1.toArray⟩, .int .i64 a.2]
def encI (n : Int) : List Value := [.int .i64 n]
abbrev aD : Ak := ([], 0)
abbrev readsA (w : World) (v : Value) (l : List Ak) : Prop := reads w v [.str, .int .i64] (l.map encA)
abbrev readsI (w : World) (v : Value) (l : List Int) : Prop := reads w v [.int .i64] (l.map encI)
theorem readsA_nil (w : World) : readsA w (.slice none 0 0) [] := ⟨by simp, none, 0, rfl, ⟨fun _ => rfl, Nat.le_refl _⟩, fun h => absurd rfl h⟩
theorem readsI_nil (w : World) : readsI w (.slice none 0 0) [] := ⟨by simp, none, 0, rfl, ⟨fun _ => rfl, Nat.le_refl _⟩, fun h => absurd rfl h⟩
theorem gA0 (l : List Ak) (i : Nat) : Value.gS (((l.map encA).getD i []).getD 0 undef) = (l.getD i aD).1 := by
  simp only [List.getD_eq_getElem?_getD, List.getElem?_map]
  cases l[i]? <;> simp [encA, Value.gS, undef]
theorem gA1 (l : List Ak) (i : Nat) : Value.gI (((l.map encA).getD i []).getD 1 undef) = (l.getD i aD).2 := by
  simp only [List.getD_eq_getElem?_getD, List.getElem?_map]
  cases l[i]? <;> simp [encA, Value.gI, undef]
theorem gI0 (l : List Int) (i : Nat) : Value.gI (((l.map encI).getD i []).getD 0 undef) = l.getD i 0 := by
  simp only [List.getD_eq_getElem?_getD, List.getElem?_map]
  cases l[i]? <;> simp [encI, Value.gI, undef]
theorem dropA (l : List Ak) (i : Nat) (h : i < l.length) : l.drop i = l.getD i aD :: l.drop (i + 1) := by
  rw [List.drop_eq_getElem_cons h, List.getD_eq_getElem?_getD, List.getElem?_eq_getElem h]; rfl
theorem dropI (l : List Int) (i : Nat) (h : i < l.length) : l.drop i = l.getD i 0 :: l.drop (i + 1) := by
  rw [List.drop_eq_getElem_cons h, List.getD_eq_getElem?_getD, List.getElem?_eq_getElem h]; rfl
/-- A packet's value: its slices are u and v. -/
def pV (p : Pkt) (u v : Value) : Value := .agg #[.int .i64 p.kind, .bool p.dup, .bool p.retain, .bool p.clean, .bool p.session, .int .i64 p.qos, .int .i64 p.id, .int .i64 p.keep, .int .i64 p.code, .string ⟨p.client.toArray⟩, .string ⟨p.topic.toArray⟩, .string ⟨p.payload.toArray⟩, sc1 u, sc1 v]
structure SmallP (p : Pkt) : Prop where
  client : p.client.length < 1000000000
  topic : p.topic.length < 1000000000
  payload : p.payload.length < 1000000000
  asks : p.asks.length < 1000000000
  codes : p.codes.length < 1000000000
  filt : ∀ a ∈ p.asks, a.1.length < 1000000000
theorem SmallP.at_ {p : Pkt} (h : SmallP p) (i : Nat) : (p.asks.getD i aD).1.length < 1000000000 := by
  by_cases hi : i < p.asks.length
  · rw [List.getD_eq_getElem?_getD, List.getElem?_eq_getElem hi]; exact h.filt _ (List.getElem_mem hi)
  · rw [List.getD_eq_getElem?_getD, List.getElem?_eq_none (by omega)]; decide
theorem SmallP.bare {p : Pkt} (h : SmallP p) : SmallP (bareP p) := by
  obtain ⟨a, b, c, d, e, f⟩ := h
  unfold bareP
  (repeat' split) <;> exact ⟨by simp_all, by simp_all, by simp_all, by simp_all, by simp_all, by first | exact f | (intro a ha; simp at ha)⟩

theorem c_pkind (w : World) (n : Int) : Calls Tryd.prog 50 #[.int .i64 n] w fun e w' => e = .returned (.bool (kindB n)) ∧ Mod [] w w' := by
  refine as_called (run_plain2 (ρ := [.i n]) sxE_ok Tryd.func50 tree_packet_kind rfl rfl rfl ?_) rfl
  simp only [Tree.goal, X.P, X.ev, V.toI_i, V.toB_b, V.toS_s, V.toR_r, V.toV_v, V.toN_n, V.toL_l, SV.ev, CV.ev, Sc.ev, List.getD_cons_zero, List.getD_cons_succ, List.getElem?_cons_zero, List.getElem?_cons_succ, List.map_cons, List.map_nil, List.length_cons, List.length_nil, List.cons_append, List.nil_append, Nat.zero_add, Nat.reduceAdd]
  exact ⟨fun h w' hr => ⟨by simp [kindB, h], hr.mod⟩, fun h w' hr => ⟨by simp [kindB, h], hr.mod⟩⟩
theorem c_PClient (w : World) (s : List UInt8) (hs : s.length < 1099511627776) : Calls Tryd.prog 122 #[.string ⟨s.toArray⟩] w fun e w' => e = .returned (.bool (cliB s)) ∧ Mod [] w w' := by
  refine as_called (run_plain2 (ρ := [.s s]) sxE_ok Tryd.func122 tree_packet_Client rfl rfl rfl ?_) rfl
  simp only [Tree.goal, X.P, X.ev, V.toI_i, V.toB_b, V.toS_s, V.toR_r, V.toV_v, V.toN_n, V.toL_l, SV.ev, CV.ev, Sc.ev, List.getD_cons_zero, List.getD_cons_succ, List.getElem?_cons_zero, List.getElem?_cons_succ, List.map_cons, List.map_nil, List.length_cons, List.length_nil, List.cons_append, List.nil_append, Nat.zero_add, Nat.reduceAdd]
  refine ⟨[.b (plainS s)], rfl, fun _ w' _ => c_Plain w' s hs, ?_⟩
  simp only [Tree.goal, X.P, X.ev, V.toI_i, V.toB_b, V.toS_s, V.toR_r, V.toV_v, V.toN_n, V.toL_l, SV.ev, CV.ev, Sc.ev, List.getD_cons_zero, List.getD_cons_succ, List.getElem?_cons_zero, List.getElem?_cons_succ, List.map_cons, List.map_nil, List.length_cons, List.length_nil, List.cons_append, List.nil_append, Nat.zero_add, Nat.reduceAdd]
  exact fun w' hr => ⟨by simp [cliB], hr.mod⟩
theorem c_count (w : World) (n : Nat) : Calls Tryd.prog 154 #[.int .i64 n] w fun e w' => e = .returned (.int .i64 (countE n)) ∧ Mod [] w w' := by
  refine as_called (run_plain2 (ρ := [.i n]) sxE_ok Tryd.func154 tree_packet_count rfl rfl rfl ?_) rfl
  simp only [Tree.goal, X.P, X.ev, V.toI_i, V.toB_b, V.toS_s, V.toR_r, V.toV_v, V.toN_n, V.toL_l, SV.ev, CV.ev, Sc.ev, List.getD_cons_zero, List.getD_cons_succ, List.getElem?_cons_zero, List.getElem?_cons_succ, List.map_cons, List.map_nil, List.length_cons, List.length_nil, List.cons_append, List.nil_append, Nat.zero_add, Nat.reduceAdd]
  refine ⟨fun h w' hr => ⟨?_, hr.mod⟩, fun h => ⟨fun h1 w' hr => ⟨?_, hr.mod⟩, fun h1 w' hr => ⟨?_, hr.mod⟩⟩⟩
  · rw [countE, if_pos (by omega)]
  · rw [countE, if_neg (by omega), if_pos (by omega)]
  · rw [countE, if_neg (by omega), if_neg (by omega)]
theorem c_PAsk (w : World) (a : Ak) (h : a.1.length < 1000000000) : Calls Tryd.prog 123 #[.agg #[.string ⟨a.1.toArray⟩, .int .i64 a.2]] w fun e w' => e = .returned (.int .i64 (askE a)) ∧ Mod [] w w' := by
  refine as_called (run_plain2 (ρ := [.s a.1, .i a.2]) sxE_ok Tryd.func123 tree_packet_Ask rfl rfl rfl ?_) rfl
  simp only [Tree.goal, X.P, X.ev, V.toI_i, V.toB_b, V.toS_s, V.toR_r, V.toV_v, V.toN_n, V.toL_l, SV.ev, CV.ev, Sc.ev, List.getD_cons_zero, List.getD_cons_succ, List.getElem?_cons_zero, List.getElem?_cons_succ, List.map_cons, List.map_nil, List.length_cons, List.length_nil, List.cons_append, List.nil_append, Nat.zero_add, Nat.reduceAdd]
  intro b
  refine ⟨[.i (chkT a.1 true)], rfl, fun _ w' _ => c_Filter w' _ (by omega), ?_⟩
  simp only [Tree.goal, X.P, X.ev, V.toI_i, V.toB_b, V.toS_s, V.toR_r, V.toV_v, V.toN_n, V.toL_l, SV.ev, CV.ev, Sc.ev, List.getD_cons_zero, List.getD_cons_succ, List.getElem?_cons_zero, List.getElem?_cons_succ, List.map_cons, List.map_nil, List.length_cons, List.length_nil, List.cons_append, List.nil_append, Nat.zero_add, Nat.reduceAdd]
  refine ⟨fun h w' hr => ⟨by rw [askE, if_neg h], hr.mod⟩, fun h => ⟨fun h1 w' hr => ⟨?_, hr.mod⟩, fun h1 w' hr => ⟨?_, hr.mod⟩⟩⟩
  · rw [askE, if_pos (Classical.not_not.1 h), if_neg h1]
  · rw [askE, if_pos (Classical.not_not.1 h), if_pos (Classical.not_not.1 h1)]

section
variable (w : World) (p : Pkt) (u v : Value) (hu : readsA w u p.asks) (hv : readsI w v p.codes) (hs : SmallP p)
include hu hv
theorem c_pid : Calls Tryd.prog 79 #[pV p u v] w fun e w' => e = .returned (.bool (idB p)) ∧ Mod [] w w' := by
  refine as_called (run_tree2 (ρ := [.i p.kind, .b p.dup, .b p.retain, .b p.clean, .b p.session, .i p.qos, .i p.id, .i p.keep, .i p.code, .s p.client, .s p.topic, .s p.payload, .v u, .r (p.asks.map encA), .v v, .r (p.codes.map encI)]) sxE_ok Tryd.func79 tree_packet_id rfl rfl (Rel.start2 (by simp [Ent.holds, Ent.wr, hu, hv, X.ev])) rfl rfl ?_) rfl
  simp only [Tree.goal, X.P, X.ev, V.toI_i, V.toB_b, V.toS_s, V.toR_r, V.toV_v, V.toN_n, V.toL_l, SV.ev, CV.ev, Sc.ev, List.getD_cons_zero, List.getD_cons_succ, List.getElem?_cons_zero, List.getElem?_cons_succ, List.map_cons, List.map_nil, List.length_cons, List.length_nil, List.cons_append, List.nil_append, Nat.zero_add, Nat.reduceAdd]
  intro b
  refine ⟨fun h w' hr => ⟨?_, hr.mod⟩, fun h => ⟨fun h1 w' hr => ⟨?_, hr.mod⟩, fun h1 => ⟨fun h2 w' hr => ⟨?_, hr.mod⟩, fun h2 => ⟨fun h3 w' hr => ⟨?_, hr.mod⟩, fun h3 => ⟨fun h4 w' hr => ⟨?_, hr.mod⟩, fun h4 => ⟨fun h5 w' hr => ⟨?_, hr.mod⟩, fun h5 w' hr => ⟨?_, hr.mod⟩⟩⟩⟩⟩⟩⟩ <;>
    (simp only [idB, Ending.returned.injEq, Value.bool.injEq]; first | exact decide_eq_decide.2 (by omega) | (symm; simp only [decide_eq_true_eq, decide_eq_false_iff_not]; omega))
theorem c_pconnack : Calls Tryd.prog 129 #[pV p u v] w fun e w' => e = .returned (.int .i64 (connackE p)) ∧ Mod [] w w' := by
  refine as_called (run_tree2 (ρ := [.i p.kind, .b p.dup, .b p.retain, .b p.clean, .b p.session, .i p.qos, .i p.id, .i p.keep, .i p.code, .s p.client, .s p.topic, .s p.payload, .v u, .r (p.asks.map encA), .v v, .r (p.codes.map encI)]) sxE_ok Tryd.func129 tree_packet_connack rfl rfl (Rel.start2 (by simp [Ent.holds, Ent.wr, hu, hv, X.ev])) rfl rfl ?_) rfl
  simp only [Tree.goal, X.P, X.ev, V.toI_i, V.toB_b, V.toS_s, V.toR_r, V.toV_v, V.toN_n, V.toL_l, SV.ev, CV.ev, Sc.ev, List.getD_cons_zero, List.getD_cons_succ, List.getElem?_cons_zero, List.getElem?_cons_succ, List.map_cons, List.map_nil, List.length_cons, List.length_nil, List.cons_append, List.nil_append, Nat.zero_add, Nat.reduceAdd]
  intro b
  refine ⟨fun h w' hr => ⟨by rw [connackE, if_neg h], hr.mod⟩, fun h => ⟨fun h2 w' hr => ⟨?_, hr.mod⟩, fun h2 w' hr => ⟨?_, hr.mod⟩⟩⟩
  · rw [connackE, if_pos (Classical.not_not.1 h), if_pos h2]
  · rw [connackE, if_pos (Classical.not_not.1 h), if_neg h2]
include hs
theorem c_pempty : Calls Tryd.prog 76 #[pV p u v] w fun e w' => e = .returned (.bool (emptyB p)) ∧ Mod [] w w' := by
  refine as_called (run_tree2 (ρ := [.i p.kind, .b p.dup, .b p.retain, .b p.clean, .b p.session, .i p.qos, .i p.id, .i p.keep, .i p.code, .s p.client, .s p.topic, .s p.payload, .v u, .r (p.asks.map encA), .v v, .r (p.codes.map encI)]) sxE_ok Tryd.func76 tree_packet_empty rfl rfl (Rel.start2 (by simp [Ent.holds, Ent.wr, hu, hv, X.ev])) rfl rfl ?_) rfl
  have h1 := hs.client; have h2 := hs.topic; have h3 := hs.payload; have h4 := hs.asks; have h5 := hs.codes
  simp only [Tree.goal, X.P, X.ev, V.toI_i, V.toB_b, V.toS_s, V.toR_r, V.toV_v, V.toN_n, V.toL_l, SV.ev, CV.ev, Sc.ev, List.getD_cons_zero, List.getD_cons_succ, List.getElem?_cons_zero, List.getElem?_cons_succ, List.map_cons, List.map_nil, List.length_cons, List.length_nil, List.cons_append, List.nil_append, Nat.zero_add, Nat.reduceAdd, List.length_map, List.length_append]
  intro b
  refine ⟨.inr (by omega), .inr (by omega), .inr (by omega), fun w' hr => ⟨?_, hr.mod⟩⟩
  obtain ⟨k, d, r, c, se, q, i, ke, co, cl, t, pl, az, cs⟩ := p
  simp only [emptyB, Ending.returned.injEq, Value.bool.injEq, Pkt.mk.injEq]
  have e1 : ((az.length : Int) + (cs.length : Int) = 0) ↔ az = [] ∧ cs = [] := by
    rw [← List.length_eq_zero_iff, ← List.length_eq_zero_iff]; omega
  rw [Bool.eq_iff_iff]
  simp only [Bool.and_eq_true, Bool.not_eq_true', decide_eq_true_eq, e1, List.append_eq_nil_iff]
  constructor <;> (intro h; simp_all)
theorem c_pconnect : Calls Tryd.prog 128 #[pV p u v] w fun e w' => e = .returned (.int .i64 (connE p)) ∧ Mod [] w w' := by
  refine as_called (run_tree2 (ρ := [.i p.kind, .b p.dup, .b p.retain, .b p.clean, .b p.session, .i p.qos, .i p.id, .i p.keep, .i p.code, .s p.client, .s p.topic, .s p.payload, .v u, .r (p.asks.map encA), .v v, .r (p.codes.map encI)]) sxE_ok Tryd.func128 tree_packet_connect rfl rfl (Rel.start2 (by simp [Ent.holds, Ent.wr, hu, hv, X.ev])) rfl rfl ?_) rfl
  have h1 := hs.client
  simp only [Tree.goal, X.P, X.ev, V.toI_i, V.toB_b, V.toS_s, V.toR_r, V.toV_v, V.toN_n, V.toL_l, SV.ev, CV.ev, Sc.ev, List.getD_cons_zero, List.getD_cons_succ, List.getElem?_cons_zero, List.getElem?_cons_succ, List.map_cons, List.map_nil, List.length_cons, List.length_nil, List.cons_append, List.nil_append, Nat.zero_add, Nat.reduceAdd]
  intro b
  refine ⟨fun h w' hr => ⟨by rw [connE, if_pos h], hr.mod⟩, fun h => ?_⟩
  refine ⟨[.b (cliB p.client)], rfl, fun _ w' _ => c_PClient w' _ (by omega), ?_⟩
  simp only [Tree.goal, X.P, X.ev, V.toI_i, V.toB_b, V.toS_s, V.toR_r, V.toV_v, V.toN_n, V.toL_l, SV.ev, CV.ev, Sc.ev, List.getD_cons_zero, List.getD_cons_succ, List.getElem?_cons_zero, List.getElem?_cons_succ, List.map_cons, List.map_nil, List.length_cons, List.length_nil, List.cons_append, List.nil_append, Nat.zero_add, Nat.reduceAdd]
  refine ⟨fun h2 w' hr => ⟨by rw [connE, if_neg h, if_neg h2], hr.mod⟩, fun h2 => ⟨fun h3 w' hr => ⟨?_, hr.mod⟩, fun h3 w' hr => ⟨?_, hr.mod⟩⟩⟩
  · rw [connE, if_neg h, if_pos (Classical.not_not.1 h2), if_neg h3]
  · rw [connE, if_neg h, if_pos (Classical.not_not.1 h2), if_pos (Classical.not_not.1 h3)]
theorem c_ppublish : Calls Tryd.prog 78 #[pV p u v] w fun e w' => e = .returned (.int .i64 (pubE p)) ∧ Mod [] w w' := by
  refine as_called (run_tree2 (ρ := [.i p.kind, .b p.dup, .b p.retain, .b p.clean, .b p.session, .i p.qos, .i p.id, .i p.keep, .i p.code, .s p.client, .s p.topic, .s p.payload, .v u, .r (p.asks.map encA), .v v, .r (p.codes.map encI)]) sxE_ok Tryd.func78 tree_packet_publish rfl rfl (Rel.start2 (by simp [Ent.holds, Ent.wr, hu, hv, X.ev])) rfl rfl ?_) rfl
  have h1 := hs.topic
  simp only [Tree.goal, X.P, X.ev, V.toI_i, V.toB_b, V.toS_s, V.toR_r, V.toV_v, V.toN_n, V.toL_l, SV.ev, CV.ev, Sc.ev, List.getD_cons_zero, List.getD_cons_succ, List.getElem?_cons_zero, List.getElem?_cons_succ, List.map_cons, List.map_nil, List.length_cons, List.length_nil, List.cons_append, List.nil_append, Nat.zero_add, Nat.reduceAdd]
  intro b
  refine ⟨[.i (chkT p.topic false)], rfl, fun _ w' _ => c_Name w' _ (by omega), ?_⟩
  simp only [Tree.goal, X.P, X.ev, V.toI_i, V.toB_b, V.toS_s, V.toR_r, V.toV_v, V.toN_n, V.toL_l, SV.ev, CV.ev, Sc.ev, List.getD_cons_zero, List.getD_cons_succ, List.getElem?_cons_zero, List.getElem?_cons_succ, List.map_cons, List.map_nil, List.length_cons, List.length_nil, List.cons_append, List.nil_append, Nat.zero_add, Nat.reduceAdd]
  refine ⟨fun h w' hr => ⟨by rw [pubE, if_neg h], hr.mod⟩, fun h => ?_⟩
  have h := Classical.not_not.1 h
  refine ⟨fun h2 w' hr => ⟨by rw [pubE, if_pos h, if_pos h2], hr.mod⟩, fun h2 => ⟨fun h3 w' hr => ⟨?_, hr.mod⟩, fun h3 => ⟨fun h4 w' hr => ⟨?_, hr.mod⟩, fun h4 w' hr => ⟨?_, hr.mod⟩⟩⟩⟩
  · rw [pubE, if_pos h, if_neg h2, if_neg h3]
  · rw [pubE, if_pos h, if_neg h2, if_pos (Classical.not_not.1 h3), if_pos h4]
  · rw [pubE, if_pos h, if_neg h2, if_pos (Classical.not_not.1 h3), if_neg h4]
theorem c_pasks : Calls Tryd.prog 130 #[pV p u v] w fun e w' => e = .returned (.int .i64 (asksE p)) ∧ Mod [] w w' := by
  refine as_called (run_tree2 (ρ := [.i p.kind, .b p.dup, .b p.retain, .b p.clean, .b p.session, .i p.qos, .i p.id, .i p.keep, .i p.code, .s p.client, .s p.topic, .s p.payload, .v u, .r (p.asks.map encA), .v v, .r (p.codes.map encI)]) sxE_ok Tryd.func130 tree_packet_asks rfl rfl (Rel.start2 (by simp [Ent.holds, Ent.wr, hu, hv, X.ev])) rfl rfl ?_) rfl
  have h1 := hs.asks
  have hf := hs.at_
  simp only [Tree.goal, X.P, X.ev, V.toI_i, V.toB_b, V.toS_s, V.toR_r, V.toV_v, V.toN_n, V.toL_l, SV.ev, CV.ev, Sc.ev, List.getD_cons_zero, List.getD_cons_succ, List.getElem?_cons_zero, List.getElem?_cons_succ, List.map_cons, List.map_nil, List.length_cons, List.length_nil, List.cons_append, List.nil_append, Nat.zero_add, Nat.reduceAdd, List.length_map]
  intro b
  refine ⟨[.i (countE p.asks.length)], rfl, fun _ w' _ => c_count w' _, ?_⟩
  simp only [Tree.goal, X.P, X.ev, V.toI_i, V.toB_b, V.toS_s, V.toR_r, V.toV_v, V.toN_n, V.toL_l, SV.ev, CV.ev, Sc.ev, List.getD_cons_zero, List.getD_cons_succ, List.getElem?_cons_zero, List.getElem?_cons_succ, List.map_cons, List.map_nil, List.length_cons, List.length_nil, List.cons_append, List.nil_append, Nat.zero_add, Nat.reduceAdd, List.length_map]
  refine ⟨fun h w' hr => ⟨by rw [asksE, if_neg h], hr.mod⟩, fun h => ?_⟩
  have h := Classical.not_not.1 h
  rw [asksE, if_pos h]
  refine ⟨fun vs => ∃ (i : Nat) (x : V), vs = [x, .i i] ∧ i ≤ p.asks.length ∧ asksL p.kind (p.asks.drop i) = asksL p.kind p.asks, fun vs => p.asks.length - (vs.getD 1 (.i 0)).toI.toNat, ⟨0, _, rfl, by omega, rfl⟩, ?_⟩
  rintro _ - ⟨i, x, rfl, hi, hg⟩
  simp only [Tree.goal, X.P, X.ev, V.toI_i, V.toB_b, V.toS_s, V.toR_r, V.toV_v, V.toN_n, V.toL_l, SV.ev, CV.ev, Sc.ev, List.getD_cons_zero, List.getD_cons_succ, List.getElem?_cons_zero, List.getElem?_cons_succ, List.map_cons, List.map_nil, List.length_cons, List.length_nil, List.cons_append, List.nil_append, Nat.zero_add, Nat.reduceAdd, List.length_map, Int.toNat_natCast, gA0, gA1]
  refine ⟨fun h2 => ⟨by omega, fun b => ⟨fun hk => ?_, fun hk => ?_⟩⟩, fun h2 w' hr => ⟨?_, hr.mod⟩⟩
  · rw [dropA _ _ (by omega), asksL, if_pos hk] at hg
    refine ⟨[.i (askE (p.asks.getD i aD))], rfl, fun _ w' _ => c_PAsk w' _ (hf i), ?_⟩
    simp only [Tree.goal, X.P, X.ev, V.toI_i, V.toB_b, V.toS_s, V.toR_r, V.toV_v, V.toN_n, V.toL_l, SV.ev, CV.ev, Sc.ev, List.getD_cons_zero, List.getD_cons_succ, List.getElem?_cons_zero, List.getElem?_cons_succ, List.map_cons, List.map_nil, List.length_cons, List.length_nil, List.cons_append, List.nil_append, Nat.zero_add, Nat.reduceAdd]
    refine ⟨fun h3 w' hr => ⟨by rw [← hg, if_neg h3], hr.mod⟩, fun h3 => ⟨by omega, by omega, ⟨i + 1, x, rfl, by omega, ?_⟩, by omega⟩⟩
    rw [← hg, if_pos (Classical.not_not.1 h3)]
  · rw [dropA _ _ (by omega), asksL, if_neg hk] at hg
    have := hf i
    refine ⟨[.i (chkT (p.asks.getD i aD).1 true)], rfl, fun _ w' _ => c_Filter w' _ (by omega), ?_⟩
    simp only [Tree.goal, X.P, X.ev, V.toI_i, V.toB_b, V.toS_s, V.toR_r, V.toV_v, V.toN_n, V.toL_l, SV.ev, CV.ev, Sc.ev, List.getD_cons_zero, List.getD_cons_succ, List.getElem?_cons_zero, List.getElem?_cons_succ, List.map_cons, List.map_nil, List.length_cons, List.length_nil, List.cons_append, List.nil_append, Nat.zero_add, Nat.reduceAdd, gA1]
    refine ⟨fun h3 w' hr => ⟨?_, hr.mod⟩, fun h3 => ⟨fun h4 w' hr => ⟨?_, hr.mod⟩, fun h4 => ⟨by omega, by omega, ⟨i + 1, x, rfl, by omega, ?_⟩, by omega⟩⟩⟩
    · have e : noaskE (p.asks.getD i aD) = chkT (p.asks.getD i aD).1 true := by rw [noaskE, if_neg h3]
      rw [← hg, e, if_neg h3]
    · have e : noaskE (p.asks.getD i aD) = 1 := by rw [noaskE, if_pos (Classical.not_not.1 h3), if_neg h4]
      rw [← hg, e]; rfl
    · have e : noaskE (p.asks.getD i aD) = 0 := by rw [noaskE, if_pos (Classical.not_not.1 h3), if_pos (Classical.not_not.1 h4)]
      rw [← hg, e]; rfl
  · have : i = p.asks.length := by omega
    subst this
    rw [List.drop_length] at hg
    rw [← hg]; rfl
theorem c_pcodes : Calls Tryd.prog 131 #[pV p u v] w fun e w' => e = .returned (.int .i64 (codesE p)) ∧ Mod [] w w' := by
  refine as_called (run_tree2 (ρ := [.i p.kind, .b p.dup, .b p.retain, .b p.clean, .b p.session, .i p.qos, .i p.id, .i p.keep, .i p.code, .s p.client, .s p.topic, .s p.payload, .v u, .r (p.asks.map encA), .v v, .r (p.codes.map encI)]) sxE_ok Tryd.func131 tree_packet_codes rfl rfl (Rel.start2 (by simp [Ent.holds, Ent.wr, hu, hv, X.ev])) rfl rfl ?_) rfl
  have h1 := hs.codes
  simp only [Tree.goal, X.P, X.ev, V.toI_i, V.toB_b, V.toS_s, V.toR_r, V.toV_v, V.toN_n, V.toL_l, SV.ev, CV.ev, Sc.ev, List.getD_cons_zero, List.getD_cons_succ, List.getElem?_cons_zero, List.getElem?_cons_succ, List.map_cons, List.map_nil, List.length_cons, List.length_nil, List.cons_append, List.nil_append, Nat.zero_add, Nat.reduceAdd, List.length_map]
  intro b
  refine ⟨[.i (countE p.codes.length)], rfl, fun _ w' _ => c_count w' _, ?_⟩
  simp only [Tree.goal, X.P, X.ev, V.toI_i, V.toB_b, V.toS_s, V.toR_r, V.toV_v, V.toN_n, V.toL_l, SV.ev, CV.ev, Sc.ev, List.getD_cons_zero, List.getD_cons_succ, List.getElem?_cons_zero, List.getElem?_cons_succ, List.map_cons, List.map_nil, List.length_cons, List.length_nil, List.cons_append, List.nil_append, Nat.zero_add, Nat.reduceAdd, List.length_map]
  refine ⟨fun h w' hr => ⟨by rw [codesE, if_neg h], hr.mod⟩, fun h => ?_⟩
  have h := Classical.not_not.1 h
  rw [codesE, if_pos h]
  refine ⟨fun vs => ∃ (i : Nat) (x : V), vs = [x, .i i] ∧ i ≤ p.codes.length ∧ (p.codes.drop i).any codeB = p.codes.any codeB, fun vs => p.codes.length - (vs.getD 1 (.i 0)).toI.toNat, ⟨0, _, rfl, by omega, rfl⟩, ?_⟩
  rintro _ - ⟨i, x, rfl, hi, hg⟩
  simp only [Tree.goal, X.P, X.ev, V.toI_i, V.toB_b, V.toS_s, V.toR_r, V.toV_v, V.toN_n, V.toL_l, SV.ev, CV.ev, Sc.ev, List.getD_cons_zero, List.getD_cons_succ, List.getElem?_cons_zero, List.getElem?_cons_succ, List.map_cons, List.map_nil, List.length_cons, List.length_nil, List.cons_append, List.nil_append, Nat.zero_add, Nat.reduceAdd, List.length_map, Int.toNat_natCast, gI0]
  refine ⟨fun h2 => ?_, fun h2 => ?_⟩
  · rw [dropI _ _ (by omega), List.any_cons] at hg
    refine ⟨by omega, fun h3 w' hr => ⟨?_, hr.mod⟩, fun h3 => ⟨by omega, by omega, ⟨i + 1, x, rfl, by omega, ?_⟩, by omega⟩⟩
    · have e : codeB (p.codes.getD i 0) = true := by simp only [codeB, decide_eq_true_eq]; exact ⟨h3.1.1, h3.1.2, h3.2⟩
      rw [← hg, e]; rfl
    · have e : codeB (p.codes.getD i 0) = false := by
        simp only [codeB, decide_eq_false_iff_not]; exact fun h4 => h3 ⟨⟨h4.1, h4.2.1⟩, h4.2.2⟩
      rw [← hg, e]; rfl
  · have : i = p.codes.length := by omega
    subst this
    rw [List.drop_length] at hg
    rw [← hg]
    exact ⟨fun h3 => absurd h3 (by omega), fun h3 w' hr => ⟨rfl, hr.mod⟩⟩
end
end Go.Proofs.YtliedecinehijaaDoor

/-
  Packets: Check, walked. By an AI agent.
-/
set_option linter.unusedSimpArgs false
set_option linter.unusedVariables false
namespace Go.Proofs.YtliedecinehijaaDoor
open Go.Sx

theorem apart_ro2 {ρ : List V} {es : List Ent} (h : ∀ e ∈ es, e.wr = false) : Apart ρ es := by
  refine List.pairwise_iff_forall_sublist.2 fun {a b} hs hw => ?_
  have h1 := h a (hs.subset (by simp))
  have h2 := h b (hs.subset (by simp))
  rw [h1, h2] at hw; simp at hw
section
variable (w : World) (p : Pkt) (u v : Value) (hu : readsA w u p.asks) (hv : readsI w v p.codes) (hs : SmallP p)
include hu hv
/-- A packet's slices are those, or nil. -/
theorem c_pbare : Calls Tryd.prog 77 #[pV p u v] w fun e w' => ∃ x y, e = .returned (pV (bareP p) x y) ∧ readsA w' x (bareP p).asks ∧ readsI w' y (bareP p).codes ∧
    (x = u ∧ (bareP p).asks = p.asks ∨ (bareP p).asks = []) ∧ (y = v ∧ (bareP p).codes = p.codes ∨ (bareP p).codes = []) ∧ Mod [] w w' := by
  refine as_called (run_tree2 (ρ := [.i p.kind, .b p.dup, .b p.retain, .b p.clean, .b p.session, .i p.qos, .i p.id, .i p.keep, .i p.code, .s p.client, .s p.topic, .s p.payload, .v u, .r (p.asks.map encA), .v v, .r (p.codes.map encI)]) sxE_ok Tryd.func77 tree_packet_bare rfl rfl (Rel.start2 (by simp [Ent.holds, Ent.wr, hu, hv, X.ev])) rfl rfl ?_) rfl
  simp only [Tree.goal, X.P, X.ev, V.toI_i, V.toB_b, V.toS_s, V.toR_r, V.toV_v, V.toN_n, V.toL_l, SV.ev, CV.ev, Sc.ev, List.getD_cons_zero, List.getD_cons_succ, List.getElem?_cons_zero, List.getElem?_cons_succ, List.map_cons, List.map_nil, List.length_cons, List.length_nil, List.cons_append, List.nil_append, Nat.zero_add, Nat.reduceAdd]
  intro b1 b2
  have g4 : ∀ q : Pkt, q.kind = p.kind → p.kind ≠ 1 → p.kind ≠ 2 → p.kind ≠ 3 → (p.kind = 4 ∨ p.kind = 11) → bareP p = { p with id := 0 } := fun q _ h1 h2 h3 h => by rw [bareP, if_neg h1, if_neg h2, if_neg h3, if_pos h]
  have g8 : p.kind ≠ 1 → p.kind ≠ 2 → p.kind ≠ 3 → ¬ (p.kind = 4 ∨ p.kind = 11) → (p.kind = 8 ∨ p.kind = 10) → bareP p = { p with id := 0, asks := [] } := fun h1 h2 h3 h4 h => by rw [bareP, if_neg h1, if_neg h2, if_neg h3, if_neg h4, if_pos h]
  refine ⟨fun h1 w' hr => ?_, fun h1 => ⟨fun h2 w' hr => ?_, fun h2 => ⟨fun h3 w' hr => ?_, fun h3 => ⟨fun h4 w' hr => ?_, fun h4 => ⟨fun h5 w' hr => ?_, fun h5 => ⟨fun h6 w' hr => ?_, fun h6 => ⟨fun h7 w' hr => ?_, fun h7 => ⟨fun h8 w' hr => ?_, fun h8 w' hr => ?_⟩⟩⟩⟩⟩⟩⟩⟩
  · have e : bareP p = { p with client := [], clean := false, keep := 0 } := by rw [bareP, if_pos h1]
    rw [e]; exact ⟨u, v, rfl, hr.at_ 2 rfl, hr.at_ 3 rfl, .inl ⟨rfl, rfl⟩, .inl ⟨rfl, rfl⟩, hr.mod⟩
  · have e : bareP p = { p with code := 0, session := false } := by rw [bareP, if_neg h1, if_pos h2]
    rw [e]; exact ⟨u, v, rfl, hr.at_ 2 rfl, hr.at_ 3 rfl, .inl ⟨rfl, rfl⟩, .inl ⟨rfl, rfl⟩, hr.mod⟩
  · have e : bareP p = { p with dup := false, qos := 0, retain := false, topic := [], payload := [], id := 0 } := by rw [bareP, if_neg h1, if_neg h2, if_pos h3]
    rw [e]; exact ⟨u, v, rfl, hr.at_ 2 rfl, hr.at_ 3 rfl, .inl ⟨rfl, rfl⟩, .inl ⟨rfl, rfl⟩, hr.mod⟩
  · rw [g4 p rfl h1 h2 h3 (.inl h4)]; exact ⟨u, v, rfl, hr.at_ 2 rfl, hr.at_ 3 rfl, .inl ⟨rfl, rfl⟩, .inl ⟨rfl, rfl⟩, hr.mod⟩
  · rw [g4 p rfl h1 h2 h3 (.inr h5)]; exact ⟨u, v, rfl, hr.at_ 2 rfl, hr.at_ 3 rfl, .inl ⟨rfl, rfl⟩, .inl ⟨rfl, rfl⟩, hr.mod⟩
  · rw [g8 h1 h2 h3 (by omega) (.inl h6)]
    exact ⟨.slice none 0 0, v, rfl, readsA_nil _, hr.at_ 3 rfl, .inr rfl, .inl ⟨rfl, rfl⟩, hr.mod⟩
  · rw [g8 h1 h2 h3 (by omega) (.inr h7)]
    exact ⟨.slice none 0 0, v, rfl, readsA_nil _, hr.at_ 3 rfl, .inr rfl, .inl ⟨rfl, rfl⟩, hr.mod⟩
  · have e : bareP p = { p with id := 0, codes := [] } := by rw [bareP, if_neg h1, if_neg h2, if_neg h3, if_neg (by omega), if_neg (by omega), if_pos h8]
    rw [e]
    exact ⟨u, .slice none 0 0, rfl, hr.at_ 2 rfl, readsI_nil _, .inl ⟨rfl, rfl⟩, .inr rfl, hr.mod⟩
  · have e : bareP p = p := by rw [bareP, if_neg h1, if_neg h2, if_neg h3, if_neg (by omega), if_neg (by omega), if_neg h8]
    rw [e]; exact ⟨u, v, rfl, hr.at_ 2 rfl, hr.at_ 3 rfl, .inl ⟨rfl, rfl⟩, .inl ⟨rfl, rfl⟩, hr.mod⟩
include hs
theorem c_pparts : Calls Tryd.prog 81 #[pV p u v] w fun e w' => e = .returned (.int .i64 (partsE p)) ∧ Mod [] w w' := by
  refine as_called (run_tree2 (ρ := [.i p.kind, .b p.dup, .b p.retain, .b p.clean, .b p.session, .i p.qos, .i p.id, .i p.keep, .i p.code, .s p.client, .s p.topic, .s p.payload, .v u, .r (p.asks.map encA), .v v, .r (p.codes.map encI)]) sxE_ok Tryd.func81 tree_packet_parts rfl rfl (Rel.start2 (by simp [Ent.holds, Ent.wr, hu, hv, X.ev])) rfl rfl ?_) rfl
  simp only [Tree.goal, X.P, X.ev, V.toI_i, V.toB_b, V.toS_s, V.toR_r, V.toV_v, V.toN_n, V.toL_l, SV.ev, CV.ev, Sc.ev, List.getD_cons_zero, List.getD_cons_succ, List.getElem?_cons_zero, List.getElem?_cons_succ, List.map_cons, List.map_nil, List.length_cons, List.length_nil, List.cons_append, List.nil_append, Nat.zero_add, Nat.reduceAdd]
  intro b
  refine ⟨fun h1 => ?_, fun h1 => ⟨fun h2 => ?_, fun h2 => ⟨fun h3 => ?_, fun h3 => ⟨fun h4 => ?_, fun h4 => ⟨fun h5 => ?_, fun h5 => ⟨fun h6 => ?_, fun h6 w' hr => ⟨?_, hr.mod⟩⟩⟩⟩⟩⟩⟩
  · refine ⟨[.i (connE p)], rfl, fun _ w' hr => c_pconnect w' p u v (hr.at_ 1 rfl) (hr.at_ 2 rfl) hs, ?_⟩
    simp only [Tree.goal, X.P, X.ev, V.toI_i, V.toB_b, V.toS_s, V.toR_r, V.toV_v, V.toN_n, V.toL_l, SV.ev, CV.ev, Sc.ev, List.getD_cons_zero, List.getD_cons_succ, List.getElem?_cons_zero, List.getElem?_cons_succ, List.map_cons, List.map_nil, List.length_cons, List.length_nil, List.cons_append, List.nil_append, Nat.zero_add, Nat.reduceAdd]; exact fun w' hr => ⟨by rw [partsE, if_pos h1], hr.mod⟩
  · refine ⟨[.i (connackE p)], rfl, fun _ w' hr => c_pconnack w' p u v (hr.at_ 1 rfl) (hr.at_ 2 rfl), ?_⟩
    simp only [Tree.goal, X.P, X.ev, V.toI_i, V.toB_b, V.toS_s, V.toR_r, V.toV_v, V.toN_n, V.toL_l, SV.ev, CV.ev, Sc.ev, List.getD_cons_zero, List.getD_cons_succ, List.getElem?_cons_zero, List.getElem?_cons_succ, List.map_cons, List.map_nil, List.length_cons, List.length_nil, List.cons_append, List.nil_append, Nat.zero_add, Nat.reduceAdd]; exact fun w' hr => ⟨by rw [partsE, if_neg h1, if_pos h2], hr.mod⟩
  · refine ⟨[.i (pubE p)], rfl, fun _ w' hr => c_ppublish w' p u v (hr.at_ 1 rfl) (hr.at_ 2 rfl) hs, ?_⟩
    simp only [Tree.goal, X.P, X.ev, V.toI_i, V.toB_b, V.toS_s, V.toR_r, V.toV_v, V.toN_n, V.toL_l, SV.ev, CV.ev, Sc.ev, List.getD_cons_zero, List.getD_cons_succ, List.getElem?_cons_zero, List.getElem?_cons_succ, List.map_cons, List.map_nil, List.length_cons, List.length_nil, List.cons_append, List.nil_append, Nat.zero_add, Nat.reduceAdd]; exact fun w' hr => ⟨by rw [partsE, if_neg h1, if_neg h2, if_pos h3], hr.mod⟩
  · refine ⟨[.i (asksE p)], rfl, fun _ w' hr => c_pasks w' p u v (hr.at_ 1 rfl) (hr.at_ 2 rfl) hs, ?_⟩
    simp only [Tree.goal, X.P, X.ev, V.toI_i, V.toB_b, V.toS_s, V.toR_r, V.toV_v, V.toN_n, V.toL_l, SV.ev, CV.ev, Sc.ev, List.getD_cons_zero, List.getD_cons_succ, List.getElem?_cons_zero, List.getElem?_cons_succ, List.map_cons, List.map_nil, List.length_cons, List.length_nil, List.cons_append, List.nil_append, Nat.zero_add, Nat.reduceAdd]; exact fun w' hr => ⟨by rw [partsE, if_neg h1, if_neg h2, if_neg h3, if_pos (.inl h4)], hr.mod⟩
  · refine ⟨[.i (asksE p)], rfl, fun _ w' hr => c_pasks w' p u v (hr.at_ 1 rfl) (hr.at_ 2 rfl) hs, ?_⟩
    simp only [Tree.goal, X.P, X.ev, V.toI_i, V.toB_b, V.toS_s, V.toR_r, V.toV_v, V.toN_n, V.toL_l, SV.ev, CV.ev, Sc.ev, List.getD_cons_zero, List.getD_cons_succ, List.getElem?_cons_zero, List.getElem?_cons_succ, List.map_cons, List.map_nil, List.length_cons, List.length_nil, List.cons_append, List.nil_append, Nat.zero_add, Nat.reduceAdd]; exact fun w' hr => ⟨by rw [partsE, if_neg h1, if_neg h2, if_neg h3, if_pos (.inr h5)], hr.mod⟩
  · refine ⟨[.i (codesE p)], rfl, fun _ w' hr => c_pcodes w' p u v (hr.at_ 1 rfl) (hr.at_ 2 rfl) hs, ?_⟩
    simp only [Tree.goal, X.P, X.ev, V.toI_i, V.toB_b, V.toS_s, V.toR_r, V.toV_v, V.toN_n, V.toL_l, SV.ev, CV.ev, Sc.ev, List.getD_cons_zero, List.getD_cons_succ, List.getElem?_cons_zero, List.getElem?_cons_succ, List.map_cons, List.map_nil, List.length_cons, List.length_nil, List.cons_append, List.nil_append, Nat.zero_add, Nat.reduceAdd]; exact fun w' hr => ⟨by rw [partsE, if_neg h1, if_neg h2, if_neg h3, if_neg (by omega), if_pos h6], hr.mod⟩
  · rw [partsE, if_neg h1, if_neg h2, if_neg h3, if_neg (by omega), if_neg h6]
theorem c_PCheck : Calls Tryd.prog 45 #[pV p u v] w fun e w' => e = .returned (.int .i64 (chkP p)) ∧ Mod [] w w' := by
  refine as_called (run_tree2 (ρ := [.i p.kind, .b p.dup, .b p.retain, .b p.clean, .b p.session, .i p.qos, .i p.id, .i p.keep, .i p.code, .s p.client, .s p.topic, .s p.payload, .v u, .r (p.asks.map encA), .v v, .r (p.codes.map encI)]) sxE_ok Tryd.func45 tree_packet_Check rfl rfl (Rel.start2 (by simp [Ent.holds, Ent.wr, hu, hv, X.ev])) rfl rfl ?_) rfl
  simp only [Tree.goal, X.P, X.ev, V.toI_i, V.toB_b, V.toS_s, V.toR_r, V.toV_v, V.toN_n, V.toL_l, SV.ev, CV.ev, Sc.ev, List.getD_cons_zero, List.getD_cons_succ, List.getElem?_cons_zero, List.getElem?_cons_succ, List.map_cons, List.map_nil, List.length_cons, List.length_nil, List.cons_append, List.nil_append, Nat.zero_add, Nat.reduceAdd]
  intro b
  refine ⟨[.b (kindB p.kind)], rfl, fun _ w' _ => c_pkind w' _, ?_⟩
  simp only [Tree.goal, X.P, X.ev, V.toI_i, V.toB_b, V.toS_s, V.toR_r, V.toV_v, V.toN_n, V.toL_l, SV.ev, CV.ev, Sc.ev, List.getD_cons_zero, List.getD_cons_succ, List.getElem?_cons_zero, List.getElem?_cons_succ, List.map_cons, List.map_nil, List.length_cons, List.length_nil, List.cons_append, List.nil_append, Nat.zero_add, Nat.reduceAdd]
  refine ⟨fun h w' hr => ⟨by rw [chkP, if_neg h], hr.mod⟩, fun h => ?_⟩
  have h := Classical.not_not.1 h
  rw [chkP, if_pos h]
  intro w1 hr
  refine (c_pbare w1 p u v (hr.at_ 1 rfl) (hr.at_ 2 rfl)).mono ?_
  rintro e w2 ⟨x, y, rfl, rx, ry, ex, ey, m2⟩
  generalize hq : bareP p = q at rx ry ex ey ⊢
  have hsq : SmallP q := by rw [← hq]; exact hs.bare
  refine ⟨[.i q.kind, .b q.dup, .b q.retain, .b q.clean, .b q.session, .i q.qos, .i q.id, .i q.keep, .i q.code, .s q.client, .s q.topic, .s q.payload, .v x, .r (q.asks.map encA), .v y, .r (q.codes.map encI)], rfl, rfl, m2, List.forall_mem_nil _, List.forall_mem_cons.2 ⟨⟨rx, fun k hk => .inr (.inl ⟨rfl, ?_⟩)⟩, List.forall_mem_cons.2 ⟨⟨ry, fun k hk => .inr (.inl ⟨rfl, ?_⟩)⟩, List.forall_mem_nil _⟩⟩, apart_ro2 (by simp [Ent.wr]), ?_⟩
  · rcases ex with ⟨rfl, e1⟩ | e1
    · refine ⟨_, List.mem_cons_of_mem _ (List.mem_cons_self ..), rfl, ?_⟩
      simp only [Ent.fp, Tree.goal, X.P, X.ev, V.toI_i, V.toB_b, V.toS_s, V.toR_r, V.toV_v, V.toN_n, V.toL_l, SV.ev, CV.ev, Sc.ev, List.getD_cons_zero, List.getD_cons_succ, List.getElem?_cons_zero, List.getElem?_cons_succ, List.map_cons, List.map_nil, List.length_cons, List.length_nil, List.cons_append, List.nil_append, Nat.zero_add, Nat.reduceAdd] at hk ⊢
      rw [e1] at hk; exact hk
    · simp only [Ent.fp, Tree.goal, X.P, X.ev, V.toI_i, V.toB_b, V.toS_s, V.toR_r, V.toV_v, V.toN_n, V.toL_l, SV.ev, CV.ev, Sc.ev, List.getD_cons_zero, List.getD_cons_succ, List.getElem?_cons_zero, List.getElem?_cons_succ, List.map_cons, List.map_nil, List.length_cons, List.length_nil, List.cons_append, List.nil_append, Nat.zero_add, Nat.reduceAdd, e1] at hk; exact absurd rfl hk.1
  · rcases ey with ⟨rfl, e1⟩ | e1
    · refine ⟨_, List.mem_cons_of_mem _ (List.mem_cons_of_mem _ (List.mem_cons_self ..)), rfl, ?_⟩
      simp only [Ent.fp, Tree.goal, X.P, X.ev, V.toI_i, V.toB_b, V.toS_s, V.toR_r, V.toV_v, V.toN_n, V.toL_l, SV.ev, CV.ev, Sc.ev, List.getD_cons_zero, List.getD_cons_succ, List.getElem?_cons_zero, List.getElem?_cons_succ, List.map_cons, List.map_nil, List.length_cons, List.length_nil, List.cons_append, List.nil_append, Nat.zero_add, Nat.reduceAdd] at hk ⊢
      rw [e1] at hk; exact hk
    · simp only [Ent.fp, Tree.goal, X.P, X.ev, V.toI_i, V.toB_b, V.toS_s, V.toR_r, V.toV_v, V.toN_n, V.toL_l, SV.ev, CV.ev, Sc.ev, List.getD_cons_zero, List.getD_cons_succ, List.getElem?_cons_zero, List.getElem?_cons_succ, List.map_cons, List.map_nil, List.length_cons, List.length_nil, List.cons_append, List.nil_append, Nat.zero_add, Nat.reduceAdd, e1] at hk; exact absurd rfl hk.1
  simp only [Tree.goal, X.P, X.ev, V.toI_i, V.toB_b, V.toS_s, V.toR_r, V.toV_v, V.toN_n, V.toL_l, SV.ev, CV.ev, Sc.ev, List.getD_cons_zero, List.getD_cons_succ, List.getElem?_cons_zero, List.getElem?_cons_succ, List.map_cons, List.map_nil, List.length_cons, List.length_nil, List.cons_append, List.nil_append, Nat.zero_add, Nat.reduceAdd]
  refine ⟨[.b (emptyB q)], rfl, fun _ w' hr => c_pempty w' q x y (hr.at_ 0 rfl) (hr.at_ 1 rfl) hsq, ?_⟩
  simp only [Tree.goal, X.P, X.ev, V.toI_i, V.toB_b, V.toS_s, V.toR_r, V.toV_v, V.toN_n, V.toL_l, SV.ev, CV.ev, Sc.ev, List.getD_cons_zero, List.getD_cons_succ, List.getElem?_cons_zero, List.getElem?_cons_succ, List.map_cons, List.map_nil, List.length_cons, List.length_nil, List.cons_append, List.nil_append, Nat.zero_add, Nat.reduceAdd]
  refine ⟨fun h w' hr => ⟨by rw [if_neg h], hr.mod⟩, fun h => ?_⟩
  have h := Classical.not_not.1 h
  rw [if_pos h]
  refine ⟨fun h1 => ?_, fun h1 => ?_⟩
  · refine ⟨[.i (pubE p)], rfl, fun _ w' hr => c_ppublish w' p u v (hr.at_ 3 rfl) (hr.at_ 4 rfl) hs, ?_⟩
    simp only [Tree.goal, X.P, X.ev, V.toI_i, V.toB_b, V.toS_s, V.toR_r, V.toV_v, V.toN_n, V.toL_l, SV.ev, CV.ev, Sc.ev, List.getD_cons_zero, List.getD_cons_succ, List.getElem?_cons_zero, List.getElem?_cons_succ, List.map_cons, List.map_nil, List.length_cons, List.length_nil, List.cons_append, List.nil_append, Nat.zero_add, Nat.reduceAdd]
    refine ⟨fun h2 w' hr => ⟨by rw [if_pos ⟨h1, h2⟩], hr.mod⟩, fun h2 => ?_⟩
    have hn : ¬ (p.kind = 3 ∧ pubE p ≠ 0) := fun hh => h2 hh.2
    refine ⟨[.b (idB p)], rfl, fun _ w' hr => c_pid w' p u v (hr.at_ 3 rfl) (hr.at_ 4 rfl), ?_⟩; simp only [Tree.goal, X.P, X.ev, V.toI_i, V.toB_b, V.toS_s, V.toR_r, V.toV_v, V.toN_n, V.toL_l, SV.ev, CV.ev, Sc.ev, List.getD_cons_zero, List.getD_cons_succ, List.getElem?_cons_zero, List.getElem?_cons_succ, List.map_cons, List.map_nil, List.length_cons, List.length_nil, List.cons_append, List.nil_append, Nat.zero_add, Nat.reduceAdd]; refine ⟨fun h3 => ⟨fun h4 w' hr => ⟨?_, hr.mod⟩, fun h4 => ?_⟩, fun h3 => ?_⟩; (· rw [if_neg (by assumption), if_pos ⟨h3, h4⟩]); (· rw [if_neg (by assumption), if_neg (fun hh => h4 hh.2)]; refine ⟨[.i (partsE p)], rfl, fun _ w' hr => c_pparts w' p u v (hr.at_ 3 rfl) (hr.at_ 4 rfl) hs, ?_⟩; simp only [Tree.goal, X.P, X.ev, V.toI_i, V.toB_b, V.toS_s, V.toR_r, V.toV_v, V.toN_n, V.toL_l, SV.ev, CV.ev, Sc.ev, List.getD_cons_zero, List.getD_cons_succ, List.getElem?_cons_zero, List.getElem?_cons_succ, List.map_cons, List.map_nil, List.length_cons, List.length_nil, List.cons_append, List.nil_append, Nat.zero_add, Nat.reduceAdd]; exact fun w' hr => ⟨by trivial, hr.mod⟩); (· rw [if_neg (by assumption), if_neg (fun hh => h3 hh.1)]; refine ⟨[.i (partsE p)], rfl, fun _ w' hr => c_pparts w' p u v (hr.at_ 3 rfl) (hr.at_ 4 rfl) hs, ?_⟩; simp only [Tree.goal, X.P, X.ev, V.toI_i, V.toB_b, V.toS_s, V.toR_r, V.toV_v, V.toN_n, V.toL_l, SV.ev, CV.ev, Sc.ev, List.getD_cons_zero, List.getD_cons_succ, List.getElem?_cons_zero, List.getElem?_cons_succ, List.map_cons, List.map_nil, List.length_cons, List.length_nil, List.cons_append, List.nil_append, Nat.zero_add, Nat.reduceAdd]; exact fun w' hr => ⟨by trivial, hr.mod⟩)
  · have hn : ¬ (p.kind = 3 ∧ pubE p ≠ 0) := fun hh => h1 hh.1
    refine ⟨[.b (idB p)], rfl, fun _ w' hr => c_pid w' p u v (hr.at_ 3 rfl) (hr.at_ 4 rfl), ?_⟩; simp only [Tree.goal, X.P, X.ev, V.toI_i, V.toB_b, V.toS_s, V.toR_r, V.toV_v, V.toN_n, V.toL_l, SV.ev, CV.ev, Sc.ev, List.getD_cons_zero, List.getD_cons_succ, List.getElem?_cons_zero, List.getElem?_cons_succ, List.map_cons, List.map_nil, List.length_cons, List.length_nil, List.cons_append, List.nil_append, Nat.zero_add, Nat.reduceAdd]; refine ⟨fun h3 => ⟨fun h4 w' hr => ⟨?_, hr.mod⟩, fun h4 => ?_⟩, fun h3 => ?_⟩; (· rw [if_neg (by assumption), if_pos ⟨h3, h4⟩]); (· rw [if_neg (by assumption), if_neg (fun hh => h4 hh.2)]; refine ⟨[.i (partsE p)], rfl, fun _ w' hr => c_pparts w' p u v (hr.at_ 3 rfl) (hr.at_ 4 rfl) hs, ?_⟩; simp only [Tree.goal, X.P, X.ev, V.toI_i, V.toB_b, V.toS_s, V.toR_r, V.toV_v, V.toN_n, V.toL_l, SV.ev, CV.ev, Sc.ev, List.getD_cons_zero, List.getD_cons_succ, List.getElem?_cons_zero, List.getElem?_cons_succ, List.map_cons, List.map_nil, List.length_cons, List.length_nil, List.cons_append, List.nil_append, Nat.zero_add, Nat.reduceAdd]; exact fun w' hr => ⟨by trivial, hr.mod⟩); (· rw [if_neg (by assumption), if_neg (fun hh => h3 hh.1)]; refine ⟨[.i (partsE p)], rfl, fun _ w' hr => c_pparts w' p u v (hr.at_ 3 rfl) (hr.at_ 4 rfl) hs, ?_⟩; simp only [Tree.goal, X.P, X.ev, V.toI_i, V.toB_b, V.toS_s, V.toR_r, V.toV_v, V.toN_n, V.toL_l, SV.ev, CV.ev, Sc.ev, List.getD_cons_zero, List.getD_cons_succ, List.getElem?_cons_zero, List.getElem?_cons_succ, List.map_cons, List.map_nil, List.length_cons, List.length_nil, List.cons_append, List.nil_append, Nat.zero_add, Nat.reduceAdd]; exact fun w' hr => ⟨by trivial, hr.mod⟩)
end
end Go.Proofs.YtliedecinehijaaDoor

/-
  strings.Builder in a struct's first place: what its methods do (turned from the kit's worked proofs of a Builder that stands alone). By an AI agent.
-/
set_option linter.unusedSimpArgs false
set_option linter.unusedVariables false
namespace Go.Proofs.YtliedecinehijaaDoor
open Go.Sx Go.RowKit

theorem bldSize : (Tryd.prog.info? 123).map (·.size) = some 2 := by kernel_rfl
theorem bldByte : (Tryd.prog.info? 5).map (fun i => (i.zero, i.size, i.bytes)) = some (some (.int .u8 0), 1, 1) := by kernel_rfl
/-- A struct type that begins with a Builder. -/
noncomputable def bldIn (ty n : Nat) : Bool := liesAt Tryd.prog Tryd.prog.depth ty (n / Tryd.prog.cellsOf ty) 0 123 1

set_option maxHeartbeats 1000000 in
set_option maxRecDepth 100000 in
theorem bld_copyCheck_used (b : Nat) (w : World) (h0 : w.cell? ⟨b, 0, none⟩ = some (.pointer (some ⟨b, 0, none⟩))) :
    Calls Tryd.prog 158 #[.pointer (some ⟨b, 0, none⟩)] w fun e w' => e = .returned (.tuple #[]) ∧ w' = w := by
  obtain ⟨j, hj, _⟩ := Option.map_eq_some_iff.1 bldSize
  go_enter Tryd.func158, Tryd.ntmps158
  go_wp2
  rw [Lib.run_neq_ptr_same w _ Tryd.underlying121 hj]
  go_wp2
  go_end0
  exact ⟨rfl, rfl⟩
set_option maxHeartbeats 1000000 in
set_option maxRecDepth 100000 in
theorem bld_copyCheck_fresh (ty n b : Nat) (w : World) (hT : bldIn ty n = true) (hn : 0 < n) (h0 : w.cell? ⟨b, 0, none⟩ = some (.pointer none)) (hsh : w.shape? b = some (ty, n)) (hfz : w.frozen? ⟨b, 0, none⟩ = false) :
    Calls Tryd.prog 158 #[.pointer (some ⟨b, 0, none⟩)] w fun e w' => e = .returned (.tuple #[]) ∧ w' = w.setCell ⟨b, 0, none⟩ (.pointer (some ⟨b, 0, none⟩)) := by
  obtain ⟨j, hj, hjs⟩ := Option.map_eq_some_iff.1 bldSize
  go_enter Tryd.func158, Tryd.ntmps158
  go_wp2
  rw [Lib.run_to_unsafe w ⟨b, 0, none⟩ Tryd.underlying121 Tryd.underlying204 hj (by rw [hjs]; decide) hsh hn]
  simp only [Result.andThen]
  rw [Oper.upon_value]
  go_wp2
  rw [run_callFunc_extern Tryd.func183 (by kernel_rfl) (by kernel_rfl) (by kernel_rfl) (e := Extern.AbiNoEscape.same) (by kernel_rfl)]
  rw [Lib.run_noEscape]
  simp only [Result.andThen]
  rw [Oper.upon_value]
  go_wp2
  rw [Lib.run_from_unsafe w ⟨b, 0, none⟩ Tryd.underlying204 Tryd.underlying121 hj hsh hT]
  simp only [Result.andThen]
  rw [Oper.upon_value]
  go_wp2
  go_end0
  exact ⟨rfl, rfl⟩

theorem bld_info : ∃ i0, Tryd.prog.info? 5 = some i0 ∧ i0.zero = some (.int .u8 0) ∧ i0.size = 1 ∧ i0.bytes = 1 := by
  obtain ⟨i0, hi, h⟩ := Option.map_eq_some_iff.1 bldByte
  simp only [Prod.mk.injEq] at h
  exact ⟨i0, hi, h.1, h.2.1, h.2.2⟩
theorem bld_cell {w : World} {b ty : Nat} {cs : List Value} (h : w.heap[b]? = some (.cells cs.toArray ty (0, 0))) (j : Nat) : w.cell? ⟨b, j, none⟩ = cs[j]? := by
  rw [Lib.cell_of_heap h]; simp
theorem bld_rows (s : List UInt8) : (s.map fun b => [Value.int .u8 (b.toNat : Int)]).flatten = Lib.strCells ⟨s.toArray⟩ := by
  simp [Lib.strCells]
  induction s <;> simp_all
theorem bld_rowOk (s : List UInt8) : ∀ r ∈ s.map fun b => [Value.int .u8 (b.toNat : Int)], rowOk [.int .u8] r := by
  intro r hr
  obtain ⟨b, -, rfl⟩ := List.mem_map.1 hr
  exact ⟨⟨_, rfl⟩, trivial⟩

section
variable {P : Program} {w : World}
/-- 'append' of a text onto bytes that the call owns: and where the new ones lie. -/
theorem append_str (t u ty e : TypeId) (i : TypeInfo) (ht : P.underlying t = some (.slice e)) (hu : P.underlying u = some .string) (hi : P.info? e = some i) (hz : i.zero = some (.int .u8 0))
    (hsize : i.size = 1) (hby : i.bytes = 1) (v : Value) (n : Nat) (xs : List Value) (hown : w.ownsRow 0 e 1 v n xs) (s : ByteArray) (hb : n + s.size ≤ 140737488355328) :
    ∃ v' w', (Builtin.append_ #[t, u] ty #[v, .string s]).run P w = .ok v' w' ∧ w'.ownsRow 0 e 1 v' (n + s.size) (xs ++ Lib.strCells s) ∧ w.grownBy w' v.ownBlock ∧
      ∀ k, v'.ownBlock = some k → v.ownBlock = some k ∨ w.heap.size ≤ k := by
  have h63 : n + s.size ≤ maxLen := by unfold maxLen; omega
  obtain ⟨v', w', h1, h2, h3, -⟩ := Lib.run_append_own_string (P := P) (w := w) 0 t u ty e i ht hu hi hz hsize hby v n xs hown s h63 hb (Nat.zero_le _)
  refine ⟨v', w', h1, h2, h3, fun k hk => ?_⟩
  have hxl : xs.length = n := by simpa using hown.1
  rcases hown.2 with ⟨rfl, rfl⟩ | ⟨g, cap, cur, rfl, hbg, hg, hnc, hcm, hcs, htake⟩
  · have hx : xs = [] := List.eq_nil_of_length_eq_zero hxl
    subst hx
    obtain ⟨v2, w2, k1, k2, k3, -⟩ := Lib.run_append_own_string (P := P) (w := w) w.heap.size t u ty e i ht hu hi hz hsize hby (.slice none 0 0) 0 [] (World.ownsRow_nil _ _ _ _) s h63 hb (Nat.le_refl _)
    rw [h1] at k1
    simp only [Result.ok.injEq] at k1
    obtain ⟨rfl, rfl⟩ := k1
    exact .inr (k2.lt k hk).1
  · by_cases hroom : n + s.size ≤ cap
    · have hr := Lib.run_append_room_string (P := P) w t u ty e i ht hu hi hsize g n cap cur hg s hroom (by unfold maxLen at h63; omega)
      rw [h1] at hr
      simp only [Result.ok.injEq] at hr
      obtain ⟨rfl, -⟩ := hr
      exact .inl hk
    · have holds : ∀ j u, xs[j]? = some u → w.cell? ((⟨g, 0, none⟩ : Addr).add j) = some u := hown.cells (g := g) rfl
      have hr := Lib.run_append_grow_string (P := P) w t u ty e i (.int .u8 0) ht hu hi hz ⟨g, 0, none⟩ n cap xs (by rw [hsize]; simpa using hxl) holds s (by omega) (by unfold maxLen at h63; omega) (by rw [hby]; exact growslice_fits (by omega) (by omega))
      rw [h1] at hr
      simp only [Result.ok.injEq] at hr
      obtain ⟨rfl, -⟩ := hr
      simp [Value.ownBlock] at hk
      exact .inr (by omega)
theorem wpList_append_str {ops : Array Oper} {rest : List Oper} {o : Oper} {a : Act} {Q : Exit → Act → World → Prop} (hgd : o.guard = none) (sl x : Operand) (t u : TypeId)
    (ho : o.op = .call { callee := .builtin .append, args := #[sl, x], argTypes := #[t, u] })
    (e : TypeId) (i : TypeInfo) (ht : P.underlying t = some (.slice e)) (hu : P.underlying u = some .string) (hi : P.info? e = some i) (hz : i.zero = some (.int .u8 0))
    (hsize : i.size = 1) (hby : i.bytes = 1) (v : Value) (n : Nat) (xs : List Value) (hs : a.eval sl = v) (hown : w.ownsRow 0 e 1 v n xs) (s : ByteArray) (hx : a.eval x = .string s) (hb : n + s.size ≤ 140737488355328)
    (h : ∀ v' w', w'.ownsRow 0 e 1 v' (n + s.size) (xs ++ Lib.strCells s) → w.grownBy w' v.ownBlock → (∀ k, v'.ownBlock = some k → v.ownBlock = some k ∨ w.heap.size ≤ k) → wpList P ops Q rest (a.put o.dst v') w') :
    wpList P ops Q (o :: rest) a w := by
  refine wpList_plain hgd fun K hK => ?_
  obtain ⟨v', w', hr, h2, h3, h4⟩ := append_str (P := P) (w := w) t u o.type e i ht hu hi hz hsize hby v n xs hown s hb
  unfold Oper.wp execOp
  simp only [ho, resolve, invoke, builtin, Sem.run_bind, Sem.run_pure, Result.andThen_ok, List.map_toArray, List.map_cons, List.map_nil, hs, hx, hr]
  exact hK _ _ (h v' w' h2 h3 h4)
end

set_option maxHeartbeats 1000000 in
set_option maxRecDepth 100000 in
theorem bld_WriteString (ty b : Nat) (p v : Value) (rest : List Value) (rows : List (List Value)) (s : List UInt8) (w : World) (hT : bldIn ty (rest.length + 2) = true) (hty : ty ≠ 5)
    (hb : w.heap[b]? = some (.cells (p :: v :: rest).toArray ty (0, 0))) (hp : p = .pointer none ∨ p = .pointer (some ⟨b, 0, none⟩)) (hown : owns w v 5 [.int .u8] rows)
    (hlen : rows.length + s.length ≤ 140737488355328) :
    Calls Tryd.prog 135 #[.pointer (some ⟨b, 0, none⟩), .string ⟨s.toArray⟩] w fun e w' => e = .returned (.tuple #[.int .i64 s.length, .nilIface]) ∧
      ∃ v', w'.heap[b]? = some (.cells (.pointer (some ⟨b, 0, none⟩) :: v' :: rest).toArray ty (0, 0)) ∧ owns w' v' 5 [.int .u8] (rows ++ s.map fun b => [Value.int .u8 (b.toNat : Int)]) ∧
        Mod (b :: v.ownBlock.toList) w w' ∧ ∀ k, blockOf v' k → w.heap.size ≤ k ∨ k ∈ v.ownBlock.toList := by
  obtain ⟨i0, hi, hz0, hz1, hz2⟩ := bld_info
  have hne : ∀ k, v.ownBlock = some k → k ≠ b := fun k hk e => by
    subst e
    rcases hown.2.2 with ⟨hv, -⟩ | ⟨g, cap, cur, hv, -, hg, -⟩
    · rw [hv] at hk; cases hk
    · rw [hv] at hk
      simp [Value.ownBlock] at hk; subst hk
      rw [hb] at hg
      simp at hg; exact hty hg.2
  have hlt : b < w.heap.size := (Array.getElem?_eq_some_iff.1 hb).1
  have hchk : Calls Tryd.prog 158 #[.pointer (some ⟨b, 0, none⟩)] w fun e w' => e = .returned (.tuple #[]) ∧ w'.heap[b]? = some (.cells (.pointer (some ⟨b, 0, none⟩) :: v :: rest).toArray ty (0, 0)) ∧ Mod [b] w w' := by
    rcases hp with rfl | rfl
    · refine (bld_copyCheck_fresh ty (rest.length + 2) b w hT (by omega) (bld_cell hb 0) (by simp [World.shape?, hb]) (Lib.frozen_of_heap hb 0)).mono ?_
      rintro e w' ⟨rfl, rfl⟩
      refine ⟨rfl, ?_, Mod.setCell _ _ _ (.inl (by simp))⟩
      simp [World.setCell, Array.getElem?_modify, hb]
    · refine (bld_copyCheck_used b w (bld_cell hb 0)).mono ?_
      rintro e w' ⟨rfl, rfl⟩
      exact ⟨rfl, hb, Mod.refl _ _⟩
  have e240 : ∀ args w, (callFunc 158 args).run Tryd.prog w = .ok (.enter 158 args) w := enters_of Tryd.func158 (by kernel_rfl) rfl
  go_enter Tryd.func135, Tryd.ntmps135
  go_wp2_with (go_at_fn 158; refine hchk.mono ?_)
  rintro e w1 ⟨rfl, hbk, hm1⟩
  have hown1 : owns w1 v 5 [.int .u8] rows := owns.stable hown fun k hk => hm1.block k (hown.2.lt k hk).2 (by simpa using hne k hk)
  have c0 : w1.cell? ⟨b, 0, none⟩ = some (.pointer (some ⟨b, 0, none⟩)) := bld_cell hbk 0
  have c1 : w1.cell? ⟨b, 1, none⟩ = some v := bld_cell hbk 1
  have ho1 := hown1.2
  have hfl : rows.flatten.length = rows.length := by have := ho1.1; simpa using this
  go_wp2_with (at_builtin; refine wpList_append_str rfl _ _ 107 9 rfl 5 i0 Tryd.underlying107 Tryd.underlying9 hi hz0 hz1 hz2 _ _ _ rfl ho1 ⟨s.toArray⟩ rfl ?c4 ?_)
  case c4 => simp only [ByteArray.size]; simp; omega
  intro v' w2 hown' hgrow hloc
  have hlt1 : b < w1.heap.size := Nat.lt_of_lt_of_le hlt hm1.size
  have hb2 : w2.heap[b]? = some (.cells (.pointer (some ⟨b, 0, none⟩) :: v :: rest).toArray ty (0, 0)) := by
    rw [hgrow.block b hlt1 (fun e => hne b e.symm rfl)]
    exact hbk
  have d0 : w2.cell? ⟨b, 0, none⟩ = some (.pointer (some ⟨b, 0, none⟩)) := bld_cell hb2 0
  have d1 : w2.cell? ⟨b, 1, none⟩ = some v := bld_cell hb2 1
  have f1 : w2.frozen? ⟨b, 1, none⟩ = false := Lib.frozen_of_heap hb2 1
  have hnl : ((rows ++ s.map fun b => [Value.int .u8 (b.toNat : Int)]).length) = rows.length + s.length := by simp
  have hfl2 : (rows ++ s.map fun b => [Value.int .u8 (b.toNat : Int)]).flatten = rows.flatten ++ Lib.strCells ⟨s.toArray⟩ := by rw [List.flatten_append, bld_rows]
  have hsz : (⟨s.toArray⟩ : ByteArray).size = s.length := by simp [ByteArray.size]
  obtain ⟨ao, n', cap, rfl⟩ : ∃ ao n' cap, v' = .slice ao n' cap := by
    rcases hown'.2 with ⟨hv, _⟩ | ⟨g, cap, cur, hv, _⟩
    · exact ⟨_, _, _, hv⟩
    · exact ⟨_, _, _, hv⟩
  have hvb : ∀ k, (Value.slice ao n' cap).ownBlock = some k → k ≠ b := fun k hk e => by
    subst e
    rcases hloc k hk with h | h
    · exact hne k h rfl
    · omega
  go_wp2
  go_ret2
  have hs3 : (w2.setCell ⟨b, 1, none⟩ (.slice ao n' cap)).heap[b]? = some (.cells (.pointer (some ⟨b, 0, none⟩) :: .slice ao n' cap :: rest).toArray ty (0, 0)) := by
    have hlt2 : b < w2.heap.size := (Array.getElem?_eq_some_iff.1 hb2).1
    have e := (Array.getElem?_eq_some_iff.1 hb2).2
    simp [World.setCell, Array.getElem?_modify, hb2]
  refine ⟨rfl, .slice ao n' cap, hs3, ?_, ?_, ?_⟩
  · refine owns.stable (w := w2) ⟨fun r hr => ?_, ?_⟩ fun k hk => (Mod.setCell (fp := [b]) w2 ⟨b, 1, none⟩ (.slice ao n' cap) (.inl (by simp))).block k (hown'.lt k hk).2 (by simpa using hvb k hk)
    · rcases List.mem_append.1 hr with h | h
      · exact hown.1 r h
      · exact bld_rowOk s r h
    · rw [hnl, hfl2, ← hsz]; exact hown'
  · refine ((hm1.mono (fp' := b :: v.ownBlock.toList) (by simp)).trans (fp' := b :: v.ownBlock.toList) (Mod.of_grown hgrow (fun k hk => .inl (by simp [hk]))) (fun k hk => .inl hk)).trans (fp' := [b]) (Mod.setCell _ _ _ (.inl (by simp))) (by simp)
  · intro k hk
    rcases hloc k hk with h | h
    · exact .inr (by simp [h])
    · exact .inl (Nat.le_trans hm1.size h)

set_option maxHeartbeats 1000000 in
set_option maxRecDepth 100000 in
theorem bld_Len (ty b : Nat) (p v : Value) (rest : List Value) (rows : List (List Value)) (w : World)
    (hb : w.heap[b]? = some (.cells (p :: v :: rest).toArray ty (0, 0))) (hown : owns w v 5 [.int .u8] rows) :
    Calls Tryd.prog 86 #[.pointer (some ⟨b, 0, none⟩)] w fun e w' => e = .returned (.int .i64 rows.length) ∧ w' = w := by
  obtain ⟨ao, cap, rfl⟩ : ∃ ao cap, v = .slice ao rows.length cap := by
    rcases hown.2.2 with ⟨hv, h0⟩ | ⟨g, cap, cur, hv, _⟩
    · exact ⟨none, 0, by rw [hv, h0]⟩
    · exact ⟨_, _, hv⟩
  have c1 : w.cell? ⟨b, 1, none⟩ = some (.slice ao rows.length cap) := bld_cell hb 1
  go_enter Tryd.func86, Tryd.ntmps86
  go_wp2
  go_ret
  exact ⟨rfl, rfl⟩

theorem mod_freeze (fp : List Nat) (w : World) (g n : Nat) (h : g ∈ fp) : Mod fp w (w.freeze ⟨g, 0, none⟩ n) := by
  unfold World.freeze
  split
  · exact Mod.refl _ _
  · refine ⟨rfl, rfl, rfl, by simp, fun k hk hn => ?_⟩
    have : k ≠ g := fun e => hn (e ▸ h)
    simp [Array.getElem?_modify, Ne.symm this]
theorem bld_mixed : Tryd.prog.follows .mixedOrders = true := by kernel_rfl
theorem bld_bytes (s : List UInt8) : (s.map fun b => [Value.int .u8 (b.toNat : Int)]).flatten = Lib.byteCells s := by
  rw [bld_rows]; simp [Lib.strCells, Lib.byteCells]
theorem bld_cellsByte : Tryd.prog.cellsOf 5 = 1 := by kernel_rfl

set_option maxHeartbeats 2000000 in
set_option maxRecDepth 100000 in
theorem bld_String (ty b : Nat) (p v : Value) (rest : List Value) (l : List UInt8) (w : World)
    (hb : w.heap[b]? = some (.cells (p :: v :: rest).toArray ty (0, 0))) (hown0 : owns w v 5 [.int .u8] (l.map fun b => [Value.int .u8 (b.toNat : Int)])) :
    Calls Tryd.prog 87 #[.pointer (some ⟨b, 0, none⟩)] w fun e w' => e = .returned (.string ⟨l.toArray⟩) ∧ Mod v.ownBlock.toList w w' := by
  have hown := hown0.2
  rw [bld_bytes, List.length_map] at hown
  have mixed := bld_mixed
  have hlt : b < w.heap.size := (Array.getElem?_eq_some_iff.1 hb).1
  have hUS : ∀ W q, (Builtin.unsafeString_ #[166, 3] 9 #[.pointer q, .int .i64 0]).run Tryd.prog W = .ok (.string .empty) W := fun W q => Lib.run_unsafeString_none W _ _ _ q
  rcases hown.2 with ⟨rfl, hl0⟩ | ⟨g, cap, cur, rfl, hbg, hg, hnc, hcm, hcs, htake⟩
  · have hl : l = [] := List.eq_nil_of_length_eq_zero hl0
    subst hl
    have c1 : w.drew.cell? ⟨b, 1, none⟩ = some (.slice none 0 0) := bld_cell (w := w.drew) hb 1
    have hSD : (Builtin.unsafeSliceData_ #[107] 166 #[.slice none 0 0]).run Tryd.prog w.drew = .ok (.pointer none) w.drew := rfl
    go_enter Tryd.func87, Tryd.ntmps87
    go_wp2
    go_region_o
    all_goals (go_wp2; go_ret; exact ⟨rfl, Mod.drew _ w⟩)
  · by_cases hl0 : l = []
    · subst hl0
      by_cases hc0 : cap = 0
      · subst hc0
        have c1 : w.drew.cell? ⟨b, 1, none⟩ = some (.slice (some ⟨g, 0, none⟩) 0 0) := bld_cell (w := w.drew) hb 1
        have hSD : (Builtin.unsafeSliceData_ #[107] 166 #[.slice (some ⟨g, 0, none⟩) 0 0]).run Tryd.prog w.drew = .ok (.pointer (some ⟨w.drew.heap.size, 0, none⟩)) (w.drew.alloc (.view ⟨g, 0, none⟩ 5)) :=
          Lib.run_unsafeSliceData_zero w.drew _ _ 5 Tryd.underlying166 ⟨g, 0, none⟩ 0 (5, cur.size) (by have hg' : w.drew.heap[g]? = some (.cells cur 5 (0, 0)) := hg; simp [World.shape?, hg'])
        have c2 : (w.drew.alloc (.view ⟨g, 0, none⟩ 5)).cell? ⟨b, 1, none⟩ = some (.slice (some ⟨g, 0, none⟩) 0 0) := by
          have : (w.drew.alloc (.view ⟨g, 0, none⟩ 5)).heap[b]? = _ := (Lib.alloc_old w.drew _ b hlt).trans hb
          exact bld_cell this 1
        have c3 : (w.alloc (.view ⟨g, 0, none⟩ 5)).drew.cell? ⟨b, 1, none⟩ = some (.slice (some ⟨g, 0, none⟩) 0 0) := c2
        have c0 : w.cell? ⟨b, 1, none⟩ = some (.slice (some ⟨g, 0, none⟩) 0 0) := c1
        go_enter Tryd.func87, Tryd.ntmps87
        go_wp2
        go_region_o
        all_goals (go_wp2; go_ret; exact ⟨rfl, (Mod.drew _ w).trans (Mod.alloc _ _ _) (fun k hk => .inl hk)⟩)
      · have c1 : w.drew.cell? ⟨b, 1, none⟩ = some (.slice (some ⟨g, 0, none⟩) 0 cap) := bld_cell (w := w.drew) hb 1
        have hSD : (Builtin.unsafeSliceData_ #[107] 166 #[.slice (some ⟨g, 0, none⟩) 0 cap]).run Tryd.prog w.drew = .ok (.pointer (some ⟨g, 0, none⟩)) w.drew :=
          Lib.run_unsafeSliceData_row _ _ _ _ _ _ hc0
        clear hc0
        go_enter Tryd.func87, Tryd.ntmps87
        go_wp2
        go_region_o
        all_goals (go_wp2; go_ret; exact ⟨rfl, Mod.drew _ w⟩)
    · have hl1 : l.length ≠ 0 := by simpa using hl0
      have c1 : w.drew.cell? ⟨b, 1, none⟩ = some (.slice (some ⟨g, 0, none⟩) l.length cap) := bld_cell (w := w.drew) hb 1
      have hSD : (Builtin.unsafeSliceData_ #[107] 166 #[.slice (some ⟨g, 0, none⟩) l.length cap]).run Tryd.prog w.drew = .ok (.pointer (some ⟨g, 0, none⟩)) w.drew :=
        Lib.run_unsafeSliceData_row _ _ _ _ _ _ (by omega)
      have hUS' : (Builtin.unsafeString_ #[166, 3] 9 #[.pointer (some ⟨g, 0, none⟩), .int .i64 l.length]).run Tryd.prog w.drew = .ok (.string ⟨l.toArray⟩) (w.drew.freeze ⟨g, 0, none⟩ l.length) := by
        refine Lib.run_unsafeString_row w.drew 166 3 9 5 Tryd.underlying166 bld_cellsByte g cur.size (by have hg' : w.drew.heap[g]? = some (.cells cur 5 (0, 0)) := hg; simp [World.shape?, hg']) l hl0 (by simp at hcs; omega) (by unfold maxLen at hcm; omega) ?_
        intro j x hx
        have := hown.cells (g := g) rfl j (.int .u8 x.toNat) (by simp [Lib.byteCells, hx])
        exact this
      go_enter Tryd.func87, Tryd.ntmps87
      go_wp2
      go_region_o
      all_goals (go_wp2; go_ret; exact ⟨rfl, (Mod.drew _ w).trans (mod_freeze _ _ g _ (by simp [Value.ownBlock])) (fun k hk => .inl hk)⟩)
end Go.Proofs.YtliedecinehijaaDoor

/-
  Packets: their bytes, walked: the writer. By an AI agent.
-/
set_option linter.unusedSimpArgs false
set_option linter.unusedVariables false
namespace Go.Proofs.YtliedecinehijaaDoor
open Go.Sx

theorem bld_writer : bldIn 125 2 = true := by kernel_rfl
def byW (l : List UInt8) : List (List Value) := l.map fun b => [Value.int .u8 (b.toNat : Int)]
theorem byW_app (a b : List UInt8) : byW (a ++ b) = byW a ++ byW b := List.map_append
def okp (p : Value) (b : Nat) : Prop := p = .pointer none ∨ p = .pointer (some ⟨b, 0, none⟩)
theorem okp.sc1 {p : Value} {b : Nat} (h : okp p b) : sc1 p = p := by rcases h with rfl | rfl <;> rfl
/-- A writer in block b: its Builder's pointer is p, its bytes are q. -/
structure wrS (w : World) (b : Nat) (p q : Value) (l : List UInt8) : Prop where
  cells : w.heap[b]? = some (.cells [Sx.sc1 p, Sx.sc1 q].toArray 125 (0, 0))
  ok : okp p b
  own : owns w q 5 [.int .u8] (byW l)
theorem wrS.ne {w : World} {b : Nat} {p q : Value} {l : List UInt8} (h : wrS w b p q l) {k : Nat} (hk : blockOf q k) : k ≠ b := fun e => by
  subst e
  have hk : q.ownBlock = some k := hk
  rcases h.own.2.2 with ⟨hv, -⟩ | ⟨g, cap, cur, hv, -, hg, -⟩
  · rw [hv] at hk; cases hk
  · rw [hv] at hk
    simp [Value.ownBlock] at hk; subst hk
    have hb := h.cells
    rw [hb] at hg
    simp at hg
theorem wrS.lt {w : World} {b : Nat} {p q : Value} {l : List UInt8} (h : wrS w b p q l) : b < w.heap.size := (Array.getElem?_eq_some_iff.1 h.cells).1
def fpW (b : Nat) (q : Value) : List Nat := [b] ++ (q.ownBlock.toList ++ [])
/-- What a writer's call does: its bytes are l. -/
def wrote (w w' : World) (b : Nat) (q : Value) (l : List UInt8) : Prop :=
  ∃ p' q', wrS w' b p' q' l ∧ Mod (fpW b q) w w' ∧ ∀ k, blockOf q' k → w.heap.size ≤ k ∨ k ∈ q.ownBlock.toList ++ []
theorem c_pws (w : World) (b : Nat) (p q : Value) (l s : List UInt8) (h : wrS w b p q l) (hl : l.length + s.length ≤ 140737488355328) :
    Calls Tryd.prog 135 #[.pointer (some ⟨b, 0, none⟩), .string ⟨s.toArray⟩] w fun e w' => e = .returned (.tuple #[.int .i64 s.length, .nilIface]) ∧ wrote w w' b q (l ++ s) := by
  have hq : sc1 q = q := h.own.reads.sc1
  have hc := h.cells
  rw [h.ok.sc1, hq] at hc
  refine (bld_WriteString 125 b p q [] _ s w bld_writer (by decide) hc h.ok h.own (by simp only [byW, List.length_map]; omega)).mono ?_
  rintro e w' ⟨rfl, v', c1, c2, c3, c4⟩
  have hv : sc1 v' = v' := c2.reads.sc1
  refine ⟨rfl, .pointer (some ⟨b, 0, none⟩), v', ⟨by rw [hv]; exact c1, .inr rfl, by rw [byW_app]; exact c2⟩, c3.mono fun z hz => .inl ?_, fun k hk => (c4 k hk).imp id fun h => by simpa using h⟩
  simpa [fpW] using hz
theorem rel_w {w : World} {b : Nat} {p q : Value} {l : List UInt8} {ρ : List V} {vb vq vp : Nat} {rds : List Ent} {r : X} (h : wrS w b p q l) (hb : (ρ.getD vb (.i 0)).toN = b) (hq : (ρ.getD vq (.i 0)).toV = q)
    (hp : (ρ.getD vp (.i 0)).toV = p) (hr : (r.ev ρ).toR = byW l) (hd : ∀ e ∈ rds, e.holds ρ w ∧ e.wr = false ∧ ∀ k, e.fp ρ k → k ≠ b ∧ ¬ blockOf q k) :
    Rel ⟨fpW b q, w⟩ ρ (.row vq 5 [.int .u8] r :: .cells vb 125 [.val (.var vp), .val (.var vq)] :: rds) w := by
  refine ⟨Mod.refl _ _, List.forall_mem_cons.2 ⟨?_, List.forall_mem_cons.2 ⟨?_, fun e he => (hd e he).1⟩⟩, List.forall_mem_cons.2 ⟨fun _ k hk => .inr ?_, List.forall_mem_cons.2 ⟨fun _ k hk => .inr ?_, fun e he hw => ?_⟩⟩, List.pairwise_cons.2 ⟨?_, List.pairwise_cons.2 ⟨?_, ?_⟩⟩⟩
  · simp only [Ent.holds]; rw [hq, hr]; exact h.own
  · simp only [Ent.holds, List.map_cons, List.map_nil, Sc.ev, X.ev]; rw [hb, hq, hp]; exact h.cells
  · have hk : blockOf (ρ.getD vq (.i 0)).toV k := hk
    rw [hq] at hk
    have hk : q.ownBlock = some k := hk
    simp [fpW, hk]
  · have hk : k = (ρ.getD vb (.i 0)).toN := hk
    rw [hb] at hk
    simp [fpW, hk]
  · rw [(hd e he).2.1] at hw; cases hw
  · refine List.forall_mem_cons.2 ⟨fun _ k h1 h2 => ?_, fun e he _ k h1 h2 => ?_⟩
    · have h1 : blockOf (ρ.getD vq (.i 0)).toV k := h1
      have h2 : k = (ρ.getD vb (.i 0)).toN := h2
      rw [hq] at h1; rw [hb] at h2
      exact h.ne h1 h2
    · have h1 : blockOf (ρ.getD vq (.i 0)).toV k := h1
      rw [hq] at h1
      exact ((hd e he).2.2 k h2).2 h1
  · intro e he _ k h1 h2
    have h1 : k = (ρ.getD vb (.i 0)).toN := h1
    rw [hb] at h1
    exact ((hd e he).2.2 k h2).1 h1
  · exact apart_ro2 fun e he => (hd e he).2.1
/-- What holds at the end of a writer's call. -/
theorem wrote_of {w w' : World} {b : Nat} {q : Value} {l : List UInt8} {ρ : List V} {hp : List Ent} (hr : Rel ⟨fpW b q, w⟩ ρ hp w') {p' q' : Value} (h : wrS w' b p' q' l) {vq ty : Nat} {ks : List Kd} {r : X} (hm : Ent.row vq ty ks r ∈ hp)
    (hq : (ρ.getD vq (.i 0)).toV = q') : wrote w w' b q l := by
  refine ⟨p', q', h, hr.mod, fun k hk => ?_⟩
  rcases hr.own _ hm rfl k (by show blockOf (ρ.getD vq (.i 0)).toV k; rw [hq]; exact hk) with h1 | h1
  · exact .inl h1
  · rcases List.mem_cons.1 h1 with h2 | h2
    · exact absurd h2 (h.ne hk)
    · exact .inr h2
theorem c_ptext (w : World) (b : Nat) (p q : Value) (l t : List UInt8) (h : wrS w b p q l) (hl : l.length + t.length ≤ 100000000000000) :
    Calls Tryd.prog 132 #[.pointer (some ⟨b, 0, none⟩), .string ⟨t.toArray⟩] w fun e w' => e = .returned (.tuple #[]) ∧ wrote w w' b q (l ++ txtB t) := by
  refine as_called (run_tree2 (ρ := [.n b, .v p, .v q, .r (byW l), .s t]) sxE_ok Tryd.func132 tree_packet_writer_text rfl rfl (rel_w h rfl rfl rfl rfl (by simp)) rfl rfl ?_) rfl
  simp only [Tree.goal, X.P, X.ev, V.toI_i, V.toB_b, V.toS_s, V.toR_r, V.toV_v, V.toN_n, V.toL_l, SV.ev, CV.ev, Sc.ev, List.getD_cons_zero, List.getD_cons_succ, List.getElem?_cons_zero, List.getElem?_cons_succ, List.map_cons, List.map_nil, List.length_cons, List.length_nil, List.cons_append, List.nil_append, Nat.zero_add, Nat.reduceAdd]
  refine ⟨[.s (txtB t)], rfl, fun _ w' _ => c_TextBytes w' t (by omega), ?_⟩
  simp only [Tree.goal, X.P, X.ev, V.toI_i, V.toB_b, V.toS_s, V.toR_r, V.toV_v, V.toN_n, V.toL_l, SV.ev, CV.ev, Sc.ev, List.getD_cons_zero, List.getD_cons_succ, List.getElem?_cons_zero, List.getElem?_cons_succ, List.map_cons, List.map_nil, List.length_cons, List.length_nil, List.cons_append, List.nil_append, Nat.zero_add, Nat.reduceAdd]
  intro w1 hr
  refine (c_pws w1 b p q l (txtB t) ⟨hr.at_ 1 rfl, h.ok, hr.at_ 0 rfl⟩ (by rw [txtB_len]; omega)).mono ?_
  rintro e w2 ⟨rfl, p1, q1, s1, m1, f1⟩
  refine ⟨[.i _, .v .nilIface, .a Asrt.tt, .v p1, .v q1, .r (byW _)], rfl, rfl, m1, List.forall_mem_cons.2 ⟨s1.cells, List.forall_mem_nil _⟩, List.forall_mem_cons.2 ⟨⟨by simp only [Ent.holds, Tree.goal, X.P, X.ev, V.toI_i, V.toB_b, V.toS_s, V.toR_r, V.toV_v, V.toN_n, V.toL_l, SV.ev, CV.ev, Sc.ev, List.getD_cons_zero, List.getD_cons_succ, List.getElem?_cons_zero, List.getElem?_cons_succ, List.map_cons, List.map_nil, List.length_cons, List.length_nil, List.cons_append, List.nil_append, Nat.zero_add, Nat.reduceAdd]; trivial, fun z hz => by simp only [Ent.fp, Tree.goal, X.P, X.ev, V.toI_i, V.toB_b, V.toS_s, V.toR_r, V.toV_v, V.toN_n, V.toL_l, SV.ev, CV.ev, Sc.ev, List.getD_cons_zero, List.getD_cons_succ, List.getElem?_cons_zero, List.getElem?_cons_succ, List.map_cons, List.map_nil, List.length_cons, List.length_nil, List.cons_append, List.nil_append, Nat.zero_add, Nat.reduceAdd] at hz; exact hz.elim⟩, List.forall_mem_cons.2 ⟨⟨s1.own, fun z hz => (f1 z hz).imp id .inr⟩, List.forall_mem_nil _⟩⟩, apart_st rfl apart_one, ?_⟩; (try simp only [Tree.goal, X.P, X.ev, V.toI_i, V.toB_b, V.toS_s, V.toR_r, V.toV_v, V.toN_n, V.toL_l, SV.ev, CV.ev, Sc.ev, List.getD_cons_zero, List.getD_cons_succ, List.getElem?_cons_zero, List.getElem?_cons_succ, List.map_cons, List.map_nil, List.length_cons, List.length_nil, List.cons_append, List.nil_append, Nat.zero_add, Nat.reduceAdd])
  exact fun w' hr => ⟨by trivial, wrote_of hr ⟨hr.at_ 2 rfl, s1.ok, hr.at_ 1 rfl⟩ (List.mem_cons_of_mem _ (List.mem_cons_self ..)) rfl⟩
theorem flat_take (k : Nat) (ns : List Int) (i : Nat) (h : i < ns.length) : ((ns.take (i + 1)).map (numB k)).flatten = ((ns.take i).map (numB k)).flatten ++ numB k (ns.getD i 0) := by
  rw [List.take_add_one, List.getD_eq_getElem?_getD, List.getElem?_eq_getElem h]
  simp only [Option.toList_some, Option.getD_some, List.map_append, List.map_cons, List.map_nil, List.flatten_append, List.flatten_cons, List.flatten_nil, List.append_nil]
theorem flat_lenN (k : Nat) (ns : List Int) : ((ns.map (numB k)).flatten).length = ns.length * k := by
  induction ns with
  | nil => simp
  | cons n ns ih => simp [ih, numB_len, Nat.succ_mul]; omega
theorem c_pput (w : World) (b : Nat) (p q : Value) (l : List UInt8) (k : Nat) (lv : Value) (ns : List Int) (h : wrS w b p q l) (hk : k ≤ 2) (hv : readsI w lv ns) (ha : ∀ k, (ns.map encI).flatten ≠ [] ∧ blockOf lv k → k ≠ b ∧ ¬ blockOf q k)
    (hn : ∀ n ∈ ns, 0 ≤ n ∧ n ≤ 65535) (hl : l.length ≤ 10000000000000) (hl2 : ns.length ≤ 1000000000) :
    Calls Tryd.prog 133 #[.pointer (some ⟨b, 0, none⟩), .int .i64 k, sc1 lv] w fun e w' => e = .returned (.tuple #[]) ∧ wrote w w' b q (l ++ (ns.map (numB k)).flatten) := by
  refine as_called (run_tree2 (ρ := [.n b, .v p, .v q, .r (byW l), .i k, .v lv, .r (ns.map encI)]) sxE_ok Tryd.func133 tree_packet_writer_put rfl rfl
    (rel_w h rfl rfl rfl rfl (List.forall_mem_cons.2 ⟨⟨hv, rfl, ha⟩, List.forall_mem_nil _⟩)) rfl rfl ?_) rfl
  simp only [Tree.goal, X.P, X.ev, V.toI_i, V.toB_b, V.toS_s, V.toR_r, V.toV_v, V.toN_n, V.toL_l, SV.ev, CV.ev, Sc.ev, List.getD_cons_zero, List.getD_cons_succ, List.getElem?_cons_zero, List.getElem?_cons_succ, List.map_cons, List.map_nil, List.length_cons, List.length_nil, List.cons_append, List.nil_append, Nat.zero_add, Nat.reduceAdd]
  refine ⟨fun vs => ∃ (i : Nat) (p' q' : Value), vs = [.i i, .v p', .v q', .r (byW (l ++ ((ns.take i).map (numB k)).flatten))] ∧ i ≤ ns.length ∧ okp p' b, fun vs => ns.length - (vs.getD 0 (.i 0)).toI.toNat, ⟨0, p, q, by simp, by omega, h.ok⟩, ?_⟩
  rintro _ - ⟨i, p', q', rfl, hi, hp'⟩
  simp only [Tree.goal, X.P, X.ev, V.toI_i, V.toB_b, V.toS_s, V.toR_r, V.toV_v, V.toN_n, V.toL_l, SV.ev, CV.ev, Sc.ev, List.getD_cons_zero, List.getD_cons_succ, List.getElem?_cons_zero, List.getElem?_cons_succ, List.map_cons, List.map_nil, List.length_cons, List.length_nil, List.cons_append, List.nil_append, Nat.zero_add, Nat.reduceAdd, List.length_map, Int.toNat_natCast, gI0]
  refine ⟨fun h1 => ⟨by omega, ?_⟩, fun h1 w' hr => ?_⟩
  · have hni : 0 ≤ ns.getD i 0 ∧ ns.getD i 0 ≤ 65535 := by
      rw [List.getD_eq_getElem?_getD, List.getElem?_eq_getElem (by omega)]; exact hn _ (List.getElem_mem _)
    refine ⟨[.s (numB k (ns.getD i 0))], rfl, fun _ w' _ => c_Bytes w' _ k (by omega) hni.1 (by omega), ?_⟩
    simp only [Tree.goal, X.P, X.ev, V.toI_i, V.toB_b, V.toS_s, V.toR_r, V.toV_v, V.toN_n, V.toL_l, SV.ev, CV.ev, Sc.ev, List.getD_cons_zero, List.getD_cons_succ, List.getElem?_cons_zero, List.getElem?_cons_succ, List.map_cons, List.map_nil, List.length_cons, List.length_nil, List.cons_append, List.nil_append, Nat.zero_add, Nat.reduceAdd]
    intro w1 hr
    have hlen : (l ++ ((ns.take i).map (numB k)).flatten).length ≤ 10000000000000 + 1000000000 * 2 := by
      rw [List.length_append, flat_lenN]
      have h1 : (ns.take i).length ≤ 1000000000 := by simp; omega
      have := Nat.mul_le_mul h1 hk
      omega
    refine (c_pws w1 b p' q' _ (numB k (ns.getD i 0)) ⟨hr.at_ 1 rfl, hp', hr.at_ 0 rfl⟩ (by rw [numB_len]; omega)).mono ?_
    rintro e w2 ⟨rfl, p1, q1, s1, m1, f1⟩
    refine ⟨[.i _, .v .nilIface, .a Asrt.tt, .v p1, .v q1, .r (byW _)], rfl, rfl, m1, List.forall_mem_cons.2 ⟨s1.cells, List.forall_mem_nil _⟩, List.forall_mem_cons.2 ⟨⟨by simp only [Ent.holds, Tree.goal, X.P, X.ev, V.toI_i, V.toB_b, V.toS_s, V.toR_r, V.toV_v, V.toN_n, V.toL_l, SV.ev, CV.ev, Sc.ev, List.getD_cons_zero, List.getD_cons_succ, List.getElem?_cons_zero, List.getElem?_cons_succ, List.map_cons, List.map_nil, List.length_cons, List.length_nil, List.cons_append, List.nil_append, Nat.zero_add, Nat.reduceAdd]; trivial, fun z hz => by simp only [Ent.fp, Tree.goal, X.P, X.ev, V.toI_i, V.toB_b, V.toS_s, V.toR_r, V.toV_v, V.toN_n, V.toL_l, SV.ev, CV.ev, Sc.ev, List.getD_cons_zero, List.getD_cons_succ, List.getElem?_cons_zero, List.getElem?_cons_succ, List.map_cons, List.map_nil, List.length_cons, List.length_nil, List.cons_append, List.nil_append, Nat.zero_add, Nat.reduceAdd] at hz; exact hz.elim⟩, List.forall_mem_cons.2 ⟨⟨s1.own, fun z hz => (f1 z hz).imp id .inr⟩, List.forall_mem_nil _⟩⟩, apart_st rfl apart_one, ?_⟩; (try simp only [Tree.goal, X.P, X.ev, V.toI_i, V.toB_b, V.toS_s, V.toR_r, V.toV_v, V.toN_n, V.toL_l, SV.ev, CV.ev, Sc.ev, List.getD_cons_zero, List.getD_cons_succ, List.getElem?_cons_zero, List.getElem?_cons_succ, List.map_cons, List.map_nil, List.length_cons, List.length_nil, List.cons_append, List.nil_append, Nat.zero_add, Nat.reduceAdd])
    refine ⟨by omega, by omega, ⟨i + 1, p1, q1, ?_, by omega, s1.ok⟩, by omega⟩
    rw [flat_take k ns i (by omega), List.append_assoc]; rfl
  · have : i = ns.length := by omega
    subst this
    rw [List.take_length] at hr
    exact ⟨by trivial, wrote_of hr ⟨hr.at_ 1 rfl, hp', hr.at_ 0 rfl⟩ (List.mem_cons_self ..) rfl⟩
end Go.Proofs.YtliedecinehijaaDoor

/-
  Packets: their bytes, walked: Bytes, Encode. By an AI agent.
-/
set_option linter.unusedSimpArgs false
set_option linter.unusedVariables false
namespace Go.Proofs.YtliedecinehijaaDoor
open Go.Sx

/-- A packet whose bytes can be told. -/
structure ByteP (p : Pkt) : Prop where
  kind : 0 ≤ p.kind ∧ p.kind ≤ 15
  qos : 0 ≤ p.qos ∧ p.qos ≤ 3
  id : 0 ≤ p.id ∧ p.id ≤ 65535
  keep : 0 ≤ p.keep ∧ p.keep ≤ 65535
  code : 0 ≤ p.code ∧ p.code ≤ 65535
  asks : ∀ a ∈ p.asks, 0 ≤ a.2 ∧ a.2 ≤ 65535
  codes : ∀ c ∈ p.codes, 0 ≤ c ∧ c ≤ 65535
  small : SmallP p
  body : (bodyB p).length < 268435456
theorem ByteP.ask {p : Pkt} (h : ByteP p) (i : Nat) : 0 ≤ (p.asks.getD i aD).2 ∧ (p.asks.getD i aD).2 ≤ 65535 := by
  by_cases hi : i < p.asks.length
  · rw [List.getD_eq_getElem?_getD, List.getElem?_eq_getElem hi]; exact h.asks _ (List.getElem_mem hi)
  · rw [List.getD_eq_getElem?_getD, List.getElem?_eq_none (by omega)]; decide
theorem headB_len {p : Pkt} (h : SmallP p) : (headB p).length ≤ 2000000000 := by
  have h1 := h.client; have h2 := h.topic
  unfold headB
  split
  · simp only [List.length_append, txtB_len, numB_len, List.length_cons, List.length_nil]; omega
  · split
    · simp only [List.length_append, numB_len]; omega
    · split
      · rw [txtB_len]; omega
      · simp
def idP (p : Pkt) : List UInt8 := if idB p = true then numB 2 p.id else []
theorem idP_len (p : Pkt) : (idP p).length ≤ 2 := by unfold idP; split <;> simp [numB_len]
def asB (p : Pkt) (i : Nat) : List UInt8 := headB p ++ idP p ++ p.payload ++ ((p.asks.take i).map (askB p.kind)).flatten
theorem asB_len {p : Pkt} (h : ByteP p) (i : Nat) : (asB p i).length < 268435456 := by
  refine Nat.lt_of_le_of_lt ?_ h.body
  unfold bodyB asB idP
  have : ((p.asks.take i).map (askB p.kind)).flatten.length ≤ (p.asks.map (askB p.kind)).flatten.length := by
    conv => rhs; rw [← List.take_append_drop i p.asks, List.map_append, List.flatten_append, List.length_append]
    omega
  simp only [List.length_append]
  omega
theorem asB_zero (p : Pkt) : asB p 0 = headB p ++ idP p ++ p.payload := by simp [asB]
theorem asB_step (p : Pkt) (i : Nat) (h : i < p.asks.length) : asB p (i + 1) = asB p i ++ askB p.kind (p.asks.getD i aD) := by
  unfold asB
  rw [List.take_add_one, List.getD_eq_getElem?_getD, List.getElem?_eq_getElem h]
  simp only [Option.toList_some, Option.getD_some, List.map_append, List.map_cons, List.map_nil, List.flatten_append, List.flatten_cons, List.flatten_nil, List.append_nil, List.append_assoc]
theorem asB_all (p : Pkt) : asB p p.asks.length ++ (p.codes.map (numB 1)).flatten = bodyB p := by
  rw [asB, List.take_length]; rfl
section
variable (w : World) (b : Nat) (p : Pkt) (u v : Value)
set_option maxRecDepth 10000 in
set_option maxHeartbeats 1000000 in
theorem c_pbody (p0 q0 : Value) (hu : readsA w u p.asks) (hv : readsI w v p.codes) (hB : ByteP p) (hw : wrS w b p0 q0 [])
    (hua : ∀ k, (p.asks.map encA).flatten ≠ [] ∧ blockOf u k → k ≠ b ∧ ¬ blockOf q0 k) (hva : ∀ k, (p.codes.map encI).flatten ≠ [] ∧ blockOf v k → k ≠ b ∧ ¬ blockOf q0 k) :
    Calls Tryd.prog 82 #[.pointer (some ⟨b, 0, none⟩), pV p u v] w fun e w' => e = .returned (.tuple #[]) ∧ wrote w w' b q0 (bodyB p) := by
  refine as_called (run_tree2 (ρ := [.n b, .v p0, .v q0, .r (byW []), .i p.kind, .b p.dup, .b p.retain, .b p.clean, .b p.session, .i p.qos, .i p.id, .i p.keep, .i p.code, .s p.client, .s p.topic, .s p.payload, .v u, .r (p.asks.map encA), .v v, .r (p.codes.map encI)]) (sxE_ok.joins _) Tryd.func82 tree_packet_writer_body rfl rfl
    (rel_w hw rfl rfl rfl rfl (List.forall_mem_cons.2 ⟨⟨hu, rfl, hua⟩, List.forall_mem_cons.2 ⟨⟨hv, rfl, hva⟩, List.forall_mem_nil _⟩⟩)) rfl rfl ?_) rfl
  have hs := hB.small
  have hcl := hs.client; have htp := hs.topic; have hpl := hs.payload; have hna := hs.asks; have hnc := hs.codes
  have hhl := headB_len hs
  have hil := idP_len p
  simp only [Tree.goal, X.P, X.ev, V.toI_i, V.toB_b, V.toS_s, V.toR_r, V.toV_v, V.toN_n, V.toL_l, SV.ev, CV.ev, Sc.ev, List.getD_cons_zero, List.getD_cons_succ, List.getElem?_cons_zero, List.getElem?_cons_succ, List.map_cons, List.map_nil, List.length_cons, List.length_nil, List.cons_append, List.nil_append, Nat.zero_add, Nat.reduceAdd]
  intro bc
  refine ⟨fun vs => ∃ p' q', vs = [.v p', .v q', .r (byW (headB p))] ∧ okp p' b, ⟨fun h1 => ?_, fun h1 => ⟨fun h2 => ?_, fun h2 => ⟨fun h3 => ?_, fun h3 => ?_⟩⟩⟩, ?_⟩
  · intro w1 hr
    refine (c_ptext w1 b p0 q0 [] [77, 81, 84, 84] ⟨hr.at_ 2 rfl, hw.ok, hr.at_ 1 rfl⟩ (by decide)).mono ?_
    rintro e w2 ⟨rfl, p1, q1, s1, m1, f1⟩
    refine ⟨[.v p1, .v q1, .r (byW _)], rfl, rfl, m1, List.forall_mem_cons.2 ⟨s1.cells, List.forall_mem_nil _⟩, List.forall_mem_cons.2 ⟨⟨s1.own, fun z hz => (f1 z hz).imp id .inr⟩, List.forall_mem_nil _⟩, apart_one, ?_⟩; (try simp only [Tree.goal, X.P, X.ev, V.toI_i, V.toB_b, V.toS_s, V.toR_r, V.toV_v, V.toN_n, V.toL_l, SV.ev, CV.ev, Sc.ev, List.getD_cons_zero, List.getD_cons_succ, List.getElem?_cons_zero, List.getElem?_cons_succ, List.map_cons, List.map_nil, List.length_cons, List.length_nil, List.cons_append, List.nil_append, Nat.zero_add, Nat.reduceAdd])
    have go : ∀ n : Int, n = bit p.clean 2 → headB p = [] ++ txtB [77, 81, 84, 84] ++ (([4, n] : List Int).map (numB 1)).flatten ++ (([p.keep] : List Int).map (numB 2)).flatten ++ txtB p.client := fun n hn => by
      rw [headB, if_pos h1, hn]; simp
    refine ⟨fun hc => ?_, fun hc => ?_⟩
    · intro v1 w3 hr
      have hn4 : ∀ n ∈ ([4, 2] : List Int), 0 ≤ n ∧ n ≤ 65535 := by decide
      refine (c_pput w3 b p1 q1 _ 1 v1 [4, 2] ⟨hr.at_ 3 rfl, s1.ok, hr.at_ 1 rfl⟩ (by omega) (owns.reads (hr.at_ 0 rfl)) (fun k hk => ⟨fun e => Apart.disj hr.sep (i := 0) (j := 3) rfl rfl (by decide) (.inl rfl) (k := k) hk.2 e, fun hb => Apart.disj hr.sep (i := 0) (j := 1) rfl rfl (by decide) (.inl rfl) (k := k) hk.2 hb⟩) hn4 (by decide) (by decide)).mono ?_
      have o1 := s1.ok
      clear s1 m1 f1
      rintro e w4 ⟨rfl, p1, q1, s1, m1, f1⟩
      refine ⟨[.v p1, .v q1, .r (byW _)], rfl, rfl, m1, List.forall_mem_cons.2 ⟨s1.cells, List.forall_mem_nil _⟩, List.forall_mem_cons.2 ⟨⟨s1.own, fun z hz => (f1 z hz).imp id .inr⟩, List.forall_mem_nil _⟩, apart_one, ?_⟩; (try simp only [Tree.goal, X.P, X.ev, V.toI_i, V.toB_b, V.toS_s, V.toR_r, V.toV_v, V.toN_n, V.toL_l, SV.ev, CV.ev, Sc.ev, List.getD_cons_zero, List.getD_cons_succ, List.getElem?_cons_zero, List.getElem?_cons_succ, List.map_cons, List.map_nil, List.length_cons, List.length_nil, List.cons_append, List.nil_append, Nat.zero_add, Nat.reduceAdd])
      intro v2 w5 hr
      refine (c_pput w5 b p1 q1 _ 2 v2 [p.keep] ⟨hr.at_ 4 rfl, s1.ok, hr.at_ 1 rfl⟩ (by omega) (owns.reads (hr.at_ 0 rfl)) (fun k hk => ⟨fun e => Apart.disj hr.sep (i := 0) (j := 4) rfl rfl (by decide) (.inl rfl) (k := k) hk.2 e, fun hb => Apart.disj hr.sep (i := 0) (j := 1) rfl rfl (by decide) (.inl rfl) (k := k) hk.2 hb⟩) (by simpa using hB.keep) (by decide) (by simp)).mono ?_
      have o2 := s1.ok
      clear s1 m1 f1
      rintro e w6 ⟨rfl, p1, q1, s1, m1, f1⟩
      refine ⟨[.v p1, .v q1, .r (byW _)], rfl, rfl, m1, List.forall_mem_cons.2 ⟨s1.cells, List.forall_mem_nil _⟩, List.forall_mem_cons.2 ⟨⟨s1.own, fun z hz => (f1 z hz).imp id .inr⟩, List.forall_mem_nil _⟩, apart_one, ?_⟩; (try simp only [Tree.goal, X.P, X.ev, V.toI_i, V.toB_b, V.toS_s, V.toR_r, V.toV_v, V.toN_n, V.toL_l, SV.ev, CV.ev, Sc.ev, List.getD_cons_zero, List.getD_cons_succ, List.getElem?_cons_zero, List.getElem?_cons_succ, List.map_cons, List.map_nil, List.length_cons, List.length_nil, List.cons_append, List.nil_append, Nat.zero_add, Nat.reduceAdd])
      intro w7 hr
      refine (c_ptext w7 b p1 q1 _ p.client ⟨hr.at_ 4 rfl, s1.ok, hr.at_ 0 rfl⟩ (by simp only [List.length_append, txtB_len, List.map_cons, List.map_nil, List.flatten_cons, List.flatten_nil, numB_len, List.length_nil, List.length_cons]; omega)).mono ?_
      clear s1 m1 f1
      rintro e w8 ⟨rfl, p1, q1, s1, m1, f1⟩
      refine ⟨[.v p1, .v q1, .r (byW _)], rfl, rfl, m1, List.forall_mem_cons.2 ⟨s1.cells, List.forall_mem_nil _⟩, List.forall_mem_cons.2 ⟨⟨s1.own, fun z hz => (f1 z hz).imp id .inr⟩, List.forall_mem_nil _⟩, apart_one, ?_⟩; (try simp only [Tree.goal, X.P, X.ev, V.toI_i, V.toB_b, V.toS_s, V.toR_r, V.toV_v, V.toN_n, V.toL_l, SV.ev, CV.ev, Sc.ev, List.getD_cons_zero, List.getD_cons_succ, List.getElem?_cons_zero, List.getElem?_cons_succ, List.map_cons, List.map_nil, List.length_cons, List.length_nil, List.cons_append, List.nil_append, Nat.zero_add, Nat.reduceAdd])
      exact ⟨p1, q1, by rw [go 2 (by simp [bit, hc])]; rfl, s1.ok⟩
    · intro v1 w3 hr
      have hn4 : ∀ n ∈ ([4, 0] : List Int), 0 ≤ n ∧ n ≤ 65535 := by decide
      refine (c_pput w3 b p1 q1 _ 1 v1 [4, 0] ⟨hr.at_ 3 rfl, s1.ok, hr.at_ 1 rfl⟩ (by omega) (owns.reads (hr.at_ 0 rfl)) (fun k hk => ⟨fun e => Apart.disj hr.sep (i := 0) (j := 3) rfl rfl (by decide) (.inl rfl) (k := k) hk.2 e, fun hb => Apart.disj hr.sep (i := 0) (j := 1) rfl rfl (by decide) (.inl rfl) (k := k) hk.2 hb⟩) hn4 (by decide) (by decide)).mono ?_
      clear s1 m1 f1
      rintro e w4 ⟨rfl, p1, q1, s1, m1, f1⟩
      refine ⟨[.v p1, .v q1, .r (byW _)], rfl, rfl, m1, List.forall_mem_cons.2 ⟨s1.cells, List.forall_mem_nil _⟩, List.forall_mem_cons.2 ⟨⟨s1.own, fun z hz => (f1 z hz).imp id .inr⟩, List.forall_mem_nil _⟩, apart_one, ?_⟩; (try simp only [Tree.goal, X.P, X.ev, V.toI_i, V.toB_b, V.toS_s, V.toR_r, V.toV_v, V.toN_n, V.toL_l, SV.ev, CV.ev, Sc.ev, List.getD_cons_zero, List.getD_cons_succ, List.getElem?_cons_zero, List.getElem?_cons_succ, List.map_cons, List.map_nil, List.length_cons, List.length_nil, List.cons_append, List.nil_append, Nat.zero_add, Nat.reduceAdd])
      intro v2 w5 hr
      refine (c_pput w5 b p1 q1 _ 2 v2 [p.keep] ⟨hr.at_ 4 rfl, s1.ok, hr.at_ 1 rfl⟩ (by omega) (owns.reads (hr.at_ 0 rfl)) (fun k hk => ⟨fun e => Apart.disj hr.sep (i := 0) (j := 4) rfl rfl (by decide) (.inl rfl) (k := k) hk.2 e, fun hb => Apart.disj hr.sep (i := 0) (j := 1) rfl rfl (by decide) (.inl rfl) (k := k) hk.2 hb⟩) (by simpa using hB.keep) (by decide) (by simp)).mono ?_
      clear s1 m1 f1
      rintro e w6 ⟨rfl, p1, q1, s1, m1, f1⟩
      refine ⟨[.v p1, .v q1, .r (byW _)], rfl, rfl, m1, List.forall_mem_cons.2 ⟨s1.cells, List.forall_mem_nil _⟩, List.forall_mem_cons.2 ⟨⟨s1.own, fun z hz => (f1 z hz).imp id .inr⟩, List.forall_mem_nil _⟩, apart_one, ?_⟩; (try simp only [Tree.goal, X.P, X.ev, V.toI_i, V.toB_b, V.toS_s, V.toR_r, V.toV_v, V.toN_n, V.toL_l, SV.ev, CV.ev, Sc.ev, List.getD_cons_zero, List.getD_cons_succ, List.getElem?_cons_zero, List.getElem?_cons_succ, List.map_cons, List.map_nil, List.length_cons, List.length_nil, List.cons_append, List.nil_append, Nat.zero_add, Nat.reduceAdd])
      intro w7 hr
      refine (c_ptext w7 b p1 q1 _ p.client ⟨hr.at_ 4 rfl, s1.ok, hr.at_ 0 rfl⟩ (by simp only [List.length_append, txtB_len, List.map_cons, List.map_nil, List.flatten_cons, List.flatten_nil, numB_len, List.length_nil, List.length_cons]; omega)).mono ?_
      clear s1 m1 f1
      rintro e w8 ⟨rfl, p1, q1, s1, m1, f1⟩
      refine ⟨[.v p1, .v q1, .r (byW _)], rfl, rfl, m1, List.forall_mem_cons.2 ⟨s1.cells, List.forall_mem_nil _⟩, List.forall_mem_cons.2 ⟨⟨s1.own, fun z hz => (f1 z hz).imp id .inr⟩, List.forall_mem_nil _⟩, apart_one, ?_⟩; (try simp only [Tree.goal, X.P, X.ev, V.toI_i, V.toB_b, V.toS_s, V.toR_r, V.toV_v, V.toN_n, V.toL_l, SV.ev, CV.ev, Sc.ev, List.getD_cons_zero, List.getD_cons_succ, List.getElem?_cons_zero, List.getElem?_cons_succ, List.map_cons, List.map_nil, List.length_cons, List.length_nil, List.cons_append, List.nil_append, Nat.zero_add, Nat.reduceAdd])
      exact ⟨p1, q1, by rw [go 0 (by simp [bit, hc])]; rfl, s1.ok⟩
  · have go : ∀ n : Int, n = bit p.session 1 → headB p = [] ++ (([n, p.code] : List Int).map (numB 1)).flatten := fun n hn => by
      rw [headB, if_neg h1, if_pos h2, hn]; simp
    have one : ∀ n : Int, n = bit p.session 1 → (0 ≤ n ∧ n ≤ 65535) → ∀ (v1 : Value) (w3 : World), readsI w3 v1 [n, p.code] → wrS w3 b p0 q0 [] → (∀ k, (([n, p.code] : List Int).map encI).flatten ≠ [] ∧ blockOf v1 k → k ≠ b ∧ ¬ blockOf q0 k) →
        Calls Tryd.prog 133 #[.pointer (some ⟨b, 0, none⟩), .int .i64 1, sc1 v1] w3 fun e w' => e = .returned (.tuple #[]) ∧ wrote w3 w' b q0 (headB p) := fun n hn h0 v1 w3 hv1 hw3 ha => by
      have h9 := hB.code
      rw [go n hn]
      exact c_pput w3 b p0 q0 _ 1 v1 [n, p.code] hw3 (by omega) hv1 ha (by simp; omega) (by decide) (by simp)
    have c1 : p.session = true → (1 : Int) = bit p.session 1 := fun h => by simp [bit, h]
    have c0 : ¬ p.session = true → (0 : Int) = bit p.session 1 := fun h => by simp [bit, h]
    refine ⟨⟨fun hc => ?_, fun hc => ?_⟩, ⟨fun hc => ?_, fun hc => ?_⟩⟩
    all_goals
      intro v1 w3 hr
      first
      | refine (one 1 (c1 hc) (by decide) v1 w3 (owns.reads (hr.at_ 0 rfl)) ⟨hr.at_ 3 rfl, hw.ok, hr.at_ 2 rfl⟩ (fun k hk => ⟨fun e => Apart.disj hr.sep (i := 0) (j := 3) rfl rfl (by decide) (.inl rfl) (k := k) hk.2 e, fun hb => Apart.disj hr.sep (i := 0) (j := 2) rfl rfl (by decide) (.inl rfl) (k := k) hk.2 hb⟩)).mono ?_
      | refine (one 0 (c0 hc) (by decide) v1 w3 (owns.reads (hr.at_ 0 rfl)) ⟨hr.at_ 3 rfl, hw.ok, hr.at_ 2 rfl⟩ (fun k hk => ⟨fun e => Apart.disj hr.sep (i := 0) (j := 3) rfl rfl (by decide) (.inl rfl) (k := k) hk.2 e, fun hb => Apart.disj hr.sep (i := 0) (j := 2) rfl rfl (by decide) (.inl rfl) (k := k) hk.2 hb⟩)).mono ?_
      rintro e w4 ⟨rfl, p1, q1, s1, m1, f1⟩
      refine ⟨[.v p1, .v q1, .r (byW _)], rfl, rfl, m1, List.forall_mem_cons.2 ⟨s1.cells, List.forall_mem_nil _⟩, List.forall_mem_cons.2 ⟨⟨s1.own, fun z hz => (f1 z hz).imp id .inr⟩, List.forall_mem_nil _⟩, apart_one, ?_⟩; (try simp only [Tree.goal, X.P, X.ev, V.toI_i, V.toB_b, V.toS_s, V.toR_r, V.toV_v, V.toN_n, V.toL_l, SV.ev, CV.ev, Sc.ev, List.getD_cons_zero, List.getD_cons_succ, List.getElem?_cons_zero, List.getElem?_cons_succ, List.map_cons, List.map_nil, List.length_cons, List.length_nil, List.cons_append, List.nil_append, Nat.zero_add, Nat.reduceAdd])
      exact ⟨p1, q1, rfl, s1.ok⟩
  · intro w1 hr
    refine (c_ptext w1 b p0 q0 [] p.topic ⟨hr.at_ 2 rfl, hw.ok, hr.at_ 1 rfl⟩ (by simp only [List.length_nil]; omega)).mono ?_
    rintro e w2 ⟨rfl, p1, q1, s1, m1, f1⟩
    refine ⟨[.v p1, .v q1, .r (byW _)], rfl, rfl, m1, List.forall_mem_cons.2 ⟨s1.cells, List.forall_mem_nil _⟩, List.forall_mem_cons.2 ⟨⟨s1.own, fun z hz => (f1 z hz).imp id .inr⟩, List.forall_mem_nil _⟩, apart_one, ?_⟩; (try simp only [Tree.goal, X.P, X.ev, V.toI_i, V.toB_b, V.toS_s, V.toR_r, V.toV_v, V.toN_n, V.toL_l, SV.ev, CV.ev, Sc.ev, List.getD_cons_zero, List.getD_cons_succ, List.getElem?_cons_zero, List.getElem?_cons_succ, List.map_cons, List.map_nil, List.length_cons, List.length_nil, List.cons_append, List.nil_append, Nat.zero_add, Nat.reduceAdd])
    exact ⟨p1, q1, by rw [headB, if_neg h1, if_neg h2, if_pos h3], s1.ok⟩
  · exact ⟨p0, q0, by rw [headB, if_neg h1, if_neg h2, if_neg h3], hw.ok⟩
  rintro _ - ⟨p1, q1, rfl, o1⟩
  simp only [Tree.goal, X.P, X.ev, V.toI_i, V.toB_b, V.toS_s, V.toR_r, V.toV_v, V.toN_n, V.toL_l, SV.ev, CV.ev, Sc.ev, List.getD_cons_zero, List.getD_cons_succ, List.getElem?_cons_zero, List.getElem?_cons_succ, List.map_cons, List.map_nil, List.length_cons, List.length_nil, List.cons_append, List.nil_append, Nat.zero_add, Nat.reduceAdd]
  refine ⟨[.b (idB p)], rfl, fun _ w' hr => c_pid w' p u v (hr.at_ 3 rfl) (hr.at_ 4 rfl), ?_⟩
  simp only [Tree.goal, X.P, X.ev, V.toI_i, V.toB_b, V.toS_s, V.toR_r, V.toV_v, V.toN_n, V.toL_l, SV.ev, CV.ev, Sc.ev, List.getD_cons_zero, List.getD_cons_succ, List.getElem?_cons_zero, List.getElem?_cons_succ, List.map_cons, List.map_nil, List.length_cons, List.length_nil, List.cons_append, List.nil_append, Nat.zero_add, Nat.reduceAdd]
  refine ⟨fun vs => ∃ p' q', vs = [.v p', .v q', .r (byW (headB p ++ idP p))] ∧ okp p' b, ⟨fun h1 => ?_, fun h1 => ?_⟩, ?_⟩
  · intro v1 w3 hr
    refine (c_pput w3 b p1 q1 _ 2 v1 [p.id] ⟨hr.at_ 3 rfl, o1, hr.at_ 2 rfl⟩ (by omega) (owns.reads (hr.at_ 0 rfl)) (fun k hk => ⟨fun e => Apart.disj hr.sep (i := 0) (j := 3) rfl rfl (by decide) (.inl rfl) (k := k) hk.2 e, fun hb => Apart.disj hr.sep (i := 0) (j := 2) rfl rfl (by decide) (.inl rfl) (k := k) hk.2 hb⟩) (by simpa using hB.id) (by omega) (by simp)).mono ?_
    rintro e w4 ⟨rfl, p1, q1, s1, m1, f1⟩
    refine ⟨[.v p1, .v q1, .r (byW _)], rfl, rfl, m1, List.forall_mem_cons.2 ⟨s1.cells, List.forall_mem_nil _⟩, List.forall_mem_cons.2 ⟨⟨s1.own, fun z hz => (f1 z hz).imp id .inr⟩, List.forall_mem_nil _⟩, apart_one, ?_⟩; (try simp only [Tree.goal, X.P, X.ev, V.toI_i, V.toB_b, V.toS_s, V.toR_r, V.toV_v, V.toN_n, V.toL_l, SV.ev, CV.ev, Sc.ev, List.getD_cons_zero, List.getD_cons_succ, List.getElem?_cons_zero, List.getElem?_cons_succ, List.map_cons, List.map_nil, List.length_cons, List.length_nil, List.cons_append, List.nil_append, Nat.zero_add, Nat.reduceAdd])
    exact ⟨p1, q1, by rw [idP, if_pos h1]; simp, s1.ok⟩
  · exact ⟨p1, q1, by rw [idP, if_neg h1, List.append_nil], o1⟩
  rintro _ - ⟨p2, q2, rfl, o2⟩
  simp only [Tree.goal, X.P, X.ev, V.toI_i, V.toB_b, V.toS_s, V.toR_r, V.toV_v, V.toN_n, V.toL_l, SV.ev, CV.ev, Sc.ev, List.getD_cons_zero, List.getD_cons_succ, List.getElem?_cons_zero, List.getElem?_cons_succ, List.map_cons, List.map_nil, List.length_cons, List.length_nil, List.cons_append, List.nil_append, Nat.zero_add, Nat.reduceAdd]
  intro w1 hr
  refine (c_pws w1 b p2 q2 _ p.payload ⟨hr.at_ 2 rfl, o2, hr.at_ 1 rfl⟩ (by simp only [List.length_append]; omega)).mono ?_
  rintro e w2 ⟨rfl, p1, q1, s1, m1, f1⟩
  refine ⟨[.i _, .v .nilIface, .a Asrt.tt, .v p1, .v q1, .r (byW _)], rfl, rfl, m1, List.forall_mem_cons.2 ⟨s1.cells, List.forall_mem_nil _⟩, List.forall_mem_cons.2 ⟨⟨by simp only [Ent.holds, Tree.goal, X.P, X.ev, V.toI_i, V.toB_b, V.toS_s, V.toR_r, V.toV_v, V.toN_n, V.toL_l, SV.ev, CV.ev, Sc.ev, List.getD_cons_zero, List.getD_cons_succ, List.getElem?_cons_zero, List.getElem?_cons_succ, List.map_cons, List.map_nil, List.length_cons, List.length_nil, List.cons_append, List.nil_append, Nat.zero_add, Nat.reduceAdd]; trivial, fun z hz => by simp only [Ent.fp, Tree.goal, X.P, X.ev, V.toI_i, V.toB_b, V.toS_s, V.toR_r, V.toV_v, V.toN_n, V.toL_l, SV.ev, CV.ev, Sc.ev, List.getD_cons_zero, List.getD_cons_succ, List.getElem?_cons_zero, List.getElem?_cons_succ, List.map_cons, List.map_nil, List.length_cons, List.length_nil, List.cons_append, List.nil_append, Nat.zero_add, Nat.reduceAdd] at hz; exact hz.elim⟩, List.forall_mem_cons.2 ⟨⟨s1.own, fun z hz => (f1 z hz).imp id .inr⟩, List.forall_mem_nil _⟩⟩, apart_st rfl apart_one, ?_⟩; (try simp only [Tree.goal, X.P, X.ev, V.toI_i, V.toB_b, V.toS_s, V.toR_r, V.toV_v, V.toN_n, V.toL_l, SV.ev, CV.ev, Sc.ev, List.getD_cons_zero, List.getD_cons_succ, List.getElem?_cons_zero, List.getElem?_cons_succ, List.map_cons, List.map_nil, List.length_cons, List.length_nil, List.cons_append, List.nil_append, Nat.zero_add, Nat.reduceAdd])
  refine ⟨fun vs => ∃ (i : Nat) (p' q' : Value), vs = [.i i, .v p', .v q', .r (byW (asB p i))] ∧ i ≤ p.asks.length ∧ okp p' b, fun vs => p.asks.length - (vs.getD 0 (.i 0)).toI.toNat, ⟨0, p1, q1, by rw [asB_zero]; rfl, by omega, s1.ok⟩, ?_⟩
  clear s1 m1 f1 hr
  rintro _ - ⟨i, p3, q3, rfl, hi, o3⟩
  simp only [Tree.goal, X.P, X.ev, V.toI_i, V.toB_b, V.toS_s, V.toR_r, V.toV_v, V.toN_n, V.toL_l, SV.ev, CV.ev, Sc.ev, List.getD_cons_zero, List.getD_cons_succ, List.getElem?_cons_zero, List.getElem?_cons_succ, List.map_cons, List.map_nil, List.length_cons, List.length_nil, List.cons_append, List.nil_append, Nat.zero_add, Nat.reduceAdd, List.length_map, Int.toNat_natCast, gA0, gA1]
  have hal := asB_len hB i
  refine ⟨fun h1 => ⟨by omega, fun bx w3 hr => ?_⟩, fun h1 w3 hr => ?_⟩
  · have hf := hs.at_ i
    have hq := hB.ask i
    refine (c_ptext w3 b p3 q3 _ (p.asks.getD i aD).1 ⟨hr.at_ 4 rfl, o3, hr.at_ 2 rfl⟩ (by omega)).mono ?_
    rintro e w4 ⟨rfl, p1, q1, s1, m1, f1⟩
    refine ⟨[.v p1, .v q1, .r (byW _)], rfl, rfl, m1, List.forall_mem_cons.2 ⟨s1.cells, List.forall_mem_nil _⟩, List.forall_mem_cons.2 ⟨⟨s1.own, fun z hz => (f1 z hz).imp id .inr⟩, List.forall_mem_nil _⟩, apart_one, ?_⟩; (try simp only [Tree.goal, X.P, X.ev, V.toI_i, V.toB_b, V.toS_s, V.toR_r, V.toV_v, V.toN_n, V.toL_l, SV.ev, CV.ev, Sc.ev, List.getD_cons_zero, List.getD_cons_succ, List.getElem?_cons_zero, List.getElem?_cons_succ, List.map_cons, List.map_nil, List.length_cons, List.length_nil, List.cons_append, List.nil_append, Nat.zero_add, Nat.reduceAdd])
    refine ⟨fun hk => ?_, fun hk => ?_⟩
    · intro v1 w5 hr
      have e0 := hr.at_ 0 rfl
      simp only [Ent.holds, Tree.goal, X.P, X.ev, V.toI_i, V.toB_b, V.toS_s, V.toR_r, V.toV_v, V.toN_n, V.toL_l, SV.ev, CV.ev, Sc.ev, List.getD_cons_zero, List.getD_cons_succ, List.getElem?_cons_zero, List.getElem?_cons_succ, List.map_cons, List.map_nil, List.length_cons, List.length_nil, List.cons_append, List.nil_append, Nat.zero_add, Nat.reduceAdd, Int.toNat_natCast, gA1] at e0
      refine (c_pput w5 b p1 q1 _ 1 v1 [(p.asks.getD i aD).2] ⟨hr.at_ 5 rfl, s1.ok, hr.at_ 1 rfl⟩ (by omega) (owns.reads e0) (fun k hk => ⟨fun e => Apart.disj hr.sep (i := 0) (j := 5) rfl rfl (by decide) (.inl rfl) (k := k) hk.2 e, fun hb => Apart.disj hr.sep (i := 0) (j := 1) rfl rfl (by decide) (.inl rfl) (k := k) hk.2 hb⟩) (by simpa using hq) (by simp only [List.length_append, txtB_len]; omega) (by simp)).mono ?_
      clear s1 m1 f1
      rintro e w6 ⟨rfl, p1, q1, s1, m1, f1⟩
      refine ⟨[.v p1, .v q1, .r (byW _)], rfl, rfl, m1, List.forall_mem_cons.2 ⟨s1.cells, List.forall_mem_nil _⟩, List.forall_mem_cons.2 ⟨⟨s1.own, fun z hz => (f1 z hz).imp id .inr⟩, List.forall_mem_nil _⟩, apart_one, ?_⟩; (try simp only [Tree.goal, X.P, X.ev, V.toI_i, V.toB_b, V.toS_s, V.toR_r, V.toV_v, V.toN_n, V.toL_l, SV.ev, CV.ev, Sc.ev, List.getD_cons_zero, List.getD_cons_succ, List.getElem?_cons_zero, List.getElem?_cons_succ, List.map_cons, List.map_nil, List.length_cons, List.length_nil, List.cons_append, List.nil_append, Nat.zero_add, Nat.reduceAdd])
      refine ⟨by omega, by omega, ⟨i + 1, p1, q1, ?_, by omega, s1.ok⟩, by omega⟩
      rw [asB_step p i (by omega), askB, if_pos hk]
      simp
    · refine ⟨by omega, by omega, ⟨i + 1, p1, q1, ?_, by omega, s1.ok⟩, by omega⟩
      rw [asB_step p i (by omega), askB, if_neg hk, List.append_nil]
      rfl
  · have : i = p.asks.length := by omega
    subst this
    refine (c_pput w3 b p3 q3 _ 1 v p.codes ⟨hr.at_ 3 rfl, o3, hr.at_ 1 rfl⟩ (by omega) (hr.at_ 5 rfl) (fun k hk => ⟨fun e => Apart.disj hr.sep (i := 5) (j := 3) rfl rfl (by decide) (.inr rfl) (k := k) hk e, fun hb => Apart.disj hr.sep (i := 5) (j := 1) rfl rfl (by decide) (.inr rfl) (k := k) hk hb⟩) hB.codes (by omega) (by omega)).mono ?_
    rintro e w4 ⟨rfl, p1, q1, s1, m1, f1⟩
    refine ⟨[.v p1, .v q1, .r (byW _)], rfl, rfl, m1, List.forall_mem_cons.2 ⟨s1.cells, List.forall_mem_nil _⟩, List.forall_mem_cons.2 ⟨⟨s1.own, fun z hz => (f1 z hz).imp id .inr⟩, List.forall_mem_nil _⟩, apart_one, ?_⟩; (try simp only [Tree.goal, X.P, X.ev, V.toI_i, V.toB_b, V.toS_s, V.toR_r, V.toV_v, V.toN_n, V.toL_l, SV.ev, CV.ev, Sc.ev, List.getD_cons_zero, List.getD_cons_succ, List.getElem?_cons_zero, List.getElem?_cons_succ, List.map_cons, List.map_nil, List.length_cons, List.length_nil, List.cons_append, List.nil_append, Nat.zero_add, Nat.reduceAdd])
    intro w' hr
    rw [asB_all] at hr
    exact ⟨by trivial, wrote_of hr ⟨hr.at_ 3 rfl, s1.ok, hr.at_ 0 rfl⟩ (List.mem_cons_self ..) rfl⟩
end
end Go.Proofs.YtliedecinehijaaDoor

/-
  Packets: their bytes, walked: Bytes, Encode; packets compared. By an AI agent.
-/
set_option linter.unusedSimpArgs false
set_option linter.unusedVariables false
namespace Go.Proofs.YtliedecinehijaaDoor
open Go.Sx

theorem fst_shl (k : Int) (h : 0 ≤ k ∧ k ≤ 15) : IntKind.i64.wrap (k * 2 ^ (Nat.min (Int.toNat 4) IntKind.i64.bits)) = 16 * k := by
  have : ∀ x : Fin 16, IntKind.i64.wrap ((x.val : Int) * 2 ^ (Nat.min (Int.toNat 4) IntKind.i64.bits)) = 16 * (x.val : Int) := by decide +kernel
  have := this ⟨k.toNat, by omega⟩
  simpa only [Int.toNat_of_nonneg h.1] using this
theorem fst_two (k : Int) (h : k = 8 ∨ k = 10) : ibits .or .i64 (16 * k) 2 = 16 * k + 2 := by rcases h with rfl | rfl <;> decide +kernel
theorem fst_pub (q : Int) (h : 0 ≤ q ∧ q ≤ 3) (d r : Bool) : ibits .or .i64 (16 * 3) (ibits .or .i64 (ibits .or .i64 (bit d 8) (IntKind.i64.wrap (q * 2 ^ (Nat.min (Int.toNat 1) IntKind.i64.bits)))) (bit r 1)) = 16 * 3 + (bit d 8 + 2 * q + bit r 1) := by
  have : ∀ (x : Fin 4) (d r : Bool), ibits .or .i64 (16 * 3) (ibits .or .i64 (ibits .or .i64 (bit d 8) (IntKind.i64.wrap ((x.val : Int) * 2 ^ (Nat.min (Int.toNat 1) IntKind.i64.bits)))) (bit r 1)) = 16 * 3 + (bit d 8 + 2 * (x.val : Int) + bit r 1) := by decide +kernel
  have := this ⟨q.toNat, by omega⟩ d r
  simpa only [Int.toNat_of_nonneg h.1] using this
section
variable (w : World) (p : Pkt) (u v : Value)
theorem c_pfirst (hu : readsA w u p.asks) (hv : readsI w v p.codes) (hk : 0 ≤ p.kind ∧ p.kind ≤ 15) (hq : 0 ≤ p.qos ∧ p.qos ≤ 3) : Calls Tryd.prog 84 #[pV p u v] w
    fun e w' => e = .returned (.int .i64 (firstB p)) ∧ Mod [] w w' := by
  refine as_called (run_tree2 (ρ := [.i p.kind, .b p.dup, .b p.retain, .b p.clean, .b p.session, .i p.qos, .i p.id, .i p.keep, .i p.code, .s p.client, .s p.topic, .s p.payload, .v u, .r (p.asks.map encA), .v v, .r (p.codes.map encI)]) sxE_ok Tryd.func84 tree_packet_first rfl rfl (Rel.start2 (by simp [Ent.holds, Ent.wr, hu, hv, X.ev])) rfl rfl ?_) rfl
  simp only [Tree.goal, X.P, X.ev, V.toI_i, V.toB_b, V.toS_s, V.toR_r, V.toV_v, V.toN_n, V.toL_l, SV.ev, CV.ev, Sc.ev, List.getD_cons_zero, List.getD_cons_succ, List.getElem?_cons_zero, List.getElem?_cons_succ, List.map_cons, List.map_nil, List.length_cons, List.length_nil, List.cons_append, List.nil_append, Nat.zero_add, Nat.reduceAdd]
  rw [fst_shl _ hk]
  intro b
  have pub : p.kind = 3 → ∀ d r : Int, d = bit p.dup 8 → r = bit p.retain 1 → Value.int .i64 (ibits .or .i64 (16 * p.kind) (ibits .or .i64 (ibits .or .i64 d (IntKind.i64.wrap (p.qos * 2 ^ (Nat.min (Int.toNat 1) IntKind.i64.bits)))) r)) = .int .i64 (firstB p) := fun h d r hd hr => by
    rw [hd, hr, h, fst_pub _ hq, firstB, if_pos h, h]
  have d1 : p.dup = true → (8 : Int) = bit p.dup 8 := fun h => by simp [bit, h]
  have d0 : ¬ p.dup = true → (0 : Int) = bit p.dup 8 := fun h => by simp [bit, h]
  have r1 : p.retain = true → (1 : Int) = bit p.retain 1 := fun h => by simp [bit, h]
  have r0 : ¬ p.retain = true → (0 : Int) = bit p.retain 1 := fun h => by simp [bit, h]
  refine ⟨fun h => ?_, fun h => ⟨fun h1 w' hr => ⟨?_, hr.mod⟩, fun h1 => ⟨fun h2 w' hr => ⟨?_, hr.mod⟩, fun h2 w' hr => ⟨?_, hr.mod⟩⟩⟩⟩
  · have pub := pub h
    repeat' (first | (intro _) | (apply And.intro))
    all_goals (first | exact Rel.mod ‹_› | exact congrArg _ (pub _ _ (d1 ‹_›) (r1 ‹_›)) | exact congrArg _ (pub _ _ (d1 ‹_›) (r0 ‹_›)) | exact congrArg _ (pub _ _ (d0 ‹_›) (r1 ‹_›)) | exact congrArg _ (pub _ _ (d0 ‹_›) (r0 ‹_›)))
  · rw [fst_two _ (.inl h1), firstB, if_neg h, if_pos (.inl h1)]
  · rw [fst_two _ (.inr h2), firstB, if_neg h, if_pos (.inr h2)]
  · rw [firstB, if_neg h, if_neg (by omega), Int.add_zero]
theorem firstB_bd {p : Pkt} (hk : 0 ≤ p.kind ∧ p.kind ≤ 15) (hq : 0 ≤ p.qos ∧ p.qos ≤ 3) : 0 ≤ firstB p ∧ firstB p < 1000 := by
  unfold firstB bit
  split
  · split <;> split <;> omega
  · split <;> omega
theorem c_PBytes (hu : readsA w u p.asks) (hv : readsI w v p.codes) (hB : ByteP p) : Calls Tryd.prog 46 #[pV p u v] w fun e w' => e = .returned (.string ⟨(bytesP p).toArray⟩) ∧ Mod [] w w' := by
  refine as_called (run_tree3 (ρ := [.i p.kind, .b p.dup, .b p.retain, .b p.clean, .b p.session, .i p.qos, .i p.id, .i p.keep, .i p.code, .s p.client, .s p.topic, .s p.payload, .v u, .r (p.asks.map encA), .v v, .r (p.codes.map encI)]) sxE_ok Tryd.func46 tree_packet_Bytes rfl rfl (Rel.start2 (by simp [Ent.holds, Ent.wr, hu, hv, X.ev])) rfl rfl ?_) rfl
  have hb := hB.body
  have hf := firstB_bd hB.kind hB.qos
  simp only [Tree.goal, X.P, X.ev, V.toI_i, V.toB_b, V.toS_s, V.toR_r, V.toV_v, V.toN_n, V.toL_l, SV.ev, CV.ev, Sc.ev, List.getD_cons_zero, List.getD_cons_succ, List.getElem?_cons_zero, List.getElem?_cons_succ, List.map_cons, List.map_nil, List.length_cons, List.length_nil, List.cons_append, List.nil_append, Nat.zero_add, Nat.reduceAdd]
  intro bc bw w1 hr
  refine (c_pbody w1 bw p u v (.pointer none) (.slice none 0 0) (hr.at_ 2 rfl) (hr.at_ 3 rfl) hB ⟨hr.at_ 0 rfl, .inl rfl, ⟨by simp [byW], World.ownsRow_nil _ _ _ _⟩⟩
    (fun k hk => ⟨fun e => Apart.disj hr.sep (i := 2) (j := 0) rfl rfl (by decide) (.inr rfl) (k := k) hk e, fun hb => by cases hb⟩)
    (fun k hk => ⟨fun e => Apart.disj hr.sep (i := 3) (j := 0) rfl rfl (by decide) (.inr rfl) (k := k) hk e, fun hb => by cases hb⟩)).mono ?_
  rintro e w2 ⟨rfl, p1, q1, s1, m1, f1⟩
  refine ⟨[.v p1, .v q1, .r (byW _)], rfl, rfl, m1, List.forall_mem_cons.2 ⟨s1.cells, List.forall_mem_nil _⟩, List.forall_mem_cons.2 ⟨⟨s1.own, fun z hz => .inl ((f1 z hz).resolve_right (by simp [Value.ownBlock]))⟩, List.forall_mem_nil _⟩, apart_one, ?_⟩
  simp only [Tree.goal, X.P, X.ev, V.toI_i, V.toB_b, V.toS_s, V.toR_r, V.toV_v, V.toN_n, V.toL_l, SV.ev, CV.ev, Sc.ev, List.getD_cons_zero, List.getD_cons_succ, List.getElem?_cons_zero, List.getElem?_cons_succ, List.map_cons, List.map_nil, List.length_cons, List.length_nil, List.cons_append, List.nil_append, Nat.zero_add, Nat.reduceAdd]
  refine ⟨[.i (firstB p)], rfl, fun _ w' hr => c_pfirst w' p u v (hr.at_ 3 rfl) (hr.at_ 4 rfl) hB.kind hB.qos, ?_⟩
  simp only [Tree.goal, X.P, X.ev, V.toI_i, V.toB_b, V.toS_s, V.toR_r, V.toV_v, V.toN_n, V.toL_l, SV.ev, CV.ev, Sc.ev, List.getD_cons_zero, List.getD_cons_succ, List.getElem?_cons_zero, List.getElem?_cons_succ, List.map_cons, List.map_nil, List.length_cons, List.length_nil, List.cons_append, List.nil_append, Nat.zero_add, Nat.reduceAdd]
  refine ⟨[.s (numB 1 (firstB p))], rfl, fun _ w' _ => c_Bytes w' _ 1 (by omega) (by omega) (by omega), ?_⟩
  simp only [Tree.goal, X.P, X.ev, V.toI_i, V.toB_b, V.toS_s, V.toR_r, V.toV_v, V.toN_n, V.toL_l, SV.ev, CV.ev, Sc.ev, List.getD_cons_zero, List.getD_cons_succ, List.getElem?_cons_zero, List.getElem?_cons_succ, List.map_cons, List.map_nil, List.length_cons, List.length_nil, List.cons_append, List.nil_append, Nat.zero_add, Nat.reduceAdd]
  intro w3 hr
  have hq1 := s1.own.reads.sc1
  have hc := hr.at_ 1 rfl
  simp only [Ent.holds, Tree.goal, X.P, X.ev, V.toI_i, V.toB_b, V.toS_s, V.toR_r, V.toV_v, V.toN_n, V.toL_l, SV.ev, CV.ev, Sc.ev, List.getD_cons_zero, List.getD_cons_succ, List.getElem?_cons_zero, List.getElem?_cons_succ, List.map_cons, List.map_nil, List.length_cons, List.length_nil, List.cons_append, List.nil_append, Nat.zero_add, Nat.reduceAdd, s1.ok.sc1, hq1] at hc
  have hlen : (byW (bodyB p)).length = (bodyB p).length := by simp [byW]
  refine (bld_Len 125 bw p1 q1 [] (byW (bodyB p)) w3 hc (hr.at_ 0 rfl)).mono ?_
  rintro e w4 ⟨rfl, rfl⟩
  rw [hlen]
  have cells1 := hr.at_ 1 rfl
  have own1 := hr.at_ 0 rfl
  refine ⟨[.i ((bodyB p).length : Nat), .v p1, .v q1, .r (byW (bodyB p))], rfl, rfl, Mod.refl _ _, List.forall_mem_cons.2 ⟨cells1, List.forall_mem_nil _⟩, List.forall_mem_cons.2 ⟨⟨own1, fun z hz => .inr (.inr ?_)⟩, List.forall_mem_nil _⟩, apart_one, ?_⟩
  · have hz : q1.ownBlock = some z := hz
    simp only [goneOf, List.flatMap_cons, List.flatMap_nil, List.append_nil, Tree.goal, X.P, X.ev, V.toI_i, V.toB_b, V.toS_s, V.toR_r, V.toV_v, V.toN_n, V.toL_l, SV.ev, CV.ev, Sc.ev, List.getD_cons_zero, List.getD_cons_succ, List.getElem?_cons_zero, List.getElem?_cons_succ, List.map_cons, List.map_nil, List.length_cons, List.length_nil, List.cons_append, List.nil_append, Nat.zero_add, Nat.reduceAdd]
    rw [hz]; simp
  simp only [Tree.goal, X.P, X.ev, V.toI_i, V.toB_b, V.toS_s, V.toR_r, V.toV_v, V.toN_n, V.toL_l, SV.ev, CV.ev, Sc.ev, List.getD_cons_zero, List.getD_cons_succ, List.getElem?_cons_zero, List.getElem?_cons_succ, List.map_cons, List.map_nil, List.length_cons, List.length_nil, List.cons_append, List.nil_append, Nat.zero_add, Nat.reduceAdd]
  refine ⟨[.s (lngB 3 (bodyB p).length)], rfl, fun _ w' _ => c_LongBytes w' 3 _ (by omega) (by show _ < 268435456; exact hb), ?_⟩
  simp only [Tree.goal, X.P, X.ev, V.toI_i, V.toB_b, V.toS_s, V.toR_r, V.toV_v, V.toN_n, V.toL_l, SV.ev, CV.ev, Sc.ev, List.getD_cons_zero, List.getD_cons_succ, List.getElem?_cons_zero, List.getElem?_cons_succ, List.map_cons, List.map_nil, List.length_cons, List.length_nil, List.cons_append, List.nil_append, Nat.zero_add, Nat.reduceAdd, List.length_append, numB_len]
  have hll : (lngB 3 (bodyB p).length).length ≤ 4 := lngB_len 3 _
  refine ⟨by omega, ?_⟩
  intro w5 hr
  have hc := hr.at_ 1 rfl
  simp only [Ent.holds, Tree.goal, X.P, X.ev, V.toI_i, V.toB_b, V.toS_s, V.toR_r, V.toV_v, V.toN_n, V.toL_l, SV.ev, CV.ev, Sc.ev, List.getD_cons_zero, List.getD_cons_succ, List.getElem?_cons_zero, List.getElem?_cons_succ, List.map_cons, List.map_nil, List.length_cons, List.length_nil, List.cons_append, List.nil_append, Nat.zero_add, Nat.reduceAdd, s1.ok.sc1, hq1] at hc
  refine (bld_String 125 bw p1 q1 [] (bodyB p) w5 hc (hr.at_ 0 rfl)).mono ?_
  rintro e w6 ⟨rfl, hm⟩
  have hjq : bw ∉ q1.ownBlock.toList := fun hmem => by
    have h9 : q1.ownBlock = some bw := by simpa using hmem
    exact s1.ne (show blockOf q1 bw from h9) rfl
  refine ⟨[.s (bodyB p), .v p1, .v q1], rfl, rfl, ?_, ?_, fun z hz => absurd hz List.not_mem_nil, apart_nil, ?_⟩
  · refine hm.mono fun z hz => .inl ?_
    simp only [modsOf, goneOf, List.map_cons, List.map_nil, List.flatMap_cons, List.flatMap_nil, List.append_nil, Tree.goal, X.P, X.ev, V.toI_i, V.toB_b, V.toS_s, V.toR_r, V.toV_v, V.toN_n, V.toL_l, SV.ev, CV.ev, Sc.ev, List.getD_cons_zero, List.getD_cons_succ, List.getElem?_cons_zero, List.getElem?_cons_succ, List.map_cons, List.map_nil, List.length_cons, List.length_nil, List.cons_append, List.nil_append, Nat.zero_add, Nat.reduceAdd]
    exact List.mem_cons_of_mem _ hz
  · refine List.forall_mem_cons.2 ⟨?_, List.forall_mem_nil _⟩
    simp only [Ent.holds, Tree.goal, X.P, X.ev, V.toI_i, V.toB_b, V.toS_s, V.toR_r, V.toV_v, V.toN_n, V.toL_l, SV.ev, CV.ev, Sc.ev, List.getD_cons_zero, List.getD_cons_succ, List.getElem?_cons_zero, List.getElem?_cons_succ, List.map_cons, List.map_nil, List.length_cons, List.length_nil, List.cons_append, List.nil_append, Nat.zero_add, Nat.reduceAdd, s1.ok.sc1, hq1]
    rw [hm.block bw (Array.getElem?_eq_some_iff.1 hc).1 hjq]
    exact hc
  · simp only [Tree.goal, X.P, X.ev, V.toI_i, V.toB_b, V.toS_s, V.toR_r, V.toV_v, V.toN_n, V.toL_l, SV.ev, CV.ev, Sc.ev, List.getD_cons_zero, List.getD_cons_succ, List.getElem?_cons_zero, List.getElem?_cons_succ, List.map_cons, List.map_nil, List.length_cons, List.length_nil, List.cons_append, List.nil_append, Nat.zero_add, Nat.reduceAdd, List.length_append, numB_len]
    exact ⟨by omega, fun w' hr => ⟨by rw [bytesP], hr.mod⟩⟩
theorem byte_of {p : Pkt} (h : chkP p = 0) (hs : SmallP p) : ByteP p := by
  obtain ⟨hf, hl⟩ := chk_form h
  have hk := hf.kind
  simp only [kindB, decide_eq_true_eq] at hk
  have hq := hf.qos; have hi := hf.id; have hke := hf.keep; have hc := hf.code
  exact ⟨by omega, by omega, by omega, by omega, by omega, fun a ha => by have := hf.asks a ha; omega, fun c hc => by have := hf.codes c hc; omega, hs, by omega⟩
theorem c_PEncode (hu : readsA w u p.asks) (hv : readsI w v p.codes) (hs : SmallP p) : Calls Tryd.prog 11 #[pV p u v] w
    fun e w' => e = .returned (.tuple #[.string ⟨(if chkP p = 0 then bytesP p else []).toArray⟩, .int .i64 (chkP p)]) ∧ Mod [] w w' := by
  refine as_called (run_tree2 (ρ := [.i p.kind, .b p.dup, .b p.retain, .b p.clean, .b p.session, .i p.qos, .i p.id, .i p.keep, .i p.code, .s p.client, .s p.topic, .s p.payload, .v u, .r (p.asks.map encA), .v v, .r (p.codes.map encI)]) sxE_ok Tryd.func11 tree_packet_Encode rfl rfl (Rel.start2 (by simp [Ent.holds, Ent.wr, hu, hv, X.ev])) rfl rfl ?_) rfl
  simp only [Tree.goal, X.P, X.ev, V.toI_i, V.toB_b, V.toS_s, V.toR_r, V.toV_v, V.toN_n, V.toL_l, SV.ev, CV.ev, Sc.ev, List.getD_cons_zero, List.getD_cons_succ, List.getElem?_cons_zero, List.getElem?_cons_succ, List.map_cons, List.map_nil, List.length_cons, List.length_nil, List.cons_append, List.nil_append, Nat.zero_add, Nat.reduceAdd]
  intro bc
  refine ⟨[.i (chkP p)], rfl, fun _ w' hr => c_PCheck w' p u v (hr.at_ 1 rfl) (hr.at_ 2 rfl) hs, ?_⟩
  simp only [Tree.goal, X.P, X.ev, V.toI_i, V.toB_b, V.toS_s, V.toR_r, V.toV_v, V.toN_n, V.toL_l, SV.ev, CV.ev, Sc.ev, List.getD_cons_zero, List.getD_cons_succ, List.getElem?_cons_zero, List.getElem?_cons_succ, List.map_cons, List.map_nil, List.length_cons, List.length_nil, List.cons_append, List.nil_append, Nat.zero_add, Nat.reduceAdd]
  refine ⟨fun h w' hr => ⟨by rw [if_neg h], hr.mod⟩, fun h => ?_⟩
  have h := Classical.not_not.1 h
  refine ⟨[.s (bytesP p)], rfl, fun _ w' hr => c_PBytes w' p u v (hr.at_ 1 rfl) (hr.at_ 2 rfl) (byte_of h hs), ?_⟩
  simp only [Tree.goal, X.P, X.ev, V.toI_i, V.toB_b, V.toS_s, V.toR_r, V.toV_v, V.toN_n, V.toL_l, SV.ev, CV.ev, Sc.ev, List.getD_cons_zero, List.getD_cons_succ, List.getElem?_cons_zero, List.getElem?_cons_succ, List.map_cons, List.map_nil, List.length_cons, List.length_nil, List.cons_append, List.nil_append, Nat.zero_add, Nat.reduceAdd]
  exact fun w' hr => ⟨by rw [if_pos h, h], hr.mod⟩
end
section
variable (w : World) (p q : Pkt) (u v x y : Value)
theorem asks_eq {a b : List Ak} (hl : a.length = b.length) (h : ∀ i, i < a.length → a.getD i aD = b.getD i aD) : a = b := by
  refine List.ext_getElem hl fun i h1 h2 => ?_
  have := h i h1
  rw [List.getD_eq_getElem?_getD, List.getD_eq_getElem?_getD, List.getElem?_eq_getElem h1, List.getElem?_eq_getElem h2] at this
  exact this
theorem codes_eq {a b : List Int} (hl : a.length = b.length) (h : ∀ i, i < a.length → a.getD i 0 = b.getD i 0) : a = b := by
  refine List.ext_getElem hl fun i h1 h2 => ?_
  have := h i h1
  rw [List.getD_eq_getElem?_getD, List.getD_eq_getElem?_getD, List.getElem?_eq_getElem h1, List.getElem?_eq_getElem h2] at this
  exact this
theorem c_SamePacket (hu : readsA w u p.asks) (hv : readsI w v p.codes) (hx : readsA w x q.asks) (hy : readsI w y q.codes) (hs : SmallP p) :
    Calls Tryd.prog 13 #[pV p u v, pV q x y] w fun e w' => e = .returned (.bool (decide (p = q))) ∧ Mod [] w w' := by
  refine as_called (run_tree2 (ρ := [.i p.kind, .b p.dup, .b p.retain, .b p.clean, .b p.session, .i p.qos, .i p.id, .i p.keep, .i p.code, .s p.client, .s p.topic, .s p.payload, .v u, .r (p.asks.map encA), .v v, .r (p.codes.map encI), .i q.kind, .b q.dup, .b q.retain, .b q.clean, .b q.session, .i q.qos, .i q.id, .i q.keep, .i q.code, .s q.client, .s q.topic, .s q.payload, .v x, .r (q.asks.map encA), .v y, .r (q.codes.map encI)]) sxE_ok Tryd.func13 tree_dragomanref_SamePacket rfl rfl (Rel.start2 (by simp [Ent.holds, Ent.wr, hu, hv, hx, hy, X.ev])) rfl rfl ?_) rfl
  have h4 := hs.asks; have h5 := hs.codes
  simp only [Tree.goal, X.P, X.ev, V.toI_i, V.toB_b, V.toS_s, V.toR_r, V.toV_v, V.toN_n, V.toL_l, SV.ev, CV.ev, Sc.ev, List.getD_cons_zero, List.getD_cons_succ, List.getElem?_cons_zero, List.getElem?_cons_succ, List.map_cons, List.map_nil, List.length_cons, List.length_nil, List.cons_append, List.nil_append, Nat.zero_add, Nat.reduceAdd, List.length_map]
  intro b1 b2
  refine ⟨fun h w' hr => ⟨?_, hr.mod⟩, fun h => ?_⟩
  · have : ¬ p = q := fun e => by subst e; simp at h
    simp [this]
  simp only [not_or, Classical.not_not] at h
  obtain ⟨⟨⟨⟨⟨⟨⟨⟨⟨⟨⟨⟨⟨e1, e2⟩, e3⟩, e4⟩, e5⟩, e6⟩, e7⟩, e8⟩, e9⟩, e10⟩, e11⟩, e12⟩, e13⟩, e14⟩ := h
  refine ⟨fun vs => ∃ (i : Nat) (b : V), vs = [b, .i i] ∧ i ≤ p.asks.length ∧ ∀ j, j < i → p.asks.getD j aD = q.asks.getD j aD, fun vs => p.asks.length - (vs.getD 1 (.i 0)).toI.toNat, ⟨0, _, rfl, by omega, by omega⟩, ?_⟩
  rintro _ - ⟨i, vb, rfl, hi, hg⟩
  simp only [Tree.goal, X.P, X.ev, V.toI_i, V.toB_b, V.toS_s, V.toR_r, V.toV_v, V.toN_n, V.toL_l, SV.ev, CV.ev, Sc.ev, List.getD_cons_zero, List.getD_cons_succ, List.getElem?_cons_zero, List.getElem?_cons_succ, List.map_cons, List.map_nil, List.length_cons, List.length_nil, List.cons_append, List.nil_append, Nat.zero_add, Nat.reduceAdd, List.length_map, Int.toNat_natCast, gA0, gA1]
  refine ⟨fun h2 => ⟨by omega, by omega, fun h3 w' hr => ⟨?_, hr.mod⟩, fun h3 => ⟨by omega, by omega, ⟨i + 1, vb, rfl, by omega, fun j hj => ?_⟩, by omega⟩⟩, fun h2 => ?_⟩
  · have : ¬ p = q := fun e => h3 (by subst e; exact ⟨rfl, rfl⟩)
    simp [this]
  · by_cases hji : j = i
    · subst hji
      have h3 := Classical.not_not.1 h3
      exact Prod.ext h3.1 h3.2
    · exact hg j (by omega)
  have ea := asks_eq (a := p.asks) (b := q.asks) (by omega) (fun j hj => hg j (by omega))
  refine ⟨fun vs => ∃ (i : Nat) (b : V), vs = [b, .i i] ∧ i ≤ p.codes.length ∧ ∀ j, j < i → p.codes.getD j 0 = q.codes.getD j 0, fun vs => p.codes.length - (vs.getD 1 (.i 0)).toI.toNat, ⟨0, _, rfl, by omega, by omega⟩, ?_⟩
  rintro _ - ⟨k, vc, rfl, hk, hgk⟩
  simp only [Tree.goal, X.P, X.ev, V.toI_i, V.toB_b, V.toS_s, V.toR_r, V.toV_v, V.toN_n, V.toL_l, SV.ev, CV.ev, Sc.ev, List.getD_cons_zero, List.getD_cons_succ, List.getElem?_cons_zero, List.getElem?_cons_succ, List.map_cons, List.map_nil, List.length_cons, List.length_nil, List.cons_append, List.nil_append, Nat.zero_add, Nat.reduceAdd, List.length_map, Int.toNat_natCast, gI0]
  refine ⟨fun h3 => ⟨by omega, by omega, fun h4 w' hr => ⟨?_, hr.mod⟩, fun h4 => ⟨by omega, by omega, ⟨k + 1, vc, rfl, by omega, fun j hj => ?_⟩, by omega⟩⟩, fun h3 w' hr => ⟨?_, hr.mod⟩⟩
  · have : ¬ p = q := fun e => h4 (by subst e; rfl)
    simp [this]
  · by_cases hjk : j = k
    · subst hjk; exact Classical.not_not.1 h4
    · exact hgk j (by omega)
  · have ec := codes_eq (a := p.codes) (b := q.codes) (by omega) (fun j hj => hgk j (by omega))
    have : p = q := by
      cases p; cases q
      simp only at *
      simp_all
    simp [this]
end
end Go.Proofs.YtliedecinehijaaDoor
