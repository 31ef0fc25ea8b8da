/-
  Packets: what is checked of them, walked. By an AI agent.
-/
import Derived.Test.YtliedecinehijaaGreatDoorZ11
import Derived.Test.YtliedecinehijaaGreatDoorZ12
set_option linter.unusedSimpArgs false
set_option linter.unusedVariables false
namespace Go.Proofs.YtliedecinehijaaGreatDoor
open Go.Sx

def encA (a : Ak) : List Value := [.string ⟨a.1.toArray⟩, .int .i64 a.2]
def encI (n : Int) : List Value := [.int .i64 n]
abbrev aD : Ak := ([], 0)
abbrev readsA (w : World) (v : Value) (l : List Ak) : Prop := reads w v [.str, .int .i64] (l.map encA)
abbrev readsI (w : World) (v : Value) (l : List Int) : Prop := reads w v [.int .i64] (l.map encI)
theorem readsA_nil (w : World) : readsA w (.slice none 0 0) [] := ⟨by simp, none, 0, rfl, ⟨fun _ => rfl, Nat.le_refl _⟩, fun h => absurd rfl h⟩
theorem readsI_nil (w : World) : readsI w (.slice none 0 0) [] := ⟨by simp, none, 0, rfl, ⟨fun _ => rfl, Nat.le_refl _⟩, fun h => absurd rfl h⟩
theorem gA0 (l : List Ak) (i : Nat) : Value.gS (((l.map encA).getD i []).getD 0 undef) = (l.getD i aD).1 := by
  simp only [List.getD_eq_getElem?_getD, List.getElem?_map]
  cases l[i]? <;> simp [encA, Value.gS, undef]
theorem gA1 (l : List Ak) (i : Nat) : Value.gI (((l.map encA).getD i []).getD 1 undef) = (l.getD i aD).2 := by
  simp only [List.getD_eq_getElem?_getD, List.getElem?_map]
  cases l[i]? <;> simp [encA, Value.gI, undef]
theorem gI0 (l : List Int) (i : Nat) : Value.gI (((l.map encI).getD i []).getD 0 undef) = l.getD i 0 := by
  simp only [List.getD_eq_getElem?_getD, List.getElem?_map]
  cases l[i]? <;> simp [encI, Value.gI, undef]
theorem dropA (l : List Ak) (i : Nat) (h : i < l.length) : l.drop i = l.getD i aD :: l.drop (i + 1) := by
  rw [List.drop_eq_getElem_cons h, List.getD_eq_getElem?_getD, List.getElem?_eq_getElem h]; rfl
theorem dropI (l : List Int) (i : Nat) (h : i < l.length) : l.drop i = l.getD i 0 :: l.drop (i + 1) := by
  rw [List.drop_eq_getElem_cons h, List.getD_eq_getElem?_getD, List.getElem?_eq_getElem h]; rfl
/-- A packet's value: its slices are u and v. -/
def pV (p : Pkt) (u v : Value) : Value := .agg #[.int .i64 p.kind, .bool p.dup, .bool p.retain, .bool p.clean, .bool p.session, .int .i64 p.qos, .int .i64 p.id, .int .i64 p.keep, .int .i64 p.code, .string ⟨p.client.toArray⟩, .string ⟨p.topic.toArray⟩, .string ⟨p.payload.toArray⟩, sc1 u, sc1 v]
structure SmallP (p : Pkt) : Prop where
  client : p.client.length < 1000000000
  topic : p.topic.length < 1000000000
  payload : p.payload.length < 1000000000
  asks : p.asks.length < 1000000000
  codes : p.codes.length < 1000000000
  filt : ∀ a ∈ p.asks, a.1.length < 1000000000
theorem SmallP.at_ {p : Pkt} (h : SmallP p) (i : Nat) : (p.asks.getD i aD).1.length < 1000000000 := by
  by_cases hi : i < p.asks.length
  · rw [List.getD_eq_getElem?_getD, List.getElem?_eq_getElem hi]; exact h.filt _ (List.getElem_mem hi)
  · rw [List.getD_eq_getElem?_getD, List.getElem?_eq_none (by omega)]; decide
theorem SmallP.bare {p : Pkt} (h : SmallP p) : SmallP (bareP p) := by
  obtain ⟨a, b, c, d, e, f⟩ := h
  unfold bareP
  (repeat' split) <;> exact ⟨by simp_all, by simp_all, by simp_all, by simp_all, by simp_all, by first | exact f | (intro a ha; simp at ha)⟩

theorem c_pkind (w : World) (n : Int) : Calls Tryz.prog 48 #[.int .i64 n] w fun e w' => e = .returned (.bool (kindB n)) ∧ Mod [] w w' := by
  refine as_called (run_plain2 (ρ := [.i n]) sxE_ok Tryz.func48 tree_packet_kind rfl rfl rfl ?_) rfl
  simp only [Tree.goal, X.P, X.ev, V.toI_i, V.toB_b, V.toS_s, V.toR_r, V.toV_v, V.toN_n, V.toL_l, SV.ev, CV.ev, Sc.ev, List.getD_cons_zero, List.getD_cons_succ, List.getElem?_cons_zero, List.getElem?_cons_succ, List.map_cons, List.map_nil, List.length_cons, List.length_nil, List.cons_append, List.nil_append, Nat.zero_add, Nat.reduceAdd]
  exact ⟨fun h w' hr => ⟨by simp [kindB, h], hr.mod⟩, fun h w' hr => ⟨by simp [kindB, h], hr.mod⟩⟩
theorem c_PClient (w : World) (s : List UInt8) (hs : s.length < 1099511627776) : Calls Tryz.prog 119 #[.string ⟨s.toArray⟩] w fun e w' => e = .returned (.bool (cliB s)) ∧ Mod [] w w' := by
  refine as_called (run_plain2 (ρ := [.s s]) sxE_ok Tryz.func119 tree_packet_Client rfl rfl rfl ?_) rfl
  simp only [Tree.goal, X.P, X.ev, V.toI_i, V.toB_b, V.toS_s, V.toR_r, V.toV_v, V.toN_n, V.toL_l, SV.ev, CV.ev, Sc.ev, List.getD_cons_zero, List.getD_cons_succ, List.getElem?_cons_zero, List.getElem?_cons_succ, List.map_cons, List.map_nil, List.length_cons, List.length_nil, List.cons_append, List.nil_append, Nat.zero_add, Nat.reduceAdd]
  refine ⟨[.b (plainS s)], rfl, fun _ w' _ => c_Plain w' s hs, ?_⟩
  simp only [Tree.goal, X.P, X.ev, V.toI_i, V.toB_b, V.toS_s, V.toR_r, V.toV_v, V.toN_n, V.toL_l, SV.ev, CV.ev, Sc.ev, List.getD_cons_zero, List.getD_cons_succ, List.getElem?_cons_zero, List.getElem?_cons_succ, List.map_cons, List.map_nil, List.length_cons, List.length_nil, List.cons_append, List.nil_append, Nat.zero_add, Nat.reduceAdd]
  exact fun w' hr => ⟨by simp [cliB], hr.mod⟩
theorem c_count (w : World) (n : Nat) : Calls Tryz.prog 155 #[.int .i64 n] w fun e w' => e = .returned (.int .i64 (countE n)) ∧ Mod [] w w' := by
  refine as_called (run_plain2 (ρ := [.i n]) sxE_ok Tryz.func155 tree_packet_count rfl rfl rfl ?_) rfl
  simp only [Tree.goal, X.P, X.ev, V.toI_i, V.toB_b, V.toS_s, V.toR_r, V.toV_v, V.toN_n, V.toL_l, SV.ev, CV.ev, Sc.ev, List.getD_cons_zero, List.getD_cons_succ, List.getElem?_cons_zero, List.getElem?_cons_succ, List.map_cons, List.map_nil, List.length_cons, List.length_nil, List.cons_append, List.nil_append, Nat.zero_add, Nat.reduceAdd]
  refine ⟨fun h w' hr => ⟨?_, hr.mod⟩, fun h => ⟨fun h1 w' hr => ⟨?_, hr.mod⟩, fun h1 w' hr => ⟨?_, hr.mod⟩⟩⟩
  · rw [countE, if_pos (by omega)]
  · rw [countE, if_neg (by omega), if_pos (by omega)]
  · rw [countE, if_neg (by omega), if_neg (by omega)]
theorem c_PAsk (w : World) (a : Ak) (h : a.1.length < 1000000000) : Calls Tryz.prog 120 #[.agg #[.string ⟨a.1.toArray⟩, .int .i64 a.2]] w fun e w' => e = .returned (.int .i64 (askE a)) ∧ Mod [] w w' := by
  refine as_called (run_plain2 (ρ := [.s a.1, .i a.2]) sxE_ok Tryz.func120 tree_packet_Ask rfl rfl rfl ?_) rfl
  simp only [Tree.goal, X.P, X.ev, V.toI_i, V.toB_b, V.toS_s, V.toR_r, V.toV_v, V.toN_n, V.toL_l, SV.ev, CV.ev, Sc.ev, List.getD_cons_zero, List.getD_cons_succ, List.getElem?_cons_zero, List.getElem?_cons_succ, List.map_cons, List.map_nil, List.length_cons, List.length_nil, List.cons_append, List.nil_append, Nat.zero_add, Nat.reduceAdd]
  intro b
  refine ⟨[.i (chkT a.1 true)], rfl, fun _ w' _ => c_Filter w' _ (by omega), ?_⟩
  simp only [Tree.goal, X.P, X.ev, V.toI_i, V.toB_b, V.toS_s, V.toR_r, V.toV_v, V.toN_n, V.toL_l, SV.ev, CV.ev, Sc.ev, List.getD_cons_zero, List.getD_cons_succ, List.getElem?_cons_zero, List.getElem?_cons_succ, List.map_cons, List.map_nil, List.length_cons, List.length_nil, List.cons_append, List.nil_append, Nat.zero_add, Nat.reduceAdd]
  refine ⟨fun h w' hr => ⟨by rw [askE, if_neg h], hr.mod⟩, fun h => ⟨fun h1 w' hr => ⟨?_, hr.mod⟩, fun h1 w' hr => ⟨?_, hr.mod⟩⟩⟩
  · rw [askE, if_pos (Classical.not_not.1 h), if_neg h1]
  · rw [askE, if_pos (Classical.not_not.1 h), if_pos (Classical.not_not.1 h1)]

section
variable (w : World) (p : Pkt) (u v : Value) (hu : readsA w u p.asks) (hv : readsI w v p.codes) (hs : SmallP p)
include hu hv
theorem c_pid : Calls Tryz.prog 63 #[pV p u v] w fun e w' => e = .returned (.bool (idB p)) ∧ Mod [] w w' := by
  refine as_called (run_tree2 (ρ := [.i p.kind, .b p.dup, .b p.retain, .b p.clean, .b p.session, .i p.qos, .i p.id, .i p.keep, .i p.code, .s p.client, .s p.topic, .s p.payload, .v u, .r (p.asks.map encA), .v v, .r (p.codes.map encI)]) sxE_ok Tryz.func63 tree_packet_id rfl rfl (Rel.start2 (by simp [Ent.holds, Ent.wr, hu, hv, X.ev])) rfl rfl ?_) rfl
  simp only [Tree.goal, X.P, X.ev, V.toI_i, V.toB_b, V.toS_s, V.toR_r, V.toV_v, V.toN_n, V.toL_l, SV.ev, CV.ev, Sc.ev, List.getD_cons_zero, List.getD_cons_succ, List.getElem?_cons_zero, List.getElem?_cons_succ, List.map_cons, List.map_nil, List.length_cons, List.length_nil, List.cons_append, List.nil_append, Nat.zero_add, Nat.reduceAdd]
  intro b
  refine ⟨fun h w' hr => ⟨?_, hr.mod⟩, fun h => ⟨fun h1 w' hr => ⟨?_, hr.mod⟩, fun h1 => ⟨fun h2 w' hr => ⟨?_, hr.mod⟩, fun h2 => ⟨fun h3 w' hr => ⟨?_, hr.mod⟩, fun h3 => ⟨fun h4 w' hr => ⟨?_, hr.mod⟩, fun h4 => ⟨fun h5 w' hr => ⟨?_, hr.mod⟩, fun h5 w' hr => ⟨?_, hr.mod⟩⟩⟩⟩⟩⟩⟩ <;>
    (simp only [idB, Ending.returned.injEq, Value.bool.injEq]; first | exact decide_eq_decide.2 (by omega) | (symm; simp only [decide_eq_true_eq, decide_eq_false_iff_not]; omega))
theorem c_pconnack : Calls Tryz.prog 115 #[pV p u v] w fun e w' => e = .returned (.int .i64 (connackE p)) ∧ Mod [] w w' := by
  refine as_called (run_tree2 (ρ := [.i p.kind, .b p.dup, .b p.retain, .b p.clean, .b p.session, .i p.qos, .i p.id, .i p.keep, .i p.code, .s p.client, .s p.topic, .s p.payload, .v u, .r (p.asks.map encA), .v v, .r (p.codes.map encI)]) sxE_ok Tryz.func115 tree_packet_connack rfl rfl (Rel.start2 (by simp [Ent.holds, Ent.wr, hu, hv, X.ev])) rfl rfl ?_) rfl
  simp only [Tree.goal, X.P, X.ev, V.toI_i, V.toB_b, V.toS_s, V.toR_r, V.toV_v, V.toN_n, V.toL_l, SV.ev, CV.ev, Sc.ev, List.getD_cons_zero, List.getD_cons_succ, List.getElem?_cons_zero, List.getElem?_cons_succ, List.map_cons, List.map_nil, List.length_cons, List.length_nil, List.cons_append, List.nil_append, Nat.zero_add, Nat.reduceAdd]
  intro b
  refine ⟨fun h w' hr => ⟨by rw [connackE, if_neg h], hr.mod⟩, fun h => ⟨fun h2 w' hr => ⟨?_, hr.mod⟩, fun h2 w' hr => ⟨?_, hr.mod⟩⟩⟩
  · rw [connackE, if_pos (Classical.not_not.1 h), if_pos h2]
  · rw [connackE, if_pos (Classical.not_not.1 h), if_neg h2]
include hs
theorem c_pempty : Calls Tryz.prog 60 #[pV p u v] w fun e w' => e = .returned (.bool (emptyB p)) ∧ Mod [] w w' := by
  refine as_called (run_tree2 (ρ := [.i p.kind, .b p.dup, .b p.retain, .b p.clean, .b p.session, .i p.qos, .i p.id, .i p.keep, .i p.code, .s p.client, .s p.topic, .s p.payload, .v u, .r (p.asks.map encA), .v v, .r (p.codes.map encI)]) sxE_ok Tryz.func60 tree_packet_empty rfl rfl (Rel.start2 (by simp [Ent.holds, Ent.wr, hu, hv, X.ev])) rfl rfl ?_) rfl
  have h1 := hs.client; have h2 := hs.topic; have h3 := hs.payload; have h4 := hs.asks; have h5 := hs.codes
  simp only [Tree.goal, X.P, X.ev, V.toI_i, V.toB_b, V.toS_s, V.toR_r, V.toV_v, V.toN_n, V.toL_l, SV.ev, CV.ev, Sc.ev, List.getD_cons_zero, List.getD_cons_succ, List.getElem?_cons_zero, List.getElem?_cons_succ, List.map_cons, List.map_nil, List.length_cons, List.length_nil, List.cons_append, List.nil_append, Nat.zero_add, Nat.reduceAdd, List.length_map, List.length_append]
  intro b
  refine ⟨.inr (by omega), .inr (by omega), .inr (by omega), fun w' hr => ⟨?_, hr.mod⟩⟩
  obtain ⟨k, d, r, c, se, q, i, ke, co, cl, t, pl, az, cs⟩ := p
  simp only [emptyB, Ending.returned.injEq, Value.bool.injEq, Pkt.mk.injEq]
  have e1 : ((az.length : Int) + (cs.length : Int) = 0) ↔ az = [] ∧ cs = [] := by
    rw [← List.length_eq_zero_iff, ← List.length_eq_zero_iff]; omega
  rw [Bool.eq_iff_iff]
  simp only [Bool.and_eq_true, Bool.not_eq_true', decide_eq_true_eq, e1, List.append_eq_nil_iff]
  constructor <;> (intro h; simp_all)
theorem c_pconnect : Calls Tryz.prog 114 #[pV p u v] w fun e w' => e = .returned (.int .i64 (connE p)) ∧ Mod [] w w' := by
  refine as_called (run_tree2 (ρ := [.i p.kind, .b p.dup, .b p.retain, .b p.clean, .b p.session, .i p.qos, .i p.id, .i p.keep, .i p.code, .s p.client, .s p.topic, .s p.payload, .v u, .r (p.asks.map encA), .v v, .r (p.codes.map encI)]) sxE_ok Tryz.func114 tree_packet_connect rfl rfl (Rel.start2 (by simp [Ent.holds, Ent.wr, hu, hv, X.ev])) rfl rfl ?_) rfl
  have h1 := hs.client
  simp only [Tree.goal, X.P, X.ev, V.toI_i, V.toB_b, V.toS_s, V.toR_r, V.toV_v, V.toN_n, V.toL_l, SV.ev, CV.ev, Sc.ev, List.getD_cons_zero, List.getD_cons_succ, List.getElem?_cons_zero, List.getElem?_cons_succ, List.map_cons, List.map_nil, List.length_cons, List.length_nil, List.cons_append, List.nil_append, Nat.zero_add, Nat.reduceAdd]
  intro b
  refine ⟨fun h w' hr => ⟨by rw [connE, if_pos h], hr.mod⟩, fun h => ?_⟩
  refine ⟨[.b (cliB p.client)], rfl, fun _ w' _ => c_PClient w' _ (by omega), ?_⟩
  simp only [Tree.goal, X.P, X.ev, V.toI_i, V.toB_b, V.toS_s, V.toR_r, V.toV_v, V.toN_n, V.toL_l, SV.ev, CV.ev, Sc.ev, List.getD_cons_zero, List.getD_cons_succ, List.getElem?_cons_zero, List.getElem?_cons_succ, List.map_cons, List.map_nil, List.length_cons, List.length_nil, List.cons_append, List.nil_append, Nat.zero_add, Nat.reduceAdd]
  refine ⟨fun h2 w' hr => ⟨by rw [connE, if_neg h, if_neg h2], hr.mod⟩, fun h2 => ⟨fun h3 w' hr => ⟨?_, hr.mod⟩, fun h3 w' hr => ⟨?_, hr.mod⟩⟩⟩
  · rw [connE, if_neg h, if_pos (Classical.not_not.1 h2), if_neg h3]
  · rw [connE, if_neg h, if_pos (Classical.not_not.1 h2), if_pos (Classical.not_not.1 h3)]
theorem c_ppublish : Calls Tryz.prog 62 #[pV p u v] w fun e w' => e = .returned (.int .i64 (pubE p)) ∧ Mod [] w w' := by
  refine as_called (run_tree2 (ρ := [.i p.kind, .b p.dup, .b p.retain, .b p.clean, .b p.session, .i p.qos, .i p.id, .i p.keep, .i p.code, .s p.client, .s p.topic, .s p.payload, .v u, .r (p.asks.map encA), .v v, .r (p.codes.map encI)]) sxE_ok Tryz.func62 tree_packet_publish rfl rfl (Rel.start2 (by simp [Ent.holds, Ent.wr, hu, hv, X.ev])) rfl rfl ?_) rfl
  have h1 := hs.topic
  simp only [Tree.goal, X.P, X.ev, V.toI_i, V.toB_b, V.toS_s, V.toR_r, V.toV_v, V.toN_n, V.toL_l, SV.ev, CV.ev, Sc.ev, List.getD_cons_zero, List.getD_cons_succ, List.getElem?_cons_zero, List.getElem?_cons_succ, List.map_cons, List.map_nil, List.length_cons, List.length_nil, List.cons_append, List.nil_append, Nat.zero_add, Nat.reduceAdd]
  intro b
  refine ⟨[.i (chkT p.topic false)], rfl, fun _ w' _ => c_Name w' _ (by omega), ?_⟩
  simp only [Tree.goal, X.P, X.ev, V.toI_i, V.toB_b, V.toS_s, V.toR_r, V.toV_v, V.toN_n, V.toL_l, SV.ev, CV.ev, Sc.ev, List.getD_cons_zero, List.getD_cons_succ, List.getElem?_cons_zero, List.getElem?_cons_succ, List.map_cons, List.map_nil, List.length_cons, List.length_nil, List.cons_append, List.nil_append, Nat.zero_add, Nat.reduceAdd]
  refine ⟨fun h w' hr => ⟨by rw [pubE, if_neg h], hr.mod⟩, fun h => ?_⟩
  have h := Classical.not_not.1 h
  refine ⟨fun h2 w' hr => ⟨by rw [pubE, if_pos h, if_pos h2], hr.mod⟩, fun h2 => ⟨fun h3 w' hr => ⟨?_, hr.mod⟩, fun h3 => ⟨fun h4 w' hr => ⟨?_, hr.mod⟩, fun h4 w' hr => ⟨?_, hr.mod⟩⟩⟩⟩
  · rw [pubE, if_pos h, if_neg h2, if_neg h3]
  · rw [pubE, if_pos h, if_neg h2, if_pos (Classical.not_not.1 h3), if_pos h4]
  · rw [pubE, if_pos h, if_neg h2, if_pos (Classical.not_not.1 h3), if_neg h4]
theorem c_pasks : Calls Tryz.prog 116 #[pV p u v] w fun e w' => e = .returned (.int .i64 (asksE p)) ∧ Mod [] w w' := by
  refine as_called (run_tree2 (ρ := [.i p.kind, .b p.dup, .b p.retain, .b p.clean, .b p.session, .i p.qos, .i p.id, .i p.keep, .i p.code, .s p.client, .s p.topic, .s p.payload, .v u, .r (p.asks.map encA), .v v, .r (p.codes.map encI)]) sxE_ok Tryz.func116 tree_packet_asks rfl rfl (Rel.start2 (by simp [Ent.holds, Ent.wr, hu, hv, X.ev])) rfl rfl ?_) rfl
  have h1 := hs.asks
  have hf := hs.at_
  simp only [Tree.goal, X.P, X.ev, V.toI_i, V.toB_b, V.toS_s, V.toR_r, V.toV_v, V.toN_n, V.toL_l, SV.ev, CV.ev, Sc.ev, List.getD_cons_zero, List.getD_cons_succ, List.getElem?_cons_zero, List.getElem?_cons_succ, List.map_cons, List.map_nil, List.length_cons, List.length_nil, List.cons_append, List.nil_append, Nat.zero_add, Nat.reduceAdd, List.length_map]
  intro b
  refine ⟨[.i (countE p.asks.length)], rfl, fun _ w' _ => c_count w' _, ?_⟩
  simp only [Tree.goal, X.P, X.ev, V.toI_i, V.toB_b, V.toS_s, V.toR_r, V.toV_v, V.toN_n, V.toL_l, SV.ev, CV.ev, Sc.ev, List.getD_cons_zero, List.getD_cons_succ, List.getElem?_cons_zero, List.getElem?_cons_succ, List.map_cons, List.map_nil, List.length_cons, List.length_nil, List.cons_append, List.nil_append, Nat.zero_add, Nat.reduceAdd, List.length_map]
  refine ⟨fun h w' hr => ⟨by rw [asksE, if_neg h], hr.mod⟩, fun h => ?_⟩
  have h := Classical.not_not.1 h
  rw [asksE, if_pos h]
  refine ⟨fun vs => ∃ (i : Nat) (x : V), vs = [x, .i i] ∧ i ≤ p.asks.length ∧ asksL p.kind (p.asks.drop i) = asksL p.kind p.asks, fun vs => p.asks.length - (vs.getD 1 (.i 0)).toI.toNat, ⟨0, _, rfl, by omega, rfl⟩, ?_⟩
  rintro _ - ⟨i, x, rfl, hi, hg⟩
  simp only [Tree.goal, X.P, X.ev, V.toI_i, V.toB_b, V.toS_s, V.toR_r, V.toV_v, V.toN_n, V.toL_l, SV.ev, CV.ev, Sc.ev, List.getD_cons_zero, List.getD_cons_succ, List.getElem?_cons_zero, List.getElem?_cons_succ, List.map_cons, List.map_nil, List.length_cons, List.length_nil, List.cons_append, List.nil_append, Nat.zero_add, Nat.reduceAdd, List.length_map, Int.toNat_natCast, gA0, gA1]
  refine ⟨fun h2 => ⟨by omega, fun b => ⟨fun hk => ?_, fun hk => ?_⟩⟩, fun h2 w' hr => ⟨?_, hr.mod⟩⟩
  · rw [dropA _ _ (by omega), asksL, if_pos hk] at hg
    refine ⟨[.i (askE (p.asks.getD i aD))], rfl, fun _ w' _ => c_PAsk w' _ (hf i), ?_⟩
    simp only [Tree.goal, X.P, X.ev, V.toI_i, V.toB_b, V.toS_s, V.toR_r, V.toV_v, V.toN_n, V.toL_l, SV.ev, CV.ev, Sc.ev, List.getD_cons_zero, List.getD_cons_succ, List.getElem?_cons_zero, List.getElem?_cons_succ, List.map_cons, List.map_nil, List.length_cons, List.length_nil, List.cons_append, List.nil_append, Nat.zero_add, Nat.reduceAdd]
    refine ⟨fun h3 w' hr => ⟨by rw [← hg, if_neg h3], hr.mod⟩, fun h3 => ⟨by omega, by omega, ⟨i + 1, x, rfl, by omega, ?_⟩, by omega⟩⟩
    rw [← hg, if_pos (Classical.not_not.1 h3)]
  · rw [dropA _ _ (by omega), asksL, if_neg hk] at hg
    have := hf i
    refine ⟨[.i (chkT (p.asks.getD i aD).1 true)], rfl, fun _ w' _ => c_Filter w' _ (by omega), ?_⟩
    simp only [Tree.goal, X.P, X.ev, V.toI_i, V.toB_b, V.toS_s, V.toR_r, V.toV_v, V.toN_n, V.toL_l, SV.ev, CV.ev, Sc.ev, List.getD_cons_zero, List.getD_cons_succ, List.getElem?_cons_zero, List.getElem?_cons_succ, List.map_cons, List.map_nil, List.length_cons, List.length_nil, List.cons_append, List.nil_append, Nat.zero_add, Nat.reduceAdd, gA1]
    refine ⟨fun h3 w' hr => ⟨?_, hr.mod⟩, fun h3 => ⟨fun h4 w' hr => ⟨?_, hr.mod⟩, fun h4 => ⟨by omega, by omega, ⟨i + 1, x, rfl, by omega, ?_⟩, by omega⟩⟩⟩
    · have e : noaskE (p.asks.getD i aD) = chkT (p.asks.getD i aD).1 true := by rw [noaskE, if_neg h3]
      rw [← hg, e, if_neg h3]
    · have e : noaskE (p.asks.getD i aD) = 1 := by rw [noaskE, if_pos (Classical.not_not.1 h3), if_neg h4]
      rw [← hg, e]; rfl
    · have e : noaskE (p.asks.getD i aD) = 0 := by rw [noaskE, if_pos (Classical.not_not.1 h3), if_pos (Classical.not_not.1 h4)]
      rw [← hg, e]; rfl
  · have : i = p.asks.length := by omega
    subst this
    rw [List.drop_length] at hg
    rw [← hg]; rfl
theorem c_pcodes : Calls Tryz.prog 117 #[pV p u v] w fun e w' => e = .returned (.int .i64 (codesE p)) ∧ Mod [] w w' := by
  refine as_called (run_tree2 (ρ := [.i p.kind, .b p.dup, .b p.retain, .b p.clean, .b p.session, .i p.qos, .i p.id, .i p.keep, .i p.code, .s p.client, .s p.topic, .s p.payload, .v u, .r (p.asks.map encA), .v v, .r (p.codes.map encI)]) sxE_ok Tryz.func117 tree_packet_codes rfl rfl (Rel.start2 (by simp [Ent.holds, Ent.wr, hu, hv, X.ev])) rfl rfl ?_) rfl
  have h1 := hs.codes
  simp only [Tree.goal, X.P, X.ev, V.toI_i, V.toB_b, V.toS_s, V.toR_r, V.toV_v, V.toN_n, V.toL_l, SV.ev, CV.ev, Sc.ev, List.getD_cons_zero, List.getD_cons_succ, List.getElem?_cons_zero, List.getElem?_cons_succ, List.map_cons, List.map_nil, List.length_cons, List.length_nil, List.cons_append, List.nil_append, Nat.zero_add, Nat.reduceAdd, List.length_map]
  intro b
  refine ⟨[.i (countE p.codes.length)], rfl, fun _ w' _ => c_count w' _, ?_⟩
  simp only [Tree.goal, X.P, X.ev, V.toI_i, V.toB_b, V.toS_s, V.toR_r, V.toV_v, V.toN_n, V.toL_l, SV.ev, CV.ev, Sc.ev, List.getD_cons_zero, List.getD_cons_succ, List.getElem?_cons_zero, List.getElem?_cons_succ, List.map_cons, List.map_nil, List.length_cons, List.length_nil, List.cons_append, List.nil_append, Nat.zero_add, Nat.reduceAdd, List.length_map]
  refine ⟨fun h w' hr => ⟨by rw [codesE, if_neg h], hr.mod⟩, fun h => ?_⟩
  have h := Classical.not_not.1 h
  rw [codesE, if_pos h]
  refine ⟨fun vs => ∃ (i : Nat) (x : V), vs = [x, .i i] ∧ i ≤ p.codes.length ∧ (p.codes.drop i).any codeB = p.codes.any codeB, fun vs => p.codes.length - (vs.getD 1 (.i 0)).toI.toNat, ⟨0, _, rfl, by omega, rfl⟩, ?_⟩
  rintro _ - ⟨i, x, rfl, hi, hg⟩
  simp only [Tree.goal, X.P, X.ev, V.toI_i, V.toB_b, V.toS_s, V.toR_r, V.toV_v, V.toN_n, V.toL_l, SV.ev, CV.ev, Sc.ev, List.getD_cons_zero, List.getD_cons_succ, List.getElem?_cons_zero, List.getElem?_cons_succ, List.map_cons, List.map_nil, List.length_cons, List.length_nil, List.cons_append, List.nil_append, Nat.zero_add, Nat.reduceAdd, List.length_map, Int.toNat_natCast, gI0]
  refine ⟨fun h2 => ?_, fun h2 => ?_⟩
  · rw [dropI _ _ (by omega), List.any_cons] at hg
    refine ⟨by omega, fun h3 w' hr => ⟨?_, hr.mod⟩, fun h3 => ⟨by omega, by omega, ⟨i + 1, x, rfl, by omega, ?_⟩, by omega⟩⟩
    · have e : codeB (p.codes.getD i 0) = true := by simp only [codeB, decide_eq_true_eq]; exact ⟨h3.1.1, h3.1.2, h3.2⟩
      rw [← hg, e]; rfl
    · have e : codeB (p.codes.getD i 0) = false := by
        simp only [codeB, decide_eq_false_iff_not]; exact fun h4 => h3 ⟨⟨h4.1, h4.2.1⟩, h4.2.2⟩
      rw [← hg, e]; rfl
  · have : i = p.codes.length := by omega
    subst this
    rw [List.drop_length] at hg
    rw [← hg]
    exact ⟨fun h3 => absurd h3 (by omega), fun h3 w' hr => ⟨rfl, hr.mod⟩⟩
end
end Go.Proofs.YtliedecinehijaaGreatDoor
