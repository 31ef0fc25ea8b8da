/-
  Packets: Check, walked. By an AI agent.
-/
import Derived.Test.YtliedecinehijaaDoorQd
set_option linter.unusedSimpArgs false
set_option linter.unusedVariables false
namespace Go.Proofs.YtliedecinehijaaDoor
open Go.Sx

theorem apart_ro2 {ρ : List V} {es : List Ent} (h : ∀ e ∈ es, e.wr = false) : Apart ρ es := by
  refine List.pairwise_iff_forall_sublist.2 fun {a b} hs hw => ?_
  have h1 := h a (hs.subset (by simp))
  have h2 := h b (hs.subset (by simp))
  rw [h1, h2] at hw; simp at hw
section
variable (w : World) (p : Pkt) (u v : Value) (hu : readsA w u p.asks) (hv : readsI w v p.codes) (hs : SmallP p)
include hu hv
/-- A packet's slices are those, or nil. -/
theorem c_pbare : Calls Tryd.prog 77 #[pV p u v] w fun e w' => ∃ x y, e = .returned (pV (bareP p) x y) ∧ readsA w' x (bareP p).asks ∧ readsI w' y (bareP p).codes ∧
    (x = u ∧ (bareP p).asks = p.asks ∨ (bareP p).asks = []) ∧ (y = v ∧ (bareP p).codes = p.codes ∨ (bareP p).codes = []) ∧ Mod [] w w' := by
  refine as_called (run_tree2 (ρ := [.i p.kind, .b p.dup, .b p.retain, .b p.clean, .b p.session, .i p.qos, .i p.id, .i p.keep, .i p.code, .s p.client, .s p.topic, .s p.payload, .v u, .r (p.asks.map encA), .v v, .r (p.codes.map encI)]) sxE_ok Tryd.func77 tree_packet_bare rfl rfl (Rel.start2 (by simp [Ent.holds, Ent.wr, hu, hv, X.ev])) rfl rfl ?_) rfl
  simp only [Tree.goal, X.P, X.ev, V.toI_i, V.toB_b, V.toS_s, V.toR_r, V.toV_v, V.toN_n, V.toL_l, SV.ev, CV.ev, Sc.ev, List.getD_cons_zero, List.getD_cons_succ, List.getElem?_cons_zero, List.getElem?_cons_succ, List.map_cons, List.map_nil, List.length_cons, List.length_nil, List.cons_append, List.nil_append, Nat.zero_add, Nat.reduceAdd]
  intro b1 b2
  have g4 : ∀ q : Pkt, q.kind = p.kind → p.kind ≠ 1 → p.kind ≠ 2 → p.kind ≠ 3 → (p.kind = 4 ∨ p.kind = 11) → bareP p = { p with id := 0 } := fun q _ h1 h2 h3 h => by rw [bareP, if_neg h1, if_neg h2, if_neg h3, if_pos h]
  have g8 : p.kind ≠ 1 → p.kind ≠ 2 → p.kind ≠ 3 → ¬ (p.kind = 4 ∨ p.kind = 11) → (p.kind = 8 ∨ p.kind = 10) → bareP p = { p with id := 0, asks := [] } := fun h1 h2 h3 h4 h => by rw [bareP, if_neg h1, if_neg h2, if_neg h3, if_neg h4, if_pos h]
  refine ⟨fun h1 w' hr => ?_, fun h1 => ⟨fun h2 w' hr => ?_, fun h2 => ⟨fun h3 w' hr => ?_, fun h3 => ⟨fun h4 w' hr => ?_, fun h4 => ⟨fun h5 w' hr => ?_, fun h5 => ⟨fun h6 w' hr => ?_, fun h6 => ⟨fun h7 w' hr => ?_, fun h7 => ⟨fun h8 w' hr => ?_, fun h8 w' hr => ?_⟩⟩⟩⟩⟩⟩⟩⟩
  · have e : bareP p = { p with client := [], clean := false, keep := 0 } := by rw [bareP, if_pos h1]
    rw [e]; exact ⟨u, v, rfl, hr.at_ 2 rfl, hr.at_ 3 rfl, .inl ⟨rfl, rfl⟩, .inl ⟨rfl, rfl⟩, hr.mod⟩
  · have e : bareP p = { p with code := 0, session := false } := by rw [bareP, if_neg h1, if_pos h2]
    rw [e]; exact ⟨u, v, rfl, hr.at_ 2 rfl, hr.at_ 3 rfl, .inl ⟨rfl, rfl⟩, .inl ⟨rfl, rfl⟩, hr.mod⟩
  · have e : bareP p = { p with dup := false, qos := 0, retain := false, topic := [], payload := [], id := 0 } := by rw [bareP, if_neg h1, if_neg h2, if_pos h3]
    rw [e]; exact ⟨u, v, rfl, hr.at_ 2 rfl, hr.at_ 3 rfl, .inl ⟨rfl, rfl⟩, .inl ⟨rfl, rfl⟩, hr.mod⟩
  · rw [g4 p rfl h1 h2 h3 (.inl h4)]; exact ⟨u, v, rfl, hr.at_ 2 rfl, hr.at_ 3 rfl, .inl ⟨rfl, rfl⟩, .inl ⟨rfl, rfl⟩, hr.mod⟩
  · rw [g4 p rfl h1 h2 h3 (.inr h5)]; exact ⟨u, v, rfl, hr.at_ 2 rfl, hr.at_ 3 rfl, .inl ⟨rfl, rfl⟩, .inl ⟨rfl, rfl⟩, hr.mod⟩
  · rw [g8 h1 h2 h3 (by omega) (.inl h6)]
    exact ⟨.slice none 0 0, v, rfl, readsA_nil _, hr.at_ 3 rfl, .inr rfl, .inl ⟨rfl, rfl⟩, hr.mod⟩
  · rw [g8 h1 h2 h3 (by omega) (.inr h7)]
    exact ⟨.slice none 0 0, v, rfl, readsA_nil _, hr.at_ 3 rfl, .inr rfl, .inl ⟨rfl, rfl⟩, hr.mod⟩
  · have e : bareP p = { p with id := 0, codes := [] } := by rw [bareP, if_neg h1, if_neg h2, if_neg h3, if_neg (by omega), if_neg (by omega), if_pos h8]
    rw [e]
    exact ⟨u, .slice none 0 0, rfl, hr.at_ 2 rfl, readsI_nil _, .inl ⟨rfl, rfl⟩, .inr rfl, hr.mod⟩
  · have e : bareP p = p := by rw [bareP, if_neg h1, if_neg h2, if_neg h3, if_neg (by omega), if_neg (by omega), if_neg h8]
    rw [e]; exact ⟨u, v, rfl, hr.at_ 2 rfl, hr.at_ 3 rfl, .inl ⟨rfl, rfl⟩, .inl ⟨rfl, rfl⟩, hr.mod⟩
include hs
theorem c_pparts : Calls Tryd.prog 81 #[pV p u v] w fun e w' => e = .returned (.int .i64 (partsE p)) ∧ Mod [] w w' := by
  refine as_called (run_tree2 (ρ := [.i p.kind, .b p.dup, .b p.retain, .b p.clean, .b p.session, .i p.qos, .i p.id, .i p.keep, .i p.code, .s p.client, .s p.topic, .s p.payload, .v u, .r (p.asks.map encA), .v v, .r (p.codes.map encI)]) sxE_ok Tryd.func81 tree_packet_parts rfl rfl (Rel.start2 (by simp [Ent.holds, Ent.wr, hu, hv, X.ev])) rfl rfl ?_) rfl
  simp only [Tree.goal, X.P, X.ev, V.toI_i, V.toB_b, V.toS_s, V.toR_r, V.toV_v, V.toN_n, V.toL_l, SV.ev, CV.ev, Sc.ev, List.getD_cons_zero, List.getD_cons_succ, List.getElem?_cons_zero, List.getElem?_cons_succ, List.map_cons, List.map_nil, List.length_cons, List.length_nil, List.cons_append, List.nil_append, Nat.zero_add, Nat.reduceAdd]
  intro b
  refine ⟨fun h1 => ?_, fun h1 => ⟨fun h2 => ?_, fun h2 => ⟨fun h3 => ?_, fun h3 => ⟨fun h4 => ?_, fun h4 => ⟨fun h5 => ?_, fun h5 => ⟨fun h6 => ?_, fun h6 w' hr => ⟨?_, hr.mod⟩⟩⟩⟩⟩⟩⟩
  · refine ⟨[.i (connE p)], rfl, fun _ w' hr => c_pconnect w' p u v (hr.at_ 1 rfl) (hr.at_ 2 rfl) hs, ?_⟩
    simp only [Tree.goal, X.P, X.ev, V.toI_i, V.toB_b, V.toS_s, V.toR_r, V.toV_v, V.toN_n, V.toL_l, SV.ev, CV.ev, Sc.ev, List.getD_cons_zero, List.getD_cons_succ, List.getElem?_cons_zero, List.getElem?_cons_succ, List.map_cons, List.map_nil, List.length_cons, List.length_nil, List.cons_append, List.nil_append, Nat.zero_add, Nat.reduceAdd]; exact fun w' hr => ⟨by rw [partsE, if_pos h1], hr.mod⟩
  · refine ⟨[.i (connackE p)], rfl, fun _ w' hr => c_pconnack w' p u v (hr.at_ 1 rfl) (hr.at_ 2 rfl), ?_⟩
    simp only [Tree.goal, X.P, X.ev, V.toI_i, V.toB_b, V.toS_s, V.toR_r, V.toV_v, V.toN_n, V.toL_l, SV.ev, CV.ev, Sc.ev, List.getD_cons_zero, List.getD_cons_succ, List.getElem?_cons_zero, List.getElem?_cons_succ, List.map_cons, List.map_nil, List.length_cons, List.length_nil, List.cons_append, List.nil_append, Nat.zero_add, Nat.reduceAdd]; exact fun w' hr => ⟨by rw [partsE, if_neg h1, if_pos h2], hr.mod⟩
  · refine ⟨[.i (pubE p)], rfl, fun _ w' hr => c_ppublish w' p u v (hr.at_ 1 rfl) (hr.at_ 2 rfl) hs, ?_⟩
    simp only [Tree.goal, X.P, X.ev, V.toI_i, V.toB_b, V.toS_s, V.toR_r, V.toV_v, V.toN_n, V.toL_l, SV.ev, CV.ev, Sc.ev, List.getD_cons_zero, List.getD_cons_succ, List.getElem?_cons_zero, List.getElem?_cons_succ, List.map_cons, List.map_nil, List.length_cons, List.length_nil, List.cons_append, List.nil_append, Nat.zero_add, Nat.reduceAdd]; exact fun w' hr => ⟨by rw [partsE, if_neg h1, if_neg h2, if_pos h3], hr.mod⟩
  · refine ⟨[.i (asksE p)], rfl, fun _ w' hr => c_pasks w' p u v (hr.at_ 1 rfl) (hr.at_ 2 rfl) hs, ?_⟩
    simp only [Tree.goal, X.P, X.ev, V.toI_i, V.toB_b, V.toS_s, V.toR_r, V.toV_v, V.toN_n, V.toL_l, SV.ev, CV.ev, Sc.ev, List.getD_cons_zero, List.getD_cons_succ, List.getElem?_cons_zero, List.getElem?_cons_succ, List.map_cons, List.map_nil, List.length_cons, List.length_nil, List.cons_append, List.nil_append, Nat.zero_add, Nat.reduceAdd]; exact fun w' hr => ⟨by rw [partsE, if_neg h1, if_neg h2, if_neg h3, if_pos (.inl h4)], hr.mod⟩
  · refine ⟨[.i (asksE p)], rfl, fun _ w' hr => c_pasks w' p u v (hr.at_ 1 rfl) (hr.at_ 2 rfl) hs, ?_⟩
    simp only [Tree.goal, X.P, X.ev, V.toI_i, V.toB_b, V.toS_s, V.toR_r, V.toV_v, V.toN_n, V.toL_l, SV.ev, CV.ev, Sc.ev, List.getD_cons_zero, List.getD_cons_succ, List.getElem?_cons_zero, List.getElem?_cons_succ, List.map_cons, List.map_nil, List.length_cons, List.length_nil, List.cons_append, List.nil_append, Nat.zero_add, Nat.reduceAdd]; exact fun w' hr => ⟨by rw [partsE, if_neg h1, if_neg h2, if_neg h3, if_pos (.inr h5)], hr.mod⟩
  · refine ⟨[.i (codesE p)], rfl, fun _ w' hr => c_pcodes w' p u v (hr.at_ 1 rfl) (hr.at_ 2 rfl) hs, ?_⟩
    simp only [Tree.goal, X.P, X.ev, V.toI_i, V.toB_b, V.toS_s, V.toR_r, V.toV_v, V.toN_n, V.toL_l, SV.ev, CV.ev, Sc.ev, List.getD_cons_zero, List.getD_cons_succ, List.getElem?_cons_zero, List.getElem?_cons_succ, List.map_cons, List.map_nil, List.length_cons, List.length_nil, List.cons_append, List.nil_append, Nat.zero_add, Nat.reduceAdd]; exact fun w' hr => ⟨by rw [partsE, if_neg h1, if_neg h2, if_neg h3, if_neg (by omega), if_pos h6], hr.mod⟩
  · rw [partsE, if_neg h1, if_neg h2, if_neg h3, if_neg (by omega), if_neg h6]
theorem c_PCheck : Calls Tryd.prog 45 #[pV p u v] w fun e w' => e = .returned (.int .i64 (chkP p)) ∧ Mod [] w w' := by
  refine as_called (run_tree2 (ρ := [.i p.kind, .b p.dup, .b p.retain, .b p.clean, .b p.session, .i p.qos, .i p.id, .i p.keep, .i p.code, .s p.client, .s p.topic, .s p.payload, .v u, .r (p.asks.map encA), .v v, .r (p.codes.map encI)]) sxE_ok Tryd.func45 tree_packet_Check rfl rfl (Rel.start2 (by simp [Ent.holds, Ent.wr, hu, hv, X.ev])) rfl rfl ?_) rfl
  simp only [Tree.goal, X.P, X.ev, V.toI_i, V.toB_b, V.toS_s, V.toR_r, V.toV_v, V.toN_n, V.toL_l, SV.ev, CV.ev, Sc.ev, List.getD_cons_zero, List.getD_cons_succ, List.getElem?_cons_zero, List.getElem?_cons_succ, List.map_cons, List.map_nil, List.length_cons, List.length_nil, List.cons_append, List.nil_append, Nat.zero_add, Nat.reduceAdd]
  intro b
  refine ⟨[.b (kindB p.kind)], rfl, fun _ w' _ => c_pkind w' _, ?_⟩
  simp only [Tree.goal, X.P, X.ev, V.toI_i, V.toB_b, V.toS_s, V.toR_r, V.toV_v, V.toN_n, V.toL_l, SV.ev, CV.ev, Sc.ev, List.getD_cons_zero, List.getD_cons_succ, List.getElem?_cons_zero, List.getElem?_cons_succ, List.map_cons, List.map_nil, List.length_cons, List.length_nil, List.cons_append, List.nil_append, Nat.zero_add, Nat.reduceAdd]
  refine ⟨fun h w' hr => ⟨by rw [chkP, if_neg h], hr.mod⟩, fun h => ?_⟩
  have h := Classical.not_not.1 h
  rw [chkP, if_pos h]
  intro w1 hr
  refine (c_pbare w1 p u v (hr.at_ 1 rfl) (hr.at_ 2 rfl)).mono ?_
  rintro e w2 ⟨x, y, rfl, rx, ry, ex, ey, m2⟩
  generalize hq : bareP p = q at rx ry ex ey ⊢
  have hsq : SmallP q := by rw [← hq]; exact hs.bare
  refine ⟨[.i q.kind, .b q.dup, .b q.retain, .b q.clean, .b q.session, .i q.qos, .i q.id, .i q.keep, .i q.code, .s q.client, .s q.topic, .s q.payload, .v x, .r (q.asks.map encA), .v y, .r (q.codes.map encI)], rfl, rfl, m2, List.forall_mem_nil _, List.forall_mem_cons.2 ⟨⟨rx, fun k hk => .inr (.inl ⟨rfl, ?_⟩)⟩, List.forall_mem_cons.2 ⟨⟨ry, fun k hk => .inr (.inl ⟨rfl, ?_⟩)⟩, List.forall_mem_nil _⟩⟩, apart_ro2 (by simp [Ent.wr]), ?_⟩
  · rcases ex with ⟨rfl, e1⟩ | e1
    · refine ⟨_, List.mem_cons_of_mem _ (List.mem_cons_self ..), rfl, ?_⟩
      simp only [Ent.fp, Tree.goal, X.P, X.ev, V.toI_i, V.toB_b, V.toS_s, V.toR_r, V.toV_v, V.toN_n, V.toL_l, SV.ev, CV.ev, Sc.ev, List.getD_cons_zero, List.getD_cons_succ, List.getElem?_cons_zero, List.getElem?_cons_succ, List.map_cons, List.map_nil, List.length_cons, List.length_nil, List.cons_append, List.nil_append, Nat.zero_add, Nat.reduceAdd] at hk ⊢
      rw [e1] at hk; exact hk
    · simp only [Ent.fp, Tree.goal, X.P, X.ev, V.toI_i, V.toB_b, V.toS_s, V.toR_r, V.toV_v, V.toN_n, V.toL_l, SV.ev, CV.ev, Sc.ev, List.getD_cons_zero, List.getD_cons_succ, List.getElem?_cons_zero, List.getElem?_cons_succ, List.map_cons, List.map_nil, List.length_cons, List.length_nil, List.cons_append, List.nil_append, Nat.zero_add, Nat.reduceAdd, e1] at hk; exact absurd rfl hk.1
  · rcases ey with ⟨rfl, e1⟩ | e1
    · refine ⟨_, List.mem_cons_of_mem _ (List.mem_cons_of_mem _ (List.mem_cons_self ..)), rfl, ?_⟩
      simp only [Ent.fp, Tree.goal, X.P, X.ev, V.toI_i, V.toB_b, V.toS_s, V.toR_r, V.toV_v, V.toN_n, V.toL_l, SV.ev, CV.ev, Sc.ev, List.getD_cons_zero, List.getD_cons_succ, List.getElem?_cons_zero, List.getElem?_cons_succ, List.map_cons, List.map_nil, List.length_cons, List.length_nil, List.cons_append, List.nil_append, Nat.zero_add, Nat.reduceAdd] at hk ⊢
      rw [e1] at hk; exact hk
    · simp only [Ent.fp, Tree.goal, X.P, X.ev, V.toI_i, V.toB_b, V.toS_s, V.toR_r, V.toV_v, V.toN_n, V.toL_l, SV.ev, CV.ev, Sc.ev, List.getD_cons_zero, List.getD_cons_succ, List.getElem?_cons_zero, List.getElem?_cons_succ, List.map_cons, List.map_nil, List.length_cons, List.length_nil, List.cons_append, List.nil_append, Nat.zero_add, Nat.reduceAdd, e1] at hk; exact absurd rfl hk.1
  simp only [Tree.goal, X.P, X.ev, V.toI_i, V.toB_b, V.toS_s, V.toR_r, V.toV_v, V.toN_n, V.toL_l, SV.ev, CV.ev, Sc.ev, List.getD_cons_zero, List.getD_cons_succ, List.getElem?_cons_zero, List.getElem?_cons_succ, List.map_cons, List.map_nil, List.length_cons, List.length_nil, List.cons_append, List.nil_append, Nat.zero_add, Nat.reduceAdd]
  refine ⟨[.b (emptyB q)], rfl, fun _ w' hr => c_pempty w' q x y (hr.at_ 0 rfl) (hr.at_ 1 rfl) hsq, ?_⟩
  simp only [Tree.goal, X.P, X.ev, V.toI_i, V.toB_b, V.toS_s, V.toR_r, V.toV_v, V.toN_n, V.toL_l, SV.ev, CV.ev, Sc.ev, List.getD_cons_zero, List.getD_cons_succ, List.getElem?_cons_zero, List.getElem?_cons_succ, List.map_cons, List.map_nil, List.length_cons, List.length_nil, List.cons_append, List.nil_append, Nat.zero_add, Nat.reduceAdd]
  refine ⟨fun h w' hr => ⟨by rw [if_neg h], hr.mod⟩, fun h => ?_⟩
  have h := Classical.not_not.1 h
  rw [if_pos h]
  refine ⟨fun h1 => ?_, fun h1 => ?_⟩
  · refine ⟨[.i (pubE p)], rfl, fun _ w' hr => c_ppublish w' p u v (hr.at_ 3 rfl) (hr.at_ 4 rfl) hs, ?_⟩
    simp only [Tree.goal, X.P, X.ev, V.toI_i, V.toB_b, V.toS_s, V.toR_r, V.toV_v, V.toN_n, V.toL_l, SV.ev, CV.ev, Sc.ev, List.getD_cons_zero, List.getD_cons_succ, List.getElem?_cons_zero, List.getElem?_cons_succ, List.map_cons, List.map_nil, List.length_cons, List.length_nil, List.cons_append, List.nil_append, Nat.zero_add, Nat.reduceAdd]
    refine ⟨fun h2 w' hr => ⟨by rw [if_pos ⟨h1, h2⟩], hr.mod⟩, fun h2 => ?_⟩
    have hn : ¬ (p.kind = 3 ∧ pubE p ≠ 0) := fun hh => h2 hh.2
    refine ⟨[.b (idB p)], rfl, fun _ w' hr => c_pid w' p u v (hr.at_ 3 rfl) (hr.at_ 4 rfl), ?_⟩; simp only [Tree.goal, X.P, X.ev, V.toI_i, V.toB_b, V.toS_s, V.toR_r, V.toV_v, V.toN_n, V.toL_l, SV.ev, CV.ev, Sc.ev, List.getD_cons_zero, List.getD_cons_succ, List.getElem?_cons_zero, List.getElem?_cons_succ, List.map_cons, List.map_nil, List.length_cons, List.length_nil, List.cons_append, List.nil_append, Nat.zero_add, Nat.reduceAdd]; refine ⟨fun h3 => ⟨fun h4 w' hr => ⟨?_, hr.mod⟩, fun h4 => ?_⟩, fun h3 => ?_⟩; (· rw [if_neg (by assumption), if_pos ⟨h3, h4⟩]); (· rw [if_neg (by assumption), if_neg (fun hh => h4 hh.2)]; refine ⟨[.i (partsE p)], rfl, fun _ w' hr => c_pparts w' p u v (hr.at_ 3 rfl) (hr.at_ 4 rfl) hs, ?_⟩; simp only [Tree.goal, X.P, X.ev, V.toI_i, V.toB_b, V.toS_s, V.toR_r, V.toV_v, V.toN_n, V.toL_l, SV.ev, CV.ev, Sc.ev, List.getD_cons_zero, List.getD_cons_succ, List.getElem?_cons_zero, List.getElem?_cons_succ, List.map_cons, List.map_nil, List.length_cons, List.length_nil, List.cons_append, List.nil_append, Nat.zero_add, Nat.reduceAdd]; exact fun w' hr => ⟨by trivial, hr.mod⟩); (· rw [if_neg (by assumption), if_neg (fun hh => h3 hh.1)]; refine ⟨[.i (partsE p)], rfl, fun _ w' hr => c_pparts w' p u v (hr.at_ 3 rfl) (hr.at_ 4 rfl) hs, ?_⟩; simp only [Tree.goal, X.P, X.ev, V.toI_i, V.toB_b, V.toS_s, V.toR_r, V.toV_v, V.toN_n, V.toL_l, SV.ev, CV.ev, Sc.ev, List.getD_cons_zero, List.getD_cons_succ, List.getElem?_cons_zero, List.getElem?_cons_succ, List.map_cons, List.map_nil, List.length_cons, List.length_nil, List.cons_append, List.nil_append, Nat.zero_add, Nat.reduceAdd]; exact fun w' hr => ⟨by trivial, hr.mod⟩)
  · have hn : ¬ (p.kind = 3 ∧ pubE p ≠ 0) := fun hh => h1 hh.1
    refine ⟨[.b (idB p)], rfl, fun _ w' hr => c_pid w' p u v (hr.at_ 3 rfl) (hr.at_ 4 rfl), ?_⟩; simp only [Tree.goal, X.P, X.ev, V.toI_i, V.toB_b, V.toS_s, V.toR_r, V.toV_v, V.toN_n, V.toL_l, SV.ev, CV.ev, Sc.ev, List.getD_cons_zero, List.getD_cons_succ, List.getElem?_cons_zero, List.getElem?_cons_succ, List.map_cons, List.map_nil, List.length_cons, List.length_nil, List.cons_append, List.nil_append, Nat.zero_add, Nat.reduceAdd]; refine ⟨fun h3 => ⟨fun h4 w' hr => ⟨?_, hr.mod⟩, fun h4 => ?_⟩, fun h3 => ?_⟩; (· rw [if_neg (by assumption), if_pos ⟨h3, h4⟩]); (· rw [if_neg (by assumption), if_neg (fun hh => h4 hh.2)]; refine ⟨[.i (partsE p)], rfl, fun _ w' hr => c_pparts w' p u v (hr.at_ 3 rfl) (hr.at_ 4 rfl) hs, ?_⟩; simp only [Tree.goal, X.P, X.ev, V.toI_i, V.toB_b, V.toS_s, V.toR_r, V.toV_v, V.toN_n, V.toL_l, SV.ev, CV.ev, Sc.ev, List.getD_cons_zero, List.getD_cons_succ, List.getElem?_cons_zero, List.getElem?_cons_succ, List.map_cons, List.map_nil, List.length_cons, List.length_nil, List.cons_append, List.nil_append, Nat.zero_add, Nat.reduceAdd]; exact fun w' hr => ⟨by trivial, hr.mod⟩); (· rw [if_neg (by assumption), if_neg (fun hh => h3 hh.1)]; refine ⟨[.i (partsE p)], rfl, fun _ w' hr => c_pparts w' p u v (hr.at_ 3 rfl) (hr.at_ 4 rfl) hs, ?_⟩; simp only [Tree.goal, X.P, X.ev, V.toI_i, V.toB_b, V.toS_s, V.toR_r, V.toV_v, V.toN_n, V.toL_l, SV.ev, CV.ev, Sc.ev, List.getD_cons_zero, List.getD_cons_succ, List.getElem?_cons_zero, List.getElem?_cons_succ, List.map_cons, List.map_nil, List.length_cons, List.length_nil, List.cons_append, List.nil_append, Nat.zero_add, Nat.reduceAdd]; exact fun w' hr => ⟨by trivial, hr.mod⟩)
end
end Go.Proofs.YtliedecinehijaaDoor
