/-
  Packets: the laws PacketApart, PacketBack, walked. By an AI agent.
-/
import Derived.Test.YtliedecinehijaaDoorZ13
import Derived.Test.YtliedecinehijaaDoorZ14
set_option linter.unusedSimpArgs false
set_option linter.unusedVariables false
namespace Go.Proofs.YtliedecinehijaaDoor
open Go.Sx

def pubP : Pkt := ⟨3, false, false, false, false, 1, 10, 0, 0, [], [97, 47, 98], [104, 105], [], []⟩
theorem pubP_ok : chkP pubP = 0 := by decide +kernel
theorem pubP_bytes : bytesP pubP = [50, 9, 0, 3, 97, 47, 98, 0, 10, 104, 105] := by decide +kernel
theorem pubP_small : SmallP pubP := ⟨by decide, by decide, by decide, by decide, by decide, by decide⟩
theorem decD_pub : decD [50, 9, 0, 3, 97, 47, 98, 0, 10, 104, 105] = (pubP, 0) := by rw [← pubP_bytes]; exact decD_back pubP_ok
theorem c_pub (w : World) : Calls Tryd.prog 47 #[] w fun e w' => e = .returned (pV pubP nilV nilV) ∧ Mod [] w w' := by
  refine as_called (run_plain2 (ρ := []) sxE_ok Tryd.func47 tree_dragomanlaw_pub rfl rfl rfl ?_) rfl
  simp only [Tree.goal, X.P, X.ev, V.toI_i, V.toB_b, V.toS_s, V.toR_r, V.toV_v, V.toN_n, V.toL_l, SV.ev, CV.ev, Sc.ev, List.getD_cons_zero, List.getD_cons_succ, List.getElem?_cons_zero, List.getElem?_cons_succ, List.map_cons, List.map_nil, List.length_cons, List.length_nil, List.cons_append, List.nil_append, Nat.zero_add, Nat.reduceAdd]
  exact fun b w' hr => ⟨rfl, hr.mod⟩
theorem c_packetBegun (w : World) : Calls Tryd.prog 12 #[] w fun e w' => e = .returned (.bool true) ∧ Mod [] w w' := by
  refine as_called (run_plain2 (ρ := []) sxE_ok Tryd.func12 tree_dragomanlaw_packetBegun rfl rfl rfl ?_) rfl
  simp only [Tree.goal, X.P, X.ev, V.toI_i, V.toB_b, V.toS_s, V.toR_r, V.toV_v, V.toN_n, V.toL_l, SV.ev, CV.ev, Sc.ev, List.getD_cons_zero, List.getD_cons_succ, List.getElem?_cons_zero, List.getElem?_cons_succ, List.map_cons, List.map_nil, List.length_cons, List.length_nil, List.cons_append, List.nil_append, Nat.zero_add, Nat.reduceAdd]
  intro w1 hr; refine (c_pub w1).mono ?_; rintro e w2 ⟨rfl, m⟩; refine ⟨[.i 3, .b false, .b false, .b false, .b false, .i 1, .i 10, .i 0, .i 0, .s [], .s [97, 47, 98], .s [104, 105], .v nilV, .r [], .v nilV, .r []], rfl, rfl, m, List.forall_mem_nil _, List.forall_mem_cons.2 ⟨⟨readsA_nil _, fun k hk => absurd rfl hk.1⟩, List.forall_mem_cons.2 ⟨⟨readsI_nil _, fun k hk => absurd rfl hk.1⟩, List.forall_mem_nil _⟩⟩, apart_ro2 (by simp [Ent.wr]), ?_⟩; simp only [Tree.goal, X.P, X.ev, V.toI_i, V.toB_b, V.toS_s, V.toR_r, V.toV_v, V.toN_n, V.toL_l, SV.ev, CV.ev, Sc.ev, List.getD_cons_zero, List.getD_cons_succ, List.getElem?_cons_zero, List.getElem?_cons_succ, List.map_cons, List.map_nil, List.length_cons, List.length_nil, List.cons_append, List.nil_append, Nat.zero_add, Nat.reduceAdd]; clear m hr
  refine ⟨[.s (if chkP pubP = 0 then bytesP pubP else []), .i (chkP pubP)], rfl, fun _ w' hr => c_PEncode w' pubP nilV nilV (readsA_nil _) (readsI_nil _) pubP_small, ?_⟩
  simp only [Tree.goal, X.P, X.ev, V.toI_i, V.toB_b, V.toS_s, V.toR_r, V.toV_v, V.toN_n, V.toL_l, SV.ev, CV.ev, Sc.ev, List.getD_cons_zero, List.getD_cons_succ, List.getElem?_cons_zero, List.getElem?_cons_succ, List.map_cons, List.map_nil, List.length_cons, List.length_nil, List.cons_append, List.nil_append, Nat.zero_add, Nat.reduceAdd, pubP_ok, if_true, pubP_bytes]
  intro w1 hr
  refine (c_PDecode w1 [50, 9, 0, 3, 97, 47, 98, 0, 10, 104, 105] (by decide)).mono ?_
  rintro e w2 ⟨x, y, rfl, m, rx, ry, fx, fy⟩
  rw [decD_pub] at rx ry ⊢
  refine ⟨[.i 3, .b false, .b false, .b false, .b false, .i 1, .i 10, .i 0, .i 0, .s [], .s [97, 47, 98], .s [104, 105], .v x, .r [], .v y, .r [], .i 0], rfl, rfl, m, List.forall_mem_nil _, List.forall_mem_cons.2 ⟨⟨rx, fun k hk => .inl (fx k hk.2)⟩, List.forall_mem_cons.2 ⟨⟨ry, fun k hk => .inl (fy k hk.2)⟩, List.forall_mem_nil _⟩⟩, apart_ro2 (by simp [Ent.wr]), ?_⟩
  simp only [Tree.goal, X.P, X.ev, V.toI_i, V.toB_b, V.toS_s, V.toR_r, V.toV_v, V.toN_n, V.toL_l, SV.ev, CV.ev, Sc.ev, List.getD_cons_zero, List.getD_cons_succ, List.getElem?_cons_zero, List.getElem?_cons_succ, List.map_cons, List.map_nil, List.length_cons, List.length_nil, List.cons_append, List.nil_append, Nat.zero_add, Nat.reduceAdd]
  clear m hr
  intro bq
  refine ⟨fun _ => ?_, fun h => absurd ⟨trivial, trivial⟩ h⟩
  intro w1 hr; refine (c_pub w1).mono ?_; rintro e w2 ⟨rfl, m⟩; refine ⟨[.i 3, .b false, .b false, .b false, .b false, .i 1, .i 10, .i 0, .i 0, .s [], .s [97, 47, 98], .s [104, 105], .v nilV, .r [], .v nilV, .r []], rfl, rfl, m, List.forall_mem_nil _, List.forall_mem_cons.2 ⟨⟨readsA_nil _, fun k hk => absurd rfl hk.1⟩, List.forall_mem_cons.2 ⟨⟨readsI_nil _, fun k hk => absurd rfl hk.1⟩, List.forall_mem_nil _⟩⟩, apart_ro2 (by simp [Ent.wr]), ?_⟩; simp only [Tree.goal, X.P, X.ev, V.toI_i, V.toB_b, V.toS_s, V.toR_r, V.toV_v, V.toN_n, V.toL_l, SV.ev, CV.ev, Sc.ev, List.getD_cons_zero, List.getD_cons_succ, List.getElem?_cons_zero, List.getElem?_cons_succ, List.map_cons, List.map_nil, List.length_cons, List.length_nil, List.cons_append, List.nil_append, Nat.zero_add, Nat.reduceAdd]; clear m hr
  refine ⟨[.i (chkP pubP)], rfl, fun _ w' hr => c_PCheck w' pubP nilV nilV (readsA_nil _) (readsI_nil _) pubP_small, ?_⟩
  simp only [Tree.goal, X.P, X.ev, V.toI_i, V.toB_b, V.toS_s, V.toR_r, V.toV_v, V.toN_n, V.toL_l, SV.ev, CV.ev, Sc.ev, List.getD_cons_zero, List.getD_cons_succ, List.getElem?_cons_zero, List.getElem?_cons_succ, List.map_cons, List.map_nil, List.length_cons, List.length_nil, List.cons_append, List.nil_append, Nat.zero_add, Nat.reduceAdd, pubP_ok]
  refine ⟨⟨fun _ => ?_, fun h => absurd ⟨trivial, trivial⟩ h⟩, ⟨fun _ => ?_, fun h => absurd ⟨trivial, trivial⟩ h⟩⟩
  all_goals
    intro w1 hr; refine (c_pub w1).mono ?_; rintro e w2 ⟨rfl, m⟩; refine ⟨[.i 3, .b false, .b false, .b false, .b false, .i 1, .i 10, .i 0, .i 0, .s [], .s [97, 47, 98], .s [104, 105], .v nilV, .r [], .v nilV, .r []], rfl, rfl, m, List.forall_mem_nil _, List.forall_mem_cons.2 ⟨⟨readsA_nil _, fun k hk => absurd rfl hk.1⟩, List.forall_mem_cons.2 ⟨⟨readsI_nil _, fun k hk => absurd rfl hk.1⟩, List.forall_mem_nil _⟩⟩, apart_ro2 (by simp [Ent.wr]), ?_⟩; simp only [Tree.goal, X.P, X.ev, V.toI_i, V.toB_b, V.toS_s, V.toR_r, V.toV_v, V.toN_n, V.toL_l, SV.ev, CV.ev, Sc.ev, List.getD_cons_zero, List.getD_cons_succ, List.getElem?_cons_zero, List.getElem?_cons_succ, List.map_cons, List.map_nil, List.length_cons, List.length_nil, List.cons_append, List.nil_append, Nat.zero_add, Nat.reduceAdd]; clear m hr
    refine ⟨[.b (decide (pubP = pubP))], rfl, fun _ w' hr => c_SamePacket w' pubP pubP x y nilV nilV (by first | exact hr.at_ 5 rfl | exact hr.at_ 4 rfl) (by first | exact hr.at_ 6 rfl | exact hr.at_ 5 rfl) (readsA_nil _) (readsI_nil _) pubP_small, ?_⟩
    simp only [Tree.goal, X.P, X.ev, V.toI_i, V.toB_b, V.toS_s, V.toR_r, V.toV_v, V.toN_n, V.toL_l, SV.ev, CV.ev, Sc.ev, List.getD_cons_zero, List.getD_cons_succ, List.getElem?_cons_zero, List.getElem?_cons_succ, List.map_cons, List.map_nil, List.length_cons, List.length_nil, List.cons_append, List.nil_append, Nat.zero_add, Nat.reduceAdd]
    exact fun w' hr => ⟨by simp, hr.mod⟩
section
variable (w : World) (p q : Pkt) (u v x y : Value)
theorem c_PacketApart (hu : readsA w u p.asks) (hv : readsI w v p.codes) (hx : readsA w x q.asks) (hy : readsI w y q.codes) (hs : SmallP p) (hs2 : SmallP q) :
    Calls Tryd.prog 3 #[pV p u v, pV q x y] w fun e w' => e = .returned (.bool true) ∧ Mod [] w w' := by
  refine as_called (run_tree2 (ρ := [.i p.kind, .b p.dup, .b p.retain, .b p.clean, .b p.session, .i p.qos, .i p.id, .i p.keep, .i p.code, .s p.client, .s p.topic, .s p.payload, .v u, .r (p.asks.map encA), .v v, .r (p.codes.map encI), .i q.kind, .b q.dup, .b q.retain, .b q.clean, .b q.session, .i q.qos, .i q.id, .i q.keep, .i q.code, .s q.client, .s q.topic, .s q.payload, .v x, .r (q.asks.map encA), .v y, .r (q.codes.map encI)]) sxE_ok Tryd.func3 tree_dragomanlaw_PacketApart rfl rfl (Rel.start2 (by simp [Ent.holds, Ent.wr, hu, hv, hx, hy, X.ev])) rfl rfl ?_) rfl
  simp only [Tree.goal, X.P, X.ev, V.toI_i, V.toB_b, V.toS_s, V.toR_r, V.toV_v, V.toN_n, V.toL_l, SV.ev, CV.ev, Sc.ev, List.getD_cons_zero, List.getD_cons_succ, List.getElem?_cons_zero, List.getElem?_cons_succ, List.map_cons, List.map_nil, List.length_cons, List.length_nil, List.cons_append, List.nil_append, Nat.zero_add, Nat.reduceAdd]
  intro b1 b2
  refine ⟨[.s (if chkP p = 0 then bytesP p else []), .i (chkP p)], rfl, fun _ w' hr => c_PEncode w' p u v (hr.at_ 2 rfl) (hr.at_ 3 rfl) hs, ?_⟩
  simp only [Tree.goal, X.P, X.ev, V.toI_i, V.toB_b, V.toS_s, V.toR_r, V.toV_v, V.toN_n, V.toL_l, SV.ev, CV.ev, Sc.ev, List.getD_cons_zero, List.getD_cons_succ, List.getElem?_cons_zero, List.getElem?_cons_succ, List.map_cons, List.map_nil, List.length_cons, List.length_nil, List.cons_append, List.nil_append, Nat.zero_add, Nat.reduceAdd]
  refine ⟨[.s (if chkP q = 0 then bytesP q else []), .i (chkP q)], rfl, fun _ w' hr => c_PEncode w' q x y (hr.at_ 4 rfl) (hr.at_ 5 rfl) hs2, ?_⟩
  simp only [Tree.goal, X.P, X.ev, V.toI_i, V.toB_b, V.toS_s, V.toR_r, V.toV_v, V.toN_n, V.toL_l, SV.ev, CV.ev, Sc.ev, List.getD_cons_zero, List.getD_cons_succ, List.getElem?_cons_zero, List.getElem?_cons_succ, List.map_cons, List.map_nil, List.length_cons, List.length_nil, List.cons_append, List.nil_append, Nat.zero_add, Nat.reduceAdd]
  refine ⟨[.b true], rfl, fun _ w' _ => c_packetBegun w', ?_⟩
  simp only [Tree.goal, X.P, X.ev, V.toI_i, V.toB_b, V.toS_s, V.toR_r, V.toV_v, V.toN_n, V.toL_l, SV.ev, CV.ev, Sc.ev, List.getD_cons_zero, List.getD_cons_succ, List.getElem?_cons_zero, List.getElem?_cons_succ, List.map_cons, List.map_nil, List.length_cons, List.length_nil, List.cons_append, List.nil_append, Nat.zero_add, Nat.reduceAdd]
  refine ⟨fun h => absurd (by trivial) h, fun _ => ⟨fun _ w' hr => ⟨by trivial, hr.mod⟩, fun h => ?_⟩⟩
  simp only [not_or, Classical.not_not] at h
  obtain ⟨⟨hp, hq⟩, hl⟩ := h
  simp only [hp, hq, if_true] at hl ⊢
  refine ⟨by omega, ?_⟩
  refine ⟨[.b (decide (p = q))], rfl, fun _ w' hr => c_SamePacket w' p q u v x y (hr.at_ 2 rfl) (hr.at_ 3 rfl) (hr.at_ 4 rfl) (hr.at_ 5 rfl) hs, ?_⟩
  simp only [Tree.goal, X.P, X.ev, V.toI_i, V.toB_b, V.toS_s, V.toR_r, V.toV_v, V.toN_n, V.toL_l, SV.ev, CV.ev, Sc.ev, List.getD_cons_zero, List.getD_cons_succ, List.getElem?_cons_zero, List.getElem?_cons_succ, List.map_cons, List.map_nil, List.length_cons, List.length_nil, List.cons_append, List.nil_append, Nat.zero_add, Nat.reduceAdd]
  refine fun w' hr => ⟨?_, hr.mod⟩
  by_cases ht : (bytesP q).take (bytesP p).length = bytesP p
  · have := apartP hp hq ht
    simp [this]
  · simp [ht]
theorem c_PacketBack (s : List UInt8) (hu : readsA w u p.asks) (hv : readsI w v p.codes) (hs : SmallP p) (hl : s.length ≤ 60000000) :
    Calls Tryd.prog 4 #[pV p u v, .string ⟨s.toArray⟩] w fun e w' => e = .returned (.bool true) ∧ Mod [] w w' := by
  refine as_called (run_tree2 (ρ := [.i p.kind, .b p.dup, .b p.retain, .b p.clean, .b p.session, .i p.qos, .i p.id, .i p.keep, .i p.code, .s p.client, .s p.topic, .s p.payload, .v u, .r (p.asks.map encA), .v v, .r (p.codes.map encI), .s s]) sxE_ok Tryd.func4 tree_dragomanlaw_PacketBack rfl rfl (Rel.start2 (by simp [Ent.holds, Ent.wr, hu, hv, X.ev])) rfl rfl ?_) rfl
  simp only [Tree.goal, X.P, X.ev, V.toI_i, V.toB_b, V.toS_s, V.toR_r, V.toV_v, V.toN_n, V.toL_l, SV.ev, CV.ev, Sc.ev, List.getD_cons_zero, List.getD_cons_succ, List.getElem?_cons_zero, List.getElem?_cons_succ, List.map_cons, List.map_nil, List.length_cons, List.length_nil, List.cons_append, List.nil_append, Nat.zero_add, Nat.reduceAdd]
  intro b1
  refine ⟨[.b true], rfl, fun _ w' _ => c_packetBegun w', ?_⟩
  simp only [Tree.goal, X.P, X.ev, V.toI_i, V.toB_b, V.toS_s, V.toR_r, V.toV_v, V.toN_n, V.toL_l, SV.ev, CV.ev, Sc.ev, List.getD_cons_zero, List.getD_cons_succ, List.getElem?_cons_zero, List.getElem?_cons_succ, List.map_cons, List.map_nil, List.length_cons, List.length_nil, List.cons_append, List.nil_append, Nat.zero_add, Nat.reduceAdd]
  refine ⟨fun h => absurd (by trivial) h, fun _ => ?_⟩
  refine ⟨[.s (if chkP p = 0 then bytesP p else []), .i (chkP p)], rfl, fun _ w' hr => c_PEncode w' p u v (hr.at_ 1 rfl) (hr.at_ 2 rfl) hs, ?_⟩
  simp only [Tree.goal, X.P, X.ev, V.toI_i, V.toB_b, V.toS_s, V.toR_r, V.toV_v, V.toN_n, V.toL_l, SV.ev, CV.ev, Sc.ev, List.getD_cons_zero, List.getD_cons_succ, List.getElem?_cons_zero, List.getElem?_cons_succ, List.map_cons, List.map_nil, List.length_cons, List.length_nil, List.cons_append, List.nil_append, Nat.zero_add, Nat.reduceAdd]
  refine ⟨fun h => ?_, fun h => ?_⟩
  · simp only [h, if_true]
    have hlen := (chk_form h).2
    have hbl : (bytesP p).length ≤ 60000000 := by
      have := lngB_len 3 (bodyB p).length
      simp only [bytesP, List.length_append, numB_len]; omega
    intro w1 hr
    refine (c_PDecode w1 (bytesP p) hbl).mono ?_
    rw [decD_back h]
    rintro e w2 ⟨x, y, rfl, m, rx, ry, fx, fy⟩
    refine ⟨[.i p.kind, .b p.dup, .b p.retain, .b p.clean, .b p.session, .i p.qos, .i p.id, .i p.keep, .i p.code, .s p.client, .s p.topic, .s p.payload, .v x, .r (p.asks.map encA), .v y, .r (p.codes.map encI), .i 0], rfl, rfl, m, List.forall_mem_nil _, List.forall_mem_cons.2 ⟨⟨rx, fun k hk => .inl (fx k hk.2)⟩, List.forall_mem_cons.2 ⟨⟨ry, fun k hk => .inl (fy k hk.2)⟩, List.forall_mem_nil _⟩⟩, apart_ro2 (by simp [Ent.wr]), ?_⟩
    simp only [Tree.goal, X.P, X.ev, V.toI_i, V.toB_b, V.toS_s, V.toR_r, V.toV_v, V.toN_n, V.toL_l, SV.ev, CV.ev, Sc.ev, List.getD_cons_zero, List.getD_cons_succ, List.getElem?_cons_zero, List.getElem?_cons_succ, List.map_cons, List.map_nil, List.length_cons, List.length_nil, List.cons_append, List.nil_append, Nat.zero_add, Nat.reduceAdd]
    clear m hr
    intro b3
    refine ⟨[.b (decide (p = p))], rfl, fun _ w' hr => c_SamePacket w' p p x y u v (hr.at_ 1 rfl) (hr.at_ 2 rfl) (hr.at_ 4 rfl) (hr.at_ 5 rfl) hs, ?_⟩
    simp only [Tree.goal, X.P, X.ev, V.toI_i, V.toB_b, V.toS_s, V.toR_r, V.toV_v, V.toN_n, V.toL_l, SV.ev, CV.ev, Sc.ev, List.getD_cons_zero, List.getD_cons_succ, List.getElem?_cons_zero, List.getElem?_cons_succ, List.map_cons, List.map_nil, List.length_cons, List.length_nil, List.cons_append, List.nil_append, Nat.zero_add, Nat.reduceAdd]
    refine ⟨fun h => absurd h (by simp), fun _ => ?_⟩
    clear rx ry fx fy
    intro w1 hr; refine (c_PDecode w1 s hl).mono ?_; rintro e w2 ⟨x, y, rfl, m, rx, ry, fx, fy⟩; have hok := @decD_ok s; have hbad := @decD_bad s; have hsm := @decD_small s hl; (generalize decD s = r at rx ry hok hbad hsm ⊢); obtain ⟨q, e⟩ := r; refine ⟨[.i q.kind, .b q.dup, .b q.retain, .b q.clean, .b q.session, .i q.qos, .i q.id, .i q.keep, .i q.code, .s q.client, .s q.topic, .s q.payload, .v x, .r (q.asks.map encA), .v y, .r (q.codes.map encI), .i e], rfl, rfl, m, List.forall_mem_nil _, List.forall_mem_cons.2 ⟨⟨rx, fun k hk => .inl (fx k hk.2)⟩, List.forall_mem_cons.2 ⟨⟨ry, fun k hk => .inl (fy k hk.2)⟩, List.forall_mem_nil _⟩⟩, apart_ro2 (by simp [Ent.wr]), ?_⟩; simp only [Tree.goal, X.P, X.ev, V.toI_i, V.toB_b, V.toS_s, V.toR_r, V.toV_v, V.toN_n, V.toL_l, SV.ev, CV.ev, Sc.ev, List.getD_cons_zero, List.getD_cons_succ, List.getElem?_cons_zero, List.getElem?_cons_succ, List.map_cons, List.map_nil, List.length_cons, List.length_nil, List.cons_append, List.nil_append, Nat.zero_add, Nat.reduceAdd]; clear m hr; intro b4; refine ⟨fun h w' hr => ⟨by { have hb : q = pD 0 := hbad h; rw [hb]; rfl }, hr.mod⟩, fun h => ?_⟩; have h := Classical.not_not.1 h; obtain ⟨k1, k2⟩ := hok h; refine ⟨[.s (if chkP q = 0 then bytesP q else []), .i (chkP q)], rfl, fun _ w' hr => c_PEncode w' q x y (hr.at_ 1 rfl) (hr.at_ 2 rfl) hsm, ?_⟩; simp only [Tree.goal, X.P, X.ev, V.toI_i, V.toB_b, V.toS_s, V.toR_r, V.toV_v, V.toN_n, V.toL_l, SV.ev, CV.ev, Sc.ev, List.getD_cons_zero, List.getD_cons_succ, List.getElem?_cons_zero, List.getElem?_cons_succ, List.map_cons, List.map_nil, List.length_cons, List.length_nil, List.cons_append, List.nil_append, Nat.zero_add, Nat.reduceAdd]; exact fun w' hr => ⟨by simp only at k1 k2; simp [k1, k2], hr.mod⟩
  · intro w1 hr; refine (c_PDecode w1 s hl).mono ?_; rintro e w2 ⟨x, y, rfl, m, rx, ry, fx, fy⟩; have hok := @decD_ok s; have hbad := @decD_bad s; have hsm := @decD_small s hl; (generalize decD s = r at rx ry hok hbad hsm ⊢); obtain ⟨q, e⟩ := r; refine ⟨[.i q.kind, .b q.dup, .b q.retain, .b q.clean, .b q.session, .i q.qos, .i q.id, .i q.keep, .i q.code, .s q.client, .s q.topic, .s q.payload, .v x, .r (q.asks.map encA), .v y, .r (q.codes.map encI), .i e], rfl, rfl, m, List.forall_mem_nil _, List.forall_mem_cons.2 ⟨⟨rx, fun k hk => .inl (fx k hk.2)⟩, List.forall_mem_cons.2 ⟨⟨ry, fun k hk => .inl (fy k hk.2)⟩, List.forall_mem_nil _⟩⟩, apart_ro2 (by simp [Ent.wr]), ?_⟩; simp only [Tree.goal, X.P, X.ev, V.toI_i, V.toB_b, V.toS_s, V.toR_r, V.toV_v, V.toN_n, V.toL_l, SV.ev, CV.ev, Sc.ev, List.getD_cons_zero, List.getD_cons_succ, List.getElem?_cons_zero, List.getElem?_cons_succ, List.map_cons, List.map_nil, List.length_cons, List.length_nil, List.cons_append, List.nil_append, Nat.zero_add, Nat.reduceAdd]; clear m hr; intro b4; refine ⟨fun h w' hr => ⟨by { have hb : q = pD 0 := hbad h; rw [hb]; rfl }, hr.mod⟩, fun h => ?_⟩; have h := Classical.not_not.1 h; obtain ⟨k1, k2⟩ := hok h; refine ⟨[.s (if chkP q = 0 then bytesP q else []), .i (chkP q)], rfl, fun _ w' hr => c_PEncode w' q x y (hr.at_ 1 rfl) (hr.at_ 2 rfl) hsm, ?_⟩; simp only [Tree.goal, X.P, X.ev, V.toI_i, V.toB_b, V.toS_s, V.toR_r, V.toV_v, V.toN_n, V.toL_l, SV.ev, CV.ev, Sc.ev, List.getD_cons_zero, List.getD_cons_succ, List.getElem?_cons_zero, List.getElem?_cons_succ, List.map_cons, List.map_nil, List.length_cons, List.length_nil, List.cons_append, List.nil_append, Nat.zero_add, Nat.reduceAdd]; exact fun w' hr => ⟨by simp only at k1 k2; simp [k1, k2], hr.mod⟩
end
end Go.Proofs.YtliedecinehijaaDoor
