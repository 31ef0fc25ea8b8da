/-
  Packets: their bytes, walked: Bytes, Encode; packets compared. By an AI agent.
-/
import Derived.Test.YtliedecinehijaaDoorQg
set_option linter.unusedSimpArgs false
set_option linter.unusedVariables false
namespace Go.Proofs.YtliedecinehijaaDoor
open Go.Sx

theorem fst_shl (k : Int) (h : 0 ≤ k ∧ k ≤ 15) : IntKind.i64.wrap (k * 2 ^ (Nat.min (Int.toNat 4) IntKind.i64.bits)) = 16 * k := by
  have : ∀ x : Fin 16, IntKind.i64.wrap ((x.val : Int) * 2 ^ (Nat.min (Int.toNat 4) IntKind.i64.bits)) = 16 * (x.val : Int) := by decide +kernel
  have := this ⟨k.toNat, by omega⟩
  simpa only [Int.toNat_of_nonneg h.1] using this
theorem fst_two (k : Int) (h : k = 8 ∨ k = 10) : ibits .or .i64 (16 * k) 2 = 16 * k + 2 := by rcases h with rfl | rfl <;> decide +kernel
theorem fst_pub (q : Int) (h : 0 ≤ q ∧ q ≤ 3) (d r : Bool) : ibits .or .i64 (16 * 3) (ibits .or .i64 (ibits .or .i64 (bit d 8) (IntKind.i64.wrap (q * 2 ^ (Nat.min (Int.toNat 1) IntKind.i64.bits)))) (bit r 1)) = 16 * 3 + (bit d 8 + 2 * q + bit r 1) := by
  have : ∀ (x : Fin 4) (d r : Bool), ibits .or .i64 (16 * 3) (ibits .or .i64 (ibits .or .i64 (bit d 8) (IntKind.i64.wrap ((x.val : Int) * 2 ^ (Nat.min (Int.toNat 1) IntKind.i64.bits)))) (bit r 1)) = 16 * 3 + (bit d 8 + 2 * (x.val : Int) + bit r 1) := by decide +kernel
  have := this ⟨q.toNat, by omega⟩ d r
  simpa only [Int.toNat_of_nonneg h.1] using this
section
variable (w : World) (p : Pkt) (u v : Value)
theorem c_pfirst (hu : readsA w u p.asks) (hv : readsI w v p.codes) (hk : 0 ≤ p.kind ∧ p.kind ≤ 15) (hq : 0 ≤ p.qos ∧ p.qos ≤ 3) : Calls Tryd.prog 84 #[pV p u v] w
    fun e w' => e = .returned (.int .i64 (firstB p)) ∧ Mod [] w w' := by
  refine as_called (run_tree2 (ρ := [.i p.kind, .b p.dup, .b p.retain, .b p.clean, .b p.session, .i p.qos, .i p.id, .i p.keep, .i p.code, .s p.client, .s p.topic, .s p.payload, .v u, .r (p.asks.map encA), .v v, .r (p.codes.map encI)]) sxE_ok Tryd.func84 tree_packet_first rfl rfl (Rel.start2 (by simp [Ent.holds, Ent.wr, hu, hv, X.ev])) rfl rfl ?_) rfl
  simp only [Tree.goal, X.P, X.ev, V.toI_i, V.toB_b, V.toS_s, V.toR_r, V.toV_v, V.toN_n, V.toL_l, SV.ev, CV.ev, Sc.ev, List.getD_cons_zero, List.getD_cons_succ, List.getElem?_cons_zero, List.getElem?_cons_succ, List.map_cons, List.map_nil, List.length_cons, List.length_nil, List.cons_append, List.nil_append, Nat.zero_add, Nat.reduceAdd]
  rw [fst_shl _ hk]
  intro b
  have pub : p.kind = 3 → ∀ d r : Int, d = bit p.dup 8 → r = bit p.retain 1 → Value.int .i64 (ibits .or .i64 (16 * p.kind) (ibits .or .i64 (ibits .or .i64 d (IntKind.i64.wrap (p.qos * 2 ^ (Nat.min (Int.toNat 1) IntKind.i64.bits)))) r)) = .int .i64 (firstB p) := fun h d r hd hr => by
    rw [hd, hr, h, fst_pub _ hq, firstB, if_pos h, h]
  have d1 : p.dup = true → (8 : Int) = bit p.dup 8 := fun h => by simp [bit, h]
  have d0 : ¬ p.dup = true → (0 : Int) = bit p.dup 8 := fun h => by simp [bit, h]
  have r1 : p.retain = true → (1 : Int) = bit p.retain 1 := fun h => by simp [bit, h]
  have r0 : ¬ p.retain = true → (0 : Int) = bit p.retain 1 := fun h => by simp [bit, h]
  refine ⟨fun h => ?_, fun h => ⟨fun h1 w' hr => ⟨?_, hr.mod⟩, fun h1 => ⟨fun h2 w' hr => ⟨?_, hr.mod⟩, fun h2 w' hr => ⟨?_, hr.mod⟩⟩⟩⟩
  · have pub := pub h
    repeat' (first | (intro _) | (apply And.intro))
    all_goals (first | exact Rel.mod ‹_› | exact congrArg _ (pub _ _ (d1 ‹_›) (r1 ‹_›)) | exact congrArg _ (pub _ _ (d1 ‹_›) (r0 ‹_›)) | exact congrArg _ (pub _ _ (d0 ‹_›) (r1 ‹_›)) | exact congrArg _ (pub _ _ (d0 ‹_›) (r0 ‹_›)))
  · rw [fst_two _ (.inl h1), firstB, if_neg h, if_pos (.inl h1)]
  · rw [fst_two _ (.inr h2), firstB, if_neg h, if_pos (.inr h2)]
  · rw [firstB, if_neg h, if_neg (by omega), Int.add_zero]
theorem firstB_bd {p : Pkt} (hk : 0 ≤ p.kind ∧ p.kind ≤ 15) (hq : 0 ≤ p.qos ∧ p.qos ≤ 3) : 0 ≤ firstB p ∧ firstB p < 1000 := by
  unfold firstB bit
  split
  · split <;> split <;> omega
  · split <;> omega
theorem c_PBytes (hu : readsA w u p.asks) (hv : readsI w v p.codes) (hB : ByteP p) : Calls Tryd.prog 46 #[pV p u v] w fun e w' => e = .returned (.string ⟨(bytesP p).toArray⟩) ∧ Mod [] w w' := by
  refine as_called (run_tree3 (ρ := [.i p.kind, .b p.dup, .b p.retain, .b p.clean, .b p.session, .i p.qos, .i p.id, .i p.keep, .i p.code, .s p.client, .s p.topic, .s p.payload, .v u, .r (p.asks.map encA), .v v, .r (p.codes.map encI)]) sxE_ok Tryd.func46 tree_packet_Bytes rfl rfl (Rel.start2 (by simp [Ent.holds, Ent.wr, hu, hv, X.ev])) rfl rfl ?_) rfl
  have hb := hB.body
  have hf := firstB_bd hB.kind hB.qos
  simp only [Tree.goal, X.P, X.ev, V.toI_i, V.toB_b, V.toS_s, V.toR_r, V.toV_v, V.toN_n, V.toL_l, SV.ev, CV.ev, Sc.ev, List.getD_cons_zero, List.getD_cons_succ, List.getElem?_cons_zero, List.getElem?_cons_succ, List.map_cons, List.map_nil, List.length_cons, List.length_nil, List.cons_append, List.nil_append, Nat.zero_add, Nat.reduceAdd]
  intro bc bw w1 hr
  refine (c_pbody w1 bw p u v (.pointer none) (.slice none 0 0) (hr.at_ 2 rfl) (hr.at_ 3 rfl) hB ⟨hr.at_ 0 rfl, .inl rfl, ⟨by simp [byW], World.ownsRow_nil _ _ _ _⟩⟩
    (fun k hk => ⟨fun e => Apart.disj hr.sep (i := 2) (j := 0) rfl rfl (by decide) (.inr rfl) (k := k) hk e, fun hb => by cases hb⟩)
    (fun k hk => ⟨fun e => Apart.disj hr.sep (i := 3) (j := 0) rfl rfl (by decide) (.inr rfl) (k := k) hk e, fun hb => by cases hb⟩)).mono ?_
  rintro e w2 ⟨rfl, p1, q1, s1, m1, f1⟩
  refine ⟨[.v p1, .v q1, .r (byW _)], rfl, rfl, m1, List.forall_mem_cons.2 ⟨s1.cells, List.forall_mem_nil _⟩, List.forall_mem_cons.2 ⟨⟨s1.own, fun z hz => .inl ((f1 z hz).resolve_right (by simp [Value.ownBlock]))⟩, List.forall_mem_nil _⟩, apart_one, ?_⟩
  simp only [Tree.goal, X.P, X.ev, V.toI_i, V.toB_b, V.toS_s, V.toR_r, V.toV_v, V.toN_n, V.toL_l, SV.ev, CV.ev, Sc.ev, List.getD_cons_zero, List.getD_cons_succ, List.getElem?_cons_zero, List.getElem?_cons_succ, List.map_cons, List.map_nil, List.length_cons, List.length_nil, List.cons_append, List.nil_append, Nat.zero_add, Nat.reduceAdd]
  refine ⟨[.i (firstB p)], rfl, fun _ w' hr => c_pfirst w' p u v (hr.at_ 3 rfl) (hr.at_ 4 rfl) hB.kind hB.qos, ?_⟩
  simp only [Tree.goal, X.P, X.ev, V.toI_i, V.toB_b, V.toS_s, V.toR_r, V.toV_v, V.toN_n, V.toL_l, SV.ev, CV.ev, Sc.ev, List.getD_cons_zero, List.getD_cons_succ, List.getElem?_cons_zero, List.getElem?_cons_succ, List.map_cons, List.map_nil, List.length_cons, List.length_nil, List.cons_append, List.nil_append, Nat.zero_add, Nat.reduceAdd]
  refine ⟨[.s (numB 1 (firstB p))], rfl, fun _ w' _ => c_Bytes w' _ 1 (by omega) (by omega) (by omega), ?_⟩
  simp only [Tree.goal, X.P, X.ev, V.toI_i, V.toB_b, V.toS_s, V.toR_r, V.toV_v, V.toN_n, V.toL_l, SV.ev, CV.ev, Sc.ev, List.getD_cons_zero, List.getD_cons_succ, List.getElem?_cons_zero, List.getElem?_cons_succ, List.map_cons, List.map_nil, List.length_cons, List.length_nil, List.cons_append, List.nil_append, Nat.zero_add, Nat.reduceAdd]
  intro w3 hr
  have hq1 := s1.own.reads.sc1
  have hc := hr.at_ 1 rfl
  simp only [Ent.holds, Tree.goal, X.P, X.ev, V.toI_i, V.toB_b, V.toS_s, V.toR_r, V.toV_v, V.toN_n, V.toL_l, SV.ev, CV.ev, Sc.ev, List.getD_cons_zero, List.getD_cons_succ, List.getElem?_cons_zero, List.getElem?_cons_succ, List.map_cons, List.map_nil, List.length_cons, List.length_nil, List.cons_append, List.nil_append, Nat.zero_add, Nat.reduceAdd, s1.ok.sc1, hq1] at hc
  have hlen : (byW (bodyB p)).length = (bodyB p).length := by simp [byW]
  refine (bld_Len 125 bw p1 q1 [] (byW (bodyB p)) w3 hc (hr.at_ 0 rfl)).mono ?_
  rintro e w4 ⟨rfl, rfl⟩
  rw [hlen]
  have cells1 := hr.at_ 1 rfl
  have own1 := hr.at_ 0 rfl
  refine ⟨[.i ((bodyB p).length : Nat), .v p1, .v q1, .r (byW (bodyB p))], rfl, rfl, Mod.refl _ _, List.forall_mem_cons.2 ⟨cells1, List.forall_mem_nil _⟩, List.forall_mem_cons.2 ⟨⟨own1, fun z hz => .inr (.inr ?_)⟩, List.forall_mem_nil _⟩, apart_one, ?_⟩
  · have hz : q1.ownBlock = some z := hz
    simp only [goneOf, List.flatMap_cons, List.flatMap_nil, List.append_nil, Tree.goal, X.P, X.ev, V.toI_i, V.toB_b, V.toS_s, V.toR_r, V.toV_v, V.toN_n, V.toL_l, SV.ev, CV.ev, Sc.ev, List.getD_cons_zero, List.getD_cons_succ, List.getElem?_cons_zero, List.getElem?_cons_succ, List.map_cons, List.map_nil, List.length_cons, List.length_nil, List.cons_append, List.nil_append, Nat.zero_add, Nat.reduceAdd]
    rw [hz]; simp
  simp only [Tree.goal, X.P, X.ev, V.toI_i, V.toB_b, V.toS_s, V.toR_r, V.toV_v, V.toN_n, V.toL_l, SV.ev, CV.ev, Sc.ev, List.getD_cons_zero, List.getD_cons_succ, List.getElem?_cons_zero, List.getElem?_cons_succ, List.map_cons, List.map_nil, List.length_cons, List.length_nil, List.cons_append, List.nil_append, Nat.zero_add, Nat.reduceAdd]
  refine ⟨[.s (lngB 3 (bodyB p).length)], rfl, fun _ w' _ => c_LongBytes w' 3 _ (by omega) (by show _ < 268435456; exact hb), ?_⟩
  simp only [Tree.goal, X.P, X.ev, V.toI_i, V.toB_b, V.toS_s, V.toR_r, V.toV_v, V.toN_n, V.toL_l, SV.ev, CV.ev, Sc.ev, List.getD_cons_zero, List.getD_cons_succ, List.getElem?_cons_zero, List.getElem?_cons_succ, List.map_cons, List.map_nil, List.length_cons, List.length_nil, List.cons_append, List.nil_append, Nat.zero_add, Nat.reduceAdd, List.length_append, numB_len]
  have hll : (lngB 3 (bodyB p).length).length ≤ 4 := lngB_len 3 _
  refine ⟨by omega, ?_⟩
  intro w5 hr
  have hc := hr.at_ 1 rfl
  simp only [Ent.holds, Tree.goal, X.P, X.ev, V.toI_i, V.toB_b, V.toS_s, V.toR_r, V.toV_v, V.toN_n, V.toL_l, SV.ev, CV.ev, Sc.ev, List.getD_cons_zero, List.getD_cons_succ, List.getElem?_cons_zero, List.getElem?_cons_succ, List.map_cons, List.map_nil, List.length_cons, List.length_nil, List.cons_append, List.nil_append, Nat.zero_add, Nat.reduceAdd, s1.ok.sc1, hq1] at hc
  refine (bld_String 125 bw p1 q1 [] (bodyB p) w5 hc (hr.at_ 0 rfl)).mono ?_
  rintro e w6 ⟨rfl, hm⟩
  have hjq : bw ∉ q1.ownBlock.toList := fun hmem => by
    have h9 : q1.ownBlock = some bw := by simpa using hmem
    exact s1.ne (show blockOf q1 bw from h9) rfl
  refine ⟨[.s (bodyB p), .v p1, .v q1], rfl, rfl, ?_, ?_, fun z hz => absurd hz List.not_mem_nil, apart_nil, ?_⟩
  · refine hm.mono fun z hz => .inl ?_
    simp only [modsOf, goneOf, List.map_cons, List.map_nil, List.flatMap_cons, List.flatMap_nil, List.append_nil, Tree.goal, X.P, X.ev, V.toI_i, V.toB_b, V.toS_s, V.toR_r, V.toV_v, V.toN_n, V.toL_l, SV.ev, CV.ev, Sc.ev, List.getD_cons_zero, List.getD_cons_succ, List.getElem?_cons_zero, List.getElem?_cons_succ, List.map_cons, List.map_nil, List.length_cons, List.length_nil, List.cons_append, List.nil_append, Nat.zero_add, Nat.reduceAdd]
    exact List.mem_cons_of_mem _ hz
  · refine List.forall_mem_cons.2 ⟨?_, List.forall_mem_nil _⟩
    simp only [Ent.holds, Tree.goal, X.P, X.ev, V.toI_i, V.toB_b, V.toS_s, V.toR_r, V.toV_v, V.toN_n, V.toL_l, SV.ev, CV.ev, Sc.ev, List.getD_cons_zero, List.getD_cons_succ, List.getElem?_cons_zero, List.getElem?_cons_succ, List.map_cons, List.map_nil, List.length_cons, List.length_nil, List.cons_append, List.nil_append, Nat.zero_add, Nat.reduceAdd, s1.ok.sc1, hq1]
    rw [hm.block bw (Array.getElem?_eq_some_iff.1 hc).1 hjq]
    exact hc
  · simp only [Tree.goal, X.P, X.ev, V.toI_i, V.toB_b, V.toS_s, V.toR_r, V.toV_v, V.toN_n, V.toL_l, SV.ev, CV.ev, Sc.ev, List.getD_cons_zero, List.getD_cons_succ, List.getElem?_cons_zero, List.getElem?_cons_succ, List.map_cons, List.map_nil, List.length_cons, List.length_nil, List.cons_append, List.nil_append, Nat.zero_add, Nat.reduceAdd, List.length_append, numB_len]
    exact ⟨by omega, fun w' hr => ⟨by rw [bytesP], hr.mod⟩⟩
theorem byte_of {p : Pkt} (h : chkP p = 0) (hs : SmallP p) : ByteP p := by
  obtain ⟨hf, hl⟩ := chk_form h
  have hk := hf.kind
  simp only [kindB, decide_eq_true_eq] at hk
  have hq := hf.qos; have hi := hf.id; have hke := hf.keep; have hc := hf.code
  exact ⟨by omega, by omega, by omega, by omega, by omega, fun a ha => by have := hf.asks a ha; omega, fun c hc => by have := hf.codes c hc; omega, hs, by omega⟩
theorem c_PEncode (hu : readsA w u p.asks) (hv : readsI w v p.codes) (hs : SmallP p) : Calls Tryd.prog 11 #[pV p u v] w
    fun e w' => e = .returned (.tuple #[.string ⟨(if chkP p = 0 then bytesP p else []).toArray⟩, .int .i64 (chkP p)]) ∧ Mod [] w w' := by
  refine as_called (run_tree2 (ρ := [.i p.kind, .b p.dup, .b p.retain, .b p.clean, .b p.session, .i p.qos, .i p.id, .i p.keep, .i p.code, .s p.client, .s p.topic, .s p.payload, .v u, .r (p.asks.map encA), .v v, .r (p.codes.map encI)]) sxE_ok Tryd.func11 tree_packet_Encode rfl rfl (Rel.start2 (by simp [Ent.holds, Ent.wr, hu, hv, X.ev])) rfl rfl ?_) rfl
  simp only [Tree.goal, X.P, X.ev, V.toI_i, V.toB_b, V.toS_s, V.toR_r, V.toV_v, V.toN_n, V.toL_l, SV.ev, CV.ev, Sc.ev, List.getD_cons_zero, List.getD_cons_succ, List.getElem?_cons_zero, List.getElem?_cons_succ, List.map_cons, List.map_nil, List.length_cons, List.length_nil, List.cons_append, List.nil_append, Nat.zero_add, Nat.reduceAdd]
  intro bc
  refine ⟨[.i (chkP p)], rfl, fun _ w' hr => c_PCheck w' p u v (hr.at_ 1 rfl) (hr.at_ 2 rfl) hs, ?_⟩
  simp only [Tree.goal, X.P, X.ev, V.toI_i, V.toB_b, V.toS_s, V.toR_r, V.toV_v, V.toN_n, V.toL_l, SV.ev, CV.ev, Sc.ev, List.getD_cons_zero, List.getD_cons_succ, List.getElem?_cons_zero, List.getElem?_cons_succ, List.map_cons, List.map_nil, List.length_cons, List.length_nil, List.cons_append, List.nil_append, Nat.zero_add, Nat.reduceAdd]
  refine ⟨fun h w' hr => ⟨by rw [if_neg h], hr.mod⟩, fun h => ?_⟩
  have h := Classical.not_not.1 h
  refine ⟨[.s (bytesP p)], rfl, fun _ w' hr => c_PBytes w' p u v (hr.at_ 1 rfl) (hr.at_ 2 rfl) (byte_of h hs), ?_⟩
  simp only [Tree.goal, X.P, X.ev, V.toI_i, V.toB_b, V.toS_s, V.toR_r, V.toV_v, V.toN_n, V.toL_l, SV.ev, CV.ev, Sc.ev, List.getD_cons_zero, List.getD_cons_succ, List.getElem?_cons_zero, List.getElem?_cons_succ, List.map_cons, List.map_nil, List.length_cons, List.length_nil, List.cons_append, List.nil_append, Nat.zero_add, Nat.reduceAdd]
  exact fun w' hr => ⟨by rw [if_pos h, h], hr.mod⟩
end
section
variable (w : World) (p q : Pkt) (u v x y : Value)
theorem asks_eq {a b : List Ak} (hl : a.length = b.length) (h : ∀ i, i < a.length → a.getD i aD = b.getD i aD) : a = b := by
  refine List.ext_getElem hl fun i h1 h2 => ?_
  have := h i h1
  rw [List.getD_eq_getElem?_getD, List.getD_eq_getElem?_getD, List.getElem?_eq_getElem h1, List.getElem?_eq_getElem h2] at this
  exact this
theorem codes_eq {a b : List Int} (hl : a.length = b.length) (h : ∀ i, i < a.length → a.getD i 0 = b.getD i 0) : a = b := by
  refine List.ext_getElem hl fun i h1 h2 => ?_
  have := h i h1
  rw [List.getD_eq_getElem?_getD, List.getD_eq_getElem?_getD, List.getElem?_eq_getElem h1, List.getElem?_eq_getElem h2] at this
  exact this
theorem c_SamePacket (hu : readsA w u p.asks) (hv : readsI w v p.codes) (hx : readsA w x q.asks) (hy : readsI w y q.codes) (hs : SmallP p) :
    Calls Tryd.prog 13 #[pV p u v, pV q x y] w fun e w' => e = .returned (.bool (decide (p = q))) ∧ Mod [] w w' := by
  refine as_called (run_tree2 (ρ := [.i p.kind, .b p.dup, .b p.retain, .b p.clean, .b p.session, .i p.qos, .i p.id, .i p.keep, .i p.code, .s p.client, .s p.topic, .s p.payload, .v u, .r (p.asks.map encA), .v v, .r (p.codes.map encI), .i q.kind, .b q.dup, .b q.retain, .b q.clean, .b q.session, .i q.qos, .i q.id, .i q.keep, .i q.code, .s q.client, .s q.topic, .s q.payload, .v x, .r (q.asks.map encA), .v y, .r (q.codes.map encI)]) sxE_ok Tryd.func13 tree_dragomanref_SamePacket rfl rfl (Rel.start2 (by simp [Ent.holds, Ent.wr, hu, hv, hx, hy, X.ev])) rfl rfl ?_) rfl
  have h4 := hs.asks; have h5 := hs.codes
  simp only [Tree.goal, X.P, X.ev, V.toI_i, V.toB_b, V.toS_s, V.toR_r, V.toV_v, V.toN_n, V.toL_l, SV.ev, CV.ev, Sc.ev, List.getD_cons_zero, List.getD_cons_succ, List.getElem?_cons_zero, List.getElem?_cons_succ, List.map_cons, List.map_nil, List.length_cons, List.length_nil, List.cons_append, List.nil_append, Nat.zero_add, Nat.reduceAdd, List.length_map]
  intro b1 b2
  refine ⟨fun h w' hr => ⟨?_, hr.mod⟩, fun h => ?_⟩
  · have : ¬ p = q := fun e => by subst e; simp at h
    simp [this]
  simp only [not_or, Classical.not_not] at h
  obtain ⟨⟨⟨⟨⟨⟨⟨⟨⟨⟨⟨⟨⟨e1, e2⟩, e3⟩, e4⟩, e5⟩, e6⟩, e7⟩, e8⟩, e9⟩, e10⟩, e11⟩, e12⟩, e13⟩, e14⟩ := h
  refine ⟨fun vs => ∃ (i : Nat) (b : V), vs = [b, .i i] ∧ i ≤ p.asks.length ∧ ∀ j, j < i → p.asks.getD j aD = q.asks.getD j aD, fun vs => p.asks.length - (vs.getD 1 (.i 0)).toI.toNat, ⟨0, _, rfl, by omega, by omega⟩, ?_⟩
  rintro _ - ⟨i, vb, rfl, hi, hg⟩
  simp only [Tree.goal, X.P, X.ev, V.toI_i, V.toB_b, V.toS_s, V.toR_r, V.toV_v, V.toN_n, V.toL_l, SV.ev, CV.ev, Sc.ev, List.getD_cons_zero, List.getD_cons_succ, List.getElem?_cons_zero, List.getElem?_cons_succ, List.map_cons, List.map_nil, List.length_cons, List.length_nil, List.cons_append, List.nil_append, Nat.zero_add, Nat.reduceAdd, List.length_map, Int.toNat_natCast, gA0, gA1]
  refine ⟨fun h2 => ⟨by omega, by omega, fun h3 w' hr => ⟨?_, hr.mod⟩, fun h3 => ⟨by omega, by omega, ⟨i + 1, vb, rfl, by omega, fun j hj => ?_⟩, by omega⟩⟩, fun h2 => ?_⟩
  · have : ¬ p = q := fun e => h3 (by subst e; exact ⟨rfl, rfl⟩)
    simp [this]
  · by_cases hji : j = i
    · subst hji
      have h3 := Classical.not_not.1 h3
      exact Prod.ext h3.1 h3.2
    · exact hg j (by omega)
  have ea := asks_eq (a := p.asks) (b := q.asks) (by omega) (fun j hj => hg j (by omega))
  refine ⟨fun vs => ∃ (i : Nat) (b : V), vs = [b, .i i] ∧ i ≤ p.codes.length ∧ ∀ j, j < i → p.codes.getD j 0 = q.codes.getD j 0, fun vs => p.codes.length - (vs.getD 1 (.i 0)).toI.toNat, ⟨0, _, rfl, by omega, by omega⟩, ?_⟩
  rintro _ - ⟨k, vc, rfl, hk, hgk⟩
  simp only [Tree.goal, X.P, X.ev, V.toI_i, V.toB_b, V.toS_s, V.toR_r, V.toV_v, V.toN_n, V.toL_l, SV.ev, CV.ev, Sc.ev, List.getD_cons_zero, List.getD_cons_succ, List.getElem?_cons_zero, List.getElem?_cons_succ, List.map_cons, List.map_nil, List.length_cons, List.length_nil, List.cons_append, List.nil_append, Nat.zero_add, Nat.reduceAdd, List.length_map, Int.toNat_natCast, gI0]
  refine ⟨fun h3 => ⟨by omega, by omega, fun h4 w' hr => ⟨?_, hr.mod⟩, fun h4 => ⟨by omega, by omega, ⟨k + 1, vc, rfl, by omega, fun j hj => ?_⟩, by omega⟩⟩, fun h3 w' hr => ⟨?_, hr.mod⟩⟩
  · have : ¬ p = q := fun e => h4 (by subst e; rfl)
    simp [this]
  · by_cases hjk : j = k
    · subst hjk; exact Classical.not_not.1 h4
    · exact hgk j (by omega)
  · have ec := codes_eq (a := p.codes) (b := q.codes) (by omega) (fun j hj => hgk j (by omega))
    have : p = q := by
      cases p; cases q
      simp only at *
      simp_all
    simp [this]
end
end Go.Proofs.YtliedecinehijaaDoor
