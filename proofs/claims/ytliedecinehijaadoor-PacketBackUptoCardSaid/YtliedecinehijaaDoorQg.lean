/-
  Packets: their bytes, walked: Bytes, Encode. By an AI agent.
-/
import Derived.Test.YtliedecinehijaaDoorQf
import Derived.Test.YtliedecinehijaaDoorSxP
set_option linter.unusedSimpArgs false
set_option linter.unusedVariables false
namespace Go.Proofs.YtliedecinehijaaDoor
open Go.Sx

/-- A packet whose bytes can be told. -/
structure ByteP (p : Pkt) : Prop where
  kind : 0 ≤ p.kind ∧ p.kind ≤ 15
  qos : 0 ≤ p.qos ∧ p.qos ≤ 3
  id : 0 ≤ p.id ∧ p.id ≤ 65535
  keep : 0 ≤ p.keep ∧ p.keep ≤ 65535
  code : 0 ≤ p.code ∧ p.code ≤ 65535
  asks : ∀ a ∈ p.asks, 0 ≤ a.2 ∧ a.2 ≤ 65535
  codes : ∀ c ∈ p.codes, 0 ≤ c ∧ c ≤ 65535
  small : SmallP p
  body : (bodyB p).length < 268435456
theorem ByteP.ask {p : Pkt} (h : ByteP p) (i : Nat) : 0 ≤ (p.asks.getD i aD).2 ∧ (p.asks.getD i aD).2 ≤ 65535 := by
  by_cases hi : i < p.asks.length
  · rw [List.getD_eq_getElem?_getD, List.getElem?_eq_getElem hi]; exact h.asks _ (List.getElem_mem hi)
  · rw [List.getD_eq_getElem?_getD, List.getElem?_eq_none (by omega)]; decide
theorem headB_len {p : Pkt} (h : SmallP p) : (headB p).length ≤ 2000000000 := by
  have h1 := h.client; have h2 := h.topic
  unfold headB
  split
  · simp only [List.length_append, txtB_len, numB_len, List.length_cons, List.length_nil]; omega
  · split
    · simp only [List.length_append, numB_len]; omega
    · split
      · rw [txtB_len]; omega
      · simp
def idP (p : Pkt) : List UInt8 := if idB p = true then numB 2 p.id else []
theorem idP_len (p : Pkt) : (idP p).length ≤ 2 := by unfold idP; split <;> simp [numB_len]
def asB (p : Pkt) (i : Nat) : List UInt8 := headB p ++ idP p ++ p.payload ++ ((p.asks.take i).map (askB p.kind)).flatten
theorem asB_len {p : Pkt} (h : ByteP p) (i : Nat) : (asB p i).length < 268435456 := by
  refine Nat.lt_of_le_of_lt ?_ h.body
  unfold bodyB asB idP
  have : ((p.asks.take i).map (askB p.kind)).flatten.length ≤ (p.asks.map (askB p.kind)).flatten.length := by
    conv => rhs; rw [← List.take_append_drop i p.asks, List.map_append, List.flatten_append, List.length_append]
    omega
  simp only [List.length_append]
  omega
theorem asB_zero (p : Pkt) : asB p 0 = headB p ++ idP p ++ p.payload := by simp [asB]
theorem asB_step (p : Pkt) (i : Nat) (h : i < p.asks.length) : asB p (i + 1) = asB p i ++ askB p.kind (p.asks.getD i aD) := by
  unfold asB
  rw [List.take_add_one, List.getD_eq_getElem?_getD, List.getElem?_eq_getElem h]
  simp only [Option.toList_some, Option.getD_some, List.map_append, List.map_cons, List.map_nil, List.flatten_append, List.flatten_cons, List.flatten_nil, List.append_nil, List.append_assoc]
theorem asB_all (p : Pkt) : asB p p.asks.length ++ (p.codes.map (numB 1)).flatten = bodyB p := by
  rw [asB, List.take_length]; rfl
section
variable (w : World) (b : Nat) (p : Pkt) (u v : Value)
set_option maxRecDepth 10000 in
set_option maxHeartbeats 1000000 in
theorem c_pbody (p0 q0 : Value) (hu : readsA w u p.asks) (hv : readsI w v p.codes) (hB : ByteP p) (hw : wrS w b p0 q0 [])
    (hua : ∀ k, (p.asks.map encA).flatten ≠ [] ∧ blockOf u k → k ≠ b ∧ ¬ blockOf q0 k) (hva : ∀ k, (p.codes.map encI).flatten ≠ [] ∧ blockOf v k → k ≠ b ∧ ¬ blockOf q0 k) :
    Calls Tryd.prog 82 #[.pointer (some ⟨b, 0, none⟩), pV p u v] w fun e w' => e = .returned (.tuple #[]) ∧ wrote w w' b q0 (bodyB p) := by
  refine as_called (run_tree2 (ρ := [.n b, .v p0, .v q0, .r (byW []), .i p.kind, .b p.dup, .b p.retain, .b p.clean, .b p.session, .i p.qos, .i p.id, .i p.keep, .i p.code, .s p.client, .s p.topic, .s p.payload, .v u, .r (p.asks.map encA), .v v, .r (p.codes.map encI)]) (sxE_ok.joins _) Tryd.func82 tree_packet_writer_body rfl rfl
    (rel_w hw rfl rfl rfl rfl (List.forall_mem_cons.2 ⟨⟨hu, rfl, hua⟩, List.forall_mem_cons.2 ⟨⟨hv, rfl, hva⟩, List.forall_mem_nil _⟩⟩)) rfl rfl ?_) rfl
  have hs := hB.small
  have hcl := hs.client; have htp := hs.topic; have hpl := hs.payload; have hna := hs.asks; have hnc := hs.codes
  have hhl := headB_len hs
  have hil := idP_len p
  simp only [Tree.goal, X.P, X.ev, V.toI_i, V.toB_b, V.toS_s, V.toR_r, V.toV_v, V.toN_n, V.toL_l, SV.ev, CV.ev, Sc.ev, List.getD_cons_zero, List.getD_cons_succ, List.getElem?_cons_zero, List.getElem?_cons_succ, List.map_cons, List.map_nil, List.length_cons, List.length_nil, List.cons_append, List.nil_append, Nat.zero_add, Nat.reduceAdd]
  intro bc
  refine ⟨fun vs => ∃ p' q', vs = [.v p', .v q', .r (byW (headB p))] ∧ okp p' b, ⟨fun h1 => ?_, fun h1 => ⟨fun h2 => ?_, fun h2 => ⟨fun h3 => ?_, fun h3 => ?_⟩⟩⟩, ?_⟩
  · intro w1 hr
    refine (c_ptext w1 b p0 q0 [] [77, 81, 84, 84] ⟨hr.at_ 2 rfl, hw.ok, hr.at_ 1 rfl⟩ (by decide)).mono ?_
    rintro e w2 ⟨rfl, p1, q1, s1, m1, f1⟩
    refine ⟨[.v p1, .v q1, .r (byW _)], rfl, rfl, m1, List.forall_mem_cons.2 ⟨s1.cells, List.forall_mem_nil _⟩, List.forall_mem_cons.2 ⟨⟨s1.own, fun z hz => (f1 z hz).imp id .inr⟩, List.forall_mem_nil _⟩, apart_one, ?_⟩; (try simp only [Tree.goal, X.P, X.ev, V.toI_i, V.toB_b, V.toS_s, V.toR_r, V.toV_v, V.toN_n, V.toL_l, SV.ev, CV.ev, Sc.ev, List.getD_cons_zero, List.getD_cons_succ, List.getElem?_cons_zero, List.getElem?_cons_succ, List.map_cons, List.map_nil, List.length_cons, List.length_nil, List.cons_append, List.nil_append, Nat.zero_add, Nat.reduceAdd])
    have go : ∀ n : Int, n = bit p.clean 2 → headB p = [] ++ txtB [77, 81, 84, 84] ++ (([4, n] : List Int).map (numB 1)).flatten ++ (([p.keep] : List Int).map (numB 2)).flatten ++ txtB p.client := fun n hn => by
      rw [headB, if_pos h1, hn]; simp
    refine ⟨fun hc => ?_, fun hc => ?_⟩
    · intro v1 w3 hr
      have hn4 : ∀ n ∈ ([4, 2] : List Int), 0 ≤ n ∧ n ≤ 65535 := by decide
      refine (c_pput w3 b p1 q1 _ 1 v1 [4, 2] ⟨hr.at_ 3 rfl, s1.ok, hr.at_ 1 rfl⟩ (by omega) (owns.reads (hr.at_ 0 rfl)) (fun k hk => ⟨fun e => Apart.disj hr.sep (i := 0) (j := 3) rfl rfl (by decide) (.inl rfl) (k := k) hk.2 e, fun hb => Apart.disj hr.sep (i := 0) (j := 1) rfl rfl (by decide) (.inl rfl) (k := k) hk.2 hb⟩) hn4 (by decide) (by decide)).mono ?_
      have o1 := s1.ok
      clear s1 m1 f1
      rintro e w4 ⟨rfl, p1, q1, s1, m1, f1⟩
      refine ⟨[.v p1, .v q1, .r (byW _)], rfl, rfl, m1, List.forall_mem_cons.2 ⟨s1.cells, List.forall_mem_nil _⟩, List.forall_mem_cons.2 ⟨⟨s1.own, fun z hz => (f1 z hz).imp id .inr⟩, List.forall_mem_nil _⟩, apart_one, ?_⟩; (try simp only [Tree.goal, X.P, X.ev, V.toI_i, V.toB_b, V.toS_s, V.toR_r, V.toV_v, V.toN_n, V.toL_l, SV.ev, CV.ev, Sc.ev, List.getD_cons_zero, List.getD_cons_succ, List.getElem?_cons_zero, List.getElem?_cons_succ, List.map_cons, List.map_nil, List.length_cons, List.length_nil, List.cons_append, List.nil_append, Nat.zero_add, Nat.reduceAdd])
      intro v2 w5 hr
      refine (c_pput w5 b p1 q1 _ 2 v2 [p.keep] ⟨hr.at_ 4 rfl, s1.ok, hr.at_ 1 rfl⟩ (by omega) (owns.reads (hr.at_ 0 rfl)) (fun k hk => ⟨fun e => Apart.disj hr.sep (i := 0) (j := 4) rfl rfl (by decide) (.inl rfl) (k := k) hk.2 e, fun hb => Apart.disj hr.sep (i := 0) (j := 1) rfl rfl (by decide) (.inl rfl) (k := k) hk.2 hb⟩) (by simpa using hB.keep) (by decide) (by simp)).mono ?_
      have o2 := s1.ok
      clear s1 m1 f1
      rintro e w6 ⟨rfl, p1, q1, s1, m1, f1⟩
      refine ⟨[.v p1, .v q1, .r (byW _)], rfl, rfl, m1, List.forall_mem_cons.2 ⟨s1.cells, List.forall_mem_nil _⟩, List.forall_mem_cons.2 ⟨⟨s1.own, fun z hz => (f1 z hz).imp id .inr⟩, List.forall_mem_nil _⟩, apart_one, ?_⟩; (try simp only [Tree.goal, X.P, X.ev, V.toI_i, V.toB_b, V.toS_s, V.toR_r, V.toV_v, V.toN_n, V.toL_l, SV.ev, CV.ev, Sc.ev, List.getD_cons_zero, List.getD_cons_succ, List.getElem?_cons_zero, List.getElem?_cons_succ, List.map_cons, List.map_nil, List.length_cons, List.length_nil, List.cons_append, List.nil_append, Nat.zero_add, Nat.reduceAdd])
      intro w7 hr
      refine (c_ptext w7 b p1 q1 _ p.client ⟨hr.at_ 4 rfl, s1.ok, hr.at_ 0 rfl⟩ (by simp only [List.length_append, txtB_len, List.map_cons, List.map_nil, List.flatten_cons, List.flatten_nil, numB_len, List.length_nil, List.length_cons]; omega)).mono ?_
      clear s1 m1 f1
      rintro e w8 ⟨rfl, p1, q1, s1, m1, f1⟩
      refine ⟨[.v p1, .v q1, .r (byW _)], rfl, rfl, m1, List.forall_mem_cons.2 ⟨s1.cells, List.forall_mem_nil _⟩, List.forall_mem_cons.2 ⟨⟨s1.own, fun z hz => (f1 z hz).imp id .inr⟩, List.forall_mem_nil _⟩, apart_one, ?_⟩; (try simp only [Tree.goal, X.P, X.ev, V.toI_i, V.toB_b, V.toS_s, V.toR_r, V.toV_v, V.toN_n, V.toL_l, SV.ev, CV.ev, Sc.ev, List.getD_cons_zero, List.getD_cons_succ, List.getElem?_cons_zero, List.getElem?_cons_succ, List.map_cons, List.map_nil, List.length_cons, List.length_nil, List.cons_append, List.nil_append, Nat.zero_add, Nat.reduceAdd])
      exact ⟨p1, q1, by rw [go 2 (by simp [bit, hc])]; rfl, s1.ok⟩
    · intro v1 w3 hr
      have hn4 : ∀ n ∈ ([4, 0] : List Int), 0 ≤ n ∧ n ≤ 65535 := by decide
      refine (c_pput w3 b p1 q1 _ 1 v1 [4, 0] ⟨hr.at_ 3 rfl, s1.ok, hr.at_ 1 rfl⟩ (by omega) (owns.reads (hr.at_ 0 rfl)) (fun k hk => ⟨fun e => Apart.disj hr.sep (i := 0) (j := 3) rfl rfl (by decide) (.inl rfl) (k := k) hk.2 e, fun hb => Apart.disj hr.sep (i := 0) (j := 1) rfl rfl (by decide) (.inl rfl) (k := k) hk.2 hb⟩) hn4 (by decide) (by decide)).mono ?_
      clear s1 m1 f1
      rintro e w4 ⟨rfl, p1, q1, s1, m1, f1⟩
      refine ⟨[.v p1, .v q1, .r (byW _)], rfl, rfl, m1, List.forall_mem_cons.2 ⟨s1.cells, List.forall_mem_nil _⟩, List.forall_mem_cons.2 ⟨⟨s1.own, fun z hz => (f1 z hz).imp id .inr⟩, List.forall_mem_nil _⟩, apart_one, ?_⟩; (try simp only [Tree.goal, X.P, X.ev, V.toI_i, V.toB_b, V.toS_s, V.toR_r, V.toV_v, V.toN_n, V.toL_l, SV.ev, CV.ev, Sc.ev, List.getD_cons_zero, List.getD_cons_succ, List.getElem?_cons_zero, List.getElem?_cons_succ, List.map_cons, List.map_nil, List.length_cons, List.length_nil, List.cons_append, List.nil_append, Nat.zero_add, Nat.reduceAdd])
      intro v2 w5 hr
      refine (c_pput w5 b p1 q1 _ 2 v2 [p.keep] ⟨hr.at_ 4 rfl, s1.ok, hr.at_ 1 rfl⟩ (by omega) (owns.reads (hr.at_ 0 rfl)) (fun k hk => ⟨fun e => Apart.disj hr.sep (i := 0) (j := 4) rfl rfl (by decide) (.inl rfl) (k := k) hk.2 e, fun hb => Apart.disj hr.sep (i := 0) (j := 1) rfl rfl (by decide) (.inl rfl) (k := k) hk.2 hb⟩) (by simpa using hB.keep) (by decide) (by simp)).mono ?_
      clear s1 m1 f1
      rintro e w6 ⟨rfl, p1, q1, s1, m1, f1⟩
      refine ⟨[.v p1, .v q1, .r (byW _)], rfl, rfl, m1, List.forall_mem_cons.2 ⟨s1.cells, List.forall_mem_nil _⟩, List.forall_mem_cons.2 ⟨⟨s1.own, fun z hz => (f1 z hz).imp id .inr⟩, List.forall_mem_nil _⟩, apart_one, ?_⟩; (try simp only [Tree.goal, X.P, X.ev, V.toI_i, V.toB_b, V.toS_s, V.toR_r, V.toV_v, V.toN_n, V.toL_l, SV.ev, CV.ev, Sc.ev, List.getD_cons_zero, List.getD_cons_succ, List.getElem?_cons_zero, List.getElem?_cons_succ, List.map_cons, List.map_nil, List.length_cons, List.length_nil, List.cons_append, List.nil_append, Nat.zero_add, Nat.reduceAdd])
      intro w7 hr
      refine (c_ptext w7 b p1 q1 _ p.client ⟨hr.at_ 4 rfl, s1.ok, hr.at_ 0 rfl⟩ (by simp only [List.length_append, txtB_len, List.map_cons, List.map_nil, List.flatten_cons, List.flatten_nil, numB_len, List.length_nil, List.length_cons]; omega)).mono ?_
      clear s1 m1 f1
      rintro e w8 ⟨rfl, p1, q1, s1, m1, f1⟩
      refine ⟨[.v p1, .v q1, .r (byW _)], rfl, rfl, m1, List.forall_mem_cons.2 ⟨s1.cells, List.forall_mem_nil _⟩, List.forall_mem_cons.2 ⟨⟨s1.own, fun z hz => (f1 z hz).imp id .inr⟩, List.forall_mem_nil _⟩, apart_one, ?_⟩; (try simp only [Tree.goal, X.P, X.ev, V.toI_i, V.toB_b, V.toS_s, V.toR_r, V.toV_v, V.toN_n, V.toL_l, SV.ev, CV.ev, Sc.ev, List.getD_cons_zero, List.getD_cons_succ, List.getElem?_cons_zero, List.getElem?_cons_succ, List.map_cons, List.map_nil, List.length_cons, List.length_nil, List.cons_append, List.nil_append, Nat.zero_add, Nat.reduceAdd])
      exact ⟨p1, q1, by rw [go 0 (by simp [bit, hc])]; rfl, s1.ok⟩
  · have go : ∀ n : Int, n = bit p.session 1 → headB p = [] ++ (([n, p.code] : List Int).map (numB 1)).flatten := fun n hn => by
      rw [headB, if_neg h1, if_pos h2, hn]; simp
    have one : ∀ n : Int, n = bit p.session 1 → (0 ≤ n ∧ n ≤ 65535) → ∀ (v1 : Value) (w3 : World), readsI w3 v1 [n, p.code] → wrS w3 b p0 q0 [] → (∀ k, (([n, p.code] : List Int).map encI).flatten ≠ [] ∧ blockOf v1 k → k ≠ b ∧ ¬ blockOf q0 k) →
        Calls Tryd.prog 133 #[.pointer (some ⟨b, 0, none⟩), .int .i64 1, sc1 v1] w3 fun e w' => e = .returned (.tuple #[]) ∧ wrote w3 w' b q0 (headB p) := fun n hn h0 v1 w3 hv1 hw3 ha => by
      have h9 := hB.code
      rw [go n hn]
      exact c_pput w3 b p0 q0 _ 1 v1 [n, p.code] hw3 (by omega) hv1 ha (by simp; omega) (by decide) (by simp)
    have c1 : p.session = true → (1 : Int) = bit p.session 1 := fun h => by simp [bit, h]
    have c0 : ¬ p.session = true → (0 : Int) = bit p.session 1 := fun h => by simp [bit, h]
    refine ⟨⟨fun hc => ?_, fun hc => ?_⟩, ⟨fun hc => ?_, fun hc => ?_⟩⟩
    all_goals
      intro v1 w3 hr
      first
      | refine (one 1 (c1 hc) (by decide) v1 w3 (owns.reads (hr.at_ 0 rfl)) ⟨hr.at_ 3 rfl, hw.ok, hr.at_ 2 rfl⟩ (fun k hk => ⟨fun e => Apart.disj hr.sep (i := 0) (j := 3) rfl rfl (by decide) (.inl rfl) (k := k) hk.2 e, fun hb => Apart.disj hr.sep (i := 0) (j := 2) rfl rfl (by decide) (.inl rfl) (k := k) hk.2 hb⟩)).mono ?_
      | refine (one 0 (c0 hc) (by decide) v1 w3 (owns.reads (hr.at_ 0 rfl)) ⟨hr.at_ 3 rfl, hw.ok, hr.at_ 2 rfl⟩ (fun k hk => ⟨fun e => Apart.disj hr.sep (i := 0) (j := 3) rfl rfl (by decide) (.inl rfl) (k := k) hk.2 e, fun hb => Apart.disj hr.sep (i := 0) (j := 2) rfl rfl (by decide) (.inl rfl) (k := k) hk.2 hb⟩)).mono ?_
      rintro e w4 ⟨rfl, p1, q1, s1, m1, f1⟩
      refine ⟨[.v p1, .v q1, .r (byW _)], rfl, rfl, m1, List.forall_mem_cons.2 ⟨s1.cells, List.forall_mem_nil _⟩, List.forall_mem_cons.2 ⟨⟨s1.own, fun z hz => (f1 z hz).imp id .inr⟩, List.forall_mem_nil _⟩, apart_one, ?_⟩; (try simp only [Tree.goal, X.P, X.ev, V.toI_i, V.toB_b, V.toS_s, V.toR_r, V.toV_v, V.toN_n, V.toL_l, SV.ev, CV.ev, Sc.ev, List.getD_cons_zero, List.getD_cons_succ, List.getElem?_cons_zero, List.getElem?_cons_succ, List.map_cons, List.map_nil, List.length_cons, List.length_nil, List.cons_append, List.nil_append, Nat.zero_add, Nat.reduceAdd])
      exact ⟨p1, q1, rfl, s1.ok⟩
  · intro w1 hr
    refine (c_ptext w1 b p0 q0 [] p.topic ⟨hr.at_ 2 rfl, hw.ok, hr.at_ 1 rfl⟩ (by simp only [List.length_nil]; omega)).mono ?_
    rintro e w2 ⟨rfl, p1, q1, s1, m1, f1⟩
    refine ⟨[.v p1, .v q1, .r (byW _)], rfl, rfl, m1, List.forall_mem_cons.2 ⟨s1.cells, List.forall_mem_nil _⟩, List.forall_mem_cons.2 ⟨⟨s1.own, fun z hz => (f1 z hz).imp id .inr⟩, List.forall_mem_nil _⟩, apart_one, ?_⟩; (try simp only [Tree.goal, X.P, X.ev, V.toI_i, V.toB_b, V.toS_s, V.toR_r, V.toV_v, V.toN_n, V.toL_l, SV.ev, CV.ev, Sc.ev, List.getD_cons_zero, List.getD_cons_succ, List.getElem?_cons_zero, List.getElem?_cons_succ, List.map_cons, List.map_nil, List.length_cons, List.length_nil, List.cons_append, List.nil_append, Nat.zero_add, Nat.reduceAdd])
    exact ⟨p1, q1, by rw [headB, if_neg h1, if_neg h2, if_pos h3], s1.ok⟩
  · exact ⟨p0, q0, by rw [headB, if_neg h1, if_neg h2, if_neg h3], hw.ok⟩
  rintro _ - ⟨p1, q1, rfl, o1⟩
  simp only [Tree.goal, X.P, X.ev, V.toI_i, V.toB_b, V.toS_s, V.toR_r, V.toV_v, V.toN_n, V.toL_l, SV.ev, CV.ev, Sc.ev, List.getD_cons_zero, List.getD_cons_succ, List.getElem?_cons_zero, List.getElem?_cons_succ, List.map_cons, List.map_nil, List.length_cons, List.length_nil, List.cons_append, List.nil_append, Nat.zero_add, Nat.reduceAdd]
  refine ⟨[.b (idB p)], rfl, fun _ w' hr => c_pid w' p u v (hr.at_ 3 rfl) (hr.at_ 4 rfl), ?_⟩
  simp only [Tree.goal, X.P, X.ev, V.toI_i, V.toB_b, V.toS_s, V.toR_r, V.toV_v, V.toN_n, V.toL_l, SV.ev, CV.ev, Sc.ev, List.getD_cons_zero, List.getD_cons_succ, List.getElem?_cons_zero, List.getElem?_cons_succ, List.map_cons, List.map_nil, List.length_cons, List.length_nil, List.cons_append, List.nil_append, Nat.zero_add, Nat.reduceAdd]
  refine ⟨fun vs => ∃ p' q', vs = [.v p', .v q', .r (byW (headB p ++ idP p))] ∧ okp p' b, ⟨fun h1 => ?_, fun h1 => ?_⟩, ?_⟩
  · intro v1 w3 hr
    refine (c_pput w3 b p1 q1 _ 2 v1 [p.id] ⟨hr.at_ 3 rfl, o1, hr.at_ 2 rfl⟩ (by omega) (owns.reads (hr.at_ 0 rfl)) (fun k hk => ⟨fun e => Apart.disj hr.sep (i := 0) (j := 3) rfl rfl (by decide) (.inl rfl) (k := k) hk.2 e, fun hb => Apart.disj hr.sep (i := 0) (j := 2) rfl rfl (by decide) (.inl rfl) (k := k) hk.2 hb⟩) (by simpa using hB.id) (by omega) (by simp)).mono ?_
    rintro e w4 ⟨rfl, p1, q1, s1, m1, f1⟩
    refine ⟨[.v p1, .v q1, .r (byW _)], rfl, rfl, m1, List.forall_mem_cons.2 ⟨s1.cells, List.forall_mem_nil _⟩, List.forall_mem_cons.2 ⟨⟨s1.own, fun z hz => (f1 z hz).imp id .inr⟩, List.forall_mem_nil _⟩, apart_one, ?_⟩; (try simp only [Tree.goal, X.P, X.ev, V.toI_i, V.toB_b, V.toS_s, V.toR_r, V.toV_v, V.toN_n, V.toL_l, SV.ev, CV.ev, Sc.ev, List.getD_cons_zero, List.getD_cons_succ, List.getElem?_cons_zero, List.getElem?_cons_succ, List.map_cons, List.map_nil, List.length_cons, List.length_nil, List.cons_append, List.nil_append, Nat.zero_add, Nat.reduceAdd])
    exact ⟨p1, q1, by rw [idP, if_pos h1]; simp, s1.ok⟩
  · exact ⟨p1, q1, by rw [idP, if_neg h1, List.append_nil], o1⟩
  rintro _ - ⟨p2, q2, rfl, o2⟩
  simp only [Tree.goal, X.P, X.ev, V.toI_i, V.toB_b, V.toS_s, V.toR_r, V.toV_v, V.toN_n, V.toL_l, SV.ev, CV.ev, Sc.ev, List.getD_cons_zero, List.getD_cons_succ, List.getElem?_cons_zero, List.getElem?_cons_succ, List.map_cons, List.map_nil, List.length_cons, List.length_nil, List.cons_append, List.nil_append, Nat.zero_add, Nat.reduceAdd]
  intro w1 hr
  refine (c_pws w1 b p2 q2 _ p.payload ⟨hr.at_ 2 rfl, o2, hr.at_ 1 rfl⟩ (by simp only [List.length_append]; omega)).mono ?_
  rintro e w2 ⟨rfl, p1, q1, s1, m1, f1⟩
  refine ⟨[.i _, .v .nilIface, .a Asrt.tt, .v p1, .v q1, .r (byW _)], rfl, rfl, m1, List.forall_mem_cons.2 ⟨s1.cells, List.forall_mem_nil _⟩, List.forall_mem_cons.2 ⟨⟨by simp only [Ent.holds, Tree.goal, X.P, X.ev, V.toI_i, V.toB_b, V.toS_s, V.toR_r, V.toV_v, V.toN_n, V.toL_l, SV.ev, CV.ev, Sc.ev, List.getD_cons_zero, List.getD_cons_succ, List.getElem?_cons_zero, List.getElem?_cons_succ, List.map_cons, List.map_nil, List.length_cons, List.length_nil, List.cons_append, List.nil_append, Nat.zero_add, Nat.reduceAdd]; trivial, fun z hz => by simp only [Ent.fp, Tree.goal, X.P, X.ev, V.toI_i, V.toB_b, V.toS_s, V.toR_r, V.toV_v, V.toN_n, V.toL_l, SV.ev, CV.ev, Sc.ev, List.getD_cons_zero, List.getD_cons_succ, List.getElem?_cons_zero, List.getElem?_cons_succ, List.map_cons, List.map_nil, List.length_cons, List.length_nil, List.cons_append, List.nil_append, Nat.zero_add, Nat.reduceAdd] at hz; exact hz.elim⟩, List.forall_mem_cons.2 ⟨⟨s1.own, fun z hz => (f1 z hz).imp id .inr⟩, List.forall_mem_nil _⟩⟩, apart_st rfl apart_one, ?_⟩; (try simp only [Tree.goal, X.P, X.ev, V.toI_i, V.toB_b, V.toS_s, V.toR_r, V.toV_v, V.toN_n, V.toL_l, SV.ev, CV.ev, Sc.ev, List.getD_cons_zero, List.getD_cons_succ, List.getElem?_cons_zero, List.getElem?_cons_succ, List.map_cons, List.map_nil, List.length_cons, List.length_nil, List.cons_append, List.nil_append, Nat.zero_add, Nat.reduceAdd])
  refine ⟨fun vs => ∃ (i : Nat) (p' q' : Value), vs = [.i i, .v p', .v q', .r (byW (asB p i))] ∧ i ≤ p.asks.length ∧ okp p' b, fun vs => p.asks.length - (vs.getD 0 (.i 0)).toI.toNat, ⟨0, p1, q1, by rw [asB_zero]; rfl, by omega, s1.ok⟩, ?_⟩
  clear s1 m1 f1 hr
  rintro _ - ⟨i, p3, q3, rfl, hi, o3⟩
  simp only [Tree.goal, X.P, X.ev, V.toI_i, V.toB_b, V.toS_s, V.toR_r, V.toV_v, V.toN_n, V.toL_l, SV.ev, CV.ev, Sc.ev, List.getD_cons_zero, List.getD_cons_succ, List.getElem?_cons_zero, List.getElem?_cons_succ, List.map_cons, List.map_nil, List.length_cons, List.length_nil, List.cons_append, List.nil_append, Nat.zero_add, Nat.reduceAdd, List.length_map, Int.toNat_natCast, gA0, gA1]
  have hal := asB_len hB i
  refine ⟨fun h1 => ⟨by omega, fun bx w3 hr => ?_⟩, fun h1 w3 hr => ?_⟩
  · have hf := hs.at_ i
    have hq := hB.ask i
    refine (c_ptext w3 b p3 q3 _ (p.asks.getD i aD).1 ⟨hr.at_ 4 rfl, o3, hr.at_ 2 rfl⟩ (by omega)).mono ?_
    rintro e w4 ⟨rfl, p1, q1, s1, m1, f1⟩
    refine ⟨[.v p1, .v q1, .r (byW _)], rfl, rfl, m1, List.forall_mem_cons.2 ⟨s1.cells, List.forall_mem_nil _⟩, List.forall_mem_cons.2 ⟨⟨s1.own, fun z hz => (f1 z hz).imp id .inr⟩, List.forall_mem_nil _⟩, apart_one, ?_⟩; (try simp only [Tree.goal, X.P, X.ev, V.toI_i, V.toB_b, V.toS_s, V.toR_r, V.toV_v, V.toN_n, V.toL_l, SV.ev, CV.ev, Sc.ev, List.getD_cons_zero, List.getD_cons_succ, List.getElem?_cons_zero, List.getElem?_cons_succ, List.map_cons, List.map_nil, List.length_cons, List.length_nil, List.cons_append, List.nil_append, Nat.zero_add, Nat.reduceAdd])
    refine ⟨fun hk => ?_, fun hk => ?_⟩
    · intro v1 w5 hr
      have e0 := hr.at_ 0 rfl
      simp only [Ent.holds, Tree.goal, X.P, X.ev, V.toI_i, V.toB_b, V.toS_s, V.toR_r, V.toV_v, V.toN_n, V.toL_l, SV.ev, CV.ev, Sc.ev, List.getD_cons_zero, List.getD_cons_succ, List.getElem?_cons_zero, List.getElem?_cons_succ, List.map_cons, List.map_nil, List.length_cons, List.length_nil, List.cons_append, List.nil_append, Nat.zero_add, Nat.reduceAdd, Int.toNat_natCast, gA1] at e0
      refine (c_pput w5 b p1 q1 _ 1 v1 [(p.asks.getD i aD).2] ⟨hr.at_ 5 rfl, s1.ok, hr.at_ 1 rfl⟩ (by omega) (owns.reads e0) (fun k hk => ⟨fun e => Apart.disj hr.sep (i := 0) (j := 5) rfl rfl (by decide) (.inl rfl) (k := k) hk.2 e, fun hb => Apart.disj hr.sep (i := 0) (j := 1) rfl rfl (by decide) (.inl rfl) (k := k) hk.2 hb⟩) (by simpa using hq) (by simp only [List.length_append, txtB_len]; omega) (by simp)).mono ?_
      clear s1 m1 f1
      rintro e w6 ⟨rfl, p1, q1, s1, m1, f1⟩
      refine ⟨[.v p1, .v q1, .r (byW _)], rfl, rfl, m1, List.forall_mem_cons.2 ⟨s1.cells, List.forall_mem_nil _⟩, List.forall_mem_cons.2 ⟨⟨s1.own, fun z hz => (f1 z hz).imp id .inr⟩, List.forall_mem_nil _⟩, apart_one, ?_⟩; (try simp only [Tree.goal, X.P, X.ev, V.toI_i, V.toB_b, V.toS_s, V.toR_r, V.toV_v, V.toN_n, V.toL_l, SV.ev, CV.ev, Sc.ev, List.getD_cons_zero, List.getD_cons_succ, List.getElem?_cons_zero, List.getElem?_cons_succ, List.map_cons, List.map_nil, List.length_cons, List.length_nil, List.cons_append, List.nil_append, Nat.zero_add, Nat.reduceAdd])
      refine ⟨by omega, by omega, ⟨i + 1, p1, q1, ?_, by omega, s1.ok⟩, by omega⟩
      rw [asB_step p i (by omega), askB, if_pos hk]
      simp
    · refine ⟨by omega, by omega, ⟨i + 1, p1, q1, ?_, by omega, s1.ok⟩, by omega⟩
      rw [asB_step p i (by omega), askB, if_neg hk, List.append_nil]
      rfl
  · have : i = p.asks.length := by omega
    subst this
    refine (c_pput w3 b p3 q3 _ 1 v p.codes ⟨hr.at_ 3 rfl, o3, hr.at_ 1 rfl⟩ (by omega) (hr.at_ 5 rfl) (fun k hk => ⟨fun e => Apart.disj hr.sep (i := 5) (j := 3) rfl rfl (by decide) (.inr rfl) (k := k) hk e, fun hb => Apart.disj hr.sep (i := 5) (j := 1) rfl rfl (by decide) (.inr rfl) (k := k) hk hb⟩) hB.codes (by omega) (by omega)).mono ?_
    rintro e w4 ⟨rfl, p1, q1, s1, m1, f1⟩
    refine ⟨[.v p1, .v q1, .r (byW _)], rfl, rfl, m1, List.forall_mem_cons.2 ⟨s1.cells, List.forall_mem_nil _⟩, List.forall_mem_cons.2 ⟨⟨s1.own, fun z hz => (f1 z hz).imp id .inr⟩, List.forall_mem_nil _⟩, apart_one, ?_⟩; (try simp only [Tree.goal, X.P, X.ev, V.toI_i, V.toB_b, V.toS_s, V.toR_r, V.toV_v, V.toN_n, V.toL_l, SV.ev, CV.ev, Sc.ev, List.getD_cons_zero, List.getD_cons_succ, List.getElem?_cons_zero, List.getElem?_cons_succ, List.map_cons, List.map_nil, List.length_cons, List.length_nil, List.cons_append, List.nil_append, Nat.zero_add, Nat.reduceAdd])
    intro w' hr
    rw [asB_all] at hr
    exact ⟨by trivial, wrote_of hr ⟨hr.at_ 3 rfl, s1.ok, hr.at_ 0 rfl⟩ (List.mem_cons_self ..) rfl⟩
end
end Go.Proofs.YtliedecinehijaaDoor
