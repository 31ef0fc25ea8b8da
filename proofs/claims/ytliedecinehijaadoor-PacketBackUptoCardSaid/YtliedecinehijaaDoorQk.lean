/-
  Packets: the reader's body, walked. By an AI agent.
-/
import Derived.Test.YtliedecinehijaaDoorQj
set_option linter.unusedSimpArgs false
set_option linter.unusedVariables false
namespace Go.Proofs.YtliedecinehijaaDoor
open Go.Sx

abbrev nilV : Value := .slice none 0 0
theorem owns_nil (w : World) (ty : Nat) (ks : List Kd) : owns w nilV ty ks [] := ⟨by simp, World.ownsRow_nil _ _ _ _⟩
section
variable (w : World) (b c : Nat) (s : List UInt8) (a : Nat) (sh : Bool) (p : Pkt) (h : rdAt w b s a sh) (hp : pAt w c p nilV nilV) (hbc : b ≠ c) (ha : a ≤ s.length) (hs : s.length < 1000000000)
include h hp hbc
theorem rel_rp : Rel ⟨[b, c], w⟩ [.n b, .s s, .i a, .b sh, .n c, .i p.kind, .b p.dup, .b p.retain, .b p.clean, .b p.session, .i p.qos, .i p.id, .i p.keep, .i p.code, .s p.client, .s p.topic, .s p.payload] [.cells 0 94 [.str (.var 1), .int .i64 (.var 2), .bool (.var 3)], .cells 4 25 [.int .i64 (.var 5), .bool (.var 6), .bool (.var 7), .bool (.var 8), .bool (.var 9), .int .i64 (.var 10), .int .i64 (.var 11), .int .i64 (.var 12), .int .i64 (.var 13), .str (.var 14), .str (.var 15), .str (.var 16), .nils, .nils]] w := by
  refine rel_of (List.forall_mem_cons.2 ⟨h, List.forall_mem_cons.2 ⟨hp, List.forall_mem_nil _⟩⟩) (List.forall_mem_cons.2 ⟨fun _ k hk => ?_, List.forall_mem_cons.2 ⟨fun _ k hk => ?_, List.forall_mem_nil _⟩⟩) (List.pairwise_cons.2 ⟨fun e he _ k h1 h2 => ?_, List.pairwise_singleton _ _⟩)
  · simp only [Ent.fp, Tree.goal, X.P, X.ev, V.toI_i, V.toB_b, V.toS_s, V.toR_r, V.toV_v, V.toN_n, V.toL_l, SV.ev, CV.ev, Sc.ev, List.getD_cons_zero, List.getD_cons_succ, List.getElem?_cons_zero, List.getElem?_cons_succ, List.map_cons, List.map_nil, List.length_cons, List.length_nil, List.cons_append, List.nil_append, Nat.zero_add, Nat.reduceAdd] at hk; simp [hk]
  · simp only [Ent.fp, Tree.goal, X.P, X.ev, V.toI_i, V.toB_b, V.toS_s, V.toR_r, V.toV_v, V.toN_n, V.toL_l, SV.ev, CV.ev, Sc.ev, List.getD_cons_zero, List.getD_cons_succ, List.getElem?_cons_zero, List.getElem?_cons_succ, List.map_cons, List.map_nil, List.length_cons, List.length_nil, List.cons_append, List.nil_append, Nat.zero_add, Nat.reduceAdd] at hk; simp [hk]
  · rw [List.mem_singleton] at he; subst he
    simp only [Ent.fp, Tree.goal, X.P, X.ev, V.toI_i, V.toB_b, V.toS_s, V.toR_r, V.toV_v, V.toN_n, V.toL_l, SV.ev, CV.ev, Sc.ev, List.getD_cons_zero, List.getD_cons_succ, List.getElem?_cons_zero, List.getElem?_cons_succ, List.map_cons, List.map_nil, List.length_cons, List.length_nil, List.cons_append, List.nil_append, Nat.zero_add, Nat.reduceAdd] at h1 h2
    exact hbc (h1.symm.trans h2)
include ha hs
theorem c_rconnect : Calls Tryd.prog 89 #[.pointer (some ⟨b, 0, none⟩), .pointer (some ⟨c, 0, none⟩)] w
    fun e w' => e = .returned (.tuple #[]) ∧ rdAt w' b s (connD s p a sh).2.1 (connD s p a sh).2.2 ∧ pAt w' c (connD s p a sh).1 nilV nilV ∧ Mod [b, c] w w' := by
  refine as_called (run_tree2 (ρ := [.n b, .s s, .i a, .b sh, .n c, .i p.kind, .b p.dup, .b p.retain, .b p.clean, .b p.session, .i p.qos, .i p.id, .i p.keep, .i p.code, .s p.client, .s p.topic, .s p.payload]) sxE_ok Tryd.func89 tree_packet_reader_connect rfl rfl (rel_rp w b c s a sh p h hp hbc) rfl rfl ?_) rfl
  simp only [Tree.goal, X.P, X.ev, V.toI_i, V.toB_b, V.toS_s, V.toR_r, V.toV_v, V.toN_n, V.toL_l, SV.ev, CV.ev, Sc.ev, List.getD_cons_zero, List.getD_cons_succ, List.getElem?_cons_zero, List.getElem?_cons_succ, List.map_cons, List.map_nil, List.length_cons, List.length_nil, List.cons_append, List.nil_append, Nat.zero_add, Nat.reduceAdd]
  have t1 := rdT_bd s a sh ha
  intro w1 hr
  refine (c_rtext w1 b s a sh (hr.at_ 0 rfl) ha hs).mono ?_
  rintro e w2 ⟨rfl, h1, m1⟩
  refine ⟨[.s _, .s s, .i (_ : Nat), .b _], rfl, rfl, m1, List.forall_mem_cons.2 ⟨h1, List.forall_mem_nil _⟩, (fun x hx => absurd hx List.not_mem_nil), apart_nil, ?_⟩; (try simp only [Tree.goal, X.P, X.ev, V.toI_i, V.toB_b, V.toS_s, V.toR_r, V.toV_v, V.toN_n, V.toL_l, SV.ev, CV.ev, Sc.ev, List.getD_cons_zero, List.getD_cons_succ, List.getElem?_cons_zero, List.getElem?_cons_succ, List.map_cons, List.map_nil, List.length_cons, List.length_nil, List.cons_append, List.nil_append, Nat.zero_add, Nat.reduceAdd])
  have n1 := rdN_bd s 1 (rdT s a sh).2.1 (rdT s a sh).2.2 t1.2.1
  clear m1 h1 hr
  intro w1 hr
  refine (c_rnumber w1 b s _ _ (hr.at_ 0 rfl) t1.2.1 hs 1 (by omega)).mono ?_
  rintro e w2 ⟨rfl, h1, m1⟩
  refine ⟨[.i _, .s s, .i (_ : Nat), .b _], rfl, rfl, m1, List.forall_mem_cons.2 ⟨h1, List.forall_mem_nil _⟩, (fun x hx => absurd hx List.not_mem_nil), apart_nil, ?_⟩; (try simp only [Tree.goal, X.P, X.ev, V.toI_i, V.toB_b, V.toS_s, V.toR_r, V.toV_v, V.toN_n, V.toL_l, SV.ev, CV.ev, Sc.ev, List.getD_cons_zero, List.getD_cons_succ, List.getElem?_cons_zero, List.getElem?_cons_succ, List.map_cons, List.map_nil, List.length_cons, List.length_nil, List.cons_append, List.nil_append, Nat.zero_add, Nat.reduceAdd])
  have n2 := rdN_bd s 1 _ (rdN s 1 (rdT s a sh).2.1 (rdT s a sh).2.2).2.2 n1.2.2.2.1
  clear m1 h1 hr
  intro w1 hr
  refine (c_rnumber w1 b s _ _ (hr.at_ 0 rfl) n1.2.2.2.1 hs 1 (by omega)).mono ?_
  rintro e w2 ⟨rfl, h1, m1⟩
  refine ⟨[.i _, .s s, .i (_ : Nat), .b _], rfl, rfl, m1, List.forall_mem_cons.2 ⟨h1, List.forall_mem_nil _⟩, (fun x hx => absurd hx List.not_mem_nil), apart_nil, ?_⟩; (try simp only [Tree.goal, X.P, X.ev, V.toI_i, V.toB_b, V.toS_s, V.toR_r, V.toV_v, V.toN_n, V.toL_l, SV.ev, CV.ev, Sc.ev, List.getD_cons_zero, List.getD_cons_succ, List.getElem?_cons_zero, List.getElem?_cons_succ, List.map_cons, List.map_nil, List.length_cons, List.length_nil, List.cons_append, List.nil_append, Nat.zero_add, Nat.reduceAdd])
  have n3 := rdN_bd s 2 _ (rdN s 1 (rdN s 1 (rdT s a sh).2.1 (rdT s a sh).2.2).2.1 (rdN s 1 (rdT s a sh).2.1 (rdT s a sh).2.2).2.2).2.2 n2.2.2.2.1
  clear m1 h1 hr
  intro w1 hr
  refine (c_rnumber w1 b s _ _ (hr.at_ 0 rfl) n2.2.2.2.1 hs 2 (by omega)).mono ?_
  rintro e w2 ⟨rfl, h1, m1⟩
  refine ⟨[.i _, .s s, .i (_ : Nat), .b _], rfl, rfl, m1, List.forall_mem_cons.2 ⟨h1, List.forall_mem_nil _⟩, (fun x hx => absurd hx List.not_mem_nil), apart_nil, ?_⟩; (try simp only [Tree.goal, X.P, X.ev, V.toI_i, V.toB_b, V.toS_s, V.toR_r, V.toV_v, V.toN_n, V.toL_l, SV.ev, CV.ev, Sc.ev, List.getD_cons_zero, List.getD_cons_succ, List.getElem?_cons_zero, List.getElem?_cons_succ, List.map_cons, List.map_nil, List.length_cons, List.length_nil, List.cons_append, List.nil_append, Nat.zero_add, Nat.reduceAdd])
  clear m1 h1 hr
  intro w1 hr
  refine (c_rtext w1 b s _ _ (hr.at_ 0 rfl) n3.2.2.2.1 hs).mono ?_
  rintro e w2 ⟨rfl, h1, m1⟩
  refine ⟨[.s _, .s s, .i (_ : Nat), .b _], rfl, rfl, m1, List.forall_mem_cons.2 ⟨h1, List.forall_mem_nil _⟩, (fun x hx => absurd hx List.not_mem_nil), apart_nil, ?_⟩; (try simp only [Tree.goal, X.P, X.ev, V.toI_i, V.toB_b, V.toS_s, V.toR_r, V.toV_v, V.toN_n, V.toL_l, SV.ev, CV.ev, Sc.ev, List.getD_cons_zero, List.getD_cons_succ, List.getElem?_cons_zero, List.getElem?_cons_succ, List.map_cons, List.map_nil, List.length_cons, List.length_nil, List.cons_append, List.nil_append, Nat.zero_add, Nat.reduceAdd])
  clear m1 h1 hr
  exact fun w' hr => ⟨by trivial, hr.at_ 0 rfl, hr.at_ 1 rfl, hr.mod⟩
end
/-- What the reader's body leaves. -/
def bodyPost (w w' : World) (b c : Nat) (s : List UInt8) (r : RS) : Prop := rdAt w' b s r.2.1 r.2.2 ∧ Mod [b, c] w w' ∧ ∃ x y, pAt w' c r.1 x y ∧ owns w' x 71 [.str, .int .i64] (r.1.asks.map encA) ∧ owns w' y 3 [.int .i64] (r.1.codes.map encI) ∧
  (∀ k, blockOf x k → w.heap.size ≤ k) ∧ (∀ k, blockOf y k → w.heap.size ≤ k) ∧ ∀ k, blockOf x k → blockOf y k → False
theorem post_of {w w' : World} {b c : Nat} {s : List UInt8} {r : RS} {ρ : List V} {hp : List Ent} {x y : Value} (hr : Rel ⟨[b, c], w⟩ ρ hp w') (h0 : rdAt w' b s r.2.1 r.2.2) (h1 : pAt w' c r.1 x y)
    (o1 : owns w' x 71 [.str, .int .i64] (r.1.asks.map encA)) (o2 : owns w' y 3 [.int .i64] (r.1.codes.map encI)) {vx tx vy ty vb tb vc tc : Nat} {kx ky : List Kd} {rx ry : X} {cb cc : List Sc}
    (e2 : hp[2]? = some (.cells vb tb cb)) (e3 : hp[3]? = some (.cells vc tc cc)) (e4 : hp[4]? = some (.row vx tx kx rx)) (e5 : hp[5]? = some (.row vy ty ky ry))
    (q2 : (ρ.getD vb (.i 0)).toN = b) (q3 : (ρ.getD vc (.i 0)).toN = c) (q4 : (ρ.getD vx (.i 0)).toV = x) (q5 : (ρ.getD vy (.i 0)).toV = y) : bodyPost w w' b c s r := by
  subst q2 q3 q4 q5
  refine ⟨h0, hr.mod, _, _, h1, o1, o2, fun k hk => ?_, fun k hk => ?_, fun k hk hk' => Apart.disj hr.sep e4 e5 (by decide) (.inl rfl) hk hk'⟩
  · rcases hr.own _ (List.mem_of_getElem? e4) rfl k hk with h | h
    · exact h
    · rcases List.mem_cons.1 h with h | h
      · exact (Apart.disj hr.sep e4 e2 (by decide) (.inl rfl) hk h).elim
      · rw [List.mem_singleton] at h; exact (Apart.disj hr.sep e4 e3 (by decide) (.inl rfl) hk h).elim
  · rcases hr.own _ (List.mem_of_getElem? e5) rfl k hk with h | h
    · exact h
    · rcases List.mem_cons.1 h with h | h
      · exact (Apart.disj hr.sep e5 e2 (by decide) (.inl rfl) hk h).elim
      · rw [List.mem_singleton] at h; exact (Apart.disj hr.sep e5 e3 (by decide) (.inl rfl) hk h).elim
def bodyI (s : List UInt8) (q : RS) : List V → Prop := fun vs => ∃ x y, vs = [.s s, .i q.2.1, .b q.2.2, .i q.1.kind, .b q.1.dup, .b q.1.retain, .b q.1.clean, .b q.1.session, .i q.1.qos, .i q.1.id, .i q.1.keep, .i q.1.code, .s q.1.client, .s q.1.topic, .s q.1.payload, .v x, .r (q.1.asks.map encA), .v y, .r (q.1.codes.map encI)]
/-- What holds in the loops of asks, of codes. -/
def asksI (s : List UInt8) (q : RS) : List V → Prop := fun vs => ∃ (l : List Ak) (a : Nat) (b : Bool) (x y : Value), vs = [.s s, .i a, .b b, .i q.1.kind, .b q.1.dup, .b q.1.retain, .b q.1.clean, .b q.1.session, .i q.1.qos, .i q.1.id, .i q.1.keep, .i q.1.code, .s q.1.client, .s q.1.topic, .s q.1.payload, .v x, .r (l.map encA), .v y, .r (q.1.codes.map encI)] ∧ a ≤ s.length ∧
  (b = false → l.length ≤ a) ∧ rdAs s q.1.kind (rounds s a b) a b l = rdAs s q.1.kind (rounds s q.2.1 q.2.2) q.2.1 q.2.2 q.1.asks
def codesI (s : List UInt8) (q : RS) : List V → Prop := fun vs => ∃ (l : List Int) (a : Nat) (b : Bool) (x y : Value), vs = [.s s, .i a, .b b, .i q.1.kind, .b q.1.dup, .b q.1.retain, .b q.1.clean, .b q.1.session, .i q.1.qos, .i q.1.id, .i q.1.keep, .i q.1.code, .s q.1.client, .s q.1.topic, .s q.1.payload, .v x, .r (q.1.asks.map encA), .v y, .r (l.map encI)] ∧ a ≤ s.length ∧
  (b = false → l.length ≤ a) ∧ rdCs s (rounds s a b) a b l = rdCs s (rounds s q.2.1 q.2.2) q.2.1 q.2.2 q.1.codes
def readμ (s : List UInt8) (vs : List V) : Nat := rounds s (vs.getD 1 (.i 0)).toI.toNat (vs.getD 2 (.i 0)).toB
section
variable (w : World) (b c : Nat) (s : List UInt8) (a : Nat) (sh : Bool) (p : Pkt) (h : rdAt w b s a sh) (hp : pAt w c p nilV nilV) (hbc : b ≠ c) (ha : a ≤ s.length) (hs : s.length < 1000000000) (pz : p.asks = [] ∧ p.codes = []) (hB : BdP s p)
include h hp hbc ha hs pz hB
set_option maxHeartbeats 1000000 in
theorem c_rbody : Calls Tryd.prog 49 #[.pointer (some ⟨b, 0, none⟩), .pointer (some ⟨c, 0, none⟩)] w fun e w' => e = .returned (.tuple #[]) ∧ bodyPost w w' b c s (bodyD s p a sh) := by
  refine as_called (run_tree2 (ρ := [.n b, .s s, .i a, .b sh, .n c, .i p.kind, .b p.dup, .b p.retain, .b p.clean, .b p.session, .i p.qos, .i p.id, .i p.keep, .i p.code, .s p.client, .s p.topic, .s p.payload]) (sxE_ok.joins _) Tryd.func49 tree_packet_reader_body rfl rfl (rel_rp w b c s a sh p h hp hbc) rfl rfl ?_) rfl
  simp only [Tree.goal, X.P, X.ev, V.toI_i, V.toB_b, V.toS_s, V.toR_r, V.toV_v, V.toN_n, V.toL_l, SV.ev, CV.ev, Sc.ev, List.getD_cons_zero, List.getD_cons_succ, List.getElem?_cons_zero, List.getElem?_cons_succ, List.map_cons, List.map_nil, List.length_cons, List.length_nil, List.cons_append, List.nil_append, Nat.zero_add, Nat.reduceAdd]
  intro b1 b2
  refine ⟨bodyI s (headD s p a sh), ⟨fun h1 => ?_, fun h1 => ⟨fun h2 => ?_, fun h2 => ⟨fun h3 => ?_, fun h3 => ?_⟩⟩⟩, ?_⟩
  · intro w1 hr
    refine (c_rconnect w1 b c s a sh p (hr.at_ 2 rfl) (hr.at_ 3 rfl) hbc ha hs).mono ?_
    rintro e w2 ⟨rfl, g1, g2, m1⟩
    have hq : headD s p a sh = connD s p a sh := by rw [headD, if_pos h1]
    rw [hq]
    have za : (connD s p a sh).1.asks = [] := pz.1
    have zc : (connD s p a sh).1.codes = [] := pz.2
    generalize connD s p a sh = q at g1 g2 za zc ⊢
    refine ⟨[.s s, .i q.2.1, .b q.2.2, .i q.1.kind, .b q.1.dup, .b q.1.retain, .b q.1.clean, .b q.1.session, .i q.1.qos, .i q.1.id, .i q.1.keep, .i q.1.code, .s q.1.client, .s q.1.topic, .s q.1.payload, .v nilV, .r [], .v nilV, .r []], rfl, rfl, m1, List.forall_mem_cons.2 ⟨g1, List.forall_mem_cons.2 ⟨g2, List.forall_mem_nil _⟩⟩,
      List.forall_mem_cons.2 ⟨⟨owns_nil _ _ _, fun z hz => by cases hz⟩, List.forall_mem_cons.2 ⟨⟨owns_nil _ _ _, fun z hz => by cases hz⟩, List.forall_mem_nil _⟩⟩, List.pairwise_cons.2 ⟨fun e he _ k hk _ => (by cases hk), List.pairwise_singleton _ _⟩, ?_⟩
    simp only [Tree.goal, X.P, X.ev, V.toI_i, V.toB_b, V.toS_s, V.toR_r, V.toV_v, V.toN_n, V.toL_l, SV.ev, CV.ev, Sc.ev, List.getD_cons_zero, List.getD_cons_succ, List.getElem?_cons_zero, List.getElem?_cons_succ, List.map_cons, List.map_nil, List.length_cons, List.length_nil, List.cons_append, List.nil_append, Nat.zero_add, Nat.reduceAdd]
    exact ⟨nilV, nilV, by rw [za, zc]; rfl⟩
  · have n1 := rdN_bd s 1 a sh ha
    intro w1 hr
    refine (c_rnumber w1 b s a sh (hr.at_ 2 rfl) ha hs 1 (by omega)).mono ?_
    rintro e w2 ⟨rfl, h1, m1⟩
    refine ⟨[.i _, .s s, .i (_ : Nat), .b _], rfl, rfl, m1, List.forall_mem_cons.2 ⟨h1, List.forall_mem_nil _⟩, (fun x hx => absurd hx List.not_mem_nil), apart_nil, ?_⟩; (try simp only [Tree.goal, X.P, X.ev, V.toI_i, V.toB_b, V.toS_s, V.toR_r, V.toV_v, V.toN_n, V.toL_l, SV.ev, CV.ev, Sc.ev, List.getD_cons_zero, List.getD_cons_succ, List.getElem?_cons_zero, List.getElem?_cons_succ, List.map_cons, List.map_nil, List.length_cons, List.length_nil, List.cons_append, List.nil_append, Nat.zero_add, Nat.reduceAdd])
    clear m1 h1 hr
    intro w1 hr
    refine (c_rnumber w1 b s _ _ (hr.at_ 2 rfl) n1.2.2.2.1 hs 1 (by omega)).mono ?_
    rintro e w2 ⟨rfl, h1, m1⟩
    refine ⟨[.i _, .s s, .i (_ : Nat), .b _], rfl, rfl, m1, List.forall_mem_cons.2 ⟨h1, List.forall_mem_nil _⟩, (fun x hx => absurd hx List.not_mem_nil), apart_nil, ?_⟩; (try simp only [Tree.goal, X.P, X.ev, V.toI_i, V.toB_b, V.toS_s, V.toR_r, V.toV_v, V.toN_n, V.toL_l, SV.ev, CV.ev, Sc.ev, List.getD_cons_zero, List.getD_cons_succ, List.getElem?_cons_zero, List.getElem?_cons_succ, List.map_cons, List.map_nil, List.length_cons, List.length_nil, List.cons_append, List.nil_append, Nat.zero_add, Nat.reduceAdd])
    rw [headD, if_neg (show ¬ p.kind = 1 by assumption), if_pos h2]
    exact ⟨nilV, nilV, by simp only [pz.1, pz.2]; rfl⟩
  · intro w1 hr
    refine (c_rtext w1 b s a sh (hr.at_ 2 rfl) ha hs).mono ?_
    rintro e w2 ⟨rfl, h1, m1⟩
    refine ⟨[.s _, .s s, .i (_ : Nat), .b _], rfl, rfl, m1, List.forall_mem_cons.2 ⟨h1, List.forall_mem_nil _⟩, (fun x hx => absurd hx List.not_mem_nil), apart_nil, ?_⟩; (try simp only [Tree.goal, X.P, X.ev, V.toI_i, V.toB_b, V.toS_s, V.toR_r, V.toV_v, V.toN_n, V.toL_l, SV.ev, CV.ev, Sc.ev, List.getD_cons_zero, List.getD_cons_succ, List.getElem?_cons_zero, List.getElem?_cons_succ, List.map_cons, List.map_nil, List.length_cons, List.length_nil, List.cons_append, List.nil_append, Nat.zero_add, Nat.reduceAdd])
    rw [headD, if_neg (show ¬ p.kind = 1 by assumption), if_neg (show ¬ p.kind = 2 by assumption), if_pos h3]
    exact ⟨nilV, nilV, by simp only [pz.1, pz.2]; rfl⟩
  · rw [headD, if_neg (show ¬ p.kind = 1 by assumption), if_neg (show ¬ p.kind = 2 by assumption), if_neg (show ¬ p.kind = 3 by assumption)]
    exact ⟨nilV, nilV, by simp only [pz.1, pz.2]; rfl⟩
  obtain ⟨d1, d2, d3, d4⟩ := headD_bd (b := sh) hB ha
  rw [bodyD]
  rw [pz.1] at d3
  rw [pz.2] at d4
  generalize headD s p a sh = q at d1 d2 d3 d4 ⊢
  rintro _ - ⟨x1, y1, rfl⟩
  simp only [Tree.goal, X.P, X.ev, V.toI_i, V.toB_b, V.toS_s, V.toR_r, V.toV_v, V.toN_n, V.toL_l, SV.ev, CV.ev, Sc.ev, List.getD_cons_zero, List.getD_cons_succ, List.getElem?_cons_zero, List.getElem?_cons_succ, List.map_cons, List.map_nil, List.length_cons, List.length_nil, List.cons_append, List.nil_append, Nat.zero_add, Nat.reduceAdd]
  refine ⟨[.b (idB q.1)], rfl, fun _ w' hr => c_pid w' q.1 x1 y1 (owns.reads (hr.at_ 4 rfl)) (owns.reads (hr.at_ 5 rfl)), ?_⟩
  simp only [Tree.goal, X.P, X.ev, V.toI_i, V.toB_b, V.toS_s, V.toR_r, V.toV_v, V.toN_n, V.toL_l, SV.ev, CV.ev, Sc.ev, List.getD_cons_zero, List.getD_cons_succ, List.getElem?_cons_zero, List.getElem?_cons_succ, List.map_cons, List.map_nil, List.length_cons, List.length_nil, List.cons_append, List.nil_append, Nat.zero_add, Nat.reduceAdd]
  refine ⟨bodyI s (idD s q), ⟨fun h1 => ?_, fun h1 => ?_⟩, ?_⟩
  · intro w1 hr
    refine (c_rnumber w1 b s _ _ (hr.at_ 2 rfl) d2 hs 2 (by omega)).mono ?_
    have h1' := h1
    rintro e w2 ⟨rfl, h1, m1⟩
    refine ⟨[.i _, .s s, .i (_ : Nat), .b _], rfl, rfl, m1, List.forall_mem_cons.2 ⟨h1, List.forall_mem_nil _⟩, (fun x hx => absurd hx List.not_mem_nil), apart_nil, ?_⟩; (try simp only [Tree.goal, X.P, X.ev, V.toI_i, V.toB_b, V.toS_s, V.toR_r, V.toV_v, V.toN_n, V.toL_l, SV.ev, CV.ev, Sc.ev, List.getD_cons_zero, List.getD_cons_succ, List.getElem?_cons_zero, List.getElem?_cons_succ, List.map_cons, List.map_nil, List.length_cons, List.length_nil, List.cons_append, List.nil_append, Nat.zero_add, Nat.reduceAdd])
    rw [idD, if_pos h1']
    exact ⟨x1, y1, rfl⟩
  · rw [idD, if_neg h1]
    exact ⟨x1, y1, rfl⟩
  obtain ⟨f1, hqa, f3, f4⟩ := idD_bd d1 d2
  have hqz : (idD s q).1.asks = [] ∧ (idD s q).1.codes = [] := ⟨by rw [f3, d3], by rw [f4, d4]⟩
  generalize idD s q = q at f1 hqa hqz ⊢
  rintro _ - ⟨x2, y2, rfl⟩
  simp only [Tree.goal, X.P, X.ev, V.toI_i, V.toB_b, V.toS_s, V.toR_r, V.toV_v, V.toN_n, V.toL_l, SV.ev, CV.ev, Sc.ev, List.getD_cons_zero, List.getD_cons_succ, List.getElem?_cons_zero, List.getElem?_cons_succ, List.map_cons, List.map_nil, List.length_cons, List.length_nil, List.cons_append, List.nil_append, Nat.zero_add, Nat.reduceAdd]
  refine ⟨fun k3 => ?_, fun k3 => ⟨fun k8 => ?_, fun k8 => ⟨fun k10 => ?_, fun k10 => ⟨fun k9 => ?_, fun k9 w' hr => ?_⟩⟩⟩⟩
  · intro w1 hr
    refine (c_rleft w1 b s _ _ (hr.at_ 2 rfl) hqa).mono ?_
    rintro e w2 ⟨rfl, h1, m1⟩
    refine ⟨[.s _, .s s, .i (_ : Nat), .b _], rfl, rfl, m1, List.forall_mem_cons.2 ⟨h1, List.forall_mem_nil _⟩, (fun x hx => absurd hx List.not_mem_nil), apart_nil, ?_⟩; (try simp only [Tree.goal, X.P, X.ev, V.toI_i, V.toB_b, V.toS_s, V.toR_r, V.toV_v, V.toN_n, V.toL_l, SV.ev, CV.ev, Sc.ev, List.getD_cons_zero, List.getD_cons_succ, List.getElem?_cons_zero, List.getElem?_cons_succ, List.map_cons, List.map_nil, List.length_cons, List.length_nil, List.cons_append, List.nil_append, Nat.zero_add, Nat.reduceAdd])
    intro w' hr
    rw [tailD, if_pos k3]
    exact ⟨by trivial, post_of hr (hr.at_ 2 rfl) (hr.at_ 3 rfl) (hr.at_ 4 rfl) (hr.at_ 5 rfl) rfl rfl rfl rfl rfl rfl rfl rfl⟩
  · refine ⟨asksI s q, readμ s, ⟨q.1.asks, q.2.1, q.2.2, x2, y2, rfl, hqa, fun _ => by rw [hqz.1]; simp, rfl⟩, ?_⟩; rintro _ - ⟨l, a', b', x3, y3, rfl, ha', hl', hg⟩; simp only [Tree.goal, X.P, X.ev, V.toI_i, V.toB_b, V.toS_s, V.toR_r, V.toV_v, V.toN_n, V.toL_l, SV.ev, CV.ev, Sc.ev, List.getD_cons_zero, List.getD_cons_succ, List.getElem?_cons_zero, List.getElem?_cons_succ, List.map_cons, List.map_nil, List.length_cons, List.length_nil, List.cons_append, List.nil_append, Nat.zero_add, Nat.reduceAdd, Int.toNat_natCast, List.length_map]; refine ⟨fun hc => ?_, fun hc w' hr => ?_⟩; (· have hc' : a' < s.length ∧ b' = false := ⟨by have := hc.1; omega, by simpa using hc.2⟩; have hll := hl' hc'.2; have hA := rdA_bd s q.1.kind a' b' ha'; have hT := rdT_bd s a' b' ha'; have hst := rdAs_step (k := q.1.kind) (l := l) hc'; have hlt := rdA_lt (k := q.1.kind) hc'.1 hc'.2; intro w1 hr; refine (c_rtext w1 b s a' b' (hr.at_ 2 rfl) ha' hs).mono ?_; rintro e w2 ⟨rfl, h1, m1⟩; refine ⟨[.s _, .s s, .i (_ : Nat), .b _], rfl, rfl, m1, List.forall_mem_cons.2 ⟨h1, List.forall_mem_nil _⟩, (fun x hx => absurd hx List.not_mem_nil), apart_nil, ?_⟩; (try simp only [Tree.goal, X.P, X.ev, V.toI_i, V.toB_b, V.toS_s, V.toR_r, V.toV_v, V.toN_n, V.toL_l, SV.ev, CV.ev, Sc.ev, List.getD_cons_zero, List.getD_cons_succ, List.getElem?_cons_zero, List.getElem?_cons_succ, List.map_cons, List.map_nil, List.length_cons, List.length_nil, List.cons_append, List.nil_append, Nat.zero_add, Nat.reduceAdd]); clear m1 h1 hr; intro ba; refine ⟨fun hk => ?_, fun hk => ?_⟩; (· have e8 : rdA s q.1.kind a' b' = (((rdT s a' b').1, (rdN s 1 (rdT s a' b').2.1 (rdT s a' b').2.2).1), (rdN s 1 (rdT s a' b').2.1 (rdT s a' b').2.2).2) := by { rw [rdA, if_pos hk] }; intro w1 hr; refine (c_rnumber w1 b s _ _ (hr.at_ 3 rfl) hT.2.1 hs 1 (by omega)).mono ?_; rintro e w2 ⟨rfl, h1, m1⟩; refine ⟨[.i _, .s s, .i (_ : Nat), .b _], rfl, rfl, m1, List.forall_mem_cons.2 ⟨h1, List.forall_mem_nil _⟩, (fun x hx => absurd hx List.not_mem_nil), apart_nil, ?_⟩; (try simp only [Tree.goal, X.P, X.ev, V.toI_i, V.toB_b, V.toS_s, V.toR_r, V.toV_v, V.toN_n, V.toL_l, SV.ev, CV.ev, Sc.ev, List.getD_cons_zero, List.getD_cons_succ, List.getElem?_cons_zero, List.getElem?_cons_succ, List.map_cons, List.map_nil, List.length_cons, List.length_nil, List.cons_append, List.nil_append, Nat.zero_add, Nat.reduceAdd]); clear m1 h1 hr; intro z1; refine ⟨by (try simp only [List.length_map, List.length_nil, List.length_cons]); omega, fun z2 => ⟨⟨l ++ [(rdA s q.1.kind a' b').1], (rdA s q.1.kind a' b').2.1, (rdA s q.1.kind a' b').2.2, z2, y3, by rw [e8]; simp [encA], hA.2.1, fun h0 => ?_, by rw [← hst]; exact hg⟩, by rw [e8] at hlt; exact hlt⟩⟩; have := (hA.2.2.2.2.2.2 h0).2.2; simp only [List.length_append, List.length_cons, List.length_nil]; omega); (· have e8 : rdA s q.1.kind a' b' = (((rdT s a' b').1, 0), (rdT s a' b').2) := by { rw [rdA, if_neg hk] }; intro z1; refine ⟨by (try simp only [List.length_map, List.length_nil, List.length_cons]); omega, fun z2 => ⟨⟨l ++ [(rdA s q.1.kind a' b').1], (rdA s q.1.kind a' b').2.1, (rdA s q.1.kind a' b').2.2, z2, y3, by rw [e8]; simp [encA], hA.2.1, fun h0 => ?_, by rw [← hst]; exact hg⟩, by rw [e8] at hlt; exact hlt⟩⟩; have := (hA.2.2.2.2.2.2 h0).2.2; simp only [List.length_append, List.length_cons, List.length_nil]; omega)); (· have hc' : ¬ (a' < s.length ∧ b' = false) := fun hh => hc ⟨by have := hh.1; omega, by simp [hh.2]⟩; rw [rdAs_end hc'] at hg; have hrr : tailD s q = ({ q.1 with asks := l }, a', b') := by { unfold tailD; rw [if_neg k3, if_pos (by omega), ← hg] }; rw [hrr]; exact ⟨by trivial, post_of hr (hr.at_ 2 rfl) (hr.at_ 3 rfl) (hr.at_ 4 rfl) (hr.at_ 5 rfl) rfl rfl rfl rfl rfl rfl rfl rfl⟩)
  · refine ⟨asksI s q, readμ s, ⟨q.1.asks, q.2.1, q.2.2, x2, y2, rfl, hqa, fun _ => by rw [hqz.1]; simp, rfl⟩, ?_⟩; rintro _ - ⟨l, a', b', x3, y3, rfl, ha', hl', hg⟩; simp only [Tree.goal, X.P, X.ev, V.toI_i, V.toB_b, V.toS_s, V.toR_r, V.toV_v, V.toN_n, V.toL_l, SV.ev, CV.ev, Sc.ev, List.getD_cons_zero, List.getD_cons_succ, List.getElem?_cons_zero, List.getElem?_cons_succ, List.map_cons, List.map_nil, List.length_cons, List.length_nil, List.cons_append, List.nil_append, Nat.zero_add, Nat.reduceAdd, Int.toNat_natCast, List.length_map]; refine ⟨fun hc => ?_, fun hc w' hr => ?_⟩; (· have hc' : a' < s.length ∧ b' = false := ⟨by have := hc.1; omega, by simpa using hc.2⟩; have hll := hl' hc'.2; have hA := rdA_bd s q.1.kind a' b' ha'; have hT := rdT_bd s a' b' ha'; have hst := rdAs_step (k := q.1.kind) (l := l) hc'; have hlt := rdA_lt (k := q.1.kind) hc'.1 hc'.2; intro w1 hr; refine (c_rtext w1 b s a' b' (hr.at_ 2 rfl) ha' hs).mono ?_; rintro e w2 ⟨rfl, h1, m1⟩; refine ⟨[.s _, .s s, .i (_ : Nat), .b _], rfl, rfl, m1, List.forall_mem_cons.2 ⟨h1, List.forall_mem_nil _⟩, (fun x hx => absurd hx List.not_mem_nil), apart_nil, ?_⟩; (try simp only [Tree.goal, X.P, X.ev, V.toI_i, V.toB_b, V.toS_s, V.toR_r, V.toV_v, V.toN_n, V.toL_l, SV.ev, CV.ev, Sc.ev, List.getD_cons_zero, List.getD_cons_succ, List.getElem?_cons_zero, List.getElem?_cons_succ, List.map_cons, List.map_nil, List.length_cons, List.length_nil, List.cons_append, List.nil_append, Nat.zero_add, Nat.reduceAdd]); clear m1 h1 hr; intro ba; refine ⟨fun hk => ?_, fun hk => ?_⟩; (· have e8 : rdA s q.1.kind a' b' = (((rdT s a' b').1, (rdN s 1 (rdT s a' b').2.1 (rdT s a' b').2.2).1), (rdN s 1 (rdT s a' b').2.1 (rdT s a' b').2.2).2) := by { rw [rdA, if_pos hk] }; intro w1 hr; refine (c_rnumber w1 b s _ _ (hr.at_ 3 rfl) hT.2.1 hs 1 (by omega)).mono ?_; rintro e w2 ⟨rfl, h1, m1⟩; refine ⟨[.i _, .s s, .i (_ : Nat), .b _], rfl, rfl, m1, List.forall_mem_cons.2 ⟨h1, List.forall_mem_nil _⟩, (fun x hx => absurd hx List.not_mem_nil), apart_nil, ?_⟩; (try simp only [Tree.goal, X.P, X.ev, V.toI_i, V.toB_b, V.toS_s, V.toR_r, V.toV_v, V.toN_n, V.toL_l, SV.ev, CV.ev, Sc.ev, List.getD_cons_zero, List.getD_cons_succ, List.getElem?_cons_zero, List.getElem?_cons_succ, List.map_cons, List.map_nil, List.length_cons, List.length_nil, List.cons_append, List.nil_append, Nat.zero_add, Nat.reduceAdd]); clear m1 h1 hr; intro z1; refine ⟨by (try simp only [List.length_map, List.length_nil, List.length_cons]); omega, fun z2 => ⟨⟨l ++ [(rdA s q.1.kind a' b').1], (rdA s q.1.kind a' b').2.1, (rdA s q.1.kind a' b').2.2, z2, y3, by rw [e8]; simp [encA], hA.2.1, fun h0 => ?_, by rw [← hst]; exact hg⟩, by rw [e8] at hlt; exact hlt⟩⟩; have := (hA.2.2.2.2.2.2 h0).2.2; simp only [List.length_append, List.length_cons, List.length_nil]; omega); (· have e8 : rdA s q.1.kind a' b' = (((rdT s a' b').1, 0), (rdT s a' b').2) := by { rw [rdA, if_neg hk] }; intro z1; refine ⟨by (try simp only [List.length_map, List.length_nil, List.length_cons]); omega, fun z2 => ⟨⟨l ++ [(rdA s q.1.kind a' b').1], (rdA s q.1.kind a' b').2.1, (rdA s q.1.kind a' b').2.2, z2, y3, by rw [e8]; simp [encA], hA.2.1, fun h0 => ?_, by rw [← hst]; exact hg⟩, by rw [e8] at hlt; exact hlt⟩⟩; have := (hA.2.2.2.2.2.2 h0).2.2; simp only [List.length_append, List.length_cons, List.length_nil]; omega)); (· have hc' : ¬ (a' < s.length ∧ b' = false) := fun hh => hc ⟨by have := hh.1; omega, by simp [hh.2]⟩; rw [rdAs_end hc'] at hg; have hrr : tailD s q = ({ q.1 with asks := l }, a', b') := by { unfold tailD; rw [if_neg k3, if_pos (by omega), ← hg] }; rw [hrr]; exact ⟨by trivial, post_of hr (hr.at_ 2 rfl) (hr.at_ 3 rfl) (hr.at_ 4 rfl) (hr.at_ 5 rfl) rfl rfl rfl rfl rfl rfl rfl rfl⟩)
  · refine ⟨codesI s q, readμ s, ⟨q.1.codes, q.2.1, q.2.2, x2, y2, rfl, hqa, fun _ => by rw [hqz.2]; simp, rfl⟩, ?_⟩; rintro _ - ⟨l, a', b', x3, y3, rfl, ha', hl', hg⟩; simp only [Tree.goal, X.P, X.ev, V.toI_i, V.toB_b, V.toS_s, V.toR_r, V.toV_v, V.toN_n, V.toL_l, SV.ev, CV.ev, Sc.ev, List.getD_cons_zero, List.getD_cons_succ, List.getElem?_cons_zero, List.getElem?_cons_succ, List.map_cons, List.map_nil, List.length_cons, List.length_nil, List.cons_append, List.nil_append, Nat.zero_add, Nat.reduceAdd, Int.toNat_natCast, List.length_map]; refine ⟨fun hc => ⟨?_, ?_⟩, fun hc w' hr => ?_⟩; (· have hc' : a' < s.length ∧ b' = false := ⟨by have := hc.1; omega, by simpa using hc.2⟩; have hll := hl' hc'.2; have hA := rdN_bd s 1 a' b' ha'; have hst := rdCs_step (l := l) hc'; have hlt := rdC_lt hc'.1 hc'.2; intro w1 hr; refine (c_rnumber w1 b s a' b' (hr.at_ 2 rfl) ha' hs 1 (by omega)).mono ?_; rintro e w2 ⟨rfl, h1, m1⟩; refine ⟨[.i _, .s s, .i (_ : Nat), .b _], rfl, rfl, m1, List.forall_mem_cons.2 ⟨h1, List.forall_mem_nil _⟩, (fun x hx => absurd hx List.not_mem_nil), apart_nil, ?_⟩; (try simp only [Tree.goal, X.P, X.ev, V.toI_i, V.toB_b, V.toS_s, V.toR_r, V.toV_v, V.toN_n, V.toL_l, SV.ev, CV.ev, Sc.ev, List.getD_cons_zero, List.getD_cons_succ, List.getElem?_cons_zero, List.getElem?_cons_succ, List.map_cons, List.map_nil, List.length_cons, List.length_nil, List.cons_append, List.nil_append, Nat.zero_add, Nat.reduceAdd]); clear m1 h1 hr; intro z1; refine ⟨by (try simp only [List.length_map, List.length_nil, List.length_cons]); omega, fun z2 => ⟨⟨l ++ [(rdN s 1 a' b').1], (rdN s 1 a' b').2.1, (rdN s 1 a' b').2.2, x3, z2, by simp [encI], hA.2.2.2.1, fun h0 => ?_, by rw [← hst]; exact hg⟩, hlt⟩⟩; have := (hA.2.2.2.2.2 h0).2; simp only [List.length_append, List.length_cons, List.length_nil]; omega); (· have hc' : a' < s.length ∧ b' = false := ⟨by have := hc.1; omega, by simpa using hc.2⟩; have hll := hl' hc'.2; have hA := rdN_bd s 1 a' b' ha'; have hst := rdCs_step (l := l) hc'; have hlt := rdC_lt hc'.1 hc'.2; intro w1 hr; refine (c_rnumber w1 b s a' b' (hr.at_ 2 rfl) ha' hs 1 (by omega)).mono ?_; rintro e w2 ⟨rfl, h1, m1⟩; refine ⟨[.i _, .s s, .i (_ : Nat), .b _], rfl, rfl, m1, List.forall_mem_cons.2 ⟨h1, List.forall_mem_nil _⟩, (fun x hx => absurd hx List.not_mem_nil), apart_nil, ?_⟩; (try simp only [Tree.goal, X.P, X.ev, V.toI_i, V.toB_b, V.toS_s, V.toR_r, V.toV_v, V.toN_n, V.toL_l, SV.ev, CV.ev, Sc.ev, List.getD_cons_zero, List.getD_cons_succ, List.getElem?_cons_zero, List.getElem?_cons_succ, List.map_cons, List.map_nil, List.length_cons, List.length_nil, List.cons_append, List.nil_append, Nat.zero_add, Nat.reduceAdd]); clear m1 h1 hr; refine ⟨?_, ?_⟩; (· intro z1; refine ⟨by (try simp only [List.length_map, List.length_nil, List.length_cons]); omega, fun z2 => ⟨⟨l ++ [(rdN s 1 a' b').1], (rdN s 1 a' b').2.1, (rdN s 1 a' b').2.2, x3, z2, by simp [encI], hA.2.2.2.1, fun h0 => ?_, by rw [← hst]; exact hg⟩, hlt⟩⟩; have := (hA.2.2.2.2.2 h0).2; simp only [List.length_append, List.length_cons, List.length_nil]; omega); (· intro z1; refine ⟨by (try simp only [List.length_map, List.length_nil, List.length_cons]); omega, fun z2 => ⟨⟨l ++ [(rdN s 1 a' b').1], (rdN s 1 a' b').2.1, (rdN s 1 a' b').2.2, x3, z2, by simp [encI], hA.2.2.2.1, fun h0 => ?_, by rw [← hst]; exact hg⟩, hlt⟩⟩; have := (hA.2.2.2.2.2 h0).2; simp only [List.length_append, List.length_cons, List.length_nil]; omega)); (· have hc' : ¬ (a' < s.length ∧ b' = false) := fun hh => hc ⟨by have := hh.1; omega, by simp [hh.2]⟩; rw [rdCs_end hc'] at hg; have hrr : tailD s q = ({ q.1 with codes := l }, a', b') := by { unfold tailD; rw [if_neg k3, if_neg (by omega), if_pos k9, ← hg] }; rw [hrr]; exact ⟨by trivial, post_of hr (hr.at_ 2 rfl) (hr.at_ 3 rfl) (hr.at_ 4 rfl) (hr.at_ 5 rfl) rfl rfl rfl rfl rfl rfl rfl rfl⟩)
  · rw [tailD, if_neg k3, if_neg (by omega), if_neg k9]
    exact ⟨by trivial, post_of hr (hr.at_ 2 rfl) (hr.at_ 3 rfl) (hr.at_ 4 rfl) (hr.at_ 5 rfl) rfl rfl rfl rfl rfl rfl rfl rfl⟩
end
end Go.Proofs.YtliedecinehijaaDoor
