/-
  Packets: Decode, walked. By an AI agent.
-/
import Derived.Test.YtliedecinehijaaDoorQk
set_option linter.unusedSimpArgs false
set_option linter.unusedVariables false
namespace Go.Proofs.YtliedecinehijaaDoor
open Go.Sx
theorem shr_c (c k : Nat) (hk : k < 64) : ((c : Nat) : Int).fdiv (2 ^ (Nat.min k IntKind.i64.bits)) = ((c / 2 ^ k : Nat) : Int) := by
  rw [shr_i64 _ k hk, Int.natCast_ediv]
theorem and_c8 (c : Nat) (h : c < 256) : (!decide (ibits .and .i64 (c : Int) 8 = 0)) = decide (c / 8 % 2 = 1) := by
  have : ∀ x : Fin 256, (!decide (ibits .and .i64 ((x.val : Nat) : Int) 8 = 0)) = decide (x.val / 8 % 2 = 1) := by decide +kernel
  exact this ⟨c, h⟩
theorem and_c1 (c : Nat) (h : c < 256) : (!decide (ibits .and .i64 (c : Int) 1 = 0)) = decide (c % 2 = 1) := by
  have : ∀ x : Fin 256, (!decide (ibits .and .i64 ((x.val : Nat) : Int) 1 = 0)) = decide (x.val % 2 = 1) := by decide +kernel
  exact this ⟨c, h⟩
theorem and_c3 (c : Nat) (h : c < 256) : ibits .and .i64 ((c / 2 ^ 1 : Nat) : Int) 3 = ((c / 2 % 4 : Nat) : Int) := by
  have : ∀ x : Fin 256, ibits .and .i64 ((x.val / 2 ^ 1 : Nat) : Int) 3 = ((x.val / 2 % 4 : Nat) : Int) := by decide +kernel
  exact this ⟨c, h⟩
/-- What Decode leaves: a packet whose slices are new. -/
def decPost (w w' : World) (p : Pkt) (x y : Value) : Prop := Mod [] w w' ∧ readsA w' x p.asks ∧ readsI w' y p.codes ∧ (∀ k, blockOf x k → w.heap.size ≤ k) ∧ (∀ k, blockOf y k → w.heap.size ≤ k)
theorem decPost_nil {w w' : World} (h : Mod [] w w') (k : Int) : decPost w w' (pD k) nilV nilV := ⟨h, readsA_nil _, readsI_nil _, fun k hk => (by cases hk), fun k hk => (by cases hk)⟩
set_option maxHeartbeats 1000000 in
theorem c_PDecode (w : World) (s : List UInt8) (hs : s.length ≤ 20000000) : Calls Tryd.prog 14 #[.string ⟨s.toArray⟩] w
    fun e w' => ∃ x y, e = .returned (.tuple #[pV (decD s).1 x y, .int .i64 (decD s).2]) ∧ decPost w w' (decD s).1 x y := by
  refine as_called (run_plain2 (ρ := [.s s]) sxE_ok Tryd.func14 tree_packet_Decode rfl rfl rfl ?_) rfl
  simp only [Tree.goal, X.P, X.ev, V.toI_i, V.toB_b, V.toS_s, V.toR_r, V.toV_v, V.toN_n, V.toL_l, SV.ev, CV.ev, Sc.ev, List.getD_cons_zero, List.getD_cons_succ, List.getElem?_cons_zero, List.getElem?_cons_succ, List.map_cons, List.map_nil, List.length_cons, List.length_nil, List.cons_append, List.nil_append, Nat.zero_add, Nat.reduceAdd]
  intro b1
  refine ⟨[.i (getL s 1).1, .i (getL s 1).2.1, .i (getL s 1).2.2], rfl, fun _ w' _ => c_GetLong w' s 1 (by omega), ?_⟩
  simp only [Tree.goal, X.P, X.ev, V.toI_i, V.toB_b, V.toS_s, V.toR_r, V.toV_v, V.toN_n, V.toL_l, SV.ev, CV.ev, Sc.ev, List.getD_cons_zero, List.getD_cons_succ, List.getElem?_cons_zero, List.getElem?_cons_succ, List.map_cons, List.map_nil, List.length_cons, List.length_nil, List.cons_append, List.nil_append, Nat.zero_add, Nat.reduceAdd]
  have hgb := getL_bd s 1
  refine ⟨fun h w' hr => ?_, fun h => ?_⟩
  · refine ⟨nilV, nilV, ?_⟩
    rw [decD, if_pos h]
    exact ⟨rfl, decPost_nil hr.mod 0⟩
  have hL := h
  have hl0 : (getL s 1).2.2 = 0 := Classical.not_not.1 fun hh => h (.inr hh)
  have hbd := (readP_bd hl0).1
  have hat := getL_at (a := 1) hl0
  have hln : (1 + (getL s 1).2.1).toNat ≤ s.length := hat.2.1
  have hz : Int.toNat 0 = 0 := rfl
  have h4 : (Int.toNat 4) = 4 := rfl
  have h1 : (Int.toNat 1) = 1 := rfl
  simp only [hz, h4, h1]
  have hc := u8_lt (s.getD 0 0)
  generalize hcc : (s.getD 0 0).toNat = c at hc ⊢
  have hrd : bodyD s (begP c) (1 + (getL s 1).2.1).toNat false = readP s := by rw [readP, hcc]
  have hbg := begP_bd s c hc
  have hbz : (begP c).asks = [] ∧ (begP c).codes = [] := by unfold begP; split <;> exact ⟨rfl, rfl⟩
  have hat1 : (1 + (getL s 1).2.1) = ((1 + (getL s 1).2.1).toNat : Nat) := by omega
  refine ⟨by have := hat.1; omega, fun b5 => ?_⟩
  rw [shr_c c 4 (by omega)]
  have e16 : c / 2 ^ 4 = c / 16 := rfl
  rw [e16]
  refine ⟨fun h3 => ⟨by omega, by omega, fun b6 => ?_⟩, fun h3 => ⟨by omega, by omega, fun b6 => ?_⟩⟩
  · have eb : begP c = { pD 3 with dup := decide (c / 8 % 2 = 1), qos := ((c / 2 % 4 : Nat) : Int), retain := decide (c % 2 = 1) } := by rw [begP, if_pos (by omega)]; rfl
    intro w1 hr
    have q1 : rdAt w1 b6 s (1 + (getL s 1).2.1).toNat false := by
      have := hr.at_ 0 rfl
      simp only [Ent.holds, Tree.goal, X.P, X.ev, V.toI_i, V.toB_b, V.toS_s, V.toR_r, V.toV_v, V.toN_n, V.toL_l, SV.ev, CV.ev, Sc.ev, List.getD_cons_zero, List.getD_cons_succ, List.getElem?_cons_zero, List.getElem?_cons_succ, List.map_cons, List.map_nil, List.length_cons, List.length_nil, List.cons_append, List.nil_append, Nat.zero_add, Nat.reduceAdd] at this
      rw [hat1] at this
      exact this
    have q2 : pAt w1 b5 (begP c) nilV nilV := by
      have := hr.at_ 1 rfl
      simp only [Ent.holds, Tree.goal, X.P, X.ev, V.toI_i, V.toB_b, V.toS_s, V.toR_r, V.toV_v, V.toN_n, V.toL_l, SV.ev, CV.ev, Sc.ev, List.getD_cons_zero, List.getD_cons_succ, List.getElem?_cons_zero, List.getElem?_cons_succ, List.map_cons, List.map_nil, List.length_cons, List.length_nil, List.cons_append, List.nil_append, Nat.zero_add, Nat.reduceAdd, hz, h4, h1] at this
      rw [hcc, shr_c c 4 (by omega), shr_c c 1 (by omega), and_c8 c hc, and_c1 c hc, and_c3 c hc, e16, h3] at this
      rw [eb]; exact this
    refine (c_rbody w1 b6 b5 s _ false (begP c) q1 q2 (fun e => Apart.disj hr.sep (i := 0) (j := 1) rfl rfl (by decide) (.inl rfl) (k := b6) (by simp only [Ent.fp, Tree.goal, X.P, X.ev, V.toI_i, V.toB_b, V.toS_s, V.toR_r, V.toV_v, V.toN_n, V.toL_l, SV.ev, CV.ev, Sc.ev, List.getD_cons_zero, List.getD_cons_succ, List.getElem?_cons_zero, List.getElem?_cons_succ, List.map_cons, List.map_nil, List.length_cons, List.length_nil, List.cons_append, List.nil_append, Nat.zero_add, Nat.reduceAdd]) (by simp only [Ent.fp, Tree.goal, X.P, X.ev, V.toI_i, V.toB_b, V.toS_s, V.toR_r, V.toV_v, V.toN_n, V.toL_l, SV.ev, CV.ev, Sc.ev, List.getD_cons_zero, List.getD_cons_succ, List.getElem?_cons_zero, List.getElem?_cons_succ, List.map_cons, List.map_nil, List.length_cons, List.length_nil, List.cons_append, List.nil_append, Nat.zero_add, Nat.reduceAdd]; exact e)) hln (by omega) hbz hbg).mono ?_
    rintro e w2 ⟨rfl, g1, m1, x, y, g2, o1, o2, fx, fy, fxy⟩; rw [hrd] at g1 g2 o1 o2; (generalize hr0 : readP s = r at g1 g2 o1 o2 hbd ⊢); refine ⟨[.s s, .i r.2.1, .b r.2.2, .i r.1.kind, .b r.1.dup, .b r.1.retain, .b r.1.clean, .b r.1.session, .i r.1.qos, .i r.1.id, .i r.1.keep, .i r.1.code, .s r.1.client, .s r.1.topic, .s r.1.payload, .v x, .r (r.1.asks.map encA), .v y, .r (r.1.codes.map encI)], rfl, rfl, m1, List.forall_mem_cons.2 ⟨g1, List.forall_mem_cons.2 ⟨g2, List.forall_mem_nil _⟩⟩, List.forall_mem_cons.2 ⟨⟨o1, fun k hk => .inl (fx k hk)⟩, List.forall_mem_cons.2 ⟨⟨o2, fun k hk => .inl (fy k hk)⟩, List.forall_mem_nil _⟩⟩, List.pairwise_cons.2 ⟨fun e he _ k hk hk' => by { rw [List.mem_singleton] at he; subst he; exact fxy k hk hk' }, List.pairwise_singleton _ _⟩, ?_⟩; simp only [Tree.goal, X.P, X.ev, V.toI_i, V.toB_b, V.toS_s, V.toR_r, V.toV_v, V.toN_n, V.toL_l, SV.ev, CV.ev, Sc.ev, List.getD_cons_zero, List.getD_cons_succ, List.getElem?_cons_zero, List.getElem?_cons_succ, List.map_cons, List.map_nil, List.length_cons, List.length_nil, List.cons_append, List.nil_append, Nat.zero_add, Nat.reduceAdd]; refine ⟨[.b (kindB r.1.kind)], rfl, fun _ w' _ => c_pkind w' _, ?_⟩; simp only [Tree.goal, X.P, X.ev, V.toI_i, V.toB_b, V.toS_s, V.toR_r, V.toV_v, V.toN_n, V.toL_l, SV.ev, CV.ev, Sc.ev, List.getD_cons_zero, List.getD_cons_succ, List.getElem?_cons_zero, List.getElem?_cons_succ, List.map_cons, List.map_nil, List.length_cons, List.length_nil, List.cons_append, List.nil_append, Nat.zero_add, Nat.reduceAdd]; refine ⟨[.s (bytesP r.1)], rfl, fun _ w' hr => c_PBytes w' r.1 x y (owns.reads (hr.at_ 0 rfl)) (owns.reads (hr.at_ 1 rfl)) (hbd.byte hs), ?_⟩; simp only [Tree.goal, X.P, X.ev, V.toI_i, V.toB_b, V.toS_s, V.toR_r, V.toV_v, V.toN_n, V.toL_l, SV.ev, CV.ev, Sc.ev, List.getD_cons_zero, List.getD_cons_succ, List.getElem?_cons_zero, List.getElem?_cons_succ, List.map_cons, List.map_nil, List.length_cons, List.length_nil, List.cons_append, List.nil_append, Nat.zero_add, Nat.reduceAdd]; refine ⟨fun h w' hr => ?_, fun h => ?_⟩; (· have hn : r.2.2 = true ∨ kindB r.1.kind = false ∨ 1 < r.1.qos ∨ bytesP r.1 ≠ s := h.elim (fun h => h.elim (fun h => h.elim .inl (fun h => .inr (.inl (by simpa using h)))) (fun h => .inr (.inr (.inl h)))) (fun h => .inr (.inr (.inr h))); refine ⟨nilV, nilV, ?_⟩; rw [decD, if_neg hL, hr0, if_pos hn]; exact ⟨rfl, decPost_nil hr.mod 0⟩); have hn : ¬ (r.2.2 = true ∨ kindB r.1.kind = false ∨ 1 < r.1.qos ∨ bytesP r.1 ≠ s) := (fun hh => hh.elim (fun a => h (.inl (.inl (.inl a)))) (fun hh => hh.elim (fun a => h (.inl (.inl (.inr (by simp [a]))))) (fun hh => hh.elim (fun a => h (.inl (.inr a))) (fun a => h (.inr a))))); refine ⟨[.i (chkP r.1)], rfl, fun _ w' hr => c_PCheck w' r.1 x y (owns.reads (hr.at_ 0 rfl)) (owns.reads (hr.at_ 1 rfl)) (hbd.small hs), ?_⟩; simp only [Tree.goal, X.P, X.ev, V.toI_i, V.toB_b, V.toS_s, V.toR_r, V.toV_v, V.toN_n, V.toL_l, SV.ev, CV.ev, Sc.ev, List.getD_cons_zero, List.getD_cons_succ, List.getElem?_cons_zero, List.getElem?_cons_succ, List.map_cons, List.map_nil, List.length_cons, List.length_nil, List.cons_append, List.nil_append, Nat.zero_add, Nat.reduceAdd]; refine ⟨fun h2 w' hr => ?_, fun h2 w' hr => ?_⟩; (· refine ⟨nilV, nilV, ?_⟩; rw [decD, if_neg hL, hr0, if_neg hn, if_neg h2]; exact ⟨rfl, decPost_nil hr.mod 0⟩); (· refine ⟨x, y, ?_⟩; rw [decD, if_neg hL, hr0, if_neg hn, if_pos (Classical.not_not.1 h2)]; exact ⟨rfl, hr.mod, owns.reads (hr.at_ 0 rfl), owns.reads (hr.at_ 1 rfl), fun k hk => (hr.own _ (List.mem_of_getElem? (i := 0) rfl) rfl k hk).resolve_right (by simp), fun k hk => (hr.own _ (List.mem_of_getElem? (i := 1) rfl) rfl k hk).resolve_right (by simp)⟩)
  · have eb : begP c = pD ((c / 16 : Nat) : Int) := by rw [begP, if_neg (by omega)]
    intro w1 hr
    have q1 : rdAt w1 b6 s (1 + (getL s 1).2.1).toNat false := by
      have := hr.at_ 0 rfl
      simp only [Ent.holds, Tree.goal, X.P, X.ev, V.toI_i, V.toB_b, V.toS_s, V.toR_r, V.toV_v, V.toN_n, V.toL_l, SV.ev, CV.ev, Sc.ev, List.getD_cons_zero, List.getD_cons_succ, List.getElem?_cons_zero, List.getElem?_cons_succ, List.map_cons, List.map_nil, List.length_cons, List.length_nil, List.cons_append, List.nil_append, Nat.zero_add, Nat.reduceAdd] at this
      rw [hat1] at this
      exact this
    have q2 : pAt w1 b5 (begP c) nilV nilV := by
      have := hr.at_ 1 rfl
      simp only [Ent.holds, Tree.goal, X.P, X.ev, V.toI_i, V.toB_b, V.toS_s, V.toR_r, V.toV_v, V.toN_n, V.toL_l, SV.ev, CV.ev, Sc.ev, List.getD_cons_zero, List.getD_cons_succ, List.getElem?_cons_zero, List.getElem?_cons_succ, List.map_cons, List.map_nil, List.length_cons, List.length_nil, List.cons_append, List.nil_append, Nat.zero_add, Nat.reduceAdd, hz, h4, h1] at this
      rw [hcc, shr_c c 4 (by omega), e16] at this
      rw [eb]; exact this
    refine (c_rbody w1 b6 b5 s _ false (begP c) q1 q2 (fun e => Apart.disj hr.sep (i := 0) (j := 1) rfl rfl (by decide) (.inl rfl) (k := b6) (by simp only [Ent.fp, Tree.goal, X.P, X.ev, V.toI_i, V.toB_b, V.toS_s, V.toR_r, V.toV_v, V.toN_n, V.toL_l, SV.ev, CV.ev, Sc.ev, List.getD_cons_zero, List.getD_cons_succ, List.getElem?_cons_zero, List.getElem?_cons_succ, List.map_cons, List.map_nil, List.length_cons, List.length_nil, List.cons_append, List.nil_append, Nat.zero_add, Nat.reduceAdd]) (by simp only [Ent.fp, Tree.goal, X.P, X.ev, V.toI_i, V.toB_b, V.toS_s, V.toR_r, V.toV_v, V.toN_n, V.toL_l, SV.ev, CV.ev, Sc.ev, List.getD_cons_zero, List.getD_cons_succ, List.getElem?_cons_zero, List.getElem?_cons_succ, List.map_cons, List.map_nil, List.length_cons, List.length_nil, List.cons_append, List.nil_append, Nat.zero_add, Nat.reduceAdd]; exact e)) hln (by omega) hbz hbg).mono ?_
    rintro e w2 ⟨rfl, g1, m1, x, y, g2, o1, o2, fx, fy, fxy⟩; rw [hrd] at g1 g2 o1 o2; (generalize hr0 : readP s = r at g1 g2 o1 o2 hbd ⊢); refine ⟨[.s s, .i r.2.1, .b r.2.2, .i r.1.kind, .b r.1.dup, .b r.1.retain, .b r.1.clean, .b r.1.session, .i r.1.qos, .i r.1.id, .i r.1.keep, .i r.1.code, .s r.1.client, .s r.1.topic, .s r.1.payload, .v x, .r (r.1.asks.map encA), .v y, .r (r.1.codes.map encI)], rfl, rfl, m1, List.forall_mem_cons.2 ⟨g1, List.forall_mem_cons.2 ⟨g2, List.forall_mem_nil _⟩⟩, List.forall_mem_cons.2 ⟨⟨o1, fun k hk => .inl (fx k hk)⟩, List.forall_mem_cons.2 ⟨⟨o2, fun k hk => .inl (fy k hk)⟩, List.forall_mem_nil _⟩⟩, List.pairwise_cons.2 ⟨fun e he _ k hk hk' => by { rw [List.mem_singleton] at he; subst he; exact fxy k hk hk' }, List.pairwise_singleton _ _⟩, ?_⟩; simp only [Tree.goal, X.P, X.ev, V.toI_i, V.toB_b, V.toS_s, V.toR_r, V.toV_v, V.toN_n, V.toL_l, SV.ev, CV.ev, Sc.ev, List.getD_cons_zero, List.getD_cons_succ, List.getElem?_cons_zero, List.getElem?_cons_succ, List.map_cons, List.map_nil, List.length_cons, List.length_nil, List.cons_append, List.nil_append, Nat.zero_add, Nat.reduceAdd]; refine ⟨[.b (kindB r.1.kind)], rfl, fun _ w' _ => c_pkind w' _, ?_⟩; simp only [Tree.goal, X.P, X.ev, V.toI_i, V.toB_b, V.toS_s, V.toR_r, V.toV_v, V.toN_n, V.toL_l, SV.ev, CV.ev, Sc.ev, List.getD_cons_zero, List.getD_cons_succ, List.getElem?_cons_zero, List.getElem?_cons_succ, List.map_cons, List.map_nil, List.length_cons, List.length_nil, List.cons_append, List.nil_append, Nat.zero_add, Nat.reduceAdd]; refine ⟨[.s (bytesP r.1)], rfl, fun _ w' hr => c_PBytes w' r.1 x y (owns.reads (hr.at_ 0 rfl)) (owns.reads (hr.at_ 1 rfl)) (hbd.byte hs), ?_⟩; simp only [Tree.goal, X.P, X.ev, V.toI_i, V.toB_b, V.toS_s, V.toR_r, V.toV_v, V.toN_n, V.toL_l, SV.ev, CV.ev, Sc.ev, List.getD_cons_zero, List.getD_cons_succ, List.getElem?_cons_zero, List.getElem?_cons_succ, List.map_cons, List.map_nil, List.length_cons, List.length_nil, List.cons_append, List.nil_append, Nat.zero_add, Nat.reduceAdd]; refine ⟨fun h w' hr => ?_, fun h => ?_⟩; (· have hn : r.2.2 = true ∨ kindB r.1.kind = false ∨ 1 < r.1.qos ∨ bytesP r.1 ≠ s := h.elim (fun h => h.elim (fun h => h.elim .inl (fun h => .inr (.inl (by simpa using h)))) (fun h => .inr (.inr (.inl h)))) (fun h => .inr (.inr (.inr h))); refine ⟨nilV, nilV, ?_⟩; rw [decD, if_neg hL, hr0, if_pos hn]; exact ⟨rfl, decPost_nil hr.mod 0⟩); have hn : ¬ (r.2.2 = true ∨ kindB r.1.kind = false ∨ 1 < r.1.qos ∨ bytesP r.1 ≠ s) := (fun hh => hh.elim (fun a => h (.inl (.inl (.inl a)))) (fun hh => hh.elim (fun a => h (.inl (.inl (.inr (by simp [a]))))) (fun hh => hh.elim (fun a => h (.inl (.inr a))) (fun a => h (.inr a))))); refine ⟨[.i (chkP r.1)], rfl, fun _ w' hr => c_PCheck w' r.1 x y (owns.reads (hr.at_ 0 rfl)) (owns.reads (hr.at_ 1 rfl)) (hbd.small hs), ?_⟩; simp only [Tree.goal, X.P, X.ev, V.toI_i, V.toB_b, V.toS_s, V.toR_r, V.toV_v, V.toN_n, V.toL_l, SV.ev, CV.ev, Sc.ev, List.getD_cons_zero, List.getD_cons_succ, List.getElem?_cons_zero, List.getElem?_cons_succ, List.map_cons, List.map_nil, List.length_cons, List.length_nil, List.cons_append, List.nil_append, Nat.zero_add, Nat.reduceAdd]; refine ⟨fun h2 w' hr => ?_, fun h2 w' hr => ?_⟩; (· refine ⟨nilV, nilV, ?_⟩; rw [decD, if_neg hL, hr0, if_neg hn, if_neg h2]; exact ⟨rfl, decPost_nil hr.mod 0⟩); (· refine ⟨x, y, ?_⟩; rw [decD, if_neg hL, hr0, if_neg hn, if_pos (Classical.not_not.1 h2)]; exact ⟨rfl, hr.mod, owns.reads (hr.at_ 0 rfl), owns.reads (hr.at_ 1 rfl), fun k hk => (hr.own _ (List.mem_of_getElem? (i := 0) rfl) rfl k hk).resolve_right (by simp), fun k hk => (hr.own _ (List.mem_of_getElem? (i := 1) rfl) rfl k hk).resolve_right (by simp)⟩)
theorem pD_small (k : Int) : SmallP (pD k) := ⟨by simp, by simp, by simp, by simp, by simp, fun a ha => by cases ha⟩
theorem decD_small {s : List UInt8} (hs : s.length ≤ 20000000) : SmallP (decD s).1 := by
  unfold decD
  split
  · exact pD_small 0
  · rename_i h
    have hl0 : (getL s 1).2.2 = 0 := Classical.not_not.1 fun hh => h (.inr hh)
    have := (readP_bd hl0).1.small hs
    split
    · exact pD_small 0
    · split
      · exact this
      · exact pD_small 0
end Go.Proofs.YtliedecinehijaaDoor
