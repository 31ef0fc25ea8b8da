/-
  Packets: the reference's PacketOf, walked. By an AI agent.
-/
import Derived.Test.YtliedecinehijaaGreatDoorZ17
import Derived.Test.YtliedecinehijaaGreatDoorZ01
import Derived.WalkKit
import Derived.ProofKit
import Derived.OpenShut
import Derived.JoinedCond
import Derived.ChangeStays
import Derived.Test.YtliedecinehijaaGreatDoorZ05
set_option linter.unusedSimpArgs false
set_option linter.unusedVariables false
namespace Go.Proofs.YtliedecinehijaaGreatDoor
open Go.Sx
section
variable {s : List UInt8} (hl0 : (getL s 1).2.2 = 0) (hs : s.length ≤ 60000000)
include hl0
theorem s_ne : ¬ (s = [] ∨ (getL s 1).2.2 ≠ 0) := by
  rintro (rfl | h)
  · revert hl0; decide +kernel
  · exact h hl0
theorem decD_B (hB : (readP s).2.2 = true ∨ kindB (readP s).1.kind = false ∨ 1 < (readP s).1.qos ∨ bytesP (readP s).1 ≠ s) : decD s = (pD 0, 1) := by
  rw [decD, if_neg (s_ne hl0), if_pos hB]
include hs
theorem len_of_bytes (h : bytesP (readP s).1 = s) : 1 + (getL s 1).2.1 + (getL s 1).1 = s.length := by
  have hb := ((readP_bd hl0).1.byte hs).body
  have hg := getL_bytes hb []
  rw [List.append_nil, h] at hg
  have hl : s.length = 1 + (lngB 3 (bodyB (readP s).1).length).length + (bodyB (readP s).1).length := by
    conv => lhs; rw [← h]
    simp only [bytesP, List.length_append, numB_len]
  rw [hg]
  simp only
  omega
theorem decD_len (h : 1 + (getL s 1).2.1 + (getL s 1).1 ≠ s.length) : decD s = (pD 0, 1) :=
  decD_B hl0 (.inr (.inr (.inr fun hh => h (len_of_bytes hl0 hs hh))))
end
/-- What holds behind the taking. -/
def finI (s : List UInt8) : List V → Prop := fun vs => ∃ (q : Pkt) (a : Nat) (bad : Bool) (x y : Value), vs = [.i 0, .s s, .i a, .b bad, .i q.kind, .b q.dup, .b q.retain, .b q.clean, .b q.session, .i q.qos, .i q.id, .i q.keep, .i q.code, .s q.client, .s q.topic, .s q.payload, .v x, .r (q.asks.map encA), .v y, .r (q.codes.map encI), .i 0, .b false, .b false, .b false, .b false, .i 0, .i 0, .i 0, .i 0, .s [], .s [], .s [], .v nilV, .r [], .v nilV, .r []] ∧
  bad = (readP s).2.2 ∧ (bad = true ∨ q = (readP s).1) ∧ ¬ 1 < (readP s).1.qos
/-- What holds in the loop. -/
def tkI (s : List UInt8) (r : RS) : List V → Prop := fun vs => ∃ (q q0 : Pkt) (a a0 : Nat) (bad : Bool) (x y : Value), vs = [.s s, .i a, .b bad, .i q.kind, .b q.dup, .b q.retain, .b q.clean, .b q.session, .i q.qos, .i q.id, .i q.keep, .i q.code, .s q.client, .s q.topic, .s q.payload, .v x, .r (q.asks.map encA), .v y, .r (q.codes.map encI)] ∧
  a ≤ s.length ∧ a0 ≤ s.length ∧ (bad = true ∨ q = q0 ∧ a = a0) ∧ (bad = false → q.asks.length ≤ a ∧ q.codes.length ≤ a) ∧ tailD s (q0, a0, bad) = tailD s r ∧ q0.kind = r.1.kind
set_option maxHeartbeats 2000000 in
set_option maxRecDepth 10000 in
theorem c_PacketOf (w : World) (s : List UInt8) (hs : s.length ≤ 60000000) : Calls Tryz.prog 11 #[.string ⟨s.toArray⟩] w
    fun e w' => ∃ x y, e = .returned (.tuple #[pV (decD s).1 x y, .int .i64 (decD s).2]) ∧ decPost w w' (decD s).1 x y := by
  refine as_called (run_tree2 (ρ := [.s s]) (sxE_ok.joins _) Tryz.func11 tree_dragomanref_PacketOf rfl rfl (Rel.start w _) rfl rfl ?_) rfl
  have hz : Int.toNat 0 = 0 := rfl
  have hs1 : s.length < 1000000000 := by omega
  have ek : (((s.getD 0 0).toNat : Nat) : Int) / 16 = ((knd s : Nat) : Int) := by unfold knd; omega
  have hc := u8_lt (s.getD 0 0)
  have hgb := getL_bd s 1
  simp only [Tree.goal, X.P, X.ev, V.toI_i, V.toB_b, V.toS_s, V.toR_r, V.toV_v, V.toN_n, V.toL_l, SV.ev, CV.ev, Sc.ev, List.getD_cons_zero, List.getD_cons_succ, List.getElem?_cons_zero, List.getElem?_cons_succ, List.map_cons, List.map_nil, List.length_cons, List.length_nil, List.cons_append, List.nil_append, Nat.zero_add, Nat.reduceAdd]
  intro b1
  refine ⟨fun h w' hr => ⟨nilV, nilV, ?_⟩, fun h0 => ?_⟩
  · rw [decD, if_pos (.inl h)]
    exact ⟨rfl, decPost_nil hr.mod 0⟩
  have hlen : 0 < s.length := List.length_pos_iff.2 h0
  refine ⟨[.i (getL s 1).1, .i (getL s 1).2.1, .i (getL s 1).2.2], rfl, fun _ w' _ => c_GetLongOf w' s 1 (by omega), ?_⟩
  simp only [Tree.goal, X.P, X.ev, V.toI_i, V.toB_b, V.toS_s, V.toR_r, V.toV_v, V.toN_n, V.toL_l, SV.ev, CV.ev, Sc.ev, List.getD_cons_zero, List.getD_cons_succ, List.getElem?_cons_zero, List.getElem?_cons_succ, List.map_cons, List.map_nil, List.length_cons, List.length_nil, List.cons_append, List.nil_append, Nat.zero_add, Nat.reduceAdd, hz, ek]
  refine ⟨by omega, ?_⟩
  refine ⟨fun vs => (vs.getD 2 (.i 0)).toB = true ↔ ((getL s 1).2.2 ≠ 0 ∨ 1 + (getL s 1).2.1 + (getL s 1).1 ≠ s.length ∨ ¬ kindB (knd s : Nat) = true), ?_, ?_⟩
  · (repeat refine ⟨by omega, ?_⟩)
    refine ⟨fun h => ?_, fun h => ⟨fun h1 => ?_, fun h1 => ?_⟩⟩
    · simp only [List.getD_cons_succ, List.getD_cons_zero, V.toB_b]
      refine ⟨fun _ => ?_, fun _ => by trivial⟩
      rcases h with h | h
      · exact .inl h
      · exact .inr (.inl h)
    · have h2 : ¬ (getL s 1).2.2 ≠ 0 ∧ ¬ 1 + (getL s 1).2.1 + (getL s 1).1 ≠ s.length := ⟨fun hh => h (.inl hh), fun hh => h (.inr hh)⟩
      simp only [List.getD_cons_succ, List.getD_cons_zero, V.toB_b, h2.1, h2.2, false_or, kindB, decide_eq_true_eq, Bool.not_eq_true', Bool.and_eq_false_iff, decide_eq_false_iff_not]
      omega
    · have h2 : ¬ (getL s 1).2.2 ≠ 0 ∧ ¬ 1 + (getL s 1).2.1 + (getL s 1).1 ≠ s.length := ⟨fun hh => h (.inl hh), fun hh => h (.inr hh)⟩
      simp only [List.getD_cons_succ, List.getD_cons_zero, V.toB_b, h2.1, h2.2, false_or, kindB, decide_eq_true_eq, Bool.false_eq_true, false_iff]
      omega
  intro vs hl hI
  match vs, hl, hI with
  | [x0, x1, x2], _, hI =>
  simp only [Tree.goal, X.P, X.ev, V.toI_i, V.toB_b, V.toS_s, V.toR_r, V.toV_v, V.toN_n, V.toL_l, SV.ev, CV.ev, Sc.ev, List.getD_cons_zero, List.getD_cons_succ, List.getElem?_cons_zero, List.getElem?_cons_succ, List.map_cons, List.map_nil, List.length_cons, List.length_nil, List.cons_append, List.nil_append, Nat.zero_add, Nat.reduceAdd, hz, ek] at hI ⊢
  refine ⟨fun h w' hr => ⟨nilV, nilV, ?_⟩, fun h => ?_⟩
  · have hd : decD s = (pD 0, 1) := by
      by_cases he : (getL s 1).2.2 = 0
      · rcases hI.1 h with h | h | h
        · exact absurd he h
        · exact decD_len he hs h
        · exact decD_B he (.inr (.inl (by rw [read_kind]; simpa using h)))
      · rw [decD, if_pos (.inr he)]
    rw [hd]
    exact ⟨rfl, decPost_nil hr.mod 0⟩
  have hI : ¬ ((getL s 1).2.2 ≠ 0 ∨ 1 + (getL s 1).2.1 + (getL s 1).1 ≠ s.length ∨ ¬ kindB (knd s : Nat) = true) := fun hh => h (hI.2 hh)
  have hl0 : (getL s 1).2.2 = 0 := Classical.not_not.1 fun hh => hI (.inl hh)
  have hlen2 : 1 + (getL s 1).2.1 + (getL s 1).1 = s.length := Classical.not_not.1 fun hh => hI (.inr (.inl hh))
  have hkb : kindB (knd s : Nat) = true := Classical.not_not.1 fun hh => hI (.inr (.inr hh))
  clear h hI
  have hk := hkb
  simp only [kindB, decide_eq_true_eq] at hk
  have hat := getL_at (a := 1) hl0
  have hln : at0 s ≤ s.length := hat.2.1
  have ha0 : 1 + (getL s 1).2.1 = ((at0 s : Nat) : Int) := by unfold at0; omega
  intro b8
  (repeat refine ⟨by omega, ?_⟩)
  intro b9
  refine ⟨finI s, ⟨fun k1 => ?_, fun k1 => ⟨fun k2 => ?_, fun k2 => ⟨fun k3 => ?_, fun k3 => ?_⟩⟩⟩, ?_⟩
  · have k1 : knd s = 1 := by omega
    have hq0 : ¬ 1 < (readP s).1.qos := by rw [read_kq.2, beg_o (by omega)]; simp
    rw [read_1 k1] at hq0
    have t1 := rdT_bd s (at0 s) false hln
    intro w1 hr
    have hc0 := hr.at_ 0 rfl
    simp only [Ent.holds, Tree.goal, X.P, X.ev, V.toI_i, V.toB_b, V.toS_s, V.toR_r, V.toV_v, V.toN_n, V.toL_l, SV.ev, CV.ev, Sc.ev, List.getD_cons_zero, List.getD_cons_succ, List.getElem?_cons_zero, List.getElem?_cons_succ, List.map_cons, List.map_nil, List.length_cons, List.length_nil, List.cons_append, List.nil_append, Nat.zero_add, Nat.reduceAdd] at hc0
    rw [ha0] at hc0
    refine (c_ttext w1 b9 s (at0 s) (at0 s) false hc0 hln hln hs1 (.inr rfl)).mono ?_
    rintro e w2 ⟨n1, a1, rfl, h1, hle1, q1, m1⟩
    refine ⟨[.s n1, .s s, .i a1, .b _], rfl, rfl, m1, List.forall_mem_cons.2 ⟨h1, List.forall_mem_nil _⟩, (fun x hx => absurd hx List.not_mem_nil), apart_nil, ?_⟩
    simp only [Tree.goal, X.P, X.ev, V.toI_i, V.toB_b, V.toS_s, V.toR_r, V.toV_v, V.toN_n, V.toL_l, SV.ev, CV.ev, Sc.ev, List.getD_cons_zero, List.getD_cons_succ, List.getElem?_cons_zero, List.getElem?_cons_succ, List.map_cons, List.map_nil, List.length_cons, List.length_nil, List.cons_append, List.nil_append, Nat.zero_add, Nat.reduceAdd]
    clear m1 h1 hr hc0
    generalize hT1 : rdT s (at0 s) false = T1 at t1 q1 ⊢
    have t2 := rdN_bd s 1 T1.2.1 T1.2.2 t1.2.1
    intro w1 hr
    refine (c_tnumber w1 b9 s a1 T1.2.1 T1.2.2 (hr.at_ 0 rfl) hle1 t1.2.1 hs1 (q1.imp id (·.2)) 1 (by omega)).mono ?_
    rintro e w2 ⟨n2, a2, rfl, h1, hle2, q2, m1⟩
    refine ⟨[.i n2, .s s, .i a2, .b _], rfl, rfl, m1, List.forall_mem_cons.2 ⟨h1, List.forall_mem_nil _⟩, (fun x hx => absurd hx List.not_mem_nil), apart_nil, ?_⟩
    simp only [Tree.goal, X.P, X.ev, V.toI_i, V.toB_b, V.toS_s, V.toR_r, V.toV_v, V.toN_n, V.toL_l, SV.ev, CV.ev, Sc.ev, List.getD_cons_zero, List.getD_cons_succ, List.getElem?_cons_zero, List.getElem?_cons_succ, List.map_cons, List.map_nil, List.length_cons, List.length_nil, List.cons_append, List.nil_append, Nat.zero_add, Nat.reduceAdd]
    clear m1 h1 hr
    generalize hT2 : rdN s 1 T1.2.1 T1.2.2 = T2 at t2 q2 ⊢
    have t3 := rdN_bd s 1 T2.2.1 T2.2.2 t2.2.2.2.1
    intro w1 hr
    refine (c_tnumber w1 b9 s a2 T2.2.1 T2.2.2 (hr.at_ 0 rfl) hle2 t2.2.2.2.1 hs1 (q2.imp id (·.2)) 1 (by omega)).mono ?_
    rintro e w2 ⟨n3, a3, rfl, h1, hle3, q3, m1⟩
    refine ⟨[.i n3, .s s, .i a3, .b _], rfl, rfl, m1, List.forall_mem_cons.2 ⟨h1, List.forall_mem_nil _⟩, (fun x hx => absurd hx List.not_mem_nil), apart_nil, ?_⟩
    simp only [Tree.goal, X.P, X.ev, V.toI_i, V.toB_b, V.toS_s, V.toR_r, V.toV_v, V.toN_n, V.toL_l, SV.ev, CV.ev, Sc.ev, List.getD_cons_zero, List.getD_cons_succ, List.getElem?_cons_zero, List.getElem?_cons_succ, List.map_cons, List.map_nil, List.length_cons, List.length_nil, List.cons_append, List.nil_append, Nat.zero_add, Nat.reduceAdd]
    clear m1 h1 hr
    generalize hT3 : rdN s 1 T2.2.1 T2.2.2 = T3 at t3 q3 ⊢
    have t4 := rdN_bd s 2 T3.2.1 T3.2.2 t3.2.2.2.1
    intro w1 hr
    refine (c_tnumber w1 b9 s a3 T3.2.1 T3.2.2 (hr.at_ 0 rfl) hle3 t3.2.2.2.1 hs1 (q3.imp id (·.2)) 2 (by omega)).mono ?_
    rintro e w2 ⟨n4, a4, rfl, h1, hle4, q4, m1⟩
    refine ⟨[.i n4, .s s, .i a4, .b _], rfl, rfl, m1, List.forall_mem_cons.2 ⟨h1, List.forall_mem_nil _⟩, (fun x hx => absurd hx List.not_mem_nil), apart_nil, ?_⟩
    simp only [Tree.goal, X.P, X.ev, V.toI_i, V.toB_b, V.toS_s, V.toR_r, V.toV_v, V.toN_n, V.toL_l, SV.ev, CV.ev, Sc.ev, List.getD_cons_zero, List.getD_cons_succ, List.getElem?_cons_zero, List.getElem?_cons_succ, List.map_cons, List.map_nil, List.length_cons, List.length_nil, List.cons_append, List.nil_append, Nat.zero_add, Nat.reduceAdd]
    clear m1 h1 hr
    generalize hT4 : rdN s 2 T3.2.1 T3.2.2 = T4 at t4 q4 ⊢
    have t5 := rdT_bd s T4.2.1 T4.2.2 t4.2.2.2.1
    intro w1 hr
    refine (c_ttext w1 b9 s a4 T4.2.1 T4.2.2 (hr.at_ 0 rfl) hle4 t4.2.2.2.1 hs1 (q4.imp id (·.2))).mono ?_
    rintro e w2 ⟨n5, a5, rfl, h1, hle5, q5, m1⟩
    refine ⟨[.s n5, .s s, .i a5, .b _], rfl, rfl, m1, List.forall_mem_cons.2 ⟨h1, List.forall_mem_nil _⟩, (fun x hx => absurd hx List.not_mem_nil), apart_nil, ?_⟩
    simp only [Tree.goal, X.P, X.ev, V.toI_i, V.toB_b, V.toS_s, V.toR_r, V.toV_v, V.toN_n, V.toL_l, SV.ev, CV.ev, Sc.ev, List.getD_cons_zero, List.getD_cons_succ, List.getElem?_cons_zero, List.getElem?_cons_succ, List.map_cons, List.map_nil, List.length_cons, List.length_nil, List.cons_append, List.nil_append, Nat.zero_add, Nat.reduceAdd]
    clear m1 h1 hr
    generalize hT5 : rdT s T4.2.1 T4.2.2 = T5 at t5 q5 ⊢
    simp only [hz, ek, k1]
    have hc5 : connD s (pD 1) (at0 s) false = ({ pD 1 with clean := decide (T3.1 = 2), keep := T4.1, client := T5.1 }, T5.2) := by
      rw [connD]; simp only [hT1, hT2, hT3, hT4, hT5]
    refine ⟨{ pD 1 with clean := decide (n3 = 2), keep := n4, client := n5 }, a5, T5.2.2, nilV, nilV, rfl, ?_, ?_, by rw [read_1 k1]; exact hq0⟩
    · rw [read_1 k1, hc5]
    · rw [read_1 k1, hc5]
      cases hb : T5.2.2 with
      | true => exact .inl rfl
      | false =>
        right
        obtain ⟨b5, -⟩ := t5.2.2.2.2 hb
        obtain ⟨b4, -⟩ := t4.2.2.2.2.2 b5
        obtain ⟨b3, -⟩ := t3.2.2.2.2.2 b4
        rw [(q5.resolve_left (by rw [hb]; simp)).1, (q4.resolve_left (by rw [b5]; simp)).1, (q3.resolve_left (by rw [b4]; simp)).1]
  · have k2 : knd s = 2 := by omega
    have hq0 : ¬ 1 < (readP s).1.qos := by rw [read_kq.2, beg_o (by omega)]; simp
    have t1 := rdN_bd s 1 (at0 s) false hln
    intro w1 hr
    have hc0 := hr.at_ 0 rfl
    simp only [Ent.holds, Tree.goal, X.P, X.ev, V.toI_i, V.toB_b, V.toS_s, V.toR_r, V.toV_v, V.toN_n, V.toL_l, SV.ev, CV.ev, Sc.ev, List.getD_cons_zero, List.getD_cons_succ, List.getElem?_cons_zero, List.getElem?_cons_succ, List.map_cons, List.map_nil, List.length_cons, List.length_nil, List.cons_append, List.nil_append, Nat.zero_add, Nat.reduceAdd] at hc0
    rw [ha0] at hc0
    refine (c_tnumber w1 b9 s (at0 s) (at0 s) false hc0 hln hln hs1 (.inr rfl) 1 (by omega)).mono ?_
    rintro e w2 ⟨n1, a1, rfl, h1, hle1, q1, m1⟩
    refine ⟨[.i n1, .s s, .i a1, .b _], rfl, rfl, m1, List.forall_mem_cons.2 ⟨h1, List.forall_mem_nil _⟩, (fun x hx => absurd hx List.not_mem_nil), apart_nil, ?_⟩
    simp only [Tree.goal, X.P, X.ev, V.toI_i, V.toB_b, V.toS_s, V.toR_r, V.toV_v, V.toN_n, V.toL_l, SV.ev, CV.ev, Sc.ev, List.getD_cons_zero, List.getD_cons_succ, List.getElem?_cons_zero, List.getElem?_cons_succ, List.map_cons, List.map_nil, List.length_cons, List.length_nil, List.cons_append, List.nil_append, Nat.zero_add, Nat.reduceAdd]
    clear m1 h1 hr hc0
    have hr2 := read_2 k2
    generalize hT1 : rdN s 1 (at0 s) false = T1 at t1 q1 hr2 ⊢
    have t2 := rdN_bd s 1 T1.2.1 T1.2.2 t1.2.2.2.1
    intro w1 hr
    refine (c_tnumber w1 b9 s a1 T1.2.1 T1.2.2 (hr.at_ 0 rfl) hle1 t1.2.2.2.1 hs1 (q1.imp id (·.2)) 1 (by omega)).mono ?_
    rintro e w2 ⟨n2, a2, rfl, h1, hle2, q2, m1⟩
    refine ⟨[.i n2, .s s, .i a2, .b _], rfl, rfl, m1, List.forall_mem_cons.2 ⟨h1, List.forall_mem_nil _⟩, (fun x hx => absurd hx List.not_mem_nil), apart_nil, ?_⟩
    simp only [Tree.goal, X.P, X.ev, V.toI_i, V.toB_b, V.toS_s, V.toR_r, V.toV_v, V.toN_n, V.toL_l, SV.ev, CV.ev, Sc.ev, List.getD_cons_zero, List.getD_cons_succ, List.getElem?_cons_zero, List.getElem?_cons_succ, List.map_cons, List.map_nil, List.length_cons, List.length_nil, List.cons_append, List.nil_append, Nat.zero_add, Nat.reduceAdd]
    clear m1 h1 hr
    generalize hT2 : rdN s 1 T1.2.1 T1.2.2 = T2 at t2 q2 hr2 ⊢
    simp only [hz, ek, k2]
    refine ⟨{ pD 2 with session := decide (n1 = 1), code := n2 }, a2, T2.2.2, nilV, nilV, rfl, ?_, ?_, hq0⟩
    · rw [hr2]
    · rw [hr2]
      cases hb : T2.2.2 with
      | true => exact .inl rfl
      | false =>
        right
        obtain ⟨b2, -⟩ := t2.2.2.2.2.2 hb
        rw [(q2.resolve_left (by rw [hb]; simp)).1, (q1.resolve_left (by rw [b2]; simp)).1]
  · have k3 : knd s = 3 := by omega
    generalize hcc : (s.getD 0 0).toNat = c at hc
    have hbeg : begP c = { pD 3 with dup := decide (c / 8 % 2 = 1), qos := ((c / 2 % 4 : Nat) : Int), retain := decide (c % 2 = 1) } := by rw [← hcc, begP, if_pos (show (s.getD 0 0).toNat / 16 = 3 from k3), hcc]; rfl
    have hqos : (readP s).1.qos = ((c / 2 % 4 : Nat) : Int) := by rw [read_kq.2, hcc, hbeg]
    refine ⟨by omega, ?_⟩
    have eq1 : ((c : Int) % 16 / 2) % 4 = ((c / 2 % 4 : Nat) : Int) := by omega
    rw [eq1]
    refine ⟨fun h w' hr => ⟨nilV, nilV, ?_⟩, fun hqn => ?_⟩
    · rw [decD_B hl0 (.inr (.inr (.inl (by rw [hqos]; exact h))))]
      exact ⟨rfl, decPost_nil hr.mod 0⟩
    have hq0 : ¬ 1 < (readP s).1.qos := by rw [hqos]; exact hqn
    have hr3 := read_3 k3
    rw [hcc, hbeg] at hr3
    have ed : decide (8 ≤ (c : Int) % 16) = decide (c / 8 % 2 = 1) := decide_eq_decide.2 (by omega)
    have er : decide ((c : Int) % 16 % 2 = 1) = decide (c % 2 = 1) := decide_eq_decide.2 (by omega)
    have t1 := rdT_bd s (at0 s) false hln
    intro w1 hr
    have hc0 := hr.at_ 0 rfl
    simp only [Ent.holds, Tree.goal, X.P, X.ev, V.toI_i, V.toB_b, V.toS_s, V.toR_r, V.toV_v, V.toN_n, V.toL_l, SV.ev, CV.ev, Sc.ev, List.getD_cons_zero, List.getD_cons_succ, List.getElem?_cons_zero, List.getElem?_cons_succ, List.map_cons, List.map_nil, List.length_cons, List.length_nil, List.cons_append, List.nil_append, Nat.zero_add, Nat.reduceAdd] at hc0
    rw [ha0] at hc0
    refine (c_ttext w1 b9 s (at0 s) (at0 s) false hc0 hln hln hs1 (.inr rfl)).mono ?_
    rintro e w2 ⟨n1, a1, rfl, h1, hle1, q1, m1⟩
    refine ⟨[.s n1, .s s, .i a1, .b _], rfl, rfl, m1, List.forall_mem_cons.2 ⟨h1, List.forall_mem_nil _⟩, (fun x hx => absurd hx List.not_mem_nil), apart_nil, ?_⟩
    simp only [Tree.goal, X.P, X.ev, V.toI_i, V.toB_b, V.toS_s, V.toR_r, V.toV_v, V.toN_n, V.toL_l, SV.ev, CV.ev, Sc.ev, List.getD_cons_zero, List.getD_cons_succ, List.getElem?_cons_zero, List.getElem?_cons_succ, List.map_cons, List.map_nil, List.length_cons, List.length_nil, List.cons_append, List.nil_append, Nat.zero_add, Nat.reduceAdd, hz, hcc, eq1]
    clear m1 h1 hr hc0
    generalize hT1 : rdT s (at0 s) false = T1 at t1 q1 hr3 ⊢
    refine ⟨fun hq => ?_, fun hq => ?_⟩
    · have hid : idB { pD 3 with dup := decide (c / 8 % 2 = 1), qos := ((c / 2 % 4 : Nat) : Int), retain := decide (c % 2 = 1), topic := T1.1 } = true := by simp only [idB, hq]; decide
      rw [idD, if_pos hid] at hr3
      have t2 := rdN_bd s 2 T1.2.1 T1.2.2 t1.2.1
      intro w1 hr
      refine (c_tnumber w1 b9 s a1 T1.2.1 T1.2.2 (hr.at_ 0 rfl) hle1 t1.2.1 hs1 (q1.imp id (·.2)) 2 (by omega)).mono ?_
      rintro e w2 ⟨n2, a2, rfl, h1, hle2, q2, m1⟩
      refine ⟨[.i n2, .s s, .i a2, .b _], rfl, rfl, m1, List.forall_mem_cons.2 ⟨h1, List.forall_mem_nil _⟩, (fun x hx => absurd hx List.not_mem_nil), apart_nil, ?_⟩
      simp only [Tree.goal, X.P, X.ev, V.toI_i, V.toB_b, V.toS_s, V.toR_r, V.toV_v, V.toN_n, V.toL_l, SV.ev, CV.ev, Sc.ev, List.getD_cons_zero, List.getD_cons_succ, List.getElem?_cons_zero, List.getElem?_cons_succ, List.map_cons, List.map_nil, List.length_cons, List.length_nil, List.cons_append, List.nil_append, Nat.zero_add, Nat.reduceAdd, hz, hcc, eq1, ed, er]
      clear m1 h1 hr
      simp only at hr3
      generalize hT2 : rdN s 2 T1.2.1 T1.2.2 = T2 at t2 q2 hr3 ⊢
      rw [tailD, if_pos rfl] at hr3
      simp only at hr3
      refine ⟨fun hb => ?_, fun hb => ?_⟩
      · have hb : T2.2.2 = false := by simpa using hb
        obtain ⟨b2, -⟩ := t2.2.2.2.2.2 hb
        obtain ⟨e1, e2⟩ := q2.resolve_left (by rw [hb]; simp)
        obtain ⟨e3, -⟩ := q1.resolve_left (by rw [b2]; simp)
        refine ⟨by omega, by omega, ?_⟩
        refine ⟨{ pD 3 with dup := decide (c / 8 % 2 = 1), qos := ((c / 2 % 4 : Nat) : Int), retain := decide (c % 2 = 1), topic := n1, id := n2, payload := s.drop a2 }, a2, T2.2.2, nilV, nilV, ?_, by rw [hr3], .inr (by rw [hr3, e1, e2, e3]), hq0⟩
        have e5 : ((knd s : Nat) : Int) = 3 := by omega
        have e6 : (c : Int) / 16 = 3 := by unfold knd at k3; omega
        have e5 : ((knd s : Nat) : Int) = 3 := by omega
        (try simp only [Tree.goal, X.P, X.ev, V.toI_i, V.toB_b, V.toS_s, V.toR_r, V.toV_v, V.toN_n, V.toL_l, SV.ev, CV.ev, Sc.ev, List.getD_cons_zero, List.getD_cons_succ, List.getElem?_cons_zero, List.getElem?_cons_succ, List.map_cons, List.map_nil, List.length_cons, List.length_nil, List.cons_append, List.nil_append, Nat.zero_add, Nat.reduceAdd, hz, hcc, eq1, ed, er, e6, e5])
        (try simp [hb])
      · have hb : T2.2.2 = true := by simpa using hb
        refine ⟨{ pD 3 with dup := decide (c / 8 % 2 = 1), qos := ((c / 2 % 4 : Nat) : Int), retain := decide (c % 2 = 1), topic := n1, id := n2 }, a2, T2.2.2, nilV, nilV, ?_, by rw [hr3], .inl hb, hq0⟩
        have e6 : (c : Int) / 16 = 3 := by unfold knd at k3; omega
        have e5 : ((knd s : Nat) : Int) = 3 := by omega
        (try simp only [Tree.goal, X.P, X.ev, V.toI_i, V.toB_b, V.toS_s, V.toR_r, V.toV_v, V.toN_n, V.toL_l, SV.ev, CV.ev, Sc.ev, List.getD_cons_zero, List.getD_cons_succ, List.getElem?_cons_zero, List.getElem?_cons_succ, List.map_cons, List.map_nil, List.length_cons, List.length_nil, List.cons_append, List.nil_append, Nat.zero_add, Nat.reduceAdd, hz, hcc, eq1, ed, er, e6, e5])
        (try simp)
    · have hid : ¬ idB { pD 3 with dup := decide (c / 8 % 2 = 1), qos := ((c / 2 % 4 : Nat) : Int), retain := decide (c % 2 = 1), topic := T1.1 } = true := by
        simp only [idB, decide_eq_true_eq]; omega
      rw [idD, if_neg hid, tailD, if_pos rfl] at hr3
      simp only at hr3
      simp only [ed, er]
      have e6 : (c : Int) / 16 = 3 := by unfold knd at k3; omega
      refine ⟨fun hb => ?_, fun hb => ?_⟩
      · have hb : T1.2.2 = false := by simpa using hb
        obtain ⟨e3, e2⟩ := q1.resolve_left (by rw [hb]; simp)
        refine ⟨by omega, by omega, ?_⟩
        refine ⟨{ pD 3 with dup := decide (c / 8 % 2 = 1), qos := ((c / 2 % 4 : Nat) : Int), retain := decide (c % 2 = 1), topic := n1, payload := s.drop a1 }, a1, T1.2.2, nilV, nilV, ?_, by rw [hr3], .inr (by rw [hr3, e2, e3]), hq0⟩
        have e5 : ((knd s : Nat) : Int) = 3 := by omega
        (try simp only [Tree.goal, X.P, X.ev, V.toI_i, V.toB_b, V.toS_s, V.toR_r, V.toV_v, V.toN_n, V.toL_l, SV.ev, CV.ev, Sc.ev, List.getD_cons_zero, List.getD_cons_succ, List.getElem?_cons_zero, List.getElem?_cons_succ, List.map_cons, List.map_nil, List.length_cons, List.length_nil, List.cons_append, List.nil_append, Nat.zero_add, Nat.reduceAdd, hz, hcc, eq1, ed, er, e6, e5])
        (try simp [hb])
      · have hb : T1.2.2 = true := by simpa using hb
        refine ⟨{ pD 3 with dup := decide (c / 8 % 2 = 1), qos := ((c / 2 % 4 : Nat) : Int), retain := decide (c % 2 = 1), topic := n1 }, a1, T1.2.2, nilV, nilV, ?_, by rw [hr3], .inl hb, hq0⟩
        have e5 : ((knd s : Nat) : Int) = 3 := by omega
        (try simp only [Tree.goal, X.P, X.ev, V.toI_i, V.toB_b, V.toS_s, V.toR_r, V.toV_v, V.toN_n, V.toL_l, SV.ev, CV.ev, Sc.ev, List.getD_cons_zero, List.getD_cons_succ, List.getElem?_cons_zero, List.getElem?_cons_succ, List.map_cons, List.map_nil, List.length_cons, List.length_nil, List.cons_append, List.nil_append, Nat.zero_add, Nat.reduceAdd, hz, hcc, eq1, ed, er, e6, e5])
        (try simp)
  · refine ⟨fun vs => (vs.getD 0 (.i 0)).toB = true ↔ (knd s = 4 ∨ (8 ≤ knd s ∧ knd s ≤ 11)), ⟨fun h4 => ?_, fun h4 => ⟨fun h8 => ?_, fun h8 => ⟨fun h9 => ?_, fun h9 => ⟨fun h10 => ?_, fun h10 => ?_⟩⟩⟩⟩, ?_⟩
    any_goals (simp only [List.getD_cons_zero, V.toB_b, decide_eq_true_eq]; omega)
    intro vs hl hI
    match vs, hl, hI with
    | [x4], _, hI =>
    simp only [Tree.goal, X.P, X.ev, V.toI_i, V.toB_b, V.toS_s, V.toR_r, V.toV_v, V.toN_n, V.toL_l, SV.ev, CV.ev, Sc.ev, List.getD_cons_zero, List.getD_cons_succ, List.getElem?_cons_zero, List.getElem?_cons_succ, List.map_cons, List.map_nil, List.length_cons, List.length_nil, List.cons_append, List.nil_append, Nat.zero_add, Nat.reduceAdd, hz, ek] at hI ⊢
    have hqk : (readP s).1.qos = 0 := by rw [read_kq.2, beg_o (by omega)]
    refine ⟨fun h => ?_, fun h => ?_⟩
    · have hko := hI.1 h
      have hro := read_o hko
      clear h hI
      have t1 := rdN_bd s 2 (at0 s) false hln
      intro w1 hr
      have hc0 := hr.at_ 0 rfl
      simp only [Ent.holds, Tree.goal, X.P, X.ev, V.toI_i, V.toB_b, V.toS_s, V.toR_r, V.toV_v, V.toN_n, V.toL_l, SV.ev, CV.ev, Sc.ev, List.getD_cons_zero, List.getD_cons_succ, List.getElem?_cons_zero, List.getElem?_cons_succ, List.map_cons, List.map_nil, List.length_cons, List.length_nil, List.cons_append, List.nil_append, Nat.zero_add, Nat.reduceAdd] at hc0
      rw [ha0] at hc0
      refine (c_tnumber w1 b9 s (at0 s) (at0 s) false hc0 hln hln hs1 (.inr rfl) 2 (by omega)).mono ?_
      rintro e w2 ⟨n1, a1, rfl, h1, hle1, q1, m1⟩
      refine ⟨[.i n1, .s s, .i a1, .b _], rfl, rfl, m1, List.forall_mem_cons.2 ⟨h1, List.forall_mem_nil _⟩, (fun x hx => absurd hx List.not_mem_nil), apart_nil, ?_⟩
      simp only [Tree.goal, X.P, X.ev, V.toI_i, V.toB_b, V.toS_s, V.toR_r, V.toV_v, V.toN_n, V.toL_l, SV.ev, CV.ev, Sc.ev, List.getD_cons_zero, List.getD_cons_succ, List.getElem?_cons_zero, List.getElem?_cons_succ, List.map_cons, List.map_nil, List.length_cons, List.length_nil, List.cons_append, List.nil_append, Nat.zero_add, Nat.reduceAdd, hz, ek]
      clear m1 h1 hr hc0
      generalize hT1 : rdN s 2 (at0 s) false = T1 at t1 q1 hro ⊢
      generalize hr0 : (({ pD ((knd s : Nat) : Int) with id := T1.1 }, T1.2) : RS) = r at hro
      have hrk : r.1.kind = ((knd s : Nat) : Int) := by rw [← hr0]
      refine ⟨tkI s r, readμ s, ⟨{ pD ((knd s : Nat) : Int) with id := n1 }, { pD ((knd s : Nat) : Int) with id := T1.1 }, a1, T1.2.1, T1.2.2, nilV, nilV, rfl, hle1, t1.2.2.2.1, q1.imp id (fun h => ⟨by rw [h.1], h.2⟩), fun _ => ⟨by simp, by simp⟩, by rw [← hr0], by rw [hrk]⟩, ?_⟩
      rintro _ - ⟨q, q0, a, a0, bad, x, y, rfl, ha, hha0, hsim, hln1, htl, hqk0⟩
      rw [hrk] at hqk0
      simp only [Tree.goal, X.P, X.ev, V.toI_i, V.toB_b, V.toS_s, V.toR_r, V.toV_v, V.toN_n, V.toL_l, SV.ev, CV.ev, Sc.ev, List.getD_cons_zero, List.getD_cons_succ, List.getElem?_cons_zero, List.getElem?_cons_succ, List.map_cons, List.map_nil, List.length_cons, List.length_nil, List.cons_append, List.nil_append, Nat.zero_add, Nat.reduceAdd, hz, ek, Int.toNat_natCast]
      refine ⟨fun hcond => ?_, fun hcond => ?_⟩
      · obtain ⟨⟨⟨c1, c2⟩, c3⟩, c4⟩ := hcond
        have hb : bad = false := by simpa using c3
        subst hb
        obtain ⟨rfl, rfl⟩ := hsim.resolve_left (by simp)
        obtain ⟨l1, l2⟩ := hln1 rfl
        have c4 : a < s.length := by omega
        refine ⟨fun k9 => ⟨?_, ?_⟩, fun k9 => ?_⟩
        · have t2 := rdN_bd s 1 a false ha; have htC := tailD_codes (s := s) (q := q) (a := a) (by omega) c4; rw [htl] at htC; intro w1 hr; refine (c_tnumber w1 b9 s a a false (hr.at_ 0 rfl) ha ha hs1 (.inr rfl) 1 (by omega)).mono ?_; rintro e w2 ⟨n2, a2, rfl, h1, hle2, q2, m1⟩; refine ⟨[.i n2, .s s, .i a2, .b _], rfl, rfl, m1, List.forall_mem_cons.2 ⟨h1, List.forall_mem_nil _⟩, (fun x hx => absurd hx List.not_mem_nil), apart_nil, ?_⟩; simp only [Tree.goal, X.P, X.ev, V.toI_i, V.toB_b, V.toS_s, V.toR_r, V.toV_v, V.toN_n, V.toL_l, SV.ev, CV.ev, Sc.ev, List.getD_cons_zero, List.getD_cons_succ, List.getElem?_cons_zero, List.getElem?_cons_succ, List.map_cons, List.map_nil, List.length_cons, List.length_nil, List.cons_append, List.nil_append, Nat.zero_add, Nat.reduceAdd, hz, ek, Int.toNat_natCast]; clear m1 h1 hr; (generalize rdN s 1 a false = M at t2 q2 htC ⊢)
          intro z1; refine ⟨by (try simp only [List.length_map, List.length_nil, List.length_cons]); omega, fun z2 => ⟨⟨{ q with codes := q.codes ++ [n2] }, { q with codes := q.codes ++ [M.1] }, a2, M.2.1, M.2.2, x, z2, by simp [encI], hle2, t2.2.2.2.1, q2.imp id fun h => ⟨by rw [h.1], h.2⟩, fun hb => ?_, htC.symm, by rw [hrk]; exact hqk0⟩, ?_⟩⟩; (· have e5 := (t2.2.2.2.2.2 hb).2; have e2 := (q2.resolve_left (by rw [hb]; simp)).2; simp only [List.length_append, List.length_cons, List.length_nil]; omega); (· show rounds s a2 M.2.2 < rounds s a false; refine rounds_lt c4 rfl fun hb => ?_; have e5 := (t2.2.2.2.2.2 hb).2; have e2 := (q2.resolve_left (by rw [hb]; simp)).2; omega)
        · have t2 := rdN_bd s 1 a false ha; have htC := tailD_codes (s := s) (q := q) (a := a) (by omega) c4; rw [htl] at htC; intro w1 hr; refine (c_tnumber w1 b9 s a a false (hr.at_ 0 rfl) ha ha hs1 (.inr rfl) 1 (by omega)).mono ?_; rintro e w2 ⟨n2, a2, rfl, h1, hle2, q2, m1⟩; refine ⟨[.i n2, .s s, .i a2, .b _], rfl, rfl, m1, List.forall_mem_cons.2 ⟨h1, List.forall_mem_nil _⟩, (fun x hx => absurd hx List.not_mem_nil), apart_nil, ?_⟩; simp only [Tree.goal, X.P, X.ev, V.toI_i, V.toB_b, V.toS_s, V.toR_r, V.toV_v, V.toN_n, V.toL_l, SV.ev, CV.ev, Sc.ev, List.getD_cons_zero, List.getD_cons_succ, List.getElem?_cons_zero, List.getElem?_cons_succ, List.map_cons, List.map_nil, List.length_cons, List.length_nil, List.cons_append, List.nil_append, Nat.zero_add, Nat.reduceAdd, hz, ek, Int.toNat_natCast]; clear m1 h1 hr; (generalize rdN s 1 a false = M at t2 q2 htC ⊢)
          refine ⟨?_, ?_⟩
          · intro z1; refine ⟨by (try simp only [List.length_map, List.length_nil, List.length_cons]); omega, fun z2 => ⟨⟨{ q with codes := q.codes ++ [n2] }, { q with codes := q.codes ++ [M.1] }, a2, M.2.1, M.2.2, x, z2, by simp [encI], hle2, t2.2.2.2.1, q2.imp id fun h => ⟨by rw [h.1], h.2⟩, fun hb => ?_, htC.symm, by rw [hrk]; exact hqk0⟩, ?_⟩⟩; (· have e5 := (t2.2.2.2.2.2 hb).2; have e2 := (q2.resolve_left (by rw [hb]; simp)).2; simp only [List.length_append, List.length_cons, List.length_nil]; omega); (· show rounds s a2 M.2.2 < rounds s a false; refine rounds_lt c4 rfl fun hb => ?_; have e5 := (t2.2.2.2.2.2 hb).2; have e2 := (q2.resolve_left (by rw [hb]; simp)).2; omega)
          · intro z1; refine ⟨by (try simp only [List.length_map, List.length_nil, List.length_cons]); omega, fun z2 => ⟨⟨{ q with codes := q.codes ++ [n2] }, { q with codes := q.codes ++ [M.1] }, a2, M.2.1, M.2.2, x, z2, by simp [encI], hle2, t2.2.2.2.1, q2.imp id fun h => ⟨by rw [h.1], h.2⟩, fun hb => ?_, htC.symm, by rw [hrk]; exact hqk0⟩, ?_⟩⟩; (· have e5 := (t2.2.2.2.2.2 hb).2; have e2 := (q2.resolve_left (by rw [hb]; simp)).2; simp only [List.length_append, List.length_cons, List.length_nil]; omega); (· show rounds s a2 M.2.2 < rounds s a false; refine rounds_lt c4 rfl fun hb => ?_; have e5 := (t2.2.2.2.2.2 hb).2; have e2 := (q2.resolve_left (by rw [hb]; simp)).2; omega)
        · have hk8 : q.kind = 8 ∨ q.kind = 10 := by omega
          have t2 := rdT_bd s a false ha
          have htA := tailD_asks hk8 c4
          rw [htl] at htA
          intro w1 hr
          refine (c_ttext w1 b9 s a a false (hr.at_ 0 rfl) ha ha hs1 (.inr rfl)).mono ?_
          rintro e w2 ⟨n2, a2, rfl, h1, hle2, q2, m1⟩
          refine ⟨[.s n2, .s s, .i a2, .b _], rfl, rfl, m1, List.forall_mem_cons.2 ⟨h1, List.forall_mem_nil _⟩, (fun x hx => absurd hx List.not_mem_nil), apart_nil, ?_⟩
          simp only [Tree.goal, X.P, X.ev, V.toI_i, V.toB_b, V.toS_s, V.toR_r, V.toV_v, V.toN_n, V.toL_l, SV.ev, CV.ev, Sc.ev, List.getD_cons_zero, List.getD_cons_succ, List.getElem?_cons_zero, List.getElem?_cons_succ, List.map_cons, List.map_nil, List.length_cons, List.length_nil, List.cons_append, List.nil_append, Nat.zero_add, Nat.reduceAdd, hz, ek, Int.toNat_natCast]
          clear m1 h1 hr
          have hT2 : rdT s a false = rdT s a false := rfl
          generalize hT : rdT s a false = T at t2 q2 htA ⊢
          intro b10
          refine ⟨fun k8 => ?_, fun k8 => ?_⟩
          · have hk8' : q.kind = 8 := by omega
            have t3 := rdN_bd s 1 T.2.1 T.2.2 t2.2.1
            have hA : rdA s q.kind a false = ((T.1, (rdN s 1 T.2.1 T.2.2).1), (rdN s 1 T.2.1 T.2.2).2) := by rw [rdA, if_pos hk8', hT]
            rw [hA] at htA
            intro w1 hr
            refine (c_tnumber w1 b9 s a2 T.2.1 T.2.2 (hr.at_ 1 rfl) hle2 t2.2.1 hs1 (q2.imp id (·.2)) 1 (by omega)).mono ?_
            rintro e w2 ⟨n3, a3, rfl, h1, hle3, q3, m1⟩
            refine ⟨[.i n3, .s s, .i a3, .b _], rfl, rfl, m1, List.forall_mem_cons.2 ⟨h1, List.forall_mem_nil _⟩, (fun x hx => absurd hx List.not_mem_nil), apart_nil, ?_⟩
            simp only [Tree.goal, X.P, X.ev, V.toI_i, V.toB_b, V.toS_s, V.toR_r, V.toV_v, V.toN_n, V.toL_l, SV.ev, CV.ev, Sc.ev, List.getD_cons_zero, List.getD_cons_succ, List.getElem?_cons_zero, List.getElem?_cons_succ, List.map_cons, List.map_nil, List.length_cons, List.length_nil, List.cons_append, List.nil_append, Nat.zero_add, Nat.reduceAdd, hz, ek, Int.toNat_natCast]
            clear m1 h1 hr
            generalize rdN s 1 T.2.1 T.2.2 = M at t3 q3 htA ⊢
            intro z1
            refine ⟨by (try simp only [List.length_map, List.length_nil, List.length_cons]); omega, fun z2 => ⟨⟨{ q with asks := q.asks ++ [(n2, n3)] }, { q with asks := q.asks ++ [(T.1, M.1)] }, a3, M.2.1, M.2.2, z2, y, by simp [encA], hle3, t3.2.2.2.1, ?_, fun hb => ?_, htA.symm, by rw [hrk]; exact hqk0⟩, ?_⟩⟩
            · cases hb : M.2.2 with
              | true => exact .inl rfl
              | false =>
                obtain ⟨b2, -⟩ := t3.2.2.2.2.2 hb
                obtain ⟨e1, -⟩ := q2.resolve_left (by rw [b2]; simp)
                obtain ⟨e3, e4⟩ := q3.resolve_left (by rw [hb]; simp)
                exact .inr ⟨by rw [e3, e1], e4⟩
            · obtain ⟨b2, e5⟩ := t3.2.2.2.2.2 hb
              obtain ⟨-, e4⟩ := t2.2.2.2.2 b2
              obtain ⟨e3, e2⟩ := q3.resolve_left (by rw [hb]; simp)
              simp only [List.length_append, List.length_cons, List.length_nil]
              omega
            · show rounds s a3 M.2.2 < rounds s a false
              refine rounds_lt c4 rfl fun hb => ?_
              obtain ⟨b2, e5⟩ := t3.2.2.2.2.2 hb
              obtain ⟨-, e4⟩ := t2.2.2.2.2 b2
              obtain ⟨e3, e2⟩ := q3.resolve_left (by rw [hb]; simp)
              omega
          · have hA : rdA s q.kind a false = ((T.1, 0), T.2) := by rw [rdA, if_neg (by omega), hT]
            rw [hA] at htA
            intro z1
            refine ⟨by (try simp only [List.length_map, List.length_nil, List.length_cons]); omega, fun z2 => ⟨⟨{ q with asks := q.asks ++ [(n2, 0)] }, { q with asks := q.asks ++ [(T.1, 0)] }, a2, T.2.1, T.2.2, z2, y, by simp [encA], hle2, t2.2.1, q2.imp id fun h => ⟨by rw [h.1], h.2⟩, fun hb => ?_, htA.symm, by rw [hrk]; exact hqk0⟩, ?_⟩⟩
            · obtain ⟨-, e4⟩ := t2.2.2.2.2 hb
              obtain ⟨e3, e2⟩ := q2.resolve_left (by rw [hb]; simp)
              simp only [List.length_append, List.length_cons, List.length_nil]
              omega
            · show rounds s a2 T.2.2 < rounds s a false
              refine rounds_lt c4 rfl fun hb => ?_
              obtain ⟨-, e4⟩ := t2.2.2.2.2 hb
              obtain ⟨e3, e2⟩ := q2.resolve_left (by rw [hb]; simp)
              omega
      · have hend : tailD s (q0, a0, bad) = (q0, a0, bad) := by
          refine tailD_end (by omega) fun hh => ?_
          obtain ⟨c1, c2, c3, c4⟩ := hh
          subst c3
          obtain ⟨rfl, rfl⟩ := hsim.resolve_left (by simp)
          exact hcond ⟨⟨⟨by omega, by omega⟩, by simp⟩, by omega⟩
        rw [hend, ← hro] at htl
        refine ⟨q, a, bad, x, y, rfl, by rw [← htl], ?_, by rw [hqk]; decide⟩
        rw [← htl]
        exact hsim.imp id (·.1)
    · have hkx : 12 ≤ knd s ∧ knd s ≤ 14 := by
        have : ¬ (knd s = 4 ∨ (8 ≤ knd s ∧ knd s ≤ 11)) := fun hh => h (hI.2 hh)
        omega
      rw [ha0]
      refine ⟨pD ((knd s : Nat) : Int), at0 s, false, nilV, nilV, rfl, ?_, .inr ?_, by rw [hqk]; decide⟩ <;> rw [read_x hkx]
  rintro _ - ⟨q, a, bad, x, y, rfl, hbad, hsim, hq1⟩
  simp only [Tree.goal, X.P, X.ev, V.toI_i, V.toB_b, V.toS_s, V.toR_r, V.toV_v, V.toN_n, V.toL_l, SV.ev, CV.ev, Sc.ev, List.getD_cons_zero, List.getD_cons_succ, List.getElem?_cons_zero, List.getElem?_cons_succ, List.map_cons, List.map_nil, List.length_cons, List.length_nil, List.cons_append, List.nil_append, Nat.zero_add, Nat.reduceAdd]
  have hbd := (readP_bd hl0).1
  refine ⟨[.s (bytesP q)], rfl, fun hg w' hr => ?_, ?_⟩
  · have hb : bad = false := by simpa using hg
    have hq := hsim.resolve_left (by rw [hb]; simp)
    exact c_RPacketBytes w' q x y (owns.reads (hr.at_ 3 rfl)) (owns.reads (hr.at_ 4 rfl)) (by rw [hq]; exact hbd.byte hs) (by rw [hq]; exact read_bare)
  simp only [Tree.goal, X.P, X.ev, V.toI_i, V.toB_b, V.toS_s, V.toR_r, V.toV_v, V.toN_n, V.toL_l, SV.ev, CV.ev, Sc.ev, List.getD_cons_zero, List.getD_cons_succ, List.getElem?_cons_zero, List.getElem?_cons_succ, List.map_cons, List.map_nil, List.length_cons, List.length_nil, List.cons_append, List.nil_append, Nat.zero_add, Nat.reduceAdd]
  refine ⟨fun h w' hr => ⟨nilV, nilV, ?_⟩, fun h => ?_⟩
  · have hB : (readP s).2.2 = true ∨ kindB (readP s).1.kind = false ∨ 1 < (readP s).1.qos ∨ bytesP (readP s).1 ≠ s := by
      cases hb : bad with
      | true => exact .inl (by rw [← hbad, hb])
      | false =>
        have hq := hsim.resolve_left (by rw [hb]; simp)
        rw [hb] at h
        rw [← hq]
        exact .inr (.inr (.inr (h.resolve_left (by simp))))
    rw [decD_B hl0 hB]
    exact ⟨rfl, decPost_nil hr.mod 0⟩
  have hb : bad = false := by
    cases hb : bad with
    | true => exact absurd (.inl hb) h
    | false => rfl
  have hq := hsim.resolve_left (by rw [hb]; simp)
  have hby : bytesP (readP s).1 = s := by rw [← hq]; exact Classical.not_not.1 fun hh => h (.inr hh)
  have hnB : ¬ ((readP s).2.2 = true ∨ kindB (readP s).1.kind = false ∨ 1 < (readP s).1.qos ∨ bytesP (readP s).1 ≠ s) := by
    rintro (hh | hh | hh | hh)
    · rw [← hbad, hb] at hh; cases hh
    · rw [read_kind, hkb] at hh; cases hh
    · exact hq1 hh
    · exact hh hby
  have hd : decD s = if chkP q = 0 then (q, 0) else (pD 0, chkP q) := by rw [decD, if_neg (s_ne hl0), if_neg hnB, ← hq]
  refine ⟨[.i (chkP q)], rfl, fun _ w' hr => c_CheckPacket w' q x y (owns.reads (hr.at_ 3 rfl)) (owns.reads (hr.at_ 4 rfl)) (by rw [hq]; exact hbd.small hs), ?_⟩
  simp only [Tree.goal, X.P, X.ev, V.toI_i, V.toB_b, V.toS_s, V.toR_r, V.toV_v, V.toN_n, V.toL_l, SV.ev, CV.ev, Sc.ev, List.getD_cons_zero, List.getD_cons_succ, List.getElem?_cons_zero, List.getElem?_cons_succ, List.map_cons, List.map_nil, List.length_cons, List.length_nil, List.cons_append, List.nil_append, Nat.zero_add, Nat.reduceAdd]
  refine ⟨fun h w' hr => ⟨nilV, nilV, ?_⟩, fun h w' hr => ⟨x, y, ?_⟩⟩
  · rw [hd, if_neg h]
    exact ⟨rfl, decPost_nil hr.mod 0⟩
  · have h := Classical.not_not.1 h
    rw [hd, if_pos h, h]
    exact ⟨rfl, hr.mod, owns.reads (hr.at_ 3 rfl), owns.reads (hr.at_ 4 rfl), fun k hk => (hr.own _ (List.mem_of_getElem? (i := 3) rfl) rfl k hk).resolve_right (by simp), fun k hk => (hr.own _ (List.mem_of_getElem? (i := 4) rfl) rfl k hk).resolve_right (by simp)⟩
end Go.Proofs.YtliedecinehijaaGreatDoor

/-
  Packets: the law PacketTells, walked. By an AI agent.
-/
set_option linter.unusedSimpArgs false
set_option linter.unusedVariables false
namespace Go.Proofs.YtliedecinehijaaGreatDoor
open Go.Sx
section
variable (w : World) (p : Pkt) (u v : Value)
theorem c_PacketTells (s : List UInt8) (hu : readsA w u p.asks) (hv : readsI w v p.codes) (hs : SmallP p) (hl : s.length ≤ 60000000) :
    Calls Tryz.prog 3 #[pV p u v, .string ⟨s.toArray⟩] w fun e w' => e = .returned (.bool true) ∧ Mod [] w w' := by
  refine as_called (run_tree2 (ρ := [.i p.kind, .b p.dup, .b p.retain, .b p.clean, .b p.session, .i p.qos, .i p.id, .i p.keep, .i p.code, .s p.client, .s p.topic, .s p.payload, .v u, .r (p.asks.map encA), .v v, .r (p.codes.map encI), .s s]) sxE_ok Tryz.func3 tree_dragomanlaw_PacketTells rfl rfl (Rel.start2 (by simp [Ent.holds, Ent.wr, hu, hv, X.ev])) rfl rfl ?_) rfl
  simp only [Tree.goal, X.P, X.ev, V.toI_i, V.toB_b, V.toS_s, V.toR_r, V.toV_v, V.toN_n, V.toL_l, SV.ev, CV.ev, Sc.ev, List.getD_cons_zero, List.getD_cons_succ, List.getElem?_cons_zero, List.getElem?_cons_succ, List.map_cons, List.map_nil, List.length_cons, List.length_nil, List.cons_append, List.nil_append, Nat.zero_add, Nat.reduceAdd]
  intro b1
  refine ⟨[.s (if chkP p = 0 then bytesP p else []), .i (chkP p)], rfl, fun _ w' hr => c_PEncode w' p u v (hr.at_ 1 rfl) (hr.at_ 2 rfl) hs, ?_⟩
  simp only [Tree.goal, X.P, X.ev, V.toI_i, V.toB_b, V.toS_s, V.toR_r, V.toV_v, V.toN_n, V.toL_l, SV.ev, CV.ev, Sc.ev, List.getD_cons_zero, List.getD_cons_succ, List.getElem?_cons_zero, List.getElem?_cons_succ, List.map_cons, List.map_nil, List.length_cons, List.length_nil, List.cons_append, List.nil_append, Nat.zero_add, Nat.reduceAdd]
  intro w1 hr
  refine (c_PDecode w1 s hl).mono ?_
  have hsm := @decD_small s hl
  rintro e w2 ⟨x, y, rfl, m, rx, ry, fx, fy⟩
  have hdd : ∀ w : World, Calls Tryz.prog 11 #[.string ⟨s.toArray⟩] w fun e w' => ∃ x y, e = .returned (.tuple #[pV (decD s).1 x y, .int .i64 (decD s).2]) ∧ decPost w w' (decD s).1 x y := fun w => c_PacketOf w s hl
  generalize decD s = r at rx ry hsm hdd ⊢
  obtain ⟨q, er⟩ := r
  refine ⟨[.i q.kind, .b q.dup, .b q.retain, .b q.clean, .b q.session, .i q.qos, .i q.id, .i q.keep, .i q.code, .s q.client, .s q.topic, .s q.payload, .v x, .r (q.asks.map encA), .v y, .r (q.codes.map encI), .i er], rfl, rfl, m, List.forall_mem_nil _, List.forall_mem_cons.2 ⟨⟨rx, fun k hk => .inl (fx k hk.2)⟩, List.forall_mem_cons.2 ⟨⟨ry, fun k hk => .inl (fy k hk.2)⟩, List.forall_mem_nil _⟩⟩, apart_ro2 (by simp [Ent.wr]), ?_⟩
  simp only [Tree.goal, X.P, X.ev, V.toI_i, V.toB_b, V.toS_s, V.toR_r, V.toV_v, V.toN_n, V.toL_l, SV.ev, CV.ev, Sc.ev, List.getD_cons_zero, List.getD_cons_succ, List.getElem?_cons_zero, List.getElem?_cons_succ, List.map_cons, List.map_nil, List.length_cons, List.length_nil, List.cons_append, List.nil_append, Nat.zero_add, Nat.reduceAdd]
  clear m hr
  intro b2
  refine ⟨[.i (chkP p)], rfl, fun _ w' hr => c_CheckPacket w' p u v (hr.at_ 4 rfl) (hr.at_ 5 rfl) hs, ?_⟩
  simp only [Tree.goal, X.P, X.ev, V.toI_i, V.toB_b, V.toS_s, V.toR_r, V.toV_v, V.toN_n, V.toL_l, SV.ev, CV.ev, Sc.ev, List.getD_cons_zero, List.getD_cons_succ, List.getElem?_cons_zero, List.getElem?_cons_succ, List.map_cons, List.map_nil, List.length_cons, List.length_nil, List.cons_append, List.nil_append, Nat.zero_add, Nat.reduceAdd]
  refine ⟨fun h => ?_, fun h => ?_⟩
  · have hB := byte_of h hs
    have hb := (chk_form h).1.bare
    refine ⟨[.s (bytesP p)], rfl, fun _ w' hr => c_RPacketBytes w' p u v (hr.at_ 4 rfl) (hr.at_ 5 rfl) hB hb, ?_⟩
    simp only [Tree.goal, X.P, X.ev, V.toI_i, V.toB_b, V.toS_s, V.toR_r, V.toV_v, V.toN_n, V.toL_l, SV.ev, CV.ev, Sc.ev, List.getD_cons_zero, List.getD_cons_succ, List.getElem?_cons_zero, List.getElem?_cons_succ, List.map_cons, List.map_nil, List.length_cons, List.length_nil, List.cons_append, List.nil_append, Nat.zero_add, Nat.reduceAdd]
    intro w1 hr; refine (hdd w1).mono ?_; rintro e w2 ⟨x2, y2, rfl, m, rx2, ry2, fx2, fy2⟩; refine ⟨[.i q.kind, .b q.dup, .b q.retain, .b q.clean, .b q.session, .i q.qos, .i q.id, .i q.keep, .i q.code, .s q.client, .s q.topic, .s q.payload, .v x2, .r (q.asks.map encA), .v y2, .r (q.codes.map encI), .i er], rfl, rfl, m, List.forall_mem_nil _, List.forall_mem_cons.2 ⟨⟨rx2, fun k hk => .inl (fx2 k hk.2)⟩, List.forall_mem_cons.2 ⟨⟨ry2, fun k hk => .inl (fy2 k hk.2)⟩, List.forall_mem_nil _⟩⟩, apart_ro2 (by simp [Ent.wr]), ?_⟩; simp only [Tree.goal, X.P, X.ev, V.toI_i, V.toB_b, V.toS_s, V.toR_r, V.toV_v, V.toN_n, V.toL_l, SV.ev, CV.ev, Sc.ev, List.getD_cons_zero, List.getD_cons_succ, List.getElem?_cons_zero, List.getElem?_cons_succ, List.map_cons, List.map_nil, List.length_cons, List.length_nil, List.cons_append, List.nil_append, Nat.zero_add, Nat.reduceAdd]; clear m hr; intro b3; refine ⟨[.b true], rfl, fun _ w' _ => c_packetBegun w', ?_⟩; simp only [Tree.goal, X.P, X.ev, V.toI_i, V.toB_b, V.toS_s, V.toR_r, V.toV_v, V.toN_n, V.toL_l, SV.ev, CV.ev, Sc.ev, List.getD_cons_zero, List.getD_cons_succ, List.getElem?_cons_zero, List.getElem?_cons_succ, List.map_cons, List.map_nil, List.length_cons, List.length_nil, List.cons_append, List.nil_append, Nat.zero_add, Nat.reduceAdd]; refine ⟨[.i (chkP p)], rfl, fun _ w' hr => c_PCheck w' p u v (hr.at_ 7 rfl) (hr.at_ 8 rfl) hs, ?_⟩; simp only [Tree.goal, X.P, X.ev, V.toI_i, V.toB_b, V.toS_s, V.toR_r, V.toV_v, V.toN_n, V.toL_l, SV.ev, CV.ev, Sc.ev, List.getD_cons_zero, List.getD_cons_succ, List.getElem?_cons_zero, List.getElem?_cons_succ, List.map_cons, List.map_nil, List.length_cons, List.length_nil, List.cons_append, List.nil_append, Nat.zero_add, Nat.reduceAdd]; refine ⟨[.b (decide (q = q))], rfl, fun _ w' hr => c_SamePacket w' q q x y x2 y2 (hr.at_ 4 rfl) (hr.at_ 5 rfl) (hr.at_ 1 rfl) (hr.at_ 2 rfl) hsm, ?_⟩; simp only [Tree.goal, X.P, X.ev, V.toI_i, V.toB_b, V.toS_s, V.toR_r, V.toV_v, V.toN_n, V.toL_l, SV.ev, CV.ev, Sc.ev, List.getD_cons_zero, List.getD_cons_succ, List.getElem?_cons_zero, List.getElem?_cons_succ, List.map_cons, List.map_nil, List.length_cons, List.length_nil, List.cons_append, List.nil_append, Nat.zero_add, Nat.reduceAdd]
    exact fun w' hr => ⟨by simp [h], hr.mod⟩
  · intro w1 hr; refine (hdd w1).mono ?_; rintro e w2 ⟨x2, y2, rfl, m, rx2, ry2, fx2, fy2⟩; refine ⟨[.i q.kind, .b q.dup, .b q.retain, .b q.clean, .b q.session, .i q.qos, .i q.id, .i q.keep, .i q.code, .s q.client, .s q.topic, .s q.payload, .v x2, .r (q.asks.map encA), .v y2, .r (q.codes.map encI), .i er], rfl, rfl, m, List.forall_mem_nil _, List.forall_mem_cons.2 ⟨⟨rx2, fun k hk => .inl (fx2 k hk.2)⟩, List.forall_mem_cons.2 ⟨⟨ry2, fun k hk => .inl (fy2 k hk.2)⟩, List.forall_mem_nil _⟩⟩, apart_ro2 (by simp [Ent.wr]), ?_⟩; simp only [Tree.goal, X.P, X.ev, V.toI_i, V.toB_b, V.toS_s, V.toR_r, V.toV_v, V.toN_n, V.toL_l, SV.ev, CV.ev, Sc.ev, List.getD_cons_zero, List.getD_cons_succ, List.getElem?_cons_zero, List.getElem?_cons_succ, List.map_cons, List.map_nil, List.length_cons, List.length_nil, List.cons_append, List.nil_append, Nat.zero_add, Nat.reduceAdd]; clear m hr; intro b3; refine ⟨[.b true], rfl, fun _ w' _ => c_packetBegun w', ?_⟩; simp only [Tree.goal, X.P, X.ev, V.toI_i, V.toB_b, V.toS_s, V.toR_r, V.toV_v, V.toN_n, V.toL_l, SV.ev, CV.ev, Sc.ev, List.getD_cons_zero, List.getD_cons_succ, List.getElem?_cons_zero, List.getElem?_cons_succ, List.map_cons, List.map_nil, List.length_cons, List.length_nil, List.cons_append, List.nil_append, Nat.zero_add, Nat.reduceAdd]; refine ⟨[.i (chkP p)], rfl, fun _ w' hr => c_PCheck w' p u v (hr.at_ 7 rfl) (hr.at_ 8 rfl) hs, ?_⟩; simp only [Tree.goal, X.P, X.ev, V.toI_i, V.toB_b, V.toS_s, V.toR_r, V.toV_v, V.toN_n, V.toL_l, SV.ev, CV.ev, Sc.ev, List.getD_cons_zero, List.getD_cons_succ, List.getElem?_cons_zero, List.getElem?_cons_succ, List.map_cons, List.map_nil, List.length_cons, List.length_nil, List.cons_append, List.nil_append, Nat.zero_add, Nat.reduceAdd]; refine ⟨[.b (decide (q = q))], rfl, fun _ w' hr => c_SamePacket w' q q x y x2 y2 (hr.at_ 4 rfl) (hr.at_ 5 rfl) (hr.at_ 1 rfl) (hr.at_ 2 rfl) hsm, ?_⟩; simp only [Tree.goal, X.P, X.ev, V.toI_i, V.toB_b, V.toS_s, V.toR_r, V.toV_v, V.toN_n, V.toL_l, SV.ev, CV.ev, Sc.ev, List.getD_cons_zero, List.getD_cons_succ, List.getElem?_cons_zero, List.getElem?_cons_succ, List.map_cons, List.map_nil, List.length_cons, List.length_nil, List.cons_append, List.nil_append, Nat.zero_add, Nat.reduceAdd]
    exact fun w' hr => ⟨by simp [h], hr.mod⟩
end
end Go.Proofs.YtliedecinehijaaGreatDoor

/-
  Packets out of a stream: the reference's FeedOf; the law FrameFeeds, walked. By an AI agent.
-/
set_option linter.unusedSimpArgs false
set_option linter.unusedVariables false
namespace Go.Proofs.YtliedecinehijaaGreatDoor
open Go.Sx
theorem c_FeedOf (w : World) (s : List UInt8) (hs : s.length ≤ 60000000) : Calls Tryz.prog 16 #[.string ⟨s.toArray⟩] w
    fun e w' => ∃ (x : Value) (l : List PkX), e = .returned (.tuple #[sc1 x, .string ⟨(feed s).2.1.toArray⟩, .int .i64 (feed s).2.2]) ∧ l.map (·.1) = (feed s).1 ∧ feedPost w w' x l := by
  refine as_called (run_tree2 (ρ := [.s s]) (sxE_ok.joins _) Tryz.func16 tree_dragomanref_FeedOf rfl rfl (Rel.start w _) rfl rfl ?_) rfl
  simp only [Tree.goal, X.P, X.ev, V.toI_i, V.toB_b, V.toS_s, V.toR_r, V.toV_v, V.toN_n, V.toL_l, SV.ev, CV.ev, Sc.ev, List.getD_cons_zero, List.getD_cons_succ, List.getElem?_cons_zero, List.getElem?_cons_succ, List.map_cons, List.map_nil, List.length_cons, List.length_nil, List.cons_append, List.nil_append, Nat.zero_add, Nat.reduceAdd]
  refine ⟨pksA [], fun w _ => pksA_nil w, fun k hk => absurd hk (pksA_nofp k), ?_⟩
  refine ⟨fun vs => ∃ (l : List PkX) (s' : List UInt8) (x : Value), vs = [.s s', .v nilV, .r [], .s [], .i 0, .v x, .r (l.map encX), .a (pksA l)] ∧ feedF (s'.length + 1) s' (l.map (·.1)) = feed s ∧ l.length + s'.length ≤ s.length ∧ ∀ k, (pksA l).fp k → w.heap.size ≤ k,
    fun vs => (vs.getD 0 (.i 0)).toS.length, ⟨[], s, nilV, rfl, rfl, by simp, fun k hk => absurd hk (pksA_nofp k)⟩, ?_⟩
  rintro _ - ⟨l, s', x, rfl, hf, hlen, hfr⟩
  simp only [Tree.goal, X.P, X.ev, V.toI_i, V.toB_b, V.toS_s, V.toR_r, V.toV_v, V.toN_n, V.toL_l, SV.ev, CV.ev, Sc.ev, List.getD_cons_zero, List.getD_cons_succ, List.getElem?_cons_zero, List.getElem?_cons_succ, List.map_cons, List.map_nil, List.length_cons, List.length_nil, List.cons_append, List.nil_append, Nat.zero_add, Nat.reduceAdd]
  have hstep := @feedF_step s' (l.map (·.1))
  have hbd := @nextF_bd s'
  have hend : (nextF s').2.2 ≠ 0 → feed s = if (nextF s').2.2 = 8 then (l.map (·.1), s', 0) else (l.map (·.1), [], (nextF s').2.2) := fun h => by rw [← hf, feedF, if_neg h]
  have hszn : (sizeF s').2 ≠ 0 → (nextF s').2.2 = (sizeF s').2 := fun h => by rw [nextF, if_pos h]
  have hgb := getL_bd s' 1
  have fin : ∀ e : Int, e ≠ 0 → (sizeF s').2 = e → feed s = if e = 8 then (l.map (·.1), s', 0) else (l.map (·.1), [], e) := fun e h0 he => by
    have h1 := hszn (by rw [he]; exact h0)
    rw [hend (by rw [h1, he]; exact h0), h1, he]
  refine ⟨fun h0 => ?_, fun h0 w' hr => ?_⟩
  rotate_left
  · have he : s' = [] := List.length_eq_zero_iff.1 (by omega)
    have hsz : (sizeF s').2 = 8 := by rw [sizeF, if_pos he]
    rw [fin 8 (by decide) hsz, if_pos rfl]
    (have o := hr.at_ 1 rfl; exact ⟨x, l, rfl, rfl, hr.mod, owns.reads o, hr.at_ 0 rfl, fun k hk => (hr.own _ (List.mem_of_getElem? (i := 1) rfl) rfl k hk).resolve_right (by simp), hfr⟩)
  have hne : s' ≠ [] := List.length_pos_iff.1 (by omega)
  refine ⟨[.i (getL s' 1).1, .i (getL s' 1).2.1, .i (getL s' 1).2.2], rfl, fun _ w' _ => c_GetLongOf w' s' 1 (by omega), ?_⟩
  simp only [Tree.goal, X.P, X.ev, V.toI_i, V.toB_b, V.toS_s, V.toR_r, V.toV_v, V.toN_n, V.toL_l, SV.ev, CV.ev, Sc.ev, List.getD_cons_zero, List.getD_cons_succ, List.getElem?_cons_zero, List.getElem?_cons_succ, List.map_cons, List.map_nil, List.length_cons, List.length_nil, List.cons_append, List.nil_append, Nat.zero_add, Nat.reduceAdd]
  refine ⟨fun h8 w' hr => ?_, fun h8 => ⟨fun hn w' hr => ?_, fun hn => ?_⟩⟩
  · have hsz : (sizeF s').2 = 8 := by rw [sizeF, if_neg hne, if_pos (by rw [h8]; decide)]; exact h8
    rw [fin 8 (by decide) hsz, if_pos rfl]
    (have o := hr.at_ 1 rfl; exact ⟨x, l, rfl, rfl, hr.mod, owns.reads o, hr.at_ 0 rfl, fun k hk => (hr.own _ (List.mem_of_getElem? (i := 1) rfl) rfl k hk).resolve_right (by simp), hfr⟩)
  · have hsz : (sizeF s').2 = (getL s' 1).2.2 := by rw [sizeF, if_neg hne, if_pos hn]
    rw [fin _ hn hsz, if_neg h8]
    (have o := hr.at_ 1 rfl; exact ⟨x, l, rfl, rfl, hr.mod, owns.reads o, hr.at_ 0 rfl, fun k hk => (hr.own _ (List.mem_of_getElem? (i := 1) rfl) rfl k hk).resolve_right (by simp), hfr⟩)
  refine ⟨by omega, by omega, by omega, by omega, fun h6 w' hr => ?_, fun h6 => ⟨fun h7 w' hr => ?_, fun h7 => ⟨by omega, by omega, ?_⟩⟩⟩
  · have hsz : (sizeF s').2 = 2 := by rw [sizeF, if_neg hne, if_neg hn, if_pos h6]
    rw [fin 2 (by decide) hsz, if_neg (by decide)]
    (have o := hr.at_ 1 rfl; exact ⟨x, l, rfl, rfl, hr.mod, owns.reads o, hr.at_ 0 rfl, fun k hk => (hr.own _ (List.mem_of_getElem? (i := 1) rfl) rfl k hk).resolve_right (by simp), hfr⟩)
  · have hsz : (sizeF s').2 = 8 := by rw [sizeF, if_neg hne, if_neg hn, if_neg h6, if_pos h7]
    rw [fin 8 (by decide) hsz, if_pos rfl]
    (have o := hr.at_ 1 rfl; exact ⟨x, l, rfl, rfl, hr.mod, owns.reads o, hr.at_ 0 rfl, fun k hk => (hr.own _ (List.mem_of_getElem? (i := 1) rfl) rfl k hk).resolve_right (by simp), hfr⟩)
  have hsz : sizeF s' = (1 + (getL s' 1).2.1 + (getL s' 1).1, 0) := by rw [sizeF, if_neg hne, if_neg hn, if_neg h6, if_neg h7]
  have hnx : nextF s' = ((decD (s'.take (1 + (getL s' 1).2.1 + (getL s' 1).1).toNat)).1, 1 + (getL s' 1).2.1 + (getL s' 1).1, (decD (s'.take (1 + (getL s' 1).2.1 + (getL s' 1).1).toNat)).2) := by rw [nextF, hsz, if_neg (by simp)]
  have hdn := decD_ne (s'.take (1 + (getL s' 1).2.1 + (getL s' 1).1).toNat)
  have hz : Int.toNat 0 = 0 := rfl
  simp only [hz, List.drop_zero]
  generalize 1 + (getL s' 1).2.1 + (getL s' 1).1 = n at hnx hdn h6 h7 ⊢
  rw [hnx] at hstep hbd hend
  have hlt : (s'.take n.toNat).length ≤ 60000000 := by rw [List.length_take]; omega
  intro w1 hr
  refine (c_PacketOf w1 (s'.take n.toNat) hlt).mono ?_
  generalize decD (s'.take n.toNat) = t at hstep hbd hend hdn ⊢
  obtain ⟨q, er⟩ := t
  rintro e w2 ⟨px, py, rfl, m, rx, ry, fx, fy⟩
  refine ⟨[.i q.kind, .b q.dup, .b q.retain, .b q.clean, .b q.session, .i q.qos, .i q.id, .i q.keep, .i q.code, .s q.client, .s q.topic, .s q.payload, .v px, .r (q.asks.map encA), .v py, .r (q.codes.map encI), .i er], rfl, rfl, m, List.forall_mem_nil _, List.forall_mem_cons.2 ⟨⟨rx, fun k hk => .inl (fx k hk.2)⟩, List.forall_mem_cons.2 ⟨⟨ry, fun k hk => .inl (fy k hk.2)⟩, List.forall_mem_nil _⟩⟩, apart_ro2 (by simp [Ent.wr]), ?_⟩
  have hw := hr.mod.size
  simp only [Tree.goal, X.P, X.ev, V.toI_i, V.toB_b, V.toS_s, V.toR_r, V.toV_v, V.toN_n, V.toL_l, SV.ev, CV.ev, Sc.ev, List.getD_cons_zero, List.getD_cons_succ, List.getElem?_cons_zero, List.getElem?_cons_succ, List.map_cons, List.map_nil, List.length_cons, List.length_nil, List.cons_append, List.nil_append, Nat.zero_add, Nat.reduceAdd]
  clear m hr
  intro b1
  refine ⟨fun he w' hr => ?_, fun he => ?_⟩
  · rw [hend he, if_neg (by simp only at hdn ⊢; omega)]
    have o := hr.at_ 4 rfl
    exact ⟨x, l, rfl, rfl, hr.mod, owns.reads o, hr.at_ 3 rfl, fun k hk => (hr.own _ (List.mem_of_getElem? (i := 4) rfl) rfl k hk).resolve_right (by simp), hfr⟩
  · have h0 := Classical.not_not.1 he
    have hb := hbd h0
    simp only at hb
    intro z1
    refine ⟨by simp only [List.length_map, List.length_nil, List.length_append, List.length_cons]; omega, fun z2 => ?_⟩
    refine ⟨pksA (l ++ [(q, px, py)]), fun w' hr => pksA_snoc (by first | exact hr.at_ 0 rfl | exact hr.at_ 1 rfl | exact hr.at_ 2 rfl | exact hr.at_ 3 rfl | exact hr.at_ 4 rfl | exact hr.at_ 5 rfl | exact hr.at_ 6 rfl | exact hr.at_ 7 rfl | exact hr.at_ 8 rfl | exact hr.at_ 9 rfl | exact hr.at_ 10 rfl | exact hr.at_ 11 rfl) (by first | exact hr.at_ 0 rfl | exact hr.at_ 1 rfl | exact hr.at_ 2 rfl | exact hr.at_ 3 rfl | exact hr.at_ 4 rfl | exact hr.at_ 5 rfl | exact hr.at_ 6 rfl | exact hr.at_ 7 rfl | exact hr.at_ 8 rfl | exact hr.at_ 9 rfl | exact hr.at_ 10 rfl | exact hr.at_ 11 rfl) (by first | exact hr.at_ 0 rfl | exact hr.at_ 1 rfl | exact hr.at_ 2 rfl | exact hr.at_ 3 rfl | exact hr.at_ 4 rfl | exact hr.at_ 5 rfl | exact hr.at_ 6 rfl | exact hr.at_ 7 rfl | exact hr.at_ 8 rfl | exact hr.at_ 9 rfl | exact hr.at_ 10 rfl | exact hr.at_ 11 rfl), fun k hk => ?_, ⟨l ++ [(q, px, py)], s'.drop n.toNat, z2, ?_, ?_, ?_, fun k hk => ?_⟩, ?_⟩
    · rcases pksA_fp hk with h | h | h
      · exact ⟨.st 11, by simp, rfl, h⟩
      · exact ⟨.rd 27 [.str, .int .i64] (.var 28), by simp, rfl, h⟩
      · exact ⟨.rd 29 [.int .i64] (.var 30), by simp, rfl, h⟩
    · rw [rx.sc1, ry.sc1]
      simp [encX]
    · rw [List.map_append]
      rw [← hf]
      exact (hstep h0).symm
    · rw [List.length_append, List.length_drop, List.length_cons, List.length_nil]; omega
    · rcases pksA_fp hk with h | h | h
      · exact hfr k h
      · exact Nat.le_trans hw (fx k h.2)
      · exact Nat.le_trans hw (fy k h.2)
    · show (List.drop n.toNat (List.take (s'.length : Int).toNat s')).length < s'.length
      rw [Int.toNat_natCast, List.take_length, List.length_drop]
      omega
theorem c_FrameFeeds (w : World) (r s : List UInt8) (hs : r.length + s.length ≤ 60000000) :
    Calls Tryz.prog 4 #[.string ⟨r.toArray⟩, .string ⟨s.toArray⟩] w fun e w' => e = .returned (.bool true) ∧ Mod [] w w' := by
  refine as_called (run_plain2 (ρ := [.s r, .s s]) sxE_ok Tryz.func4 tree_dragomanlaw_FrameFeeds rfl rfl rfl ?_) rfl
  simp only [Tree.goal, X.P, X.ev, V.toI_i, V.toB_b, V.toS_s, V.toR_r, V.toV_v, V.toN_n, V.toL_l, SV.ev, CV.ev, Sc.ev, List.getD_cons_zero, List.getD_cons_succ, List.getElem?_cons_zero, List.getElem?_cons_succ, List.map_cons, List.map_nil, List.length_cons, List.length_nil, List.cons_append, List.nil_append, Nat.zero_add, Nat.reduceAdd]
  have hrs : (r ++ s).length ≤ 60000000 := by rw [List.length_append]; exact hs
  intro w1 hr
  refine (c_Feed w1 r s hs).mono ?_
  rintro e w2 ⟨xa, la, rfl, hla, m1, rX, pX, fX, fP⟩
  refine ⟨[.v xa, .r (la.map encX), .s _, .i _, .a (pksA la)], rfl, rfl, m1, List.forall_mem_nil _, List.forall_mem_cons.2 ⟨⟨rX, fun k hk => .inl (fX k hk.2)⟩, List.forall_mem_cons.2 ⟨⟨pX, fun k hk => .inl (fP k hk)⟩, List.forall_mem_nil _⟩⟩, apart_ro2 (by simp [Ent.wr]), ?_⟩
  simp only [Tree.goal, X.P, X.ev, V.toI_i, V.toB_b, V.toS_s, V.toR_r, V.toV_v, V.toN_n, V.toL_l, SV.ev, CV.ev, Sc.ev, List.getD_cons_zero, List.getD_cons_succ, List.getElem?_cons_zero, List.getElem?_cons_succ, List.map_cons, List.map_nil, List.length_cons, List.length_nil, List.cons_append, List.nil_append, Nat.zero_add, Nat.reduceAdd]
  clear m1 hr rX pX fX fP
  refine ⟨by omega, ?_⟩
  intro w1 hr
  refine (c_FeedOf w1 (r ++ s) hrs).mono ?_
  rintro e w2 ⟨xb, lb, rfl, hlb, m1, rX, pX, fX, fP⟩
  refine ⟨[.v xb, .r (lb.map encX), .s _, .i _, .a (pksA lb)], rfl, rfl, m1, List.forall_mem_nil _, List.forall_mem_cons.2 ⟨⟨rX, fun k hk => .inl (fX k hk.2)⟩, List.forall_mem_cons.2 ⟨⟨pX, fun k hk => .inl (fP k hk)⟩, List.forall_mem_nil _⟩⟩, apart_ro2 (by simp [Ent.wr]), ?_⟩
  simp only [Tree.goal, X.P, X.ev, V.toI_i, V.toB_b, V.toS_s, V.toR_r, V.toV_v, V.toN_n, V.toL_l, SV.ev, CV.ev, Sc.ev, List.getD_cons_zero, List.getD_cons_succ, List.getElem?_cons_zero, List.getElem?_cons_succ, List.map_cons, List.map_nil, List.length_cons, List.length_nil, List.cons_append, List.nil_append, Nat.zero_add, Nat.reduceAdd]
  clear m1 hr rX pX fX fP
  have sma := small_of hla hrs
  refine ⟨[.b true], rfl, fun _ w' _ => c_packetBegun w', ?_⟩
  simp only [Tree.goal, X.P, X.ev, V.toI_i, V.toB_b, V.toS_s, V.toR_r, V.toV_v, V.toN_n, V.toL_l, SV.ev, CV.ev, Sc.ev, List.getD_cons_zero, List.getD_cons_succ, List.getElem?_cons_zero, List.getElem?_cons_succ, List.map_cons, List.map_nil, List.length_cons, List.length_nil, List.cons_append, List.nil_append, Nat.zero_add, Nat.reduceAdd]
  refine ⟨[.b true], rfl, fun _ w' _ => c_frameBegun w', ?_⟩
  simp only [Tree.goal, X.P, X.ev, V.toI_i, V.toB_b, V.toS_s, V.toR_r, V.toV_v, V.toN_n, V.toL_l, SV.ev, CV.ev, Sc.ev, List.getD_cons_zero, List.getD_cons_succ, List.getElem?_cons_zero, List.getElem?_cons_succ, List.map_cons, List.map_nil, List.length_cons, List.length_nil, List.cons_append, List.nil_append, Nat.zero_add, Nat.reduceAdd]
  refine ⟨[.b (decide (la.map (·.1) = lb.map (·.1)))], rfl, fun _ w' hr => c_SamePackets w' xa xb la lb (by first | exact hr.at_ 0 rfl | exact hr.at_ 1 rfl | exact hr.at_ 2 rfl | exact hr.at_ 3 rfl | exact hr.at_ 4 rfl | exact hr.at_ 5 rfl | exact hr.at_ 6 rfl | exact hr.at_ 7 rfl | exact hr.at_ 8 rfl | exact hr.at_ 9 rfl | exact hr.at_ 10 rfl | exact hr.at_ 11 rfl) (by first | exact hr.at_ 0 rfl | exact hr.at_ 1 rfl | exact hr.at_ 2 rfl | exact hr.at_ 3 rfl | exact hr.at_ 4 rfl | exact hr.at_ 5 rfl | exact hr.at_ 6 rfl | exact hr.at_ 7 rfl | exact hr.at_ 8 rfl | exact hr.at_ 9 rfl | exact hr.at_ 10 rfl | exact hr.at_ 11 rfl) (by first | exact hr.at_ 0 rfl | exact hr.at_ 1 rfl | exact hr.at_ 2 rfl | exact hr.at_ 3 rfl | exact hr.at_ 4 rfl | exact hr.at_ 5 rfl | exact hr.at_ 6 rfl | exact hr.at_ 7 rfl | exact hr.at_ 8 rfl | exact hr.at_ 9 rfl | exact hr.at_ 10 rfl | exact hr.at_ 11 rfl) (by first | exact hr.at_ 0 rfl | exact hr.at_ 1 rfl | exact hr.at_ 2 rfl | exact hr.at_ 3 rfl | exact hr.at_ 4 rfl | exact hr.at_ 5 rfl | exact hr.at_ 6 rfl | exact hr.at_ 7 rfl | exact hr.at_ 8 rfl | exact hr.at_ 9 rfl | exact hr.at_ 10 rfl | exact hr.at_ 11 rfl) sma.1 sma.2, ?_⟩
  simp only [Tree.goal, X.P, X.ev, V.toI_i, V.toB_b, V.toS_s, V.toR_r, V.toV_v, V.toN_n, V.toL_l, SV.ev, CV.ev, Sc.ev, List.getD_cons_zero, List.getD_cons_succ, List.getElem?_cons_zero, List.getElem?_cons_succ, List.map_cons, List.map_nil, List.length_cons, List.length_nil, List.cons_append, List.nil_append, Nat.zero_add, Nat.reduceAdd]
  exact fun w' hr => ⟨by simp [hla, hlb], hr.mod⟩
end Go.Proofs.YtliedecinehijaaGreatDoor

/-
  What a law's row wants of a walk that leaves all old memory as it was. By an AI agent.
-/
set_option linter.unusedSimpArgs false
set_option linter.unusedVariables false
namespace Go.Sx
open Go Go.ChangeShapes Go.WideShapes Go.ChangeAt Go.RowKit
section
variable {H : Type} {enc : TypeId × Value → H} {P : Program}

/-- No slice's element is without cells. -/
def solidB (P : Program) (ts : List TypeId) : Bool := ts.all fun t => match P.underlying t with | some (.slice e) => decide (0 < P.cellsOf e) | _ => true
/-- Closed under what a reading goes to. -/
def closedB (P : Program) (ts : List TypeId) : Bool := ts.all fun t => match P.underlying t with
  | some (.slice e) => ts.contains e
  | some (.pointer e) => ts.contains e
  | some (.array _ e) => ts.contains e
  | some (.map _ e) => ts.contains e
  | some (.struct fs) => fs.toList.all fun f => ts.contains f.type
  | _ => true

theorem kids_of (hl : laidOutB P = true) (hm : mapsRowed P = true) {ts : List TypeId} (hc : closedB P ts = true) (hs : ts.all (fun t => decide (t < P.types.size)) = true) : Kids P (· ∈ ts) := by
  have K := kids_rows hl hm
  have hs' : ∀ t ∈ ts, t < P.types.size := fun t ht => by simpa using List.all_eq_true.1 hs t ht
  have hc' := fun t ht => List.all_eq_true.1 hc t ht
  refine ⟨fun {t e} ht hu => ?_, fun {t e} ht hu => ?_, fun {t e n} ht hu => ⟨?_, (K.array (hs' t ht) hu).2⟩, fun {t fs} ht hu => ⟨?_, (K.struct (hs' t ht) hu).2⟩, fun {t k e} ht hu => ?_⟩
  · have := hc' t ht; rw [hu] at this; simpa using this
  · have := hc' t ht; rw [hu] at this; simpa using this
  · have := hc' t ht; rw [hu] at this; simpa using this
  · have := hc' t ht; rw [hu] at this; simp only [List.all_eq_true] at this; exact fun f hf => by simpa using this f hf
  · have := hc' t ht; rw [hu] at this; simpa using this

theorem sameAt_of_block {w w' : World} {p : MemPlace} (h : w'.heap[p.block]? = w.heap[p.block]?) : w.sameAt w' p := by
  cases p with
  | cell b off => exact World.cell?_of_block h
  | map b => exact h

theorem trodAll_stays {w w' : World} {sp : Nat → Bool} {T : TypeId → Prop} (K : Kids P T) (hsz : ∀ {t e : TypeId}, T t → P.underlying t = some (.slice e) → 0 < P.cellsOf e) :
    ∀ {ts : List TypeId} {vs : List Value} {ds : List (DataW H)} {ps : List MemPlace}, (∀ t ∈ ts, T t) → DataW.TrodAll enc P w 0 (fun _ => true) true ts vs ds ps →
      (∀ p ∈ ps, w.sameAt w' p) → (∀ p ∈ ps, sp p.block = true) → DataW.TrodAll enc P w' 0 sp true ts vs ds ps
  | [], _, _, _, _, h, _, _ => by
    obtain ⟨rfl, rfl, rfl⟩ := trodAll_nil h
    exact trodAll_mk0
  | t :: ts, _, _, _, ht, h, hs, hp => by
    obtain ⟨v, vs1, d, ds1, a, b, rfl, rfl, rfl, h1, h2⟩ := trodAll_cons h
    obtain ⟨n, h1⟩ := h1
    exact ⟨a, b, ⟨n, DataW.trod_stays K hsz (fun h => by cases h) (ht t (List.mem_cons_self ..)) h1 (fun p hp' => hs p (List.mem_append_left _ hp')) (fun p hp' => hp p (List.mem_append_left _ hp'))⟩,
      trodAll_stays K hsz (fun u hu => ht u (List.mem_cons_of_mem _ hu)) h2 (fun p hp' => hs p (List.mem_append_right _ hp')) (fun p hp' => hp p (List.mem_append_right _ hp')), rfl⟩

/-- A law that answered true, and left all old memory as it was. -/
theorem law_post {f : Func} {s : ChangeSpec} {fresh handsOn again : Bool} {W W' : World} {args : Array Value} {ds gs : List (DataW H)} {before : List MemPlace} {tb : TypeId} (ts : List TypeId)
    (hW : DataW.Whole enc P f.params.toList s.vars false W args.toList ds gs before) (hv : s.vars = [])
    (hr : f.resultTypes = #[tb]) (htb : P.underlying tb = some .bool) (hfn : gs = [] → (s.fn H ds).results = [.lit (.bool true)] ∧ (s.fn H ds).args = ds ∧ (s.fn H ds).vars = [])
    (hl : laidOutB P = true) (hm : mapsRowed P = true) (hc : closedB P ts = true) (hs : ts.all (fun t => decide (t < P.types.size)) = true) (hz : solidB P ts = true) (hp : f.params.toList.all ts.contains = true)
    (h : Mod [] W W') : s.post enc P f false fresh handsOn again W args (.bool true) W' := by
  have hW' := hW
  have hlt := hW.lt
  obtain ⟨p, q, hA, hV, rfl, hfz, hn⟩ := hW
  rw [hv] at hV
  obtain ⟨rfl, rfl⟩ := trodVars_none hV
  obtain ⟨f1, f2, f3⟩ := hfn rfl
  have K := kids_of hl hm hc hs
  have hsz : ∀ {t e : TypeId}, t ∈ ts → P.underlying t = some (.slice e) → 0 < P.cellsOf e := fun {t e} ht hu => by
    have := List.all_eq_true.1 hz t ht; rw [hu] at this; simpa using this
  have hT : ∀ t ∈ f.params.toList, t ∈ ts := fun t ht => by simpa using List.all_eq_true.1 hp t ht
  have hblk : ∀ k, k < W.heap.size → W'.heap[k]? = W.heap[k]? := fun k hk => h.block k hk (by simp)
  have hsame : ∀ x ∈ p, W.sameAt W' x := fun x hx => sameAt_of_block (hblk _ (hlt x (by simpa using hx)))
  have hargs : ∀ sp : Nat → Bool, (∀ x ∈ p, sp x.block = true) → DataW.TrodAll enc P W' 0 sp true f.params.toList args.toList (s.fn H (ds ++ [])).args p := fun sp hsp => by
    rw [List.append_nil, f2]; exact trodAll_stays K hsz hT hA hsame hsp
  have hres : ∀ (b : Nat) (sp : Nat → Bool) (hd : Bool), DataW.TrodAll enc P W' b sp hd f.resultTypes.toList ((Value.bool true).resultList f.resultTypes.size) (s.fn H (ds ++ [])).results [] := fun b sp hd => by
    rw [List.append_nil, f1, hr]; exact trodAll_cons_mk (shut_bool htb _) trodAll_mk0
  have hvars : ∀ sp : Nat → Bool, DataW.TrodVars enc P W' sp s.vars (s.fn H (ds ++ [])).vars [] := fun sp => by
    rw [List.append_nil, f3, hv]; rfl
  have hold : ∀ x ∈ p, (fun b => decide (b < W.heap.size)) x.block = true := fun x hx => by simpa using hlt x (by simpa using hx)
  refine ⟨ds, [], p ++ [], [], p, [], hW', hres _ _ _, hargs _ hold, hvars _, ⟨h.os, h.output, fun i hi => ?_⟩, fun _ => ⟨?_, [.lit (.bool true)] ++ ds, [], ([] ++ p) ++ [], ⟨[] ++ p, [], trodAll_append (by have := hargs (fun _ => true) (fun _ _ => rfl); rw [List.append_nil, f2] at this; exact this) (by have := hres 0 (fun _ => true) true; rw [List.append_nil, f1] at this; exact this), by rw [hv]; rfl, rfl, ?_, by simp⟩, ?_⟩⟩
  · have e := hblk i hi
    rw [e]
    cases W.heap[i]? with
    | none => rfl
    | some o => cases o <;> simp
  · exact ok_one hr rfl (okWide_bool_mk htb _)
  · intro b off hb
    have hb : MemPlace.cell b off ∈ p := by simpa using hb
    have hlt' := hlt _ (show MemPlace.cell b off ∈ p ++ [] by simpa using hb)
    have := hfz b off (by simpa using hb)
    simp only [World.frozen?, hblk b hlt'] at this ⊢
    exact this
  · intro x hx _
    simpa using hx
end
end Go.Sx

/-
  What a reading of an argument tells of its cells: structs cell by cell, slices row by row. By an AI agent.
-/
set_option linter.unusedSimpArgs false
set_option linter.unusedVariables false
namespace Go.Sx
open Go Go.ChangeShapes Go.WideShapes Go.ChangeAt Go.RowKit
section
variable {H : Type} {enc : TypeId × Value → H} {P : Program} {w : World} {sp : Nat → Bool}

/-- How great a reading is. -/
structure Bulk (B : DataW H → Nat) : Prop where
  agg : ∀ l : List (DataW H), (l.map B).sum ≤ B (.agg l)
  slice : ∀ l r : List (DataW H), (l.map B).sum + 1 ≤ B (.slice l r)
  str : ∀ s : List UInt8, s.length + 1 ≤ B (.lit (.string s))
  one : ∀ d : DataW H, 1 ≤ B d

def leavesL (P : Program) (g : TypeId → Option (List (TypeId × Kd))) : List Field → Nat → Option (List (TypeId × Kd))
  | [], _ => some []
  | f :: fs, off => do
    let l ← g f.type
    let r ← leavesL P g fs (off + l.length)
    if f.offset = off ∧ P.cellsOf f.type = l.length then some (l ++ r) else none
/-- The types and kinds of a type's cells. -/
def leaves (P : Program) : Nat → TypeId → Option (List (TypeId × Kd))
  | 0, _ => none
  | f + 1, t => match P.underlying t with
    | some .bool => some [(t, .bool)]
    | some (.int k) => some [(t, .int k)]
    | some .string => some [(t, .str)]
    | some (.slice _) => some [(t, .oth)]
    | some (.struct fs) => match leavesL P (leaves P f) fs.toList 0 with
      | some l => if P.cellsOf t = l.length then some l else none
      | none => none
    | _ => none

/-- What is known of a cell of a type. -/
def CellRd (enc : TypeId × Value → H) (P : Program) (w : World) (sp : Nat → Bool) (B : DataW H → Nat) (l : TypeId × Kd) (c : Value) (b : Nat) : Prop :=
  l.2.ok c ∧ ∃ n d ps, DataW.trod enc P w 0 sp true n l.1 [c] = some (d, ps) ∧ B d ≤ b
inductive Lv (enc : TypeId × Value → H) (P : Program) (w : World) (sp : Nat → Bool) (B : DataW H → Nat) : List (TypeId × Kd) → List Value → Nat → Prop
  | nil (b : Nat) : Lv enc P w sp B [] [] b
  | cons {l : TypeId × Kd} {ls : List (TypeId × Kd)} {c : Value} {cs : List Value} {b1 b2 b : Nat} : CellRd enc P w sp B l c b1 → Lv enc P w sp B ls cs b2 → b1 + b2 ≤ b → Lv enc P w sp B (l :: ls) (c :: cs) b
variable {B : DataW H → Nat}
theorem Lv.mono {ls : List (TypeId × Kd)} {cs : List Value} {b b' : Nat} (h : Lv enc P w sp B ls cs b) (hb : b ≤ b') : Lv enc P w sp B ls cs b' := by
  cases h with
  | nil => exact .nil _
  | cons h1 h2 h3 => exact .cons h1 h2 (by omega)
theorem Lv.append {l2 : List (TypeId × Kd)} {c2 : List Value} {b2 : Nat} (h' : Lv enc P w sp B l2 c2 b2) : ∀ {l1 : List (TypeId × Kd)} {c1 : List Value} {b1 : Nat}, Lv enc P w sp B l1 c1 b1 → Lv enc P w sp B (l1 ++ l2) (c1 ++ c2) (b1 + b2) := by
  intro l1 c1 b1 h
  induction h with
  | nil b => exact h'.mono (by omega)
  | cons h1 h2 h3 ih => exact .cons h1 ih (by omega)
theorem Lv.rowOk {ls : List (TypeId × Kd)} {cs : List Value} {b : Nat} (h : Lv enc P w sp B ls cs b) : rowOk (ls.map (·.2)) cs := by
  induction h with
  | nil => trivial
  | cons h1 h2 h3 ih => exact ⟨h1.1, ih⟩

theorem leavesL_ok {g : TypeId → Option (List (TypeId × Kd))} {cs : List Value} {n : Nat} (hg : ∀ t l cs x, g t = some l → DataW.trod enc P w 0 sp true n t cs = some x → Lv enc P w sp B l cs (B x.1)) :
    ∀ {fs : List Field} {xs : List (DataW H × List MemPlace)} {off : Nat} {l : List (TypeId × Kd)}, leavesL P g fs off = some l → xs.length = fs.length →
      (∀ (i : Nat) (f : Field), fs[i]? = some f → DataW.trod enc P w 0 sp true n f.type ((cs.drop f.offset).take (P.cellsOf f.type)) = xs[i]?) → off + l.length ≤ cs.length →
      Lv enc P w sp B l ((cs.drop off).take l.length) ((xs.map fun x => B x.1).sum)
  | [], [], off, l, h, _, _, _ => by simp [leavesL] at h; subst h; simp; exact .nil _
  | f :: fs, [], off, l, h, hl, _, _ => by simp at hl
  | [], x :: xs, off, l, h, hl, _, _ => by simp at hl
  | f :: fs, x :: xs, off, l, h, hl, hx, hc => by
    simp only [leavesL, Option.bind_eq_bind, Option.bind_eq_some_iff, Option.ite_none_right_eq_some, Option.some.injEq] at h
    obtain ⟨l1, h1, l2, h2, ⟨ho, hcs⟩, rfl⟩ := h
    have hx0 := hx 0 f rfl
    simp only [List.getElem?_cons_zero] at hx0
    rw [ho, hcs] at hx0
    have i1 := hg _ _ _ _ h1 hx0
    simp only [List.length_append] at hc
    have i2 := leavesL_ok hg (xs := xs) h2 (by simpa using hl) (fun i f' hf => by have := hx (i + 1) f' (by simpa using hf); simpa using this) (by omega)
    have e : (cs.drop off).take (l1 ++ l2).length = (cs.drop off).take l1.length ++ (cs.drop (off + l1.length)).take l2.length := by
      rw [List.length_append, ← List.drop_drop, List.take_add]
    rw [e]
    exact i2.append i1
theorem leaves_ok (hB : Bulk B) : ∀ (f : Nat) {t : TypeId} {l : List (TypeId × Kd)} {n : Nat} {cs : List Value} {x : DataW H × List MemPlace}, leaves P f t = some l → DataW.trod enc P w 0 sp true n t cs = some x → Lv enc P w sp B l cs (B x.1)
  | 0, t, l, n, cs, x, h, _ => by simp [leaves] at h
  | f + 1, t, l, n, cs, x, h, hx => by
    simp only [leaves] at h
    have one : ∀ (k : Kd) (c : Value), cs = [c] → k.ok c → Lv enc P w sp B [(t, k)] cs (B x.1) := fun k c hc hk => by
      subst hc
      exact .cons ⟨hk, n, x.1, x.2, hx, Nat.le_refl _⟩ (.nil 0) (by omega)
    split at h
    · rename_i hu
      simp at h; subst h
      obtain ⟨b, rfl, -⟩ := DataW.trod_bool hu hx
      exact one _ _ rfl ⟨b, rfl⟩
    · rename_i k hu
      simp at h; subst h
      obtain ⟨m, rfl, -⟩ := DataW.trod_int hu hx
      exact one _ _ rfl ⟨m, rfl⟩
    · rename_i hu
      simp at h; subst h
      obtain ⟨⟨⟨s⟩⟩, rfl, -⟩ := DataW.trod_string hu hx
      exact one _ _ rfl ⟨s, rfl⟩
    · rename_i e hu
      simp at h; subst h
      rcases DataW.trod_slice hu hx with ⟨rfl, -⟩ | ⟨a, len, cap, elems, rest, m, -, rfl, -⟩
      · exact one _ _ rfl rfl
      · exact one _ _ rfl rfl
    · rename_i fs hu
      split at h
      · rename_i l' hl
        split at h
        · rename_i hc
          simp at h; subst h
          obtain ⟨xs, m, rfl, rfl, hcl, hxl, hf⟩ := DataW.trod_struct hu hx
          have := leavesL_ok (cs := cs) (fun t l cs x => leaves_ok hB f (t := t) (l := l) (n := m) (cs := cs) (x := x)) hl (by simpa using hxl) (fun i f hi => hf i f (by simpa using hi)) (by omega)
          rw [List.drop_zero, List.take_of_length_le (by omega)] at this
          refine this.mono ?_
          have := hB.agg (xs.map (·.1))
          rw [List.map_map] at this
          exact this
        · cases h
      · cases h
    · cases h

/-- A slice's rows. -/
theorem slice_rd (hB : Bulk B) {f n : Nat} {t e : TypeId} {ls : List (TypeId × Kd)} {v : Value} {x : DataW H × List MemPlace} (hu : P.underlying t = some (.slice e)) (hl : leaves P f e = some ls) (hc : P.cellsOf e = ls.length) (hpos : 0 < ls.length)
    (hx : DataW.trod enc P w 0 sp true n t [v] = some x) :
    ∃ (rows : List (List Value)) (bs : List Nat), reads w v (ls.map (·.2)) rows ∧ bs.length = rows.length ∧ (∀ (i : Nat) r b, rows[i]? = some r → bs[i]? = some b → Lv enc P w sp B ls r b) ∧ bs.sum + 1 ≤ B x.1 := by
  rcases DataW.trod_slice hu hx with ⟨hv, rfl⟩ | ⟨a, len, cap, elems, rest, m, -, hv, rfl, -, hlc, hcm, hel, hget, -⟩
  · simp only [List.cons.injEq, and_true] at hv; subst hv
    exact ⟨[], [], ⟨by simp, none, 0, rfl, ⟨fun _ => rfl, by simp⟩, by simp⟩, rfl, by simp, by simpa using hB.one _⟩
  · simp only [List.cons.injEq, and_true] at hv; subst hv
    rw [hc] at hget
    have hrow : ∀ i, i < len → ∃ r y, w.cells? 0 (a.add (i * ls.length)) ls.length = some r ∧ elems[i]? = some y ∧ DataW.trod enc P w 0 sp true m e r = some y := fun i hi => by
      have h1 := hget i hi
      have h2 : elems[i]? = some (elems[i]'(by omega)) := List.getElem?_eq_getElem (by omega)
      rw [h2, Option.bind_eq_some_iff] at h1
      obtain ⟨r, h3, h4⟩ := h1
      exact ⟨r, _, h3, h2, h4⟩
    let rows := (List.range len).map fun i => (w.cells? 0 (a.add (i * ls.length)) ls.length).getD []
    have hrl : rows.length = len := by simp [rows]
    have hri : ∀ i, i < len → ∃ r y, rows[i]? = some r ∧ w.cells? 0 (a.add (i * ls.length)) ls.length = some r ∧ elems[i]? = some y ∧ Lv enc P w sp B ls r (B y.1) := fun i hi => by
      obtain ⟨r, y, h1, h2, h3⟩ := hrow i hi
      exact ⟨r, y, by simp [rows, List.getElem?_range hi, h1], h1, h2, leaves_ok hB f hl h3⟩
    have hlen : ∀ r ∈ rows, r.length = (ls.map (·.2)).length ∧ rowOk (ls.map (·.2)) r := fun r hr => by
      obtain ⟨i, hi, hri'⟩ := List.getElem_of_mem hr
      obtain ⟨r', y, h1, h2, h3, h4⟩ := hri i (by omega)
      rw [List.getElem?_eq_getElem hi, hri'] at h1
      simp at h1; subst h1
      exact ⟨h4.rowOk.length, h4.rowOk⟩
    refine ⟨rows, elems.map fun y => B y.1, ⟨fun r hr => (hlen r hr).2, some a, cap, by rw [hrl], ⟨(fun h => by cases h), by omega⟩, fun hne => ⟨a, rfl, fun j u hj => ?_⟩⟩, by simp [hrl, hel], fun i r b hr hb => ?_, ?_⟩
    · have hL : (ls.map (·.2)).length = ls.length := by simp
      have hfl := flatten_length (fun r hr => (hlen r hr).1)
      have hjl : j < rows.length * ls.length := by
        have := (List.getElem?_eq_some_iff.1 hj).1
        rw [hfl, hL] at this; exact this
      have hi : j / ls.length < len := by rw [← hrl]; exact Nat.div_lt_of_lt_mul (by rw [Nat.mul_comm]; exact hjl)
      obtain ⟨r, y, h1, h2, h3, h4⟩ := hri _ hi
      have hk := Nat.mod_lt j hpos
      have hjj : j = j / ls.length * ls.length + j % ls.length := by rw [Nat.mul_comm]; exact (Nat.div_add_mod j _).symm
      have := flatten_get (fun r hr => by rw [← hL]; exact (hlen r hr).1) (i := j / ls.length) (c := j % ls.length) hk
      rw [← hjj, hj, h1] at this
      obtain ⟨c1, c2⟩ := World.cells?_some h2
      have c3 := c2.2 _ hk
      rw [add_add', ← hjj] at c3
      rw [c3]
      exact this.symm
    · obtain ⟨r', y, h1, h2, h3, h4⟩ := hri i (by rw [← hrl]; exact (List.getElem?_eq_some_iff.1 hr).1)
      rw [h1] at hr; simp at hr; subst hr
      rw [List.getElem?_map, h3] at hb
      simp at hb; subst hb
      exact h4
    · have := hB.slice (elems.map (·.1)) (rest.map (·.1))
      rw [List.map_map] at this
      exact this
theorem open_slice {r : Reach} {b0 base : Nat} {held : Bool} {t e : TypeId} {v : Value} {d : DataW H} {ps : List MemPlace} (ht : P.underlying t = some (.slice e)) (hval : Value.okWide P w r b0 t v) (hd : DataW.Trod enc P w base sp held t v d ps) :
    ∃ n, DataW.trod enc P w base sp held n t [v] = some (d, ps) := by
  obtain ⟨n, hd⟩ := hd
  refine ⟨n, ?_⟩
  have : v.cells.toList = [v] := by
    simp only [Value.okWide, ht, Cell.okWide] at hval
    cases v <;> first | rfl | (simp [Cell.ok] at hval)
  rw [← this]; exact hd
theorem open_struct {r : Reach} {b0 base : Nat} {held : Bool} {t : TypeId} {fs : Array Field} {v : Value} {d : DataW H} {ps : List MemPlace} (ht : P.underlying t = some (.struct fs)) (hval : Value.okWide P w r b0 t v) (hd : DataW.Trod enc P w base sp held t v d ps) :
    ∃ (cs : List Value) (n : Nat), v = .agg cs.toArray ∧ DataW.trod enc P w base sp held n t cs = some (d, ps) := by
  obtain ⟨n, hd⟩ := hd
  simp only [Value.okWide, ht] at hval
  obtain ⟨cs, rfl, -⟩ := hval
  exact ⟨cs.toList, n, by simp, by simpa [Value.cells] using hd⟩

theorem sum_le {α : Type} {g : α → Nat} : ∀ {rows : List α} {bs : List Nat}, bs.length = rows.length → (∀ (i : Nat) r b, rows[i]? = some r → bs[i]? = some b → g r ≤ b) → (rows.map g).sum ≤ bs.sum
  | [], [], _, _ => by simp
  | r :: rows, b :: bs, hl, h => by
    have h0 := h 0 r b rfl rfl
    have := sum_le (rows := rows) (bs := bs) (by simpa using hl) (fun i r' b' hr hb => h (i + 1) r' b' (by simpa using hr) (by simpa using hb))
    simp only [List.map_cons, List.sum_cons]; omega
  | [], _ :: _, hl, _ => by simp at hl
  | _ :: _, [], hl, _ => by simp at hl
/-- There are no more rows than values. -/
theorem rows_le (hB : Bulk B) {ls : List (TypeId × Kd)} (h0 : ls ≠ []) {rows : List (List Value)} {bs : List Nat} (hl : bs.length = rows.length) (h : ∀ (i : Nat) r b, rows[i]? = some r → bs[i]? = some b → Lv enc P w sp B ls r b) : rows.length ≤ bs.sum := by
  have := sum_le (g := fun _ : List Value => 1) hl (fun i r b hr hb => by
    cases h i r b hr hb with
    | nil b => exact absurd rfl h0
    | cons h1 h2 h3 => obtain ⟨-, n, d, q, -, h5⟩ := h1; have := hB.one d; omega)
  have e : (rows.map fun _ => 1).sum = rows.length := by
    clear hl h this
    induction rows with
    | nil => rfl
    | cons r rows ih => simp only [List.map_cons, List.sum_cons, List.length_cons, ih]; omega
  omega
/-- A text's cell. -/
theorem CellRd.str (hB : Bulk B) {t : TypeId} (ht : P.underlying t = some .string) {s : List UInt8} {b : Nat} (h : CellRd enc P w sp B (t, .str) (.string ⟨s.toArray⟩) b) : s.length + 1 ≤ b := by
  obtain ⟨-, n, d, ps, h1, h2⟩ := h
  obtain ⟨s', h3, h4⟩ := DataW.trod_string ht h1
  simp only [List.cons.injEq, Value.string.injEq, and_true] at h3
  subst h3
  simp only [Prod.mk.injEq] at h4
  obtain ⟨⟨rfl, -⟩, -⟩ := h4
  have := hB.str s
  omega
theorem CellRd.int {t : TypeId} {k : IntKind} (ht : P.underlying t = some (.int k)) {n : Int} {b : Nat} (h : CellRd enc P w sp B (t, .int k) (.int k n) b) : (Lit.int k n).wf = true := by
  obtain ⟨-, m, d, ps, h1, h2⟩ := h
  cases m with
  | zero => simp [DataW.trod] at h1
  | succ m =>
    unfold DataW.trod at h1
    rw [ht] at h1
    simp only [] at h1
    split at h1
    · rename_i hw; exact hw.2
    · cases h1
end
end Go.Sx
