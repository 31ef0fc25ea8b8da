/-
  Packets: the laws PacketApart, PacketBack, walked. By an AI agent.
-/
import Derived.Test.YtliedecinehijaaGreatDoorZ13
import Derived.Test.YtliedecinehijaaGreatDoorZ14
import Derived.Test.YtliedecinehijaaGreatDoorZ01
import Derived.WalkKit
import Derived.ProofKit
import Derived.OpenShut
import Derived.JoinedCond
import Derived.ChangeStays
set_option linter.unusedSimpArgs false
set_option linter.unusedVariables false
namespace Go.Proofs.YtliedecinehijaaGreatDoor
open Go.Sx

def pubP : Pkt := ⟨3, false, false, false, false, 1, 10, 0, 0, [], [97, 47, 98], [104, 105], [], []⟩
theorem pubP_ok : chkP pubP = 0 := by decide +kernel
theorem pubP_bytes : bytesP pubP = [50, 9, 0, 3, 97, 47, 98, 0, 10, 104, 105] := by decide +kernel
theorem pubP_small : SmallP pubP := ⟨by decide, by decide, by decide, by decide, by decide, by decide⟩
theorem decD_pub : decD [50, 9, 0, 3, 97, 47, 98, 0, 10, 104, 105] = (pubP, 0) := by rw [← pubP_bytes]; exact decD_back pubP_ok
theorem c_pub (w : World) : Calls Tryz.prog 59 #[] w fun e w' => e = .returned (pV pubP nilV nilV) ∧ Mod [] w w' := by
  refine as_called (run_plain2 (ρ := []) sxE_ok Tryz.func59 tree_dragomanlaw_pub rfl rfl rfl ?_) rfl
  simp only [Tree.goal, X.P, X.ev, V.toI_i, V.toB_b, V.toS_s, V.toR_r, V.toV_v, V.toN_n, V.toL_l, SV.ev, CV.ev, Sc.ev, List.getD_cons_zero, List.getD_cons_succ, List.getElem?_cons_zero, List.getElem?_cons_succ, List.map_cons, List.map_nil, List.length_cons, List.length_nil, List.cons_append, List.nil_append, Nat.zero_add, Nat.reduceAdd]
  exact fun b w' hr => ⟨rfl, hr.mod⟩
theorem c_packetBegun (w : World) : Calls Tryz.prog 12 #[] w fun e w' => e = .returned (.bool true) ∧ Mod [] w w' := by
  refine as_called (run_plain2 (ρ := []) sxE_ok Tryz.func12 tree_dragomanlaw_packetBegun rfl rfl rfl ?_) rfl
  simp only [Tree.goal, X.P, X.ev, V.toI_i, V.toB_b, V.toS_s, V.toR_r, V.toV_v, V.toN_n, V.toL_l, SV.ev, CV.ev, Sc.ev, List.getD_cons_zero, List.getD_cons_succ, List.getElem?_cons_zero, List.getElem?_cons_succ, List.map_cons, List.map_nil, List.length_cons, List.length_nil, List.cons_append, List.nil_append, Nat.zero_add, Nat.reduceAdd]
  intro w1 hr; refine (c_pub w1).mono ?_; rintro e w2 ⟨rfl, m⟩; refine ⟨[.i 3, .b false, .b false, .b false, .b false, .i 1, .i 10, .i 0, .i 0, .s [], .s [97, 47, 98], .s [104, 105], .v nilV, .r [], .v nilV, .r []], rfl, rfl, m, List.forall_mem_nil _, List.forall_mem_cons.2 ⟨⟨readsA_nil _, fun k hk => absurd rfl hk.1⟩, List.forall_mem_cons.2 ⟨⟨readsI_nil _, fun k hk => absurd rfl hk.1⟩, List.forall_mem_nil _⟩⟩, apart_ro2 (by simp [Ent.wr]), ?_⟩; simp only [Tree.goal, X.P, X.ev, V.toI_i, V.toB_b, V.toS_s, V.toR_r, V.toV_v, V.toN_n, V.toL_l, SV.ev, CV.ev, Sc.ev, List.getD_cons_zero, List.getD_cons_succ, List.getElem?_cons_zero, List.getElem?_cons_succ, List.map_cons, List.map_nil, List.length_cons, List.length_nil, List.cons_append, List.nil_append, Nat.zero_add, Nat.reduceAdd]; clear m hr
  refine ⟨[.s (if chkP pubP = 0 then bytesP pubP else []), .i (chkP pubP)], rfl, fun _ w' hr => c_PEncode w' pubP nilV nilV (readsA_nil _) (readsI_nil _) pubP_small, ?_⟩
  simp only [Tree.goal, X.P, X.ev, V.toI_i, V.toB_b, V.toS_s, V.toR_r, V.toV_v, V.toN_n, V.toL_l, SV.ev, CV.ev, Sc.ev, List.getD_cons_zero, List.getD_cons_succ, List.getElem?_cons_zero, List.getElem?_cons_succ, List.map_cons, List.map_nil, List.length_cons, List.length_nil, List.cons_append, List.nil_append, Nat.zero_add, Nat.reduceAdd, pubP_ok, if_true, pubP_bytes]
  intro w1 hr
  refine (c_PDecode w1 [50, 9, 0, 3, 97, 47, 98, 0, 10, 104, 105] (by decide)).mono ?_
  rintro e w2 ⟨x, y, rfl, m, rx, ry, fx, fy⟩
  rw [decD_pub] at rx ry ⊢
  refine ⟨[.i 3, .b false, .b false, .b false, .b false, .i 1, .i 10, .i 0, .i 0, .s [], .s [97, 47, 98], .s [104, 105], .v x, .r [], .v y, .r [], .i 0], rfl, rfl, m, List.forall_mem_nil _, List.forall_mem_cons.2 ⟨⟨rx, fun k hk => .inl (fx k hk.2)⟩, List.forall_mem_cons.2 ⟨⟨ry, fun k hk => .inl (fy k hk.2)⟩, List.forall_mem_nil _⟩⟩, apart_ro2 (by simp [Ent.wr]), ?_⟩
  simp only [Tree.goal, X.P, X.ev, V.toI_i, V.toB_b, V.toS_s, V.toR_r, V.toV_v, V.toN_n, V.toL_l, SV.ev, CV.ev, Sc.ev, List.getD_cons_zero, List.getD_cons_succ, List.getElem?_cons_zero, List.getElem?_cons_succ, List.map_cons, List.map_nil, List.length_cons, List.length_nil, List.cons_append, List.nil_append, Nat.zero_add, Nat.reduceAdd]
  clear m hr
  intro bq
  refine ⟨fun _ => ?_, fun h => absurd ⟨trivial, trivial⟩ h⟩
  intro w1 hr; refine (c_pub w1).mono ?_; rintro e w2 ⟨rfl, m⟩; refine ⟨[.i 3, .b false, .b false, .b false, .b false, .i 1, .i 10, .i 0, .i 0, .s [], .s [97, 47, 98], .s [104, 105], .v nilV, .r [], .v nilV, .r []], rfl, rfl, m, List.forall_mem_nil _, List.forall_mem_cons.2 ⟨⟨readsA_nil _, fun k hk => absurd rfl hk.1⟩, List.forall_mem_cons.2 ⟨⟨readsI_nil _, fun k hk => absurd rfl hk.1⟩, List.forall_mem_nil _⟩⟩, apart_ro2 (by simp [Ent.wr]), ?_⟩; simp only [Tree.goal, X.P, X.ev, V.toI_i, V.toB_b, V.toS_s, V.toR_r, V.toV_v, V.toN_n, V.toL_l, SV.ev, CV.ev, Sc.ev, List.getD_cons_zero, List.getD_cons_succ, List.getElem?_cons_zero, List.getElem?_cons_succ, List.map_cons, List.map_nil, List.length_cons, List.length_nil, List.cons_append, List.nil_append, Nat.zero_add, Nat.reduceAdd]; clear m hr
  refine ⟨[.i (chkP pubP)], rfl, fun _ w' hr => c_PCheck w' pubP nilV nilV (readsA_nil _) (readsI_nil _) pubP_small, ?_⟩
  simp only [Tree.goal, X.P, X.ev, V.toI_i, V.toB_b, V.toS_s, V.toR_r, V.toV_v, V.toN_n, V.toL_l, SV.ev, CV.ev, Sc.ev, List.getD_cons_zero, List.getD_cons_succ, List.getElem?_cons_zero, List.getElem?_cons_succ, List.map_cons, List.map_nil, List.length_cons, List.length_nil, List.cons_append, List.nil_append, Nat.zero_add, Nat.reduceAdd, pubP_ok]
  refine ⟨⟨fun _ => ?_, fun h => absurd ⟨trivial, trivial⟩ h⟩, ⟨fun _ => ?_, fun h => absurd ⟨trivial, trivial⟩ h⟩⟩
  all_goals
    intro w1 hr; refine (c_pub w1).mono ?_; rintro e w2 ⟨rfl, m⟩; refine ⟨[.i 3, .b false, .b false, .b false, .b false, .i 1, .i 10, .i 0, .i 0, .s [], .s [97, 47, 98], .s [104, 105], .v nilV, .r [], .v nilV, .r []], rfl, rfl, m, List.forall_mem_nil _, List.forall_mem_cons.2 ⟨⟨readsA_nil _, fun k hk => absurd rfl hk.1⟩, List.forall_mem_cons.2 ⟨⟨readsI_nil _, fun k hk => absurd rfl hk.1⟩, List.forall_mem_nil _⟩⟩, apart_ro2 (by simp [Ent.wr]), ?_⟩; simp only [Tree.goal, X.P, X.ev, V.toI_i, V.toB_b, V.toS_s, V.toR_r, V.toV_v, V.toN_n, V.toL_l, SV.ev, CV.ev, Sc.ev, List.getD_cons_zero, List.getD_cons_succ, List.getElem?_cons_zero, List.getElem?_cons_succ, List.map_cons, List.map_nil, List.length_cons, List.length_nil, List.cons_append, List.nil_append, Nat.zero_add, Nat.reduceAdd]; clear m hr
    refine ⟨[.b (decide (pubP = pubP))], rfl, fun _ w' hr => c_SamePacket w' pubP pubP x y nilV nilV (by first | exact hr.at_ 5 rfl | exact hr.at_ 4 rfl) (by first | exact hr.at_ 6 rfl | exact hr.at_ 5 rfl) (readsA_nil _) (readsI_nil _) pubP_small, ?_⟩
    simp only [Tree.goal, X.P, X.ev, V.toI_i, V.toB_b, V.toS_s, V.toR_r, V.toV_v, V.toN_n, V.toL_l, SV.ev, CV.ev, Sc.ev, List.getD_cons_zero, List.getD_cons_succ, List.getElem?_cons_zero, List.getElem?_cons_succ, List.map_cons, List.map_nil, List.length_cons, List.length_nil, List.cons_append, List.nil_append, Nat.zero_add, Nat.reduceAdd]
    exact fun w' hr => ⟨by simp, hr.mod⟩
section
variable (w : World) (p q : Pkt) (u v x y : Value)
end
end Go.Proofs.YtliedecinehijaaGreatDoor

/-
  Packets: the reference's check, walked. By an AI agent.
-/
set_option linter.unusedSimpArgs false
set_option linter.unusedVariables false
namespace Go.Proofs.YtliedecinehijaaGreatDoor
open Go.Sx
theorem c_IsClient (w : World) (s : List UInt8) (hs : s.length < 1099511627776) : Calls Tryz.prog 50 #[.string ⟨s.toArray⟩] w fun e w' => e = .returned (.bool (cliB s)) ∧ Mod [] w w' := by
  refine as_called (run_plain2 (ρ := [.s s]) sxE_ok Tryz.func50 tree_dragomanref_IsClient rfl rfl rfl ?_) rfl
  simp only [Tree.goal, X.P, X.ev, V.toI_i, V.toB_b, V.toS_s, V.toR_r, V.toV_v, V.toN_n, V.toL_l, SV.ev, CV.ev, Sc.ev, List.getD_cons_zero, List.getD_cons_succ, List.getElem?_cons_zero, List.getElem?_cons_succ, List.map_cons, List.map_nil, List.length_cons, List.length_nil, List.cons_append, List.nil_append, Nat.zero_add, Nat.reduceAdd]
  refine ⟨[.b (plainS s)], rfl, fun _ w' _ => c_IsPlain w' s hs, ?_⟩
  simp only [Tree.goal, X.P, X.ev, V.toI_i, V.toB_b, V.toS_s, V.toR_r, V.toV_v, V.toN_n, V.toL_l, SV.ev, CV.ev, Sc.ev, List.getD_cons_zero, List.getD_cons_succ, List.getElem?_cons_zero, List.getElem?_cons_succ, List.map_cons, List.map_nil, List.length_cons, List.length_nil, List.cons_append, List.nil_append, Nat.zero_add, Nat.reduceAdd]
  exact fun w' hr => ⟨by simp [cliB], hr.mod⟩
theorem c_flag (w : World) (b : Bool) (n : Int) : Calls Tryz.prog 54 #[.bool b, .int .i64 n] w fun e w' => e = .returned (.int .i64 (bit b n)) ∧ Mod [] w w' := by
  refine as_called (run_plain2 (ρ := [.b b, .i n]) sxE_ok Tryz.func54 tree_dragomanref_flag rfl rfl rfl ?_) rfl
  simp only [Tree.goal, X.P, X.ev, V.toI_i, V.toB_b, V.toS_s, V.toR_r, V.toV_v, V.toN_n, V.toL_l, SV.ev, CV.ev, Sc.ev, List.getD_cons_zero, List.getD_cons_succ, List.getElem?_cons_zero, List.getElem?_cons_succ, List.map_cons, List.map_nil, List.length_cons, List.length_nil, List.cons_append, List.nil_append, Nat.zero_add, Nat.reduceAdd]
  exact ⟨fun h w' hr => ⟨by rw [bit, if_pos h], hr.mod⟩, fun h w' hr => ⟨by rw [bit, if_neg h], hr.mod⟩⟩
/-- The document's check of what a kind names. -/
def formR (p : Pkt) : Bool :=
  !decide ((p.kind ≠ 1 ∧ (p.client ≠ [] ∨ p.clean = true ∨ p.keep ≠ 0)) ∨ (p.kind ≠ 2 ∧ (p.session = true ∨ p.code ≠ 0)) ∨ (p.kind ≠ 3 ∧ (p.dup = true ∨ p.retain = true ∨ p.qos ≠ 0 ∨ p.topic ≠ [] ∨ p.payload ≠ [])) ∨
    (¬ (3 ≤ p.kind ∧ p.kind ≤ 4) ∧ ¬ (8 ≤ p.kind ∧ p.kind ≤ 11) ∧ p.id ≠ 0) ∨ (p.kind ≠ 8 ∧ p.kind ≠ 10 ∧ p.asks ≠ []) ∨ (p.kind ≠ 9 ∧ p.codes ≠ []))
theorem formR_iff (p : Pkt) : formR p = true ↔ emptyB (bareP p) = true := by
  rw [empty_iff, bare_iff]
  unfold formR
  simp only [Bool.not_eq_true', decide_eq_false_iff_not, not_or, not_and, Classical.not_not, Bool.not_eq_true]
  grind
/-- What is wrong with what a kind names alone. -/
def headE (p : Pkt) : Int := if p.kind = 1 then connE p else if p.kind = 2 then connackE p else if p.kind = 3 then pubE p else 0
theorem chkP_ref (p : Pkt) : chkP p = if kindB p.kind = true then (if emptyB (bareP p) = true then (if headE p = 0 then (if idB p = true ∧ ¬ (1 ≤ p.id ∧ p.id ≤ 65535) then 3 else
    (if (p.kind = 8 ∨ p.kind = 10) ∧ countE p.asks.length ≠ 0 then countE p.asks.length else if asksL p.kind p.asks ≠ 0 then asksL p.kind p.asks else if p.kind = 9 ∧ countE p.codes.length ≠ 0 then countE p.codes.length else if p.codes.any codeB = true then 3 else 0)) else headE p) else 1) else 7 := by
  unfold chkP
  split
  rotate_left
  · rfl
  split
  rotate_left
  · rfl
  rename_i hk he
  have hb := (bare_iff p).1 ((empty_iff p).1 he)
  obtain ⟨b1, b2, b3, b4, b5, b6⟩ := hb
  have n1 : p.kind = 1 ∨ p.kind = 2 → idB p = false := fun h => by unfold idB; rcases h with h | h <;> simp [h]
  have z1 : ¬ (p.kind = 8 ∨ p.kind = 10) → p.asks = [] := fun h => b5 (by omega)
  have z2 : p.kind ≠ 9 → p.codes = [] := fun h => b6 h
  by_cases k1 : p.kind = 1
  · rw [if_neg (by omega), partsE, if_pos k1, headE, if_pos k1, n1 (.inl k1), z1 (by omega), z2 (by omega)]
    simp [asksL, k1]
  by_cases k2 : p.kind = 2
  · rw [if_neg (by omega), partsE, if_neg k1, if_pos k2, headE, if_neg k1, if_pos k2, n1 (.inr k2), z1 (by omega), z2 (by omega)]
    simp [asksL, k2]
  by_cases k3 : p.kind = 3
  · rw [partsE, if_neg k1, if_neg k2, if_pos k3, headE, if_neg k1, if_neg k2, if_pos k3, z1 (by omega), z2 (by omega)]
    by_cases h0 : pubE p = 0
    · rw [if_neg (by simp [h0]), if_pos h0, h0]
      simp [asksL, k3]
    · rw [if_pos ⟨k3, h0⟩, if_neg h0]
  rw [if_neg (by omega), headE, if_neg k1, if_neg k2, if_neg k3, if_pos rfl, partsE, if_neg k1, if_neg k2, if_neg k3]
  split
  · rfl
  by_cases k8 : p.kind = 8 ∨ p.kind = 10
  · rw [if_pos k8, z2 (by omega), asksE]
    by_cases h0 : countE p.asks.length = 0
    · rw [if_pos h0, if_neg (show ¬ ((p.kind = 8 ∨ p.kind = 10) ∧ countE p.asks.length ≠ 0) from fun h => h.2 h0)]
      by_cases h1 : asksL p.kind p.asks = 0
      · rw [if_neg (show ¬ asksL p.kind p.asks ≠ 0 from fun h => h h1), h1, if_neg (show ¬ (p.kind = 9 ∧ _) from fun h => by omega)]; rfl
      · rw [if_pos h1]
    · rw [if_neg h0, if_pos ⟨k8, h0⟩]
  · have e0 : asksL p.kind [] = 0 := rfl
    rw [if_neg k8, if_neg (show ¬ ((p.kind = 8 ∨ p.kind = 10) ∧ countE p.asks.length ≠ 0) from fun h => k8 h.1), z1 k8, e0, if_neg (show ¬ (0 : Int) ≠ 0 from fun h => h rfl)]
    by_cases k9 : p.kind = 9
    · rw [if_pos k9, codesE]
      by_cases h0 : countE p.codes.length = 0
      · rw [if_pos h0, if_neg (show ¬ (p.kind = 9 ∧ countE p.codes.length ≠ 0) from fun h => h.2 h0)]
      · rw [if_neg h0, if_pos ⟨k9, h0⟩]
    · rw [if_neg k9, if_neg (show ¬ (p.kind = 9 ∧ countE p.codes.length ≠ 0) from fun h => k9 h.1), z2 k9]; rfl
section
variable (w : World) (p : Pkt) (u v : Value) (hu : readsA w u p.asks) (hv : readsI w v p.codes) (hs : SmallP p)
include hu hv
theorem c_HasId : Calls Tryz.prog 51 #[pV p u v] w fun e w' => e = .returned (.bool (idB p)) ∧ Mod [] w w' := by
  refine as_called (run_tree2 (ρ := [.i p.kind, .b p.dup, .b p.retain, .b p.clean, .b p.session, .i p.qos, .i p.id, .i p.keep, .i p.code, .s p.client, .s p.topic, .s p.payload, .v u, .r (p.asks.map encA), .v v, .r (p.codes.map encI)]) sxE_ok Tryz.func51 tree_dragomanref_HasId rfl rfl (Rel.start2 (by simp [Ent.holds, Ent.wr, hu, hv, X.ev])) rfl rfl ?_) rfl
  simp only [Tree.goal, X.P, X.ev, V.toI_i, V.toB_b, V.toS_s, V.toR_r, V.toV_v, V.toN_n, V.toL_l, SV.ev, CV.ev, Sc.ev, List.getD_cons_zero, List.getD_cons_succ, List.getElem?_cons_zero, List.getElem?_cons_succ, List.map_cons, List.map_nil, List.length_cons, List.length_nil, List.cons_append, List.nil_append, Nat.zero_add, Nat.reduceAdd]
  intro b
  refine ⟨fun h w' hr => ⟨?_, hr.mod⟩, fun h w' hr => ⟨?_, hr.mod⟩⟩
  · simp only [Ending.returned.injEq, Value.bool.injEq, idB]; symm; rw [decide_eq_true_eq]; omega
  · simp only [Ending.returned.injEq, Value.bool.injEq, idB]
    rw [← Bool.decide_and]
    exact decide_eq_decide.2 (by omega)
include hs
theorem c_CheckPacket : Calls Tryz.prog 9 #[pV p u v] w fun e w' => e = .returned (.int .i64 (chkP p)) ∧ Mod [] w w' := by
  refine as_called (run_tree2 (ρ := [.i p.kind, .b p.dup, .b p.retain, .b p.clean, .b p.session, .i p.qos, .i p.id, .i p.keep, .i p.code, .s p.client, .s p.topic, .s p.payload, .v u, .r (p.asks.map encA), .v v, .r (p.codes.map encI)]) (sxE_ok.joins _) Tryz.func9 tree_dragomanref_CheckPacket rfl rfl (Rel.start2 (by simp [Ent.holds, Ent.wr, hu, hv, X.ev])) rfl rfl ?_) rfl
  have h1 := hs.client; have h2 := hs.topic; have h3 := hs.payload; have h4 := hs.asks; have h5 := hs.codes
  have hf := hs.at_
  simp only [Tree.goal, X.P, X.ev, V.toI_i, V.toB_b, V.toS_s, V.toR_r, V.toV_v, V.toN_n, V.toL_l, SV.ev, CV.ev, Sc.ev, List.getD_cons_zero, List.getD_cons_succ, List.getElem?_cons_zero, List.getElem?_cons_succ, List.map_cons, List.map_nil, List.length_cons, List.length_nil, List.cons_append, List.nil_append, Nat.zero_add, Nat.reduceAdd, List.length_map]
  intro b
  refine ⟨fun vs => (vs.getD 3 (.i 0)).toB = !kindB p.kind, ⟨fun h => ?_, fun h => ?_⟩, ?_⟩
  · have e : kindB p.kind = (decide (8 ≤ p.kind) && decide (p.kind ≤ 14)) := by unfold kindB; rw [← Bool.decide_and]; exact decide_eq_decide.2 (by omega)
    rw [e]; rfl
  · have e : kindB p.kind = true := by unfold kindB; rw [decide_eq_true_eq]; omega
    rw [e]; rfl
  intro vs hl hI
  match vs, hl, hI with
  | [x0, x1, x2, x3], _, hI =>
  simp only [Tree.goal, X.P, X.ev, V.toI_i, V.toB_b, V.toS_s, V.toR_r, V.toV_v, V.toN_n, V.toL_l, SV.ev, CV.ev, Sc.ev, List.getD_cons_zero, List.getD_cons_succ, List.getElem?_cons_zero, List.getElem?_cons_succ, List.map_cons, List.map_nil, List.length_cons, List.length_nil, List.cons_append, List.nil_append, Nat.zero_add, Nat.reduceAdd, List.length_map] at hI ⊢
  rw [chkP_ref, hI]
  refine ⟨fun h w' hr => ⟨by rw [if_neg (by simpa using h)], hr.mod⟩, fun h => ?_⟩
  have hk : kindB p.kind = true := by simpa using h
  rw [if_pos hk]
  clear h
  have l0 : ∀ l : List Ak, (0 < (l.length : Int)) ↔ l ≠ [] := fun l => by rw [← List.length_pos_iff]; omega
  have l1 : ∀ l : List Int, (0 < (l.length : Int)) ↔ l ≠ [] := fun l => by rw [← List.length_pos_iff]; omega
  have fR := formR_iff p
  have bad : formR p = false → (if emptyB (bareP p) = true then (if headE p = 0 then (if idB p = true ∧ ¬ (1 ≤ p.id ∧ p.id ≤ 65535) then (3 : Int) else
    (if (p.kind = 8 ∨ p.kind = 10) ∧ countE p.asks.length ≠ 0 then countE p.asks.length else if asksL p.kind p.asks ≠ 0 then asksL p.kind p.asks else if p.kind = 9 ∧ countE p.codes.length ≠ 0 then countE p.codes.length else if p.codes.any codeB = true then 3 else 0)) else headE p) else 1) = 1 := fun h => by
    rw [if_neg (fun hh => by rw [fR.2 hh] at h; cases h)]
  refine ⟨fun h w' hr => ⟨?_, hr.mod⟩, fun g1 => ⟨fun h w' hr => ⟨?_, hr.mod⟩, fun g2 => ?_⟩⟩
  · rw [bad]; simp only [formR, Bool.not_eq_false', decide_eq_true_eq]; grind
  · rw [bad]; simp only [formR, Bool.not_eq_false', decide_eq_true_eq]; grind
  refine ⟨fun vs => (vs.getD 9 (.i 0)).toB = !formR p, ⟨fun h => ?_, fun h => ?_⟩, ?_⟩
  · simp only [List.getD_cons_succ, List.getD_cons_zero, V.toB_b, formR, Bool.not_not]
    rw [Bool.eq_iff_iff]
    simp only [Bool.or_eq_true, Bool.and_eq_true, Bool.not_eq_true', decide_eq_true_eq, decide_eq_false_iff_not, Bool.and_eq_false_iff, l0, l1]
    grind
  · simp only [List.getD_cons_succ, List.getD_cons_zero, V.toB_b, formR, Bool.not_not]
    rw [Bool.eq_iff_iff]
    simp only [Bool.or_eq_true, Bool.and_eq_true, Bool.not_eq_true', decide_eq_true_eq, decide_eq_false_iff_not, Bool.and_eq_false_iff, l0, l1]
    grind
  intro vs hl hI
  match vs, hl, hI with
  | [y0, y1, y2, y3, y4, y5, y6, y7, y8, y9], _, hI =>
  simp only [Tree.goal, X.P, X.ev, V.toI_i, V.toB_b, V.toS_s, V.toR_r, V.toV_v, V.toN_n, V.toL_l, SV.ev, CV.ev, Sc.ev, List.getD_cons_zero, List.getD_cons_succ, List.getElem?_cons_zero, List.getElem?_cons_succ, List.map_cons, List.map_nil, List.length_cons, List.length_nil, List.cons_append, List.nil_append, Nat.zero_add, Nat.reduceAdd, List.length_map] at hI ⊢
  rw [hI]
  refine ⟨fun h w' hr => ⟨by rw [bad (by simpa using h)], hr.mod⟩, fun h => ?_⟩
  have he : emptyB (bareP p) = true := fR.1 (by simpa using h)
  rw [if_pos he]
  clear h g1 g2 bad
  refine ⟨fun vs => headE p = 0, ⟨fun k1 => ?_, fun k1 => ⟨fun k2 => ?_, fun k2 => ⟨fun k3 => ?_, fun k3 => ?_⟩⟩⟩, ?_⟩
  · rw [headE, if_pos k1, connE]
    refine ⟨fun h w' hr => ⟨by rw [if_pos h]; rfl, hr.mod⟩, fun h => ?_⟩
    rw [if_neg h]
    refine ⟨[.b (cliB p.client)], rfl, fun _ w' _ => c_IsClient w' _ (by omega), ?_⟩
    simp only [Tree.goal, X.P, X.ev, V.toI_i, V.toB_b, V.toS_s, V.toR_r, V.toV_v, V.toN_n, V.toL_l, SV.ev, CV.ev, Sc.ev, List.getD_cons_zero, List.getD_cons_succ, List.getElem?_cons_zero, List.getElem?_cons_succ, List.map_cons, List.map_nil, List.length_cons, List.length_nil, List.cons_append, List.nil_append, Nat.zero_add, Nat.reduceAdd]
    refine ⟨fun h w' hr => ⟨by rw [if_neg h]; rfl, hr.mod⟩, fun h => ?_⟩
    rw [if_pos (Classical.not_not.1 h)]
    exact ⟨fun h w' hr => ⟨by rw [if_neg h]; rfl, hr.mod⟩, fun h => by rw [if_pos (Classical.not_not.1 h)]⟩
  · rw [headE, if_neg k1, if_pos k2, connackE]
    refine ⟨fun h w' hr => ⟨by rw [if_neg h]; rfl, hr.mod⟩, fun h => ?_⟩
    have h0 := Classical.not_not.1 h
    rw [if_pos h0]
    exact ⟨fun h w' hr => ⟨by rw [if_pos (show p.session = true ∧ p.code ≠ 0 from ⟨h.1, by omega⟩)]; rfl, hr.mod⟩, fun h => by rw [if_neg (show ¬ (p.session = true ∧ p.code ≠ 0) from fun hh => h ⟨hh.1, by omega⟩)]⟩
  · rw [headE, if_neg k1, if_neg k2, if_pos k3, pubE]
    refine ⟨[.i (chkT p.topic false)], rfl, fun _ w' _ => c_CheckTopic w' _ _ (by omega), ?_⟩
    simp only [Tree.goal, X.P, X.ev, V.toI_i, V.toB_b, V.toS_s, V.toR_r, V.toV_v, V.toN_n, V.toL_l, SV.ev, CV.ev, Sc.ev, List.getD_cons_zero, List.getD_cons_succ, List.getElem?_cons_zero, List.getElem?_cons_succ, List.map_cons, List.map_nil, List.length_cons, List.length_nil, List.cons_append, List.nil_append, Nat.zero_add, Nat.reduceAdd]
    refine ⟨fun h w' hr => ⟨by rw [if_neg h, if_neg h], hr.mod⟩, fun h => ?_⟩
    rw [if_pos (Classical.not_not.1 h)]
    refine ⟨fun h w' hr => ⟨by rw [if_pos h]; rfl, hr.mod⟩, fun h => ?_⟩
    rw [if_neg h]
    refine ⟨fun h w' hr => ⟨by rw [if_neg h]; rfl, hr.mod⟩, fun h => ?_⟩
    rw [if_pos (Classical.not_not.1 h)]
    exact ⟨fun h w' hr => ⟨by rw [if_pos h]; rfl, hr.mod⟩, fun h => by rw [if_neg h]⟩
  · rw [headE, if_neg k1, if_neg k2, if_neg k3]
  intro vs hl hI
  match vs, hl, hI with
  | [z0], _, hI =>
  simp only [Tree.goal, X.P, X.ev, V.toI_i, V.toB_b, V.toS_s, V.toR_r, V.toV_v, V.toN_n, V.toL_l, SV.ev, CV.ev, Sc.ev, List.getD_cons_zero, List.getD_cons_succ, List.getElem?_cons_zero, List.getElem?_cons_succ, List.map_cons, List.map_nil, List.length_cons, List.length_nil, List.cons_append, List.nil_append, Nat.zero_add, Nat.reduceAdd, List.length_map]
  rw [if_pos hI]
  refine ⟨fun vs => (vs.getD 3 (.i 0)).toB = (idB p && !decide (1 ≤ p.id ∧ p.id ≤ 65535)), ?_, ?_⟩
  · refine ⟨[.b (idB p)], rfl, fun _ w' hr => c_HasId w' p u v (hr.at_ 1 rfl) (hr.at_ 2 rfl), ?_⟩
    simp only [Tree.goal, X.P, X.ev, V.toI_i, V.toB_b, V.toS_s, V.toR_r, V.toV_v, V.toN_n, V.toL_l, SV.ev, CV.ev, Sc.ev, List.getD_cons_zero, List.getD_cons_succ, List.getElem?_cons_zero, List.getElem?_cons_succ, List.map_cons, List.map_nil, List.length_cons, List.length_nil, List.cons_append, List.nil_append, Nat.zero_add, Nat.reduceAdd]
    exact ⟨fun h => by simp [h], fun h => by simp [h]⟩
  intro vs hl hI
  match vs, hl, hI with
  | [t0, t1, t2, t3], _, hI =>
  simp only [Tree.goal, X.P, X.ev, V.toI_i, V.toB_b, V.toS_s, V.toR_r, V.toV_v, V.toN_n, V.toL_l, SV.ev, CV.ev, Sc.ev, List.getD_cons_zero, List.getD_cons_succ, List.getElem?_cons_zero, List.getElem?_cons_succ, List.map_cons, List.map_nil, List.length_cons, List.length_nil, List.cons_append, List.nil_append, Nat.zero_add, Nat.reduceAdd, List.length_map] at hI ⊢
  rw [hI]
  refine ⟨fun h w' hr => ⟨by rw [if_pos (show idB p = true ∧ ¬ (1 ≤ p.id ∧ p.id ≤ 65535) by simpa only [Bool.and_eq_true, Bool.not_eq_true', decide_eq_false_iff_not] using h)], hr.mod⟩, fun h => ?_⟩
  rw [if_neg (show ¬ (idB p = true ∧ ¬ (1 ≤ p.id ∧ p.id ≤ 65535)) by simpa only [Bool.and_eq_true, Bool.not_eq_true', decide_eq_false_iff_not] using h)]
  clear h
  refine ⟨fun vs => ¬ ((p.kind = 8 ∨ p.kind = 10) ∧ countE p.asks.length ≠ 0), ⟨fun h8 => ⟨fun h w' hr => ⟨?_, hr.mod⟩, fun h => ⟨fun h2 w' hr => ⟨?_, hr.mod⟩, fun h2 => ?_⟩⟩, fun h8 hh => h8 hh.1⟩, ?_⟩
  · have e : countE p.asks.length = 1 := by rw [countE, if_pos (by omega)]
    rw [if_pos ⟨h8, by rw [e]; decide⟩, e]
  · have e : countE p.asks.length = 2 := by rw [countE, if_neg (by omega), if_pos h2]
    rw [if_pos ⟨h8, by rw [e]; decide⟩, e]
  · exact fun hh => hh.2 (by rw [countE, if_neg (by omega), if_neg h2])
  intro vs hl hI
  match vs, hl, hI with
  | [q0], _, hI =>
  simp only [Tree.goal, X.P, X.ev, V.toI_i, V.toB_b, V.toS_s, V.toR_r, V.toV_v, V.toN_n, V.toL_l, SV.ev, CV.ev, Sc.ev, List.getD_cons_zero, List.getD_cons_succ, List.getElem?_cons_zero, List.getElem?_cons_succ, List.map_cons, List.map_nil, List.length_cons, List.length_nil, List.cons_append, List.nil_append, Nat.zero_add, Nat.reduceAdd, List.length_map]
  rw [if_neg hI]
  refine ⟨fun vs => ∃ (i : Nat) (x : V), vs = [x, .i i] ∧ i ≤ p.asks.length ∧ asksL p.kind (p.asks.drop i) = asksL p.kind p.asks, fun vs => p.asks.length - (vs.getD 1 (.i 0)).toI.toNat, ⟨0, _, rfl, by omega, rfl⟩, ?_⟩
  rintro _ - ⟨i, x, rfl, hi, hg⟩
  simp only [Tree.goal, X.P, X.ev, V.toI_i, V.toB_b, V.toS_s, V.toR_r, V.toV_v, V.toN_n, V.toL_l, SV.ev, CV.ev, Sc.ev, List.getD_cons_zero, List.getD_cons_succ, List.getElem?_cons_zero, List.getElem?_cons_succ, List.map_cons, List.map_nil, List.length_cons, List.length_nil, List.cons_append, List.nil_append, Nat.zero_add, Nat.reduceAdd, List.length_map, Int.toNat_natCast, gA0, gA1]
  refine ⟨fun h2 => ⟨by omega, ?_⟩, fun h2 => ?_⟩
  · rw [dropA _ _ (by omega), asksL] at hg
    have hfi := hf i
    have hask : p.kind = 8 ∨ p.kind = 10 := Classical.byContradiction fun hn => by
      have := ((bare_iff p).1 ((empty_iff p).1 he)).2.2.2.2.1 (by omega)
      rw [this] at h2; simp at h2; omega
    generalize p.asks.getD i aD = a at hg hfi ⊢
    refine ⟨[.i (chkT a.1 true)], rfl, fun _ w' _ => c_CheckTopic w' _ _ (by omega), ?_⟩
    simp only [Tree.goal, X.P, X.ev, V.toI_i, V.toB_b, V.toS_s, V.toR_r, V.toV_v, V.toN_n, V.toL_l, SV.ev, CV.ev, Sc.ev, List.getD_cons_zero, List.getD_cons_succ, List.getElem?_cons_zero, List.getElem?_cons_succ, List.map_cons, List.map_nil, List.length_cons, List.length_nil, List.cons_append, List.nil_append, Nat.zero_add, Nat.reduceAdd, gA1]
    have key : ∀ e : Int, e ≠ 0 → (if p.kind = 8 then askE a else noaskE a) = e → (if asksL p.kind p.asks ≠ 0 then asksL p.kind p.asks else if p.kind = 9 ∧ countE p.codes.length ≠ 0 then countE p.codes.length else if p.codes.any codeB = true then 3 else 0) = e := fun e h0 hE => by
      have : asksL p.kind p.asks = e := by rw [← hg, if_neg (by rw [hE]; exact h0), hE]
      rw [if_pos (show asksL p.kind p.asks ≠ 0 by rw [this]; exact h0), this]
    refine ⟨fun h w' hr => ⟨?_, hr.mod⟩, fun h => ⟨fun h3 w' hr => ⟨?_, hr.mod⟩, fun h3 => ⟨fun h4 w' hr => ⟨?_, hr.mod⟩, fun h4 => ⟨by omega, by omega, ⟨i + 1, x, rfl, by omega, ?_⟩, by omega⟩⟩⟩⟩
    · rw [key (chkT a.1 true) h (by split <;> simp [askE, noaskE, h])]
    · rw [key 1 (by decide) (by rw [if_neg (by omega), noaskE, if_pos (Classical.not_not.1 h), if_neg h3.2])]
    · rw [key 3 (by decide) (by rw [if_pos (by omega), askE, if_pos (Classical.not_not.1 h), if_neg h4])]
    · rw [← hg, if_pos]
      split
      · rw [askE, if_pos (Classical.not_not.1 h), if_pos (Classical.not_not.1 h4)]
      · rw [noaskE, if_pos (Classical.not_not.1 h), if_pos (by omega)]
  · have : i = p.asks.length := by omega
    subst this
    rw [List.drop_length] at hg
    have hg0 : asksL p.kind p.asks = 0 := by rw [← hg]; rfl
    rw [if_neg (show ¬ asksL p.kind p.asks ≠ 0 from fun h => h hg0)]
    refine ⟨fun vs => ¬ (p.kind = 9 ∧ countE p.codes.length ≠ 0), ⟨fun h9 => ⟨fun h w' hr => ⟨?_, hr.mod⟩, fun h => ⟨fun h2 w' hr => ⟨?_, hr.mod⟩, fun h2 => ?_⟩⟩, fun h9 hh => h9 hh.1⟩, ?_⟩
    · have e : countE p.codes.length = 1 := by rw [countE, if_pos (by omega)]
      rw [if_pos (show p.kind = 9 ∧ countE p.codes.length ≠ 0 from ⟨h9, by rw [e]; decide⟩), e]
    · have e : countE p.codes.length = 2 := by rw [countE, if_neg (by omega), if_pos h2]
      rw [if_pos (show p.kind = 9 ∧ countE p.codes.length ≠ 0 from ⟨h9, by rw [e]; decide⟩), e]
    · exact fun hh => hh.2 (by rw [countE, if_neg (by omega), if_neg h2])
    intro vs hl hI
    match vs, hl, hI with
    | [r0], _, hI =>
    simp only [Tree.goal, X.P, X.ev, V.toI_i, V.toB_b, V.toS_s, V.toR_r, V.toV_v, V.toN_n, V.toL_l, SV.ev, CV.ev, Sc.ev, List.getD_cons_zero, List.getD_cons_succ, List.getElem?_cons_zero, List.getElem?_cons_succ, List.map_cons, List.map_nil, List.length_cons, List.length_nil, List.cons_append, List.nil_append, Nat.zero_add, Nat.reduceAdd, List.length_map]
    rw [if_neg hI]
    refine ⟨fun vs => ∃ (i : Nat) (x : V), vs = [x, .i i] ∧ i ≤ p.codes.length ∧ (p.codes.drop i).any codeB = p.codes.any codeB, fun vs => p.codes.length - (vs.getD 1 (.i 0)).toI.toNat, ⟨0, _, rfl, by omega, rfl⟩, ?_⟩
    rintro _ - ⟨i, x, rfl, hi, hg⟩
    simp only [Tree.goal, X.P, X.ev, V.toI_i, V.toB_b, V.toS_s, V.toR_r, V.toV_v, V.toN_n, V.toL_l, SV.ev, CV.ev, Sc.ev, List.getD_cons_zero, List.getD_cons_succ, List.getElem?_cons_zero, List.getElem?_cons_succ, List.map_cons, List.map_nil, List.length_cons, List.length_nil, List.cons_append, List.nil_append, Nat.zero_add, Nat.reduceAdd, List.length_map, Int.toNat_natCast, gI0]
    refine ⟨fun h2 => ⟨by omega, fun h3 w' hr => ⟨?_, hr.mod⟩, fun h3 => ⟨by omega, by omega, ⟨i + 1, x, rfl, by omega, ?_⟩, by omega⟩⟩, fun h2 w' hr => ⟨?_, hr.mod⟩⟩
    · rw [dropI _ _ (by omega), List.any_cons] at hg
      have e : codeB (p.codes.getD i 0) = true := by simp only [codeB, decide_eq_true_eq]; exact ⟨h3.1.1, h3.1.2, h3.2⟩
      rw [← hg, e]; rfl
    · rw [dropI _ _ (by omega), List.any_cons] at hg
      have e : codeB (p.codes.getD i 0) = false := by
        simp only [codeB, decide_eq_false_iff_not]; exact fun h4 => h3 ⟨⟨h4.1, h4.2.1⟩, h4.2.2⟩
      rw [← hg, e]; rfl
    · have : i = p.codes.length := by omega
      subst this
      rw [List.drop_length] at hg
      rw [← hg]; rfl
end
end Go.Proofs.YtliedecinehijaaGreatDoor

/-
  Packets: the reference's bytes, walked. By an AI agent.
-/
set_option linter.unusedSimpArgs false
set_option linter.unusedVariables false
namespace Go.Proofs.YtliedecinehijaaGreatDoor
open Go.Sx
section
variable {p : Pkt} (hb : bareP p = pD p.kind)
include hb
theorem body_asks (k : p.kind = 8 ∨ p.kind = 10) : bodyB p = numB 2 p.id ++ (p.asks.map (askB p.kind)).flatten := by
  obtain ⟨b1, b2, b3, b4, b5, b6⟩ := (bare_iff p).1 hb
  have hi : idB p = true := by simp only [idB, decide_eq_true_eq]; omega
  rw [bodyB, headB, if_neg (by omega), if_neg (by omega), if_neg (by omega), if_pos hi, (b3 (by omega)).2.2.2.2, b6 (by omega)]
  simp
theorem body_codes (k : p.kind = 9) : bodyB p = numB 2 p.id ++ (p.codes.map (numB 1)).flatten := by
  obtain ⟨b1, b2, b3, b4, b5, b6⟩ := (bare_iff p).1 hb
  have hi : idB p = true := by simp only [idB, decide_eq_true_eq]; omega
  rw [bodyB, headB, if_neg (by omega), if_neg (by omega), if_neg (by omega), if_pos hi, (b3 (by omega)).2.2.2.2, b5 (by omega)]
  simp
theorem body_id (k : p.kind = 4 ∨ p.kind = 11) : bodyB p = numB 2 p.id := by
  obtain ⟨b1, b2, b3, b4, b5, b6⟩ := (bare_iff p).1 hb
  have hi : idB p = true := by simp only [idB, decide_eq_true_eq]; omega
  rw [bodyB, headB, if_neg (by omega), if_neg (by omega), if_neg (by omega), if_pos hi, (b3 (by omega)).2.2.2.2, b5 (by omega), b6 (by omega)]
  simp
theorem body_none (k : ¬ (1 ≤ p.kind ∧ p.kind ≤ 4) ∧ ¬ (8 ≤ p.kind ∧ p.kind ≤ 11)) : bodyB p = [] := by
  obtain ⟨b1, b2, b3, b4, b5, b6⟩ := (bare_iff p).1 hb
  have hi : idB p = false := by simp only [idB, decide_eq_false_iff_not]; omega
  rw [bodyB, headB, if_neg (by omega), if_neg (by omega), if_neg (by omega), hi, (b3 (by omega)).2.2.2.2, b5 (by omega), b6 (by omega)]
  simp
theorem body_conn (k : p.kind = 1) : bodyB p = txtB [77, 81, 84, 84] ++ (numB 1 4 ++ numB 1 (bit p.clean 2)) ++ numB 2 p.keep ++ txtB p.client := by
  obtain ⟨b1, b2, b3, b4, b5, b6⟩ := (bare_iff p).1 hb
  have hi : idB p = false := by simp only [idB, decide_eq_false_iff_not]; omega
  rw [bodyB, headB, if_pos k, hi, (b3 (by omega)).2.2.2.2, b5 (by omega), b6 (by omega)]
  simp
theorem body_ack (k : p.kind = 2) : bodyB p = numB 1 (bit p.session 1) ++ numB 1 p.code := by
  obtain ⟨b1, b2, b3, b4, b5, b6⟩ := (bare_iff p).1 hb
  have hi : idB p = false := by simp only [idB, decide_eq_false_iff_not]; omega
  rw [bodyB, headB, if_neg (by omega), if_pos k, hi, (b3 (by omega)).2.2.2.2, b5 (by omega), b6 (by omega)]
  simp
theorem body_pub (k : p.kind = 3) : bodyB p = txtB p.topic ++ (if p.qos = 1 then numB 2 p.id else []) ++ p.payload := by
  obtain ⟨b1, b2, b3, b4, b5, b6⟩ := (bare_iff p).1 hb
  have hi : (idB p = true) ↔ p.qos = 1 := by simp only [idB, decide_eq_true_eq]; omega
  rw [bodyB, headB, if_neg (by omega), if_neg (by omega), if_pos k, b5 (by omega), b6 (by omega)]
  simp [hi]
end
theorem asks_take {k : Int} {l : List Ak} {i : Nat} (h : i < l.length) : ((l.take (i + 1)).map (askB k)).flatten = ((l.take i).map (askB k)).flatten ++ askB k (l.getD i aD) := by
  rw [List.take_add_one, List.getD_eq_getElem?_getD, List.getElem?_eq_getElem h]
  simp only [Option.toList_some, Option.getD_some, List.map_append, List.map_cons, List.map_nil, List.flatten_append, List.flatten_cons, List.flatten_nil, List.append_nil]
theorem asks_take_len (k : Int) (l : List Ak) (i : Nat) : ((l.take i).map (askB k)).flatten.length ≤ totA k l := by
  conv => rhs; unfold totA; rw [← List.take_append_drop i l, List.map_append, List.flatten_append, List.length_append]
  omega
section
variable (w : World) (p : Pkt) (u v : Value) (hu : readsA w u p.asks) (hv : readsI w v p.codes) (hB : ByteP p) (hb : bareP p = pD p.kind)
include hu hv hB hb
set_option maxHeartbeats 1000000 in
theorem c_RPacketBytes : Calls Tryz.prog 10 #[pV p u v] w fun e w' => e = .returned (.string ⟨(bytesP p).toArray⟩) ∧ Mod [] w w' := by
  refine as_called (run_tree2 (ρ := [.i p.kind, .b p.dup, .b p.retain, .b p.clean, .b p.session, .i p.qos, .i p.id, .i p.keep, .i p.code, .s p.client, .s p.topic, .s p.payload, .v u, .r (p.asks.map encA), .v v, .r (p.codes.map encI)]) (sxE_ok.joins _) Tryz.func10 tree_dragomanref_PacketBytes rfl rfl (Rel.start2 (by simp [Ent.holds, Ent.wr, hu, hv, X.ev])) rfl rfl ?_) rfl
  have hs := hB.small
  have h1 := hs.client; have h2 := hs.topic; have h3 := hs.payload; have h4 := hs.asks; have h5 := hs.codes
  have hk := hB.kind; have hq := hB.qos; have hid := hB.id; have hke := hB.keep; have hco := hB.code
  have hbl := hB.body
  have b2 : ∀ b : Bool, 0 ≤ bit b 2 ∧ bit b 2 ≤ 2 := fun b => by unfold bit; split <;> omega
  have b1 : ∀ b : Bool, 0 ≤ bit b 1 ∧ bit b 1 ≤ 1 := fun b => by unfold bit; split <;> omega
  have b8 : ∀ b : Bool, 0 ≤ bit b 8 ∧ bit b 8 ≤ 8 := fun b => by unfold bit; split <;> omega
  simp only [Tree.goal, X.P, X.ev, V.toI_i, V.toB_b, V.toS_s, V.toR_r, V.toV_v, V.toN_n, V.toL_l, SV.ev, CV.ev, Sc.ev, List.getD_cons_zero, List.getD_cons_succ, List.getElem?_cons_zero, List.getElem?_cons_succ, List.map_cons, List.map_nil, List.length_cons, List.length_nil, List.cons_append, List.nil_append, Nat.zero_add, Nat.reduceAdd, List.length_map]
  intro b0
  (repeat refine ⟨by omega, ?_⟩)
  refine ⟨fun vs => vs = [.i (firstB p), .s (bodyB p)], ⟨fun k1 => ?_, fun k1 => ⟨fun k2 => ?_, fun k2 => ⟨fun k3 => ?_, fun k3 => ⟨fun k4 => ?_, fun k4 => ⟨fun k11 => ?_, fun k11 => ⟨fun k8 => ?_, fun k8 => ⟨fun k10 => ?_, fun k10 => ⟨fun k9 => ?_, fun k9 => ?_⟩⟩⟩⟩⟩⟩⟩⟩, ?_⟩
  · have hf : firstB p = 16 * p.kind := by rw [firstB, if_neg (by omega), if_neg (by omega)]; omega
    refine ⟨[.s (txtB [77, 81, 84, 84])], rfl, fun _ w' _ => c_TextOf w' _ (by decide), ?_⟩
    simp only [Tree.goal, X.P, X.ev, V.toI_i, V.toB_b, V.toS_s, V.toR_r, V.toV_v, V.toN_n, V.toL_l, SV.ev, CV.ev, Sc.ev, List.getD_cons_zero, List.getD_cons_succ, List.getElem?_cons_zero, List.getElem?_cons_succ, List.map_cons, List.map_nil, List.length_cons, List.length_nil, List.cons_append, List.nil_append, Nat.zero_add, Nat.reduceAdd]
    refine ⟨[.s (numB 1 4)], rfl, fun _ w' _ => c_NumberOf w' 4 1 (by omega) (by omega) (by omega), ?_⟩
    simp only [Tree.goal, X.P, X.ev, V.toI_i, V.toB_b, V.toS_s, V.toR_r, V.toV_v, V.toN_n, V.toL_l, SV.ev, CV.ev, Sc.ev, List.getD_cons_zero, List.getD_cons_succ, List.getElem?_cons_zero, List.getElem?_cons_succ, List.map_cons, List.map_nil, List.length_cons, List.length_nil, List.cons_append, List.nil_append, Nat.zero_add, Nat.reduceAdd, txtB_len, numB_len, List.length_append]
    (repeat refine ⟨by omega, ?_⟩)
    refine ⟨[.i (bit p.clean 2)], rfl, fun _ w' _ => c_flag w' _ _, ?_⟩
    simp only [Tree.goal, X.P, X.ev, V.toI_i, V.toB_b, V.toS_s, V.toR_r, V.toV_v, V.toN_n, V.toL_l, SV.ev, CV.ev, Sc.ev, List.getD_cons_zero, List.getD_cons_succ, List.getElem?_cons_zero, List.getElem?_cons_succ, List.map_cons, List.map_nil, List.length_cons, List.length_nil, List.cons_append, List.nil_append, Nat.zero_add, Nat.reduceAdd, txtB_len, numB_len, List.length_append]
    have := b2 p.clean
    refine ⟨[.s (numB 1 (bit p.clean 2))], rfl, fun _ w' _ => c_NumberOf w' _ 1 (by omega) (by omega) (by omega), ?_⟩
    simp only [Tree.goal, X.P, X.ev, V.toI_i, V.toB_b, V.toS_s, V.toR_r, V.toV_v, V.toN_n, V.toL_l, SV.ev, CV.ev, Sc.ev, List.getD_cons_zero, List.getD_cons_succ, List.getElem?_cons_zero, List.getElem?_cons_succ, List.map_cons, List.map_nil, List.length_cons, List.length_nil, List.cons_append, List.nil_append, Nat.zero_add, Nat.reduceAdd, txtB_len, numB_len, List.length_append]
    (repeat refine ⟨by omega, ?_⟩)
    refine ⟨[.s (numB 2 p.keep)], rfl, fun _ w' _ => c_NumberOf w' _ 2 (by omega) (by omega) (by omega), ?_⟩
    simp only [Tree.goal, X.P, X.ev, V.toI_i, V.toB_b, V.toS_s, V.toR_r, V.toV_v, V.toN_n, V.toL_l, SV.ev, CV.ev, Sc.ev, List.getD_cons_zero, List.getD_cons_succ, List.getElem?_cons_zero, List.getElem?_cons_succ, List.map_cons, List.map_nil, List.length_cons, List.length_nil, List.cons_append, List.nil_append, Nat.zero_add, Nat.reduceAdd, txtB_len, numB_len, List.length_append]
    (repeat refine ⟨by omega, ?_⟩)
    refine ⟨[.s (txtB p.client)], rfl, fun _ w' _ => c_TextOf w' _ (by omega), ?_⟩
    simp only [Tree.goal, X.P, X.ev, V.toI_i, V.toB_b, V.toS_s, V.toR_r, V.toV_v, V.toN_n, V.toL_l, SV.ev, CV.ev, Sc.ev, List.getD_cons_zero, List.getD_cons_succ, List.getElem?_cons_zero, List.getElem?_cons_succ, List.map_cons, List.map_nil, List.length_cons, List.length_nil, List.cons_append, List.nil_append, Nat.zero_add, Nat.reduceAdd, txtB_len, numB_len, List.length_append]
    refine ⟨by omega, ?_⟩
    rw [hf, body_conn hb k1]
    simp
  · have hf : firstB p = 16 * p.kind := by rw [firstB, if_neg (by omega), if_neg (by omega)]; omega
    have := b1 p.session
    refine ⟨[.i (bit p.session 1)], rfl, fun _ w' _ => c_flag w' _ _, ?_⟩
    simp only [Tree.goal, X.P, X.ev, V.toI_i, V.toB_b, V.toS_s, V.toR_r, V.toV_v, V.toN_n, V.toL_l, SV.ev, CV.ev, Sc.ev, List.getD_cons_zero, List.getD_cons_succ, List.getElem?_cons_zero, List.getElem?_cons_succ, List.map_cons, List.map_nil, List.length_cons, List.length_nil, List.cons_append, List.nil_append, Nat.zero_add, Nat.reduceAdd]
    refine ⟨[.s (numB 1 (bit p.session 1))], rfl, fun _ w' _ => c_NumberOf w' _ 1 (by omega) (by omega) (by omega), ?_⟩
    simp only [Tree.goal, X.P, X.ev, V.toI_i, V.toB_b, V.toS_s, V.toR_r, V.toV_v, V.toN_n, V.toL_l, SV.ev, CV.ev, Sc.ev, List.getD_cons_zero, List.getD_cons_succ, List.getElem?_cons_zero, List.getElem?_cons_succ, List.map_cons, List.map_nil, List.length_cons, List.length_nil, List.cons_append, List.nil_append, Nat.zero_add, Nat.reduceAdd]
    refine ⟨[.s (numB 1 p.code)], rfl, fun _ w' _ => c_NumberOf w' _ 1 (by omega) (by omega) (by omega), ?_⟩
    simp only [Tree.goal, X.P, X.ev, V.toI_i, V.toB_b, V.toS_s, V.toR_r, V.toV_v, V.toN_n, V.toL_l, SV.ev, CV.ev, Sc.ev, List.getD_cons_zero, List.getD_cons_succ, List.getElem?_cons_zero, List.getElem?_cons_succ, List.map_cons, List.map_nil, List.length_cons, List.length_nil, List.cons_append, List.nil_append, Nat.zero_add, Nat.reduceAdd, numB_len]
    refine ⟨by omega, ?_⟩
    rw [hf, body_ack hb k2]
  · (repeat refine ⟨by omega, ?_⟩)
    have := b8 p.dup; have := b1 p.retain
    refine ⟨[.i (bit p.dup 8)], rfl, fun _ w' _ => c_flag w' _ _, ?_⟩
    simp only [Tree.goal, X.P, X.ev, V.toI_i, V.toB_b, V.toS_s, V.toR_r, V.toV_v, V.toN_n, V.toL_l, SV.ev, CV.ev, Sc.ev, List.getD_cons_zero, List.getD_cons_succ, List.getElem?_cons_zero, List.getElem?_cons_succ, List.map_cons, List.map_nil, List.length_cons, List.length_nil, List.cons_append, List.nil_append, Nat.zero_add, Nat.reduceAdd]
    (repeat refine ⟨by omega, ?_⟩)
    refine ⟨[.i (bit p.retain 1)], rfl, fun _ w' _ => c_flag w' _ _, ?_⟩
    simp only [Tree.goal, X.P, X.ev, V.toI_i, V.toB_b, V.toS_s, V.toR_r, V.toV_v, V.toN_n, V.toL_l, SV.ev, CV.ev, Sc.ev, List.getD_cons_zero, List.getD_cons_succ, List.getElem?_cons_zero, List.getElem?_cons_succ, List.map_cons, List.map_nil, List.length_cons, List.length_nil, List.cons_append, List.nil_append, Nat.zero_add, Nat.reduceAdd]
    (repeat refine ⟨by omega, ?_⟩)
    refine ⟨[.s (txtB p.topic)], rfl, fun _ w' _ => c_TextOf w' _ (by omega), ?_⟩
    simp only [Tree.goal, X.P, X.ev, V.toI_i, V.toB_b, V.toS_s, V.toR_r, V.toV_v, V.toN_n, V.toL_l, SV.ev, CV.ev, Sc.ev, List.getD_cons_zero, List.getD_cons_succ, List.getElem?_cons_zero, List.getElem?_cons_succ, List.map_cons, List.map_nil, List.length_cons, List.length_nil, List.cons_append, List.nil_append, Nat.zero_add, Nat.reduceAdd, txtB_len, List.length_append]
    rw [body_pub hb k3, firstB, if_pos k3]
    refine ⟨fun hq1 => ?_, fun hq1 => ⟨by omega, ?_⟩⟩
    · refine ⟨[.s (numB 2 p.id)], rfl, fun _ w' _ => c_NumberOf w' _ 2 (by omega) (by omega) (by omega), ?_⟩
      simp only [Tree.goal, X.P, X.ev, V.toI_i, V.toB_b, V.toS_s, V.toR_r, V.toV_v, V.toN_n, V.toL_l, SV.ev, CV.ev, Sc.ev, List.getD_cons_zero, List.getD_cons_succ, List.getElem?_cons_zero, List.getElem?_cons_succ, List.map_cons, List.map_nil, List.length_cons, List.length_nil, List.cons_append, List.nil_append, Nat.zero_add, Nat.reduceAdd, txtB_len, numB_len, List.length_append]
      refine ⟨by omega, by omega, ?_⟩
      rw [if_pos hq1]
    · rw [if_neg hq1, List.append_nil]
  · have hf : firstB p = 16 * p.kind := by rw [firstB, if_neg (by omega), if_neg (by omega)]; omega
    refine ⟨[.s (numB 2 p.id)], rfl, fun _ w' _ => c_NumberOf w' _ 2 (by omega) (by omega) (by omega), ?_⟩
    simp only [Tree.goal, X.P, X.ev, V.toI_i, V.toB_b, V.toS_s, V.toR_r, V.toV_v, V.toN_n, V.toL_l, SV.ev, CV.ev, Sc.ev, List.getD_cons_zero, List.getD_cons_succ, List.getElem?_cons_zero, List.getElem?_cons_succ, List.map_cons, List.map_nil, List.length_cons, List.length_nil, List.cons_append, List.nil_append, Nat.zero_add, Nat.reduceAdd]
    rw [hf, body_id hb (.inl k4)]
  · have hf : firstB p = 16 * p.kind := by rw [firstB, if_neg (by omega), if_neg (by omega)]; omega
    refine ⟨[.s (numB 2 p.id)], rfl, fun _ w' _ => c_NumberOf w' _ 2 (by omega) (by omega) (by omega), ?_⟩
    simp only [Tree.goal, X.P, X.ev, V.toI_i, V.toB_b, V.toS_s, V.toR_r, V.toV_v, V.toN_n, V.toL_l, SV.ev, CV.ev, Sc.ev, List.getD_cons_zero, List.getD_cons_succ, List.getElem?_cons_zero, List.getElem?_cons_succ, List.map_cons, List.map_nil, List.length_cons, List.length_nil, List.cons_append, List.nil_append, Nat.zero_add, Nat.reduceAdd]
    rw [hf, body_id hb (.inr k11)]
  · have hf : firstB p = 16 * p.kind + 2 := by rw [firstB, if_neg (by omega), if_pos (by omega)]
    have hbb := body_asks hb (.inl k8)
    (repeat refine ⟨by omega, ?_⟩)
    refine ⟨[.s (numB 2 p.id)], rfl, fun _ w' _ => c_NumberOf w' _ 2 (by omega) (by omega) (by omega), ?_⟩
    simp only [Tree.goal, X.P, X.ev, V.toI_i, V.toB_b, V.toS_s, V.toR_r, V.toV_v, V.toN_n, V.toL_l, SV.ev, CV.ev, Sc.ev, List.getD_cons_zero, List.getD_cons_succ, List.getElem?_cons_zero, List.getElem?_cons_succ, List.map_cons, List.map_nil, List.length_cons, List.length_nil, List.cons_append, List.nil_append, Nat.zero_add, Nat.reduceAdd]
    refine ⟨fun vs => ∃ i : Nat, vs = [.s (numB 2 p.id ++ ((p.asks.take i).map (askB p.kind)).flatten), .i i] ∧ i ≤ p.asks.length, fun vs => p.asks.length - (vs.getD 1 (.i 0)).toI.toNat, ⟨0, by simp, by omega⟩, ?_⟩
    rintro _ - ⟨i, rfl, hi⟩
    have hfi := hs.at_ i
    have hqi := hB.ask i
    have htl := asks_take_len p.kind p.asks i
    have hbb2 : (bodyB p).length = 2 + totA p.kind p.asks := by rw [hbb, List.length_append, numB_len]
    simp only [Tree.goal, X.P, X.ev, V.toI_i, V.toB_b, V.toS_s, V.toR_r, V.toV_v, V.toN_n, V.toL_l, SV.ev, CV.ev, Sc.ev, List.getD_cons_zero, List.getD_cons_succ, List.getElem?_cons_zero, List.getElem?_cons_succ, List.map_cons, List.map_nil, List.length_cons, List.length_nil, List.cons_append, List.nil_append, Nat.zero_add, Nat.reduceAdd, List.length_map, Int.toNat_natCast, gA0, gA1, List.length_append, numB_len]
    refine ⟨fun h => ⟨by omega, ?_⟩, fun h => ?_⟩
    · refine ⟨[.s (txtB (p.asks.getD i aD).1)], rfl, fun _ w' _ => c_TextOf w' _ (by omega), ?_⟩
      simp only [Tree.goal, X.P, X.ev, V.toI_i, V.toB_b, V.toS_s, V.toR_r, V.toV_v, V.toN_n, V.toL_l, SV.ev, CV.ev, Sc.ev, List.getD_cons_zero, List.getD_cons_succ, List.getElem?_cons_zero, List.getElem?_cons_succ, List.map_cons, List.map_nil, List.length_cons, List.length_nil, List.cons_append, List.nil_append, Nat.zero_add, Nat.reduceAdd, List.length_map, Int.toNat_natCast, gA0, gA1, List.length_append, numB_len, txtB_len]
      refine ⟨by omega, ?_⟩
      refine ⟨[.s (numB 1 (p.asks.getD i aD).2)], rfl, fun _ w' _ => c_NumberOf w' _ 1 (by omega) (by omega) (by omega), ?_⟩
      simp only [Tree.goal, X.P, X.ev, V.toI_i, V.toB_b, V.toS_s, V.toR_r, V.toV_v, V.toN_n, V.toL_l, SV.ev, CV.ev, Sc.ev, List.getD_cons_zero, List.getD_cons_succ, List.getElem?_cons_zero, List.getElem?_cons_succ, List.map_cons, List.map_nil, List.length_cons, List.length_nil, List.cons_append, List.nil_append, Nat.zero_add, Nat.reduceAdd, List.length_map, Int.toNat_natCast, List.length_append, numB_len, txtB_len]
      refine ⟨by omega, by omega, by omega, ⟨i + 1, ?_, by omega⟩, by omega⟩
      rw [asks_take (by omega), askB, if_pos k8]
      simp
    · have : i = p.asks.length := by omega
      subst this
      rw [hf, hbb, List.take_length]
  · have hf : firstB p = 16 * p.kind + 2 := by rw [firstB, if_neg (by omega), if_pos (by omega)]
    have hbb := body_asks hb (.inr k10)
    (repeat refine ⟨by omega, ?_⟩)
    refine ⟨[.s (numB 2 p.id)], rfl, fun _ w' _ => c_NumberOf w' _ 2 (by omega) (by omega) (by omega), ?_⟩
    simp only [Tree.goal, X.P, X.ev, V.toI_i, V.toB_b, V.toS_s, V.toR_r, V.toV_v, V.toN_n, V.toL_l, SV.ev, CV.ev, Sc.ev, List.getD_cons_zero, List.getD_cons_succ, List.getElem?_cons_zero, List.getElem?_cons_succ, List.map_cons, List.map_nil, List.length_cons, List.length_nil, List.cons_append, List.nil_append, Nat.zero_add, Nat.reduceAdd]
    refine ⟨fun vs => ∃ i : Nat, vs = [.s (numB 2 p.id ++ ((p.asks.take i).map (askB p.kind)).flatten), .i i] ∧ i ≤ p.asks.length, fun vs => p.asks.length - (vs.getD 1 (.i 0)).toI.toNat, ⟨0, by simp, by omega⟩, ?_⟩
    rintro _ - ⟨i, rfl, hi⟩
    have hfi := hs.at_ i
    have hqi := hB.ask i
    have htl := asks_take_len p.kind p.asks i
    have hbb2 : (bodyB p).length = 2 + totA p.kind p.asks := by rw [hbb, List.length_append, numB_len]
    simp only [Tree.goal, X.P, X.ev, V.toI_i, V.toB_b, V.toS_s, V.toR_r, V.toV_v, V.toN_n, V.toL_l, SV.ev, CV.ev, Sc.ev, List.getD_cons_zero, List.getD_cons_succ, List.getElem?_cons_zero, List.getElem?_cons_succ, List.map_cons, List.map_nil, List.length_cons, List.length_nil, List.cons_append, List.nil_append, Nat.zero_add, Nat.reduceAdd, List.length_map, Int.toNat_natCast, gA0, gA1, List.length_append, numB_len]
    refine ⟨fun h => ⟨by omega, ?_⟩, fun h => ?_⟩
    · refine ⟨[.s (txtB (p.asks.getD i aD).1)], rfl, fun _ w' _ => c_TextOf w' _ (by omega), ?_⟩
      simp only [Tree.goal, X.P, X.ev, V.toI_i, V.toB_b, V.toS_s, V.toR_r, V.toV_v, V.toN_n, V.toL_l, SV.ev, CV.ev, Sc.ev, List.getD_cons_zero, List.getD_cons_succ, List.getElem?_cons_zero, List.getElem?_cons_succ, List.map_cons, List.map_nil, List.length_cons, List.length_nil, List.cons_append, List.nil_append, Nat.zero_add, Nat.reduceAdd, List.length_map, Int.toNat_natCast, gA0, gA1, List.length_append, numB_len, txtB_len]
      refine ⟨by omega, by omega, by omega, ⟨i + 1, ?_, by omega⟩, by omega⟩
      rw [asks_take (by omega), askB, if_neg (by omega)]
      simp
    · have : i = p.asks.length := by omega
      subst this
      rw [hf, hbb, List.take_length]
  · have hf : firstB p = 16 * p.kind := by rw [firstB, if_neg (by omega), if_neg (by omega)]; omega
    have hbb := body_codes hb k9
    refine ⟨[.s (numB 2 p.id)], rfl, fun _ w' _ => c_NumberOf w' _ 2 (by omega) (by omega) (by omega), ?_⟩
    simp only [Tree.goal, X.P, X.ev, V.toI_i, V.toB_b, V.toS_s, V.toR_r, V.toV_v, V.toN_n, V.toL_l, SV.ev, CV.ev, Sc.ev, List.getD_cons_zero, List.getD_cons_succ, List.getElem?_cons_zero, List.getElem?_cons_succ, List.map_cons, List.map_nil, List.length_cons, List.length_nil, List.cons_append, List.nil_append, Nat.zero_add, Nat.reduceAdd]
    refine ⟨fun vs => ∃ i : Nat, vs = [.s (numB 2 p.id ++ ((p.codes.take i).map (numB 1)).flatten), .i i] ∧ i ≤ p.codes.length, fun vs => p.codes.length - (vs.getD 1 (.i 0)).toI.toNat, ⟨0, by simp, by omega⟩, ?_⟩
    rintro _ - ⟨i, rfl, hi⟩
    have hll := flat_lenN 1 (p.codes.take i)
    have hlt : (p.codes.take i).length ≤ p.codes.length := by simp; omega
    simp only [Tree.goal, X.P, X.ev, V.toI_i, V.toB_b, V.toS_s, V.toR_r, V.toV_v, V.toN_n, V.toL_l, SV.ev, CV.ev, Sc.ev, List.getD_cons_zero, List.getD_cons_succ, List.getElem?_cons_zero, List.getElem?_cons_succ, List.map_cons, List.map_nil, List.length_cons, List.length_nil, List.cons_append, List.nil_append, Nat.zero_add, Nat.reduceAdd, List.length_map, Int.toNat_natCast, gI0, List.length_append, numB_len]
    refine ⟨fun h => ⟨by omega, ?_⟩, fun h => ?_⟩
    · have hci : 0 ≤ p.codes.getD i 0 ∧ p.codes.getD i 0 ≤ 65535 := by
        rw [List.getD_eq_getElem?_getD, List.getElem?_eq_getElem (by omega)]; exact hB.codes _ (List.getElem_mem _)
      refine ⟨[.s (numB 1 (p.codes.getD i 0))], rfl, fun _ w' _ => c_NumberOf w' _ 1 (by omega) (by omega) (by omega), ?_⟩
      simp only [Tree.goal, X.P, X.ev, V.toI_i, V.toB_b, V.toS_s, V.toR_r, V.toV_v, V.toN_n, V.toL_l, SV.ev, CV.ev, Sc.ev, List.getD_cons_zero, List.getD_cons_succ, List.getElem?_cons_zero, List.getElem?_cons_succ, List.map_cons, List.map_nil, List.length_cons, List.length_nil, List.cons_append, List.nil_append, Nat.zero_add, Nat.reduceAdd, List.length_map, Int.toNat_natCast, List.length_append, numB_len]
      refine ⟨by omega, by omega, by omega, ⟨i + 1, ?_, by omega⟩, by omega⟩
      rw [flat_take 1 _ _ (by omega)]
      simp
    · have : i = p.codes.length := by omega
      subst this
      rw [hf, hbb, List.take_length]
  · have hf : firstB p = 16 * p.kind := by rw [firstB, if_neg (by omega), if_neg (by omega)]; omega
    rw [hf, body_none hb (by omega)]
  rintro _ - rfl
  have hfb := firstB_bd hk hq
  simp only [Tree.goal, X.P, X.ev, V.toI_i, V.toB_b, V.toS_s, V.toR_r, V.toV_v, V.toN_n, V.toL_l, SV.ev, CV.ev, Sc.ev, List.getD_cons_zero, List.getD_cons_succ, List.getElem?_cons_zero, List.getElem?_cons_succ, List.map_cons, List.map_nil, List.length_cons, List.length_nil, List.cons_append, List.nil_append, Nat.zero_add, Nat.reduceAdd]
  refine ⟨[.s (numB 1 (firstB p))], rfl, fun _ w' _ => c_NumberOf w' _ 1 (by omega) (by omega) (by omega), ?_⟩
  simp only [Tree.goal, X.P, X.ev, V.toI_i, V.toB_b, V.toS_s, V.toR_r, V.toV_v, V.toN_n, V.toL_l, SV.ev, CV.ev, Sc.ev, List.getD_cons_zero, List.getD_cons_succ, List.getElem?_cons_zero, List.getElem?_cons_succ, List.map_cons, List.map_nil, List.length_cons, List.length_nil, List.cons_append, List.nil_append, Nat.zero_add, Nat.reduceAdd]
  refine ⟨[.s (lngB 3 (bodyB p).length)], rfl, fun _ w' _ => c_LongOf 3 w' _ (by omega) (by show _ < 268435456; exact hbl), ?_⟩
  have hll : (lngB 3 (bodyB p).length).length ≤ 4 := lngB_len 3 _
  simp only [Tree.goal, X.P, X.ev, V.toI_i, V.toB_b, V.toS_s, V.toR_r, V.toV_v, V.toN_n, V.toL_l, SV.ev, CV.ev, Sc.ev, List.getD_cons_zero, List.getD_cons_succ, List.getElem?_cons_zero, List.getElem?_cons_succ, List.map_cons, List.map_nil, List.length_cons, List.length_nil, List.cons_append, List.nil_append, Nat.zero_add, Nat.reduceAdd, List.length_append, numB_len]
  exact ⟨by omega, by omega, fun w' hr => ⟨by rw [bytesP], hr.mod⟩⟩
end
end Go.Proofs.YtliedecinehijaaGreatDoor

/-
  Packets: the reference's taker; what is read of each kind. By an AI agent.
-/
set_option linter.unusedSimpArgs false
set_option linter.unusedVariables false
namespace Go.Proofs.YtliedecinehijaaGreatDoor
open Go.Sx
abbrev tkAt (w : World) (b : Nat) (s : List UInt8) (a : Nat) (sh : Bool) : Prop := w.heap[b]? = some (.cells (rdV s a sh).toArray 96 (0, 0))
section
variable (w : World) (b : Nat) (s : List UInt8) (a' a : Nat) (sh : Bool) (h : tkAt w b s a' sh) (ha' : a' ≤ s.length) (ha : a ≤ s.length) (hs : s.length < 1000000000) (hsim : sh = true ∨ a' = a)
include h
theorem rel_t {k : V} : Rel ⟨[b], w⟩ [.n b, .s s, .i a', .b sh, k] [.cells 0 96 [.str (.var 1), .int .i64 (.var 2), .bool (.var 3)]] w :=
  rel_of (List.forall_mem_cons.2 ⟨h, List.forall_mem_nil _⟩) (List.forall_mem_cons.2 ⟨fun _ k hk => by simp only [Ent.fp, Tree.goal, X.P, X.ev, V.toI_i, V.toB_b, V.toS_s, V.toR_r, V.toV_v, V.toN_n, V.toL_l, SV.ev, CV.ev, Sc.ev, List.getD_cons_zero, List.getD_cons_succ, List.getElem?_cons_zero, List.getElem?_cons_succ, List.map_cons, List.map_nil, List.length_cons, List.length_nil, List.cons_append, List.nil_append, Nat.zero_add, Nat.reduceAdd] at hk; simp [hk], List.forall_mem_nil _⟩) apart_one
theorem rel_t4 : Rel ⟨[b], w⟩ [.n b, .s s, .i a', .b sh] [.cells 0 96 [.str (.var 1), .int .i64 (.var 2), .bool (.var 3)]] w :=
  rel_of (List.forall_mem_cons.2 ⟨h, List.forall_mem_nil _⟩) (List.forall_mem_cons.2 ⟨fun _ k hk => by simp only [Ent.fp, Tree.goal, X.P, X.ev, V.toI_i, V.toB_b, V.toS_s, V.toR_r, V.toV_v, V.toN_n, V.toL_l, SV.ev, CV.ev, Sc.ev, List.getD_cons_zero, List.getD_cons_succ, List.getElem?_cons_zero, List.getElem?_cons_succ, List.map_cons, List.map_nil, List.length_cons, List.length_nil, List.cons_append, List.nil_append, Nat.zero_add, Nat.reduceAdd] at hk; simp [hk], List.forall_mem_nil _⟩) apart_one
include ha' ha hs hsim
theorem c_tnumber (k : Nat) (hk : 1 ≤ k ∧ k ≤ 4) : Calls Tryz.prog 58 #[.pointer (some ⟨b, 0, none⟩), .int .i64 k] w
    fun e w' => ∃ n a1, e = .returned (.int .i64 n) ∧ tkAt w' b s a1 (rdN s k a sh).2.2 ∧ a1 ≤ s.length ∧ ((rdN s k a sh).2.2 = true ∨ n = (rdN s k a sh).1 ∧ a1 = (rdN s k a sh).2.1) ∧ Mod [b] w w' := by
  refine as_called (run_tree2 (ρ := [.n b, .s s, .i a', .b sh, .i k]) sxE_ok Tryz.func58 tree_dragomanref_Taker_Number rfl rfl (rel_t w b s a' sh h) rfl rfl ?_) rfl
  simp only [Tree.goal, X.P, X.ev, V.toI_i, V.toB_b, V.toS_s, V.toR_r, V.toV_v, V.toN_n, V.toL_l, SV.ev, CV.ev, Sc.ev, List.getD_cons_zero, List.getD_cons_succ, List.getElem?_cons_zero, List.getElem?_cons_succ, List.map_cons, List.map_nil, List.length_cons, List.length_nil, List.cons_append, List.nil_append, Nat.zero_add, Nat.reduceAdd]
  refine ⟨[.i (getR s a' k).1, .i (getR s a' k).2], rfl, fun _ w' _ => c_GetOf w' s a' k (by omega), ?_⟩
  simp only [Tree.goal, X.P, X.ev, V.toI_i, V.toB_b, V.toS_s, V.toR_r, V.toV_v, V.toN_n, V.toL_l, SV.ev, CV.ev, Sc.ev, List.getD_cons_zero, List.getD_cons_succ, List.getElem?_cons_zero, List.getElem?_cons_succ, List.map_cons, List.map_nil, List.length_cons, List.length_nil, List.cons_append, List.nil_append, Nat.zero_add, Nat.reduceAdd]
  by_cases hsh : sh = true
  · subst hsh
    have e : (rdN s k a true).2.2 = true := (rdN_bd s k a true ha).2.2.2.2.1 rfl
    rw [e]
    exact ⟨fun _ w' hr => ⟨0, a', rfl, hr.at_ 0 rfl, ha', .inl rfl, hr.mod⟩, fun h => absurd (.inl rfl) h⟩
  · have hsh : sh = false := by simpa using hsh
    subst hsh
    obtain rfl : a' = a := hsim.resolve_left (by simp)
    by_cases hh : a' + k ≤ s.length
    · have e1 : getR s a' k = (((beN ((s.drop a').take k) 0 : Nat) : Int), 0) := by
        have := getR_ok (s := s) (at_ := a') (b := k) (by omega) (by omega) (by omega)
        simpa using this
      have e2 : rdN s k a' false = (((beN ((s.drop a').take k) 0 : Nat) : Int), a' + k, false) := by rw [rdN, if_pos hh]
      rw [e1, e2]
      refine ⟨fun h => absurd h (by simp), fun _ => ⟨by omega, by omega, fun w' hr => ⟨_, a' + k, rfl, ?_, hh, .inr ⟨rfl, rfl⟩, hr.mod⟩⟩⟩
      have hc := hr.at_ 0 rfl
      simp only [Ent.holds, Tree.goal, X.P, X.ev, V.toI_i, V.toB_b, V.toS_s, V.toR_r, V.toV_v, V.toN_n, V.toL_l, SV.ev, CV.ev, Sc.ev, List.getD_cons_zero, List.getD_cons_succ, List.getElem?_cons_zero, List.getElem?_cons_succ, List.map_cons, List.map_nil, List.length_cons, List.length_nil, List.cons_append, List.nil_append, Nat.zero_add, Nat.reduceAdd] at hc
      rw [tkAt, hc]; simp [rdV]
    · have e1 : getR s a' k = (0, 8) := getR_short (by omega) (by omega) (by omega)
      have e2 : rdN s k a' false = (0, s.length, true) := by rw [rdN, if_neg hh]
      rw [e1, e2]
      exact ⟨fun _ w' hr => ⟨0, a', rfl, hr.at_ 0 rfl, ha', .inl rfl, hr.mod⟩, fun h => absurd (.inr (by decide)) h⟩
theorem c_ttext : Calls Tryz.prog 57 #[.pointer (some ⟨b, 0, none⟩)] w
    fun e w' => ∃ t a1, e = .returned (.string ⟨t.toArray⟩) ∧ tkAt w' b s a1 (rdT s a sh).2.2 ∧ a1 ≤ s.length ∧ ((rdT s a sh).2.2 = true ∨ t = (rdT s a sh).1 ∧ a1 = (rdT s a sh).2.1) ∧ Mod [b] w w' := by
  refine as_called (run_tree2 (ρ := [.n b, .s s, .i a', .b sh]) sxE_ok Tryz.func57 tree_dragomanref_Taker_Text rfl rfl (rel_t4 w b s a' sh h) rfl rfl ?_) rfl
  simp only [Tree.goal, X.P, X.ev, V.toI_i, V.toB_b, V.toS_s, V.toR_r, V.toV_v, V.toN_n, V.toL_l, SV.ev, CV.ev, Sc.ev, List.getD_cons_zero, List.getD_cons_succ, List.getElem?_cons_zero, List.getElem?_cons_succ, List.map_cons, List.map_nil, List.length_cons, List.length_nil, List.cons_append, List.nil_append, Nat.zero_add, Nat.reduceAdd]
  refine ⟨[.s (getT s a').1, .i (getT s a').2.1, .i (getT s a').2.2], rfl, fun _ w' _ => c_GetTextOf w' s a' (by omega), ?_⟩
  simp only [Tree.goal, X.P, X.ev, V.toI_i, V.toB_b, V.toS_s, V.toR_r, V.toV_v, V.toN_n, V.toL_l, SV.ev, CV.ev, Sc.ev, List.getD_cons_zero, List.getD_cons_succ, List.getElem?_cons_zero, List.getElem?_cons_succ, List.map_cons, List.map_nil, List.length_cons, List.length_nil, List.cons_append, List.nil_append, Nat.zero_add, Nat.reduceAdd]
  by_cases hsh : sh = true
  · subst hsh
    have e : (rdT s a true).2.2 = true := (rdT_bd s a true ha).2.2.2.1 rfl
    rw [e]
    exact ⟨fun _ w' hr => ⟨[], a', rfl, hr.at_ 0 rfl, ha', .inl rfl, hr.mod⟩, fun h => absurd (.inl rfl) h⟩
  · have hsh : sh = false := by simpa using hsh
    subst hsh
    obtain rfl : a' = a := hsim.resolve_left (by simp)
    have key : ((a' : Int) + (getT s a').2.1 = ((rdT s a' false).2.1 : Nat)) ∧ (getT s a').1 = (rdT s a' false).1 ∧ ((getT s a').2.2 = 0 ↔ (rdT s a' false).2.2 = false) := by
      by_cases h2 : a' + 2 ≤ s.length
      · have e1 : getR s a' 2 = (((beN ((s.drop a').take 2) 0 : Nat) : Int), 0) := by
          have := getR_ok (s := s) (at_ := a') (b := 2) (by omega) (by omega) (by omega)
          simpa using this
        rw [getT, e1, if_pos rfl, rdT]
        simp only
        by_cases h3 : a' + 2 + beN ((s.drop a').take 2) 0 ≤ s.length
        · rw [if_neg (by omega), if_pos ⟨h2, h3⟩]
          refine ⟨by simp only; omega, ?_, by simp⟩
          have e3 : ((a' : Int) + 2 + ((beN ((s.drop a').take 2) 0 : Nat) : Int)).toNat = a' + 2 + beN ((s.drop a').take 2) 0 := by omega
          have e4 : ((a' : Int) + 2).toNat = a' + 2 := by omega
          simp only [e3, e4]
          rw [List.drop_take]
          congr 1
          omega
        · rw [if_pos (by omega), if_neg (by omega)]
          exact ⟨by simp, rfl, by simp⟩
      · have e1 : getR s a' 2 = (0, 8) := getR_short (by omega) (by omega) (by omega)
        rw [getT, e1, if_neg (by simp), rdT, if_neg (by omega)]
        exact ⟨by simp, rfl, by simp⟩
    obtain ⟨k1, k2, k3⟩ := key
    have kb := rdT_bd s a' false ha
    cases hb : (rdT s a' false).2.2 with
    | true =>
      have hne : ¬ (getT s a').2.2 = 0 := fun h0 => by rw [k3.1 h0] at hb; cases hb
      exact ⟨fun _ w' hr => ⟨[], a', rfl, hr.at_ 0 rfl, ha', .inl rfl, hr.mod⟩, fun h => absurd (.inr hne) h⟩
    | false =>
      have he : (getT s a').2.2 = 0 := k3.2 hb
      refine ⟨fun h => absurd h (by simp [he]), fun _ => ?_⟩
      rw [k1]
      refine ⟨by omega, by omega, fun w' hr => ⟨_, (rdT s a' false).2.1, rfl, ?_, kb.2.1, .inr ⟨k2, rfl⟩, hr.mod⟩⟩
      have hc := hr.at_ 0 rfl
      simp only [Ent.holds, Tree.goal, X.P, X.ev, V.toI_i, V.toB_b, V.toS_s, V.toR_r, V.toV_v, V.toN_n, V.toL_l, SV.ev, CV.ev, Sc.ev, List.getD_cons_zero, List.getD_cons_succ, List.getElem?_cons_zero, List.getElem?_cons_succ, List.map_cons, List.map_nil, List.length_cons, List.length_nil, List.cons_append, List.nil_append, Nat.zero_add, Nat.reduceAdd] at hc
      rw [k1] at hc
      exact hc
end

/-- Where what is told of a packet begins. -/
abbrev at0 (s : List UInt8) : Nat := (1 + (getL s 1).2.1).toNat
abbrev knd (s : List UInt8) : Nat := (s.getD 0 0).toNat / 16
section
variable {s : List UInt8}
theorem beg_o (h : knd s ≠ 3) : begP (s.getD 0 0).toNat = pD ((knd s : Nat) : Int) := by rw [begP, if_neg h]
theorem read_1 (h : knd s = 1) : readP s = connD s (pD 1) (at0 s) false := by
  rw [readP, beg_o (by omega), h, bodyD]
  have e : headD s (pD ((1 : Nat) : Int)) (at0 s) false = connD s (pD 1) (at0 s) false := rfl
  rw [e]
  have e2 : idD s (connD s (pD 1) (at0 s) false) = connD s (pD 1) (at0 s) false := rfl
  rw [e2]; rfl
theorem read_2 (h : knd s = 2) : readP s = ({ pD 2 with session := decide ((rdN s 1 (at0 s) false).1 = 1), code := (rdN s 1 (rdN s 1 (at0 s) false).2.1 (rdN s 1 (at0 s) false).2.2).1 }, (rdN s 1 (rdN s 1 (at0 s) false).2.1 (rdN s 1 (at0 s) false).2.2).2) := by
  rw [readP, beg_o (by omega), h, bodyD]; rfl
theorem read_3 (h : knd s = 3) : readP s = tailD s (idD s ({ begP (s.getD 0 0).toNat with topic := (rdT s (at0 s) false).1 }, (rdT s (at0 s) false).2)) := by
  have hk : (begP (s.getD 0 0).toNat).kind = 3 := by rw [begP, if_pos h]
  rw [readP, bodyD, headD, if_neg (by omega), if_neg (by omega), if_pos hk]
theorem read_o (h : knd s = 4 ∨ (8 ≤ knd s ∧ knd s ≤ 11)) : readP s = tailD s ({ pD ((knd s : Nat) : Int) with id := (rdN s 2 (at0 s) false).1 }, (rdN s 2 (at0 s) false).2) := by
  rw [readP, beg_o (by omega)]
  generalize knd s = k at h ⊢
  have e : headD s (pD (k : Int)) (at0 s) false = (pD (k : Int), at0 s, false) := by
    rw [headD, if_neg (by simp only; omega), if_neg (by simp only; omega), if_neg (by simp only; omega)]
  rw [bodyD, e, idD, if_pos (by simp only [idB, decide_eq_true_eq]; omega)]
theorem read_x (h : 12 ≤ knd s ∧ knd s ≤ 14) : readP s = (pD ((knd s : Nat) : Int), at0 s, false) := by
  rw [readP, beg_o (by omega)]
  generalize knd s = k at h ⊢
  have e : headD s (pD (k : Int)) (at0 s) false = (pD (k : Int), at0 s, false) := by
    rw [headD, if_neg (by simp only; omega), if_neg (by simp only; omega), if_neg (by simp only; omega)]
  rw [bodyD, e, idD, if_neg (by simp only [idB, decide_eq_true_eq]; omega), tailD, if_neg (by simp only; omega), if_neg (by simp only; omega), if_neg (by simp only; omega)]
theorem tailD_end {q : Pkt} {a : Nat} {b : Bool} (hk : q.kind ≠ 3) (h : ¬ (8 ≤ q.kind ∧ q.kind ≤ 10 ∧ b = false ∧ a < s.length)) : tailD s (q, a, b) = (q, a, b) := by
  rw [tailD, if_neg hk]
  split
  · rename_i h8
    simp only at h8
    simp only
    rw [rdAs_end (fun hh => h ⟨by omega, by omega, hh.2, hh.1⟩)]
  · split
    · rename_i h9
      simp only at h9
      simp only
      rw [rdCs_end (fun hh => h ⟨by omega, by omega, hh.2, hh.1⟩)]
    · rfl
theorem tailD_asks {q : Pkt} {a : Nat} (hk : q.kind = 8 ∨ q.kind = 10) (h : a < s.length) : tailD s (q, a, false) = tailD s ({ q with asks := q.asks ++ [(rdA s q.kind a false).1] }, (rdA s q.kind a false).2) := by
  rw [tailD, if_neg (by simp only; omega), if_pos hk, tailD, if_neg (by simp only; omega), if_pos hk]
  simp only
  rw [rdAs_step ⟨h, rfl⟩]
theorem tailD_codes {q : Pkt} {a : Nat} (hk : q.kind = 9) (h : a < s.length) : tailD s (q, a, false) = tailD s ({ q with codes := q.codes ++ [(rdN s 1 a false).1] }, (rdN s 1 a false).2) := by
  rw [tailD, if_neg (by simp only; omega), if_neg (by simp only; omega), if_pos hk, tailD, if_neg (by simp only; omega), if_neg (by simp only; omega), if_pos hk]
  simp only
  rw [rdCs_step ⟨h, rfl⟩]
/-- What is read has just what its kind names. -/
theorem read_kq : (readP s).1.kind = (begP (s.getD 0 0).toNat).kind ∧ (readP s).1.qos = (begP (s.getD 0 0).toNat).qos := by
  unfold readP bodyD
  have h1 : ∀ (p : Pkt) a b, (headD s p a b).1.kind = p.kind ∧ (headD s p a b).1.qos = p.qos := fun p a b => by
    unfold headD; (repeat' split) <;> exact ⟨rfl, rfl⟩
  have h2 : ∀ q : RS, (idD s q).1.kind = q.1.kind ∧ (idD s q).1.qos = q.1.qos := fun q => by
    unfold idD; split <;> exact ⟨rfl, rfl⟩
  have h3 : ∀ q : RS, (tailD s q).1.kind = q.1.kind ∧ (tailD s q).1.qos = q.1.qos := fun q => by
    unfold tailD; (repeat' split) <;> exact ⟨rfl, rfl⟩
  exact ⟨by rw [(h3 _).1, (h2 _).1, (h1 _ _ _).1], by rw [(h3 _).2, (h2 _).2, (h1 _ _ _).2]⟩
theorem read_kind : (readP s).1.kind = ((knd s : Nat) : Int) := by
  rw [read_kq.1, begP]
  split
  · rename_i h; rw [show knd s = 3 from h]; rfl
  · rfl
theorem bare_tail {q : RS} (h : bareP q.1 = pD q.1.kind) : bareP (tailD s q).1 = pD (tailD s q).1.kind := by
  rw [bare_iff] at h ⊢
  obtain ⟨b1, b2, b3, b4, b5, b6⟩ := h
  unfold tailD
  split
  · rename_i hk
    exact ⟨b1, b2, fun hn => absurd hk hn, b4, b5, b6⟩
  · split
    · rename_i hk
      exact ⟨b1, b2, b3, b4, fun hn => by simp only at hn; omega, b6⟩
    · split
      · rename_i hk
        exact ⟨b1, b2, b3, b4, b5, fun hn => absurd hk hn⟩
      · exact ⟨b1, b2, b3, b4, b5, b6⟩
theorem bare_id {q : RS} (h : bareP q.1 = pD q.1.kind) : bareP (idD s q).1 = pD (idD s q).1.kind := by
  rw [bare_iff] at h ⊢
  obtain ⟨b1, b2, b3, b4, b5, b6⟩ := h
  unfold idD
  split
  · rename_i hk
    simp only [idB, decide_eq_true_eq] at hk
    exact ⟨b1, b2, b3, fun hn => by simp only at hn; omega, b5, b6⟩
  · exact ⟨b1, b2, b3, b4, b5, b6⟩
theorem bare_head {p : Pkt} {a : Nat} {b : Bool} (h : bareP p = pD p.kind) : bareP (headD s p a b).1 = pD (headD s p a b).1.kind := by
  rw [bare_iff] at h ⊢
  obtain ⟨b1, b2, b3, b4, b5, b6⟩ := h
  unfold headD
  split
  · rename_i hk
    exact ⟨fun hn => absurd hk hn, b2, b3, b4, b5, b6⟩
  · split
    · rename_i hk
      exact ⟨b1, fun hn => absurd hk hn, b3, b4, b5, b6⟩
    · split
      · rename_i hk
        exact ⟨b1, b2, fun hn => absurd hk hn, b4, b5, b6⟩
      · exact ⟨b1, b2, b3, b4, b5, b6⟩
theorem read_bare : bareP (readP s).1 = pD (readP s).1.kind := by
  unfold readP bodyD
  refine bare_tail (bare_id (bare_head ?_))
  rw [bare_iff]
  unfold begP
  split <;> simp
end
end Go.Proofs.YtliedecinehijaaGreatDoor

/-
  Packets: the reference's PacketOf, walked. By an AI agent.
-/
set_option linter.unusedSimpArgs false
set_option linter.unusedVariables false
namespace Go.Proofs.YtliedecinehijaaGreatDoor
open Go.Sx
section
variable {s : List UInt8} (hl0 : (getL s 1).2.2 = 0) (hs : s.length ≤ 20000000)
include hl0
theorem s_ne : ¬ (s = [] ∨ (getL s 1).2.2 ≠ 0) := by
  rintro (rfl | h)
  · revert hl0; decide +kernel
  · exact h hl0
theorem decD_B (hB : (readP s).2.2 = true ∨ kindB (readP s).1.kind = false ∨ 1 < (readP s).1.qos ∨ bytesP (readP s).1 ≠ s) : decD s = (pD 0, 1) := by
  rw [decD, if_neg (s_ne hl0), if_pos hB]
include hs
theorem len_of_bytes (h : bytesP (readP s).1 = s) : 1 + (getL s 1).2.1 + (getL s 1).1 = s.length := by
  have hb := ((readP_bd hl0).1.byte hs).body
  have hg := getL_bytes hb []
  rw [List.append_nil, h] at hg
  have hl : s.length = 1 + (lngB 3 (bodyB (readP s).1).length).length + (bodyB (readP s).1).length := by
    conv => lhs; rw [← h]
    simp only [bytesP, List.length_append, numB_len]
  rw [hg]
  simp only
  omega
theorem decD_len (h : 1 + (getL s 1).2.1 + (getL s 1).1 ≠ s.length) : decD s = (pD 0, 1) :=
  decD_B hl0 (.inr (.inr (.inr fun hh => h (len_of_bytes hl0 hs hh))))
end
/-- What holds behind the taking. -/
def finI (s : List UInt8) : List V → Prop := fun vs => ∃ (q : Pkt) (a : Nat) (bad : Bool) (x y : Value), vs = [.i 0, .s s, .i a, .b bad, .i q.kind, .b q.dup, .b q.retain, .b q.clean, .b q.session, .i q.qos, .i q.id, .i q.keep, .i q.code, .s q.client, .s q.topic, .s q.payload, .v x, .r (q.asks.map encA), .v y, .r (q.codes.map encI), .i 0, .b false, .b false, .b false, .b false, .i 0, .i 0, .i 0, .i 0, .s [], .s [], .s [], .v nilV, .r [], .v nilV, .r []] ∧
  bad = (readP s).2.2 ∧ (bad = true ∨ q = (readP s).1) ∧ ¬ 1 < (readP s).1.qos
/-- What holds in the loop. -/
def tkI (s : List UInt8) (r : RS) : List V → Prop := fun vs => ∃ (q q0 : Pkt) (a a0 : Nat) (bad : Bool) (x y : Value), vs = [.s s, .i a, .b bad, .i q.kind, .b q.dup, .b q.retain, .b q.clean, .b q.session, .i q.qos, .i q.id, .i q.keep, .i q.code, .s q.client, .s q.topic, .s q.payload, .v x, .r (q.asks.map encA), .v y, .r (q.codes.map encI)] ∧
  a ≤ s.length ∧ a0 ≤ s.length ∧ (bad = true ∨ q = q0 ∧ a = a0) ∧ (bad = false → q.asks.length ≤ a ∧ q.codes.length ≤ a) ∧ tailD s (q0, a0, bad) = tailD s r ∧ q0.kind = r.1.kind
set_option maxHeartbeats 2000000 in
set_option maxRecDepth 10000 in
theorem c_PacketOf (w : World) (s : List UInt8) (hs : s.length ≤ 20000000) : Calls Tryz.prog 11 #[.string ⟨s.toArray⟩] w
    fun e w' => ∃ x y, e = .returned (.tuple #[pV (decD s).1 x y, .int .i64 (decD s).2]) ∧ decPost w w' (decD s).1 x y := by
  refine as_called (run_tree2 (ρ := [.s s]) (sxE_ok.joins _) Tryz.func11 tree_dragomanref_PacketOf rfl rfl (Rel.start w _) rfl rfl ?_) rfl
  have hz : Int.toNat 0 = 0 := rfl
  have hs1 : s.length < 1000000000 := by omega
  have ek : (((s.getD 0 0).toNat : Nat) : Int) / 16 = ((knd s : Nat) : Int) := by unfold knd; omega
  have hc := u8_lt (s.getD 0 0)
  have hgb := getL_bd s 1
  simp only [Tree.goal, X.P, X.ev, V.toI_i, V.toB_b, V.toS_s, V.toR_r, V.toV_v, V.toN_n, V.toL_l, SV.ev, CV.ev, Sc.ev, List.getD_cons_zero, List.getD_cons_succ, List.getElem?_cons_zero, List.getElem?_cons_succ, List.map_cons, List.map_nil, List.length_cons, List.length_nil, List.cons_append, List.nil_append, Nat.zero_add, Nat.reduceAdd]
  intro b1
  refine ⟨fun h w' hr => ⟨nilV, nilV, ?_⟩, fun h0 => ?_⟩
  · rw [decD, if_pos (.inl h)]
    exact ⟨rfl, decPost_nil hr.mod 0⟩
  have hlen : 0 < s.length := List.length_pos_iff.2 h0
  refine ⟨[.i (getL s 1).1, .i (getL s 1).2.1, .i (getL s 1).2.2], rfl, fun _ w' _ => c_GetLongOf w' s 1 (by omega), ?_⟩
  simp only [Tree.goal, X.P, X.ev, V.toI_i, V.toB_b, V.toS_s, V.toR_r, V.toV_v, V.toN_n, V.toL_l, SV.ev, CV.ev, Sc.ev, List.getD_cons_zero, List.getD_cons_succ, List.getElem?_cons_zero, List.getElem?_cons_succ, List.map_cons, List.map_nil, List.length_cons, List.length_nil, List.cons_append, List.nil_append, Nat.zero_add, Nat.reduceAdd, hz, ek]
  refine ⟨by omega, ?_⟩
  refine ⟨fun vs => (vs.getD 2 (.i 0)).toB = true ↔ ((getL s 1).2.2 ≠ 0 ∨ 1 + (getL s 1).2.1 + (getL s 1).1 ≠ s.length ∨ ¬ kindB (knd s : Nat) = true), ?_, ?_⟩
  · (repeat refine ⟨by omega, ?_⟩)
    refine ⟨fun h => ?_, fun h => ⟨fun h1 => ?_, fun h1 => ?_⟩⟩
    · simp only [List.getD_cons_succ, List.getD_cons_zero, V.toB_b]
      refine ⟨fun _ => ?_, fun _ => by trivial⟩
      rcases h with h | h
      · exact .inl h
      · exact .inr (.inl h)
    · have h2 : ¬ (getL s 1).2.2 ≠ 0 ∧ ¬ 1 + (getL s 1).2.1 + (getL s 1).1 ≠ s.length := ⟨fun hh => h (.inl hh), fun hh => h (.inr hh)⟩
      simp only [List.getD_cons_succ, List.getD_cons_zero, V.toB_b, h2.1, h2.2, false_or, kindB, decide_eq_true_eq, Bool.not_eq_true', Bool.and_eq_false_iff, decide_eq_false_iff_not]
      omega
    · have h2 : ¬ (getL s 1).2.2 ≠ 0 ∧ ¬ 1 + (getL s 1).2.1 + (getL s 1).1 ≠ s.length := ⟨fun hh => h (.inl hh), fun hh => h (.inr hh)⟩
      simp only [List.getD_cons_succ, List.getD_cons_zero, V.toB_b, h2.1, h2.2, false_or, kindB, decide_eq_true_eq, Bool.false_eq_true, false_iff]
      omega
  intro vs hl hI
  match vs, hl, hI with
  | [x0, x1, x2], _, hI =>
  simp only [Tree.goal, X.P, X.ev, V.toI_i, V.toB_b, V.toS_s, V.toR_r, V.toV_v, V.toN_n, V.toL_l, SV.ev, CV.ev, Sc.ev, List.getD_cons_zero, List.getD_cons_succ, List.getElem?_cons_zero, List.getElem?_cons_succ, List.map_cons, List.map_nil, List.length_cons, List.length_nil, List.cons_append, List.nil_append, Nat.zero_add, Nat.reduceAdd, hz, ek] at hI ⊢
  refine ⟨fun h w' hr => ⟨nilV, nilV, ?_⟩, fun h => ?_⟩
  · have hd : decD s = (pD 0, 1) := by
      by_cases he : (getL s 1).2.2 = 0
      · rcases hI.1 h with h | h | h
        · exact absurd he h
        · exact decD_len he hs h
        · exact decD_B he (.inr (.inl (by rw [read_kind]; simpa using h)))
      · rw [decD, if_pos (.inr he)]
    rw [hd]
    exact ⟨rfl, decPost_nil hr.mod 0⟩
  have hI : ¬ ((getL s 1).2.2 ≠ 0 ∨ 1 + (getL s 1).2.1 + (getL s 1).1 ≠ s.length ∨ ¬ kindB (knd s : Nat) = true) := fun hh => h (hI.2 hh)
  have hl0 : (getL s 1).2.2 = 0 := Classical.not_not.1 fun hh => hI (.inl hh)
  have hlen2 : 1 + (getL s 1).2.1 + (getL s 1).1 = s.length := Classical.not_not.1 fun hh => hI (.inr (.inl hh))
  have hkb : kindB (knd s : Nat) = true := Classical.not_not.1 fun hh => hI (.inr (.inr hh))
  clear h hI
  have hk := hkb
  simp only [kindB, decide_eq_true_eq] at hk
  have hat := getL_at (a := 1) hl0
  have hln : at0 s ≤ s.length := hat.2.1
  have ha0 : 1 + (getL s 1).2.1 = ((at0 s : Nat) : Int) := by unfold at0; omega
  intro b8
  (repeat refine ⟨by omega, ?_⟩)
  intro b9
  refine ⟨finI s, ⟨fun k1 => ?_, fun k1 => ⟨fun k2 => ?_, fun k2 => ⟨fun k3 => ?_, fun k3 => ?_⟩⟩⟩, ?_⟩
  · have k1 : knd s = 1 := by omega
    have hq0 : ¬ 1 < (readP s).1.qos := by rw [read_kq.2, beg_o (by omega)]; simp
    rw [read_1 k1] at hq0
    have t1 := rdT_bd s (at0 s) false hln
    intro w1 hr
    have hc0 := hr.at_ 0 rfl
    simp only [Ent.holds, Tree.goal, X.P, X.ev, V.toI_i, V.toB_b, V.toS_s, V.toR_r, V.toV_v, V.toN_n, V.toL_l, SV.ev, CV.ev, Sc.ev, List.getD_cons_zero, List.getD_cons_succ, List.getElem?_cons_zero, List.getElem?_cons_succ, List.map_cons, List.map_nil, List.length_cons, List.length_nil, List.cons_append, List.nil_append, Nat.zero_add, Nat.reduceAdd] at hc0
    rw [ha0] at hc0
    refine (c_ttext w1 b9 s (at0 s) (at0 s) false hc0 hln hln hs1 (.inr rfl)).mono ?_
    rintro e w2 ⟨n1, a1, rfl, h1, hle1, q1, m1⟩
    refine ⟨[.s n1, .s s, .i a1, .b _], rfl, rfl, m1, List.forall_mem_cons.2 ⟨h1, List.forall_mem_nil _⟩, (fun x hx => absurd hx List.not_mem_nil), apart_nil, ?_⟩
    simp only [Tree.goal, X.P, X.ev, V.toI_i, V.toB_b, V.toS_s, V.toR_r, V.toV_v, V.toN_n, V.toL_l, SV.ev, CV.ev, Sc.ev, List.getD_cons_zero, List.getD_cons_succ, List.getElem?_cons_zero, List.getElem?_cons_succ, List.map_cons, List.map_nil, List.length_cons, List.length_nil, List.cons_append, List.nil_append, Nat.zero_add, Nat.reduceAdd]
    clear m1 h1 hr hc0
    generalize hT1 : rdT s (at0 s) false = T1 at t1 q1 ⊢
    have t2 := rdN_bd s 1 T1.2.1 T1.2.2 t1.2.1
    intro w1 hr
    refine (c_tnumber w1 b9 s a1 T1.2.1 T1.2.2 (hr.at_ 0 rfl) hle1 t1.2.1 hs1 (q1.imp id (·.2)) 1 (by omega)).mono ?_
    rintro e w2 ⟨n2, a2, rfl, h1, hle2, q2, m1⟩
    refine ⟨[.i n2, .s s, .i a2, .b _], rfl, rfl, m1, List.forall_mem_cons.2 ⟨h1, List.forall_mem_nil _⟩, (fun x hx => absurd hx List.not_mem_nil), apart_nil, ?_⟩
    simp only [Tree.goal, X.P, X.ev, V.toI_i, V.toB_b, V.toS_s, V.toR_r, V.toV_v, V.toN_n, V.toL_l, SV.ev, CV.ev, Sc.ev, List.getD_cons_zero, List.getD_cons_succ, List.getElem?_cons_zero, List.getElem?_cons_succ, List.map_cons, List.map_nil, List.length_cons, List.length_nil, List.cons_append, List.nil_append, Nat.zero_add, Nat.reduceAdd]
    clear m1 h1 hr
    generalize hT2 : rdN s 1 T1.2.1 T1.2.2 = T2 at t2 q2 ⊢
    have t3 := rdN_bd s 1 T2.2.1 T2.2.2 t2.2.2.2.1
    intro w1 hr
    refine (c_tnumber w1 b9 s a2 T2.2.1 T2.2.2 (hr.at_ 0 rfl) hle2 t2.2.2.2.1 hs1 (q2.imp id (·.2)) 1 (by omega)).mono ?_
    rintro e w2 ⟨n3, a3, rfl, h1, hle3, q3, m1⟩
    refine ⟨[.i n3, .s s, .i a3, .b _], rfl, rfl, m1, List.forall_mem_cons.2 ⟨h1, List.forall_mem_nil _⟩, (fun x hx => absurd hx List.not_mem_nil), apart_nil, ?_⟩
    simp only [Tree.goal, X.P, X.ev, V.toI_i, V.toB_b, V.toS_s, V.toR_r, V.toV_v, V.toN_n, V.toL_l, SV.ev, CV.ev, Sc.ev, List.getD_cons_zero, List.getD_cons_succ, List.getElem?_cons_zero, List.getElem?_cons_succ, List.map_cons, List.map_nil, List.length_cons, List.length_nil, List.cons_append, List.nil_append, Nat.zero_add, Nat.reduceAdd]
    clear m1 h1 hr
    generalize hT3 : rdN s 1 T2.2.1 T2.2.2 = T3 at t3 q3 ⊢
    have t4 := rdN_bd s 2 T3.2.1 T3.2.2 t3.2.2.2.1
    intro w1 hr
    refine (c_tnumber w1 b9 s a3 T3.2.1 T3.2.2 (hr.at_ 0 rfl) hle3 t3.2.2.2.1 hs1 (q3.imp id (·.2)) 2 (by omega)).mono ?_
    rintro e w2 ⟨n4, a4, rfl, h1, hle4, q4, m1⟩
    refine ⟨[.i n4, .s s, .i a4, .b _], rfl, rfl, m1, List.forall_mem_cons.2 ⟨h1, List.forall_mem_nil _⟩, (fun x hx => absurd hx List.not_mem_nil), apart_nil, ?_⟩
    simp only [Tree.goal, X.P, X.ev, V.toI_i, V.toB_b, V.toS_s, V.toR_r, V.toV_v, V.toN_n, V.toL_l, SV.ev, CV.ev, Sc.ev, List.getD_cons_zero, List.getD_cons_succ, List.getElem?_cons_zero, List.getElem?_cons_succ, List.map_cons, List.map_nil, List.length_cons, List.length_nil, List.cons_append, List.nil_append, Nat.zero_add, Nat.reduceAdd]
    clear m1 h1 hr
    generalize hT4 : rdN s 2 T3.2.1 T3.2.2 = T4 at t4 q4 ⊢
    have t5 := rdT_bd s T4.2.1 T4.2.2 t4.2.2.2.1
    intro w1 hr
    refine (c_ttext w1 b9 s a4 T4.2.1 T4.2.2 (hr.at_ 0 rfl) hle4 t4.2.2.2.1 hs1 (q4.imp id (·.2))).mono ?_
    rintro e w2 ⟨n5, a5, rfl, h1, hle5, q5, m1⟩
    refine ⟨[.s n5, .s s, .i a5, .b _], rfl, rfl, m1, List.forall_mem_cons.2 ⟨h1, List.forall_mem_nil _⟩, (fun x hx => absurd hx List.not_mem_nil), apart_nil, ?_⟩
    simp only [Tree.goal, X.P, X.ev, V.toI_i, V.toB_b, V.toS_s, V.toR_r, V.toV_v, V.toN_n, V.toL_l, SV.ev, CV.ev, Sc.ev, List.getD_cons_zero, List.getD_cons_succ, List.getElem?_cons_zero, List.getElem?_cons_succ, List.map_cons, List.map_nil, List.length_cons, List.length_nil, List.cons_append, List.nil_append, Nat.zero_add, Nat.reduceAdd]
    clear m1 h1 hr
    generalize hT5 : rdT s T4.2.1 T4.2.2 = T5 at t5 q5 ⊢
    simp only [hz, ek, k1]
    have hc5 : connD s (pD 1) (at0 s) false = ({ pD 1 with clean := decide (T3.1 = 2), keep := T4.1, client := T5.1 }, T5.2) := by
      rw [connD]; simp only [hT1, hT2, hT3, hT4, hT5]
    refine ⟨{ pD 1 with clean := decide (n3 = 2), keep := n4, client := n5 }, a5, T5.2.2, nilV, nilV, rfl, ?_, ?_, by rw [read_1 k1]; exact hq0⟩
    · rw [read_1 k1, hc5]
    · rw [read_1 k1, hc5]
      cases hb : T5.2.2 with
      | true => exact .inl rfl
      | false =>
        right
        obtain ⟨b5, -⟩ := t5.2.2.2.2 hb
        obtain ⟨b4, -⟩ := t4.2.2.2.2.2 b5
        obtain ⟨b3, -⟩ := t3.2.2.2.2.2 b4
        rw [(q5.resolve_left (by rw [hb]; simp)).1, (q4.resolve_left (by rw [b5]; simp)).1, (q3.resolve_left (by rw [b4]; simp)).1]
  · have k2 : knd s = 2 := by omega
    have hq0 : ¬ 1 < (readP s).1.qos := by rw [read_kq.2, beg_o (by omega)]; simp
    have t1 := rdN_bd s 1 (at0 s) false hln
    intro w1 hr
    have hc0 := hr.at_ 0 rfl
    simp only [Ent.holds, Tree.goal, X.P, X.ev, V.toI_i, V.toB_b, V.toS_s, V.toR_r, V.toV_v, V.toN_n, V.toL_l, SV.ev, CV.ev, Sc.ev, List.getD_cons_zero, List.getD_cons_succ, List.getElem?_cons_zero, List.getElem?_cons_succ, List.map_cons, List.map_nil, List.length_cons, List.length_nil, List.cons_append, List.nil_append, Nat.zero_add, Nat.reduceAdd] at hc0
    rw [ha0] at hc0
    refine (c_tnumber w1 b9 s (at0 s) (at0 s) false hc0 hln hln hs1 (.inr rfl) 1 (by omega)).mono ?_
    rintro e w2 ⟨n1, a1, rfl, h1, hle1, q1, m1⟩
    refine ⟨[.i n1, .s s, .i a1, .b _], rfl, rfl, m1, List.forall_mem_cons.2 ⟨h1, List.forall_mem_nil _⟩, (fun x hx => absurd hx List.not_mem_nil), apart_nil, ?_⟩
    simp only [Tree.goal, X.P, X.ev, V.toI_i, V.toB_b, V.toS_s, V.toR_r, V.toV_v, V.toN_n, V.toL_l, SV.ev, CV.ev, Sc.ev, List.getD_cons_zero, List.getD_cons_succ, List.getElem?_cons_zero, List.getElem?_cons_succ, List.map_cons, List.map_nil, List.length_cons, List.length_nil, List.cons_append, List.nil_append, Nat.zero_add, Nat.reduceAdd]
    clear m1 h1 hr hc0
    have hr2 := read_2 k2
    generalize hT1 : rdN s 1 (at0 s) false = T1 at t1 q1 hr2 ⊢
    have t2 := rdN_bd s 1 T1.2.1 T1.2.2 t1.2.2.2.1
    intro w1 hr
    refine (c_tnumber w1 b9 s a1 T1.2.1 T1.2.2 (hr.at_ 0 rfl) hle1 t1.2.2.2.1 hs1 (q1.imp id (·.2)) 1 (by omega)).mono ?_
    rintro e w2 ⟨n2, a2, rfl, h1, hle2, q2, m1⟩
    refine ⟨[.i n2, .s s, .i a2, .b _], rfl, rfl, m1, List.forall_mem_cons.2 ⟨h1, List.forall_mem_nil _⟩, (fun x hx => absurd hx List.not_mem_nil), apart_nil, ?_⟩
    simp only [Tree.goal, X.P, X.ev, V.toI_i, V.toB_b, V.toS_s, V.toR_r, V.toV_v, V.toN_n, V.toL_l, SV.ev, CV.ev, Sc.ev, List.getD_cons_zero, List.getD_cons_succ, List.getElem?_cons_zero, List.getElem?_cons_succ, List.map_cons, List.map_nil, List.length_cons, List.length_nil, List.cons_append, List.nil_append, Nat.zero_add, Nat.reduceAdd]
    clear m1 h1 hr
    generalize hT2 : rdN s 1 T1.2.1 T1.2.2 = T2 at t2 q2 hr2 ⊢
    simp only [hz, ek, k2]
    refine ⟨{ pD 2 with session := decide (n1 = 1), code := n2 }, a2, T2.2.2, nilV, nilV, rfl, ?_, ?_, hq0⟩
    · rw [hr2]
    · rw [hr2]
      cases hb : T2.2.2 with
      | true => exact .inl rfl
      | false =>
        right
        obtain ⟨b2, -⟩ := t2.2.2.2.2.2 hb
        rw [(q2.resolve_left (by rw [hb]; simp)).1, (q1.resolve_left (by rw [b2]; simp)).1]
  · have k3 : knd s = 3 := by omega
    generalize hcc : (s.getD 0 0).toNat = c at hc
    have hbeg : begP c = { pD 3 with dup := decide (c / 8 % 2 = 1), qos := ((c / 2 % 4 : Nat) : Int), retain := decide (c % 2 = 1) } := by rw [← hcc, begP, if_pos (show (s.getD 0 0).toNat / 16 = 3 from k3), hcc]; rfl
    have hqos : (readP s).1.qos = ((c / 2 % 4 : Nat) : Int) := by rw [read_kq.2, hcc, hbeg]
    refine ⟨by omega, ?_⟩
    have eq1 : ((c : Int) % 16 / 2) % 4 = ((c / 2 % 4 : Nat) : Int) := by omega
    rw [eq1]
    refine ⟨fun h w' hr => ⟨nilV, nilV, ?_⟩, fun hqn => ?_⟩
    · rw [decD_B hl0 (.inr (.inr (.inl (by rw [hqos]; exact h))))]
      exact ⟨rfl, decPost_nil hr.mod 0⟩
    have hq0 : ¬ 1 < (readP s).1.qos := by rw [hqos]; exact hqn
    have hr3 := read_3 k3
    rw [hcc, hbeg] at hr3
    have ed : decide (8 ≤ (c : Int) % 16) = decide (c / 8 % 2 = 1) := decide_eq_decide.2 (by omega)
    have er : decide ((c : Int) % 16 % 2 = 1) = decide (c % 2 = 1) := decide_eq_decide.2 (by omega)
    have t1 := rdT_bd s (at0 s) false hln
    intro w1 hr
    have hc0 := hr.at_ 0 rfl
    simp only [Ent.holds, Tree.goal, X.P, X.ev, V.toI_i, V.toB_b, V.toS_s, V.toR_r, V.toV_v, V.toN_n, V.toL_l, SV.ev, CV.ev, Sc.ev, List.getD_cons_zero, List.getD_cons_succ, List.getElem?_cons_zero, List.getElem?_cons_succ, List.map_cons, List.map_nil, List.length_cons, List.length_nil, List.cons_append, List.nil_append, Nat.zero_add, Nat.reduceAdd] at hc0
    rw [ha0] at hc0
    refine (c_ttext w1 b9 s (at0 s) (at0 s) false hc0 hln hln hs1 (.inr rfl)).mono ?_
    rintro e w2 ⟨n1, a1, rfl, h1, hle1, q1, m1⟩
    refine ⟨[.s n1, .s s, .i a1, .b _], rfl, rfl, m1, List.forall_mem_cons.2 ⟨h1, List.forall_mem_nil _⟩, (fun x hx => absurd hx List.not_mem_nil), apart_nil, ?_⟩
    simp only [Tree.goal, X.P, X.ev, V.toI_i, V.toB_b, V.toS_s, V.toR_r, V.toV_v, V.toN_n, V.toL_l, SV.ev, CV.ev, Sc.ev, List.getD_cons_zero, List.getD_cons_succ, List.getElem?_cons_zero, List.getElem?_cons_succ, List.map_cons, List.map_nil, List.length_cons, List.length_nil, List.cons_append, List.nil_append, Nat.zero_add, Nat.reduceAdd, hz, hcc, eq1]
    clear m1 h1 hr hc0
    generalize hT1 : rdT s (at0 s) false = T1 at t1 q1 hr3 ⊢
    refine ⟨fun hq => ?_, fun hq => ?_⟩
    · have hid : idB { pD 3 with dup := decide (c / 8 % 2 = 1), qos := ((c / 2 % 4 : Nat) : Int), retain := decide (c % 2 = 1), topic := T1.1 } = true := by simp only [idB, hq]; decide
      rw [idD, if_pos hid] at hr3
      have t2 := rdN_bd s 2 T1.2.1 T1.2.2 t1.2.1
      intro w1 hr
      refine (c_tnumber w1 b9 s a1 T1.2.1 T1.2.2 (hr.at_ 0 rfl) hle1 t1.2.1 hs1 (q1.imp id (·.2)) 2 (by omega)).mono ?_
      rintro e w2 ⟨n2, a2, rfl, h1, hle2, q2, m1⟩
      refine ⟨[.i n2, .s s, .i a2, .b _], rfl, rfl, m1, List.forall_mem_cons.2 ⟨h1, List.forall_mem_nil _⟩, (fun x hx => absurd hx List.not_mem_nil), apart_nil, ?_⟩
      simp only [Tree.goal, X.P, X.ev, V.toI_i, V.toB_b, V.toS_s, V.toR_r, V.toV_v, V.toN_n, V.toL_l, SV.ev, CV.ev, Sc.ev, List.getD_cons_zero, List.getD_cons_succ, List.getElem?_cons_zero, List.getElem?_cons_succ, List.map_cons, List.map_nil, List.length_cons, List.length_nil, List.cons_append, List.nil_append, Nat.zero_add, Nat.reduceAdd, hz, hcc, eq1, ed, er]
      clear m1 h1 hr
      simp only at hr3
      generalize hT2 : rdN s 2 T1.2.1 T1.2.2 = T2 at t2 q2 hr3 ⊢
      rw [tailD, if_pos rfl] at hr3
      simp only at hr3
      refine ⟨fun hb => ?_, fun hb => ?_⟩
      · have hb : T2.2.2 = false := by simpa using hb
        obtain ⟨b2, -⟩ := t2.2.2.2.2.2 hb
        obtain ⟨e1, e2⟩ := q2.resolve_left (by rw [hb]; simp)
        obtain ⟨e3, -⟩ := q1.resolve_left (by rw [b2]; simp)
        refine ⟨by omega, by omega, ?_⟩
        refine ⟨{ pD 3 with dup := decide (c / 8 % 2 = 1), qos := ((c / 2 % 4 : Nat) : Int), retain := decide (c % 2 = 1), topic := n1, id := n2, payload := s.drop a2 }, a2, T2.2.2, nilV, nilV, ?_, by rw [hr3], .inr (by rw [hr3, e1, e2, e3]), hq0⟩
        have e5 : ((knd s : Nat) : Int) = 3 := by omega
        have e6 : (c : Int) / 16 = 3 := by unfold knd at k3; omega
        have e5 : ((knd s : Nat) : Int) = 3 := by omega
        (try simp only [Tree.goal, X.P, X.ev, V.toI_i, V.toB_b, V.toS_s, V.toR_r, V.toV_v, V.toN_n, V.toL_l, SV.ev, CV.ev, Sc.ev, List.getD_cons_zero, List.getD_cons_succ, List.getElem?_cons_zero, List.getElem?_cons_succ, List.map_cons, List.map_nil, List.length_cons, List.length_nil, List.cons_append, List.nil_append, Nat.zero_add, Nat.reduceAdd, hz, hcc, eq1, ed, er, e6, e5])
        (try simp [hb])
      · have hb : T2.2.2 = true := by simpa using hb
        refine ⟨{ pD 3 with dup := decide (c / 8 % 2 = 1), qos := ((c / 2 % 4 : Nat) : Int), retain := decide (c % 2 = 1), topic := n1, id := n2 }, a2, T2.2.2, nilV, nilV, ?_, by rw [hr3], .inl hb, hq0⟩
        have e6 : (c : Int) / 16 = 3 := by unfold knd at k3; omega
        have e5 : ((knd s : Nat) : Int) = 3 := by omega
        (try simp only [Tree.goal, X.P, X.ev, V.toI_i, V.toB_b, V.toS_s, V.toR_r, V.toV_v, V.toN_n, V.toL_l, SV.ev, CV.ev, Sc.ev, List.getD_cons_zero, List.getD_cons_succ, List.getElem?_cons_zero, List.getElem?_cons_succ, List.map_cons, List.map_nil, List.length_cons, List.length_nil, List.cons_append, List.nil_append, Nat.zero_add, Nat.reduceAdd, hz, hcc, eq1, ed, er, e6, e5])
        (try simp)
    · have hid : ¬ idB { pD 3 with dup := decide (c / 8 % 2 = 1), qos := ((c / 2 % 4 : Nat) : Int), retain := decide (c % 2 = 1), topic := T1.1 } = true := by
        simp only [idB, decide_eq_true_eq]; omega
      rw [idD, if_neg hid, tailD, if_pos rfl] at hr3
      simp only at hr3
      simp only [ed, er]
      have e6 : (c : Int) / 16 = 3 := by unfold knd at k3; omega
      refine ⟨fun hb => ?_, fun hb => ?_⟩
      · have hb : T1.2.2 = false := by simpa using hb
        obtain ⟨e3, e2⟩ := q1.resolve_left (by rw [hb]; simp)
        refine ⟨by omega, by omega, ?_⟩
        refine ⟨{ pD 3 with dup := decide (c / 8 % 2 = 1), qos := ((c / 2 % 4 : Nat) : Int), retain := decide (c % 2 = 1), topic := n1, payload := s.drop a1 }, a1, T1.2.2, nilV, nilV, ?_, by rw [hr3], .inr (by rw [hr3, e2, e3]), hq0⟩
        have e5 : ((knd s : Nat) : Int) = 3 := by omega
        (try simp only [Tree.goal, X.P, X.ev, V.toI_i, V.toB_b, V.toS_s, V.toR_r, V.toV_v, V.toN_n, V.toL_l, SV.ev, CV.ev, Sc.ev, List.getD_cons_zero, List.getD_cons_succ, List.getElem?_cons_zero, List.getElem?_cons_succ, List.map_cons, List.map_nil, List.length_cons, List.length_nil, List.cons_append, List.nil_append, Nat.zero_add, Nat.reduceAdd, hz, hcc, eq1, ed, er, e6, e5])
        (try simp [hb])
      · have hb : T1.2.2 = true := by simpa using hb
        refine ⟨{ pD 3 with dup := decide (c / 8 % 2 = 1), qos := ((c / 2 % 4 : Nat) : Int), retain := decide (c % 2 = 1), topic := n1 }, a1, T1.2.2, nilV, nilV, ?_, by rw [hr3], .inl hb, hq0⟩
        have e5 : ((knd s : Nat) : Int) = 3 := by omega
        (try simp only [Tree.goal, X.P, X.ev, V.toI_i, V.toB_b, V.toS_s, V.toR_r, V.toV_v, V.toN_n, V.toL_l, SV.ev, CV.ev, Sc.ev, List.getD_cons_zero, List.getD_cons_succ, List.getElem?_cons_zero, List.getElem?_cons_succ, List.map_cons, List.map_nil, List.length_cons, List.length_nil, List.cons_append, List.nil_append, Nat.zero_add, Nat.reduceAdd, hz, hcc, eq1, ed, er, e6, e5])
        (try simp)
  · refine ⟨fun vs => (vs.getD 0 (.i 0)).toB = true ↔ (knd s = 4 ∨ (8 ≤ knd s ∧ knd s ≤ 11)), ⟨fun h4 => ?_, fun h4 => ⟨fun h8 => ?_, fun h8 => ⟨fun h9 => ?_, fun h9 => ⟨fun h10 => ?_, fun h10 => ?_⟩⟩⟩⟩, ?_⟩
    any_goals (simp only [List.getD_cons_zero, V.toB_b, decide_eq_true_eq]; omega)
    intro vs hl hI
    match vs, hl, hI with
    | [x4], _, hI =>
    simp only [Tree.goal, X.P, X.ev, V.toI_i, V.toB_b, V.toS_s, V.toR_r, V.toV_v, V.toN_n, V.toL_l, SV.ev, CV.ev, Sc.ev, List.getD_cons_zero, List.getD_cons_succ, List.getElem?_cons_zero, List.getElem?_cons_succ, List.map_cons, List.map_nil, List.length_cons, List.length_nil, List.cons_append, List.nil_append, Nat.zero_add, Nat.reduceAdd, hz, ek] at hI ⊢
    have hqk : (readP s).1.qos = 0 := by rw [read_kq.2, beg_o (by omega)]
    refine ⟨fun h => ?_, fun h => ?_⟩
    · have hko := hI.1 h
      have hro := read_o hko
      clear h hI
      have t1 := rdN_bd s 2 (at0 s) false hln
      intro w1 hr
      have hc0 := hr.at_ 0 rfl
      simp only [Ent.holds, Tree.goal, X.P, X.ev, V.toI_i, V.toB_b, V.toS_s, V.toR_r, V.toV_v, V.toN_n, V.toL_l, SV.ev, CV.ev, Sc.ev, List.getD_cons_zero, List.getD_cons_succ, List.getElem?_cons_zero, List.getElem?_cons_succ, List.map_cons, List.map_nil, List.length_cons, List.length_nil, List.cons_append, List.nil_append, Nat.zero_add, Nat.reduceAdd] at hc0
      rw [ha0] at hc0
      refine (c_tnumber w1 b9 s (at0 s) (at0 s) false hc0 hln hln hs1 (.inr rfl) 2 (by omega)).mono ?_
      rintro e w2 ⟨n1, a1, rfl, h1, hle1, q1, m1⟩
      refine ⟨[.i n1, .s s, .i a1, .b _], rfl, rfl, m1, List.forall_mem_cons.2 ⟨h1, List.forall_mem_nil _⟩, (fun x hx => absurd hx List.not_mem_nil), apart_nil, ?_⟩
      simp only [Tree.goal, X.P, X.ev, V.toI_i, V.toB_b, V.toS_s, V.toR_r, V.toV_v, V.toN_n, V.toL_l, SV.ev, CV.ev, Sc.ev, List.getD_cons_zero, List.getD_cons_succ, List.getElem?_cons_zero, List.getElem?_cons_succ, List.map_cons, List.map_nil, List.length_cons, List.length_nil, List.cons_append, List.nil_append, Nat.zero_add, Nat.reduceAdd, hz, ek]
      clear m1 h1 hr hc0
      generalize hT1 : rdN s 2 (at0 s) false = T1 at t1 q1 hro ⊢
      generalize hr0 : (({ pD ((knd s : Nat) : Int) with id := T1.1 }, T1.2) : RS) = r at hro
      have hrk : r.1.kind = ((knd s : Nat) : Int) := by rw [← hr0]
      refine ⟨tkI s r, readμ s, ⟨{ pD ((knd s : Nat) : Int) with id := n1 }, { pD ((knd s : Nat) : Int) with id := T1.1 }, a1, T1.2.1, T1.2.2, nilV, nilV, rfl, hle1, t1.2.2.2.1, q1.imp id (fun h => ⟨by rw [h.1], h.2⟩), fun _ => ⟨by simp, by simp⟩, by rw [← hr0], by rw [hrk]⟩, ?_⟩
      rintro _ - ⟨q, q0, a, a0, bad, x, y, rfl, ha, hha0, hsim, hln1, htl, hqk0⟩
      rw [hrk] at hqk0
      simp only [Tree.goal, X.P, X.ev, V.toI_i, V.toB_b, V.toS_s, V.toR_r, V.toV_v, V.toN_n, V.toL_l, SV.ev, CV.ev, Sc.ev, List.getD_cons_zero, List.getD_cons_succ, List.getElem?_cons_zero, List.getElem?_cons_succ, List.map_cons, List.map_nil, List.length_cons, List.length_nil, List.cons_append, List.nil_append, Nat.zero_add, Nat.reduceAdd, hz, ek, Int.toNat_natCast]
      refine ⟨fun hcond => ?_, fun hcond => ?_⟩
      · obtain ⟨⟨⟨c1, c2⟩, c3⟩, c4⟩ := hcond
        have hb : bad = false := by simpa using c3
        subst hb
        obtain ⟨rfl, rfl⟩ := hsim.resolve_left (by simp)
        obtain ⟨l1, l2⟩ := hln1 rfl
        have c4 : a < s.length := by omega
        refine ⟨fun k9 => ⟨?_, ?_⟩, fun k9 => ?_⟩
        · have t2 := rdN_bd s 1 a false ha; have htC := tailD_codes (s := s) (q := q) (a := a) (by omega) c4; rw [htl] at htC; intro w1 hr; refine (c_tnumber w1 b9 s a a false (hr.at_ 0 rfl) ha ha hs1 (.inr rfl) 1 (by omega)).mono ?_; rintro e w2 ⟨n2, a2, rfl, h1, hle2, q2, m1⟩; refine ⟨[.i n2, .s s, .i a2, .b _], rfl, rfl, m1, List.forall_mem_cons.2 ⟨h1, List.forall_mem_nil _⟩, (fun x hx => absurd hx List.not_mem_nil), apart_nil, ?_⟩; simp only [Tree.goal, X.P, X.ev, V.toI_i, V.toB_b, V.toS_s, V.toR_r, V.toV_v, V.toN_n, V.toL_l, SV.ev, CV.ev, Sc.ev, List.getD_cons_zero, List.getD_cons_succ, List.getElem?_cons_zero, List.getElem?_cons_succ, List.map_cons, List.map_nil, List.length_cons, List.length_nil, List.cons_append, List.nil_append, Nat.zero_add, Nat.reduceAdd, hz, ek, Int.toNat_natCast]; clear m1 h1 hr; (generalize rdN s 1 a false = M at t2 q2 htC ⊢)
          intro z1; refine ⟨by (try simp only [List.length_map, List.length_nil, List.length_cons]); omega, fun z2 => ⟨⟨{ q with codes := q.codes ++ [n2] }, { q with codes := q.codes ++ [M.1] }, a2, M.2.1, M.2.2, x, z2, by simp [encI], hle2, t2.2.2.2.1, q2.imp id fun h => ⟨by rw [h.1], h.2⟩, fun hb => ?_, htC.symm, by rw [hrk]; exact hqk0⟩, ?_⟩⟩; (· have e5 := (t2.2.2.2.2.2 hb).2; have e2 := (q2.resolve_left (by rw [hb]; simp)).2; simp only [List.length_append, List.length_cons, List.length_nil]; omega); (· show rounds s a2 M.2.2 < rounds s a false; refine rounds_lt c4 rfl fun hb => ?_; have e5 := (t2.2.2.2.2.2 hb).2; have e2 := (q2.resolve_left (by rw [hb]; simp)).2; omega)
        · have t2 := rdN_bd s 1 a false ha; have htC := tailD_codes (s := s) (q := q) (a := a) (by omega) c4; rw [htl] at htC; intro w1 hr; refine (c_tnumber w1 b9 s a a false (hr.at_ 0 rfl) ha ha hs1 (.inr rfl) 1 (by omega)).mono ?_; rintro e w2 ⟨n2, a2, rfl, h1, hle2, q2, m1⟩; refine ⟨[.i n2, .s s, .i a2, .b _], rfl, rfl, m1, List.forall_mem_cons.2 ⟨h1, List.forall_mem_nil _⟩, (fun x hx => absurd hx List.not_mem_nil), apart_nil, ?_⟩; simp only [Tree.goal, X.P, X.ev, V.toI_i, V.toB_b, V.toS_s, V.toR_r, V.toV_v, V.toN_n, V.toL_l, SV.ev, CV.ev, Sc.ev, List.getD_cons_zero, List.getD_cons_succ, List.getElem?_cons_zero, List.getElem?_cons_succ, List.map_cons, List.map_nil, List.length_cons, List.length_nil, List.cons_append, List.nil_append, Nat.zero_add, Nat.reduceAdd, hz, ek, Int.toNat_natCast]; clear m1 h1 hr; (generalize rdN s 1 a false = M at t2 q2 htC ⊢)
          refine ⟨?_, ?_⟩
          · intro z1; refine ⟨by (try simp only [List.length_map, List.length_nil, List.length_cons]); omega, fun z2 => ⟨⟨{ q with codes := q.codes ++ [n2] }, { q with codes := q.codes ++ [M.1] }, a2, M.2.1, M.2.2, x, z2, by simp [encI], hle2, t2.2.2.2.1, q2.imp id fun h => ⟨by rw [h.1], h.2⟩, fun hb => ?_, htC.symm, by rw [hrk]; exact hqk0⟩, ?_⟩⟩; (· have e5 := (t2.2.2.2.2.2 hb).2; have e2 := (q2.resolve_left (by rw [hb]; simp)).2; simp only [List.length_append, List.length_cons, List.length_nil]; omega); (· show rounds s a2 M.2.2 < rounds s a false; refine rounds_lt c4 rfl fun hb => ?_; have e5 := (t2.2.2.2.2.2 hb).2; have e2 := (q2.resolve_left (by rw [hb]; simp)).2; omega)
          · intro z1; refine ⟨by (try simp only [List.length_map, List.length_nil, List.length_cons]); omega, fun z2 => ⟨⟨{ q with codes := q.codes ++ [n2] }, { q with codes := q.codes ++ [M.1] }, a2, M.2.1, M.2.2, x, z2, by simp [encI], hle2, t2.2.2.2.1, q2.imp id fun h => ⟨by rw [h.1], h.2⟩, fun hb => ?_, htC.symm, by rw [hrk]; exact hqk0⟩, ?_⟩⟩; (· have e5 := (t2.2.2.2.2.2 hb).2; have e2 := (q2.resolve_left (by rw [hb]; simp)).2; simp only [List.length_append, List.length_cons, List.length_nil]; omega); (· show rounds s a2 M.2.2 < rounds s a false; refine rounds_lt c4 rfl fun hb => ?_; have e5 := (t2.2.2.2.2.2 hb).2; have e2 := (q2.resolve_left (by rw [hb]; simp)).2; omega)
        · have hk8 : q.kind = 8 ∨ q.kind = 10 := by omega
          have t2 := rdT_bd s a false ha
          have htA := tailD_asks hk8 c4
          rw [htl] at htA
          intro w1 hr
          refine (c_ttext w1 b9 s a a false (hr.at_ 0 rfl) ha ha hs1 (.inr rfl)).mono ?_
          rintro e w2 ⟨n2, a2, rfl, h1, hle2, q2, m1⟩
          refine ⟨[.s n2, .s s, .i a2, .b _], rfl, rfl, m1, List.forall_mem_cons.2 ⟨h1, List.forall_mem_nil _⟩, (fun x hx => absurd hx List.not_mem_nil), apart_nil, ?_⟩
          simp only [Tree.goal, X.P, X.ev, V.toI_i, V.toB_b, V.toS_s, V.toR_r, V.toV_v, V.toN_n, V.toL_l, SV.ev, CV.ev, Sc.ev, List.getD_cons_zero, List.getD_cons_succ, List.getElem?_cons_zero, List.getElem?_cons_succ, List.map_cons, List.map_nil, List.length_cons, List.length_nil, List.cons_append, List.nil_append, Nat.zero_add, Nat.reduceAdd, hz, ek, Int.toNat_natCast]
          clear m1 h1 hr
          have hT2 : rdT s a false = rdT s a false := rfl
          generalize hT : rdT s a false = T at t2 q2 htA ⊢
          intro b10
          refine ⟨fun k8 => ?_, fun k8 => ?_⟩
          · have hk8' : q.kind = 8 := by omega
            have t3 := rdN_bd s 1 T.2.1 T.2.2 t2.2.1
            have hA : rdA s q.kind a false = ((T.1, (rdN s 1 T.2.1 T.2.2).1), (rdN s 1 T.2.1 T.2.2).2) := by rw [rdA, if_pos hk8', hT]
            rw [hA] at htA
            intro w1 hr
            refine (c_tnumber w1 b9 s a2 T.2.1 T.2.2 (hr.at_ 1 rfl) hle2 t2.2.1 hs1 (q2.imp id (·.2)) 1 (by omega)).mono ?_
            rintro e w2 ⟨n3, a3, rfl, h1, hle3, q3, m1⟩
            refine ⟨[.i n3, .s s, .i a3, .b _], rfl, rfl, m1, List.forall_mem_cons.2 ⟨h1, List.forall_mem_nil _⟩, (fun x hx => absurd hx List.not_mem_nil), apart_nil, ?_⟩
            simp only [Tree.goal, X.P, X.ev, V.toI_i, V.toB_b, V.toS_s, V.toR_r, V.toV_v, V.toN_n, V.toL_l, SV.ev, CV.ev, Sc.ev, List.getD_cons_zero, List.getD_cons_succ, List.getElem?_cons_zero, List.getElem?_cons_succ, List.map_cons, List.map_nil, List.length_cons, List.length_nil, List.cons_append, List.nil_append, Nat.zero_add, Nat.reduceAdd, hz, ek, Int.toNat_natCast]
            clear m1 h1 hr
            generalize rdN s 1 T.2.1 T.2.2 = M at t3 q3 htA ⊢
            intro z1
            refine ⟨by (try simp only [List.length_map, List.length_nil, List.length_cons]); omega, fun z2 => ⟨⟨{ q with asks := q.asks ++ [(n2, n3)] }, { q with asks := q.asks ++ [(T.1, M.1)] }, a3, M.2.1, M.2.2, z2, y, by simp [encA], hle3, t3.2.2.2.1, ?_, fun hb => ?_, htA.symm, by rw [hrk]; exact hqk0⟩, ?_⟩⟩
            · cases hb : M.2.2 with
              | true => exact .inl rfl
              | false =>
                obtain ⟨b2, -⟩ := t3.2.2.2.2.2 hb
                obtain ⟨e1, -⟩ := q2.resolve_left (by rw [b2]; simp)
                obtain ⟨e3, e4⟩ := q3.resolve_left (by rw [hb]; simp)
                exact .inr ⟨by rw [e3, e1], e4⟩
            · obtain ⟨b2, e5⟩ := t3.2.2.2.2.2 hb
              obtain ⟨-, e4⟩ := t2.2.2.2.2 b2
              obtain ⟨e3, e2⟩ := q3.resolve_left (by rw [hb]; simp)
              simp only [List.length_append, List.length_cons, List.length_nil]
              omega
            · show rounds s a3 M.2.2 < rounds s a false
              refine rounds_lt c4 rfl fun hb => ?_
              obtain ⟨b2, e5⟩ := t3.2.2.2.2.2 hb
              obtain ⟨-, e4⟩ := t2.2.2.2.2 b2
              obtain ⟨e3, e2⟩ := q3.resolve_left (by rw [hb]; simp)
              omega
          · have hA : rdA s q.kind a false = ((T.1, 0), T.2) := by rw [rdA, if_neg (by omega), hT]
            rw [hA] at htA
            intro z1
            refine ⟨by (try simp only [List.length_map, List.length_nil, List.length_cons]); omega, fun z2 => ⟨⟨{ q with asks := q.asks ++ [(n2, 0)] }, { q with asks := q.asks ++ [(T.1, 0)] }, a2, T.2.1, T.2.2, z2, y, by simp [encA], hle2, t2.2.1, q2.imp id fun h => ⟨by rw [h.1], h.2⟩, fun hb => ?_, htA.symm, by rw [hrk]; exact hqk0⟩, ?_⟩⟩
            · obtain ⟨-, e4⟩ := t2.2.2.2.2 hb
              obtain ⟨e3, e2⟩ := q2.resolve_left (by rw [hb]; simp)
              simp only [List.length_append, List.length_cons, List.length_nil]
              omega
            · show rounds s a2 T.2.2 < rounds s a false
              refine rounds_lt c4 rfl fun hb => ?_
              obtain ⟨-, e4⟩ := t2.2.2.2.2 hb
              obtain ⟨e3, e2⟩ := q2.resolve_left (by rw [hb]; simp)
              omega
      · have hend : tailD s (q0, a0, bad) = (q0, a0, bad) := by
          refine tailD_end (by omega) fun hh => ?_
          obtain ⟨c1, c2, c3, c4⟩ := hh
          subst c3
          obtain ⟨rfl, rfl⟩ := hsim.resolve_left (by simp)
          exact hcond ⟨⟨⟨by omega, by omega⟩, by simp⟩, by omega⟩
        rw [hend, ← hro] at htl
        refine ⟨q, a, bad, x, y, rfl, by rw [← htl], ?_, by rw [hqk]; decide⟩
        rw [← htl]
        exact hsim.imp id (·.1)
    · have hkx : 12 ≤ knd s ∧ knd s ≤ 14 := by
        have : ¬ (knd s = 4 ∨ (8 ≤ knd s ∧ knd s ≤ 11)) := fun hh => h (hI.2 hh)
        omega
      rw [ha0]
      refine ⟨pD ((knd s : Nat) : Int), at0 s, false, nilV, nilV, rfl, ?_, .inr ?_, by rw [hqk]; decide⟩ <;> rw [read_x hkx]
  rintro _ - ⟨q, a, bad, x, y, rfl, hbad, hsim, hq1⟩
  simp only [Tree.goal, X.P, X.ev, V.toI_i, V.toB_b, V.toS_s, V.toR_r, V.toV_v, V.toN_n, V.toL_l, SV.ev, CV.ev, Sc.ev, List.getD_cons_zero, List.getD_cons_succ, List.getElem?_cons_zero, List.getElem?_cons_succ, List.map_cons, List.map_nil, List.length_cons, List.length_nil, List.cons_append, List.nil_append, Nat.zero_add, Nat.reduceAdd]
  have hbd := (readP_bd hl0).1
  refine ⟨[.s (bytesP q)], rfl, fun hg w' hr => ?_, ?_⟩
  · have hb : bad = false := by simpa using hg
    have hq := hsim.resolve_left (by rw [hb]; simp)
    exact c_RPacketBytes w' q x y (owns.reads (hr.at_ 3 rfl)) (owns.reads (hr.at_ 4 rfl)) (by rw [hq]; exact hbd.byte hs) (by rw [hq]; exact read_bare)
  simp only [Tree.goal, X.P, X.ev, V.toI_i, V.toB_b, V.toS_s, V.toR_r, V.toV_v, V.toN_n, V.toL_l, SV.ev, CV.ev, Sc.ev, List.getD_cons_zero, List.getD_cons_succ, List.getElem?_cons_zero, List.getElem?_cons_succ, List.map_cons, List.map_nil, List.length_cons, List.length_nil, List.cons_append, List.nil_append, Nat.zero_add, Nat.reduceAdd]
  refine ⟨fun h w' hr => ⟨nilV, nilV, ?_⟩, fun h => ?_⟩
  · have hB : (readP s).2.2 = true ∨ kindB (readP s).1.kind = false ∨ 1 < (readP s).1.qos ∨ bytesP (readP s).1 ≠ s := by
      cases hb : bad with
      | true => exact .inl (by rw [← hbad, hb])
      | false =>
        have hq := hsim.resolve_left (by rw [hb]; simp)
        rw [hb] at h
        rw [← hq]
        exact .inr (.inr (.inr (h.resolve_left (by simp))))
    rw [decD_B hl0 hB]
    exact ⟨rfl, decPost_nil hr.mod 0⟩
  have hb : bad = false := by
    cases hb : bad with
    | true => exact absurd (.inl hb) h
    | false => rfl
  have hq := hsim.resolve_left (by rw [hb]; simp)
  have hby : bytesP (readP s).1 = s := by rw [← hq]; exact Classical.not_not.1 fun hh => h (.inr hh)
  have hnB : ¬ ((readP s).2.2 = true ∨ kindB (readP s).1.kind = false ∨ 1 < (readP s).1.qos ∨ bytesP (readP s).1 ≠ s) := by
    rintro (hh | hh | hh | hh)
    · rw [← hbad, hb] at hh; cases hh
    · rw [read_kind, hkb] at hh; cases hh
    · exact hq1 hh
    · exact hh hby
  have hd : decD s = if chkP q = 0 then (q, 0) else (pD 0, chkP q) := by rw [decD, if_neg (s_ne hl0), if_neg hnB, ← hq]
  refine ⟨[.i (chkP q)], rfl, fun _ w' hr => c_CheckPacket w' q x y (owns.reads (hr.at_ 3 rfl)) (owns.reads (hr.at_ 4 rfl)) (by rw [hq]; exact hbd.small hs), ?_⟩
  simp only [Tree.goal, X.P, X.ev, V.toI_i, V.toB_b, V.toS_s, V.toR_r, V.toV_v, V.toN_n, V.toL_l, SV.ev, CV.ev, Sc.ev, List.getD_cons_zero, List.getD_cons_succ, List.getElem?_cons_zero, List.getElem?_cons_succ, List.map_cons, List.map_nil, List.length_cons, List.length_nil, List.cons_append, List.nil_append, Nat.zero_add, Nat.reduceAdd]
  refine ⟨fun h w' hr => ⟨nilV, nilV, ?_⟩, fun h w' hr => ⟨x, y, ?_⟩⟩
  · rw [hd, if_neg h]
    exact ⟨rfl, decPost_nil hr.mod 0⟩
  · have h := Classical.not_not.1 h
    rw [hd, if_pos h, h]
    exact ⟨rfl, hr.mod, owns.reads (hr.at_ 3 rfl), owns.reads (hr.at_ 4 rfl), fun k hk => (hr.own _ (List.mem_of_getElem? (i := 3) rfl) rfl k hk).resolve_right (by simp), fun k hk => (hr.own _ (List.mem_of_getElem? (i := 4) rfl) rfl k hk).resolve_right (by simp)⟩
end Go.Proofs.YtliedecinehijaaGreatDoor

/-
  Packets: the law PacketTells, walked. By an AI agent.
-/
set_option linter.unusedSimpArgs false
set_option linter.unusedVariables false
namespace Go.Proofs.YtliedecinehijaaGreatDoor
open Go.Sx
section
variable (w : World) (p : Pkt) (u v : Value)
theorem c_PacketTells (s : List UInt8) (hu : readsA w u p.asks) (hv : readsI w v p.codes) (hs : SmallP p) (hl : s.length ≤ 20000000) :
    Calls Tryz.prog 3 #[pV p u v, .string ⟨s.toArray⟩] w fun e w' => e = .returned (.bool true) ∧ Mod [] w w' := by
  refine as_called (run_tree2 (ρ := [.i p.kind, .b p.dup, .b p.retain, .b p.clean, .b p.session, .i p.qos, .i p.id, .i p.keep, .i p.code, .s p.client, .s p.topic, .s p.payload, .v u, .r (p.asks.map encA), .v v, .r (p.codes.map encI), .s s]) sxE_ok Tryz.func3 tree_dragomanlaw_PacketTells rfl rfl (Rel.start2 (by simp [Ent.holds, Ent.wr, hu, hv, X.ev])) rfl rfl ?_) rfl
  simp only [Tree.goal, X.P, X.ev, V.toI_i, V.toB_b, V.toS_s, V.toR_r, V.toV_v, V.toN_n, V.toL_l, SV.ev, CV.ev, Sc.ev, List.getD_cons_zero, List.getD_cons_succ, List.getElem?_cons_zero, List.getElem?_cons_succ, List.map_cons, List.map_nil, List.length_cons, List.length_nil, List.cons_append, List.nil_append, Nat.zero_add, Nat.reduceAdd]
  intro b1
  refine ⟨[.s (if chkP p = 0 then bytesP p else []), .i (chkP p)], rfl, fun _ w' hr => c_PEncode w' p u v (hr.at_ 1 rfl) (hr.at_ 2 rfl) hs, ?_⟩
  simp only [Tree.goal, X.P, X.ev, V.toI_i, V.toB_b, V.toS_s, V.toR_r, V.toV_v, V.toN_n, V.toL_l, SV.ev, CV.ev, Sc.ev, List.getD_cons_zero, List.getD_cons_succ, List.getElem?_cons_zero, List.getElem?_cons_succ, List.map_cons, List.map_nil, List.length_cons, List.length_nil, List.cons_append, List.nil_append, Nat.zero_add, Nat.reduceAdd]
  intro w1 hr
  refine (c_PDecode w1 s hl).mono ?_
  have hsm := @decD_small s hl
  rintro e w2 ⟨x, y, rfl, m, rx, ry, fx, fy⟩
  have hdd : ∀ w : World, Calls Tryz.prog 11 #[.string ⟨s.toArray⟩] w fun e w' => ∃ x y, e = .returned (.tuple #[pV (decD s).1 x y, .int .i64 (decD s).2]) ∧ decPost w w' (decD s).1 x y := fun w => c_PacketOf w s hl
  generalize decD s = r at rx ry hsm hdd ⊢
  obtain ⟨q, er⟩ := r
  refine ⟨[.i q.kind, .b q.dup, .b q.retain, .b q.clean, .b q.session, .i q.qos, .i q.id, .i q.keep, .i q.code, .s q.client, .s q.topic, .s q.payload, .v x, .r (q.asks.map encA), .v y, .r (q.codes.map encI), .i er], rfl, rfl, m, List.forall_mem_nil _, List.forall_mem_cons.2 ⟨⟨rx, fun k hk => .inl (fx k hk.2)⟩, List.forall_mem_cons.2 ⟨⟨ry, fun k hk => .inl (fy k hk.2)⟩, List.forall_mem_nil _⟩⟩, apart_ro2 (by simp [Ent.wr]), ?_⟩
  simp only [Tree.goal, X.P, X.ev, V.toI_i, V.toB_b, V.toS_s, V.toR_r, V.toV_v, V.toN_n, V.toL_l, SV.ev, CV.ev, Sc.ev, List.getD_cons_zero, List.getD_cons_succ, List.getElem?_cons_zero, List.getElem?_cons_succ, List.map_cons, List.map_nil, List.length_cons, List.length_nil, List.cons_append, List.nil_append, Nat.zero_add, Nat.reduceAdd]
  clear m hr
  intro b2
  refine ⟨[.i (chkP p)], rfl, fun _ w' hr => c_CheckPacket w' p u v (hr.at_ 4 rfl) (hr.at_ 5 rfl) hs, ?_⟩
  simp only [Tree.goal, X.P, X.ev, V.toI_i, V.toB_b, V.toS_s, V.toR_r, V.toV_v, V.toN_n, V.toL_l, SV.ev, CV.ev, Sc.ev, List.getD_cons_zero, List.getD_cons_succ, List.getElem?_cons_zero, List.getElem?_cons_succ, List.map_cons, List.map_nil, List.length_cons, List.length_nil, List.cons_append, List.nil_append, Nat.zero_add, Nat.reduceAdd]
  refine ⟨fun h => ?_, fun h => ?_⟩
  · have hB := byte_of h hs
    have hb := (chk_form h).1.bare
    refine ⟨[.s (bytesP p)], rfl, fun _ w' hr => c_RPacketBytes w' p u v (hr.at_ 4 rfl) (hr.at_ 5 rfl) hB hb, ?_⟩
    simp only [Tree.goal, X.P, X.ev, V.toI_i, V.toB_b, V.toS_s, V.toR_r, V.toV_v, V.toN_n, V.toL_l, SV.ev, CV.ev, Sc.ev, List.getD_cons_zero, List.getD_cons_succ, List.getElem?_cons_zero, List.getElem?_cons_succ, List.map_cons, List.map_nil, List.length_cons, List.length_nil, List.cons_append, List.nil_append, Nat.zero_add, Nat.reduceAdd]
    intro w1 hr; refine (hdd w1).mono ?_; rintro e w2 ⟨x2, y2, rfl, m, rx2, ry2, fx2, fy2⟩; refine ⟨[.i q.kind, .b q.dup, .b q.retain, .b q.clean, .b q.session, .i q.qos, .i q.id, .i q.keep, .i q.code, .s q.client, .s q.topic, .s q.payload, .v x2, .r (q.asks.map encA), .v y2, .r (q.codes.map encI), .i er], rfl, rfl, m, List.forall_mem_nil _, List.forall_mem_cons.2 ⟨⟨rx2, fun k hk => .inl (fx2 k hk.2)⟩, List.forall_mem_cons.2 ⟨⟨ry2, fun k hk => .inl (fy2 k hk.2)⟩, List.forall_mem_nil _⟩⟩, apart_ro2 (by simp [Ent.wr]), ?_⟩; simp only [Tree.goal, X.P, X.ev, V.toI_i, V.toB_b, V.toS_s, V.toR_r, V.toV_v, V.toN_n, V.toL_l, SV.ev, CV.ev, Sc.ev, List.getD_cons_zero, List.getD_cons_succ, List.getElem?_cons_zero, List.getElem?_cons_succ, List.map_cons, List.map_nil, List.length_cons, List.length_nil, List.cons_append, List.nil_append, Nat.zero_add, Nat.reduceAdd]; clear m hr; intro b3; refine ⟨[.b true], rfl, fun _ w' _ => c_packetBegun w', ?_⟩; simp only [Tree.goal, X.P, X.ev, V.toI_i, V.toB_b, V.toS_s, V.toR_r, V.toV_v, V.toN_n, V.toL_l, SV.ev, CV.ev, Sc.ev, List.getD_cons_zero, List.getD_cons_succ, List.getElem?_cons_zero, List.getElem?_cons_succ, List.map_cons, List.map_nil, List.length_cons, List.length_nil, List.cons_append, List.nil_append, Nat.zero_add, Nat.reduceAdd]; refine ⟨[.i (chkP p)], rfl, fun _ w' hr => c_PCheck w' p u v (hr.at_ 7 rfl) (hr.at_ 8 rfl) hs, ?_⟩; simp only [Tree.goal, X.P, X.ev, V.toI_i, V.toB_b, V.toS_s, V.toR_r, V.toV_v, V.toN_n, V.toL_l, SV.ev, CV.ev, Sc.ev, List.getD_cons_zero, List.getD_cons_succ, List.getElem?_cons_zero, List.getElem?_cons_succ, List.map_cons, List.map_nil, List.length_cons, List.length_nil, List.cons_append, List.nil_append, Nat.zero_add, Nat.reduceAdd]; refine ⟨[.b (decide (q = q))], rfl, fun _ w' hr => c_SamePacket w' q q x y x2 y2 (hr.at_ 4 rfl) (hr.at_ 5 rfl) (hr.at_ 1 rfl) (hr.at_ 2 rfl) hsm, ?_⟩; simp only [Tree.goal, X.P, X.ev, V.toI_i, V.toB_b, V.toS_s, V.toR_r, V.toV_v, V.toN_n, V.toL_l, SV.ev, CV.ev, Sc.ev, List.getD_cons_zero, List.getD_cons_succ, List.getElem?_cons_zero, List.getElem?_cons_succ, List.map_cons, List.map_nil, List.length_cons, List.length_nil, List.cons_append, List.nil_append, Nat.zero_add, Nat.reduceAdd]
    exact fun w' hr => ⟨by simp [h], hr.mod⟩
  · intro w1 hr; refine (hdd w1).mono ?_; rintro e w2 ⟨x2, y2, rfl, m, rx2, ry2, fx2, fy2⟩; refine ⟨[.i q.kind, .b q.dup, .b q.retain, .b q.clean, .b q.session, .i q.qos, .i q.id, .i q.keep, .i q.code, .s q.client, .s q.topic, .s q.payload, .v x2, .r (q.asks.map encA), .v y2, .r (q.codes.map encI), .i er], rfl, rfl, m, List.forall_mem_nil _, List.forall_mem_cons.2 ⟨⟨rx2, fun k hk => .inl (fx2 k hk.2)⟩, List.forall_mem_cons.2 ⟨⟨ry2, fun k hk => .inl (fy2 k hk.2)⟩, List.forall_mem_nil _⟩⟩, apart_ro2 (by simp [Ent.wr]), ?_⟩; simp only [Tree.goal, X.P, X.ev, V.toI_i, V.toB_b, V.toS_s, V.toR_r, V.toV_v, V.toN_n, V.toL_l, SV.ev, CV.ev, Sc.ev, List.getD_cons_zero, List.getD_cons_succ, List.getElem?_cons_zero, List.getElem?_cons_succ, List.map_cons, List.map_nil, List.length_cons, List.length_nil, List.cons_append, List.nil_append, Nat.zero_add, Nat.reduceAdd]; clear m hr; intro b3; refine ⟨[.b true], rfl, fun _ w' _ => c_packetBegun w', ?_⟩; simp only [Tree.goal, X.P, X.ev, V.toI_i, V.toB_b, V.toS_s, V.toR_r, V.toV_v, V.toN_n, V.toL_l, SV.ev, CV.ev, Sc.ev, List.getD_cons_zero, List.getD_cons_succ, List.getElem?_cons_zero, List.getElem?_cons_succ, List.map_cons, List.map_nil, List.length_cons, List.length_nil, List.cons_append, List.nil_append, Nat.zero_add, Nat.reduceAdd]; refine ⟨[.i (chkP p)], rfl, fun _ w' hr => c_PCheck w' p u v (hr.at_ 7 rfl) (hr.at_ 8 rfl) hs, ?_⟩; simp only [Tree.goal, X.P, X.ev, V.toI_i, V.toB_b, V.toS_s, V.toR_r, V.toV_v, V.toN_n, V.toL_l, SV.ev, CV.ev, Sc.ev, List.getD_cons_zero, List.getD_cons_succ, List.getElem?_cons_zero, List.getElem?_cons_succ, List.map_cons, List.map_nil, List.length_cons, List.length_nil, List.cons_append, List.nil_append, Nat.zero_add, Nat.reduceAdd]; refine ⟨[.b (decide (q = q))], rfl, fun _ w' hr => c_SamePacket w' q q x y x2 y2 (hr.at_ 4 rfl) (hr.at_ 5 rfl) (hr.at_ 1 rfl) (hr.at_ 2 rfl) hsm, ?_⟩; simp only [Tree.goal, X.P, X.ev, V.toI_i, V.toB_b, V.toS_s, V.toR_r, V.toV_v, V.toN_n, V.toL_l, SV.ev, CV.ev, Sc.ev, List.getD_cons_zero, List.getD_cons_succ, List.getElem?_cons_zero, List.getElem?_cons_succ, List.map_cons, List.map_nil, List.length_cons, List.length_nil, List.cons_append, List.nil_append, Nat.zero_add, Nat.reduceAdd]
    exact fun w' hr => ⟨by simp [h], hr.mod⟩
end
end Go.Proofs.YtliedecinehijaaGreatDoor

/-
  What a law's row wants of a walk that leaves all old memory as it was. By an AI agent.
-/
set_option linter.unusedSimpArgs false
set_option linter.unusedVariables false
namespace Go.Sx
open Go Go.ChangeShapes Go.WideShapes Go.ChangeAt Go.RowKit
section
variable {H : Type} {enc : TypeId × Value → H} {P : Program}

/-- No slice's element is without cells. -/
def solidB (P : Program) (ts : List TypeId) : Bool := ts.all fun t => match P.underlying t with | some (.slice e) => decide (0 < P.cellsOf e) | _ => true
/-- Closed under what a reading goes to. -/
def closedB (P : Program) (ts : List TypeId) : Bool := ts.all fun t => match P.underlying t with
  | some (.slice e) => ts.contains e
  | some (.pointer e) => ts.contains e
  | some (.array _ e) => ts.contains e
  | some (.map _ e) => ts.contains e
  | some (.struct fs) => fs.toList.all fun f => ts.contains f.type
  | _ => true

theorem kids_of (hl : laidOutB P = true) (hm : mapsRowed P = true) {ts : List TypeId} (hc : closedB P ts = true) (hs : ts.all (fun t => decide (t < P.types.size)) = true) : Kids P (· ∈ ts) := by
  have K := kids_rows hl hm
  have hs' : ∀ t ∈ ts, t < P.types.size := fun t ht => by simpa using List.all_eq_true.1 hs t ht
  have hc' := fun t ht => List.all_eq_true.1 hc t ht
  refine ⟨fun {t e} ht hu => ?_, fun {t e} ht hu => ?_, fun {t e n} ht hu => ⟨?_, (K.array (hs' t ht) hu).2⟩, fun {t fs} ht hu => ⟨?_, (K.struct (hs' t ht) hu).2⟩, fun {t k e} ht hu => ?_⟩
  · have := hc' t ht; rw [hu] at this; simpa using this
  · have := hc' t ht; rw [hu] at this; simpa using this
  · have := hc' t ht; rw [hu] at this; simpa using this
  · have := hc' t ht; rw [hu] at this; simp only [List.all_eq_true] at this; exact fun f hf => by simpa using this f hf
  · have := hc' t ht; rw [hu] at this; simpa using this

theorem sameAt_of_block {w w' : World} {p : MemPlace} (h : w'.heap[p.block]? = w.heap[p.block]?) : w.sameAt w' p := by
  cases p with
  | cell b off => exact World.cell?_of_block h
  | map b => exact h

theorem trodAll_stays {w w' : World} {sp : Nat → Bool} {T : TypeId → Prop} (K : Kids P T) (hsz : ∀ {t e : TypeId}, T t → P.underlying t = some (.slice e) → 0 < P.cellsOf e) :
    ∀ {ts : List TypeId} {vs : List Value} {ds : List (DataW H)} {ps : List MemPlace}, (∀ t ∈ ts, T t) → DataW.TrodAll enc P w 0 (fun _ => true) true ts vs ds ps →
      (∀ p ∈ ps, w.sameAt w' p) → (∀ p ∈ ps, sp p.block = true) → DataW.TrodAll enc P w' 0 sp true ts vs ds ps
  | [], _, _, _, _, h, _, _ => by
    obtain ⟨rfl, rfl, rfl⟩ := trodAll_nil h
    exact trodAll_mk0
  | t :: ts, _, _, _, ht, h, hs, hp => by
    obtain ⟨v, vs1, d, ds1, a, b, rfl, rfl, rfl, h1, h2⟩ := trodAll_cons h
    obtain ⟨n, h1⟩ := h1
    exact ⟨a, b, ⟨n, DataW.trod_stays K hsz (fun h => by cases h) (ht t (List.mem_cons_self ..)) h1 (fun p hp' => hs p (List.mem_append_left _ hp')) (fun p hp' => hp p (List.mem_append_left _ hp'))⟩,
      trodAll_stays K hsz (fun u hu => ht u (List.mem_cons_of_mem _ hu)) h2 (fun p hp' => hs p (List.mem_append_right _ hp')) (fun p hp' => hp p (List.mem_append_right _ hp')), rfl⟩

/-- A law that answered true, and left all old memory as it was. -/
theorem law_post {f : Func} {s : ChangeSpec} {fresh handsOn again : Bool} {W W' : World} {args : Array Value} {ds gs : List (DataW H)} {before : List MemPlace} {tb : TypeId} (ts : List TypeId)
    (hW : DataW.Whole enc P f.params.toList s.vars false W args.toList ds gs before) (hv : s.vars = [])
    (hr : f.resultTypes = #[tb]) (htb : P.underlying tb = some .bool) (hfn : gs = [] → (s.fn H ds).results = [.lit (.bool true)] ∧ (s.fn H ds).args = ds ∧ (s.fn H ds).vars = [])
    (hl : laidOutB P = true) (hm : mapsRowed P = true) (hc : closedB P ts = true) (hs : ts.all (fun t => decide (t < P.types.size)) = true) (hz : solidB P ts = true) (hp : f.params.toList.all ts.contains = true)
    (h : Mod [] W W') : s.post enc P f false fresh handsOn again W args (.bool true) W' := by
  have hW' := hW
  have hlt := hW.lt
  obtain ⟨p, q, hA, hV, rfl, hfz, hn⟩ := hW
  rw [hv] at hV
  obtain ⟨rfl, rfl⟩ := trodVars_none hV
  obtain ⟨f1, f2, f3⟩ := hfn rfl
  have K := kids_of hl hm hc hs
  have hsz : ∀ {t e : TypeId}, t ∈ ts → P.underlying t = some (.slice e) → 0 < P.cellsOf e := fun {t e} ht hu => by
    have := List.all_eq_true.1 hz t ht; rw [hu] at this; simpa using this
  have hT : ∀ t ∈ f.params.toList, t ∈ ts := fun t ht => by simpa using List.all_eq_true.1 hp t ht
  have hblk : ∀ k, k < W.heap.size → W'.heap[k]? = W.heap[k]? := fun k hk => h.block k hk (by simp)
  have hsame : ∀ x ∈ p, W.sameAt W' x := fun x hx => sameAt_of_block (hblk _ (hlt x (by simpa using hx)))
  have hargs : ∀ sp : Nat → Bool, (∀ x ∈ p, sp x.block = true) → DataW.TrodAll enc P W' 0 sp true f.params.toList args.toList (s.fn H (ds ++ [])).args p := fun sp hsp => by
    rw [List.append_nil, f2]; exact trodAll_stays K hsz hT hA hsame hsp
  have hres : ∀ (b : Nat) (sp : Nat → Bool) (hd : Bool), DataW.TrodAll enc P W' b sp hd f.resultTypes.toList ((Value.bool true).resultList f.resultTypes.size) (s.fn H (ds ++ [])).results [] := fun b sp hd => by
    rw [List.append_nil, f1, hr]; exact trodAll_cons_mk (shut_bool htb _) trodAll_mk0
  have hvars : ∀ sp : Nat → Bool, DataW.TrodVars enc P W' sp s.vars (s.fn H (ds ++ [])).vars [] := fun sp => by
    rw [List.append_nil, f3, hv]; rfl
  have hold : ∀ x ∈ p, (fun b => decide (b < W.heap.size)) x.block = true := fun x hx => by simpa using hlt x (by simpa using hx)
  refine ⟨ds, [], p ++ [], [], p, [], hW', hres _ _ _, hargs _ hold, hvars _, ⟨h.os, h.output, fun i hi => ?_⟩, fun _ => ⟨?_, [.lit (.bool true)] ++ ds, [], ([] ++ p) ++ [], ⟨[] ++ p, [], trodAll_append (by have := hargs (fun _ => true) (fun _ _ => rfl); rw [List.append_nil, f2] at this; exact this) (by have := hres 0 (fun _ => true) true; rw [List.append_nil, f1] at this; exact this), by rw [hv]; rfl, rfl, ?_, by simp⟩, ?_⟩⟩
  · have e := hblk i hi
    rw [e]
    cases W.heap[i]? with
    | none => rfl
    | some o => cases o <;> simp
  · exact ok_one hr rfl (okWide_bool_mk htb _)
  · intro b off hb
    have hb : MemPlace.cell b off ∈ p := by simpa using hb
    have hlt' := hlt _ (show MemPlace.cell b off ∈ p ++ [] by simpa using hb)
    have := hfz b off (by simpa using hb)
    simp only [World.frozen?, hblk b hlt'] at this ⊢
    exact this
  · intro x hx _
    simpa using hx
end
end Go.Sx
