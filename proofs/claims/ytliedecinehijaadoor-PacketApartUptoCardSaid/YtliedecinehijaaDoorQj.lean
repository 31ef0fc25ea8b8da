/-
  Packets: the reader, walked. By an AI agent.
-/
import Derived.Test.YtliedecinehijaaDoorQi
set_option linter.unusedSimpArgs false
set_option linter.unusedVariables false
namespace Go.Proofs.YtliedecinehijaaDoor
open Go.Sx

/-- The cells of a reader, of a packet. -/
def rdV (s : List UInt8) (a : Nat) (sh : Bool) : List Value := [.string ⟨s.toArray⟩, .int .i64 a, .bool sh]
abbrev rdAt (w : World) (b : Nat) (s : List UInt8) (a : Nat) (sh : Bool) : Prop := w.heap[b]? = some (.cells (rdV s a sh).toArray 94 (0, 0))
def pC (p : Pkt) (u v : Value) : List Value := [.int .i64 p.kind, .bool p.dup, .bool p.retain, .bool p.clean, .bool p.session, .int .i64 p.qos, .int .i64 p.id, .int .i64 p.keep, .int .i64 p.code, .string ⟨p.client.toArray⟩, .string ⟨p.topic.toArray⟩, .string ⟨p.payload.toArray⟩, Go.Sx.sc1 u, Go.Sx.sc1 v]
abbrev pAt (w : World) (b : Nat) (p : Pkt) (u v : Value) : Prop := w.heap[b]? = some (.cells (pC p u v).toArray 25 (0, 0))
theorem rel_of {w : World} {ρ : List V} {hp : List Ent} {fp : List Nat} (hh : ∀ e ∈ hp, e.holds ρ w) (ho : ∀ e ∈ hp, e.wr = true → ∀ k, e.fp ρ k → k ∈ fp) (hs : Apart ρ hp) : Rel ⟨fp, w⟩ ρ hp w :=
  ⟨Mod.refl _ _, hh, fun e he hw k hk => .inr (ho e he hw k hk), hs⟩
section
variable (w : World) (b : Nat) (s : List UInt8) (a : Nat) (sh : Bool) (h : rdAt w b s a sh) (ha : a ≤ s.length) (hs : s.length < 1000000000)
include h
theorem rel_r {k : V} : Rel ⟨[b], w⟩ [.n b, .s s, .i a, .b sh, k] [.cells 0 94 [.str (.var 1), .int .i64 (.var 2), .bool (.var 3)]] w :=
  rel_of (List.forall_mem_cons.2 ⟨h, List.forall_mem_nil _⟩) (List.forall_mem_cons.2 ⟨fun _ k hk => by simp only [Ent.fp, Tree.goal, X.P, X.ev, V.toI_i, V.toB_b, V.toS_s, V.toR_r, V.toV_v, V.toN_n, V.toL_l, SV.ev, CV.ev, Sc.ev, List.getD_cons_zero, List.getD_cons_succ, List.getElem?_cons_zero, List.getElem?_cons_succ, List.map_cons, List.map_nil, List.length_cons, List.length_nil, List.cons_append, List.nil_append, Nat.zero_add, Nat.reduceAdd] at hk; simp [hk], List.forall_mem_nil _⟩) apart_one
theorem rel_r4 : Rel ⟨[b], w⟩ [.n b, .s s, .i a, .b sh] [.cells 0 94 [.str (.var 1), .int .i64 (.var 2), .bool (.var 3)]] w :=
  rel_of (List.forall_mem_cons.2 ⟨h, List.forall_mem_nil _⟩) (List.forall_mem_cons.2 ⟨fun _ k hk => by simp only [Ent.fp, Tree.goal, X.P, X.ev, V.toI_i, V.toB_b, V.toS_s, V.toR_r, V.toV_v, V.toN_n, V.toL_l, SV.ev, CV.ev, Sc.ev, List.getD_cons_zero, List.getD_cons_succ, List.getElem?_cons_zero, List.getElem?_cons_succ, List.map_cons, List.map_nil, List.length_cons, List.length_nil, List.cons_append, List.nil_append, Nat.zero_add, Nat.reduceAdd] at hk; simp [hk], List.forall_mem_nil _⟩) apart_one
include ha
theorem c_rleft : Calls Tryd.prog 92 #[.pointer (some ⟨b, 0, none⟩)] w
    fun e w' => e = .returned (.string ⟨(s.drop a).toArray⟩) ∧ rdAt w' b s s.length sh ∧ Mod [b] w w' := by
  refine as_called (run_tree2 (ρ := [.n b, .s s, .i a, .b sh]) sxE_ok Tryd.func92 tree_packet_reader_left rfl rfl (rel_r4 w b s a sh h) rfl rfl ?_) rfl
  simp only [Tree.goal, X.P, X.ev, V.toI_i, V.toB_b, V.toS_s, V.toR_r, V.toV_v, V.toN_n, V.toL_l, SV.ev, CV.ev, Sc.ev, List.getD_cons_zero, List.getD_cons_succ, List.getElem?_cons_zero, List.getElem?_cons_succ, List.map_cons, List.map_nil, List.length_cons, List.length_nil, List.cons_append, List.nil_append, Nat.zero_add, Nat.reduceAdd]
  refine ⟨by omega, by omega, fun w' hr => ⟨by simp, hr.at_ 0 rfl, hr.mod⟩⟩
include hs
theorem c_rnumber (k : Nat) (hk : 1 ≤ k ∧ k ≤ 4) : Calls Tryd.prog 90 #[.pointer (some ⟨b, 0, none⟩), .int .i64 k] w
    fun e w' => e = .returned (.int .i64 (rdN s k a sh).1) ∧ rdAt w' b s (rdN s k a sh).2.1 (rdN s k a sh).2.2 ∧ Mod [b] w w' := by
  refine as_called (run_tree2 (ρ := [.n b, .s s, .i a, .b sh, .i k]) sxE_ok Tryd.func90 tree_packet_reader_number rfl rfl (rel_r w b s a sh h) rfl rfl ?_) rfl
  simp only [Tree.goal, X.P, X.ev, V.toI_i, V.toB_b, V.toS_s, V.toR_r, V.toV_v, V.toN_n, V.toL_l, SV.ev, CV.ev, Sc.ev, List.getD_cons_zero, List.getD_cons_succ, List.getElem?_cons_zero, List.getElem?_cons_succ, List.map_cons, List.map_nil, List.length_cons, List.length_nil, List.cons_append, List.nil_append, Nat.zero_add, Nat.reduceAdd]
  refine ⟨[.i (getR s a k).1, .i (getR s a k).2], rfl, fun _ w' _ => c_Get w' s a k (by omega), ?_⟩
  simp only [Tree.goal, X.P, X.ev, V.toI_i, V.toB_b, V.toS_s, V.toR_r, V.toV_v, V.toN_n, V.toL_l, SV.ev, CV.ev, Sc.ev, List.getD_cons_zero, List.getD_cons_succ, List.getElem?_cons_zero, List.getElem?_cons_succ, List.map_cons, List.map_nil, List.length_cons, List.length_nil, List.cons_append, List.nil_append, Nat.zero_add, Nat.reduceAdd]
  refine ⟨by omega, by omega, fun w' hr => ?_⟩
  have hc := hr.at_ 0 rfl
  simp only [Ent.holds, Tree.goal, X.P, X.ev, V.toI_i, V.toB_b, V.toS_s, V.toR_r, V.toV_v, V.toN_n, V.toL_l, SV.ev, CV.ev, Sc.ev, List.getD_cons_zero, List.getD_cons_succ, List.getElem?_cons_zero, List.getElem?_cons_succ, List.map_cons, List.map_nil, List.length_cons, List.length_nil, List.cons_append, List.nil_append, Nat.zero_add, Nat.reduceAdd] at hc
  by_cases hh : a + k ≤ s.length
  · have e1 : getR s a k = (((beN ((s.drop a).take k) 0 : Nat) : Int), 0) := by
      have := getR_ok (s := s) (at_ := a) (b := k) (by omega) (by omega) (by omega)
      simpa using this
    have e2 : rdN s k a sh = (((beN ((s.drop a).take k) 0 : Nat) : Int), a + k, sh) := by rw [rdN, if_pos hh]
    rw [e1] at hc ⊢
    rw [e2]
    refine ⟨rfl, ?_, hr.mod⟩
    have e3 : (if (a : Int) + (k : Int) < (s.length : Int) then (a : Int) + (k : Int) else (s.length : Int)) = ((a + k : Nat) : Int) := by split <;> omega
    rw [e3] at hc
    rw [rdAt, hc]; simp [rdV]
  · have e1 : getR s a k = (0, 8) := getR_short (by omega) (by omega) (by omega)
    have e2 : rdN s k a sh = (0, s.length, true) := by rw [rdN, if_neg hh]
    rw [e1] at hc ⊢
    rw [e2]
    refine ⟨rfl, ?_, hr.mod⟩
    have e3 : (if (a : Int) + (k : Int) < (s.length : Int) then (a : Int) + (k : Int) else (s.length : Int)) = ((s.length : Nat) : Int) := by split <;> omega
    rw [e3] at hc
    rw [rdAt, hc]; simp [rdV]
theorem c_rtext : Calls Tryd.prog 91 #[.pointer (some ⟨b, 0, none⟩)] w
    fun e w' => e = .returned (.string ⟨(rdT s a sh).1.toArray⟩) ∧ rdAt w' b s (rdT s a sh).2.1 (rdT s a sh).2.2 ∧ Mod [b] w w' := by
  refine as_called (run_tree2 (ρ := [.n b, .s s, .i a, .b sh]) sxE_ok Tryd.func91 tree_packet_reader_text rfl rfl (rel_r4 w b s a sh h) rfl rfl ?_) rfl
  simp only [Tree.goal, X.P, X.ev, V.toI_i, V.toB_b, V.toS_s, V.toR_r, V.toV_v, V.toN_n, V.toL_l, SV.ev, CV.ev, Sc.ev, List.getD_cons_zero, List.getD_cons_succ, List.getElem?_cons_zero, List.getElem?_cons_succ, List.map_cons, List.map_nil, List.length_cons, List.length_nil, List.cons_append, List.nil_append, Nat.zero_add, Nat.reduceAdd]
  refine ⟨[.s (getT s a).1, .i (getT s a).2.1, .i (getT s a).2.2], rfl, fun _ w' _ => c_GetText w' s a (by omega), ?_⟩
  simp only [Tree.goal, X.P, X.ev, V.toI_i, V.toB_b, V.toS_s, V.toR_r, V.toV_v, V.toN_n, V.toL_l, SV.ev, CV.ev, Sc.ev, List.getD_cons_zero, List.getD_cons_succ, List.getElem?_cons_zero, List.getElem?_cons_succ, List.map_cons, List.map_nil, List.length_cons, List.length_nil, List.cons_append, List.nil_append, Nat.zero_add, Nat.reduceAdd]
  have key : ((a : Int) + (getT s a).2.1 = ((rdT s a sh).2.1 : Nat)) ∧ (getT s a).1 = (rdT s a sh).1 ∧ (sh || !decide ((getT s a).2.2 = 0)) = (rdT s a sh).2.2 := by
    by_cases h2 : a + 2 ≤ s.length
    · have e1 : getR s a 2 = (((beN ((s.drop a).take 2) 0 : Nat) : Int), 0) := by
        have := getR_ok (s := s) (at_ := a) (b := 2) (by omega) (by omega) (by omega)
        simpa using this
      rw [getT, e1, if_pos rfl, rdT]
      simp only
      by_cases h3 : a + 2 + beN ((s.drop a).take 2) 0 ≤ s.length
      · rw [if_neg (by omega), if_pos ⟨h2, h3⟩]
        refine ⟨by simp only; omega, ?_, by simp⟩
        have e3 : ((a : Int) + 2 + ((beN ((s.drop a).take 2) 0 : Nat) : Int)).toNat = a + 2 + beN ((s.drop a).take 2) 0 := by omega
        have e4 : ((a : Int) + 2).toNat = a + 2 := by omega
        simp only [e3, e4]
        rw [List.drop_take]
        congr 1
        omega
      · rw [if_pos (by omega), if_neg (by omega)]
        exact ⟨by simp, rfl, by simp⟩
    · have e1 : getR s a 2 = (0, 8) := getR_short (by omega) (by omega) (by omega)
      rw [getT, e1, if_neg (by simp), rdT, if_neg (by omega)]
      exact ⟨by simp, rfl, by simp⟩
  obtain ⟨k1, k2, k3⟩ := key
  have kb := rdT_bd s a sh ha
  rw [k1]
  refine ⟨by omega, by omega, fun w' hr => ?_⟩
  have hc := hr.at_ 0 rfl
  simp only [Ent.holds, Tree.goal, X.P, X.ev, V.toI_i, V.toB_b, V.toS_s, V.toR_r, V.toV_v, V.toN_n, V.toL_l, SV.ev, CV.ev, Sc.ev, List.getD_cons_zero, List.getD_cons_succ, List.getElem?_cons_zero, List.getElem?_cons_succ, List.map_cons, List.map_nil, List.length_cons, List.length_nil, List.cons_append, List.nil_append, Nat.zero_add, Nat.reduceAdd] at hc
  rw [k1, k3] at hc
  exact ⟨by rw [k2], hc, hr.mod⟩
end
end Go.Proofs.YtliedecinehijaaDoor
