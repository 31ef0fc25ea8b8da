/-
  The law MessageMore, walked. By an AI agent.
-/
import Derived.Test.YtpcdkcbniokdgaaMh
set_option linter.unusedSimpArgs false
set_option linter.unusedVariables false
namespace Go.Proofs.Ytpcdkcbniokdgaa
open Go.Sx

theorem optsB_snoc (o : Opt) : ∀ (os : List Opt) (was : Int), ∃ l, optsB was (os ++ [o]) = optsB was os ++ (optB l o)
  | [], was => ⟨was, by simp [optsB]⟩
  | x :: os, was => by
    obtain ⟨l, h⟩ := optsB_snoc o os x.1
    exact ⟨l, by simp [optsB, h]⟩
theorem msgB_pay (m : Msg) (p : List UInt8) : msgB { m with pay := p } = msgB { m with pay := [] } ++ (if p = [] then [] else 255 :: p) := by
  simp only [msgB, if_true, List.append_nil]
theorem msgB_opt (m : Msg) (o : Opt) : ∃ y, msgB { m with pay := [], opts := m.opts ++ [o] } = msgB { m with pay := [] } ++ (y ++ o.2) ∧ 0 < y.length := by
  obtain ⟨l, h⟩ := optsB_snoc o m.opts 0
  refine ⟨numB 1 (16 * (halfP (o.1 - l)).1 + (halfP o.2.length).1) ++ (halfP (o.1 - l)).2 ++ (halfP o.2.length).2, ?_, by simp [numB_len]; omega⟩
  simp only [msgB, if_true, List.append_nil, h, optB, List.append_assoc]

set_option maxRecDepth 10000 in
set_option maxHeartbeats 1000000 in
theorem c_MessageMore (w : World) (m : Msg) (v : Value) (p : List UInt8) (o : Opt) (hv : readsO w v m.opts) (hl : m.opts.length < 1000000000) (ht : m.tok.length < 1099511627776) (hp : p.length < 1099511627776) (ho : o.2.length < 1099511627776) :
    Calls Try.prog 8 #[mV m (sc1 v), .string ⟨p.toArray⟩, .agg #[.int .i64 o.1, .string ⟨o.2.toArray⟩]] w fun e w' => e = .returned (.bool true) ∧ Mod [] w w' := by
  refine as_called (run_tree2 (ρ := [.i m.kind, .i m.code, .i m.id, .s m.tok, .v v, .r (m.opts.map encO), .s m.pay, .s p, .i o.1, .s o.2]) sxE_ok Try.func8 tree_dragomanlaw_MessageMore rfl rfl (Rel.start2 (by simp [Ent.holds, Ent.wr, hv, X.ev])) rfl rfl ?_) rfl
  simp only [Tree.goal, X.P, X.ev, V.toI_i, V.toB_b, V.toS_s, V.toR_r, V.toV_v, V.toN_n, V.toL_l, SV.ev, CV.ev, Sc.ev, List.getD_cons_zero, List.getD_cons_succ, List.getElem?_cons_zero, List.getElem?_cons_succ, List.map_cons, List.map_nil, List.length_cons, List.length_nil, List.cons_append, List.nil_append, Nat.zero_add, Nat.reduceAdd]
  intro b1 b2
  refine ⟨[.b true], rfl, fun _ w' _ => c_messageBegun w', ?_⟩
  simp only [Tree.goal, X.P, X.ev, V.toI_i, V.toB_b, V.toS_s, V.toR_r, V.toV_v, V.toN_n, V.toL_l, SV.ev, CV.ev, Sc.ev, List.getD_cons_zero, List.getD_cons_succ, List.getElem?_cons_zero, List.getElem?_cons_succ, List.map_cons, List.map_nil, List.length_cons, List.length_nil, List.cons_append, List.nil_append, Nat.zero_add, Nat.reduceAdd]
  refine ⟨fun h => absurd trivial h, fun _ => ?_⟩
  intro b3
  let mx : Msg := { m with pay := [] }
  let my : Msg := { m with pay := p }
  let mz : Msg := { m with pay := [], opts := m.opts ++ [o] }
  have hrow : (m.opts.map encO) ++ [[Value.int .i64 o.1, .string ⟨o.2.toArray⟩]] = (m.opts ++ [o]).map encO := by simp [encO]
  have hrlen : (m.opts.map encO).length = m.opts.length := by simp
  obtain ⟨y, hy, hy0⟩ := msgB_opt m o
  have hy : msgB mz = msgB mx ++ (y ++ o.2) := hy
  refine ⟨[.s (encR mx).1, .i (encR mx).2], rfl, fun _ w' hr => c_Encode w' mx v (hr.at_ 3 rfl) (by simp only [mx]; omega) ht (by simp [mx]), ?_⟩
  simp only [Tree.goal, X.P, X.ev, V.toI_i, V.toB_b, V.toS_s, V.toR_r, V.toV_v, V.toN_n, V.toL_l, SV.ev, CV.ev, Sc.ev, List.getD_cons_zero, List.getD_cons_succ, List.getElem?_cons_zero, List.getElem?_cons_succ, List.map_cons, List.map_nil, List.length_cons, List.length_nil, List.cons_append, List.nil_append, Nat.zero_add, Nat.reduceAdd]
  by_cases hx : chk mx = 0
  · have ex : encR mx = (msgB mx, 0) := by rw [encR, if_pos hx]
    rw [ex]
    simp only
    refine ⟨fun h => absurd trivial h, fun _ => ?_⟩
    have hxl := msgB_len hx
    intro b4
    refine ⟨[.s (encR my).1, .i (encR my).2], rfl, fun _ w' hr => c_Encode w' my v (hr.at_ 4 rfl) (by simp only [my]; omega) ht hp, ?_⟩
    simp only [Tree.goal, X.P, X.ev, V.toI_i, V.toB_b, V.toS_s, V.toR_r, V.toV_v, V.toN_n, V.toL_l, SV.ev, CV.ev, Sc.ev, List.getD_cons_zero, List.getD_cons_succ, List.getElem?_cons_zero, List.getElem?_cons_succ, List.map_cons, List.map_nil, List.length_cons, List.length_nil, List.cons_append, List.nil_append, Nat.zero_add, Nat.reduceAdd, List.length_append, List.length_cons, List.length_nil, Nat.zero_add]
    refine ⟨.inr (by omega), .inr (by omega), fun h => ?_, fun _ => ?_⟩
    · exfalso
      obtain ⟨⟨h1, h2⟩, h3⟩ := h
      by_cases hyc : chk my = 0
      · have ey : encR my = (msgB my, 0) := by rw [encR, if_pos hyc]
        rw [ey] at h3
        refine h3 ?_
        show msgB { m with pay := p } = msgB { m with pay := [] } ++ [255] ++ p
        rw [msgB_pay m p, if_neg h2]
        simp
      · have ey : encR my = ([], chk my) := by rw [encR, if_neg hyc]
        rw [ey] at h1
        exact hyc h1
    · intro b5
      refine ⟨fun va => ⟨⟨by omega, fun vb vc => ⟨by omega, fun vd => ?_⟩⟩, fun vb => ⟨by omega, fun vc => ⟨by omega, fun vd => ?_⟩⟩⟩, fun va vb => ⟨by omega, fun vc => ⟨by omega, fun vd => ?_⟩⟩⟩
      · refine ⟨[.s (encR mz).1, .i (encR mz).2], rfl, fun _ w' hr => ?_, ?_⟩; (· have hq := owns.reads (hr.at_ 0 rfl); simp only [Ent.holds, Tree.goal, X.P, X.ev, V.toI_i, V.toB_b, V.toS_s, V.toR_r, V.toV_v, V.toN_n, V.toL_l, SV.ev, CV.ev, Sc.ev, List.getD_cons_zero, List.getD_cons_succ, List.getElem?_cons_zero, List.getElem?_cons_succ, List.map_cons, List.map_nil, List.length_cons, List.length_nil, List.cons_append, List.nil_append, Nat.zero_add, Nat.reduceAdd, hrow] at hq; exact c_Encode w' mz _ hq (by simp [mz]; omega) ht (by simp [mz])); simp only [Tree.goal, X.P, X.ev, V.toI_i, V.toB_b, V.toS_s, V.toR_r, V.toV_v, V.toN_n, V.toL_l, SV.ev, CV.ev, Sc.ev, List.getD_cons_zero, List.getD_cons_succ, List.getElem?_cons_zero, List.getElem?_cons_succ, List.map_cons, List.map_nil, List.length_cons, List.length_nil, List.cons_append, List.nil_append, Nat.zero_add, Nat.reduceAdd]; by_cases hz : chk mz = 0; (· have ez : encR mz = (msgB mz, 0) := (by rw [encR, if_pos hz]); rw [ez]; simp only; refine ⟨fun h => absurd trivial h, fun _ => ?_⟩; have hzl := msgB_len hz; rw [hy] at hzl ⊢; simp only [List.length_append] at hzl ⊢; refine ⟨by omega, .inr (by omega), .inr (by omega), .inr (by omega), .inr (by omega), .inr (by omega), fun w' hr => ⟨?_, hr.mod⟩⟩; simp only [Ending.returned.injEq, Value.bool.injEq, Bool.and_eq_true, decide_eq_true_eq]; refine ⟨⟨by omega, ?_⟩, ?_⟩; (· simp); (· have e9 : (((msgB mx).length + (y.length + o.2.length) : Nat) : Int) - (o.2.length : Int) = (((msgB mx).length + y.length : Nat) : Int) := (by omega); rw [List.take_of_length_le (by simp only [List.length_append]; omega), show ((((msgB mx).length + (y.length + o.2.length) : Nat) : Int) - (o.2.length : Int)).toNat = (msgB mx ++ y).length by (rw [List.length_append]; omega), ← List.append_assoc, List.drop_left])); (· have ez : encR mz = ([], chk mz) := (by rw [encR, if_neg hz]); rw [ez]; simp only; exact ⟨fun _ w' hr => ⟨by trivial, hr.mod⟩, fun h => absurd hz h⟩)
      · refine ⟨[.s (encR mz).1, .i (encR mz).2], rfl, fun _ w' hr => ?_, ?_⟩; (· have hq := owns.reads (hr.at_ 0 rfl); simp only [Ent.holds, Tree.goal, X.P, X.ev, V.toI_i, V.toB_b, V.toS_s, V.toR_r, V.toV_v, V.toN_n, V.toL_l, SV.ev, CV.ev, Sc.ev, List.getD_cons_zero, List.getD_cons_succ, List.getElem?_cons_zero, List.getElem?_cons_succ, List.map_cons, List.map_nil, List.length_cons, List.length_nil, List.cons_append, List.nil_append, Nat.zero_add, Nat.reduceAdd, hrow] at hq; exact c_Encode w' mz _ hq (by simp [mz]; omega) ht (by simp [mz])); simp only [Tree.goal, X.P, X.ev, V.toI_i, V.toB_b, V.toS_s, V.toR_r, V.toV_v, V.toN_n, V.toL_l, SV.ev, CV.ev, Sc.ev, List.getD_cons_zero, List.getD_cons_succ, List.getElem?_cons_zero, List.getElem?_cons_succ, List.map_cons, List.map_nil, List.length_cons, List.length_nil, List.cons_append, List.nil_append, Nat.zero_add, Nat.reduceAdd]; by_cases hz : chk mz = 0; (· have ez : encR mz = (msgB mz, 0) := (by rw [encR, if_pos hz]); rw [ez]; simp only; refine ⟨fun h => absurd trivial h, fun _ => ?_⟩; have hzl := msgB_len hz; rw [hy] at hzl ⊢; simp only [List.length_append] at hzl ⊢; refine ⟨by omega, .inr (by omega), .inr (by omega), .inr (by omega), .inr (by omega), .inr (by omega), fun w' hr => ⟨?_, hr.mod⟩⟩; simp only [Ending.returned.injEq, Value.bool.injEq, Bool.and_eq_true, decide_eq_true_eq]; refine ⟨⟨by omega, ?_⟩, ?_⟩; (· simp); (· have e9 : (((msgB mx).length + (y.length + o.2.length) : Nat) : Int) - (o.2.length : Int) = (((msgB mx).length + y.length : Nat) : Int) := (by omega); rw [List.take_of_length_le (by simp only [List.length_append]; omega), show ((((msgB mx).length + (y.length + o.2.length) : Nat) : Int) - (o.2.length : Int)).toNat = (msgB mx ++ y).length by (rw [List.length_append]; omega), ← List.append_assoc, List.drop_left])); (· have ez : encR mz = ([], chk mz) := (by rw [encR, if_neg hz]); rw [ez]; simp only; exact ⟨fun _ w' hr => ⟨by trivial, hr.mod⟩, fun h => absurd hz h⟩)
      · refine ⟨[.s (encR mz).1, .i (encR mz).2], rfl, fun _ w' hr => ?_, ?_⟩; (· have hq := owns.reads (hr.at_ 0 rfl); simp only [Ent.holds, Tree.goal, X.P, X.ev, V.toI_i, V.toB_b, V.toS_s, V.toR_r, V.toV_v, V.toN_n, V.toL_l, SV.ev, CV.ev, Sc.ev, List.getD_cons_zero, List.getD_cons_succ, List.getElem?_cons_zero, List.getElem?_cons_succ, List.map_cons, List.map_nil, List.length_cons, List.length_nil, List.cons_append, List.nil_append, Nat.zero_add, Nat.reduceAdd, hrow] at hq; exact c_Encode w' mz _ hq (by simp [mz]; omega) ht (by simp [mz])); simp only [Tree.goal, X.P, X.ev, V.toI_i, V.toB_b, V.toS_s, V.toR_r, V.toV_v, V.toN_n, V.toL_l, SV.ev, CV.ev, Sc.ev, List.getD_cons_zero, List.getD_cons_succ, List.getElem?_cons_zero, List.getElem?_cons_succ, List.map_cons, List.map_nil, List.length_cons, List.length_nil, List.cons_append, List.nil_append, Nat.zero_add, Nat.reduceAdd]; by_cases hz : chk mz = 0; (· have ez : encR mz = (msgB mz, 0) := (by rw [encR, if_pos hz]); rw [ez]; simp only; refine ⟨fun h => absurd trivial h, fun _ => ?_⟩; have hzl := msgB_len hz; rw [hy] at hzl ⊢; simp only [List.length_append] at hzl ⊢; refine ⟨by omega, .inr (by omega), .inr (by omega), .inr (by omega), .inr (by omega), .inr (by omega), fun w' hr => ⟨?_, hr.mod⟩⟩; simp only [Ending.returned.injEq, Value.bool.injEq, Bool.and_eq_true, decide_eq_true_eq]; refine ⟨⟨by omega, ?_⟩, ?_⟩; (· simp); (· have e9 : (((msgB mx).length + (y.length + o.2.length) : Nat) : Int) - (o.2.length : Int) = (((msgB mx).length + y.length : Nat) : Int) := (by omega); rw [List.take_of_length_le (by simp only [List.length_append]; omega), show ((((msgB mx).length + (y.length + o.2.length) : Nat) : Int) - (o.2.length : Int)).toNat = (msgB mx ++ y).length by (rw [List.length_append]; omega), ← List.append_assoc, List.drop_left])); (· have ez : encR mz = ([], chk mz) := (by rw [encR, if_neg hz]); rw [ez]; simp only; exact ⟨fun _ w' hr => ⟨by trivial, hr.mod⟩, fun h => absurd hz h⟩)
  · have ex : encR mx = ([], chk mx) := by rw [encR, if_neg hx]
    rw [ex]
    simp only
    exact ⟨fun _ w' hr => ⟨by trivial, hr.mod⟩, fun h => absurd hx h⟩
end Go.Proofs.Ytpcdkcbniokdgaa
