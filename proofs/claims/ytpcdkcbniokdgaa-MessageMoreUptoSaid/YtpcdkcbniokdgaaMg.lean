/-
  The law MessageTells, walked. By an AI agent.
-/
import Derived.Test.YtpcdkcbniokdgaaMf
set_option linter.unusedSimpArgs false
set_option linter.unusedVariables false
namespace Go.Proofs.Ytpcdkcbniokdgaa
open Go.Sx
theorem dec_chk (s : List UInt8) : ((dec s).2 = 0 ∧ chk (dec s).1 = 0) ∨ ((dec s).2 ≠ 0 ∧ (dec s).1 = mNil) := by
  have hc : ∀ m : Msg, ((chkd m).2 = 0 ∧ chk (chkd m).1 = 0) ∨ ((chkd m).2 ≠ 0 ∧ (chkd m).1 = mNil) := fun m => by
    unfold chkd
    by_cases h : chk m = 0
    · rw [if_pos h]; exact .inl ⟨rfl, h⟩
    · rw [if_neg h]; exact .inr ⟨h, rfl⟩
  unfold dec
  split
  · exact .inr ⟨by decide, rfl⟩
  · split
    · exact .inr ⟨by decide, rfl⟩
    · split
      · exact .inr ⟨by decide, rfl⟩
      · rename_i os r _
        rcases r with _ | ⟨c, p⟩
        · exact hc _
        · simp only [finM]
          split
          · exact .inr ⟨by decide, rfl⟩
          · exact hc _
theorem dec_len (s : List UInt8) : (dec s).1.opts.length ≤ 12 ∧ (dec s).1.tok.length ≤ 8 ∧ (dec s).1.pay.length ≤ 200 := by
  rcases dec_chk s with h | h
  · have := (chk_ok.1 h.2).2.2.1; omega
  · rw [h.2]; exact ⟨by decide, by decide, by decide⟩
/-- The atoms of what is read. -/
abbrev decV (s : List UInt8) (v : Value) : List V := [.i (dec s).1.kind, .i (dec s).1.code, .i (dec s).1.id, .s (dec s).1.tok, .v v, .r ((dec s).1.opts.map encO), .s (dec s).1.pay, .i (dec s).2]
abbrev getV (v : Value) : List V := [.i mGet.kind, .i mGet.code, .i mGet.id, .s mGet.tok, .v v, .r (mGet.opts.map encO), .s mGet.pay]
theorem encGet : encR mGet = ([65, 1, 1, 2, 116, 96, 81, 97, 1, 98], 0) := by rw [encR, if_pos mGet_chk, mGet_bytes]

set_option maxRecDepth 10000 in
theorem c_messageBegun (w : World) : Calls Try.prog 32 #[] w fun e w' => e = .returned (.bool true) ∧ Mod [] w w' := by
  refine as_called (run_plain2 (ρ := []) sxE_ok Try.func32 tree_dragomanlaw_messageBegun rfl rfl rfl ?_) rfl
  simp only [Tree.goal, X.P, X.ev, V.toI_i, V.toB_b, V.toS_s, V.toR_r, V.toV_v, V.toN_n, V.toL_l, SV.ev, CV.ev, Sc.ev, List.getD_cons_zero, List.getD_cons_succ, List.getElem?_cons_zero, List.getElem?_cons_succ, List.map_cons, List.map_nil, List.length_cons, List.length_nil, List.cons_append, List.nil_append, Nat.zero_add, Nat.reduceAdd]
  intro w1 hr
  refine (c_get w1).mono ?_
  rintro e w2 ⟨v1, rfl, r1, f1, m1⟩
  refine ⟨getV v1, rfl, rfl, m1, List.forall_mem_nil _, List.forall_mem_cons.2 ⟨⟨r1, fun k hk => .inl (f1 k hk)⟩, List.forall_mem_nil _⟩, apart_one, ?_⟩
  simp only [Tree.goal, X.P, X.ev, V.toI_i, V.toB_b, V.toS_s, V.toR_r, V.toV_v, V.toN_n, V.toL_l, SV.ev, CV.ev, Sc.ev, List.getD_cons_zero, List.getD_cons_succ, List.getElem?_cons_zero, List.getElem?_cons_succ, List.map_cons, List.map_nil, List.length_cons, List.length_nil, List.cons_append, List.nil_append, Nat.zero_add, Nat.reduceAdd, getV]
  refine ⟨[.s (encR mGet).1, .i (encR mGet).2], rfl, fun _ w' hr => c_Encode w' mGet v1 (hr.at_ 0 rfl) (by decide) (by decide) (by decide), ?_⟩
  simp only [Tree.goal, X.P, X.ev, V.toI_i, V.toB_b, V.toS_s, V.toR_r, V.toV_v, V.toN_n, V.toL_l, SV.ev, CV.ev, Sc.ev, List.getD_cons_zero, List.getD_cons_succ, List.getElem?_cons_zero, List.getElem?_cons_succ, List.map_cons, List.map_nil, List.length_cons, List.length_nil, List.cons_append, List.nil_append, Nat.zero_add, Nat.reduceAdd, encGet]
  intro w3 hr3
  refine (c_Decode w3 [65, 1, 1, 2, 116, 96, 81, 97, 1, 98] (by decide)).mono ?_
  rintro e w4 ⟨v2, rfl, r1, f1, m1⟩
  refine ⟨decV [65, 1, 1, 2, 116, 96, 81, 97, 1, 98] v2, rfl, rfl, m1, List.forall_mem_nil _, List.forall_mem_cons.2 ⟨⟨r1, fun k hk => .inl (f1 k hk)⟩, List.forall_mem_nil _⟩, apart_one, ?_⟩
  simp only [Tree.goal, X.P, X.ev, V.toI_i, V.toB_b, V.toS_s, V.toR_r, V.toV_v, V.toN_n, V.toL_l, SV.ev, CV.ev, Sc.ev, List.getD_cons_zero, List.getD_cons_succ, List.getElem?_cons_zero, List.getElem?_cons_succ, List.map_cons, List.map_nil, List.length_cons, List.length_nil, List.cons_append, List.nil_append, Nat.zero_add, Nat.reduceAdd, decV, mGet_dec]
  intro b
  refine ⟨fun _ => ?_, fun h => absurd ⟨trivial, trivial⟩ h⟩
  intro w5 hr5
  refine (c_get w5).mono ?_
  rintro e w6 ⟨v3, rfl, r1, f1, m1⟩
  refine ⟨getV v3, rfl, rfl, m1, List.forall_mem_nil _, List.forall_mem_cons.2 ⟨⟨r1, fun k hk => .inl (f1 k hk)⟩, List.forall_mem_nil _⟩, apart_one, ?_⟩
  simp only [Tree.goal, X.P, X.ev, V.toI_i, V.toB_b, V.toS_s, V.toR_r, V.toV_v, V.toN_n, V.toL_l, SV.ev, CV.ev, Sc.ev, List.getD_cons_zero, List.getD_cons_succ, List.getElem?_cons_zero, List.getElem?_cons_succ, List.map_cons, List.map_nil, List.length_cons, List.length_nil, List.cons_append, List.nil_append, Nat.zero_add, Nat.reduceAdd, getV]
  refine ⟨[.i (chk mGet)], rfl, fun _ w' hr => c_Check w' mGet v3 (hr.at_ 0 rfl) (by decide) (by decide) (by decide), ?_⟩
  simp only [Tree.goal, X.P, X.ev, V.toI_i, V.toB_b, V.toS_s, V.toR_r, V.toV_v, V.toN_n, V.toL_l, SV.ev, CV.ev, Sc.ev, List.getD_cons_zero, List.getD_cons_succ, List.getElem?_cons_zero, List.getElem?_cons_succ, List.map_cons, List.map_nil, List.length_cons, List.length_nil, List.cons_append, List.nil_append, Nat.zero_add, Nat.reduceAdd, mGet_chk]
  refine ⟨fun _ => ?_, fun h => absurd ⟨trivial, trivial⟩ h⟩
  intro w7 hr7
  refine (c_get w7).mono ?_
  rintro e w8 ⟨v4, rfl, r1, f1, m1⟩
  refine ⟨getV v4, rfl, rfl, m1, List.forall_mem_nil _, List.forall_mem_cons.2 ⟨⟨r1, fun k hk => .inl (f1 k hk)⟩, List.forall_mem_nil _⟩, apart_one, ?_⟩
  simp only [Tree.goal, X.P, X.ev, V.toI_i, V.toB_b, V.toS_s, V.toR_r, V.toV_v, V.toN_n, V.toL_l, SV.ev, CV.ev, Sc.ev, List.getD_cons_zero, List.getD_cons_succ, List.getElem?_cons_zero, List.getElem?_cons_succ, List.map_cons, List.map_nil, List.length_cons, List.length_nil, List.cons_append, List.nil_append, Nat.zero_add, Nat.reduceAdd, getV]
  refine ⟨[.b true], rfl, fun _ w' hr => c_SameMessage w' mGet mGet v2 v4 (hr.at_ 3 rfl) (hr.at_ 0 rfl) (by decide), ?_⟩
  simp only [Tree.goal, X.P, X.ev, V.toI_i, V.toB_b, V.toS_s, V.toR_r, V.toV_v, V.toN_n, V.toL_l, SV.ev, CV.ev, Sc.ev, List.getD_cons_zero, List.getD_cons_succ, List.getElem?_cons_zero, List.getElem?_cons_succ, List.map_cons, List.map_nil, List.length_cons, List.length_nil, List.cons_append, List.nil_append, Nat.zero_add, Nat.reduceAdd]
  exact fun w' hr => ⟨by trivial, hr.mod⟩

theorem same_self (m : Msg) : decide (m.kind = m.kind ∧ m.code = m.code ∧ m.id = m.id ∧ m.tok = m.tok ∧ m.pay = m.pay ∧ m.opts = m.opts) = true := by simp
set_option maxRecDepth 10000 in
set_option maxHeartbeats 1000000 in
theorem c_MessageTells (w : World) (m : Msg) (v : Value) (s : List UInt8) (hv : readsO w v m.opts) (hl : m.opts.length < 1099511627776) (ht : m.tok.length < 1099511627776) (hp : m.pay.length < 1099511627776) (hs : s.length < 1099511627776) :
    Calls Try.prog 9 #[mV m (sc1 v), .string ⟨s.toArray⟩] w fun e w' => e = .returned (.bool true) ∧ Mod [] w w' := by
  refine as_called (run_tree2 (ρ := [.i m.kind, .i m.code, .i m.id, .s m.tok, .v v, .r (m.opts.map encO), .s m.pay, .s s]) sxE_ok Try.func9 tree_dragomanlaw_MessageTells rfl rfl (Rel.start2 (by simp [Ent.holds, Ent.wr, hv, X.ev])) rfl rfl ?_) rfl
  simp only [Tree.goal, X.P, X.ev, V.toI_i, V.toB_b, V.toS_s, V.toR_r, V.toV_v, V.toN_n, V.toL_l, SV.ev, CV.ev, Sc.ev, List.getD_cons_zero, List.getD_cons_succ, List.getElem?_cons_zero, List.getElem?_cons_succ, List.map_cons, List.map_nil, List.length_cons, List.length_nil, List.cons_append, List.nil_append, Nat.zero_add, Nat.reduceAdd]
  intro b
  refine ⟨[.s (encR m).1, .i (encR m).2], rfl, fun _ w' hr => c_Encode w' m v (hr.at_ 1 rfl) hl ht hp, ?_⟩
  simp only [Tree.goal, X.P, X.ev, V.toI_i, V.toB_b, V.toS_s, V.toR_r, V.toV_v, V.toN_n, V.toL_l, SV.ev, CV.ev, Sc.ev, List.getD_cons_zero, List.getD_cons_succ, List.getElem?_cons_zero, List.getElem?_cons_succ, List.map_cons, List.map_nil, List.length_cons, List.length_nil, List.cons_append, List.nil_append, Nat.zero_add, Nat.reduceAdd]
  intro w3 hr3
  refine (c_Decode w3 s hs).mono ?_
  rintro e w4 ⟨v2, rfl, r1, f1, m1⟩
  refine ⟨decV s v2, rfl, rfl, m1, List.forall_mem_nil _, List.forall_mem_cons.2 ⟨⟨r1, fun k hk => .inl (f1 k hk)⟩, List.forall_mem_nil _⟩, apart_one, ?_⟩
  simp only [Tree.goal, X.P, X.ev, V.toI_i, V.toB_b, V.toS_s, V.toR_r, V.toV_v, V.toN_n, V.toL_l, SV.ev, CV.ev, Sc.ev, List.getD_cons_zero, List.getD_cons_succ, List.getElem?_cons_zero, List.getElem?_cons_succ, List.map_cons, List.map_nil, List.length_cons, List.length_nil, List.cons_append, List.nil_append, Nat.zero_add, Nat.reduceAdd, decV]
  intro b1
  refine ⟨[.i (chk m)], rfl, fun _ w' hr => c_CheckMessage w' m v (hr.at_ 3 rfl) hl, ?_⟩
  simp only [Tree.goal, X.P, X.ev, V.toI_i, V.toB_b, V.toS_s, V.toR_r, V.toV_v, V.toN_n, V.toL_l, SV.ev, CV.ev, Sc.ev, List.getD_cons_zero, List.getD_cons_succ, List.getElem?_cons_zero, List.getElem?_cons_succ, List.map_cons, List.map_nil, List.length_cons, List.length_nil, List.cons_append, List.nil_append, Nat.zero_add, Nat.reduceAdd]
  refine ⟨fun hc => ?_, fun hc => ?_⟩
  · refine ⟨[.s (msgB m)], rfl, fun _ w' hr => c_MessageBytes w' m v (hr.at_ 3 rfl) hc, ?_⟩
    simp only [Tree.goal, X.P, X.ev, V.toI_i, V.toB_b, V.toS_s, V.toR_r, V.toV_v, V.toN_n, V.toL_l, SV.ev, CV.ev, Sc.ev, List.getD_cons_zero, List.getD_cons_succ, List.getElem?_cons_zero, List.getElem?_cons_succ, List.map_cons, List.map_nil, List.length_cons, List.length_nil, List.cons_append, List.nil_append, Nat.zero_add, Nat.reduceAdd]
    intro w5 hr5; refine (c_MessageOf w5 s hs).mono ?_; rintro e w6 ⟨v6, rfl, r1, f1, m1⟩; refine ⟨decV s v6, rfl, rfl, m1, List.forall_mem_nil _, List.forall_mem_cons.2 ⟨⟨r1, fun k hk => .inl (f1 k hk)⟩, List.forall_mem_nil _⟩, apart_one, ?_⟩; simp only [Tree.goal, X.P, X.ev, V.toI_i, V.toB_b, V.toS_s, V.toR_r, V.toV_v, V.toN_n, V.toL_l, SV.ev, CV.ev, Sc.ev, List.getD_cons_zero, List.getD_cons_succ, List.getElem?_cons_zero, List.getElem?_cons_succ, List.map_cons, List.map_nil, List.length_cons, List.length_nil, List.cons_append, List.nil_append, Nat.zero_add, Nat.reduceAdd, decV]; intro b2; refine ⟨[.b true], rfl, fun _ w' _ => c_messageBegun w', ?_⟩; simp only [Tree.goal, X.P, X.ev, V.toI_i, V.toB_b, V.toS_s, V.toR_r, V.toV_v, V.toN_n, V.toL_l, SV.ev, CV.ev, Sc.ev, List.getD_cons_zero, List.getD_cons_succ, List.getElem?_cons_zero, List.getElem?_cons_succ, List.map_cons, List.map_nil, List.length_cons, List.length_nil, List.cons_append, List.nil_append, Nat.zero_add, Nat.reduceAdd]; refine ⟨[.i (chk m)], rfl, fun _ w' hr => c_Check w' m v (hr.at_ 5 rfl) hl ht hp, ?_⟩; simp only [Tree.goal, X.P, X.ev, V.toI_i, V.toB_b, V.toS_s, V.toR_r, V.toV_v, V.toN_n, V.toL_l, SV.ev, CV.ev, Sc.ev, List.getD_cons_zero, List.getD_cons_succ, List.getElem?_cons_zero, List.getElem?_cons_succ, List.map_cons, List.map_nil, List.length_cons, List.length_nil, List.cons_append, List.nil_append, Nat.zero_add, Nat.reduceAdd]; refine ⟨[.b true], rfl, fun _ w' hr => ?_, ?_⟩; (· have := c_SameMessage w' (dec s).1 (dec s).1 v2 v6 (hr.at_ 3 rfl) (hr.at_ 1 rfl) (by have := dec_len s; omega); rw [same_self] at this; exact this); simp only [Tree.goal, X.P, X.ev, V.toI_i, V.toB_b, V.toS_s, V.toR_r, V.toV_v, V.toN_n, V.toL_l, SV.ev, CV.ev, Sc.ev, List.getD_cons_zero, List.getD_cons_succ, List.getElem?_cons_zero, List.getElem?_cons_succ, List.map_cons, List.map_nil, List.length_cons, List.length_nil, List.cons_append, List.nil_append, Nat.zero_add, Nat.reduceAdd]; exact fun w' hr => ⟨by simp [encR, hc], hr.mod⟩
  · intro w5 hr5; refine (c_MessageOf w5 s hs).mono ?_; rintro e w6 ⟨v6, rfl, r1, f1, m1⟩; refine ⟨decV s v6, rfl, rfl, m1, List.forall_mem_nil _, List.forall_mem_cons.2 ⟨⟨r1, fun k hk => .inl (f1 k hk)⟩, List.forall_mem_nil _⟩, apart_one, ?_⟩; simp only [Tree.goal, X.P, X.ev, V.toI_i, V.toB_b, V.toS_s, V.toR_r, V.toV_v, V.toN_n, V.toL_l, SV.ev, CV.ev, Sc.ev, List.getD_cons_zero, List.getD_cons_succ, List.getElem?_cons_zero, List.getElem?_cons_succ, List.map_cons, List.map_nil, List.length_cons, List.length_nil, List.cons_append, List.nil_append, Nat.zero_add, Nat.reduceAdd, decV]; intro b2; refine ⟨[.b true], rfl, fun _ w' _ => c_messageBegun w', ?_⟩; simp only [Tree.goal, X.P, X.ev, V.toI_i, V.toB_b, V.toS_s, V.toR_r, V.toV_v, V.toN_n, V.toL_l, SV.ev, CV.ev, Sc.ev, List.getD_cons_zero, List.getD_cons_succ, List.getElem?_cons_zero, List.getElem?_cons_succ, List.map_cons, List.map_nil, List.length_cons, List.length_nil, List.cons_append, List.nil_append, Nat.zero_add, Nat.reduceAdd]; refine ⟨[.i (chk m)], rfl, fun _ w' hr => c_Check w' m v (hr.at_ 5 rfl) hl ht hp, ?_⟩; simp only [Tree.goal, X.P, X.ev, V.toI_i, V.toB_b, V.toS_s, V.toR_r, V.toV_v, V.toN_n, V.toL_l, SV.ev, CV.ev, Sc.ev, List.getD_cons_zero, List.getD_cons_succ, List.getElem?_cons_zero, List.getElem?_cons_succ, List.map_cons, List.map_nil, List.length_cons, List.length_nil, List.cons_append, List.nil_append, Nat.zero_add, Nat.reduceAdd]; refine ⟨[.b true], rfl, fun _ w' hr => ?_, ?_⟩; (· have := c_SameMessage w' (dec s).1 (dec s).1 v2 v6 (hr.at_ 3 rfl) (hr.at_ 1 rfl) (by have := dec_len s; omega); rw [same_self] at this; exact this); simp only [Tree.goal, X.P, X.ev, V.toI_i, V.toB_b, V.toS_s, V.toR_r, V.toV_v, V.toN_n, V.toL_l, SV.ev, CV.ev, Sc.ev, List.getD_cons_zero, List.getD_cons_succ, List.getElem?_cons_zero, List.getElem?_cons_succ, List.map_cons, List.map_nil, List.length_cons, List.length_nil, List.cons_append, List.nil_append, Nat.zero_add, Nat.reduceAdd]; exact fun w' hr => ⟨by simp [encR, hc], hr.mod⟩
end Go.Proofs.Ytpcdkcbniokdgaa
