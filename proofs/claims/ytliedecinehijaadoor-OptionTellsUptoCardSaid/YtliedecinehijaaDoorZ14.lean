/-
  The law OptionTells, walked. By an AI agent.
-/
import Derived.Test.YtliedecinehijaaDoorZ13
import Derived.Test.YtliedecinehijaaDoorZ01
import Derived.WalkKit
import Derived.ProofKit
import Derived.OpenShut
import Derived.JoinedCond
import Derived.ChangeStays
import Derived.Test.YtliedecinehijaaDoorZ05
import Derived.Test.YtliedecinehijaaDoorZ10
set_option linter.unusedSimpArgs false
set_option linter.unusedVariables false
namespace Go.Proofs.YtliedecinehijaaDoor
open Go.Sx

/-- What a message's changes are, told in steps. -/
def r0P (m : Msg) (t : List UInt8) : Int := if chk m = 0 then chkT t false else chk m
def r0U (m : Msg) (x : Int) : Int := if chk m = 0 ∧ (x < 0 ∨ 16777215 < x) then 3 else chk m
def r0B (m : Msg) (b : Bk) : Int := if chk m = 0 then blkE b else chk m
theorem r0P_ok {m : Msg} {t : List UInt8} (h : r0P m t = 0) : chk m = 0 ∧ chkT t false = 0 ∧ withPathR m t = outR (withM m 11 (lev t)) := by
  unfold r0P at h
  split at h
  · rename_i h0; exact ⟨h0, h, by rw [withPathR, if_pos h0, if_pos h]⟩
  · rename_i h0; exact absurd h h0
theorem r0P_no {m : Msg} {t : List UInt8} (h : ¬ r0P m t = 0) : withPathR m t = (mNil, r0P m t) := by
  unfold r0P at h ⊢
  split at h
  · rename_i h0; rw [withPathR, if_pos h0, if_neg h, if_pos h0]
  · rename_i h0; rw [withPathR, if_neg h0, if_neg h0]
theorem r0U_ok {m : Msg} {n x : Int} (h : r0U m x = 0) : chk m = 0 ∧ (0 ≤ x ∧ x ≤ 16777215) ∧ withUintR m n x = outR (withM m n [shortB x]) := by
  unfold r0U at h
  split at h
  · cases h
  · rename_i h0
    have h1 : 0 ≤ x ∧ x ≤ 16777215 := by
      have : ¬ (x < 0 ∨ 16777215 < x) := fun h2 => h0 ⟨h, h2⟩
      omega
    exact ⟨h, h1, by rw [withUintR, if_pos h, if_pos h1]⟩
theorem r0U_no {m : Msg} {n x : Int} (h : ¬ r0U m x = 0) : withUintR m n x = (mNil, r0U m x) := by
  unfold r0U at h ⊢
  split at h
  · rename_i h0
    rw [withUintR, if_pos h0.1, if_neg (by omega), if_pos h0]
  · rename_i h0; rw [withUintR, if_neg h, if_neg h0]
theorem r0B_ok {m : Msg} {b : Bk} (h : r0B m b = 0) : chk m = 0 ∧ blkE b = 0 ∧ withBlockR m b = outR (withM m 23 [shortB (blkN b)]) := by
  unfold r0B at h
  split at h
  · rename_i h0
    have hb := (blk_back h)
    exact ⟨h0, h, by rw [withBlockR, if_pos h0, if_pos h, withUintR, if_pos h0, if_pos ⟨hb.1, hb.2.1⟩]⟩
  · rename_i h0; exact absurd h h0
theorem r0B_no {m : Msg} {b : Bk} (h : ¬ r0B m b = 0) : withBlockR m b = (mNil, r0B m b) := by
  unfold r0B at h ⊢
  split at h
  · rename_i h0; rw [withBlockR, if_pos h0, if_neg h, if_pos h0]
  · rename_i h0; rw [withBlockR, if_neg h0, if_neg h0]
theorem withPath_bd {m : Msg} {t : List UInt8} : (withPathR m t).1.opts.length < 1000000000 := by
  by_cases h : (withPathR m t).2 = 0
  · obtain ⟨-, -, h3, h4⟩ := withPath_ok h
    rw [h4]; exact (bd_chk h3).1
  · rw [withPath_no h]; decide
theorem withBlock_bd {m : Msg} {b : Bk} : (withBlockR m b).1.opts.length < 1000000000 := by
  by_cases h : (withBlockR m b).2 = 0
  · obtain ⟨-, h4, h5⟩ := withBlock_ok h
    rw [h4]; exact withUint_bd.1
  · rw [withBlock_no h]; decide
set_option maxHeartbeats 4000000 in
set_option maxRecDepth 10000 in
theorem c_OptionTells (w : World) (m : Msg) (v : Value) (t : List UInt8) (n x : Int) (b : Bk) (hv : readsO w v m.opts) (hb : bdM m) (ht : t.length < 4294967281) :
    Calls Tryd.prog 8 #[mV m (sc1 v), .string ⟨t.toArray⟩, .int .i64 n, .int .i64 x, bV b] w fun e w' => e = .returned (.bool true) ∧ Mod [] w w' := by
  refine as_called (run_tree2 (ρ := [.i m.kind, .i m.code, .i m.id, .s m.tok, .v v, .r (m.opts.map encO), .s m.pay, .s t, .i n, .i x, .i b.1, .b b.2.1, .i b.2.2]) (sxE_ok.joins _) Tryd.func8 tree_dragomanlaw_OptionTells rfl rfl (Rel.start2 (by simp [Ent.holds, Ent.wr, hv, X.ev])) rfl rfl ?_) rfl
  simp only [Tree.goal, X.P, X.ev, V.toI_i, V.toB_b, V.toS_s, V.toR_r, V.toV_v, V.toN_n, V.toL_l, SV.ev, CV.ev, Sc.ev, List.getD_cons_zero, List.getD_cons_succ, List.getElem?_cons_zero, List.getElem?_cons_succ, List.map_cons, List.map_nil, List.length_cons, List.length_nil, List.cons_append, List.nil_append, Nat.zero_add, Nat.reduceAdd, List.length_map, Int.toNat_natCast, gI_encO, gS_encO, gS_encS]
  intro b1 b2
  refine ⟨[.s (pathR m).1, .i (pathR m).2], rfl, fun _ w' hr => c_Path w' m v ((by first | exact hr.at_ 0 rfl | exact hr.at_ 1 rfl | exact hr.at_ 2 rfl | exact hr.at_ 3 rfl | exact hr.at_ 4 rfl | exact hr.at_ 5 rfl | exact hr.at_ 6 rfl | exact hr.at_ 7 rfl | exact hr.at_ 8 rfl | exact hr.at_ 9 rfl | exact hr.at_ 10 rfl | exact hr.at_ 11 rfl | exact hr.at_ 12 rfl | exact hr.at_ 13 rfl | exact hr.at_ 14 rfl | exact hr.at_ 15 rfl | exact hr.at_ 16 rfl | exact hr.at_ 17 rfl)) hb, ?_⟩
  simp only [Tree.goal, X.P, X.ev, V.toI_i, V.toB_b, V.toS_s, V.toR_r, V.toV_v, V.toN_n, V.toL_l, SV.ev, CV.ev, Sc.ev, List.getD_cons_zero, List.getD_cons_succ, List.getElem?_cons_zero, List.getElem?_cons_succ, List.map_cons, List.map_nil, List.length_cons, List.length_nil, List.cons_append, List.nil_append, Nat.zero_add, Nat.reduceAdd]
  intro w1 hr
  refine (c_WithPath w1 m v t ((by first | exact hr.at_ 0 rfl | exact hr.at_ 1 rfl | exact hr.at_ 2 rfl | exact hr.at_ 3 rfl | exact hr.at_ 4 rfl | exact hr.at_ 5 rfl | exact hr.at_ 6 rfl | exact hr.at_ 7 rfl | exact hr.at_ 8 rfl | exact hr.at_ 9 rfl | exact hr.at_ 10 rfl | exact hr.at_ 11 rfl | exact hr.at_ 12 rfl | exact hr.at_ 13 rfl | exact hr.at_ 14 rfl | exact hr.at_ 15 rfl | exact hr.at_ 16 rfl | exact hr.at_ 17 rfl)) hb ht).mono ?_
  rintro e w2 ⟨v1, rfl, r1, f1, m1⟩
  refine ⟨mEV (withPathR m t) v1, rfl, rfl, m1, List.forall_mem_nil _, List.forall_mem_cons.2 ⟨⟨r1, fun k hk => .inl (f1 k hk)⟩, List.forall_mem_nil _⟩, apart_one, ?_⟩
  clear hr r1 f1 m1
  simp only [Tree.goal, X.P, X.ev, V.toI_i, V.toB_b, V.toS_s, V.toR_r, V.toV_v, V.toN_n, V.toL_l, SV.ev, CV.ev, Sc.ev, List.getD_cons_zero, List.getD_cons_succ, List.getElem?_cons_zero, List.getElem?_cons_succ, List.map_cons, List.map_nil, List.length_cons, List.length_nil, List.cons_append, List.nil_append, Nat.zero_add, Nat.reduceAdd, mEV]
  intro b3
  refine ⟨[.i (uintR m n).1, .i (uintR m n).2], rfl, fun _ w' hr => c_Uint w' m v n ((by first | exact hr.at_ 0 rfl | exact hr.at_ 1 rfl | exact hr.at_ 2 rfl | exact hr.at_ 3 rfl | exact hr.at_ 4 rfl | exact hr.at_ 5 rfl | exact hr.at_ 6 rfl | exact hr.at_ 7 rfl | exact hr.at_ 8 rfl | exact hr.at_ 9 rfl | exact hr.at_ 10 rfl | exact hr.at_ 11 rfl | exact hr.at_ 12 rfl | exact hr.at_ 13 rfl | exact hr.at_ 14 rfl | exact hr.at_ 15 rfl | exact hr.at_ 16 rfl | exact hr.at_ 17 rfl)) hb, ?_⟩
  simp only [Tree.goal, X.P, X.ev, V.toI_i, V.toB_b, V.toS_s, V.toR_r, V.toV_v, V.toN_n, V.toL_l, SV.ev, CV.ev, Sc.ev, List.getD_cons_zero, List.getD_cons_succ, List.getElem?_cons_zero, List.getElem?_cons_succ, List.map_cons, List.map_nil, List.length_cons, List.length_nil, List.cons_append, List.nil_append, Nat.zero_add, Nat.reduceAdd]
  intro w1 hr
  refine (c_WithUint w1 m v n x ((by first | exact hr.at_ 0 rfl | exact hr.at_ 1 rfl | exact hr.at_ 2 rfl | exact hr.at_ 3 rfl | exact hr.at_ 4 rfl | exact hr.at_ 5 rfl | exact hr.at_ 6 rfl | exact hr.at_ 7 rfl | exact hr.at_ 8 rfl | exact hr.at_ 9 rfl | exact hr.at_ 10 rfl | exact hr.at_ 11 rfl | exact hr.at_ 12 rfl | exact hr.at_ 13 rfl | exact hr.at_ 14 rfl | exact hr.at_ 15 rfl | exact hr.at_ 16 rfl | exact hr.at_ 17 rfl)) hb).mono ?_
  rintro e w2 ⟨v2, rfl, r1, f1, m1⟩
  refine ⟨mEV (withUintR m n x) v2, rfl, rfl, m1, List.forall_mem_nil _, List.forall_mem_cons.2 ⟨⟨r1, fun k hk => .inl (f1 k hk)⟩, List.forall_mem_nil _⟩, apart_one, ?_⟩
  clear hr r1 f1 m1
  simp only [Tree.goal, X.P, X.ev, V.toI_i, V.toB_b, V.toS_s, V.toR_r, V.toV_v, V.toN_n, V.toL_l, SV.ev, CV.ev, Sc.ev, List.getD_cons_zero, List.getD_cons_succ, List.getElem?_cons_zero, List.getElem?_cons_succ, List.map_cons, List.map_nil, List.length_cons, List.length_nil, List.cons_append, List.nil_append, Nat.zero_add, Nat.reduceAdd, mEV]
  intro b4
  refine ⟨[.i (blockR m).1.1, .b (blockR m).1.2.1, .i (blockR m).1.2.2, .i (blockR m).2], rfl, fun _ w' hr => c_Block w' m v ((by first | exact hr.at_ 0 rfl | exact hr.at_ 1 rfl | exact hr.at_ 2 rfl | exact hr.at_ 3 rfl | exact hr.at_ 4 rfl | exact hr.at_ 5 rfl | exact hr.at_ 6 rfl | exact hr.at_ 7 rfl | exact hr.at_ 8 rfl | exact hr.at_ 9 rfl | exact hr.at_ 10 rfl | exact hr.at_ 11 rfl | exact hr.at_ 12 rfl | exact hr.at_ 13 rfl | exact hr.at_ 14 rfl | exact hr.at_ 15 rfl | exact hr.at_ 16 rfl | exact hr.at_ 17 rfl)) hb, ?_⟩
  simp only [Tree.goal, X.P, X.ev, V.toI_i, V.toB_b, V.toS_s, V.toR_r, V.toV_v, V.toN_n, V.toL_l, SV.ev, CV.ev, Sc.ev, List.getD_cons_zero, List.getD_cons_succ, List.getElem?_cons_zero, List.getElem?_cons_succ, List.map_cons, List.map_nil, List.length_cons, List.length_nil, List.cons_append, List.nil_append, Nat.zero_add, Nat.reduceAdd]
  intro b5 w1 hr
  refine (c_WithBlock w1 m v b ((by first | exact hr.at_ 0 rfl | exact hr.at_ 1 rfl | exact hr.at_ 2 rfl | exact hr.at_ 3 rfl | exact hr.at_ 4 rfl | exact hr.at_ 5 rfl | exact hr.at_ 6 rfl | exact hr.at_ 7 rfl | exact hr.at_ 8 rfl | exact hr.at_ 9 rfl | exact hr.at_ 10 rfl | exact hr.at_ 11 rfl | exact hr.at_ 12 rfl | exact hr.at_ 13 rfl | exact hr.at_ 14 rfl | exact hr.at_ 15 rfl | exact hr.at_ 16 rfl | exact hr.at_ 17 rfl)) hb).mono ?_
  rintro e w2 ⟨v3, rfl, r1, f1, m1⟩
  refine ⟨mEV (withBlockR m b) v3, rfl, rfl, m1, List.forall_mem_nil _, List.forall_mem_cons.2 ⟨⟨r1, fun k hk => .inl (f1 k hk)⟩, List.forall_mem_nil _⟩, apart_one, ?_⟩
  clear hr r1 f1 m1
  simp only [Tree.goal, X.P, X.ev, V.toI_i, V.toB_b, V.toS_s, V.toR_r, V.toV_v, V.toN_n, V.toL_l, SV.ev, CV.ev, Sc.ev, List.getD_cons_zero, List.getD_cons_succ, List.getElem?_cons_zero, List.getElem?_cons_succ, List.map_cons, List.map_nil, List.length_cons, List.length_nil, List.cons_append, List.nil_append, Nat.zero_add, Nat.reduceAdd, mEV]
  intro b6
  refine ⟨[.i (chk m)], rfl, fun _ w' hr => c_CheckMessage w' m v ((by first | exact hr.at_ 0 rfl | exact hr.at_ 1 rfl | exact hr.at_ 2 rfl | exact hr.at_ 3 rfl | exact hr.at_ 4 rfl | exact hr.at_ 5 rfl | exact hr.at_ 6 rfl | exact hr.at_ 7 rfl | exact hr.at_ 8 rfl | exact hr.at_ 9 rfl | exact hr.at_ 10 rfl | exact hr.at_ 11 rfl | exact hr.at_ 12 rfl | exact hr.at_ 13 rfl | exact hr.at_ 14 rfl | exact hr.at_ 15 rfl | exact hr.at_ 16 rfl | exact hr.at_ 17 rfl)) (by have := hb.1; omega), ?_⟩
  simp only [Tree.goal, X.P, X.ev, V.toI_i, V.toB_b, V.toS_s, V.toR_r, V.toV_v, V.toN_n, V.toL_l, SV.ev, CV.ev, Sc.ev, List.getD_cons_zero, List.getD_cons_succ, List.getElem?_cons_zero, List.getElem?_cons_succ, List.map_cons, List.map_nil, List.length_cons, List.length_nil, List.cons_append, List.nil_append, Nat.zero_add, Nat.reduceAdd]
  intro b7 b8 b9 b10
  refine ⟨fun vs => vs = [.i (pathR m).2, .i (r0P m t), .i (uintR m n).2, .i (blockR m).2, .i (r0B m b), .s (pathR m).1, .i (uintR m n).1, .i (blockR m).1.1, .b (blockR m).1.2.1, .i (blockR m).1.2.2], ⟨fun h => ?_, fun h => ?_⟩, ?_⟩
  · have e1 : pathR m = pathL m.opts := by rw [pathR, if_pos h]
    have e2 : uintR m n = uintL n m.opts := by rw [uintR, if_pos h]
    have e3 : r0P m t = chkT t false := by rw [r0P, if_pos h]
    have e4 : r0B m b = blkE b := by rw [r0B, if_pos h]
    rw [e1, e2, e3, e4]
    refine ⟨[.s (pathL m.opts).1, .i (pathL m.opts).2], rfl, fun _ w' hr => c_PathOfR w' m v ((by first | exact hr.at_ 0 rfl | exact hr.at_ 1 rfl | exact hr.at_ 2 rfl | exact hr.at_ 3 rfl | exact hr.at_ 4 rfl | exact hr.at_ 5 rfl | exact hr.at_ 6 rfl | exact hr.at_ 7 rfl | exact hr.at_ 8 rfl | exact hr.at_ 9 rfl | exact hr.at_ 10 rfl | exact hr.at_ 11 rfl | exact hr.at_ 12 rfl | exact hr.at_ 13 rfl | exact hr.at_ 14 rfl | exact hr.at_ 15 rfl | exact hr.at_ 16 rfl | exact hr.at_ 17 rfl)) h, ?_⟩
    simp only [Tree.goal, X.P, X.ev, V.toI_i, V.toB_b, V.toS_s, V.toR_r, V.toV_v, V.toN_n, V.toL_l, SV.ev, CV.ev, Sc.ev, List.getD_cons_zero, List.getD_cons_succ, List.getElem?_cons_zero, List.getElem?_cons_succ, List.map_cons, List.map_nil, List.length_cons, List.length_nil, List.cons_append, List.nil_append, Nat.zero_add, Nat.reduceAdd]
    refine ⟨[.i (chkT t false)], rfl, fun _ w' hr => c_CheckTopic w' t false ht, ?_⟩
    simp only [Tree.goal, X.P, X.ev, V.toI_i, V.toB_b, V.toS_s, V.toR_r, V.toV_v, V.toN_n, V.toL_l, SV.ev, CV.ev, Sc.ev, List.getD_cons_zero, List.getD_cons_succ, List.getElem?_cons_zero, List.getElem?_cons_succ, List.map_cons, List.map_nil, List.length_cons, List.length_nil, List.cons_append, List.nil_append, Nat.zero_add, Nat.reduceAdd]
    refine ⟨[.i (uintL n m.opts).1, .i (uintL n m.opts).2], rfl, fun _ w' hr => c_UintOfR w' m v n ((by first | exact hr.at_ 0 rfl | exact hr.at_ 1 rfl | exact hr.at_ 2 rfl | exact hr.at_ 3 rfl | exact hr.at_ 4 rfl | exact hr.at_ 5 rfl | exact hr.at_ 6 rfl | exact hr.at_ 7 rfl | exact hr.at_ 8 rfl | exact hr.at_ 9 rfl | exact hr.at_ 10 rfl | exact hr.at_ 11 rfl | exact hr.at_ 12 rfl | exact hr.at_ 13 rfl | exact hr.at_ 14 rfl | exact hr.at_ 15 rfl | exact hr.at_ 16 rfl | exact hr.at_ 17 rfl)) hb.1, ?_⟩
    simp only [Tree.goal, X.P, X.ev, V.toI_i, V.toB_b, V.toS_s, V.toR_r, V.toV_v, V.toN_n, V.toL_l, SV.ev, CV.ev, Sc.ev, List.getD_cons_zero, List.getD_cons_succ, List.getElem?_cons_zero, List.getElem?_cons_succ, List.map_cons, List.map_nil, List.length_cons, List.length_nil, List.cons_append, List.nil_append, Nat.zero_add, Nat.reduceAdd]
    refine ⟨[.i (blockR m).1.1, .b (blockR m).1.2.1, .i (blockR m).1.2.2, .i (blockR m).2], rfl, fun _ w' hr => c_blockOf w' m v ((by first | exact hr.at_ 0 rfl | exact hr.at_ 1 rfl | exact hr.at_ 2 rfl | exact hr.at_ 3 rfl | exact hr.at_ 4 rfl | exact hr.at_ 5 rfl | exact hr.at_ 6 rfl | exact hr.at_ 7 rfl | exact hr.at_ 8 rfl | exact hr.at_ 9 rfl | exact hr.at_ 10 rfl | exact hr.at_ 11 rfl | exact hr.at_ 12 rfl | exact hr.at_ 13 rfl | exact hr.at_ 14 rfl | exact hr.at_ 15 rfl | exact hr.at_ 16 rfl | exact hr.at_ 17 rfl)) hb h, ?_⟩
    simp only [Tree.goal, X.P, X.ev, V.toI_i, V.toB_b, V.toS_s, V.toR_r, V.toV_v, V.toN_n, V.toL_l, SV.ev, CV.ev, Sc.ev, List.getD_cons_zero, List.getD_cons_succ, List.getElem?_cons_zero, List.getElem?_cons_succ, List.map_cons, List.map_nil, List.length_cons, List.length_nil, List.cons_append, List.nil_append, Nat.zero_add, Nat.reduceAdd]
    refine ⟨[.i (blkE b)], rfl, fun _ w' hr => c_BlockErr w' b, ?_⟩
    simp only [Tree.goal, X.P, X.ev, V.toI_i, V.toB_b, V.toS_s, V.toR_r, V.toV_v, V.toN_n, V.toL_l, SV.ev, CV.ev, Sc.ev, List.getD_cons_zero, List.getD_cons_succ, List.getElem?_cons_zero, List.getElem?_cons_succ, List.map_cons, List.map_nil, List.length_cons, List.length_nil, List.cons_append, List.nil_append, Nat.zero_add, Nat.reduceAdd]
  · have e1 : pathR m = ([], chk m) := by rw [pathR, if_neg h]
    have e2 : ∀ n, uintR m n = (0, chk m) := fun n => by rw [uintR, if_neg h]
    have e3 : r0P m t = chk m := by rw [r0P, if_neg h]
    have e4 : r0B m b = chk m := by rw [r0B, if_neg h]
    have e5 : blockR m = ((0, false, 0), chk m) := by rw [blockR, e2, if_neg h]
    rw [e1, e2, e3, e4, e5]
  rintro _ - rfl
  simp only [Tree.goal, X.P, X.ev, V.toI_i, V.toB_b, V.toS_s, V.toR_r, V.toV_v, V.toN_n, V.toL_l, SV.ev, CV.ev, Sc.ev, List.getD_cons_zero, List.getD_cons_succ, List.getElem?_cons_zero, List.getElem?_cons_succ, List.map_cons, List.map_nil, List.length_cons, List.length_nil, List.cons_append, List.nil_append, Nat.zero_add, Nat.reduceAdd]
  refine ⟨fun vs => ∃ y, vs = [.i 0, .i 0, .i 0, .i 0, .i 0, .i 0, .i 0, .i 0, .i 0, .i 0, .i (withPathR m t).2, .i (withPathR m t).1.kind, .i (withPathR m t).1.code, .i (withPathR m t).1.id, .s (withPathR m t).1.tok, .v y, .s (withPathR m t).1.pay, .r ((withPathR m t).1.opts.map encO)], ⟨fun h => ?_, fun h => ?_⟩, ?_⟩
  · obtain ⟨h1, h2, h3⟩ := r0P_ok h
    have hl6 := (chkT_ok.1 h2).2.1.2
    refine ⟨?_, ?_⟩ <;> (intro w0 hr; refine (c_LevelsOf w0 t (by omega)).mono ?_; rintro e w1 ⟨u, rfl, r1, f1, m1⟩; refine ⟨[.v u, .r ((lev t).map encS)], rfl, rfl, m1, List.forall_mem_nil _, List.forall_mem_cons.2 ⟨⟨r1, fun k hk => .inl (f1 k hk)⟩, List.forall_mem_nil _⟩, apart_one, ?_⟩; clear hr r1 f1 m1; simp only [Tree.goal, X.P, X.ev, V.toI_i, V.toB_b, V.toS_s, V.toR_r, V.toV_v, V.toN_n, V.toL_l, SV.ev, CV.ev, Sc.ev, List.getD_cons_zero, List.getD_cons_succ, List.getElem?_cons_zero, List.getElem?_cons_succ, List.map_cons, List.map_nil, List.length_cons, List.length_nil, List.cons_append, List.nil_append, Nat.zero_add, Nat.reduceAdd]; intro w1 hr; refine (c_WithOf w1 m v u 11 (lev t) ((by first | exact hr.at_ 0 rfl | exact hr.at_ 1 rfl | exact hr.at_ 2 rfl | exact hr.at_ 3 rfl | exact hr.at_ 4 rfl | exact hr.at_ 5 rfl | exact hr.at_ 6 rfl | exact hr.at_ 7 rfl | exact hr.at_ 8 rfl | exact hr.at_ 9 rfl | exact hr.at_ 10 rfl | exact hr.at_ 11 rfl | exact hr.at_ 12 rfl | exact hr.at_ 13 rfl | exact hr.at_ 14 rfl | exact hr.at_ 15 rfl | exact hr.at_ 16 rfl | exact hr.at_ 17 rfl)) ((by first | exact hr.at_ 0 rfl | exact hr.at_ 1 rfl | exact hr.at_ 2 rfl | exact hr.at_ 3 rfl | exact hr.at_ 4 rfl | exact hr.at_ 5 rfl | exact hr.at_ 6 rfl | exact hr.at_ 7 rfl | exact hr.at_ 8 rfl | exact hr.at_ 9 rfl | exact hr.at_ 10 rfl | exact hr.at_ 11 rfl | exact hr.at_ 12 rfl | exact hr.at_ 13 rfl | exact hr.at_ 14 rfl | exact hr.at_ 15 rfl | exact hr.at_ 16 rfl | exact hr.at_ 17 rfl)) hb (by omega)).mono ?_; rintro e w2 ⟨v', rfl, r1, f1, m1⟩; refine ⟨mEV (outR (withM m 11 (lev t))) v', rfl, rfl, m1, List.forall_mem_nil _, List.forall_mem_cons.2 ⟨⟨r1, fun k hk => .inl (f1 k hk)⟩, List.forall_mem_nil _⟩, apart_one, ?_⟩; clear hr r1 f1 m1; simp only [Tree.goal, X.P, X.ev, V.toI_i, V.toB_b, V.toS_s, V.toR_r, V.toV_v, V.toN_n, V.toL_l, SV.ev, CV.ev, Sc.ev, List.getD_cons_zero, List.getD_cons_succ, List.getElem?_cons_zero, List.getElem?_cons_succ, List.map_cons, List.map_nil, List.length_cons, List.length_nil, List.cons_append, List.nil_append, Nat.zero_add, Nat.reduceAdd, mEV]; exact ⟨v', by rw [h3]⟩)
  · exact ⟨.slice none 0 0, by rw [r0P_no h]; rfl⟩
  rintro _ - ⟨y1, rfl⟩
  simp only [Tree.goal, X.P, X.ev, V.toI_i, V.toB_b, V.toS_s, V.toR_r, V.toV_v, V.toN_n, V.toL_l, SV.ev, CV.ev, Sc.ev, List.getD_cons_zero, List.getD_cons_succ, List.getElem?_cons_zero, List.getElem?_cons_succ, List.map_cons, List.map_nil, List.length_cons, List.length_nil, List.cons_append, List.nil_append, Nat.zero_add, Nat.reduceAdd]
  refine ⟨fun vs => vs = [.i (r0U m x)], ⟨fun h => by rw [r0U, if_pos h], fun h => by rw [r0U, if_neg h]⟩, ?_⟩
  rintro _ - rfl
  simp only [Tree.goal, X.P, X.ev, V.toI_i, V.toB_b, V.toS_s, V.toR_r, V.toV_v, V.toN_n, V.toL_l, SV.ev, CV.ev, Sc.ev, List.getD_cons_zero, List.getD_cons_succ, List.getElem?_cons_zero, List.getElem?_cons_succ, List.map_cons, List.map_nil, List.length_cons, List.length_nil, List.cons_append, List.nil_append, Nat.zero_add, Nat.reduceAdd]
  refine ⟨fun vs => ∃ y, vs = [.i 0, .i 0, .i 0, .i 0, .i 0, .i 0, .i 0, .i 0, .i 0, .i 0, .i (withUintR m n x).2, .i (withUintR m n x).1.kind, .i (withUintR m n x).1.code, .i (withUintR m n x).1.id, .s (withUintR m n x).1.tok, .v y, .s (withUintR m n x).1.pay, .r ((withUintR m n x).1.opts.map encO)], ⟨fun h => ?_, fun h => ?_⟩, ?_⟩
  · obtain ⟨h1, h2, h3⟩ := r0U_ok (n := n) h
    refine ⟨[.s (shortB x)], rfl, fun _ w' hr => c_ShortOf w' x h2, fun u w1 hr => ?_⟩
    have hu := (hr.at_ 0 rfl).reads
    refine (c_WithOf w1 m v u n [shortB x] ((by first | exact hr.at_ 0 rfl | exact hr.at_ 1 rfl | exact hr.at_ 2 rfl | exact hr.at_ 3 rfl | exact hr.at_ 4 rfl | exact hr.at_ 5 rfl | exact hr.at_ 6 rfl | exact hr.at_ 7 rfl | exact hr.at_ 8 rfl | exact hr.at_ 9 rfl | exact hr.at_ 10 rfl | exact hr.at_ 11 rfl | exact hr.at_ 12 rfl | exact hr.at_ 13 rfl | exact hr.at_ 14 rfl | exact hr.at_ 15 rfl | exact hr.at_ 16 rfl | exact hr.at_ 17 rfl)) hu hb (by simp)).mono ?_
    rintro e w2 ⟨v', rfl, r1, f1, m1⟩
    refine ⟨mEV (outR (withM m n [shortB x])) v', rfl, rfl, m1, List.forall_mem_nil _, List.forall_mem_cons.2 ⟨⟨r1, fun k hk => .inl (f1 k hk)⟩, List.forall_mem_nil _⟩, apart_one, ?_⟩
    clear hr r1 f1 m1 hu
    simp only [Tree.goal, X.P, X.ev, V.toI_i, V.toB_b, V.toS_s, V.toR_r, V.toV_v, V.toN_n, V.toL_l, SV.ev, CV.ev, Sc.ev, List.getD_cons_zero, List.getD_cons_succ, List.getElem?_cons_zero, List.getElem?_cons_succ, List.map_cons, List.map_nil, List.length_cons, List.length_nil, List.cons_append, List.nil_append, Nat.zero_add, Nat.reduceAdd, mEV]
    exact ⟨v', by rw [h3]⟩
  · exact ⟨.slice none 0 0, by rw [r0U_no h]; rfl⟩
  rintro _ - ⟨y2, rfl⟩
  simp only [Tree.goal, X.P, X.ev, V.toI_i, V.toB_b, V.toS_s, V.toR_r, V.toV_v, V.toN_n, V.toL_l, SV.ev, CV.ev, Sc.ev, List.getD_cons_zero, List.getD_cons_succ, List.getElem?_cons_zero, List.getElem?_cons_succ, List.map_cons, List.map_nil, List.length_cons, List.length_nil, List.cons_append, List.nil_append, Nat.zero_add, Nat.reduceAdd]
  refine ⟨fun vs => ∃ y, vs = [.i 0, .i 0, .i 0, .i 0, .i 0, .i 0, .i 0, .i 0, .i 0, .i 0, .i 0, .i (withBlockR m b).2, .i (withBlockR m b).1.kind, .i (withBlockR m b).1.code, .i (withBlockR m b).1.id, .s (withBlockR m b).1.tok, .v y, .s (withBlockR m b).1.pay, .r ((withBlockR m b).1.opts.map encO)], ⟨fun h => ?_, fun h => ?_⟩, ?_⟩
  · obtain ⟨h1, h2, h3⟩ := r0B_ok h
    have hbb := blk_back h2
    refine ⟨[.i (blkN b)], rfl, fun _ w' hr => c_blockNumber w' b h2, ?_⟩
    simp only [Tree.goal, X.P, X.ev, V.toI_i, V.toB_b, V.toS_s, V.toR_r, V.toV_v, V.toN_n, V.toL_l, SV.ev, CV.ev, Sc.ev, List.getD_cons_zero, List.getD_cons_succ, List.getElem?_cons_zero, List.getElem?_cons_succ, List.map_cons, List.map_nil, List.length_cons, List.length_nil, List.cons_append, List.nil_append, Nat.zero_add, Nat.reduceAdd]
    refine ⟨[.s (shortB (blkN b))], rfl, fun _ w' hr => c_ShortOf w' (blkN b) ⟨hbb.1, hbb.2.1⟩, fun u w1 hr => ?_⟩
    have hu := (hr.at_ 0 rfl).reads
    refine (c_WithOf w1 m v u 23 [shortB (blkN b)] ((by first | exact hr.at_ 0 rfl | exact hr.at_ 1 rfl | exact hr.at_ 2 rfl | exact hr.at_ 3 rfl | exact hr.at_ 4 rfl | exact hr.at_ 5 rfl | exact hr.at_ 6 rfl | exact hr.at_ 7 rfl | exact hr.at_ 8 rfl | exact hr.at_ 9 rfl | exact hr.at_ 10 rfl | exact hr.at_ 11 rfl | exact hr.at_ 12 rfl | exact hr.at_ 13 rfl | exact hr.at_ 14 rfl | exact hr.at_ 15 rfl | exact hr.at_ 16 rfl | exact hr.at_ 17 rfl)) hu hb (by simp)).mono ?_
    rintro e w2 ⟨v', rfl, r1, f1, m1⟩
    refine ⟨mEV (outR (withM m 23 [shortB (blkN b)])) v', rfl, rfl, m1, List.forall_mem_nil _, List.forall_mem_cons.2 ⟨⟨r1, fun k hk => .inl (f1 k hk)⟩, List.forall_mem_nil _⟩, apart_one, ?_⟩
    clear hr r1 f1 m1 hu
    simp only [Tree.goal, X.P, X.ev, V.toI_i, V.toB_b, V.toS_s, V.toR_r, V.toV_v, V.toN_n, V.toL_l, SV.ev, CV.ev, Sc.ev, List.getD_cons_zero, List.getD_cons_succ, List.getElem?_cons_zero, List.getElem?_cons_succ, List.map_cons, List.map_nil, List.length_cons, List.length_nil, List.cons_append, List.nil_append, Nat.zero_add, Nat.reduceAdd, mEV]
    exact ⟨v', by rw [h3]⟩
  · exact ⟨.slice none 0 0, by rw [r0B_no h]; rfl⟩
  rintro _ - ⟨y3, rfl⟩
  simp only [Tree.goal, X.P, X.ev, V.toI_i, V.toB_b, V.toS_s, V.toR_r, V.toV_v, V.toN_n, V.toL_l, SV.ev, CV.ev, Sc.ev, List.getD_cons_zero, List.getD_cons_succ, List.getElem?_cons_zero, List.getElem?_cons_succ, List.map_cons, List.map_nil, List.length_cons, List.length_nil, List.cons_append, List.nil_append, Nat.zero_add, Nat.reduceAdd]
  refine ⟨[.b true], rfl, fun _ w' _ => c_optionBegun w', ?_⟩
  simp only [Tree.goal, X.P, X.ev, V.toI_i, V.toB_b, V.toS_s, V.toR_r, V.toV_v, V.toN_n, V.toL_l, SV.ev, CV.ev, Sc.ev, List.getD_cons_zero, List.getD_cons_succ, List.getElem?_cons_zero, List.getElem?_cons_succ, List.map_cons, List.map_nil, List.length_cons, List.length_nil, List.cons_append, List.nil_append, Nat.zero_add, Nat.reduceAdd]
  refine ⟨[.b true], rfl, fun _ w' hr => ?_, ?_⟩
  · have q1 : readsO w' v1 (withPathR m t).1.opts := (by first | exact hr.at_ 0 rfl | exact hr.at_ 1 rfl | exact hr.at_ 2 rfl | exact hr.at_ 3 rfl | exact hr.at_ 4 rfl | exact hr.at_ 5 rfl | exact hr.at_ 6 rfl | exact hr.at_ 7 rfl | exact hr.at_ 8 rfl | exact hr.at_ 9 rfl | exact hr.at_ 10 rfl | exact hr.at_ 11 rfl | exact hr.at_ 12 rfl | exact hr.at_ 13 rfl | exact hr.at_ 14 rfl | exact hr.at_ 15 rfl | exact hr.at_ 16 rfl | exact hr.at_ 17 rfl)
    have q2 : readsO w' y1 (withPathR m t).1.opts := (by first | exact hr.at_ 0 rfl | exact hr.at_ 1 rfl | exact hr.at_ 2 rfl | exact hr.at_ 3 rfl | exact hr.at_ 4 rfl | exact hr.at_ 5 rfl | exact hr.at_ 6 rfl | exact hr.at_ 7 rfl | exact hr.at_ 8 rfl | exact hr.at_ 9 rfl | exact hr.at_ 10 rfl | exact hr.at_ 11 rfl | exact hr.at_ 12 rfl | exact hr.at_ 13 rfl | exact hr.at_ 14 rfl | exact hr.at_ 15 rfl | exact hr.at_ 16 rfl | exact hr.at_ 17 rfl)
    exact c_messageIs w' (withPathR m t) (withPathR m t).1 v1 y1 q1 q2 withPath_bd (fun _ => rfl) withPath_no
  simp only [Tree.goal, X.P, X.ev, V.toI_i, V.toB_b, V.toS_s, V.toR_r, V.toV_v, V.toN_n, V.toL_l, SV.ev, CV.ev, Sc.ev, List.getD_cons_zero, List.getD_cons_succ, List.getElem?_cons_zero, List.getElem?_cons_succ, List.map_cons, List.map_nil, List.length_cons, List.length_nil, List.cons_append, List.nil_append, Nat.zero_add, Nat.reduceAdd]
  refine ⟨[.b true], rfl, fun _ w' hr => ?_, ?_⟩
  · have q1 : readsO w' v2 (withUintR m n x).1.opts := (by first | exact hr.at_ 0 rfl | exact hr.at_ 1 rfl | exact hr.at_ 2 rfl | exact hr.at_ 3 rfl | exact hr.at_ 4 rfl | exact hr.at_ 5 rfl | exact hr.at_ 6 rfl | exact hr.at_ 7 rfl | exact hr.at_ 8 rfl | exact hr.at_ 9 rfl | exact hr.at_ 10 rfl | exact hr.at_ 11 rfl | exact hr.at_ 12 rfl | exact hr.at_ 13 rfl | exact hr.at_ 14 rfl | exact hr.at_ 15 rfl | exact hr.at_ 16 rfl | exact hr.at_ 17 rfl)
    have q2 : readsO w' y2 (withUintR m n x).1.opts := (by first | exact hr.at_ 0 rfl | exact hr.at_ 1 rfl | exact hr.at_ 2 rfl | exact hr.at_ 3 rfl | exact hr.at_ 4 rfl | exact hr.at_ 5 rfl | exact hr.at_ 6 rfl | exact hr.at_ 7 rfl | exact hr.at_ 8 rfl | exact hr.at_ 9 rfl | exact hr.at_ 10 rfl | exact hr.at_ 11 rfl | exact hr.at_ 12 rfl | exact hr.at_ 13 rfl | exact hr.at_ 14 rfl | exact hr.at_ 15 rfl | exact hr.at_ 16 rfl | exact hr.at_ 17 rfl)
    exact c_messageIs w' (withUintR m n x) (withUintR m n x).1 v2 y2 q1 q2 withUint_bd.1 (fun _ => rfl) withUint_no
  simp only [Tree.goal, X.P, X.ev, V.toI_i, V.toB_b, V.toS_s, V.toR_r, V.toV_v, V.toN_n, V.toL_l, SV.ev, CV.ev, Sc.ev, List.getD_cons_zero, List.getD_cons_succ, List.getElem?_cons_zero, List.getElem?_cons_succ, List.map_cons, List.map_nil, List.length_cons, List.length_nil, List.cons_append, List.nil_append, Nat.zero_add, Nat.reduceAdd]
  refine ⟨[.b true], rfl, fun _ w' hr => ?_, ?_⟩
  · have q1 : readsO w' v3 (withBlockR m b).1.opts := (by first | exact hr.at_ 0 rfl | exact hr.at_ 1 rfl | exact hr.at_ 2 rfl | exact hr.at_ 3 rfl | exact hr.at_ 4 rfl | exact hr.at_ 5 rfl | exact hr.at_ 6 rfl | exact hr.at_ 7 rfl | exact hr.at_ 8 rfl | exact hr.at_ 9 rfl | exact hr.at_ 10 rfl | exact hr.at_ 11 rfl | exact hr.at_ 12 rfl | exact hr.at_ 13 rfl | exact hr.at_ 14 rfl | exact hr.at_ 15 rfl | exact hr.at_ 16 rfl | exact hr.at_ 17 rfl)
    have q2 : readsO w' y3 (withBlockR m b).1.opts := (by first | exact hr.at_ 0 rfl | exact hr.at_ 1 rfl | exact hr.at_ 2 rfl | exact hr.at_ 3 rfl | exact hr.at_ 4 rfl | exact hr.at_ 5 rfl | exact hr.at_ 6 rfl | exact hr.at_ 7 rfl | exact hr.at_ 8 rfl | exact hr.at_ 9 rfl | exact hr.at_ 10 rfl | exact hr.at_ 11 rfl | exact hr.at_ 12 rfl | exact hr.at_ 13 rfl | exact hr.at_ 14 rfl | exact hr.at_ 15 rfl | exact hr.at_ 16 rfl | exact hr.at_ 17 rfl)
    exact c_messageIs w' (withBlockR m b) (withBlockR m b).1 v3 y3 q1 q2 withBlock_bd (fun _ => rfl) withBlock_no
  simp only [Tree.goal, X.P, X.ev, V.toI_i, V.toB_b, V.toS_s, V.toR_r, V.toV_v, V.toN_n, V.toL_l, SV.ev, CV.ev, Sc.ev, List.getD_cons_zero, List.getD_cons_succ, List.getElem?_cons_zero, List.getElem?_cons_succ, List.map_cons, List.map_nil, List.length_cons, List.length_nil, List.cons_append, List.nil_append, Nat.zero_add, Nat.reduceAdd]
  exact fun w' hr => ⟨by simp, hr.mod⟩
end Go.Proofs.YtliedecinehijaaDoor

/-
  What a law's row wants of a walk that leaves all old memory as it was. By an AI agent.
-/
set_option linter.unusedSimpArgs false
set_option linter.unusedVariables false
namespace Go.Sx
open Go Go.ChangeShapes Go.WideShapes Go.ChangeAt Go.RowKit
section
variable {H : Type} {enc : TypeId × Value → H} {P : Program}

/-- No slice's element is without cells. -/
def solidB (P : Program) (ts : List TypeId) : Bool := ts.all fun t => match P.underlying t with | some (.slice e) => decide (0 < P.cellsOf e) | _ => true
/-- Closed under what a reading goes to. -/
def closedB (P : Program) (ts : List TypeId) : Bool := ts.all fun t => match P.underlying t with
  | some (.slice e) => ts.contains e
  | some (.pointer e) => ts.contains e
  | some (.array _ e) => ts.contains e
  | some (.map _ e) => ts.contains e
  | some (.struct fs) => fs.toList.all fun f => ts.contains f.type
  | _ => true

theorem kids_of (hl : laidOutB P = true) (hm : mapsRowed P = true) {ts : List TypeId} (hc : closedB P ts = true) (hs : ts.all (fun t => decide (t < P.types.size)) = true) : Kids P (· ∈ ts) := by
  have K := kids_rows hl hm
  have hs' : ∀ t ∈ ts, t < P.types.size := fun t ht => by simpa using List.all_eq_true.1 hs t ht
  have hc' := fun t ht => List.all_eq_true.1 hc t ht
  refine ⟨fun {t e} ht hu => ?_, fun {t e} ht hu => ?_, fun {t e n} ht hu => ⟨?_, (K.array (hs' t ht) hu).2⟩, fun {t fs} ht hu => ⟨?_, (K.struct (hs' t ht) hu).2⟩, fun {t k e} ht hu => ?_⟩
  · have := hc' t ht; rw [hu] at this; simpa using this
  · have := hc' t ht; rw [hu] at this; simpa using this
  · have := hc' t ht; rw [hu] at this; simpa using this
  · have := hc' t ht; rw [hu] at this; simp only [List.all_eq_true] at this; exact fun f hf => by simpa using this f hf
  · have := hc' t ht; rw [hu] at this; simpa using this

theorem sameAt_of_block {w w' : World} {p : MemPlace} (h : w'.heap[p.block]? = w.heap[p.block]?) : w.sameAt w' p := by
  cases p with
  | cell b off => exact World.cell?_of_block h
  | map b => exact h

theorem trodAll_stays {w w' : World} {sp : Nat → Bool} {T : TypeId → Prop} (K : Kids P T) (hsz : ∀ {t e : TypeId}, T t → P.underlying t = some (.slice e) → 0 < P.cellsOf e) :
    ∀ {ts : List TypeId} {vs : List Value} {ds : List (DataW H)} {ps : List MemPlace}, (∀ t ∈ ts, T t) → DataW.TrodAll enc P w 0 (fun _ => true) true ts vs ds ps →
      (∀ p ∈ ps, w.sameAt w' p) → (∀ p ∈ ps, sp p.block = true) → DataW.TrodAll enc P w' 0 sp true ts vs ds ps
  | [], _, _, _, _, h, _, _ => by
    obtain ⟨rfl, rfl, rfl⟩ := trodAll_nil h
    exact trodAll_mk0
  | t :: ts, _, _, _, ht, h, hs, hp => by
    obtain ⟨v, vs1, d, ds1, a, b, rfl, rfl, rfl, h1, h2⟩ := trodAll_cons h
    obtain ⟨n, h1⟩ := h1
    exact ⟨a, b, ⟨n, DataW.trod_stays K hsz (fun h => by cases h) (ht t (List.mem_cons_self ..)) h1 (fun p hp' => hs p (List.mem_append_left _ hp')) (fun p hp' => hp p (List.mem_append_left _ hp'))⟩,
      trodAll_stays K hsz (fun u hu => ht u (List.mem_cons_of_mem _ hu)) h2 (fun p hp' => hs p (List.mem_append_right _ hp')) (fun p hp' => hp p (List.mem_append_right _ hp')), rfl⟩

/-- A law that answered true, and left all old memory as it was. -/
theorem law_post {f : Func} {s : ChangeSpec} {fresh handsOn again : Bool} {W W' : World} {args : Array Value} {ds gs : List (DataW H)} {before : List MemPlace} {tb : TypeId} (ts : List TypeId)
    (hW : DataW.Whole enc P f.params.toList s.vars false W args.toList ds gs before) (hv : s.vars = [])
    (hr : f.resultTypes = #[tb]) (htb : P.underlying tb = some .bool) (hfn : gs = [] → (s.fn H ds).results = [.lit (.bool true)] ∧ (s.fn H ds).args = ds ∧ (s.fn H ds).vars = [])
    (hl : laidOutB P = true) (hm : mapsRowed P = true) (hc : closedB P ts = true) (hs : ts.all (fun t => decide (t < P.types.size)) = true) (hz : solidB P ts = true) (hp : f.params.toList.all ts.contains = true)
    (h : Mod [] W W') : s.post enc P f false fresh handsOn again W args (.bool true) W' := by
  have hW' := hW
  have hlt := hW.lt
  obtain ⟨p, q, hA, hV, rfl, hfz, hn⟩ := hW
  rw [hv] at hV
  obtain ⟨rfl, rfl⟩ := trodVars_none hV
  obtain ⟨f1, f2, f3⟩ := hfn rfl
  have K := kids_of hl hm hc hs
  have hsz : ∀ {t e : TypeId}, t ∈ ts → P.underlying t = some (.slice e) → 0 < P.cellsOf e := fun {t e} ht hu => by
    have := List.all_eq_true.1 hz t ht; rw [hu] at this; simpa using this
  have hT : ∀ t ∈ f.params.toList, t ∈ ts := fun t ht => by simpa using List.all_eq_true.1 hp t ht
  have hblk : ∀ k, k < W.heap.size → W'.heap[k]? = W.heap[k]? := fun k hk => h.block k hk (by simp)
  have hsame : ∀ x ∈ p, W.sameAt W' x := fun x hx => sameAt_of_block (hblk _ (hlt x (by simpa using hx)))
  have hargs : ∀ sp : Nat → Bool, (∀ x ∈ p, sp x.block = true) → DataW.TrodAll enc P W' 0 sp true f.params.toList args.toList (s.fn H (ds ++ [])).args p := fun sp hsp => by
    rw [List.append_nil, f2]; exact trodAll_stays K hsz hT hA hsame hsp
  have hres : ∀ (b : Nat) (sp : Nat → Bool) (hd : Bool), DataW.TrodAll enc P W' b sp hd f.resultTypes.toList ((Value.bool true).resultList f.resultTypes.size) (s.fn H (ds ++ [])).results [] := fun b sp hd => by
    rw [List.append_nil, f1, hr]; exact trodAll_cons_mk (shut_bool htb _) trodAll_mk0
  have hvars : ∀ sp : Nat → Bool, DataW.TrodVars enc P W' sp s.vars (s.fn H (ds ++ [])).vars [] := fun sp => by
    rw [List.append_nil, f3, hv]; rfl
  have hold : ∀ x ∈ p, (fun b => decide (b < W.heap.size)) x.block = true := fun x hx => by simpa using hlt x (by simpa using hx)
  refine ⟨ds, [], p ++ [], [], p, [], hW', hres _ _ _, hargs _ hold, hvars _, ⟨h.os, h.output, fun i hi => ?_⟩, fun _ => ⟨?_, [.lit (.bool true)] ++ ds, [], ([] ++ p) ++ [], ⟨[] ++ p, [], trodAll_append (by have := hargs (fun _ => true) (fun _ _ => rfl); rw [List.append_nil, f2] at this; exact this) (by have := hres 0 (fun _ => true) true; rw [List.append_nil, f1] at this; exact this), by rw [hv]; rfl, rfl, ?_, by simp⟩, ?_⟩⟩
  · have e := hblk i hi
    rw [e]
    cases W.heap[i]? with
    | none => rfl
    | some o => cases o <;> simp
  · exact ok_one hr rfl (okWide_bool_mk htb _)
  · intro b off hb
    have hb : MemPlace.cell b off ∈ p := by simpa using hb
    have hlt' := hlt _ (show MemPlace.cell b off ∈ p ++ [] by simpa using hb)
    have := hfz b off (by simpa using hb)
    simp only [World.frozen?, hblk b hlt'] at this ⊢
    exact this
  · intro x hx _
    simpa using hx
end
end Go.Sx

/-
  What a reading of an argument tells of its cells: structs cell by cell, slices row by row. By an AI agent.
-/
set_option linter.unusedSimpArgs false
set_option linter.unusedVariables false
namespace Go.Sx
open Go Go.ChangeShapes Go.WideShapes Go.ChangeAt Go.RowKit
section
variable {H : Type} {enc : TypeId × Value → H} {P : Program} {w : World} {sp : Nat → Bool}

/-- How great a reading is. -/
structure Bulk (B : DataW H → Nat) : Prop where
  agg : ∀ l : List (DataW H), (l.map B).sum ≤ B (.agg l)
  slice : ∀ l r : List (DataW H), (l.map B).sum + 1 ≤ B (.slice l r)
  str : ∀ s : List UInt8, s.length + 1 ≤ B (.lit (.string s))
  one : ∀ d : DataW H, 1 ≤ B d

def leavesL (P : Program) (g : TypeId → Option (List (TypeId × Kd))) : List Field → Nat → Option (List (TypeId × Kd))
  | [], _ => some []
  | f :: fs, off => do
    let l ← g f.type
    let r ← leavesL P g fs (off + l.length)
    if f.offset = off ∧ P.cellsOf f.type = l.length then some (l ++ r) else none
/-- The types and kinds of a type's cells. -/
def leaves (P : Program) : Nat → TypeId → Option (List (TypeId × Kd))
  | 0, _ => none
  | f + 1, t => match P.underlying t with
    | some .bool => some [(t, .bool)]
    | some (.int k) => some [(t, .int k)]
    | some .string => some [(t, .str)]
    | some (.slice _) => some [(t, .oth)]
    | some (.struct fs) => match leavesL P (leaves P f) fs.toList 0 with
      | some l => if P.cellsOf t = l.length then some l else none
      | none => none
    | _ => none

/-- What is known of a cell of a type. -/
def CellRd (enc : TypeId × Value → H) (P : Program) (w : World) (sp : Nat → Bool) (B : DataW H → Nat) (l : TypeId × Kd) (c : Value) (b : Nat) : Prop :=
  l.2.ok c ∧ ∃ n d ps, DataW.trod enc P w 0 sp true n l.1 [c] = some (d, ps) ∧ B d ≤ b
inductive Lv (enc : TypeId × Value → H) (P : Program) (w : World) (sp : Nat → Bool) (B : DataW H → Nat) : List (TypeId × Kd) → List Value → Nat → Prop
  | nil (b : Nat) : Lv enc P w sp B [] [] b
  | cons {l : TypeId × Kd} {ls : List (TypeId × Kd)} {c : Value} {cs : List Value} {b1 b2 b : Nat} : CellRd enc P w sp B l c b1 → Lv enc P w sp B ls cs b2 → b1 + b2 ≤ b → Lv enc P w sp B (l :: ls) (c :: cs) b
variable {B : DataW H → Nat}
theorem Lv.mono {ls : List (TypeId × Kd)} {cs : List Value} {b b' : Nat} (h : Lv enc P w sp B ls cs b) (hb : b ≤ b') : Lv enc P w sp B ls cs b' := by
  cases h with
  | nil => exact .nil _
  | cons h1 h2 h3 => exact .cons h1 h2 (by omega)
theorem Lv.append {l2 : List (TypeId × Kd)} {c2 : List Value} {b2 : Nat} (h' : Lv enc P w sp B l2 c2 b2) : ∀ {l1 : List (TypeId × Kd)} {c1 : List Value} {b1 : Nat}, Lv enc P w sp B l1 c1 b1 → Lv enc P w sp B (l1 ++ l2) (c1 ++ c2) (b1 + b2) := by
  intro l1 c1 b1 h
  induction h with
  | nil b => exact h'.mono (by omega)
  | cons h1 h2 h3 ih => exact .cons h1 ih (by omega)
theorem Lv.rowOk {ls : List (TypeId × Kd)} {cs : List Value} {b : Nat} (h : Lv enc P w sp B ls cs b) : rowOk (ls.map (·.2)) cs := by
  induction h with
  | nil => trivial
  | cons h1 h2 h3 ih => exact ⟨h1.1, ih⟩

theorem leavesL_ok {g : TypeId → Option (List (TypeId × Kd))} {cs : List Value} {n : Nat} (hg : ∀ t l cs x, g t = some l → DataW.trod enc P w 0 sp true n t cs = some x → Lv enc P w sp B l cs (B x.1)) :
    ∀ {fs : List Field} {xs : List (DataW H × List MemPlace)} {off : Nat} {l : List (TypeId × Kd)}, leavesL P g fs off = some l → xs.length = fs.length →
      (∀ (i : Nat) (f : Field), fs[i]? = some f → DataW.trod enc P w 0 sp true n f.type ((cs.drop f.offset).take (P.cellsOf f.type)) = xs[i]?) → off + l.length ≤ cs.length →
      Lv enc P w sp B l ((cs.drop off).take l.length) ((xs.map fun x => B x.1).sum)
  | [], [], off, l, h, _, _, _ => by simp [leavesL] at h; subst h; simp; exact .nil _
  | f :: fs, [], off, l, h, hl, _, _ => by simp at hl
  | [], x :: xs, off, l, h, hl, _, _ => by simp at hl
  | f :: fs, x :: xs, off, l, h, hl, hx, hc => by
    simp only [leavesL, Option.bind_eq_bind, Option.bind_eq_some_iff, Option.ite_none_right_eq_some, Option.some.injEq] at h
    obtain ⟨l1, h1, l2, h2, ⟨ho, hcs⟩, rfl⟩ := h
    have hx0 := hx 0 f rfl
    simp only [List.getElem?_cons_zero] at hx0
    rw [ho, hcs] at hx0
    have i1 := hg _ _ _ _ h1 hx0
    simp only [List.length_append] at hc
    have i2 := leavesL_ok hg (xs := xs) h2 (by simpa using hl) (fun i f' hf => by have := hx (i + 1) f' (by simpa using hf); simpa using this) (by omega)
    have e : (cs.drop off).take (l1 ++ l2).length = (cs.drop off).take l1.length ++ (cs.drop (off + l1.length)).take l2.length := by
      rw [List.length_append, ← List.drop_drop, List.take_add]
    rw [e]
    exact i2.append i1
theorem leaves_ok (hB : Bulk B) : ∀ (f : Nat) {t : TypeId} {l : List (TypeId × Kd)} {n : Nat} {cs : List Value} {x : DataW H × List MemPlace}, leaves P f t = some l → DataW.trod enc P w 0 sp true n t cs = some x → Lv enc P w sp B l cs (B x.1)
  | 0, t, l, n, cs, x, h, _ => by simp [leaves] at h
  | f + 1, t, l, n, cs, x, h, hx => by
    simp only [leaves] at h
    have one : ∀ (k : Kd) (c : Value), cs = [c] → k.ok c → Lv enc P w sp B [(t, k)] cs (B x.1) := fun k c hc hk => by
      subst hc
      exact .cons ⟨hk, n, x.1, x.2, hx, Nat.le_refl _⟩ (.nil 0) (by omega)
    split at h
    · rename_i hu
      simp at h; subst h
      obtain ⟨b, rfl, -⟩ := DataW.trod_bool hu hx
      exact one _ _ rfl ⟨b, rfl⟩
    · rename_i k hu
      simp at h; subst h
      obtain ⟨m, rfl, -⟩ := DataW.trod_int hu hx
      exact one _ _ rfl ⟨m, rfl⟩
    · rename_i hu
      simp at h; subst h
      obtain ⟨⟨⟨s⟩⟩, rfl, -⟩ := DataW.trod_string hu hx
      exact one _ _ rfl ⟨s, rfl⟩
    · rename_i e hu
      simp at h; subst h
      rcases DataW.trod_slice hu hx with ⟨rfl, -⟩ | ⟨a, len, cap, elems, rest, m, -, rfl, -⟩
      · exact one _ _ rfl rfl
      · exact one _ _ rfl rfl
    · rename_i fs hu
      split at h
      · rename_i l' hl
        split at h
        · rename_i hc
          simp at h; subst h
          obtain ⟨xs, m, rfl, rfl, hcl, hxl, hf⟩ := DataW.trod_struct hu hx
          have := leavesL_ok (cs := cs) (fun t l cs x => leaves_ok hB f (t := t) (l := l) (n := m) (cs := cs) (x := x)) hl (by simpa using hxl) (fun i f hi => hf i f (by simpa using hi)) (by omega)
          rw [List.drop_zero, List.take_of_length_le (by omega)] at this
          refine this.mono ?_
          have := hB.agg (xs.map (·.1))
          rw [List.map_map] at this
          exact this
        · cases h
      · cases h
    · cases h

/-- A slice's rows. -/
theorem slice_rd (hB : Bulk B) {f n : Nat} {t e : TypeId} {ls : List (TypeId × Kd)} {v : Value} {x : DataW H × List MemPlace} (hu : P.underlying t = some (.slice e)) (hl : leaves P f e = some ls) (hc : P.cellsOf e = ls.length) (hpos : 0 < ls.length)
    (hx : DataW.trod enc P w 0 sp true n t [v] = some x) :
    ∃ (rows : List (List Value)) (bs : List Nat), reads w v (ls.map (·.2)) rows ∧ bs.length = rows.length ∧ (∀ (i : Nat) r b, rows[i]? = some r → bs[i]? = some b → Lv enc P w sp B ls r b) ∧ bs.sum + 1 ≤ B x.1 := by
  rcases DataW.trod_slice hu hx with ⟨hv, rfl⟩ | ⟨a, len, cap, elems, rest, m, -, hv, rfl, -, hlc, hcm, hel, hget, -⟩
  · simp only [List.cons.injEq, and_true] at hv; subst hv
    exact ⟨[], [], ⟨by simp, none, 0, rfl, ⟨fun _ => rfl, by simp⟩, by simp⟩, rfl, by simp, by simpa using hB.one _⟩
  · simp only [List.cons.injEq, and_true] at hv; subst hv
    rw [hc] at hget
    have hrow : ∀ i, i < len → ∃ r y, w.cells? 0 (a.add (i * ls.length)) ls.length = some r ∧ elems[i]? = some y ∧ DataW.trod enc P w 0 sp true m e r = some y := fun i hi => by
      have h1 := hget i hi
      have h2 : elems[i]? = some (elems[i]'(by omega)) := List.getElem?_eq_getElem (by omega)
      rw [h2, Option.bind_eq_some_iff] at h1
      obtain ⟨r, h3, h4⟩ := h1
      exact ⟨r, _, h3, h2, h4⟩
    let rows := (List.range len).map fun i => (w.cells? 0 (a.add (i * ls.length)) ls.length).getD []
    have hrl : rows.length = len := by simp [rows]
    have hri : ∀ i, i < len → ∃ r y, rows[i]? = some r ∧ w.cells? 0 (a.add (i * ls.length)) ls.length = some r ∧ elems[i]? = some y ∧ Lv enc P w sp B ls r (B y.1) := fun i hi => by
      obtain ⟨r, y, h1, h2, h3⟩ := hrow i hi
      exact ⟨r, y, by simp [rows, List.getElem?_range hi, h1], h1, h2, leaves_ok hB f hl h3⟩
    have hlen : ∀ r ∈ rows, r.length = (ls.map (·.2)).length ∧ rowOk (ls.map (·.2)) r := fun r hr => by
      obtain ⟨i, hi, hri'⟩ := List.getElem_of_mem hr
      obtain ⟨r', y, h1, h2, h3, h4⟩ := hri i (by omega)
      rw [List.getElem?_eq_getElem hi, hri'] at h1
      simp at h1; subst h1
      exact ⟨h4.rowOk.length, h4.rowOk⟩
    refine ⟨rows, elems.map fun y => B y.1, ⟨fun r hr => (hlen r hr).2, some a, cap, by rw [hrl], ⟨(fun h => by cases h), by omega⟩, fun hne => ⟨a, rfl, fun j u hj => ?_⟩⟩, by simp [hrl, hel], fun i r b hr hb => ?_, ?_⟩
    · have hL : (ls.map (·.2)).length = ls.length := by simp
      have hfl := flatten_length (fun r hr => (hlen r hr).1)
      have hjl : j < rows.length * ls.length := by
        have := (List.getElem?_eq_some_iff.1 hj).1
        rw [hfl, hL] at this; exact this
      have hi : j / ls.length < len := by rw [← hrl]; exact Nat.div_lt_of_lt_mul (by rw [Nat.mul_comm]; exact hjl)
      obtain ⟨r, y, h1, h2, h3, h4⟩ := hri _ hi
      have hk := Nat.mod_lt j hpos
      have hjj : j = j / ls.length * ls.length + j % ls.length := by rw [Nat.mul_comm]; exact (Nat.div_add_mod j _).symm
      have := flatten_get (fun r hr => by rw [← hL]; exact (hlen r hr).1) (i := j / ls.length) (c := j % ls.length) hk
      rw [← hjj, hj, h1] at this
      obtain ⟨c1, c2⟩ := World.cells?_some h2
      have c3 := c2.2 _ hk
      rw [add_add', ← hjj] at c3
      rw [c3]
      exact this.symm
    · obtain ⟨r', y, h1, h2, h3, h4⟩ := hri i (by rw [← hrl]; exact (List.getElem?_eq_some_iff.1 hr).1)
      rw [h1] at hr; simp at hr; subst hr
      rw [List.getElem?_map, h3] at hb
      simp at hb; subst hb
      exact h4
    · have := hB.slice (elems.map (·.1)) (rest.map (·.1))
      rw [List.map_map] at this
      exact this
theorem open_slice {r : Reach} {b0 base : Nat} {held : Bool} {t e : TypeId} {v : Value} {d : DataW H} {ps : List MemPlace} (ht : P.underlying t = some (.slice e)) (hval : Value.okWide P w r b0 t v) (hd : DataW.Trod enc P w base sp held t v d ps) :
    ∃ n, DataW.trod enc P w base sp held n t [v] = some (d, ps) := by
  obtain ⟨n, hd⟩ := hd
  refine ⟨n, ?_⟩
  have : v.cells.toList = [v] := by
    simp only [Value.okWide, ht, Cell.okWide] at hval
    cases v <;> first | rfl | (simp [Cell.ok] at hval)
  rw [← this]; exact hd
theorem open_struct {r : Reach} {b0 base : Nat} {held : Bool} {t : TypeId} {fs : Array Field} {v : Value} {d : DataW H} {ps : List MemPlace} (ht : P.underlying t = some (.struct fs)) (hval : Value.okWide P w r b0 t v) (hd : DataW.Trod enc P w base sp held t v d ps) :
    ∃ (cs : List Value) (n : Nat), v = .agg cs.toArray ∧ DataW.trod enc P w base sp held n t cs = some (d, ps) := by
  obtain ⟨n, hd⟩ := hd
  simp only [Value.okWide, ht] at hval
  obtain ⟨cs, rfl, -⟩ := hval
  exact ⟨cs.toList, n, by simp, by simpa [Value.cells] using hd⟩

theorem sum_le {α : Type} {g : α → Nat} : ∀ {rows : List α} {bs : List Nat}, bs.length = rows.length → (∀ (i : Nat) r b, rows[i]? = some r → bs[i]? = some b → g r ≤ b) → (rows.map g).sum ≤ bs.sum
  | [], [], _, _ => by simp
  | r :: rows, b :: bs, hl, h => by
    have h0 := h 0 r b rfl rfl
    have := sum_le (rows := rows) (bs := bs) (by simpa using hl) (fun i r' b' hr hb => h (i + 1) r' b' (by simpa using hr) (by simpa using hb))
    simp only [List.map_cons, List.sum_cons]; omega
  | [], _ :: _, hl, _ => by simp at hl
  | _ :: _, [], hl, _ => by simp at hl
/-- There are no more rows than values. -/
theorem rows_le (hB : Bulk B) {ls : List (TypeId × Kd)} (h0 : ls ≠ []) {rows : List (List Value)} {bs : List Nat} (hl : bs.length = rows.length) (h : ∀ (i : Nat) r b, rows[i]? = some r → bs[i]? = some b → Lv enc P w sp B ls r b) : rows.length ≤ bs.sum := by
  have := sum_le (g := fun _ : List Value => 1) hl (fun i r b hr hb => by
    cases h i r b hr hb with
    | nil b => exact absurd rfl h0
    | cons h1 h2 h3 => obtain ⟨-, n, d, q, -, h5⟩ := h1; have := hB.one d; omega)
  have e : (rows.map fun _ => 1).sum = rows.length := by
    clear hl h this
    induction rows with
    | nil => rfl
    | cons r rows ih => simp only [List.map_cons, List.sum_cons, List.length_cons, ih]; omega
  omega
/-- A text's cell. -/
theorem CellRd.str (hB : Bulk B) {t : TypeId} (ht : P.underlying t = some .string) {s : List UInt8} {b : Nat} (h : CellRd enc P w sp B (t, .str) (.string ⟨s.toArray⟩) b) : s.length + 1 ≤ b := by
  obtain ⟨-, n, d, ps, h1, h2⟩ := h
  obtain ⟨s', h3, h4⟩ := DataW.trod_string ht h1
  simp only [List.cons.injEq, Value.string.injEq, and_true] at h3
  subst h3
  simp only [Prod.mk.injEq] at h4
  obtain ⟨⟨rfl, -⟩, -⟩ := h4
  have := hB.str s
  omega
theorem CellRd.int {t : TypeId} {k : IntKind} (ht : P.underlying t = some (.int k)) {n : Int} {b : Nat} (h : CellRd enc P w sp B (t, .int k) (.int k n) b) : (Lit.int k n).wf = true := by
  obtain ⟨-, m, d, ps, h1, h2⟩ := h
  cases m with
  | zero => simp [DataW.trod] at h1
  | succ m =>
    unfold DataW.trod at h1
    rw [ht] at h1
    simp only [] at h1
    split at h1
    · rename_i hw; exact hw.2
    · cases h1
end
end Go.Sx

/-
  What a reading of a message tells. By an AI agent.
-/
set_option linter.unusedSimpArgs false
set_option linter.unusedVariables false
namespace Go.Proofs.YtliedecinehijaaDoor
open Go Go.Sx Go.ChangeShapes Go.WideShapes Go.ChangeAt Go.RowKit
section
variable {H : Type} {enc : TypeId × Value → H} {w : World} {sp : Nat → Bool} {B : DataW H → Nat}
def isStruct (P : Program) (t : TypeId) : Bool := match P.underlying t with | some (.struct _) => true | _ => false
theorem open_struct' {P : Program} {r : Reach} {b0 base : Nat} {held : Bool} {t : TypeId} {v : Value} {d : DataW H} {ps : List MemPlace} (ht : isStruct P t = true) (hval : Value.okWide P w r b0 t v) (hd : DataW.Trod enc P w base sp held t v d ps) :
    ∃ (cs : List Value) (n : Nat), v = .agg cs.toArray ∧ DataW.trod enc P w base sp held n t cs = some (d, ps) := by
  unfold isStruct at ht
  split at ht
  · exact open_struct (by assumption) hval hd
  · cases ht
theorem rows_O {rows : List (List Value)} (h : ∀ r ∈ rows, rowOk [.int .i64, .str] r) : ∃ os, rows = List.map encO os := by
  induction rows with
  | nil => exact ⟨[], rfl⟩
  | cons r rows ih =>
    obtain ⟨ps, hps⟩ := ih fun r hr => h r (List.mem_cons_of_mem _ hr)
    have h0 := h r (List.mem_cons_self ..)
    match r, h0 with
    | [_, _], ⟨⟨a, rfl⟩, ⟨b, rfl⟩, _⟩ => exact ⟨(a, b) :: ps, by rw [hps]; rfl⟩
theorem lv_opt (hB : Bulk B) {cs : List Value} {b : Nat} (h : Lv enc Tryd.prog w sp B [(3, .int .i64), (9, .str)] cs b) : ∃ o : Opt, cs = encO o ∧ o.2.length + 1 ≤ b := by
  cases h with
  | cons h1 h2 e1 =>
    cases h2 with
    | cons h3 h4 e2 =>
      cases h4
      obtain ⟨n, rfl⟩ := h1.1
      obtain ⟨s, rfl⟩ := h3.1
      have := CellRd.str hB Tryd.underlying9 h3
      exact ⟨(n, s), rfl, by simp only; omega⟩
theorem lv_msg (hB : Bulk B) (h1 : Tryd.prog.underlying 40 = some (.slice 47)) (h2 : leaves Tryd.prog 8 47 = some [(3, .int .i64), (9, .str)]) (h3 : Tryd.prog.cellsOf 47 = 2) {cs : List Value} {b : Nat}
    (h : Lv enc Tryd.prog w (fun _ => true) B [(3, .int .i64), (3, .int .i64), (3, .int .i64), (9, .str), (40, .oth), (9, .str)] cs b) :
    ∃ (m : Msg) (v : Value), Value.agg cs.toArray = mV m (sc1 v) ∧ readsO w v m.opts ∧ m.tok.length + m.opts.length + m.pay.length ≤ b := by
  cases h with
  | cons c1 h e1 =>
  cases h with
  | cons c2 h e2 =>
  cases h with
  | cons c3 h e3 =>
  cases h with
  | cons c4 h e4 =>
  cases h with
  | cons c5 h e5 =>
  cases h with
  | cons c6 h e6 =>
  cases h
  obtain ⟨k, rfl⟩ := c1.1
  obtain ⟨c, rfl⟩ := c2.1
  obtain ⟨j, rfl⟩ := c3.1
  obtain ⟨t, rfl⟩ := c4.1
  obtain ⟨p, rfl⟩ := c6.1
  have q4 := CellRd.str hB Tryd.underlying9 c4
  have q6 := CellRd.str hB Tryd.underlying9 c6
  obtain ⟨-, n, d, ps, hx, hb⟩ := c5
  obtain ⟨rows, bs, rd, bl, lv, bk⟩ := slice_rd hB (f := 8) h1 h2 h3 (by decide) hx
  have rl := rows_le hB (by decide) bl lv
  obtain ⟨os, rfl⟩ := rows_O rd.1
  rw [List.length_map] at rl
  simp only at bk
  exact ⟨⟨k, c, j, t, os, p⟩, _, by rw [rd.sc1]; rfl, rd, by simp only; omega⟩
end
end Go.Proofs.YtliedecinehijaaDoor

/-
  What a reading of a block tells. By an AI agent.
-/
set_option linter.unusedSimpArgs false
set_option linter.unusedVariables false
namespace Go.Proofs.YtliedecinehijaaDoor
open Go Go.Sx Go.ChangeShapes Go.WideShapes Go.ChangeAt Go.RowKit
theorem lv_blk {H : Type} {enc : TypeId × Value → H} {w : World} {sp : Nat → Bool} {B : DataW H → Nat} {cs : List Value} {b : Nat} (h : Lv enc Tryd.prog w sp B [(3, .int .i64), (4, .bool), (3, .int .i64)] cs b) : ∃ x : Bk, Value.agg cs.toArray = bV x := by
  cases h with
  | cons c1 h e1 =>
  cases h with
  | cons c2 h e2 =>
  cases h with
  | cons c3 h e3 =>
  cases h
  obtain ⟨n, rfl⟩ := c1.1
  obtain ⟨m, rfl⟩ := c2.1
  obtain ⟨s, rfl⟩ := c3.1
  exact ⟨(n, m, s), rfl⟩
end Go.Proofs.YtliedecinehijaaDoor
