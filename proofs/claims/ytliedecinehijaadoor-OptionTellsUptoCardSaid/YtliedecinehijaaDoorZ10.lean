/-
  Messages: what is checked of them. By an AI agent.
-/
import Derived.Test.YtliedecinehijaaDoorZ08
import Derived.Test.YtliedecinehijaaDoorZ09
import Derived.Test.YtliedecinehijaaDoorZ05
set_option linter.unusedSimpArgs false
set_option linter.unusedVariables false
namespace Go.Proofs.YtliedecinehijaaDoor
open Go.Sx

abbrev Opt := Int × List UInt8
def encO (o : Opt) : List Value := [.int .i64 o.1, .string ⟨o.2.toArray⟩]
abbrev oD : Opt := (0, [])
theorem gI_encO (os : List Opt) (i : Nat) : Value.gI (((os.map encO).getD i []).getD 0 undef) = (os.getD i oD).1 := by
  simp only [List.getD_eq_getElem?_getD, List.getElem?_map]
  cases os[i]? <;> rfl
theorem gS_encO (os : List Opt) (i : Nat) : Value.gS (((os.map encO).getD i []).getD 1 undef) = (os.getD i oD).2 := by
  simp only [List.getD_eq_getElem?_getD, List.getElem?_map]
  cases os[i]? <;> simp [encO, Value.gS, undef]
theorem dropO (os : List Opt) (i : Nat) (h : i < os.length) : os.drop i = os.getD i oD :: os.drop (i + 1) := by
  rw [List.drop_eq_getElem_cons h, List.getD_eq_getElem?_getD, List.getElem?_eq_getElem h]; rfl

/-- A message. -/
structure Msg where
  kind : Int
  code : Int
  id : Int
  tok : List UInt8
  opts : List Opt
  pay : List UInt8
abbrev mNil : Msg := ⟨0, 0, 0, [], [], []⟩
/-- Its value, where its options are v. -/
def mV (m : Msg) (v : Value) : Value := .agg #[.int .i64 m.kind, .int .i64 m.code, .int .i64 m.id, .string ⟨m.tok.toArray⟩, v, .string ⟨m.pay.toArray⟩]
abbrev readsO (w : World) (v : Value) (os : List Opt) : Prop := reads w v [.int .i64, .str] (os.map encO)

/-- What is wrong with options behind one of a number. -/
def optE : Int → List Opt → Int
  | _, [] => 0
  | was, o :: l => if 0 ≤ o.1 ∧ o.1 ≤ 65535 then (if o.1 < was then 4 else if 60 < (o.2.length : Int) then 2 else optE o.1 l) else 3
/-- What is wrong with a message. -/
def chk (m : Msg) : Int :=
  if 0 ≤ m.kind ∧ m.kind ≤ 3 then
    if 0 ≤ m.code ∧ m.code ≤ 255 ∧ 0 ≤ m.id ∧ m.id ≤ 65535 then
      if 8 < (m.tok.length : Int) ∨ 12 < (m.opts.length : Int) ∨ 200 < (m.pay.length : Int) then 2
      else if optE 0 m.opts ≠ 0 then optE 0 m.opts
      else if m.code = 0 ∧ (m.tok ≠ [] ∨ m.pay ≠ [] ∨ m.opts ≠ []) then 1 else 0
    else 3
  else 7
theorem chk_kind {m : Msg} (h : ¬ (0 ≤ m.kind ∧ m.kind ≤ 3)) : chk m = 7 := if_neg h
theorem chk_range {m : Msg} (h : 0 ≤ m.kind ∧ m.kind ≤ 3) (h1 : ¬ (0 ≤ m.code ∧ m.code ≤ 255 ∧ 0 ≤ m.id ∧ m.id ≤ 65535)) : chk m = 3 := by rw [chk, if_pos h, if_neg h1]
theorem chk_many {m : Msg} (h : 0 ≤ m.kind ∧ m.kind ≤ 3) (h1 : 0 ≤ m.code ∧ m.code ≤ 255 ∧ 0 ≤ m.id ∧ m.id ≤ 65535) (h2 : 8 < (m.tok.length : Int) ∨ 12 < (m.opts.length : Int) ∨ 200 < (m.pay.length : Int)) : chk m = 2 := by rw [chk, if_pos h, if_pos h1, if_pos h2]
theorem chk_opts {m : Msg} (h : 0 ≤ m.kind ∧ m.kind ≤ 3) (h1 : 0 ≤ m.code ∧ m.code ≤ 255 ∧ 0 ≤ m.id ∧ m.id ≤ 65535) (h2 : ¬ (8 < (m.tok.length : Int) ∨ 12 < (m.opts.length : Int) ∨ 200 < (m.pay.length : Int))) :
    chk m = if optE 0 m.opts ≠ 0 then optE 0 m.opts else if m.code = 0 ∧ (m.tok ≠ [] ∨ m.pay ≠ [] ∨ m.opts ≠ []) then 1 else 0 := by rw [chk, if_pos h, if_pos h1, if_neg h2]
theorem chk_ok {m : Msg} : chk m = 0 ↔ (0 ≤ m.kind ∧ m.kind ≤ 3) ∧ (0 ≤ m.code ∧ m.code ≤ 255 ∧ 0 ≤ m.id ∧ m.id ≤ 65535) ∧ (m.tok.length ≤ 8 ∧ m.opts.length ≤ 12 ∧ m.pay.length ≤ 200) ∧ optE 0 m.opts = 0 ∧ (m.code = 0 → m.tok = [] ∧ m.pay = [] ∧ m.opts = []) := by
  unfold chk
  constructor
  · intro h
    split at h
    · split at h
      · split at h
        · exact absurd h (by decide)
        · split at h
          · contradiction
          · split at h
            · exact absurd h (by decide)
            · rename_i h1 h2 h3 h4 h5
              exact ⟨h1, h2, by omega, Classical.not_not.1 h4, fun h6 => ⟨Classical.byContradiction fun h7 => h5 ⟨h6, .inl h7⟩, Classical.byContradiction fun h7 => h5 ⟨h6, .inr (.inl h7)⟩, Classical.byContradiction fun h7 => h5 ⟨h6, .inr (.inr h7)⟩⟩⟩
      · exact absurd h (by decide)
    · exact absurd h (by decide)
  · rintro ⟨h1, h2, h3, h4, h5⟩
    rw [if_pos h1, if_pos h2, if_neg (by omega), if_neg (fun h => h h4), if_neg]
    rintro ⟨h6, h7⟩
    obtain ⟨a, b, c⟩ := h5 h6
    rcases h7 with h | h | h
    · exact h a
    · exact h b
    · exact h c

theorem c_within (w : World) (n a b : Int) : Calls Tryd.prog 97 #[.int .i64 n, .int .i64 a, .int .i64 b] w fun e w' => e = .returned (.bool (decide (a ≤ n ∧ n ≤ b))) ∧ Mod [] w w' := by
  refine as_called (run_plain2 (ρ := [.i n, .i a, .i b]) sxE_ok Tryd.func97 tree_message_within rfl rfl rfl ?_) rfl
  simp only [Tree.goal, X.P, X.ev, V.toI_i, V.toB_b, V.toS_s, V.toR_r, V.toV_v, V.toN_n, V.toL_l, SV.ev, CV.ev, Sc.ev, List.getD_cons_zero, List.getD_cons_succ, List.getElem?_cons_zero, List.getElem?_cons_succ, List.map_cons, List.map_nil, List.length_cons, List.length_nil, List.cons_append, List.nil_append, Nat.zero_add, Nat.reduceAdd]
  exact fun w' hr => ⟨by simp, hr.mod⟩

theorem c_options (w : World) (v : Value) (os : List Opt) (hv : readsO w v os) (hl : os.length < 1099511627776) : Calls Tryd.prog 98 #[sc1 v] w fun e w' => e = .returned (.int .i64 (optE 0 os)) ∧ Mod [] w w' := by
  refine as_called (run_tree2 (ρ := [.v v, .r (os.map encO)]) sxE_ok Tryd.func98 tree_message_options rfl rfl (Rel.start2 (by simp [Ent.holds, Ent.wr, hv, X.ev])) rfl rfl ?_) rfl
  simp only [Tree.goal, X.P, X.ev, V.toI_i, V.toB_b, V.toS_s, V.toR_r, V.toV_v, V.toN_n, V.toL_l, SV.ev, CV.ev, Sc.ev, List.getD_cons_zero, List.getD_cons_succ, List.getElem?_cons_zero, List.getElem?_cons_succ, List.map_cons, List.map_nil, List.length_cons, List.length_nil, List.cons_append, List.nil_append, Nat.zero_add, Nat.reduceAdd, List.length_map]
  refine ⟨fun vs => ∃ (i : Nat) (x : V) (was : Int), vs = [x, .i was, .i i] ∧ i ≤ os.length ∧ optE was (os.drop i) = optE 0 os, fun vs => (os.length - (vs.getD 2 (.i 0)).toI).toNat, ⟨0, _, 0, rfl, by omega, rfl⟩, ?_⟩
  rintro _ - ⟨i, x, was, rfl, hi, hg⟩
  simp only [Tree.goal, X.P, X.ev, V.toI_i, V.toB_b, V.toS_s, V.toR_r, V.toV_v, V.toN_n, V.toL_l, SV.ev, CV.ev, Sc.ev, List.getD_cons_zero, List.getD_cons_succ, List.getElem?_cons_zero, List.getElem?_cons_succ, List.map_cons, List.map_nil, List.length_cons, List.length_nil, List.cons_append, List.nil_append, Nat.zero_add, Nat.reduceAdd, List.length_map, Int.toNat_natCast, gI_encO, gS_encO]
  refine ⟨fun h1 => ?_, fun h1 w' hr => ⟨?_, hr.mod⟩⟩
  · rw [dropO os i (by omega)] at hg
    generalize os.getD i oD = o at hg ⊢
    (repeat refine ⟨by omega, ?_⟩)
    intro b
    refine ⟨[.b (decide (0 ≤ o.1 ∧ o.1 ≤ 65535))], rfl, fun _ w' _ => c_within w' _ _ _, ?_⟩
    simp only [Tree.goal, X.P, X.ev, V.toI_i, V.toB_b, V.toS_s, V.toR_r, V.toV_v, V.toN_n, V.toL_l, SV.ev, CV.ev, Sc.ev, List.getD_cons_zero, List.getD_cons_succ, List.getElem?_cons_zero, List.getElem?_cons_succ, List.map_cons, List.map_nil, List.length_cons, List.length_nil, List.cons_append, List.nil_append, Nat.zero_add, Nat.reduceAdd, decide_eq_true_eq]
    simp only [optE] at hg
    refine ⟨fun h2 w' hr => ⟨by rw [← hg, if_neg h2], hr.mod⟩, fun h2 => ?_⟩
    rw [if_pos (Classical.not_not.1 h2)] at hg
    refine ⟨fun h3 w' hr => ⟨by rw [← hg, if_pos h3], hr.mod⟩, fun h3 => ?_⟩
    rw [if_neg h3] at hg
    refine ⟨fun h4 w' hr => ⟨by rw [← hg, if_pos h4], hr.mod⟩, fun h4 => ?_⟩
    rw [if_neg h4] at hg
    exact ⟨by omega, by omega, ⟨i + 1, _, o.1, rfl, by omega, hg⟩, by omega⟩
  · have : i = os.length := by omega
    subst this
    rw [List.drop_length] at hg
    rw [← hg]; rfl

theorem c_Check (w : World) (m : Msg) (v : Value) (hv : readsO w v m.opts) (hl : m.opts.length < 1099511627776) (ht : m.tok.length < 1099511627776) (hp : m.pay.length < 1099511627776) :
    Calls Tryd.prog 53 #[mV m (sc1 v)] w fun e w' => e = .returned (.int .i64 (chk m)) ∧ Mod [] w w' := by
  refine as_called (run_tree2 (ρ := [.i m.kind, .i m.code, .i m.id, .s m.tok, .v v, .r (m.opts.map encO), .s m.pay]) sxE_ok Tryd.func53 tree_message_Check rfl rfl (Rel.start2 (by simp [Ent.holds, Ent.wr, hv, X.ev])) rfl rfl ?_) rfl
  simp only [Tree.goal, X.P, X.ev, V.toI_i, V.toB_b, V.toS_s, V.toR_r, V.toV_v, V.toN_n, V.toL_l, SV.ev, CV.ev, Sc.ev, List.getD_cons_zero, List.getD_cons_succ, List.getElem?_cons_zero, List.getElem?_cons_succ, List.map_cons, List.map_nil, List.length_cons, List.length_nil, List.cons_append, List.nil_append, Nat.zero_add, Nat.reduceAdd, List.length_map]
  intro b
  refine ⟨[.b (decide (0 ≤ m.kind ∧ m.kind ≤ 3))], rfl, fun _ w' _ => c_within w' _ _ _, ?_⟩
  simp only [Tree.goal, X.P, X.ev, V.toI_i, V.toB_b, V.toS_s, V.toR_r, V.toV_v, V.toN_n, V.toL_l, SV.ev, CV.ev, Sc.ev, List.getD_cons_zero, List.getD_cons_succ, List.getElem?_cons_zero, List.getElem?_cons_succ, List.map_cons, List.map_nil, List.length_cons, List.length_nil, List.cons_append, List.nil_append, Nat.zero_add, Nat.reduceAdd, decide_eq_true_eq, List.length_map]
  refine ⟨fun h w' hr => ⟨by rw [chk_kind h], hr.mod⟩, fun h => ?_⟩
  replace h := Classical.not_not.1 h
  refine ⟨[.b (decide (0 ≤ m.code ∧ m.code ≤ 255))], rfl, fun _ w' _ => c_within w' _ _ _, ?_⟩
  simp only [Tree.goal, X.P, X.ev, V.toI_i, V.toB_b, V.toS_s, V.toR_r, V.toV_v, V.toN_n, V.toL_l, SV.ev, CV.ev, Sc.ev, List.getD_cons_zero, List.getD_cons_succ, List.getElem?_cons_zero, List.getElem?_cons_succ, List.map_cons, List.map_nil, List.length_cons, List.length_nil, List.cons_append, List.nil_append, Nat.zero_add, Nat.reduceAdd, decide_eq_true_eq, List.length_map]
  refine ⟨[.b (decide (0 ≤ m.id ∧ m.id ≤ 65535))], rfl, fun _ w' _ => c_within w' _ _ _, ?_⟩
  simp only [Tree.goal, X.P, X.ev, V.toI_i, V.toB_b, V.toS_s, V.toR_r, V.toV_v, V.toN_n, V.toL_l, SV.ev, CV.ev, Sc.ev, List.getD_cons_zero, List.getD_cons_succ, List.getElem?_cons_zero, List.getElem?_cons_succ, List.map_cons, List.map_nil, List.length_cons, List.length_nil, List.cons_append, List.nil_append, Nat.zero_add, Nat.reduceAdd, decide_eq_true_eq, List.length_map]
  refine ⟨fun h1 w' hr => ⟨by rw [chk_range h (by omega)], hr.mod⟩, fun h1 => ?_⟩
  refine ⟨fun h2 w' hr => ⟨by rw [chk_many h (by omega) (by omega)], hr.mod⟩, fun h2 => ?_⟩
  rw [chk_opts h (by omega) (by omega)]
  refine ⟨[.i (optE 0 m.opts)], rfl, fun _ w' hr => c_options w' v m.opts (hr.at_ 1 rfl) hl, ?_⟩
  simp only [Tree.goal, X.P, X.ev, V.toI_i, V.toB_b, V.toS_s, V.toR_r, V.toV_v, V.toN_n, V.toL_l, SV.ev, CV.ev, Sc.ev, List.getD_cons_zero, List.getD_cons_succ, List.getElem?_cons_zero, List.getElem?_cons_succ, List.map_cons, List.map_nil, List.length_cons, List.length_nil, List.cons_append, List.nil_append, Nat.zero_add, Nat.reduceAdd, decide_eq_true_eq, List.length_map]
  refine ⟨fun h3 w' hr => ⟨by rw [if_pos h3], hr.mod⟩, fun h3 => ?_⟩
  rw [if_neg h3]
  refine ⟨by omega, fun h4 w' hr => ⟨?_, hr.mod⟩, fun h4 w' hr => ⟨?_, hr.mod⟩⟩
  · rw [if_pos]
    rcases h4 with ⟨h5, h6⟩ | ⟨h5, h6⟩
    · refine ⟨h5, ?_⟩
      simp only [List.append_eq_nil_iff] at h6
      by_cases h7 : m.tok = []
      · exact .inr (.inl fun h8 => h6 ⟨h7, h8⟩)
      · exact .inl h7
    · exact ⟨h5, .inr (.inr (by intro h8; rw [h8] at h6; simp at h6))⟩
  · rw [if_neg]
    rintro ⟨h5, h6⟩
    apply h4
    rcases h6 with h6 | h6 | h6
    · exact .inl ⟨h5, fun h => h6 (List.append_eq_nil_iff.1 h).1⟩
    · exact .inl ⟨h5, fun h => h6 (List.append_eq_nil_iff.1 h).2⟩
    · exact .inr ⟨h5, by have := List.length_pos_iff.2 h6; omega⟩

theorem c_CheckMessage (w : World) (m : Msg) (v : Value) (hv : readsO w v m.opts) (hl : m.opts.length < 1099511627776) :
    Calls Tryd.prog 26 #[mV m (sc1 v)] w fun e w' => e = .returned (.int .i64 (chk m)) ∧ Mod [] w w' := by
  refine as_called (run_tree2 (ρ := [.i m.kind, .i m.code, .i m.id, .s m.tok, .v v, .r (m.opts.map encO), .s m.pay]) sxE_ok Tryd.func26 tree_dragomanref_CheckMessage rfl rfl (Rel.start2 (by simp [Ent.holds, Ent.wr, hv, X.ev])) rfl rfl ?_) rfl
  simp only [Tree.goal, X.P, X.ev, V.toI_i, V.toB_b, V.toS_s, V.toR_r, V.toV_v, V.toN_n, V.toL_l, SV.ev, CV.ev, Sc.ev, List.getD_cons_zero, List.getD_cons_succ, List.getElem?_cons_zero, List.getElem?_cons_succ, List.map_cons, List.map_nil, List.length_cons, List.length_nil, List.cons_append, List.nil_append, Nat.zero_add, Nat.reduceAdd, List.length_map]
  intro b
  refine ⟨fun h w' hr => ⟨by rw [chk_kind h], hr.mod⟩, fun h => ?_⟩
  refine ⟨fun h1 w' hr => ⟨by rw [chk_range (by omega) (by omega)], hr.mod⟩, fun h1 => ?_⟩
  refine ⟨fun h2 w' hr => ⟨by rw [chk_range (by omega) (by omega)], hr.mod⟩, fun h2 => ?_⟩
  refine ⟨fun h3 w' hr => ⟨by rw [chk_many (by omega) (by omega) (by omega)], hr.mod⟩, fun h3 => ?_⟩
  rw [chk_opts (by omega) (by omega) (by omega)]
  refine ⟨fun vs => ∃ (i : Nat) (x : V) (was : Int), vs = [x, .i i] ∧ i ≤ m.opts.length ∧ optE was (m.opts.drop i) = optE 0 m.opts ∧ (i = 0 ∧ was = 0 ∨ 0 < i ∧ was = (m.opts.getD (i - 1) oD).1), fun vs => (m.opts.length - (vs.getD 1 (.i 0)).toI).toNat, ⟨0, _, 0, rfl, by omega, rfl, .inl ⟨rfl, rfl⟩⟩, ?_⟩
  rintro _ - ⟨i, x, was, rfl, hi, hg, hw⟩
  simp only [Tree.goal, X.P, X.ev, V.toI_i, V.toB_b, V.toS_s, V.toR_r, V.toV_v, V.toN_n, V.toL_l, SV.ev, CV.ev, Sc.ev, List.getD_cons_zero, List.getD_cons_succ, List.getElem?_cons_zero, List.getElem?_cons_succ, List.map_cons, List.map_nil, List.length_cons, List.length_nil, List.cons_append, List.nil_append, Nat.zero_add, Nat.reduceAdd, List.length_map, Int.toNat_natCast, gI_encO, gS_encO]
  refine ⟨fun h4 => ?_, fun h4 => ?_⟩
  · rw [dropO m.opts i (by omega)] at hg
    have e1 : ((i : Int) - 1).toNat = i - 1 := by omega
    rw [e1]
    have hw' : i + 1 ≠ 0 ∧ (m.opts.getD i oD).1 = (m.opts.getD (i + 1 - 1) oD).1 := by simp
    generalize m.opts.getD i oD = o at hg hw' ⊢
    (repeat refine ⟨by omega, ?_⟩)
    intro b
    simp only [optE] at hg
    refine ⟨fun h5 w' hr => ⟨by rw [if_neg h5] at hg; rw [← hg]; rfl, hr.mod⟩, fun h5 => ?_⟩
    rw [if_pos (Classical.not_not.1 h5)] at hg
    (repeat refine ⟨by omega, ?_⟩)
    refine ⟨fun h6 w' hr => ⟨?_, hr.mod⟩, fun h6 => ?_⟩
    · rw [if_pos (by omega)] at hg; rw [← hg]; rfl
    rw [if_neg (by omega)] at hg
    refine ⟨fun h7 w' hr => ⟨by rw [if_pos h7] at hg; rw [← hg]; rfl, hr.mod⟩, fun h7 => ?_⟩
    rw [if_neg h7] at hg
    exact ⟨by omega, by omega, ⟨i + 1, _, o.1, rfl, by omega, hg, .inr ⟨by omega, hw'.2⟩⟩, by omega⟩
  · have : i = m.opts.length := by omega
    subst this
    rw [List.drop_length] at hg
    have hg : optE 0 m.opts = 0 := by rw [← hg]; rfl
    rw [if_neg (fun h => h hg)]
    have e2 : (m.code = 0 ∧ (m.tok ≠ [] ∨ m.pay ≠ [] ∨ m.opts ≠ [])) ↔ (m.code = 0 ∧ ((¬ m.tok = [] ∨ ¬ m.pay = []) ∨ 0 < (m.opts.length : Int))) := by
      have : m.opts ≠ [] ↔ 0 < (m.opts.length : Int) := by rw [ne_eq, ← List.length_eq_zero_iff]; omega
      rw [this, or_assoc]
    refine ⟨fun h5 w' hr => ⟨?_, hr.mod⟩, fun h5 w' hr => ⟨?_, hr.mod⟩⟩
    · rw [if_pos (e2.2 h5)]
    · rw [if_neg (fun h => h5 (e2.1 h))]
end Go.Proofs.YtliedecinehijaaDoor
