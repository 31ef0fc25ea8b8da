/-
  Messages: their bytes. By an AI agent.
-/
import Derived.Test.YtpcdkcbniokdgaaMa
set_option linter.unusedSimpArgs false
set_option linter.unusedVariables false
namespace Go.Proofs.Ytpcdkcbniokdgaa
open Go.Sx

/-- Four bits that tell a number, and the bytes that follow. -/
def halfP (n : Int) : Int × List UInt8 := if 269 ≤ n then (14, numB 2 (n - 269)) else if 13 ≤ n then (13, numB 1 (n - 13)) else (n, [])
theorem halfP_bd {n : Int} (h : 0 ≤ n) : 0 ≤ (halfP n).1 ∧ (halfP n).1 ≤ 14 ∧ (halfP n).2.length ≤ 2 := by
  unfold halfP
  split
  · simp [numB_len]
  · split
    · simp [numB_len]
    · simp; omega

theorem c_halfOf (w : World) (n : Int) (h0 : 0 ≤ n) (h1 : n ≤ 4611686018427387904) : Calls Try.prog 57 #[.int .i64 n] w
    fun e w' => e = .returned (.tuple #[.int .i64 (halfP n).1, .string ⟨(halfP n).2.toArray⟩]) ∧ Mod [] w w' := by
  refine as_called (run_plain2 (ρ := [.i n]) sxE_ok Try.func57 tree_dragomanref_halfOf rfl rfl rfl ?_) rfl
  simp only [Tree.goal, X.P, X.ev, V.toI_i, V.toB_b, V.toS_s, V.toR_r, V.toV_v, V.toN_n, V.toL_l, SV.ev, CV.ev, Sc.ev, List.getD_cons_zero, List.getD_cons_succ, List.getElem?_cons_zero, List.getElem?_cons_succ, List.map_cons, List.map_nil, List.length_cons, List.length_nil, List.cons_append, List.nil_append, Nat.zero_add, Nat.reduceAdd]
  refine ⟨fun h => ⟨by omega, by omega, [.s (numB 2 (n - 269))], rfl, fun _ w' _ => c_NumberOf w' (n - 269) 2 (by omega) (by omega) (by omega), ?_⟩, fun h => ⟨fun h2 => ⟨by omega, by omega, [.s (numB 1 (n - 13))], rfl, fun _ w' _ => c_NumberOf w' (n - 13) 1 (by omega) (by omega) (by omega), ?_⟩, fun h2 w' hr => ⟨?_, hr.mod⟩⟩⟩
  · simp only [Tree.goal, X.P, X.ev, V.toI_i, V.toB_b, V.toS_s, V.toR_r, V.toV_v, V.toN_n, V.toL_l, SV.ev, CV.ev, Sc.ev, List.getD_cons_zero, List.getD_cons_succ, List.getElem?_cons_zero, List.getElem?_cons_succ, List.map_cons, List.map_nil, List.length_cons, List.length_nil, List.cons_append, List.nil_append, Nat.zero_add, Nat.reduceAdd]
    exact fun w' hr => ⟨by rw [halfP, if_pos h], hr.mod⟩
  · simp only [Tree.goal, X.P, X.ev, V.toI_i, V.toB_b, V.toS_s, V.toR_r, V.toV_v, V.toN_n, V.toL_l, SV.ev, CV.ev, Sc.ev, List.getD_cons_zero, List.getD_cons_succ, List.getElem?_cons_zero, List.getElem?_cons_succ, List.map_cons, List.map_nil, List.length_cons, List.length_nil, List.cons_append, List.nil_append, Nat.zero_add, Nat.reduceAdd]
    exact fun w' hr => ⟨by rw [halfP, if_neg h, if_pos h2], hr.mod⟩
  · rw [halfP, if_neg h, if_neg h2]
theorem c_half (w : World) (n : Int) (h0 : 0 ≤ n) (h1 : n ≤ 4611686018427387904) : Calls Try.prog 66 #[.int .i64 n] w
    fun e w' => e = .returned (.tuple #[.int .i64 (halfP n).1, .string ⟨(halfP n).2.toArray⟩]) ∧ Mod [] w w' := by
  refine as_called (run_plain2 (ρ := [.i n]) sxE_ok Try.func66 tree_message_half rfl rfl rfl ?_) rfl
  simp only [Tree.goal, X.P, X.ev, V.toI_i, V.toB_b, V.toS_s, V.toR_r, V.toV_v, V.toN_n, V.toL_l, SV.ev, CV.ev, Sc.ev, List.getD_cons_zero, List.getD_cons_succ, List.getElem?_cons_zero, List.getElem?_cons_succ, List.map_cons, List.map_nil, List.length_cons, List.length_nil, List.cons_append, List.nil_append, Nat.zero_add, Nat.reduceAdd]
  refine ⟨fun h w' hr => ⟨?_, hr.mod⟩, fun h => ⟨fun h2 => ⟨by omega, by omega, [.s (numB 1 (n - 13))], rfl, fun _ w' _ => c_Bytes w' (n - 13) 1 (by omega) (by omega) (by omega), ?_⟩, fun h2 => ⟨by omega, by omega, [.s (numB 2 (n - 269))], rfl, fun _ w' _ => c_Bytes w' (n - 269) 2 (by omega) (by omega) (by omega), ?_⟩⟩⟩
  · rw [halfP, if_neg (by omega), if_neg (by omega)]
  · simp only [Tree.goal, X.P, X.ev, V.toI_i, V.toB_b, V.toS_s, V.toR_r, V.toV_v, V.toN_n, V.toL_l, SV.ev, CV.ev, Sc.ev, List.getD_cons_zero, List.getD_cons_succ, List.getElem?_cons_zero, List.getElem?_cons_succ, List.map_cons, List.map_nil, List.length_cons, List.length_nil, List.cons_append, List.nil_append, Nat.zero_add, Nat.reduceAdd]
    exact fun w' hr => ⟨by rw [halfP, if_neg (by omega), if_pos (by omega)], hr.mod⟩
  · simp only [Tree.goal, X.P, X.ev, V.toI_i, V.toB_b, V.toS_s, V.toR_r, V.toV_v, V.toN_n, V.toL_l, SV.ev, CV.ev, Sc.ev, List.getD_cons_zero, List.getD_cons_succ, List.getElem?_cons_zero, List.getElem?_cons_succ, List.map_cons, List.map_nil, List.length_cons, List.length_nil, List.cons_append, List.nil_append, Nat.zero_add, Nat.reduceAdd]
    exact fun w' hr => ⟨by rw [halfP, if_pos (by omega)], hr.mod⟩

/-- The bytes of an option behind one of a number. -/
def optB (was : Int) (o : Opt) : List UInt8 := numB 1 (16 * (halfP (o.1 - was)).1 + (halfP o.2.length).1) ++ (halfP (o.1 - was)).2 ++ (halfP o.2.length).2 ++ o.2
def optsB : Int → List Opt → List UInt8
  | _, [] => []
  | was, o :: l => optB was o ++ optsB o.1 l
def msgB (m : Msg) : List UInt8 := numB 1 (64 + 16 * m.kind + m.tok.length) ++ numB 1 m.code ++ numB 2 m.id ++ m.tok ++ optsB 0 m.opts ++ (if m.pay = [] then [] else 255 :: m.pay)

theorem optE_cons {was : Int} {o : Opt} {l : List Opt} : optE was (o :: l) = 0 ↔ (0 ≤ o.1 ∧ o.1 ≤ 65535) ∧ was ≤ o.1 ∧ o.2.length ≤ 60 ∧ optE o.1 l = 0 := by
  simp only [optE]
  constructor
  · intro h
    split at h
    · split at h
      · exact absurd h (by decide)
      · split at h
        · exact absurd h (by decide)
        · exact ⟨by assumption, by omega, by omega, h⟩
    · exact absurd h (by decide)
  · rintro ⟨h1, h2, h3, h4⟩
    rw [if_pos h1, if_neg (by omega), if_neg (by omega), h4]
theorem optB_len {was : Int} {o : Opt} (h : was ≤ o.1) (h2 : o.2.length ≤ 60) : (optB was o).length ≤ 65 := by
  have h3 := halfP_bd (n := o.1 - was) (by omega)
  have h4 := halfP_bd (n := (o.2.length : Int)) (by omega)
  simp only [optB, List.length_append, numB_len]
  omega

theorem or16 (a b : Int) (h : 0 ≤ a ∧ a ≤ 14) (h2 : 0 ≤ b ∧ b ≤ 14) : ibits .or .i64 (IntKind.i64.wrap (a * 2 ^ (Nat.min (Int.toNat 4) IntKind.i64.bits))) b = 16 * a + b := by
  have : ∀ x y : Fin 16, ibits .or .i64 (IntKind.i64.wrap ((x.val : Int) * 2 ^ (Nat.min (Int.toNat 4) IntKind.i64.bits))) (y.val : Int) = 16 * (x.val : Int) + y.val := by decide +kernel
  have := this ⟨a.toNat, by omega⟩ ⟨b.toNat, by omega⟩
  simpa only [Int.toNat_of_nonneg h.1, Int.toNat_of_nonneg h2.1] using this
theorem or64 (a b : Int) (h : 0 ≤ a ∧ a ≤ 3) (h2 : 0 ≤ b ∧ b ≤ 8) : ibits .or .i64 (ibits .or .i64 64 (IntKind.i64.wrap (a * 2 ^ (Nat.min (Int.toNat 4) IntKind.i64.bits)))) b = 64 + 16 * a + b := by
  have : ∀ (x : Fin 4) (y : Fin 16), ibits .or .i64 (ibits .or .i64 64 (IntKind.i64.wrap ((x.val : Int) * 2 ^ (Nat.min (Int.toNat 4) IntKind.i64.bits)))) (y.val : Int) = 64 + 16 * (x.val : Int) + y.val := by decide +kernel
  have := this ⟨a.toNat, by omega⟩ ⟨b.toNat, by omega⟩
  simpa only [Int.toNat_of_nonneg h.1, Int.toNat_of_nonneg h2.1] using this

theorem c_bytes (w : World) (o : Opt) (was : Int) (h : 0 ≤ was ∧ was ≤ o.1 ∧ o.1 ≤ 65535) (h2 : o.2.length ≤ 60) : Calls Try.prog 63 #[.agg #[.int .i64 o.1, .string ⟨o.2.toArray⟩], .int .i64 was] w
    fun e w' => e = .returned (.string ⟨(optB was o).toArray⟩) ∧ Mod [] w w' := by
  refine as_called (run_plain2 (ρ := [.i o.1, .s o.2, .i was]) sxE_ok Try.func63 tree_message_bytes rfl rfl rfl ?_) rfl
  simp only [Tree.goal, X.P, X.ev, V.toI_i, V.toB_b, V.toS_s, V.toR_r, V.toV_v, V.toN_n, V.toL_l, SV.ev, CV.ev, Sc.ev, List.getD_cons_zero, List.getD_cons_succ, List.getElem?_cons_zero, List.getElem?_cons_succ, List.map_cons, List.map_nil, List.length_cons, List.length_nil, List.cons_append, List.nil_append, Nat.zero_add, Nat.reduceAdd]
  intro b
  refine ⟨by omega, by omega, [.i (halfP (o.1 - was)).1, .s (halfP (o.1 - was)).2], rfl, fun _ w' _ => c_half w' _ (by omega) (by omega), ?_⟩
  simp only [Tree.goal, X.P, X.ev, V.toI_i, V.toB_b, V.toS_s, V.toR_r, V.toV_v, V.toN_n, V.toL_l, SV.ev, CV.ev, Sc.ev, List.getD_cons_zero, List.getD_cons_succ, List.getElem?_cons_zero, List.getElem?_cons_succ, List.map_cons, List.map_nil, List.length_cons, List.length_nil, List.cons_append, List.nil_append, Nat.zero_add, Nat.reduceAdd]
  refine ⟨[.i (halfP o.2.length).1, .s (halfP o.2.length).2], rfl, fun _ w' _ => c_half w' _ (by omega) (by omega), ?_⟩
  simp only [Tree.goal, X.P, X.ev, V.toI_i, V.toB_b, V.toS_s, V.toR_r, V.toV_v, V.toN_n, V.toL_l, SV.ev, CV.ev, Sc.ev, List.getD_cons_zero, List.getD_cons_succ, List.getElem?_cons_zero, List.getElem?_cons_succ, List.map_cons, List.map_nil, List.length_cons, List.length_nil, List.cons_append, List.nil_append, Nat.zero_add, Nat.reduceAdd]
  have h3 := halfP_bd (n := o.1 - was) (by omega)
  have h4 := halfP_bd (n := (o.2.length : Int)) (by omega)
  rw [or16 _ _ (by omega) (by omega)]
  refine ⟨[.s (numB 1 (16 * (halfP (o.1 - was)).1 + (halfP o.2.length).1))], rfl, fun _ w' _ => c_Bytes w' _ 1 (by omega) (by omega) (by omega), ?_⟩
  simp only [Tree.goal, X.P, X.ev, V.toI_i, V.toB_b, V.toS_s, V.toR_r, V.toV_v, V.toN_n, V.toL_l, SV.ev, CV.ev, Sc.ev, List.getD_cons_zero, List.getD_cons_succ, List.getElem?_cons_zero, List.getElem?_cons_succ, List.map_cons, List.map_nil, List.length_cons, List.length_nil, List.cons_append, List.nil_append, Nat.zero_add, Nat.reduceAdd, List.length_append, numB_len]
  (repeat refine ⟨by omega, ?_⟩)
  exact fun w' hr => ⟨rfl, hr.mod⟩

theorem takeO (os : List Opt) (i : Nat) (h : i < os.length) : os.take (i + 1) = os.take i ++ [os.getD i oD] := by
  rw [List.take_add_one, List.getD_eq_getElem?_getD, List.getElem?_eq_getElem h]; rfl

set_option maxRecDepth 10000 in
theorem c_MsgBytes (w : World) (m : Msg) (v : Value) (hv : readsO w v m.opts) (hc : chk m = 0) :
    Calls Try.prog 53 #[mV m (sc1 v)] w fun e w' => e = .returned (.string ⟨(msgB m).toArray⟩) ∧ Mod [] w w' := by
  obtain ⟨hk, hr, hl, ho, -⟩ := chk_ok.1 hc
  refine as_called (run_tree2 (ρ := [.i m.kind, .i m.code, .i m.id, .s m.tok, .v v, .r (m.opts.map encO), .s m.pay]) sxE_ok Try.func53 tree_message_Bytes rfl rfl (Rel.start2 (by simp [Ent.holds, Ent.wr, hv, X.ev])) rfl rfl ?_) rfl
  simp only [Tree.goal, X.P, X.ev, V.toI_i, V.toB_b, V.toS_s, V.toR_r, V.toV_v, V.toN_n, V.toL_l, SV.ev, CV.ev, Sc.ev, List.getD_cons_zero, List.getD_cons_succ, List.getElem?_cons_zero, List.getElem?_cons_succ, List.map_cons, List.map_nil, List.length_cons, List.length_nil, List.cons_append, List.nil_append, Nat.zero_add, Nat.reduceAdd, List.length_map]
  intro b
  rw [or64 _ _ (by omega) (by omega)]
  refine ⟨[.s (numB 1 (64 + 16 * m.kind + m.tok.length))], rfl, fun _ w' _ => c_Bytes w' _ 1 (by omega) (by omega) (by omega), ?_⟩
  simp only [Tree.goal, X.P, X.ev, V.toI_i, V.toB_b, V.toS_s, V.toR_r, V.toV_v, V.toN_n, V.toL_l, SV.ev, CV.ev, Sc.ev, List.getD_cons_zero, List.getD_cons_succ, List.getElem?_cons_zero, List.getElem?_cons_succ, List.map_cons, List.map_nil, List.length_cons, List.length_nil, List.cons_append, List.nil_append, Nat.zero_add, Nat.reduceAdd]
  refine ⟨[.s (numB 1 m.code)], rfl, fun _ w' _ => c_Bytes w' _ 1 (by omega) (by omega) (by omega), ?_⟩
  simp only [Tree.goal, X.P, X.ev, V.toI_i, V.toB_b, V.toS_s, V.toR_r, V.toV_v, V.toN_n, V.toL_l, SV.ev, CV.ev, Sc.ev, List.getD_cons_zero, List.getD_cons_succ, List.getElem?_cons_zero, List.getElem?_cons_succ, List.map_cons, List.map_nil, List.length_cons, List.length_nil, List.cons_append, List.nil_append, Nat.zero_add, Nat.reduceAdd, List.length_append, numB_len]
  (repeat refine ⟨by omega, ?_⟩)
  refine ⟨[.s (numB 2 m.id)], rfl, fun _ w' _ => c_Bytes w' _ 2 (by omega) (by omega) (by omega), ?_⟩
  simp only [Tree.goal, X.P, X.ev, V.toI_i, V.toB_b, V.toS_s, V.toR_r, V.toV_v, V.toN_n, V.toL_l, SV.ev, CV.ev, Sc.ev, List.getD_cons_zero, List.getD_cons_succ, List.getElem?_cons_zero, List.getElem?_cons_succ, List.map_cons, List.map_nil, List.length_cons, List.length_nil, List.cons_append, List.nil_append, Nat.zero_add, Nat.reduceAdd, List.length_append, numB_len, List.length_map]
  (repeat refine ⟨by omega, ?_⟩)
  refine ⟨fun vs => ∃ (i : Nat) (acc : List UInt8) (was : Int), vs = [.s acc, .i was, .i i] ∧ i ≤ m.opts.length ∧ 0 ≤ was ∧ optE was (m.opts.drop i) = 0 ∧ acc.length ≤ 100 + 100 * i ∧
      acc ++ optsB was (m.opts.drop i) = numB 1 (64 + 16 * m.kind + m.tok.length) ++ numB 1 m.code ++ numB 2 m.id ++ m.tok ++ optsB 0 m.opts, fun vs => (m.opts.length - (vs.getD 2 (.i 0)).toI).toNat, ⟨0, _, 0, rfl, by omega, by omega, ho, by simp only [List.length_append, numB_len]; omega, rfl⟩, ?_⟩
  rintro _ - ⟨i, acc, was, rfl, hi, hw, hg, hal, hacc⟩
  simp only [Tree.goal, X.P, X.ev, V.toI_i, V.toB_b, V.toS_s, V.toR_r, V.toV_v, V.toN_n, V.toL_l, SV.ev, CV.ev, Sc.ev, List.getD_cons_zero, List.getD_cons_succ, List.getElem?_cons_zero, List.getElem?_cons_succ, List.map_cons, List.map_nil, List.length_cons, List.length_nil, List.cons_append, List.nil_append, Nat.zero_add, Nat.reduceAdd, List.length_map, Int.toNat_natCast, gI_encO, gS_encO]
  refine ⟨fun h1 => ?_, fun h1 => ?_⟩
  · rw [dropO m.opts i (by omega)] at hg hacc
    generalize m.opts.getD i oD = o at hg hacc ⊢
    obtain ⟨g1, g2, g3, g4⟩ := optE_cons.1 hg
    (repeat refine ⟨by omega, ?_⟩)
    intro b
    refine ⟨[.s (optB was o)], rfl, fun _ w' _ => c_bytes w' o was (by omega) g3, ?_⟩
    simp only [Tree.goal, X.P, X.ev, V.toI_i, V.toB_b, V.toS_s, V.toR_r, V.toV_v, V.toN_n, V.toL_l, SV.ev, CV.ev, Sc.ev, List.getD_cons_zero, List.getD_cons_succ, List.getElem?_cons_zero, List.getElem?_cons_succ, List.map_cons, List.map_nil, List.length_cons, List.length_nil, List.cons_append, List.nil_append, Nat.zero_add, Nat.reduceAdd]
    have := optB_len g2 g3
    refine ⟨by omega, by omega, by omega, ⟨i + 1, _, o.1, rfl, by omega, by omega, g4, by simp only [List.length_append]; omega, ?_⟩, by omega⟩
    rw [← hacc, optsB]; simp
  · have : i = m.opts.length := by omega
    subst this
    rw [List.drop_length, optsB, List.append_nil] at hacc
    refine ⟨fun h2 => ⟨by simp; omega, by simp; omega, fun w' hr => ⟨?_, hr.mod⟩⟩, fun h2 w' hr => ⟨?_, hr.mod⟩⟩
    · rw [msgB, ← hacc, if_neg h2]
    · rw [msgB, ← hacc, if_pos (Classical.not_not.1 h2), List.append_nil]
def encR (m : Msg) : List UInt8 × Int := if chk m = 0 then (msgB m, 0) else ([], chk m)
theorem c_Encode (w : World) (m : Msg) (v : Value) (hv : readsO w v m.opts) (hl : m.opts.length < 1099511627776) (ht : m.tok.length < 1099511627776) (hp : m.pay.length < 1099511627776) :
    Calls Try.prog 33 #[mV m (sc1 v)] w fun e w' => e = .returned (.tuple #[.string ⟨(encR m).1.toArray⟩, .int .i64 (encR m).2]) ∧ Mod [] w w' := by
  refine as_called (run_tree2 (ρ := [.i m.kind, .i m.code, .i m.id, .s m.tok, .v v, .r (m.opts.map encO), .s m.pay]) sxE_ok Try.func33 tree_message_Encode rfl rfl (Rel.start2 (by simp [Ent.holds, Ent.wr, hv, X.ev])) rfl rfl ?_) rfl
  simp only [Tree.goal, X.P, X.ev, V.toI_i, V.toB_b, V.toS_s, V.toR_r, V.toV_v, V.toN_n, V.toL_l, SV.ev, CV.ev, Sc.ev, List.getD_cons_zero, List.getD_cons_succ, List.getElem?_cons_zero, List.getElem?_cons_succ, List.map_cons, List.map_nil, List.length_cons, List.length_nil, List.cons_append, List.nil_append, Nat.zero_add, Nat.reduceAdd, List.length_map]
  intro b
  refine ⟨[.i (chk m)], rfl, fun _ w' hr => c_Check w' m v (hr.at_ 1 rfl) hl ht hp, ?_⟩
  simp only [Tree.goal, X.P, X.ev, V.toI_i, V.toB_b, V.toS_s, V.toR_r, V.toV_v, V.toN_n, V.toL_l, SV.ev, CV.ev, Sc.ev, List.getD_cons_zero, List.getD_cons_succ, List.getElem?_cons_zero, List.getElem?_cons_succ, List.map_cons, List.map_nil, List.length_cons, List.length_nil, List.cons_append, List.nil_append, Nat.zero_add, Nat.reduceAdd, List.length_map]
  refine ⟨fun h w' hr => ⟨by rw [encR, if_neg h], hr.mod⟩, fun h => ?_⟩
  have h := Classical.not_not.1 h
  refine ⟨[.s (msgB m)], rfl, fun _ w' hr => c_MsgBytes w' m v (hr.at_ 1 rfl) h, ?_⟩
  simp only [Tree.goal, X.P, X.ev, V.toI_i, V.toB_b, V.toS_s, V.toR_r, V.toV_v, V.toN_n, V.toL_l, SV.ev, CV.ev, Sc.ev, List.getD_cons_zero, List.getD_cons_succ, List.getElem?_cons_zero, List.getElem?_cons_succ, List.map_cons, List.map_nil, List.length_cons, List.length_nil, List.cons_append, List.nil_append, Nat.zero_add, Nat.reduceAdd]
  exact fun w' hr => ⟨by rw [encR, if_pos h], hr.mod⟩

set_option maxRecDepth 10000 in
set_option maxHeartbeats 1000000 in
theorem c_MessageBytes (w : World) (m : Msg) (v : Value) (hv : readsO w v m.opts) (hc : chk m = 0) :
    Calls Try.prog 36 #[mV m (sc1 v)] w fun e w' => e = .returned (.string ⟨(msgB m).toArray⟩) ∧ Mod [] w w' := by
  obtain ⟨hk, hr, hl, ho, -⟩ := chk_ok.1 hc
  refine as_called (run_tree2 (ρ := [.i m.kind, .i m.code, .i m.id, .s m.tok, .v v, .r (m.opts.map encO), .s m.pay]) sxE_ok Try.func36 tree_dragomanref_MessageBytes rfl rfl (Rel.start2 (by simp [Ent.holds, Ent.wr, hv, X.ev])) rfl rfl ?_) rfl
  simp only [Tree.goal, X.P, X.ev, V.toI_i, V.toB_b, V.toS_s, V.toR_r, V.toV_v, V.toN_n, V.toL_l, SV.ev, CV.ev, Sc.ev, List.getD_cons_zero, List.getD_cons_succ, List.getElem?_cons_zero, List.getElem?_cons_succ, List.map_cons, List.map_nil, List.length_cons, List.length_nil, List.cons_append, List.nil_append, Nat.zero_add, Nat.reduceAdd, List.length_map]
  intro b
  (repeat refine ⟨by omega, ?_⟩)
  refine ⟨[.s (numB 1 (64 + 16 * m.kind + m.tok.length))], rfl, fun _ w' _ => c_NumberOf w' _ 1 (by omega) (by omega) (by omega), ?_⟩
  simp only [Tree.goal, X.P, X.ev, V.toI_i, V.toB_b, V.toS_s, V.toR_r, V.toV_v, V.toN_n, V.toL_l, SV.ev, CV.ev, Sc.ev, List.getD_cons_zero, List.getD_cons_succ, List.getElem?_cons_zero, List.getElem?_cons_succ, List.map_cons, List.map_nil, List.length_cons, List.length_nil, List.cons_append, List.nil_append, Nat.zero_add, Nat.reduceAdd]
  refine ⟨[.s (numB 1 m.code)], rfl, fun _ w' _ => c_NumberOf w' _ 1 (by omega) (by omega) (by omega), ?_⟩
  simp only [Tree.goal, X.P, X.ev, V.toI_i, V.toB_b, V.toS_s, V.toR_r, V.toV_v, V.toN_n, V.toL_l, SV.ev, CV.ev, Sc.ev, List.getD_cons_zero, List.getD_cons_succ, List.getElem?_cons_zero, List.getElem?_cons_succ, List.map_cons, List.map_nil, List.length_cons, List.length_nil, List.cons_append, List.nil_append, Nat.zero_add, Nat.reduceAdd, List.length_append, numB_len]
  (repeat refine ⟨by omega, ?_⟩)
  refine ⟨[.s (numB 2 m.id)], rfl, fun _ w' _ => c_NumberOf w' _ 2 (by omega) (by omega) (by omega), ?_⟩
  simp only [Tree.goal, X.P, X.ev, V.toI_i, V.toB_b, V.toS_s, V.toR_r, V.toV_v, V.toN_n, V.toL_l, SV.ev, CV.ev, Sc.ev, List.getD_cons_zero, List.getD_cons_succ, List.getElem?_cons_zero, List.getElem?_cons_succ, List.map_cons, List.map_nil, List.length_cons, List.length_nil, List.cons_append, List.nil_append, Nat.zero_add, Nat.reduceAdd, List.length_append, numB_len, List.length_map]
  (repeat refine ⟨by omega, ?_⟩)
  refine ⟨fun vs => ∃ (i : Nat) (acc : List UInt8) (was : Int), vs = [.s acc, .i i] ∧ i ≤ m.opts.length ∧ 0 ≤ was ∧ optE was (m.opts.drop i) = 0 ∧ acc.length ≤ 100 + 100 * i ∧ (i = 0 ∧ was = 0 ∨ 0 < i ∧ was = (m.opts.getD (i - 1) oD).1) ∧
      acc ++ optsB was (m.opts.drop i) = numB 1 (64 + 16 * m.kind + m.tok.length) ++ numB 1 m.code ++ numB 2 m.id ++ m.tok ++ optsB 0 m.opts, fun vs => (m.opts.length - (vs.getD 1 (.i 0)).toI).toNat, ⟨0, _, 0, rfl, by omega, by omega, ho, by simp only [List.length_append, numB_len]; omega, .inl ⟨rfl, rfl⟩, rfl⟩, ?_⟩
  rintro _ - ⟨i, acc, was, rfl, hi, hw, hg, hal, hwas, hacc⟩
  simp only [Tree.goal, X.P, X.ev, V.toI_i, V.toB_b, V.toS_s, V.toR_r, V.toV_v, V.toN_n, V.toL_l, SV.ev, CV.ev, Sc.ev, List.getD_cons_zero, List.getD_cons_succ, List.getElem?_cons_zero, List.getElem?_cons_succ, List.map_cons, List.map_nil, List.length_cons, List.length_nil, List.cons_append, List.nil_append, Nat.zero_add, Nat.reduceAdd, List.length_map, Int.toNat_natCast, gI_encO, gS_encO]
  refine ⟨fun h1 => ?_, fun h1 => ?_⟩
  · rw [dropO m.opts i (by omega)] at hg hacc
    have e1 : ((i : Int) - 1).toNat = i - 1 := by omega
    rw [e1]
    have hw' : i + 1 ≠ 0 ∧ (m.opts.getD i oD).1 = (m.opts.getD (i + 1 - 1) oD).1 := by simp
    have key : ∀ k : Int, k = was → (halfP ((m.opts.getD i oD).1 - k)) = halfP ((m.opts.getD i oD).1 - was) := fun k h => by rw [h]
    generalize m.opts.getD i oD = o at hg hacc hw' key ⊢
    obtain ⟨g1, g2, g3, g4⟩ := optE_cons.1 hg
    have hx1 := halfP_bd (n := o.1 - was) (by omega)
    have hx2 := halfP_bd (n := (o.2.length : Int)) (by omega)
    have hx3 := optB_len g2 g3
    have fin : ∃ (i' : Nat) (acc' : List UInt8) (was' : Int), ([.s (acc ++ optB was o), .i ((i : Int) + 1)] : List V) = [.s acc', .i i'] ∧ i' ≤ m.opts.length ∧ 0 ≤ was' ∧ optE was' (m.opts.drop i') = 0 ∧ acc'.length ≤ 100 + 100 * i' ∧ (i' = 0 ∧ was' = 0 ∨ 0 < i' ∧ was' = (m.opts.getD (i' - 1) oD).1) ∧
        acc' ++ optsB was' (m.opts.drop i') = numB 1 (64 + 16 * m.kind + m.tok.length) ++ numB 1 m.code ++ numB 2 m.id ++ m.tok ++ optsB 0 m.opts := by
      refine ⟨i + 1, _, o.1, rfl, by omega, by omega, g4, by simp only [List.length_append]; omega, .inr ⟨by omega, hw'.2⟩, ?_⟩
      rw [← hacc, optsB]; simp
    refine ⟨fun h2 => ?_, fun h2 => ?_⟩
    · have hwk : (m.opts.getD (i - 1) oD).1 = was := by omega
      rw [hwk]
      (repeat refine ⟨by omega, ?_⟩)
      refine ⟨[.i (halfP (o.1 - was)).1, .s (halfP (o.1 - was)).2], rfl, fun _ w' _ => c_halfOf w' _ (by omega) (by omega), ?_⟩
      simp only [Tree.goal, X.P, X.ev, V.toI_i, V.toB_b, V.toS_s, V.toR_r, V.toV_v, V.toN_n, V.toL_l, SV.ev, CV.ev, Sc.ev, List.getD_cons_zero, List.getD_cons_succ, List.getElem?_cons_zero, List.getElem?_cons_succ, List.map_cons, List.map_nil, List.length_cons, List.length_nil, List.cons_append, List.nil_append, Nat.zero_add, Nat.reduceAdd, Int.toNat_natCast, gI_encO, gS_encO]
      refine ⟨[.i (halfP o.2.length).1, .s (halfP o.2.length).2], rfl, fun _ w' _ => c_halfOf w' _ (by omega) (by omega), ?_⟩
      simp only [Tree.goal, X.P, X.ev, V.toI_i, V.toB_b, V.toS_s, V.toR_r, V.toV_v, V.toN_n, V.toL_l, SV.ev, CV.ev, Sc.ev, List.getD_cons_zero, List.getD_cons_succ, List.getElem?_cons_zero, List.getElem?_cons_succ, List.map_cons, List.map_nil, List.length_cons, List.length_nil, List.cons_append, List.nil_append, Nat.zero_add, Nat.reduceAdd, Int.toNat_natCast, gI_encO, gS_encO]
      (repeat refine ⟨by omega, ?_⟩)
      refine ⟨[.s (numB 1 (16 * (halfP (o.1 - was)).1 + (halfP o.2.length).1))], rfl, fun _ w' _ => c_NumberOf w' _ 1 (by omega) (by omega) (by omega), ?_⟩
      simp only [Tree.goal, X.P, X.ev, V.toI_i, V.toB_b, V.toS_s, V.toR_r, V.toV_v, V.toN_n, V.toL_l, SV.ev, CV.ev, Sc.ev, List.getD_cons_zero, List.getD_cons_succ, List.getElem?_cons_zero, List.getElem?_cons_succ, List.map_cons, List.map_nil, List.length_cons, List.length_nil, List.cons_append, List.nil_append, Nat.zero_add, Nat.reduceAdd, List.length_append, numB_len, Int.toNat_natCast, gI_encO, gS_encO]
      (repeat refine ⟨by omega, ?_⟩)
      exact ⟨fin, by omega⟩
    · have hwk : was = 0 := by omega
      subst hwk
      (repeat refine ⟨by omega, ?_⟩)
      refine ⟨[.i (halfP (o.1 - 0)).1, .s (halfP (o.1 - 0)).2], rfl, fun _ w' _ => c_halfOf w' _ (by omega) (by omega), ?_⟩
      simp only [Tree.goal, X.P, X.ev, V.toI_i, V.toB_b, V.toS_s, V.toR_r, V.toV_v, V.toN_n, V.toL_l, SV.ev, CV.ev, Sc.ev, List.getD_cons_zero, List.getD_cons_succ, List.getElem?_cons_zero, List.getElem?_cons_succ, List.map_cons, List.map_nil, List.length_cons, List.length_nil, List.cons_append, List.nil_append, Nat.zero_add, Nat.reduceAdd, Int.toNat_natCast, gI_encO, gS_encO]
      refine ⟨[.i (halfP o.2.length).1, .s (halfP o.2.length).2], rfl, fun _ w' _ => c_halfOf w' _ (by omega) (by omega), ?_⟩
      simp only [Tree.goal, X.P, X.ev, V.toI_i, V.toB_b, V.toS_s, V.toR_r, V.toV_v, V.toN_n, V.toL_l, SV.ev, CV.ev, Sc.ev, List.getD_cons_zero, List.getD_cons_succ, List.getElem?_cons_zero, List.getElem?_cons_succ, List.map_cons, List.map_nil, List.length_cons, List.length_nil, List.cons_append, List.nil_append, Nat.zero_add, Nat.reduceAdd, Int.toNat_natCast, gI_encO, gS_encO]
      (repeat refine ⟨by omega, ?_⟩)
      refine ⟨[.s (numB 1 (16 * (halfP (o.1 - 0)).1 + (halfP o.2.length).1))], rfl, fun _ w' _ => c_NumberOf w' _ 1 (by omega) (by omega) (by omega), ?_⟩
      simp only [Tree.goal, X.P, X.ev, V.toI_i, V.toB_b, V.toS_s, V.toR_r, V.toV_v, V.toN_n, V.toL_l, SV.ev, CV.ev, Sc.ev, List.getD_cons_zero, List.getD_cons_succ, List.getElem?_cons_zero, List.getElem?_cons_succ, List.map_cons, List.map_nil, List.length_cons, List.length_nil, List.cons_append, List.nil_append, Nat.zero_add, Nat.reduceAdd, List.length_append, numB_len, Int.toNat_natCast, gI_encO, gS_encO]
      (repeat refine ⟨by omega, ?_⟩)
      exact ⟨fin, by omega⟩
  · have : i = m.opts.length := by omega
    subst this
    rw [List.drop_length, optsB, List.append_nil] at hacc
    refine ⟨fun h2 => ⟨by simp; omega, by simp; omega, fun w' hr => ⟨?_, hr.mod⟩⟩, fun h2 w' hr => ⟨?_, hr.mod⟩⟩
    · rw [msgB, ← hacc, if_neg h2]
    · rw [msgB, ← hacc, if_pos (Classical.not_not.1 h2), List.append_nil]
end Go.Proofs.Ytpcdkcbniokdgaa
