/-
  Messages: the reference reads them. By an AI agent.
-/
import Derived.Test.YtpcdkcbniokdgaaMe
set_option linter.unusedSimpArgs false
set_option linter.unusedVariables false
namespace Go.Proofs.Ytpcdkcbniokdgaa
open Go.Sx

/-- Where the number that four bits tell ends, what it is, and whether it is one. -/
def halfR (s : List UInt8) (a : Nat) (n : Int) : Int × Int × Bool :=
  if n < 13 then (n, a, true) else if n = 15 then (0, a, false)
  else if n = 14 then ((getR s a 2).1 + 269, a + 2, decide ((getR s a 2).2 = 0)) else ((getR s a 1).1 + 13, a + 1, decide ((getR s a 1).2 = 0))
theorem halfR_bd (s : List UInt8) (a : Nat) (n : Int) (h : 0 ≤ n) : 0 ≤ (halfR s a n).1 ∧ (halfR s a n).1 < 4294967600 ∧ (a : Int) ≤ (halfR s a n).2.1 ∧ (halfR s a n).2.1 ≤ a + 2 := by
  have h1 := getR_bd s a 1
  have h2 := getR_bd s a 2
  unfold halfR
  split
  · simp only; omega
  · split
    · simp only; omega
    · split <;> simp only <;> omega
theorem halfR_Q (s : List UInt8) (a : Nat) (n : Int) (ha : a ≤ s.length) (hn : n ≤ 15) : match halfQ n (s.drop a) with
    | none => (halfR s a n).2.2 = false
    | some p => ∃ a' : Nat, a ≤ a' ∧ a' ≤ s.length ∧ p.2 = s.drop a' ∧ halfR s a n = (p.1, (a' : Int), true) := by
  unfold halfQ halfR
  by_cases h1 : n < 13
  · rw [if_pos h1, if_pos h1]; exact ⟨a, Nat.le_refl _, ha, rfl, rfl⟩
  · rw [if_neg h1, if_neg h1]
    by_cases h2 : n = 15
    · rw [if_pos h2, if_pos h2]
    · rw [if_neg h2, if_neg h2]
      by_cases h3 : n = 14
      · rw [if_pos h3, if_pos h3]
        by_cases h4 : (s.drop a).length < 2
        · rw [if_pos h4]
          rw [List.length_drop] at h4
          rw [getR_short (by omega) (by omega) (by omega)]
          rfl
        · rw [if_neg h4]
          rw [List.length_drop] at h4
          refine ⟨a + 2, by omega, by omega, by rw [List.drop_drop], ?_⟩
          rw [getR_ok (by omega) (by omega) (by omega)]
          simp [Int.add_comm]
      · rw [if_neg h3, if_neg h3]
        by_cases h4 : (s.drop a).length < 1
        · rw [if_pos h4]
          rw [List.length_drop] at h4
          rw [getR_short (by omega) (by omega) (by omega)]
          rfl
        · rw [if_neg h4]
          rw [List.length_drop] at h4
          refine ⟨a + 1, by omega, by omega, by rw [List.drop_drop], ?_⟩
          rw [getR_ok (by omega) (by omega) (by omega)]
          simp [Int.add_comm]

theorem stepP_n1 {was : Int} {c : UInt8} {l : List UInt8} (h : halfQ ((c.toNat / 16 : Nat) : Int) l = none) : stepP was c l = none := by unfold stepP; rw [h]
theorem stepP_n2 {was m : Int} {c : UInt8} {l l1 : List UInt8} (h : halfQ ((c.toNat / 16 : Nat) : Int) l = some (m, l1)) (h2 : halfQ ((c.toNat % 16 : Nat) : Int) l1 = none) : stepP was c l = none := by unfold stepP; rw [h]; simp only; rw [h2]
theorem stepP_n3 {was m n : Int} {c : UInt8} {l l1 l2 : List UInt8} (h : halfQ ((c.toNat / 16 : Nat) : Int) l = some (m, l1)) (h2 : halfQ ((c.toNat % 16 : Nat) : Int) l1 = some (n, l2)) (h3 : (l2.length : Int) < n) : stepP was c l = none := by
  unfold stepP; rw [h]; simp only; rw [h2]; simp only; rw [if_pos h3]
theorem stepP_s {was m n : Int} {c : UInt8} {l l1 l2 : List UInt8} (h : halfQ ((c.toNat / 16 : Nat) : Int) l = some (m, l1)) (h2 : halfQ ((c.toNat % 16 : Nat) : Int) l1 = some (n, l2)) (h3 : ¬ (l2.length : Int) < n) : stepP was c l = some ((was + m, l2.take n.toNat), l2.drop n.toNat) := by
  unfold stepP; rw [h]; simp only; rw [h2]; simp only; rw [if_neg h3]

theorem c_halfAt (w : World) (s : List UInt8) (a : Nat) (n : Int) (ha : a ≤ s.length + 2) (hn : 0 ≤ n ∧ n ≤ 15) (hs : s.length < 1099511627776) : Calls Try.prog 58 #[.string ⟨s.toArray⟩, .int .i64 a, .int .i64 n] w
    fun e w' => e = .returned (.tuple #[.int .i64 (halfR s a n).1, .int .i64 (halfR s a n).2.1, .bool (halfR s a n).2.2]) ∧ Mod [] w w' := by
  refine as_called (run_plain2 (ρ := [.s s, .i a, .i n]) sxE_ok Try.func58 tree_dragomanref_halfAt rfl rfl rfl ?_) rfl
  simp only [Tree.goal, X.P, X.ev, V.toI_i, V.toB_b, V.toS_s, V.toR_r, V.toV_v, V.toN_n, V.toL_l, SV.ev, CV.ev, Sc.ev, List.getD_cons_zero, List.getD_cons_succ, List.getElem?_cons_zero, List.getElem?_cons_succ, List.map_cons, List.map_nil, List.length_cons, List.length_nil, List.cons_append, List.nil_append, Nat.zero_add, Nat.reduceAdd]
  have h1 := getR_bd s a 1
  have h2 := getR_bd s a 2
  refine ⟨fun h w' hr => ⟨by rw [halfR, if_pos h], hr.mod⟩, fun h => ⟨fun h3 w' hr => ⟨by rw [halfR, if_neg h, if_pos h3], hr.mod⟩, fun h3 => ⟨fun h4 => ?_, fun h4 => ?_⟩⟩⟩
  · refine ⟨[.i (getR s a 2).1, .i (getR s a 2).2], rfl, fun _ w' _ => c_GetOf w' s a 2 (by omega), ?_⟩
    simp only [Tree.goal, X.P, X.ev, V.toI_i, V.toB_b, V.toS_s, V.toR_r, V.toV_v, V.toN_n, V.toL_l, SV.ev, CV.ev, Sc.ev, List.getD_cons_zero, List.getD_cons_succ, List.getElem?_cons_zero, List.getElem?_cons_succ, List.map_cons, List.map_nil, List.length_cons, List.length_nil, List.cons_append, List.nil_append, Nat.zero_add, Nat.reduceAdd]
    (repeat refine ⟨by omega, ?_⟩)
    exact fun w' hr => ⟨by rw [halfR, if_neg h, if_neg h3, if_pos h4], hr.mod⟩
  · refine ⟨[.i (getR s a 1).1, .i (getR s a 1).2], rfl, fun _ w' _ => c_GetOf w' s a 1 (by omega), ?_⟩
    simp only [Tree.goal, X.P, X.ev, V.toI_i, V.toB_b, V.toS_s, V.toR_r, V.toV_v, V.toN_n, V.toL_l, SV.ev, CV.ev, Sc.ev, List.getD_cons_zero, List.getD_cons_succ, List.getElem?_cons_zero, List.getElem?_cons_succ, List.map_cons, List.map_nil, List.length_cons, List.length_nil, List.cons_append, List.nil_append, Nat.zero_add, Nat.reduceAdd]
    (repeat refine ⟨by omega, ?_⟩)
    exact fun w' hr => ⟨by rw [halfR, if_neg h, if_neg h3, if_neg h4], hr.mod⟩

set_option maxRecDepth 10000 in
set_option maxHeartbeats 2000000 in
theorem c_MessageOf (w : World) (s : List UInt8) (hs : s.length < 1099511627776) : Calls Try.prog 37 #[.string ⟨s.toArray⟩] w fun e w' => gotM w w' e (dec s) := by
  refine as_called (run_plain2 (ρ := [.s s]) sxE_ok Try.func37 tree_dragomanref_MessageOf rfl rfl rfl ?_) rfl
  simp only [Tree.goal, X.P, X.ev, V.toI_i, V.toB_b, V.toS_s, V.toR_r, V.toV_v, V.toN_n, V.toL_l, SV.ev, CV.ev, Sc.ev, List.getD_cons_zero, List.getD_cons_succ, List.getElem?_cons_zero, List.getElem?_cons_succ, List.map_cons, List.map_nil, List.length_cons, List.length_nil, List.cons_append, List.nil_append, Nat.zero_add, Nat.reduceAdd]
  intro b1
  refine ⟨fun h w' hr => ?_, fun h => ⟨by omega, ?_⟩⟩
  · have : dec s = (mNil, 1) := by rw [dec, if_pos (by omega)]
    rw [this]; exact gotM_nil 1 hr.mod
  have u0 := u8_lt (s.getD 0 0)
  have u1 := u8_lt (s.getD 1 0)
  have u2 := u8_lt (s.getD 2 0)
  have u3 := u8_lt (s.getD 3 0)
  have i0 : Int.toNat 0 = 0 := rfl
  have i1 : Int.toNat 1 = 1 := rfl
  have i2 : Int.toNat 2 = 2 := rfl
  have i3 : Int.toNat 3 = 3 := rfl
  have i4 : Int.toNat 4 = 4 := rfl
  simp only [i0, i1, i2, i3, i4]
  refine ⟨fun h1 w' hr => ?_, fun h1 => ?_⟩
  · have : dec s = (mNil, 1) := dec_none (by omega) (.inl (by omega))
    rw [this]; exact gotM_nil 1 hr.mod
  obtain ⟨a0, ha0⟩ : ∃ a0 : Nat, a0 = 4 + (s.getD 0 0).toNat % 16 := ⟨_, rfl⟩
  have ea0 : (4 : Int) + ((s.getD 0 0).toNat : Int) % 16 = (a0 : Int) := by omega
  rw [ea0]
  simp only [Int.toNat_natCast]
  (repeat refine ⟨by omega, ?_⟩)
  intro b2
  have hno : ¬ (¬ ((s.getD 0 0).toNat / 64 = 1) ∨ 8 < (s.getD 0 0).toNat % 16 ∨ s.length < 4 + (s.getD 0 0).toNat % 16) := by omega
  obtain ⟨T, hT⟩ : ∃ T, T = optsP (s.drop (4 + (s.getD 0 0).toNat % 16)).length 0 (s.drop (4 + (s.getD 0 0).toNat % 16)) := ⟨_, rfl⟩
  have hbad : T = none → dec s = (mNil, 1) := fun h5 => dec_none (by omega) (.inr (by rw [← hT]; exact h5))
  have hgood : ∀ os r, T = some (os, r) → dec s = finM ⟨((s.getD 0 0).toNat / 16 % 4 : Nat), (s.getD 1 0).toNat, ((256 * (s.getD 2 0).toNat + (s.getD 3 0).toNat : Nat)), (s.drop 4).take ((s.getD 0 0).toNat % 16), os, []⟩ r := fun os r h5 => dec_some (by omega) hno (by rw [← hT]; exact h5)
  have e1 : (((s.getD 0 0).toNat : Int) / 16) % 4 = ((((s.getD 0 0).toNat / 16 % 4 : Nat)) : Int) := by omega
  have e2 : (256 : Int) * ((s.getD 2 0).toNat : Int) + ((s.getD 3 0).toNat : Int) = ((256 * (s.getD 2 0).toNat + (s.getD 3 0).toNat : Nat) : Int) := by omega
  have e3 : List.drop 4 (List.take a0 s) = List.take ((s.getD 0 0).toNat % 16) (List.drop 4 s) := by rw [List.drop_take]; congr 1; omega
  rw [e1, e2, e3]
  generalize hk0 : ((((s.getD 0 0).toNat / 16 % 4 : Nat)) : Int) = k0 at hgood ⊢
  generalize hc0 : ((s.getD 1 0).toNat : Int) = c0 at hgood ⊢
  generalize hi0 : ((256 * (s.getD 2 0).toNat + (s.getD 3 0).toNat : Nat) : Int) = j0 at hgood ⊢
  generalize ht0 : List.take ((s.getD 0 0).toNat % 16) (List.drop 4 s) = t0 at hgood ⊢
  refine ⟨fun vs => ∃ (x : V) (a : Nat) (was : Int) (v : Value) (acc : List Opt) (y1 y2 y3 y4 : V) (q : Value) (y6 y7 : V), vs = [x, .i a, .i was, .i k0, .i c0, .i j0, .s t0, .v v, .r (acc.map encO), .s [], y1, y2, y3, y4, .v q, y6, y7] ∧
      a ≤ s.length ∧ 0 ≤ was ∧ was ≤ 70000 * acc.length ∧ acc.length ≤ a ∧ (∃ f, s.length - a ≤ f ∧ ahead acc (optsP f was (s.drop a)) = T), fun vs => s.length - (vs.getD 1 (.i 0)).toI.toNat,
    ⟨_, a0, 0, _, [], _, _, _, _, _, _, _, rfl, by omega, by omega, by simp, by simp, (s.drop a0).length, by simp, ?_⟩, ?_⟩
  · rw [ahead_nil, hT, ha0]
  rintro _ - ⟨x, a, was, v, acc, y1, y2, y3, y4, q, y6, y7, rfl, hal, hw0, hw1, haa, f, hf, hinv⟩
  simp only [Tree.goal, X.P, X.ev, V.toI_i, V.toB_b, V.toS_s, V.toR_r, V.toV_v, V.toN_n, V.toL_l, SV.ev, CV.ev, Sc.ev, List.getD_cons_zero, List.getD_cons_succ, List.getElem?_cons_zero, List.getElem?_cons_succ, List.map_cons, List.map_nil, List.length_cons, List.length_nil, List.cons_append, List.nil_append, Nat.zero_add, Nat.reduceAdd, List.length_map, Int.toNat_natCast]
  refine ⟨fun h2 => ⟨by omega, fun h3 => ?_, fun h3 => ?_⟩, fun h2 => ?_⟩
  · have hd := drop_getD s a (by omega)
    have hc : s.getD a 0 = 255 := by
      have : (s.getD a 0).toNat = 255 := by omega
      exact UInt8.toNat_inj.1 this
    rw [hd, hc] at hinv
    obtain ⟨g, rfl⟩ : ∃ g, f = g + 1 := ⟨f - 1, by omega⟩
    rw [optsP_mark] at hinv
    have e4 : ((a : Int) + 1).toNat = a + 1 := by omega
    have e5 : List.drop (a + 1) (List.take s.length s) = s.drop (a + 1) := by rw [List.take_length]
    rw [e4, e5]
    have hg := hgood _ _ hinv.symm
    simp only [List.append_nil, finM] at hg
    (repeat refine ⟨by omega, ?_⟩)
    refine ⟨fun h4 w' hr => ?_, fun h4 => ?_⟩
    · rw [hg, if_pos h4]; exact gotM_nil 1 hr.mod
    · rw [if_neg h4] at hg
      refine ⟨[.i (chk ⟨k0, c0, j0, t0, acc, s.drop (a + 1)⟩)], rfl, fun _ w' hr => c_CheckMessage w' ⟨k0, c0, j0, t0, acc, s.drop (a + 1)⟩ v (owns.reads (hr.at_ 2 rfl)) (by simp only; omega), ?_⟩
      simp only [Tree.goal, X.P, X.ev, V.toI_i, V.toB_b, V.toS_s, V.toR_r, V.toV_v, V.toN_n, V.toL_l, SV.ev, CV.ev, Sc.ev, List.getD_cons_zero, List.getD_cons_succ, List.getElem?_cons_zero, List.getElem?_cons_succ, List.map_cons, List.map_nil, List.length_cons, List.length_nil, List.cons_append, List.nil_append, Nat.zero_add, Nat.reduceAdd, List.length_map, Int.toNat_natCast]
      refine ⟨fun h5 w' hr => ?_, fun h5 w' hr => ?_⟩
      · rw [hg, chkd_no h5]; exact gotM_nil _ hr.mod
      · have h5 := Classical.not_not.1 h5
        rw [hg, chkd_of h5, h5]
        refine ⟨v, rfl, owns.reads (hr.at_ 2 rfl), fun k hk => ?_, hr.mod⟩
        rcases hr.own _ (List.mem_cons_of_mem _ (List.mem_cons_of_mem _ (List.mem_cons_self ..))) rfl k hk.2 with h6 | h6
        · exact h6
        · simp at h6
  · have hd := drop_getD s a (by omega)
    rw [hd] at hinv
    obtain ⟨g, rfl⟩ : ∃ g, f = g + 1 := ⟨f - 1, by omega⟩
    have uc := u8_lt (s.getD a 0)
    generalize hcc : s.getD a 0 = c at hinv h3 uc ⊢
    have hc255 : c ≠ 255 := fun h => h3 (by rw [h]; rfl)
    have e6 : ((a : Int) + 1) = ((a + 1 : Nat) : Int) := by omega
    have e7 : ((c.toNat : Int) / 16) = ((c.toNat / 16 : Nat) : Int) := by omega
    have e8 : ((c.toNat : Int) % 16) = ((c.toNat % 16 : Nat) : Int) := by omega
    rw [e6, e7, e8]
    (repeat refine ⟨by omega, ?_⟩)
    have B1 := halfR_bd s (a + 1) ((c.toNat / 16 : Nat) : Int) (by omega)
    have Q1 := halfR_Q s (a + 1) ((c.toNat / 16 : Nat) : Int) (by omega) (by omega)
    refine ⟨[.i (halfR s (a + 1) ((c.toNat / 16 : Nat) : Int)).1, .i (halfR s (a + 1) ((c.toNat / 16 : Nat) : Int)).2.1, .b (halfR s (a + 1) ((c.toNat / 16 : Nat) : Int)).2.2], rfl, fun _ w' _ => c_halfAt w' s (a + 1) _ (by omega) (by omega) hs, ?_⟩
    simp only [Tree.goal, X.P, X.ev, V.toI_i, V.toB_b, V.toS_s, V.toR_r, V.toV_v, V.toN_n, V.toL_l, SV.ev, CV.ev, Sc.ev, List.getD_cons_zero, List.getD_cons_succ, List.getElem?_cons_zero, List.getElem?_cons_succ, List.map_cons, List.map_nil, List.length_cons, List.length_nil, List.cons_append, List.nil_append, Nat.zero_add, Nat.reduceAdd, List.length_map, Int.toNat_natCast]
    generalize halfR s (a + 1) ((c.toNat / 16 : Nat) : Int) = H1 at B1 Q1 ⊢
    cases hq1 : halfQ ((c.toNat / 16 : Nat) : Int) (s.drop (a + 1)) with
    | none =>
      rw [hq1] at Q1
      simp only at Q1
      have hst : stepP was c (s.drop (a + 1)) = none := stepP_n1 hq1
      rw [optsP_bad hc255 hst] at hinv
      refine ⟨fun h4 w' hr => ?_, fun h4 => absurd (by simp [Q1]) h4⟩
      rw [hbad hinv.symm]; exact gotM_nil 1 hr.mod
    | some p =>
      obtain ⟨more, l1⟩ := p
      rw [hq1] at Q1
      obtain ⟨a1, h11, h12, h13, rfl⟩ := Q1
      simp only at h13 B1 ⊢
      subst h13
      refine ⟨fun h4 => absurd trivial h4, fun h4 => ?_⟩
      have B2 := halfR_bd s a1 ((c.toNat % 16 : Nat) : Int) (by omega)
      have Q2 := halfR_Q s a1 ((c.toNat % 16 : Nat) : Int) (by omega) (by omega)
      refine ⟨[.i (halfR s a1 ((c.toNat % 16 : Nat) : Int)).1, .i (halfR s a1 ((c.toNat % 16 : Nat) : Int)).2.1, .b (halfR s a1 ((c.toNat % 16 : Nat) : Int)).2.2], rfl, fun _ w' _ => ?_, ?_⟩
      · exact c_halfAt w' s a1 _ (by omega) (by omega) hs
      simp only [Tree.goal, X.P, X.ev, V.toI_i, V.toB_b, V.toS_s, V.toR_r, V.toV_v, V.toN_n, V.toL_l, SV.ev, CV.ev, Sc.ev, List.getD_cons_zero, List.getD_cons_succ, List.getElem?_cons_zero, List.getElem?_cons_succ, List.map_cons, List.map_nil, List.length_cons, List.length_nil, List.cons_append, List.nil_append, Nat.zero_add, Nat.reduceAdd, List.length_map, Int.toNat_natCast]
      generalize halfR s a1 ((c.toNat % 16 : Nat) : Int) = H2 at B2 Q2 ⊢
      cases hq2 : halfQ ((c.toNat % 16 : Nat) : Int) (s.drop a1) with
      | none =>
        rw [hq2] at Q2
        simp only at Q2
        have hst : stepP was c (s.drop (a + 1)) = none := stepP_n2 hq1 hq2
        rw [optsP_bad hc255 hst] at hinv
        rw [Q2]
        refine ⟨.inl (by simp), .inl (by simp), fun h5 w' hr => ?_, fun h5 => absurd (.inl (by simp)) h5⟩
        rw [hbad hinv.symm]; exact gotM_nil 1 hr.mod
      | some p =>
        obtain ⟨long, l2⟩ := p
        rw [hq2] at Q2
        obtain ⟨a2, h21, h22, h23, rfl⟩ := Q2
        simp only at h23 B2 ⊢
        subst h23
        refine ⟨.inr (by omega), .inr (by omega), fun h5 w' hr => ?_, fun h5 => ?_⟩
        · have hlo : (s.length : Int) - a2 < long := by
            rcases h5 with h5 | h5
            · exact absurd trivial h5
            · exact h5
          have hst : stepP was c (s.drop (a + 1)) = none := stepP_n3 hq1 hq2 (by rw [List.length_drop]; omega)
          rw [optsP_bad hc255 hst] at hinv
          rw [hbad hinv.symm]; exact gotM_nil 1 hr.mod
        · have hlo : ¬ ((s.length : Int) - a2 < long) := fun h6 => h5 (.inr h6)
          obtain ⟨lg, rfl⟩ : ∃ lg : Nat, long = lg := ⟨long.toNat, by omega⟩
          have hst : stepP was c (s.drop (a + 1)) = some ((was + more, (s.drop a2).take lg), s.drop (a2 + lg)) := by
            rw [stepP_s hq1 hq2 (by rw [List.length_drop]; omega), List.drop_drop]; rfl
          rw [optsP_step hc255 hst, ahead_ahead] at hinv
          have e9 : ((a2 : Int) + (lg : Int)).toNat = a2 + lg := by omega
          have e10 : List.drop a2 (List.take (a2 + lg) s) = (s.drop a2).take lg := by rw [List.drop_take]; congr 1; omega
          rw [e9]
          simp only [Int.toNat_natCast]
          rw [e10]
          have fin : ∀ v' : Value, (∃ (x' : V) (a' : Nat) (was' : Int) (v : Value) (acc' : List Opt) (y1' y2' y3' y4' : V) (q' : Value) (y6' y7' : V), ([x, .i ((a2 : Int) + (lg : Int)), .i (was + more), .i k0, .i c0, .i j0, .s t0, .v v', .r (acc.map encO ++ [[.int .i64 (was + more), .string ⟨((s.drop a2).take lg).toArray⟩]]), .s [], y1, y2, y3, y4, .v q, y6, y7] : List V) =
              [x', .i a', .i was', .i k0, .i c0, .i j0, .s t0, .v v, .r (acc'.map encO), .s [], y1', y2', y3', y4', .v q', y6', y7'] ∧
              a' ≤ s.length ∧ 0 ≤ was' ∧ was' ≤ 70000 * acc'.length ∧ acc'.length ≤ a' ∧ (∃ f, s.length - a' ≤ f ∧ ahead acc' (optsP f was' (s.drop a')) = T)) := fun v' => by
            refine ⟨x, a2 + lg, was + more, v', acc ++ [(was + more, (s.drop a2).take lg)], y1, y2, y3, y4, q, y6, y7, by simp [encO], by omega, by omega, ?_, by simp; omega, g, by omega, hinv⟩
            have hm : more ≤ 65805 := by have := (stepP_len hst).2.2; simp only at this; omega
            simp only [List.length_append, List.length_cons, List.length_nil]; omega
          (repeat refine ⟨by omega, ?_⟩)
          refine ⟨fun v1 => ⟨by omega, fun v2 => ⟨fin v2, by omega⟩⟩, fun v1 => ⟨by omega, fun v2 => ⟨fin v2, by omega⟩⟩⟩
  · have : a = s.length := by omega
    subst this
    rw [List.drop_length, optsP_nil] at hinv
    have hg := hgood _ _ hinv.symm
    simp only [List.append_nil, finM] at hg
    refine ⟨[.i (chk ⟨k0, c0, j0, t0, acc, []⟩)], rfl, fun _ w' hr => c_CheckMessage w' ⟨k0, c0, j0, t0, acc, []⟩ v (owns.reads (hr.at_ 2 rfl)) (by simp only; omega), ?_⟩
    simp only [Tree.goal, X.P, X.ev, V.toI_i, V.toB_b, V.toS_s, V.toR_r, V.toV_v, V.toN_n, V.toL_l, SV.ev, CV.ev, Sc.ev, List.getD_cons_zero, List.getD_cons_succ, List.getElem?_cons_zero, List.getElem?_cons_succ, List.map_cons, List.map_nil, List.length_cons, List.length_nil, List.cons_append, List.nil_append, Nat.zero_add, Nat.reduceAdd, List.length_map, Int.toNat_natCast]
    refine ⟨fun h5 w' hr => ?_, fun h5 w' hr => ?_⟩
    · rw [hg, chkd_no h5]; exact gotM_nil _ hr.mod
    · have h5 := Classical.not_not.1 h5
      rw [hg, chkd_of h5, h5]
      refine ⟨v, rfl, owns.reads (hr.at_ 2 rfl), fun k hk => ?_, hr.mod⟩
      rcases hr.own _ (List.mem_cons_of_mem _ (List.mem_cons_of_mem _ (List.mem_cons_self ..))) rfl k hk.2 with h6 | h6
      · exact h6
      · simp at h6
end Go.Proofs.Ytpcdkcbniokdgaa
