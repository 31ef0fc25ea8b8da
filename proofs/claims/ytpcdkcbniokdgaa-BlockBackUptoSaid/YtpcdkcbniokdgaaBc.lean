/-
  What block.Join computes. By an AI agent.
-/
import Derived.Test.YtpcdkcbniokdgaaBb
set_option linter.unusedSimpArgs false
set_option linter.unusedVariables false
namespace Go.Proofs.Ytpcdkcbniokdgaa
open Go.Sx

theorem bld_joiner : bldIn 70 6 = true := by kernel_rfl
set_option maxRecDepth 10000 in
theorem c_Join (w : World) (u v : Value) (ps : List (List UInt8)) (bs : List Blk) (hu : reads w u [.str] (ps.map encS)) (hv : reads w v [.int .i64, .bool, .int .i64] (bs.map encB))
    (hl : ps.length < 1099511627776) (hfl : ps.flatten.length < 1099511627776) : Calls Try.prog 14 #[sc1 u, sc1 v] w
    fun e w' => e = .returned (.tuple #[.string ⟨(joinR ps bs).1.toArray⟩, .int .i64 (joinR ps bs).2]) ∧ Mod [] w w' := by
  refine as_called (run_tree2 (ρ := [.v u, .r (ps.map encS), .v v, .r (bs.map encB)]) sxE_ok Try.func14 tree_block_Join rfl rfl (Rel.start2 (by simp [Ent.holds, Ent.wr, hu, hv, X.ev])) rfl rfl ?_) rfl
  simp only [Tree.goal, X.P, X.ev, V.toI_i, V.toB_b, V.toS_s, V.toR_r, V.toV_v, V.toN_n, V.toL_l, SV.ev, CV.ev, Sc.ev, List.getD_cons_zero, List.getD_cons_succ, List.getElem?_cons_zero, List.getElem?_cons_succ, List.map_cons, List.map_nil, List.length_cons, List.length_nil, List.cons_append, List.nil_append, Nat.zero_add, Nat.reduceAdd, List.length_map]
  refine ⟨fun h w' hr => ⟨by rw [joinR, if_pos (by omega)], hr.mod⟩, fun h => ?_⟩
  have e0 := joinR_eq (ps := ps) (bs := bs) (by omega)
  refine ⟨fun vs => ∃ (i : Nat) (x y : V), vs = [x, y, .i i] ∧ i ≤ ps.length ∧ ∀ j, j < i → szOk (bs.getD j bD), fun vs => (ps.length - (vs.getD 2 (.i 0)).toI).toNat, ⟨0, _, _, rfl, by omega, fun j hj => by omega⟩, ?_⟩
  rintro _ - ⟨i, x, y, rfl, hi, hsz⟩
  simp only [Tree.goal, X.P, X.ev, V.toI_i, V.toB_b, V.toS_s, V.toR_r, V.toV_v, V.toN_n, V.toL_l, SV.ev, CV.ev, Sc.ev, List.getD_cons_zero, List.getD_cons_succ, List.getElem?_cons_zero, List.getElem?_cons_succ, List.map_cons, List.map_nil, List.length_cons, List.length_nil, List.cons_append, List.nil_append, Nat.zero_add, Nat.reduceAdd, List.length_map, Int.toNat_natCast, gI_encB2]
  refine ⟨fun h1 => ?_, fun h1 => ?_⟩
  · (repeat refine ⟨by omega, ?_⟩)
    intro b1
    refine ⟨fun h2 w' hr => ⟨?_, hr.mod⟩, fun h2 => ?_⟩
    · rw [e0, if_neg (fun hh => h2 (hh i (by omega)))]
    · refine ⟨by omega, by omega, ⟨i + 1, x, y, rfl, by omega, fun j hj => ?_⟩, by omega⟩
      by_cases hji : j = i
      · subst hji; exact Classical.not_not.1 h2
      · exact hsz j (by omega)
  · have hin : i = ps.length := by omega
    subst hin
    rw [if_pos hsz] at e0
    (repeat refine ⟨by omega, ?_⟩)
    intro jb
    refine ⟨fun vs => ∃ (i : Nat) (x y : V) (p q : Value), vs = [x, y, .i i, .v p, .v q, .r (byR (ps.take i).flatten), .i (bs.getD 0 bD).1, .b (bs.getD 0 bD).2.1, .i (bs.getD 0 bD).2.2, .i ps.length] ∧ i ≤ ps.length ∧
      (p = .pointer none ∨ p = .pointer (some ⟨jb, 0, none⟩)) ∧ ∀ j, j < i → okAt ps bs j, fun vs => (ps.length - (vs.getD 2 (.i 0)).toI).toNat, ⟨0, x, y, .pointer none, .slice none 0 0, ?_, by omega, .inl rfl, fun j hj => by omega⟩, ?_⟩
    · simp only [Int.toNat_zero, gI_encB0, gB_encB1, gI_encB2, List.cons.injEq, V.i.injEq, and_true, true_and]
      refine ⟨rfl, rfl, by omega⟩
    rintro _ - ⟨i, x, y, p, q, rfl, hi, hp, hok⟩
    have hpp : sc1 p = p := by rcases hp with rfl | rfl <;> rfl
    simp only [Tree.goal, X.P, X.ev, V.toI_i, V.toB_b, V.toS_s, V.toR_r, V.toV_v, V.toN_n, V.toL_l, SV.ev, CV.ev, Sc.ev, List.getD_cons_zero, List.getD_cons_succ, List.getElem?_cons_zero, List.getElem?_cons_succ, List.map_cons, List.map_nil, List.length_cons, List.length_nil, List.cons_append, List.nil_append, Nat.zero_add, Nat.reduceAdd, List.length_map, Int.toNat_natCast, Int.toNat_zero, gI_encB2, gI_encB0, gB_encB1, gS_encS]
    refine ⟨fun h2 => ?_, fun h2 => ?_⟩
    · (repeat refine ⟨by omega, ?_⟩)
      intro b1
      have hs := hsz i (by omega)
      obtain ⟨k, hk⟩ : ∃ k : Nat, (bs.getD i bD).2.2 = k := ⟨(bs.getD i bD).2.2.toNat, by have := hs.1; omega⟩
      have hk6 : k ≤ 6 := by have := hs.2; omega
      have hokd := okAt_iff (ps := ps) hk
      rw [hk, shl16 k hk6]
      have q1 := getD_flat_len ps i
      have q2 := take_flat_len ps i
      have q3 := take_flat ps i (by omega)
      have hnil : ps.getD i [] = [] ↔ (ps.getD i []).length = 0 := by rw [← List.length_eq_zero_iff]
      rw [hnil]
      generalize hb : (bs.getD i bD).2.1 = mo at *
      generalize hs' : (ps.getD i []) = si at *
      have hbool : (mo = decide ((i : Int) = (ps.length : Int) - 1)) ↔ ¬ (mo = true ↔ i + 1 < ps.length) := by
        cases mo <;> simp <;> omega
      rw [hbool]
      (repeat refine ⟨by omega, ?_⟩)
      refine ⟨fun h3 w' hr => ⟨?_, hr.mod⟩, fun h3 => ?_⟩
      · rw [e0, if_neg (fun hh => ?_)]
        have := hokd.1 (hh i (by omega))
        cases mo <;> simp only [reduceCtorEq, Bool.false_eq_true, false_iff, true_iff, false_and, true_and, false_or, or_false, false_implies, true_implies, implies_true, and_true, not_true_eq_false, not_false_eq_true] at this h3 <;> omega
      · intro w1 hr
        have hc := hr.at_ 1 rfl
        have ho := hr.at_ 4 rfl
        simp only [Ent.holds, Tree.goal, X.P, X.ev, V.toI_i, V.toB_b, V.toS_s, V.toR_r, V.toV_v, V.toN_n, V.toL_l, SV.ev, CV.ev, Sc.ev, List.getD_cons_zero, List.getD_cons_succ, List.getElem?_cons_zero, List.getElem?_cons_succ, List.map_cons, List.map_nil, List.length_cons, List.length_nil, List.cons_append, List.nil_append, Nat.zero_add, Nat.reduceAdd, hpp] at hc ho
        have hq1 : sc1 q = q := (owns.reads ho).sc1
        rw [hq1] at hc
        refine (bld_WriteString 70 jb p q [.int .i64 (bs.getD 0 bD).1, .bool (bs.getD 0 bD).2.1, .int .i64 (bs.getD 0 bD).2.2, .int .i64 ps.length] _ si w1 bld_joiner (by decide) hc hp ho (by simp only [byR, List.length_map]; omega)).mono ?_
        rintro e w2 ⟨rfl, v', c1, c2, c3, c4⟩
        have hv1 : sc1 v' = v' := (owns.reads c2).sc1
        refine ⟨[.i si.length, .v .nilIface, .a Asrt.tt, .v (.pointer (some ⟨jb, 0, none⟩)), .v v', .r (byR (ps.take (i + 1)).flatten), .i (bs.getD 0 bD).1, .b (bs.getD 0 bD).2.1, .i (bs.getD 0 bD).2.2, .i ps.length], rfl, rfl, ?_, ?_, ?_, ?_, ?_⟩
        · refine c3.mono fun z hz => .inl ?_
          simp only [modsOf, goneOf, List.map_cons, List.map_nil, List.flatMap_cons, List.flatMap_nil, List.append_nil, Tree.goal, X.P, X.ev, V.toI_i, V.toB_b, V.toS_s, V.toR_r, V.toV_v, V.toN_n, V.toL_l, SV.ev, CV.ev, Sc.ev, List.getD_cons_zero, List.getD_cons_succ, List.getElem?_cons_zero, List.getElem?_cons_succ, List.map_cons, List.map_nil, List.length_cons, List.length_nil, List.cons_append, List.nil_append, Nat.zero_add, Nat.reduceAdd]
          simpa using hz
        · refine List.forall_mem_cons.2 ⟨?_, List.forall_mem_nil _⟩
          simp only [Ent.holds, Tree.goal, X.P, X.ev, V.toI_i, V.toB_b, V.toS_s, V.toR_r, V.toV_v, V.toN_n, V.toL_l, SV.ev, CV.ev, Sc.ev, List.getD_cons_zero, List.getD_cons_succ, List.getElem?_cons_zero, List.getElem?_cons_succ, List.map_cons, List.map_nil, List.length_cons, List.length_nil, List.cons_append, List.nil_append, Nat.zero_add, Nat.reduceAdd, hv1]
          exact c1
        · refine List.forall_mem_cons.2 ⟨⟨by simp only [Ent.holds, Tree.goal, X.P, X.ev, V.toI_i, V.toB_b, V.toS_s, V.toR_r, V.toV_v, V.toN_n, V.toL_l, SV.ev, CV.ev, Sc.ev, List.getD_cons_zero, List.getD_cons_succ, List.getElem?_cons_zero, List.getElem?_cons_succ, List.map_cons, List.map_nil, List.length_cons, List.length_nil, List.cons_append, List.nil_append, Nat.zero_add, Nat.reduceAdd]; trivial, fun z hz => by simp only [Ent.fp, Tree.goal, X.P, X.ev, V.toI_i, V.toB_b, V.toS_s, V.toR_r, V.toV_v, V.toN_n, V.toL_l, SV.ev, CV.ev, Sc.ev, List.getD_cons_zero, List.getD_cons_succ, List.getElem?_cons_zero, List.getElem?_cons_succ, List.map_cons, List.map_nil, List.length_cons, List.length_nil, List.cons_append, List.nil_append, Nat.zero_add, Nat.reduceAdd] at hz; exact hz.elim⟩, List.forall_mem_cons.2 ⟨⟨?_, fun z hz => ?_⟩, List.forall_mem_nil _⟩⟩
          · simp only [Ent.holds, Tree.goal, X.P, X.ev, V.toI_i, V.toB_b, V.toS_s, V.toR_r, V.toV_v, V.toN_n, V.toL_l, SV.ev, CV.ev, Sc.ev, List.getD_cons_zero, List.getD_cons_succ, List.getElem?_cons_zero, List.getElem?_cons_succ, List.map_cons, List.map_nil, List.length_cons, List.length_nil, List.cons_append, List.nil_append, Nat.zero_add, Nat.reduceAdd]
            rw [q3, byR, List.map_append]
            exact c2
          · simp only [Ent.fp, Tree.goal, X.P, X.ev, V.toI_i, V.toB_b, V.toS_s, V.toR_r, V.toV_v, V.toN_n, V.toL_l, SV.ev, CV.ev, Sc.ev, List.getD_cons_zero, List.getD_cons_succ, List.getElem?_cons_zero, List.getElem?_cons_succ, List.map_cons, List.map_nil, List.length_cons, List.length_nil, List.cons_append, List.nil_append, Nat.zero_add, Nat.reduceAdd] at hz
            rcases c4 z hz with h4 | h4
            · exact .inl h4
            · refine .inr (.inr ?_)
              simp only [goneOf, List.flatMap_cons, List.flatMap_nil, List.append_nil, Tree.goal, X.P, X.ev, V.toI_i, V.toB_b, V.toS_s, V.toR_r, V.toV_v, V.toN_n, V.toL_l, SV.ev, CV.ev, Sc.ev, List.getD_cons_zero, List.getD_cons_succ, List.getElem?_cons_zero, List.getElem?_cons_succ, List.map_cons, List.map_nil, List.length_cons, List.length_nil, List.cons_append, List.nil_append, Nat.zero_add, Nat.reduceAdd]
              exact h4
        · exact apart_st rfl apart_one
        · simp only [Tree.goal, X.P, X.ev, V.toI_i, V.toB_b, V.toS_s, V.toR_r, V.toV_v, V.toN_n, V.toL_l, SV.ev, CV.ev, Sc.ev, List.getD_cons_zero, List.getD_cons_succ, List.getElem?_cons_zero, List.getElem?_cons_succ, List.map_cons, List.map_nil, List.length_cons, List.length_nil, List.cons_append, List.nil_append, Nat.zero_add, Nat.reduceAdd]
          (repeat refine ⟨by omega, ?_⟩)
          refine ⟨⟨i + 1, x, y, _, v', rfl, by omega, .inr rfl, fun j hj => ?_⟩, by omega⟩
          by_cases hji : j = i
          · subst hji
            refine hokd.2 ?_
            cases mo <;> simp only [reduceCtorEq, Bool.false_eq_true, false_iff, true_iff, false_and, true_and, false_or, or_false, false_implies, true_implies, implies_true, and_true, not_true_eq_false, not_false_eq_true] at h3 ⊢ <;> omega
          · exact hok j (by omega)
    · have hin : i = ps.length := by omega
      subst hin
      rw [if_pos hok] at e0
      rw [List.take_length]
      intro w1 hr
      have hc := hr.at_ 0 rfl
      have ho := hr.at_ 3 rfl
      simp only [Ent.holds, Tree.goal, X.P, X.ev, V.toI_i, V.toB_b, V.toS_s, V.toR_r, V.toV_v, V.toN_n, V.toL_l, SV.ev, CV.ev, Sc.ev, List.getD_cons_zero, List.getD_cons_succ, List.getElem?_cons_zero, List.getElem?_cons_succ, List.map_cons, List.map_nil, List.length_cons, List.length_nil, List.cons_append, List.nil_append, Nat.zero_add, Nat.reduceAdd, hpp] at hc ho
      have hq1 : sc1 q = q := (owns.reads ho).sc1
      rw [hq1] at hc
      refine (bld_Len 70 jb p q _ _ w1 hc ho).mono ?_
      rintro e w2 ⟨rfl, rfl⟩
      refine ⟨[.i ps.flatten.length, .v p, .v q, .r (byR ps.flatten), .i (bs.getD 0 bD).1, .b (bs.getD 0 bD).2.1, .i (bs.getD 0 bD).2.2, .i ps.length], rfl, by simp only [byR, List.length_map]; rfl, Mod.refl _ _, ?_, ?_, apart_one, ?_⟩
      · refine List.forall_mem_cons.2 ⟨?_, List.forall_mem_nil _⟩
        simp only [Ent.holds, Tree.goal, X.P, X.ev, V.toI_i, V.toB_b, V.toS_s, V.toR_r, V.toV_v, V.toN_n, V.toL_l, SV.ev, CV.ev, Sc.ev, List.getD_cons_zero, List.getD_cons_succ, List.getElem?_cons_zero, List.getElem?_cons_succ, List.map_cons, List.map_nil, List.length_cons, List.length_nil, List.cons_append, List.nil_append, Nat.zero_add, Nat.reduceAdd, hpp, hq1]
        exact hc
      · refine List.forall_mem_cons.2 ⟨⟨?_, fun z hz => ?_⟩, List.forall_mem_nil _⟩
        · simp only [Ent.holds, Tree.goal, X.P, X.ev, V.toI_i, V.toB_b, V.toS_s, V.toR_r, V.toV_v, V.toN_n, V.toL_l, SV.ev, CV.ev, Sc.ev, List.getD_cons_zero, List.getD_cons_succ, List.getElem?_cons_zero, List.getElem?_cons_succ, List.map_cons, List.map_nil, List.length_cons, List.length_nil, List.cons_append, List.nil_append, Nat.zero_add, Nat.reduceAdd]; exact ho
        · simp only [Ent.fp, Tree.goal, X.P, X.ev, V.toI_i, V.toB_b, V.toS_s, V.toR_r, V.toV_v, V.toN_n, V.toL_l, SV.ev, CV.ev, Sc.ev, List.getD_cons_zero, List.getD_cons_succ, List.getElem?_cons_zero, List.getElem?_cons_succ, List.map_cons, List.map_nil, List.length_cons, List.length_nil, List.cons_append, List.nil_append, Nat.zero_add, Nat.reduceAdd, blockOf] at hz
          refine .inr (.inr ?_)
          simp only [goneOf, List.flatMap_cons, List.flatMap_nil, List.append_nil, Tree.goal, X.P, X.ev, V.toI_i, V.toB_b, V.toS_s, V.toR_r, V.toV_v, V.toN_n, V.toL_l, SV.ev, CV.ev, Sc.ev, List.getD_cons_zero, List.getD_cons_succ, List.getElem?_cons_zero, List.getElem?_cons_succ, List.map_cons, List.map_nil, List.length_cons, List.length_nil, List.cons_append, List.nil_append, Nat.zero_add, Nat.reduceAdd]
          rw [hz]; simp
      · simp only [Tree.goal, X.P, X.ev, V.toI_i, V.toB_b, V.toS_s, V.toR_r, V.toV_v, V.toN_n, V.toL_l, SV.ev, CV.ev, Sc.ev, List.getD_cons_zero, List.getD_cons_succ, List.getElem?_cons_zero, List.getElem?_cons_succ, List.map_cons, List.map_nil, List.length_cons, List.length_nil, List.cons_append, List.nil_append, Nat.zero_add, Nat.reduceAdd]
        refine ⟨fun h3 w' hr => ⟨?_, hr.mod⟩, fun h3 => ?_⟩
        · rw [e0, if_pos (by omega)]
        · intro w3 hr
          have hc := hr.at_ 1 rfl
          have ho := hr.at_ 0 rfl
          simp only [Ent.holds, Tree.goal, X.P, X.ev, V.toI_i, V.toB_b, V.toS_s, V.toR_r, V.toV_v, V.toN_n, V.toL_l, SV.ev, CV.ev, Sc.ev, List.getD_cons_zero, List.getD_cons_succ, List.getElem?_cons_zero, List.getElem?_cons_succ, List.map_cons, List.map_nil, List.length_cons, List.length_nil, List.cons_append, List.nil_append, Nat.zero_add, Nat.reduceAdd, hpp, hq1] at hc ho
          refine (bld_String 70 jb p q _ ps.flatten w3 hc ho).mono ?_
          rintro e w4 ⟨rfl, hm⟩
          have hjq : jb ∉ q.ownBlock.toList := fun hmem => by
            have h9 : q.ownBlock = some jb := by simpa using hmem
            rcases ho.2.2 with ⟨hv, -⟩ | ⟨g, cap, cur, hv, -, hg, -⟩
            · rw [hv] at h9; cases h9
            · rw [hv] at h9; simp [Value.ownBlock] at h9; subst h9
              rw [hc] at hg; simp at hg
          refine ⟨[.s ps.flatten, .v p, .v q, .i (bs.getD 0 bD).1, .b (bs.getD 0 bD).2.1, .i (bs.getD 0 bD).2.2, .i ps.length], rfl, rfl, ?_, ?_, fun z hz => absurd hz List.not_mem_nil, apart_nil, ?_⟩
          · refine hm.mono fun z hz => .inl ?_
            simp only [modsOf, goneOf, List.map_cons, List.map_nil, List.flatMap_cons, List.flatMap_nil, List.append_nil, Tree.goal, X.P, X.ev, V.toI_i, V.toB_b, V.toS_s, V.toR_r, V.toV_v, V.toN_n, V.toL_l, SV.ev, CV.ev, Sc.ev, List.getD_cons_zero, List.getD_cons_succ, List.getElem?_cons_zero, List.getElem?_cons_succ, List.map_cons, List.map_nil, List.length_cons, List.length_nil, List.cons_append, List.nil_append, Nat.zero_add, Nat.reduceAdd]
            exact List.mem_cons_of_mem _ hz
          · refine List.forall_mem_cons.2 ⟨?_, List.forall_mem_nil _⟩
            simp only [Ent.holds, Tree.goal, X.P, X.ev, V.toI_i, V.toB_b, V.toS_s, V.toR_r, V.toV_v, V.toN_n, V.toL_l, SV.ev, CV.ev, Sc.ev, List.getD_cons_zero, List.getD_cons_succ, List.getElem?_cons_zero, List.getElem?_cons_succ, List.map_cons, List.map_nil, List.length_cons, List.length_nil, List.cons_append, List.nil_append, Nat.zero_add, Nat.reduceAdd, hpp, hq1]
            rw [hm.block jb (Array.getElem?_eq_some_iff.1 hc).1 hjq]
            exact hc
          · exact fun w' hr => ⟨by rw [e0, if_neg (by omega)]; rfl, hr.mod⟩
end Go.Proofs.Ytpcdkcbniokdgaa
