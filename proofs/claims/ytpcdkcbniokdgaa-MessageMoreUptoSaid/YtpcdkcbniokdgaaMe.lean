/-
  Messages: Decode. By an AI agent.
-/
import Derived.Test.YtpcdkcbniokdgaaMd
set_option linter.unusedSimpArgs false
set_option linter.unusedVariables false
namespace Go.Proofs.Ytpcdkcbniokdgaa
open Go.Sx

theorem chk_pre {m : Msg} : 0 ≤ chk m := by
  have h : ∀ (l : List Opt) (was : Int), 0 ≤ optE was l := by
    intro l
    induction l with
    | nil => intro was; exact Int.le_refl _
    | cons o l ih =>
      intro was
      simp only [optE]
      split
      · split
        · decide
        · split
          · decide
          · exact ih _
      · decide
  unfold chk
  have := h m.opts 0
  split
  · split
    · split
      · decide
      · split
        · exact this
        · split <;> decide
    · decide
  · decide
theorem beq_app {a : List UInt8} : (decide (a = []) = true) ↔ a = [] := by simp

set_option maxRecDepth 10000 in
set_option maxHeartbeats 2000000 in
theorem c_Decode (w : World) (s : List UInt8) (hs : s.length < 1099511627776) : Calls Try.prog 34 #[.string ⟨s.toArray⟩] w fun e w' => gotM w w' e (dec s) := by
  refine as_called (run_plain2 (ρ := [.s s]) sxE_ok Try.func34 tree_message_Decode rfl rfl rfl ?_) rfl
  simp only [Tree.goal, X.P, X.ev, V.toI_i, V.toB_b, V.toS_s, V.toR_r, V.toV_v, V.toN_n, V.toL_l, SV.ev, CV.ev, Sc.ev, List.getD_cons_zero, List.getD_cons_succ, List.getElem?_cons_zero, List.getElem?_cons_succ, List.map_cons, List.map_nil, List.length_cons, List.length_nil, List.cons_append, List.nil_append, Nat.zero_add, Nat.reduceAdd]
  intro b1 b
  have hh := head_ok s
  generalize hR1 : numM 1 s false = R1 at hh
  generalize hR2 : numM 1 R1.2.1 R1.2.2 = R2 at hh
  generalize hR3 : numM 2 R2.2.1 R2.2.2 = R3 at hh
  simp only [hR1, hR2, hR3] at hh
  have hb1 : 0 ≤ R1.1 ∧ R1.1 < 256 := by have := numM_bd (k := 1) s false (by omega); rw [hR1] at this; omega
  have hl1 : R1.2.1.length ≤ s.length := by rw [← hR1]; exact numM_len _ _ _
  have hl2 : R2.2.1.length ≤ R1.2.1.length := by rw [← hR2]; exact numM_len _ _ _
  have hl3 : R3.2.1.length ≤ R2.2.1.length := by rw [← hR3]; exact numM_len _ _ _
  obtain ⟨x, hx⟩ : ∃ x : Nat, R1.1 = x := ⟨R1.1.toNat, by omega⟩
  have hxb : x < 256 := by omega
  intro w1 hr
  refine (c_number w1 b s false 1 (by omega) hs (hr.at_ 0 rfl)).mono ?_
  rintro e w2 ⟨rfl, c1, c2⟩
  rw [hR1] at c1
  refine ⟨[.i R1.1, .s R1.2.1, .b R1.2.2], rfl, by rw [hR1]; rfl, c2, List.forall_mem_cons.2 ⟨c1, List.forall_mem_nil _⟩, List.forall_mem_nil _, apart_nil, ?_⟩
  simp only [Tree.goal, X.P, X.ev, V.toI_i, V.toB_b, V.toS_s, V.toR_r, V.toV_v, V.toN_n, V.toL_l, SV.ev, CV.ev, Sc.ev, List.getD_cons_zero, List.getD_cons_succ, List.getElem?_cons_zero, List.getElem?_cons_succ, List.map_cons, List.map_nil, List.length_cons, List.length_nil, List.cons_append, List.nil_append, Nat.zero_add, Nat.reduceAdd]
  intro w1 hr
  refine (c_number w1 b R1.2.1 R1.2.2 1 (by omega) (by omega) (hr.at_ 0 rfl)).mono ?_
  rintro e w2 ⟨rfl, c1, c2⟩
  rw [hR2] at c1
  refine ⟨[.i R2.1, .s R2.2.1, .b R2.2.2], rfl, by rw [hR2]; rfl, c2, List.forall_mem_cons.2 ⟨c1, List.forall_mem_nil _⟩, List.forall_mem_nil _, apart_nil, ?_⟩
  simp only [Tree.goal, X.P, X.ev, V.toI_i, V.toB_b, V.toS_s, V.toR_r, V.toV_v, V.toN_n, V.toL_l, SV.ev, CV.ev, Sc.ev, List.getD_cons_zero, List.getD_cons_succ, List.getElem?_cons_zero, List.getElem?_cons_succ, List.map_cons, List.map_nil, List.length_cons, List.length_nil, List.cons_append, List.nil_append, Nat.zero_add, Nat.reduceAdd]
  intro b9
  intro w1 hr
  refine (c_number w1 b R2.2.1 R2.2.2 2 (by omega) (by omega) (hr.at_ 1 rfl)).mono ?_
  rintro e w2 ⟨rfl, c1, c2⟩
  rw [hR3] at c1
  refine ⟨[.i R3.1, .s R3.2.1, .b R3.2.2], rfl, by rw [hR3]; rfl, c2, List.forall_mem_cons.2 ⟨c1, List.forall_mem_nil _⟩, List.forall_mem_nil _, apart_nil, ?_⟩
  simp only [Tree.goal, X.P, X.ev, V.toI_i, V.toB_b, V.toS_s, V.toR_r, V.toV_v, V.toN_n, V.toL_l, SV.ev, CV.ev, Sc.ev, List.getD_cons_zero, List.getD_cons_succ, List.getElem?_cons_zero, List.getElem?_cons_succ, List.map_cons, List.map_nil, List.length_cons, List.length_nil, List.cons_append, List.nil_append, Nat.zero_add, Nat.reduceAdd]
  rw [hx, and15b x hxb]
  intro w1 hr
  refine (c_take w1 b R3.2.1 R3.2.2 ((x % 16 : Nat) : Int) (by omega) (hr.at_ 1 rfl)).mono ?_
  rintro e w2 ⟨rfl, c1, c2⟩
  generalize hT4 : takeM ((x % 16 : Nat) : Int) R3.2.1 R3.2.2 = T4 at c1 ⊢
  have hl4 : T4.2.1.length ≤ s.length ∧ T4.1.length ≤ s.length := by
    have := takeM_len ((x % 16 : Nat) : Int) R3.2.1 R3.2.2
    rw [hT4] at this; omega
  have hsh4 : T4.2.2 = true → T4.2.1 = [] := by
    rcases hh with ⟨_, h5, h6⟩ | ⟨h5, _, _, _, _, h6⟩
    · rw [h5, h6] at hT4
      subst hT4
      intro _
      unfold takeM; split <;> simp
    · rw [h6] at hT4
      subst hT4
      unfold takeM; split
      · intro _; rfl
      · intro h; cases h
  refine ⟨[.s T4.1, .s T4.2.1, .b T4.2.2], rfl, rfl, c2, List.forall_mem_cons.2 ⟨c1, List.forall_mem_nil _⟩, List.forall_mem_nil _, apart_nil, ?_⟩
  simp only [Tree.goal, X.P, X.ev, V.toI_i, V.toB_b, V.toS_s, V.toR_r, V.toV_v, V.toN_n, V.toL_l, SV.ev, CV.ev, Sc.ev, List.getD_cons_zero, List.getD_cons_succ, List.getElem?_cons_zero, List.getElem?_cons_succ, List.map_cons, List.map_nil, List.length_cons, List.length_nil, List.cons_append, List.nil_append, Nat.zero_add, Nat.reduceAdd]
  intro w1 hr
  refine (c_roptions w1 b T4.2.1 T4.2.2 (by omega) hsh4 (hr.at_ 1 rfl)).mono ?_
  rintro e w2 ⟨v, os, s', sh', rfl, hrd, hfr, c1, c2, hlo, hT⟩
  have hfr1 : freshO w.heap.size v os := hfr.mono hr.mod.size
  refine ⟨[.v v, .r (os.map encO), .s s', .b sh'], rfl, rfl, c2, List.forall_mem_cons.2 ⟨c1, List.forall_mem_nil _⟩, List.forall_mem_cons.2 ⟨⟨hrd, fun k hk => .inl (hfr k hk)⟩, List.forall_mem_nil _⟩, apart_one, ?_⟩
  have hfin : ((sh' = true ∨ ¬ (x / 64 = 1) ∨ 8 < T4.1.length) → dec s = (mNil, 1)) ∧ (¬ (sh' = true ∨ ¬ (x / 64 = 1) ∨ 8 < T4.1.length) → dec s = finM ⟨((x / 16 % 4 : Nat) : Int), R2.1, R3.1, T4.1, os, []⟩ s') := by
    rcases hh with ⟨h4, h5, h6⟩ | ⟨h4, h5, h6, h7, h8, h9⟩
    · have hsh : T4.2.2 = true := by rw [h6] at hT4; rw [← hT4]; exact takeM_stick _ _
      rw [hsh, if_pos rfl] at hT
      have hs' : sh' = true := by
        rcases hT with hT | hT
        · exact hT.1
        · exact absurd hT.2 (by simp)
      exact ⟨fun _ => by rw [dec, if_pos h4], fun h => absurd (.inl hs') h⟩
    · have hx0 : (s.getD 0 0).toNat = x := by rw [hx] at h5; omega
      rw [h8, h9, takeM, List.length_drop] at hT4
      by_cases hn : s.length < 4 + x % 16
      · rw [if_pos (by omega)] at hT4
        subst hT4
        simp only [if_true] at hT
        have hs' : sh' = true := by
          rcases hT with hT | hT
          · exact hT.1
          · exact absurd hT.2 (by simp)
        exact ⟨fun _ => dec_none h4 (.inl (by rw [hx0]; exact .inr (.inr hn))), fun h => absurd (.inl hs') h⟩
      · rw [if_neg (by omega)] at hT4
        subst hT4
        simp only [Int.toNat_natCast, List.drop_drop, Bool.false_eq_true, if_false] at hT ⊢
        have hlen : (List.take (x % 16) (List.drop 4 s)).length = x % 16 := by simp; omega
        rw [hlen]
        have hcond : ∀ y : Prop, (¬ (x / 64 = 1) ∨ 8 < x % 16 → y) → (¬ ((s.getD 0 0).toNat / 64 = 1) ∨ 8 < (s.getD 0 0).toNat % 16 ∨ s.length < 4 + (s.getD 0 0).toNat % 16) → y := fun y hy h => by
          rw [hx0] at h
          rcases h with h | h | h
          · exact hy (.inl h)
          · exact hy (.inr h)
          · exact absurd h hn
        refine ⟨fun h => ?_, fun h => ?_⟩
        · by_cases hb : ¬ (x / 64 = 1) ∨ 8 < x % 16
          · refine dec_none h4 (.inl ?_)
            rw [hx0]
            rcases hb with hb | hb
            · exact .inl hb
            · exact .inr (.inl hb)
          · have hs' := h.resolve_right hb
            refine dec_none h4 (.inr ?_)
            rw [hx0]
            rcases hT with hT | hT
            · exact hT.2
            · rw [hs'] at hT; exact absurd hT.1 (by decide)
        · rcases hT with hT | hT
          · exact absurd (.inl hT.1) h
          · have := dec_some h4 (fun h2 => hcond _ id h2 |> fun h3 => h (.inr h3)) (by rw [hx0]; exact hT.2)
            rw [this, hx0, h6, h7]
  clear hT hh hT4 hR1 hR2 hR3
  simp only [Tree.goal, X.P, X.ev, V.toI_i, V.toB_b, V.toS_s, V.toR_r, V.toV_v, V.toN_n, V.toL_l, SV.ev, CV.ev, Sc.ev, List.getD_cons_zero, List.getD_cons_succ, List.getElem?_cons_zero, List.getElem?_cons_succ, List.map_cons, List.map_nil, List.length_cons, List.length_nil, List.cons_append, List.nil_append, Nat.zero_add, Nat.reduceAdd, List.length_map]
  rw [shr4b x hxb, and3b x hxb, shr6b x hxb]
  refine ⟨fun h1 => ?_, fun h1 => ?_⟩
  · obtain ⟨c, p, rfl⟩ : ∃ c p, s' = c :: p := by
      rcases s' with _ | ⟨c, p⟩
      · exact absurd rfl h1
      · exact ⟨c, p, rfl⟩
    intro w1 hr
    refine (c_take w1 b (c :: p) sh' 1 (by omega) (hr.at_ 2 rfl)).mono ?_
    rintro e w2 ⟨rfl, c1, c2⟩
    have e5 : takeM 1 (c :: p) sh' = ([c], p, sh') := by rw [takeM, if_neg (by simp only [List.length_cons]; omega)]; rfl
    rw [e5] at c1
    refine ⟨[.s [c], .s p, .b sh'], rfl, by rw [e5]; rfl, c2, List.forall_mem_cons.2 ⟨c1, List.forall_mem_nil _⟩, List.forall_mem_nil _, apart_nil, ?_⟩
    simp only [Tree.goal, X.P, X.ev, V.toI_i, V.toB_b, V.toS_s, V.toR_r, V.toV_v, V.toN_n, V.toL_l, SV.ev, CV.ev, Sc.ev, List.getD_cons_zero, List.getD_cons_succ, List.getElem?_cons_zero, List.getElem?_cons_succ, List.map_cons, List.map_nil, List.length_cons, List.length_nil, List.cons_append, List.nil_append, Nat.zero_add, Nat.reduceAdd, List.length_map]
    refine ⟨fun h2 w' hr => ?_, fun h2 => ?_⟩
    · have : dec s = (mNil, 1) := by
        by_cases h3 : sh' = true ∨ ¬ (x / 64 = 1) ∨ 8 < T4.1.length
        · exact hfin.1 h3
        · rw [hfin.2 h3]
          have : p = [] := by
            rcases h2 with ((h2 | h2) | h2) | h2
            · exact absurd (.inl h2) h3
            · exact h2
            · exact absurd (.inr (.inl (by omega))) h3
            · exact absurd (.inr (.inr (by omega))) h3
          rw [this]; rfl
      rw [this]
      exact gotM_nil 1 hr.mod
    · have hd : dec s = chkd ⟨((x / 16 % 4 : Nat) : Int), R2.1, R3.1, T4.1, os, p⟩ := by
        rw [hfin.2 (fun h3 => h2 (by
          rcases h3 with h3 | h3 | h3
          · exact .inl (.inl (.inl h3))
          · exact .inl (.inr (by omega))
          · exact .inr (by omega)))]
        simp only [finM]
        rw [if_neg (fun h3 => h2 (.inl (.inl (.inr h3))))]
      refine ⟨[.i (chk ⟨((x / 16 % 4 : Nat) : Int), R2.1, R3.1, T4.1, os, p⟩)], rfl, fun _ w' hr => c_Check w' ⟨((x / 16 % 4 : Nat) : Int), R2.1, R3.1, T4.1, os, p⟩ v (hr.at_ 0 rfl) ?_ ?_ ?_, ?_⟩
      · simp only [List.length_cons] at hlo ⊢; omega
      · simp only; omega
      · simp only [List.length_cons] at hlo ⊢; omega
      simp only [Tree.goal, X.P, X.ev, V.toI_i, V.toB_b, V.toS_s, V.toR_r, V.toV_v, V.toN_n, V.toL_l, SV.ev, CV.ev, Sc.ev, List.getD_cons_zero, List.getD_cons_succ, List.getElem?_cons_zero, List.getElem?_cons_succ, List.map_cons, List.map_nil, List.length_cons, List.length_nil, List.cons_append, List.nil_append, Nat.zero_add, Nat.reduceAdd, List.length_map]
      refine ⟨fun h3 w' hr => ?_, fun h3 w' hr => ?_⟩
      · rw [hd, chkd_no h3]
        exact gotM_nil _ hr.mod
      · rw [hd, chkd_of (Classical.not_not.1 h3)]
        exact ⟨v, rfl, hr.at_ 0 rfl, hfr1, hr.mod⟩
  · have hs' := Classical.not_not.1 h1
    subst hs'
    refine ⟨fun h2 w' hr => ?_, fun h2 => ?_⟩
    · rw [hfin.1 (by
        rcases h2 with (h2 | h2) | h2
        · exact .inl h2
        · exact .inr (.inl (by omega))
        · exact .inr (.inr (by omega)))]
      exact gotM_nil 1 hr.mod
    · have hd : dec s = chkd ⟨((x / 16 % 4 : Nat) : Int), R2.1, R3.1, T4.1, os, []⟩ := hfin.2 (fun h3 => h2 (by
          rcases h3 with h3 | h3 | h3
          · exact .inl (.inl h3)
          · exact .inl (.inr (by omega))
          · exact .inr (by omega)))
      refine ⟨[.i (chk ⟨((x / 16 % 4 : Nat) : Int), R2.1, R3.1, T4.1, os, []⟩)], rfl, fun _ w' hr => c_Check w' ⟨((x / 16 % 4 : Nat) : Int), R2.1, R3.1, T4.1, os, []⟩ v (hr.at_ 0 rfl) ?_ ?_ ?_, ?_⟩
      · simp only [List.length_nil] at hlo ⊢; omega
      · simp only; omega
      · simp
      simp only [Tree.goal, X.P, X.ev, V.toI_i, V.toB_b, V.toS_s, V.toR_r, V.toV_v, V.toN_n, V.toL_l, SV.ev, CV.ev, Sc.ev, List.getD_cons_zero, List.getD_cons_succ, List.getElem?_cons_zero, List.getElem?_cons_succ, List.map_cons, List.map_nil, List.length_cons, List.length_nil, List.cons_append, List.nil_append, Nat.zero_add, Nat.reduceAdd, List.length_map]
      refine ⟨fun h3 w' hr => ?_, fun h3 w' hr => ?_⟩
      · rw [hd, chkd_no h3]
        exact gotM_nil _ hr.mod
      · rw [hd, chkd_of (Classical.not_not.1 h3)]
        exact ⟨v, rfl, hr.at_ 0 rfl, hfr1, hr.mod⟩

theorem c_SameMessage (w : World) (m n : Msg) (u v : Value) (hu : readsO w u m.opts) (hv : readsO w v n.opts) (hl : m.opts.length < 1099511627776) : Calls Try.prog 39 #[mV m (sc1 u), mV n (sc1 v)] w
    fun e w' => e = .returned (.bool (decide (m.kind = n.kind ∧ m.code = n.code ∧ m.id = n.id ∧ m.tok = n.tok ∧ m.pay = n.pay ∧ m.opts = n.opts))) ∧ Mod [] w w' := by
  refine as_called (run_tree2 (ρ := [.i m.kind, .i m.code, .i m.id, .s m.tok, .v u, .r (m.opts.map encO), .s m.pay, .i n.kind, .i n.code, .i n.id, .s n.tok, .v v, .r (n.opts.map encO), .s n.pay]) sxE_ok Try.func39 tree_dragomanref_SameMessage rfl rfl (Rel.start2 (by simp [Ent.holds, Ent.wr, hu, hv, X.ev])) rfl rfl ?_) rfl
  simp only [Tree.goal, X.P, X.ev, V.toI_i, V.toB_b, V.toS_s, V.toR_r, V.toV_v, V.toN_n, V.toL_l, SV.ev, CV.ev, Sc.ev, List.getD_cons_zero, List.getD_cons_succ, List.getElem?_cons_zero, List.getElem?_cons_succ, List.map_cons, List.map_nil, List.length_cons, List.length_nil, List.cons_append, List.nil_append, Nat.zero_add, Nat.reduceAdd, List.length_map]
  intro b1 b2
  refine ⟨fun h w' hr => ⟨?_, hr.mod⟩, fun h => ?_⟩
  · rw [decide_eq_false]
    rintro ⟨h1, h2, h3, h4, h5, h6⟩
    rcases h with ((((h | h) | h) | h) | h) | h
    · exact h h1
    · exact h h2
    · exact h h3
    · exact h h4
    · exact h h5
    · exact h (by rw [h6])
  · simp only [not_or, Classical.not_not] at h
    obtain ⟨⟨⟨⟨⟨h1, h2⟩, h3⟩, h4⟩, h5⟩, h6⟩ := h
    have hlen : m.opts.length = n.opts.length := by omega
    refine ⟨fun vs => ∃ (i : Nat) (x : V), vs = [x, .i i] ∧ i ≤ m.opts.length ∧ ∀ j, j < i → m.opts.getD j oD = n.opts.getD j oD, fun vs => (m.opts.length - (vs.getD 1 (.i 0)).toI).toNat, ⟨0, _, rfl, by omega, fun j hj => by omega⟩, ?_⟩
    rintro _ - ⟨i, x, rfl, hi, hall⟩
    simp only [Tree.goal, X.P, X.ev, V.toI_i, V.toB_b, V.toS_s, V.toR_r, V.toV_v, V.toN_n, V.toL_l, SV.ev, CV.ev, Sc.ev, List.getD_cons_zero, List.getD_cons_succ, List.getElem?_cons_zero, List.getElem?_cons_succ, List.map_cons, List.map_nil, List.length_cons, List.length_nil, List.cons_append, List.nil_append, Nat.zero_add, Nat.reduceAdd, List.length_map, Int.toNat_natCast, gI_encO, gS_encO]
    refine ⟨fun h7 => ⟨by omega, by omega, fun h8 w' hr => ⟨?_, hr.mod⟩, fun h8 => ⟨by omega, by omega, ⟨i + 1, x, rfl, by omega, fun j hj => ?_⟩, by omega⟩⟩, fun h7 w' hr => ⟨?_, hr.mod⟩⟩
    · rw [decide_eq_false]
      rintro ⟨-, -, -, -, -, h9⟩
      rw [h9] at h8
      exact h8 ⟨rfl, rfl⟩
    · by_cases hji : j = i
      · subst hji
        have := Classical.not_not.1 h8
        exact Prod.ext this.1 this.2
      · exact hall j (by omega)
    · rw [decide_eq_true]
      refine ⟨h1, h2, h3, h4, h5, List.ext_getElem? fun j => ?_⟩
      by_cases hj : j < m.opts.length
      · have := hall j (by omega)
        rw [List.getD_eq_getElem?_getD, List.getD_eq_getElem?_getD, List.getElem?_eq_getElem hj, List.getElem?_eq_getElem (by omega)] at this
        rw [List.getElem?_eq_getElem hj, List.getElem?_eq_getElem (by omega)]
        simpa using this
      · rw [List.getElem?_eq_none (by omega), List.getElem?_eq_none (by omega)]

/-- The message that asks for a topic. -/
def mGet : Msg := ⟨0, 1, 258, [116], [(6, []), (11, [97]), (11, [98])], []⟩
theorem c_get (w : World) : Calls Try.prog 52 #[] w fun e w' => ∃ v, e = .returned (mV mGet (sc1 v)) ∧ readsO w' v mGet.opts ∧ freshO w.heap.size v mGet.opts ∧ Mod [] w w' := by
  refine as_called (run_plain2 (ρ := []) sxE_ok Try.func52 tree_dragomanlaw_get rfl rfl rfl ?_) rfl
  simp only [Tree.goal, X.P, X.ev, V.toI_i, V.toB_b, V.toS_s, V.toR_r, V.toV_v, V.toN_n, V.toL_l, SV.ev, CV.ev, Sc.ev, List.getD_cons_zero, List.getD_cons_succ, List.getElem?_cons_zero, List.getElem?_cons_succ, List.map_cons, List.map_nil, List.length_cons, List.length_nil, List.cons_append, List.nil_append, Nat.zero_add, Nat.reduceAdd]
  intro b v w' hr
  refine ⟨v, rfl, owns.reads (hr.at_ 0 rfl), fun k hk => ?_, hr.mod⟩
  rcases hr.own _ (List.mem_cons_self ..) rfl k hk.2 with h | h
  · exact h
  · simp at h

theorem mGet_chk : chk mGet = 0 := by decide
theorem mGet_bytes : msgB mGet = [65, 1, 1, 2, 116, 96, 81, 97, 1, 98] := by decide +kernel
theorem mGet_dec : dec [65, 1, 1, 2, 116, 96, 81, 97, 1, 98] = (mGet, 0) := by rfl
end Go.Proofs.Ytpcdkcbniokdgaa
