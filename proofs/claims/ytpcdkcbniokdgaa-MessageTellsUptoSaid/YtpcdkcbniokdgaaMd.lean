/-
  Messages: options are read; Decode. By an AI agent.
-/
import Derived.Test.YtpcdkcbniokdgaaMc
set_option linter.unusedSimpArgs false
set_option linter.unusedVariables false
namespace Go.Proofs.Ytpcdkcbniokdgaa
open Go.Sx

def freshO (n : Nat) (v : Value) (os : List Opt) : Prop := ∀ k, (os.map encO).flatten ≠ [] ∧ blockOf v k → n ≤ k
theorem freshO.mono {n m : Nat} {v : Value} {os : List Opt} (h : freshO n v os) (hm : m ≤ n) : freshO m v os := fun k hk => Nat.le_trans hm (h k hk)
theorem freshO_nil (n : Nat) (v : Value) : freshO n v [] := fun k hk => absurd rfl hk.1
theorem readsO_nil (w : World) : readsO w (.slice none 0 0) [] := ⟨by simp, none, 0, rfl, ⟨fun _ => rfl, Nat.le_refl _⟩, fun h => absurd rfl h⟩
theorem numM_one (c : UInt8) (l : List UInt8) : numM 1 (c :: l) false = ((c.toNat : Int), l, false) := by simp [numM, beN]

set_option maxRecDepth 10000 in
set_option maxHeartbeats 1000000 in
theorem c_roptions (w : World) (b : Nat) (s : List UInt8) (sh : Bool) (hs : s.length < 1099511627776) (hsh : sh = true → s = []) (hc : rdC w b s sh) : Calls Try.prog 56 #[ptrB b] w
    fun e w' => ∃ v os s' sh', e = .returned (sc1 v) ∧ readsO w' v os ∧ freshO w.heap.size v os ∧ rdC w' b s' sh' ∧ Mod [b] w w' ∧ os.length + s'.length ≤ s.length ∧
      (sh' = true ∧ (if sh then none else optsP s.length 0 s) = none ∨ sh' = false ∧ (if sh then none else optsP s.length 0 s) = some (os, s')) := by
  refine as_called (run_tree2 (ρ := [.n b, .s s, .b sh]) sxE_ok Try.func56 tree_message_reader_options rfl rfl (rel_one (b := b) hc (fun k hk => hk)) rfl rfl ?_) rfl
  generalize hT : (if sh then none else optsP s.length 0 s) = T
  simp only [Tree.goal, X.P, X.ev, V.toI_i, V.toB_b, V.toS_s, V.toR_r, V.toV_v, V.toN_n, V.toL_l, SV.ev, CV.ev, Sc.ev, List.getD_cons_zero, List.getD_cons_succ, List.getElem?_cons_zero, List.getElem?_cons_succ, List.map_cons, List.map_nil, List.length_cons, List.length_nil, List.cons_append, List.nil_append, Nat.zero_add, Nat.reduceAdd]
  refine ⟨fun vs => ∃ (v : Value) (acc : List Opt) (was : Int) (s' : List UInt8) (sh' : Bool), vs = [.v v, .r (acc.map encO), .i was, .s s', .b sh'] ∧ 0 ≤ was ∧ was ≤ 70000 * acc.length ∧ acc.length + s'.length ≤ s.length ∧
      (sh' = true ∧ T = none ∨ sh' = false ∧ ∃ f, s'.length ≤ f ∧ ahead acc (optsP f was s') = T), fun vs => (vs.getD 3 (.i 0)).toS.length, ⟨_, [], 0, s, sh, rfl, by omega, by simp, by simp, ?_⟩, ?_⟩
  · cases sh with
    | true => exact .inl ⟨rfl, hT.symm⟩
    | false => exact .inr ⟨rfl, s.length, Nat.le_refl _, by rw [ahead_nil]; exact hT⟩
  rintro _ - ⟨v, acc, was, s', sh', rfl, hw0, hw1, hal, hinv⟩
  simp only [Tree.goal, X.P, X.ev, V.toI_i, V.toB_b, V.toS_s, V.toR_r, V.toV_v, V.toN_n, V.toL_l, SV.ev, CV.ev, Sc.ev, List.getD_cons_zero, List.getD_cons_succ, List.getElem?_cons_zero, List.getElem?_cons_succ, List.map_cons, List.map_nil, List.length_cons, List.length_nil, List.cons_append, List.nil_append, Nat.zero_add, Nat.reduceAdd, List.length_map]
  refine ⟨?_, fun h => ?_, fun h => ?_⟩
  · rcases s' with _ | ⟨c, l⟩
    · exact .inl fun h => h.1 rfl
    · exact .inr (by simp only [List.length_cons]; omega)
  · obtain ⟨⟨h1, h2⟩, h3⟩ := h
    obtain ⟨hs0, f, hf, hT'⟩ := hinv.resolve_left fun h => h2 h.1
    subst hs0
    rcases s' with _ | ⟨c, l⟩
    · exact absurd rfl h1
    have hc255 : c ≠ 255 := fun h => h3 (by rw [h]; rfl)
    obtain ⟨g, rfl⟩ : ∃ g, f = g + 1 := ⟨f - 1, by simp at hf; omega⟩
    simp only [List.length_cons] at hf hal
    have hcb := u8_lt c
    intro w1 hr
    refine (c_number w1 b (c :: l) false 1 (by omega) (by simp; omega) (hr.at_ 2 rfl)).mono ?_
    rintro e w2 ⟨rfl, c1, c2⟩
    rw [numM_one] at c1
    refine ⟨[.i c.toNat, .s l, .b false], rfl, by rw [numM_one]; rfl, c2, List.forall_mem_cons.2 ⟨c1, List.forall_mem_nil _⟩, List.forall_mem_nil _, apart_nil, ?_⟩
    simp only [Tree.goal, X.P, X.ev, V.toI_i, V.toB_b, V.toS_s, V.toR_r, V.toV_v, V.toN_n, V.toL_l, SV.ev, CV.ev, Sc.ev, List.getD_cons_zero, List.getD_cons_succ, List.getElem?_cons_zero, List.getElem?_cons_succ, List.map_cons, List.map_nil, List.length_cons, List.length_nil, List.cons_append, List.nil_append, Nat.zero_add, Nat.reduceAdd]
    rw [shr4b _ hcb]
    intro w3 hr3
    refine (c_rhalf w3 b l false _ (by omega) (by omega) (hr3.at_ 2 rfl)).mono ?_
    rintro e w4 ⟨rfl, c3, c4⟩
    have b1 := halfM_bd (n := ((c.toNat / 16 : Nat) : Int)) l false (by omega)
    have l1 := halfM_len ((c.toNat / 16 : Nat) : Int) l false
    have q1 := halfM_Q (n := ((c.toNat / 16 : Nat) : Int)) (by omega) l
    generalize halfM ((c.toNat / 16 : Nat) : Int) l false = H1 at c3 b1 l1 q1 ⊢
    refine ⟨[.i H1.1, .s H1.2.1, .b H1.2.2], rfl, rfl, c4, List.forall_mem_cons.2 ⟨c3, List.forall_mem_nil _⟩, List.forall_mem_nil _, apart_nil, ?_⟩
    simp only [Tree.goal, X.P, X.ev, V.toI_i, V.toB_b, V.toS_s, V.toR_r, V.toV_v, V.toN_n, V.toL_l, SV.ev, CV.ev, Sc.ev, List.getD_cons_zero, List.getD_cons_succ, List.getElem?_cons_zero, List.getElem?_cons_succ, List.map_cons, List.map_nil, List.length_cons, List.length_nil, List.cons_append, List.nil_append, Nat.zero_add, Nat.reduceAdd]
    rw [and15b _ hcb]
    refine ⟨by omega, by omega, ?_⟩
    intro w5 hr5
    refine (c_rhalf w5 b H1.2.1 H1.2.2 _ (by omega) (by omega) (hr5.at_ 2 rfl)).mono ?_
    rintro e w6 ⟨rfl, c5, c6⟩
    have b2 := halfM_bd (n := ((c.toNat % 16 : Nat) : Int)) H1.2.1 H1.2.2 (by omega)
    have l2 := halfM_len ((c.toNat % 16 : Nat) : Int) H1.2.1 H1.2.2
    have q2 := halfM_Q (n := ((c.toNat % 16 : Nat) : Int)) (by omega) H1.2.1
    have t2 := halfM_stick ((c.toNat % 16 : Nat) : Int) H1.2.1
    generalize hH2 : halfM ((c.toNat % 16 : Nat) : Int) H1.2.1 H1.2.2 = H2 at c5 b2 l2 ⊢
    refine ⟨[.i H2.1, .s H2.2.1, .b H2.2.2], rfl, rfl, c6, List.forall_mem_cons.2 ⟨c5, List.forall_mem_nil _⟩, List.forall_mem_nil _, apart_nil, ?_⟩
    simp only [Tree.goal, X.P, X.ev, V.toI_i, V.toB_b, V.toS_s, V.toR_r, V.toV_v, V.toN_n, V.toL_l, SV.ev, CV.ev, Sc.ev, List.getD_cons_zero, List.getD_cons_succ, List.getElem?_cons_zero, List.getElem?_cons_succ, List.map_cons, List.map_nil, List.length_cons, List.length_nil, List.cons_append, List.nil_append, Nat.zero_add, Nat.reduceAdd]
    intro w7 hr7
    refine (c_take w7 b H2.2.1 H2.2.2 H2.1 (by omega) (hr7.at_ 2 rfl)).mono ?_
    rintro e w8 ⟨rfl, c7, c8⟩
    have l3 := takeM_len H2.1 H2.2.1 H2.2.2
    have t3 := takeM_stick H2.1 H2.2.1
    generalize hT4 : takeM H2.1 H2.2.1 H2.2.2 = T4 at c7 l3 ⊢
    refine ⟨[.s T4.1, .s T4.2.1, .b T4.2.2], rfl, rfl, c8, List.forall_mem_cons.2 ⟨c7, List.forall_mem_nil _⟩, List.forall_mem_nil _, apart_nil, ?_⟩
    simp only [Tree.goal, X.P, X.ev, V.toI_i, V.toB_b, V.toS_s, V.toR_r, V.toV_v, V.toN_n, V.toL_l, SV.ev, CV.ev, Sc.ev, List.getD_cons_zero, List.getD_cons_succ, List.getElem?_cons_zero, List.getElem?_cons_succ, List.map_cons, List.map_nil, List.length_cons, List.length_nil, List.cons_append, List.nil_append, Nat.zero_add, Nat.reduceAdd, List.length_map]
    intro v1
    refine ⟨by omega, fun v2 => ⟨⟨v2, acc ++ [(was + H1.1, T4.1)], was + H1.1, T4.2.1, T4.2.2, by simp [encO], by omega, by simp; omega, by simp; omega, ?_⟩, by omega⟩⟩
    have key : match stepP was c l with | none => T4.2.2 = true | some p => T4.2.2 = false ∧ (was + H1.1, T4.1) = p.1 ∧ T4.2.1 = p.2 := by
      unfold stepP
      cases hq1 : halfQ ((c.toNat / 16 : Nat) : Int) l with
      | none =>
        rw [hq1] at q1
        simp only at q1 ⊢
        rw [← hT4, ← hH2, q1, t2]; exact takeM_stick _ _
      | some p =>
        obtain ⟨more, r1⟩ := p
        rw [hq1] at q1
        simp only at q1 ⊢
        rw [q1] at hH2 q2 l1
        simp only at hH2 q2 l1
        cases hq2 : halfQ ((c.toNat % 16 : Nat) : Int) r1 with
        | none =>
          rw [hq2] at q2
          simp only at q2 ⊢
          rw [← hT4, ← hH2, q2]; exact takeM_stick _ _
        | some p =>
          obtain ⟨long, r2⟩ := p
          rw [hq2] at q2
          simp only at q2 ⊢
          rw [q2] at hH2
          rw [← hT4, ← hH2, q1]
          simp only [takeM]
          by_cases hlo : (r2.length : Int) < long
          · rw [if_pos hlo, if_pos hlo]
          · rw [if_neg hlo, if_neg hlo]
            exact ⟨rfl, rfl, rfl⟩
    cases hst : stepP was c l with
    | none =>
      rw [hst] at key
      rw [optsP_bad hc255 hst] at hT'
      exact .inl ⟨key, hT'.symm⟩
    | some p =>
      obtain ⟨o, r⟩ := p
      rw [hst] at key
      obtain ⟨k1, k2, k3⟩ := key
      simp only at k2 k3
      rw [optsP_step hc255 hst, ahead_ahead] at hT'
      have ho : was + H1.1 = o.1 := by rw [← k2]
      refine .inr ⟨k1, g, by omega, ?_⟩
      rw [k2, k3, ho, hT']
  · intro w1 hr
    have hr0 := hr.at_ 0 rfl
    have hr2 := hr.at_ 2 rfl
    refine ⟨v, acc, s', sh', rfl, owns.reads hr0, fun k hk => ?_, hr2, hr.mod, hal, ?_⟩
    · rcases hr.own _ (List.mem_cons_self ..) rfl k hk.2 with h4 | h4
      · exact h4
      · have h5 : k = b := by simpa using h4
        exact absurd h5 (fun h5 => (List.pairwise_cons.1 hr.sep).1 _ (List.mem_cons_of_mem _ (List.mem_cons_self ..)) (.inl rfl) k hk.2 (by simp only [Ent.fp, Tree.goal, X.P, X.ev, V.toI_i, V.toB_b, V.toS_s, V.toR_r, V.toV_v, V.toN_n, V.toL_l, SV.ev, CV.ev, Sc.ev, List.getD_cons_zero, List.getD_cons_succ, List.getElem?_cons_zero, List.getElem?_cons_succ, List.map_cons, List.map_nil, List.length_cons, List.length_nil, List.cons_append, List.nil_append, Nat.zero_add, Nat.reduceAdd]; exact h5))
    · rcases hinv with h4 | ⟨h4, f, hf, h5⟩
      · exact .inl h4
      · refine .inr ⟨h4, ?_⟩
        rcases s' with _ | ⟨c, l⟩
        · rw [← h5, optsP_nil]; simp [ahead]
        · have h6 : c = 255 := by
            refine Classical.byContradiction fun h7 => h ⟨⟨by simp, by simp [h4]⟩, ?_⟩
            intro h8; apply h7
            simpa using h8
          obtain ⟨g, rfl⟩ : ∃ g, f = g + 1 := ⟨f - 1, by simp at hf; omega⟩
          subst h6
          rw [← h5, optsP_mark]; simp [ahead]

/-- A message that is checked. -/
def chkd (m : Msg) : Msg × Int := if chk m = 0 then (m, 0) else (mNil, chk m)
def finM (m : Msg) : List UInt8 → Msg × Int
  | [] => chkd m
  | _ :: p => if p = [] then (mNil, 1) else chkd { m with pay := p }
/-- What bytes tell. -/
def dec (s : List UInt8) : Msg × Int :=
  if s.length < 4 then (mNil, 1) else
  if ¬ ((s.getD 0 0).toNat / 64 = 1) ∨ 8 < (s.getD 0 0).toNat % 16 ∨ s.length < 4 + (s.getD 0 0).toNat % 16 then (mNil, 1) else
  match optsP (s.drop (4 + (s.getD 0 0).toNat % 16)).length 0 (s.drop (4 + (s.getD 0 0).toNat % 16)) with
  | none => (mNil, 1)
  | some (os, r) => finM ⟨((s.getD 0 0).toNat / 16 % 4 : Nat), (s.getD 1 0).toNat, ((256 * (s.getD 2 0).toNat + (s.getD 3 0).toNat : Nat)), (s.drop 4).take ((s.getD 0 0).toNat % 16), os, []⟩ r

def gotM (w w' : World) (e : Ending) (r : Msg × Int) : Prop := ∃ v, e = .returned (.tuple #[mV r.1 (sc1 v), .int .i64 r.2]) ∧ readsO w' v r.1.opts ∧ freshO w.heap.size v r.1.opts ∧ Mod [] w w'
theorem gotM_nil {w w' : World} (n : Int) (h : Mod [] w w') : gotM w w' (.returned (.tuple #[mV mNil (.slice none 0 0), .int .i64 n])) (mNil, n) :=
  ⟨.slice none 0 0, rfl, readsO_nil w', freshO_nil _ _, h⟩

/-- The head of a message: its first byte, code, Id, token, and what follows. -/
theorem head_ok (s : List UInt8) : let r1 := numM 1 s false; let r2 := numM 1 r1.2.1 r1.2.2; let r3 := numM 2 r2.2.1 r2.2.2
    (s.length < 4 ∧ r3.2.1 = [] ∧ r3.2.2 = true ∨ 4 ≤ s.length ∧ r1.1 = (s.getD 0 0).toNat ∧ r2.1 = (s.getD 1 0).toNat ∧ r3.1 = ((256 * (s.getD 2 0).toNat + (s.getD 3 0).toNat : Nat)) ∧ r3.2.1 = s.drop 4 ∧ r3.2.2 = false) := by
  rcases s with _ | ⟨a, _ | ⟨b, _ | ⟨c, _ | ⟨d, l⟩⟩⟩⟩
  · left; simp [numM]
  · left; simp [numM]
  · left; simp [numM]
  · left; simp [numM]
  · right
    have e : ¬ (l.length + 1 + 1 < 2) := by omega
    simp [numM, beN, e]
theorem chkd_of {m : Msg} (h : chk m = 0) : chkd m = (m, 0) := if_pos h
theorem chkd_no {m : Msg} (h : ¬ chk m = 0) : chkd m = (mNil, chk m) := if_neg h
theorem dec_none {s : List UInt8} (h : 4 ≤ s.length) (h1 : (¬ ((s.getD 0 0).toNat / 64 = 1) ∨ 8 < (s.getD 0 0).toNat % 16 ∨ s.length < 4 + (s.getD 0 0).toNat % 16) ∨ optsP (s.drop (4 + (s.getD 0 0).toNat % 16)).length 0 (s.drop (4 + (s.getD 0 0).toNat % 16)) = none) : dec s = (mNil, 1) := by
  unfold dec
  rw [if_neg (by omega)]
  rcases h1 with h1 | h1
  · rw [if_pos h1]
  · split
    · rfl
    · rw [h1]
theorem dec_some {s : List UInt8} (h : 4 ≤ s.length) (h1 : ¬ (¬ ((s.getD 0 0).toNat / 64 = 1) ∨ 8 < (s.getD 0 0).toNat % 16 ∨ s.length < 4 + (s.getD 0 0).toNat % 16)) {os : List Opt} {r : List UInt8} (h2 : optsP (s.drop (4 + (s.getD 0 0).toNat % 16)).length 0 (s.drop (4 + (s.getD 0 0).toNat % 16)) = some (os, r)) :
    dec s = finM ⟨((s.getD 0 0).toNat / 16 % 4 : Nat), (s.getD 1 0).toNat, ((256 * (s.getD 2 0).toNat + (s.getD 3 0).toNat : Nat)), (s.drop 4).take ((s.getD 0 0).toNat % 16), os, []⟩ r := by
  unfold dec
  rw [if_neg (by omega), if_neg h1, h2]
theorem stepP_len {was : Int} {c : UInt8} {l : List UInt8} {o : Opt} {r : List UInt8} (h : stepP was c l = some (o, r)) : o.2.length + r.length ≤ l.length ∧ was ≤ o.1 ∧ o.1 ≤ was + 65805 := by
  have hcb := u8_lt c
  unfold stepP at h
  have p1 := halfM_Q (n := ((c.toNat / 16 : Nat) : Int)) (by omega) l
  have q1 := halfM_len ((c.toNat / 16 : Nat) : Int) l false
  have b1 := halfM_bd (n := ((c.toNat / 16 : Nat) : Int)) l false (by omega)
  cases hq1 : halfQ ((c.toNat / 16 : Nat) : Int) l with
  | none => rw [hq1] at h; cases h
  | some p =>
    rw [hq1] at h p1
    simp only at h p1
    rw [p1] at q1 b1
    have p2 := halfM_Q (n := ((c.toNat % 16 : Nat) : Int)) (by omega) p.2
    have q2 := halfM_len ((c.toNat % 16 : Nat) : Int) p.2 false
    cases hq2 : halfQ ((c.toNat % 16 : Nat) : Int) p.2 with
    | none => rw [hq2] at h; cases h
    | some q =>
      rw [hq2] at h p2
      simp only at h p2
      rw [p2] at q2
      split at h
      · cases h
      · simp only [Option.some.injEq, Prod.mk.injEq] at h
        obtain ⟨rfl, rfl⟩ := h
        simp only [List.length_take, List.length_drop] at *
        omega
theorem optsP_len : ∀ (f : Nat) (was : Int) (s : List UInt8) (os : List Opt) (r : List UInt8), optsP f was s = some (os, r) → os.length + r.length ≤ s.length := by
  intro f
  induction f with
  | zero =>
    intro was s os r h
    unfold optsP at h
    split at h
    · simp at h; obtain ⟨rfl, rfl⟩ := h; simp
    · cases h
  | succ f ih =>
    intro was s os r h
    rcases s with _ | ⟨c, l⟩
    · rw [optsP_nil] at h; simp at h; obtain ⟨rfl, rfl⟩ := h; simp
    · by_cases hc : c = 255
      · subst hc; rw [optsP_mark] at h; simp at h; obtain ⟨rfl, rfl⟩ := h; simp
      · cases hst : stepP was c l with
        | none => rw [optsP_bad hc hst] at h; cases h
        | some p =>
          obtain ⟨o, r1⟩ := p
          rw [optsP_step hc hst] at h
          cases h3 : optsP f o.1 r1 with
          | none => rw [h3] at h; cases h
          | some q =>
            rw [h3] at h
            simp only [ahead, Option.some.injEq, Prod.mk.injEq] at h
            obtain ⟨rfl, rfl⟩ := h
            have := ih o.1 r1 q.1 q.2 h3
            have := stepP_len hst
            simp only [List.length_append, List.length_cons, List.length_nil]
            omega
end Go.Proofs.Ytpcdkcbniokdgaa
