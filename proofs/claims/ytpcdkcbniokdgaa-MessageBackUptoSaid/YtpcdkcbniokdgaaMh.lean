/-
  The law MessageBack: what is encoded is decoded as it was, and nothing else is; walked. By an AI agent.
-/
import Derived.Test.YtpcdkcbniokdgaaMg
import Derived.Test.YtpcdkcbniokdgaaWh
set_option linter.unusedSimpArgs false
set_option linter.unusedVariables false
namespace Go.Proofs.Ytpcdkcbniokdgaa
open Go.Sx

theorem numB1 (n : Nat) (h : n < 256) : numB 1 (n : Int) = [UInt8.ofNat n] := by
  rw [numB_nat]; simp [pw, Nat.mod_eq_of_lt h]
theorem numB1_of (c : UInt8) : numB 1 (c.toNat : Int) = [c] := by rw [numB1 _ (u8_lt c)]; simp
theorem numB2_of (c d : UInt8) : numB 2 ((256 * c.toNat + d.toNat : Nat) : Int) = [c, d] := by
  have hc := u8_lt c
  have hd := u8_lt d
  rw [numB_succ, show (256 * c.toNat + d.toNat) / 256 = c.toNat by omega, show (256 * c.toNat + d.toNat) % 256 = d.toNat by omega, numB1_of]
  simp
theorem beN1 (c : UInt8) (l : List UInt8) : beN ((c :: l).take 1) 0 = c.toNat := by simp [beN]
theorem beN2 (c d : UInt8) (l : List UInt8) : beN ((c :: d :: l).take 2) 0 = 256 * c.toNat + d.toNat := by simp [beN]

theorem halfQ_to (n : Int) (h : 0 ≤ n ∧ n ≤ 65804) (r : List UInt8) : halfQ (halfP n).1 ((halfP n).2 ++ r) = some (n, r) := by
  unfold halfP
  by_cases h1 : 269 ≤ n
  · rw [if_pos h1]
    simp only [halfQ]
    obtain ⟨k, hk⟩ : ∃ k : Nat, n - 269 = k := ⟨(n - 269).toNat, by omega⟩
    rw [if_neg (by omega), if_neg (by omega), if_pos trivial, if_neg (by simp [numB_len]), hk]
    have e1 : List.take 2 (numB 2 (k : Int) ++ r) = numB 2 k := by rw [List.take_append_of_le_length (by rw [numB_len]; omega), List.take_of_length_le (by rw [numB_len]; omega)]
    have e2 : List.drop 2 (numB 2 (k : Int) ++ r) = r := by rw [List.drop_append_of_le_length (by rw [numB_len]; omega), List.drop_of_length_le (by rw [numB_len]; omega)]; rfl
    rw [e1, e2, beN_numB 2 k (by show k < 65536; omega)]
    simp; omega
  · rw [if_neg h1]
    by_cases h2 : 13 ≤ n
    · rw [if_pos h2]
      simp only [halfQ]
      obtain ⟨k, hk⟩ : ∃ k : Nat, n - 13 = k := ⟨(n - 13).toNat, by omega⟩
      rw [if_neg (by omega), if_neg (by omega), if_neg (by omega), if_neg (by simp [numB_len]), hk]
      have e1 : List.take 1 (numB 1 (k : Int) ++ r) = numB 1 k := by rw [List.take_append_of_le_length (by rw [numB_len]; omega), List.take_of_length_le (by rw [numB_len]; omega)]
      have e2 : List.drop 1 (numB 1 (k : Int) ++ r) = r := by rw [List.drop_append_of_le_length (by rw [numB_len]; omega), List.drop_of_length_le (by rw [numB_len]; omega)]; rfl
      rw [e1, e2, beN_numB 1 k (by show k < 256; omega)]
      simp; omega
    · rw [if_neg h2]
      simp only [halfQ]
      rw [if_pos (by omega)]; rfl
theorem halfQ_from {a : Nat} (ha : a ≤ 15) {l l1 : List UInt8} {n : Int} (h : halfQ (a : Int) l = some (n, l1)) : (0 ≤ n ∧ n ≤ 65804) ∧ halfP n = ((a : Int), (halfP n).2) ∧ l = (halfP n).2 ++ l1 := by
  unfold halfQ at h
  split at h
  · simp only [Option.some.injEq, Prod.mk.injEq] at h
    obtain ⟨rfl, rfl⟩ := h
    unfold halfP
    rw [if_neg (by omega), if_neg (by omega)]
    exact ⟨by omega, rfl, rfl⟩
  · split at h
    · cases h
    · split at h
      · split at h
        · cases h
        · rename_i h1 h2 h3 h4
          rcases l with _ | ⟨c, _ | ⟨d, l⟩⟩
          · simp at h4
          · simp at h4
          · rw [beN2] at h
            simp only [Option.some.injEq, Prod.mk.injEq, List.drop_succ_cons, List.drop_zero] at h
            obtain ⟨rfl, rfl⟩ := h
            have hc := u8_lt c
            have hd := u8_lt d
            have e : (269 + ((256 * c.toNat + d.toNat : Nat) : Int)) - 269 = ((256 * c.toNat + d.toNat : Nat) : Int) := by omega
            unfold halfP
            rw [if_pos (by omega), e, numB2_of]
            exact ⟨by omega, by rw [h3], rfl⟩
      · split at h
        · cases h
        · rename_i h1 h2 h3 h4
          rcases l with _ | ⟨c, l⟩
          · simp at h4
          · rw [beN1] at h
            simp only [Option.some.injEq, Prod.mk.injEq, List.drop_succ_cons, List.drop_zero] at h
            obtain ⟨rfl, rfl⟩ := h
            have hc := u8_lt c
            have e : (13 + ((c.toNat : Nat) : Int)) - 13 = ((c.toNat : Nat) : Int) := by omega
            unfold halfP
            rw [if_neg (by omega), if_pos (by omega), e, numB1_of]
            exact ⟨by omega, by rw [show (a : Int) = 13 by omega], rfl⟩

theorem stepP_to {was : Int} {o : Opt} (r : List UInt8) (h : was ≤ o.1) (h1 : 0 ≤ was ∧ o.1 ≤ 65535) (h2 : o.2.length ≤ 60) : ∃ c l, optB was o ++ r = c :: l ∧ c ≠ 255 ∧ stepP was c l = some (o, r) := by
  have b1 := halfP_bd (n := o.1 - was) (by omega)
  have b2 := halfP_bd (n := (o.2.length : Int)) (by omega)
  obtain ⟨x, hx⟩ : ∃ x : Nat, (halfP (o.1 - was)).1 = x := ⟨(halfP (o.1 - was)).1.toNat, by omega⟩
  obtain ⟨y, hy⟩ : ∃ y : Nat, (halfP o.2.length).1 = y := ⟨(halfP o.2.length).1.toNat, by omega⟩
  have q1 := halfQ_to (o.1 - was) (by omega) ((halfP o.2.length).2 ++ (o.2 ++ r))
  have q2 := halfQ_to (o.2.length : Int) (by omega) (o.2 ++ r)
  rw [hx] at q1 b1
  rw [hy] at q2 b2
  have hz : 16 * x + y < 256 := by omega
  have hn : (UInt8.ofNat (16 * x + y)).toNat = 16 * x + y := by simp; omega
  refine ⟨UInt8.ofNat (16 * x + y), (halfP (o.1 - was)).2 ++ ((halfP o.2.length).2 ++ (o.2 ++ r)), ?_, ?_, ?_⟩
  · unfold optB
    rw [hx, hy, show (16 * (x : Int) + (y : Int)) = ((16 * x + y : Nat) : Int) by omega, numB1 _ hz]
    simp
  · intro h5
    have := congrArg UInt8.toNat h5
    rw [hn] at this
    have h255 : (255 : UInt8).toNat = 255 := rfl
    omega
  · rw [stepP_s (m := o.1 - was) (l1 := (halfP o.2.length).2 ++ (o.2 ++ r)) (n := o.2.length) (l2 := o.2 ++ r)]
    · simp only [Int.toNat_natCast, List.take_left, List.drop_left]
      have : was + (o.1 - was) = o.1 := by omega
      rw [this]
    · rw [hn, show (16 * x + y) / 16 = x by omega]; exact q1
    · rw [hn, show (16 * x + y) % 16 = y by omega]; exact q2
    · simp only [List.length_append]; omega
theorem stepP_from {was : Int} {c : UInt8} {l : List UInt8} {o : Opt} {r : List UInt8} (h : stepP was c l = some (o, r)) : c :: l = optB was o ++ r := by
  have uc := u8_lt c
  unfold stepP at h
  cases hq1 : halfQ ((c.toNat / 16 : Nat) : Int) l with
  | none => rw [hq1] at h; cases h
  | some p =>
    obtain ⟨m, l1⟩ := p
    rw [hq1] at h
    simp only at h
    cases hq2 : halfQ ((c.toNat % 16 : Nat) : Int) l1 with
    | none => rw [hq2] at h; cases h
    | some q =>
      obtain ⟨n, l2⟩ := q
      rw [hq2] at h
      simp only at h
      split at h
      · cases h
      · simp only [Option.some.injEq, Prod.mk.injEq] at h
        obtain ⟨rfl, rfl⟩ := h
        obtain ⟨a1, a2, a3⟩ := halfQ_from (by omega) hq1
        obtain ⟨b1, b2, b3⟩ := halfQ_from (by omega) hq2
        unfold optB
        simp only
        have e1 : was + m - was = m := by omega
        have e2 : ((List.take n.toNat l2).length : Int) = n := by rw [List.length_take]; omega
        rw [e1, e2, a2, b2]
        simp only
        have e3 : 16 * ((c.toNat / 16 : Nat) : Int) + ((c.toNat % 16 : Nat) : Int) = (c.toNat : Int) := by omega
        rw [e3, numB1_of, a3, b3]
        simp
/-- What follows options: nothing, or a mark. -/
def markL (r : List UInt8) : Prop := r = [] ∨ ∃ p, r = 255 :: p
theorem optsP_to : ∀ (os : List Opt) (f : Nat) (was : Int) (r : List UInt8), 0 ≤ was → optE was os = 0 → markL r → (optsB was os ++ r).length ≤ f → optsP f was (optsB was os ++ r) = some (os, r)
  | [], f, was, r, h0, h, hr, hf => by
    rcases hr with rfl | ⟨p, rfl⟩
    · exact optsP_nil _ _
    · obtain ⟨g, rfl⟩ : ∃ g, f = g + 1 := ⟨f - 1, by simp [optsB] at hf; omega⟩
      exact optsP_mark _ _ _
  | o :: os, f, was, r, h0, h, hr, hf => by
    obtain ⟨g1, g2, g3, g4⟩ := optE_cons.1 h
    obtain ⟨c, l, e, hc, hst⟩ := stepP_to (optsB o.1 os ++ r) g2 (by omega) g3
    have e2 : optsB was (o :: os) ++ r = c :: l := by rw [optsB, List.append_assoc, e]
    rw [e2] at hf ⊢
    obtain ⟨g, rfl⟩ : ∃ g, f = g + 1 := ⟨f - 1, by simp at hf; omega⟩
    have hl := (stepP_len hst).1
    rw [optsP_step hc hst, optsP_to os g o.1 r (by omega) g4 hr (by simp only [List.length_cons] at hf; omega)]
    rfl
theorem optsP_from : ∀ (f : Nat) (was : Int) (s : List UInt8) (os : List Opt) (r : List UInt8), optsP f was s = some (os, r) → s = optsB was os ++ r ∧ markL r := by
  intro f
  induction f with
  | zero =>
    intro was s os r h
    unfold optsP at h
    split at h
    · rename_i hs
      simp at h; obtain ⟨rfl, rfl⟩ := h; exact ⟨hs, .inl rfl⟩
    · cases h
  | succ f ih =>
    intro was s os r h
    rcases s with _ | ⟨c, l⟩
    · rw [optsP_nil] at h; simp at h; obtain ⟨rfl, rfl⟩ := h; exact ⟨rfl, .inl rfl⟩
    · by_cases hc : c = 255
      · subst hc; rw [optsP_mark] at h; simp at h; obtain ⟨rfl, rfl⟩ := h; exact ⟨rfl, .inr ⟨l, rfl⟩⟩
      · cases hst : stepP was c l with
        | none => rw [optsP_bad hc hst] at h; cases h
        | some p =>
          obtain ⟨o, r1⟩ := p
          rw [optsP_step hc hst] at h
          cases h3 : optsP f o.1 r1 with
          | none => rw [h3] at h; cases h
          | some q =>
            rw [h3] at h
            simp only [ahead, Option.some.injEq, Prod.mk.injEq] at h
            obtain ⟨rfl, rfl⟩ := h
            obtain ⟨e1, e2⟩ := ih o.1 r1 q.1 q.2 h3
            refine ⟨?_, e2⟩
            rw [stepP_from hst, List.cons_append, List.nil_append, optsB, List.append_assoc, ← e1]

theorem dec_enc {m : Msg} (h : chk m = 0) : dec (msgB m) = (m, 0) := by
  obtain ⟨hk, hr, hl, ho, hz⟩ := chk_ok.1 h
  obtain ⟨kind, code, id, tok, opts, pay⟩ := m
  simp only at hk hr hl ho hz
  obtain ⟨k, rfl⟩ : ∃ k : Nat, kind = k := ⟨kind.toNat, by omega⟩
  obtain ⟨c, rfl⟩ : ∃ k : Nat, code = k := ⟨code.toNat, by omega⟩
  obtain ⟨j, rfl⟩ : ∃ k : Nat, id = k := ⟨id.toNat, by omega⟩
  have e0 : (64 + 16 * (k : Int) + (tok.length : Int)) = ((64 + 16 * k + tok.length : Nat) : Int) := by omega
  have hb : (UInt8.ofNat (64 + 16 * k + tok.length)).toNat = 64 + 16 * k + tok.length := by simp; omega
  obtain ⟨tail, htail⟩ : ∃ t, t = (if pay = [] then [] else 255 :: pay) := ⟨_, rfl⟩
  have e1 : msgB ⟨k, c, j, tok, opts, pay⟩ = UInt8.ofNat (64 + 16 * k + tok.length) :: UInt8.ofNat c :: UInt8.ofNat (j / 256) :: UInt8.ofNat (j % 256) :: (tok ++ (optsB 0 opts ++ tail)) := by
    unfold msgB
    simp only
    rw [e0, numB1 _ (by omega), numB1 _ (by omega), numB_succ, numB1 _ (by omega), htail]
    simp
  have hm : markL tail := by
    rw [htail]; split
    · exact .inl rfl
    · exact .inr ⟨pay, rfl⟩
  rw [e1]
  have d0 : ∀ a b c d : UInt8, ∀ l : List UInt8, (a :: b :: c :: d :: l).getD 0 0 = a := fun _ _ _ _ _ => rfl
  have d1 : ∀ a b c d : UInt8, ∀ l : List UInt8, (a :: b :: c :: d :: l).getD 1 0 = b := fun _ _ _ _ _ => rfl
  have d2 : ∀ a b c d : UInt8, ∀ l : List UInt8, (a :: b :: c :: d :: l).getD 2 0 = c := fun _ _ _ _ _ => rfl
  have d3 : ∀ a b c d : UInt8, ∀ l : List UInt8, (a :: b :: c :: d :: l).getD 3 0 = d := fun _ _ _ _ _ => rfl
  have d4 : ∀ a b c d : UInt8, ∀ l : List UInt8, ∀ n : Nat, (a :: b :: c :: d :: l).drop (4 + n) = l.drop n := fun _ _ _ _ _ n => by rw [Nat.add_comm]; rfl
  have hx16 : (64 + 16 * k + tok.length) % 16 = tok.length := by omega
  rw [dec_some (os := opts) (r := tail)]
  · simp only [d0, d1, d2, d3, hb, hx16]
    have f1 : ((64 + 16 * k + tok.length) / 16 % 4) = k := by omega
    have f2 : (UInt8.ofNat c).toNat = c := by simp; omega
    have f3 : 256 * (UInt8.ofNat (j / 256)).toNat + (UInt8.ofNat (j % 256)).toNat = j := by simp; omega
    have f4 : List.take tok.length (List.drop 4 (UInt8.ofNat (64 + 16 * k + tok.length) :: UInt8.ofNat c :: UInt8.ofNat (j / 256) :: UInt8.ofNat (j % 256) :: (tok ++ (optsB 0 opts ++ tail)))) = tok := by
      simp
    rw [f1, f2, f3, f4, htail]
    by_cases hp : pay = []
    · subst hp
      rw [if_pos rfl]
      exact chkd_of h
    · rw [if_neg hp]
      simp only [finM]
      rw [if_neg hp]
      exact chkd_of h
  · simp
  · rw [d0, hb]
    simp only [List.length_cons, List.length_append]
    omega
  · rw [d0, hb, hx16, d4, List.drop_left]
    exact optsP_to opts _ 0 tail (by omega) ho hm (Nat.le_refl _)

theorem enc_dec {s : List UInt8} (h : (dec s).2 = 0) : msgB (dec s).1 = s := by
  by_cases h4 : s.length < 4
  · have : dec s = (mNil, 1) := by rw [dec, if_pos h4]
    rw [this] at h; exact absurd h (by decide)
  by_cases h1 : (¬ ((s.getD 0 0).toNat / 64 = 1) ∨ 8 < (s.getD 0 0).toNat % 16 ∨ s.length < 4 + (s.getD 0 0).toNat % 16)
  · rw [dec_none (by omega) (.inl h1)] at h; exact absurd h (by decide)
  cases hT : optsP (s.drop (4 + (s.getD 0 0).toNat % 16)).length 0 (s.drop (4 + (s.getD 0 0).toNat % 16)) with
  | none => rw [dec_none (by omega) (.inr hT)] at h; exact absurd h (by decide)
  | some q =>
    obtain ⟨os, r⟩ := q
    have hd := dec_some (by omega) h1 hT
    obtain ⟨e1, e2⟩ := optsP_from _ _ _ _ _ hT
    rw [hd] at h ⊢
    rcases s with _ | ⟨a, _ | ⟨b, _ | ⟨c, _ | ⟨d, l⟩⟩⟩⟩
    · simp at h4
    · simp at h4
    · simp at h4
    · simp at h4
    have d0 : (a :: b :: c :: d :: l).getD 0 0 = a := rfl
    have d1 : (a :: b :: c :: d :: l).getD 1 0 = b := rfl
    have d2 : (a :: b :: c :: d :: l).getD 2 0 = c := rfl
    have d3 : (a :: b :: c :: d :: l).getD 3 0 = d := rfl
    have d4 : ∀ n : Nat, (a :: b :: c :: d :: l).drop (4 + n) = l.drop n := fun n => by rw [Nat.add_comm]; rfl
    have d5 : (a :: b :: c :: d :: l).drop 4 = l := rfl
    simp only [d0, d1, d2, d3, d5] at h h1 ⊢
    rw [d0, d4] at e1
    have ua := u8_lt a
    have hlen : (List.take (a.toNat % 16) l).length = a.toNat % 16 := by rw [List.length_take]; simp only [List.length_cons] at h1; omega
    have key : ∀ pay tail : List UInt8, r = tail → (if pay = [] then [] else 255 :: pay) = tail → msgB ⟨((a.toNat / 16 % 4 : Nat) : Int), (b.toNat : Int), ((256 * c.toNat + d.toNat : Nat) : Int), List.take (a.toNat % 16) l, os, pay⟩ = a :: b :: c :: d :: l := by
      intro pay tail hr hp
      unfold msgB
      simp only
      rw [hlen, hp, ← hr, numB1_of, numB2_of]
      have e3 : (64 + 16 * ((a.toNat / 16 % 4 : Nat) : Int) + ((a.toNat % 16 : Nat) : Int)) = (a.toNat : Int) := by omega
      rw [e3, numB1_of]
      have e4 : List.take (a.toNat % 16) l ++ (optsB 0 os ++ r) = l := by rw [← e1, List.take_append_drop]
      simp only [List.cons_append, List.nil_append, List.append_assoc]
      rw [e4]
    have hc : ∀ m : Msg, (chkd m).2 = 0 → (chkd m).1 = m := fun m h5 => by
      unfold chkd at h5 ⊢
      split at h5
      · rw [if_pos (by assumption)]
      · contradiction
    rcases e2 with rfl | ⟨p, rfl⟩
    · simp only [finM] at h ⊢
      rw [hc _ h]
      exact key [] [] rfl rfl
    · simp only [finM] at h ⊢
      by_cases hp : p = []
      · rw [if_pos hp] at h; exact absurd h (by decide)
      · rw [if_neg hp] at h ⊢
        rw [hc _ h]
        exact key p (255 :: p) rfl (if_neg hp)
theorem encR_dec {s : List UInt8} (h : (dec s).2 = 0) : encR (dec s).1 = (s, 0) := by
  rcases dec_chk s with h1 | h1
  · rw [encR, if_pos h1.2, enc_dec h]
  · exact absurd h h1.1
theorem msgB_len {m : Msg} (h : chk m = 0) : (msgB m).length < 1099511627776 := by
  obtain ⟨hk, hr, hl, ho, hz⟩ := chk_ok.1 h
  have ob : ∀ (os : List Opt) (was : Int), optE was os = 0 → (optsB was os).length ≤ 65 * os.length := by
    intro os
    induction os with
    | nil => intro was h; simp [optsB]
    | cons o os ih =>
      intro was h
      obtain ⟨g1, g2, g3, g4⟩ := optE_cons.1 h
      have := ih o.1 g4
      have := optB_len g2 g3
      simp only [optsB, List.length_append, List.length_cons]
      omega
  have h1 := ob _ _ ho
  unfold msgB
  simp only [List.length_append, numB_len]
  split <;> simp <;> omega

set_option maxRecDepth 10000 in
set_option maxHeartbeats 1000000 in
theorem c_MessageBack (w : World) (m : Msg) (v : Value) (s : List UInt8) (hv : readsO w v m.opts) (hl : m.opts.length < 1099511627776) (ht : m.tok.length < 1099511627776) (hp : m.pay.length < 1099511627776) (hs : s.length < 1099511627776) :
    Calls Try.prog 10 #[mV m (sc1 v), .string ⟨s.toArray⟩] w fun e w' => e = .returned (.bool true) ∧ Mod [] w w' := by
  refine as_called (run_tree2 (ρ := [.i m.kind, .i m.code, .i m.id, .s m.tok, .v v, .r (m.opts.map encO), .s m.pay, .s s]) sxE_ok Try.func10 tree_dragomanlaw_MessageBack rfl rfl (Rel.start2 (by simp [Ent.holds, Ent.wr, hv, X.ev])) rfl rfl ?_) rfl
  simp only [Tree.goal, X.P, X.ev, V.toI_i, V.toB_b, V.toS_s, V.toR_r, V.toV_v, V.toN_n, V.toL_l, SV.ev, CV.ev, Sc.ev, List.getD_cons_zero, List.getD_cons_succ, List.getElem?_cons_zero, List.getElem?_cons_succ, List.map_cons, List.map_nil, List.length_cons, List.length_nil, List.cons_append, List.nil_append, Nat.zero_add, Nat.reduceAdd]
  intro b
  refine ⟨[.b true], rfl, fun _ w' _ => c_messageBegun w', ?_⟩
  simp only [Tree.goal, X.P, X.ev, V.toI_i, V.toB_b, V.toS_s, V.toR_r, V.toV_v, V.toN_n, V.toL_l, SV.ev, CV.ev, Sc.ev, List.getD_cons_zero, List.getD_cons_succ, List.getElem?_cons_zero, List.getElem?_cons_succ, List.map_cons, List.map_nil, List.length_cons, List.length_nil, List.cons_append, List.nil_append, Nat.zero_add, Nat.reduceAdd]
  refine ⟨fun h => absurd trivial h, fun _ => ?_⟩
  refine ⟨[.s (encR m).1, .i (encR m).2], rfl, fun _ w' hr => c_Encode w' m v (hr.at_ 1 rfl) hl ht hp, ?_⟩
  simp only [Tree.goal, X.P, X.ev, V.toI_i, V.toB_b, V.toS_s, V.toR_r, V.toV_v, V.toN_n, V.toL_l, SV.ev, CV.ev, Sc.ev, List.getD_cons_zero, List.getD_cons_succ, List.getElem?_cons_zero, List.getElem?_cons_succ, List.map_cons, List.map_nil, List.length_cons, List.length_nil, List.cons_append, List.nil_append, Nat.zero_add, Nat.reduceAdd]
  by_cases hc : chk m = 0
  · have e0 : encR m = (msgB m, 0) := by rw [encR, if_pos hc]
    rw [e0]
    simp only
    refine ⟨fun _ => ?_, fun h => absurd trivial h⟩
    intro w3 hr3
    refine (c_Decode w3 (msgB m) (msgB_len hc)).mono ?_
    rintro e w4 ⟨v2, rfl, r1, f1, m1⟩
    refine ⟨decV (msgB m) v2, rfl, rfl, m1, List.forall_mem_nil _, List.forall_mem_cons.2 ⟨⟨r1, fun k hk => .inl (f1 k hk)⟩, List.forall_mem_nil _⟩, apart_one, ?_⟩
    simp only [Tree.goal, X.P, X.ev, V.toI_i, V.toB_b, V.toS_s, V.toR_r, V.toV_v, V.toN_n, V.toL_l, SV.ev, CV.ev, Sc.ev, List.getD_cons_zero, List.getD_cons_succ, List.getElem?_cons_zero, List.getElem?_cons_succ, List.map_cons, List.map_nil, List.length_cons, List.length_nil, List.cons_append, List.nil_append, Nat.zero_add, Nat.reduceAdd, decV]
    intro b1
    refine ⟨[.b true], rfl, fun _ w' hr => ?_, ?_⟩
    · have := c_SameMessage w' (dec (msgB m)).1 m v2 v (hr.at_ 1 rfl) (hr.at_ 3 rfl) (by have := dec_len (msgB m); omega)
      rw [dec_enc hc, same_self] at this
      rw [dec_enc hc]
      exact this
    simp only [Tree.goal, X.P, X.ev, V.toI_i, V.toB_b, V.toS_s, V.toR_r, V.toV_v, V.toN_n, V.toL_l, SV.ev, CV.ev, Sc.ev, List.getD_cons_zero, List.getD_cons_succ, List.getElem?_cons_zero, List.getElem?_cons_succ, List.map_cons, List.map_nil, List.length_cons, List.length_nil, List.cons_append, List.nil_append, Nat.zero_add, Nat.reduceAdd, dec_enc hc]
    refine ⟨fun h => ?_, fun _ => ?_⟩
    · rcases h with h | h
      · exact absurd trivial h
      · exact absurd trivial h
    intro w5 hr5; refine (c_Decode w5 s hs).mono ?_; rintro e w6 ⟨v6, rfl, r1, f1, m1⟩; refine ⟨decV s v6, rfl, rfl, m1, List.forall_mem_nil _, List.forall_mem_cons.2 ⟨⟨r1, fun k hk => .inl (f1 k hk)⟩, List.forall_mem_nil _⟩, apart_one, ?_⟩; simp only [Tree.goal, X.P, X.ev, V.toI_i, V.toB_b, V.toS_s, V.toR_r, V.toV_v, V.toN_n, V.toL_l, SV.ev, CV.ev, Sc.ev, List.getD_cons_zero, List.getD_cons_succ, List.getElem?_cons_zero, List.getElem?_cons_succ, List.map_cons, List.map_nil, List.length_cons, List.length_nil, List.cons_append, List.nil_append, Nat.zero_add, Nat.reduceAdd, decV]; intro b2; refine ⟨fun h7 w' hr => ⟨?_, hr.mod⟩, fun h7 => ?_⟩; (· rcases dec_chk s with h8 | h8; (· exact absurd h8.1 h7); (· rw [h8.2]; rfl)); (have h7 := Classical.not_not.1 h7); refine ⟨[.s (encR (dec s).1).1, .i (encR (dec s).1).2], rfl, fun _ w' hr => c_Encode w' (dec s).1 v6 (hr.at_ 1 rfl) (by have := dec_len s; omega) (by have := dec_len s; omega) (by have := dec_len s; omega), ?_⟩; simp only [Tree.goal, X.P, X.ev, V.toI_i, V.toB_b, V.toS_s, V.toR_r, V.toV_v, V.toN_n, V.toL_l, SV.ev, CV.ev, Sc.ev, List.getD_cons_zero, List.getD_cons_succ, List.getElem?_cons_zero, List.getElem?_cons_succ, List.map_cons, List.map_nil, List.length_cons, List.length_nil, List.cons_append, List.nil_append, Nat.zero_add, Nat.reduceAdd, encR_dec h7]; exact fun w' hr => ⟨by simp, hr.mod⟩
  · have e0 : encR m = ([], chk m) := by rw [encR, if_neg hc]
    rw [e0]
    simp only
    refine ⟨fun h => absurd h hc, fun _ => ?_⟩
    intro w5 hr5; refine (c_Decode w5 s hs).mono ?_; rintro e w6 ⟨v6, rfl, r1, f1, m1⟩; refine ⟨decV s v6, rfl, rfl, m1, List.forall_mem_nil _, List.forall_mem_cons.2 ⟨⟨r1, fun k hk => .inl (f1 k hk)⟩, List.forall_mem_nil _⟩, apart_one, ?_⟩; simp only [Tree.goal, X.P, X.ev, V.toI_i, V.toB_b, V.toS_s, V.toR_r, V.toV_v, V.toN_n, V.toL_l, SV.ev, CV.ev, Sc.ev, List.getD_cons_zero, List.getD_cons_succ, List.getElem?_cons_zero, List.getElem?_cons_succ, List.map_cons, List.map_nil, List.length_cons, List.length_nil, List.cons_append, List.nil_append, Nat.zero_add, Nat.reduceAdd, decV]; intro b2; refine ⟨fun h7 w' hr => ⟨?_, hr.mod⟩, fun h7 => ?_⟩; (· rcases dec_chk s with h8 | h8; (· exact absurd h8.1 h7); (· rw [h8.2]; rfl)); (have h7 := Classical.not_not.1 h7); refine ⟨[.s (encR (dec s).1).1, .i (encR (dec s).1).2], rfl, fun _ w' hr => c_Encode w' (dec s).1 v6 (hr.at_ 1 rfl) (by have := dec_len s; omega) (by have := dec_len s; omega) (by have := dec_len s; omega), ?_⟩; simp only [Tree.goal, X.P, X.ev, V.toI_i, V.toB_b, V.toS_s, V.toR_r, V.toV_v, V.toN_n, V.toL_l, SV.ev, CV.ev, Sc.ev, List.getD_cons_zero, List.getD_cons_succ, List.getElem?_cons_zero, List.getElem?_cons_succ, List.map_cons, List.map_nil, List.length_cons, List.length_nil, List.cons_append, List.nil_append, Nat.zero_add, Nat.reduceAdd, encR_dec h7]; exact fun w' hr => ⟨by simp, hr.mod⟩
end Go.Proofs.Ytpcdkcbniokdgaa
