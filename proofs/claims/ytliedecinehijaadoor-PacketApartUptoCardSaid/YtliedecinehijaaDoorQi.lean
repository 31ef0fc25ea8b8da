/-
  Packets: what is read of bytes has bounds; in plain terms. By an AI agent.
-/
import Derived.Test.YtliedecinehijaaDoorQh
set_option linter.unusedSimpArgs false
set_option linter.unusedVariables false
namespace Go.Proofs.YtliedecinehijaaDoor
open Go.Sx

theorem rdN_bd (s : List UInt8) (k a : Nat) (b : Bool) (ha : a ≤ s.length) : 0 ≤ (rdN s k a b).1 ∧ (rdN s k a b).1 < pw k ∧ a ≤ (rdN s k a b).2.1 ∧ (rdN s k a b).2.1 ≤ s.length ∧
    (b = true → (rdN s k a b).2.2 = true) ∧ ((rdN s k a b).2.2 = false → b = false ∧ (rdN s k a b).2.1 = a + k) := by
  have hp := pw_pos k
  unfold rdN
  split
  · have := beN_lt ((s.drop a).take k) 0
    have e : ((s.drop a).take k).length = k := by simp; omega
    rw [e] at this
    refine ⟨by simp only; omega, by simp only; omega, by simp only; omega, by simp only; omega, fun h => h, fun h => ⟨h, rfl⟩⟩
  · exact ⟨by simp only; omega, by simp only; omega, ha, Nat.le_refl _, fun _ => rfl, fun h => by cases h⟩
theorem rdT_bd (s : List UInt8) (a : Nat) (b : Bool) (ha : a ≤ s.length) : a ≤ (rdT s a b).2.1 ∧ (rdT s a b).2.1 ≤ s.length ∧ (rdT s a b).1.length ≤ (rdT s a b).2.1 - a ∧
    (b = true → (rdT s a b).2.2 = true) ∧ ((rdT s a b).2.2 = false → b = false ∧ (rdT s a b).2.1 = a + 2 + (rdT s a b).1.length) := by
  unfold rdT
  split
  · refine ⟨by simp only; omega, by simp only; omega, by simp; omega, fun h => h, fun h => ⟨h, by simp; omega⟩⟩
  · exact ⟨Nat.le_refl _, ha, by simp, fun _ => rfl, fun h => by cases h⟩
theorem rdA_bd (s : List UInt8) (k : Int) (a : Nat) (b : Bool) (ha : a ≤ s.length) : a ≤ (rdA s k a b).2.1 ∧ (rdA s k a b).2.1 ≤ s.length ∧ (rdA s k a b).1.1.length ≤ s.length ∧ 0 ≤ (rdA s k a b).1.2 ∧ (rdA s k a b).1.2 < 256 ∧
    (askB k (rdA s k a b).1).length + a ≤ (rdA s k a b).2.1 + 3 ∧ ((rdA s k a b).2.2 = false → b = false ∧ (askB k (rdA s k a b).1).length + a = (rdA s k a b).2.1 ∧ a + 2 ≤ (rdA s k a b).2.1) := by
  obtain ⟨t1, t2, t3, t4, t5⟩ := rdT_bd s a b ha
  by_cases hk : k = 8
  · obtain ⟨n1, n2, n3, n4, n5, n6⟩ := rdN_bd s 1 (rdT s a b).2.1 (rdT s a b).2.2 t2
    have n2 : (rdN s 1 (rdT s a b).2.1 (rdT s a b).2.2).1 < 256 := n2
    have hl : ∀ (x : List UInt8) (n : Int), (askB k (x, n)).length = x.length + 3 := fun x n => by simp [askB, hk, txtB_len, numB_len]
    rw [rdA, if_pos hk]
    simp only [hl]
    refine ⟨by omega, n4, by omega, n1, n2, ?_, fun h => ?_⟩
    · by_cases hs : (rdT s a b).2.2 = true
      · omega
      · have := t5 (by simpa using hs); omega
    · obtain ⟨h1, h2⟩ := n6 h
      obtain ⟨h3, h4⟩ := t5 h1
      exact ⟨h3, by omega, by omega⟩
  · have hl : ∀ (x : List UInt8) (n : Int), (askB k (x, n)).length = x.length + 2 := fun x n => by simp [askB, hk, txtB_len]
    rw [rdA, if_neg hk]
    simp only [hl]
    refine ⟨t1, t2, by omega, by omega, by omega, by omega, fun h => ?_⟩
    obtain ⟨h3, h4⟩ := t5 h
    exact ⟨h3, by omega, by omega⟩
theorem rounds_lt {s : List UInt8} {a a' : Nat} {b b' : Bool} (h : a < s.length) (hb : b = false) (hs : b' = false → a + 1 ≤ a') : rounds s a' b' < rounds s a b := by
  subst hb
  unfold rounds
  cases b' with
  | true => simp; omega
  | false => have := hs rfl; simp; omega
theorem rdA_lt {s : List UInt8} {k : Int} {a : Nat} {b : Bool} (h : a < s.length) (hb : b = false) : rounds s (rdA s k a b).2.1 (rdA s k a b).2.2 < rounds s a b :=
  rounds_lt h hb fun h2 => by have := ((rdA_bd s k a b (by omega)).2.2.2.2.2.2 h2).2.2; omega
theorem rdC_lt {s : List UInt8} {a : Nat} {b : Bool} (h : a < s.length) (hb : b = false) : rounds s (rdN s 1 a b).2.1 (rdN s 1 a b).2.2 < rounds s a b :=
  rounds_lt h hb fun h2 => by have := ((rdN_bd s 1 a b (by omega)).2.2.2.2.2 h2).2; omega
theorem rounds_zero {s : List UInt8} {a : Nat} {b : Bool} (h : rounds s a b = 0) : ¬ (a < s.length ∧ b = false) := by
  unfold rounds at h
  split at h
  · rename_i hb; exact fun hh => by rw [hb] at hh; cases hh.2
  · omega
theorem rdAs_fuel {s : List UInt8} {k : Int} : ∀ (f g a : Nat) (b : Bool) (l : List Ak), rounds s a b ≤ f → rounds s a b ≤ g → rdAs s k f a b l = rdAs s k g a b l
  | 0, 0, a, b, l, _, _ => rfl
  | 0, g + 1, a, b, l, h, _ => by rw [rdAs, rdAs, if_neg (rounds_zero (by omega))]
  | f + 1, 0, a, b, l, _, h => by rw [rdAs, rdAs, if_neg (rounds_zero (by omega))]
  | f + 1, g + 1, a, b, l, h1, h2 => by
    rw [rdAs, rdAs]
    split
    · rename_i h
      have := rdA_lt (k := k) h.1 h.2
      exact rdAs_fuel f g _ _ _ (by omega) (by omega)
    · rfl
theorem rdCs_fuel {s : List UInt8} : ∀ (f g a : Nat) (b : Bool) (l : List Int), rounds s a b ≤ f → rounds s a b ≤ g → rdCs s f a b l = rdCs s g a b l
  | 0, 0, a, b, l, _, _ => rfl
  | 0, g + 1, a, b, l, h, _ => by rw [rdCs, rdCs, if_neg (rounds_zero (by omega))]
  | f + 1, 0, a, b, l, _, h => by rw [rdCs, rdCs, if_neg (rounds_zero (by omega))]
  | f + 1, g + 1, a, b, l, h1, h2 => by
    rw [rdCs, rdCs]
    split
    · rename_i h
      have := rdC_lt h.1 h.2
      exact rdCs_fuel f g _ _ _ (by omega) (by omega)
    · rfl
/-- One round more. -/
theorem rdAs_step {s : List UInt8} {k : Int} {a : Nat} {b : Bool} {l : List Ak} (h : a < s.length ∧ b = false) :
    rdAs s k (rounds s a b) a b l = rdAs s k (rounds s (rdA s k a b).2.1 (rdA s k a b).2.2) (rdA s k a b).2.1 (rdA s k a b).2.2 (l ++ [(rdA s k a b).1]) := by
  have h1 := rdA_lt (k := k) h.1 h.2
  obtain ⟨f, hf⟩ : ∃ f, rounds s a b = f + 1 := ⟨rounds s a b - 1, by omega⟩
  rw [hf, rdAs, if_pos h]
  exact rdAs_fuel _ _ _ _ _ (by omega) (Nat.le_refl _)
theorem rdCs_step {s : List UInt8} {a : Nat} {b : Bool} {l : List Int} (h : a < s.length ∧ b = false) :
    rdCs s (rounds s a b) a b l = rdCs s (rounds s (rdN s 1 a b).2.1 (rdN s 1 a b).2.2) (rdN s 1 a b).2.1 (rdN s 1 a b).2.2 (l ++ [(rdN s 1 a b).1]) := by
  have h1 := rdC_lt h.1 h.2
  obtain ⟨f, hf⟩ : ∃ f, rounds s a b = f + 1 := ⟨rounds s a b - 1, by omega⟩
  rw [hf, rdCs, if_pos h]
  exact rdCs_fuel _ _ _ _ _ (by omega) (Nat.le_refl _)
theorem rdAs_end {s : List UInt8} {k : Int} {f a : Nat} {b : Bool} {l : List Ak} (h : ¬ (a < s.length ∧ b = false)) : rdAs s k f a b l = (l, a, b) := by
  cases f with
  | zero => rfl
  | succ f => rw [rdAs, if_neg h]
theorem rdCs_end {s : List UInt8} {f a : Nat} {b : Bool} {l : List Int} (h : ¬ (a < s.length ∧ b = false)) : rdCs s f a b l = (l, a, b) := by
  cases f with
  | zero => rfl
  | succ f => rw [rdCs, if_neg h]
abbrev totA (k : Int) (l : List Ak) : Nat := (l.map (askB k)).flatten.length
theorem totA_snoc (k : Int) (l : List Ak) (x : Ak) : totA k (l ++ [x]) = totA k l + (askB k x).length := by simp [totA]
theorem rdAs_bd {s : List UInt8} {k : Int} : ∀ (f a : Nat) (b : Bool) (l : List Ak), a ≤ s.length → a ≤ (rdAs s k f a b l).2.1 ∧ (rdAs s k f a b l).2.1 ≤ s.length ∧
    (∀ x ∈ (rdAs s k f a b l).1, x ∈ l ∨ (x.1.length ≤ s.length ∧ 0 ≤ x.2 ∧ x.2 < 256)) ∧ totA k (rdAs s k f a b l).1 + a ≤ totA k l + (rdAs s k f a b l).2.1 + 3
  | 0, a, b, l, h => ⟨Nat.le_refl _, h, fun x hx => .inl hx, by simp only [rdAs]; omega⟩
  | f + 1, a, b, l, h => by
    rw [rdAs]
    split
    · obtain ⟨h1, h2, h3, h4, h5, h6, h7⟩ := rdA_bd s k a b h
      by_cases hb : (rdA s k a b).2.2 = true
      · rw [rdAs_end (by rw [hb]; simp)]
        refine ⟨h1, h2, fun x hx => ?_, ?_⟩
        · rcases List.mem_append.1 hx with hx | hx
          · exact .inl hx
          · rw [List.mem_singleton.1 hx]; exact .inr ⟨h3, h4, h5⟩
        · simp only [totA_snoc]; omega
      · have h7 := h7 (by simpa using hb)
        obtain ⟨i1, i2, i3, i4⟩ := rdAs_bd f (rdA s k a b).2.1 (rdA s k a b).2.2 (l ++ [(rdA s k a b).1]) h2
        refine ⟨by omega, i2, fun x hx => ?_, ?_⟩
        · rcases i3 x hx with hx | hx
          · rcases List.mem_append.1 hx with hx | hx
            · exact .inl hx
            · rw [List.mem_singleton.1 hx]; exact .inr ⟨h3, h4, h5⟩
          · exact .inr hx
        · rw [totA_snoc] at i4; omega
    · exact ⟨Nat.le_refl _, h, fun x hx => .inl hx, by simp only; omega⟩
theorem rdCs_bd {s : List UInt8} : ∀ (f a : Nat) (b : Bool) (l : List Int), a ≤ s.length → a ≤ (rdCs s f a b l).2.1 ∧ (rdCs s f a b l).2.1 ≤ s.length ∧
    (∀ x ∈ (rdCs s f a b l).1, x ∈ l ∨ (0 ≤ x ∧ x < 256)) ∧ (rdCs s f a b l).1.length + a ≤ l.length + (rdCs s f a b l).2.1 + 1
  | 0, a, b, l, h => ⟨Nat.le_refl _, h, fun x hx => .inl hx, by simp only [rdCs]; omega⟩
  | f + 1, a, b, l, h => by
    rw [rdCs]
    split
    · obtain ⟨h1, h2, h3, h4, h5, h6⟩ := rdN_bd s 1 a b h
      have h2 : (rdN s 1 a b).1 < 256 := h2
      by_cases hb : (rdN s 1 a b).2.2 = true
      · rw [rdCs_end (by rw [hb]; simp)]
        refine ⟨h3, h4, fun x hx => ?_, ?_⟩
        · rcases List.mem_append.1 hx with hx | hx
          · exact .inl hx
          · rw [List.mem_singleton.1 hx]; exact .inr ⟨h1, h2⟩
        · simp only [List.length_append, List.length_cons, List.length_nil]; omega
      · have h7 := (h6 (by simpa using hb)).2
        obtain ⟨i1, i2, i3, i4⟩ := rdCs_bd f (rdN s 1 a b).2.1 (rdN s 1 a b).2.2 (l ++ [(rdN s 1 a b).1]) h4
        refine ⟨by omega, i2, fun x hx => ?_, ?_⟩
        · rcases i3 x hx with hx | hx
          · rcases List.mem_append.1 hx with hx | hx
            · exact .inl hx
            · rw [List.mem_singleton.1 hx]; exact .inr ⟨h1, h2⟩
          · exact .inr hx
        · simp only [List.length_append, List.length_cons, List.length_nil] at i4; omega
    · exact ⟨Nat.le_refl _, h, fun x hx => .inl hx, by simp only; omega⟩

/-- What was read of bytes. -/
structure BdP (s : List UInt8) (p : Pkt) : Prop where
  kind : 0 ≤ p.kind ∧ p.kind ≤ 15
  qos : 0 ≤ p.qos ∧ p.qos ≤ 3
  id : 0 ≤ p.id ∧ p.id ≤ 65535
  keep : 0 ≤ p.keep ∧ p.keep ≤ 65535
  code : 0 ≤ p.code ∧ p.code ≤ 65535
  asks : ∀ a ∈ p.asks, a.1.length ≤ s.length ∧ 0 ≤ a.2 ∧ a.2 < 256
  codes : ∀ c ∈ p.codes, 0 ≤ c ∧ c < 256
  client : p.client.length ≤ s.length
  topic : p.topic.length ≤ s.length
  payload : p.payload.length ≤ s.length
  total : totA p.kind p.asks ≤ s.length + 3
  ncodes : p.codes.length ≤ s.length + 1
theorem asks_le_tot (k : Int) : ∀ l : List Ak, l.length ≤ totA k l
  | [] => by simp
  | x :: l => by
    have := asks_le_tot k l
    have h2 : 2 ≤ (askB k x).length := by unfold askB; rw [List.length_append, txtB_len]; omega
    simp only [totA, List.map_cons, List.flatten_cons, List.length_append, List.length_cons] at *
    omega
theorem BdP.small {s : List UInt8} {p : Pkt} (h : BdP s p) (hs : s.length ≤ 20000000) : SmallP p := by
  have h1 := h.client; have h2 := h.topic; have h3 := h.payload; have h4 := h.total; have h5 := h.ncodes; have h6 := asks_le_tot p.kind p.asks
  exact ⟨by omega, by omega, by omega, by omega, by omega, fun a ha => by have := (h.asks a ha).1; omega⟩
theorem BdP.byte {s : List UInt8} {p : Pkt} (h : BdP s p) (hs : s.length ≤ 20000000) : ByteP p := by
  refine ⟨h.kind, h.qos, h.id, h.keep, h.code, fun a ha => by have := h.asks a ha; omega, fun c hc => by have := h.codes c hc; omega, h.small hs, ?_⟩
  have h1 := h.client; have h2 := h.topic; have h3 := h.payload; have h4 := h.total; have h5 := h.ncodes
  have e1 : (headB p).length ≤ s.length + 64 := by
    unfold headB
    split
    · simp only [List.length_append, txtB_len, numB_len, List.length_cons, List.length_nil]; omega
    · split
      · simp only [List.length_append, numB_len]; omega
      · split
        · rw [txtB_len]; omega
        · simp
  have e2 : (if idB p = true then numB 2 p.id else []).length ≤ 2 := by
    split
    · rw [numB_len]; omega
    · simp
  have e4 := flat_lenN 1 p.codes
  unfold bodyB
  simp only [List.length_append]
  unfold totA at h4
  omega
theorem begP_bd (s : List UInt8) (c : Nat) (hc : c < 256) : BdP s (begP c) := by
  unfold begP
  split
  · exact ⟨by simp, by simp; omega, by simp, by simp, by simp, by simp, by simp, by simp, by simp, by simp, by simp, by simp⟩
  · exact ⟨by simp; omega, by simp, by simp, by simp, by simp, by simp, by simp, by simp, by simp, by simp, by simp, by simp⟩
theorem pw2 : pw 2 = 65536 := rfl
theorem pw1 : pw 1 = 256 := rfl
theorem headD_bd {s : List UInt8} {p : Pkt} {a : Nat} {b : Bool} (h : BdP s p) (ha : a ≤ s.length) : BdP s (headD s p a b).1 ∧ (headD s p a b).2.1 ≤ s.length ∧ (headD s p a b).1.asks = p.asks ∧ (headD s p a b).1.codes = p.codes := by
  obtain ⟨h1, h2, h3, h4, h5, h6, h7, h8, h9, h10, h11, h12⟩ := h
  unfold headD
  split
  · rename_i hk
    have t1 := rdT_bd s a b ha
    have n1 := rdN_bd s 1 (rdT s a b).2.1 (rdT s a b).2.2 t1.2.1
    have n2 := rdN_bd s 1 (rdN s 1 (rdT s a b).2.1 (rdT s a b).2.2).2.1 (rdN s 1 (rdT s a b).2.1 (rdT s a b).2.2).2.2 n1.2.2.2.1
    unfold connD
    simp only
    generalize rdN s 1 (rdN s 1 (rdT s a b).2.1 (rdT s a b).2.2).2.1 (rdN s 1 (rdT s a b).2.1 (rdT s a b).2.2).2.2 = x at n2 ⊢
    have n3 := rdN_bd s 2 x.2.1 x.2.2 n2.2.2.2.1
    generalize rdN s 2 x.2.1 x.2.2 = y at n3 ⊢
    have t2 := rdT_bd s y.2.1 y.2.2 n3.2.2.2.1
    rw [pw2] at n3
    exact ⟨⟨h1, h2, h3, by simp only; omega, h5, h6, h7, by simp only; omega, h9, h10, h11, h12⟩, t2.2.1, trivial, trivial⟩
  · split
    · have n1 := rdN_bd s 1 a b ha
      have n2 := rdN_bd s 1 (rdN s 1 a b).2.1 (rdN s 1 a b).2.2 n1.2.2.2.1
      rw [pw1] at n2
      exact ⟨⟨h1, h2, h3, h4, by simp only; omega, h6, h7, h8, h9, h10, h11, h12⟩, n2.2.2.2.1, rfl, rfl⟩
    · split
      · have t1 := rdT_bd s a b ha
        exact ⟨⟨h1, h2, h3, h4, h5, h6, h7, h8, by simp only; omega, h10, h11, h12⟩, t1.2.1, rfl, rfl⟩
      · exact ⟨⟨h1, h2, h3, h4, h5, h6, h7, h8, h9, h10, h11, h12⟩, ha, rfl, rfl⟩
theorem idD_bd {s : List UInt8} {q : RS} (h : BdP s q.1) (ha : q.2.1 ≤ s.length) : BdP s (idD s q).1 ∧ (idD s q).2.1 ≤ s.length ∧ (idD s q).1.asks = q.1.asks ∧ (idD s q).1.codes = q.1.codes := by
  obtain ⟨h1, h2, h3, h4, h5, h6, h7, h8, h9, h10, h11, h12⟩ := h
  unfold idD
  split
  · have n1 := rdN_bd s 2 q.2.1 q.2.2 ha
    rw [pw2] at n1
    exact ⟨⟨h1, h2, by simp only; omega, h4, h5, h6, h7, h8, h9, h10, h11, h12⟩, n1.2.2.2.1, rfl, rfl⟩
  · exact ⟨⟨h1, h2, h3, h4, h5, h6, h7, h8, h9, h10, h11, h12⟩, ha, rfl, rfl⟩
theorem tailD_bd {s : List UInt8} {q : RS} (h : BdP s q.1) (ha : q.2.1 ≤ s.length) (e1 : q.1.asks = []) (e2 : q.1.codes = []) : BdP s (tailD s q).1 ∧ (tailD s q).2.1 ≤ s.length := by
  obtain ⟨h1, h2, h3, h4, h5, h6, h7, h8, h9, h10, h11, h12⟩ := h
  unfold tailD
  split
  · exact ⟨⟨h1, h2, h3, h4, h5, h6, h7, h8, h9, by simp, h11, h12⟩, Nat.le_refl _⟩
  · split
    · obtain ⟨i1, i2, i3, i4⟩ := rdAs_bd (s := s) (k := q.1.kind) (rounds s q.2.1 q.2.2) q.2.1 q.2.2 q.1.asks ha
      rw [e1] at i3 i4 ⊢
      refine ⟨⟨h1, h2, h3, h4, h5, fun x hx => ?_, h7, h8, h9, h10, ?_, h12⟩, ?_⟩
      · rcases i3 x hx with hx | hx
        · cases hx
        · exact hx
      · simp only
        rw [e1] at i2
        have e0 : totA q.1.kind [] = 0 := rfl
        rw [e0] at i4
        omega
      · rw [e1] at i2; exact i2
    · split
      · obtain ⟨i1, i2, i3, i4⟩ := rdCs_bd (s := s) (rounds s q.2.1 q.2.2) q.2.1 q.2.2 q.1.codes ha
        rw [e2] at i3 i4 ⊢
        refine ⟨⟨h1, h2, h3, h4, h5, h6, fun x hx => ?_, h8, h9, h10, h11, ?_⟩, ?_⟩
        · rcases i3 x hx with hx | hx
          · cases hx
          · exact hx
        · rw [e2] at i2
          simp only [List.length_nil] at i4 ⊢
          omega
        · rw [e2] at i2; exact i2
      · exact ⟨⟨h1, h2, h3, h4, h5, h6, h7, h8, h9, h10, h11, h12⟩, ha⟩
theorem getL_at {s : List UInt8} {a : Nat} (h : (getL s a).2.2 = 0) : a ≤ s.length ∧ (a + (getL s a).2.1).toNat ≤ s.length ∧ 0 ≤ (getL s a).2.1 := by
  unfold getL at h ⊢
  split at h
  · rename_i h0
    rw [if_pos h0]
    have := glF_bd 4 0 0 (s.drop (a : Int).toNat) (by decide)
    rw [List.length_drop] at this
    omega
  · simp at h
theorem readP_bd {s : List UInt8} (h : (getL s 1).2.2 = 0) : BdP s (readP s).1 ∧ (readP s).2.1 ≤ s.length := by
  have h1 := getL_at (a := 1) h
  have h2 : (1 + (getL s 1).2.1).toNat ≤ s.length := h1.2.1
  unfold readP bodyD
  obtain ⟨a1, a2, a3, a4⟩ := headD_bd (b := false) (begP_bd s (s.getD 0 0).toNat (u8_lt _)) h2
  obtain ⟨b1, b2, b3, b4⟩ := idD_bd a1 a2
  have e : (begP (s.getD 0 0).toNat).asks = [] ∧ (begP (s.getD 0 0).toNat).codes = [] := by unfold begP; split <;> exact ⟨rfl, rfl⟩
  exact tailD_bd b1 b2 (by rw [b3, a3, e.1]) (by rw [b4, a4, e.2])
end Go.Proofs.YtliedecinehijaaDoor
