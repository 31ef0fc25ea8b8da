/-
  Packets: what is read of bytes has bounds; in plain terms. By an AI agent.
-/
import Derived.Test.YtliedecinehijaaDoorZ12
set_option linter.unusedSimpArgs false
set_option linter.unusedVariables false
namespace Go.Proofs.YtliedecinehijaaDoor
open Go.Sx

theorem rdN_bd (s : List UInt8) (k a : Nat) (b : Bool) (ha : a ≤ s.length) : 0 ≤ (rdN s k a b).1 ∧ (rdN s k a b).1 < pw k ∧ a ≤ (rdN s k a b).2.1 ∧ (rdN s k a b).2.1 ≤ s.length ∧
    (b = true → (rdN s k a b).2.2 = true) ∧ ((rdN s k a b).2.2 = false → b = false ∧ (rdN s k a b).2.1 = a + k) := by
  have hp := pw_pos k
  unfold rdN
  split
  · have := beN_lt ((s.drop a).take k) 0
    have e : ((s.drop a).take k).length = k := by simp; omega
    rw [e] at this
    refine ⟨by simp only; omega, by simp only; omega, by simp only; omega, by simp only; omega, fun h => h, fun h => ⟨h, rfl⟩⟩
  · exact ⟨by simp only; omega, by simp only; omega, ha, Nat.le_refl _, fun _ => rfl, fun h => by cases h⟩
theorem rdT_bd (s : List UInt8) (a : Nat) (b : Bool) (ha : a ≤ s.length) : a ≤ (rdT s a b).2.1 ∧ (rdT s a b).2.1 ≤ s.length ∧ (rdT s a b).1.length ≤ (rdT s a b).2.1 - a ∧
    (b = true → (rdT s a b).2.2 = true) ∧ ((rdT s a b).2.2 = false → b = false ∧ (rdT s a b).2.1 = a + 2 + (rdT s a b).1.length) := by
  unfold rdT
  split
  · refine ⟨by simp only; omega, by simp only; omega, by simp; omega, fun h => h, fun h => ⟨h, by simp; omega⟩⟩
  · exact ⟨Nat.le_refl _, ha, by simp, fun _ => rfl, fun h => by cases h⟩
theorem rdA_bd (s : List UInt8) (k : Int) (a : Nat) (b : Bool) (ha : a ≤ s.length) : a ≤ (rdA s k a b).2.1 ∧ (rdA s k a b).2.1 ≤ s.length ∧ (rdA s k a b).1.1.length ≤ s.length ∧ 0 ≤ (rdA s k a b).1.2 ∧ (rdA s k a b).1.2 < 256 ∧
    (askB k (rdA s k a b).1).length + a ≤ (rdA s k a b).2.1 + 3 ∧ ((rdA s k a b).2.2 = false → b = false ∧ (askB k (rdA s k a b).1).length + a = (rdA s k a b).2.1 ∧ a + 2 ≤ (rdA s k a b).2.1) := by
  obtain ⟨t1, t2, t3, t4, t5⟩ := rdT_bd s a b ha
  by_cases hk : k = 8
  · obtain ⟨n1, n2, n3, n4, n5, n6⟩ := rdN_bd s 1 (rdT s a b).2.1 (rdT s a b).2.2 t2
    have n2 : (rdN s 1 (rdT s a b).2.1 (rdT s a b).2.2).1 < 256 := n2
    have hl : ∀ (x : List UInt8) (n : Int), (askB k (x, n)).length = x.length + 3 := fun x n => by simp [askB, hk, txtB_len, numB_len]
    rw [rdA, if_pos hk]
    simp only [hl]
    refine ⟨by omega, n4, by omega, n1, n2, ?_, fun h => ?_⟩
    · by_cases hs : (rdT s a b).2.2 = true
      · omega
      · have := t5 (by simpa using hs); omega
    · obtain ⟨h1, h2⟩ := n6 h
      obtain ⟨h3, h4⟩ := t5 h1
      exact ⟨h3, by omega, by omega⟩
  · have hl : ∀ (x : List UInt8) (n : Int), (askB k (x, n)).length = x.length + 2 := fun x n => by simp [askB, hk, txtB_len]
    rw [rdA, if_neg hk]
    simp only [hl]
    refine ⟨t1, t2, by omega, by omega, by omega, by omega, fun h => ?_⟩
    obtain ⟨h3, h4⟩ := t5 h
    exact ⟨h3, by omega, by omega⟩
theorem rounds_lt {s : List UInt8} {a a' : Nat} {b b' : Bool} (h : a < s.length) (hb : b = false) (hs : b' = false → a + 1 ≤ a') : rounds s a' b' < rounds s a b := by
  subst hb
  unfold rounds
  cases b' with
  | true => simp; omega
  | false => have := hs rfl; simp; omega
theorem rdA_lt {s : List UInt8} {k : Int} {a : Nat} {b : Bool} (h : a < s.length) (hb : b = false) : rounds s (rdA s k a b).2.1 (rdA s k a b).2.2 < rounds s a b :=
  rounds_lt h hb fun h2 => by have := ((rdA_bd s k a b (by omega)).2.2.2.2.2.2 h2).2.2; omega
theorem rdC_lt {s : List UInt8} {a : Nat} {b : Bool} (h : a < s.length) (hb : b = false) : rounds s (rdN s 1 a b).2.1 (rdN s 1 a b).2.2 < rounds s a b :=
  rounds_lt h hb fun h2 => by have := ((rdN_bd s 1 a b (by omega)).2.2.2.2.2 h2).2; omega
theorem rounds_zero {s : List UInt8} {a : Nat} {b : Bool} (h : rounds s a b = 0) : ¬ (a < s.length ∧ b = false) := by
  unfold rounds at h
  split at h
  · rename_i hb; exact fun hh => by rw [hb] at hh; cases hh.2
  · omega
theorem rdAs_fuel {s : List UInt8} {k : Int} : ∀ (f g a : Nat) (b : Bool) (l : List Ak), rounds s a b ≤ f → rounds s a b ≤ g → rdAs s k f a b l = rdAs s k g a b l
  | 0, 0, a, b, l, _, _ => rfl
  | 0, g + 1, a, b, l, h, _ => by rw [rdAs, rdAs, if_neg (rounds_zero (by omega))]
  | f + 1, 0, a, b, l, _, h => by rw [rdAs, rdAs, if_neg (rounds_zero (by omega))]
  | f + 1, g + 1, a, b, l, h1, h2 => by
    rw [rdAs, rdAs]
    split
    · rename_i h
      have := rdA_lt (k := k) h.1 h.2
      exact rdAs_fuel f g _ _ _ (by omega) (by omega)
    · rfl
theorem rdCs_fuel {s : List UInt8} : ∀ (f g a : Nat) (b : Bool) (l : List Int), rounds s a b ≤ f → rounds s a b ≤ g → rdCs s f a b l = rdCs s g a b l
  | 0, 0, a, b, l, _, _ => rfl
  | 0, g + 1, a, b, l, h, _ => by rw [rdCs, rdCs, if_neg (rounds_zero (by omega))]
  | f + 1, 0, a, b, l, _, h => by rw [rdCs, rdCs, if_neg (rounds_zero (by omega))]
  | f + 1, g + 1, a, b, l, h1, h2 => by
    rw [rdCs, rdCs]
    split
    · rename_i h
      have := rdC_lt h.1 h.2
      exact rdCs_fuel f g _ _ _ (by omega) (by omega)
    · rfl
/-- One round more. -/
theorem rdAs_step {s : List UInt8} {k : Int} {a : Nat} {b : Bool} {l : List Ak} (h : a < s.length ∧ b = false) :
    rdAs s k (rounds s a b) a b l = rdAs s k (rounds s (rdA s k a b).2.1 (rdA s k a b).2.2) (rdA s k a b).2.1 (rdA s k a b).2.2 (l ++ [(rdA s k a b).1]) := by
  have h1 := rdA_lt (k := k) h.1 h.2
  obtain ⟨f, hf⟩ : ∃ f, rounds s a b = f + 1 := ⟨rounds s a b - 1, by omega⟩
  rw [hf, rdAs, if_pos h]
  exact rdAs_fuel _ _ _ _ _ (by omega) (Nat.le_refl _)
theorem rdCs_step {s : List UInt8} {a : Nat} {b : Bool} {l : List Int} (h : a < s.length ∧ b = false) :
    rdCs s (rounds s a b) a b l = rdCs s (rounds s (rdN s 1 a b).2.1 (rdN s 1 a b).2.2) (rdN s 1 a b).2.1 (rdN s 1 a b).2.2 (l ++ [(rdN s 1 a b).1]) := by
  have h1 := rdC_lt h.1 h.2
  obtain ⟨f, hf⟩ : ∃ f, rounds s a b = f + 1 := ⟨rounds s a b - 1, by omega⟩
  rw [hf, rdCs, if_pos h]
  exact rdCs_fuel _ _ _ _ _ (by omega) (Nat.le_refl _)
theorem rdAs_end {s : List UInt8} {k : Int} {f a : Nat} {b : Bool} {l : List Ak} (h : ¬ (a < s.length ∧ b = false)) : rdAs s k f a b l = (l, a, b) := by
  cases f with
  | zero => rfl
  | succ f => rw [rdAs, if_neg h]
theorem rdCs_end {s : List UInt8} {f a : Nat} {b : Bool} {l : List Int} (h : ¬ (a < s.length ∧ b = false)) : rdCs s f a b l = (l, a, b) := by
  cases f with
  | zero => rfl
  | succ f => rw [rdCs, if_neg h]
abbrev totA (k : Int) (l : List Ak) : Nat := (l.map (askB k)).flatten.length
theorem totA_snoc (k : Int) (l : List Ak) (x : Ak) : totA k (l ++ [x]) = totA k l + (askB k x).length := by simp [totA]
theorem rdAs_bd {s : List UInt8} {k : Int} : ∀ (f a : Nat) (b : Bool) (l : List Ak), a ≤ s.length → a ≤ (rdAs s k f a b l).2.1 ∧ (rdAs s k f a b l).2.1 ≤ s.length ∧
    (∀ x ∈ (rdAs s k f a b l).1, x ∈ l ∨ (x.1.length ≤ s.length ∧ 0 ≤ x.2 ∧ x.2 < 256)) ∧ totA k (rdAs s k f a b l).1 + a ≤ totA k l + (rdAs s k f a b l).2.1 + 3
  | 0, a, b, l, h => ⟨Nat.le_refl _, h, fun x hx => .inl hx, by simp only [rdAs]; omega⟩
  | f + 1, a, b, l, h => by
    rw [rdAs]
    split
    · obtain ⟨h1, h2, h3, h4, h5, h6, h7⟩ := rdA_bd s k a b h
      by_cases hb : (rdA s k a b).2.2 = true
      · rw [rdAs_end (by rw [hb]; simp)]
        refine ⟨h1, h2, fun x hx => ?_, ?_⟩
        · rcases List.mem_append.1 hx with hx | hx
          · exact .inl hx
          · rw [List.mem_singleton.1 hx]; exact .inr ⟨h3, h4, h5⟩
        · simp only [totA_snoc]; omega
      · have h7 := h7 (by simpa using hb)
        obtain ⟨i1, i2, i3, i4⟩ := rdAs_bd f (rdA s k a b).2.1 (rdA s k a b).2.2 (l ++ [(rdA s k a b).1]) h2
        refine ⟨by omega, i2, fun x hx => ?_, ?_⟩
        · rcases i3 x hx with hx | hx
          · rcases List.mem_append.1 hx with hx | hx
            · exact .inl hx
            · rw [List.mem_singleton.1 hx]; exact .inr ⟨h3, h4, h5⟩
          · exact .inr hx
        · rw [totA_snoc] at i4; omega
    · exact ⟨Nat.le_refl _, h, fun x hx => .inl hx, by simp only; omega⟩
theorem rdCs_bd {s : List UInt8} : ∀ (f a : Nat) (b : Bool) (l : List Int), a ≤ s.length → a ≤ (rdCs s f a b l).2.1 ∧ (rdCs s f a b l).2.1 ≤ s.length ∧
    (∀ x ∈ (rdCs s f a b l).1, x ∈ l ∨ (0 ≤ x ∧ x < 256)) ∧ (rdCs s f a b l).1.length + a ≤ l.length + (rdCs s f a b l).2.1 + 1
  | 0, a, b, l, h => ⟨Nat.le_refl _, h, fun x hx => .inl hx, by simp only [rdCs]; omega⟩
  | f + 1, a, b, l, h => by
    rw [rdCs]
    split
    · obtain ⟨h1, h2, h3, h4, h5, h6⟩ := rdN_bd s 1 a b h
      have h2 : (rdN s 1 a b).1 < 256 := h2
      by_cases hb : (rdN s 1 a b).2.2 = true
      · rw [rdCs_end (by rw [hb]; simp)]
        refine ⟨h3, h4, fun x hx => ?_, ?_⟩
        · rcases List.mem_append.1 hx with hx | hx
          · exact .inl hx
          · rw [List.mem_singleton.1 hx]; exact .inr ⟨h1, h2⟩
        · simp only [List.length_append, List.length_cons, List.length_nil]; omega
      · have h7 := (h6 (by simpa using hb)).2
        obtain ⟨i1, i2, i3, i4⟩ := rdCs_bd f (rdN s 1 a b).2.1 (rdN s 1 a b).2.2 (l ++ [(rdN s 1 a b).1]) h4
        refine ⟨by omega, i2, fun x hx => ?_, ?_⟩
        · rcases i3 x hx with hx | hx
          · rcases List.mem_append.1 hx with hx | hx
            · exact .inl hx
            · rw [List.mem_singleton.1 hx]; exact .inr ⟨h1, h2⟩
          · exact .inr hx
        · simp only [List.length_append, List.length_cons, List.length_nil] at i4; omega
    · exact ⟨Nat.le_refl _, h, fun x hx => .inl hx, by simp only; omega⟩

/-- What was read of bytes. -/
structure BdP (s : List UInt8) (p : Pkt) : Prop where
  kind : 0 ≤ p.kind ∧ p.kind ≤ 15
  qos : 0 ≤ p.qos ∧ p.qos ≤ 3
  id : 0 ≤ p.id ∧ p.id ≤ 65535
  keep : 0 ≤ p.keep ∧ p.keep ≤ 65535
  code : 0 ≤ p.code ∧ p.code ≤ 65535
  asks : ∀ a ∈ p.asks, a.1.length ≤ s.length ∧ 0 ≤ a.2 ∧ a.2 < 256
  codes : ∀ c ∈ p.codes, 0 ≤ c ∧ c < 256
  client : p.client.length ≤ s.length
  topic : p.topic.length ≤ s.length
  payload : p.payload.length ≤ s.length
  total : totA p.kind p.asks ≤ s.length + 3
  ncodes : p.codes.length ≤ s.length + 1
theorem asks_le_tot (k : Int) : ∀ l : List Ak, l.length ≤ totA k l
  | [] => by simp
  | x :: l => by
    have := asks_le_tot k l
    have h2 : 2 ≤ (askB k x).length := by unfold askB; rw [List.length_append, txtB_len]; omega
    simp only [totA, List.map_cons, List.flatten_cons, List.length_append, List.length_cons] at *
    omega
theorem BdP.small {s : List UInt8} {p : Pkt} (h : BdP s p) (hs : s.length ≤ 60000000) : SmallP p := by
  have h1 := h.client; have h2 := h.topic; have h3 := h.payload; have h4 := h.total; have h5 := h.ncodes; have h6 := asks_le_tot p.kind p.asks
  exact ⟨by omega, by omega, by omega, by omega, by omega, fun a ha => by have := (h.asks a ha).1; omega⟩
theorem BdP.byte {s : List UInt8} {p : Pkt} (h : BdP s p) (hs : s.length ≤ 60000000) : ByteP p := by
  refine ⟨h.kind, h.qos, h.id, h.keep, h.code, fun a ha => by have := h.asks a ha; omega, fun c hc => by have := h.codes c hc; omega, h.small hs, ?_⟩
  have h1 := h.client; have h2 := h.topic; have h3 := h.payload; have h4 := h.total; have h5 := h.ncodes
  have e1 : (headB p).length ≤ s.length + 64 := by
    unfold headB
    split
    · simp only [List.length_append, txtB_len, numB_len, List.length_cons, List.length_nil]; omega
    · split
      · simp only [List.length_append, numB_len]; omega
      · split
        · rw [txtB_len]; omega
        · simp
  have e2 : (if idB p = true then numB 2 p.id else []).length ≤ 2 := by
    split
    · rw [numB_len]; omega
    · simp
  have e4 := flat_lenN 1 p.codes
  unfold bodyB
  simp only [List.length_append]
  unfold totA at h4
  omega
theorem begP_bd (s : List UInt8) (c : Nat) (hc : c < 256) : BdP s (begP c) := by
  unfold begP
  split
  · exact ⟨by simp, by simp; omega, by simp, by simp, by simp, by simp, by simp, by simp, by simp, by simp, by simp, by simp⟩
  · exact ⟨by simp; omega, by simp, by simp, by simp, by simp, by simp, by simp, by simp, by simp, by simp, by simp, by simp⟩
theorem pw2 : pw 2 = 65536 := rfl
theorem pw1 : pw 1 = 256 := rfl
theorem headD_bd {s : List UInt8} {p : Pkt} {a : Nat} {b : Bool} (h : BdP s p) (ha : a ≤ s.length) : BdP s (headD s p a b).1 ∧ (headD s p a b).2.1 ≤ s.length ∧ (headD s p a b).1.asks = p.asks ∧ (headD s p a b).1.codes = p.codes := by
  obtain ⟨h1, h2, h3, h4, h5, h6, h7, h8, h9, h10, h11, h12⟩ := h
  unfold headD
  split
  · rename_i hk
    have t1 := rdT_bd s a b ha
    have n1 := rdN_bd s 1 (rdT s a b).2.1 (rdT s a b).2.2 t1.2.1
    have n2 := rdN_bd s 1 (rdN s 1 (rdT s a b).2.1 (rdT s a b).2.2).2.1 (rdN s 1 (rdT s a b).2.1 (rdT s a b).2.2).2.2 n1.2.2.2.1
    unfold connD
    simp only
    generalize rdN s 1 (rdN s 1 (rdT s a b).2.1 (rdT s a b).2.2).2.1 (rdN s 1 (rdT s a b).2.1 (rdT s a b).2.2).2.2 = x at n2 ⊢
    have n3 := rdN_bd s 2 x.2.1 x.2.2 n2.2.2.2.1
    generalize rdN s 2 x.2.1 x.2.2 = y at n3 ⊢
    have t2 := rdT_bd s y.2.1 y.2.2 n3.2.2.2.1
    rw [pw2] at n3
    exact ⟨⟨h1, h2, h3, by simp only; omega, h5, h6, h7, by simp only; omega, h9, h10, h11, h12⟩, t2.2.1, trivial, trivial⟩
  · split
    · have n1 := rdN_bd s 1 a b ha
      have n2 := rdN_bd s 1 (rdN s 1 a b).2.1 (rdN s 1 a b).2.2 n1.2.2.2.1
      rw [pw1] at n2
      exact ⟨⟨h1, h2, h3, h4, by simp only; omega, h6, h7, h8, h9, h10, h11, h12⟩, n2.2.2.2.1, rfl, rfl⟩
    · split
      · have t1 := rdT_bd s a b ha
        exact ⟨⟨h1, h2, h3, h4, h5, h6, h7, h8, by simp only; omega, h10, h11, h12⟩, t1.2.1, rfl, rfl⟩
      · exact ⟨⟨h1, h2, h3, h4, h5, h6, h7, h8, h9, h10, h11, h12⟩, ha, rfl, rfl⟩
theorem idD_bd {s : List UInt8} {q : RS} (h : BdP s q.1) (ha : q.2.1 ≤ s.length) : BdP s (idD s q).1 ∧ (idD s q).2.1 ≤ s.length ∧ (idD s q).1.asks = q.1.asks ∧ (idD s q).1.codes = q.1.codes := by
  obtain ⟨h1, h2, h3, h4, h5, h6, h7, h8, h9, h10, h11, h12⟩ := h
  unfold idD
  split
  · have n1 := rdN_bd s 2 q.2.1 q.2.2 ha
    rw [pw2] at n1
    exact ⟨⟨h1, h2, by simp only; omega, h4, h5, h6, h7, h8, h9, h10, h11, h12⟩, n1.2.2.2.1, rfl, rfl⟩
  · exact ⟨⟨h1, h2, h3, h4, h5, h6, h7, h8, h9, h10, h11, h12⟩, ha, rfl, rfl⟩
theorem tailD_bd {s : List UInt8} {q : RS} (h : BdP s q.1) (ha : q.2.1 ≤ s.length) (e1 : q.1.asks = []) (e2 : q.1.codes = []) : BdP s (tailD s q).1 ∧ (tailD s q).2.1 ≤ s.length := by
  obtain ⟨h1, h2, h3, h4, h5, h6, h7, h8, h9, h10, h11, h12⟩ := h
  unfold tailD
  split
  · exact ⟨⟨h1, h2, h3, h4, h5, h6, h7, h8, h9, by simp, h11, h12⟩, Nat.le_refl _⟩
  · split
    · obtain ⟨i1, i2, i3, i4⟩ := rdAs_bd (s := s) (k := q.1.kind) (rounds s q.2.1 q.2.2) q.2.1 q.2.2 q.1.asks ha
      rw [e1] at i3 i4 ⊢
      refine ⟨⟨h1, h2, h3, h4, h5, fun x hx => ?_, h7, h8, h9, h10, ?_, h12⟩, ?_⟩
      · rcases i3 x hx with hx | hx
        · cases hx
        · exact hx
      · simp only
        rw [e1] at i2
        have e0 : totA q.1.kind [] = 0 := rfl
        rw [e0] at i4
        omega
      · rw [e1] at i2; exact i2
    · split
      · obtain ⟨i1, i2, i3, i4⟩ := rdCs_bd (s := s) (rounds s q.2.1 q.2.2) q.2.1 q.2.2 q.1.codes ha
        rw [e2] at i3 i4 ⊢
        refine ⟨⟨h1, h2, h3, h4, h5, h6, fun x hx => ?_, h8, h9, h10, h11, ?_⟩, ?_⟩
        · rcases i3 x hx with hx | hx
          · cases hx
          · exact hx
        · rw [e2] at i2
          simp only [List.length_nil] at i4 ⊢
          omega
        · rw [e2] at i2; exact i2
      · exact ⟨⟨h1, h2, h3, h4, h5, h6, h7, h8, h9, h10, h11, h12⟩, ha⟩
theorem getL_at {s : List UInt8} {a : Nat} (h : (getL s a).2.2 = 0) : a ≤ s.length ∧ (a + (getL s a).2.1).toNat ≤ s.length ∧ 0 ≤ (getL s a).2.1 := by
  unfold getL at h ⊢
  split at h
  · rename_i h0
    rw [if_pos h0]
    have := glF_bd 4 0 0 (s.drop (a : Int).toNat) (by decide)
    rw [List.length_drop] at this
    omega
  · simp at h
theorem readP_bd {s : List UInt8} (h : (getL s 1).2.2 = 0) : BdP s (readP s).1 ∧ (readP s).2.1 ≤ s.length := by
  have h1 := getL_at (a := 1) h
  have h2 : (1 + (getL s 1).2.1).toNat ≤ s.length := h1.2.1
  unfold readP bodyD
  obtain ⟨a1, a2, a3, a4⟩ := headD_bd (b := false) (begP_bd s (s.getD 0 0).toNat (u8_lt _)) h2
  obtain ⟨b1, b2, b3, b4⟩ := idD_bd a1 a2
  have e : (begP (s.getD 0 0).toNat).asks = [] ∧ (begP (s.getD 0 0).toNat).codes = [] := by unfold begP; split <;> exact ⟨rfl, rfl⟩
  exact tailD_bd b1 b2 (by rw [b3, a3, e.1]) (by rw [b4, a4, e.2])
end Go.Proofs.YtliedecinehijaaDoor

/-
  Packets: the reader, walked. By an AI agent.
-/
set_option linter.unusedSimpArgs false
set_option linter.unusedVariables false
namespace Go.Proofs.YtliedecinehijaaDoor
open Go.Sx

/-- The cells of a reader, of a packet. -/
def rdV (s : List UInt8) (a : Nat) (sh : Bool) : List Value := [.string ⟨s.toArray⟩, .int .i64 a, .bool sh]
abbrev rdAt (w : World) (b : Nat) (s : List UInt8) (a : Nat) (sh : Bool) : Prop := w.heap[b]? = some (.cells (rdV s a sh).toArray 94 (0, 0))
def pC (p : Pkt) (u v : Value) : List Value := [.int .i64 p.kind, .bool p.dup, .bool p.retain, .bool p.clean, .bool p.session, .int .i64 p.qos, .int .i64 p.id, .int .i64 p.keep, .int .i64 p.code, .string ⟨p.client.toArray⟩, .string ⟨p.topic.toArray⟩, .string ⟨p.payload.toArray⟩, Go.Sx.sc1 u, Go.Sx.sc1 v]
abbrev pAt (w : World) (b : Nat) (p : Pkt) (u v : Value) : Prop := w.heap[b]? = some (.cells (pC p u v).toArray 25 (0, 0))
theorem rel_of {w : World} {ρ : List V} {hp : List Ent} {fp : List Nat} (hh : ∀ e ∈ hp, e.holds ρ w) (ho : ∀ e ∈ hp, e.wr = true → ∀ k, e.fp ρ k → k ∈ fp) (hs : Apart ρ hp) : Rel ⟨fp, w⟩ ρ hp w :=
  ⟨Mod.refl _ _, hh, fun e he hw k hk => .inr (ho e he hw k hk), hs⟩
section
variable (w : World) (b : Nat) (s : List UInt8) (a : Nat) (sh : Bool) (h : rdAt w b s a sh) (ha : a ≤ s.length) (hs : s.length < 1000000000)
include h
theorem rel_r {k : V} : Rel ⟨[b], w⟩ [.n b, .s s, .i a, .b sh, k] [.cells 0 94 [.str (.var 1), .int .i64 (.var 2), .bool (.var 3)]] w :=
  rel_of (List.forall_mem_cons.2 ⟨h, List.forall_mem_nil _⟩) (List.forall_mem_cons.2 ⟨fun _ k hk => by simp only [Ent.fp, Tree.goal, X.P, X.ev, V.toI_i, V.toB_b, V.toS_s, V.toR_r, V.toV_v, V.toN_n, V.toL_l, SV.ev, CV.ev, Sc.ev, List.getD_cons_zero, List.getD_cons_succ, List.getElem?_cons_zero, List.getElem?_cons_succ, List.map_cons, List.map_nil, List.length_cons, List.length_nil, List.cons_append, List.nil_append, Nat.zero_add, Nat.reduceAdd] at hk; simp [hk], List.forall_mem_nil _⟩) apart_one
theorem rel_r4 : Rel ⟨[b], w⟩ [.n b, .s s, .i a, .b sh] [.cells 0 94 [.str (.var 1), .int .i64 (.var 2), .bool (.var 3)]] w :=
  rel_of (List.forall_mem_cons.2 ⟨h, List.forall_mem_nil _⟩) (List.forall_mem_cons.2 ⟨fun _ k hk => by simp only [Ent.fp, Tree.goal, X.P, X.ev, V.toI_i, V.toB_b, V.toS_s, V.toR_r, V.toV_v, V.toN_n, V.toL_l, SV.ev, CV.ev, Sc.ev, List.getD_cons_zero, List.getD_cons_succ, List.getElem?_cons_zero, List.getElem?_cons_succ, List.map_cons, List.map_nil, List.length_cons, List.length_nil, List.cons_append, List.nil_append, Nat.zero_add, Nat.reduceAdd] at hk; simp [hk], List.forall_mem_nil _⟩) apart_one
include ha
theorem c_rleft : Calls Tryd.prog 92 #[.pointer (some ⟨b, 0, none⟩)] w
    fun e w' => e = .returned (.string ⟨(s.drop a).toArray⟩) ∧ rdAt w' b s s.length sh ∧ Mod [b] w w' := by
  refine as_called (run_tree2 (ρ := [.n b, .s s, .i a, .b sh]) sxE_ok Tryd.func92 tree_packet_reader_left rfl rfl (rel_r4 w b s a sh h) rfl rfl ?_) rfl
  simp only [Tree.goal, X.P, X.ev, V.toI_i, V.toB_b, V.toS_s, V.toR_r, V.toV_v, V.toN_n, V.toL_l, SV.ev, CV.ev, Sc.ev, List.getD_cons_zero, List.getD_cons_succ, List.getElem?_cons_zero, List.getElem?_cons_succ, List.map_cons, List.map_nil, List.length_cons, List.length_nil, List.cons_append, List.nil_append, Nat.zero_add, Nat.reduceAdd]
  refine ⟨by omega, by omega, fun w' hr => ⟨by simp, hr.at_ 0 rfl, hr.mod⟩⟩
include hs
theorem c_rnumber (k : Nat) (hk : 1 ≤ k ∧ k ≤ 4) : Calls Tryd.prog 90 #[.pointer (some ⟨b, 0, none⟩), .int .i64 k] w
    fun e w' => e = .returned (.int .i64 (rdN s k a sh).1) ∧ rdAt w' b s (rdN s k a sh).2.1 (rdN s k a sh).2.2 ∧ Mod [b] w w' := by
  refine as_called (run_tree2 (ρ := [.n b, .s s, .i a, .b sh, .i k]) sxE_ok Tryd.func90 tree_packet_reader_number rfl rfl (rel_r w b s a sh h) rfl rfl ?_) rfl
  simp only [Tree.goal, X.P, X.ev, V.toI_i, V.toB_b, V.toS_s, V.toR_r, V.toV_v, V.toN_n, V.toL_l, SV.ev, CV.ev, Sc.ev, List.getD_cons_zero, List.getD_cons_succ, List.getElem?_cons_zero, List.getElem?_cons_succ, List.map_cons, List.map_nil, List.length_cons, List.length_nil, List.cons_append, List.nil_append, Nat.zero_add, Nat.reduceAdd]
  refine ⟨[.i (getR s a k).1, .i (getR s a k).2], rfl, fun _ w' _ => c_Get w' s a k (by omega), ?_⟩
  simp only [Tree.goal, X.P, X.ev, V.toI_i, V.toB_b, V.toS_s, V.toR_r, V.toV_v, V.toN_n, V.toL_l, SV.ev, CV.ev, Sc.ev, List.getD_cons_zero, List.getD_cons_succ, List.getElem?_cons_zero, List.getElem?_cons_succ, List.map_cons, List.map_nil, List.length_cons, List.length_nil, List.cons_append, List.nil_append, Nat.zero_add, Nat.reduceAdd]
  refine ⟨by omega, by omega, fun w' hr => ?_⟩
  have hc := hr.at_ 0 rfl
  simp only [Ent.holds, Tree.goal, X.P, X.ev, V.toI_i, V.toB_b, V.toS_s, V.toR_r, V.toV_v, V.toN_n, V.toL_l, SV.ev, CV.ev, Sc.ev, List.getD_cons_zero, List.getD_cons_succ, List.getElem?_cons_zero, List.getElem?_cons_succ, List.map_cons, List.map_nil, List.length_cons, List.length_nil, List.cons_append, List.nil_append, Nat.zero_add, Nat.reduceAdd] at hc
  by_cases hh : a + k ≤ s.length
  · have e1 : getR s a k = (((beN ((s.drop a).take k) 0 : Nat) : Int), 0) := by
      have := getR_ok (s := s) (at_ := a) (b := k) (by omega) (by omega) (by omega)
      simpa using this
    have e2 : rdN s k a sh = (((beN ((s.drop a).take k) 0 : Nat) : Int), a + k, sh) := by rw [rdN, if_pos hh]
    rw [e1] at hc ⊢
    rw [e2]
    refine ⟨rfl, ?_, hr.mod⟩
    have e3 : (if (a : Int) + (k : Int) < (s.length : Int) then (a : Int) + (k : Int) else (s.length : Int)) = ((a + k : Nat) : Int) := by split <;> omega
    rw [e3] at hc
    rw [rdAt, hc]; simp [rdV]
  · have e1 : getR s a k = (0, 8) := getR_short (by omega) (by omega) (by omega)
    have e2 : rdN s k a sh = (0, s.length, true) := by rw [rdN, if_neg hh]
    rw [e1] at hc ⊢
    rw [e2]
    refine ⟨rfl, ?_, hr.mod⟩
    have e3 : (if (a : Int) + (k : Int) < (s.length : Int) then (a : Int) + (k : Int) else (s.length : Int)) = ((s.length : Nat) : Int) := by split <;> omega
    rw [e3] at hc
    rw [rdAt, hc]; simp [rdV]
theorem c_rtext : Calls Tryd.prog 91 #[.pointer (some ⟨b, 0, none⟩)] w
    fun e w' => e = .returned (.string ⟨(rdT s a sh).1.toArray⟩) ∧ rdAt w' b s (rdT s a sh).2.1 (rdT s a sh).2.2 ∧ Mod [b] w w' := by
  refine as_called (run_tree2 (ρ := [.n b, .s s, .i a, .b sh]) sxE_ok Tryd.func91 tree_packet_reader_text rfl rfl (rel_r4 w b s a sh h) rfl rfl ?_) rfl
  simp only [Tree.goal, X.P, X.ev, V.toI_i, V.toB_b, V.toS_s, V.toR_r, V.toV_v, V.toN_n, V.toL_l, SV.ev, CV.ev, Sc.ev, List.getD_cons_zero, List.getD_cons_succ, List.getElem?_cons_zero, List.getElem?_cons_succ, List.map_cons, List.map_nil, List.length_cons, List.length_nil, List.cons_append, List.nil_append, Nat.zero_add, Nat.reduceAdd]
  refine ⟨[.s (getT s a).1, .i (getT s a).2.1, .i (getT s a).2.2], rfl, fun _ w' _ => c_GetText w' s a (by omega), ?_⟩
  simp only [Tree.goal, X.P, X.ev, V.toI_i, V.toB_b, V.toS_s, V.toR_r, V.toV_v, V.toN_n, V.toL_l, SV.ev, CV.ev, Sc.ev, List.getD_cons_zero, List.getD_cons_succ, List.getElem?_cons_zero, List.getElem?_cons_succ, List.map_cons, List.map_nil, List.length_cons, List.length_nil, List.cons_append, List.nil_append, Nat.zero_add, Nat.reduceAdd]
  have key : ((a : Int) + (getT s a).2.1 = ((rdT s a sh).2.1 : Nat)) ∧ (getT s a).1 = (rdT s a sh).1 ∧ (sh || !decide ((getT s a).2.2 = 0)) = (rdT s a sh).2.2 := by
    by_cases h2 : a + 2 ≤ s.length
    · have e1 : getR s a 2 = (((beN ((s.drop a).take 2) 0 : Nat) : Int), 0) := by
        have := getR_ok (s := s) (at_ := a) (b := 2) (by omega) (by omega) (by omega)
        simpa using this
      rw [getT, e1, if_pos rfl, rdT]
      simp only
      by_cases h3 : a + 2 + beN ((s.drop a).take 2) 0 ≤ s.length
      · rw [if_neg (by omega), if_pos ⟨h2, h3⟩]
        refine ⟨by simp only; omega, ?_, by simp⟩
        have e3 : ((a : Int) + 2 + ((beN ((s.drop a).take 2) 0 : Nat) : Int)).toNat = a + 2 + beN ((s.drop a).take 2) 0 := by omega
        have e4 : ((a : Int) + 2).toNat = a + 2 := by omega
        simp only [e3, e4]
        rw [List.drop_take]
        congr 1
        omega
      · rw [if_pos (by omega), if_neg (by omega)]
        exact ⟨by simp, rfl, by simp⟩
    · have e1 : getR s a 2 = (0, 8) := getR_short (by omega) (by omega) (by omega)
      rw [getT, e1, if_neg (by simp), rdT, if_neg (by omega)]
      exact ⟨by simp, rfl, by simp⟩
  obtain ⟨k1, k2, k3⟩ := key
  have kb := rdT_bd s a sh ha
  rw [k1]
  refine ⟨by omega, by omega, fun w' hr => ?_⟩
  have hc := hr.at_ 0 rfl
  simp only [Ent.holds, Tree.goal, X.P, X.ev, V.toI_i, V.toB_b, V.toS_s, V.toR_r, V.toV_v, V.toN_n, V.toL_l, SV.ev, CV.ev, Sc.ev, List.getD_cons_zero, List.getD_cons_succ, List.getElem?_cons_zero, List.getElem?_cons_succ, List.map_cons, List.map_nil, List.length_cons, List.length_nil, List.cons_append, List.nil_append, Nat.zero_add, Nat.reduceAdd] at hc
  rw [k1, k3] at hc
  exact ⟨by rw [k2], hc, hr.mod⟩
end
end Go.Proofs.YtliedecinehijaaDoor

/-
  Packets: the reader's body, walked. By an AI agent.
-/
set_option linter.unusedSimpArgs false
set_option linter.unusedVariables false
namespace Go.Proofs.YtliedecinehijaaDoor
open Go.Sx

abbrev nilV : Value := .slice none 0 0
theorem owns_nil (w : World) (ty : Nat) (ks : List Kd) : owns w nilV ty ks [] := ⟨by simp, World.ownsRow_nil _ _ _ _⟩
section
variable (w : World) (b c : Nat) (s : List UInt8) (a : Nat) (sh : Bool) (p : Pkt) (h : rdAt w b s a sh) (hp : pAt w c p nilV nilV) (hbc : b ≠ c) (ha : a ≤ s.length) (hs : s.length < 1000000000)
include h hp hbc
theorem rel_rp : Rel ⟨[b, c], w⟩ [.n b, .s s, .i a, .b sh, .n c, .i p.kind, .b p.dup, .b p.retain, .b p.clean, .b p.session, .i p.qos, .i p.id, .i p.keep, .i p.code, .s p.client, .s p.topic, .s p.payload] [.cells 0 94 [.str (.var 1), .int .i64 (.var 2), .bool (.var 3)], .cells 4 25 [.int .i64 (.var 5), .bool (.var 6), .bool (.var 7), .bool (.var 8), .bool (.var 9), .int .i64 (.var 10), .int .i64 (.var 11), .int .i64 (.var 12), .int .i64 (.var 13), .str (.var 14), .str (.var 15), .str (.var 16), .nils, .nils]] w := by
  refine rel_of (List.forall_mem_cons.2 ⟨h, List.forall_mem_cons.2 ⟨hp, List.forall_mem_nil _⟩⟩) (List.forall_mem_cons.2 ⟨fun _ k hk => ?_, List.forall_mem_cons.2 ⟨fun _ k hk => ?_, List.forall_mem_nil _⟩⟩) (List.pairwise_cons.2 ⟨fun e he _ k h1 h2 => ?_, List.pairwise_singleton _ _⟩)
  · simp only [Ent.fp, Tree.goal, X.P, X.ev, V.toI_i, V.toB_b, V.toS_s, V.toR_r, V.toV_v, V.toN_n, V.toL_l, SV.ev, CV.ev, Sc.ev, List.getD_cons_zero, List.getD_cons_succ, List.getElem?_cons_zero, List.getElem?_cons_succ, List.map_cons, List.map_nil, List.length_cons, List.length_nil, List.cons_append, List.nil_append, Nat.zero_add, Nat.reduceAdd] at hk; simp [hk]
  · simp only [Ent.fp, Tree.goal, X.P, X.ev, V.toI_i, V.toB_b, V.toS_s, V.toR_r, V.toV_v, V.toN_n, V.toL_l, SV.ev, CV.ev, Sc.ev, List.getD_cons_zero, List.getD_cons_succ, List.getElem?_cons_zero, List.getElem?_cons_succ, List.map_cons, List.map_nil, List.length_cons, List.length_nil, List.cons_append, List.nil_append, Nat.zero_add, Nat.reduceAdd] at hk; simp [hk]
  · rw [List.mem_singleton] at he; subst he
    simp only [Ent.fp, Tree.goal, X.P, X.ev, V.toI_i, V.toB_b, V.toS_s, V.toR_r, V.toV_v, V.toN_n, V.toL_l, SV.ev, CV.ev, Sc.ev, List.getD_cons_zero, List.getD_cons_succ, List.getElem?_cons_zero, List.getElem?_cons_succ, List.map_cons, List.map_nil, List.length_cons, List.length_nil, List.cons_append, List.nil_append, Nat.zero_add, Nat.reduceAdd] at h1 h2
    exact hbc (h1.symm.trans h2)
include ha hs
theorem c_rconnect : Calls Tryd.prog 89 #[.pointer (some ⟨b, 0, none⟩), .pointer (some ⟨c, 0, none⟩)] w
    fun e w' => e = .returned (.tuple #[]) ∧ rdAt w' b s (connD s p a sh).2.1 (connD s p a sh).2.2 ∧ pAt w' c (connD s p a sh).1 nilV nilV ∧ Mod [b, c] w w' := by
  refine as_called (run_tree2 (ρ := [.n b, .s s, .i a, .b sh, .n c, .i p.kind, .b p.dup, .b p.retain, .b p.clean, .b p.session, .i p.qos, .i p.id, .i p.keep, .i p.code, .s p.client, .s p.topic, .s p.payload]) sxE_ok Tryd.func89 tree_packet_reader_connect rfl rfl (rel_rp w b c s a sh p h hp hbc) rfl rfl ?_) rfl
  simp only [Tree.goal, X.P, X.ev, V.toI_i, V.toB_b, V.toS_s, V.toR_r, V.toV_v, V.toN_n, V.toL_l, SV.ev, CV.ev, Sc.ev, List.getD_cons_zero, List.getD_cons_succ, List.getElem?_cons_zero, List.getElem?_cons_succ, List.map_cons, List.map_nil, List.length_cons, List.length_nil, List.cons_append, List.nil_append, Nat.zero_add, Nat.reduceAdd]
  have t1 := rdT_bd s a sh ha
  intro w1 hr
  refine (c_rtext w1 b s a sh (hr.at_ 0 rfl) ha hs).mono ?_
  rintro e w2 ⟨rfl, h1, m1⟩
  refine ⟨[.s _, .s s, .i (_ : Nat), .b _], rfl, rfl, m1, List.forall_mem_cons.2 ⟨h1, List.forall_mem_nil _⟩, (fun x hx => absurd hx List.not_mem_nil), apart_nil, ?_⟩; (try simp only [Tree.goal, X.P, X.ev, V.toI_i, V.toB_b, V.toS_s, V.toR_r, V.toV_v, V.toN_n, V.toL_l, SV.ev, CV.ev, Sc.ev, List.getD_cons_zero, List.getD_cons_succ, List.getElem?_cons_zero, List.getElem?_cons_succ, List.map_cons, List.map_nil, List.length_cons, List.length_nil, List.cons_append, List.nil_append, Nat.zero_add, Nat.reduceAdd])
  have n1 := rdN_bd s 1 (rdT s a sh).2.1 (rdT s a sh).2.2 t1.2.1
  clear m1 h1 hr
  intro w1 hr
  refine (c_rnumber w1 b s _ _ (hr.at_ 0 rfl) t1.2.1 hs 1 (by omega)).mono ?_
  rintro e w2 ⟨rfl, h1, m1⟩
  refine ⟨[.i _, .s s, .i (_ : Nat), .b _], rfl, rfl, m1, List.forall_mem_cons.2 ⟨h1, List.forall_mem_nil _⟩, (fun x hx => absurd hx List.not_mem_nil), apart_nil, ?_⟩; (try simp only [Tree.goal, X.P, X.ev, V.toI_i, V.toB_b, V.toS_s, V.toR_r, V.toV_v, V.toN_n, V.toL_l, SV.ev, CV.ev, Sc.ev, List.getD_cons_zero, List.getD_cons_succ, List.getElem?_cons_zero, List.getElem?_cons_succ, List.map_cons, List.map_nil, List.length_cons, List.length_nil, List.cons_append, List.nil_append, Nat.zero_add, Nat.reduceAdd])
  have n2 := rdN_bd s 1 _ (rdN s 1 (rdT s a sh).2.1 (rdT s a sh).2.2).2.2 n1.2.2.2.1
  clear m1 h1 hr
  intro w1 hr
  refine (c_rnumber w1 b s _ _ (hr.at_ 0 rfl) n1.2.2.2.1 hs 1 (by omega)).mono ?_
  rintro e w2 ⟨rfl, h1, m1⟩
  refine ⟨[.i _, .s s, .i (_ : Nat), .b _], rfl, rfl, m1, List.forall_mem_cons.2 ⟨h1, List.forall_mem_nil _⟩, (fun x hx => absurd hx List.not_mem_nil), apart_nil, ?_⟩; (try simp only [Tree.goal, X.P, X.ev, V.toI_i, V.toB_b, V.toS_s, V.toR_r, V.toV_v, V.toN_n, V.toL_l, SV.ev, CV.ev, Sc.ev, List.getD_cons_zero, List.getD_cons_succ, List.getElem?_cons_zero, List.getElem?_cons_succ, List.map_cons, List.map_nil, List.length_cons, List.length_nil, List.cons_append, List.nil_append, Nat.zero_add, Nat.reduceAdd])
  have n3 := rdN_bd s 2 _ (rdN s 1 (rdN s 1 (rdT s a sh).2.1 (rdT s a sh).2.2).2.1 (rdN s 1 (rdT s a sh).2.1 (rdT s a sh).2.2).2.2).2.2 n2.2.2.2.1
  clear m1 h1 hr
  intro w1 hr
  refine (c_rnumber w1 b s _ _ (hr.at_ 0 rfl) n2.2.2.2.1 hs 2 (by omega)).mono ?_
  rintro e w2 ⟨rfl, h1, m1⟩
  refine ⟨[.i _, .s s, .i (_ : Nat), .b _], rfl, rfl, m1, List.forall_mem_cons.2 ⟨h1, List.forall_mem_nil _⟩, (fun x hx => absurd hx List.not_mem_nil), apart_nil, ?_⟩; (try simp only [Tree.goal, X.P, X.ev, V.toI_i, V.toB_b, V.toS_s, V.toR_r, V.toV_v, V.toN_n, V.toL_l, SV.ev, CV.ev, Sc.ev, List.getD_cons_zero, List.getD_cons_succ, List.getElem?_cons_zero, List.getElem?_cons_succ, List.map_cons, List.map_nil, List.length_cons, List.length_nil, List.cons_append, List.nil_append, Nat.zero_add, Nat.reduceAdd])
  clear m1 h1 hr
  intro w1 hr
  refine (c_rtext w1 b s _ _ (hr.at_ 0 rfl) n3.2.2.2.1 hs).mono ?_
  rintro e w2 ⟨rfl, h1, m1⟩
  refine ⟨[.s _, .s s, .i (_ : Nat), .b _], rfl, rfl, m1, List.forall_mem_cons.2 ⟨h1, List.forall_mem_nil _⟩, (fun x hx => absurd hx List.not_mem_nil), apart_nil, ?_⟩; (try simp only [Tree.goal, X.P, X.ev, V.toI_i, V.toB_b, V.toS_s, V.toR_r, V.toV_v, V.toN_n, V.toL_l, SV.ev, CV.ev, Sc.ev, List.getD_cons_zero, List.getD_cons_succ, List.getElem?_cons_zero, List.getElem?_cons_succ, List.map_cons, List.map_nil, List.length_cons, List.length_nil, List.cons_append, List.nil_append, Nat.zero_add, Nat.reduceAdd])
  clear m1 h1 hr
  exact fun w' hr => ⟨by trivial, hr.at_ 0 rfl, hr.at_ 1 rfl, hr.mod⟩
end
/-- What the reader's body leaves. -/
def bodyPost (w w' : World) (b c : Nat) (s : List UInt8) (r : RS) : Prop := rdAt w' b s r.2.1 r.2.2 ∧ Mod [b, c] w w' ∧ ∃ x y, pAt w' c r.1 x y ∧ owns w' x 71 [.str, .int .i64] (r.1.asks.map encA) ∧ owns w' y 3 [.int .i64] (r.1.codes.map encI) ∧
  (∀ k, blockOf x k → w.heap.size ≤ k) ∧ (∀ k, blockOf y k → w.heap.size ≤ k) ∧ ∀ k, blockOf x k → blockOf y k → False
theorem post_of {w w' : World} {b c : Nat} {s : List UInt8} {r : RS} {ρ : List V} {hp : List Ent} {x y : Value} (hr : Rel ⟨[b, c], w⟩ ρ hp w') (h0 : rdAt w' b s r.2.1 r.2.2) (h1 : pAt w' c r.1 x y)
    (o1 : owns w' x 71 [.str, .int .i64] (r.1.asks.map encA)) (o2 : owns w' y 3 [.int .i64] (r.1.codes.map encI)) {vx tx vy ty vb tb vc tc : Nat} {kx ky : List Kd} {rx ry : X} {cb cc : List Sc}
    (e2 : hp[2]? = some (.cells vb tb cb)) (e3 : hp[3]? = some (.cells vc tc cc)) (e4 : hp[4]? = some (.row vx tx kx rx)) (e5 : hp[5]? = some (.row vy ty ky ry))
    (q2 : (ρ.getD vb (.i 0)).toN = b) (q3 : (ρ.getD vc (.i 0)).toN = c) (q4 : (ρ.getD vx (.i 0)).toV = x) (q5 : (ρ.getD vy (.i 0)).toV = y) : bodyPost w w' b c s r := by
  subst q2 q3 q4 q5
  refine ⟨h0, hr.mod, _, _, h1, o1, o2, fun k hk => ?_, fun k hk => ?_, fun k hk hk' => Apart.disj hr.sep e4 e5 (by decide) (.inl rfl) hk hk'⟩
  · rcases hr.own _ (List.mem_of_getElem? e4) rfl k hk with h | h
    · exact h
    · rcases List.mem_cons.1 h with h | h
      · exact (Apart.disj hr.sep e4 e2 (by decide) (.inl rfl) hk h).elim
      · rw [List.mem_singleton] at h; exact (Apart.disj hr.sep e4 e3 (by decide) (.inl rfl) hk h).elim
  · rcases hr.own _ (List.mem_of_getElem? e5) rfl k hk with h | h
    · exact h
    · rcases List.mem_cons.1 h with h | h
      · exact (Apart.disj hr.sep e5 e2 (by decide) (.inl rfl) hk h).elim
      · rw [List.mem_singleton] at h; exact (Apart.disj hr.sep e5 e3 (by decide) (.inl rfl) hk h).elim
def bodyI (s : List UInt8) (q : RS) : List V → Prop := fun vs => ∃ x y, vs = [.s s, .i q.2.1, .b q.2.2, .i q.1.kind, .b q.1.dup, .b q.1.retain, .b q.1.clean, .b q.1.session, .i q.1.qos, .i q.1.id, .i q.1.keep, .i q.1.code, .s q.1.client, .s q.1.topic, .s q.1.payload, .v x, .r (q.1.asks.map encA), .v y, .r (q.1.codes.map encI)]
/-- What holds in the loops of asks, of codes. -/
def asksI (s : List UInt8) (q : RS) : List V → Prop := fun vs => ∃ (l : List Ak) (a : Nat) (b : Bool) (x y : Value), vs = [.s s, .i a, .b b, .i q.1.kind, .b q.1.dup, .b q.1.retain, .b q.1.clean, .b q.1.session, .i q.1.qos, .i q.1.id, .i q.1.keep, .i q.1.code, .s q.1.client, .s q.1.topic, .s q.1.payload, .v x, .r (l.map encA), .v y, .r (q.1.codes.map encI)] ∧ a ≤ s.length ∧
  (b = false → l.length ≤ a) ∧ rdAs s q.1.kind (rounds s a b) a b l = rdAs s q.1.kind (rounds s q.2.1 q.2.2) q.2.1 q.2.2 q.1.asks
def codesI (s : List UInt8) (q : RS) : List V → Prop := fun vs => ∃ (l : List Int) (a : Nat) (b : Bool) (x y : Value), vs = [.s s, .i a, .b b, .i q.1.kind, .b q.1.dup, .b q.1.retain, .b q.1.clean, .b q.1.session, .i q.1.qos, .i q.1.id, .i q.1.keep, .i q.1.code, .s q.1.client, .s q.1.topic, .s q.1.payload, .v x, .r (q.1.asks.map encA), .v y, .r (l.map encI)] ∧ a ≤ s.length ∧
  (b = false → l.length ≤ a) ∧ rdCs s (rounds s a b) a b l = rdCs s (rounds s q.2.1 q.2.2) q.2.1 q.2.2 q.1.codes
def readμ (s : List UInt8) (vs : List V) : Nat := rounds s (vs.getD 1 (.i 0)).toI.toNat (vs.getD 2 (.i 0)).toB
section
variable (w : World) (b c : Nat) (s : List UInt8) (a : Nat) (sh : Bool) (p : Pkt) (h : rdAt w b s a sh) (hp : pAt w c p nilV nilV) (hbc : b ≠ c) (ha : a ≤ s.length) (hs : s.length < 1000000000) (pz : p.asks = [] ∧ p.codes = []) (hB : BdP s p)
include h hp hbc ha hs pz hB
set_option maxHeartbeats 1000000 in
theorem c_rbody : Calls Tryd.prog 49 #[.pointer (some ⟨b, 0, none⟩), .pointer (some ⟨c, 0, none⟩)] w fun e w' => e = .returned (.tuple #[]) ∧ bodyPost w w' b c s (bodyD s p a sh) := by
  refine as_called (run_tree2 (ρ := [.n b, .s s, .i a, .b sh, .n c, .i p.kind, .b p.dup, .b p.retain, .b p.clean, .b p.session, .i p.qos, .i p.id, .i p.keep, .i p.code, .s p.client, .s p.topic, .s p.payload]) (sxE_ok.joins _) Tryd.func49 tree_packet_reader_body rfl rfl (rel_rp w b c s a sh p h hp hbc) rfl rfl ?_) rfl
  simp only [Tree.goal, X.P, X.ev, V.toI_i, V.toB_b, V.toS_s, V.toR_r, V.toV_v, V.toN_n, V.toL_l, SV.ev, CV.ev, Sc.ev, List.getD_cons_zero, List.getD_cons_succ, List.getElem?_cons_zero, List.getElem?_cons_succ, List.map_cons, List.map_nil, List.length_cons, List.length_nil, List.cons_append, List.nil_append, Nat.zero_add, Nat.reduceAdd]
  intro b1 b2
  refine ⟨bodyI s (headD s p a sh), ⟨fun h1 => ?_, fun h1 => ⟨fun h2 => ?_, fun h2 => ⟨fun h3 => ?_, fun h3 => ?_⟩⟩⟩, ?_⟩
  · intro w1 hr
    refine (c_rconnect w1 b c s a sh p (hr.at_ 2 rfl) (hr.at_ 3 rfl) hbc ha hs).mono ?_
    rintro e w2 ⟨rfl, g1, g2, m1⟩
    have hq : headD s p a sh = connD s p a sh := by rw [headD, if_pos h1]
    rw [hq]
    have za : (connD s p a sh).1.asks = [] := pz.1
    have zc : (connD s p a sh).1.codes = [] := pz.2
    generalize connD s p a sh = q at g1 g2 za zc ⊢
    refine ⟨[.s s, .i q.2.1, .b q.2.2, .i q.1.kind, .b q.1.dup, .b q.1.retain, .b q.1.clean, .b q.1.session, .i q.1.qos, .i q.1.id, .i q.1.keep, .i q.1.code, .s q.1.client, .s q.1.topic, .s q.1.payload, .v nilV, .r [], .v nilV, .r []], rfl, rfl, m1, List.forall_mem_cons.2 ⟨g1, List.forall_mem_cons.2 ⟨g2, List.forall_mem_nil _⟩⟩,
      List.forall_mem_cons.2 ⟨⟨owns_nil _ _ _, fun z hz => by cases hz⟩, List.forall_mem_cons.2 ⟨⟨owns_nil _ _ _, fun z hz => by cases hz⟩, List.forall_mem_nil _⟩⟩, List.pairwise_cons.2 ⟨fun e he _ k hk _ => (by cases hk), List.pairwise_singleton _ _⟩, ?_⟩
    simp only [Tree.goal, X.P, X.ev, V.toI_i, V.toB_b, V.toS_s, V.toR_r, V.toV_v, V.toN_n, V.toL_l, SV.ev, CV.ev, Sc.ev, List.getD_cons_zero, List.getD_cons_succ, List.getElem?_cons_zero, List.getElem?_cons_succ, List.map_cons, List.map_nil, List.length_cons, List.length_nil, List.cons_append, List.nil_append, Nat.zero_add, Nat.reduceAdd]
    exact ⟨nilV, nilV, by rw [za, zc]; rfl⟩
  · have n1 := rdN_bd s 1 a sh ha
    intro w1 hr
    refine (c_rnumber w1 b s a sh (hr.at_ 2 rfl) ha hs 1 (by omega)).mono ?_
    rintro e w2 ⟨rfl, h1, m1⟩
    refine ⟨[.i _, .s s, .i (_ : Nat), .b _], rfl, rfl, m1, List.forall_mem_cons.2 ⟨h1, List.forall_mem_nil _⟩, (fun x hx => absurd hx List.not_mem_nil), apart_nil, ?_⟩; (try simp only [Tree.goal, X.P, X.ev, V.toI_i, V.toB_b, V.toS_s, V.toR_r, V.toV_v, V.toN_n, V.toL_l, SV.ev, CV.ev, Sc.ev, List.getD_cons_zero, List.getD_cons_succ, List.getElem?_cons_zero, List.getElem?_cons_succ, List.map_cons, List.map_nil, List.length_cons, List.length_nil, List.cons_append, List.nil_append, Nat.zero_add, Nat.reduceAdd])
    clear m1 h1 hr
    intro w1 hr
    refine (c_rnumber w1 b s _ _ (hr.at_ 2 rfl) n1.2.2.2.1 hs 1 (by omega)).mono ?_
    rintro e w2 ⟨rfl, h1, m1⟩
    refine ⟨[.i _, .s s, .i (_ : Nat), .b _], rfl, rfl, m1, List.forall_mem_cons.2 ⟨h1, List.forall_mem_nil _⟩, (fun x hx => absurd hx List.not_mem_nil), apart_nil, ?_⟩; (try simp only [Tree.goal, X.P, X.ev, V.toI_i, V.toB_b, V.toS_s, V.toR_r, V.toV_v, V.toN_n, V.toL_l, SV.ev, CV.ev, Sc.ev, List.getD_cons_zero, List.getD_cons_succ, List.getElem?_cons_zero, List.getElem?_cons_succ, List.map_cons, List.map_nil, List.length_cons, List.length_nil, List.cons_append, List.nil_append, Nat.zero_add, Nat.reduceAdd])
    rw [headD, if_neg (show ¬ p.kind = 1 by assumption), if_pos h2]
    exact ⟨nilV, nilV, by simp only [pz.1, pz.2]; rfl⟩
  · intro w1 hr
    refine (c_rtext w1 b s a sh (hr.at_ 2 rfl) ha hs).mono ?_
    rintro e w2 ⟨rfl, h1, m1⟩
    refine ⟨[.s _, .s s, .i (_ : Nat), .b _], rfl, rfl, m1, List.forall_mem_cons.2 ⟨h1, List.forall_mem_nil _⟩, (fun x hx => absurd hx List.not_mem_nil), apart_nil, ?_⟩; (try simp only [Tree.goal, X.P, X.ev, V.toI_i, V.toB_b, V.toS_s, V.toR_r, V.toV_v, V.toN_n, V.toL_l, SV.ev, CV.ev, Sc.ev, List.getD_cons_zero, List.getD_cons_succ, List.getElem?_cons_zero, List.getElem?_cons_succ, List.map_cons, List.map_nil, List.length_cons, List.length_nil, List.cons_append, List.nil_append, Nat.zero_add, Nat.reduceAdd])
    rw [headD, if_neg (show ¬ p.kind = 1 by assumption), if_neg (show ¬ p.kind = 2 by assumption), if_pos h3]
    exact ⟨nilV, nilV, by simp only [pz.1, pz.2]; rfl⟩
  · rw [headD, if_neg (show ¬ p.kind = 1 by assumption), if_neg (show ¬ p.kind = 2 by assumption), if_neg (show ¬ p.kind = 3 by assumption)]
    exact ⟨nilV, nilV, by simp only [pz.1, pz.2]; rfl⟩
  obtain ⟨d1, d2, d3, d4⟩ := headD_bd (b := sh) hB ha
  rw [bodyD]
  rw [pz.1] at d3
  rw [pz.2] at d4
  generalize headD s p a sh = q at d1 d2 d3 d4 ⊢
  rintro _ - ⟨x1, y1, rfl⟩
  simp only [Tree.goal, X.P, X.ev, V.toI_i, V.toB_b, V.toS_s, V.toR_r, V.toV_v, V.toN_n, V.toL_l, SV.ev, CV.ev, Sc.ev, List.getD_cons_zero, List.getD_cons_succ, List.getElem?_cons_zero, List.getElem?_cons_succ, List.map_cons, List.map_nil, List.length_cons, List.length_nil, List.cons_append, List.nil_append, Nat.zero_add, Nat.reduceAdd]
  refine ⟨[.b (idB q.1)], rfl, fun _ w' hr => c_pid w' q.1 x1 y1 (owns.reads (hr.at_ 4 rfl)) (owns.reads (hr.at_ 5 rfl)), ?_⟩
  simp only [Tree.goal, X.P, X.ev, V.toI_i, V.toB_b, V.toS_s, V.toR_r, V.toV_v, V.toN_n, V.toL_l, SV.ev, CV.ev, Sc.ev, List.getD_cons_zero, List.getD_cons_succ, List.getElem?_cons_zero, List.getElem?_cons_succ, List.map_cons, List.map_nil, List.length_cons, List.length_nil, List.cons_append, List.nil_append, Nat.zero_add, Nat.reduceAdd]
  refine ⟨bodyI s (idD s q), ⟨fun h1 => ?_, fun h1 => ?_⟩, ?_⟩
  · intro w1 hr
    refine (c_rnumber w1 b s _ _ (hr.at_ 2 rfl) d2 hs 2 (by omega)).mono ?_
    have h1' := h1
    rintro e w2 ⟨rfl, h1, m1⟩
    refine ⟨[.i _, .s s, .i (_ : Nat), .b _], rfl, rfl, m1, List.forall_mem_cons.2 ⟨h1, List.forall_mem_nil _⟩, (fun x hx => absurd hx List.not_mem_nil), apart_nil, ?_⟩; (try simp only [Tree.goal, X.P, X.ev, V.toI_i, V.toB_b, V.toS_s, V.toR_r, V.toV_v, V.toN_n, V.toL_l, SV.ev, CV.ev, Sc.ev, List.getD_cons_zero, List.getD_cons_succ, List.getElem?_cons_zero, List.getElem?_cons_succ, List.map_cons, List.map_nil, List.length_cons, List.length_nil, List.cons_append, List.nil_append, Nat.zero_add, Nat.reduceAdd])
    rw [idD, if_pos h1']
    exact ⟨x1, y1, rfl⟩
  · rw [idD, if_neg h1]
    exact ⟨x1, y1, rfl⟩
  obtain ⟨f1, hqa, f3, f4⟩ := idD_bd d1 d2
  have hqz : (idD s q).1.asks = [] ∧ (idD s q).1.codes = [] := ⟨by rw [f3, d3], by rw [f4, d4]⟩
  generalize idD s q = q at f1 hqa hqz ⊢
  rintro _ - ⟨x2, y2, rfl⟩
  simp only [Tree.goal, X.P, X.ev, V.toI_i, V.toB_b, V.toS_s, V.toR_r, V.toV_v, V.toN_n, V.toL_l, SV.ev, CV.ev, Sc.ev, List.getD_cons_zero, List.getD_cons_succ, List.getElem?_cons_zero, List.getElem?_cons_succ, List.map_cons, List.map_nil, List.length_cons, List.length_nil, List.cons_append, List.nil_append, Nat.zero_add, Nat.reduceAdd]
  refine ⟨fun k3 => ?_, fun k3 => ⟨fun k8 => ?_, fun k8 => ⟨fun k10 => ?_, fun k10 => ⟨fun k9 => ?_, fun k9 w' hr => ?_⟩⟩⟩⟩
  · intro w1 hr
    refine (c_rleft w1 b s _ _ (hr.at_ 2 rfl) hqa).mono ?_
    rintro e w2 ⟨rfl, h1, m1⟩
    refine ⟨[.s _, .s s, .i (_ : Nat), .b _], rfl, rfl, m1, List.forall_mem_cons.2 ⟨h1, List.forall_mem_nil _⟩, (fun x hx => absurd hx List.not_mem_nil), apart_nil, ?_⟩; (try simp only [Tree.goal, X.P, X.ev, V.toI_i, V.toB_b, V.toS_s, V.toR_r, V.toV_v, V.toN_n, V.toL_l, SV.ev, CV.ev, Sc.ev, List.getD_cons_zero, List.getD_cons_succ, List.getElem?_cons_zero, List.getElem?_cons_succ, List.map_cons, List.map_nil, List.length_cons, List.length_nil, List.cons_append, List.nil_append, Nat.zero_add, Nat.reduceAdd])
    intro w' hr
    rw [tailD, if_pos k3]
    exact ⟨by trivial, post_of hr (hr.at_ 2 rfl) (hr.at_ 3 rfl) (hr.at_ 4 rfl) (hr.at_ 5 rfl) rfl rfl rfl rfl rfl rfl rfl rfl⟩
  · refine ⟨asksI s q, readμ s, ⟨q.1.asks, q.2.1, q.2.2, x2, y2, rfl, hqa, fun _ => by rw [hqz.1]; simp, rfl⟩, ?_⟩; rintro _ - ⟨l, a', b', x3, y3, rfl, ha', hl', hg⟩; simp only [Tree.goal, X.P, X.ev, V.toI_i, V.toB_b, V.toS_s, V.toR_r, V.toV_v, V.toN_n, V.toL_l, SV.ev, CV.ev, Sc.ev, List.getD_cons_zero, List.getD_cons_succ, List.getElem?_cons_zero, List.getElem?_cons_succ, List.map_cons, List.map_nil, List.length_cons, List.length_nil, List.cons_append, List.nil_append, Nat.zero_add, Nat.reduceAdd, Int.toNat_natCast, List.length_map]; refine ⟨fun hc => ?_, fun hc w' hr => ?_⟩; (· have hc' : a' < s.length ∧ b' = false := ⟨by have := hc.1; omega, by simpa using hc.2⟩; have hll := hl' hc'.2; have hA := rdA_bd s q.1.kind a' b' ha'; have hT := rdT_bd s a' b' ha'; have hst := rdAs_step (k := q.1.kind) (l := l) hc'; have hlt := rdA_lt (k := q.1.kind) hc'.1 hc'.2; intro w1 hr; refine (c_rtext w1 b s a' b' (hr.at_ 2 rfl) ha' hs).mono ?_; rintro e w2 ⟨rfl, h1, m1⟩; refine ⟨[.s _, .s s, .i (_ : Nat), .b _], rfl, rfl, m1, List.forall_mem_cons.2 ⟨h1, List.forall_mem_nil _⟩, (fun x hx => absurd hx List.not_mem_nil), apart_nil, ?_⟩; (try simp only [Tree.goal, X.P, X.ev, V.toI_i, V.toB_b, V.toS_s, V.toR_r, V.toV_v, V.toN_n, V.toL_l, SV.ev, CV.ev, Sc.ev, List.getD_cons_zero, List.getD_cons_succ, List.getElem?_cons_zero, List.getElem?_cons_succ, List.map_cons, List.map_nil, List.length_cons, List.length_nil, List.cons_append, List.nil_append, Nat.zero_add, Nat.reduceAdd]); clear m1 h1 hr; intro ba; refine ⟨fun hk => ?_, fun hk => ?_⟩; (· have e8 : rdA s q.1.kind a' b' = (((rdT s a' b').1, (rdN s 1 (rdT s a' b').2.1 (rdT s a' b').2.2).1), (rdN s 1 (rdT s a' b').2.1 (rdT s a' b').2.2).2) := by { rw [rdA, if_pos hk] }; intro w1 hr; refine (c_rnumber w1 b s _ _ (hr.at_ 3 rfl) hT.2.1 hs 1 (by omega)).mono ?_; rintro e w2 ⟨rfl, h1, m1⟩; refine ⟨[.i _, .s s, .i (_ : Nat), .b _], rfl, rfl, m1, List.forall_mem_cons.2 ⟨h1, List.forall_mem_nil _⟩, (fun x hx => absurd hx List.not_mem_nil), apart_nil, ?_⟩; (try simp only [Tree.goal, X.P, X.ev, V.toI_i, V.toB_b, V.toS_s, V.toR_r, V.toV_v, V.toN_n, V.toL_l, SV.ev, CV.ev, Sc.ev, List.getD_cons_zero, List.getD_cons_succ, List.getElem?_cons_zero, List.getElem?_cons_succ, List.map_cons, List.map_nil, List.length_cons, List.length_nil, List.cons_append, List.nil_append, Nat.zero_add, Nat.reduceAdd]); clear m1 h1 hr; intro z1; refine ⟨by (try simp only [List.length_map, List.length_nil, List.length_cons]); omega, fun z2 => ⟨⟨l ++ [(rdA s q.1.kind a' b').1], (rdA s q.1.kind a' b').2.1, (rdA s q.1.kind a' b').2.2, z2, y3, by rw [e8]; simp [encA], hA.2.1, fun h0 => ?_, by rw [← hst]; exact hg⟩, by rw [e8] at hlt; exact hlt⟩⟩; have := (hA.2.2.2.2.2.2 h0).2.2; simp only [List.length_append, List.length_cons, List.length_nil]; omega); (· have e8 : rdA s q.1.kind a' b' = (((rdT s a' b').1, 0), (rdT s a' b').2) := by { rw [rdA, if_neg hk] }; intro z1; refine ⟨by (try simp only [List.length_map, List.length_nil, List.length_cons]); omega, fun z2 => ⟨⟨l ++ [(rdA s q.1.kind a' b').1], (rdA s q.1.kind a' b').2.1, (rdA s q.1.kind a' b').2.2, z2, y3, by rw [e8]; simp [encA], hA.2.1, fun h0 => ?_, by rw [← hst]; exact hg⟩, by rw [e8] at hlt; exact hlt⟩⟩; have := (hA.2.2.2.2.2.2 h0).2.2; simp only [List.length_append, List.length_cons, List.length_nil]; omega)); (· have hc' : ¬ (a' < s.length ∧ b' = false) := fun hh => hc ⟨by have := hh.1; omega, by simp [hh.2]⟩; rw [rdAs_end hc'] at hg; have hrr : tailD s q = ({ q.1 with asks := l }, a', b') := by { unfold tailD; rw [if_neg k3, if_pos (by omega), ← hg] }; rw [hrr]; exact ⟨by trivial, post_of hr (hr.at_ 2 rfl) (hr.at_ 3 rfl) (hr.at_ 4 rfl) (hr.at_ 5 rfl) rfl rfl rfl rfl rfl rfl rfl rfl⟩)
  · refine ⟨asksI s q, readμ s, ⟨q.1.asks, q.2.1, q.2.2, x2, y2, rfl, hqa, fun _ => by rw [hqz.1]; simp, rfl⟩, ?_⟩; rintro _ - ⟨l, a', b', x3, y3, rfl, ha', hl', hg⟩; simp only [Tree.goal, X.P, X.ev, V.toI_i, V.toB_b, V.toS_s, V.toR_r, V.toV_v, V.toN_n, V.toL_l, SV.ev, CV.ev, Sc.ev, List.getD_cons_zero, List.getD_cons_succ, List.getElem?_cons_zero, List.getElem?_cons_succ, List.map_cons, List.map_nil, List.length_cons, List.length_nil, List.cons_append, List.nil_append, Nat.zero_add, Nat.reduceAdd, Int.toNat_natCast, List.length_map]; refine ⟨fun hc => ?_, fun hc w' hr => ?_⟩; (· have hc' : a' < s.length ∧ b' = false := ⟨by have := hc.1; omega, by simpa using hc.2⟩; have hll := hl' hc'.2; have hA := rdA_bd s q.1.kind a' b' ha'; have hT := rdT_bd s a' b' ha'; have hst := rdAs_step (k := q.1.kind) (l := l) hc'; have hlt := rdA_lt (k := q.1.kind) hc'.1 hc'.2; intro w1 hr; refine (c_rtext w1 b s a' b' (hr.at_ 2 rfl) ha' hs).mono ?_; rintro e w2 ⟨rfl, h1, m1⟩; refine ⟨[.s _, .s s, .i (_ : Nat), .b _], rfl, rfl, m1, List.forall_mem_cons.2 ⟨h1, List.forall_mem_nil _⟩, (fun x hx => absurd hx List.not_mem_nil), apart_nil, ?_⟩; (try simp only [Tree.goal, X.P, X.ev, V.toI_i, V.toB_b, V.toS_s, V.toR_r, V.toV_v, V.toN_n, V.toL_l, SV.ev, CV.ev, Sc.ev, List.getD_cons_zero, List.getD_cons_succ, List.getElem?_cons_zero, List.getElem?_cons_succ, List.map_cons, List.map_nil, List.length_cons, List.length_nil, List.cons_append, List.nil_append, Nat.zero_add, Nat.reduceAdd]); clear m1 h1 hr; intro ba; refine ⟨fun hk => ?_, fun hk => ?_⟩; (· have e8 : rdA s q.1.kind a' b' = (((rdT s a' b').1, (rdN s 1 (rdT s a' b').2.1 (rdT s a' b').2.2).1), (rdN s 1 (rdT s a' b').2.1 (rdT s a' b').2.2).2) := by { rw [rdA, if_pos hk] }; intro w1 hr; refine (c_rnumber w1 b s _ _ (hr.at_ 3 rfl) hT.2.1 hs 1 (by omega)).mono ?_; rintro e w2 ⟨rfl, h1, m1⟩; refine ⟨[.i _, .s s, .i (_ : Nat), .b _], rfl, rfl, m1, List.forall_mem_cons.2 ⟨h1, List.forall_mem_nil _⟩, (fun x hx => absurd hx List.not_mem_nil), apart_nil, ?_⟩; (try simp only [Tree.goal, X.P, X.ev, V.toI_i, V.toB_b, V.toS_s, V.toR_r, V.toV_v, V.toN_n, V.toL_l, SV.ev, CV.ev, Sc.ev, List.getD_cons_zero, List.getD_cons_succ, List.getElem?_cons_zero, List.getElem?_cons_succ, List.map_cons, List.map_nil, List.length_cons, List.length_nil, List.cons_append, List.nil_append, Nat.zero_add, Nat.reduceAdd]); clear m1 h1 hr; intro z1; refine ⟨by (try simp only [List.length_map, List.length_nil, List.length_cons]); omega, fun z2 => ⟨⟨l ++ [(rdA s q.1.kind a' b').1], (rdA s q.1.kind a' b').2.1, (rdA s q.1.kind a' b').2.2, z2, y3, by rw [e8]; simp [encA], hA.2.1, fun h0 => ?_, by rw [← hst]; exact hg⟩, by rw [e8] at hlt; exact hlt⟩⟩; have := (hA.2.2.2.2.2.2 h0).2.2; simp only [List.length_append, List.length_cons, List.length_nil]; omega); (· have e8 : rdA s q.1.kind a' b' = (((rdT s a' b').1, 0), (rdT s a' b').2) := by { rw [rdA, if_neg hk] }; intro z1; refine ⟨by (try simp only [List.length_map, List.length_nil, List.length_cons]); omega, fun z2 => ⟨⟨l ++ [(rdA s q.1.kind a' b').1], (rdA s q.1.kind a' b').2.1, (rdA s q.1.kind a' b').2.2, z2, y3, by rw [e8]; simp [encA], hA.2.1, fun h0 => ?_, by rw [← hst]; exact hg⟩, by rw [e8] at hlt; exact hlt⟩⟩; have := (hA.2.2.2.2.2.2 h0).2.2; simp only [List.length_append, List.length_cons, List.length_nil]; omega)); (· have hc' : ¬ (a' < s.length ∧ b' = false) := fun hh => hc ⟨by have := hh.1; omega, by simp [hh.2]⟩; rw [rdAs_end hc'] at hg; have hrr : tailD s q = ({ q.1 with asks := l }, a', b') := by { unfold tailD; rw [if_neg k3, if_pos (by omega), ← hg] }; rw [hrr]; exact ⟨by trivial, post_of hr (hr.at_ 2 rfl) (hr.at_ 3 rfl) (hr.at_ 4 rfl) (hr.at_ 5 rfl) rfl rfl rfl rfl rfl rfl rfl rfl⟩)
  · refine ⟨codesI s q, readμ s, ⟨q.1.codes, q.2.1, q.2.2, x2, y2, rfl, hqa, fun _ => by rw [hqz.2]; simp, rfl⟩, ?_⟩; rintro _ - ⟨l, a', b', x3, y3, rfl, ha', hl', hg⟩; simp only [Tree.goal, X.P, X.ev, V.toI_i, V.toB_b, V.toS_s, V.toR_r, V.toV_v, V.toN_n, V.toL_l, SV.ev, CV.ev, Sc.ev, List.getD_cons_zero, List.getD_cons_succ, List.getElem?_cons_zero, List.getElem?_cons_succ, List.map_cons, List.map_nil, List.length_cons, List.length_nil, List.cons_append, List.nil_append, Nat.zero_add, Nat.reduceAdd, Int.toNat_natCast, List.length_map]; refine ⟨fun hc => ⟨?_, ?_⟩, fun hc w' hr => ?_⟩; (· have hc' : a' < s.length ∧ b' = false := ⟨by have := hc.1; omega, by simpa using hc.2⟩; have hll := hl' hc'.2; have hA := rdN_bd s 1 a' b' ha'; have hst := rdCs_step (l := l) hc'; have hlt := rdC_lt hc'.1 hc'.2; intro w1 hr; refine (c_rnumber w1 b s a' b' (hr.at_ 2 rfl) ha' hs 1 (by omega)).mono ?_; rintro e w2 ⟨rfl, h1, m1⟩; refine ⟨[.i _, .s s, .i (_ : Nat), .b _], rfl, rfl, m1, List.forall_mem_cons.2 ⟨h1, List.forall_mem_nil _⟩, (fun x hx => absurd hx List.not_mem_nil), apart_nil, ?_⟩; (try simp only [Tree.goal, X.P, X.ev, V.toI_i, V.toB_b, V.toS_s, V.toR_r, V.toV_v, V.toN_n, V.toL_l, SV.ev, CV.ev, Sc.ev, List.getD_cons_zero, List.getD_cons_succ, List.getElem?_cons_zero, List.getElem?_cons_succ, List.map_cons, List.map_nil, List.length_cons, List.length_nil, List.cons_append, List.nil_append, Nat.zero_add, Nat.reduceAdd]); clear m1 h1 hr; intro z1; refine ⟨by (try simp only [List.length_map, List.length_nil, List.length_cons]); omega, fun z2 => ⟨⟨l ++ [(rdN s 1 a' b').1], (rdN s 1 a' b').2.1, (rdN s 1 a' b').2.2, x3, z2, by simp [encI], hA.2.2.2.1, fun h0 => ?_, by rw [← hst]; exact hg⟩, hlt⟩⟩; have := (hA.2.2.2.2.2 h0).2; simp only [List.length_append, List.length_cons, List.length_nil]; omega); (· have hc' : a' < s.length ∧ b' = false := ⟨by have := hc.1; omega, by simpa using hc.2⟩; have hll := hl' hc'.2; have hA := rdN_bd s 1 a' b' ha'; have hst := rdCs_step (l := l) hc'; have hlt := rdC_lt hc'.1 hc'.2; intro w1 hr; refine (c_rnumber w1 b s a' b' (hr.at_ 2 rfl) ha' hs 1 (by omega)).mono ?_; rintro e w2 ⟨rfl, h1, m1⟩; refine ⟨[.i _, .s s, .i (_ : Nat), .b _], rfl, rfl, m1, List.forall_mem_cons.2 ⟨h1, List.forall_mem_nil _⟩, (fun x hx => absurd hx List.not_mem_nil), apart_nil, ?_⟩; (try simp only [Tree.goal, X.P, X.ev, V.toI_i, V.toB_b, V.toS_s, V.toR_r, V.toV_v, V.toN_n, V.toL_l, SV.ev, CV.ev, Sc.ev, List.getD_cons_zero, List.getD_cons_succ, List.getElem?_cons_zero, List.getElem?_cons_succ, List.map_cons, List.map_nil, List.length_cons, List.length_nil, List.cons_append, List.nil_append, Nat.zero_add, Nat.reduceAdd]); clear m1 h1 hr; refine ⟨?_, ?_⟩; (· intro z1; refine ⟨by (try simp only [List.length_map, List.length_nil, List.length_cons]); omega, fun z2 => ⟨⟨l ++ [(rdN s 1 a' b').1], (rdN s 1 a' b').2.1, (rdN s 1 a' b').2.2, x3, z2, by simp [encI], hA.2.2.2.1, fun h0 => ?_, by rw [← hst]; exact hg⟩, hlt⟩⟩; have := (hA.2.2.2.2.2 h0).2; simp only [List.length_append, List.length_cons, List.length_nil]; omega); (· intro z1; refine ⟨by (try simp only [List.length_map, List.length_nil, List.length_cons]); omega, fun z2 => ⟨⟨l ++ [(rdN s 1 a' b').1], (rdN s 1 a' b').2.1, (rdN s 1 a' b').2.2, x3, z2, by simp [encI], hA.2.2.2.1, fun h0 => ?_, by rw [← hst]; exact hg⟩, hlt⟩⟩; have := (hA.2.2.2.2.2 h0).2; simp only [List.length_append, List.length_cons, List.length_nil]; omega)); (· have hc' : ¬ (a' < s.length ∧ b' = false) := fun hh => hc ⟨by have := hh.1; omega, by simp [hh.2]⟩; rw [rdCs_end hc'] at hg; have hrr : tailD s q = ({ q.1 with codes := l }, a', b') := by { unfold tailD; rw [if_neg k3, if_neg (by omega), if_pos k9, ← hg] }; rw [hrr]; exact ⟨by trivial, post_of hr (hr.at_ 2 rfl) (hr.at_ 3 rfl) (hr.at_ 4 rfl) (hr.at_ 5 rfl) rfl rfl rfl rfl rfl rfl rfl rfl⟩)
  · rw [tailD, if_neg k3, if_neg (by omega), if_neg k9]
    exact ⟨by trivial, post_of hr (hr.at_ 2 rfl) (hr.at_ 3 rfl) (hr.at_ 4 rfl) (hr.at_ 5 rfl) rfl rfl rfl rfl rfl rfl rfl rfl⟩
end
end Go.Proofs.YtliedecinehijaaDoor

/-
  Packets: Decode, walked. By an AI agent.
-/
set_option linter.unusedSimpArgs false
set_option linter.unusedVariables false
namespace Go.Proofs.YtliedecinehijaaDoor
open Go.Sx
theorem shr_c (c k : Nat) (hk : k < 64) : ((c : Nat) : Int).fdiv (2 ^ (Nat.min k IntKind.i64.bits)) = ((c / 2 ^ k : Nat) : Int) := by
  rw [shr_i64 _ k hk, Int.natCast_ediv]
theorem and_c8 (c : Nat) (h : c < 256) : (!decide (ibits .and .i64 (c : Int) 8 = 0)) = decide (c / 8 % 2 = 1) := by
  have : ∀ x : Fin 256, (!decide (ibits .and .i64 ((x.val : Nat) : Int) 8 = 0)) = decide (x.val / 8 % 2 = 1) := by decide +kernel
  exact this ⟨c, h⟩
theorem and_c1 (c : Nat) (h : c < 256) : (!decide (ibits .and .i64 (c : Int) 1 = 0)) = decide (c % 2 = 1) := by
  have : ∀ x : Fin 256, (!decide (ibits .and .i64 ((x.val : Nat) : Int) 1 = 0)) = decide (x.val % 2 = 1) := by decide +kernel
  exact this ⟨c, h⟩
theorem and_c3 (c : Nat) (h : c < 256) : ibits .and .i64 ((c / 2 ^ 1 : Nat) : Int) 3 = ((c / 2 % 4 : Nat) : Int) := by
  have : ∀ x : Fin 256, ibits .and .i64 ((x.val / 2 ^ 1 : Nat) : Int) 3 = ((x.val / 2 % 4 : Nat) : Int) := by decide +kernel
  exact this ⟨c, h⟩
/-- What Decode leaves: a packet whose slices are new. -/
def decPost (w w' : World) (p : Pkt) (x y : Value) : Prop := Mod [] w w' ∧ readsA w' x p.asks ∧ readsI w' y p.codes ∧ (∀ k, blockOf x k → w.heap.size ≤ k) ∧ (∀ k, blockOf y k → w.heap.size ≤ k)
theorem decPost_nil {w w' : World} (h : Mod [] w w') (k : Int) : decPost w w' (pD k) nilV nilV := ⟨h, readsA_nil _, readsI_nil _, fun k hk => (by cases hk), fun k hk => (by cases hk)⟩
set_option maxHeartbeats 1000000 in
theorem c_PDecode (w : World) (s : List UInt8) (hs : s.length ≤ 60000000) : Calls Tryd.prog 14 #[.string ⟨s.toArray⟩] w
    fun e w' => ∃ x y, e = .returned (.tuple #[pV (decD s).1 x y, .int .i64 (decD s).2]) ∧ decPost w w' (decD s).1 x y := by
  refine as_called (run_plain2 (ρ := [.s s]) sxE_ok Tryd.func14 tree_packet_Decode rfl rfl rfl ?_) rfl
  simp only [Tree.goal, X.P, X.ev, V.toI_i, V.toB_b, V.toS_s, V.toR_r, V.toV_v, V.toN_n, V.toL_l, SV.ev, CV.ev, Sc.ev, List.getD_cons_zero, List.getD_cons_succ, List.getElem?_cons_zero, List.getElem?_cons_succ, List.map_cons, List.map_nil, List.length_cons, List.length_nil, List.cons_append, List.nil_append, Nat.zero_add, Nat.reduceAdd]
  intro b1
  refine ⟨[.i (getL s 1).1, .i (getL s 1).2.1, .i (getL s 1).2.2], rfl, fun _ w' _ => c_GetLong w' s 1 (by omega), ?_⟩
  simp only [Tree.goal, X.P, X.ev, V.toI_i, V.toB_b, V.toS_s, V.toR_r, V.toV_v, V.toN_n, V.toL_l, SV.ev, CV.ev, Sc.ev, List.getD_cons_zero, List.getD_cons_succ, List.getElem?_cons_zero, List.getElem?_cons_succ, List.map_cons, List.map_nil, List.length_cons, List.length_nil, List.cons_append, List.nil_append, Nat.zero_add, Nat.reduceAdd]
  have hgb := getL_bd s 1
  refine ⟨fun h w' hr => ?_, fun h => ?_⟩
  · refine ⟨nilV, nilV, ?_⟩
    rw [decD, if_pos h]
    exact ⟨rfl, decPost_nil hr.mod 0⟩
  have hL := h
  have hl0 : (getL s 1).2.2 = 0 := Classical.not_not.1 fun hh => h (.inr hh)
  have hbd := (readP_bd hl0).1
  have hat := getL_at (a := 1) hl0
  have hln : (1 + (getL s 1).2.1).toNat ≤ s.length := hat.2.1
  have hz : Int.toNat 0 = 0 := rfl
  have h4 : (Int.toNat 4) = 4 := rfl
  have h1 : (Int.toNat 1) = 1 := rfl
  simp only [hz, h4, h1]
  have hc := u8_lt (s.getD 0 0)
  generalize hcc : (s.getD 0 0).toNat = c at hc ⊢
  have hrd : bodyD s (begP c) (1 + (getL s 1).2.1).toNat false = readP s := by rw [readP, hcc]
  have hbg := begP_bd s c hc
  have hbz : (begP c).asks = [] ∧ (begP c).codes = [] := by unfold begP; split <;> exact ⟨rfl, rfl⟩
  have hat1 : (1 + (getL s 1).2.1) = ((1 + (getL s 1).2.1).toNat : Nat) := by omega
  refine ⟨by have := hat.1; omega, fun b5 => ?_⟩
  rw [shr_c c 4 (by omega)]
  have e16 : c / 2 ^ 4 = c / 16 := rfl
  rw [e16]
  refine ⟨fun h3 => ⟨by omega, by omega, fun b6 => ?_⟩, fun h3 => ⟨by omega, by omega, fun b6 => ?_⟩⟩
  · have eb : begP c = { pD 3 with dup := decide (c / 8 % 2 = 1), qos := ((c / 2 % 4 : Nat) : Int), retain := decide (c % 2 = 1) } := by rw [begP, if_pos (by omega)]; rfl
    intro w1 hr
    have q1 : rdAt w1 b6 s (1 + (getL s 1).2.1).toNat false := by
      have := hr.at_ 0 rfl
      simp only [Ent.holds, Tree.goal, X.P, X.ev, V.toI_i, V.toB_b, V.toS_s, V.toR_r, V.toV_v, V.toN_n, V.toL_l, SV.ev, CV.ev, Sc.ev, List.getD_cons_zero, List.getD_cons_succ, List.getElem?_cons_zero, List.getElem?_cons_succ, List.map_cons, List.map_nil, List.length_cons, List.length_nil, List.cons_append, List.nil_append, Nat.zero_add, Nat.reduceAdd] at this
      rw [hat1] at this
      exact this
    have q2 : pAt w1 b5 (begP c) nilV nilV := by
      have := hr.at_ 1 rfl
      simp only [Ent.holds, Tree.goal, X.P, X.ev, V.toI_i, V.toB_b, V.toS_s, V.toR_r, V.toV_v, V.toN_n, V.toL_l, SV.ev, CV.ev, Sc.ev, List.getD_cons_zero, List.getD_cons_succ, List.getElem?_cons_zero, List.getElem?_cons_succ, List.map_cons, List.map_nil, List.length_cons, List.length_nil, List.cons_append, List.nil_append, Nat.zero_add, Nat.reduceAdd, hz, h4, h1] at this
      rw [hcc, shr_c c 4 (by omega), shr_c c 1 (by omega), and_c8 c hc, and_c1 c hc, and_c3 c hc, e16, h3] at this
      rw [eb]; exact this
    refine (c_rbody w1 b6 b5 s _ false (begP c) q1 q2 (fun e => Apart.disj hr.sep (i := 0) (j := 1) rfl rfl (by decide) (.inl rfl) (k := b6) (by simp only [Ent.fp, Tree.goal, X.P, X.ev, V.toI_i, V.toB_b, V.toS_s, V.toR_r, V.toV_v, V.toN_n, V.toL_l, SV.ev, CV.ev, Sc.ev, List.getD_cons_zero, List.getD_cons_succ, List.getElem?_cons_zero, List.getElem?_cons_succ, List.map_cons, List.map_nil, List.length_cons, List.length_nil, List.cons_append, List.nil_append, Nat.zero_add, Nat.reduceAdd]) (by simp only [Ent.fp, Tree.goal, X.P, X.ev, V.toI_i, V.toB_b, V.toS_s, V.toR_r, V.toV_v, V.toN_n, V.toL_l, SV.ev, CV.ev, Sc.ev, List.getD_cons_zero, List.getD_cons_succ, List.getElem?_cons_zero, List.getElem?_cons_succ, List.map_cons, List.map_nil, List.length_cons, List.length_nil, List.cons_append, List.nil_append, Nat.zero_add, Nat.reduceAdd]; exact e)) hln (by omega) hbz hbg).mono ?_
    rintro e w2 ⟨rfl, g1, m1, x, y, g2, o1, o2, fx, fy, fxy⟩; rw [hrd] at g1 g2 o1 o2; (generalize hr0 : readP s = r at g1 g2 o1 o2 hbd ⊢); refine ⟨[.s s, .i r.2.1, .b r.2.2, .i r.1.kind, .b r.1.dup, .b r.1.retain, .b r.1.clean, .b r.1.session, .i r.1.qos, .i r.1.id, .i r.1.keep, .i r.1.code, .s r.1.client, .s r.1.topic, .s r.1.payload, .v x, .r (r.1.asks.map encA), .v y, .r (r.1.codes.map encI)], rfl, rfl, m1, List.forall_mem_cons.2 ⟨g1, List.forall_mem_cons.2 ⟨g2, List.forall_mem_nil _⟩⟩, List.forall_mem_cons.2 ⟨⟨o1, fun k hk => .inl (fx k hk)⟩, List.forall_mem_cons.2 ⟨⟨o2, fun k hk => .inl (fy k hk)⟩, List.forall_mem_nil _⟩⟩, List.pairwise_cons.2 ⟨fun e he _ k hk hk' => by { rw [List.mem_singleton] at he; subst he; exact fxy k hk hk' }, List.pairwise_singleton _ _⟩, ?_⟩; simp only [Tree.goal, X.P, X.ev, V.toI_i, V.toB_b, V.toS_s, V.toR_r, V.toV_v, V.toN_n, V.toL_l, SV.ev, CV.ev, Sc.ev, List.getD_cons_zero, List.getD_cons_succ, List.getElem?_cons_zero, List.getElem?_cons_succ, List.map_cons, List.map_nil, List.length_cons, List.length_nil, List.cons_append, List.nil_append, Nat.zero_add, Nat.reduceAdd]; refine ⟨[.b (kindB r.1.kind)], rfl, fun _ w' _ => c_pkind w' _, ?_⟩; simp only [Tree.goal, X.P, X.ev, V.toI_i, V.toB_b, V.toS_s, V.toR_r, V.toV_v, V.toN_n, V.toL_l, SV.ev, CV.ev, Sc.ev, List.getD_cons_zero, List.getD_cons_succ, List.getElem?_cons_zero, List.getElem?_cons_succ, List.map_cons, List.map_nil, List.length_cons, List.length_nil, List.cons_append, List.nil_append, Nat.zero_add, Nat.reduceAdd]; refine ⟨[.s (bytesP r.1)], rfl, fun _ w' hr => c_PBytes w' r.1 x y (owns.reads (hr.at_ 0 rfl)) (owns.reads (hr.at_ 1 rfl)) (hbd.byte hs), ?_⟩; simp only [Tree.goal, X.P, X.ev, V.toI_i, V.toB_b, V.toS_s, V.toR_r, V.toV_v, V.toN_n, V.toL_l, SV.ev, CV.ev, Sc.ev, List.getD_cons_zero, List.getD_cons_succ, List.getElem?_cons_zero, List.getElem?_cons_succ, List.map_cons, List.map_nil, List.length_cons, List.length_nil, List.cons_append, List.nil_append, Nat.zero_add, Nat.reduceAdd]; refine ⟨fun h w' hr => ?_, fun h => ?_⟩; (· have hn : r.2.2 = true ∨ kindB r.1.kind = false ∨ 1 < r.1.qos ∨ bytesP r.1 ≠ s := h.elim (fun h => h.elim (fun h => h.elim .inl (fun h => .inr (.inl (by simpa using h)))) (fun h => .inr (.inr (.inl h)))) (fun h => .inr (.inr (.inr h))); refine ⟨nilV, nilV, ?_⟩; rw [decD, if_neg hL, hr0, if_pos hn]; exact ⟨rfl, decPost_nil hr.mod 0⟩); have hn : ¬ (r.2.2 = true ∨ kindB r.1.kind = false ∨ 1 < r.1.qos ∨ bytesP r.1 ≠ s) := (fun hh => hh.elim (fun a => h (.inl (.inl (.inl a)))) (fun hh => hh.elim (fun a => h (.inl (.inl (.inr (by simp [a]))))) (fun hh => hh.elim (fun a => h (.inl (.inr a))) (fun a => h (.inr a))))); refine ⟨[.i (chkP r.1)], rfl, fun _ w' hr => c_PCheck w' r.1 x y (owns.reads (hr.at_ 0 rfl)) (owns.reads (hr.at_ 1 rfl)) (hbd.small hs), ?_⟩; simp only [Tree.goal, X.P, X.ev, V.toI_i, V.toB_b, V.toS_s, V.toR_r, V.toV_v, V.toN_n, V.toL_l, SV.ev, CV.ev, Sc.ev, List.getD_cons_zero, List.getD_cons_succ, List.getElem?_cons_zero, List.getElem?_cons_succ, List.map_cons, List.map_nil, List.length_cons, List.length_nil, List.cons_append, List.nil_append, Nat.zero_add, Nat.reduceAdd]; refine ⟨fun h2 w' hr => ?_, fun h2 w' hr => ?_⟩; (· refine ⟨nilV, nilV, ?_⟩; rw [decD, if_neg hL, hr0, if_neg hn, if_neg h2]; exact ⟨rfl, decPost_nil hr.mod 0⟩); (· refine ⟨x, y, ?_⟩; rw [decD, if_neg hL, hr0, if_neg hn, if_pos (Classical.not_not.1 h2)]; exact ⟨rfl, hr.mod, owns.reads (hr.at_ 0 rfl), owns.reads (hr.at_ 1 rfl), fun k hk => (hr.own _ (List.mem_of_getElem? (i := 0) rfl) rfl k hk).resolve_right (by simp), fun k hk => (hr.own _ (List.mem_of_getElem? (i := 1) rfl) rfl k hk).resolve_right (by simp)⟩)
  · have eb : begP c = pD ((c / 16 : Nat) : Int) := by rw [begP, if_neg (by omega)]
    intro w1 hr
    have q1 : rdAt w1 b6 s (1 + (getL s 1).2.1).toNat false := by
      have := hr.at_ 0 rfl
      simp only [Ent.holds, Tree.goal, X.P, X.ev, V.toI_i, V.toB_b, V.toS_s, V.toR_r, V.toV_v, V.toN_n, V.toL_l, SV.ev, CV.ev, Sc.ev, List.getD_cons_zero, List.getD_cons_succ, List.getElem?_cons_zero, List.getElem?_cons_succ, List.map_cons, List.map_nil, List.length_cons, List.length_nil, List.cons_append, List.nil_append, Nat.zero_add, Nat.reduceAdd] at this
      rw [hat1] at this
      exact this
    have q2 : pAt w1 b5 (begP c) nilV nilV := by
      have := hr.at_ 1 rfl
      simp only [Ent.holds, Tree.goal, X.P, X.ev, V.toI_i, V.toB_b, V.toS_s, V.toR_r, V.toV_v, V.toN_n, V.toL_l, SV.ev, CV.ev, Sc.ev, List.getD_cons_zero, List.getD_cons_succ, List.getElem?_cons_zero, List.getElem?_cons_succ, List.map_cons, List.map_nil, List.length_cons, List.length_nil, List.cons_append, List.nil_append, Nat.zero_add, Nat.reduceAdd, hz, h4, h1] at this
      rw [hcc, shr_c c 4 (by omega), e16] at this
      rw [eb]; exact this
    refine (c_rbody w1 b6 b5 s _ false (begP c) q1 q2 (fun e => Apart.disj hr.sep (i := 0) (j := 1) rfl rfl (by decide) (.inl rfl) (k := b6) (by simp only [Ent.fp, Tree.goal, X.P, X.ev, V.toI_i, V.toB_b, V.toS_s, V.toR_r, V.toV_v, V.toN_n, V.toL_l, SV.ev, CV.ev, Sc.ev, List.getD_cons_zero, List.getD_cons_succ, List.getElem?_cons_zero, List.getElem?_cons_succ, List.map_cons, List.map_nil, List.length_cons, List.length_nil, List.cons_append, List.nil_append, Nat.zero_add, Nat.reduceAdd]) (by simp only [Ent.fp, Tree.goal, X.P, X.ev, V.toI_i, V.toB_b, V.toS_s, V.toR_r, V.toV_v, V.toN_n, V.toL_l, SV.ev, CV.ev, Sc.ev, List.getD_cons_zero, List.getD_cons_succ, List.getElem?_cons_zero, List.getElem?_cons_succ, List.map_cons, List.map_nil, List.length_cons, List.length_nil, List.cons_append, List.nil_append, Nat.zero_add, Nat.reduceAdd]; exact e)) hln (by omega) hbz hbg).mono ?_
    rintro e w2 ⟨rfl, g1, m1, x, y, g2, o1, o2, fx, fy, fxy⟩; rw [hrd] at g1 g2 o1 o2; (generalize hr0 : readP s = r at g1 g2 o1 o2 hbd ⊢); refine ⟨[.s s, .i r.2.1, .b r.2.2, .i r.1.kind, .b r.1.dup, .b r.1.retain, .b r.1.clean, .b r.1.session, .i r.1.qos, .i r.1.id, .i r.1.keep, .i r.1.code, .s r.1.client, .s r.1.topic, .s r.1.payload, .v x, .r (r.1.asks.map encA), .v y, .r (r.1.codes.map encI)], rfl, rfl, m1, List.forall_mem_cons.2 ⟨g1, List.forall_mem_cons.2 ⟨g2, List.forall_mem_nil _⟩⟩, List.forall_mem_cons.2 ⟨⟨o1, fun k hk => .inl (fx k hk)⟩, List.forall_mem_cons.2 ⟨⟨o2, fun k hk => .inl (fy k hk)⟩, List.forall_mem_nil _⟩⟩, List.pairwise_cons.2 ⟨fun e he _ k hk hk' => by { rw [List.mem_singleton] at he; subst he; exact fxy k hk hk' }, List.pairwise_singleton _ _⟩, ?_⟩; simp only [Tree.goal, X.P, X.ev, V.toI_i, V.toB_b, V.toS_s, V.toR_r, V.toV_v, V.toN_n, V.toL_l, SV.ev, CV.ev, Sc.ev, List.getD_cons_zero, List.getD_cons_succ, List.getElem?_cons_zero, List.getElem?_cons_succ, List.map_cons, List.map_nil, List.length_cons, List.length_nil, List.cons_append, List.nil_append, Nat.zero_add, Nat.reduceAdd]; refine ⟨[.b (kindB r.1.kind)], rfl, fun _ w' _ => c_pkind w' _, ?_⟩; simp only [Tree.goal, X.P, X.ev, V.toI_i, V.toB_b, V.toS_s, V.toR_r, V.toV_v, V.toN_n, V.toL_l, SV.ev, CV.ev, Sc.ev, List.getD_cons_zero, List.getD_cons_succ, List.getElem?_cons_zero, List.getElem?_cons_succ, List.map_cons, List.map_nil, List.length_cons, List.length_nil, List.cons_append, List.nil_append, Nat.zero_add, Nat.reduceAdd]; refine ⟨[.s (bytesP r.1)], rfl, fun _ w' hr => c_PBytes w' r.1 x y (owns.reads (hr.at_ 0 rfl)) (owns.reads (hr.at_ 1 rfl)) (hbd.byte hs), ?_⟩; simp only [Tree.goal, X.P, X.ev, V.toI_i, V.toB_b, V.toS_s, V.toR_r, V.toV_v, V.toN_n, V.toL_l, SV.ev, CV.ev, Sc.ev, List.getD_cons_zero, List.getD_cons_succ, List.getElem?_cons_zero, List.getElem?_cons_succ, List.map_cons, List.map_nil, List.length_cons, List.length_nil, List.cons_append, List.nil_append, Nat.zero_add, Nat.reduceAdd]; refine ⟨fun h w' hr => ?_, fun h => ?_⟩; (· have hn : r.2.2 = true ∨ kindB r.1.kind = false ∨ 1 < r.1.qos ∨ bytesP r.1 ≠ s := h.elim (fun h => h.elim (fun h => h.elim .inl (fun h => .inr (.inl (by simpa using h)))) (fun h => .inr (.inr (.inl h)))) (fun h => .inr (.inr (.inr h))); refine ⟨nilV, nilV, ?_⟩; rw [decD, if_neg hL, hr0, if_pos hn]; exact ⟨rfl, decPost_nil hr.mod 0⟩); have hn : ¬ (r.2.2 = true ∨ kindB r.1.kind = false ∨ 1 < r.1.qos ∨ bytesP r.1 ≠ s) := (fun hh => hh.elim (fun a => h (.inl (.inl (.inl a)))) (fun hh => hh.elim (fun a => h (.inl (.inl (.inr (by simp [a]))))) (fun hh => hh.elim (fun a => h (.inl (.inr a))) (fun a => h (.inr a))))); refine ⟨[.i (chkP r.1)], rfl, fun _ w' hr => c_PCheck w' r.1 x y (owns.reads (hr.at_ 0 rfl)) (owns.reads (hr.at_ 1 rfl)) (hbd.small hs), ?_⟩; simp only [Tree.goal, X.P, X.ev, V.toI_i, V.toB_b, V.toS_s, V.toR_r, V.toV_v, V.toN_n, V.toL_l, SV.ev, CV.ev, Sc.ev, List.getD_cons_zero, List.getD_cons_succ, List.getElem?_cons_zero, List.getElem?_cons_succ, List.map_cons, List.map_nil, List.length_cons, List.length_nil, List.cons_append, List.nil_append, Nat.zero_add, Nat.reduceAdd]; refine ⟨fun h2 w' hr => ?_, fun h2 w' hr => ?_⟩; (· refine ⟨nilV, nilV, ?_⟩; rw [decD, if_neg hL, hr0, if_neg hn, if_neg h2]; exact ⟨rfl, decPost_nil hr.mod 0⟩); (· refine ⟨x, y, ?_⟩; rw [decD, if_neg hL, hr0, if_neg hn, if_pos (Classical.not_not.1 h2)]; exact ⟨rfl, hr.mod, owns.reads (hr.at_ 0 rfl), owns.reads (hr.at_ 1 rfl), fun k hk => (hr.own _ (List.mem_of_getElem? (i := 0) rfl) rfl k hk).resolve_right (by simp), fun k hk => (hr.own _ (List.mem_of_getElem? (i := 1) rfl) rfl k hk).resolve_right (by simp)⟩)
theorem pD_small (k : Int) : SmallP (pD k) := ⟨by simp, by simp, by simp, by simp, by simp, fun a ha => by cases ha⟩
theorem decD_small {s : List UInt8} (hs : s.length ≤ 60000000) : SmallP (decD s).1 := by
  unfold decD
  split
  · exact pD_small 0
  · rename_i h
    have hl0 : (getL s 1).2.2 = 0 := Classical.not_not.1 fun hh => h (.inr hh)
    have := (readP_bd hl0).1.small hs
    split
    · exact pD_small 0
    · split
      · exact this
      · exact pD_small 0
end Go.Proofs.YtliedecinehijaaDoor
