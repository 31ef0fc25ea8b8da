/-
  Packets: what is told is read; in plain terms. By an AI agent.
-/
import Derived.Test.YtliedecinehijaaDoorQa
set_option linter.unusedSimpArgs false
set_option linter.unusedVariables false
namespace Go.Proofs.YtliedecinehijaaDoor
open Go.Sx

theorem bare_iff (p : Pkt) : bareP p = pD p.kind ↔ (p.kind ≠ 1 → p.client = [] ∧ p.clean = false ∧ p.keep = 0) ∧ (p.kind ≠ 2 → p.session = false ∧ p.code = 0) ∧
    (p.kind ≠ 3 → p.dup = false ∧ p.retain = false ∧ p.qos = 0 ∧ p.topic = [] ∧ p.payload = []) ∧ (¬ ((3 ≤ p.kind ∧ p.kind ≤ 4) ∨ (8 ≤ p.kind ∧ p.kind ≤ 11)) → p.id = 0) ∧
    (p.kind ≠ 8 ∧ p.kind ≠ 10 → p.asks = []) ∧ (p.kind ≠ 9 → p.codes = []) := by
  obtain ⟨k, d, r, c, s, q, i, ke, co, cl, t, pl, a, cs⟩ := p
  unfold bareP
  simp only
  by_cases h1 : k = 1
  · subst h1; simp only [if_true, Pkt.mk.injEq]; simp; grind
  rw [if_neg h1]
  by_cases h2 : k = 2
  · subst h2; simp only [if_true, Pkt.mk.injEq]; simp; grind
  rw [if_neg h2]
  by_cases h3 : k = 3
  · subst h3; simp only [if_true, Pkt.mk.injEq]; simp; grind
  rw [if_neg h3]
  by_cases h4 : k = 4 ∨ k = 11
  · rw [if_pos h4]; rcases h4 with rfl | rfl <;> simp only [Pkt.mk.injEq] <;> simp <;> grind
  rw [if_neg h4]
  by_cases h5 : k = 8 ∨ k = 10
  · rw [if_pos h5]; rcases h5 with rfl | rfl <;> simp only [Pkt.mk.injEq] <;> simp <;> grind
  rw [if_neg h5]
  by_cases h6 : k = 9
  · subst h6; simp only [if_true, Pkt.mk.injEq]; simp; grind
  rw [if_neg h6]
  have h7 : ¬ ((3 ≤ k ∧ k ≤ 4) ∨ (8 ≤ k ∧ k ≤ 11)) := by omega
  have h8 : k ≠ 8 ∧ k ≠ 10 := by omega
  simp only [Pkt.mk.injEq, h7, h8, ne_eq, h1, h2, h3, h6, not_false_eq_true, true_implies, true_and, and_true]
  grind

/-- A packet that can be told and read. -/
structure FormP (p : Pkt) : Prop where
  kind : kindB p.kind = true
  bare : bareP p = pD p.kind
  qos : 0 ≤ p.qos ∧ p.qos ≤ 1
  keep : 0 ≤ p.keep ∧ p.keep < 65536
  code : 0 ≤ p.code ∧ p.code < 256
  id : 0 ≤ p.id ∧ p.id < 65536
  noid : idB p = false → p.id = 0
  client : p.client.length < 65536
  topic : p.topic.length < 65536
  asks : ∀ a ∈ p.asks, a.1.length < 65536 ∧ 0 ≤ a.2 ∧ a.2 < 256 ∧ (p.kind ≠ 8 → a.2 = 0)
  codes : ∀ c ∈ p.codes, 0 ≤ c ∧ c < 256

theorem rdN_at {s t : List UInt8} {k a n : Nat} (b : Bool) (h : s.drop a = numB k n ++ t) (ha : a ≤ s.length) (hn : n < pw k) : rdN s k a b = ((n : Int), a + k, b) ∧ s.drop (a + k) = t ∧ a + k ≤ s.length := by
  have hl : s.length - a = k + t.length := by
    rw [← List.length_drop, h, List.length_append, numB_len]
  have e : (s.drop a).take k = numB k n := by
    rw [h]; exact List.take_left' (numB_len k n)
  refine ⟨?_, ?_, by omega⟩
  · rw [rdN, if_pos (by omega), e, beN_numB k n hn]
  · rw [← List.drop_drop, h]; exact List.drop_left' (numB_len k n)
theorem rdNi_at {s t : List UInt8} {k a : Nat} {n : Int} (b : Bool) (h : s.drop a = numB k n ++ t) (ha : a ≤ s.length) (h0 : 0 ≤ n) (hn : n < pw k) : rdN s k a b = (n, a + k, b) ∧ s.drop (a + k) = t ∧ a + k ≤ s.length := by
  obtain ⟨m, rfl⟩ : ∃ m : Nat, n = m := ⟨n.toNat, by omega⟩
  exact rdN_at b h ha (by omega)
theorem rdT_at {s t x : List UInt8} {a : Nat} (b : Bool) (h : s.drop a = txtB x ++ t) (ha : a ≤ s.length) (hx : x.length < 65536) : rdT s a b = (x, a + 2 + x.length, b) ∧ s.drop (a + 2 + x.length) = t ∧ a + 2 + x.length ≤ s.length := by
  have hh : s.drop a = numB 2 (x.length : Nat) ++ (x ++ t) := by rw [h, txtB, List.append_assoc]
  have hl : s.length - a = 2 + (x.length + t.length) := by
    rw [← List.length_drop, hh, List.length_append, numB_len, List.length_append]
  have e : (s.drop a).take 2 = numB 2 (x.length : Nat) := by
    rw [hh]; exact List.take_left' (numB_len 2 _)
  have e1 : beN ((s.drop a).take 2) 0 = x.length := by rw [e]; exact beN_numB 2 _ hx
  have e2 : s.drop (a + 2) = x ++ t := by rw [← List.drop_drop, hh]; exact List.drop_left' (numB_len 2 _)
  refine ⟨?_, ?_, by omega⟩
  · rw [rdT, e1, if_pos (by omega), e2, List.take_left]
  · rw [← List.drop_drop, e2, List.drop_left]
theorem rdA_at {s t : List UInt8} {k : Int} {a : Nat} {x : Ak} (b : Bool) (h : s.drop a = askB k x ++ t) (ha : a ≤ s.length) (hx : x.1.length < 65536 ∧ 0 ≤ x.2 ∧ x.2 < 256 ∧ (k ≠ 8 → x.2 = 0)) :
    ∃ a', rdA s k a b = (x, a', b) ∧ s.drop a' = t ∧ a' ≤ s.length ∧ a + 2 ≤ a' := by
  by_cases hk : k = 8
  · have h' : s.drop a = txtB x.1 ++ (numB 1 x.2 ++ t) := by rw [h, askB, if_pos hk, List.append_assoc]
    obtain ⟨q1, q2, q3⟩ := rdT_at b h' ha hx.1
    obtain ⟨r1, r2, r3⟩ := rdNi_at b q2 q3 hx.2.1 (by show x.2 < 256; omega)
    refine ⟨_, ?_, r2, r3, by omega⟩
    rw [rdA, if_pos hk, q1]
    simp only [r1]
  · have h' : s.drop a = txtB x.1 ++ t := by rw [h, askB, if_neg hk, List.append_nil]
    obtain ⟨q1, q2, q3⟩ := rdT_at b h' ha hx.1
    refine ⟨_, ?_, q2, q3, by omega⟩
    rw [rdA, if_neg hk, q1]
    have := hx.2.2.2 hk
    simp only [Prod.mk.injEq, and_true]
    exact Prod.ext rfl this.symm
theorem rdAs_at {s : List UInt8} {k : Int} : ∀ (xs l : List Ak) (f a : Nat), s.drop a = (xs.map (askB k)).flatten → a ≤ s.length → (∀ x ∈ xs, x.1.length < 65536 ∧ 0 ≤ x.2 ∧ x.2 < 256 ∧ (k ≠ 8 → x.2 = 0)) → s.length + 1 - a ≤ f →
    rdAs s k f a false l = (l ++ xs, s.length, false)
  | [], l, f, a, h, ha, _, hf => by
    obtain ⟨g, rfl⟩ : ∃ g, f = g + 1 := ⟨f - 1, by omega⟩
    have : s.length - a = 0 := by rw [← List.length_drop, h]; rfl
    rw [rdAs, if_neg (by omega), List.append_nil]
    have : a = s.length := by omega
    rw [this]
  | x :: xs, l, f, a, h, ha, hx, hf => by
    obtain ⟨g, rfl⟩ : ∃ g, f = g + 1 := ⟨f - 1, by omega⟩
    rw [List.map_cons, List.flatten_cons] at h
    obtain ⟨a', h1, h2, h3, h4⟩ := rdA_at false h ha (hx x (List.mem_cons_self ..))
    rw [rdAs, if_pos ⟨by omega, rfl⟩, h1]
    simp only
    rw [rdAs_at xs _ g a' h2 h3 (fun y hy => hx y (List.mem_cons_of_mem _ hy)) (by omega)]
    simp
theorem rdCs_at {s : List UInt8} : ∀ (xs l : List Int) (f a : Nat), s.drop a = (xs.map (numB 1)).flatten → a ≤ s.length → (∀ x ∈ xs, 0 ≤ x ∧ x < 256) → s.length + 1 - a ≤ f →
    rdCs s f a false l = (l ++ xs, s.length, false)
  | [], l, f, a, h, ha, _, hf => by
    obtain ⟨g, rfl⟩ : ∃ g, f = g + 1 := ⟨f - 1, by omega⟩
    have : s.length - a = 0 := by rw [← List.length_drop, h]; rfl
    rw [rdCs, if_neg (by omega), List.append_nil]
    have : a = s.length := by omega
    rw [this]
  | x :: xs, l, f, a, h, ha, hx, hf => by
    obtain ⟨g, rfl⟩ : ∃ g, f = g + 1 := ⟨f - 1, by omega⟩
    rw [List.map_cons, List.flatten_cons] at h
    have hx0 := hx x (List.mem_cons_self ..)
    obtain ⟨h1, h2, h3⟩ := rdNi_at false h ha hx0.1 (by show x < 256; omega)
    rw [rdCs, if_pos ⟨by omega, rfl⟩, h1]
    simp only
    rw [rdCs_at xs _ g (a + 1) h2 h3 (fun y hy => hx y (List.mem_cons_of_mem _ hy)) (by omega)]
    simp

theorem begP_first {p : Pkt} (h : FormP p) : begP (UInt8.ofNat (firstB p % 256).toNat).toNat = { pD p.kind with dup := p.dup, qos := p.qos, retain := p.retain } := by
  have hb := (bare_iff p).1 h.bare
  have hk := h.kind
  have hq := h.qos
  simp only [kindB, decide_eq_true_eq] at hk
  have hf : 0 ≤ firstB p ∧ firstB p < 256 ∧ firstB p / 16 = p.kind := by
    unfold firstB bit
    split
    · split <;> split <;> omega
    · split <;> omega
  have e1 : (UInt8.ofNat (firstB p % 256).toNat).toNat = (firstB p).toNat := by simp; omega
  rw [e1, begP]
  have e2 : (((firstB p).toNat / 16 : Nat) : Int) = p.kind := by omega
  by_cases h3 : p.kind = 3
  · rw [if_pos (by omega)]
    have hv : firstB p = 48 + (bit p.dup 8 + 2 * p.qos + bit p.retain 1) := by rw [firstB, if_pos h3, h3]; rfl
    unfold bit at hv
    rw [h3]
    simp only [Pkt.mk.injEq, and_true, true_and]
    refine ⟨?_, ?_, ?_⟩
    · cases hd : p.dup <;> cases hr : p.retain <;> simp [hd, hr] at hv ⊢ <;> omega
    · cases hd : p.dup <;> cases hr : p.retain <;> simp [hd, hr] at hv ⊢ <;> omega
    · cases hd : p.dup <;> cases hr : p.retain <;> simp [hd, hr] at hv ⊢ <;> omega
  · rw [if_neg (by omega), e2]
    obtain ⟨b1, b2, b3, -, -⟩ := hb.2.2.1 h3
    rw [b1, b2, b3]

theorem body_at {p : Pkt} (h : FormP p) {s : List UInt8} {a : Nat} (hs : s.drop a = bodyB p) (ha : a ≤ s.length) :
    bodyD s { pD p.kind with dup := p.dup, qos := p.qos, retain := p.retain } a false = (p, s.length, false) := by
  have hb := (bare_iff p).1 h.bare
  have hk := h.kind
  have hno := h.noid
  have hask := h.asks
  have hcod := h.codes
  have hkeep := h.keep
  have hcode := h.code
  have hid := h.id
  have hcl := h.client
  have htp := h.topic
  have hqos := h.qos
  obtain ⟨k, d, r, c, se, q, i, ke, co, cl, t, pl, az, cs⟩ := p
  simp only [kindB, decide_eq_true_eq] at hk
  simp only at hb hno hask hcod hkeep hcode hid hcl htp hqos hs ⊢
  obtain ⟨b1, b2, b3, b4, b5, b6⟩ := hb
  have hend : ∀ {x : Nat}, s.drop x = [] → x ≤ s.length → x = s.length := fun {x} hx hx2 => by
    have : s.length - x = 0 := by rw [← List.length_drop, hx]; rfl
    omega
  by_cases k1 : k = 1
  · subst k1
    obtain ⟨rfl, rfl⟩ := b2 (by omega)
    obtain ⟨rfl, rfl, rfl, rfl, rfl⟩ := b3 (by omega)
    obtain rfl := b4 (by omega)
    obtain rfl := b5 (by omega)
    obtain rfl := b6 (by omega)
    have e : s.drop a = txtB [77, 81, 84, 84] ++ (numB 1 4 ++ (numB 1 (bit c 2) ++ (numB 2 ke ++ (txtB cl ++ [])))) := by
      rw [hs]; simp [bodyB, headB, idB]
    obtain ⟨q1, q2, q3⟩ := rdT_at false e ha (by decide)
    obtain ⟨r1, r2, r3⟩ := rdNi_at false q2 q3 (by omega) (by decide)
    obtain ⟨s1, s2, s3⟩ := rdNi_at false r2 r3 (by unfold bit; split <;> omega) (by show bit c 2 < 256; unfold bit; split <;> omega)
    obtain ⟨t1, t2, t3⟩ := rdNi_at false s2 s3 hkeep.1 (by show ke < 65536; omega)
    obtain ⟨u1, u2, u3⟩ := rdT_at false t2 t3 hcl
    have hx := hend u2 u3
    have hbit : decide (bit c 2 = 2) = c := by cases c <;> rfl
    simp only [bodyD, headD, if_true, connD, q1, r1, s1, t1, u1, idD, idB, tailD, hbit, hx]
    rfl
  by_cases k2 : k = 2
  · subst k2
    obtain ⟨rfl, rfl, rfl⟩ := b1 (by omega)
    obtain ⟨rfl, rfl, rfl, rfl, rfl⟩ := b3 (by omega)
    obtain rfl := b4 (by omega)
    obtain rfl := b5 (by omega)
    obtain rfl := b6 (by omega)
    have e : s.drop a = numB 1 (bit se 1) ++ (numB 1 co ++ []) := by
      rw [hs]; simp [bodyB, headB, idB]
    obtain ⟨r1, r2, r3⟩ := rdNi_at false e ha (by unfold bit; split <;> omega) (by show bit se 1 < 256; unfold bit; split <;> omega)
    obtain ⟨s1, s2, s3⟩ := rdNi_at false r2 r3 hcode.1 (by show co < 256; omega)
    have hx := hend s2 s3
    have hbit : decide (bit se 1 = 1) = se := by cases se <;> rfl
    simp only [bodyD, headD, if_true, r1, s1, idD, idB, tailD, hbit, hx]
    rfl
  by_cases k3 : k = 3
  · subst k3
    obtain ⟨rfl, rfl, rfl⟩ := b1 (by omega)
    obtain ⟨rfl, rfl⟩ := b2 (by omega)
    obtain rfl := b5 (by omega)
    obtain rfl := b6 (by omega)
    by_cases hq : q = 1
    · subst hq
      have e : s.drop a = txtB t ++ (numB 2 i ++ pl) := by
        rw [hs]; simp [bodyB, headB, idB]
      obtain ⟨q1, q2, q3⟩ := rdT_at false e ha htp
      obtain ⟨r1, r2, r3⟩ := rdNi_at false q2 q3 hid.1 (by show i < 65536; omega)
      have hd : headD s ⟨3, d, r, false, false, 1, 0, 0, 0, [], [], [], [], []⟩ a false = (⟨3, d, r, false, false, 1, 0, 0, 0, [], t, [], [], []⟩, a + 2 + t.length, false) := by
        simp only [headD, q1]; rfl
      have hi2 : idD s (⟨3, d, r, false, false, 1, 0, 0, 0, [], t, [], [], []⟩, a + 2 + t.length, false) = (⟨3, d, r, false, false, 1, i, 0, 0, [], t, [], [], []⟩, a + 2 + t.length + 2, false) := by
        simp only [idD, r1]; rfl
      rw [bodyD, hd, hi2]
      simp only [tailD, if_true, r2]
    · have hq0 : q = 0 := by omega
      subst hq0
      obtain rfl := hno (by simp [idB])
      have e : s.drop a = txtB t ++ pl := by
        rw [hs]; simp [bodyB, headB, idB]
      obtain ⟨q1, q2, q3⟩ := rdT_at false e ha htp
      have hd : headD s ⟨3, d, r, false, false, 0, 0, 0, 0, [], [], [], [], []⟩ a false = (⟨3, d, r, false, false, 0, 0, 0, 0, [], t, [], [], []⟩, a + 2 + t.length, false) := by
        simp only [headD, q1]; rfl
      have hi2 : idD s (⟨3, d, r, false, false, 0, 0, 0, 0, [], t, [], [], []⟩, a + 2 + t.length, false) = (⟨3, d, r, false, false, 0, 0, 0, 0, [], t, [], [], []⟩, a + 2 + t.length, false) := rfl
      rw [bodyD, hd, hi2]
      simp only [tailD, if_true, q2]
  obtain ⟨rfl, rfl, rfl⟩ := b1 k1
  obtain ⟨rfl, rfl⟩ := b2 k2
  obtain ⟨rfl, rfl, rfl, rfl, rfl⟩ := b3 k3
  have hh : ∀ x : Pkt, x.kind = k → headD s x a false = (x, a, false) := fun x hx => by
    unfold headD; rw [hx, if_neg k1, if_neg k2, if_neg k3]
  rw [bodyD, hh _ rfl]
  have hhB : ∀ x : Pkt, x.kind = k → headB x = [] := fun x hx => by
    unfold headB; rw [hx, if_neg k1, if_neg k2, if_neg k3]
  rw [bodyB, hhB _ rfl] at hs
  by_cases k4 : k = 4 ∨ (8 ≤ k ∧ k ≤ 11)
  · have hidb : ∀ x : Pkt, x.kind = k → idB x = true := fun x hx => by
      simp only [idB, hx, decide_eq_true_eq]; omega
    rw [if_pos (hidb _ rfl)] at hs
    have e : s.drop a = numB 2 i ++ ((az.map (askB k)).flatten ++ (cs.map (numB 1)).flatten) := by
      rw [hs]; simp
    obtain ⟨r1, r2, r3⟩ := rdNi_at false e ha hid.1 (by show i < 65536; omega)
    have hi2 : idD s (⟨k, false, false, false, false, 0, 0, 0, 0, [], [], [], [], []⟩, a, false) = (⟨k, false, false, false, false, 0, i, 0, 0, [], [], [], [], []⟩, a + 2, false) := by
      unfold idD; rw [if_pos (hidb _ rfl)]; simp only [r1]
    rw [hi2, tailD]
    simp only
    rw [if_neg k3]
    by_cases k5 : k = 8 ∨ k = 10
    · obtain rfl := b6 (by omega)
      rw [if_pos k5, rdAs_at az [] (rounds s (a + 2) false) (a + 2) (by rw [r2]; simp) r3 hask (by rw [rounds, if_neg (by simp)]; omega)]
      simp
    · obtain rfl := b5 (by omega)
      rw [if_neg k5]
      by_cases k6 : k = 9
      · rw [if_pos k6, rdCs_at cs [] (rounds s (a + 2) false) (a + 2) (by rw [r2]; simp) r3 hcod (by rw [rounds, if_neg (by simp)]; omega)]
        simp
      · obtain rfl := b6 k6
        rw [if_neg k6, hend (by rw [r2]; rfl) r3]
  · have hidb : ∀ x : Pkt, x.kind = k → idB x = false := fun x hx => by
      simp only [idB, hx, decide_eq_false_iff_not]; omega
    obtain rfl := b4 (by omega)
    obtain rfl := b5 (by omega)
    obtain rfl := b6 (by omega)
    have e : s.drop a = [] := by rw [hs, hidb _ rfl]; simp
    have hi2 : idD s (⟨k, false, false, false, false, 0, 0, 0, 0, [], [], [], [], []⟩, a, false) = (⟨k, false, false, false, false, 0, 0, 0, 0, [], [], [], [], []⟩, a, false) := by
      unfold idD; rw [if_neg (by rw [hidb _ rfl]; simp)]
    rw [hi2, tailD]
    simp only
    rw [if_neg k3, if_neg (by omega), if_neg (by omega), hend e ha]

theorem getL_bytes {p : Pkt} (hl : (bodyB p).length < 268435456) (t : List UInt8) : getL (bytesP p ++ t) 1 = ((((bodyB p).length : Nat) : Int), (((lngB 3 (bodyB p).length).length : Nat) : Int), 0) := by
  have e : (bytesP p ++ t).drop 1 = lngB 3 (bodyB p).length ++ (bodyB p ++ t) := by
    rw [bytesP, List.append_assoc, List.append_assoc, List.drop_left' (numB_len 1 _)]
  have hlen : 1 ≤ (bytesP p ++ t).length := by simp [bytesP, numB_len]
  rw [getL, if_pos (by omega)]
  have e1 : (1 : Int).toNat = 1 := rfl
  rw [e1, e, glF_back _ 3 4 0 0 _ (by show (bodyB p).length < 268435456; exact hl) (by omega) (.inl rfl)]
  simp [p7]
theorem bytesP_hd (p : Pkt) : (bytesP p).getD 0 0 = UInt8.ofNat (firstB p % 256).toNat := by
  have : numB 1 (firstB p) = [UInt8.ofNat (firstB p % 256).toNat] := by simp [numB, pw, List.range_succ]
  rw [bytesP, this]; rfl
theorem read_bytes {p : Pkt} (h : FormP p) (hl : (bodyB p).length < 268435456) : readP (bytesP p) = (p, (bytesP p).length, false) := by
  have hg := getL_bytes hl []
  rw [List.append_nil] at hg
  rw [readP, hg, bytesP_hd, begP_first h]
  have e : (1 + (((lngB 3 (bodyB p).length).length : Nat) : Int)).toNat = 1 + (lngB 3 (bodyB p).length).length := by omega
  simp only [e]
  refine body_at h ?_ (by simp [bytesP, numB_len])
  rw [bytesP]
  exact List.drop_left' (by rw [List.length_append, numB_len])
end Go.Proofs.YtliedecinehijaaDoor
