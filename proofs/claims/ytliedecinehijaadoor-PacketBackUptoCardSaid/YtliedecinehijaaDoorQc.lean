/-
  Packets: what passes can be told and is read; in plain terms. By an AI agent.
-/
import Derived.Test.YtliedecinehijaaDoorQb
set_option linter.unusedSimpArgs false
set_option linter.unusedVariables false
namespace Go.Proofs.YtliedecinehijaaDoor
open Go.Sx

theorem chkT_len {s : List UInt8} {f : Bool} (h : chkT s f = 0) : s.length ≤ 60 := by
  unfold chkT at h
  split at h
  · simp at h
  · split at h
    · simp at h
    · omega
theorem bareP_kind (p : Pkt) : (bareP p).kind = p.kind := by
  unfold bareP; (repeat' split) <;> rfl
theorem empty_iff (p : Pkt) : emptyB (bareP p) = true ↔ bareP p = pD p.kind := by
  simp only [emptyB, decide_eq_true_eq, bareP_kind]
theorem asksL_ok {k : Int} : ∀ {l : List Ak}, asksL k l = 0 → ∀ a ∈ l, chkT a.1 true = 0 ∧ 0 ≤ a.2 ∧ a.2 ≤ 1 ∧ (k ≠ 8 → a.2 = 0)
  | [], _, a, ha => by simp at ha
  | x :: l, h, a, ha => by
    unfold asksL at h
    generalize hX : (if k = 8 then askE x else noaskE x) = X at h
    by_cases h0 : X = 0
    · rw [if_pos h0] at h
      rw [h0] at hX
      rcases List.mem_cons.1 ha with rfl | ha
      · by_cases hk : k = 8
        · rw [if_pos hk, askE] at hX
          split at hX
          · split at hX
            · exact ⟨‹_›, by omega, by omega, fun hh => absurd hk hh⟩
            · simp at hX
          · exact absurd hX ‹_›
        · rw [if_neg hk, noaskE] at hX
          split at hX
          · split at hX
            · exact ⟨‹_›, by omega, by omega, fun _ => ‹_›⟩
            · simp at hX
          · exact absurd hX ‹_›
      · exact asksL_ok h a ha
    · rw [if_neg h0] at h; exact absurd h h0
theorem count_ok {n : Nat} (h : countE n = 0) : 1 ≤ n ∧ n ≤ 5 := by
  unfold countE at h
  split at h
  · simp at h
  · split at h
    · simp at h
    · omega
theorem flat_le {α : Type} (f : α → List UInt8) (m : Nat) : ∀ l : List α, (∀ a ∈ l, (f a).length ≤ m) → (l.map f).flatten.length ≤ l.length * m
  | [], _ => by simp
  | a :: l, h => by
    have h1 := flat_le f m l fun x hx => h x (List.mem_cons_of_mem _ hx)
    have h2 := h a (List.mem_cons_self ..)
    simp only [List.map_cons, List.flatten_cons, List.length_append, List.length_cons, Nat.add_mul, Nat.one_mul]
    omega
theorem txtB_len (t : List UInt8) : (txtB t).length = t.length + 2 := by rw [txtB, List.length_append, numB_len]; omega

theorem chk_form {p : Pkt} (h : chkP p = 0) : FormP p ∧ (bodyB p).length ≤ 1000 := by
  unfold chkP at h
  split at h
  rotate_left
  · simp at h
  rename_i hk
  split at h
  rotate_left
  · simp at h
  rename_i he
  split at h
  · rename_i h3; exact absurd h h3.2
  rename_i hp3
  split at h
  · simp at h
  rename_i hid
  have hbare := (empty_iff p).1 he
  have hb := (bare_iff p).1 hbare
  have hk' := hk
  simp only [kindB, decide_eq_true_eq] at hk'
  obtain ⟨b1, b2, b3, b4, b5, b6⟩ := hb
  -- by kind
  have h1 : p.client.length ≤ 20 ∧ 0 ≤ p.keep ∧ p.keep < 65536 := by
    by_cases k : p.kind = 1
    · rw [partsE, if_pos k, connE] at h
      split at h
      · simp at h
      · split at h
        · split at h
          · omega
          · simp at h
        · simp at h
    · obtain ⟨e1, e2, e3⟩ := b1 k; rw [e1, e3]; simp
  have h2 : 0 ≤ p.code ∧ p.code < 256 := by
    by_cases k : p.kind = 2
    · rw [partsE, if_neg (by omega), if_pos k, connackE] at h
      split at h
      · omega
      · simp at h
    · obtain ⟨e1, e2⟩ := b2 k; omega
  have h3 : p.topic.length ≤ 60 ∧ p.payload.length ≤ 200 ∧ 0 ≤ p.qos ∧ p.qos ≤ 1 ∧ (p.kind = 3 → p.qos = 0 → p.id = 0) := by
    by_cases k : p.kind = 3
    · rw [partsE, if_neg (by omega), if_neg (by omega), if_pos k, pubE] at h
      split at h
      · have := chkT_len ‹_›
        split at h
        · simp at h
        · split at h
          · split at h
            · simp at h
            · rename_i hn
              refine ⟨this, by omega, by omega, by omega, fun _ hq => ?_⟩
              exact Classical.byContradiction fun hi => hn ⟨hq, .inr hi⟩
          · simp at h
      · exact absurd h ‹_›
    · obtain ⟨e1, e2, e3, e4, e5⟩ := b3 k; rw [e3, e4, e5]; simp [k]
  have h4 : p.asks.length ≤ 5 ∧ ∀ a ∈ p.asks, a.1.length ≤ 60 ∧ 0 ≤ a.2 ∧ a.2 < 256 ∧ (p.kind ≠ 8 → a.2 = 0) := by
    by_cases k : p.kind = 8 ∨ p.kind = 10
    · rw [partsE, if_neg (by omega), if_neg (by omega), if_neg (by omega), if_pos k, asksE] at h
      split at h
      · have hc := count_ok ‹_›
        refine ⟨hc.2, fun a ha => ?_⟩
        obtain ⟨a1, a2, a3, a4⟩ := asksL_ok h a ha
        exact ⟨chkT_len a1, a2, by omega, a4⟩
      · exact absurd h ‹_›
    · have e := b5 (by omega); rw [e]; simp
  have h5 : p.codes.length ≤ 5 ∧ ∀ c ∈ p.codes, 0 ≤ c ∧ c < 256 := by
    by_cases k : p.kind = 9
    · rw [partsE, if_neg (by omega), if_neg (by omega), if_neg (by omega), if_neg (by omega), if_pos k, codesE] at h
      split at h
      · have hc := count_ok ‹_›
        refine ⟨hc.2, fun c hcm => ?_⟩
        split at h
        · simp at h
        · rename_i hn
          have : codeB c = false := by
            cases hcb : codeB c
            · rfl
            · exact absurd (List.any_eq_true.2 ⟨c, hcm, hcb⟩) hn
          simp only [codeB, decide_eq_false_iff_not] at this
          omega
      · exact absurd h ‹_›
    · have e := b6 k; rw [e]; simp
  have hid2 : (0 ≤ p.id ∧ p.id < 65536) ∧ (idB p = false → p.id = 0) := by
    by_cases hi : idB p = true
    · have : 1 ≤ p.id ∧ p.id ≤ 65535 := Classical.byContradiction fun hn => hid ⟨hi, hn⟩
      exact ⟨by omega, fun hf => by rw [hi] at hf; simp at hf⟩
    · have h0 : p.id = 0 := by
        by_cases k : p.kind = 3
        · refine h3.2.2.2.2 k ?_
          have : ¬ p.qos = 1 := fun hq => hi (by simp [idB, k, hq])
          omega
        · refine b4 fun hk2 => hi ?_
          simp only [idB, decide_eq_true_eq]; omega
      rw [h0]; simp
  refine ⟨⟨hk, hbare, h3.2.2.1 |> fun a => ⟨a, h3.2.2.2.1⟩, h1.2, h2, hid2.1, hid2.2, by omega, by omega, fun a ha => ?_, h5.2⟩, ?_⟩
  · obtain ⟨a1, a2⟩ := h4.2 a ha
    exact ⟨by omega, a2⟩
  · have e1 : (headB p).length ≤ 64 := by
      unfold headB
      split
      · simp only [List.length_append, txtB_len, numB_len, List.length_cons, List.length_nil]; omega
      · split
        · simp only [List.length_append, numB_len]; omega
        · split
          · rw [txtB_len]; omega
          · simp
    have e2 : (if idB p = true then numB 2 p.id else []).length ≤ 2 := by
      split
      · rw [numB_len]; omega
      · simp
    have e3 := flat_le (askB p.kind) 63 p.asks fun a ha => by
      have := (h4.2 a ha).1
      unfold askB
      rw [List.length_append, txtB_len]
      split
      · rw [numB_len]; omega
      · simp; omega
    have e4 := flat_le (numB 1) 1 p.codes fun c _ => by rw [numB_len]; omega
    have e5 : p.asks.length * 63 ≤ 5 * 63 := Nat.mul_le_mul_right _ h4.1
    unfold bodyB
    simp only [List.length_append]
    omega

theorem bytesP_ne (p : Pkt) : bytesP p ≠ [] := fun h => by
  have : (bytesP p).length = 0 := by rw [h]; rfl
  rw [bytesP] at this
  simp [numB_len] at this
/-- What is encoded is decoded as it was. -/
theorem decD_back {p : Pkt} (h : chkP p = 0) : decD (bytesP p) = (p, 0) := by
  obtain ⟨hf, hl⟩ := chk_form h
  have hg := getL_bytes (p := p) (by omega) []
  rw [List.append_nil] at hg
  have hr := read_bytes hf (by omega)
  have hq := hf.qos
  rw [decD, if_neg (by rw [hg]; simp [bytesP_ne]), hr, if_neg, if_pos h]
  simp only [hf.kind]
  simp
  omega
/-- What is decoded can be encoded. -/
theorem decD_ok {s : List UInt8} (h : (decD s).2 = 0) : chkP (decD s).1 = 0 ∧ bytesP (decD s).1 = s := by
  unfold decD at h ⊢
  split
  · rename_i h0; rw [if_pos h0] at h; simp at h
  · rename_i h0; rw [if_neg h0] at h
    split
    · rename_i h1; rw [if_pos h1] at h; simp at h
    · rename_i h1; rw [if_neg h1] at h
      split
      · rename_i h2
        exact ⟨h2, Classical.byContradiction fun hn => h1 (.inr (.inr (.inr hn)))⟩
      · rename_i h2; rw [if_neg h2] at h; exact absurd h h2
theorem decD_bad {s : List UInt8} (h : (decD s).2 ≠ 0) : (decD s).1 = pD 0 := by
  unfold decD at h ⊢
  split
  · rfl
  · rename_i h0; rw [if_neg h0] at h
    split
    · rfl
    · rename_i h1; rw [if_neg h1] at h
      split
      · rename_i h2; rw [if_pos h2] at h; exact absurd rfl h
      · rfl
/-- No packet's bytes are the beginning of another one's. -/
theorem apartP {p q : Pkt} (hp : chkP p = 0) (hq : chkP q = 0) (h : (bytesP q).take (bytesP p).length = bytesP p) : p = q := by
  have lp := (chk_form hp).2
  have lq := (chk_form hq).2
  have e : bytesP q = bytesP p ++ (bytesP q).drop (bytesP p).length := by
    conv => lhs; rw [← List.take_append_drop (bytesP p).length (bytesP q), h]
  have g1 := getL_bytes (p := p) (by omega) ((bytesP q).drop (bytesP p).length)
  have g2 := getL_bytes (p := q) (by omega) []
  rw [← e] at g1
  rw [List.append_nil, g1] at g2
  have hlen : (bodyB p).length = (bodyB q).length := by
    have := congrArg Prod.fst g2
    simp only at this
    omega
  have hl2 : (bytesP p).length = (bytesP q).length := by simp only [bytesP, List.length_append, numB_len, hlen]
  have e2 : bytesP p = bytesP q := by rw [hl2, List.take_length] at h; exact h.symm
  have d1 := decD_back hp
  rw [e2, decD_back hq] at d1
  exact (congrArg Prod.fst d1).symm
end Go.Proofs.YtliedecinehijaaDoor
