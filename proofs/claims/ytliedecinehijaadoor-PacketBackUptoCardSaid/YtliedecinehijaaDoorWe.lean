/-
  What the functions that read long numbers and texts compute. By an AI agent.
-/
import Derived.Test.YtliedecinehijaaDoorWd
set_option linter.unusedSimpArgs false
set_option linter.unusedVariables false
namespace Go.Proofs.YtliedecinehijaaDoor
open Go.Sx

/-- 128 to the power k. -/
def p7 : Nat → Nat
  | 0 => 1
  | k + 1 => 128 * p7 k
theorem p7_mono {a b : Nat} (h : a ≤ b) : p7 a ≤ p7 b := by
  induction h with
  | refl => exact Nat.le_refl _
  | step _ ih => simp only [p7]; omega
theorem p7_pos (a : Nat) : 1 ≤ p7 a := p7_mono (Nat.zero_le a)
/-- A long number: f bytes may come, i came, n is told. -/
def glF : Nat → Nat → Nat → List UInt8 → Int × Int × Int
  | 0, _, _, _ => (0, 0, 1)
  | _ + 1, _, _, [] => (0, 0, 8)
  | f + 1, i, n, c :: l => if c.toNat < 128 then (if c.toNat = 0 ∧ 0 < i then (0, 0, 1) else (((n + c.toNat % 128 * p7 i : Nat) : Int), ((i + 1 : Nat) : Int), 0)) else glF f (i + 1) (n + c.toNat % 128 * p7 i) l
def getL (s : List UInt8) (at_ : Int) : Int × Int × Int := if 0 ≤ at_ ∧ at_ ≤ s.length then glF 4 0 0 (s.drop at_.toNat) else (0, 0, 3)
theorem getL_range {s : List UInt8} {at_ : Int} (h : ¬ (0 ≤ at_ ∧ at_ ≤ s.length)) : getL s at_ = (0, 0, 3) := if_neg h
theorem drop_getD (s : List UInt8) (k : Nat) (h : k < s.length) : s.drop k = s.getD k 0 :: s.drop (k + 1) := by
  rw [List.drop_eq_getElem_cons h, List.getD_eq_getElem?_getD, List.getElem?_eq_getElem h]; rfl
theorem glF_end {s : List UInt8} {a f i n : Nat} (h : s.length ≤ a) : glF (f + 1) i n (s.drop a) = (0, 0, 8) := by
  rw [List.drop_eq_nil_of_le h]; rfl
theorem glF_step {s : List UInt8} {a f i n : Nat} (h : a < s.length) : glF (f + 1) i n (s.drop a) =
    if (s.getD a 0).toNat < 128 then (if (s.getD a 0).toNat = 0 ∧ 0 < i then (0, 0, 1) else (((n + (s.getD a 0).toNat % 128 * p7 i : Nat) : Int), ((i + 1 : Nat) : Int), 0)) else glF f (i + 1) (n + (s.getD a 0).toNat % 128 * p7 i) (s.drop (a + 1)) := by
  rw [drop_getD s a h]; rfl
theorem glF_bd : ∀ (f i n : Nat) (l : List UInt8), n < p7 i → 0 ≤ (glF f i n l).1 ∧ (glF f i n l).1 < p7 (f + i) ∧ 0 ≤ (glF f i n l).2.1 ∧ (glF f i n l).2.1 ≤ f + i ∧ (glF f i n l).2.1 ≤ i + l.length
  | 0, i, n, l, h => by have := p7_pos (0 + i); simp only [glF]; omega
  | f + 1, i, n, [], h => by have := p7_pos (f + 1 + i); simp only [glF]; omega
  | f + 1, i, n, c :: l, h => by
    have hp := p7_pos (f + 1 + i)
    have hm : n + c.toNat % 128 * p7 i < p7 (i + 1) := by
      have : c.toNat % 128 * p7 i ≤ 127 * p7 i := Nat.mul_le_mul_right _ (by omega)
      simp only [p7]; omega
    have hm2 : p7 (i + 1) ≤ p7 (f + 1 + i) := p7_mono (by omega)
    simp only [glF]
    split
    · split
      · simp only [List.length_cons]; omega
      · simp only [List.length_cons]; omega
    · have := glF_bd f (i + 1) _ l hm
      have e : f + (i + 1) = f + 1 + i := by omega
      rw [e] at this
      simp only [List.length_cons]; omega
theorem getL_bd (s : List UInt8) (at_ : Int) : 0 ≤ (getL s at_).1 ∧ (getL s at_).1 < 268435456 ∧ 0 ≤ (getL s at_).2.1 ∧ (getL s at_).2.1 ≤ 4 ∧ (getL s at_).2.1 ≤ s.length := by
  unfold getL
  split
  · have h := glF_bd 4 0 0 (s.drop at_.toNat) (by decide)
    have e : p7 (4 + 0) = 268435456 := rfl
    rw [e, List.length_drop] at h
    omega
  · simp only; omega

theorem and127b (x : Nat) (h : x < 256) : ibits .and .u8 (x : Int) 127 = (x % 128 : Nat) := by
  have : ∀ x : Fin 256, ibits .and .u8 (x.val : Int) 127 = (x.val % 128 : Nat) := by decide +kernel
  exact this ⟨x, h⟩
theorem and128b (x : Nat) (h : x < 256) : ibits .and .u8 (x : Int) 128 = if x < 128 then 0 else 128 := by
  have : ∀ x : Fin 256, ibits .and .u8 (x.val : Int) 128 = if x.val < 128 then 0 else 128 := by decide +kernel
  exact this ⟨x, h⟩
theorem or_shl7 (n c m : Nat) (hm : m ≤ 3) (hn : n < p7 m) (hc : c < 128) : ibits .or .i64 (n : Int) (IntKind.i64.wrap ((c : Int) * 2 ^ (Nat.min ((7 : Int) * (m : Int)).toNat IntKind.i64.bits))) = ((n + c * p7 m : Nat) : Int) := by
  have hp : p7 m = 2 ^ (7 * m) := by
    have : ∀ k, p7 k = 2 ^ (7 * k) := fun k => by
      induction k with
      | zero => rfl
      | succ k ih => rw [p7, ih, Nat.mul_succ, Nat.pow_add]; omega
    exact this m
  have hpm := p7_mono hm
  have hp3 : p7 3 = 2097152 := rfl
  have q1 : c * p7 m ≤ 127 * p7 m := Nat.mul_le_mul_right _ (by omega)
  have e0 : IntKind.i64.wrap ((c : Int) * 2 ^ (Nat.min ((7 : Int) * (m : Int)).toNat IntKind.i64.bits)) = ((c * p7 m : Nat) : Int) := by
    have : Nat.min ((7 : Int) * (m : Int)).toNat IntKind.i64.bits = 7 * m := by
      have e : ((7 : Int) * (m : Int)).toNat = 7 * m := by omega
      rw [e]; exact Nat.min_eq_left (by show 7 * m ≤ 64; omega)
    rw [this]
    have e2 : (c : Int) * 2 ^ (7 * m) = ((c * p7 m : Nat) : Int) := by rw [hp]; simp
    rw [e2, wrap_nat _ (by omega)]
  rw [e0]
  simp only [ibits]
  show IntKind.i64.wrap (((BitVec.ofInt 64 (n : Int)) ||| (BitVec.ofInt 64 ((c * p7 m : Nat) : Int))).toNat : Int) = _
  rw [BitVec.toNat_or, ofInt_nat _ (by omega), ofInt_nat _ (by omega)]
  have e : n ||| c * p7 m = n + c * p7 m := by
    have := Nat.two_pow_add_eq_or_of_lt (i := 7 * m) (b := n) (by rw [← hp]; exact hn) c
    rw [hp, Nat.mul_comm c, Nat.or_comm, ← this, Nat.add_comm]
  rw [e, wrap_nat _ (by omega)]

theorem c_GetLong (w : World) (s : List UInt8) (at_ : Int) (hs : s.length < 4611686018427387904) : Calls Tryd.prog 48 #[.string ⟨s.toArray⟩, .int .i64 at_] w
    fun e w' => e = .returned (.tuple #[.int .i64 (getL s at_).1, .int .i64 (getL s at_).2.1, .int .i64 (getL s at_).2.2]) ∧ Mod [] w w' := by
  refine as_called (run_plain2 (ρ := [.s s, .i at_]) sxE_ok Tryd.func48 tree_wire_GetLong rfl rfl rfl ?_) rfl
  simp only [Tree.goal, X.P, X.ev, V.toI_i, V.toB_b, V.toS_s, V.toR_r, V.toV_v, V.toN_n, V.toL_l, SV.ev, CV.ev, Sc.ev, List.getD_cons_zero, List.getD_cons_succ, List.getElem?_cons_zero, List.getElem?_cons_succ, List.map_cons, List.map_nil, List.length_cons, List.length_nil, List.cons_append, List.nil_append, Nat.zero_add, Nat.reduceAdd]
  refine ⟨fun h w' hr => ⟨by rw [getL_range h], hr.mod⟩, fun h => ?_⟩
  obtain ⟨a, rfl⟩ : ∃ a : Nat, at_ = a := ⟨at_.toNat, by omega⟩
  have e0 : getL s a = glF 4 0 0 (s.drop a) := by rw [getL, if_pos (by omega), Int.toNat_natCast]
  rw [e0]
  obtain ⟨k, hk, hka⟩ : ∃ k : Nat, (if (a : Int) + 4 < (s.length : Int) then (a : Int) + 4 else (s.length : Int)) = ((a + k : Nat) : Int) ∧ (k = 4 ∧ a + 4 < s.length ∨ k ≤ 4 ∧ a + k = s.length) := by
    by_cases h4 : (a : Int) + 4 < s.length
    · exact ⟨4, by rw [if_pos h4]; omega, by omega⟩
    · exact ⟨s.length - a, by rw [if_neg h4]; omega, by omega⟩
  rw [hk]
  (repeat refine ⟨by omega, ?_⟩)
  intro v
  refine ⟨fun vs => ∃ (m n : Nat) (x y z : V), vs = [x, y, z, .i n, .i m] ∧ m ≤ k ∧ n < p7 m ∧ glF (4 - m) m n (s.drop (a + m)) = glF 4 0 0 (s.drop a), fun vs => (k - (vs.getD 4 (.i 0)).toI).toNat, ⟨0, 0, _, _, _, rfl, by omega, by decide, rfl⟩, ?_⟩
  rintro _ - ⟨m, n, x, y, z, rfl, hm, hn, hg⟩
  simp only [Tree.goal, X.P, X.ev, V.toI_i, V.toB_b, V.toS_s, V.toR_r, V.toV_v, V.toN_n, V.toL_l, SV.ev, CV.ev, Sc.ev, List.getD_cons_zero, List.getD_cons_succ, List.getElem?_cons_zero, List.getElem?_cons_succ, List.map_cons, List.map_nil, List.length_cons, List.length_nil, List.cons_append, List.nil_append, Nat.zero_add, Nat.reduceAdd, List.length_map, List.length_drop, List.length_take, gI_rOf, Int.toNat_natCast]
  have hp := p7_mono (show m ≤ 4 by omega)
  have hp4 : p7 4 = 268435456 := rfl
  refine ⟨fun h3 => ?_, fun h3 => ?_⟩
  · obtain ⟨g, hgm⟩ : ∃ g, 4 - m = g + 1 := ⟨3 - m, by omega⟩
    rw [hgm, glF_step (by omega)] at hg
    rw [getD_sl _ _ _ _ (by omega)]
    have hc := u8_lt (s.getD (a + m) 0)
    generalize hcc : (s.getD (a + m) 0).toNat = c at hg hc ⊢
    rw [and127b c hc, and128b c hc]
    rw [or_shl7 n (c % 128) m (by omega) hn (by omega)]
    have q1 : c % 128 * p7 m ≤ 127 * p7 m := Nat.mul_le_mul_right _ (by omega)
    (repeat refine ⟨by omega, ?_⟩)
    refine ⟨fun h5 => ?_, fun h5 => ?_⟩
    · have h5 : ¬ c < 128 := fun h => h5 (by rw [if_pos h])
      rw [if_neg h5] at hg
      refine ⟨by omega, by omega, ⟨m + 1, n + c % 128 * p7 m, x, y, z, rfl, by omega, by simp only [p7]; omega, ?_⟩, by omega⟩
      rw [← hg, show 4 - (m + 1) = g by omega]; rfl
    · have h5 : c < 128 := by
        rcases Nat.lt_or_ge c 128 with h | h
        · exact h
        · exact absurd (by rw [if_neg (by omega)]; decide) h5
      rw [if_pos h5] at hg
      refine ⟨fun h6 w' hr => ⟨?_, hr.mod⟩, fun h6 => ⟨by omega, by omega, fun w' hr => ⟨?_, hr.mod⟩⟩⟩
      · rw [if_pos (by omega)] at hg; rw [← hg]
      · rw [if_neg (by omega)] at hg; rw [← hg]; rfl
  · have : m = k := by omega
    subst this
    refine ⟨by omega, by omega, fun h4 w' hr => ⟨?_, hr.mod⟩, fun h4 w' hr => ⟨?_, hr.mod⟩⟩
    · obtain ⟨g, hgm⟩ : ∃ g, 4 - m = g + 1 := ⟨3 - m, by omega⟩
      rw [hgm, glF_end (by omega)] at hg
      rw [← hg]
    · have : m = 4 := by omega
      subst this
      rw [← hg]; rfl

end Go.Proofs.YtliedecinehijaaDoor
