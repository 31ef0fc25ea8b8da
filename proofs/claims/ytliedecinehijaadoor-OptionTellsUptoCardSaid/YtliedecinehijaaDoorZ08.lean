/-
  What the functions of the package wire compute, and what the reference's do: powers of 256. By an AI agent.
-/
import Derived.Test.YtliedecinehijaaDoorZ07
set_option linter.unusedSimpArgs false
set_option linter.unusedVariables false
namespace Go.Proofs.YtliedecinehijaaDoor
open Go.Sx

/-- 256 to the power k. -/
def pw : Nat → Nat
  | 0 => 1
  | k + 1 => 256 * pw k
theorem pw_mono {a b : Nat} (h : a ≤ b) : pw a ≤ pw b := by
  induction h with
  | refl => exact Nat.le_refl _
  | step _ ih => simp only [pw]; omega

/-- What is wrong with a number. -/
def numErr (n b : Int) : Int := if 1 ≤ b ∧ b ≤ 4 then (if 0 ≤ n ∧ n ≤ pw b.toNat - 1 then 0 else 3) else 7
/-- The bytes of a number, the greatest one first. -/
def numB (k : Nat) (n : Int) : List UInt8 := (List.range k).map fun j => UInt8.ofNat (n / pw (k - 1 - j) % 256).toNat

theorem pw_pos (k : Nat) : 1 ≤ pw k := pw_mono (Nat.zero_le k)

end Go.Proofs.YtliedecinehijaaDoor

/-
  What wire.Bytes computes. By an AI agent.
-/
set_option linter.unusedSimpArgs false
set_option linter.unusedVariables false
namespace Go.Proofs.YtliedecinehijaaDoor
open Go.Sx

theorem shr_i64 (n : Int) (s : Nat) (hs : s < 64) : n.fdiv (2 ^ (Nat.min s IntKind.i64.bits)) = n / (2 ^ s : Nat) := by
  have : Nat.min s IntKind.i64.bits = s := Nat.min_eq_left (by show s ≤ 64; omega)
  rw [this, Int.fdiv_eq_ediv_of_nonneg _ (by exact Int.pow_nonneg (by omega))]
  simp
theorem wrap_byte (n : Int) : IntKind.u8.wrap n = n % 256 := IntKind.wrap_u8 n

theorem div_pw (N m : Nat) : ((N : Int) / (pw m : Int)) / 256 = (N : Int) / (pw (m + 1) : Int) := by
  have h : (N / pw m) / 256 = N / pw (m + 1) := by rw [Nat.div_div_eq_div_mul, Nat.mul_comm]; rfl
  rw [← Int.natCast_ediv, ← Int.natCast_ediv, ← h]
  rfl

theorem c_Bytes (w : World) (n : Int) (k : Nat) (hk : k ≤ 8) (h0 : 0 ≤ n) (h1 : n ≤ 9223372036854775807) :
    Calls Tryd.prog 83 #[.int .i64 n, .int .i64 k] w fun e w' => e = .returned (.string ⟨(numB k n).toArray⟩) ∧ Mod [] w w' := by
  refine as_called (run_plain2 (ρ := [.i n, .i k]) sxE_ok Tryd.func83 tree_wire_Bytes rfl rfl rfl ?_) rfl
  simp only [Tree.goal, X.P, X.ev, V.toI_i, V.toB_b, V.toS_s, V.toR_r, V.toV_v, V.toN_n, V.toL_l, SV.ev, CV.ev, Sc.ev, List.getD_cons_zero, List.getD_cons_succ, List.getElem?_cons_zero, List.getElem?_cons_succ, List.map_cons, List.map_nil, List.length_cons, List.length_nil, List.cons_append, List.nil_append, Nat.zero_add, Nat.reduceAdd]
  refine ⟨fun vs => ∃ (m : Nat) (v : Value), vs = [.i (n / pw m), .v v, .r ((List.range m).map fun j => [.int .u8 (n / pw j % 256)]), .i m] ∧ m ≤ k, fun vs => (k - (vs.getD 3 (.i 0)).toI).toNat, ⟨0, .slice none 0 0, by simp [pw], by omega⟩, ?_⟩
  rintro _ - ⟨m, v, rfl, hm⟩
  simp only [Tree.goal, X.P, X.ev, V.toI_i, V.toB_b, V.toS_s, V.toR_r, V.toV_v, V.toN_n, V.toL_l, SV.ev, CV.ev, Sc.ev, List.getD_cons_zero, List.getD_cons_succ, List.getElem?_cons_zero, List.getElem?_cons_succ, List.map_cons, List.map_nil, List.length_cons, List.length_nil, List.cons_append, List.nil_append, Nat.zero_add, Nat.reduceAdd]
  refine ⟨fun h => ?_, fun h => ?_⟩
  · intro v1
    refine ⟨by simp; omega, fun v2 => ⟨by omega, by omega, ⟨m + 1, v2, ?_, by omega⟩, by omega⟩⟩
    have e1 : (n / pw m) / 256 = n / pw (m + 1) := by
      obtain ⟨N, rfl⟩ := Int.eq_ofNat_of_zero_le h0
      exact div_pw N m
    have e2 : Int.toNat 8 = 8 := rfl
    simp only [List.range_succ, List.map_append, List.map_cons, List.map_nil, List.cons.injEq, V.i.injEq, V.v.injEq, V.r.injEq, and_true, wrap_byte, e2, shr_i64 _ 8 (by omega), Nat.reducePow, true_and]
    exact ⟨e1, by omega⟩
  · have hmk : m = k := by omega
    subst hmk
    have hl : ((List.range m).map fun j => [Value.int .u8 (n / pw j % 256)]).length = m := by simp
    refine ⟨by omega, by omega, fun vs => ∃ (i : Nat) (h : Nat → Int), vs = [.i i, .i ((m : Int) - 1 - i), .r ((List.range m).map fun x => [.int .u8 (h x)])] ∧ 2 * i ≤ m + 1 ∧ ∀ x, x < m → h x = if x < i ∨ m - 1 < x + i then n / pw (m - 1 - x) % 256 else n / pw x % 256,
      fun vs => ((vs.getD 1 (.i 0)).toI + 1 - (vs.getD 0 (.i 0)).toI).toNat, ⟨0, fun x => n / pw x % 256, by simp, by omega, fun x hx => by rw [if_neg (by omega)]⟩, ?_⟩
    rintro _ - ⟨i, h, rfl, hi, hh⟩
    simp only [Tree.goal, X.P, X.ev, V.toI_i, V.toB_b, V.toS_s, V.toR_r, V.toV_v, V.toN_n, V.toL_l, SV.ev, CV.ev, Sc.ev, List.getD_cons_zero, List.getD_cons_succ, List.getElem?_cons_zero, List.getElem?_cons_succ, List.map_cons, List.map_nil, List.length_cons, List.length_nil, List.cons_append, List.nil_append, Nat.zero_add, Nat.reduceAdd]
    refine ⟨fun hc => ?_, fun hc => ?_⟩
    · obtain ⟨j, hj⟩ : ∃ j : Nat, (m : Int) - 1 - i = j := ⟨m - 1 - i, by omega⟩
      rw [hj] at hc ⊢
      have hjm : j < m := by omega
      have him : i < m := by omega
      have hget : ∀ x : Nat, x < m → ((List.range m).map fun x => [Value.int .u8 (h x)]).getD x [] = [Value.int .u8 (h x)] := fun x hx => by
        simp [List.getD_eq_getElem?_getD, List.getElem?_map, List.getElem?_range hx]
      have q1 : ((j : Nat) : Int) < (m : Int) := by omega
      have q2 : ((i : Nat) : Int) < (m : Int) := by omega
      have q3 : (0 : Int) ≤ (i : Int) := by omega
      have q4 : (0 : Int) ≤ (j : Int) := by omega
      have q5 : (-9223372036854775808 : Int) ≤ (i : Int) + 1 := by omega
      have q6 : (i : Int) + 1 ≤ 9223372036854775807 := by omega
      have q7 : (-9223372036854775808 : Int) ≤ (j : Int) - 1 := by omega
      have q8 : (j : Int) - 1 ≤ 9223372036854775807 := by omega
      simp only [List.length_set, List.length_map, List.length_range, Int.toNat_natCast, q1, q2, q3, q4, q5, q6, q7, q8, true_and, and_self, hget i him, hget j hjm, List.getD_cons_zero, Value.gI]
      have hset : (((List.range m).map fun x => [Value.int .u8 (h x)]).set i [Value.int .u8 (h j)]).set j [Value.int .u8 (h i)] = (List.range m).map fun x => [Value.int .u8 (if x = j then h i else if x = i then h j else h x)] := by
        apply List.ext_getElem?
        intro x
        simp only [List.getElem?_set, List.getElem?_map, List.length_set, List.length_map, List.length_range]
        by_cases hx : x < m
        · rw [List.getElem?_range hx]
          by_cases h1 : j = x
          · subst h1; simp [hx]
          · by_cases h2 : i = x
            · subst h2; simp [hx, h1, Ne.symm h1]
            · simp [h1, h2, Ne.symm h1, Ne.symm h2]
        · rw [List.getElem?_eq_none (by simp; omega)]
          have h1 : ¬ j = x := by omega
          have h2 : ¬ i = x := by omega
          simp [h1, h2]
      refine ⟨⟨i + 1, fun x => if x = j then h i else if x = i then h j else h x, ?_, by omega, ?_⟩, by omega⟩
      · rw [hset]
        simp only [List.cons.injEq, V.i.injEq, and_true, true_and]
        omega
      · intro x hx
        have a1 := hh i him
        have a2 := hh j hjm
        rw [if_neg (by omega)] at a1 a2
        show (if x = j then h i else if x = i then h j else h x) = _
        by_cases h1 : x = j
        · subst h1
          rw [if_pos rfl, if_pos (by omega), a1]
          congr 3; congr 2; omega
        · rw [if_neg h1]
          by_cases h2 : x = i
          · subst h2
            rw [if_pos rfl, if_pos (by omega), a2]
            congr 3; congr 2; omega
          · rw [if_neg h2, hh x hx]
            by_cases h3 : x < i ∨ m - 1 < x + i
            · rw [if_pos h3, if_pos (by omega)]
            · rw [if_neg h3, if_neg (by omega)]
    · intro w' hr
      refine ⟨?_, hr.mod⟩
      congr 3
      simp only [numB, List.map_map]
      refine congrArg List.toArray (List.map_congr_left fun x hx => ?_)
      have hx : x < m := by simpa using hx
      simp only [Function.comp, List.getD_cons_zero, Value.gI, hh x hx]
      by_cases h3 : x < i ∨ m - 1 < x + i
      · rw [if_pos h3]
      · rw [if_neg h3]
        have : m - 1 - x = x := by omega
        rw [this]

end Go.Proofs.YtliedecinehijaaDoor

/-
  What the functions of long numbers and of texts compute. By an AI agent.
-/
set_option linter.unusedSimpArgs false
set_option linter.unusedVariables false
namespace Go.Proofs.YtliedecinehijaaDoor
open Go.Sx

theorem ofInt_nat (x : Nat) (h : x < 2 ^ 63) : (BitVec.ofInt 64 (x : Int)).toNat = x := by
  simp [BitVec.toNat_ofInt]; omega
theorem wrap_nat (x : Nat) (h : x < 2 ^ 63) : IntKind.i64.wrap (x : Int) = x := by
  rw [IntKind.wrap_i64]; omega
theorem and127 (x : Nat) (h : x < 2 ^ 63) : ibits .and .i64 (x : Int) 127 = (x % 128 : Nat) := by
  have h127 : (127 : Int) = ((127 : Nat) : Int) := rfl
  simp only [ibits, h127]
  show IntKind.i64.wrap (((BitVec.ofInt 64 (x : Int)) &&& (BitVec.ofInt 64 ((127 : Nat) : Int))).toNat : Int) = _
  rw [BitVec.toNat_and, ofInt_nat x h, ofInt_nat 127 (by omega)]
  have e : x &&& 127 = x % 128 := Nat.and_two_pow_sub_one_eq_mod x 7
  rw [e, wrap_nat _ (by omega)]
theorem or128 (x : Nat) (h : x < 128) : ibits .or .i64 (x : Int) 128 = (x + 128 : Nat) := by
  have h128 : (128 : Int) = ((128 : Nat) : Int) := rfl
  simp only [ibits, h128]
  show IntKind.i64.wrap (((BitVec.ofInt 64 (x : Int)) ||| (BitVec.ofInt 64 ((128 : Nat) : Int))).toNat : Int) = _
  rw [BitVec.toNat_or, ofInt_nat x (by omega), ofInt_nat 128 (by omega)]
  have e : x ||| 128 = x + 128 := by
    have := Nat.two_pow_add_eq_or_of_lt (i := 7) (b := x) (by omega) 1
    rw [Nat.or_comm]
    simp only [Nat.mul_one] at this
    rw [show (128 : Nat) = 2 ^ 7 from rfl, ← this]
    omega
  rw [e, wrap_nat _ (by omega)]

/-- 128 to the power f + 1. -/
def pL : Nat → Nat
  | 0 => 128
  | f + 1 => 128 * pL f
/-- The bytes of a long number. -/
def lngB : Nat → Nat → List UInt8
  | 0, n => [UInt8.ofNat n]
  | f + 1, n => if n < 128 then [UInt8.ofNat n] else UInt8.ofNat (n % 128 + 128) :: lngB f (n / 128)
theorem lngB_small (f n : Nat) (h : n < 128) : lngB f n = [UInt8.ofNat n] := by
  cases f <;> simp [lngB, h]
theorem lngB_len : ∀ f n, (lngB f n).length ≤ f + 1
  | 0, n => by simp [lngB]
  | f + 1, n => by
    have := lngB_len f (n / 128)
    simp only [lngB]
    split <;> simp <;> omega

theorem pL_mono {a b : Nat} (h : a ≤ b) : pL a ≤ pL b := by
  induction h with
  | refl => exact Nat.le_refl _
  | step _ ih => simp only [pL]; omega
/-- The bytes that stand in rows of one cell. -/
def rowB (r : List Value) : UInt8 := UInt8.ofNat (Value.gI (r.getD 0 undef)).toNat

theorem c_LongBytes (w : World) (F n : Nat) (hF : F ≤ 7) (hn : n < pL F) : Calls Tryd.prog 85 #[.int .i64 n] w fun e w' => e = .returned (.string ⟨(lngB F n).toArray⟩) ∧ Mod [] w w' := by
  refine as_called (run_plain2 (ρ := [.i n]) sxE_ok Tryd.func85 tree_wire_LongBytes rfl rfl rfl ?_) rfl
  simp only [Tree.goal, X.P, X.ev, V.toI_i, V.toB_b, V.toS_s, V.toR_r, V.toV_v, V.toN_n, V.toL_l, SV.ev, CV.ev, Sc.ev, List.getD_cons_zero, List.getD_cons_succ, List.getElem?_cons_zero, List.getElem?_cons_succ, List.map_cons, List.map_nil, List.length_cons, List.length_nil, List.cons_append, List.nil_append, Nat.zero_add, Nat.reduceAdd]
  have hp : pL F ≤ 72057594037927936 := pL_mono (show F ≤ 7 from hF)
  refine ⟨fun vs => ∃ (x f : Nat) (v : Value) (rows : List (List Value)), vs = [.i x, .v v, .r rows] ∧ x < pL f ∧ f ≤ F ∧ rows.length + f = F ∧ rows.map rowB ++ lngB f x = lngB F n, fun vs => ((vs.getD 0 (.i 0)).toI).toNat, ⟨n, F, _, [], rfl, hn, Nat.le_refl _, by simp, by simp⟩, ?_⟩
  rintro _ - ⟨x, f, v, rows, rfl, hx, hf, hrl, hrows⟩
  have hpf : pL f ≤ 72057594037927936 := pL_mono (show f ≤ 7 by omega)
  simp only [Tree.goal, X.P, X.ev, V.toI_i, V.toB_b, V.toS_s, V.toR_r, V.toV_v, V.toN_n, V.toL_l, SV.ev, CV.ev, Sc.ev, List.getD_cons_zero, List.getD_cons_succ, List.getElem?_cons_zero, List.getElem?_cons_succ, List.map_cons, List.map_nil, List.length_cons, List.length_nil, List.cons_append, List.nil_append, Nat.zero_add, Nat.reduceAdd]
  refine ⟨fun h v1 => ?_, fun h v1 => ?_⟩
  · cases f with
    | zero => have : x < 128 := hx; omega
    | succ f =>
      have hx : x < 128 * pL f := hx
      have e1 : (x : Int).fdiv (2 ^ (Nat.min (Int.toNat 7) IntKind.i64.bits)) = (x / 128 : Nat) := by
        rw [shr_i64 _ _ (by decide)]
        rfl
      simp only [e1]
      refine ⟨by simp; omega, fun v2 => ⟨⟨x / 128, f, v2, _, rfl, by omega, by omega, ?_, ?_⟩, by omega⟩⟩
      · simp; omega
      · rw [List.map_append, List.append_assoc, ← hrows]
        congr 1
        simp only [List.map_cons, List.map_nil, rowB, List.getD_cons_zero, Value.gI, and127 x (by omega), or128 (x % 128) (by omega), wrap_byte]
        have e : (((x % 128 + 128 : Nat) : Int) % 256).toNat = x % 128 + 128 := by omega
        rw [e]
        simp only [lngB, if_neg (show ¬ x < 128 by omega), List.cons_append, List.nil_append]
  · refine ⟨by simp; omega, fun v2 w' hr => ⟨?_, hr.mod⟩⟩
    rw [← hrows, lngB_small _ _ (by omega)]
    have e : ((x : Int) % 256).toNat = x := by omega
    simp only [List.map_append, List.map_cons, List.map_nil, List.getD_cons_zero, Value.gI, wrap_byte, e]
    rfl

end Go.Proofs.YtliedecinehijaaDoor

/-
  What the functions that read numbers and texts compute. By an AI agent.
-/
set_option linter.unusedSimpArgs false
set_option linter.unusedVariables false
namespace Go.Proofs.YtliedecinehijaaDoor
open Go.Sx

theorem gI_rOf (l : List UInt8) (i : Nat) : Value.gI (((l.map fun b => [Value.int .u8 (b.toNat : Int)]).getD i []).getD 0 undef) = ((l.getD i 0).toNat : Int) := by
  simp only [List.getD_eq_getElem?_getD, List.getElem?_map]
  cases l[i]? <;> rfl
theorem getD_sl (s : List UInt8) (i lo hi : Nat) (h : lo + i < hi) : ((s.take hi).drop lo).getD i 0 = s.getD (lo + i) 0 := by
  simp only [List.getD_eq_getElem?_getD, List.getElem?_drop, List.getElem?_take, if_pos h]
theorem u8_lt (b : UInt8) : b.toNat < 256 := b.toNat_lt

/-- The number that bytes tell. -/
def beN : List UInt8 → Nat → Nat
  | [], n => n
  | c :: l, n => beN l (256 * n + c.toNat)
theorem beN_snoc (l : List UInt8) (c : UInt8) (n : Nat) : beN (l ++ [c]) n = 256 * beN l n + c.toNat := by
  induction l generalizing n with
  | nil => rfl
  | cons d l ih => simp [beN, ih]
theorem beN_lt (l : List UInt8) : ∀ n, beN l n < (n + 1) * pw l.length := by
  induction l with
  | nil => intro n; simp [beN, pw]
  | cons c l ih =>
    intro n
    have h1 := ih (256 * n + c.toNat)
    have h2 := u8_lt c
    have h3 : (256 * n + c.toNat + 1) * pw l.length ≤ (256 * (n + 1)) * pw l.length := Nat.mul_le_mul_right _ (by omega)
    simp only [beN, List.length_cons, pw]
    rw [← Nat.mul_assoc, Nat.mul_comm (n + 1) 256]
    omega
theorem take_succ_getD (l : List UInt8) (m : Nat) (h : m < l.length) : l.take (m + 1) = l.take m ++ [l.getD m 0] := by
  rw [List.take_add_one, List.getD_eq_getElem?_getD, List.getElem?_eq_getElem h]
  rfl

theorem or_shl8 (n c : Nat) (hn : n < 2 ^ 54) (hc : c < 256) : ibits .or .i64 (IntKind.i64.wrap ((n : Int) * 2 ^ (Nat.min (Int.toNat 8) IntKind.i64.bits))) (c : Int) = ((256 * n + c : Nat) : Int) := by
  have e0 : IntKind.i64.wrap ((n : Int) * 2 ^ (Nat.min (Int.toNat 8) IntKind.i64.bits)) = ((n * 256 : Nat) : Int) := by
    have : Nat.min (Int.toNat 8) IntKind.i64.bits = 8 := rfl
    rw [this, IntKind.wrap_i64]; omega
  rw [e0]
  simp only [ibits]
  show IntKind.i64.wrap (((BitVec.ofInt 64 ((n * 256 : Nat) : Int)) ||| (BitVec.ofInt 64 (c : Int))).toNat : Int) = _
  rw [BitVec.toNat_or, ofInt_nat _ (by omega), ofInt_nat c (by omega)]
  have e : n * 256 ||| c = 256 * n + c := by
    have := Nat.two_pow_add_eq_or_of_lt (i := 8) (b := c) (by omega) n
    rw [show n * 256 = 2 ^ 8 * n by omega, ← this]
  rw [e, wrap_nat _ (by omega)]

/-- A number by so many bytes, at a place of a text; what is wrong. -/
def getR (s : List UInt8) (at_ b : Int) : Int × Int :=
  if 1 ≤ b ∧ b ≤ 4 then
    if 0 ≤ at_ ∧ at_ ≤ s.length then
      if (s.length : Int) - at_ < b then (0, 8) else (beN ((s.drop at_.toNat).take b.toNat) 0, 0)
    else (0, 3)
  else (0, 7)
theorem getR_kind {s : List UInt8} {at_ b : Int} (h : ¬ (1 ≤ b ∧ b ≤ 4)) : getR s at_ b = (0, 7) := if_neg h
theorem getR_range {s : List UInt8} {at_ b : Int} (h : 1 ≤ b ∧ b ≤ 4) (h1 : ¬ (0 ≤ at_ ∧ at_ ≤ s.length)) : getR s at_ b = (0, 3) := by rw [getR, if_pos h, if_neg h1]
theorem getR_short {s : List UInt8} {at_ b : Int} (h : 1 ≤ b ∧ b ≤ 4) (h1 : 0 ≤ at_ ∧ at_ ≤ s.length) (h2 : (s.length : Int) - at_ < b) : getR s at_ b = (0, 8) := by rw [getR, if_pos h, if_pos h1, if_pos h2]
theorem getR_ok {s : List UInt8} {at_ b : Int} (h : 1 ≤ b ∧ b ≤ 4) (h1 : 0 ≤ at_ ∧ at_ ≤ s.length) (h2 : ¬ (s.length : Int) - at_ < b) : getR s at_ b = (((beN ((s.drop at_.toNat).take b.toNat) 0 : Nat) : Int), 0) := by rw [getR, if_pos h, if_pos h1, if_neg h2]
theorem beN4 (s : List UInt8) (at_ m : Nat) (h : m ≤ 4) : beN ((s.drop at_).take m) 0 < 4294967296 := by
  have h1 := beN_lt ((s.drop at_).take m) 0
  have h2 : pw ((s.drop at_).take m).length ≤ pw 4 := pw_mono (by simp; omega)
  have h3 : pw 4 = 4294967296 := rfl
  omega
theorem getR_bd (s : List UInt8) (at_ b : Int) : 0 ≤ (getR s at_ b).1 ∧ (getR s at_ b).1 < 4294967296 := by
  unfold getR
  split
  · split
    · split
      · decide
      · have := beN4 s at_.toNat b.toNat (by omega)
        show 0 ≤ ((beN ((s.drop at_.toNat).take b.toNat) 0 : Nat) : Int) ∧ ((beN ((s.drop at_.toNat).take b.toNat) 0 : Nat) : Int) < 4294967296
        omega
    · decide
  · decide
theorem beN_step (s : List UInt8) (a k : Nat) (h : a + k < s.length) : beN ((s.drop a).take (k + 1)) 0 = 256 * beN ((s.drop a).take k) 0 + (s.getD (a + k) 0).toNat := by
  rw [take_succ_getD _ _ (by simp; omega), beN_snoc]
  simp only [List.getD_eq_getElem?_getD, List.getElem?_drop]

theorem c_Get (w : World) (s : List UInt8) (at_ b : Int) (hs : s.length < 4611686018427387904) : Calls Tryd.prog 113 #[.string ⟨s.toArray⟩, .int .i64 at_, .int .i64 b] w
    fun e w' => e = .returned (.tuple #[.int .i64 (getR s at_ b).1, .int .i64 (getR s at_ b).2]) ∧ Mod [] w w' := by
  refine as_called (run_plain2 (ρ := [.s s, .i at_, .i b]) sxE_ok Tryd.func113 tree_wire_Get rfl rfl rfl ?_) rfl
  simp only [Tree.goal, X.P, X.ev, V.toI_i, V.toB_b, V.toS_s, V.toR_r, V.toV_v, V.toN_n, V.toL_l, SV.ev, CV.ev, Sc.ev, List.getD_cons_zero, List.getD_cons_succ, List.getElem?_cons_zero, List.getElem?_cons_succ, List.map_cons, List.map_nil, List.length_cons, List.length_nil, List.cons_append, List.nil_append, Nat.zero_add, Nat.reduceAdd]
  refine ⟨fun h w' hr => ⟨by rw [getR_kind (by omega)], hr.mod⟩, fun h => ?_⟩
  refine ⟨fun h1 w' hr => ⟨by rw [getR_range (by omega) h1], hr.mod⟩, fun h1 => ?_⟩
  refine ⟨by omega, by omega, fun h2 w' hr => ⟨by rw [getR_short (by omega) (by omega) h2], hr.mod⟩, fun h2 => ?_⟩
  obtain ⟨a, rfl⟩ : ∃ a : Nat, at_ = a := ⟨at_.toNat, by omega⟩
  obtain ⟨k, rfl⟩ : ∃ k : Nat, b = k := ⟨b.toNat, by omega⟩
  (repeat refine ⟨by omega, ?_⟩)
  intro v
  refine ⟨fun vs => ∃ m : Nat, vs = [.i (beN ((s.drop a).take m) 0), .i m] ∧ m ≤ k, fun vs => (k - (vs.getD 1 (.i 0)).toI).toNat, ⟨0, by simp [beN], by omega⟩, ?_⟩
  rintro _ - ⟨m, rfl, hm⟩
  have e0 : ((a : Int) + (k : Int)).toNat = a + k := by omega
  simp only [Tree.goal, X.P, X.ev, V.toI_i, V.toB_b, V.toS_s, V.toR_r, V.toV_v, V.toN_n, V.toL_l, SV.ev, CV.ev, Sc.ev, List.getD_cons_zero, List.getD_cons_succ, List.getElem?_cons_zero, List.getElem?_cons_succ, List.map_cons, List.map_nil, List.length_cons, List.length_nil, List.cons_append, List.nil_append, Nat.zero_add, Nat.reduceAdd, List.length_map, List.length_drop, List.length_take, gI_rOf, Int.toNat_natCast, e0]
  have hb := beN4 s a m (by omega)
  refine ⟨fun h3 => ?_, fun h3 w' hr => ⟨?_, hr.mod⟩⟩
  · have e2 := beN_step s a m (by omega)
    have hc := u8_lt (s.getD (a + m) 0)
    rw [getD_sl _ _ _ _ (by omega), or_shl8 _ _ (by omega) hc]
    (repeat refine ⟨by omega, ?_⟩); refine ⟨⟨m + 1, ?_, by omega⟩, by omega⟩
    rw [e2]; simp
  · have : m = k := by omega
    subst this
    rw [getR_ok (by omega) (by omega) h2]
    simp only [Int.toNat_natCast]

end Go.Proofs.YtliedecinehijaaDoor

/-
  What the functions that read long numbers and texts compute. By an AI agent.
-/
set_option linter.unusedSimpArgs false
set_option linter.unusedVariables false
namespace Go.Proofs.YtliedecinehijaaDoor
open Go.Sx

/-- 128 to the power k. -/
def p7 : Nat → Nat
  | 0 => 1
  | k + 1 => 128 * p7 k
theorem p7_mono {a b : Nat} (h : a ≤ b) : p7 a ≤ p7 b := by
  induction h with
  | refl => exact Nat.le_refl _
  | step _ ih => simp only [p7]; omega
theorem p7_pos (a : Nat) : 1 ≤ p7 a := p7_mono (Nat.zero_le a)
/-- A long number: f bytes may come, i came, n is told. -/
def glF : Nat → Nat → Nat → List UInt8 → Int × Int × Int
  | 0, _, _, _ => (0, 0, 1)
  | _ + 1, _, _, [] => (0, 0, 8)
  | f + 1, i, n, c :: l => if c.toNat < 128 then (if c.toNat = 0 ∧ 0 < i then (0, 0, 1) else (((n + c.toNat % 128 * p7 i : Nat) : Int), ((i + 1 : Nat) : Int), 0)) else glF f (i + 1) (n + c.toNat % 128 * p7 i) l
def getL (s : List UInt8) (at_ : Int) : Int × Int × Int := if 0 ≤ at_ ∧ at_ ≤ s.length then glF 4 0 0 (s.drop at_.toNat) else (0, 0, 3)
theorem getL_range {s : List UInt8} {at_ : Int} (h : ¬ (0 ≤ at_ ∧ at_ ≤ s.length)) : getL s at_ = (0, 0, 3) := if_neg h
theorem drop_getD (s : List UInt8) (k : Nat) (h : k < s.length) : s.drop k = s.getD k 0 :: s.drop (k + 1) := by
  rw [List.drop_eq_getElem_cons h, List.getD_eq_getElem?_getD, List.getElem?_eq_getElem h]; rfl
theorem glF_end {s : List UInt8} {a f i n : Nat} (h : s.length ≤ a) : glF (f + 1) i n (s.drop a) = (0, 0, 8) := by
  rw [List.drop_eq_nil_of_le h]; rfl
theorem glF_step {s : List UInt8} {a f i n : Nat} (h : a < s.length) : glF (f + 1) i n (s.drop a) =
    if (s.getD a 0).toNat < 128 then (if (s.getD a 0).toNat = 0 ∧ 0 < i then (0, 0, 1) else (((n + (s.getD a 0).toNat % 128 * p7 i : Nat) : Int), ((i + 1 : Nat) : Int), 0)) else glF f (i + 1) (n + (s.getD a 0).toNat % 128 * p7 i) (s.drop (a + 1)) := by
  rw [drop_getD s a h]; rfl
theorem glF_bd : ∀ (f i n : Nat) (l : List UInt8), n < p7 i → 0 ≤ (glF f i n l).1 ∧ (glF f i n l).1 < p7 (f + i) ∧ 0 ≤ (glF f i n l).2.1 ∧ (glF f i n l).2.1 ≤ f + i ∧ (glF f i n l).2.1 ≤ i + l.length
  | 0, i, n, l, h => by have := p7_pos (0 + i); simp only [glF]; omega
  | f + 1, i, n, [], h => by have := p7_pos (f + 1 + i); simp only [glF]; omega
  | f + 1, i, n, c :: l, h => by
    have hp := p7_pos (f + 1 + i)
    have hm : n + c.toNat % 128 * p7 i < p7 (i + 1) := by
      have : c.toNat % 128 * p7 i ≤ 127 * p7 i := Nat.mul_le_mul_right _ (by omega)
      simp only [p7]; omega
    have hm2 : p7 (i + 1) ≤ p7 (f + 1 + i) := p7_mono (by omega)
    simp only [glF]
    split
    · split
      · simp only [List.length_cons]; omega
      · simp only [List.length_cons]; omega
    · have := glF_bd f (i + 1) _ l hm
      have e : f + (i + 1) = f + 1 + i := by omega
      rw [e] at this
      simp only [List.length_cons]; omega
theorem getL_bd (s : List UInt8) (at_ : Int) : 0 ≤ (getL s at_).1 ∧ (getL s at_).1 < 268435456 ∧ 0 ≤ (getL s at_).2.1 ∧ (getL s at_).2.1 ≤ 4 ∧ (getL s at_).2.1 ≤ s.length := by
  unfold getL
  split
  · have h := glF_bd 4 0 0 (s.drop at_.toNat) (by decide)
    have e : p7 (4 + 0) = 268435456 := rfl
    rw [e, List.length_drop] at h
    omega
  · simp only; omega

theorem and127b (x : Nat) (h : x < 256) : ibits .and .u8 (x : Int) 127 = (x % 128 : Nat) := by
  have : ∀ x : Fin 256, ibits .and .u8 (x.val : Int) 127 = (x.val % 128 : Nat) := by decide +kernel
  exact this ⟨x, h⟩
theorem and128b (x : Nat) (h : x < 256) : ibits .and .u8 (x : Int) 128 = if x < 128 then 0 else 128 := by
  have : ∀ x : Fin 256, ibits .and .u8 (x.val : Int) 128 = if x.val < 128 then 0 else 128 := by decide +kernel
  exact this ⟨x, h⟩
theorem or_shl7 (n c m : Nat) (hm : m ≤ 3) (hn : n < p7 m) (hc : c < 128) : ibits .or .i64 (n : Int) (IntKind.i64.wrap ((c : Int) * 2 ^ (Nat.min ((7 : Int) * (m : Int)).toNat IntKind.i64.bits))) = ((n + c * p7 m : Nat) : Int) := by
  have hp : p7 m = 2 ^ (7 * m) := by
    have : ∀ k, p7 k = 2 ^ (7 * k) := fun k => by
      induction k with
      | zero => rfl
      | succ k ih => rw [p7, ih, Nat.mul_succ, Nat.pow_add]; omega
    exact this m
  have hpm := p7_mono hm
  have hp3 : p7 3 = 2097152 := rfl
  have q1 : c * p7 m ≤ 127 * p7 m := Nat.mul_le_mul_right _ (by omega)
  have e0 : IntKind.i64.wrap ((c : Int) * 2 ^ (Nat.min ((7 : Int) * (m : Int)).toNat IntKind.i64.bits)) = ((c * p7 m : Nat) : Int) := by
    have : Nat.min ((7 : Int) * (m : Int)).toNat IntKind.i64.bits = 7 * m := by
      have e : ((7 : Int) * (m : Int)).toNat = 7 * m := by omega
      rw [e]; exact Nat.min_eq_left (by show 7 * m ≤ 64; omega)
    rw [this]
    have e2 : (c : Int) * 2 ^ (7 * m) = ((c * p7 m : Nat) : Int) := by rw [hp]; simp
    rw [e2, wrap_nat _ (by omega)]
  rw [e0]
  simp only [ibits]
  show IntKind.i64.wrap (((BitVec.ofInt 64 (n : Int)) ||| (BitVec.ofInt 64 ((c * p7 m : Nat) : Int))).toNat : Int) = _
  rw [BitVec.toNat_or, ofInt_nat _ (by omega), ofInt_nat _ (by omega)]
  have e : n ||| c * p7 m = n + c * p7 m := by
    have := Nat.two_pow_add_eq_or_of_lt (i := 7 * m) (b := n) (by rw [← hp]; exact hn) c
    rw [hp, Nat.mul_comm c, Nat.or_comm, ← this, Nat.add_comm]
  rw [e, wrap_nat _ (by omega)]

theorem c_GetLong (w : World) (s : List UInt8) (at_ : Int) (hs : s.length < 4611686018427387904) : Calls Tryd.prog 48 #[.string ⟨s.toArray⟩, .int .i64 at_] w
    fun e w' => e = .returned (.tuple #[.int .i64 (getL s at_).1, .int .i64 (getL s at_).2.1, .int .i64 (getL s at_).2.2]) ∧ Mod [] w w' := by
  refine as_called (run_plain2 (ρ := [.s s, .i at_]) sxE_ok Tryd.func48 tree_wire_GetLong rfl rfl rfl ?_) rfl
  simp only [Tree.goal, X.P, X.ev, V.toI_i, V.toB_b, V.toS_s, V.toR_r, V.toV_v, V.toN_n, V.toL_l, SV.ev, CV.ev, Sc.ev, List.getD_cons_zero, List.getD_cons_succ, List.getElem?_cons_zero, List.getElem?_cons_succ, List.map_cons, List.map_nil, List.length_cons, List.length_nil, List.cons_append, List.nil_append, Nat.zero_add, Nat.reduceAdd]
  refine ⟨fun h w' hr => ⟨by rw [getL_range h], hr.mod⟩, fun h => ?_⟩
  obtain ⟨a, rfl⟩ : ∃ a : Nat, at_ = a := ⟨at_.toNat, by omega⟩
  have e0 : getL s a = glF 4 0 0 (s.drop a) := by rw [getL, if_pos (by omega), Int.toNat_natCast]
  rw [e0]
  obtain ⟨k, hk, hka⟩ : ∃ k : Nat, (if (a : Int) + 4 < (s.length : Int) then (a : Int) + 4 else (s.length : Int)) = ((a + k : Nat) : Int) ∧ (k = 4 ∧ a + 4 < s.length ∨ k ≤ 4 ∧ a + k = s.length) := by
    by_cases h4 : (a : Int) + 4 < s.length
    · exact ⟨4, by rw [if_pos h4]; omega, by omega⟩
    · exact ⟨s.length - a, by rw [if_neg h4]; omega, by omega⟩
  rw [hk]
  (repeat refine ⟨by omega, ?_⟩)
  intro v
  refine ⟨fun vs => ∃ (m n : Nat) (x y z : V), vs = [x, y, z, .i n, .i m] ∧ m ≤ k ∧ n < p7 m ∧ glF (4 - m) m n (s.drop (a + m)) = glF 4 0 0 (s.drop a), fun vs => (k - (vs.getD 4 (.i 0)).toI).toNat, ⟨0, 0, _, _, _, rfl, by omega, by decide, rfl⟩, ?_⟩
  rintro _ - ⟨m, n, x, y, z, rfl, hm, hn, hg⟩
  simp only [Tree.goal, X.P, X.ev, V.toI_i, V.toB_b, V.toS_s, V.toR_r, V.toV_v, V.toN_n, V.toL_l, SV.ev, CV.ev, Sc.ev, List.getD_cons_zero, List.getD_cons_succ, List.getElem?_cons_zero, List.getElem?_cons_succ, List.map_cons, List.map_nil, List.length_cons, List.length_nil, List.cons_append, List.nil_append, Nat.zero_add, Nat.reduceAdd, List.length_map, List.length_drop, List.length_take, gI_rOf, Int.toNat_natCast]
  have hp := p7_mono (show m ≤ 4 by omega)
  have hp4 : p7 4 = 268435456 := rfl
  refine ⟨fun h3 => ?_, fun h3 => ?_⟩
  · obtain ⟨g, hgm⟩ : ∃ g, 4 - m = g + 1 := ⟨3 - m, by omega⟩
    rw [hgm, glF_step (by omega)] at hg
    rw [getD_sl _ _ _ _ (by omega)]
    have hc := u8_lt (s.getD (a + m) 0)
    generalize hcc : (s.getD (a + m) 0).toNat = c at hg hc ⊢
    rw [and127b c hc, and128b c hc]
    rw [or_shl7 n (c % 128) m (by omega) hn (by omega)]
    have q1 : c % 128 * p7 m ≤ 127 * p7 m := Nat.mul_le_mul_right _ (by omega)
    (repeat refine ⟨by omega, ?_⟩)
    refine ⟨fun h5 => ?_, fun h5 => ?_⟩
    · have h5 : ¬ c < 128 := fun h => h5 (by rw [if_pos h])
      rw [if_neg h5] at hg
      refine ⟨by omega, by omega, ⟨m + 1, n + c % 128 * p7 m, x, y, z, rfl, by omega, by simp only [p7]; omega, ?_⟩, by omega⟩
      rw [← hg, show 4 - (m + 1) = g by omega]; rfl
    · have h5 : c < 128 := by
        rcases Nat.lt_or_ge c 128 with h | h
        · exact h
        · exact absurd (by rw [if_neg (by omega)]; decide) h5
      rw [if_pos h5] at hg
      refine ⟨fun h6 w' hr => ⟨?_, hr.mod⟩, fun h6 => ⟨by omega, by omega, fun w' hr => ⟨?_, hr.mod⟩⟩⟩
      · rw [if_pos (by omega)] at hg; rw [← hg]
      · rw [if_neg (by omega)] at hg; rw [← hg]; rfl
  · have : m = k := by omega
    subst this
    refine ⟨by omega, by omega, fun h4 w' hr => ⟨?_, hr.mod⟩, fun h4 w' hr => ⟨?_, hr.mod⟩⟩
    · obtain ⟨g, hgm⟩ : ∃ g, 4 - m = g + 1 := ⟨3 - m, by omega⟩
      rw [hgm, glF_end (by omega)] at hg
      rw [← hg]
    · have : m = 4 := by omega
      subst this
      rw [← hg]; rfl

end Go.Proofs.YtliedecinehijaaDoor

/-
  What the calls of the package wire, and of the reference for them, answer. By an AI agent.
-/
set_option linter.unusedSimpArgs false
set_option linter.unusedVariables false
namespace Go.Proofs.YtliedecinehijaaDoor
open Go.Sx

/-- The bytes of a number, if it may be told so. -/
def numS (n b : Int) : List UInt8 := if numErr n b = 0 then numB b.toNat n else []
theorem numErr_ok {n b : Int} : numErr n b = 0 ↔ (1 ≤ b ∧ b ≤ 4) ∧ 0 ≤ n ∧ n ≤ pw b.toNat - 1 := by
  unfold numErr; split
  · split
    · exact ⟨fun _ => ⟨‹_›, ‹_›⟩, fun _ => rfl⟩
    · exact ⟨fun h => by simp at h, fun h => absurd h.2 ‹_›⟩
  · exact ⟨fun h => by simp at h, fun h => absurd h.1 ‹_›⟩
theorem numS_ok {n b : Int} (h : (1 ≤ b ∧ b ≤ 4) ∧ 0 ≤ n ∧ n ≤ pw b.toNat - 1) : numS n b = numB b.toNat n := if_pos (numErr_ok.2 h)
theorem numB_len (k : Nat) (n : Int) : (numB k n).length = k := by simp [numB]
theorem numS_len (n b : Int) : (numS n b).length ≤ 4 := by
  unfold numS; split
  · rename_i h; have := numErr_ok.1 h; rw [numB_len]; omega
  · simp

theorem shl8 (k : Nat) (h : k ≤ 4) : IntKind.i64.wrap ((1 : Int) * 2 ^ (Nat.min ((8 : Int) * (k : Int)).toNat IntKind.i64.bits)) = (pw k : Int) := by
  have : ∀ k : Fin 5, IntKind.i64.wrap ((1 : Int) * 2 ^ (Nat.min ((8 : Int) * (k.val : Int)).toNat IntKind.i64.bits)) = (pw k.val : Int) := by decide +kernel
  exact this ⟨k, by omega⟩

def longS (n : Int) : List UInt8 := if 0 ≤ n ∧ n ≤ 268435455 then lngB 3 n.toNat else []
def longE (n : Int) : Int := if 0 ≤ n ∧ n ≤ 268435455 then 0 else 3
theorem longS_len (n : Int) : (longS n).length ≤ 4 := by
  unfold longS; split
  · exact lngB_len 3 _
  · simp
/-- The bytes of a text. -/
def txtB (t : List UInt8) : List UInt8 := numB 2 t.length ++ t
theorem c_TextBytes (w : World) (t : List UInt8) (ht : t.length < 4611686018427387904) : Calls Tryd.prog 157 #[.string ⟨t.toArray⟩] w
    fun e w' => e = .returned (.string ⟨(txtB t).toArray⟩) ∧ Mod [] w w' := by
  refine as_called (run_plain2 (ρ := [.s t]) sxE_ok Tryd.func157 tree_wire_TextBytes rfl rfl rfl ?_) rfl
  simp only [Tree.goal, X.P, X.ev, V.toI_i, V.toB_b, V.toS_s, V.toR_r, V.toV_v, V.toN_n, V.toL_l, SV.ev, CV.ev, Sc.ev, List.getD_cons_zero, List.getD_cons_succ, List.getElem?_cons_zero, List.getElem?_cons_succ, List.map_cons, List.map_nil, List.length_cons, List.length_nil, List.cons_append, List.nil_append, Nat.zero_add, Nat.reduceAdd]
  refine ⟨[.s (numB 2 t.length)], rfl, fun _ w' _ => c_Bytes w' t.length 2 (by omega) (by omega) (by omega), ?_⟩
  simp only [Tree.goal, X.P, X.ev, V.toI_i, V.toB_b, V.toS_s, V.toR_r, V.toV_v, V.toN_n, V.toL_l, SV.ev, CV.ev, Sc.ev, List.getD_cons_zero, List.getD_cons_succ, List.getElem?_cons_zero, List.getElem?_cons_succ, List.map_cons, List.map_nil, List.length_cons, List.length_nil, List.cons_append, List.nil_append, Nat.zero_add, Nat.reduceAdd]
  exact ⟨by rw [numB_len]; omega, fun w' hr => ⟨rfl, hr.mod⟩⟩
def textS (t : List UInt8) : List UInt8 := if t.length ≤ 65535 then txtB t else []
def textE (t : List UInt8) : Int := if t.length ≤ 65535 then 0 else 2
theorem textS_len (t : List UInt8) : (textS t).length ≤ t.length + 2 := by
  unfold textS; split
  · simp [txtB, numB_len]; omega
  · simp
/-- A text with its length, at a place: its bytes, how many tell it, what is wrong. -/
def getT (s : List UInt8) (at_ : Int) : List UInt8 × Int × Int :=
  if (getR s at_ 2).2 = 0 then
    if (s.length : Int) - at_ - 2 < (getR s at_ 2).1 then ([], 0, 8) else ((s.take (at_ + 2 + (getR s at_ 2).1).toNat).drop (at_ + 2).toNat, (getR s at_ 2).1 + 2, 0)
  else ([], 0, (getR s at_ 2).2)
theorem getR_zero {s : List UInt8} {at_ b : Int} (h : (getR s at_ b).2 = 0) : (1 ≤ b ∧ b ≤ 4) ∧ (0 ≤ at_ ∧ at_ ≤ s.length) ∧ ¬ (s.length : Int) - at_ < b := by
  unfold getR at h
  split at h
  · split at h
    · split at h
      · simp at h
      · exact ⟨‹_›, ‹_›, ‹_›⟩
    · simp at h
  · simp at h
theorem getT_len (s : List UInt8) (at_ : Int) : (getT s at_).1.length ≤ s.length := by
  unfold getT; split
  · split
    · simp
    · simp; omega
  · simp

theorem c_GetText (w : World) (s : List UInt8) (at_ : Int) (hs : s.length < 4611686018427387904) : Calls Tryd.prog 137 #[.string ⟨s.toArray⟩, .int .i64 at_] w
    fun e w' => e = .returned (.tuple #[.string ⟨(getT s at_).1.toArray⟩, .int .i64 (getT s at_).2.1, .int .i64 (getT s at_).2.2]) ∧ Mod [] w w' := by
  refine as_called (run_plain2 (ρ := [.s s, .i at_]) sxE_ok Tryd.func137 tree_wire_GetText rfl rfl rfl ?_) rfl
  simp only [Tree.goal, X.P, X.ev, V.toI_i, V.toB_b, V.toS_s, V.toR_r, V.toV_v, V.toN_n, V.toL_l, SV.ev, CV.ev, Sc.ev, List.getD_cons_zero, List.getD_cons_succ, List.getElem?_cons_zero, List.getElem?_cons_succ, List.map_cons, List.map_nil, List.length_cons, List.length_nil, List.cons_append, List.nil_append, Nat.zero_add, Nat.reduceAdd]
  have CALLEE := c_Get
  refine ⟨[.i (getR s at_ 2).1, .i (getR s at_ 2).2], rfl, fun _ w' _ => CALLEE w' s at_ 2 hs, ?_⟩; have hb := getR_bd s at_ 2; have hz := @getR_zero s at_ 2; simp only [Tree.goal, X.P, X.ev, V.toI_i, V.toB_b, V.toS_s, V.toR_r, V.toV_v, V.toN_n, V.toL_l, SV.ev, CV.ev, Sc.ev, List.getD_cons_zero, List.getD_cons_succ, List.getElem?_cons_zero, List.getElem?_cons_succ, List.map_cons, List.map_nil, List.length_cons, List.length_nil, List.cons_append, List.nil_append, Nat.zero_add, Nat.reduceAdd]; refine ⟨fun h w' hr => ⟨by rw [getT, if_neg h], hr.mod⟩, fun h => ?_⟩; have h0 := Decidable.not_not.1 h; have h1 := hz h0; (repeat refine ⟨by omega, ?_⟩); refine ⟨fun h2 w' hr => ⟨by rw [getT, if_pos h0, if_pos h2], hr.mod⟩, fun h2 => ?_⟩; (repeat refine ⟨by omega, ?_⟩); refine fun w' hr => ⟨?_, hr.mod⟩; rw [getT, if_pos h0, if_neg h2]

end Go.Proofs.YtliedecinehijaaDoor
