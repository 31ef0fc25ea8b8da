/-
  What the functions of the package wire compute, and what the reference's do: powers of 256. By an AI agent.
-/
import Derived.Test.YtliedecinehijaaGreatDoorZ10
import Derived.Test.YtliedecinehijaaGreatDoorZ09
set_option linter.unusedSimpArgs false
set_option linter.unusedVariables false
namespace Go.Proofs.YtliedecinehijaaGreatDoor
open Go.Sx

/-- 256 to the power k. -/
def pw : Nat → Nat
  | 0 => 1
  | k + 1 => 256 * pw k
theorem pw_mono {a b : Nat} (h : a ≤ b) : pw a ≤ pw b := by
  induction h with
  | refl => exact Nat.le_refl _
  | step _ ih => simp only [pw]; omega

theorem c_power (w : World) (n : Nat) (hn : n ≤ 7) : Calls Tryz.prog 111 #[.int .i64 n] w fun e w' => e = .returned (.int .i64 (pw n)) ∧ Mod [] w w' := by
  refine as_called (run_plain2 (ρ := [.i n]) sxE_ok Tryz.func111 tree_dragomanref_power rfl rfl rfl ?_) rfl
  simp only [Tree.goal, X.P, X.ev, V.toI_i, V.toB_b, V.toS_s, V.toR_r, V.toV_v, V.toN_n, V.toL_l, SV.ev, CV.ev, Sc.ev, List.getD_cons_zero, List.getD_cons_succ, List.getElem?_cons_zero, List.getElem?_cons_succ, List.map_cons, List.map_nil, List.length_cons, List.length_nil, List.cons_append, List.nil_append, Nat.zero_add, Nat.reduceAdd]
  refine ⟨fun vs => ∃ k : Nat, vs = [.i (pw k), .i k] ∧ k ≤ n, fun vs => (n - (vs.getD 1 (.i 0)).toI).toNat, ⟨0, rfl, by omega⟩, ?_⟩
  rintro _ - ⟨k, rfl, hk⟩
  simp only [Tree.goal, X.P, X.ev, V.toI_i, V.toB_b, V.toS_s, V.toR_r, V.toV_v, V.toN_n, V.toL_l, SV.ev, CV.ev, Sc.ev, List.getD_cons_zero, List.getD_cons_succ, List.getElem?_cons_zero, List.getElem?_cons_succ, List.map_cons, List.map_nil, List.length_cons, List.length_nil, List.cons_append, List.nil_append, Nat.zero_add, Nat.reduceAdd]
  refine ⟨fun h => ?_, fun h => ?_⟩
  · have h6 : pw k ≤ pw 6 := pw_mono (by omega)
    have h6 : pw k ≤ 281474976710656 := h6
    refine ⟨by omega, by omega, by omega, by omega, ⟨k + 1, ?_, by omega⟩, by omega⟩
    simp [pw]
  · intro w' hr
    have : k = n := by omega
    subst this
    exact ⟨rfl, hr.mod⟩

/-- What is wrong with a number. -/
def numErr (n b : Int) : Int := if 1 ≤ b ∧ b ≤ 4 then (if 0 ≤ n ∧ n ≤ pw b.toNat - 1 then 0 else 3) else 7
/-- The bytes of a number, the greatest one first. -/
def numB (k : Nat) (n : Int) : List UInt8 := (List.range k).map fun j => UInt8.ofNat (n / pw (k - 1 - j) % 256).toNat

theorem pw_pos (k : Nat) : 1 ≤ pw k := pw_mono (Nat.zero_le k)

theorem c_NumberOf (w : World) (n : Int) (k : Nat) (hk : k ≤ 8) (h0 : 0 ≤ n) (h1 : n ≤ 9223372036854775807) :
    Calls Tryz.prog 53 #[.int .i64 n, .int .i64 k] w fun e w' => e = .returned (.string ⟨(numB k n).toArray⟩) ∧ Mod [] w w' := by
  refine as_called (run_plain2 (ρ := [.i n, .i k]) sxE_ok Tryz.func53 tree_dragomanref_NumberOf rfl rfl rfl ?_) rfl
  simp only [Tree.goal, X.P, X.ev, V.toI_i, V.toB_b, V.toS_s, V.toR_r, V.toV_v, V.toN_n, V.toL_l, SV.ev, CV.ev, Sc.ev, List.getD_cons_zero, List.getD_cons_succ, List.getElem?_cons_zero, List.getElem?_cons_succ, List.map_cons, List.map_nil, List.length_cons, List.length_nil, List.cons_append, List.nil_append, Nat.zero_add, Nat.reduceAdd]
  refine ⟨by omega, by omega, fun vs => ∃ m : Nat, vs = [.s ((List.range m).map fun j => UInt8.ofNat (n / pw (k - 1 - j) % 256).toNat), .i (k - 1 - m)] ∧ m ≤ k, fun vs => ((vs.getD 1 (.i 0)).toI + 1).toNat, ⟨0, by simp, by omega⟩, ?_⟩
  rintro _ - ⟨m, rfl, hm⟩
  simp only [Tree.goal, X.P, X.ev, V.toI_i, V.toB_b, V.toS_s, V.toR_r, V.toV_v, V.toN_n, V.toL_l, SV.ev, CV.ev, Sc.ev, List.getD_cons_zero, List.getD_cons_succ, List.getElem?_cons_zero, List.getElem?_cons_succ, List.map_cons, List.map_nil, List.length_cons, List.length_nil, List.cons_append, List.nil_append, Nat.zero_add, Nat.reduceAdd]
  refine ⟨fun h => ?_, fun h => ?_⟩
  · obtain ⟨i, hi⟩ : ∃ i : Nat, (k : Int) - 1 - m = i := ⟨k - 1 - m, by omega⟩
    rw [hi]
    have hp := pw_pos i
    have hq : 0 ≤ n / (pw i : Int) := Int.ediv_nonneg h0 (by omega)
    refine ⟨[.i (pw i)], rfl, fun _ w' _ => c_power w' i (by omega), ?_⟩
    simp only [Tree.goal, X.P, X.ev, V.toI_i, V.toB_b, V.toS_s, V.toR_r, V.toV_v, V.toN_n, V.toL_l, SV.ev, CV.ev, Sc.ev, List.getD_cons_zero, List.getD_cons_succ, List.getElem?_cons_zero, List.getElem?_cons_succ, List.map_cons, List.map_nil, List.length_cons, List.length_nil, List.cons_append, List.nil_append, Nat.zero_add, Nat.reduceAdd]
    refine ⟨h0, h1, by omega, hq, fun v => ⟨by simp; omega, by omega, by omega, ⟨m + 1, ?_, by omega⟩, by omega⟩⟩
    have e1 : k - 1 - m = i := by omega
    simp only [List.range_succ, List.map_append, List.map_cons, List.map_nil, List.cons.injEq, V.s.injEq, V.i.injEq, and_true, e1]
    exact ⟨rfl, by omega⟩
  · intro w' hr
    have : m = k := by omega
    subst this
    exact ⟨rfl, hr.mod⟩

end Go.Proofs.YtliedecinehijaaGreatDoor

/-
  What wire.Bytes computes. By an AI agent.
-/
set_option linter.unusedSimpArgs false
set_option linter.unusedVariables false
namespace Go.Proofs.YtliedecinehijaaGreatDoor
open Go.Sx

theorem shr_i64 (n : Int) (s : Nat) (hs : s < 64) : n.fdiv (2 ^ (Nat.min s IntKind.i64.bits)) = n / (2 ^ s : Nat) := by
  have : Nat.min s IntKind.i64.bits = s := Nat.min_eq_left (by show s ≤ 64; omega)
  rw [this, Int.fdiv_eq_ediv_of_nonneg _ (by exact Int.pow_nonneg (by omega))]
  simp
theorem wrap_byte (n : Int) : IntKind.u8.wrap n = n % 256 := IntKind.wrap_u8 n

theorem div_pw (N m : Nat) : ((N : Int) / (pw m : Int)) / 256 = (N : Int) / (pw (m + 1) : Int) := by
  have h : (N / pw m) / 256 = N / pw (m + 1) := by rw [Nat.div_div_eq_div_mul, Nat.mul_comm]; rfl
  rw [← Int.natCast_ediv, ← Int.natCast_ediv, ← h]
  rfl

theorem c_Bytes (w : World) (n : Int) (k : Nat) (hk : k ≤ 8) (h0 : 0 ≤ n) (h1 : n ≤ 9223372036854775807) :
    Calls Tryz.prog 98 #[.int .i64 n, .int .i64 k] w fun e w' => e = .returned (.string ⟨(numB k n).toArray⟩) ∧ Mod [] w w' := by
  refine as_called (run_plain2 (ρ := [.i n, .i k]) sxE_ok Tryz.func98 tree_wire_Bytes rfl rfl rfl ?_) rfl
  simp only [Tree.goal, X.P, X.ev, V.toI_i, V.toB_b, V.toS_s, V.toR_r, V.toV_v, V.toN_n, V.toL_l, SV.ev, CV.ev, Sc.ev, List.getD_cons_zero, List.getD_cons_succ, List.getElem?_cons_zero, List.getElem?_cons_succ, List.map_cons, List.map_nil, List.length_cons, List.length_nil, List.cons_append, List.nil_append, Nat.zero_add, Nat.reduceAdd]
  refine ⟨fun vs => ∃ (m : Nat) (v : Value), vs = [.i (n / pw m), .v v, .r ((List.range m).map fun j => [.int .u8 (n / pw j % 256)]), .i m] ∧ m ≤ k, fun vs => (k - (vs.getD 3 (.i 0)).toI).toNat, ⟨0, .slice none 0 0, by simp [pw], by omega⟩, ?_⟩
  rintro _ - ⟨m, v, rfl, hm⟩
  simp only [Tree.goal, X.P, X.ev, V.toI_i, V.toB_b, V.toS_s, V.toR_r, V.toV_v, V.toN_n, V.toL_l, SV.ev, CV.ev, Sc.ev, List.getD_cons_zero, List.getD_cons_succ, List.getElem?_cons_zero, List.getElem?_cons_succ, List.map_cons, List.map_nil, List.length_cons, List.length_nil, List.cons_append, List.nil_append, Nat.zero_add, Nat.reduceAdd]
  refine ⟨fun h => ?_, fun h => ?_⟩
  · intro v1
    refine ⟨by simp; omega, fun v2 => ⟨by omega, by omega, ⟨m + 1, v2, ?_, by omega⟩, by omega⟩⟩
    have e1 : (n / pw m) / 256 = n / pw (m + 1) := by
      obtain ⟨N, rfl⟩ := Int.eq_ofNat_of_zero_le h0
      exact div_pw N m
    have e2 : Int.toNat 8 = 8 := rfl
    simp only [List.range_succ, List.map_append, List.map_cons, List.map_nil, List.cons.injEq, V.i.injEq, V.v.injEq, V.r.injEq, and_true, wrap_byte, e2, shr_i64 _ 8 (by omega), Nat.reducePow, true_and]
    exact ⟨e1, by omega⟩
  · have hmk : m = k := by omega
    subst hmk
    have hl : ((List.range m).map fun j => [Value.int .u8 (n / pw j % 256)]).length = m := by simp
    refine ⟨by omega, by omega, fun vs => ∃ (i : Nat) (h : Nat → Int), vs = [.i i, .i ((m : Int) - 1 - i), .r ((List.range m).map fun x => [.int .u8 (h x)])] ∧ 2 * i ≤ m + 1 ∧ ∀ x, x < m → h x = if x < i ∨ m - 1 < x + i then n / pw (m - 1 - x) % 256 else n / pw x % 256,
      fun vs => ((vs.getD 1 (.i 0)).toI + 1 - (vs.getD 0 (.i 0)).toI).toNat, ⟨0, fun x => n / pw x % 256, by simp, by omega, fun x hx => by rw [if_neg (by omega)]⟩, ?_⟩
    rintro _ - ⟨i, h, rfl, hi, hh⟩
    simp only [Tree.goal, X.P, X.ev, V.toI_i, V.toB_b, V.toS_s, V.toR_r, V.toV_v, V.toN_n, V.toL_l, SV.ev, CV.ev, Sc.ev, List.getD_cons_zero, List.getD_cons_succ, List.getElem?_cons_zero, List.getElem?_cons_succ, List.map_cons, List.map_nil, List.length_cons, List.length_nil, List.cons_append, List.nil_append, Nat.zero_add, Nat.reduceAdd]
    refine ⟨fun hc => ?_, fun hc => ?_⟩
    · obtain ⟨j, hj⟩ : ∃ j : Nat, (m : Int) - 1 - i = j := ⟨m - 1 - i, by omega⟩
      rw [hj] at hc ⊢
      have hjm : j < m := by omega
      have him : i < m := by omega
      have hget : ∀ x : Nat, x < m → ((List.range m).map fun x => [Value.int .u8 (h x)]).getD x [] = [Value.int .u8 (h x)] := fun x hx => by
        simp [List.getD_eq_getElem?_getD, List.getElem?_map, List.getElem?_range hx]
      have q1 : ((j : Nat) : Int) < (m : Int) := by omega
      have q2 : ((i : Nat) : Int) < (m : Int) := by omega
      have q3 : (0 : Int) ≤ (i : Int) := by omega
      have q4 : (0 : Int) ≤ (j : Int) := by omega
      have q5 : (-9223372036854775808 : Int) ≤ (i : Int) + 1 := by omega
      have q6 : (i : Int) + 1 ≤ 9223372036854775807 := by omega
      have q7 : (-9223372036854775808 : Int) ≤ (j : Int) - 1 := by omega
      have q8 : (j : Int) - 1 ≤ 9223372036854775807 := by omega
      simp only [List.length_set, List.length_map, List.length_range, Int.toNat_natCast, q1, q2, q3, q4, q5, q6, q7, q8, true_and, and_self, hget i him, hget j hjm, List.getD_cons_zero, Value.gI]
      have hset : (((List.range m).map fun x => [Value.int .u8 (h x)]).set i [Value.int .u8 (h j)]).set j [Value.int .u8 (h i)] = (List.range m).map fun x => [Value.int .u8 (if x = j then h i else if x = i then h j else h x)] := by
        apply List.ext_getElem?
        intro x
        simp only [List.getElem?_set, List.getElem?_map, List.length_set, List.length_map, List.length_range]
        by_cases hx : x < m
        · rw [List.getElem?_range hx]
          by_cases h1 : j = x
          · subst h1; simp [hx]
          · by_cases h2 : i = x
            · subst h2; simp [hx, h1, Ne.symm h1]
            · simp [h1, h2, Ne.symm h1, Ne.symm h2]
        · rw [List.getElem?_eq_none (by simp; omega)]
          have h1 : ¬ j = x := by omega
          have h2 : ¬ i = x := by omega
          simp [h1, h2]
      refine ⟨⟨i + 1, fun x => if x = j then h i else if x = i then h j else h x, ?_, by omega, ?_⟩, by omega⟩
      · rw [hset]
        simp only [List.cons.injEq, V.i.injEq, and_true, true_and]
        omega
      · intro x hx
        have a1 := hh i him
        have a2 := hh j hjm
        rw [if_neg (by omega)] at a1 a2
        show (if x = j then h i else if x = i then h j else h x) = _
        by_cases h1 : x = j
        · subst h1
          rw [if_pos rfl, if_pos (by omega), a1]
          congr 3; congr 2; omega
        · rw [if_neg h1]
          by_cases h2 : x = i
          · subst h2
            rw [if_pos rfl, if_pos (by omega), a2]
            congr 3; congr 2; omega
          · rw [if_neg h2, hh x hx]
            by_cases h3 : x < i ∨ m - 1 < x + i
            · rw [if_pos h3, if_pos (by omega)]
            · rw [if_neg h3, if_neg (by omega)]
    · intro w' hr
      refine ⟨?_, hr.mod⟩
      congr 3
      simp only [numB, List.map_map]
      refine congrArg List.toArray (List.map_congr_left fun x hx => ?_)
      have hx : x < m := by simpa using hx
      simp only [Function.comp, List.getD_cons_zero, Value.gI, hh x hx]
      by_cases h3 : x < i ∨ m - 1 < x + i
      · rw [if_pos h3]
      · rw [if_neg h3]
        have : m - 1 - x = x := by omega
        rw [this]

end Go.Proofs.YtliedecinehijaaGreatDoor

/-
  What the functions of long numbers and of texts compute. By an AI agent.
-/
set_option linter.unusedSimpArgs false
set_option linter.unusedVariables false
namespace Go.Proofs.YtliedecinehijaaGreatDoor
open Go.Sx

theorem ofInt_nat (x : Nat) (h : x < 2 ^ 63) : (BitVec.ofInt 64 (x : Int)).toNat = x := by
  simp [BitVec.toNat_ofInt]; omega
theorem wrap_nat (x : Nat) (h : x < 2 ^ 63) : IntKind.i64.wrap (x : Int) = x := by
  rw [IntKind.wrap_i64]; omega
theorem and127 (x : Nat) (h : x < 2 ^ 63) : ibits .and .i64 (x : Int) 127 = (x % 128 : Nat) := by
  have h127 : (127 : Int) = ((127 : Nat) : Int) := rfl
  simp only [ibits, h127]
  show IntKind.i64.wrap (((BitVec.ofInt 64 (x : Int)) &&& (BitVec.ofInt 64 ((127 : Nat) : Int))).toNat : Int) = _
  rw [BitVec.toNat_and, ofInt_nat x h, ofInt_nat 127 (by omega)]
  have e : x &&& 127 = x % 128 := Nat.and_two_pow_sub_one_eq_mod x 7
  rw [e, wrap_nat _ (by omega)]
theorem or128 (x : Nat) (h : x < 128) : ibits .or .i64 (x : Int) 128 = (x + 128 : Nat) := by
  have h128 : (128 : Int) = ((128 : Nat) : Int) := rfl
  simp only [ibits, h128]
  show IntKind.i64.wrap (((BitVec.ofInt 64 (x : Int)) ||| (BitVec.ofInt 64 ((128 : Nat) : Int))).toNat : Int) = _
  rw [BitVec.toNat_or, ofInt_nat x (by omega), ofInt_nat 128 (by omega)]
  have e : x ||| 128 = x + 128 := by
    have := Nat.two_pow_add_eq_or_of_lt (i := 7) (b := x) (by omega) 1
    rw [Nat.or_comm]
    simp only [Nat.mul_one] at this
    rw [show (128 : Nat) = 2 ^ 7 from rfl, ← this]
    omega
  rw [e, wrap_nat _ (by omega)]

/-- 128 to the power f + 1. -/
def pL : Nat → Nat
  | 0 => 128
  | f + 1 => 128 * pL f
/-- The bytes of a long number. -/
def lngB : Nat → Nat → List UInt8
  | 0, n => [UInt8.ofNat n]
  | f + 1, n => if n < 128 then [UInt8.ofNat n] else UInt8.ofNat (n % 128 + 128) :: lngB f (n / 128)
theorem lngB_small (f n : Nat) (h : n < 128) : lngB f n = [UInt8.ofNat n] := by
  cases f <;> simp [lngB, h]
theorem lngB_len : ∀ f n, (lngB f n).length ≤ f + 1
  | 0, n => by simp [lngB]
  | f + 1, n => by
    have := lngB_len f (n / 128)
    simp only [lngB]
    split <;> simp <;> omega

theorem pL_mono {a b : Nat} (h : a ≤ b) : pL a ≤ pL b := by
  induction h with
  | refl => exact Nat.le_refl _
  | step _ ih => simp only [pL]; omega
/-- The bytes that stand in rows of one cell. -/
def rowB (r : List Value) : UInt8 := UInt8.ofNat (Value.gI (r.getD 0 undef)).toNat

theorem c_LongOf : ∀ (f : Nat) (w : World) (n : Nat), f ≤ 7 → n < pL f → Calls Tryz.prog 55 #[.int .i64 n] w fun e w' => e = .returned (.string ⟨(lngB f n).toArray⟩) ∧ Mod [] w w' := by
  intro f
  induction f with
  | zero =>
    intro w n hf hn
    have hn : n < 128 := hn
    refine as_called (run_plain2 (ρ := [.i n]) sxE_ok Tryz.func55 tree_dragomanref_LongOf rfl rfl rfl ?_) rfl
    simp only [Tree.goal, X.P, X.ev, V.toI_i, V.toB_b, V.toS_s, V.toR_r, V.toV_v, V.toN_n, V.toL_l, SV.ev, CV.ev, Sc.ev, List.getD_cons_zero, List.getD_cons_succ, List.getElem?_cons_zero, List.getElem?_cons_succ, List.map_cons, List.map_nil, List.length_cons, List.length_nil, List.cons_append, List.nil_append, Nat.zero_add, Nat.reduceAdd]
    refine ⟨fun h v w' hr => ⟨?_, hr.mod⟩, fun h => by omega⟩
    have e : ((n : Int) % 256).toNat = n := by omega
    simp only [lngB, Value.gI, wrap_byte, e]
  | succ f ih =>
    intro w n hf hn
    have hn : n < 128 * pL f := hn
    have hp : pL f ≤ 128 ^ 7 := by
      have : ∀ a b, a ≤ b → pL a ≤ pL b := by
        intro a b h
        induction h with
        | refl => exact Nat.le_refl _
        | step _ ih => simp only [pL]; omega
      exact this f 6 (by omega)
    have hp : pL f ≤ 562949953421312 := hp
    refine as_called (run_plain2 (ρ := [.i n]) sxE_ok Tryz.func55 tree_dragomanref_LongOf rfl rfl rfl ?_) rfl
    have hl := lngB_len f (n / 128)
    have hcall : ∀ w', Calls Tryz.prog 55 #[.int .i64 ((n : Int) / 128)] w' fun e w1 => e = .returned (.string ⟨(lngB f (n / 128)).toArray⟩) ∧ Mod [] w' w1 := fun w' => ih w' (n / 128) (by omega) (by omega)
    have hd : ¬ n < 128 → UInt8.ofNat ((n : Int) % 128 + 128).toNat :: lngB f (n / 128) = lngB (f + 1) n := fun h => by
      have e : ((n : Int) % 128 + 128).toNat = n % 128 + 128 := by omega
      simp only [lngB, if_neg h, e]
    simp only [Tree.goal, X.P, X.ev, V.toI_i, V.toB_b, V.toS_s, V.toR_r, V.toV_v, V.toN_n, V.toL_l, SV.ev, CV.ev, Sc.ev, List.getD_cons_zero, List.getD_cons_succ, List.getElem?_cons_zero, List.getElem?_cons_succ, List.map_cons, List.map_nil, List.length_cons, List.length_nil, List.cons_append, List.nil_append, Nat.zero_add, Nat.reduceAdd]
    refine ⟨fun h v w' hr => ⟨?_, hr.mod⟩, fun h => ?_⟩
    · have e : ((n : Int) % 256).toNat = n := by omega
      rw [lngB_small _ _ (by omega)]
      simp only [Value.gI, wrap_byte, e]
    · (repeat refine ⟨by omega, ?_⟩); refine ⟨fun v => ⟨⟨[.s (lngB f (n / 128))], rfl, fun _ w' _ => hcall w', ?_⟩, ⟨[.s (lngB f (n / 128))], rfl, fun _ w' _ => hcall w', ?_⟩⟩, ⟨[.s (lngB f (n / 128))], rfl, fun _ w' _ => hcall w', ?_⟩⟩
      · simp only [Tree.goal, X.P, X.ev, V.toI_i, V.toB_b, V.toS_s, V.toR_r, V.toV_v, V.toN_n, V.toL_l, SV.ev, CV.ev, Sc.ev, List.getD_cons_zero, List.getD_cons_succ, List.getElem?_cons_zero, List.getElem?_cons_succ, List.map_cons, List.map_nil, List.length_cons, List.length_nil, List.cons_append, List.nil_append, Nat.zero_add, Nat.reduceAdd, Value.gI]
        refine ⟨by omega, fun w' hr => ⟨?_, hr.mod⟩⟩
        rw [hd (by omega)]
      · simp only [Tree.goal, X.P, X.ev, V.toI_i, V.toB_b, V.toS_s, V.toR_r, V.toV_v, V.toN_n, V.toL_l, SV.ev, CV.ev, Sc.ev, List.getD_cons_zero, List.getD_cons_succ, List.getElem?_cons_zero, List.getElem?_cons_succ, List.map_cons, List.map_nil, List.length_cons, List.length_nil, List.cons_append, List.nil_append, Nat.zero_add, Nat.reduceAdd, Value.gI]
        refine ⟨by omega, fun w' hr => ⟨?_, hr.mod⟩⟩
        rw [hd (by omega)]
      · simp only [Tree.goal, X.P, X.ev, V.toI_i, V.toB_b, V.toS_s, V.toR_r, V.toV_v, V.toN_n, V.toL_l, SV.ev, CV.ev, Sc.ev, List.getD_cons_zero, List.getD_cons_succ, List.getElem?_cons_zero, List.getElem?_cons_succ, List.map_cons, List.map_nil, List.length_cons, List.length_nil, List.cons_append, List.nil_append, Nat.zero_add, Nat.reduceAdd, Value.gI]
        refine fun v => ⟨by omega, fun w' hr => ⟨?_, hr.mod⟩⟩
        rw [hd (by omega)]

theorem c_LongBytes (w : World) (F n : Nat) (hF : F ≤ 7) (hn : n < pL F) : Calls Tryz.prog 100 #[.int .i64 n] w fun e w' => e = .returned (.string ⟨(lngB F n).toArray⟩) ∧ Mod [] w w' := by
  refine as_called (run_plain2 (ρ := [.i n]) sxE_ok Tryz.func100 tree_wire_LongBytes rfl rfl rfl ?_) rfl
  simp only [Tree.goal, X.P, X.ev, V.toI_i, V.toB_b, V.toS_s, V.toR_r, V.toV_v, V.toN_n, V.toL_l, SV.ev, CV.ev, Sc.ev, List.getD_cons_zero, List.getD_cons_succ, List.getElem?_cons_zero, List.getElem?_cons_succ, List.map_cons, List.map_nil, List.length_cons, List.length_nil, List.cons_append, List.nil_append, Nat.zero_add, Nat.reduceAdd]
  have hp : pL F ≤ 72057594037927936 := pL_mono (show F ≤ 7 from hF)
  refine ⟨fun vs => ∃ (x f : Nat) (v : Value) (rows : List (List Value)), vs = [.i x, .v v, .r rows] ∧ x < pL f ∧ f ≤ F ∧ rows.length + f = F ∧ rows.map rowB ++ lngB f x = lngB F n, fun vs => ((vs.getD 0 (.i 0)).toI).toNat, ⟨n, F, _, [], rfl, hn, Nat.le_refl _, by simp, by simp⟩, ?_⟩
  rintro _ - ⟨x, f, v, rows, rfl, hx, hf, hrl, hrows⟩
  have hpf : pL f ≤ 72057594037927936 := pL_mono (show f ≤ 7 by omega)
  simp only [Tree.goal, X.P, X.ev, V.toI_i, V.toB_b, V.toS_s, V.toR_r, V.toV_v, V.toN_n, V.toL_l, SV.ev, CV.ev, Sc.ev, List.getD_cons_zero, List.getD_cons_succ, List.getElem?_cons_zero, List.getElem?_cons_succ, List.map_cons, List.map_nil, List.length_cons, List.length_nil, List.cons_append, List.nil_append, Nat.zero_add, Nat.reduceAdd]
  refine ⟨fun h v1 => ?_, fun h v1 => ?_⟩
  · cases f with
    | zero => have : x < 128 := hx; omega
    | succ f =>
      have hx : x < 128 * pL f := hx
      have e1 : (x : Int).fdiv (2 ^ (Nat.min (Int.toNat 7) IntKind.i64.bits)) = (x / 128 : Nat) := by
        rw [shr_i64 _ _ (by decide)]
        rfl
      simp only [e1]
      refine ⟨by simp; omega, fun v2 => ⟨⟨x / 128, f, v2, _, rfl, by omega, by omega, ?_, ?_⟩, by omega⟩⟩
      · simp; omega
      · rw [List.map_append, List.append_assoc, ← hrows]
        congr 1
        simp only [List.map_cons, List.map_nil, rowB, List.getD_cons_zero, Value.gI, and127 x (by omega), or128 (x % 128) (by omega), wrap_byte]
        have e : (((x % 128 + 128 : Nat) : Int) % 256).toNat = x % 128 + 128 := by omega
        rw [e]
        simp only [lngB, if_neg (show ¬ x < 128 by omega), List.cons_append, List.nil_append]
  · refine ⟨by simp; omega, fun v2 w' hr => ⟨?_, hr.mod⟩⟩
    rw [← hrows, lngB_small _ _ (by omega)]
    have e : ((x : Int) % 256).toNat = x := by omega
    simp only [List.map_append, List.map_cons, List.map_nil, List.getD_cons_zero, Value.gI, wrap_byte, e]
    rfl

end Go.Proofs.YtliedecinehijaaGreatDoor

/-
  What the functions that read numbers and texts compute. By an AI agent.
-/
set_option linter.unusedSimpArgs false
set_option linter.unusedVariables false
namespace Go.Proofs.YtliedecinehijaaGreatDoor
open Go.Sx

theorem gI_rOf (l : List UInt8) (i : Nat) : Value.gI (((l.map fun b => [Value.int .u8 (b.toNat : Int)]).getD i []).getD 0 undef) = ((l.getD i 0).toNat : Int) := by
  simp only [List.getD_eq_getElem?_getD, List.getElem?_map]
  cases l[i]? <;> rfl
theorem getD_sl (s : List UInt8) (i lo hi : Nat) (h : lo + i < hi) : ((s.take hi).drop lo).getD i 0 = s.getD (lo + i) 0 := by
  simp only [List.getD_eq_getElem?_getD, List.getElem?_drop, List.getElem?_take, if_pos h]
theorem u8_lt (b : UInt8) : b.toNat < 256 := b.toNat_lt

/-- The number that bytes tell. -/
def beN : List UInt8 → Nat → Nat
  | [], n => n
  | c :: l, n => beN l (256 * n + c.toNat)
theorem beN_snoc (l : List UInt8) (c : UInt8) (n : Nat) : beN (l ++ [c]) n = 256 * beN l n + c.toNat := by
  induction l generalizing n with
  | nil => rfl
  | cons d l ih => simp [beN, ih]
theorem beN_lt (l : List UInt8) : ∀ n, beN l n < (n + 1) * pw l.length := by
  induction l with
  | nil => intro n; simp [beN, pw]
  | cons c l ih =>
    intro n
    have h1 := ih (256 * n + c.toNat)
    have h2 := u8_lt c
    have h3 : (256 * n + c.toNat + 1) * pw l.length ≤ (256 * (n + 1)) * pw l.length := Nat.mul_le_mul_right _ (by omega)
    simp only [beN, List.length_cons, pw]
    rw [← Nat.mul_assoc, Nat.mul_comm (n + 1) 256]
    omega
theorem take_succ_getD (l : List UInt8) (m : Nat) (h : m < l.length) : l.take (m + 1) = l.take m ++ [l.getD m 0] := by
  rw [List.take_add_one, List.getD_eq_getElem?_getD, List.getElem?_eq_getElem h]
  rfl

theorem or_shl8 (n c : Nat) (hn : n < 2 ^ 54) (hc : c < 256) : ibits .or .i64 (IntKind.i64.wrap ((n : Int) * 2 ^ (Nat.min (Int.toNat 8) IntKind.i64.bits))) (c : Int) = ((256 * n + c : Nat) : Int) := by
  have e0 : IntKind.i64.wrap ((n : Int) * 2 ^ (Nat.min (Int.toNat 8) IntKind.i64.bits)) = ((n * 256 : Nat) : Int) := by
    have : Nat.min (Int.toNat 8) IntKind.i64.bits = 8 := rfl
    rw [this, IntKind.wrap_i64]; omega
  rw [e0]
  simp only [ibits]
  show IntKind.i64.wrap (((BitVec.ofInt 64 ((n * 256 : Nat) : Int)) ||| (BitVec.ofInt 64 (c : Int))).toNat : Int) = _
  rw [BitVec.toNat_or, ofInt_nat _ (by omega), ofInt_nat c (by omega)]
  have e : n * 256 ||| c = 256 * n + c := by
    have := Nat.two_pow_add_eq_or_of_lt (i := 8) (b := c) (by omega) n
    rw [show n * 256 = 2 ^ 8 * n by omega, ← this]
  rw [e, wrap_nat _ (by omega)]

/-- A number by so many bytes, at a place of a text; what is wrong. -/
def getR (s : List UInt8) (at_ b : Int) : Int × Int :=
  if 1 ≤ b ∧ b ≤ 4 then
    if 0 ≤ at_ ∧ at_ ≤ s.length then
      if (s.length : Int) - at_ < b then (0, 8) else (beN ((s.drop at_.toNat).take b.toNat) 0, 0)
    else (0, 3)
  else (0, 7)
theorem getR_kind {s : List UInt8} {at_ b : Int} (h : ¬ (1 ≤ b ∧ b ≤ 4)) : getR s at_ b = (0, 7) := if_neg h
theorem getR_range {s : List UInt8} {at_ b : Int} (h : 1 ≤ b ∧ b ≤ 4) (h1 : ¬ (0 ≤ at_ ∧ at_ ≤ s.length)) : getR s at_ b = (0, 3) := by rw [getR, if_pos h, if_neg h1]
theorem getR_short {s : List UInt8} {at_ b : Int} (h : 1 ≤ b ∧ b ≤ 4) (h1 : 0 ≤ at_ ∧ at_ ≤ s.length) (h2 : (s.length : Int) - at_ < b) : getR s at_ b = (0, 8) := by rw [getR, if_pos h, if_pos h1, if_pos h2]
theorem getR_ok {s : List UInt8} {at_ b : Int} (h : 1 ≤ b ∧ b ≤ 4) (h1 : 0 ≤ at_ ∧ at_ ≤ s.length) (h2 : ¬ (s.length : Int) - at_ < b) : getR s at_ b = (((beN ((s.drop at_.toNat).take b.toNat) 0 : Nat) : Int), 0) := by rw [getR, if_pos h, if_pos h1, if_neg h2]
theorem beN4 (s : List UInt8) (at_ m : Nat) (h : m ≤ 4) : beN ((s.drop at_).take m) 0 < 4294967296 := by
  have h1 := beN_lt ((s.drop at_).take m) 0
  have h2 : pw ((s.drop at_).take m).length ≤ pw 4 := pw_mono (by simp; omega)
  have h3 : pw 4 = 4294967296 := rfl
  omega
theorem getR_bd (s : List UInt8) (at_ b : Int) : 0 ≤ (getR s at_ b).1 ∧ (getR s at_ b).1 < 4294967296 := by
  unfold getR
  split
  · split
    · split
      · decide
      · have := beN4 s at_.toNat b.toNat (by omega)
        show 0 ≤ ((beN ((s.drop at_.toNat).take b.toNat) 0 : Nat) : Int) ∧ ((beN ((s.drop at_.toNat).take b.toNat) 0 : Nat) : Int) < 4294967296
        omega
    · decide
  · decide
theorem beN_step (s : List UInt8) (a k : Nat) (h : a + k < s.length) : beN ((s.drop a).take (k + 1)) 0 = 256 * beN ((s.drop a).take k) 0 + (s.getD (a + k) 0).toNat := by
  rw [take_succ_getD _ _ (by simp; omega), beN_snoc]
  simp only [List.getD_eq_getElem?_getD, List.getElem?_drop]

theorem c_GetOf (w : World) (s : List UInt8) (at_ b : Int) (hs : s.length < 4611686018427387904) : Calls Tryz.prog 113 #[.string ⟨s.toArray⟩, .int .i64 at_, .int .i64 b] w
    fun e w' => e = .returned (.tuple #[.int .i64 (getR s at_ b).1, .int .i64 (getR s at_ b).2]) ∧ Mod [] w w' := by
  refine as_called (run_plain2 (ρ := [.s s, .i at_, .i b]) sxE_ok Tryz.func113 tree_dragomanref_GetOf rfl rfl rfl ?_) rfl
  simp only [Tree.goal, X.P, X.ev, V.toI_i, V.toB_b, V.toS_s, V.toR_r, V.toV_v, V.toN_n, V.toL_l, SV.ev, CV.ev, Sc.ev, List.getD_cons_zero, List.getD_cons_succ, List.getElem?_cons_zero, List.getElem?_cons_succ, List.map_cons, List.map_nil, List.length_cons, List.length_nil, List.cons_append, List.nil_append, Nat.zero_add, Nat.reduceAdd]
  refine ⟨fun h w' hr => ⟨by rw [getR_kind h], hr.mod⟩, fun h => ?_⟩
  refine ⟨fun h1 w' hr => ⟨by rw [getR_range (by omega) h1], hr.mod⟩, fun h1 => ?_⟩
  refine ⟨by omega, by omega, fun h2 w' hr => ⟨by rw [getR_short (by omega) (by omega) h2], hr.mod⟩, fun h2 => ?_⟩
  obtain ⟨a, rfl⟩ : ∃ a : Nat, at_ = a := ⟨at_.toNat, by omega⟩
  obtain ⟨k, rfl⟩ : ∃ k : Nat, b = k := ⟨b.toNat, by omega⟩
  refine ⟨fun vs => ∃ m : Nat, vs = [.i (beN ((s.drop a).take m) 0), .i m] ∧ m ≤ k, fun vs => (k - (vs.getD 1 (.i 0)).toI).toNat, ⟨0, by simp [beN], by omega⟩, ?_⟩
  rintro _ - ⟨m, rfl, hm⟩
  simp only [Tree.goal, X.P, X.ev, V.toI_i, V.toB_b, V.toS_s, V.toR_r, V.toV_v, V.toN_n, V.toL_l, SV.ev, CV.ev, Sc.ev, List.getD_cons_zero, List.getD_cons_succ, List.getElem?_cons_zero, List.getElem?_cons_succ, List.map_cons, List.map_nil, List.length_cons, List.length_nil, List.cons_append, List.nil_append, Nat.zero_add, Nat.reduceAdd]
  have hb := beN4 s a m (by omega)
  refine ⟨fun h3 => ?_, fun h3 w' hr => ⟨?_, hr.mod⟩⟩
  · have e1 : ((a : Int) + (m : Int)).toNat = a + m := by omega
    have e2 := beN_step s a m (by omega)
    rw [e1]
    have hc := u8_lt (s.getD (a + m) 0)
    (repeat refine ⟨by omega, ?_⟩); refine ⟨⟨m + 1, ?_, by omega⟩, by omega⟩
    rw [e2]; simp
  · have : m = k := by omega
    subst this
    rw [getR_ok (by omega) (by omega) h2]
    simp only [Int.toNat_natCast]

theorem c_Get (w : World) (s : List UInt8) (at_ b : Int) (hs : s.length < 4611686018427387904) : Calls Tryz.prog 139 #[.string ⟨s.toArray⟩, .int .i64 at_, .int .i64 b] w
    fun e w' => e = .returned (.tuple #[.int .i64 (getR s at_ b).1, .int .i64 (getR s at_ b).2]) ∧ Mod [] w w' := by
  refine as_called (run_plain2 (ρ := [.s s, .i at_, .i b]) sxE_ok Tryz.func139 tree_wire_Get rfl rfl rfl ?_) rfl
  simp only [Tree.goal, X.P, X.ev, V.toI_i, V.toB_b, V.toS_s, V.toR_r, V.toV_v, V.toN_n, V.toL_l, SV.ev, CV.ev, Sc.ev, List.getD_cons_zero, List.getD_cons_succ, List.getElem?_cons_zero, List.getElem?_cons_succ, List.map_cons, List.map_nil, List.length_cons, List.length_nil, List.cons_append, List.nil_append, Nat.zero_add, Nat.reduceAdd]
  refine ⟨fun h w' hr => ⟨by rw [getR_kind (by omega)], hr.mod⟩, fun h => ?_⟩
  refine ⟨fun h1 w' hr => ⟨by rw [getR_range (by omega) h1], hr.mod⟩, fun h1 => ?_⟩
  refine ⟨by omega, by omega, fun h2 w' hr => ⟨by rw [getR_short (by omega) (by omega) h2], hr.mod⟩, fun h2 => ?_⟩
  obtain ⟨a, rfl⟩ : ∃ a : Nat, at_ = a := ⟨at_.toNat, by omega⟩
  obtain ⟨k, rfl⟩ : ∃ k : Nat, b = k := ⟨b.toNat, by omega⟩
  (repeat refine ⟨by omega, ?_⟩)
  intro v
  refine ⟨fun vs => ∃ m : Nat, vs = [.i (beN ((s.drop a).take m) 0), .i m] ∧ m ≤ k, fun vs => (k - (vs.getD 1 (.i 0)).toI).toNat, ⟨0, by simp [beN], by omega⟩, ?_⟩
  rintro _ - ⟨m, rfl, hm⟩
  have e0 : ((a : Int) + (k : Int)).toNat = a + k := by omega
  simp only [Tree.goal, X.P, X.ev, V.toI_i, V.toB_b, V.toS_s, V.toR_r, V.toV_v, V.toN_n, V.toL_l, SV.ev, CV.ev, Sc.ev, List.getD_cons_zero, List.getD_cons_succ, List.getElem?_cons_zero, List.getElem?_cons_succ, List.map_cons, List.map_nil, List.length_cons, List.length_nil, List.cons_append, List.nil_append, Nat.zero_add, Nat.reduceAdd, List.length_map, List.length_drop, List.length_take, gI_rOf, Int.toNat_natCast, e0]
  have hb := beN4 s a m (by omega)
  refine ⟨fun h3 => ?_, fun h3 w' hr => ⟨?_, hr.mod⟩⟩
  · have e2 := beN_step s a m (by omega)
    have hc := u8_lt (s.getD (a + m) 0)
    rw [getD_sl _ _ _ _ (by omega), or_shl8 _ _ (by omega) hc]
    (repeat refine ⟨by omega, ?_⟩); refine ⟨⟨m + 1, ?_, by omega⟩, by omega⟩
    rw [e2]; simp
  · have : m = k := by omega
    subst this
    rw [getR_ok (by omega) (by omega) h2]
    simp only [Int.toNat_natCast]

end Go.Proofs.YtliedecinehijaaGreatDoor

/-
  What the functions that read long numbers and texts compute. By an AI agent.
-/
set_option linter.unusedSimpArgs false
set_option linter.unusedVariables false
namespace Go.Proofs.YtliedecinehijaaGreatDoor
open Go.Sx

/-- 128 to the power k. -/
def p7 : Nat → Nat
  | 0 => 1
  | k + 1 => 128 * p7 k
theorem p7_mono {a b : Nat} (h : a ≤ b) : p7 a ≤ p7 b := by
  induction h with
  | refl => exact Nat.le_refl _
  | step _ ih => simp only [p7]; omega
theorem p7_pos (a : Nat) : 1 ≤ p7 a := p7_mono (Nat.zero_le a)
/-- A long number: f bytes may come, i came, n is told. -/
def glF : Nat → Nat → Nat → List UInt8 → Int × Int × Int
  | 0, _, _, _ => (0, 0, 1)
  | _ + 1, _, _, [] => (0, 0, 8)
  | f + 1, i, n, c :: l => if c.toNat < 128 then (if c.toNat = 0 ∧ 0 < i then (0, 0, 1) else (((n + c.toNat % 128 * p7 i : Nat) : Int), ((i + 1 : Nat) : Int), 0)) else glF f (i + 1) (n + c.toNat % 128 * p7 i) l
def getL (s : List UInt8) (at_ : Int) : Int × Int × Int := if 0 ≤ at_ ∧ at_ ≤ s.length then glF 4 0 0 (s.drop at_.toNat) else (0, 0, 3)
theorem getL_range {s : List UInt8} {at_ : Int} (h : ¬ (0 ≤ at_ ∧ at_ ≤ s.length)) : getL s at_ = (0, 0, 3) := if_neg h
theorem drop_getD (s : List UInt8) (k : Nat) (h : k < s.length) : s.drop k = s.getD k 0 :: s.drop (k + 1) := by
  rw [List.drop_eq_getElem_cons h, List.getD_eq_getElem?_getD, List.getElem?_eq_getElem h]; rfl
theorem glF_end {s : List UInt8} {a f i n : Nat} (h : s.length ≤ a) : glF (f + 1) i n (s.drop a) = (0, 0, 8) := by
  rw [List.drop_eq_nil_of_le h]; rfl
theorem glF_step {s : List UInt8} {a f i n : Nat} (h : a < s.length) : glF (f + 1) i n (s.drop a) =
    if (s.getD a 0).toNat < 128 then (if (s.getD a 0).toNat = 0 ∧ 0 < i then (0, 0, 1) else (((n + (s.getD a 0).toNat % 128 * p7 i : Nat) : Int), ((i + 1 : Nat) : Int), 0)) else glF f (i + 1) (n + (s.getD a 0).toNat % 128 * p7 i) (s.drop (a + 1)) := by
  rw [drop_getD s a h]; rfl
theorem glF_bd : ∀ (f i n : Nat) (l : List UInt8), n < p7 i → 0 ≤ (glF f i n l).1 ∧ (glF f i n l).1 < p7 (f + i) ∧ 0 ≤ (glF f i n l).2.1 ∧ (glF f i n l).2.1 ≤ f + i ∧ (glF f i n l).2.1 ≤ i + l.length
  | 0, i, n, l, h => by have := p7_pos (0 + i); simp only [glF]; omega
  | f + 1, i, n, [], h => by have := p7_pos (f + 1 + i); simp only [glF]; omega
  | f + 1, i, n, c :: l, h => by
    have hp := p7_pos (f + 1 + i)
    have hm : n + c.toNat % 128 * p7 i < p7 (i + 1) := by
      have : c.toNat % 128 * p7 i ≤ 127 * p7 i := Nat.mul_le_mul_right _ (by omega)
      simp only [p7]; omega
    have hm2 : p7 (i + 1) ≤ p7 (f + 1 + i) := p7_mono (by omega)
    simp only [glF]
    split
    · split
      · simp only [List.length_cons]; omega
      · simp only [List.length_cons]; omega
    · have := glF_bd f (i + 1) _ l hm
      have e : f + (i + 1) = f + 1 + i := by omega
      rw [e] at this
      simp only [List.length_cons]; omega
theorem getL_bd (s : List UInt8) (at_ : Int) : 0 ≤ (getL s at_).1 ∧ (getL s at_).1 < 268435456 ∧ 0 ≤ (getL s at_).2.1 ∧ (getL s at_).2.1 ≤ 4 ∧ (getL s at_).2.1 ≤ s.length := by
  unfold getL
  split
  · have h := glF_bd 4 0 0 (s.drop at_.toNat) (by decide)
    have e : p7 (4 + 0) = 268435456 := rfl
    rw [e, List.length_drop] at h
    omega
  · simp only; omega

theorem c_GetLongOf (w : World) (s : List UInt8) (at_ : Int) (hs : s.length < 4611686018427387904) : Calls Tryz.prog 56 #[.string ⟨s.toArray⟩, .int .i64 at_] w
    fun e w' => e = .returned (.tuple #[.int .i64 (getL s at_).1, .int .i64 (getL s at_).2.1, .int .i64 (getL s at_).2.2]) ∧ Mod [] w w' := by
  refine as_called (run_plain2 (ρ := [.s s, .i at_]) sxE_ok Tryz.func56 tree_dragomanref_GetLongOf rfl rfl rfl ?_) rfl
  simp only [Tree.goal, X.P, X.ev, V.toI_i, V.toB_b, V.toS_s, V.toR_r, V.toV_v, V.toN_n, V.toL_l, SV.ev, CV.ev, Sc.ev, List.getD_cons_zero, List.getD_cons_succ, List.getElem?_cons_zero, List.getElem?_cons_succ, List.map_cons, List.map_nil, List.length_cons, List.length_nil, List.cons_append, List.nil_append, Nat.zero_add, Nat.reduceAdd]
  refine ⟨fun h w' hr => ⟨by rw [getL_range h], hr.mod⟩, fun h => ?_⟩
  obtain ⟨a, rfl⟩ : ∃ a : Nat, at_ = a := ⟨at_.toNat, by omega⟩
  have e0 : getL s a = glF 4 0 0 (s.drop a) := by rw [getL, if_pos (by omega), Int.toNat_natCast]
  rw [e0]
  refine ⟨fun vs => ∃ (m n : Nat) (x y z : V), vs = [x, y, z, .i n, .i (p7 m), .i m] ∧ m ≤ 4 ∧ n < p7 m ∧ glF (4 - m) m n (s.drop (a + m)) = glF 4 0 0 (s.drop a), fun vs => (4 - (vs.getD 5 (.i 0)).toI).toNat, ⟨0, 0, _, _, _, rfl, by omega, by decide, rfl⟩, ?_⟩
  rintro _ - ⟨m, n, x, y, z, rfl, hm, hn, hg⟩
  simp only [Tree.goal, X.P, X.ev, V.toI_i, V.toB_b, V.toS_s, V.toR_r, V.toV_v, V.toN_n, V.toL_l, SV.ev, CV.ev, Sc.ev, List.getD_cons_zero, List.getD_cons_succ, List.getElem?_cons_zero, List.getElem?_cons_succ, List.map_cons, List.map_nil, List.length_cons, List.length_nil, List.cons_append, List.nil_append, Nat.zero_add, Nat.reduceAdd]
  have hp := p7_mono hm
  have hp4 : p7 4 = 268435456 := rfl
  refine ⟨fun h3 => ?_, fun h3 w' hr => ⟨?_, hr.mod⟩⟩
  · obtain ⟨g, hgm⟩ : ∃ g, 4 - m = g + 1 := ⟨3 - m, by omega⟩
    rw [hgm] at hg
    refine ⟨by omega, by omega, fun h4 w' hr => ⟨?_, hr.mod⟩, fun h4 => ?_⟩
    · rw [← hg, glF_end (by omega)]
    · rw [glF_step (by omega)] at hg
      have e1 : ((a : Int) + (m : Int)).toNat = a + m := by omega
      rw [e1]
      have hc := u8_lt (s.getD (a + m) 0)
      generalize hcc : (s.getD (a + m) 0).toNat = c at hg hc ⊢
      have q1 : c % 128 * p7 m ≤ 127 * p7 m := Nat.mul_le_mul_right _ (by omega)
      have q2 : ((c : Int) % 128) * (p7 m : Int) = ((c % 128 * p7 m : Nat) : Int) := by simp
      rw [q2]
      (repeat refine ⟨by omega, ?_⟩)
      refine ⟨fun h5 => ?_, fun h5 => ?_⟩
      · rw [if_pos (by omega)] at hg
        refine ⟨fun h6 w' hr => ⟨?_, hr.mod⟩, fun h6 => ⟨by omega, by omega, fun w' hr => ⟨?_, hr.mod⟩⟩⟩
        · rw [if_pos (by omega)] at hg; rw [← hg]
        · rw [if_neg (by omega)] at hg; rw [← hg]; rfl
      · rw [if_neg (by omega)] at hg
        refine ⟨by omega, by omega, ⟨m + 1, n + c % 128 * p7 m, x, y, z, ?_, by omega, by simp only [p7]; omega, ?_⟩, by omega⟩
        · simp [p7]
        · rw [← hg, show 4 - (m + 1) = g by omega]; rfl
  · have : m = 4 := by omega
    subst this
    rw [← hg]; rfl

theorem and127b (x : Nat) (h : x < 256) : ibits .and .u8 (x : Int) 127 = (x % 128 : Nat) := by
  have : ∀ x : Fin 256, ibits .and .u8 (x.val : Int) 127 = (x.val % 128 : Nat) := by decide +kernel
  exact this ⟨x, h⟩
theorem and128b (x : Nat) (h : x < 256) : ibits .and .u8 (x : Int) 128 = if x < 128 then 0 else 128 := by
  have : ∀ x : Fin 256, ibits .and .u8 (x.val : Int) 128 = if x.val < 128 then 0 else 128 := by decide +kernel
  exact this ⟨x, h⟩
theorem or_shl7 (n c m : Nat) (hm : m ≤ 3) (hn : n < p7 m) (hc : c < 128) : ibits .or .i64 (n : Int) (IntKind.i64.wrap ((c : Int) * 2 ^ (Nat.min ((7 : Int) * (m : Int)).toNat IntKind.i64.bits))) = ((n + c * p7 m : Nat) : Int) := by
  have hp : p7 m = 2 ^ (7 * m) := by
    have : ∀ k, p7 k = 2 ^ (7 * k) := fun k => by
      induction k with
      | zero => rfl
      | succ k ih => rw [p7, ih, Nat.mul_succ, Nat.pow_add]; omega
    exact this m
  have hpm := p7_mono hm
  have hp3 : p7 3 = 2097152 := rfl
  have q1 : c * p7 m ≤ 127 * p7 m := Nat.mul_le_mul_right _ (by omega)
  have e0 : IntKind.i64.wrap ((c : Int) * 2 ^ (Nat.min ((7 : Int) * (m : Int)).toNat IntKind.i64.bits)) = ((c * p7 m : Nat) : Int) := by
    have : Nat.min ((7 : Int) * (m : Int)).toNat IntKind.i64.bits = 7 * m := by
      have e : ((7 : Int) * (m : Int)).toNat = 7 * m := by omega
      rw [e]; exact Nat.min_eq_left (by show 7 * m ≤ 64; omega)
    rw [this]
    have e2 : (c : Int) * 2 ^ (7 * m) = ((c * p7 m : Nat) : Int) := by rw [hp]; simp
    rw [e2, wrap_nat _ (by omega)]
  rw [e0]
  simp only [ibits]
  show IntKind.i64.wrap (((BitVec.ofInt 64 (n : Int)) ||| (BitVec.ofInt 64 ((c * p7 m : Nat) : Int))).toNat : Int) = _
  rw [BitVec.toNat_or, ofInt_nat _ (by omega), ofInt_nat _ (by omega)]
  have e : n ||| c * p7 m = n + c * p7 m := by
    have := Nat.two_pow_add_eq_or_of_lt (i := 7 * m) (b := n) (by rw [← hp]; exact hn) c
    rw [hp, Nat.mul_comm c, Nat.or_comm, ← this, Nat.add_comm]
  rw [e, wrap_nat _ (by omega)]

theorem c_GetLong (w : World) (s : List UInt8) (at_ : Int) (hs : s.length < 4611686018427387904) : Calls Tryz.prog 46 #[.string ⟨s.toArray⟩, .int .i64 at_] w
    fun e w' => e = .returned (.tuple #[.int .i64 (getL s at_).1, .int .i64 (getL s at_).2.1, .int .i64 (getL s at_).2.2]) ∧ Mod [] w w' := by
  refine as_called (run_plain2 (ρ := [.s s, .i at_]) sxE_ok Tryz.func46 tree_wire_GetLong rfl rfl rfl ?_) rfl
  simp only [Tree.goal, X.P, X.ev, V.toI_i, V.toB_b, V.toS_s, V.toR_r, V.toV_v, V.toN_n, V.toL_l, SV.ev, CV.ev, Sc.ev, List.getD_cons_zero, List.getD_cons_succ, List.getElem?_cons_zero, List.getElem?_cons_succ, List.map_cons, List.map_nil, List.length_cons, List.length_nil, List.cons_append, List.nil_append, Nat.zero_add, Nat.reduceAdd]
  refine ⟨fun h w' hr => ⟨by rw [getL_range h], hr.mod⟩, fun h => ?_⟩
  obtain ⟨a, rfl⟩ : ∃ a : Nat, at_ = a := ⟨at_.toNat, by omega⟩
  have e0 : getL s a = glF 4 0 0 (s.drop a) := by rw [getL, if_pos (by omega), Int.toNat_natCast]
  rw [e0]
  obtain ⟨k, hk, hka⟩ : ∃ k : Nat, (if (a : Int) + 4 < (s.length : Int) then (a : Int) + 4 else (s.length : Int)) = ((a + k : Nat) : Int) ∧ (k = 4 ∧ a + 4 < s.length ∨ k ≤ 4 ∧ a + k = s.length) := by
    by_cases h4 : (a : Int) + 4 < s.length
    · exact ⟨4, by rw [if_pos h4]; omega, by omega⟩
    · exact ⟨s.length - a, by rw [if_neg h4]; omega, by omega⟩
  rw [hk]
  (repeat refine ⟨by omega, ?_⟩)
  intro v
  refine ⟨fun vs => ∃ (m n : Nat) (x y z : V), vs = [x, y, z, .i n, .i m] ∧ m ≤ k ∧ n < p7 m ∧ glF (4 - m) m n (s.drop (a + m)) = glF 4 0 0 (s.drop a), fun vs => (k - (vs.getD 4 (.i 0)).toI).toNat, ⟨0, 0, _, _, _, rfl, by omega, by decide, rfl⟩, ?_⟩
  rintro _ - ⟨m, n, x, y, z, rfl, hm, hn, hg⟩
  simp only [Tree.goal, X.P, X.ev, V.toI_i, V.toB_b, V.toS_s, V.toR_r, V.toV_v, V.toN_n, V.toL_l, SV.ev, CV.ev, Sc.ev, List.getD_cons_zero, List.getD_cons_succ, List.getElem?_cons_zero, List.getElem?_cons_succ, List.map_cons, List.map_nil, List.length_cons, List.length_nil, List.cons_append, List.nil_append, Nat.zero_add, Nat.reduceAdd, List.length_map, List.length_drop, List.length_take, gI_rOf, Int.toNat_natCast]
  have hp := p7_mono (show m ≤ 4 by omega)
  have hp4 : p7 4 = 268435456 := rfl
  refine ⟨fun h3 => ?_, fun h3 => ?_⟩
  · obtain ⟨g, hgm⟩ : ∃ g, 4 - m = g + 1 := ⟨3 - m, by omega⟩
    rw [hgm, glF_step (by omega)] at hg
    rw [getD_sl _ _ _ _ (by omega)]
    have hc := u8_lt (s.getD (a + m) 0)
    generalize hcc : (s.getD (a + m) 0).toNat = c at hg hc ⊢
    rw [and127b c hc, and128b c hc]
    rw [or_shl7 n (c % 128) m (by omega) hn (by omega)]
    have q1 : c % 128 * p7 m ≤ 127 * p7 m := Nat.mul_le_mul_right _ (by omega)
    (repeat refine ⟨by omega, ?_⟩)
    refine ⟨fun h5 => ?_, fun h5 => ?_⟩
    · have h5 : ¬ c < 128 := fun h => h5 (by rw [if_pos h])
      rw [if_neg h5] at hg
      refine ⟨by omega, by omega, ⟨m + 1, n + c % 128 * p7 m, x, y, z, rfl, by omega, by simp only [p7]; omega, ?_⟩, by omega⟩
      rw [← hg, show 4 - (m + 1) = g by omega]; rfl
    · have h5 : c < 128 := by
        rcases Nat.lt_or_ge c 128 with h | h
        · exact h
        · exact absurd (by rw [if_neg (by omega)]; decide) h5
      rw [if_pos h5] at hg
      refine ⟨fun h6 w' hr => ⟨?_, hr.mod⟩, fun h6 => ⟨by omega, by omega, fun w' hr => ⟨?_, hr.mod⟩⟩⟩
      · rw [if_pos (by omega)] at hg; rw [← hg]
      · rw [if_neg (by omega)] at hg; rw [← hg]; rfl
  · have : m = k := by omega
    subst this
    refine ⟨by omega, by omega, fun h4 w' hr => ⟨?_, hr.mod⟩, fun h4 w' hr => ⟨?_, hr.mod⟩⟩
    · obtain ⟨g, hgm⟩ : ∃ g, 4 - m = g + 1 := ⟨3 - m, by omega⟩
      rw [hgm, glF_end (by omega)] at hg
      rw [← hg]
    · have : m = 4 := by omega
      subst this
      rw [← hg]; rfl

end Go.Proofs.YtliedecinehijaaGreatDoor

/-
  What the calls of the package wire, and of the reference for them, answer. By an AI agent.
-/
set_option linter.unusedSimpArgs false
set_option linter.unusedVariables false
namespace Go.Proofs.YtliedecinehijaaGreatDoor
open Go.Sx

/-- The bytes of a number, if it may be told so. -/
def numS (n b : Int) : List UInt8 := if numErr n b = 0 then numB b.toNat n else []
theorem numErr_ok {n b : Int} : numErr n b = 0 ↔ (1 ≤ b ∧ b ≤ 4) ∧ 0 ≤ n ∧ n ≤ pw b.toNat - 1 := by
  unfold numErr; split
  · split
    · exact ⟨fun _ => ⟨‹_›, ‹_›⟩, fun _ => rfl⟩
    · exact ⟨fun h => by simp at h, fun h => absurd h.2 ‹_›⟩
  · exact ⟨fun h => by simp at h, fun h => absurd h.1 ‹_›⟩
theorem numS_ok {n b : Int} (h : (1 ≤ b ∧ b ≤ 4) ∧ 0 ≤ n ∧ n ≤ pw b.toNat - 1) : numS n b = numB b.toNat n := if_pos (numErr_ok.2 h)
theorem numB_len (k : Nat) (n : Int) : (numB k n).length = k := by simp [numB]
theorem numS_len (n b : Int) : (numS n b).length ≤ 4 := by
  unfold numS; split
  · rename_i h; have := numErr_ok.1 h; rw [numB_len]; omega
  · simp

theorem shl8 (k : Nat) (h : k ≤ 4) : IntKind.i64.wrap ((1 : Int) * 2 ^ (Nat.min ((8 : Int) * (k : Int)).toNat IntKind.i64.bits)) = (pw k : Int) := by
  have : ∀ k : Fin 5, IntKind.i64.wrap ((1 : Int) * 2 ^ (Nat.min ((8 : Int) * (k.val : Int)).toNat IntKind.i64.bits)) = (pw k.val : Int) := by decide +kernel
  exact this ⟨k, by omega⟩

def longS (n : Int) : List UInt8 := if 0 ≤ n ∧ n ≤ 268435455 then lngB 3 n.toNat else []
def longE (n : Int) : Int := if 0 ≤ n ∧ n ≤ 268435455 then 0 else 3
theorem longS_len (n : Int) : (longS n).length ≤ 4 := by
  unfold longS; split
  · exact lngB_len 3 _
  · simp
/-- The bytes of a text. -/
def txtB (t : List UInt8) : List UInt8 := numB 2 t.length ++ t
theorem c_TextOf (w : World) (t : List UInt8) (ht : t.length < 4611686018427387904) : Calls Tryz.prog 52 #[.string ⟨t.toArray⟩] w
    fun e w' => e = .returned (.string ⟨(txtB t).toArray⟩) ∧ Mod [] w w' := by
  refine as_called (run_plain2 (ρ := [.s t]) sxE_ok Tryz.func52 tree_dragomanref_TextOf rfl rfl rfl ?_) rfl
  simp only [Tree.goal, X.P, X.ev, V.toI_i, V.toB_b, V.toS_s, V.toR_r, V.toV_v, V.toN_n, V.toL_l, SV.ev, CV.ev, Sc.ev, List.getD_cons_zero, List.getD_cons_succ, List.getElem?_cons_zero, List.getElem?_cons_succ, List.map_cons, List.map_nil, List.length_cons, List.length_nil, List.cons_append, List.nil_append, Nat.zero_add, Nat.reduceAdd]
  refine ⟨[.s (numB 2 t.length)], rfl, fun _ w' _ => c_NumberOf w' t.length 2 (by omega) (by omega) (by omega), ?_⟩
  simp only [Tree.goal, X.P, X.ev, V.toI_i, V.toB_b, V.toS_s, V.toR_r, V.toV_v, V.toN_n, V.toL_l, SV.ev, CV.ev, Sc.ev, List.getD_cons_zero, List.getD_cons_succ, List.getElem?_cons_zero, List.getElem?_cons_succ, List.map_cons, List.map_nil, List.length_cons, List.length_nil, List.cons_append, List.nil_append, Nat.zero_add, Nat.reduceAdd]
  exact ⟨by rw [numB_len]; omega, fun w' hr => ⟨rfl, hr.mod⟩⟩
theorem c_TextBytes (w : World) (t : List UInt8) (ht : t.length < 4611686018427387904) : Calls Tryz.prog 177 #[.string ⟨t.toArray⟩] w
    fun e w' => e = .returned (.string ⟨(txtB t).toArray⟩) ∧ Mod [] w w' := by
  refine as_called (run_plain2 (ρ := [.s t]) sxE_ok Tryz.func177 tree_wire_TextBytes rfl rfl rfl ?_) rfl
  simp only [Tree.goal, X.P, X.ev, V.toI_i, V.toB_b, V.toS_s, V.toR_r, V.toV_v, V.toN_n, V.toL_l, SV.ev, CV.ev, Sc.ev, List.getD_cons_zero, List.getD_cons_succ, List.getElem?_cons_zero, List.getElem?_cons_succ, List.map_cons, List.map_nil, List.length_cons, List.length_nil, List.cons_append, List.nil_append, Nat.zero_add, Nat.reduceAdd]
  refine ⟨[.s (numB 2 t.length)], rfl, fun _ w' _ => c_Bytes w' t.length 2 (by omega) (by omega) (by omega), ?_⟩
  simp only [Tree.goal, X.P, X.ev, V.toI_i, V.toB_b, V.toS_s, V.toR_r, V.toV_v, V.toN_n, V.toL_l, SV.ev, CV.ev, Sc.ev, List.getD_cons_zero, List.getD_cons_succ, List.getElem?_cons_zero, List.getElem?_cons_succ, List.map_cons, List.map_nil, List.length_cons, List.length_nil, List.cons_append, List.nil_append, Nat.zero_add, Nat.reduceAdd]
  exact ⟨by rw [numB_len]; omega, fun w' hr => ⟨rfl, hr.mod⟩⟩
def textS (t : List UInt8) : List UInt8 := if t.length ≤ 65535 then txtB t else []
def textE (t : List UInt8) : Int := if t.length ≤ 65535 then 0 else 2
theorem textS_len (t : List UInt8) : (textS t).length ≤ t.length + 2 := by
  unfold textS; split
  · simp [txtB, numB_len]; omega
  · simp
/-- A text with its length, at a place: its bytes, how many tell it, what is wrong. -/
def getT (s : List UInt8) (at_ : Int) : List UInt8 × Int × Int :=
  if (getR s at_ 2).2 = 0 then
    if (s.length : Int) - at_ - 2 < (getR s at_ 2).1 then ([], 0, 8) else ((s.take (at_ + 2 + (getR s at_ 2).1).toNat).drop (at_ + 2).toNat, (getR s at_ 2).1 + 2, 0)
  else ([], 0, (getR s at_ 2).2)
theorem getR_zero {s : List UInt8} {at_ b : Int} (h : (getR s at_ b).2 = 0) : (1 ≤ b ∧ b ≤ 4) ∧ (0 ≤ at_ ∧ at_ ≤ s.length) ∧ ¬ (s.length : Int) - at_ < b := by
  unfold getR at h
  split at h
  · split at h
    · split at h
      · simp at h
      · exact ⟨‹_›, ‹_›, ‹_›⟩
    · simp at h
  · simp at h
theorem getT_len (s : List UInt8) (at_ : Int) : (getT s at_).1.length ≤ s.length := by
  unfold getT; split
  · split
    · simp
    · simp; omega
  · simp

theorem c_GetTextOf (w : World) (s : List UInt8) (at_ : Int) (hs : s.length < 4611686018427387904) : Calls Tryz.prog 112 #[.string ⟨s.toArray⟩, .int .i64 at_] w
    fun e w' => e = .returned (.tuple #[.string ⟨(getT s at_).1.toArray⟩, .int .i64 (getT s at_).2.1, .int .i64 (getT s at_).2.2]) ∧ Mod [] w w' := by
  refine as_called (run_plain2 (ρ := [.s s, .i at_]) sxE_ok Tryz.func112 tree_dragomanref_GetTextOf rfl rfl rfl ?_) rfl
  simp only [Tree.goal, X.P, X.ev, V.toI_i, V.toB_b, V.toS_s, V.toR_r, V.toV_v, V.toN_n, V.toL_l, SV.ev, CV.ev, Sc.ev, List.getD_cons_zero, List.getD_cons_succ, List.getElem?_cons_zero, List.getElem?_cons_succ, List.map_cons, List.map_nil, List.length_cons, List.length_nil, List.cons_append, List.nil_append, Nat.zero_add, Nat.reduceAdd]
  have CALLEE := c_GetOf
  refine ⟨[.i (getR s at_ 2).1, .i (getR s at_ 2).2], rfl, fun _ w' _ => CALLEE w' s at_ 2 hs, ?_⟩; have hb := getR_bd s at_ 2; have hz := @getR_zero s at_ 2; simp only [Tree.goal, X.P, X.ev, V.toI_i, V.toB_b, V.toS_s, V.toR_r, V.toV_v, V.toN_n, V.toL_l, SV.ev, CV.ev, Sc.ev, List.getD_cons_zero, List.getD_cons_succ, List.getElem?_cons_zero, List.getElem?_cons_succ, List.map_cons, List.map_nil, List.length_cons, List.length_nil, List.cons_append, List.nil_append, Nat.zero_add, Nat.reduceAdd]; refine ⟨fun h w' hr => ⟨by rw [getT, if_neg h], hr.mod⟩, fun h => ?_⟩; have h0 := Decidable.not_not.1 h; have h1 := hz h0; (repeat refine ⟨by omega, ?_⟩); refine ⟨fun h2 w' hr => ⟨by rw [getT, if_pos h0, if_pos h2], hr.mod⟩, fun h2 => ?_⟩; (repeat refine ⟨by omega, ?_⟩); refine fun w' hr => ⟨?_, hr.mod⟩; rw [getT, if_pos h0, if_neg h2]
  rw [h0]
theorem c_GetText (w : World) (s : List UInt8) (at_ : Int) (hs : s.length < 4611686018427387904) : Calls Tryz.prog 154 #[.string ⟨s.toArray⟩, .int .i64 at_] w
    fun e w' => e = .returned (.tuple #[.string ⟨(getT s at_).1.toArray⟩, .int .i64 (getT s at_).2.1, .int .i64 (getT s at_).2.2]) ∧ Mod [] w w' := by
  refine as_called (run_plain2 (ρ := [.s s, .i at_]) sxE_ok Tryz.func154 tree_wire_GetText rfl rfl rfl ?_) rfl
  simp only [Tree.goal, X.P, X.ev, V.toI_i, V.toB_b, V.toS_s, V.toR_r, V.toV_v, V.toN_n, V.toL_l, SV.ev, CV.ev, Sc.ev, List.getD_cons_zero, List.getD_cons_succ, List.getElem?_cons_zero, List.getElem?_cons_succ, List.map_cons, List.map_nil, List.length_cons, List.length_nil, List.cons_append, List.nil_append, Nat.zero_add, Nat.reduceAdd]
  have CALLEE := c_Get
  refine ⟨[.i (getR s at_ 2).1, .i (getR s at_ 2).2], rfl, fun _ w' _ => CALLEE w' s at_ 2 hs, ?_⟩; have hb := getR_bd s at_ 2; have hz := @getR_zero s at_ 2; simp only [Tree.goal, X.P, X.ev, V.toI_i, V.toB_b, V.toS_s, V.toR_r, V.toV_v, V.toN_n, V.toL_l, SV.ev, CV.ev, Sc.ev, List.getD_cons_zero, List.getD_cons_succ, List.getElem?_cons_zero, List.getElem?_cons_succ, List.map_cons, List.map_nil, List.length_cons, List.length_nil, List.cons_append, List.nil_append, Nat.zero_add, Nat.reduceAdd]; refine ⟨fun h w' hr => ⟨by rw [getT, if_neg h], hr.mod⟩, fun h => ?_⟩; have h0 := Decidable.not_not.1 h; have h1 := hz h0; (repeat refine ⟨by omega, ?_⟩); refine ⟨fun h2 w' hr => ⟨by rw [getT, if_pos h0, if_pos h2], hr.mod⟩, fun h2 => ?_⟩; (repeat refine ⟨by omega, ?_⟩); refine fun w' hr => ⟨?_, hr.mod⟩; rw [getT, if_pos h0, if_neg h2]

end Go.Proofs.YtliedecinehijaaGreatDoor

/-
  The law WireBack: what is told is read; walked. By an AI agent.
-/
set_option linter.unusedSimpArgs false
set_option linter.unusedVariables false
namespace Go.Proofs.YtliedecinehijaaGreatDoor
open Go.Sx

theorem numB_nat (k n : Nat) : numB k (n : Int) = (List.range k).map fun j => UInt8.ofNat (n / pw (k - 1 - j) % 256) := by
  refine List.map_congr_left fun j _ => ?_
  congr 1
theorem numB_succ (k n : Nat) : numB (k + 1) (n : Int) = numB k ((n / 256 : Nat) : Int) ++ [UInt8.ofNat (n % 256)] := by
  rw [numB_nat, numB_nat, List.range_succ, List.map_append]
  congr 1
  · refine List.map_congr_left fun j hj => ?_
    have hj : j < k := by simpa using hj
    have e : k + 1 - 1 - j = (k - 1 - j) + 1 := by omega
    rw [e]
    show UInt8.ofNat (n / (256 * pw (k - 1 - j)) % 256) = UInt8.ofNat (n / 256 / pw (k - 1 - j) % 256)
    rw [Nat.div_div_eq_div_mul]
  · have e : k + 1 - 1 - k = 0 := by omega
    rw [List.map_cons, List.map_nil, e]
    simp [pw]
theorem beN_numB : ∀ (k n : Nat), n < pw k → beN (numB k n) 0 = n
  | 0, n, h => by
    have h : n < 1 := h
    have : n = 0 := by omega
    subst this; rfl
  | k + 1, n, h => by
    have h : n < 256 * pw k := h
    have ih := beN_numB k (n / 256) (by omega)
    rw [numB_succ, beN_snoc, ih]
    have : (UInt8.ofNat (n % 256)).toNat = n % 256 := by simp
    omega
theorem sub_mid (a s b : List UInt8) : (((a ++ s ++ b).drop a.length).take s.length) = s := by
  rw [List.append_assoc, List.drop_left, List.take_left]
theorem getR_back (a b : List UInt8) (n : Int) (k : Int) (h : numErr n k = 0) : getR (a ++ numS n k ++ b) a.length k = (n, 0) := by
  have h1 := numErr_ok.1 h
  have hl : (numS n k).length = k.toNat := by rw [numS_ok h1, numB_len]
  rw [getR_ok h1.1 (by simp; omega) (by simp [hl]; omega)]
  obtain ⟨m, rfl⟩ : ∃ m : Nat, n = m := ⟨n.toNat, by omega⟩
  have e : List.take k.toNat (List.drop (a.length : Int).toNat (a ++ numS m k ++ b)) = numS m k := by
    have := sub_mid a (numS m k) b
    rw [hl] at this
    exact this
  rw [e, numS_ok h1, beN_numB _ _ (by omega)]

theorem lngB_ne (f n : Nat) : lngB f n ≠ [] := by cases f <;> simp [lngB]; split <;> simp
theorem glF_back (b : List UInt8) : ∀ (g f i n x : Nat), x < p7 (g + 1) → g < f → (i = 0 ∨ 0 < x) → glF f i n (lngB g x ++ b) = (((n + x * p7 i : Nat) : Int), ((i + (lngB g x).length : Nat) : Int), 0)
  | 0, f + 1, i, n, x, hx, hf, hi => by
    have hx : x < 128 := hx
    have e : (UInt8.ofNat x).toNat = x := by simp; omega
    show glF (f + 1) i n ([UInt8.ofNat x] ++ b) = _
    simp only [List.cons_append, List.nil_append, glF, e, lngB, List.length_cons, List.length_nil]
    rw [if_pos hx, if_neg (by omega), Nat.mod_eq_of_lt hx]
  | g + 1, f + 1, i, n, x, hx, hf, hi => by
    by_cases h : x < 128
    · have e : (UInt8.ofNat x).toNat = x := by simp; omega
      rw [lngB_small _ _ h]
      simp only [List.cons_append, List.nil_append, glF, e, List.length_cons, List.length_nil]
      rw [if_pos h, if_neg (by omega), Nat.mod_eq_of_lt h]
    · have hx : x < 128 * p7 (g + 1) := hx
      have e : (UInt8.ofNat (x % 128 + 128)).toNat = x % 128 + 128 := by simp; omega
      have e2 : lngB (g + 1) x = UInt8.ofNat (x % 128 + 128) :: lngB g (x / 128) := by rw [lngB, if_neg h]
      rw [e2]
      simp only [List.cons_append, glF, e, List.length_cons]
      rw [if_neg (by omega), glF_back b g f (i + 1) _ (x / 128) (by omega) (by omega) (by omega)]
      have e3 : (x % 128 + 128) % 128 = x % 128 := by omega
      have e4 : x % 128 * p7 i + x / 128 * (128 * p7 i) = x * p7 i := by
        rw [← Nat.mul_assoc, ← Nat.add_mul]; congr 1; omega
      rw [e3]
      refine Prod.ext ?_ (Prod.ext ?_ rfl)
      · show ((n + x % 128 * p7 i + x / 128 * p7 (i + 1) : Nat) : Int) = _
        rw [p7, Nat.add_assoc, e4]
      · show ((i + 1 + (lngB g (x / 128)).length : Nat) : Int) = _
        congr 1; omega
theorem getL_back (a b : List UInt8) (n : Int) (h : longE n = 0) : getL (a ++ longS n ++ b) a.length = (n, ((longS n).length : Int), 0) := by
  have h1 : 0 ≤ n ∧ n ≤ 268435455 := by
    unfold longE at h; split at h
    · assumption
    · simp at h
  have e : longS n = lngB 3 n.toNat := if_pos h1
  rw [getL, if_pos (by simp; omega), Int.toNat_natCast, List.append_assoc, List.drop_left, e, glF_back b 3 4 0 0 n.toNat (by show n.toNat < 268435456; omega) (by omega) (by omega)]
  refine Prod.ext ?_ (Prod.ext ?_ rfl)
  · show ((0 + n.toNat * p7 0 : Nat) : Int) = n
    simp only [p7]; omega
  · simp
theorem getT_back (a b t : List UInt8) (h : textE t = 0) : getT (a ++ textS t ++ b) a.length = (t, ((textS t).length : Int), 0) := by
  have h1 : t.length ≤ 65535 := by
    unfold textE at h; split at h
    · assumption
    · simp at h
  have e : textS t = numB 2 t.length ++ t := if_pos h1
  have hn : numErr t.length 2 = 0 := numErr_ok.2 ⟨by omega, by omega, by show (t.length : Int) ≤ 65536 - 1; omega⟩
  have e1 := numS_ok (numErr_ok.1 hn)
  have hg : getR (a ++ textS t ++ b) a.length 2 = ((t.length : Int), 0) := by
    have := getR_back a (t ++ b) t.length 2 hn
    rw [e1] at this
    rw [e, ← this]
    simp [List.append_assoc]
  rw [getT, hg, if_pos rfl, if_neg (by simp [e, numB_len]; omega)]
  have e5 : (↑a.length + 2 + ((t.length : Int))).toNat = a.length + 2 + t.length := by omega
  have e6 : ((a.length : Int) + 2).toNat = a.length + 2 := by omega
  refine Prod.ext ?_ (Prod.ext ?_ rfl)
  · show List.drop ((a.length : Int) + 2).toNat (List.take (↑a.length + 2 + ((t.length : Int))).toNat (a ++ textS t ++ b)) = t
    rw [e5, e6, e]
    have q1 : a ++ (numB 2 t.length ++ t) ++ b = (a ++ numB 2 t.length) ++ (t ++ b) := by simp [List.append_assoc]
    have q2 : (a ++ numB 2 t.length).length = a.length + 2 := by simp [numB_len]
    rw [q1, ← q2, List.take_append, List.drop_append]
    simp
  · show (t.length : Int) + 2 = ((textS t).length : Int)
    rw [e, List.length_append, numB_len]; omega

end Go.Proofs.YtliedecinehijaaGreatDoor

/-
  Packets: what is checked of them, their bytes, how they are read; in plain terms. By an AI agent.
-/
set_option linter.unusedSimpArgs false
set_option linter.unusedVariables false
namespace Go.Proofs.YtliedecinehijaaGreatDoor
open Go.Sx

/-- An ask: its filter, how surely. -/
abbrev Ak := List UInt8 × Int
structure Pkt where
  kind : Int
  dup : Bool
  retain : Bool
  clean : Bool
  session : Bool
  qos : Int
  id : Int
  keep : Int
  code : Int
  client : List UInt8
  topic : List UInt8
  payload : List UInt8
  asks : List Ak
  codes : List Int
  deriving DecidableEq
abbrev pD (k : Int) : Pkt := ⟨k, false, false, false, false, 0, 0, 0, 0, [], [], [], [], []⟩

def kindB (k : Int) : Bool := decide ((1 ≤ k ∧ k ≤ 4) ∨ (8 ≤ k ∧ k ≤ 14))
def idB (p : Pkt) : Bool := decide ((p.kind = 3 ∧ p.qos = 1) ∨ p.kind = 4 ∨ (8 ≤ p.kind ∧ p.kind ≤ 11))
def cliB (s : List UInt8) : Bool := decide (1 ≤ (s.length : Int) ∧ (s.length : Int) ≤ 20) && plainS s
/-- A packet without all that its kind names. -/
def bareP (p : Pkt) : Pkt :=
  if p.kind = 1 then { p with client := [], clean := false, keep := 0 }
  else if p.kind = 2 then { p with code := 0, session := false }
  else if p.kind = 3 then { p with dup := false, qos := 0, retain := false, topic := [], payload := [], id := 0 }
  else if p.kind = 4 ∨ p.kind = 11 then { p with id := 0 }
  else if p.kind = 8 ∨ p.kind = 10 then { p with id := 0, asks := [] }
  else if p.kind = 9 then { p with id := 0, codes := [] }
  else p
def emptyB (p : Pkt) : Bool := decide (p = pD p.kind)
def connE (p : Pkt) : Int := if 20 < (p.client.length : Int) then 2 else if cliB p.client = true then (if 0 ≤ p.keep ∧ p.keep ≤ 65535 then 0 else 3) else 1
def connackE (p : Pkt) : Int := if 0 ≤ p.code ∧ p.code ≤ 5 then (if p.session = true ∧ p.code ≠ 0 then 4 else 0) else 3
def pubE (p : Pkt) : Int :=
  if chkT p.topic false = 0 then
    if 200 < (p.payload.length : Int) then 2
    else if 0 ≤ p.qos ∧ p.qos ≤ 1 then (if p.qos = 0 ∧ (p.dup = true ∨ p.id ≠ 0) then 1 else 0) else 3
  else chkT p.topic false
def countE (n : Nat) : Int := if n = 0 then 1 else if 5 < (n : Int) then 2 else 0
def askE (a : Ak) : Int := if chkT a.1 true = 0 then (if 0 ≤ a.2 ∧ a.2 ≤ 1 then 0 else 3) else chkT a.1 true
def noaskE (a : Ak) : Int := if chkT a.1 true = 0 then (if a.2 = 0 then 0 else 1) else chkT a.1 true
def asksL (k : Int) : List Ak → Int
  | [] => 0
  | a :: l => if (if k = 8 then askE a else noaskE a) = 0 then asksL k l else (if k = 8 then askE a else noaskE a)
def asksE (p : Pkt) : Int := if countE p.asks.length = 0 then asksL p.kind p.asks else countE p.asks.length
def codeB (c : Int) : Bool := decide (c ≠ 0 ∧ c ≠ 1 ∧ c ≠ 128)
def codesE (p : Pkt) : Int := if countE p.codes.length = 0 then (if p.codes.any codeB = true then 3 else 0) else countE p.codes.length
def partsE (p : Pkt) : Int :=
  if p.kind = 1 then connE p else if p.kind = 2 then connackE p else if p.kind = 3 then pubE p
  else if p.kind = 8 ∨ p.kind = 10 then asksE p else if p.kind = 9 then codesE p else 0
def chkP (p : Pkt) : Int :=
  if kindB p.kind = true then
    if emptyB (bareP p) = true then
      if p.kind = 3 ∧ pubE p ≠ 0 then pubE p
      else if idB p = true ∧ ¬ (1 ≤ p.id ∧ p.id ≤ 65535) then 3
      else partsE p
    else 1
  else 7

/-- The bytes of what is asked. -/
def askB (k : Int) (a : Ak) : List UInt8 := txtB a.1 ++ (if k = 8 then numB 1 a.2 else [])
def bit (b : Bool) (n : Int) : Int := if b = true then n else 0
def headB (p : Pkt) : List UInt8 :=
  if p.kind = 1 then txtB [77, 81, 84, 84] ++ (numB 1 4 ++ numB 1 (bit p.clean 2)) ++ numB 2 p.keep ++ txtB p.client
  else if p.kind = 2 then numB 1 (bit p.session 1) ++ numB 1 p.code
  else if p.kind = 3 then txtB p.topic
  else []
def bodyB (p : Pkt) : List UInt8 := headB p ++ (if idB p = true then numB 2 p.id else []) ++ p.payload ++ (p.asks.map (askB p.kind)).flatten ++ (p.codes.map (numB 1)).flatten
def firstB (p : Pkt) : Int :=
  16 * p.kind + (if p.kind = 3 then bit p.dup 8 + 2 * p.qos + bit p.retain 1 else if p.kind = 8 ∨ p.kind = 10 then 2 else 0)
def bytesP (p : Pkt) : List UInt8 := numB 1 (firstB p) ++ lngB 3 (bodyB p).length ++ bodyB p

/-- Reading: the number, the place behind it, whether there was too little. -/
def rdN (s : List UInt8) (k a : Nat) (b : Bool) : Int × Nat × Bool := if a + k ≤ s.length then ((beN ((s.drop a).take k) 0 : Nat), a + k, b) else (0, s.length, true)
def rdT (s : List UInt8) (a : Nat) (b : Bool) : List UInt8 × Nat × Bool :=
  if a + 2 ≤ s.length ∧ a + 2 + beN ((s.drop a).take 2) 0 ≤ s.length then ((s.drop (a + 2)).take (beN ((s.drop a).take 2) 0), a + 2 + beN ((s.drop a).take 2) 0, b) else ([], a, true)
def rdA (s : List UInt8) (k : Int) (a : Nat) (b : Bool) : Ak × Nat × Bool :=
  if k = 8 then (((rdT s a b).1, (rdN s 1 (rdT s a b).2.1 (rdT s a b).2.2).1), (rdN s 1 (rdT s a b).2.1 (rdT s a b).2.2).2) else (((rdT s a b).1, 0), (rdT s a b).2)
def rdAs (s : List UInt8) (k : Int) : Nat → Nat → Bool → List Ak → List Ak × Nat × Bool
  | 0, a, b, l => (l, a, b)
  | f + 1, a, b, l => if a < s.length ∧ b = false then rdAs s k f (rdA s k a b).2.1 (rdA s k a b).2.2 (l ++ [(rdA s k a b).1]) else (l, a, b)
def rdCs (s : List UInt8) : Nat → Nat → Bool → List Int → List Int × Nat × Bool
  | 0, a, b, l => (l, a, b)
  | f + 1, a, b, l => if a < s.length ∧ b = false then rdCs s f (rdN s 1 a b).2.1 (rdN s 1 a b).2.2 (l ++ [(rdN s 1 a b).1]) else (l, a, b)
/-- How many rounds there may be. -/
def rounds (s : List UInt8) (a : Nat) (b : Bool) : Nat := if b = true then 0 else s.length + 1 - a
abbrev RS := Pkt × Nat × Bool
def connD (s : List UInt8) (p : Pkt) (a : Nat) (b : Bool) : RS :=
  let t1 := rdT s a b
  let n1 := rdN s 1 t1.2.1 t1.2.2
  let n2 := rdN s 1 n1.2.1 n1.2.2
  let n3 := rdN s 2 n2.2.1 n2.2.2
  let t2 := rdT s n3.2.1 n3.2.2
  ({ p with clean := decide (n2.1 = 2), keep := n3.1, client := t2.1 }, t2.2)
def headD (s : List UInt8) (p : Pkt) (a : Nat) (b : Bool) : RS :=
  if p.kind = 1 then connD s p a b
  else if p.kind = 2 then ({ p with session := decide ((rdN s 1 a b).1 = 1), code := (rdN s 1 (rdN s 1 a b).2.1 (rdN s 1 a b).2.2).1 }, (rdN s 1 (rdN s 1 a b).2.1 (rdN s 1 a b).2.2).2)
  else if p.kind = 3 then ({ p with topic := (rdT s a b).1 }, (rdT s a b).2)
  else (p, a, b)
def idD (s : List UInt8) (q : RS) : RS := if idB q.1 = true then ({ q.1 with id := (rdN s 2 q.2.1 q.2.2).1 }, (rdN s 2 q.2.1 q.2.2).2) else q
def tailD (s : List UInt8) (q : RS) : RS :=
  if q.1.kind = 3 then ({ q.1 with payload := s.drop q.2.1 }, s.length, q.2.2)
  else if q.1.kind = 8 ∨ q.1.kind = 10 then ({ q.1 with asks := (rdAs s q.1.kind (rounds s q.2.1 q.2.2) q.2.1 q.2.2 q.1.asks).1 }, (rdAs s q.1.kind (rounds s q.2.1 q.2.2) q.2.1 q.2.2 q.1.asks).2)
  else if q.1.kind = 9 then ({ q.1 with codes := (rdCs s (rounds s q.2.1 q.2.2) q.2.1 q.2.2 q.1.codes).1 }, (rdCs s (rounds s q.2.1 q.2.2) q.2.1 q.2.2 q.1.codes).2)
  else q
def bodyD (s : List UInt8) (p : Pkt) (a : Nat) (b : Bool) : RS := tailD s (idD s (headD s p a b))
/-- The packet of which only the first byte is told. -/
def begP (c : Nat) : Pkt := if c / 16 = 3 then { pD 3 with dup := decide (c / 8 % 2 = 1), qos := c / 2 % 4, retain := decide (c % 2 = 1) } else pD ((c / 16 : Nat) : Int)
def readP (s : List UInt8) : RS := bodyD s (begP (s.getD 0 0).toNat) (1 + (getL s 1).2.1).toNat false
def decD (s : List UInt8) : Pkt × Int :=
  if s = [] ∨ (getL s 1).2.2 ≠ 0 then (pD 0, 1)
  else if (readP s).2.2 = true ∨ kindB (readP s).1.kind = false ∨ 1 < (readP s).1.qos ∨ bytesP (readP s).1 ≠ s then (pD 0, 1)
  else if chkP (readP s).1 = 0 then ((readP s).1, 0) else (pD 0, chkP (readP s).1)
end Go.Proofs.YtliedecinehijaaGreatDoor

/-
  Packets: what is told is read; in plain terms. By an AI agent.
-/
set_option linter.unusedSimpArgs false
set_option linter.unusedVariables false
namespace Go.Proofs.YtliedecinehijaaGreatDoor
open Go.Sx

theorem bare_iff (p : Pkt) : bareP p = pD p.kind ↔ (p.kind ≠ 1 → p.client = [] ∧ p.clean = false ∧ p.keep = 0) ∧ (p.kind ≠ 2 → p.session = false ∧ p.code = 0) ∧
    (p.kind ≠ 3 → p.dup = false ∧ p.retain = false ∧ p.qos = 0 ∧ p.topic = [] ∧ p.payload = []) ∧ (¬ ((3 ≤ p.kind ∧ p.kind ≤ 4) ∨ (8 ≤ p.kind ∧ p.kind ≤ 11)) → p.id = 0) ∧
    (p.kind ≠ 8 ∧ p.kind ≠ 10 → p.asks = []) ∧ (p.kind ≠ 9 → p.codes = []) := by
  obtain ⟨k, d, r, c, s, q, i, ke, co, cl, t, pl, a, cs⟩ := p
  unfold bareP
  simp only
  by_cases h1 : k = 1
  · subst h1; simp only [if_true, Pkt.mk.injEq]; simp; grind
  rw [if_neg h1]
  by_cases h2 : k = 2
  · subst h2; simp only [if_true, Pkt.mk.injEq]; simp; grind
  rw [if_neg h2]
  by_cases h3 : k = 3
  · subst h3; simp only [if_true, Pkt.mk.injEq]; simp; grind
  rw [if_neg h3]
  by_cases h4 : k = 4 ∨ k = 11
  · rw [if_pos h4]; rcases h4 with rfl | rfl <;> simp only [Pkt.mk.injEq] <;> simp <;> grind
  rw [if_neg h4]
  by_cases h5 : k = 8 ∨ k = 10
  · rw [if_pos h5]; rcases h5 with rfl | rfl <;> simp only [Pkt.mk.injEq] <;> simp <;> grind
  rw [if_neg h5]
  by_cases h6 : k = 9
  · subst h6; simp only [if_true, Pkt.mk.injEq]; simp; grind
  rw [if_neg h6]
  have h7 : ¬ ((3 ≤ k ∧ k ≤ 4) ∨ (8 ≤ k ∧ k ≤ 11)) := by omega
  have h8 : k ≠ 8 ∧ k ≠ 10 := by omega
  simp only [Pkt.mk.injEq, h7, h8, ne_eq, h1, h2, h3, h6, not_false_eq_true, true_implies, true_and, and_true]
  grind

/-- A packet that can be told and read. -/
structure FormP (p : Pkt) : Prop where
  kind : kindB p.kind = true
  bare : bareP p = pD p.kind
  qos : 0 ≤ p.qos ∧ p.qos ≤ 1
  keep : 0 ≤ p.keep ∧ p.keep < 65536
  code : 0 ≤ p.code ∧ p.code < 256
  id : 0 ≤ p.id ∧ p.id < 65536
  noid : idB p = false → p.id = 0
  client : p.client.length < 65536
  topic : p.topic.length < 65536
  asks : ∀ a ∈ p.asks, a.1.length < 65536 ∧ 0 ≤ a.2 ∧ a.2 < 256 ∧ (p.kind ≠ 8 → a.2 = 0)
  codes : ∀ c ∈ p.codes, 0 ≤ c ∧ c < 256

theorem rdN_at {s t : List UInt8} {k a n : Nat} (b : Bool) (h : s.drop a = numB k n ++ t) (ha : a ≤ s.length) (hn : n < pw k) : rdN s k a b = ((n : Int), a + k, b) ∧ s.drop (a + k) = t ∧ a + k ≤ s.length := by
  have hl : s.length - a = k + t.length := by
    rw [← List.length_drop, h, List.length_append, numB_len]
  have e : (s.drop a).take k = numB k n := by
    rw [h]; exact List.take_left' (numB_len k n)
  refine ⟨?_, ?_, by omega⟩
  · rw [rdN, if_pos (by omega), e, beN_numB k n hn]
  · rw [← List.drop_drop, h]; exact List.drop_left' (numB_len k n)
theorem rdNi_at {s t : List UInt8} {k a : Nat} {n : Int} (b : Bool) (h : s.drop a = numB k n ++ t) (ha : a ≤ s.length) (h0 : 0 ≤ n) (hn : n < pw k) : rdN s k a b = (n, a + k, b) ∧ s.drop (a + k) = t ∧ a + k ≤ s.length := by
  obtain ⟨m, rfl⟩ : ∃ m : Nat, n = m := ⟨n.toNat, by omega⟩
  exact rdN_at b h ha (by omega)
theorem rdT_at {s t x : List UInt8} {a : Nat} (b : Bool) (h : s.drop a = txtB x ++ t) (ha : a ≤ s.length) (hx : x.length < 65536) : rdT s a b = (x, a + 2 + x.length, b) ∧ s.drop (a + 2 + x.length) = t ∧ a + 2 + x.length ≤ s.length := by
  have hh : s.drop a = numB 2 (x.length : Nat) ++ (x ++ t) := by rw [h, txtB, List.append_assoc]
  have hl : s.length - a = 2 + (x.length + t.length) := by
    rw [← List.length_drop, hh, List.length_append, numB_len, List.length_append]
  have e : (s.drop a).take 2 = numB 2 (x.length : Nat) := by
    rw [hh]; exact List.take_left' (numB_len 2 _)
  have e1 : beN ((s.drop a).take 2) 0 = x.length := by rw [e]; exact beN_numB 2 _ hx
  have e2 : s.drop (a + 2) = x ++ t := by rw [← List.drop_drop, hh]; exact List.drop_left' (numB_len 2 _)
  refine ⟨?_, ?_, by omega⟩
  · rw [rdT, e1, if_pos (by omega), e2, List.take_left]
  · rw [← List.drop_drop, e2, List.drop_left]
theorem rdA_at {s t : List UInt8} {k : Int} {a : Nat} {x : Ak} (b : Bool) (h : s.drop a = askB k x ++ t) (ha : a ≤ s.length) (hx : x.1.length < 65536 ∧ 0 ≤ x.2 ∧ x.2 < 256 ∧ (k ≠ 8 → x.2 = 0)) :
    ∃ a', rdA s k a b = (x, a', b) ∧ s.drop a' = t ∧ a' ≤ s.length ∧ a + 2 ≤ a' := by
  by_cases hk : k = 8
  · have h' : s.drop a = txtB x.1 ++ (numB 1 x.2 ++ t) := by rw [h, askB, if_pos hk, List.append_assoc]
    obtain ⟨q1, q2, q3⟩ := rdT_at b h' ha hx.1
    obtain ⟨r1, r2, r3⟩ := rdNi_at b q2 q3 hx.2.1 (by show x.2 < 256; omega)
    refine ⟨_, ?_, r2, r3, by omega⟩
    rw [rdA, if_pos hk, q1]
    simp only [r1]
  · have h' : s.drop a = txtB x.1 ++ t := by rw [h, askB, if_neg hk, List.append_nil]
    obtain ⟨q1, q2, q3⟩ := rdT_at b h' ha hx.1
    refine ⟨_, ?_, q2, q3, by omega⟩
    rw [rdA, if_neg hk, q1]
    have := hx.2.2.2 hk
    simp only [Prod.mk.injEq, and_true]
    exact Prod.ext rfl this.symm
theorem rdAs_at {s : List UInt8} {k : Int} : ∀ (xs l : List Ak) (f a : Nat), s.drop a = (xs.map (askB k)).flatten → a ≤ s.length → (∀ x ∈ xs, x.1.length < 65536 ∧ 0 ≤ x.2 ∧ x.2 < 256 ∧ (k ≠ 8 → x.2 = 0)) → s.length + 1 - a ≤ f →
    rdAs s k f a false l = (l ++ xs, s.length, false)
  | [], l, f, a, h, ha, _, hf => by
    obtain ⟨g, rfl⟩ : ∃ g, f = g + 1 := ⟨f - 1, by omega⟩
    have : s.length - a = 0 := by rw [← List.length_drop, h]; rfl
    rw [rdAs, if_neg (by omega), List.append_nil]
    have : a = s.length := by omega
    rw [this]
  | x :: xs, l, f, a, h, ha, hx, hf => by
    obtain ⟨g, rfl⟩ : ∃ g, f = g + 1 := ⟨f - 1, by omega⟩
    rw [List.map_cons, List.flatten_cons] at h
    obtain ⟨a', h1, h2, h3, h4⟩ := rdA_at false h ha (hx x (List.mem_cons_self ..))
    rw [rdAs, if_pos ⟨by omega, rfl⟩, h1]
    simp only
    rw [rdAs_at xs _ g a' h2 h3 (fun y hy => hx y (List.mem_cons_of_mem _ hy)) (by omega)]
    simp
theorem rdCs_at {s : List UInt8} : ∀ (xs l : List Int) (f a : Nat), s.drop a = (xs.map (numB 1)).flatten → a ≤ s.length → (∀ x ∈ xs, 0 ≤ x ∧ x < 256) → s.length + 1 - a ≤ f →
    rdCs s f a false l = (l ++ xs, s.length, false)
  | [], l, f, a, h, ha, _, hf => by
    obtain ⟨g, rfl⟩ : ∃ g, f = g + 1 := ⟨f - 1, by omega⟩
    have : s.length - a = 0 := by rw [← List.length_drop, h]; rfl
    rw [rdCs, if_neg (by omega), List.append_nil]
    have : a = s.length := by omega
    rw [this]
  | x :: xs, l, f, a, h, ha, hx, hf => by
    obtain ⟨g, rfl⟩ : ∃ g, f = g + 1 := ⟨f - 1, by omega⟩
    rw [List.map_cons, List.flatten_cons] at h
    have hx0 := hx x (List.mem_cons_self ..)
    obtain ⟨h1, h2, h3⟩ := rdNi_at false h ha hx0.1 (by show x < 256; omega)
    rw [rdCs, if_pos ⟨by omega, rfl⟩, h1]
    simp only
    rw [rdCs_at xs _ g (a + 1) h2 h3 (fun y hy => hx y (List.mem_cons_of_mem _ hy)) (by omega)]
    simp

theorem begP_first {p : Pkt} (h : FormP p) : begP (UInt8.ofNat (firstB p % 256).toNat).toNat = { pD p.kind with dup := p.dup, qos := p.qos, retain := p.retain } := by
  have hb := (bare_iff p).1 h.bare
  have hk := h.kind
  have hq := h.qos
  simp only [kindB, decide_eq_true_eq] at hk
  have hf : 0 ≤ firstB p ∧ firstB p < 256 ∧ firstB p / 16 = p.kind := by
    unfold firstB bit
    split
    · split <;> split <;> omega
    · split <;> omega
  have e1 : (UInt8.ofNat (firstB p % 256).toNat).toNat = (firstB p).toNat := by simp; omega
  rw [e1, begP]
  have e2 : (((firstB p).toNat / 16 : Nat) : Int) = p.kind := by omega
  by_cases h3 : p.kind = 3
  · rw [if_pos (by omega)]
    have hv : firstB p = 48 + (bit p.dup 8 + 2 * p.qos + bit p.retain 1) := by rw [firstB, if_pos h3, h3]; rfl
    unfold bit at hv
    rw [h3]
    simp only [Pkt.mk.injEq, and_true, true_and]
    refine ⟨?_, ?_, ?_⟩
    · cases hd : p.dup <;> cases hr : p.retain <;> simp [hd, hr] at hv ⊢ <;> omega
    · cases hd : p.dup <;> cases hr : p.retain <;> simp [hd, hr] at hv ⊢ <;> omega
    · cases hd : p.dup <;> cases hr : p.retain <;> simp [hd, hr] at hv ⊢ <;> omega
  · rw [if_neg (by omega), e2]
    obtain ⟨b1, b2, b3, -, -⟩ := hb.2.2.1 h3
    rw [b1, b2, b3]

theorem body_at {p : Pkt} (h : FormP p) {s : List UInt8} {a : Nat} (hs : s.drop a = bodyB p) (ha : a ≤ s.length) :
    bodyD s { pD p.kind with dup := p.dup, qos := p.qos, retain := p.retain } a false = (p, s.length, false) := by
  have hb := (bare_iff p).1 h.bare
  have hk := h.kind
  have hno := h.noid
  have hask := h.asks
  have hcod := h.codes
  have hkeep := h.keep
  have hcode := h.code
  have hid := h.id
  have hcl := h.client
  have htp := h.topic
  have hqos := h.qos
  obtain ⟨k, d, r, c, se, q, i, ke, co, cl, t, pl, az, cs⟩ := p
  simp only [kindB, decide_eq_true_eq] at hk
  simp only at hb hno hask hcod hkeep hcode hid hcl htp hqos hs ⊢
  obtain ⟨b1, b2, b3, b4, b5, b6⟩ := hb
  have hend : ∀ {x : Nat}, s.drop x = [] → x ≤ s.length → x = s.length := fun {x} hx hx2 => by
    have : s.length - x = 0 := by rw [← List.length_drop, hx]; rfl
    omega
  by_cases k1 : k = 1
  · subst k1
    obtain ⟨rfl, rfl⟩ := b2 (by omega)
    obtain ⟨rfl, rfl, rfl, rfl, rfl⟩ := b3 (by omega)
    obtain rfl := b4 (by omega)
    obtain rfl := b5 (by omega)
    obtain rfl := b6 (by omega)
    have e : s.drop a = txtB [77, 81, 84, 84] ++ (numB 1 4 ++ (numB 1 (bit c 2) ++ (numB 2 ke ++ (txtB cl ++ [])))) := by
      rw [hs]; simp [bodyB, headB, idB]
    obtain ⟨q1, q2, q3⟩ := rdT_at false e ha (by decide)
    obtain ⟨r1, r2, r3⟩ := rdNi_at false q2 q3 (by omega) (by decide)
    obtain ⟨s1, s2, s3⟩ := rdNi_at false r2 r3 (by unfold bit; split <;> omega) (by show bit c 2 < 256; unfold bit; split <;> omega)
    obtain ⟨t1, t2, t3⟩ := rdNi_at false s2 s3 hkeep.1 (by show ke < 65536; omega)
    obtain ⟨u1, u2, u3⟩ := rdT_at false t2 t3 hcl
    have hx := hend u2 u3
    have hbit : decide (bit c 2 = 2) = c := by cases c <;> rfl
    simp only [bodyD, headD, if_true, connD, q1, r1, s1, t1, u1, idD, idB, tailD, hbit, hx]
    rfl
  by_cases k2 : k = 2
  · subst k2
    obtain ⟨rfl, rfl, rfl⟩ := b1 (by omega)
    obtain ⟨rfl, rfl, rfl, rfl, rfl⟩ := b3 (by omega)
    obtain rfl := b4 (by omega)
    obtain rfl := b5 (by omega)
    obtain rfl := b6 (by omega)
    have e : s.drop a = numB 1 (bit se 1) ++ (numB 1 co ++ []) := by
      rw [hs]; simp [bodyB, headB, idB]
    obtain ⟨r1, r2, r3⟩ := rdNi_at false e ha (by unfold bit; split <;> omega) (by show bit se 1 < 256; unfold bit; split <;> omega)
    obtain ⟨s1, s2, s3⟩ := rdNi_at false r2 r3 hcode.1 (by show co < 256; omega)
    have hx := hend s2 s3
    have hbit : decide (bit se 1 = 1) = se := by cases se <;> rfl
    simp only [bodyD, headD, if_true, r1, s1, idD, idB, tailD, hbit, hx]
    rfl
  by_cases k3 : k = 3
  · subst k3
    obtain ⟨rfl, rfl, rfl⟩ := b1 (by omega)
    obtain ⟨rfl, rfl⟩ := b2 (by omega)
    obtain rfl := b5 (by omega)
    obtain rfl := b6 (by omega)
    by_cases hq : q = 1
    · subst hq
      have e : s.drop a = txtB t ++ (numB 2 i ++ pl) := by
        rw [hs]; simp [bodyB, headB, idB]
      obtain ⟨q1, q2, q3⟩ := rdT_at false e ha htp
      obtain ⟨r1, r2, r3⟩ := rdNi_at false q2 q3 hid.1 (by show i < 65536; omega)
      have hd : headD s ⟨3, d, r, false, false, 1, 0, 0, 0, [], [], [], [], []⟩ a false = (⟨3, d, r, false, false, 1, 0, 0, 0, [], t, [], [], []⟩, a + 2 + t.length, false) := by
        simp only [headD, q1]; rfl
      have hi2 : idD s (⟨3, d, r, false, false, 1, 0, 0, 0, [], t, [], [], []⟩, a + 2 + t.length, false) = (⟨3, d, r, false, false, 1, i, 0, 0, [], t, [], [], []⟩, a + 2 + t.length + 2, false) := by
        simp only [idD, r1]; rfl
      rw [bodyD, hd, hi2]
      simp only [tailD, if_true, r2]
    · have hq0 : q = 0 := by omega
      subst hq0
      obtain rfl := hno (by simp [idB])
      have e : s.drop a = txtB t ++ pl := by
        rw [hs]; simp [bodyB, headB, idB]
      obtain ⟨q1, q2, q3⟩ := rdT_at false e ha htp
      have hd : headD s ⟨3, d, r, false, false, 0, 0, 0, 0, [], [], [], [], []⟩ a false = (⟨3, d, r, false, false, 0, 0, 0, 0, [], t, [], [], []⟩, a + 2 + t.length, false) := by
        simp only [headD, q1]; rfl
      have hi2 : idD s (⟨3, d, r, false, false, 0, 0, 0, 0, [], t, [], [], []⟩, a + 2 + t.length, false) = (⟨3, d, r, false, false, 0, 0, 0, 0, [], t, [], [], []⟩, a + 2 + t.length, false) := rfl
      rw [bodyD, hd, hi2]
      simp only [tailD, if_true, q2]
  obtain ⟨rfl, rfl, rfl⟩ := b1 k1
  obtain ⟨rfl, rfl⟩ := b2 k2
  obtain ⟨rfl, rfl, rfl, rfl, rfl⟩ := b3 k3
  have hh : ∀ x : Pkt, x.kind = k → headD s x a false = (x, a, false) := fun x hx => by
    unfold headD; rw [hx, if_neg k1, if_neg k2, if_neg k3]
  rw [bodyD, hh _ rfl]
  have hhB : ∀ x : Pkt, x.kind = k → headB x = [] := fun x hx => by
    unfold headB; rw [hx, if_neg k1, if_neg k2, if_neg k3]
  rw [bodyB, hhB _ rfl] at hs
  by_cases k4 : k = 4 ∨ (8 ≤ k ∧ k ≤ 11)
  · have hidb : ∀ x : Pkt, x.kind = k → idB x = true := fun x hx => by
      simp only [idB, hx, decide_eq_true_eq]; omega
    rw [if_pos (hidb _ rfl)] at hs
    have e : s.drop a = numB 2 i ++ ((az.map (askB k)).flatten ++ (cs.map (numB 1)).flatten) := by
      rw [hs]; simp
    obtain ⟨r1, r2, r3⟩ := rdNi_at false e ha hid.1 (by show i < 65536; omega)
    have hi2 : idD s (⟨k, false, false, false, false, 0, 0, 0, 0, [], [], [], [], []⟩, a, false) = (⟨k, false, false, false, false, 0, i, 0, 0, [], [], [], [], []⟩, a + 2, false) := by
      unfold idD; rw [if_pos (hidb _ rfl)]; simp only [r1]
    rw [hi2, tailD]
    simp only
    rw [if_neg k3]
    by_cases k5 : k = 8 ∨ k = 10
    · obtain rfl := b6 (by omega)
      rw [if_pos k5, rdAs_at az [] (rounds s (a + 2) false) (a + 2) (by rw [r2]; simp) r3 hask (by rw [rounds, if_neg (by simp)]; omega)]
      simp
    · obtain rfl := b5 (by omega)
      rw [if_neg k5]
      by_cases k6 : k = 9
      · rw [if_pos k6, rdCs_at cs [] (rounds s (a + 2) false) (a + 2) (by rw [r2]; simp) r3 hcod (by rw [rounds, if_neg (by simp)]; omega)]
        simp
      · obtain rfl := b6 k6
        rw [if_neg k6, hend (by rw [r2]; rfl) r3]
  · have hidb : ∀ x : Pkt, x.kind = k → idB x = false := fun x hx => by
      simp only [idB, hx, decide_eq_false_iff_not]; omega
    obtain rfl := b4 (by omega)
    obtain rfl := b5 (by omega)
    obtain rfl := b6 (by omega)
    have e : s.drop a = [] := by rw [hs, hidb _ rfl]; simp
    have hi2 : idD s (⟨k, false, false, false, false, 0, 0, 0, 0, [], [], [], [], []⟩, a, false) = (⟨k, false, false, false, false, 0, 0, 0, 0, [], [], [], [], []⟩, a, false) := by
      unfold idD; rw [if_neg (by rw [hidb _ rfl]; simp)]
    rw [hi2, tailD]
    simp only
    rw [if_neg k3, if_neg (by omega), if_neg (by omega), hend e ha]

theorem getL_bytes {p : Pkt} (hl : (bodyB p).length < 268435456) (t : List UInt8) : getL (bytesP p ++ t) 1 = ((((bodyB p).length : Nat) : Int), (((lngB 3 (bodyB p).length).length : Nat) : Int), 0) := by
  have e : (bytesP p ++ t).drop 1 = lngB 3 (bodyB p).length ++ (bodyB p ++ t) := by
    rw [bytesP, List.append_assoc, List.append_assoc, List.drop_left' (numB_len 1 _)]
  have hlen : 1 ≤ (bytesP p ++ t).length := by simp [bytesP, numB_len]
  rw [getL, if_pos (by omega)]
  have e1 : (1 : Int).toNat = 1 := rfl
  rw [e1, e, glF_back _ 3 4 0 0 _ (by show (bodyB p).length < 268435456; exact hl) (by omega) (.inl rfl)]
  simp [p7]
theorem bytesP_hd (p : Pkt) : (bytesP p).getD 0 0 = UInt8.ofNat (firstB p % 256).toNat := by
  have : numB 1 (firstB p) = [UInt8.ofNat (firstB p % 256).toNat] := by simp [numB, pw, List.range_succ]
  rw [bytesP, this]; rfl
theorem read_bytes {p : Pkt} (h : FormP p) (hl : (bodyB p).length < 268435456) : readP (bytesP p) = (p, (bytesP p).length, false) := by
  have hg := getL_bytes hl []
  rw [List.append_nil] at hg
  rw [readP, hg, bytesP_hd, begP_first h]
  have e : (1 + (((lngB 3 (bodyB p).length).length : Nat) : Int)).toNat = 1 + (lngB 3 (bodyB p).length).length := by omega
  simp only [e]
  refine body_at h ?_ (by simp [bytesP, numB_len])
  rw [bytesP]
  exact List.drop_left' (by rw [List.length_append, numB_len])
end Go.Proofs.YtliedecinehijaaGreatDoor

/-
  Packets: what passes can be told and is read; in plain terms. By an AI agent.
-/
set_option linter.unusedSimpArgs false
set_option linter.unusedVariables false
namespace Go.Proofs.YtliedecinehijaaGreatDoor
open Go.Sx

theorem chkT_len {s : List UInt8} {f : Bool} (h : chkT s f = 0) : s.length ≤ 60 := by
  unfold chkT at h
  split at h
  · simp at h
  · split at h
    · simp at h
    · omega
theorem bareP_kind (p : Pkt) : (bareP p).kind = p.kind := by
  unfold bareP; (repeat' split) <;> rfl
theorem empty_iff (p : Pkt) : emptyB (bareP p) = true ↔ bareP p = pD p.kind := by
  simp only [emptyB, decide_eq_true_eq, bareP_kind]
theorem asksL_ok {k : Int} : ∀ {l : List Ak}, asksL k l = 0 → ∀ a ∈ l, chkT a.1 true = 0 ∧ 0 ≤ a.2 ∧ a.2 ≤ 1 ∧ (k ≠ 8 → a.2 = 0)
  | [], _, a, ha => by simp at ha
  | x :: l, h, a, ha => by
    unfold asksL at h
    generalize hX : (if k = 8 then askE x else noaskE x) = X at h
    by_cases h0 : X = 0
    · rw [if_pos h0] at h
      rw [h0] at hX
      rcases List.mem_cons.1 ha with rfl | ha
      · by_cases hk : k = 8
        · rw [if_pos hk, askE] at hX
          split at hX
          · split at hX
            · exact ⟨‹_›, by omega, by omega, fun hh => absurd hk hh⟩
            · simp at hX
          · exact absurd hX ‹_›
        · rw [if_neg hk, noaskE] at hX
          split at hX
          · split at hX
            · exact ⟨‹_›, by omega, by omega, fun _ => ‹_›⟩
            · simp at hX
          · exact absurd hX ‹_›
      · exact asksL_ok h a ha
    · rw [if_neg h0] at h; exact absurd h h0
theorem count_ok {n : Nat} (h : countE n = 0) : 1 ≤ n ∧ n ≤ 5 := by
  unfold countE at h
  split at h
  · simp at h
  · split at h
    · simp at h
    · omega
theorem flat_le {α : Type} (f : α → List UInt8) (m : Nat) : ∀ l : List α, (∀ a ∈ l, (f a).length ≤ m) → (l.map f).flatten.length ≤ l.length * m
  | [], _ => by simp
  | a :: l, h => by
    have h1 := flat_le f m l fun x hx => h x (List.mem_cons_of_mem _ hx)
    have h2 := h a (List.mem_cons_self ..)
    simp only [List.map_cons, List.flatten_cons, List.length_append, List.length_cons, Nat.add_mul, Nat.one_mul]
    omega
theorem txtB_len (t : List UInt8) : (txtB t).length = t.length + 2 := by rw [txtB, List.length_append, numB_len]; omega

theorem chk_form {p : Pkt} (h : chkP p = 0) : FormP p ∧ (bodyB p).length ≤ 1000 := by
  unfold chkP at h
  split at h
  rotate_left
  · simp at h
  rename_i hk
  split at h
  rotate_left
  · simp at h
  rename_i he
  split at h
  · rename_i h3; exact absurd h h3.2
  rename_i hp3
  split at h
  · simp at h
  rename_i hid
  have hbare := (empty_iff p).1 he
  have hb := (bare_iff p).1 hbare
  have hk' := hk
  simp only [kindB, decide_eq_true_eq] at hk'
  obtain ⟨b1, b2, b3, b4, b5, b6⟩ := hb
  -- by kind
  have h1 : p.client.length ≤ 20 ∧ 0 ≤ p.keep ∧ p.keep < 65536 := by
    by_cases k : p.kind = 1
    · rw [partsE, if_pos k, connE] at h
      split at h
      · simp at h
      · split at h
        · split at h
          · omega
          · simp at h
        · simp at h
    · obtain ⟨e1, e2, e3⟩ := b1 k; rw [e1, e3]; simp
  have h2 : 0 ≤ p.code ∧ p.code < 256 := by
    by_cases k : p.kind = 2
    · rw [partsE, if_neg (by omega), if_pos k, connackE] at h
      split at h
      · omega
      · simp at h
    · obtain ⟨e1, e2⟩ := b2 k; omega
  have h3 : p.topic.length ≤ 60 ∧ p.payload.length ≤ 200 ∧ 0 ≤ p.qos ∧ p.qos ≤ 1 ∧ (p.kind = 3 → p.qos = 0 → p.id = 0) := by
    by_cases k : p.kind = 3
    · rw [partsE, if_neg (by omega), if_neg (by omega), if_pos k, pubE] at h
      split at h
      · have := chkT_len ‹_›
        split at h
        · simp at h
        · split at h
          · split at h
            · simp at h
            · rename_i hn
              refine ⟨this, by omega, by omega, by omega, fun _ hq => ?_⟩
              exact Classical.byContradiction fun hi => hn ⟨hq, .inr hi⟩
          · simp at h
      · exact absurd h ‹_›
    · obtain ⟨e1, e2, e3, e4, e5⟩ := b3 k; rw [e3, e4, e5]; simp [k]
  have h4 : p.asks.length ≤ 5 ∧ ∀ a ∈ p.asks, a.1.length ≤ 60 ∧ 0 ≤ a.2 ∧ a.2 < 256 ∧ (p.kind ≠ 8 → a.2 = 0) := by
    by_cases k : p.kind = 8 ∨ p.kind = 10
    · rw [partsE, if_neg (by omega), if_neg (by omega), if_neg (by omega), if_pos k, asksE] at h
      split at h
      · have hc := count_ok ‹_›
        refine ⟨hc.2, fun a ha => ?_⟩
        obtain ⟨a1, a2, a3, a4⟩ := asksL_ok h a ha
        exact ⟨chkT_len a1, a2, by omega, a4⟩
      · exact absurd h ‹_›
    · have e := b5 (by omega); rw [e]; simp
  have h5 : p.codes.length ≤ 5 ∧ ∀ c ∈ p.codes, 0 ≤ c ∧ c < 256 := by
    by_cases k : p.kind = 9
    · rw [partsE, if_neg (by omega), if_neg (by omega), if_neg (by omega), if_neg (by omega), if_pos k, codesE] at h
      split at h
      · have hc := count_ok ‹_›
        refine ⟨hc.2, fun c hcm => ?_⟩
        split at h
        · simp at h
        · rename_i hn
          have : codeB c = false := by
            cases hcb : codeB c
            · rfl
            · exact absurd (List.any_eq_true.2 ⟨c, hcm, hcb⟩) hn
          simp only [codeB, decide_eq_false_iff_not] at this
          omega
      · exact absurd h ‹_›
    · have e := b6 k; rw [e]; simp
  have hid2 : (0 ≤ p.id ∧ p.id < 65536) ∧ (idB p = false → p.id = 0) := by
    by_cases hi : idB p = true
    · have : 1 ≤ p.id ∧ p.id ≤ 65535 := Classical.byContradiction fun hn => hid ⟨hi, hn⟩
      exact ⟨by omega, fun hf => by rw [hi] at hf; simp at hf⟩
    · have h0 : p.id = 0 := by
        by_cases k : p.kind = 3
        · refine h3.2.2.2.2 k ?_
          have : ¬ p.qos = 1 := fun hq => hi (by simp [idB, k, hq])
          omega
        · refine b4 fun hk2 => hi ?_
          simp only [idB, decide_eq_true_eq]; omega
      rw [h0]; simp
  refine ⟨⟨hk, hbare, h3.2.2.1 |> fun a => ⟨a, h3.2.2.2.1⟩, h1.2, h2, hid2.1, hid2.2, by omega, by omega, fun a ha => ?_, h5.2⟩, ?_⟩
  · obtain ⟨a1, a2⟩ := h4.2 a ha
    exact ⟨by omega, a2⟩
  · have e1 : (headB p).length ≤ 64 := by
      unfold headB
      split
      · simp only [List.length_append, txtB_len, numB_len, List.length_cons, List.length_nil]; omega
      · split
        · simp only [List.length_append, numB_len]; omega
        · split
          · rw [txtB_len]; omega
          · simp
    have e2 : (if idB p = true then numB 2 p.id else []).length ≤ 2 := by
      split
      · rw [numB_len]; omega
      · simp
    have e3 := flat_le (askB p.kind) 63 p.asks fun a ha => by
      have := (h4.2 a ha).1
      unfold askB
      rw [List.length_append, txtB_len]
      split
      · rw [numB_len]; omega
      · simp; omega
    have e4 := flat_le (numB 1) 1 p.codes fun c _ => by rw [numB_len]; omega
    have e5 : p.asks.length * 63 ≤ 5 * 63 := Nat.mul_le_mul_right _ h4.1
    unfold bodyB
    simp only [List.length_append]
    omega

theorem bytesP_ne (p : Pkt) : bytesP p ≠ [] := fun h => by
  have : (bytesP p).length = 0 := by rw [h]; rfl
  rw [bytesP] at this
  simp [numB_len] at this
/-- What is encoded is decoded as it was. -/
theorem decD_back {p : Pkt} (h : chkP p = 0) : decD (bytesP p) = (p, 0) := by
  obtain ⟨hf, hl⟩ := chk_form h
  have hg := getL_bytes (p := p) (by omega) []
  rw [List.append_nil] at hg
  have hr := read_bytes hf (by omega)
  have hq := hf.qos
  rw [decD, if_neg (by rw [hg]; simp [bytesP_ne]), hr, if_neg, if_pos h]
  simp only [hf.kind]
  simp
  omega
/-- What is decoded can be encoded. -/
theorem decD_ok {s : List UInt8} (h : (decD s).2 = 0) : chkP (decD s).1 = 0 ∧ bytesP (decD s).1 = s := by
  unfold decD at h ⊢
  split
  · rename_i h0; rw [if_pos h0] at h; simp at h
  · rename_i h0; rw [if_neg h0] at h
    split
    · rename_i h1; rw [if_pos h1] at h; simp at h
    · rename_i h1; rw [if_neg h1] at h
      split
      · rename_i h2
        exact ⟨h2, Classical.byContradiction fun hn => h1 (.inr (.inr (.inr hn)))⟩
      · rename_i h2; rw [if_neg h2] at h; exact absurd h h2
theorem decD_bad {s : List UInt8} (h : (decD s).2 ≠ 0) : (decD s).1 = pD 0 := by
  unfold decD at h ⊢
  split
  · rfl
  · rename_i h0; rw [if_neg h0] at h
    split
    · rfl
    · rename_i h1; rw [if_neg h1] at h
      split
      · rename_i h2; rw [if_pos h2] at h; exact absurd rfl h
      · rfl
/-- No packet's bytes are the beginning of another one's. -/
theorem apartP {p q : Pkt} (hp : chkP p = 0) (hq : chkP q = 0) (h : (bytesP q).take (bytesP p).length = bytesP p) : p = q := by
  have lp := (chk_form hp).2
  have lq := (chk_form hq).2
  have e : bytesP q = bytesP p ++ (bytesP q).drop (bytesP p).length := by
    conv => lhs; rw [← List.take_append_drop (bytesP p).length (bytesP q), h]
  have g1 := getL_bytes (p := p) (by omega) ((bytesP q).drop (bytesP p).length)
  have g2 := getL_bytes (p := q) (by omega) []
  rw [← e] at g1
  rw [List.append_nil, g1] at g2
  have hlen : (bodyB p).length = (bodyB q).length := by
    have := congrArg Prod.fst g2
    simp only at this
    omega
  have hl2 : (bytesP p).length = (bytesP q).length := by simp only [bytesP, List.length_append, numB_len, hlen]
  have e2 : bytesP p = bytesP q := by rw [hl2, List.take_length] at h; exact h.symm
  have d1 := decD_back hp
  rw [e2, decD_back hq] at d1
  exact (congrArg Prod.fst d1).symm
end Go.Proofs.YtliedecinehijaaGreatDoor
