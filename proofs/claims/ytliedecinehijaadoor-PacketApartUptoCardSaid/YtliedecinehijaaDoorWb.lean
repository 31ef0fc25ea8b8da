/-
  What wire.Bytes computes. By an AI agent.
-/
import Derived.Test.YtliedecinehijaaDoorWa
set_option linter.unusedSimpArgs false
set_option linter.unusedVariables false
namespace Go.Proofs.YtliedecinehijaaDoor
open Go.Sx

theorem shr_i64 (n : Int) (s : Nat) (hs : s < 64) : n.fdiv (2 ^ (Nat.min s IntKind.i64.bits)) = n / (2 ^ s : Nat) := by
  have : Nat.min s IntKind.i64.bits = s := Nat.min_eq_left (by show s ≤ 64; omega)
  rw [this, Int.fdiv_eq_ediv_of_nonneg _ (by exact Int.pow_nonneg (by omega))]
  simp
theorem wrap_byte (n : Int) : IntKind.u8.wrap n = n % 256 := IntKind.wrap_u8 n

theorem div_pw (N m : Nat) : ((N : Int) / (pw m : Int)) / 256 = (N : Int) / (pw (m + 1) : Int) := by
  have h : (N / pw m) / 256 = N / pw (m + 1) := by rw [Nat.div_div_eq_div_mul, Nat.mul_comm]; rfl
  rw [← Int.natCast_ediv, ← Int.natCast_ediv, ← h]
  rfl

theorem c_Bytes (w : World) (n : Int) (k : Nat) (hk : k ≤ 8) (h0 : 0 ≤ n) (h1 : n ≤ 9223372036854775807) :
    Calls Tryd.prog 83 #[.int .i64 n, .int .i64 k] w fun e w' => e = .returned (.string ⟨(numB k n).toArray⟩) ∧ Mod [] w w' := by
  refine as_called (run_plain2 (ρ := [.i n, .i k]) sxE_ok Tryd.func83 tree_wire_Bytes rfl rfl rfl ?_) rfl
  simp only [Tree.goal, X.P, X.ev, V.toI_i, V.toB_b, V.toS_s, V.toR_r, V.toV_v, V.toN_n, V.toL_l, SV.ev, CV.ev, Sc.ev, List.getD_cons_zero, List.getD_cons_succ, List.getElem?_cons_zero, List.getElem?_cons_succ, List.map_cons, List.map_nil, List.length_cons, List.length_nil, List.cons_append, List.nil_append, Nat.zero_add, Nat.reduceAdd]
  refine ⟨fun vs => ∃ (m : Nat) (v : Value), vs = [.i (n / pw m), .v v, .r ((List.range m).map fun j => [.int .u8 (n / pw j % 256)]), .i m] ∧ m ≤ k, fun vs => (k - (vs.getD 3 (.i 0)).toI).toNat, ⟨0, .slice none 0 0, by simp [pw], by omega⟩, ?_⟩
  rintro _ - ⟨m, v, rfl, hm⟩
  simp only [Tree.goal, X.P, X.ev, V.toI_i, V.toB_b, V.toS_s, V.toR_r, V.toV_v, V.toN_n, V.toL_l, SV.ev, CV.ev, Sc.ev, List.getD_cons_zero, List.getD_cons_succ, List.getElem?_cons_zero, List.getElem?_cons_succ, List.map_cons, List.map_nil, List.length_cons, List.length_nil, List.cons_append, List.nil_append, Nat.zero_add, Nat.reduceAdd]
  refine ⟨fun h => ?_, fun h => ?_⟩
  · intro v1
    refine ⟨by simp; omega, fun v2 => ⟨by omega, by omega, ⟨m + 1, v2, ?_, by omega⟩, by omega⟩⟩
    have e1 : (n / pw m) / 256 = n / pw (m + 1) := by
      obtain ⟨N, rfl⟩ := Int.eq_ofNat_of_zero_le h0
      exact div_pw N m
    have e2 : Int.toNat 8 = 8 := rfl
    simp only [List.range_succ, List.map_append, List.map_cons, List.map_nil, List.cons.injEq, V.i.injEq, V.v.injEq, V.r.injEq, and_true, wrap_byte, e2, shr_i64 _ 8 (by omega), Nat.reducePow, true_and]
    exact ⟨e1, by omega⟩
  · have hmk : m = k := by omega
    subst hmk
    have hl : ((List.range m).map fun j => [Value.int .u8 (n / pw j % 256)]).length = m := by simp
    refine ⟨by omega, by omega, fun vs => ∃ (i : Nat) (h : Nat → Int), vs = [.i i, .i ((m : Int) - 1 - i), .r ((List.range m).map fun x => [.int .u8 (h x)])] ∧ 2 * i ≤ m + 1 ∧ ∀ x, x < m → h x = if x < i ∨ m - 1 < x + i then n / pw (m - 1 - x) % 256 else n / pw x % 256,
      fun vs => ((vs.getD 1 (.i 0)).toI + 1 - (vs.getD 0 (.i 0)).toI).toNat, ⟨0, fun x => n / pw x % 256, by simp, by omega, fun x hx => by rw [if_neg (by omega)]⟩, ?_⟩
    rintro _ - ⟨i, h, rfl, hi, hh⟩
    simp only [Tree.goal, X.P, X.ev, V.toI_i, V.toB_b, V.toS_s, V.toR_r, V.toV_v, V.toN_n, V.toL_l, SV.ev, CV.ev, Sc.ev, List.getD_cons_zero, List.getD_cons_succ, List.getElem?_cons_zero, List.getElem?_cons_succ, List.map_cons, List.map_nil, List.length_cons, List.length_nil, List.cons_append, List.nil_append, Nat.zero_add, Nat.reduceAdd]
    refine ⟨fun hc => ?_, fun hc => ?_⟩
    · obtain ⟨j, hj⟩ : ∃ j : Nat, (m : Int) - 1 - i = j := ⟨m - 1 - i, by omega⟩
      rw [hj] at hc ⊢
      have hjm : j < m := by omega
      have him : i < m := by omega
      have hget : ∀ x : Nat, x < m → ((List.range m).map fun x => [Value.int .u8 (h x)]).getD x [] = [Value.int .u8 (h x)] := fun x hx => by
        simp [List.getD_eq_getElem?_getD, List.getElem?_map, List.getElem?_range hx]
      have q1 : ((j : Nat) : Int) < (m : Int) := by omega
      have q2 : ((i : Nat) : Int) < (m : Int) := by omega
      have q3 : (0 : Int) ≤ (i : Int) := by omega
      have q4 : (0 : Int) ≤ (j : Int) := by omega
      have q5 : (-9223372036854775808 : Int) ≤ (i : Int) + 1 := by omega
      have q6 : (i : Int) + 1 ≤ 9223372036854775807 := by omega
      have q7 : (-9223372036854775808 : Int) ≤ (j : Int) - 1 := by omega
      have q8 : (j : Int) - 1 ≤ 9223372036854775807 := by omega
      simp only [List.length_set, List.length_map, List.length_range, Int.toNat_natCast, q1, q2, q3, q4, q5, q6, q7, q8, true_and, and_self, hget i him, hget j hjm, List.getD_cons_zero, Value.gI]
      have hset : (((List.range m).map fun x => [Value.int .u8 (h x)]).set i [Value.int .u8 (h j)]).set j [Value.int .u8 (h i)] = (List.range m).map fun x => [Value.int .u8 (if x = j then h i else if x = i then h j else h x)] := by
        apply List.ext_getElem?
        intro x
        simp only [List.getElem?_set, List.getElem?_map, List.length_set, List.length_map, List.length_range]
        by_cases hx : x < m
        · rw [List.getElem?_range hx]
          by_cases h1 : j = x
          · subst h1; simp [hx]
          · by_cases h2 : i = x
            · subst h2; simp [hx, h1, Ne.symm h1]
            · simp [h1, h2, Ne.symm h1, Ne.symm h2]
        · rw [List.getElem?_eq_none (by simp; omega)]
          have h1 : ¬ j = x := by omega
          have h2 : ¬ i = x := by omega
          simp [h1, h2]
      refine ⟨⟨i + 1, fun x => if x = j then h i else if x = i then h j else h x, ?_, by omega, ?_⟩, by omega⟩
      · rw [hset]
        simp only [List.cons.injEq, V.i.injEq, and_true, true_and]
        omega
      · intro x hx
        have a1 := hh i him
        have a2 := hh j hjm
        rw [if_neg (by omega)] at a1 a2
        show (if x = j then h i else if x = i then h j else h x) = _
        by_cases h1 : x = j
        · subst h1
          rw [if_pos rfl, if_pos (by omega), a1]
          congr 3; congr 2; omega
        · rw [if_neg h1]
          by_cases h2 : x = i
          · subst h2
            rw [if_pos rfl, if_pos (by omega), a2]
            congr 3; congr 2; omega
          · rw [if_neg h2, hh x hx]
            by_cases h3 : x < i ∨ m - 1 < x + i
            · rw [if_pos h3, if_pos (by omega)]
            · rw [if_neg h3, if_neg (by omega)]
    · intro w' hr
      refine ⟨?_, hr.mod⟩
      congr 3
      simp only [numB, List.map_map]
      refine congrArg List.toArray (List.map_congr_left fun x hx => ?_)
      have hx : x < m := by simpa using hx
      simp only [Function.comp, List.getD_cons_zero, Value.gI, hh x hx]
      by_cases h3 : x < i ∨ m - 1 < x + i
      · rw [if_pos h3]
      · rw [if_neg h3]
        have : m - 1 - x = x := by omega
        rw [this]

end Go.Proofs.YtliedecinehijaaDoor
