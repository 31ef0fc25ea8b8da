/-
  What the functions of long numbers and of texts compute. By an AI agent.
-/
import Derived.Test.YtliedecinehijaaDoorWb
set_option linter.unusedSimpArgs false
set_option linter.unusedVariables false
namespace Go.Proofs.YtliedecinehijaaDoor
open Go.Sx

theorem ofInt_nat (x : Nat) (h : x < 2 ^ 63) : (BitVec.ofInt 64 (x : Int)).toNat = x := by
  simp [BitVec.toNat_ofInt]; omega
theorem wrap_nat (x : Nat) (h : x < 2 ^ 63) : IntKind.i64.wrap (x : Int) = x := by
  rw [IntKind.wrap_i64]; omega
theorem and127 (x : Nat) (h : x < 2 ^ 63) : ibits .and .i64 (x : Int) 127 = (x % 128 : Nat) := by
  have h127 : (127 : Int) = ((127 : Nat) : Int) := rfl
  simp only [ibits, h127]
  show IntKind.i64.wrap (((BitVec.ofInt 64 (x : Int)) &&& (BitVec.ofInt 64 ((127 : Nat) : Int))).toNat : Int) = _
  rw [BitVec.toNat_and, ofInt_nat x h, ofInt_nat 127 (by omega)]
  have e : x &&& 127 = x % 128 := Nat.and_two_pow_sub_one_eq_mod x 7
  rw [e, wrap_nat _ (by omega)]
theorem or128 (x : Nat) (h : x < 128) : ibits .or .i64 (x : Int) 128 = (x + 128 : Nat) := by
  have h128 : (128 : Int) = ((128 : Nat) : Int) := rfl
  simp only [ibits, h128]
  show IntKind.i64.wrap (((BitVec.ofInt 64 (x : Int)) ||| (BitVec.ofInt 64 ((128 : Nat) : Int))).toNat : Int) = _
  rw [BitVec.toNat_or, ofInt_nat x (by omega), ofInt_nat 128 (by omega)]
  have e : x ||| 128 = x + 128 := by
    have := Nat.two_pow_add_eq_or_of_lt (i := 7) (b := x) (by omega) 1
    rw [Nat.or_comm]
    simp only [Nat.mul_one] at this
    rw [show (128 : Nat) = 2 ^ 7 from rfl, ← this]
    omega
  rw [e, wrap_nat _ (by omega)]

/-- 128 to the power f + 1. -/
def pL : Nat → Nat
  | 0 => 128
  | f + 1 => 128 * pL f
/-- The bytes of a long number. -/
def lngB : Nat → Nat → List UInt8
  | 0, n => [UInt8.ofNat n]
  | f + 1, n => if n < 128 then [UInt8.ofNat n] else UInt8.ofNat (n % 128 + 128) :: lngB f (n / 128)
theorem lngB_small (f n : Nat) (h : n < 128) : lngB f n = [UInt8.ofNat n] := by
  cases f <;> simp [lngB, h]
theorem lngB_len : ∀ f n, (lngB f n).length ≤ f + 1
  | 0, n => by simp [lngB]
  | f + 1, n => by
    have := lngB_len f (n / 128)
    simp only [lngB]
    split <;> simp <;> omega

theorem pL_mono {a b : Nat} (h : a ≤ b) : pL a ≤ pL b := by
  induction h with
  | refl => exact Nat.le_refl _
  | step _ ih => simp only [pL]; omega
/-- The bytes that stand in rows of one cell. -/
def rowB (r : List Value) : UInt8 := UInt8.ofNat (Value.gI (r.getD 0 undef)).toNat

theorem c_LongBytes (w : World) (F n : Nat) (hF : F ≤ 7) (hn : n < pL F) : Calls Tryd.prog 85 #[.int .i64 n] w fun e w' => e = .returned (.string ⟨(lngB F n).toArray⟩) ∧ Mod [] w w' := by
  refine as_called (run_plain2 (ρ := [.i n]) sxE_ok Tryd.func85 tree_wire_LongBytes rfl rfl rfl ?_) rfl
  simp only [Tree.goal, X.P, X.ev, V.toI_i, V.toB_b, V.toS_s, V.toR_r, V.toV_v, V.toN_n, V.toL_l, SV.ev, CV.ev, Sc.ev, List.getD_cons_zero, List.getD_cons_succ, List.getElem?_cons_zero, List.getElem?_cons_succ, List.map_cons, List.map_nil, List.length_cons, List.length_nil, List.cons_append, List.nil_append, Nat.zero_add, Nat.reduceAdd]
  have hp : pL F ≤ 72057594037927936 := pL_mono (show F ≤ 7 from hF)
  refine ⟨fun vs => ∃ (x f : Nat) (v : Value) (rows : List (List Value)), vs = [.i x, .v v, .r rows] ∧ x < pL f ∧ f ≤ F ∧ rows.length + f = F ∧ rows.map rowB ++ lngB f x = lngB F n, fun vs => ((vs.getD 0 (.i 0)).toI).toNat, ⟨n, F, _, [], rfl, hn, Nat.le_refl _, by simp, by simp⟩, ?_⟩
  rintro _ - ⟨x, f, v, rows, rfl, hx, hf, hrl, hrows⟩
  have hpf : pL f ≤ 72057594037927936 := pL_mono (show f ≤ 7 by omega)
  simp only [Tree.goal, X.P, X.ev, V.toI_i, V.toB_b, V.toS_s, V.toR_r, V.toV_v, V.toN_n, V.toL_l, SV.ev, CV.ev, Sc.ev, List.getD_cons_zero, List.getD_cons_succ, List.getElem?_cons_zero, List.getElem?_cons_succ, List.map_cons, List.map_nil, List.length_cons, List.length_nil, List.cons_append, List.nil_append, Nat.zero_add, Nat.reduceAdd]
  refine ⟨fun h v1 => ?_, fun h v1 => ?_⟩
  · cases f with
    | zero => have : x < 128 := hx; omega
    | succ f =>
      have hx : x < 128 * pL f := hx
      have e1 : (x : Int).fdiv (2 ^ (Nat.min (Int.toNat 7) IntKind.i64.bits)) = (x / 128 : Nat) := by
        rw [shr_i64 _ _ (by decide)]
        rfl
      simp only [e1]
      refine ⟨by simp; omega, fun v2 => ⟨⟨x / 128, f, v2, _, rfl, by omega, by omega, ?_, ?_⟩, by omega⟩⟩
      · simp; omega
      · rw [List.map_append, List.append_assoc, ← hrows]
        congr 1
        simp only [List.map_cons, List.map_nil, rowB, List.getD_cons_zero, Value.gI, and127 x (by omega), or128 (x % 128) (by omega), wrap_byte]
        have e : (((x % 128 + 128 : Nat) : Int) % 256).toNat = x % 128 + 128 := by omega
        rw [e]
        simp only [lngB, if_neg (show ¬ x < 128 by omega), List.cons_append, List.nil_append]
  · refine ⟨by simp; omega, fun v2 w' hr => ⟨?_, hr.mod⟩⟩
    rw [← hrows, lngB_small _ _ (by omega)]
    have e : ((x : Int) % 256).toNat = x := by omega
    simp only [List.map_append, List.map_cons, List.map_nil, List.getD_cons_zero, Value.gI, wrap_byte, e]
    rfl

end Go.Proofs.YtliedecinehijaaDoor
