/-
  What the functions that read numbers and texts compute. By an AI agent.
-/
import Derived.Test.YtliedecinehijaaDoorWc
set_option linter.unusedSimpArgs false
set_option linter.unusedVariables false
namespace Go.Proofs.YtliedecinehijaaDoor
open Go.Sx

theorem gI_rOf (l : List UInt8) (i : Nat) : Value.gI (((l.map fun b => [Value.int .u8 (b.toNat : Int)]).getD i []).getD 0 undef) = ((l.getD i 0).toNat : Int) := by
  simp only [List.getD_eq_getElem?_getD, List.getElem?_map]
  cases l[i]? <;> rfl
theorem getD_sl (s : List UInt8) (i lo hi : Nat) (h : lo + i < hi) : ((s.take hi).drop lo).getD i 0 = s.getD (lo + i) 0 := by
  simp only [List.getD_eq_getElem?_getD, List.getElem?_drop, List.getElem?_take, if_pos h]
theorem u8_lt (b : UInt8) : b.toNat < 256 := b.toNat_lt

/-- The number that bytes tell. -/
def beN : List UInt8 → Nat → Nat
  | [], n => n
  | c :: l, n => beN l (256 * n + c.toNat)
theorem beN_snoc (l : List UInt8) (c : UInt8) (n : Nat) : beN (l ++ [c]) n = 256 * beN l n + c.toNat := by
  induction l generalizing n with
  | nil => rfl
  | cons d l ih => simp [beN, ih]
theorem beN_lt (l : List UInt8) : ∀ n, beN l n < (n + 1) * pw l.length := by
  induction l with
  | nil => intro n; simp [beN, pw]
  | cons c l ih =>
    intro n
    have h1 := ih (256 * n + c.toNat)
    have h2 := u8_lt c
    have h3 : (256 * n + c.toNat + 1) * pw l.length ≤ (256 * (n + 1)) * pw l.length := Nat.mul_le_mul_right _ (by omega)
    simp only [beN, List.length_cons, pw]
    rw [← Nat.mul_assoc, Nat.mul_comm (n + 1) 256]
    omega
theorem take_succ_getD (l : List UInt8) (m : Nat) (h : m < l.length) : l.take (m + 1) = l.take m ++ [l.getD m 0] := by
  rw [List.take_add_one, List.getD_eq_getElem?_getD, List.getElem?_eq_getElem h]
  rfl

theorem or_shl8 (n c : Nat) (hn : n < 2 ^ 54) (hc : c < 256) : ibits .or .i64 (IntKind.i64.wrap ((n : Int) * 2 ^ (Nat.min (Int.toNat 8) IntKind.i64.bits))) (c : Int) = ((256 * n + c : Nat) : Int) := by
  have e0 : IntKind.i64.wrap ((n : Int) * 2 ^ (Nat.min (Int.toNat 8) IntKind.i64.bits)) = ((n * 256 : Nat) : Int) := by
    have : Nat.min (Int.toNat 8) IntKind.i64.bits = 8 := rfl
    rw [this, IntKind.wrap_i64]; omega
  rw [e0]
  simp only [ibits]
  show IntKind.i64.wrap (((BitVec.ofInt 64 ((n * 256 : Nat) : Int)) ||| (BitVec.ofInt 64 (c : Int))).toNat : Int) = _
  rw [BitVec.toNat_or, ofInt_nat _ (by omega), ofInt_nat c (by omega)]
  have e : n * 256 ||| c = 256 * n + c := by
    have := Nat.two_pow_add_eq_or_of_lt (i := 8) (b := c) (by omega) n
    rw [show n * 256 = 2 ^ 8 * n by omega, ← this]
  rw [e, wrap_nat _ (by omega)]

/-- A number by so many bytes, at a place of a text; what is wrong. -/
def getR (s : List UInt8) (at_ b : Int) : Int × Int :=
  if 1 ≤ b ∧ b ≤ 4 then
    if 0 ≤ at_ ∧ at_ ≤ s.length then
      if (s.length : Int) - at_ < b then (0, 8) else (beN ((s.drop at_.toNat).take b.toNat) 0, 0)
    else (0, 3)
  else (0, 7)
theorem getR_kind {s : List UInt8} {at_ b : Int} (h : ¬ (1 ≤ b ∧ b ≤ 4)) : getR s at_ b = (0, 7) := if_neg h
theorem getR_range {s : List UInt8} {at_ b : Int} (h : 1 ≤ b ∧ b ≤ 4) (h1 : ¬ (0 ≤ at_ ∧ at_ ≤ s.length)) : getR s at_ b = (0, 3) := by rw [getR, if_pos h, if_neg h1]
theorem getR_short {s : List UInt8} {at_ b : Int} (h : 1 ≤ b ∧ b ≤ 4) (h1 : 0 ≤ at_ ∧ at_ ≤ s.length) (h2 : (s.length : Int) - at_ < b) : getR s at_ b = (0, 8) := by rw [getR, if_pos h, if_pos h1, if_pos h2]
theorem getR_ok {s : List UInt8} {at_ b : Int} (h : 1 ≤ b ∧ b ≤ 4) (h1 : 0 ≤ at_ ∧ at_ ≤ s.length) (h2 : ¬ (s.length : Int) - at_ < b) : getR s at_ b = (((beN ((s.drop at_.toNat).take b.toNat) 0 : Nat) : Int), 0) := by rw [getR, if_pos h, if_pos h1, if_neg h2]
theorem beN4 (s : List UInt8) (at_ m : Nat) (h : m ≤ 4) : beN ((s.drop at_).take m) 0 < 4294967296 := by
  have h1 := beN_lt ((s.drop at_).take m) 0
  have h2 : pw ((s.drop at_).take m).length ≤ pw 4 := pw_mono (by simp; omega)
  have h3 : pw 4 = 4294967296 := rfl
  omega
theorem getR_bd (s : List UInt8) (at_ b : Int) : 0 ≤ (getR s at_ b).1 ∧ (getR s at_ b).1 < 4294967296 := by
  unfold getR
  split
  · split
    · split
      · decide
      · have := beN4 s at_.toNat b.toNat (by omega)
        show 0 ≤ ((beN ((s.drop at_.toNat).take b.toNat) 0 : Nat) : Int) ∧ ((beN ((s.drop at_.toNat).take b.toNat) 0 : Nat) : Int) < 4294967296
        omega
    · decide
  · decide
theorem beN_step (s : List UInt8) (a k : Nat) (h : a + k < s.length) : beN ((s.drop a).take (k + 1)) 0 = 256 * beN ((s.drop a).take k) 0 + (s.getD (a + k) 0).toNat := by
  rw [take_succ_getD _ _ (by simp; omega), beN_snoc]
  simp only [List.getD_eq_getElem?_getD, List.getElem?_drop]

theorem c_Get (w : World) (s : List UInt8) (at_ b : Int) (hs : s.length < 4611686018427387904) : Calls Tryd.prog 113 #[.string ⟨s.toArray⟩, .int .i64 at_, .int .i64 b] w
    fun e w' => e = .returned (.tuple #[.int .i64 (getR s at_ b).1, .int .i64 (getR s at_ b).2]) ∧ Mod [] w w' := by
  refine as_called (run_plain2 (ρ := [.s s, .i at_, .i b]) sxE_ok Tryd.func113 tree_wire_Get rfl rfl rfl ?_) rfl
  simp only [Tree.goal, X.P, X.ev, V.toI_i, V.toB_b, V.toS_s, V.toR_r, V.toV_v, V.toN_n, V.toL_l, SV.ev, CV.ev, Sc.ev, List.getD_cons_zero, List.getD_cons_succ, List.getElem?_cons_zero, List.getElem?_cons_succ, List.map_cons, List.map_nil, List.length_cons, List.length_nil, List.cons_append, List.nil_append, Nat.zero_add, Nat.reduceAdd]
  refine ⟨fun h w' hr => ⟨by rw [getR_kind (by omega)], hr.mod⟩, fun h => ?_⟩
  refine ⟨fun h1 w' hr => ⟨by rw [getR_range (by omega) h1], hr.mod⟩, fun h1 => ?_⟩
  refine ⟨by omega, by omega, fun h2 w' hr => ⟨by rw [getR_short (by omega) (by omega) h2], hr.mod⟩, fun h2 => ?_⟩
  obtain ⟨a, rfl⟩ : ∃ a : Nat, at_ = a := ⟨at_.toNat, by omega⟩
  obtain ⟨k, rfl⟩ : ∃ k : Nat, b = k := ⟨b.toNat, by omega⟩
  (repeat refine ⟨by omega, ?_⟩)
  intro v
  refine ⟨fun vs => ∃ m : Nat, vs = [.i (beN ((s.drop a).take m) 0), .i m] ∧ m ≤ k, fun vs => (k - (vs.getD 1 (.i 0)).toI).toNat, ⟨0, by simp [beN], by omega⟩, ?_⟩
  rintro _ - ⟨m, rfl, hm⟩
  have e0 : ((a : Int) + (k : Int)).toNat = a + k := by omega
  simp only [Tree.goal, X.P, X.ev, V.toI_i, V.toB_b, V.toS_s, V.toR_r, V.toV_v, V.toN_n, V.toL_l, SV.ev, CV.ev, Sc.ev, List.getD_cons_zero, List.getD_cons_succ, List.getElem?_cons_zero, List.getElem?_cons_succ, List.map_cons, List.map_nil, List.length_cons, List.length_nil, List.cons_append, List.nil_append, Nat.zero_add, Nat.reduceAdd, List.length_map, List.length_drop, List.length_take, gI_rOf, Int.toNat_natCast, e0]
  have hb := beN4 s a m (by omega)
  refine ⟨fun h3 => ?_, fun h3 w' hr => ⟨?_, hr.mod⟩⟩
  · have e2 := beN_step s a m (by omega)
    have hc := u8_lt (s.getD (a + m) 0)
    rw [getD_sl _ _ _ _ (by omega), or_shl8 _ _ (by omega) hc]
    (repeat refine ⟨by omega, ?_⟩); refine ⟨⟨m + 1, ?_, by omega⟩, by omega⟩
    rw [e2]; simp
  · have : m = k := by omega
    subst this
    rw [getR_ok (by omega) (by omega) h2]
    simp only [Int.toNat_natCast]

end Go.Proofs.YtliedecinehijaaDoor
