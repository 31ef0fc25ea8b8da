/-
  The law WireBack: what is told is read; walked. By an AI agent.
-/
import Derived.Test.YtliedecinehijaaDoorWf
set_option linter.unusedSimpArgs false
set_option linter.unusedVariables false
namespace Go.Proofs.YtliedecinehijaaDoor
open Go.Sx

theorem numB_nat (k n : Nat) : numB k (n : Int) = (List.range k).map fun j => UInt8.ofNat (n / pw (k - 1 - j) % 256) := by
  refine List.map_congr_left fun j _ => ?_
  congr 1
theorem numB_succ (k n : Nat) : numB (k + 1) (n : Int) = numB k ((n / 256 : Nat) : Int) ++ [UInt8.ofNat (n % 256)] := by
  rw [numB_nat, numB_nat, List.range_succ, List.map_append]
  congr 1
  · refine List.map_congr_left fun j hj => ?_
    have hj : j < k := by simpa using hj
    have e : k + 1 - 1 - j = (k - 1 - j) + 1 := by omega
    rw [e]
    show UInt8.ofNat (n / (256 * pw (k - 1 - j)) % 256) = UInt8.ofNat (n / 256 / pw (k - 1 - j) % 256)
    rw [Nat.div_div_eq_div_mul]
  · have e : k + 1 - 1 - k = 0 := by omega
    rw [List.map_cons, List.map_nil, e]
    simp [pw]
theorem beN_numB : ∀ (k n : Nat), n < pw k → beN (numB k n) 0 = n
  | 0, n, h => by
    have h : n < 1 := h
    have : n = 0 := by omega
    subst this; rfl
  | k + 1, n, h => by
    have h : n < 256 * pw k := h
    have ih := beN_numB k (n / 256) (by omega)
    rw [numB_succ, beN_snoc, ih]
    have : (UInt8.ofNat (n % 256)).toNat = n % 256 := by simp
    omega
theorem sub_mid (a s b : List UInt8) : (((a ++ s ++ b).drop a.length).take s.length) = s := by
  rw [List.append_assoc, List.drop_left, List.take_left]
theorem getR_back (a b : List UInt8) (n : Int) (k : Int) (h : numErr n k = 0) : getR (a ++ numS n k ++ b) a.length k = (n, 0) := by
  have h1 := numErr_ok.1 h
  have hl : (numS n k).length = k.toNat := by rw [numS_ok h1, numB_len]
  rw [getR_ok h1.1 (by simp; omega) (by simp [hl]; omega)]
  obtain ⟨m, rfl⟩ : ∃ m : Nat, n = m := ⟨n.toNat, by omega⟩
  have e : List.take k.toNat (List.drop (a.length : Int).toNat (a ++ numS m k ++ b)) = numS m k := by
    have := sub_mid a (numS m k) b
    rw [hl] at this
    exact this
  rw [e, numS_ok h1, beN_numB _ _ (by omega)]

theorem lngB_ne (f n : Nat) : lngB f n ≠ [] := by cases f <;> simp [lngB]; split <;> simp
theorem glF_back (b : List UInt8) : ∀ (g f i n x : Nat), x < p7 (g + 1) → g < f → (i = 0 ∨ 0 < x) → glF f i n (lngB g x ++ b) = (((n + x * p7 i : Nat) : Int), ((i + (lngB g x).length : Nat) : Int), 0)
  | 0, f + 1, i, n, x, hx, hf, hi => by
    have hx : x < 128 := hx
    have e : (UInt8.ofNat x).toNat = x := by simp; omega
    show glF (f + 1) i n ([UInt8.ofNat x] ++ b) = _
    simp only [List.cons_append, List.nil_append, glF, e, lngB, List.length_cons, List.length_nil]
    rw [if_pos hx, if_neg (by omega), Nat.mod_eq_of_lt hx]
  | g + 1, f + 1, i, n, x, hx, hf, hi => by
    by_cases h : x < 128
    · have e : (UInt8.ofNat x).toNat = x := by simp; omega
      rw [lngB_small _ _ h]
      simp only [List.cons_append, List.nil_append, glF, e, List.length_cons, List.length_nil]
      rw [if_pos h, if_neg (by omega), Nat.mod_eq_of_lt h]
    · have hx : x < 128 * p7 (g + 1) := hx
      have e : (UInt8.ofNat (x % 128 + 128)).toNat = x % 128 + 128 := by simp; omega
      have e2 : lngB (g + 1) x = UInt8.ofNat (x % 128 + 128) :: lngB g (x / 128) := by rw [lngB, if_neg h]
      rw [e2]
      simp only [List.cons_append, glF, e, List.length_cons]
      rw [if_neg (by omega), glF_back b g f (i + 1) _ (x / 128) (by omega) (by omega) (by omega)]
      have e3 : (x % 128 + 128) % 128 = x % 128 := by omega
      have e4 : x % 128 * p7 i + x / 128 * (128 * p7 i) = x * p7 i := by
        rw [← Nat.mul_assoc, ← Nat.add_mul]; congr 1; omega
      rw [e3]
      refine Prod.ext ?_ (Prod.ext ?_ rfl)
      · show ((n + x % 128 * p7 i + x / 128 * p7 (i + 1) : Nat) : Int) = _
        rw [p7, Nat.add_assoc, e4]
      · show ((i + 1 + (lngB g (x / 128)).length : Nat) : Int) = _
        congr 1; omega
theorem getL_back (a b : List UInt8) (n : Int) (h : longE n = 0) : getL (a ++ longS n ++ b) a.length = (n, ((longS n).length : Int), 0) := by
  have h1 : 0 ≤ n ∧ n ≤ 268435455 := by
    unfold longE at h; split at h
    · assumption
    · simp at h
  have e : longS n = lngB 3 n.toNat := if_pos h1
  rw [getL, if_pos (by simp; omega), Int.toNat_natCast, List.append_assoc, List.drop_left, e, glF_back b 3 4 0 0 n.toNat (by show n.toNat < 268435456; omega) (by omega) (by omega)]
  refine Prod.ext ?_ (Prod.ext ?_ rfl)
  · show ((0 + n.toNat * p7 0 : Nat) : Int) = n
    simp only [p7]; omega
  · simp
theorem getT_back (a b t : List UInt8) (h : textE t = 0) : getT (a ++ textS t ++ b) a.length = (t, ((textS t).length : Int), 0) := by
  have h1 : t.length ≤ 65535 := by
    unfold textE at h; split at h
    · assumption
    · simp at h
  have e : textS t = numB 2 t.length ++ t := if_pos h1
  have hn : numErr t.length 2 = 0 := numErr_ok.2 ⟨by omega, by omega, by show (t.length : Int) ≤ 65536 - 1; omega⟩
  have e1 := numS_ok (numErr_ok.1 hn)
  have hg : getR (a ++ textS t ++ b) a.length 2 = ((t.length : Int), 0) := by
    have := getR_back a (t ++ b) t.length 2 hn
    rw [e1] at this
    rw [e, ← this]
    simp [List.append_assoc]
  rw [getT, hg, if_pos rfl, if_neg (by simp [e, numB_len]; omega)]
  have e5 : (↑a.length + 2 + ((t.length : Int))).toNat = a.length + 2 + t.length := by omega
  have e6 : ((a.length : Int) + 2).toNat = a.length + 2 := by omega
  refine Prod.ext ?_ (Prod.ext ?_ rfl)
  · show List.drop ((a.length : Int) + 2).toNat (List.take (↑a.length + 2 + ((t.length : Int))).toNat (a ++ textS t ++ b)) = t
    rw [e5, e6, e]
    have q1 : a ++ (numB 2 t.length ++ t) ++ b = (a ++ numB 2 t.length) ++ (t ++ b) := by simp [List.append_assoc]
    have q2 : (a ++ numB 2 t.length).length = a.length + 2 := by simp [numB_len]
    rw [q1, ← q2, List.take_append, List.drop_append]
    simp
  · show (t.length : Int) + 2 = ((textS t).length : Int)
    rw [e, List.length_append, numB_len]; omega

end Go.Proofs.YtliedecinehijaaDoor
