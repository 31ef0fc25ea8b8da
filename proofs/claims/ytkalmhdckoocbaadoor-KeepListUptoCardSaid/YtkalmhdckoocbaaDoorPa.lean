/-
  What is kept: the order of texts; what is checked. By an AI agent.
-/
import Derived.Test.YtkalmhdckoocbaaDoorTc
import Derived.Test.YtkalmhdckoocbaaDoorTreesP
import Derived.Test.YtkalmhdckoocbaaDoorSxP
set_option linter.unusedSimpArgs false
set_option linter.unusedVariables false
namespace Go.Proofs.YtkalmhdckoocbaaDoor
open Go.Sx

/-- Does a text stand ahead? -/
abbrev ltB : List UInt8 → List UInt8 → Bool := Op.bytesLess
theorem ltB_nil (a : List UInt8) : ltB a [] = false := by cases a <;> rfl
theorem ltB_irr : ∀ a : List UInt8, ltB a a = false
  | [] => rfl
  | a :: x => by simp [ltB, Op.bytesLess, ltB_irr x, UInt8.lt_irrefl]
theorem ltB_trans : ∀ {a b c : List UInt8}, ltB a b = true → ltB b c = true → ltB a c = true
  | _, [], _, h, _ => by rw [ltB_nil] at h; cases h
  | _, _ :: _, [], _, h => by rw [ltB_nil] at h; cases h
  | [], _ :: _, _ :: _, _, _ => rfl
  | a :: x, b :: y, c :: z, h1, h2 => by
    simp only [ltB, Op.bytesLess, Bool.or_eq_true, decide_eq_true_eq, Bool.and_eq_true, beq_iff_eq] at h1 h2 ⊢
    rcases h1 with h1 | ⟨rfl, h1⟩
    · rcases h2 with h2 | ⟨rfl, h2⟩
      · exact .inl (UInt8.lt_trans h1 h2)
      · exact .inl h1
    · rcases h2 with h2 | ⟨rfl, h2⟩
      · exact .inl h2
      · exact .inr ⟨rfl, ltB_trans h1 h2⟩
theorem ltB_tri : ∀ {a b : List UInt8}, ltB a b = false → ltB b a = false → a = b
  | [], [], _, _ => rfl
  | [], _ :: _, h, _ => by cases h
  | _ :: _, [], _, h => by cases h
  | a :: x, b :: y, h1, h2 => by
    simp only [ltB, Op.bytesLess, Bool.or_eq_false_iff, decide_eq_false_iff_not, Bool.and_eq_false_iff, beq_eq_false_iff_ne] at h1 h2
    have hab : a = b := by
      rcases Nat.lt_trichotomy a.toNat b.toNat with h | h | h
      · exact absurd (UInt8.lt_iff_toNat_lt.2 h) h1.1
      · exact UInt8.toNat_inj.1 h
      · exact absurd (UInt8.lt_iff_toNat_lt.2 h) h2.1
    subst hab
    rw [ltB_tri (h1.2.resolve_left (by simp)) (h2.2.resolve_left (by simp))]
theorem ltB_asym {a b : List UInt8} (h : ltB a b = true) : ltB b a = false := by
  cases h2 : ltB b a with
  | false => rfl
  | true => have := ltB_trans h h2; rw [ltB_irr] at this; cases this
theorem ltB_ne {a b : List UInt8} (h : ltB a b = true) : a ≠ b := by rintro rfl; rw [ltB_irr] at h; cases h
/-- Not ahead: behind, or the same. -/
theorem ltB_not {a b : List UInt8} : ltB a b = false ↔ (ltB b a = true ∨ b = a) := by
  constructor
  · intro h
    cases h2 : ltB b a with
    | true => exact .inl rfl
    | false => exact .inr (ltB_tri h2 h)
  · rintro (h | rfl)
    · exact ltB_asym h
    · exact ltB_irr _
def cmpB (a b : List UInt8) : Int := if ltB a b = true then -1 else if a = b then 0 else 1
theorem cmpB_eq : ∀ a b : List UInt8, Go.Lib.compareBytes a b = cmpB a b
  | [], [] => rfl
  | [], _ :: _ => rfl
  | a :: x, [] => by simp [cmpB, Go.Lib.compareBytes, ltB_nil]
  | a :: x, b :: y => by
    have ih := cmpB_eq x y
    rw [Go.Lib.compareBytes, ih]
    unfold cmpB
    simp only [ltB, Op.bytesLess, Bool.or_eq_true, decide_eq_true_eq, Bool.and_eq_true, beq_iff_eq, List.cons.injEq]
    by_cases h1 : a < b
    · simp [h1]
    · by_cases h2 : b < a
      · have hne : a ≠ b := by rintro rfl; exact h1 h2
        simp [h1, h2, hne]
      · have hab : a = b := by
          rcases Nat.lt_trichotomy a.toNat b.toNat with h | h | h
          · exact absurd (UInt8.lt_iff_toNat_lt.2 h) h1
          · exact UInt8.toNat_inj.1 h
          · exact absurd (UInt8.lt_iff_toNat_lt.2 h) h2
        subst hab
        simp [UInt8.lt_irrefl]
theorem cmpB_lt {a b : List UInt8} : cmpB a b < 0 ↔ ltB a b = true := by
  unfold cmpB
  split
  · simp [*]
  · rename_i h
    have h : ltB a b = false := by simpa using h
    split <;> simp [h]
theorem cmpB_zero {a b : List UInt8} : cmpB a b = 0 ↔ a = b := by
  unfold cmpB
  split
  · rename_i h
    simp only [show ¬ ((-1 : Int) = 0) by decide, false_iff]
    exact ltB_ne h
  · split <;> simp [*]
theorem c_Compare (w : World) (a b : List UInt8) : Calls Tryd.prog 121 #[.string ⟨a.toArray⟩, .string ⟨b.toArray⟩] w fun e w' => e = .returned (.int .i64 (cmpB a b)) ∧ Mod [] w w' := by
  refine (Any.strings_Compare Tryd.lays106 ⟨a.toArray⟩ ⟨b.toArray⟩ w).mono ?_
  rintro e w' ⟨rfl, rfl⟩
  rw [cmpB_eq]
  exact ⟨rfl, Mod.refl _ _⟩
theorem ltB_at {a b : List UInt8} {i : Nat} (h : a.take i = b.take i) (hi : i < a.length) (hj : i < b.length) (hne : ¬ a.getD i 0 = b.getD i 0) : ltB a b = decide (a.getD i 0 < b.getD i 0) := by
  induction i generalizing a b with
  | zero =>
    match a, b, hi, hj with
    | x :: a, y :: b, _, _ =>
      simp only [List.getD_cons_zero] at hne
      simp [ltB, Op.bytesLess, hne]
  | succ i ih =>
    match a, b, hi, hj with
    | x :: a, y :: b, hi, hj =>
      simp only [List.take_succ_cons, List.cons.injEq] at h
      obtain ⟨rfl, h⟩ := h
      simp only [List.getD_cons_succ] at hne ⊢
      have := ih h (by simpa using hi) (by simpa using hj) hne
      show (decide (x < x) || (x == x && ltB a b)) = _
      rw [this]; simp [UInt8.lt_irrefl]
theorem ltB_end {a b : List UInt8} {i : Nat} (h : a.take i = b.take i) (hi : i ≤ a.length) (hj : i ≤ b.length) (he : i = a.length ∨ i = b.length) : ltB a b = decide (a.length < b.length) := by
  induction i generalizing a b with
  | zero =>
    match a, b with
    | [], [] => rfl
    | [], _ :: _ => rfl
    | _ :: _, [] => simp [ltB_nil]
    | _ :: _, _ :: _ => simp at he
  | succ i ih =>
    match a, b, hi, hj with
    | x :: a, y :: b, hi, hj =>
      simp only [List.take_succ_cons, List.cons.injEq] at h
      obtain ⟨rfl, h⟩ := h
      have := ih h (by simpa using hi) (by simpa using hj) (by simpa using he)
      simp [ltB, Op.bytesLess, UInt8.lt_irrefl]
      simpa using this
theorem takeB {a b : List UInt8} {i : Nat} (h : a.take i = b.take i) (hi : i < a.length) (hj : i < b.length) (he : a.getD i 0 = b.getD i 0) : a.take (i + 1) = b.take (i + 1) := by
  rw [List.take_add_one, List.take_add_one, h]
  simp only [List.getD_eq_getElem?_getD, List.getElem?_eq_getElem hi, List.getElem?_eq_getElem hj, Option.getD_some] at he
  rw [List.getElem?_eq_getElem hi, List.getElem?_eq_getElem hj, he]
theorem c_textLess (w : World) (a b : List UInt8) (ha : a.length < 1099511627776) : Calls Tryd.prog 97 #[.string ⟨a.toArray⟩, .string ⟨b.toArray⟩] w fun e w' => e = .returned (.bool (ltB a b)) ∧ Mod [] w w' := by
  refine as_called (run_plain2 (ρ := [.s a, .s b]) sxE_ok Tryd.func97 tree_dragomanref_textLess rfl rfl rfl ?_) rfl
  simp only [Tree.goal, X.P, X.ev, V.toI_i, V.toB_b, V.toS_s, V.toR_r, V.toV_v, V.toN_n, V.toL_l, SV.ev, CV.ev, Sc.ev, List.getD_cons_zero, List.getD_cons_succ, List.getElem?_cons_zero, List.getElem?_cons_succ, List.map_cons, List.map_nil, List.length_cons, List.length_nil, List.cons_append, List.nil_append, Nat.zero_add, Nat.reduceAdd]
  refine ⟨fun vs => ∃ (i : Nat) (x : V), vs = [x, .i i] ∧ i ≤ a.length ∧ i ≤ b.length ∧ a.take i = b.take i, fun vs => a.length - (vs.getD 1 (.i 0)).toI.toNat, ⟨0, _, rfl, by omega, by omega, rfl⟩, ?_⟩
  rintro _ - ⟨i, x, rfl, hi, hj, ht⟩
  simp only [Tree.goal, X.P, X.ev, V.toI_i, V.toB_b, V.toS_s, V.toR_r, V.toV_v, V.toN_n, V.toL_l, SV.ev, CV.ev, Sc.ev, List.getD_cons_zero, List.getD_cons_succ, List.getElem?_cons_zero, List.getElem?_cons_succ, List.map_cons, List.map_nil, List.length_cons, List.length_nil, List.cons_append, List.nil_append, Nat.zero_add, Nat.reduceAdd, Int.toNat_natCast]
  refine ⟨fun h1 => ⟨by omega, fun h2 w' hr => ⟨?_, hr.mod⟩, fun h2 => ⟨by omega, by omega, ⟨i + 1, x, rfl, by omega, by omega, takeB ht (by omega) (by omega) ?_⟩, by omega⟩⟩, fun h1 w' hr => ⟨?_, hr.mod⟩⟩
  · rw [ltB_at ht (by omega) (by omega) (fun e => h2 (by rw [e]))]
    simp [UInt8.lt_iff_toNat_lt]
  · have h3 := Classical.not_not.1 h2
    exact UInt8.toNat_inj.1 (by exact_mod_cast h3)
  · rw [ltB_end ht hi hj (by omega)]
    simp
end Go.Proofs.YtkalmhdckoocbaaDoor
