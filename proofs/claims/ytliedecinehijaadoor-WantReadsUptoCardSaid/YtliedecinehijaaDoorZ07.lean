/-
  DERIVED: THE SHELF's CONTRACTS AT THIS DUMP, IN PLAIN WORDS (tools/lay-plain.mjs out of 'YtliedecinehijaaDoorShelf.lean', which tools/lay-shelf.mjs wrote): THE SAME DECLARATIONS UNDER THE SAME NAMES: 'import', 'namespace', 'open', 'def', 'theorem' AND NOTHING ELSE: no command of the shelf's: FOR A HAND-IN. Each laying: the table of numbers ('.._ren') and one theorem, a field a fact of the dump's own or the kernel's comparison; each contract: ONE APPLICATION.
-/
import Derived.Shelf.Small.Strs
import Derived.Shelf.Strings.Search3
import Derived.Shelf.Strings.Count
import Derived.Shelf.Strings.Split
import Derived.Shelf.Strings.IndexAnyAll
import Derived.Test.YtliedecinehijaaDoorProg
import Derived.Test.YtliedecinehijaaDoorZ05
import Derived.Test.YtliedecinehijaaDoorZ06
namespace Go.Proofs
open Go.Shelf
def Tryd.lays106_ren : Go.Shelf.Ren := ⟨fun | 106 => 120 | 213 => 150 | 265 => 179 | n => n, fun | 9 => 9 | 3 => 3 | n => n, fun | n => n⟩
theorem Tryd.lays106 : Go.Proofs.Lays.n106 Tryd.prog Tryd.lays106_ren := {
  mixed := by kernel_rfl
  f106 := Tryd.func120.trans (congrArg some (by kernel_rfl))
  f213 := Tryd.func150.trans (congrArg some (by kernel_rfl))
  f265 := Tryd.func179.trans (congrArg some (by kernel_rfl))
  t3 := Tryd.underlying3
  a3 := Tryd.isAgg3
  z3 := Tryd.sizeOf3
  v3 := Tryd.zeroValue3
  t9 := Tryd.underlying9
  a9 := Tryd.isAgg9
  z9 := Tryd.sizeOf9
  v9 := Tryd.zeroValue9 }
def Tryd.lays143_ren : Go.Shelf.Ren := ⟨fun | 143 => 139 | 219 => 163 | 217 => 187 | 225 => 188 | 224 => 189 | 267 => 190 | 266 => 204 | 314 => 205 | n => n, fun | 9 => 9 | 3 => 3 | 4 => 4 | 5 => 5 | 46 => 91 | 146 => 222 | 51 => 199 | n => n, fun | 1 => 0 | n => n⟩
theorem Tryd.lays143 : Go.Proofs.Lays.n143 Tryd.prog Tryd.lays143_ren := {
  mixed := by kernel_rfl
  f143 := Tryd.func139.trans (congrArg some (by kernel_rfl))
  f217 := Tryd.func187.trans (congrArg some (by kernel_rfl))
  f219 := Tryd.func163.trans (congrArg some (by kernel_rfl))
  f224 := Tryd.func189.trans (congrArg some (by kernel_rfl))
  f225 := Tryd.func188.trans (congrArg some (by kernel_rfl))
  f266 := Tryd.func204.trans (congrArg some (by kernel_rfl))
  f267 := Tryd.func190.trans (congrArg some (by kernel_rfl))
  f314 := Tryd.func205.trans (congrArg some (by kernel_rfl))
  t3 := Tryd.underlying3
  a3 := Tryd.isAgg3
  z3 := Tryd.sizeOf3
  v3 := Tryd.zeroValue3
  t4 := Tryd.underlying4
  a4 := Tryd.isAgg4
  z4 := Tryd.sizeOf4
  v4 := Tryd.zeroValue4
  t5 := Tryd.underlying5
  a5 := Tryd.isAgg5
  z5 := Tryd.sizeOf5
  v5 := Tryd.zeroValue5
  t9 := Tryd.underlying9
  a9 := Tryd.isAgg9
  z9 := Tryd.sizeOf9
  v9 := Tryd.zeroValue9
  t46 := Tryd.underlying91
  a46 := Tryd.isAgg91
  z46 := Tryd.sizeOf91
  v46 := Tryd.zeroValue91
  t51 := Tryd.underlying199
  a51 := Tryd.isAgg199
  z51 := Tryd.sizeOf199
  v51 := Tryd.zeroValue199
  t146 := Tryd.underlying222
  a146 := Tryd.isAgg222
  z146 := Tryd.sizeOf222
  v146 := Tryd.zeroValue222
  g1 := by kernel_rfl }
def Tryd.lays138_ren : Go.Shelf.Ren := ⟨fun | 138 => 168 | 195 => 195 | 218 => 196 | 143 => 139 | 219 => 163 | 217 => 187 | 225 => 188 | 224 => 189 | 267 => 190 | 266 => 204 | 314 => 205 | n => n, fun | 9 => 9 | 3 => 3 | 4 => 4 | 5 => 5 | 0 => 0 | 46 => 91 | 146 => 222 | 51 => 199 | n => n, fun | 1 => 0 | n => n⟩
theorem Tryd.lays138 : Go.Proofs.Lays.n138 Tryd.prog Tryd.lays138_ren := {
  mixed := by kernel_rfl
  f138 := Tryd.func168.trans (congrArg some (by kernel_rfl))
  f143 := Tryd.func139.trans (congrArg some (by kernel_rfl))
  f195 := Tryd.func195.trans (congrArg some (by kernel_rfl))
  f217 := Tryd.func187.trans (congrArg some (by kernel_rfl))
  f218 := Tryd.func196.trans (congrArg some (by kernel_rfl))
  f219 := Tryd.func163.trans (congrArg some (by kernel_rfl))
  f224 := Tryd.func189.trans (congrArg some (by kernel_rfl))
  f225 := Tryd.func188.trans (congrArg some (by kernel_rfl))
  f266 := Tryd.func204.trans (congrArg some (by kernel_rfl))
  f267 := Tryd.func190.trans (congrArg some (by kernel_rfl))
  f314 := Tryd.func205.trans (congrArg some (by kernel_rfl))
  t0 := Tryd.underlying0
  a0 := Tryd.isAgg0
  z0 := Tryd.sizeOf0
  v0 := Tryd.zeroValue0
  t3 := Tryd.underlying3
  a3 := Tryd.isAgg3
  z3 := Tryd.sizeOf3
  v3 := Tryd.zeroValue3
  t4 := Tryd.underlying4
  a4 := Tryd.isAgg4
  z4 := Tryd.sizeOf4
  v4 := Tryd.zeroValue4
  t5 := Tryd.underlying5
  a5 := Tryd.isAgg5
  z5 := Tryd.sizeOf5
  v5 := Tryd.zeroValue5
  t9 := Tryd.underlying9
  a9 := Tryd.isAgg9
  z9 := Tryd.sizeOf9
  v9 := Tryd.zeroValue9
  t46 := Tryd.underlying91
  a46 := Tryd.isAgg91
  z46 := Tryd.sizeOf91
  v46 := Tryd.zeroValue91
  t51 := Tryd.underlying199
  a51 := Tryd.isAgg199
  z51 := Tryd.sizeOf199
  v51 := Tryd.zeroValue199
  t146 := Tryd.underlying222
  a146 := Tryd.isAgg222
  z146 := Tryd.sizeOf222
  v146 := Tryd.zeroValue222
  g1 := by kernel_rfl }
def Tryd.lays221_ren : Go.Shelf.Ren := ⟨fun | 221 => 146 | 268 => 167 | 138 => 168 | 143 => 139 | 195 => 195 | 197 => 185 | 218 => 196 | 219 => 163 | 260 => 203 | 217 => 187 | 225 => 188 | 224 => 189 | 267 => 190 | 266 => 204 | 314 => 205 | n => n, fun | 9 => 9 | 3 => 3 | 31 => 62 | 4 => 4 | 0 => 0 | 105 => 207 | 21 => 21 | 5 => 5 | 46 => 91 | 119 => 228 | 139 => 231 | 138 => 230 | 146 => 222 | 51 => 199 | n => n, fun | 1 => 0 | 3 => 1 | 4 => 2 | n => n⟩
theorem Tryd.lays221 : Go.Proofs.Lays.n221 Tryd.prog Tryd.lays221_ren := {
  mixed := by kernel_rfl
  f138 := Tryd.func168.trans (congrArg some (by kernel_rfl))
  f143 := Tryd.func139.trans (congrArg some (by kernel_rfl))
  f195 := Tryd.func195.trans (congrArg some (by kernel_rfl))
  f197 := Tryd.func185.trans (congrArg some (by kernel_rfl))
  f217 := Tryd.func187.trans (congrArg some (by kernel_rfl))
  f218 := Tryd.func196.trans (congrArg some (by kernel_rfl))
  f219 := Tryd.func163.trans (congrArg some (by kernel_rfl))
  f221 := Tryd.func146.trans (congrArg some (by kernel_rfl))
  f224 := Tryd.func189.trans (congrArg some (by kernel_rfl))
  f225 := Tryd.func188.trans (congrArg some (by kernel_rfl))
  f260 := Tryd.func203.trans (congrArg some (by kernel_rfl))
  f266 := Tryd.func204.trans (congrArg some (by kernel_rfl))
  f267 := Tryd.func190.trans (congrArg some (by kernel_rfl))
  f268 := Tryd.func167.trans (congrArg some (by kernel_rfl))
  f314 := Tryd.func205.trans (congrArg some (by kernel_rfl))
  t0 := Tryd.underlying0
  a0 := Tryd.isAgg0
  z0 := Tryd.sizeOf0
  v0 := Tryd.zeroValue0
  t3 := Tryd.underlying3
  a3 := Tryd.isAgg3
  z3 := Tryd.sizeOf3
  v3 := Tryd.zeroValue3
  t4 := Tryd.underlying4
  a4 := Tryd.isAgg4
  z4 := Tryd.sizeOf4
  v4 := Tryd.zeroValue4
  t5 := Tryd.underlying5
  a5 := Tryd.isAgg5
  z5 := Tryd.sizeOf5
  v5 := Tryd.zeroValue5
  t9 := Tryd.underlying9
  a9 := Tryd.isAgg9
  z9 := Tryd.sizeOf9
  v9 := Tryd.zeroValue9
  t21 := Tryd.underlying21
  a21 := Tryd.isAgg21
  z21 := Tryd.sizeOf21
  v21 := Tryd.zeroValue21
  t31 := Tryd.underlying62
  a31 := Tryd.isAgg62
  z31 := Tryd.sizeOf62
  v31 := Tryd.zeroValue62
  t46 := Tryd.underlying91
  a46 := Tryd.isAgg91
  z46 := Tryd.sizeOf91
  v46 := Tryd.zeroValue91
  t51 := Tryd.underlying199
  a51 := Tryd.isAgg199
  z51 := Tryd.sizeOf199
  v51 := Tryd.zeroValue199
  t105 := Tryd.underlying207
  a105 := Tryd.isAgg207
  z105 := Tryd.sizeOf207
  v105 := Tryd.zeroValue207
  t119 := Tryd.underlying228
  a119 := Tryd.isAgg228
  z119 := Tryd.sizeOf228
  t138 := Tryd.underlying230
  a138 := Tryd.isAgg230
  z138 := Tryd.sizeOf230
  v138 := Tryd.zeroValue230
  t139 := Tryd.underlying231
  a139 := Tryd.isAgg231
  z139 := Tryd.sizeOf231
  v139 := Tryd.zeroValue231
  t146 := Tryd.underlying222
  a146 := Tryd.isAgg222
  z146 := Tryd.sizeOf222
  v146 := Tryd.zeroValue222
  g1 := by kernel_rfl
  g3 := by kernel_rfl
  g4 := by kernel_rfl }
def Tryd.lays150_ren : Go.Shelf.Ren := ⟨fun | 150 => 142 | 153 => 165 | 152 => 192 | 226 => 193 | 227 => 160 | 228 => 184 | 137 => 206 | 119 => 207 | 224 => 189 | 225 => 188 | 217 => 187 | 266 => 204 | n => n, fun | 9 => 9 | 4 => 4 | 3 => 3 | 5 => 5 | 21 => 21 | 117 => 186 | 116 => 185 | 0 => 0 | 46 => 91 | 124 => 189 | n => n, fun | n => n⟩
theorem Tryd.lays150 : Go.Proofs.Lays.n150 Tryd.prog Tryd.lays150_ren := {
  mixed := by kernel_rfl
  f119 := Tryd.func207.trans (congrArg some (by kernel_rfl))
  f137 := Tryd.func206.trans (congrArg some (by kernel_rfl))
  f150 := Tryd.func142.trans (congrArg some (by kernel_rfl))
  f152 := Tryd.func192.trans (congrArg some (by kernel_rfl))
  f153 := Tryd.func165.trans (congrArg some (by kernel_rfl))
  f217 := Tryd.func187.trans (congrArg some (by kernel_rfl))
  f224 := Tryd.func189.trans (congrArg some (by kernel_rfl))
  f225 := Tryd.func188.trans (congrArg some (by kernel_rfl))
  f226 := Tryd.func193.trans (congrArg some (by kernel_rfl))
  f227 := Tryd.func160.trans (congrArg some (by kernel_rfl))
  f228 := Tryd.func184.trans (congrArg some (by kernel_rfl))
  f266 := Tryd.func204.trans (congrArg some (by kernel_rfl))
  t0 := Tryd.underlying0
  a0 := Tryd.isAgg0
  z0 := Tryd.sizeOf0
  v0 := Tryd.zeroValue0
  t3 := Tryd.underlying3
  a3 := Tryd.isAgg3
  z3 := Tryd.sizeOf3
  v3 := Tryd.zeroValue3
  t4 := Tryd.underlying4
  a4 := Tryd.isAgg4
  z4 := Tryd.sizeOf4
  v4 := Tryd.zeroValue4
  t5 := Tryd.underlying5
  a5 := Tryd.isAgg5
  z5 := Tryd.sizeOf5
  v5 := Tryd.zeroValue5
  t9 := Tryd.underlying9
  a9 := Tryd.isAgg9
  z9 := Tryd.sizeOf9
  v9 := Tryd.zeroValue9
  t21 := Tryd.underlying21
  a21 := Tryd.isAgg21
  z21 := Tryd.sizeOf21
  v21 := Tryd.zeroValue21
  t46 := Tryd.underlying91
  a46 := Tryd.isAgg91
  z46 := Tryd.sizeOf91
  v46 := Tryd.zeroValue91
  t116 := Tryd.underlying185
  a116 := Tryd.isAgg185
  z116 := Tryd.sizeOf185
  t117 := Tryd.underlying186
  a117 := Tryd.isAgg186
  z117 := Tryd.sizeOf186
  v117 := Tryd.zeroValue186
  t124 := Tryd.underlying189
  a124 := Tryd.isAgg189
  z124 := Tryd.sizeOf189
  v124 := Tryd.zeroValue189 }
end Go.Proofs

/-
  The order of texts; strings.Compare. By an AI agent.
-/
set_option linter.unusedSimpArgs false
set_option linter.unusedVariables false
namespace Go.Proofs.YtliedecinehijaaDoor
open Go.Sx

/-- Does a text stand ahead? -/
abbrev ltB : List UInt8 → List UInt8 → Bool := Op.bytesLess
theorem ltB_nil (a : List UInt8) : ltB a [] = false := by cases a <;> rfl
theorem ltB_irr : ∀ a : List UInt8, ltB a a = false
  | [] => rfl
  | a :: x => by simp [ltB, Op.bytesLess, ltB_irr x, UInt8.lt_irrefl]
theorem ltB_trans : ∀ {a b c : List UInt8}, ltB a b = true → ltB b c = true → ltB a c = true
  | _, [], _, h, _ => by rw [ltB_nil] at h; cases h
  | _, _ :: _, [], _, h => by rw [ltB_nil] at h; cases h
  | [], _ :: _, _ :: _, _, _ => rfl
  | a :: x, b :: y, c :: z, h1, h2 => by
    simp only [ltB, Op.bytesLess, Bool.or_eq_true, decide_eq_true_eq, Bool.and_eq_true, beq_iff_eq] at h1 h2 ⊢
    rcases h1 with h1 | ⟨rfl, h1⟩
    · rcases h2 with h2 | ⟨rfl, h2⟩
      · exact .inl (UInt8.lt_trans h1 h2)
      · exact .inl h1
    · rcases h2 with h2 | ⟨rfl, h2⟩
      · exact .inl h2
      · exact .inr ⟨rfl, ltB_trans h1 h2⟩
theorem ltB_tri : ∀ {a b : List UInt8}, ltB a b = false → ltB b a = false → a = b
  | [], [], _, _ => rfl
  | [], _ :: _, h, _ => by cases h
  | _ :: _, [], _, h => by cases h
  | a :: x, b :: y, h1, h2 => by
    simp only [ltB, Op.bytesLess, Bool.or_eq_false_iff, decide_eq_false_iff_not, Bool.and_eq_false_iff, beq_eq_false_iff_ne] at h1 h2
    have hab : a = b := by
      rcases Nat.lt_trichotomy a.toNat b.toNat with h | h | h
      · exact absurd (UInt8.lt_iff_toNat_lt.2 h) h1.1
      · exact UInt8.toNat_inj.1 h
      · exact absurd (UInt8.lt_iff_toNat_lt.2 h) h2.1
    subst hab
    rw [ltB_tri (h1.2.resolve_left (by simp)) (h2.2.resolve_left (by simp))]
theorem ltB_asym {a b : List UInt8} (h : ltB a b = true) : ltB b a = false := by
  cases h2 : ltB b a with
  | false => rfl
  | true => have := ltB_trans h h2; rw [ltB_irr] at this; cases this
theorem ltB_ne {a b : List UInt8} (h : ltB a b = true) : a ≠ b := by rintro rfl; rw [ltB_irr] at h; cases h
/-- Not ahead: behind, or the same. -/
theorem ltB_not {a b : List UInt8} : ltB a b = false ↔ (ltB b a = true ∨ b = a) := by
  constructor
  · intro h
    cases h2 : ltB b a with
    | true => exact .inl rfl
    | false => exact .inr (ltB_tri h2 h)
  · rintro (h | rfl)
    · exact ltB_asym h
    · exact ltB_irr _
def cmpB (a b : List UInt8) : Int := if ltB a b = true then -1 else if a = b then 0 else 1
theorem cmpB_eq : ∀ a b : List UInt8, Go.Lib.compareBytes a b = cmpB a b
  | [], [] => rfl
  | [], _ :: _ => rfl
  | a :: x, [] => by simp [cmpB, Go.Lib.compareBytes, ltB_nil]
  | a :: x, b :: y => by
    have ih := cmpB_eq x y
    rw [Go.Lib.compareBytes, ih]
    unfold cmpB
    simp only [ltB, Op.bytesLess, Bool.or_eq_true, decide_eq_true_eq, Bool.and_eq_true, beq_iff_eq, List.cons.injEq]
    by_cases h1 : a < b
    · simp [h1]
    · by_cases h2 : b < a
      · have hne : a ≠ b := by rintro rfl; exact h1 h2
        simp [h1, h2, hne]
      · have hab : a = b := by
          rcases Nat.lt_trichotomy a.toNat b.toNat with h | h | h
          · exact absurd (UInt8.lt_iff_toNat_lt.2 h) h1
          · exact UInt8.toNat_inj.1 h
          · exact absurd (UInt8.lt_iff_toNat_lt.2 h) h2
        subst hab
        simp [UInt8.lt_irrefl]
theorem cmpB_lt {a b : List UInt8} : cmpB a b < 0 ↔ ltB a b = true := by
  unfold cmpB
  split
  · simp [*]
  · rename_i h
    have h : ltB a b = false := by simpa using h
    split <;> simp [h]
theorem cmpB_zero {a b : List UInt8} : cmpB a b = 0 ↔ a = b := by
  unfold cmpB
  split
  · rename_i h
    simp only [show ¬ ((-1 : Int) = 0) by decide, false_iff]
    exact ltB_ne h
  · split <;> simp [*]
theorem c_Compare (w : World) (a b : List UInt8) : Calls Tryd.prog 120 #[.string ⟨a.toArray⟩, .string ⟨b.toArray⟩] w fun e w' => e = .returned (.int .i64 (cmpB a b)) ∧ Mod [] w w' := by
  refine (Any.strings_Compare Tryd.lays106 ⟨a.toArray⟩ ⟨b.toArray⟩ w).mono ?_
  rintro e w' ⟨rfl, rfl⟩
  rw [cmpB_eq]
  exact ⟨rfl, Mod.refl _ _⟩
end Go.Proofs.YtliedecinehijaaDoor
