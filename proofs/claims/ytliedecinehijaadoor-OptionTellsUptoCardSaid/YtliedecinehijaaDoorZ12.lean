/-
  DERIVED: THE SHELF's CONTRACTS AT THIS DUMP, IN PLAIN WORDS (tools/lay-plain.mjs out of 'YtliedecinehijaaDoorShelf.lean', which tools/lay-shelf.mjs wrote): THE SAME DECLARATIONS UNDER THE SAME NAMES: 'import', 'namespace', 'open', 'def', 'theorem' AND NOTHING ELSE: no command of the shelf's: FOR A HAND-IN. Each laying: the table of numbers ('.._ren') and one theorem, a field a fact of the dump's own or the kernel's comparison; each contract: ONE APPLICATION.
-/
import Derived.Shelf.Small.Strs
import Derived.Shelf.Strings.Search3
import Derived.Shelf.Strings.Count
import Derived.Shelf.Strings.Split
import Derived.Shelf.Strings.IndexAnyAll
import Derived.Test.YtliedecinehijaaDoorProg
import Derived.Test.YtliedecinehijaaDoorZ06
import Derived.Test.YtliedecinehijaaDoorZ11
import Derived.Test.YtliedecinehijaaDoorZ08
import Derived.Test.YtliedecinehijaaDoorZ10
import Derived.Test.YtliedecinehijaaDoorZ05
import Derived.Lib.Overlaps
import Derived.Shelf.Spec.SlicesInsert
import Derived.Lib.AppendZerosOnto
import Derived.Shelf.Strings.Trim
import Derived.Shelf.Strings.OnBuilder
namespace Go.Proofs
open Go.Shelf
def Tryd.lays106_ren : Go.Shelf.Ren := ⟨fun | 106 => 120 | 213 => 150 | 265 => 179 | n => n, fun | 9 => 9 | 3 => 3 | n => n, fun | n => n⟩
theorem Tryd.lays106 : Go.Proofs.Lays.n106 Tryd.prog Tryd.lays106_ren := {
  mixed := by kernel_rfl
  f106 := Tryd.func120.trans (congrArg some (by kernel_rfl))
  f213 := Tryd.func150.trans (congrArg some (by kernel_rfl))
  f265 := Tryd.func179.trans (congrArg some (by kernel_rfl))
  t3 := Tryd.underlying3
  a3 := Tryd.isAgg3
  z3 := Tryd.sizeOf3
  v3 := Tryd.zeroValue3
  t9 := Tryd.underlying9
  a9 := Tryd.isAgg9
  z9 := Tryd.sizeOf9
  v9 := Tryd.zeroValue9 }
def Tryd.lays143_ren : Go.Shelf.Ren := ⟨fun | 143 => 139 | 219 => 163 | 217 => 187 | 225 => 188 | 224 => 189 | 267 => 190 | 266 => 204 | 314 => 205 | n => n, fun | 9 => 9 | 3 => 3 | 4 => 4 | 5 => 5 | 46 => 91 | 146 => 222 | 51 => 199 | n => n, fun | 1 => 0 | n => n⟩
theorem Tryd.lays143 : Go.Proofs.Lays.n143 Tryd.prog Tryd.lays143_ren := {
  mixed := by kernel_rfl
  f143 := Tryd.func139.trans (congrArg some (by kernel_rfl))
  f217 := Tryd.func187.trans (congrArg some (by kernel_rfl))
  f219 := Tryd.func163.trans (congrArg some (by kernel_rfl))
  f224 := Tryd.func189.trans (congrArg some (by kernel_rfl))
  f225 := Tryd.func188.trans (congrArg some (by kernel_rfl))
  f266 := Tryd.func204.trans (congrArg some (by kernel_rfl))
  f267 := Tryd.func190.trans (congrArg some (by kernel_rfl))
  f314 := Tryd.func205.trans (congrArg some (by kernel_rfl))
  t3 := Tryd.underlying3
  a3 := Tryd.isAgg3
  z3 := Tryd.sizeOf3
  v3 := Tryd.zeroValue3
  t4 := Tryd.underlying4
  a4 := Tryd.isAgg4
  z4 := Tryd.sizeOf4
  v4 := Tryd.zeroValue4
  t5 := Tryd.underlying5
  a5 := Tryd.isAgg5
  z5 := Tryd.sizeOf5
  v5 := Tryd.zeroValue5
  t9 := Tryd.underlying9
  a9 := Tryd.isAgg9
  z9 := Tryd.sizeOf9
  v9 := Tryd.zeroValue9
  t46 := Tryd.underlying91
  a46 := Tryd.isAgg91
  z46 := Tryd.sizeOf91
  v46 := Tryd.zeroValue91
  t51 := Tryd.underlying199
  a51 := Tryd.isAgg199
  z51 := Tryd.sizeOf199
  v51 := Tryd.zeroValue199
  t146 := Tryd.underlying222
  a146 := Tryd.isAgg222
  z146 := Tryd.sizeOf222
  v146 := Tryd.zeroValue222
  g1 := by kernel_rfl }
def Tryd.lays138_ren : Go.Shelf.Ren := ⟨fun | 138 => 168 | 195 => 195 | 218 => 196 | 143 => 139 | 219 => 163 | 217 => 187 | 225 => 188 | 224 => 189 | 267 => 190 | 266 => 204 | 314 => 205 | n => n, fun | 9 => 9 | 3 => 3 | 4 => 4 | 5 => 5 | 0 => 0 | 46 => 91 | 146 => 222 | 51 => 199 | n => n, fun | 1 => 0 | n => n⟩
theorem Tryd.lays138 : Go.Proofs.Lays.n138 Tryd.prog Tryd.lays138_ren := {
  mixed := by kernel_rfl
  f138 := Tryd.func168.trans (congrArg some (by kernel_rfl))
  f143 := Tryd.func139.trans (congrArg some (by kernel_rfl))
  f195 := Tryd.func195.trans (congrArg some (by kernel_rfl))
  f217 := Tryd.func187.trans (congrArg some (by kernel_rfl))
  f218 := Tryd.func196.trans (congrArg some (by kernel_rfl))
  f219 := Tryd.func163.trans (congrArg some (by kernel_rfl))
  f224 := Tryd.func189.trans (congrArg some (by kernel_rfl))
  f225 := Tryd.func188.trans (congrArg some (by kernel_rfl))
  f266 := Tryd.func204.trans (congrArg some (by kernel_rfl))
  f267 := Tryd.func190.trans (congrArg some (by kernel_rfl))
  f314 := Tryd.func205.trans (congrArg some (by kernel_rfl))
  t0 := Tryd.underlying0
  a0 := Tryd.isAgg0
  z0 := Tryd.sizeOf0
  v0 := Tryd.zeroValue0
  t3 := Tryd.underlying3
  a3 := Tryd.isAgg3
  z3 := Tryd.sizeOf3
  v3 := Tryd.zeroValue3
  t4 := Tryd.underlying4
  a4 := Tryd.isAgg4
  z4 := Tryd.sizeOf4
  v4 := Tryd.zeroValue4
  t5 := Tryd.underlying5
  a5 := Tryd.isAgg5
  z5 := Tryd.sizeOf5
  v5 := Tryd.zeroValue5
  t9 := Tryd.underlying9
  a9 := Tryd.isAgg9
  z9 := Tryd.sizeOf9
  v9 := Tryd.zeroValue9
  t46 := Tryd.underlying91
  a46 := Tryd.isAgg91
  z46 := Tryd.sizeOf91
  v46 := Tryd.zeroValue91
  t51 := Tryd.underlying199
  a51 := Tryd.isAgg199
  z51 := Tryd.sizeOf199
  v51 := Tryd.zeroValue199
  t146 := Tryd.underlying222
  a146 := Tryd.isAgg222
  z146 := Tryd.sizeOf222
  v146 := Tryd.zeroValue222
  g1 := by kernel_rfl }
def Tryd.lays221_ren : Go.Shelf.Ren := ⟨fun | 221 => 146 | 268 => 167 | 138 => 168 | 143 => 139 | 195 => 195 | 197 => 185 | 218 => 196 | 219 => 163 | 260 => 203 | 217 => 187 | 225 => 188 | 224 => 189 | 267 => 190 | 266 => 204 | 314 => 205 | n => n, fun | 9 => 9 | 3 => 3 | 31 => 62 | 4 => 4 | 0 => 0 | 105 => 207 | 21 => 21 | 5 => 5 | 46 => 91 | 119 => 228 | 139 => 231 | 138 => 230 | 146 => 222 | 51 => 199 | n => n, fun | 1 => 0 | 3 => 1 | 4 => 2 | n => n⟩
theorem Tryd.lays221 : Go.Proofs.Lays.n221 Tryd.prog Tryd.lays221_ren := {
  mixed := by kernel_rfl
  f138 := Tryd.func168.trans (congrArg some (by kernel_rfl))
  f143 := Tryd.func139.trans (congrArg some (by kernel_rfl))
  f195 := Tryd.func195.trans (congrArg some (by kernel_rfl))
  f197 := Tryd.func185.trans (congrArg some (by kernel_rfl))
  f217 := Tryd.func187.trans (congrArg some (by kernel_rfl))
  f218 := Tryd.func196.trans (congrArg some (by kernel_rfl))
  f219 := Tryd.func163.trans (congrArg some (by kernel_rfl))
  f221 := Tryd.func146.trans (congrArg some (by kernel_rfl))
  f224 := Tryd.func189.trans (congrArg some (by kernel_rfl))
  f225 := Tryd.func188.trans (congrArg some (by kernel_rfl))
  f260 := Tryd.func203.trans (congrArg some (by kernel_rfl))
  f266 := Tryd.func204.trans (congrArg some (by kernel_rfl))
  f267 := Tryd.func190.trans (congrArg some (by kernel_rfl))
  f268 := Tryd.func167.trans (congrArg some (by kernel_rfl))
  f314 := Tryd.func205.trans (congrArg some (by kernel_rfl))
  t0 := Tryd.underlying0
  a0 := Tryd.isAgg0
  z0 := Tryd.sizeOf0
  v0 := Tryd.zeroValue0
  t3 := Tryd.underlying3
  a3 := Tryd.isAgg3
  z3 := Tryd.sizeOf3
  v3 := Tryd.zeroValue3
  t4 := Tryd.underlying4
  a4 := Tryd.isAgg4
  z4 := Tryd.sizeOf4
  v4 := Tryd.zeroValue4
  t5 := Tryd.underlying5
  a5 := Tryd.isAgg5
  z5 := Tryd.sizeOf5
  v5 := Tryd.zeroValue5
  t9 := Tryd.underlying9
  a9 := Tryd.isAgg9
  z9 := Tryd.sizeOf9
  v9 := Tryd.zeroValue9
  t21 := Tryd.underlying21
  a21 := Tryd.isAgg21
  z21 := Tryd.sizeOf21
  v21 := Tryd.zeroValue21
  t31 := Tryd.underlying62
  a31 := Tryd.isAgg62
  z31 := Tryd.sizeOf62
  v31 := Tryd.zeroValue62
  t46 := Tryd.underlying91
  a46 := Tryd.isAgg91
  z46 := Tryd.sizeOf91
  v46 := Tryd.zeroValue91
  t51 := Tryd.underlying199
  a51 := Tryd.isAgg199
  z51 := Tryd.sizeOf199
  v51 := Tryd.zeroValue199
  t105 := Tryd.underlying207
  a105 := Tryd.isAgg207
  z105 := Tryd.sizeOf207
  v105 := Tryd.zeroValue207
  t119 := Tryd.underlying228
  a119 := Tryd.isAgg228
  z119 := Tryd.sizeOf228
  t138 := Tryd.underlying230
  a138 := Tryd.isAgg230
  z138 := Tryd.sizeOf230
  v138 := Tryd.zeroValue230
  t139 := Tryd.underlying231
  a139 := Tryd.isAgg231
  z139 := Tryd.sizeOf231
  v139 := Tryd.zeroValue231
  t146 := Tryd.underlying222
  a146 := Tryd.isAgg222
  z146 := Tryd.sizeOf222
  v146 := Tryd.zeroValue222
  g1 := by kernel_rfl
  g3 := by kernel_rfl
  g4 := by kernel_rfl }
def Tryd.lays150_ren : Go.Shelf.Ren := ⟨fun | 150 => 142 | 153 => 165 | 152 => 192 | 226 => 193 | 227 => 160 | 228 => 184 | 137 => 206 | 119 => 207 | 224 => 189 | 225 => 188 | 217 => 187 | 266 => 204 | n => n, fun | 9 => 9 | 4 => 4 | 3 => 3 | 5 => 5 | 21 => 21 | 117 => 186 | 116 => 185 | 0 => 0 | 46 => 91 | 124 => 189 | n => n, fun | n => n⟩
theorem Tryd.lays150 : Go.Proofs.Lays.n150 Tryd.prog Tryd.lays150_ren := {
  mixed := by kernel_rfl
  f119 := Tryd.func207.trans (congrArg some (by kernel_rfl))
  f137 := Tryd.func206.trans (congrArg some (by kernel_rfl))
  f150 := Tryd.func142.trans (congrArg some (by kernel_rfl))
  f152 := Tryd.func192.trans (congrArg some (by kernel_rfl))
  f153 := Tryd.func165.trans (congrArg some (by kernel_rfl))
  f217 := Tryd.func187.trans (congrArg some (by kernel_rfl))
  f224 := Tryd.func189.trans (congrArg some (by kernel_rfl))
  f225 := Tryd.func188.trans (congrArg some (by kernel_rfl))
  f226 := Tryd.func193.trans (congrArg some (by kernel_rfl))
  f227 := Tryd.func160.trans (congrArg some (by kernel_rfl))
  f228 := Tryd.func184.trans (congrArg some (by kernel_rfl))
  f266 := Tryd.func204.trans (congrArg some (by kernel_rfl))
  t0 := Tryd.underlying0
  a0 := Tryd.isAgg0
  z0 := Tryd.sizeOf0
  v0 := Tryd.zeroValue0
  t3 := Tryd.underlying3
  a3 := Tryd.isAgg3
  z3 := Tryd.sizeOf3
  v3 := Tryd.zeroValue3
  t4 := Tryd.underlying4
  a4 := Tryd.isAgg4
  z4 := Tryd.sizeOf4
  v4 := Tryd.zeroValue4
  t5 := Tryd.underlying5
  a5 := Tryd.isAgg5
  z5 := Tryd.sizeOf5
  v5 := Tryd.zeroValue5
  t9 := Tryd.underlying9
  a9 := Tryd.isAgg9
  z9 := Tryd.sizeOf9
  v9 := Tryd.zeroValue9
  t21 := Tryd.underlying21
  a21 := Tryd.isAgg21
  z21 := Tryd.sizeOf21
  v21 := Tryd.zeroValue21
  t46 := Tryd.underlying91
  a46 := Tryd.isAgg91
  z46 := Tryd.sizeOf91
  v46 := Tryd.zeroValue91
  t116 := Tryd.underlying185
  a116 := Tryd.isAgg185
  z116 := Tryd.sizeOf185
  t117 := Tryd.underlying186
  a117 := Tryd.isAgg186
  z117 := Tryd.sizeOf186
  v117 := Tryd.zeroValue186
  t124 := Tryd.underlying189
  a124 := Tryd.isAgg189
  z124 := Tryd.sizeOf189
  v124 := Tryd.zeroValue189 }
end Go.Proofs

/-
  Topics: levels of a text. By an AI agent.
-/
set_option linter.unusedSimpArgs false
set_option linter.unusedVariables false
namespace Go.Proofs.YtliedecinehijaaDoor
open Go.Sx

def encS (s : List UInt8) : List Value := [.string ⟨s.toArray⟩]
theorem gS_encS (ps : List (List UInt8)) (i : Nat) : Value.gS (((ps.map encS).getD i []).getD 0 undef) = ps.getD i [] := by
  simp only [List.getD_eq_getElem?_getD, List.getElem?_map]
  cases ps[i]? <;> simp [encS, Value.gS, undef]
abbrev readsS (w : World) (v : Value) (ps : List (List UInt8)) : Prop := reads w v [.str] (ps.map encS)
def freshS (n : Nat) (v : Value) (ps : List (List UInt8)) : Prop := ∀ k, (ps.map encS).flatten ≠ [] ∧ blockOf v k → n ≤ k
theorem dropS (ps : List (List UInt8)) (i : Nat) (h : i < ps.length) : ps.drop i = ps.getD i [] :: ps.drop (i + 1) := by
  rw [List.drop_eq_getElem_cons h, List.getD_eq_getElem?_getD, List.getElem?_eq_getElem h]; rfl
theorem drop_getD' (s : List UInt8) (k : Nat) (h : k < s.length) : s.drop k = s.getD k 0 :: s.drop (k + 1) := by
  rw [List.drop_eq_getElem_cons h, List.getD_eq_getElem?_getD, List.getElem?_eq_getElem h]; rfl
theorem u8_lt' (b : UInt8) : b.toNat < 256 := b.toNat_lt

/-- The levels of a text. -/
def lev : List UInt8 → List (List UInt8)
  | [] => [[]]
  | c :: l => if c = 47 then [] :: lev l else match lev l with | [] => [[c]] | x :: xs => (c :: x) :: xs
def glue (p : List UInt8) : List (List UInt8) → List (List UInt8)
  | [] => []
  | x :: xs => (p ++ x) :: xs
theorem glue_nil (l : List (List UInt8)) : glue [] l = l := by cases l <;> rfl
theorem lev_ne (s : List UInt8) : ∃ x xs, lev s = x :: xs := by
  cases s with
  | nil => exact ⟨[], [], rfl⟩
  | cons c l =>
    simp only [lev]
    split
    · exact ⟨_, _, rfl⟩
    · split <;> exact ⟨_, _, rfl⟩
theorem lev_slash (l : List UInt8) : lev (47 :: l) = [] :: lev l := by simp [lev]
theorem lev_other {c : UInt8} (l : List UInt8) (h : c ≠ 47) : lev (c :: l) = glue [c] (lev l) := by
  obtain ⟨x, xs, e⟩ := lev_ne l
  simp [lev, if_neg h, e, glue]
theorem glue_glue (p q : List UInt8) (l : List (List UInt8)) : glue p (glue q l) = glue (p ++ q) l := by cases l <;> simp [glue]

theorem c_LevelsOf (w : World) (s : List UInt8) (hs : s.length < 1099511627776) : Calls Tryd.prog 33 #[.string ⟨s.toArray⟩] w
    fun e w' => ∃ v, e = .returned (sc1 v) ∧ readsS w' v (lev s) ∧ freshS w.heap.size v (lev s) ∧ Mod [] w w' := by
  refine as_called (run_plain2 (ρ := [.s s]) sxE_ok Tryd.func33 tree_dragomanref_LevelsOf rfl rfl rfl ?_) rfl
  simp only [Tree.goal, X.P, X.ev, V.toI_i, V.toB_b, V.toS_s, V.toR_r, V.toV_v, V.toN_n, V.toL_l, SV.ev, CV.ev, Sc.ev, List.getD_cons_zero, List.getD_cons_succ, List.getElem?_cons_zero, List.getElem?_cons_succ, List.map_cons, List.map_nil, List.length_cons, List.length_nil, List.cons_append, List.nil_append, Nat.zero_add, Nat.reduceAdd]
  refine ⟨fun vs => ∃ (v : Value) (acc : List (List UInt8)) (a i : Nat), vs = [.v v, .r (acc.map encS), .i a, .i i] ∧ acc.length ≤ i ∧
      (i ≤ s.length ∧ a ≤ i ∧ acc ++ glue ((s.take i).drop a) (lev (s.drop i)) = lev s ∨ i = s.length + 1 ∧ acc = lev s), fun vs => s.length + 1 - (vs.getD 3 (.i 0)).toI.toNat, ⟨_, [], 0, 0, rfl, by simp, .inl ⟨by omega, by omega, by simp [glue_nil]⟩⟩, ?_⟩
  rintro _ - ⟨v, acc, a, i, rfl, hal, hinv⟩
  simp only [Tree.goal, X.P, X.ev, V.toI_i, V.toB_b, V.toS_s, V.toR_r, V.toV_v, V.toN_n, V.toL_l, SV.ev, CV.ev, Sc.ev, List.getD_cons_zero, List.getD_cons_succ, List.getElem?_cons_zero, List.getElem?_cons_succ, List.map_cons, List.map_nil, List.length_cons, List.length_nil, List.cons_append, List.nil_append, Nat.zero_add, Nat.reduceAdd, List.length_map, Int.toNat_natCast]
  refine ⟨fun h1 => ?_, fun h1 w' hr => ?_⟩
  · obtain ⟨hi, ha, hg⟩ := hinv.resolve_right fun h => by omega
    refine ⟨.inr (by omega), by omega, fun h2 => ?_, fun h2 => ?_⟩
    · (repeat refine ⟨by omega, ?_⟩)
      intro v1
      refine ⟨by omega, fun v2 => ⟨by omega, by omega, ⟨v2, acc ++ [(s.take i).drop a], i + 1, i + 1, by simp [encS], by simp; omega, ?_⟩, by omega⟩⟩
      by_cases h3 : i = s.length
      · subst h3
        rw [List.drop_length] at hg
        exact .inr ⟨rfl, by rw [← hg]; simp [lev, glue]⟩
      · refine .inl ⟨by omega, by omega, ?_⟩
        have h4 : s.getD i 0 = 47 := by
          have : (s.getD i 0).toNat = 47 := by
            rcases h2 with h2 | h2
            · omega
            · omega
          exact UInt8.toNat_inj.1 this
        rw [drop_getD' s i (by omega), h4, lev_slash] at hg
        have hz : glue ((s.take (i + 1)).drop (i + 1)) (lev (s.drop (i + 1))) = lev (s.drop (i + 1)) := by rw [List.drop_of_length_le (by simp; omega), glue_nil]
        rw [hz, ← hg]
        simp [glue]
    · refine ⟨by omega, by omega, ⟨v, acc, a, i + 1, rfl, by omega, .inl ⟨by omega, by omega, ?_⟩⟩, by omega⟩
      have h4 : s.getD i 0 ≠ 47 := fun h => h2 (.inr (by rw [h]; rfl))
      rw [drop_getD' s i (by omega), lev_other _ h4, glue_glue] at hg
      rw [← hg]
      congr 2
      rw [List.take_add_one, List.drop_append_of_le_length (by simp; omega), List.getD_eq_getElem?_getD]
      rw [List.getElem?_eq_getElem (by omega)]
      rfl
  · obtain ⟨hi, hg⟩ := hinv.resolve_left fun h => by omega
    subst hg
    refine ⟨v, rfl, owns.reads (hr.at_ 0 rfl), fun k hk => ?_, hr.mod⟩
    rcases hr.own _ (List.mem_cons_self ..) rfl k hk.2 with h | h
    · exact h
    · simp at h

theorem lev_miss : ∀ {s : List UInt8}, Lib.indexByte s 47 = -1 → lev s = [s] := by
  intro s
  induction s with
  | nil => intro _; rfl
  | cons c l ih =>
    intro h
    unfold Lib.indexByte at h
    split at h
    · exact absurd h (by decide)
    · rename_i hc
      have hc : c ≠ 47 := by simpa using hc
      split at h
      · rename_i h2
        rw [lev_other _ hc, ih (by simpa using h2)]; rfl
      · have := Lib.indexByte_ge l 47
        omega
theorem lev_hit : ∀ {s : List UInt8} {i : Nat}, Lib.indexByte s 47 = i → lev s = s.take i :: lev (s.drop (i + 1)) ∧ s.count 47 = (s.drop (i + 1)).count 47 + 1 := by
  intro s
  induction s with
  | nil => intro i h; unfold Lib.indexByte at h; omega
  | cons c l ih =>
    intro i h
    unfold Lib.indexByte at h
    split at h
    · rename_i hc
      have hc : c = 47 := by simpa using hc
      have : i = 0 := by omega
      subst this hc
      rw [lev_slash]
      simp
    · rename_i hc
      have hc : c ≠ 47 := by simpa using hc
      split at h
      · omega
      · rename_i h2
        have h3 := Lib.indexByte_ge l 47
        have h2 : ¬ Lib.indexByte l 47 = -1 := by simpa using h2
        obtain ⟨j, hj⟩ : ∃ j : Nat, Lib.indexByte l 47 = j := ⟨(Lib.indexByte l 47).toNat, by omega⟩
        have hij : i = j + 1 := by omega
        subst hij
        obtain ⟨e1, e2⟩ := ih hj
        rw [lev_other _ hc, e1]
        refine ⟨by simp [glue], ?_⟩
        rw [List.count_cons_of_ne hc, e2]; simp
theorem splitK_lev : ∀ (k : Nat) (s : List UInt8), s.count 47 = k → Lib.splitK [47] 0 k s = lev s := by
  intro k
  induction k with
  | zero =>
    intro s h
    unfold Lib.splitK
    refine (lev_miss ?_).symm
    rcases Int.lt_or_le (Lib.indexByte s 47) 0 with h1 | h1
    · have := Lib.indexByte_ge s 47; omega
    · obtain ⟨i, hi⟩ : ∃ i : Nat, Lib.indexByte s 47 = i := ⟨(Lib.indexByte s 47).toNat, by omega⟩
      have := (lev_hit hi).2
      omega
  | succ k ih =>
    intro s h
    unfold Lib.splitK
    rw [Lib.index_one]
    by_cases h1 : Lib.indexByte s 47 = -1
    · rw [if_pos (by simpa using h1), lev_miss h1]
    · rw [if_neg (by simpa using h1)]
      obtain ⟨i, hi⟩ : ∃ i : Nat, Lib.indexByte s 47 = i := ⟨(Lib.indexByte s 47).toNat, by have h5 := Lib.indexByte_ge s 47; have h6 : ¬ Lib.indexByte s 47 = -1 := h1; omega⟩
      obtain ⟨e1, e2⟩ := lev_hit hi
      rw [hi, e1, ← ih (s.drop (i + 1)) (by omega)]
      simp

/-- strings.Split at a slash: what it hands back. -/
theorem c_genSplit (w : World) (s : List UInt8) (hs : s.length < 4294967281) : Calls Tryd.prog 146 #[.string ⟨s.toArray⟩, .string ⟨#[47]⟩, .int .i64 0, .int .i64 (-1)] w
    fun e w' => ∃ v, e = .returned (sc1 v) ∧ readsS w' v (lev s) ∧ freshS w.heap.size v (lev s) ∧ Mod [] w w' := by
  have hsz : (⟨s.toArray⟩ : ByteArray).size = s.length := rfl
  have hcount : Lib.countB ⟨s.toArray⟩ ⟨#[47]⟩ = s.count 47 := Lib.count_one 47 s
  have hc1 : s.count 47 ≤ s.length := List.count_le_length
  have c := Any.strings_genSplit_core Tryd.lays221 (by kernel_rfl) ⟨s.toArray⟩ ⟨#[47]⟩ 0 (-1) (s.count 47 + 1) w (by rw [hsz]; exact hs) (by decide) (Nat.zero_le _)
    (fun x c hx => (Any.strings_Index_one { Tryd.lays221 with } x 47 _).mono fun e w' ⟨h1, h2⟩ => ⟨by rw [h1]; show _ = Ending.returned (Value.int .i64 (Lib.index x.data.toList [47])); rw [Lib.index_one], h2⟩)
    ((Any.strings_Count_one { Tryd.lays221 with } ⟨s.toArray⟩ 47 w).mono fun e w' ⟨h1, h2⟩ => ⟨by rw [h1, hcount]; rfl, h2⟩) (by decide) (by decide) (by rw [if_pos (by decide), hcount, hsz]; omega)
  refine (as_called c rfl).mono ?_
  rintro e w' ⟨rfl, rfl⟩
  rw [Nat.add_sub_cancel]
  have hdata := Lib.splitB_data ⟨#[47]⟩ 0 (s.count 47) ⟨s.toArray⟩
  have hlev : (Lib.splitB ⟨#[47]⟩ 0 (s.count 47) ⟨s.toArray⟩).map (·.data.toList) = lev s := hdata.trans (splitK_lev _ s rfl)
  have hlen := Lib.splitB_all ⟨#[47]⟩ (by decide) 0 (s.count 47) ⟨s.toArray⟩ hcount
  generalize Lib.splitB ⟨#[47]⟩ 0 (s.count 47) ⟨s.toArray⟩ = pcs at hlev hlen
  rw [hlen]
  have hll : (lev s).length = s.count 47 + 1 := by rw [← hlev, List.length_map, hlen]
  have hfull : Lib.cellsOf pcs (s.count 47 + 1) = (pcs.map Value.string).toArray := by rw [← hlen]; exact Lib.cellsOf_full _
  have hrow : (lev s).map encS = pcs.map fun b => [Value.string b] := by
    rw [← hlev, List.map_map]
    refine List.map_congr_left fun b _ => ?_
    obtain ⟨⟨l⟩⟩ := b
    rfl
  have hfl : (pcs.map fun b => [Value.string b]).flatten = pcs.map Value.string := by
    clear hlev hlen hfull hrow
    induction pcs <;> simp_all
  refine ⟨.slice (some ⟨w.heap.size, 0, none⟩) (s.count 47 + 1) (s.count 47 + 1), rfl, ⟨?_, some ⟨w.heap.size, 0, none⟩, s.count 47 + 1, by rw [List.length_map, hll], ⟨(fun h => by cases h), by rw [List.length_map, hll]; exact Nat.le_refl _⟩, fun _ => ⟨_, rfl, fun j u hj => ?_⟩⟩, fun k hk => ?_, Mod.alloc [] w _⟩
  · intro r hr
    obtain ⟨x, -, rfl⟩ := List.mem_map.1 hr
    exact ⟨⟨_, rfl⟩, trivial⟩
  · rw [hrow, hfl] at hj
    rw [add_mk, Nat.zero_add, hfull]
    exact (World.cell?_alloc_new ..).trans (by simpa using hj)
  · have h := hk.2
    simp only [blockOf, Value.ownBlock, Option.some.injEq] at h
    omega
end Go.Proofs.YtliedecinehijaaDoor

/-
  Topics: what is wrong with one. By an AI agent.
-/
set_option linter.unusedSimpArgs false
set_option linter.unusedVariables false
namespace Go.Proofs.YtliedecinehijaaDoor
open Go.Sx

theorem c_Split (w : World) (s : List UInt8) (hs : s.length < 4294967281) : Calls Tryd.prog 111 #[.string ⟨s.toArray⟩, .string ⟨#[47]⟩] w
    fun e w' => ∃ v, e = .returned (sc1 v) ∧ readsS w' v (lev s) ∧ freshS w.heap.size v (lev s) ∧ Mod [] w w' := by
  refine as_called (run_plain2 (ρ := [.s s, .s [47]]) sxE_ok Tryd.func111 tree_strings_Split rfl rfl rfl ?_) rfl
  simp only [Tree.goal, X.P, X.ev, V.toI_i, V.toB_b, V.toS_s, V.toR_r, V.toV_v, V.toN_n, V.toL_l, SV.ev, CV.ev, Sc.ev, List.getD_cons_zero, List.getD_cons_succ, List.getElem?_cons_zero, List.getElem?_cons_succ, List.map_cons, List.map_nil, List.length_cons, List.length_nil, List.cons_append, List.nil_append, Nat.zero_add, Nat.reduceAdd]
  intro w1 hr
  refine (c_genSplit w1 s hs).mono ?_
  rintro e w2 ⟨v1, rfl, r1, f1, m1⟩
  have hsz := hr.mod.size
  refine ⟨[.v v1, .r ((lev s).map encS)], rfl, rfl, m1, List.forall_mem_nil _, List.forall_mem_cons.2 ⟨⟨r1, fun k hk => .inl (f1 k hk)⟩, List.forall_mem_nil _⟩, apart_one, ?_⟩
  simp only [Tree.goal, X.P, X.ev, V.toI_i, V.toB_b, V.toS_s, V.toR_r, V.toV_v, V.toN_n, V.toL_l, SV.ev, CV.ev, Sc.ev, List.getD_cons_zero, List.getD_cons_succ, List.getElem?_cons_zero, List.getElem?_cons_succ, List.map_cons, List.map_nil, List.length_cons, List.length_nil, List.cons_append, List.nil_append, Nat.zero_add, Nat.reduceAdd]
  exact fun w' hr => ⟨v1, rfl, hr.at_ 0 rfl, fun k hk => Nat.le_trans hsz (f1 k hk), hr.mod⟩
theorem c_Levels (w : World) (s : List UInt8) (hs : s.length < 4294967281) : Calls Tryd.prog 59 #[.string ⟨s.toArray⟩] w
    fun e w' => ∃ v, e = .returned (sc1 v) ∧ readsS w' v (lev s) ∧ freshS w.heap.size v (lev s) ∧ Mod [] w w' := by
  refine as_called (run_plain2 (ρ := [.s s]) sxE_ok Tryd.func59 tree_topic_Levels rfl rfl rfl ?_) rfl
  simp only [Tree.goal, X.P, X.ev, V.toI_i, V.toB_b, V.toS_s, V.toR_r, V.toV_v, V.toN_n, V.toL_l, SV.ev, CV.ev, Sc.ev, List.getD_cons_zero, List.getD_cons_succ, List.getElem?_cons_zero, List.getElem?_cons_succ, List.map_cons, List.map_nil, List.length_cons, List.length_nil, List.cons_append, List.nil_append, Nat.zero_add, Nat.reduceAdd]
  intro w1 hr
  refine (c_Split w1 s hs).mono ?_
  rintro e w2 ⟨v1, rfl, r1, f1, m1⟩
  have hsz := hr.mod.size
  refine ⟨[.v v1, .r ((lev s).map encS)], rfl, rfl, m1, List.forall_mem_nil _, List.forall_mem_cons.2 ⟨⟨r1, fun k hk => .inl (f1 k hk)⟩, List.forall_mem_nil _⟩, apart_one, ?_⟩
  simp only [Tree.goal, X.P, X.ev, V.toI_i, V.toB_b, V.toS_s, V.toR_r, V.toV_v, V.toN_n, V.toL_l, SV.ev, CV.ev, Sc.ev, List.getD_cons_zero, List.getD_cons_succ, List.getElem?_cons_zero, List.getElem?_cons_succ, List.map_cons, List.map_nil, List.length_cons, List.length_nil, List.cons_append, List.nil_append, Nat.zero_add, Nat.reduceAdd]
  exact fun w' hr => ⟨v1, rfl, hr.at_ 0 rfl, fun k hk => Nat.le_trans hsz (f1 k hk), hr.mod⟩

/-- Only signs that may be seen. -/
def plainS (s : List UInt8) : Bool := s.all fun b => decide (33 ≤ b.toNat ∧ b.toNat ≤ 126)
theorem plain_snoc (s : List UInt8) (i : Nat) (h : i < s.length) : plainS (s.take (i + 1)) = (plainS (s.take i) && decide (33 ≤ (s.getD i 0).toNat ∧ (s.getD i 0).toNat ≤ 126)) := by
  rw [List.take_add_one, List.getD_eq_getElem?_getD, List.getElem?_eq_getElem h]
  simp only [plainS, List.all_append, Option.toList_some, List.all_cons, List.all_nil, Bool.and_true, Option.getD_some]
theorem plain_not {s : List UInt8} {i : Nat} (h : i < s.length) (h1 : ¬ (33 ≤ (s.getD i 0).toNat ∧ (s.getD i 0).toNat ≤ 126)) : plainS s = false := by
  rw [← Bool.not_eq_true]
  intro h2
  rw [plainS, List.all_eq_true] at h2
  have := h2 (s.getD i 0) (by rw [List.getD_eq_getElem?_getD, List.getElem?_eq_getElem h]; exact List.getElem_mem h)
  exact h1 (of_decide_eq_true this)
theorem c_IsPlain (w : World) (s : List UInt8) (hs : s.length < 1099511627776) : Calls Tryd.prog 63 #[.string ⟨s.toArray⟩] w fun e w' => e = .returned (.bool (plainS s)) ∧ Mod [] w w' := by
  refine as_called (run_plain2 (ρ := [.s s]) sxE_ok Tryd.func63 tree_dragomanref_IsPlain rfl rfl rfl ?_) rfl
  simp only [Tree.goal, X.P, X.ev, V.toI_i, V.toB_b, V.toS_s, V.toR_r, V.toV_v, V.toN_n, V.toL_l, SV.ev, CV.ev, Sc.ev, List.getD_cons_zero, List.getD_cons_succ, List.getElem?_cons_zero, List.getElem?_cons_succ, List.map_cons, List.map_nil, List.length_cons, List.length_nil, List.cons_append, List.nil_append, Nat.zero_add, Nat.reduceAdd]
  refine ⟨fun vs => ∃ (x : V) (i : Nat), vs = [x, .i i] ∧ i ≤ s.length ∧ plainS (s.take i) = true, fun vs => s.length - (vs.getD 1 (.i 0)).toI.toNat, ⟨_, 0, rfl, by omega, rfl⟩, ?_⟩
  rintro _ - ⟨x, i, rfl, hi, hp⟩
  simp only [Tree.goal, X.P, X.ev, V.toI_i, V.toB_b, V.toS_s, V.toR_r, V.toV_v, V.toN_n, V.toL_l, SV.ev, CV.ev, Sc.ev, List.getD_cons_zero, List.getD_cons_succ, List.getElem?_cons_zero, List.getElem?_cons_succ, List.map_cons, List.map_nil, List.length_cons, List.length_nil, List.cons_append, List.nil_append, Nat.zero_add, Nat.reduceAdd, Int.toNat_natCast]
  refine ⟨fun h1 => ⟨by omega, fun h2 w' hr => ⟨by rw [plain_not (i := i) (by omega) (by omega)], hr.mod⟩, fun h2 => ⟨by omega, by omega, ⟨x, i + 1, rfl, by omega, ?_⟩, by omega⟩⟩, fun h1 w' hr => ⟨?_, hr.mod⟩⟩
  · rw [plain_snoc _ _ (by omega), hp, Bool.true_and, decide_eq_true_eq]; omega
  · have : i = s.length := by omega
    subst this
    rw [List.take_length] at hp; rw [hp]
theorem c_Plain (w : World) (s : List UInt8) (hs : s.length < 1099511627776) : Calls Tryd.prog 141 #[.string ⟨s.toArray⟩] w fun e w' => e = .returned (.bool (plainS s)) ∧ Mod [] w w' := by
  refine as_called (run_plain2 (ρ := [.s s]) sxE_ok Tryd.func141 tree_topic_Plain rfl rfl rfl ?_) rfl
  simp only [Tree.goal, X.P, X.ev, V.toI_i, V.toB_b, V.toS_s, V.toR_r, V.toV_v, V.toN_n, V.toL_l, SV.ev, CV.ev, Sc.ev, List.getD_cons_zero, List.getD_cons_succ, List.getElem?_cons_zero, List.getElem?_cons_succ, List.map_cons, List.map_nil, List.length_cons, List.length_nil, List.cons_append, List.nil_append, Nat.zero_add, Nat.reduceAdd]
  refine ⟨fun vs => ∃ (x : V) (i : Nat), vs = [x, .i i] ∧ i ≤ s.length ∧ plainS (s.take i) = true, fun vs => s.length - (vs.getD 1 (.i 0)).toI.toNat, ⟨_, 0, rfl, by omega, rfl⟩, ?_⟩
  rintro _ - ⟨x, i, rfl, hi, hp⟩
  simp only [Tree.goal, X.P, X.ev, V.toI_i, V.toB_b, V.toS_s, V.toR_r, V.toV_v, V.toN_n, V.toL_l, SV.ev, CV.ev, Sc.ev, List.getD_cons_zero, List.getD_cons_succ, List.getElem?_cons_zero, List.getElem?_cons_succ, List.map_cons, List.map_nil, List.length_cons, List.length_nil, List.cons_append, List.nil_append, Nat.zero_add, Nat.reduceAdd, Int.toNat_natCast]
  refine ⟨fun h1 => ⟨by omega, fun h2 w' hr => ⟨by rw [plain_not (i := i) (by omega) (by omega)], hr.mod⟩, fun h2 => ⟨by omega, by omega, ⟨x, i + 1, rfl, by omega, ?_⟩, by omega⟩⟩, fun h1 w' hr => ⟨?_, hr.mod⟩⟩
  · rw [plain_snoc _ _ (by omega), hp, Bool.true_and, decide_eq_true_eq]; omega
  · have : i = s.length := by omega
    subst this
    rw [List.take_length] at hp; rw [hp]

/-- Has a level a sign for others? -/
def wild (x : List UInt8) : Bool := x.any fun b => b == 43 || b == 35
theorem has_wild : ∀ x : List UInt8, Lib.containsAny x [43, 35] = wild x := by
  intro x
  induction x with
  | nil => rfl
  | cons b l ih =>
    have hg := Lib.indexAny_ge [43, 35] l
    unfold Lib.containsAny at ih ⊢
    unfold Lib.indexAny
    simp only [wild, List.any_cons]
    by_cases h : b = 43 ∨ b = 35
    · have h1 : ([43, 35] : List UInt8).contains b = true := by rcases h with h | h <;> subst h <;> decide
      have h2 : (b == 43 || b == 35) = true := by rcases h with h | h <;> subst h <;> decide
      rw [if_pos h1, h2] <;> rfl
    · have h1 : ¬ ([43, 35] : List UInt8).contains b = true := by simp; exact ⟨fun h2 => h (.inl h2), fun h2 => h (.inr h2)⟩
      have h2 : (b == 43 || b == 35) = false := by simp; exact ⟨fun h2 => h (.inl h2), fun h2 => h (.inr h2)⟩
      rw [if_neg h1, h2, Bool.false_or]
      change _ = wild l
      rw [← ih]
      by_cases h3 : Lib.indexAny l [43, 35] = -1
      · rw [if_pos (by simpa using h3), h3] <;> rfl
      · rw [if_neg (by simpa using h3)]
        exact decide_eq_decide.2 (by omega)
theorem c_ContainsAny (w : World) (x : List UInt8) (hs : x.length < 4294967281) (ha : ∀ b ∈ x, b.toNat < 128) : Calls Tryd.prog 142 #[.string ⟨x.toArray⟩, .string ⟨#[43, 35]⟩] w fun e w' => e = .returned (.bool (wild x)) ∧ Mod [] w w' := by
  refine (as_called (Any.strings_ContainsAny_laid Tryd.lays150 (by kernel_rfl) ⟨x.toArray⟩ ⟨#[43, 35]⟩ w hs (by decide) (fun j b hb => ha b (List.mem_of_getElem? hb)) (fun j b hb => ?_)) rfl).mono ?_
  · have : b ∈ ([43, 35] : List UInt8) := List.mem_of_getElem? hb
    simp at this
    rcases this with rfl | rfl <;> decide
  · rintro e w' ⟨h1, h2⟩
    refine ⟨?_, Mod.of_below h2⟩
    rw [h1]
    exact congrArg (fun b => Ending.returned (Value.bool b)) (has_wild x)

/-- Levels that may not stand there. -/
def badL (filter : Bool) : List (List UInt8) → Bool
  | [] => false
  | x :: r => (wild x && (!filter || (!decide (x = [43]) && (!decide (x = [35]) || !decide (r = []))))) || badL filter r
/-- What is wrong with a topic, or a filter. -/
def chkT (s : List UInt8) (filter : Bool) : Int :=
  if s = [] then 1 else if 60 < (s.length : Int) ∨ 6 < ((lev s).length : Int) then 2 else if plainS s = true then (if badL filter (lev s) = true then 1 else 0) else 1
theorem chkT_nil {f : Bool} : chkT [] f = 1 := rfl
theorem chkT_many {s : List UInt8} {f : Bool} (h : ¬ s = []) (h1 : 60 < (s.length : Int) ∨ 6 < ((lev s).length : Int)) : chkT s f = 2 := by rw [chkT, if_neg h, if_pos h1]
theorem chkT_plain {s : List UInt8} {f : Bool} (h : ¬ s = []) (h1 : ¬ (60 < (s.length : Int) ∨ 6 < ((lev s).length : Int))) (h2 : ¬ plainS s = true) : chkT s f = 1 := by rw [chkT, if_neg h, if_neg h1, if_neg h2]
theorem chkT_lev {s : List UInt8} {f : Bool} (h : ¬ s = []) (h1 : ¬ (60 < (s.length : Int) ∨ 6 < ((lev s).length : Int))) (h2 : plainS s = true) : chkT s f = if badL f (lev s) = true then 1 else 0 := by rw [chkT, if_neg h, if_neg h1, if_pos h2]

theorem lev_mem : ∀ {s x : List UInt8}, x ∈ lev s → ∀ b ∈ x, b ∈ s := by
  intro s
  induction s with
  | nil => intro x hx b hb; simp [lev] at hx; subst hx; simp at hb
  | cons c l ih =>
    intro x hx b hb
    by_cases hc : c = 47
    · subst hc
      rw [lev_slash] at hx
      rcases List.mem_cons.1 hx with rfl | hx
      · simp at hb
      · exact List.mem_cons_of_mem _ (ih hx b hb)
    · obtain ⟨y, ys, e⟩ := lev_ne l
      rw [lev_other _ hc, e] at hx
      rcases List.mem_cons.1 hx with rfl | hx
      · rcases List.mem_append.1 hb with hb | hb
        · simp at hb; subst hb; simp
        · exact List.mem_cons_of_mem _ (ih (by rw [e]; exact List.mem_cons_self ..) b hb)
      · exact List.mem_cons_of_mem _ (ih (by rw [e]; exact List.mem_cons_of_mem _ hx) b hb)
theorem getD_mem {ps : List (List UInt8)} {i : Nat} (h : i < ps.length) : ps.getD i [] ∈ ps := by
  rw [List.getD_eq_getElem?_getD, List.getElem?_eq_getElem h]; exact List.getElem_mem h
theorem lev_ascii {s : List UInt8} (hp : plainS s = true) {i : Nat} (h : i < (lev s).length) : ∀ b ∈ (lev s).getD i [], b.toNat < 128 := fun b hb => by
  have h1 := lev_mem (getD_mem h) b hb
  have := of_decide_eq_true (List.all_eq_true.1 hp b h1)
  omega
theorem lev_size {s x : List UInt8} (hx : x ∈ lev s) : x.length ≤ s.length := by
  induction s generalizing x with
  | nil => simp [lev] at hx; subst hx; simp
  | cons c l ih =>
    by_cases hc : c = 47
    · subst hc
      rw [lev_slash] at hx
      rcases List.mem_cons.1 hx with rfl | hx
      · simp
      · have := ih hx; simp; omega
    · obtain ⟨y, ys, e⟩ := lev_ne l
      rw [lev_other _ hc, e] at hx
      rcases List.mem_cons.1 hx with rfl | hx
      · have := ih (x := y) (by rw [e]; exact List.mem_cons_self ..); simp; omega
      · have := ih (x := x) (by rw [e]; exact List.mem_cons_of_mem _ hx); simp; omega
theorem lev_count (s : List UInt8) : (lev s).length ≤ s.length + 1 := by
  induction s with
  | nil => simp [lev]
  | cons c l ih =>
    by_cases hc : c = 47
    · subst hc; rw [lev_slash]; simp; omega
    · obtain ⟨y, ys, e⟩ := lev_ne l
      rw [lev_other _ hc, e]; rw [e] at ih; simp [glue] at *; omega

set_option maxHeartbeats 1000000 in
theorem c_Name (w : World) (s : List UInt8) (hs : s.length < 4294967281) : Calls Tryd.prog 57 #[.string ⟨s.toArray⟩] w fun e w' => e = .returned (.int .i64 (chkT s false)) ∧ Mod [] w w' := by
  refine as_called (run_plain2 (ρ := [.s s]) sxE_ok Tryd.func57 tree_topic_Name rfl rfl rfl ?_) rfl
  simp only [Tree.goal, X.P, X.ev, V.toI_i, V.toB_b, V.toS_s, V.toR_r, V.toV_v, V.toN_n, V.toL_l, SV.ev, CV.ev, Sc.ev, List.getD_cons_zero, List.getD_cons_succ, List.getElem?_cons_zero, List.getElem?_cons_succ, List.map_cons, List.map_nil, List.length_cons, List.length_nil, List.cons_append, List.nil_append, Nat.zero_add, Nat.reduceAdd]
  intro w1 hr; refine (c_Levels w1 s (by omega)).mono ?_; rintro e w2 ⟨v1, rfl, r1, f1, m1⟩; refine ⟨[.v v1, .r ((lev s).map encS)], rfl, rfl, m1, List.forall_mem_nil _, List.forall_mem_cons.2 ⟨⟨r1, fun k hk => .inl (f1 k hk)⟩, List.forall_mem_nil _⟩, apart_one, ?_⟩; simp only [Tree.goal, X.P, X.ev, V.toI_i, V.toB_b, V.toS_s, V.toR_r, V.toV_v, V.toN_n, V.toL_l, SV.ev, CV.ev, Sc.ev, List.getD_cons_zero, List.getD_cons_succ, List.getElem?_cons_zero, List.getElem?_cons_succ, List.map_cons, List.map_nil, List.length_cons, List.length_nil, List.cons_append, List.nil_append, Nat.zero_add, Nat.reduceAdd, List.length_map]; have hlc := lev_count s; refine ⟨fun h w' hr => ⟨by rw [h, chkT_nil], hr.mod⟩, fun h => ⟨fun h1 w' hr => ⟨by rw [chkT_many h h1], hr.mod⟩, fun h1 => ?_⟩⟩
  refine ⟨[.b (plainS s)], rfl, fun _ w' _ => c_Plain w' s (by omega), ?_⟩; simp only [Tree.goal, X.P, X.ev, V.toI_i, V.toB_b, V.toS_s, V.toR_r, V.toV_v, V.toN_n, V.toL_l, SV.ev, CV.ev, Sc.ev, List.getD_cons_zero, List.getD_cons_succ, List.getElem?_cons_zero, List.getElem?_cons_succ, List.map_cons, List.map_nil, List.length_cons, List.length_nil, List.cons_append, List.nil_append, Nat.zero_add, Nat.reduceAdd]; refine ⟨fun h2 w' hr => ⟨by rw [chkT_plain h h1 h2], hr.mod⟩, fun h2 => ?_⟩; (have h2 := Classical.not_not.1 h2); rw [chkT_lev h h1 h2]
  refine ⟨fun vs => ∃ (x : V) (i : Nat), vs = [x, .i i] ∧ i ≤ (lev s).length ∧ badL false ((lev s).drop i) = badL false (lev s), fun vs => (lev s).length - (vs.getD 1 (.i 0)).toI.toNat, ⟨_, 0, rfl, by omega, rfl⟩, ?_⟩
  rintro _ - ⟨x, i, rfl, hi, hg⟩
  simp only [Tree.goal, X.P, X.ev, V.toI_i, V.toB_b, V.toS_s, V.toR_r, V.toV_v, V.toN_n, V.toL_l, SV.ev, CV.ev, Sc.ev, List.getD_cons_zero, List.getD_cons_succ, List.getElem?_cons_zero, List.getElem?_cons_succ, List.map_cons, List.map_nil, List.length_cons, List.length_nil, List.cons_append, List.nil_append, Nat.zero_add, Nat.reduceAdd, Int.toNat_natCast, List.length_map, gS_encS]
  refine ⟨fun h3 => ?_, fun h3 w' hr => ⟨?_, hr.mod⟩⟩
  · rw [dropS _ i (by omega)] at hg
    have hsz := lev_size (getD_mem (ps := lev s) (i := i) (by omega))
    have has := lev_ascii h2 (i := i) (by omega)
    generalize (lev s).getD i [] = y at hg hsz has ⊢
    (repeat refine ⟨by omega, ?_⟩)
    refine ⟨[.b (wild y)], rfl, fun _ w' _ => c_ContainsAny w' y (by omega) has, ?_⟩
    simp only [Tree.goal, X.P, X.ev, V.toI_i, V.toB_b, V.toS_s, V.toR_r, V.toV_v, V.toN_n, V.toL_l, SV.ev, CV.ev, Sc.ev, List.getD_cons_zero, List.getD_cons_succ, List.getElem?_cons_zero, List.getElem?_cons_succ, List.map_cons, List.map_nil, List.length_cons, List.length_nil, List.cons_append, List.nil_append, Nat.zero_add, Nat.reduceAdd]
    simp only [badL, Bool.not_false, Bool.true_or, Bool.and_true] at hg
    refine ⟨fun h4 w' hr => ⟨by rw [← hg, h4]; rfl, hr.mod⟩, fun h4 => ⟨by omega, by omega, ⟨x, i + 1, rfl, by omega, ?_⟩, by omega⟩⟩
    rw [← hg, (Bool.not_eq_true _).mp h4]; simp
  · have : i = (lev s).length := by omega
    subst this
    rw [List.drop_length] at hg; rw [← hg]; rfl
set_option maxHeartbeats 1000000 in
theorem c_Filter (w : World) (s : List UInt8) (hs : s.length < 4294967281) : Calls Tryd.prog 69 #[.string ⟨s.toArray⟩] w fun e w' => e = .returned (.int .i64 (chkT s true)) ∧ Mod [] w w' := by
  refine as_called (run_plain2 (ρ := [.s s]) sxE_ok Tryd.func69 tree_topic_Filter rfl rfl rfl ?_) rfl
  simp only [Tree.goal, X.P, X.ev, V.toI_i, V.toB_b, V.toS_s, V.toR_r, V.toV_v, V.toN_n, V.toL_l, SV.ev, CV.ev, Sc.ev, List.getD_cons_zero, List.getD_cons_succ, List.getElem?_cons_zero, List.getElem?_cons_succ, List.map_cons, List.map_nil, List.length_cons, List.length_nil, List.cons_append, List.nil_append, Nat.zero_add, Nat.reduceAdd]
  intro w1 hr; refine (c_Levels w1 s (by omega)).mono ?_; rintro e w2 ⟨v1, rfl, r1, f1, m1⟩; refine ⟨[.v v1, .r ((lev s).map encS)], rfl, rfl, m1, List.forall_mem_nil _, List.forall_mem_cons.2 ⟨⟨r1, fun k hk => .inl (f1 k hk)⟩, List.forall_mem_nil _⟩, apart_one, ?_⟩; simp only [Tree.goal, X.P, X.ev, V.toI_i, V.toB_b, V.toS_s, V.toR_r, V.toV_v, V.toN_n, V.toL_l, SV.ev, CV.ev, Sc.ev, List.getD_cons_zero, List.getD_cons_succ, List.getElem?_cons_zero, List.getElem?_cons_succ, List.map_cons, List.map_nil, List.length_cons, List.length_nil, List.cons_append, List.nil_append, Nat.zero_add, Nat.reduceAdd, List.length_map]; have hlc := lev_count s; refine ⟨fun h w' hr => ⟨by rw [h, chkT_nil], hr.mod⟩, fun h => ⟨fun h1 w' hr => ⟨by rw [chkT_many h h1], hr.mod⟩, fun h1 => ?_⟩⟩
  refine ⟨[.b (plainS s)], rfl, fun _ w' _ => c_Plain w' s (by omega), ?_⟩; simp only [Tree.goal, X.P, X.ev, V.toI_i, V.toB_b, V.toS_s, V.toR_r, V.toV_v, V.toN_n, V.toL_l, SV.ev, CV.ev, Sc.ev, List.getD_cons_zero, List.getD_cons_succ, List.getElem?_cons_zero, List.getElem?_cons_succ, List.map_cons, List.map_nil, List.length_cons, List.length_nil, List.cons_append, List.nil_append, Nat.zero_add, Nat.reduceAdd]; refine ⟨fun h2 w' hr => ⟨by rw [chkT_plain h h1 h2], hr.mod⟩, fun h2 => ?_⟩; (have h2 := Classical.not_not.1 h2); rw [chkT_lev h h1 h2]
  refine ⟨fun vs => ∃ (x : V) (i : Nat), vs = [x, .i i] ∧ i ≤ (lev s).length ∧ badL true ((lev s).drop i) = badL true (lev s), fun vs => (lev s).length - (vs.getD 1 (.i 0)).toI.toNat, ⟨_, 0, rfl, by omega, rfl⟩, ?_⟩
  rintro _ - ⟨x, i, rfl, hi, hg⟩
  simp only [Tree.goal, X.P, X.ev, V.toI_i, V.toB_b, V.toS_s, V.toR_r, V.toV_v, V.toN_n, V.toL_l, SV.ev, CV.ev, Sc.ev, List.getD_cons_zero, List.getD_cons_succ, List.getElem?_cons_zero, List.getElem?_cons_succ, List.map_cons, List.map_nil, List.length_cons, List.length_nil, List.cons_append, List.nil_append, Nat.zero_add, Nat.reduceAdd, Int.toNat_natCast, List.length_map, gS_encS]
  refine ⟨fun h3 => ?_, fun h3 w' hr => ⟨?_, hr.mod⟩⟩
  · rw [dropS _ i (by omega)] at hg
    have hsz := lev_size (getD_mem (ps := lev s) (i := i) (by omega))
    have has := lev_ascii h2 (i := i) (by omega)
    have hlast : (lev s).drop (i + 1) = [] ↔ (i : Int) = ((lev s).length : Int) - 1 := by rw [List.drop_eq_nil_iff]; omega
    generalize (lev s).getD i [] = y at hg hsz has ⊢
    (repeat refine ⟨by omega, ?_⟩)
    refine ⟨[.b (wild y)], rfl, fun _ w' _ => c_ContainsAny w' y (by omega) has, ?_⟩
    simp only [Tree.goal, X.P, X.ev, V.toI_i, V.toB_b, V.toS_s, V.toR_r, V.toV_v, V.toN_n, V.toL_l, SV.ev, CV.ev, Sc.ev, List.getD_cons_zero, List.getD_cons_succ, List.getElem?_cons_zero, List.getElem?_cons_succ, List.map_cons, List.map_nil, List.length_cons, List.length_nil, List.cons_append, List.nil_append, Nat.zero_add, Nat.reduceAdd]
    have key : (¬((¬wild y = true ∨ y = [43]) ∨ y = [35] ∧ (i : Int) = ((lev s).length : Int) - 1)) ↔ (wild y && (!true || (!decide (y = [43]) && (!decide (y = [35]) || !decide ((lev s).drop (i + 1) = []))))) = true := by
      rw [← hlast]
      cases wild y <;> by_cases q1 : y = [43] <;> by_cases q2 : y = [35] <;> by_cases q3 : (lev s).drop (i + 1) = [] <;> simp [q1, q2, q3]
    simp only [badL] at hg
    refine ⟨fun h4 w' hr => ⟨by rw [← hg, key.1 h4]; rfl, hr.mod⟩, fun h4 => ⟨by omega, by omega, ⟨x, i + 1, rfl, by omega, ?_⟩, by omega⟩⟩
    have h5 := (Bool.not_eq_true _).mp (fun h => h4 (key.2 h))
    rw [← hg, h5]; simp
  · have : i = (lev s).length := by omega
    subst this
    rw [List.drop_length] at hg; rw [← hg]; rfl
theorem wild_snoc (x : List UInt8) (k : Nat) (h : k < x.length) : wild (x.take (k + 1)) = (wild (x.take k) || (decide ((x.getD k 0).toNat = 43) || decide ((x.getD k 0).toNat = 35))) := by
  rw [List.take_add_one, List.getD_eq_getElem?_getD, List.getElem?_eq_getElem h]
  simp only [wild, List.any_append, Option.toList_some, List.any_cons, List.any_nil, Bool.or_false, Option.getD_some]
  have e1 : (x[k] == 43) = decide (x[k].toNat = 43) := by rw [Bool.eq_iff_iff]; simp only [beq_iff_eq, decide_eq_true_eq]; exact ⟨fun h => by rw [h]; rfl, fun h => UInt8.toNat_inj.1 h⟩
  have e2 : (x[k] == 35) = decide (x[k].toNat = 35) := by rw [Bool.eq_iff_iff]; simp only [beq_iff_eq, decide_eq_true_eq]; exact ⟨fun h => by rw [h]; rfl, fun h => UInt8.toNat_inj.1 h⟩
  rw [e1, e2]
set_option maxHeartbeats 1000000 in
theorem c_CheckTopic (w : World) (s : List UInt8) (f : Bool) (hs : s.length < 4294967281) : Calls Tryd.prog 28 #[.string ⟨s.toArray⟩, .bool f] w fun e w' => e = .returned (.int .i64 (chkT s f)) ∧ Mod [] w w' := by
  refine as_called (run_plain2 (ρ := [.s s, .b f]) sxE_ok Tryd.func28 tree_dragomanref_CheckTopic rfl rfl rfl ?_) rfl
  simp only [Tree.goal, X.P, X.ev, V.toI_i, V.toB_b, V.toS_s, V.toR_r, V.toV_v, V.toN_n, V.toL_l, SV.ev, CV.ev, Sc.ev, List.getD_cons_zero, List.getD_cons_succ, List.getElem?_cons_zero, List.getElem?_cons_succ, List.map_cons, List.map_nil, List.length_cons, List.length_nil, List.cons_append, List.nil_append, Nat.zero_add, Nat.reduceAdd]
  intro w1 hr
  refine (c_LevelsOf w1 s (by omega)).mono ?_
  rintro e w2 ⟨v1, rfl, r1, f1, m1⟩
  refine ⟨[.v v1, .r ((lev s).map encS)], rfl, rfl, m1, List.forall_mem_nil _, List.forall_mem_cons.2 ⟨⟨r1, fun k hk => .inl (f1 k hk)⟩, List.forall_mem_nil _⟩, apart_one, ?_⟩
  simp only [Tree.goal, X.P, X.ev, V.toI_i, V.toB_b, V.toS_s, V.toR_r, V.toV_v, V.toN_n, V.toL_l, SV.ev, CV.ev, Sc.ev, List.getD_cons_zero, List.getD_cons_succ, List.getElem?_cons_zero, List.getElem?_cons_succ, List.map_cons, List.map_nil, List.length_cons, List.length_nil, List.cons_append, List.nil_append, Nat.zero_add, Nat.reduceAdd, List.length_map]
  have hlc := lev_count s
  refine ⟨fun h w' hr => ⟨by rw [h, chkT_nil], hr.mod⟩, fun h => ⟨fun h1 w' hr => ⟨by rw [chkT_many h h1], hr.mod⟩, fun h1 => ?_⟩⟩
  refine ⟨[.b (plainS s)], rfl, fun _ w' _ => c_IsPlain w' s (by omega), ?_⟩
  simp only [Tree.goal, X.P, X.ev, V.toI_i, V.toB_b, V.toS_s, V.toR_r, V.toV_v, V.toN_n, V.toL_l, SV.ev, CV.ev, Sc.ev, List.getD_cons_zero, List.getD_cons_succ, List.getElem?_cons_zero, List.getElem?_cons_succ, List.map_cons, List.map_nil, List.length_cons, List.length_nil, List.cons_append, List.nil_append, Nat.zero_add, Nat.reduceAdd]
  refine ⟨fun h2 w' hr => ⟨by rw [chkT_plain h h1 h2], hr.mod⟩, fun h2 => ?_⟩
  have h2 := Classical.not_not.1 h2
  rw [chkT_lev h h1 h2]
  refine ⟨fun vs => ∃ (x : V) (i : Nat), vs = [x, .i i] ∧ i ≤ (lev s).length ∧ badL f ((lev s).drop i) = badL f (lev s), fun vs => (lev s).length - (vs.getD 1 (.i 0)).toI.toNat, ⟨_, 0, rfl, by omega, rfl⟩, ?_⟩
  rintro _ - ⟨x, i, rfl, hi, hg⟩
  simp only [Tree.goal, X.P, X.ev, V.toI_i, V.toB_b, V.toS_s, V.toR_r, V.toV_v, V.toN_n, V.toL_l, SV.ev, CV.ev, Sc.ev, List.getD_cons_zero, List.getD_cons_succ, List.getElem?_cons_zero, List.getElem?_cons_succ, List.map_cons, List.map_nil, List.length_cons, List.length_nil, List.cons_append, List.nil_append, Nat.zero_add, Nat.reduceAdd, Int.toNat_natCast, List.length_map, gS_encS]
  refine ⟨fun h3 => ?_, fun h3 w' hr => ⟨?_, hr.mod⟩⟩
  · rw [dropS _ i (by omega)] at hg
    have hsz := lev_size (getD_mem (ps := lev s) (i := i) (by omega))
    have hlast : (lev s).drop (i + 1) = [] ↔ ¬ ((i : Int) < ((lev s).length : Int) - 1) := by rw [List.drop_eq_nil_iff]; omega
    generalize (lev s).getD i [] = y at hg hsz ⊢
    refine ⟨fun vs => ∃ (k : Nat), vs = [.b (wild (y.take k)), .i k] ∧ k ≤ y.length, fun vs => y.length - (vs.getD 1 (.i 0)).toI.toNat, ⟨0, rfl, by omega⟩, ?_⟩
    rintro _ - ⟨k, rfl, hk⟩
    simp only [Tree.goal, X.P, X.ev, V.toI_i, V.toB_b, V.toS_s, V.toR_r, V.toV_v, V.toN_n, V.toL_l, SV.ev, CV.ev, Sc.ev, List.getD_cons_zero, List.getD_cons_succ, List.getElem?_cons_zero, List.getElem?_cons_succ, List.map_cons, List.map_nil, List.length_cons, List.length_nil, List.cons_append, List.nil_append, Nat.zero_add, Nat.reduceAdd, Int.toNat_natCast, List.length_map, gS_encS]
    refine ⟨by omega, fun h4 => ?_, fun h4 => ?_⟩
    · refine ⟨.inr (by omega), .inr (by omega), by omega, by omega, ⟨k + 1, ?_, by omega⟩, by omega⟩
      rw [wild_snoc y k (by omega)]
      simp only [List.cons.injEq, V.b.injEq, and_true]
      refine ⟨?_, by simp⟩
      rw [Bool.or_assoc]
      congr 2
      · exact decide_eq_decide.2 (by omega)
      · exact decide_eq_decide.2 (by omega)
    · have : k = y.length := by omega
      subst this
      rw [List.take_length]
      have key : (wild y = true ∧ (¬ f = true ∨ ¬ y = [43] ∧ (¬ y = [35] ∨ (i : Int) < ((lev s).length : Int) - 1))) ↔ (wild y && (!f || (!decide (y = [43]) && (!decide (y = [35]) || !decide ((lev s).drop (i + 1) = []))))) = true := by
        by_cases q3 : (i : Int) < ((lev s).length : Int) - 1
        · have q4 : ¬ (lev s).drop (i + 1) = [] := fun h => hlast.1 h q3
          cases wild y <;> cases f <;> by_cases q1 : y = [43] <;> by_cases q2 : y = [35] <;> simp [q1, q2, q3, q4]
        · have q4 : (lev s).drop (i + 1) = [] := hlast.2 q3
          cases wild y <;> cases f <;> by_cases q1 : y = [43] <;> by_cases q2 : y = [35] <;> simp [q1, q2, q3, q4]
      simp only [badL] at hg
      refine ⟨.inr (by omega), .inr (by omega), fun h5 w' hr => ⟨by rw [← hg, key.1 h5]; rfl, hr.mod⟩, fun h5 => ⟨by omega, by omega, ⟨x, i + 1, rfl, by omega, ?_⟩, by omega⟩⟩
      have h6 := (Bool.not_eq_true _).mp (fun h => h5 (key.2 h))
      rw [← hg, h6]; simp
  · have : i = (lev s).length := by omega
    subst this
    rw [List.drop_length] at hg; rw [← hg]; rfl
end Go.Proofs.YtliedecinehijaaDoor

/-
  Topics: texts of levels; in plain terms. By an AI agent.
-/
set_option linter.unusedSimpArgs false
set_option linter.unusedVariables false
namespace Go.Proofs.YtliedecinehijaaDoor
open Go.Sx

/-- A text of its levels. -/
def unlev : List (List UInt8) → List UInt8
  | [] => []
  | [x] => x
  | x :: y :: xs => x ++ 47 :: unlev (y :: xs)
theorem unlev_glue (c : UInt8) (x : List UInt8) (xs : List (List UInt8)) : unlev ((c :: x) :: xs) = c :: unlev (x :: xs) := by cases xs <;> simp [unlev]
theorem unlev_lev : ∀ s : List UInt8, unlev (lev s) = s := by
  intro s
  induction s with
  | nil => rfl
  | cons c l ih =>
    obtain ⟨y, ys, e⟩ := lev_ne l
    by_cases hc : c = 47
    · subst hc
      rw [lev_slash, e]
      rw [e] at ih
      simp [unlev, ih]
    · rw [lev_other _ hc, e]
      rw [e] at ih
      simp only [glue, List.cons_append, List.nil_append]
      rw [unlev_glue, ih]
theorem lev_inj {a b : List UInt8} (h : lev a = lev b) : a = b := by rw [← unlev_lev a, h, unlev_lev]
theorem bad_name {l : List (List UInt8)} (h : badL false l = false) : (∀ x ∈ l, wild x = false) ∧ badL true l = false := by
  induction l with
  | nil => exact ⟨by simp, rfl⟩
  | cons x l ih =>
    simp only [badL, Bool.or_eq_false_iff, Bool.not_false, Bool.true_or, Bool.and_true] at h
    obtain ⟨i1, i2⟩ := ih h.2
    refine ⟨fun y hy => ?_, by simp [badL, h.1, i2]⟩
    rcases List.mem_cons.1 hy with rfl | hy
    · exact h.1
    · exact i1 y hy
theorem chkT_ok {s : List UInt8} {f : Bool} : chkT s f = 0 ↔ s ≠ [] ∧ (s.length ≤ 60 ∧ (lev s).length ≤ 6) ∧ plainS s = true ∧ badL f (lev s) = false := by
  unfold chkT
  by_cases h1 : s = []
  · rw [if_pos h1]; simp [h1]
  · rw [if_neg h1]
    by_cases h2 : 60 < (s.length : Int) ∨ 6 < ((lev s).length : Int)
    · rw [if_pos h2]
      refine ⟨fun h => absurd h (by decide), fun h => by omega⟩
    · rw [if_neg h2]
      by_cases h3 : plainS s = true
      · rw [if_pos h3]
        cases h4 : badL f (lev s)
        · exact ⟨fun _ => ⟨h1, by omega, h3, rfl⟩, fun _ => rfl⟩
        · exact ⟨fun h => absurd h (by decide), fun h => absurd h.2.2.2 (by simp)⟩
      · rw [if_neg h3]
        exact ⟨fun h => absurd h (by decide), fun h => absurd h.2.2.1 h3⟩
end Go.Proofs.YtliedecinehijaaDoor

/-
  The law WireBack: what is told is read; walked. By an AI agent.
-/
set_option linter.unusedSimpArgs false
set_option linter.unusedVariables false
namespace Go.Proofs.YtliedecinehijaaDoor
open Go.Sx

theorem numB_nat (k n : Nat) : numB k (n : Int) = (List.range k).map fun j => UInt8.ofNat (n / pw (k - 1 - j) % 256) := by
  refine List.map_congr_left fun j _ => ?_
  congr 1
theorem numB_succ (k n : Nat) : numB (k + 1) (n : Int) = numB k ((n / 256 : Nat) : Int) ++ [UInt8.ofNat (n % 256)] := by
  rw [numB_nat, numB_nat, List.range_succ, List.map_append]
  congr 1
  · refine List.map_congr_left fun j hj => ?_
    have hj : j < k := by simpa using hj
    have e : k + 1 - 1 - j = (k - 1 - j) + 1 := by omega
    rw [e]
    show UInt8.ofNat (n / (256 * pw (k - 1 - j)) % 256) = UInt8.ofNat (n / 256 / pw (k - 1 - j) % 256)
    rw [Nat.div_div_eq_div_mul]
  · have e : k + 1 - 1 - k = 0 := by omega
    rw [List.map_cons, List.map_nil, e]
    simp [pw]
theorem beN_numB : ∀ (k n : Nat), n < pw k → beN (numB k n) 0 = n
  | 0, n, h => by
    have h : n < 1 := h
    have : n = 0 := by omega
    subst this; rfl
  | k + 1, n, h => by
    have h : n < 256 * pw k := h
    have ih := beN_numB k (n / 256) (by omega)
    rw [numB_succ, beN_snoc, ih]
    have : (UInt8.ofNat (n % 256)).toNat = n % 256 := by simp
    omega
theorem sub_mid (a s b : List UInt8) : (((a ++ s ++ b).drop a.length).take s.length) = s := by
  rw [List.append_assoc, List.drop_left, List.take_left]
theorem getR_back (a b : List UInt8) (n : Int) (k : Int) (h : numErr n k = 0) : getR (a ++ numS n k ++ b) a.length k = (n, 0) := by
  have h1 := numErr_ok.1 h
  have hl : (numS n k).length = k.toNat := by rw [numS_ok h1, numB_len]
  rw [getR_ok h1.1 (by simp; omega) (by simp [hl]; omega)]
  obtain ⟨m, rfl⟩ : ∃ m : Nat, n = m := ⟨n.toNat, by omega⟩
  have e : List.take k.toNat (List.drop (a.length : Int).toNat (a ++ numS m k ++ b)) = numS m k := by
    have := sub_mid a (numS m k) b
    rw [hl] at this
    exact this
  rw [e, numS_ok h1, beN_numB _ _ (by omega)]

theorem lngB_ne (f n : Nat) : lngB f n ≠ [] := by cases f <;> simp [lngB]; split <;> simp
theorem glF_back (b : List UInt8) : ∀ (g f i n x : Nat), x < p7 (g + 1) → g < f → (i = 0 ∨ 0 < x) → glF f i n (lngB g x ++ b) = (((n + x * p7 i : Nat) : Int), ((i + (lngB g x).length : Nat) : Int), 0)
  | 0, f + 1, i, n, x, hx, hf, hi => by
    have hx : x < 128 := hx
    have e : (UInt8.ofNat x).toNat = x := by simp; omega
    show glF (f + 1) i n ([UInt8.ofNat x] ++ b) = _
    simp only [List.cons_append, List.nil_append, glF, e, lngB, List.length_cons, List.length_nil]
    rw [if_pos hx, if_neg (by omega), Nat.mod_eq_of_lt hx]
  | g + 1, f + 1, i, n, x, hx, hf, hi => by
    by_cases h : x < 128
    · have e : (UInt8.ofNat x).toNat = x := by simp; omega
      rw [lngB_small _ _ h]
      simp only [List.cons_append, List.nil_append, glF, e, List.length_cons, List.length_nil]
      rw [if_pos h, if_neg (by omega), Nat.mod_eq_of_lt h]
    · have hx : x < 128 * p7 (g + 1) := hx
      have e : (UInt8.ofNat (x % 128 + 128)).toNat = x % 128 + 128 := by simp; omega
      have e2 : lngB (g + 1) x = UInt8.ofNat (x % 128 + 128) :: lngB g (x / 128) := by rw [lngB, if_neg h]
      rw [e2]
      simp only [List.cons_append, glF, e, List.length_cons]
      rw [if_neg (by omega), glF_back b g f (i + 1) _ (x / 128) (by omega) (by omega) (by omega)]
      have e3 : (x % 128 + 128) % 128 = x % 128 := by omega
      have e4 : x % 128 * p7 i + x / 128 * (128 * p7 i) = x * p7 i := by
        rw [← Nat.mul_assoc, ← Nat.add_mul]; congr 1; omega
      rw [e3]
      refine Prod.ext ?_ (Prod.ext ?_ rfl)
      · show ((n + x % 128 * p7 i + x / 128 * p7 (i + 1) : Nat) : Int) = _
        rw [p7, Nat.add_assoc, e4]
      · show ((i + 1 + (lngB g (x / 128)).length : Nat) : Int) = _
        congr 1; omega
theorem getL_back (a b : List UInt8) (n : Int) (h : longE n = 0) : getL (a ++ longS n ++ b) a.length = (n, ((longS n).length : Int), 0) := by
  have h1 : 0 ≤ n ∧ n ≤ 268435455 := by
    unfold longE at h; split at h
    · assumption
    · simp at h
  have e : longS n = lngB 3 n.toNat := if_pos h1
  rw [getL, if_pos (by simp; omega), Int.toNat_natCast, List.append_assoc, List.drop_left, e, glF_back b 3 4 0 0 n.toNat (by show n.toNat < 268435456; omega) (by omega) (by omega)]
  refine Prod.ext ?_ (Prod.ext ?_ rfl)
  · show ((0 + n.toNat * p7 0 : Nat) : Int) = n
    simp only [p7]; omega
  · simp
theorem getT_back (a b t : List UInt8) (h : textE t = 0) : getT (a ++ textS t ++ b) a.length = (t, ((textS t).length : Int), 0) := by
  have h1 : t.length ≤ 65535 := by
    unfold textE at h; split at h
    · assumption
    · simp at h
  have e : textS t = numB 2 t.length ++ t := if_pos h1
  have hn : numErr t.length 2 = 0 := numErr_ok.2 ⟨by omega, by omega, by show (t.length : Int) ≤ 65536 - 1; omega⟩
  have e1 := numS_ok (numErr_ok.1 hn)
  have hg : getR (a ++ textS t ++ b) a.length 2 = ((t.length : Int), 0) := by
    have := getR_back a (t ++ b) t.length 2 hn
    rw [e1] at this
    rw [e, ← this]
    simp [List.append_assoc]
  rw [getT, hg, if_pos rfl, if_neg (by simp [e, numB_len]; omega)]
  have e5 : (↑a.length + 2 + ((t.length : Int))).toNat = a.length + 2 + t.length := by omega
  have e6 : ((a.length : Int) + 2).toNat = a.length + 2 := by omega
  refine Prod.ext ?_ (Prod.ext ?_ rfl)
  · show List.drop ((a.length : Int) + 2).toNat (List.take (↑a.length + 2 + ((t.length : Int))).toNat (a ++ textS t ++ b)) = t
    rw [e5, e6, e]
    have q1 : a ++ (numB 2 t.length ++ t) ++ b = (a ++ numB 2 t.length) ++ (t ++ b) := by simp [List.append_assoc]
    have q2 : (a ++ numB 2 t.length).length = a.length + 2 := by simp [numB_len]
    rw [q1, ← q2, List.take_append, List.drop_append]
    simp
  · show (t.length : Int) + 2 = ((textS t).length : Int)
    rw [e, List.length_append, numB_len]; omega

end Go.Proofs.YtliedecinehijaaDoor

/-
  Options: paths, numbers; in plain terms. By an AI agent.
-/
set_option linter.unusedSimpArgs false
set_option linter.unusedVariables false
namespace Go.Proofs.YtliedecinehijaaDoor
open Go.Sx

/-- Options whose values of a number are just these. -/
def noN (n : Int) (os : List Opt) : List Opt := os.filter fun o => decide (o.1 ≠ n)
def upTo (n : Int) (os : List Opt) : List Opt := os.takeWhile fun o => decide (o.1 ≤ n)
def past (n : Int) (os : List Opt) : List Opt := os.dropWhile fun o => decide (o.1 ≤ n)
def withL (os : List Opt) (n : Int) (vs : List (List UInt8)) : List Opt := upTo n (noN n os) ++ vs.map (fun v => (n, v)) ++ past n (noN n os)
theorem upTo_past (n : Int) (os : List Opt) : upTo n os ++ past n os = os := List.takeWhile_append_dropWhile
theorem noN_noN (n : Int) (os : List Opt) : noN n (noN n os) = noN n os := by simp [noN]
theorem noN_mem {n : Int} {os : List Opt} : ∀ o ∈ noN n os, o.1 ≠ n := by simp [noN]
theorem noN_id {n : Int} {os : List Opt} (h : ∀ o ∈ os, o.1 ≠ n) : noN n os = os := by
  rw [noN, List.filter_eq_self]; simpa using h
theorem noN_new (n : Int) (vs : List (List UInt8)) : noN n (vs.map fun v => (n, v)) = [] := by simp [noN]
theorem noN_with (os : List Opt) (n : Int) (vs : List (List UInt8)) : noN n (withL os n vs) = noN n os := by
  have h1 : ∀ o ∈ upTo n (noN n os), o.1 ≠ n := fun o ho => noN_mem o (by rw [← upTo_past n (noN n os)]; exact List.mem_append_left _ ho)
  have h2 : ∀ o ∈ past n (noN n os), o.1 ≠ n := fun o ho => noN_mem o (by rw [← upTo_past n (noN n os)]; exact List.mem_append_right _ ho)
  have e : noN n (withL os n vs) = noN n (upTo n (noN n os)) ++ noN n (vs.map fun v => (n, v)) ++ noN n (past n (noN n os)) := by
    simp only [noN, withL, List.filter_append]
  rw [e, noN_new, noN_id h1, noN_id h2, List.append_nil, upTo_past]
theorem with_with (os : List Opt) (n : Int) (a b : List (List UInt8)) : withL (withL os n a) n b = withL os n b := by
  rw [withL, noN_with, ← withL]
/-- The values of a number. -/
def valsOf (n : Int) (os : List Opt) : List (List UInt8) := (os.filter fun o => decide (o.1 = n)).map (·.2)
theorem vals_none {n : Int} {os : List Opt} (h : ∀ o ∈ os, o.1 ≠ n) : valsOf n os = [] := by
  rw [valsOf, List.map_eq_nil_iff, List.filter_eq_nil_iff]; simpa using h
theorem vals_new (n : Int) (vs : List (List UInt8)) : valsOf n (vs.map fun v => (n, v)) = vs := by
  simp [valsOf, List.filter_map, List.map_map, Function.comp_def]
theorem vals_app (n : Int) (a b : List Opt) : valsOf n (a ++ b) = valsOf n a ++ valsOf n b := by simp [valsOf]
theorem vals_with (os : List Opt) (n : Int) (vs : List (List UInt8)) : valsOf n (withL os n vs) = vs := by
  have h1 : ∀ o ∈ upTo n (noN n os), o.1 ≠ n := fun o ho => noN_mem o (by rw [← upTo_past n (noN n os)]; exact List.mem_append_left _ ho)
  have h2 : ∀ o ∈ past n (noN n os), o.1 ≠ n := fun o ho => noN_mem o (by rw [← upTo_past n (noN n os)]; exact List.mem_append_right _ ho)
  rw [withL, vals_app, vals_app, vals_none h1, vals_none h2, vals_new, List.append_nil, List.nil_append]
/-- A place where what comes behind is greater. -/
theorem split_at {n : Int} : ∀ {l : List Opt} {k : Nat}, k ≤ l.length → (∀ j, j < k → (l.getD j oD).1 ≤ n) → (k < l.length → n < (l.getD k oD).1) → l.take k = upTo n l ∧ l.drop k = past n l
  | [], k, hk, _, _ => by simp [upTo, past]
  | o :: l, 0, _, _, h2 => by
    have h := h2 (by simp)
    simp only [List.getD_cons_zero] at h
    have : ¬ o.1 ≤ n := by omega
    simp [upTo, past, List.takeWhile_cons, List.dropWhile_cons, this]
  | o :: l, k + 1, hk, h1, h2 => by
    have h := h1 0 (by omega)
    simp only [List.getD_cons_zero] at h
    obtain ⟨e1, e2⟩ := split_at (n := n) (l := l) (k := k) (by simpa using hk) (fun j hj => by have := h1 (j + 1) (by omega); simpa using this) (fun hj => by have := h2 (by simpa using hj); simpa using this)
    simp only [upTo, past] at e1 e2 ⊢
    simp [List.takeWhile_cons, List.dropWhile_cons, h, e1, e2]

/-- A number in bytes, the greatest one first. -/
def uintV (v : List UInt8) : Int × Int := if 3 < (v.length : Int) then (0, 1) else ((beN v 0 : Nat), 0)
def uintL (n : Int) (os : List Opt) : Int × Int := match valsOf n os with | [] => (0, 5) | v :: _ => uintV v
def shortB (n : Int) : List UInt8 := (numB 3 n).dropWhile fun c => c == 0
def uintR (m : Msg) (n : Int) : Int × Int := if chk m = 0 then uintL n m.opts else (0, chk m)
/-- A path. -/
def pathL (os : List Opt) : List UInt8 × Int :=
  if valsOf 11 os = [] then ([], 5)
  else if chkT (unlev (valsOf 11 os)) false = 0 then
    (if (valsOf 11 os).any (fun v => v.any fun c => c == 47) = true then ([], 1) else (unlev (valsOf 11 os), 0))
  else ([], chkT (unlev (valsOf 11 os)) false)
def pathR (m : Msg) : List UInt8 × Int := if chk m = 0 then pathL m.opts else ([], chk m)
def outR (m : Msg) : Msg × Int := if chk m = 0 then (m, 0) else (mNil, chk m)
def withM (m : Msg) (n : Int) (vs : List (List UInt8)) : Msg := { m with opts := withL m.opts n vs }
def withPathR (m : Msg) (t : List UInt8) : Msg × Int := if chk m = 0 then (if chkT t false = 0 then outR (withM m 11 (lev t)) else (mNil, chkT t false)) else (mNil, chk m)
def withUintR (m : Msg) (n x : Int) : Msg × Int := if chk m = 0 then (if 0 ≤ x ∧ x ≤ 16777215 then outR (withM m n [shortB x]) else (mNil, 3)) else (mNil, chk m)
/-- A block: its number, whether more come, its size. -/
abbrev Bk := Int × Bool × Int
def blkE (b : Bk) : Int := if (0 ≤ b.2.2 ∧ b.2.2 ≤ 6) ∧ 0 ≤ b.1 ∧ b.1 ≤ 1048575 then 0 else 3
def blkN (b : Bk) : Int := 16 * b.1 + b.2.2 + (if b.2.1 = true then 8 else 0)
def nBlk (n : Int) : Bk := (n / 16, decide (n / 8 % 2 = 1), n % 8)
def blockR (m : Msg) : Bk × Int := if (uintR m 23).2 = 0 then (if blkE (nBlk (uintR m 23).1) = 0 then (nBlk (uintR m 23).1, 0) else ((0, false, 0), blkE (nBlk (uintR m 23).1))) else ((0, false, 0), (uintR m 23).2)
def withBlockR (m : Msg) (b : Bk) : Msg × Int := if chk m = 0 then (if blkE b = 0 then withUintR m 23 (blkN b) else (mNil, blkE b)) else (mNil, chk m)

theorem beN_zero (l : List UInt8) (h : ∀ c ∈ l, c = 0) : beN l 0 = 0 := by
  induction l with
  | nil => rfl
  | cons c l ih =>
    have := h c (List.mem_cons_self ..)
    subst this
    simp only [beN]
    exact ih fun x hx => h x (List.mem_cons_of_mem _ hx)
theorem beN_drop (l : List UInt8) : beN (l.dropWhile fun c => c == 0) 0 = beN l 0 := by
  induction l with
  | nil => rfl
  | cons c l ih =>
    rw [List.dropWhile_cons]
    split
    · rename_i h
      have : c = 0 := by simpa using h
      subst this
      rw [ih]; rfl
    · rfl
theorem dropWhile_snoc {l : List UInt8} {c : UInt8} : (l ++ [c]).dropWhile (fun c => c == 0) = if (l.dropWhile fun c => c == 0) = [] then (if c = 0 then [] else [c]) else (l.dropWhile fun c => c == 0) ++ [c] := by
  induction l with
  | nil => by_cases h : c = 0 <;> simp [List.dropWhile_cons, h]
  | cons x l ih =>
    by_cases h : x = 0
    · subst h
      simpa [List.dropWhile_cons] using ih
    · simp [List.dropWhile_cons, h]
theorem short_step (k n : Nat) : (numB (k + 1) (n : Int)).dropWhile (fun c => c == 0) =
    if ((numB k ((n / 256 : Nat) : Int)).dropWhile fun c => c == 0) = [] then (if n % 256 = 0 then [] else [UInt8.ofNat (n % 256)]) else ((numB k ((n / 256 : Nat) : Int)).dropWhile fun c => c == 0) ++ [UInt8.ofNat (n % 256)] := by
  rw [numB_succ, dropWhile_snoc]
  have : (UInt8.ofNat (n % 256) = 0) ↔ n % 256 = 0 := by
    constructor
    · intro h
      have := congrArg UInt8.toNat h
      simpa using this
    · intro h; rw [h]; rfl
  simp only [this]
theorem short_nil (k n : Nat) (h : n < pw k) : ((numB k (n : Int)).dropWhile fun c => c == 0) = [] ↔ n = 0 := by
  constructor
  · intro h1
    have := beN_drop (numB k (n : Int))
    rw [h1, beN_numB k n h] at this
    exact this.symm
  · rintro rfl
    induction k with
    | zero => rfl
    | succ k ih =>
      rw [short_step, if_pos, if_pos rfl]
      exact ih (by have : pw 0 ≤ pw k := pw_mono (Nat.zero_le k); exact this)
theorem short_snoc (k n : Nat) (h : n < pw (k + 1)) : (numB (k + 1) (n : Int)).dropWhile (fun c => c == 0) = if n = 0 then [] else ((numB k ((n / 256 : Nat) : Int)).dropWhile fun c => c == 0) ++ [UInt8.ofNat (n % 256)] := by
  have hk : n / 256 < pw k := by
    have h : n < 256 * pw k := h
    omega
  rw [short_step]
  by_cases h0 : n / 256 = 0
  · rw [if_pos ((short_nil k _ hk).2 h0), (short_nil k _ hk).2 h0]
    by_cases h1 : n = 0
    · subst h1; rfl
    · rw [if_neg (by omega), if_neg h1]; rfl
  · rw [if_neg (fun e => h0 ((short_nil k _ hk).1 e)), if_neg (by omega)]
theorem short_val {n : Int} (h : 0 ≤ n ∧ n ≤ 16777215) : beN (shortB n) 0 = n := by
  obtain ⟨m, rfl⟩ : ∃ m : Nat, n = m := ⟨n.toNat, by omega⟩
  rw [shortB, beN_drop, beN_numB 3 m (by show m < 16777216; omega)]
theorem short_len {n : Int} (h : 0 ≤ n ∧ n ≤ 16777215) : ((shortB n).length = 0 ∧ n = 0) ∨ ((shortB n).length = 1 ∧ 0 < n ∧ n < 256) ∨ ((shortB n).length = 2 ∧ 256 ≤ n ∧ n < 65536) ∨ ((shortB n).length = 3 ∧ 65536 ≤ n) := by
  obtain ⟨m, rfl⟩ : ∃ m : Nat, n = m := ⟨n.toNat, by omega⟩
  rw [shortB, short_snoc 2 m (by show m < 16777216; omega)]
  by_cases h0 : m = 0
  · left; subst h0; simp
  rw [if_neg h0, List.length_append, short_snoc 1 (m / 256) (by show m / 256 < 65536; omega)]
  by_cases h1 : m / 256 = 0
  · right; left; rw [if_pos h1]; simp; omega
  rw [if_neg h1, List.length_append, short_snoc 0 (m / 256 / 256) (by show m / 256 / 256 < 256; omega)]
  by_cases h2 : m / 256 / 256 = 0
  · right; right; left; rw [if_pos h2]; simp; omega
  · right; right; right; rw [if_neg h2]; simp [numB]; omega

theorem uint_back {os : List Opt} {n x : Int} (h : 0 ≤ x ∧ x ≤ 16777215) : uintL n (withL os n [shortB x]) = (x, 0) := by
  have hl := short_len h
  rw [uintL, vals_with]
  simp only [uintV]
  rw [if_neg (by omega), short_val h]
theorem lev_no {s : List UInt8} : ∀ x ∈ lev s, (x.any fun c => c == 47) = false := by
  induction s with
  | nil => intro x hx; simp [lev] at hx; subst hx; rfl
  | cons c l ih =>
    intro x hx
    by_cases hc : c = 47
    · subst hc
      rw [lev_slash] at hx
      rcases List.mem_cons.1 hx with rfl | hx
      · rfl
      · exact ih x hx
    · rw [lev_other _ hc] at hx
      obtain ⟨y, ys, e⟩ := lev_ne l
      rw [e] at hx ih
      simp only [glue] at hx
      rcases List.mem_cons.1 hx with rfl | hx
      · have := ih y (List.mem_cons_self ..)
        simp [hc, this]
      · exact ih x (List.mem_cons_of_mem _ hx)
theorem path_back {os : List Opt} {t : List UInt8} (h : chkT t false = 0) : pathL (withL os 11 (lev t)) = (t, 0) := by
  obtain ⟨y, ys, e⟩ := lev_ne t
  rw [pathL, vals_with, if_neg (by rw [e]; simp), unlev_lev, if_pos h, if_neg]
  intro h1
  obtain ⟨x, hx, hx2⟩ := List.any_eq_true.1 h1
  rw [lev_no x hx] at hx2
  simp at hx2
theorem blk_back {b : Bk} (h : blkE b = 0) : 0 ≤ blkN b ∧ blkN b ≤ 16777215 ∧ nBlk (blkN b) = b := by
  obtain ⟨n, m, s⟩ := b
  unfold blkE at h
  split at h
  · rename_i hb
    simp only at hb
    have e : blkN (n, m, s) = 16 * n + s + (if m = true then 8 else 0) := rfl
    refine ⟨by rw [e]; split <;> omega, by rw [e]; split <;> omega, ?_⟩
    rw [nBlk, e]
    cases m
    · simp only [Bool.false_eq_true, if_false, Prod.mk.injEq, decide_eq_false_iff_not]; omega
    · simp only [if_true, Prod.mk.injEq, decide_eq_true_eq]; omega
  · simp at h
theorem outR_ok {m : Msg} (h : (outR m).2 = 0) : chk m = 0 ∧ outR m = (m, 0) := by
  unfold outR at h ⊢
  split
  · exact ⟨‹_›, rfl⟩
  · rename_i h0; rw [if_neg h0] at h; exact absurd h h0
theorem withUint_ok {m : Msg} {n x : Int} (h : (withUintR m n x).2 = 0) : chk m = 0 ∧ (0 ≤ x ∧ x ≤ 16777215) ∧ chk (withM m n [shortB x]) = 0 ∧ withUintR m n x = (withM m n [shortB x], 0) := by
  unfold withUintR at h ⊢
  split at h
  · rename_i h0
    rw [if_pos h0]
    split at h
    · rename_i h1
      rw [if_pos h1]
      exact ⟨h0, h1, (outR_ok h).1, (outR_ok h).2⟩
    · simp at h
  · rename_i h0; exact absurd h h0
end Go.Proofs.YtliedecinehijaaDoor

/-
  Rows that are copied: the laws of 'copy' and 'append' for elements of many cells. By an AI agent.
-/
set_option linter.unusedSimpArgs false
set_option linter.unusedVariables false
namespace Go.Sx
open Go

theorem run_copy_rows {P : Program} (w : World) (dT sT ty elem : TypeId) (sz : Nat) (g o dLen dCap : Nat) (a : Addr) (sLen sCap : Nat) (cur : Array Value) (t : TypeId) (cs : List Value) (q : Nat) (hq : min sLen dLen = q)
    (hu : P.underlying dT = some (.slice elem)) (hs : (P.info? elem).map (·.size) = some sz)
    (hg : w.heap[g]? = some (.cells cur t (0, 0))) (hn : cs.length = q * sz)
    (hsrc : ∀ j v, cs[j]? = some v → w.cell? (a.add j) = some v) (hfit : o + cs.length ≤ cur.size) (h1 : ∀ v ∈ cs, v.oneCell' = true) :
    (Builtin.copy_ #[dT, sT] ty #[.slice (some ⟨g, o, none⟩) dLen dCap, .slice (some a) sLen sCap]).run P w =
      .ok (goInt q) (w.setRow g (cur.toList.take o ++ cs ++ cur.toList.drop (o + cs.length)).toArray) := by
  have hq' : Nat.min sLen dLen = q := hq
  have hl := run_loadCells_list (P := P) w a cs hsrc
  have hst := run_storeCells_at P g o t cs 0 cur w hg (by simpa using hfit) h1
  cases hr : P.info? elem with
  | none => simp [hr] at hs
  | some i =>
    have hi : i.size = sz := by simpa [hr] using hs
    simp [Builtin.copy_, run_underlying hu, Builtin.lenOf, Builtin.firstCells, sizeOf, typeInfo, hr, hi, hq', ← hn, hl, hst]
/-- Two copies into one row, the second one ahead of the first. -/
theorem splice2 {α : Type} (cur cs vs : List α) (a b d : Nat) (h1 : a + vs.length = b) (h2 : b + cs.length = d) (h3 : d ≤ cur.length) :
    (cur.take b ++ cs ++ cur.drop (b + cs.length)).take a ++ vs ++ (cur.take b ++ cs ++ cur.drop (b + cs.length)).drop (a + vs.length) = cur.take a ++ vs ++ cs ++ cur.drop d := by
  subst h1 h2
  have e1 : (cur.take (a + vs.length) ++ cs ++ cur.drop (a + vs.length + cs.length)).take a = cur.take a := by
    rw [List.append_assoc, List.take_append_of_le_length (by simp; omega), List.take_take, Nat.min_eq_left (by omega)]
  have e2 : (cur.take (a + vs.length) ++ cs ++ cur.drop (a + vs.length + cs.length)).drop (a + vs.length) = cs ++ cur.drop (a + vs.length + cs.length) := by
    have hl : (cur.take (a + vs.length)).length = a + vs.length := by simp; omega
    rw [List.append_assoc, List.drop_append_of_le_length (by omega), List.drop_eq_nil_of_le (by omega), List.nil_append]
  rw [e1, e2]
  simp
theorem splice3 {α : Type} (hd vs cs rest : List α) (a : Nat) (h : hd.length + vs.length = a) :
    (hd ++ vs ++ rest).take a ++ cs ++ (hd ++ vs ++ rest).drop (a + cs.length) = hd ++ vs ++ cs ++ (hd ++ vs ++ rest).drop (a + cs.length) := by
  subst h
  rw [List.take_append_of_le_length (by simp), List.take_of_length_le (by simp)]
theorem zeroCells_size (z : Array Value) (n : Nat) : (Builtin.zeroCells z n).size = n * z.size := by
  simp [Builtin.zeroCells, Nat.mul_comm]
theorem flatten_takeI {n : Nat} : ∀ {R : List (List Value)} (i : Nat), (∀ r ∈ R, r.length = n) → R.flatten.take (i * n) = (R.take i).flatten
  | [], i, _ => by simp
  | r :: R, 0, _ => by simp
  | r :: R, i + 1, h => by
    have h1 := h r (by simp)
    have ih := flatten_takeI (R := R) i (fun x hx => h x (by simp [hx]))
    rw [List.flatten_cons, List.take_succ_cons, List.flatten_cons, ← ih, List.take_append, List.take_of_length_le (by rw [h1, Nat.succ_mul]; omega)]
    congr 2
    rw [h1, Nat.succ_mul]; omega
theorem flatten_dropI {n : Nat} : ∀ {R : List (List Value)} (i : Nat), (∀ r ∈ R, r.length = n) → R.flatten.drop (i * n) = (R.drop i).flatten
  | [], i, _ => by simp
  | r :: R, 0, _ => by simp
  | r :: R, i + 1, h => by
    have h1 := h r (by simp)
    have ih := flatten_dropI (R := R) i (fun x hx => h x (by simp [hx]))
    rw [List.flatten_cons, List.drop_succ_cons, ← ih, List.drop_append, List.drop_eq_nil_of_le (by rw [h1, Nat.succ_mul]; omega), List.nil_append]
    congr 1
    rw [h1, Nat.succ_mul]; omega
theorem rows_one {ks : List Kd} {R : List (List Value)} (h : ∀ r ∈ R, rowOk ks r) : ∀ x ∈ R.flatten, x.oneCell' = true := by
  intro x hx
  obtain ⟨row, hr, hx⟩ := List.mem_flatten.1 hx
  exact (h row hr).one x hx
theorem grown_refl (w : World) (r : Option Nat) : w.grownBy w r := ⟨rfl, rfl, rfl, Nat.le_refl _, fun _ _ _ => rfl⟩
/-- What a call that changes an owned row givesR back. -/
def givesR (w w' : World) (s v' : Value) (ty : Nat) (ks : List Kd) (R : List (List Value)) : Prop :=
  owns w' v' ty ks R ∧ (∀ k, blockOf v' k → blockOf s k ∨ w.heap.size ≤ k) ∧ w.grownBy w' s.ownBlock
theorem zeroCells_one {z : Array Value} {n : Nat} (hz : 0 < z.size) (h : ∀ v ∈ z.toList, v.oneCell' = true) : ∀ v ∈ (Builtin.zeroCells z n).toList, v.oneCell' = true := by
  intro v hv
  simp only [Builtin.zeroCells, Array.toList_map, List.mem_map] at hv
  obtain ⟨i, -, rfl⟩ := hv
  have hlt : i % z.size < z.size := Nat.mod_lt _ hz
  rw [getElem!_pos z _ hlt]
  exact h _ (Array.getElem_mem_toList hlt)
/-- An append as one step of a region that draws. -/
theorem step_append_runI {P : Program} {ops : Array Oper} {o : Oper} {a : Act} {w : World} {K : Act → World → Prop} {Q : Exit → Act → World → Prop} {E : Prop}
    (hg : o.guard = none) (d x : Operand) (dT sT : TypeId) (hop : o.op = Op.call { callee := Callee.builtin Builtin.append, args := #[d, x], argTypes := #[dT, sT] })
    (v u : Value) (hd : a.eval d = v) (hx : a.eval x = u) {v' : Value} {w' : World} (hr : (Builtin.append_ #[dT, sT] o.type #[v, u]).run P w = .ok v' w') (hK : K (a.put o.dst v') w') :
    if Region.wanted o (yielded ops a.tmps) = true then Oper.wp P o a w K Q else E := by
  have hw : Region.wanted o (yielded ops a.tmps) = true := by simp [Region.wanted, hg]
  rw [if_pos hw]
  unfold Oper.wp
  simp [execOp, hop, resolve, invoke, builtin, hd, hx, hr, Result.andThen]
  exact hK
theorem wpList_clear_runI {P : Program} (w : World) {ops : Array Oper} {rest : List Oper} {o : Oper} {a : Act} {Q : Exit → Act → World → Prop} (hgd : o.guard = none) (d : Operand) (t : TypeId)
    (ho : o.op = .call { callee := .builtin .clear, args := #[d], argTypes := #[t] }) (v : Value) (hd : a.eval d = v) {v' : Value} {w' : World}
    (hr : (Builtin.clear_ #[t] o.type #[v]).run P w = .ok v' w') (h : wpList P ops Q rest (a.put o.dst v') w') : wpList P ops Q (o :: rest) a w :=
  wpList_plain hgd fun _ hK => by
    unfold Oper.wp execOp
    simp only [ho, resolve, invoke, builtin, Sem.run_bind, Sem.run_pure, Result.andThen_ok, List.map_toArray, List.map_cons, List.map_nil, hd, hr]
    exact hK _ _ h
end Go.Sx

/-
  The library's Insert and Delete at a type of elements. By an AI agent.
-/
set_option linter.unusedSimpArgs false
set_option linter.unusedVariables false
namespace Go.Proofs.YtliedecinehijaaDoor
open Go Go.Sx Go.Shelf Go.RowKit Go.Lib
set_option maxHeartbeats 4000000 in
set_option maxRecDepth 100000 in
theorem insO_none (w : World) (b : Option Addr) (n c i : Nat) (vb : Option Addr) (vc : Nat) (hi : i ≤ n) (hc : n ≤ c) (hb : b = none → c = 0) :
    Calls Tryd.prog 110 #[.slice b n c, .int .i64 i, .slice vb 0 vc] w fun e w' => e = .returned (.slice b n c) ∧ w' = w := by
  go_enter Tryd.func110, Tryd.ntmps110
  go_wp2
  all_goals (go_ret; exact ⟨rfl, rfl⟩)
set_option maxHeartbeats 4000000 in
set_option maxRecDepth 100000 in
theorem insO_end (w : World) (b : Option Addr) (n c : Nat) (vb : Option Addr) (m vc : Nat) (hm : 0 < m) (hc : n ≤ c) (hb : b = none → c = 0) (v' : Value) (w' : World)
    (hrun : ∀ ty, (Builtin.append_ #[40, 40] ty #[.slice b n c, .slice vb m vc]).run Tryd.prog w = .ok v' w') :
    Calls Tryd.prog 110 #[.slice b n c, .int .i64 n, .slice vb m vc] w fun e w1 => e = .returned v' ∧ w1 = w' := by
  have hz1 : ¬ ((m : Int) = 0) := by omega
  go_enter Tryd.func110, Tryd.ntmps110
  go_wp2_with (at_builtin; refine Lib.wpList_append_run _ rfl _ _ _ _ rfl _ _ rfl rfl _ _ (hrun _) ?_)
  all_goals (go_ret; exact ⟨rfl, rfl⟩)
set_option maxHeartbeats 4000000 in
set_option maxRecDepth 100000 in
/-- There is room: in place. -/
theorem insO_shift (w : World) (g n c i vb m vc : Nat) (cs vs : List Value) (cur vcur cur2 : Array Value) (hi : i < n) (hm : 0 < m) (hroom : n + m ≤ c) (hc63 : c ≤ 9223372036854775807) (hvb : vb ≠ g)
    (hg : w.heap[g]? = some (.cells cur 47 (0, 0))) (hcs : cur.size = c * 2) (hv : w.heap[vb]? = some (.cells vcur 47 (0, 0))) (hvl : m * 2 ≤ vcur.size)
    (e1 : cs = (cur.toList.drop (i * 2)).take ((n - i) * 2)) (e2 : vs = vcur.toList.take (m * 2)) (h1c : ∀ v ∈ cs, v.oneCell' = true) (h1v : ∀ v ∈ vs, v.oneCell' = true)
    (e3 : cur2.toList = cur.toList.take (i * 2) ++ vs ++ cs ++ cur.toList.drop ((n + m) * 2)) :
    Calls Tryd.prog 110 #[.slice (some ⟨g, 0, none⟩) n c, .int .i64 i, .slice (some ⟨vb, 0, none⟩) m vc] w fun e w' => e = .returned (.slice (some ⟨g, 0, none⟩) (n + m) c) ∧ w' = w.drew.setRow g cur2 := by
  have hz1 : ¬ ((m : Int) = 0) := by omega
  have hz2 : ¬ ((i : Int) = (n : Int)) := by omega
  have hw1 : IntKind.i64.wrap ((i : Int) + (m : Int)) = (i : Int) + (m : Int) := by rw [IntKind.wrap_i64]; omega
  have hw2 : IntKind.i64.wrap ((n : Int) + (m : Int)) = (n : Int) + (m : Int) := by rw [IntKind.wrap_i64]; omega
  have hb1 : (0 : Int) ≤ (i : Int) + (m : Int) := by omega
  have hin : i ≤ n := by omega
  have htn : ((i : Int) + (m : Int)).toNat = i + m := by omega
  have htn2 : ((n : Int) + (m : Int)).toNat = n + m := by omega
  have hb2 : ¬ (c = i + m) := by omega
  have hb3 : (i : Int) ≤ (n : Int) + (m : Int) := by omega
  have hb4 : ¬ (c = i) := by omega
  have hsz : (Tryd.prog.info? 47).map (·.size) = some 2 := by kernel_rfl
  have hso : ∀ w, (Go.sizeOf 47).run Tryd.prog w = .ok 2 w := fun w => by
    cases hq : Tryd.prog.info? 47 with
    | none => rw [hq] at hsz; simp at hsz
    | some i => rw [hq] at hsz; simp at hsz; simp [sizeOf, typeInfo, hq, hsz]
  have hu := Tryd.underlying40
  have hov : ∀ o lb cb, (callFunc 144 #[.slice (some ⟨vb, 0, none⟩) m vc, .slice (some ⟨g, o, none⟩) lb cb]).run Tryd.prog w = .ok (.value (.bool false)) w := fun o lb cb => by
    rw [run_callFunc_extern Tryd.func144 (by kernel_rfl) (by kernel_rfl) (by kernel_rfl) (e := Extern.SlicesOverlaps.overlaps #[40, 40] #[4]) (by kernel_rfl),
      Lib.run_overlaps_apart w 40 4 47 hu 2 hso ⟨vb, 0, none⟩ ⟨g, o, none⟩ m vc lb cb hvb 47 47 vcur.size cur.size (by simp [World.shape?, hv]) (by simp [World.shape?, hg]) (by omega) (by simp [World.frozen?, hv]) (by simp [World.frozen?, hv])]
    rfl
  have hcl : cs.length = (n - i) * 2 := by rw [e1]; simp; omega
  have hvl2 : vs.length = m * 2 := by rw [e2]; simp; omega
  have hgd : w.drew.heap[g]? = some (.cells cur 47 (0, 0)) := hg
  have hcp1 : ∀ ty dc sc, (Builtin.copy_ #[40, 40] ty #[.slice (some ⟨g, (i + m) * 2, none⟩) (n + m - (i + m)) dc, .slice (some ⟨g, i * 2, none⟩) (n + m - i) sc]).run Tryd.prog w.drew = .ok (goInt ((n - i : Nat) : Int)) (w.drew.setRow g (cur.toList.take ((i + m) * 2) ++ cs ++ cur.toList.drop ((i + m) * 2 + cs.length)).toArray) := fun ty dc sc =>
    run_copy_rows (P := Tryd.prog) w.drew 40 40 ty 47 2 g ((i + m) * 2) (n + m - (i + m)) dc ⟨g, i * 2, none⟩ (n + m - i) sc cur 47 cs (n - i) (by omega) hu hsz hgd hcl (fun j v hj => by
      rw [e1, List.getElem?_take] at hj
      split at hj
      · rw [Addr.add_lit]
        simp only [World.cell?, hgd]
        simpa using hj
      · cases hj) (by rw [hcl]; omega) h1c
  obtain ⟨cur1, hcur1⟩ : ∃ cur1 : Array Value, cur1 = (cur.toList.take ((i + m) * 2) ++ cs ++ cur.toList.drop ((i + m) * 2 + cs.length)).toArray := ⟨_, rfl⟩
  rw [← hcur1] at hcp1
  have hs1 : cur1.size = cur.size := by
    rw [hcur1]; simp only [List.size_toArray, List.length_append, List.length_take, List.length_drop, Array.length_toList, hcl]; omega
  have hcp2 : ∀ (W : World), W.heap = (w.drew.setRow g cur1).heap → ∀ ty dc, (Builtin.copy_ #[40, 40] ty #[.slice (some ⟨g, i * 2, none⟩) (n + m - i) dc, .slice (some ⟨vb, 0, none⟩) m vc]).run Tryd.prog W = .ok (goInt m) (W.setRow g cur2) := fun W hW ty dc => by
    have hgW : W.heap[g]? = some (.cells cur1 47 (0, 0)) := by rw [hW]; exact setRow_heap _ _ _ _ _ _ hgd
    have hvW : W.heap[vb]? = some (.cells vcur 47 (0, 0)) := by rw [hW, setRow_other _ _ _ _ hvb]; exact hv
    have := run_copy_rows (P := Tryd.prog) W 40 40 ty 47 2 g (i * 2) (n + m - i) dc ⟨vb, 0, none⟩ m vc cur1 47 vs m (by omega) hu hsz hgW hvl2 (fun j v hj => by
      rw [e2, List.getElem?_take] at hj
      split at hj
      · rw [Addr.add_lit]
        simp only [World.cell?, hvW, Nat.zero_add]
        simpa using hj
      · cases hj) (by rw [hvl2, hs1]; omega) h1v
    rw [this]
    congr 2
    apply Array.toList_inj.1
    rw [e3, hcur1]
    simp only [List.toList_toArray]
    rw [splice2 cur.toList cs vs (i * 2) ((i + m) * 2) ((n + m) * 2) (by rw [hvl2]; omega) (by rw [hcl]; omega) (by simp; omega)]
  have mixed : Tryd.prog.follows Departure.mixedOrders = true := by kernel_rfl
  go_enter Tryd.func110, Tryd.ntmps110
  go_wp2_with (simp only [hov])
  go_region_law_o (refine step_copy_runI rfl _ _ 40 40 rfl _ _ (by simp [Act.eval, Act.put]) (by simp [Act.eval, Act.put]) (hcp1 _ _ _) ?_)
  go_wp2_with (at_builtin; refine wpList_copy_runI _ rfl _ _ 40 40 rfl _ _ rfl rfl (hcp2 _ rfl _ _) ?_)
  go_ret
  first | exact ⟨rfl, rfl⟩ | exact ⟨rfl, by rw [setRow_setRow]⟩
set_option maxHeartbeats 4000000 in
set_option maxRecDepth 100000 in
/-- There is no room: a new row. -/
theorem insO_grow (w : World) (g n c i vb m vc : Nat) (hd cs vs : List Value) (cur vcur : Array Value) (hi : i < n) (hm : 0 < m) (hnc : n ≤ c) (hroom : c < n + m) (hbig : (n + m) * 24 ≤ 140737488355328)
    (hg : w.heap[g]? = some (.cells cur 47 (0, 0))) (hcs : cur.size = c * 2) (hv : w.heap[vb]? = some (.cells vcur 47 (0, 0))) (hvl : m * 2 ≤ vcur.size)
    (e0 : hd = cur.toList.take (i * 2)) (e1 : cs = (cur.toList.drop (i * 2)).take ((n - i) * 2)) (e2 : vs = vcur.toList.take (m * 2)) (h1c : ∀ v ∈ cs, v.oneCell' = true) (h1v : ∀ v ∈ vs, v.oneCell' = true) :
    Calls Tryd.prog 110 #[.slice (some ⟨g, 0, none⟩) n c, .int .i64 i, .slice (some ⟨vb, 0, none⟩) m vc] w fun e w' => ∃ (G : Nat) (cur3 : Array Value), e = .returned (.slice (some ⟨w.heap.size, 0, none⟩) (n + m) G) ∧ n + m ≤ G ∧ G ≤ maxLen ∧ cur3.size = G * 2 ∧ cur3.toList.take ((n + m) * 2) = hd ++ vs ++ cs ∧
      w'.heap[w.heap.size]? = some (.cells cur3 47 (0, 0)) ∧ w.grownBy w' none := by
  have hz1 : ¬ ((m : Int) = 0) := by omega
  have hz2 : ¬ ((i : Int) = (n : Int)) := by omega
  have hz3 : (c : Int) < (n : Int) + (m : Int) := by omega
  have hw1 : IntKind.i64.wrap ((i : Int) + (m : Int)) = (i : Int) + (m : Int) := by rw [IntKind.wrap_i64]; omega
  have hb1 : (0 : Int) ≤ (i : Int) + (m : Int) := by omega
  have hin : i ≤ n := by omega
  have htn : ((i : Int) + (m : Int)).toNat = i + m := by omega
  have hb3 : (i : Int) ≤ (n : Int) := by omega
  have hu := Tryd.underlying40
  have hsz : (Tryd.prog.info? 47).map (·.size) = some 2 := by kernel_rfl
  obtain ⟨i0, hi0⟩ : ∃ i0, Tryd.prog.info? 47 = some i0 := by
    cases hq : Tryd.prog.info? 47 with
    | none => rw [hq] at hsz; simp at hsz
    | some i => exact ⟨i, rfl⟩
  have hk : i0.size = 2 := by rw [hi0] at hsz; simpa using hsz
  have hby : i0.bytes = 24 := by
    have : (Tryd.prog.info? 47).map (·.bytes) = some 24 := by kernel_rfl
    rw [hi0] at this; simpa using this
  obtain ⟨z, hz, hzs⟩ : ∃ z, i0.zero = some z ∧ z.cells.size = 2 := by
    have : (Tryd.prog.info? 47).bind (fun i => i.zero.map (fun z => z.cells.size)) = some 2 := by kernel_rfl
    rw [hi0] at this
    simp only [Option.bind_some, Option.map_eq_some_iff] at this
    exact this
  have hbw : g < w.heap.size := (Array.getElem?_eq_some_iff.1 hg).1
  have hvw : vb < w.heap.size := (Array.getElem?_eq_some_iff.1 hv).1
  have hkk : (n : Int) + (m : Int) - (i : Int) = ((n + m - i : Nat) : Int) := by omega
  have hik : i + (n + m - i) = n + m := by omega
  have hgd : w.drew.heap[g]? = some (.cells cur 47 (0, 0)) := hg
  have hhl : hd.length = i * 2 := by rw [e0]; simp; omega
  have hold : (Builtin.firstCells i0.size i (.slice (some ⟨g, 0, none⟩) i c)).run Tryd.prog w.drew = .ok hd.toArray w.drew := by
    rw [hk]
    exact run_firstCells_some w.drew 2 i ⟨g, 0, none⟩ i c hd hhl (fun j v hj => by
      rw [Addr.add_lit]
      rw [e0, List.getElem?_take] at hj
      split at hj
      · simp only [World.cell?, hgd, Nat.zero_add]
        simpa using hj
      · cases hj)
  have hrz : ∀ ty, (Builtin.append_ #[40, 3] ty #[.slice (some ⟨g, 0, none⟩) i c, .int .i64 ((n : Int) + (m : Int) - (i : Int))]).run Tryd.prog w =
      .ok (.slice (some ⟨w.heap.size, 0, none⟩) (n + m) (grownCap w (n + m) c 47)) (w.drew.alloc (.cells (hd.toArray ++ Builtin.zeroCells z.cells (n + m - i) ++ Builtin.zeroCells z.cells (grownCap w (n + m) c 47 - (n + m))) 47)) := fun ty => by
    have h := Lib.run_append_grow_zeros w 40 3 ty 47 i0 z .i64 .i64 hu Tryd.underlying3 hi0 hz (some ⟨g, 0, none⟩) i c hd hold (n + m - i) (by omega) (by omega) (by omega) (by omega) (by rw [hby]; omega) (by rw [hby, hik]; exact growslice_fits hroom hbig)
    rw [hik] at h
    rw [hkk]
    exact h
  obtain ⟨G, hG⟩ : ∃ G, G = grownCap w (n + m) c 47 := ⟨_, rfl⟩
  obtain ⟨ROW, hROW⟩ : ∃ ROW : Array Value, ROW = hd.toArray ++ Builtin.zeroCells z.cells (n + m - i) ++ Builtin.zeroCells z.cells (G - (n + m)) := ⟨_, rfl⟩
  rw [← hG] at hrz
  rw [← hROW] at hrz
  have hGn : n + m ≤ G := by rw [hG]; exact grownCap_ge w _ _ _
  have hG63 : G ≤ maxLen := by
    have := grownCap_le_maxLen w (n + m) c 47 (by unfold maxLen; omega)
    rw [← hG] at this
    exact this
  have hG63' : G ≤ 9223372036854775807 := hG63
  have hRl : ROW.size = G * 2 := by
    rw [hROW]
    simp only [Array.size_append, List.size_toArray, zeroCells_size, hzs, hhl]
    omega
  have hRt : ROW.toList.take (i * 2) = hd := by
    rw [hROW]
    simp only [Array.toList_append, List.toList_toArray, List.append_assoc]
    rw [List.take_append_of_le_length (by omega), List.take_of_length_le (by omega)]
  have hcl : cs.length = (n - i) * 2 := by rw [e1]; simp; omega
  have hvl2 : vs.length = m * 2 := by rw [e2]; simp; omega
  obtain ⟨W1, hW1⟩ : ∃ W1, W1 = w.drew.alloc (.cells ROW 47) := ⟨_, rfl⟩
  rw [← hW1] at hrz
  have hN : W1.heap[w.heap.size]? = some (.cells ROW 47 (0, 0)) := by rw [hW1]; exact heap_alloc_new w.drew _
  have hO : ∀ k, k < w.heap.size → W1.heap[k]? = w.heap[k]? := fun k hk => by rw [hW1]; exact heap_alloc_old w.drew _ hk
  obtain ⟨cur2, hcur2⟩ : ∃ cur2 : Array Value, cur2 = (ROW.toList.take (i * 2) ++ vs ++ ROW.toList.drop (i * 2 + vs.length)).toArray := ⟨_, rfl⟩
  obtain ⟨cur3, hcur3⟩ : ∃ cur3 : Array Value, cur3 = (cur2.toList.take ((i + m) * 2) ++ cs ++ cur2.toList.drop ((i + m) * 2 + cs.length)).toArray := ⟨_, rfl⟩
  have hs2 : cur2.size = ROW.size := by
    rw [hcur2]; simp only [List.size_toArray, List.length_append, List.length_take, List.length_drop, Array.length_toList, hvl2]; omega
  have hs3 : cur3.size = ROW.size := by
    rw [hcur3]; simp only [List.size_toArray, List.length_append, List.length_take, List.length_drop, Array.length_toList, hcl, hs2]; omega
  have ht3 : cur3.toList.take ((n + m) * 2) = hd ++ vs ++ cs := by
    rw [hcur3, hcur2]
    simp only [List.toList_toArray]
    rw [hRt, splice3 hd vs cs _ ((i + m) * 2) (by omega)]
    rw [List.take_append_of_le_length (by simp only [List.length_append]; omega), List.take_of_length_le (by simp only [List.length_append]; omega)]
  have hcpA : ∀ (W : World), W.heap = W1.heap → ∀ ty dc, (Builtin.copy_ #[40, 40] ty #[.slice (some ⟨w.heap.size, i * 2, none⟩) (n + m - i) dc, .slice (some ⟨vb, 0, none⟩) m vc]).run Tryd.prog W = .ok (goInt m) (W.setRow w.heap.size cur2) := fun W hW ty dc => by
    rw [hcur2]
    exact run_copy_rows (P := Tryd.prog) W 40 40 ty 47 2 w.heap.size (i * 2) (n + m - i) dc ⟨vb, 0, none⟩ m vc ROW 47 vs m (by omega) hu hsz (by rw [hW]; exact hN) hvl2 (fun j v hj => by
      rw [e2, List.getElem?_take] at hj
      split at hj
      · rw [Addr.add_lit]
        simp only [World.cell?, hW, hO vb hvw, hv, Nat.zero_add]
        simpa using hj
      · cases hj) (by rw [hvl2, hRl]; omega) h1v
  have hcpB : ∀ (W : World), W.heap = (W1.setRow w.heap.size cur2).heap → ∀ ty dc sc, (Builtin.copy_ #[40, 40] ty #[.slice (some ⟨w.heap.size, (i + m) * 2, none⟩) (n + m - (i + m)) dc, .slice (some ⟨g, i * 2, none⟩) (n - i) sc]).run Tryd.prog W = .ok (goInt ((n - i : Nat) : Int)) (W.setRow w.heap.size cur3) := fun W hW ty dc sc => by
    rw [hcur3]
    exact run_copy_rows (P := Tryd.prog) W 40 40 ty 47 2 w.heap.size ((i + m) * 2) (n + m - (i + m)) dc ⟨g, i * 2, none⟩ (n - i) sc cur2 47 cs (n - i) (by omega) hu hsz (by rw [hW]; exact setRow_heap _ _ _ _ _ _ hN) hcl (fun j v hj => by
      rw [e1, List.getElem?_take] at hj
      split at hj
      · rw [Addr.add_lit]
        simp only [World.cell?, hW, setRow_other _ _ _ _ (Nat.ne_of_lt hbw), hO g hbw, hg]
        simpa using hj
      · cases hj) (by rw [hcl, hs2, hRl]; omega) h1c
  have hGi : ¬ (G = i) := by omega
  have hGim : ¬ (G = i + m) := by omega
  have hci : ¬ (c = i) := by omega
  have hfin : ∀ W : World, W.heap = (W1.setRow w.heap.size cur2).heap → W.os = w.os → W.tape = w.tape → W.output = w.output → ∃ (G' : Nat) (cur4 : Array Value), Ending.returned (.slice (some ⟨w.heap.size, 0, none⟩) (n + m) G) = .returned (.slice (some ⟨w.heap.size, 0, none⟩) (n + m) G') ∧ n + m ≤ G' ∧ G' ≤ maxLen ∧ cur4.size = G' * 2 ∧ cur4.toList.take ((n + m) * 2) = hd ++ vs ++ cs ∧
      (W.setRow w.heap.size cur3).heap[w.heap.size]? = some (.cells cur4 47 (0, 0)) ∧ w.grownBy (W.setRow w.heap.size cur3) none := by
    intro W hW ho ht hou
    refine ⟨G, cur3, rfl, hGn, hG63, by rw [hs3, hRl], ht3, setRow_heap _ _ _ _ _ _ (by rw [hW]; exact setRow_heap _ _ _ _ _ _ hN), ⟨ho, ht, hou, ?_, fun k hk _ => ?_⟩⟩
    · rw [setRow_size, hW, setRow_size, hW1]; exact Nat.le_of_lt (by show w.heap.size < (w.heap.push _).size; rw [Array.size_push]; omega)
    · rw [setRow_other _ _ _ _ (by omega), hW, setRow_other _ _ _ _ (by omega)]; exact hO k hk
  subst hW1
  have mixed : Tryd.prog.follows Departure.mixedOrders = true := by kernel_rfl
  have hE1 : ((w.alloc (.cells ROW 47)).drew).heap = (w.drew.alloc (.cells ROW 47)).heap := rfl
  have hF1 : (((w.alloc (.cells ROW 47)).drew.setRow w.heap.size cur2).drew).heap = ((w.drew.alloc (.cells ROW 47)).setRow w.heap.size cur2).heap := rfl
  clear hkk hik hold hROW hG hRl hcur2 hcur3 hs2 hs3 ht3 hRt
  go_enter Tryd.func110, Tryd.ntmps110
  go_wp2_with (first
    | (at_builtin; refine Lib.wpList_append_run _ rfl _ _ _ _ rfl _ _ rfl rfl _ _ (hrz _) ?_)
    | (at_builtin; refine wpList_copy_runI _ rfl _ _ 40 40 rfl _ _ rfl rfl (hcpA _ hE1 _ _) ?_)
    | (at_builtin; refine wpList_copy_runI _ rfl _ _ 40 40 rfl _ _ rfl rfl (hcpB _ hF1 _ _ _) ?_))
  go_region_law_o (refine step_copy_runI rfl _ _ 40 40 rfl (.slice (some ⟨w.heap.size, (i + m) * 2, none⟩) (n + m - (i + m)) (G - (i + m))) (.slice (some ⟨g, i * 2, none⟩) (n - i) (c - i)) (by simp [Act.eval, Act.put]) (by simp [Act.eval, Act.put]) (hcpB _ hF1 3 (G - (i + m)) (c - i)) ?_)
  go_wp2
  go_ret
  exact hfin _ rfl rfl rfl rfl
set_option maxHeartbeats 1000000 in
theorem c_InsertO (w : World) (s v : Value) (i : Nat) (R V : List (List Value)) (hs : owns w s 47 [.int .i64, .str] R) (hv : owns w v 47 [.int .i64, .str] V) (hne : ∀ k, blockOf s k → blockOf v k → False) (hi : i ≤ R.length) (hb : (R.length + V.length) * 24 ≤ 140737488355328) :
    Calls Tryd.prog 110 #[s, .int .i64 i, v] w fun e w' => ∃ v', e = .returned v' ∧ givesR w w' s v' 47 [.int .i64, .str] (R.take i ++ V ++ R.drop i) := by
  have hs' := hs
  have hv' := hv
  obtain ⟨hk1, hl1, ho⟩ := hs
  obtain ⟨hk2, hl2, hov⟩ := hv
  have hu := Tryd.underlying40
  have hrl1 : ∀ r ∈ R, r.length = 2 := fun r hr => (hk1 r hr).length
  have hrl2 : ∀ r ∈ V, r.length = 2 := fun r hr => (hk2 r hr).length
  obtain ⟨inf, hinf⟩ : ∃ i0, Tryd.prog.info? 47 = some i0 := by
    have : (Tryd.prog.info? 47).isSome = true := by kernel_rfl
    exact Option.isSome_iff_exists.1 this
  have hk : inf.size = 2 := by
    have : (Tryd.prog.info? 47).map (·.size) = some 2 := by kernel_rfl
    rw [hinf] at this; simpa using this
  have hby : inf.bytes = 24 := by
    have : (Tryd.prog.info? 47).map (·.bytes) = some 24 := by kernel_rfl
    rw [hinf] at this; simpa using this
  obtain ⟨z, hz, hzs⟩ : ∃ z, inf.zero = some z ∧ z.cells.size = 2 := by
    have : (Tryd.prog.info? 47).bind (fun i => i.zero.map (fun z => z.cells.size)) = some 2 := by kernel_rfl
    rw [hinf] at this
    simp only [Option.bind_some, Option.map_eq_some_iff] at this
    exact this
  have hbase : ∀ {v : Value} {n : Nat} {xs : List Value}, ((v = .slice none 0 0 ∧ n = 0) ∨ ∃ g cap cur, v = .slice (some ⟨g, 0, none⟩) n cap ∧ 0 ≤ g ∧ w.heap[g]? = some (.cells cur 47 (0, 0)) ∧ n ≤ cap ∧ cap ≤ maxLen ∧ cur.size = cap * 2 ∧ cur.toList.take (n * 2) = xs) → ∃ b c, v = .slice b n c ∧ n ≤ c ∧ (b = none → c = 0) := by
    intro v n xs h
    rcases h with ⟨rfl, rfl⟩ | ⟨g, cap, cur, rfl, -, -, h, -⟩
    · exact ⟨none, 0, rfl, Nat.le_refl _, fun _ => rfl⟩
    · exact ⟨some ⟨g, 0, none⟩, cap, rfl, h, fun h => by cases h⟩
  by_cases hV : V = []
  · subst hV
    obtain ⟨b, c, rfl, hc1, hc2⟩ := hbase ho
    obtain ⟨vb, vc, rfl, -, -⟩ := hbase hov
    refine (insO_none w b R.length c i vb vc hi hc1 hc2).mono ?_
    rintro e w' ⟨rfl, rfl⟩
    exact ⟨_, rfl, by simpa using hs', fun k hk => .inl hk, grown_refl _ _⟩
  have hVl : 0 < V.length := List.length_pos_iff.2 hV
  by_cases hin : i = R.length
  · subst hin
    obtain ⟨b, c, rfl, hc1, hc2⟩ := hbase ho
    obtain ⟨vb, vc, rfl, -, -⟩ := hbase hov
    obtain ⟨v', w', h1, h2, h3, h4⟩ := run_append (ks := [.int .i64, .str]) (ty := 40) hu hinf hz hk hzs hby (by decide) hs' hv'.reads hb (by decide)
    have hrun : ∀ ty, (Builtin.append_ #[40, 40] ty #[.slice b R.length c, .slice vb V.length vc]).run Tryd.prog w = .ok v' w' := fun ty => h1
    refine (insO_end w b R.length c vb V.length vc hVl hc1 hc2 v' w' hrun).mono ?_
    rintro e w1 ⟨rfl, rfl⟩
    exact ⟨_, rfl, by simpa using h2, h4, h3⟩
  have hin : i < R.length := by omega
  rcases ho with ⟨-, hn⟩ | ⟨g, c, cur, rfl, -, hg, hnc, hcm, hcs, htk⟩
  · omega
  rcases hov with ⟨-, hn⟩ | ⟨vb, vc, vcur, rfl, -, hvg, hvn, -, hvs, hvt⟩
  · omega
  replace hcs : cur.size = c * 2 := hcs
  replace hvs : vcur.size = vc * 2 := hvs
  replace htk : cur.toList.take (R.length * 2) = R.flatten := htk
  replace hvt : vcur.toList.take (V.length * 2) = V.flatten := hvt
  replace hl1 : R.flatten.length = R.length * 2 := hl1
  have hcl2 : cur.toList.length = c * 2 := by rw [Array.length_toList]; exact hcs
  replace hl2 : V.flatten.length = V.length * 2 := hl2
  have hvb : vb ≠ g := fun e => hne g rfl (by rw [← e]; rfl)
  have t1 : cur.toList.take (i * 2) = (R.take i).flatten := by
    rw [← flatten_takeI i hrl1, ← htk, List.take_take, Nat.min_eq_left (by omega)]
  have t2 : (cur.toList.drop (i * 2)).take ((R.length - i) * 2) = (R.drop i).flatten := by
    rw [← flatten_dropI i hrl1, ← htk, List.drop_take, Nat.sub_mul]
  have o1 : ∀ x ∈ (R.drop i).flatten, x.oneCell' = true := rows_one fun r hr => hk1 r (List.mem_of_mem_drop hr)
  have o2 : ∀ x ∈ V.flatten, x.oneCell' = true := rows_one hk2
  have hrows : ∀ r ∈ R.take i ++ V ++ R.drop i, rowOk [.int .i64, .str] r := by
    intro r hr
    simp only [List.mem_append] at hr
    rcases hr with (hr | hr) | hr
    · exact hk1 r (List.mem_of_mem_take hr)
    · exact hk2 r hr
    · exact hk1 r (List.mem_of_mem_drop hr)
  have hlen : (R.take i ++ V ++ R.drop i).length = R.length + V.length := by simp; omega
  have hfl : (R.take i ++ V ++ R.drop i).flatten.length = (R.length + V.length) * 2 := by
    have := flatten_length (n := 2) (fun r hr => (hrows r hr).length)
    rw [hlen] at this
    exact this
  by_cases hroom : R.length + V.length ≤ c
  · obtain ⟨cur2, hcur2⟩ : ∃ cur2 : Array Value, cur2 = (cur.toList.take (i * 2) ++ V.flatten ++ (R.drop i).flatten ++ cur.toList.drop ((R.length + V.length) * 2)).toArray := ⟨_, rfl⟩
    refine (insO_shift w g R.length c i vb V.length vc (R.drop i).flatten V.flatten cur vcur cur2 hin hVl hroom hcm hvb hg hcs hvg (by omega) t2.symm hvt.symm o1 o2 (by rw [hcur2])).mono ?_
    rintro e w' ⟨rfl, rfl⟩
    have hgd : w.drew.heap[g]? = some (.cells cur 47 (0, 0)) := hg
    refine ⟨_, rfl, ⟨hrows, ?_, .inr ⟨g, c, cur2, by rw [hlen], Nat.zero_le _, setRow_heap _ _ _ _ _ _ hgd, by omega, hcm, ?_, ?_⟩⟩, fun k hk => .inl hk, ⟨rfl, rfl, rfl, by rw [setRow_size]; exact Nat.le_refl _, fun k hk hkr => setRow_other _ _ _ _ (fun e => hkr (by rw [e]; rfl))⟩⟩
    · rw [hfl, hlen]; rfl
    · show cur2.size = c * 2
      rw [hcur2]
      have : (cur.toList.take (i * 2) ++ V.flatten ++ (R.drop i).flatten).length = (R.length + V.length) * 2 := by
        rw [t1, ← hfl]; simp [List.flatten_append]
      rw [List.size_toArray, List.length_append, this, List.length_drop, hcl2]; omega
    · have : cur.toList.take (i * 2) ++ V.flatten ++ (R.drop i).flatten = (R.take i ++ V ++ R.drop i).flatten := by
        rw [t1]; simp [List.flatten_append]
      show cur2.toList.take (_ * 2) = _
      rw [hcur2, List.toList_toArray, this, hlen, List.take_append_of_le_length (by omega), List.take_of_length_le (by omega)]
  · refine (insO_grow w g R.length c i vb V.length vc (R.take i).flatten (R.drop i).flatten V.flatten cur vcur hin hVl hnc (by omega) (by omega) hg hcs hvg (by omega) t1.symm t2.symm hvt.symm o1 o2).mono ?_
    rintro e w' ⟨G, cur3, rfl, q1, q2, q3, q4, q5, q6⟩
    refine ⟨_, rfl, ⟨hrows, ?_, .inr ⟨w.heap.size, G, cur3, by rw [hlen], Nat.zero_le _, q5, by omega, q2, q3, ?_⟩⟩, fun k hk => .inr ?_, ⟨q6.os, q6.tape, q6.output, q6.size, fun k hk _ => q6.block k hk (by simp)⟩⟩
    · rw [hfl, hlen]; rfl
    · rw [hlen]
      show cur3.toList.take ((R.length + V.length) * 2) = _
      rw [q4]; simp [List.flatten_append]
    · have : w.heap.size = k := Option.some.inj hk
      omega
end Go.Proofs.YtliedecinehijaaDoor

/-
  Messages: their bytes. By an AI agent.
-/
set_option linter.unusedSimpArgs false
set_option linter.unusedVariables false
namespace Go.Proofs.YtliedecinehijaaDoor
open Go.Sx

/-- Four bits that tell a number, and the bytes that follow. -/
def halfP (n : Int) : Int × List UInt8 := if 269 ≤ n then (14, numB 2 (n - 269)) else if 13 ≤ n then (13, numB 1 (n - 13)) else (n, [])
theorem halfP_bd {n : Int} (h : 0 ≤ n) : 0 ≤ (halfP n).1 ∧ (halfP n).1 ≤ 14 ∧ (halfP n).2.length ≤ 2 := by
  unfold halfP
  split
  · simp [numB_len]
  · split
    · simp [numB_len]
    · simp; omega

/-- The bytes of an option behind one of a number. -/
def optB (was : Int) (o : Opt) : List UInt8 := numB 1 (16 * (halfP (o.1 - was)).1 + (halfP o.2.length).1) ++ (halfP (o.1 - was)).2 ++ (halfP o.2.length).2 ++ o.2
def optsB : Int → List Opt → List UInt8
  | _, [] => []
  | was, o :: l => optB was o ++ optsB o.1 l
def msgB (m : Msg) : List UInt8 := numB 1 (64 + 16 * m.kind + m.tok.length) ++ numB 1 m.code ++ numB 2 m.id ++ m.tok ++ optsB 0 m.opts ++ (if m.pay = [] then [] else 255 :: m.pay)

theorem optE_cons {was : Int} {o : Opt} {l : List Opt} : optE was (o :: l) = 0 ↔ (0 ≤ o.1 ∧ o.1 ≤ 65535) ∧ was ≤ o.1 ∧ o.2.length ≤ 60 ∧ optE o.1 l = 0 := by
  simp only [optE]
  constructor
  · intro h
    split at h
    · split at h
      · exact absurd h (by decide)
      · split at h
        · exact absurd h (by decide)
        · exact ⟨by assumption, by omega, by omega, h⟩
    · exact absurd h (by decide)
  · rintro ⟨h1, h2, h3, h4⟩
    rw [if_pos h1, if_neg (by omega), if_neg (by omega), h4]
theorem optB_len {was : Int} {o : Opt} (h : was ≤ o.1) (h2 : o.2.length ≤ 60) : (optB was o).length ≤ 65 := by
  have h3 := halfP_bd (n := o.1 - was) (by omega)
  have h4 := halfP_bd (n := (o.2.length : Int)) (by omega)
  simp only [optB, List.length_append, numB_len]
  omega

theorem or16 (a b : Int) (h : 0 ≤ a ∧ a ≤ 14) (h2 : 0 ≤ b ∧ b ≤ 14) : ibits .or .i64 (IntKind.i64.wrap (a * 2 ^ (Nat.min (Int.toNat 4) IntKind.i64.bits))) b = 16 * a + b := by
  have : ∀ x y : Fin 16, ibits .or .i64 (IntKind.i64.wrap ((x.val : Int) * 2 ^ (Nat.min (Int.toNat 4) IntKind.i64.bits))) (y.val : Int) = 16 * (x.val : Int) + y.val := by decide +kernel
  have := this ⟨a.toNat, by omega⟩ ⟨b.toNat, by omega⟩
  simpa only [Int.toNat_of_nonneg h.1, Int.toNat_of_nonneg h2.1] using this
theorem or64 (a b : Int) (h : 0 ≤ a ∧ a ≤ 3) (h2 : 0 ≤ b ∧ b ≤ 8) : ibits .or .i64 (ibits .or .i64 64 (IntKind.i64.wrap (a * 2 ^ (Nat.min (Int.toNat 4) IntKind.i64.bits)))) b = 64 + 16 * a + b := by
  have : ∀ (x : Fin 4) (y : Fin 16), ibits .or .i64 (ibits .or .i64 64 (IntKind.i64.wrap ((x.val : Int) * 2 ^ (Nat.min (Int.toNat 4) IntKind.i64.bits)))) (y.val : Int) = 64 + 16 * (x.val : Int) + y.val := by decide +kernel
  have := this ⟨a.toNat, by omega⟩ ⟨b.toNat, by omega⟩
  simpa only [Int.toNat_of_nonneg h.1, Int.toNat_of_nonneg h2.1] using this

theorem takeO (os : List Opt) (i : Nat) (h : i < os.length) : os.take (i + 1) = os.take i ++ [os.getD i oD] := by
  rw [List.take_add_one, List.getD_eq_getElem?_getD, List.getElem?_eq_getElem h]; rfl

def encR (m : Msg) : List UInt8 × Int := if chk m = 0 then (msgB m, 0) else ([], chk m)
end Go.Proofs.YtliedecinehijaaDoor

/-
  Options: the library's Clone and Insert; With, walked. By an AI agent.
-/
set_option linter.unusedSimpArgs false
set_option linter.unusedVariables false
namespace Go.Proofs.YtliedecinehijaaDoor
open Go.Sx

abbrev kO : List Kd := [.int .i64, .str]
abbrev ownsO (w : World) (v : Value) (l : List Opt) : Prop := owns w v 47 kO (l.map encO)
def newO (n : Nat) (u : Value) : Prop := ∀ k, blockOf u k → n ≤ k
theorem newO_nil (n : Nat) : newO n (.slice none 0 0) := fun k hk => by simp [blockOf, Value.ownBlock] at hk
theorem readsO_nil (w : World) : readsO w (.slice none 0 0) [] := ⟨by simp, none, 0, rfl, ⟨fun _ => rfl, Nat.le_refl _⟩, fun h => absurd rfl h⟩
theorem gone_ofO {ρ : List V} {g : List Nat} {i : Nat} (hi : i ∈ g) {k : Nat} (h : blockOf (ρ.getD i (.i 0)).toV k) : k ∈ goneOf ρ g := List.mem_flatMap.2 ⟨i, hi, by rw [h]; simp⟩
theorem nil_rowsO {v : Value} (hn : (match v with | .slice none _ _ => true | _ => false) = true) {w : World} {ks : List Kd} {rows : List (List Value)} (h : reads w v ks rows) : rows = [] := by
  obtain ⟨_, a, cap, rfl, _, h2⟩ := h
  refine Classical.byContradiction fun hne => ?_
  obtain ⟨ad, rfl, _⟩ := h2 hne
  simp at hn
theorem c_CloneO (w : World) (v : Value) (l : List Opt) (hv : readsO w v l) (hl : l.length < 1000000000) : Calls Tryd.prog 143 #[sc1 v] w
    fun e w' => ∃ v', e = .returned (sc1 v') ∧ ownsO w' v' l ∧ (∀ k, blockOf v' k → w.heap.size ≤ k) ∧ Mod [] w w' := by
  refine as_called (run_tree2 (ρ := [.v v, .r (l.map encO)]) sxE_ok Tryd.func143 tree_slices_Clone_api_Option_api_Option rfl rfl (Rel.start2 (by simp [Ent.holds, Ent.wr, hv, X.ev])) rfl rfl ?_) rfl
  simp only [Tree.goal, X.P, X.ev, V.toI_i, V.toB_b, V.toS_s, V.toR_r, V.toV_v, V.toN_n, V.toL_l, SV.ev, CV.ev, Sc.ev, List.getD_cons_zero, List.getD_cons_succ, List.getElem?_cons_zero, List.getElem?_cons_succ, List.map_cons, List.map_nil, List.length_cons, List.length_nil, List.cons_append, List.nil_append, Nat.zero_add, Nat.reduceAdd, List.length_map, List.nil_append]
  refine ⟨fun h w' hr => ?_, fun h v1 => ⟨by simp only [Int.natCast_zero]; omega, fun v2 w' hr => ?_⟩⟩
  · have hn : l = [] := List.map_eq_nil_iff.1 (nil_rowsO h hv)
    subst hn
    exact ⟨_, rfl, hr.at_ 0 rfl, hr.fresh 0 rfl, hr.mod⟩
  · exact ⟨v2, rfl, hr.at_ 0 rfl, hr.fresh 0 rfl, hr.mod⟩
theorem c_InsO (w : World) (s v : Value) (l x : List Opt) (i : Nat) (hs : ownsO w s l) (hv : ownsO w v x) (hne : ∀ k, blockOf s k → blockOf v k → False) (hi : i ≤ l.length) (hl : l.length < 1000000000) (hx : x.length < 1000000000) :
    Calls Tryd.prog 110 #[sc1 s, .int .i64 i, sc1 v] w
    fun e w' => ∃ v', e = .returned (sc1 v') ∧ ownsO w' v' (l.take i ++ x ++ l.drop i) ∧ (∀ k, blockOf v' k → blockOf s k ∨ w.heap.size ≤ k) ∧ Mod s.ownBlock.toList w w' := by
  rw [hs.reads.sc1, hv.reads.sc1]
  refine (c_InsertO w s v i _ _ hs hv hne (by simpa using hi) (by simp; omega)).mono ?_
  rintro e w' ⟨v', rfl, g1, g2, g3⟩
  refine ⟨v', by rw [g1.reads.sc1], ?_, g2, Mod.of_grown g3 fun k hk => .inl (Option.mem_toList.2 hk)⟩
  rw [ownsO, List.map_append, List.map_append, List.map_take, List.map_drop]
  exact g1

theorem set_rowO (R : List Opt) (m : Nat) (x : Opt) : (R.map encO).set m [.int .i64 x.1, .string ⟨x.2.toArray⟩] = (R.set m x).map encO := by rw [List.map_set]; rfl
theorem noN_snoc (n : Int) (os : List Opt) (i : Nat) (h : i < os.length) : noN n (os.take (i + 1)) = noN n (os.take i) ++ (if (os.getD i oD).1 = n then [] else [os.getD i oD]) := by
  rw [takeO os i h, noN, noN, List.filter_append]
  generalize os.getD i oD = o
  by_cases h1 : o.1 = n <;> simp [h1]
theorem noN_len (n : Int) (os : List Opt) : (noN n os).length ≤ os.length := List.length_filter_le _ _
theorem noN_all {n : Int} {os : List Opt} (h : ∀ j, j < os.length → (os.getD j oD).1 ≠ n) : noN n os = os := by
  refine noN_id fun o ho => ?_
  obtain ⟨i, hi, rfl⟩ := List.getElem_of_mem ho
  have := h i hi
  rwa [List.getD_eq_getElem?_getD, List.getElem?_eq_getElem hi] at this

set_option maxHeartbeats 1000000 in
theorem c_With (w : World) (m : Msg) (v u : Value) (n : Int) (us : List (List UInt8)) (hv : readsO w v m.opts) (hu : readsS w u us) (hl : m.opts.length < 1000000000) (hul : us.length < 1000000000) :
    Calls Tryd.prog 58 #[mV m (sc1 v), .int .i64 n, sc1 u] w fun e w' => ∃ v', e = .returned (mV m (sc1 v')) ∧ readsO w' v' (withL m.opts n us) ∧ newO w.heap.size v' ∧ Mod [] w w' := by
  refine as_called (run_tree2 (ρ := [.i m.kind, .i m.code, .i m.id, .s m.tok, .v v, .r (m.opts.map encO), .s m.pay, .i n, .v u, .r (us.map encS)]) (sxE_ok.joins _) Tryd.func58 tree_option_With rfl rfl (Rel.start2 (by simp [Ent.holds, Ent.wr, hv, hu, X.ev])) rfl rfl ?_) rfl
  simp only [Tree.goal, X.P, X.ev, V.toI_i, V.toB_b, V.toS_s, V.toR_r, V.toV_v, V.toN_n, V.toL_l, SV.ev, CV.ev, Sc.ev, List.getD_cons_zero, List.getD_cons_succ, List.getElem?_cons_zero, List.getElem?_cons_succ, List.map_cons, List.map_nil, List.length_cons, List.length_nil, List.cons_append, List.nil_append, Nat.zero_add, Nat.reduceAdd, List.length_map, Int.toNat_natCast, gI_encO, gS_encO, gS_encS]
  intro b1 b2 b3 b4 b5 w1 hr
  refine (c_CloneO w1 v m.opts (hr.at_ 5 rfl) hl).mono ?_
  rintro e w2 ⟨q, rfl, a1, f1, m1⟩
  refine ⟨[.v q, .r (m.opts.map encO)], rfl, rfl, m1, List.forall_mem_nil _, List.forall_mem_cons.2 ⟨⟨a1, fun k hk => .inl (f1 k hk)⟩, List.forall_mem_nil _⟩, apart_one, ?_⟩
  clear hr a1 f1 m1
  simp only [Tree.goal, X.P, X.ev, V.toI_i, V.toB_b, V.toS_s, V.toR_r, V.toV_v, V.toN_n, V.toL_l, SV.ev, CV.ev, Sc.ev, List.getD_cons_zero, List.getD_cons_succ, List.getElem?_cons_zero, List.getElem?_cons_succ, List.map_cons, List.map_nil, List.length_cons, List.length_nil, List.cons_append, List.nil_append, Nat.zero_add, Nat.reduceAdd, List.length_map, Int.toNat_natCast, gI_encO, gS_encO, gS_encS]
  intro b6
  generalize hos : m.opts = os at hl ⊢
  refine ⟨fun vs => ∃ u', vs = [.i 0, .i 0, .i 0, .i 0, .i 0, .i 0, .i 0, .i 0, .i 0, .i 0, .v u', .i n, .r ((noN n os).map encO)], ?_, ?_⟩
  · refine ⟨fun vs => ∃ (x : V) (i : Nat), vs = [x, .i i, .i n] ∧ i ≤ os.length ∧ ∀ j, j < i → (os.getD j oD).1 ≠ n, fun vs => (os.length - (vs.getD 1 (.i 0)).toI).toNat, ⟨_, 0, rfl, by omega, fun j hj => by omega⟩, ?_⟩
    rintro _ - ⟨x, i, rfl, hi, hn⟩
    simp only [Tree.goal, X.P, X.ev, V.toI_i, V.toB_b, V.toS_s, V.toR_r, V.toV_v, V.toN_n, V.toL_l, SV.ev, CV.ev, Sc.ev, List.getD_cons_zero, List.getD_cons_succ, List.getElem?_cons_zero, List.getElem?_cons_succ, List.map_cons, List.map_nil, List.length_cons, List.length_nil, List.cons_append, List.nil_append, Nat.zero_add, Nat.reduceAdd, List.length_map, Int.toNat_natCast, gI_encO, gS_encO, gS_encS]
    refine ⟨fun h1 => ?_, fun h1 => ?_⟩
    · (repeat refine ⟨by omega, ?_⟩)
      intro b7
      refine ⟨fun h2 => ⟨fun h3 => by omega, fun h3 => ⟨by omega, by omega, ?_⟩⟩, fun h2 => ?_⟩
      · refine ⟨fun vs => ∃ (a j : Nat) (R : List Opt), vs = [.i a, .i j, .r (R.map encO), .i n] ∧ a < j ∧ j ≤ os.length ∧ R.length = os.length ∧ R.take a = noN n (os.take j) ∧ R.drop j = os.drop j, fun vs => (os.length - (vs.getD 1 (.i 0)).toI).toNat,
          ⟨i, i + 1, os, rfl, by omega, by omega, rfl, ?_, rfl⟩, ?_⟩
        · rw [noN_snoc n os i (by omega), if_pos h2, List.append_nil, noN_all]
          intro j hj
          simp only [List.length_take] at hj
          have := hn j (by omega)
          rw [List.getD_eq_getElem?_getD] at this ⊢
          rwa [List.getElem?_take_of_lt (by omega)]
        rintro _ - ⟨a, j, R, rfl, haj, hj, hR, ht, hd⟩
        simp only [Tree.goal, X.P, X.ev, V.toI_i, V.toB_b, V.toS_s, V.toR_r, V.toV_v, V.toN_n, V.toL_l, SV.ev, CV.ev, Sc.ev, List.getD_cons_zero, List.getD_cons_succ, List.getElem?_cons_zero, List.getElem?_cons_succ, List.map_cons, List.map_nil, List.length_cons, List.length_nil, List.cons_append, List.nil_append, Nat.zero_add, Nat.reduceAdd, List.length_map, Int.toNat_natCast, gI_encO, gS_encO, gS_encS, hR]
        have hg : j < os.length → R.getD j oD = os.getD j oD := fun h => by
          have := congrArg (fun l => l[0]?) hd
          simp only [List.getElem?_drop, Nat.add_zero] at this
          rw [List.getD_eq_getElem?_getD, List.getD_eq_getElem?_getD, this]
        refine ⟨fun h3 => ?_, fun h3 => ?_⟩
        · (repeat refine ⟨by omega, ?_⟩)
          intro b8 b9
          have hjl : j < os.length := by omega
          have hs1 := noN_snoc n os j hjl
          have hg := hg hjl
          have hd' : R.drop (j + 1) = os.drop (j + 1) := by
            have := congrArg (fun l => l.drop 1) hd
            simpa [List.drop_drop, Nat.add_comm] using this
          refine ⟨fun h4 => ?_, fun h4 => ?_⟩
          · (repeat refine ⟨by omega, ?_⟩)
            refine ⟨⟨a + 1, j + 1, R.set a (R.getD j oD), ?_, by omega, by omega, by simpa using hR, ?_, ?_⟩, by omega⟩
            · rw [← set_rowO]; rfl
            · rw [hs1, if_neg (by rw [← hg]; exact h4), ← ht, ← hg, takeO _ _ (by simp; omega)]
              congr 1
              · rw [List.take_set_of_le (Nat.le_refl _)]
              · rw [List.getD_eq_getElem?_getD, List.getElem?_set_self (by omega)]; rfl
            · rw [List.drop_set_of_lt (by omega)]; exact hd'
          · (repeat refine ⟨by omega, ?_⟩)
            refine ⟨⟨a, j + 1, R, rfl, by omega, by omega, hR, ?_, hd'⟩, by omega⟩
            rw [hs1, if_pos (by rw [← hg]; exact Classical.not_not.1 h4), List.append_nil]; exact ht
        · have hje : j = os.length := by omega
          subst hje
          rw [List.take_length] at ht
          refine ⟨by omega, by omega, ?_, fun u' => ⟨u', ?_⟩⟩
          · simp only [List.length_append, List.length_take, List.length_replicate, List.length_map, hR]; omega
          · congr 1
            simp only [List.cons.injEq, true_and, and_true]
            congr 1
            rw [List.take_append_of_le_length (by simp; omega), List.take_take, Nat.min_self, ← List.map_take, ht]
      · (repeat refine ⟨by omega, ?_⟩)
        refine ⟨⟨_, i + 1, rfl, by omega, fun j hj => ?_⟩, by omega⟩
        by_cases hji : j = i
        · subst hji; exact h2
        · exact hn j (by omega)
    · have hie : i = os.length := by omega
      subst hie
      refine ⟨q, ?_⟩
      rw [noN_all hn]
  rintro _ - ⟨u', rfl⟩
  generalize hN : noN n os = R
  have hRl : R.length < 1000000000 := by have := noN_len n os; rw [hN] at this; omega
  simp only [Tree.goal, X.P, X.ev, V.toI_i, V.toB_b, V.toS_s, V.toR_r, V.toV_v, V.toN_n, V.toL_l, SV.ev, CV.ev, Sc.ev, List.getD_cons_zero, List.getD_cons_succ, List.getElem?_cons_zero, List.getElem?_cons_succ, List.map_cons, List.map_nil, List.length_cons, List.length_nil, List.cons_append, List.nil_append, Nat.zero_add, Nat.reduceAdd, List.length_map, Int.toNat_natCast, gI_encO, gS_encO, gS_encS]
  refine ⟨fun vs => ∃ k : Int, vs = [.i 0, .i 0, .i n, .i 0, .i k] ∧ ((k = -1 ∧ ∀ j, j < R.length → (R.getD j oD).1 ≤ n) ∨ ∃ i : Nat, k = i ∧ i < R.length ∧ (∀ j, j < i → (R.getD j oD).1 ≤ n) ∧ n < (R.getD i oD).1), ?_, ?_⟩
  · refine ⟨fun vs => ∃ (x : V) (i : Nat), vs = [x, .i i, .i n] ∧ i ≤ R.length ∧ ∀ j, j < i → (R.getD j oD).1 ≤ n, fun vs => (R.length - (vs.getD 1 (.i 0)).toI).toNat, ⟨_, 0, rfl, by omega, fun j hj => by omega⟩, ?_⟩
    rintro _ - ⟨x, i, rfl, hi, hn⟩
    simp only [Tree.goal, X.P, X.ev, V.toI_i, V.toB_b, V.toS_s, V.toR_r, V.toV_v, V.toN_n, V.toL_l, SV.ev, CV.ev, Sc.ev, List.getD_cons_zero, List.getD_cons_succ, List.getElem?_cons_zero, List.getElem?_cons_succ, List.map_cons, List.map_nil, List.length_cons, List.length_nil, List.cons_append, List.nil_append, Nat.zero_add, Nat.reduceAdd, List.length_map, Int.toNat_natCast, gI_encO, gS_encO, gS_encS]
    refine ⟨fun h1 => ?_, fun h1 => ⟨-1, rfl, .inl ⟨rfl, fun j hj => hn j (by omega)⟩⟩⟩
    (repeat refine ⟨by omega, ?_⟩)
    intro b7
    refine ⟨fun h2 => ⟨i, rfl, .inr ⟨i, rfl, by omega, hn, h2⟩⟩, fun h2 => ?_⟩
    (repeat refine ⟨by omega, ?_⟩)
    refine ⟨⟨_, i + 1, rfl, by omega, fun j hj => ?_⟩, by omega⟩
    by_cases hji : j = i
    · subst hji; omega
    · exact hn j (by omega)
  rintro _ - ⟨k, rfl, hk⟩
  simp only [Tree.goal, X.P, X.ev, V.toI_i, V.toB_b, V.toS_s, V.toR_r, V.toV_v, V.toN_n, V.toL_l, SV.ev, CV.ev, Sc.ev, List.getD_cons_zero, List.getD_cons_succ, List.getElem?_cons_zero, List.getElem?_cons_succ, List.map_cons, List.map_nil, List.length_cons, List.length_nil, List.cons_append, List.nil_append, Nat.zero_add, Nat.reduceAdd, List.length_map, Int.toNat_natCast, gI_encO, gS_encO, gS_encS]
  refine ⟨fun vs => ∃ k : Nat, vs = [.i k] ∧ k ≤ R.length ∧ (∀ j, j < k → (R.getD j oD).1 ≤ n) ∧ (k < R.length → n < (R.getD k oD).1), ⟨fun h1 => ?_, fun h1 => ?_⟩, ?_⟩
  · rcases hk with ⟨h2, h3⟩ | ⟨i, h2, -⟩
    · exact ⟨R.length, rfl, Nat.le_refl _, h3, fun h => by omega⟩
    · omega
  · rcases hk with ⟨h2, h3⟩ | ⟨i, h2, h3, h4, h5⟩
    · omega
    · subst h2; exact ⟨i, rfl, by omega, h4, fun _ => h5⟩
  rintro _ - ⟨i, rfl, hi, h1, h2⟩
  obtain ⟨e1, e2⟩ := split_at hi h1 h2
  simp only [Tree.goal, X.P, X.ev, V.toI_i, V.toB_b, V.toS_s, V.toR_r, V.toV_v, V.toN_n, V.toL_l, SV.ev, CV.ev, Sc.ev, List.getD_cons_zero, List.getD_cons_succ, List.getElem?_cons_zero, List.getElem?_cons_succ, List.map_cons, List.map_nil, List.length_cons, List.length_nil, List.cons_append, List.nil_append, Nat.zero_add, Nat.reduceAdd, List.length_map, Int.toNat_natCast, gI_encO, gS_encO, gS_encS]
  refine ⟨fun vs => ∃ (v1 : Value) (i : Nat), vs = [.v v1, .r (((us.take i).map fun x => ((n, x) : Opt)).map encO), .i i] ∧ i ≤ us.length, fun vs => (us.length - (vs.getD 2 (.i 0)).toI).toNat, ⟨_, 0, rfl, by omega⟩, ?_⟩
  rintro _ - ⟨v1, j, rfl, hj⟩
  simp only [Tree.goal, X.P, X.ev, V.toI_i, V.toB_b, V.toS_s, V.toR_r, V.toV_v, V.toN_n, V.toL_l, SV.ev, CV.ev, Sc.ev, List.getD_cons_zero, List.getD_cons_succ, List.getElem?_cons_zero, List.getElem?_cons_succ, List.map_cons, List.map_nil, List.length_cons, List.length_nil, List.cons_append, List.nil_append, Nat.zero_add, Nat.reduceAdd, List.length_map, Int.toNat_natCast, gI_encO, gS_encO, gS_encS]
  refine ⟨fun h3 => ?_, fun h3 w3 hr => ?_⟩
  · (repeat refine ⟨by omega, ?_⟩)
    intro v2
    refine ⟨by simp; omega, fun v3 => ⟨by omega, by omega, ⟨v3, j + 1, ?_, by omega⟩, by omega⟩⟩
    rw [List.take_add_one, List.map_append, List.map_append, List.getElem?_eq_getElem (by omega), List.getD_eq_getElem?_getD, List.getElem?_eq_getElem (by omega)]
    rfl
  · have : j = us.length := by omega
    subst this
    rw [List.take_length] at hr
    refine (c_InsO w3 u' v1 R _ i (hr.at_ 1 rfl) (hr.at_ 0 rfl) (fun k h5 h6 => hr.sep.disj (i := 1) (j := 0) rfl rfl (by omega) (.inl rfl) (k := k) h5 h6) hi hRl (by simpa using hul)).mono ?_
    rintro e w4 ⟨v', rfl, g1, g2, g3⟩
    refine ⟨[.v v', .r ((R.take i ++ (us.map fun x => ((n, x) : Opt)) ++ R.drop i).map encO)], rfl, rfl, g3.mono fun k hk => .inl (by unfold modsOf; exact List.mem_append_right _ (gone_ofO (i := 28) (by simp) (Option.mem_toList.1 hk))), List.forall_mem_nil _, List.forall_mem_cons.2 ⟨⟨g1, fun k hk => ?_⟩, List.forall_mem_nil _⟩, apart_one, ?_⟩
    · rcases g2 k hk with h5 | h5
      · exact .inr (.inr (gone_ofO (i := 28) (by simp) h5))
      · exact .inl h5
    · intro w5 hr5
      refine ⟨v', rfl, ?_, hr5.fresh 0 rfl, hr5.mod⟩
      have := (hr5.at_ 0 rfl).reads
      rw [e1, e2] at this
      rw [readsO, withL, hN]
      exact this
end Go.Proofs.YtliedecinehijaaDoor

/-
  DERIVED: THE SHELF's CONTRACTS AT THIS DUMP, IN PLAIN WORDS (tools/lay-plain.mjs out of 'YtliedecinehijaaDoorShelf2.lean', which tools/lay-shelf.mjs wrote): THE SAME DECLARATIONS UNDER THE SAME NAMES: 'import', 'namespace', 'open', 'def', 'theorem' AND NOTHING ELSE: no command of the shelf's: FOR A HAND-IN. Each laying: the table of numbers ('.._ren') and one theorem, a field a fact of the dump's own or the kernel's comparison; each contract: ONE APPLICATION.
-/
namespace Go.Proofs
open Go.Shelf
def Tryd.lays144_ren : Go.Shelf.Ren := ⟨fun | 144 => 100 | 143 => 139 | 219 => 163 | 217 => 187 | 225 => 188 | 224 => 189 | 267 => 190 | 266 => 204 | 314 => 205 | n => n, fun | 9 => 9 | 4 => 4 | 3 => 3 | 5 => 5 | 46 => 91 | 146 => 222 | 51 => 199 | n => n, fun | 1 => 0 | n => n⟩
theorem Tryd.lays144 : Go.Proofs.Lays.n144 Tryd.prog Tryd.lays144_ren := {
  mixed := by kernel_rfl
  f143 := Tryd.func139.trans (congrArg some (by kernel_rfl))
  f144 := Tryd.func100.trans (congrArg some (by kernel_rfl))
  f217 := Tryd.func187.trans (congrArg some (by kernel_rfl))
  f219 := Tryd.func163.trans (congrArg some (by kernel_rfl))
  f224 := Tryd.func189.trans (congrArg some (by kernel_rfl))
  f225 := Tryd.func188.trans (congrArg some (by kernel_rfl))
  f266 := Tryd.func204.trans (congrArg some (by kernel_rfl))
  f267 := Tryd.func190.trans (congrArg some (by kernel_rfl))
  f314 := Tryd.func205.trans (congrArg some (by kernel_rfl))
  t3 := Tryd.underlying3
  a3 := Tryd.isAgg3
  z3 := Tryd.sizeOf3
  v3 := Tryd.zeroValue3
  t4 := Tryd.underlying4
  a4 := Tryd.isAgg4
  z4 := Tryd.sizeOf4
  v4 := Tryd.zeroValue4
  t5 := Tryd.underlying5
  a5 := Tryd.isAgg5
  z5 := Tryd.sizeOf5
  v5 := Tryd.zeroValue5
  t9 := Tryd.underlying9
  a9 := Tryd.isAgg9
  z9 := Tryd.sizeOf9
  v9 := Tryd.zeroValue9
  t46 := Tryd.underlying91
  a46 := Tryd.isAgg91
  z46 := Tryd.sizeOf91
  v46 := Tryd.zeroValue91
  t51 := Tryd.underlying199
  a51 := Tryd.isAgg199
  z51 := Tryd.sizeOf199
  v51 := Tryd.zeroValue199
  t146 := Tryd.underlying222
  a146 := Tryd.isAgg222
  z146 := Tryd.sizeOf222
  v146 := Tryd.zeroValue222
  g1 := by kernel_rfl }
def Tryd.lays161_ren : Go.Shelf.Ren := ⟨fun | 161 => 138 | 231 => 159 | 227 => 160 | 233 => 161 | 235 => 162 | 228 => 184 | 197 => 185 | 151 => 186 | 260 => 203 | 152 => 192 | 137 => 206 | 119 => 207 | 224 => 189 | 225 => 188 | 217 => 187 | 266 => 204 | n => n, fun | 9 => 9 | 4 => 4 | 3 => 3 | 5 => 5 | 117 => 186 | 116 => 185 | 0 => 0 | 124 => 189 | 105 => 207 | 21 => 21 | 119 => 228 | 46 => 91 | 139 => 231 | 138 => 230 | n => n, fun | 3 => 1 | 4 => 2 | n => n⟩
theorem Tryd.lays161 : Go.Proofs.Lays.n161 Tryd.prog Tryd.lays161_ren := {
  mixed := by kernel_rfl
  f119 := Tryd.func207.trans (congrArg some (by kernel_rfl))
  f137 := Tryd.func206.trans (congrArg some (by kernel_rfl))
  f151 := Tryd.func186.trans (congrArg some (by kernel_rfl))
  f152 := Tryd.func192.trans (congrArg some (by kernel_rfl))
  f161 := Tryd.func138.trans (congrArg some (by kernel_rfl))
  f197 := Tryd.func185.trans (congrArg some (by kernel_rfl))
  f217 := Tryd.func187.trans (congrArg some (by kernel_rfl))
  f224 := Tryd.func189.trans (congrArg some (by kernel_rfl))
  f225 := Tryd.func188.trans (congrArg some (by kernel_rfl))
  f227 := Tryd.func160.trans (congrArg some (by kernel_rfl))
  f228 := Tryd.func184.trans (congrArg some (by kernel_rfl))
  f231 := Tryd.func159.trans (congrArg some (by kernel_rfl))
  f233 := Tryd.func161.trans (congrArg some (by kernel_rfl))
  f235 := Tryd.func162.trans (congrArg some (by kernel_rfl))
  f260 := Tryd.func203.trans (congrArg some (by kernel_rfl))
  f266 := Tryd.func204.trans (congrArg some (by kernel_rfl))
  t0 := Tryd.underlying0
  a0 := Tryd.isAgg0
  z0 := Tryd.sizeOf0
  v0 := Tryd.zeroValue0
  t3 := Tryd.underlying3
  a3 := Tryd.isAgg3
  z3 := Tryd.sizeOf3
  v3 := Tryd.zeroValue3
  t4 := Tryd.underlying4
  a4 := Tryd.isAgg4
  z4 := Tryd.sizeOf4
  v4 := Tryd.zeroValue4
  t5 := Tryd.underlying5
  a5 := Tryd.isAgg5
  z5 := Tryd.sizeOf5
  v5 := Tryd.zeroValue5
  t9 := Tryd.underlying9
  a9 := Tryd.isAgg9
  z9 := Tryd.sizeOf9
  v9 := Tryd.zeroValue9
  t21 := Tryd.underlying21
  a21 := Tryd.isAgg21
  z21 := Tryd.sizeOf21
  v21 := Tryd.zeroValue21
  t46 := Tryd.underlying91
  a46 := Tryd.isAgg91
  z46 := Tryd.sizeOf91
  v46 := Tryd.zeroValue91
  t105 := Tryd.underlying207
  a105 := Tryd.isAgg207
  z105 := Tryd.sizeOf207
  v105 := Tryd.zeroValue207
  t116 := Tryd.underlying185
  a116 := Tryd.isAgg185
  z116 := Tryd.sizeOf185
  t117 := Tryd.underlying186
  a117 := Tryd.isAgg186
  z117 := Tryd.sizeOf186
  v117 := Tryd.zeroValue186
  t119 := Tryd.underlying228
  a119 := Tryd.isAgg228
  z119 := Tryd.sizeOf228
  t124 := Tryd.underlying189
  a124 := Tryd.isAgg189
  z124 := Tryd.sizeOf189
  v124 := Tryd.zeroValue189
  t138 := Tryd.underlying230
  a138 := Tryd.isAgg230
  z138 := Tryd.sizeOf230
  v138 := Tryd.zeroValue230
  t139 := Tryd.underlying231
  a139 := Tryd.isAgg231
  z139 := Tryd.sizeOf231
  v139 := Tryd.zeroValue231
  g3 := by kernel_rfl
  g4 := by kernel_rfl }
def Tryd.lays156_ren : Go.Shelf.Ren := ⟨fun | 156 => 101 | 165 => 140 | 166 => 135 | 169 => 87 | 240 => 158 | 241 => 164 | 276 => 183 | 277 => 191 | n => n, fun | 31 => 62 | 9 => 9 | 3 => 3 | 4 => 4 | 0 => 0 | 20 => 20 | 72 => 123 | 76 => 163 | 70 => 121 | 37 => 107 | 75 => 162 | 127 => 166 | 164 => 204 | 5 => 5 | 80 => 130 | n => n, fun | n => n⟩
theorem Tryd.lays156 : Go.Proofs.Lays.n156 Tryd.prog Tryd.lays156_ren := {
  mixed := by kernel_rfl
  f156 := Tryd.func101.trans (congrArg some (by kernel_rfl))
  f165 := Tryd.func140.trans (congrArg some (by kernel_rfl))
  f166 := Tryd.func135.trans (congrArg some (by kernel_rfl))
  f169 := Tryd.func87.trans (congrArg some (by kernel_rfl))
  f240 := Tryd.func158.trans (congrArg some (by kernel_rfl))
  f241 := Tryd.func164.trans (congrArg some (by kernel_rfl))
  f276 := Tryd.func183.trans (congrArg some (by kernel_rfl))
  f277 := Tryd.func191.trans (congrArg some (by kernel_rfl))
  t0 := Tryd.underlying0
  a0 := Tryd.isAgg0
  z0 := Tryd.sizeOf0
  v0 := Tryd.zeroValue0
  t3 := Tryd.underlying3
  a3 := Tryd.isAgg3
  z3 := Tryd.sizeOf3
  v3 := Tryd.zeroValue3
  t4 := Tryd.underlying4
  a4 := Tryd.isAgg4
  z4 := Tryd.sizeOf4
  v4 := Tryd.zeroValue4
  t9 := Tryd.underlying9
  a9 := Tryd.isAgg9
  z9 := Tryd.sizeOf9
  v9 := Tryd.zeroValue9
  t20 := Tryd.underlying20
  a20 := Tryd.isAgg20
  z20 := Tryd.sizeOf20
  v20 := Tryd.zeroValue20
  t31 := Tryd.underlying62
  a31 := Tryd.isAgg62
  z31 := Tryd.sizeOf62
  v31 := Tryd.zeroValue62
  t37 := Tryd.underlying107
  a37 := Tryd.isAgg107
  z37 := Tryd.sizeOf107
  v37 := Tryd.zeroValue107
  t70 := Tryd.underlying121
  a70 := Tryd.isAgg121
  z70 := Tryd.sizeOf121
  v70 := Tryd.zeroValue121
  t72 := Tryd.underlying123
  a72 := Tryd.isAgg123
  z72 := Tryd.sizeOf123
  v72 := Tryd.zeroValue123
  t75 := Tryd.underlying162
  a75 := Tryd.isAgg162
  z75 := Tryd.sizeOf162
  v75 := Tryd.zeroValue162
  t76 := Tryd.underlying163
  a76 := Tryd.isAgg163
  z76 := Tryd.sizeOf163
  v76 := Tryd.zeroValue163
  t127 := Tryd.underlying166
  a127 := Tryd.isAgg166
  z127 := Tryd.sizeOf166
  v127 := Tryd.zeroValue166
  t164 := Tryd.underlying204
  a164 := Tryd.isAgg204
  z164 := Tryd.sizeOf204
  v164 := Tryd.zeroValue204 }
end Go.Proofs
