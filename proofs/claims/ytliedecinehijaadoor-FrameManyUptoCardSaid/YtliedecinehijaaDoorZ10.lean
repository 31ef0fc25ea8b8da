/-
  DERIVED: THE SHELF's CONTRACTS AT THIS DUMP, IN PLAIN WORDS (tools/lay-plain.mjs out of 'YtliedecinehijaaDoorShelf.lean', which tools/lay-shelf.mjs wrote): THE SAME DECLARATIONS UNDER THE SAME NAMES: 'import', 'namespace', 'open', 'def', 'theorem' AND NOTHING ELSE: no command of the shelf's: FOR A HAND-IN. Each laying: the table of numbers ('.._ren') and one theorem, a field a fact of the dump's own or the kernel's comparison; each contract: ONE APPLICATION.
-/
import Derived.Shelf.Small.Strs
import Derived.Shelf.Strings.Search3
import Derived.Shelf.Strings.Count
import Derived.Shelf.Strings.Split
import Derived.Shelf.Strings.IndexAnyAll
import Derived.Test.YtliedecinehijaaDoorProg
import Derived.Test.YtliedecinehijaaDoorZ06
import Derived.Test.YtliedecinehijaaDoorZ09
import Derived.Test.YtliedecinehijaaDoorZ08
namespace Go.Proofs
open Go.Shelf
def Tryd.lays106_ren : Go.Shelf.Ren := ⟨fun | 106 => 120 | 213 => 150 | 265 => 179 | n => n, fun | 9 => 9 | 3 => 3 | n => n, fun | n => n⟩
theorem Tryd.lays106 : Go.Proofs.Lays.n106 Tryd.prog Tryd.lays106_ren := {
  mixed := by kernel_rfl
  f106 := Tryd.func120.trans (congrArg some (by kernel_rfl))
  f213 := Tryd.func150.trans (congrArg some (by kernel_rfl))
  f265 := Tryd.func179.trans (congrArg some (by kernel_rfl))
  t3 := Tryd.underlying3
  a3 := Tryd.isAgg3
  z3 := Tryd.sizeOf3
  v3 := Tryd.zeroValue3
  t9 := Tryd.underlying9
  a9 := Tryd.isAgg9
  z9 := Tryd.sizeOf9
  v9 := Tryd.zeroValue9 }
def Tryd.lays143_ren : Go.Shelf.Ren := ⟨fun | 143 => 139 | 219 => 163 | 217 => 187 | 225 => 188 | 224 => 189 | 267 => 190 | 266 => 204 | 314 => 205 | n => n, fun | 9 => 9 | 3 => 3 | 4 => 4 | 5 => 5 | 46 => 91 | 146 => 222 | 51 => 199 | n => n, fun | 1 => 0 | n => n⟩
theorem Tryd.lays143 : Go.Proofs.Lays.n143 Tryd.prog Tryd.lays143_ren := {
  mixed := by kernel_rfl
  f143 := Tryd.func139.trans (congrArg some (by kernel_rfl))
  f217 := Tryd.func187.trans (congrArg some (by kernel_rfl))
  f219 := Tryd.func163.trans (congrArg some (by kernel_rfl))
  f224 := Tryd.func189.trans (congrArg some (by kernel_rfl))
  f225 := Tryd.func188.trans (congrArg some (by kernel_rfl))
  f266 := Tryd.func204.trans (congrArg some (by kernel_rfl))
  f267 := Tryd.func190.trans (congrArg some (by kernel_rfl))
  f314 := Tryd.func205.trans (congrArg some (by kernel_rfl))
  t3 := Tryd.underlying3
  a3 := Tryd.isAgg3
  z3 := Tryd.sizeOf3
  v3 := Tryd.zeroValue3
  t4 := Tryd.underlying4
  a4 := Tryd.isAgg4
  z4 := Tryd.sizeOf4
  v4 := Tryd.zeroValue4
  t5 := Tryd.underlying5
  a5 := Tryd.isAgg5
  z5 := Tryd.sizeOf5
  v5 := Tryd.zeroValue5
  t9 := Tryd.underlying9
  a9 := Tryd.isAgg9
  z9 := Tryd.sizeOf9
  v9 := Tryd.zeroValue9
  t46 := Tryd.underlying91
  a46 := Tryd.isAgg91
  z46 := Tryd.sizeOf91
  v46 := Tryd.zeroValue91
  t51 := Tryd.underlying199
  a51 := Tryd.isAgg199
  z51 := Tryd.sizeOf199
  v51 := Tryd.zeroValue199
  t146 := Tryd.underlying222
  a146 := Tryd.isAgg222
  z146 := Tryd.sizeOf222
  v146 := Tryd.zeroValue222
  g1 := by kernel_rfl }
def Tryd.lays138_ren : Go.Shelf.Ren := ⟨fun | 138 => 168 | 195 => 195 | 218 => 196 | 143 => 139 | 219 => 163 | 217 => 187 | 225 => 188 | 224 => 189 | 267 => 190 | 266 => 204 | 314 => 205 | n => n, fun | 9 => 9 | 3 => 3 | 4 => 4 | 5 => 5 | 0 => 0 | 46 => 91 | 146 => 222 | 51 => 199 | n => n, fun | 1 => 0 | n => n⟩
theorem Tryd.lays138 : Go.Proofs.Lays.n138 Tryd.prog Tryd.lays138_ren := {
  mixed := by kernel_rfl
  f138 := Tryd.func168.trans (congrArg some (by kernel_rfl))
  f143 := Tryd.func139.trans (congrArg some (by kernel_rfl))
  f195 := Tryd.func195.trans (congrArg some (by kernel_rfl))
  f217 := Tryd.func187.trans (congrArg some (by kernel_rfl))
  f218 := Tryd.func196.trans (congrArg some (by kernel_rfl))
  f219 := Tryd.func163.trans (congrArg some (by kernel_rfl))
  f224 := Tryd.func189.trans (congrArg some (by kernel_rfl))
  f225 := Tryd.func188.trans (congrArg some (by kernel_rfl))
  f266 := Tryd.func204.trans (congrArg some (by kernel_rfl))
  f267 := Tryd.func190.trans (congrArg some (by kernel_rfl))
  f314 := Tryd.func205.trans (congrArg some (by kernel_rfl))
  t0 := Tryd.underlying0
  a0 := Tryd.isAgg0
  z0 := Tryd.sizeOf0
  v0 := Tryd.zeroValue0
  t3 := Tryd.underlying3
  a3 := Tryd.isAgg3
  z3 := Tryd.sizeOf3
  v3 := Tryd.zeroValue3
  t4 := Tryd.underlying4
  a4 := Tryd.isAgg4
  z4 := Tryd.sizeOf4
  v4 := Tryd.zeroValue4
  t5 := Tryd.underlying5
  a5 := Tryd.isAgg5
  z5 := Tryd.sizeOf5
  v5 := Tryd.zeroValue5
  t9 := Tryd.underlying9
  a9 := Tryd.isAgg9
  z9 := Tryd.sizeOf9
  v9 := Tryd.zeroValue9
  t46 := Tryd.underlying91
  a46 := Tryd.isAgg91
  z46 := Tryd.sizeOf91
  v46 := Tryd.zeroValue91
  t51 := Tryd.underlying199
  a51 := Tryd.isAgg199
  z51 := Tryd.sizeOf199
  v51 := Tryd.zeroValue199
  t146 := Tryd.underlying222
  a146 := Tryd.isAgg222
  z146 := Tryd.sizeOf222
  v146 := Tryd.zeroValue222
  g1 := by kernel_rfl }
def Tryd.lays221_ren : Go.Shelf.Ren := ⟨fun | 221 => 146 | 268 => 167 | 138 => 168 | 143 => 139 | 195 => 195 | 197 => 185 | 218 => 196 | 219 => 163 | 260 => 203 | 217 => 187 | 225 => 188 | 224 => 189 | 267 => 190 | 266 => 204 | 314 => 205 | n => n, fun | 9 => 9 | 3 => 3 | 31 => 62 | 4 => 4 | 0 => 0 | 105 => 207 | 21 => 21 | 5 => 5 | 46 => 91 | 119 => 228 | 139 => 231 | 138 => 230 | 146 => 222 | 51 => 199 | n => n, fun | 1 => 0 | 3 => 1 | 4 => 2 | n => n⟩
theorem Tryd.lays221 : Go.Proofs.Lays.n221 Tryd.prog Tryd.lays221_ren := {
  mixed := by kernel_rfl
  f138 := Tryd.func168.trans (congrArg some (by kernel_rfl))
  f143 := Tryd.func139.trans (congrArg some (by kernel_rfl))
  f195 := Tryd.func195.trans (congrArg some (by kernel_rfl))
  f197 := Tryd.func185.trans (congrArg some (by kernel_rfl))
  f217 := Tryd.func187.trans (congrArg some (by kernel_rfl))
  f218 := Tryd.func196.trans (congrArg some (by kernel_rfl))
  f219 := Tryd.func163.trans (congrArg some (by kernel_rfl))
  f221 := Tryd.func146.trans (congrArg some (by kernel_rfl))
  f224 := Tryd.func189.trans (congrArg some (by kernel_rfl))
  f225 := Tryd.func188.trans (congrArg some (by kernel_rfl))
  f260 := Tryd.func203.trans (congrArg some (by kernel_rfl))
  f266 := Tryd.func204.trans (congrArg some (by kernel_rfl))
  f267 := Tryd.func190.trans (congrArg some (by kernel_rfl))
  f268 := Tryd.func167.trans (congrArg some (by kernel_rfl))
  f314 := Tryd.func205.trans (congrArg some (by kernel_rfl))
  t0 := Tryd.underlying0
  a0 := Tryd.isAgg0
  z0 := Tryd.sizeOf0
  v0 := Tryd.zeroValue0
  t3 := Tryd.underlying3
  a3 := Tryd.isAgg3
  z3 := Tryd.sizeOf3
  v3 := Tryd.zeroValue3
  t4 := Tryd.underlying4
  a4 := Tryd.isAgg4
  z4 := Tryd.sizeOf4
  v4 := Tryd.zeroValue4
  t5 := Tryd.underlying5
  a5 := Tryd.isAgg5
  z5 := Tryd.sizeOf5
  v5 := Tryd.zeroValue5
  t9 := Tryd.underlying9
  a9 := Tryd.isAgg9
  z9 := Tryd.sizeOf9
  v9 := Tryd.zeroValue9
  t21 := Tryd.underlying21
  a21 := Tryd.isAgg21
  z21 := Tryd.sizeOf21
  v21 := Tryd.zeroValue21
  t31 := Tryd.underlying62
  a31 := Tryd.isAgg62
  z31 := Tryd.sizeOf62
  v31 := Tryd.zeroValue62
  t46 := Tryd.underlying91
  a46 := Tryd.isAgg91
  z46 := Tryd.sizeOf91
  v46 := Tryd.zeroValue91
  t51 := Tryd.underlying199
  a51 := Tryd.isAgg199
  z51 := Tryd.sizeOf199
  v51 := Tryd.zeroValue199
  t105 := Tryd.underlying207
  a105 := Tryd.isAgg207
  z105 := Tryd.sizeOf207
  v105 := Tryd.zeroValue207
  t119 := Tryd.underlying228
  a119 := Tryd.isAgg228
  z119 := Tryd.sizeOf228
  t138 := Tryd.underlying230
  a138 := Tryd.isAgg230
  z138 := Tryd.sizeOf230
  v138 := Tryd.zeroValue230
  t139 := Tryd.underlying231
  a139 := Tryd.isAgg231
  z139 := Tryd.sizeOf231
  v139 := Tryd.zeroValue231
  t146 := Tryd.underlying222
  a146 := Tryd.isAgg222
  z146 := Tryd.sizeOf222
  v146 := Tryd.zeroValue222
  g1 := by kernel_rfl
  g3 := by kernel_rfl
  g4 := by kernel_rfl }
def Tryd.lays150_ren : Go.Shelf.Ren := ⟨fun | 150 => 142 | 153 => 165 | 152 => 192 | 226 => 193 | 227 => 160 | 228 => 184 | 137 => 206 | 119 => 207 | 224 => 189 | 225 => 188 | 217 => 187 | 266 => 204 | n => n, fun | 9 => 9 | 4 => 4 | 3 => 3 | 5 => 5 | 21 => 21 | 117 => 186 | 116 => 185 | 0 => 0 | 46 => 91 | 124 => 189 | n => n, fun | n => n⟩
theorem Tryd.lays150 : Go.Proofs.Lays.n150 Tryd.prog Tryd.lays150_ren := {
  mixed := by kernel_rfl
  f119 := Tryd.func207.trans (congrArg some (by kernel_rfl))
  f137 := Tryd.func206.trans (congrArg some (by kernel_rfl))
  f150 := Tryd.func142.trans (congrArg some (by kernel_rfl))
  f152 := Tryd.func192.trans (congrArg some (by kernel_rfl))
  f153 := Tryd.func165.trans (congrArg some (by kernel_rfl))
  f217 := Tryd.func187.trans (congrArg some (by kernel_rfl))
  f224 := Tryd.func189.trans (congrArg some (by kernel_rfl))
  f225 := Tryd.func188.trans (congrArg some (by kernel_rfl))
  f226 := Tryd.func193.trans (congrArg some (by kernel_rfl))
  f227 := Tryd.func160.trans (congrArg some (by kernel_rfl))
  f228 := Tryd.func184.trans (congrArg some (by kernel_rfl))
  f266 := Tryd.func204.trans (congrArg some (by kernel_rfl))
  t0 := Tryd.underlying0
  a0 := Tryd.isAgg0
  z0 := Tryd.sizeOf0
  v0 := Tryd.zeroValue0
  t3 := Tryd.underlying3
  a3 := Tryd.isAgg3
  z3 := Tryd.sizeOf3
  v3 := Tryd.zeroValue3
  t4 := Tryd.underlying4
  a4 := Tryd.isAgg4
  z4 := Tryd.sizeOf4
  v4 := Tryd.zeroValue4
  t5 := Tryd.underlying5
  a5 := Tryd.isAgg5
  z5 := Tryd.sizeOf5
  v5 := Tryd.zeroValue5
  t9 := Tryd.underlying9
  a9 := Tryd.isAgg9
  z9 := Tryd.sizeOf9
  v9 := Tryd.zeroValue9
  t21 := Tryd.underlying21
  a21 := Tryd.isAgg21
  z21 := Tryd.sizeOf21
  v21 := Tryd.zeroValue21
  t46 := Tryd.underlying91
  a46 := Tryd.isAgg91
  z46 := Tryd.sizeOf91
  v46 := Tryd.zeroValue91
  t116 := Tryd.underlying185
  a116 := Tryd.isAgg185
  z116 := Tryd.sizeOf185
  t117 := Tryd.underlying186
  a117 := Tryd.isAgg186
  z117 := Tryd.sizeOf186
  v117 := Tryd.zeroValue186
  t124 := Tryd.underlying189
  a124 := Tryd.isAgg189
  z124 := Tryd.sizeOf189
  v124 := Tryd.zeroValue189 }
end Go.Proofs

/-
  Topics: levels of a text. By an AI agent.
-/
set_option linter.unusedSimpArgs false
set_option linter.unusedVariables false
namespace Go.Proofs.YtliedecinehijaaDoor
open Go.Sx

def encS (s : List UInt8) : List Value := [.string ⟨s.toArray⟩]
theorem gS_encS (ps : List (List UInt8)) (i : Nat) : Value.gS (((ps.map encS).getD i []).getD 0 undef) = ps.getD i [] := by
  simp only [List.getD_eq_getElem?_getD, List.getElem?_map]
  cases ps[i]? <;> simp [encS, Value.gS, undef]
abbrev readsS (w : World) (v : Value) (ps : List (List UInt8)) : Prop := reads w v [.str] (ps.map encS)
def freshS (n : Nat) (v : Value) (ps : List (List UInt8)) : Prop := ∀ k, (ps.map encS).flatten ≠ [] ∧ blockOf v k → n ≤ k
theorem dropS (ps : List (List UInt8)) (i : Nat) (h : i < ps.length) : ps.drop i = ps.getD i [] :: ps.drop (i + 1) := by
  rw [List.drop_eq_getElem_cons h, List.getD_eq_getElem?_getD, List.getElem?_eq_getElem h]; rfl
theorem drop_getD' (s : List UInt8) (k : Nat) (h : k < s.length) : s.drop k = s.getD k 0 :: s.drop (k + 1) := by
  rw [List.drop_eq_getElem_cons h, List.getD_eq_getElem?_getD, List.getElem?_eq_getElem h]; rfl
theorem u8_lt' (b : UInt8) : b.toNat < 256 := b.toNat_lt

/-- The levels of a text. -/
def lev : List UInt8 → List (List UInt8)
  | [] => [[]]
  | c :: l => if c = 47 then [] :: lev l else match lev l with | [] => [[c]] | x :: xs => (c :: x) :: xs
def glue (p : List UInt8) : List (List UInt8) → List (List UInt8)
  | [] => []
  | x :: xs => (p ++ x) :: xs
theorem glue_nil (l : List (List UInt8)) : glue [] l = l := by cases l <;> rfl
theorem lev_ne (s : List UInt8) : ∃ x xs, lev s = x :: xs := by
  cases s with
  | nil => exact ⟨[], [], rfl⟩
  | cons c l =>
    simp only [lev]
    split
    · exact ⟨_, _, rfl⟩
    · split <;> exact ⟨_, _, rfl⟩
theorem lev_slash (l : List UInt8) : lev (47 :: l) = [] :: lev l := by simp [lev]
theorem lev_other {c : UInt8} (l : List UInt8) (h : c ≠ 47) : lev (c :: l) = glue [c] (lev l) := by
  obtain ⟨x, xs, e⟩ := lev_ne l
  simp [lev, if_neg h, e, glue]
theorem glue_glue (p q : List UInt8) (l : List (List UInt8)) : glue p (glue q l) = glue (p ++ q) l := by cases l <;> simp [glue]

theorem c_LevelsOf (w : World) (s : List UInt8) (hs : s.length < 1099511627776) : Calls Tryd.prog 33 #[.string ⟨s.toArray⟩] w
    fun e w' => ∃ v, e = .returned (sc1 v) ∧ readsS w' v (lev s) ∧ freshS w.heap.size v (lev s) ∧ Mod [] w w' := by
  refine as_called (run_plain2 (ρ := [.s s]) sxE_ok Tryd.func33 tree_dragomanref_LevelsOf rfl rfl rfl ?_) rfl
  simp only [Tree.goal, X.P, X.ev, V.toI_i, V.toB_b, V.toS_s, V.toR_r, V.toV_v, V.toN_n, V.toL_l, SV.ev, CV.ev, Sc.ev, List.getD_cons_zero, List.getD_cons_succ, List.getElem?_cons_zero, List.getElem?_cons_succ, List.map_cons, List.map_nil, List.length_cons, List.length_nil, List.cons_append, List.nil_append, Nat.zero_add, Nat.reduceAdd]
  refine ⟨fun vs => ∃ (v : Value) (acc : List (List UInt8)) (a i : Nat), vs = [.v v, .r (acc.map encS), .i a, .i i] ∧ acc.length ≤ i ∧
      (i ≤ s.length ∧ a ≤ i ∧ acc ++ glue ((s.take i).drop a) (lev (s.drop i)) = lev s ∨ i = s.length + 1 ∧ acc = lev s), fun vs => s.length + 1 - (vs.getD 3 (.i 0)).toI.toNat, ⟨_, [], 0, 0, rfl, by simp, .inl ⟨by omega, by omega, by simp [glue_nil]⟩⟩, ?_⟩
  rintro _ - ⟨v, acc, a, i, rfl, hal, hinv⟩
  simp only [Tree.goal, X.P, X.ev, V.toI_i, V.toB_b, V.toS_s, V.toR_r, V.toV_v, V.toN_n, V.toL_l, SV.ev, CV.ev, Sc.ev, List.getD_cons_zero, List.getD_cons_succ, List.getElem?_cons_zero, List.getElem?_cons_succ, List.map_cons, List.map_nil, List.length_cons, List.length_nil, List.cons_append, List.nil_append, Nat.zero_add, Nat.reduceAdd, List.length_map, Int.toNat_natCast]
  refine ⟨fun h1 => ?_, fun h1 w' hr => ?_⟩
  · obtain ⟨hi, ha, hg⟩ := hinv.resolve_right fun h => by omega
    refine ⟨.inr (by omega), by omega, fun h2 => ?_, fun h2 => ?_⟩
    · (repeat refine ⟨by omega, ?_⟩)
      intro v1
      refine ⟨by omega, fun v2 => ⟨by omega, by omega, ⟨v2, acc ++ [(s.take i).drop a], i + 1, i + 1, by simp [encS], by simp; omega, ?_⟩, by omega⟩⟩
      by_cases h3 : i = s.length
      · subst h3
        rw [List.drop_length] at hg
        exact .inr ⟨rfl, by rw [← hg]; simp [lev, glue]⟩
      · refine .inl ⟨by omega, by omega, ?_⟩
        have h4 : s.getD i 0 = 47 := by
          have : (s.getD i 0).toNat = 47 := by
            rcases h2 with h2 | h2
            · omega
            · omega
          exact UInt8.toNat_inj.1 this
        rw [drop_getD' s i (by omega), h4, lev_slash] at hg
        have hz : glue ((s.take (i + 1)).drop (i + 1)) (lev (s.drop (i + 1))) = lev (s.drop (i + 1)) := by rw [List.drop_of_length_le (by simp; omega), glue_nil]
        rw [hz, ← hg]
        simp [glue]
    · refine ⟨by omega, by omega, ⟨v, acc, a, i + 1, rfl, by omega, .inl ⟨by omega, by omega, ?_⟩⟩, by omega⟩
      have h4 : s.getD i 0 ≠ 47 := fun h => h2 (.inr (by rw [h]; rfl))
      rw [drop_getD' s i (by omega), lev_other _ h4, glue_glue] at hg
      rw [← hg]
      congr 2
      rw [List.take_add_one, List.drop_append_of_le_length (by simp; omega), List.getD_eq_getElem?_getD]
      rw [List.getElem?_eq_getElem (by omega)]
      rfl
  · obtain ⟨hi, hg⟩ := hinv.resolve_left fun h => by omega
    subst hg
    refine ⟨v, rfl, owns.reads (hr.at_ 0 rfl), fun k hk => ?_, hr.mod⟩
    rcases hr.own _ (List.mem_cons_self ..) rfl k hk.2 with h | h
    · exact h
    · simp at h

theorem lev_miss : ∀ {s : List UInt8}, Lib.indexByte s 47 = -1 → lev s = [s] := by
  intro s
  induction s with
  | nil => intro _; rfl
  | cons c l ih =>
    intro h
    unfold Lib.indexByte at h
    split at h
    · exact absurd h (by decide)
    · rename_i hc
      have hc : c ≠ 47 := by simpa using hc
      split at h
      · rename_i h2
        rw [lev_other _ hc, ih (by simpa using h2)]; rfl
      · have := Lib.indexByte_ge l 47
        omega
theorem lev_hit : ∀ {s : List UInt8} {i : Nat}, Lib.indexByte s 47 = i → lev s = s.take i :: lev (s.drop (i + 1)) ∧ s.count 47 = (s.drop (i + 1)).count 47 + 1 := by
  intro s
  induction s with
  | nil => intro i h; unfold Lib.indexByte at h; omega
  | cons c l ih =>
    intro i h
    unfold Lib.indexByte at h
    split at h
    · rename_i hc
      have hc : c = 47 := by simpa using hc
      have : i = 0 := by omega
      subst this hc
      rw [lev_slash]
      simp
    · rename_i hc
      have hc : c ≠ 47 := by simpa using hc
      split at h
      · omega
      · rename_i h2
        have h3 := Lib.indexByte_ge l 47
        have h2 : ¬ Lib.indexByte l 47 = -1 := by simpa using h2
        obtain ⟨j, hj⟩ : ∃ j : Nat, Lib.indexByte l 47 = j := ⟨(Lib.indexByte l 47).toNat, by omega⟩
        have hij : i = j + 1 := by omega
        subst hij
        obtain ⟨e1, e2⟩ := ih hj
        rw [lev_other _ hc, e1]
        refine ⟨by simp [glue], ?_⟩
        rw [List.count_cons_of_ne hc, e2]; simp
theorem splitK_lev : ∀ (k : Nat) (s : List UInt8), s.count 47 = k → Lib.splitK [47] 0 k s = lev s := by
  intro k
  induction k with
  | zero =>
    intro s h
    unfold Lib.splitK
    refine (lev_miss ?_).symm
    rcases Int.lt_or_le (Lib.indexByte s 47) 0 with h1 | h1
    · have := Lib.indexByte_ge s 47; omega
    · obtain ⟨i, hi⟩ : ∃ i : Nat, Lib.indexByte s 47 = i := ⟨(Lib.indexByte s 47).toNat, by omega⟩
      have := (lev_hit hi).2
      omega
  | succ k ih =>
    intro s h
    unfold Lib.splitK
    rw [Lib.index_one]
    by_cases h1 : Lib.indexByte s 47 = -1
    · rw [if_pos (by simpa using h1), lev_miss h1]
    · rw [if_neg (by simpa using h1)]
      obtain ⟨i, hi⟩ : ∃ i : Nat, Lib.indexByte s 47 = i := ⟨(Lib.indexByte s 47).toNat, by have h5 := Lib.indexByte_ge s 47; have h6 : ¬ Lib.indexByte s 47 = -1 := h1; omega⟩
      obtain ⟨e1, e2⟩ := lev_hit hi
      rw [hi, e1, ← ih (s.drop (i + 1)) (by omega)]
      simp

/-- strings.Split at a slash: what it hands back. -/
theorem c_genSplit (w : World) (s : List UInt8) (hs : s.length < 4294967281) : Calls Tryd.prog 146 #[.string ⟨s.toArray⟩, .string ⟨#[47]⟩, .int .i64 0, .int .i64 (-1)] w
    fun e w' => ∃ v, e = .returned (sc1 v) ∧ readsS w' v (lev s) ∧ freshS w.heap.size v (lev s) ∧ Mod [] w w' := by
  have hsz : (⟨s.toArray⟩ : ByteArray).size = s.length := rfl
  have hcount : Lib.countB ⟨s.toArray⟩ ⟨#[47]⟩ = s.count 47 := Lib.count_one 47 s
  have hc1 : s.count 47 ≤ s.length := List.count_le_length
  have c := Any.strings_genSplit_core Tryd.lays221 (by kernel_rfl) ⟨s.toArray⟩ ⟨#[47]⟩ 0 (-1) (s.count 47 + 1) w (by rw [hsz]; exact hs) (by decide) (Nat.zero_le _)
    (fun x c hx => (Any.strings_Index_one { Tryd.lays221 with } x 47 _).mono fun e w' ⟨h1, h2⟩ => ⟨by rw [h1]; show _ = Ending.returned (Value.int .i64 (Lib.index x.data.toList [47])); rw [Lib.index_one], h2⟩)
    ((Any.strings_Count_one { Tryd.lays221 with } ⟨s.toArray⟩ 47 w).mono fun e w' ⟨h1, h2⟩ => ⟨by rw [h1, hcount]; rfl, h2⟩) (by decide) (by decide) (by rw [if_pos (by decide), hcount, hsz]; omega)
  refine (as_called c rfl).mono ?_
  rintro e w' ⟨rfl, rfl⟩
  rw [Nat.add_sub_cancel]
  have hdata := Lib.splitB_data ⟨#[47]⟩ 0 (s.count 47) ⟨s.toArray⟩
  have hlev : (Lib.splitB ⟨#[47]⟩ 0 (s.count 47) ⟨s.toArray⟩).map (·.data.toList) = lev s := hdata.trans (splitK_lev _ s rfl)
  have hlen := Lib.splitB_all ⟨#[47]⟩ (by decide) 0 (s.count 47) ⟨s.toArray⟩ hcount
  generalize Lib.splitB ⟨#[47]⟩ 0 (s.count 47) ⟨s.toArray⟩ = pcs at hlev hlen
  rw [hlen]
  have hll : (lev s).length = s.count 47 + 1 := by rw [← hlev, List.length_map, hlen]
  have hfull : Lib.cellsOf pcs (s.count 47 + 1) = (pcs.map Value.string).toArray := by rw [← hlen]; exact Lib.cellsOf_full _
  have hrow : (lev s).map encS = pcs.map fun b => [Value.string b] := by
    rw [← hlev, List.map_map]
    refine List.map_congr_left fun b _ => ?_
    obtain ⟨⟨l⟩⟩ := b
    rfl
  have hfl : (pcs.map fun b => [Value.string b]).flatten = pcs.map Value.string := by
    clear hlev hlen hfull hrow
    induction pcs <;> simp_all
  refine ⟨.slice (some ⟨w.heap.size, 0, none⟩) (s.count 47 + 1) (s.count 47 + 1), rfl, ⟨?_, some ⟨w.heap.size, 0, none⟩, s.count 47 + 1, by rw [List.length_map, hll], ⟨(fun h => by cases h), by rw [List.length_map, hll]; exact Nat.le_refl _⟩, fun _ => ⟨_, rfl, fun j u hj => ?_⟩⟩, fun k hk => ?_, Mod.alloc [] w _⟩
  · intro r hr
    obtain ⟨x, -, rfl⟩ := List.mem_map.1 hr
    exact ⟨⟨_, rfl⟩, trivial⟩
  · rw [hrow, hfl] at hj
    rw [add_mk, Nat.zero_add, hfull]
    exact (World.cell?_alloc_new ..).trans (by simpa using hj)
  · have h := hk.2
    simp only [blockOf, Value.ownBlock, Option.some.injEq] at h
    omega
end Go.Proofs.YtliedecinehijaaDoor

/-
  Topics: what is wrong with one. By an AI agent.
-/
set_option linter.unusedSimpArgs false
set_option linter.unusedVariables false
namespace Go.Proofs.YtliedecinehijaaDoor
open Go.Sx

theorem c_Split (w : World) (s : List UInt8) (hs : s.length < 4294967281) : Calls Tryd.prog 111 #[.string ⟨s.toArray⟩, .string ⟨#[47]⟩] w
    fun e w' => ∃ v, e = .returned (sc1 v) ∧ readsS w' v (lev s) ∧ freshS w.heap.size v (lev s) ∧ Mod [] w w' := by
  refine as_called (run_plain2 (ρ := [.s s, .s [47]]) sxE_ok Tryd.func111 tree_strings_Split rfl rfl rfl ?_) rfl
  simp only [Tree.goal, X.P, X.ev, V.toI_i, V.toB_b, V.toS_s, V.toR_r, V.toV_v, V.toN_n, V.toL_l, SV.ev, CV.ev, Sc.ev, List.getD_cons_zero, List.getD_cons_succ, List.getElem?_cons_zero, List.getElem?_cons_succ, List.map_cons, List.map_nil, List.length_cons, List.length_nil, List.cons_append, List.nil_append, Nat.zero_add, Nat.reduceAdd]
  intro w1 hr
  refine (c_genSplit w1 s hs).mono ?_
  rintro e w2 ⟨v1, rfl, r1, f1, m1⟩
  have hsz := hr.mod.size
  refine ⟨[.v v1, .r ((lev s).map encS)], rfl, rfl, m1, List.forall_mem_nil _, List.forall_mem_cons.2 ⟨⟨r1, fun k hk => .inl (f1 k hk)⟩, List.forall_mem_nil _⟩, apart_one, ?_⟩
  simp only [Tree.goal, X.P, X.ev, V.toI_i, V.toB_b, V.toS_s, V.toR_r, V.toV_v, V.toN_n, V.toL_l, SV.ev, CV.ev, Sc.ev, List.getD_cons_zero, List.getD_cons_succ, List.getElem?_cons_zero, List.getElem?_cons_succ, List.map_cons, List.map_nil, List.length_cons, List.length_nil, List.cons_append, List.nil_append, Nat.zero_add, Nat.reduceAdd]
  exact fun w' hr => ⟨v1, rfl, hr.at_ 0 rfl, fun k hk => Nat.le_trans hsz (f1 k hk), hr.mod⟩
theorem c_Levels (w : World) (s : List UInt8) (hs : s.length < 4294967281) : Calls Tryd.prog 59 #[.string ⟨s.toArray⟩] w
    fun e w' => ∃ v, e = .returned (sc1 v) ∧ readsS w' v (lev s) ∧ freshS w.heap.size v (lev s) ∧ Mod [] w w' := by
  refine as_called (run_plain2 (ρ := [.s s]) sxE_ok Tryd.func59 tree_topic_Levels rfl rfl rfl ?_) rfl
  simp only [Tree.goal, X.P, X.ev, V.toI_i, V.toB_b, V.toS_s, V.toR_r, V.toV_v, V.toN_n, V.toL_l, SV.ev, CV.ev, Sc.ev, List.getD_cons_zero, List.getD_cons_succ, List.getElem?_cons_zero, List.getElem?_cons_succ, List.map_cons, List.map_nil, List.length_cons, List.length_nil, List.cons_append, List.nil_append, Nat.zero_add, Nat.reduceAdd]
  intro w1 hr
  refine (c_Split w1 s hs).mono ?_
  rintro e w2 ⟨v1, rfl, r1, f1, m1⟩
  have hsz := hr.mod.size
  refine ⟨[.v v1, .r ((lev s).map encS)], rfl, rfl, m1, List.forall_mem_nil _, List.forall_mem_cons.2 ⟨⟨r1, fun k hk => .inl (f1 k hk)⟩, List.forall_mem_nil _⟩, apart_one, ?_⟩
  simp only [Tree.goal, X.P, X.ev, V.toI_i, V.toB_b, V.toS_s, V.toR_r, V.toV_v, V.toN_n, V.toL_l, SV.ev, CV.ev, Sc.ev, List.getD_cons_zero, List.getD_cons_succ, List.getElem?_cons_zero, List.getElem?_cons_succ, List.map_cons, List.map_nil, List.length_cons, List.length_nil, List.cons_append, List.nil_append, Nat.zero_add, Nat.reduceAdd]
  exact fun w' hr => ⟨v1, rfl, hr.at_ 0 rfl, fun k hk => Nat.le_trans hsz (f1 k hk), hr.mod⟩

/-- Only signs that may be seen. -/
def plainS (s : List UInt8) : Bool := s.all fun b => decide (33 ≤ b.toNat ∧ b.toNat ≤ 126)
theorem plain_snoc (s : List UInt8) (i : Nat) (h : i < s.length) : plainS (s.take (i + 1)) = (plainS (s.take i) && decide (33 ≤ (s.getD i 0).toNat ∧ (s.getD i 0).toNat ≤ 126)) := by
  rw [List.take_add_one, List.getD_eq_getElem?_getD, List.getElem?_eq_getElem h]
  simp only [plainS, List.all_append, Option.toList_some, List.all_cons, List.all_nil, Bool.and_true, Option.getD_some]
theorem plain_not {s : List UInt8} {i : Nat} (h : i < s.length) (h1 : ¬ (33 ≤ (s.getD i 0).toNat ∧ (s.getD i 0).toNat ≤ 126)) : plainS s = false := by
  rw [← Bool.not_eq_true]
  intro h2
  rw [plainS, List.all_eq_true] at h2
  have := h2 (s.getD i 0) (by rw [List.getD_eq_getElem?_getD, List.getElem?_eq_getElem h]; exact List.getElem_mem h)
  exact h1 (of_decide_eq_true this)
theorem c_IsPlain (w : World) (s : List UInt8) (hs : s.length < 1099511627776) : Calls Tryd.prog 63 #[.string ⟨s.toArray⟩] w fun e w' => e = .returned (.bool (plainS s)) ∧ Mod [] w w' := by
  refine as_called (run_plain2 (ρ := [.s s]) sxE_ok Tryd.func63 tree_dragomanref_IsPlain rfl rfl rfl ?_) rfl
  simp only [Tree.goal, X.P, X.ev, V.toI_i, V.toB_b, V.toS_s, V.toR_r, V.toV_v, V.toN_n, V.toL_l, SV.ev, CV.ev, Sc.ev, List.getD_cons_zero, List.getD_cons_succ, List.getElem?_cons_zero, List.getElem?_cons_succ, List.map_cons, List.map_nil, List.length_cons, List.length_nil, List.cons_append, List.nil_append, Nat.zero_add, Nat.reduceAdd]
  refine ⟨fun vs => ∃ (x : V) (i : Nat), vs = [x, .i i] ∧ i ≤ s.length ∧ plainS (s.take i) = true, fun vs => s.length - (vs.getD 1 (.i 0)).toI.toNat, ⟨_, 0, rfl, by omega, rfl⟩, ?_⟩
  rintro _ - ⟨x, i, rfl, hi, hp⟩
  simp only [Tree.goal, X.P, X.ev, V.toI_i, V.toB_b, V.toS_s, V.toR_r, V.toV_v, V.toN_n, V.toL_l, SV.ev, CV.ev, Sc.ev, List.getD_cons_zero, List.getD_cons_succ, List.getElem?_cons_zero, List.getElem?_cons_succ, List.map_cons, List.map_nil, List.length_cons, List.length_nil, List.cons_append, List.nil_append, Nat.zero_add, Nat.reduceAdd, Int.toNat_natCast]
  refine ⟨fun h1 => ⟨by omega, fun h2 w' hr => ⟨by rw [plain_not (i := i) (by omega) (by omega)], hr.mod⟩, fun h2 => ⟨by omega, by omega, ⟨x, i + 1, rfl, by omega, ?_⟩, by omega⟩⟩, fun h1 w' hr => ⟨?_, hr.mod⟩⟩
  · rw [plain_snoc _ _ (by omega), hp, Bool.true_and, decide_eq_true_eq]; omega
  · have : i = s.length := by omega
    subst this
    rw [List.take_length] at hp; rw [hp]
theorem c_Plain (w : World) (s : List UInt8) (hs : s.length < 1099511627776) : Calls Tryd.prog 141 #[.string ⟨s.toArray⟩] w fun e w' => e = .returned (.bool (plainS s)) ∧ Mod [] w w' := by
  refine as_called (run_plain2 (ρ := [.s s]) sxE_ok Tryd.func141 tree_topic_Plain rfl rfl rfl ?_) rfl
  simp only [Tree.goal, X.P, X.ev, V.toI_i, V.toB_b, V.toS_s, V.toR_r, V.toV_v, V.toN_n, V.toL_l, SV.ev, CV.ev, Sc.ev, List.getD_cons_zero, List.getD_cons_succ, List.getElem?_cons_zero, List.getElem?_cons_succ, List.map_cons, List.map_nil, List.length_cons, List.length_nil, List.cons_append, List.nil_append, Nat.zero_add, Nat.reduceAdd]
  refine ⟨fun vs => ∃ (x : V) (i : Nat), vs = [x, .i i] ∧ i ≤ s.length ∧ plainS (s.take i) = true, fun vs => s.length - (vs.getD 1 (.i 0)).toI.toNat, ⟨_, 0, rfl, by omega, rfl⟩, ?_⟩
  rintro _ - ⟨x, i, rfl, hi, hp⟩
  simp only [Tree.goal, X.P, X.ev, V.toI_i, V.toB_b, V.toS_s, V.toR_r, V.toV_v, V.toN_n, V.toL_l, SV.ev, CV.ev, Sc.ev, List.getD_cons_zero, List.getD_cons_succ, List.getElem?_cons_zero, List.getElem?_cons_succ, List.map_cons, List.map_nil, List.length_cons, List.length_nil, List.cons_append, List.nil_append, Nat.zero_add, Nat.reduceAdd, Int.toNat_natCast]
  refine ⟨fun h1 => ⟨by omega, fun h2 w' hr => ⟨by rw [plain_not (i := i) (by omega) (by omega)], hr.mod⟩, fun h2 => ⟨by omega, by omega, ⟨x, i + 1, rfl, by omega, ?_⟩, by omega⟩⟩, fun h1 w' hr => ⟨?_, hr.mod⟩⟩
  · rw [plain_snoc _ _ (by omega), hp, Bool.true_and, decide_eq_true_eq]; omega
  · have : i = s.length := by omega
    subst this
    rw [List.take_length] at hp; rw [hp]

/-- Has a level a sign for others? -/
def wild (x : List UInt8) : Bool := x.any fun b => b == 43 || b == 35
theorem has_wild : ∀ x : List UInt8, Lib.containsAny x [43, 35] = wild x := by
  intro x
  induction x with
  | nil => rfl
  | cons b l ih =>
    have hg := Lib.indexAny_ge [43, 35] l
    unfold Lib.containsAny at ih ⊢
    unfold Lib.indexAny
    simp only [wild, List.any_cons]
    by_cases h : b = 43 ∨ b = 35
    · have h1 : ([43, 35] : List UInt8).contains b = true := by rcases h with h | h <;> subst h <;> decide
      have h2 : (b == 43 || b == 35) = true := by rcases h with h | h <;> subst h <;> decide
      rw [if_pos h1, h2] <;> rfl
    · have h1 : ¬ ([43, 35] : List UInt8).contains b = true := by simp; exact ⟨fun h2 => h (.inl h2), fun h2 => h (.inr h2)⟩
      have h2 : (b == 43 || b == 35) = false := by simp; exact ⟨fun h2 => h (.inl h2), fun h2 => h (.inr h2)⟩
      rw [if_neg h1, h2, Bool.false_or]
      change _ = wild l
      rw [← ih]
      by_cases h3 : Lib.indexAny l [43, 35] = -1
      · rw [if_pos (by simpa using h3), h3] <;> rfl
      · rw [if_neg (by simpa using h3)]
        exact decide_eq_decide.2 (by omega)
theorem c_ContainsAny (w : World) (x : List UInt8) (hs : x.length < 4294967281) (ha : ∀ b ∈ x, b.toNat < 128) : Calls Tryd.prog 142 #[.string ⟨x.toArray⟩, .string ⟨#[43, 35]⟩] w fun e w' => e = .returned (.bool (wild x)) ∧ Mod [] w w' := by
  refine (as_called (Any.strings_ContainsAny_laid Tryd.lays150 (by kernel_rfl) ⟨x.toArray⟩ ⟨#[43, 35]⟩ w hs (by decide) (fun j b hb => ha b (List.mem_of_getElem? hb)) (fun j b hb => ?_)) rfl).mono ?_
  · have : b ∈ ([43, 35] : List UInt8) := List.mem_of_getElem? hb
    simp at this
    rcases this with rfl | rfl <;> decide
  · rintro e w' ⟨h1, h2⟩
    refine ⟨?_, Mod.of_below h2⟩
    rw [h1]
    exact congrArg (fun b => Ending.returned (Value.bool b)) (has_wild x)

/-- Levels that may not stand there. -/
def badL (filter : Bool) : List (List UInt8) → Bool
  | [] => false
  | x :: r => (wild x && (!filter || (!decide (x = [43]) && (!decide (x = [35]) || !decide (r = []))))) || badL filter r
/-- What is wrong with a topic, or a filter. -/
def chkT (s : List UInt8) (filter : Bool) : Int :=
  if s = [] then 1 else if 60 < (s.length : Int) ∨ 6 < ((lev s).length : Int) then 2 else if plainS s = true then (if badL filter (lev s) = true then 1 else 0) else 1
theorem chkT_nil {f : Bool} : chkT [] f = 1 := rfl
theorem chkT_many {s : List UInt8} {f : Bool} (h : ¬ s = []) (h1 : 60 < (s.length : Int) ∨ 6 < ((lev s).length : Int)) : chkT s f = 2 := by rw [chkT, if_neg h, if_pos h1]
theorem chkT_plain {s : List UInt8} {f : Bool} (h : ¬ s = []) (h1 : ¬ (60 < (s.length : Int) ∨ 6 < ((lev s).length : Int))) (h2 : ¬ plainS s = true) : chkT s f = 1 := by rw [chkT, if_neg h, if_neg h1, if_neg h2]
theorem chkT_lev {s : List UInt8} {f : Bool} (h : ¬ s = []) (h1 : ¬ (60 < (s.length : Int) ∨ 6 < ((lev s).length : Int))) (h2 : plainS s = true) : chkT s f = if badL f (lev s) = true then 1 else 0 := by rw [chkT, if_neg h, if_neg h1, if_pos h2]

theorem lev_mem : ∀ {s x : List UInt8}, x ∈ lev s → ∀ b ∈ x, b ∈ s := by
  intro s
  induction s with
  | nil => intro x hx b hb; simp [lev] at hx; subst hx; simp at hb
  | cons c l ih =>
    intro x hx b hb
    by_cases hc : c = 47
    · subst hc
      rw [lev_slash] at hx
      rcases List.mem_cons.1 hx with rfl | hx
      · simp at hb
      · exact List.mem_cons_of_mem _ (ih hx b hb)
    · obtain ⟨y, ys, e⟩ := lev_ne l
      rw [lev_other _ hc, e] at hx
      rcases List.mem_cons.1 hx with rfl | hx
      · rcases List.mem_append.1 hb with hb | hb
        · simp at hb; subst hb; simp
        · exact List.mem_cons_of_mem _ (ih (by rw [e]; exact List.mem_cons_self ..) b hb)
      · exact List.mem_cons_of_mem _ (ih (by rw [e]; exact List.mem_cons_of_mem _ hx) b hb)
theorem getD_mem {ps : List (List UInt8)} {i : Nat} (h : i < ps.length) : ps.getD i [] ∈ ps := by
  rw [List.getD_eq_getElem?_getD, List.getElem?_eq_getElem h]; exact List.getElem_mem h
theorem lev_ascii {s : List UInt8} (hp : plainS s = true) {i : Nat} (h : i < (lev s).length) : ∀ b ∈ (lev s).getD i [], b.toNat < 128 := fun b hb => by
  have h1 := lev_mem (getD_mem h) b hb
  have := of_decide_eq_true (List.all_eq_true.1 hp b h1)
  omega
theorem lev_size {s x : List UInt8} (hx : x ∈ lev s) : x.length ≤ s.length := by
  induction s generalizing x with
  | nil => simp [lev] at hx; subst hx; simp
  | cons c l ih =>
    by_cases hc : c = 47
    · subst hc
      rw [lev_slash] at hx
      rcases List.mem_cons.1 hx with rfl | hx
      · simp
      · have := ih hx; simp; omega
    · obtain ⟨y, ys, e⟩ := lev_ne l
      rw [lev_other _ hc, e] at hx
      rcases List.mem_cons.1 hx with rfl | hx
      · have := ih (x := y) (by rw [e]; exact List.mem_cons_self ..); simp; omega
      · have := ih (x := x) (by rw [e]; exact List.mem_cons_of_mem _ hx); simp; omega
theorem lev_count (s : List UInt8) : (lev s).length ≤ s.length + 1 := by
  induction s with
  | nil => simp [lev]
  | cons c l ih =>
    by_cases hc : c = 47
    · subst hc; rw [lev_slash]; simp; omega
    · obtain ⟨y, ys, e⟩ := lev_ne l
      rw [lev_other _ hc, e]; rw [e] at ih; simp [glue] at *; omega

set_option maxHeartbeats 1000000 in
theorem c_Name (w : World) (s : List UInt8) (hs : s.length < 4294967281) : Calls Tryd.prog 57 #[.string ⟨s.toArray⟩] w fun e w' => e = .returned (.int .i64 (chkT s false)) ∧ Mod [] w w' := by
  refine as_called (run_plain2 (ρ := [.s s]) sxE_ok Tryd.func57 tree_topic_Name rfl rfl rfl ?_) rfl
  simp only [Tree.goal, X.P, X.ev, V.toI_i, V.toB_b, V.toS_s, V.toR_r, V.toV_v, V.toN_n, V.toL_l, SV.ev, CV.ev, Sc.ev, List.getD_cons_zero, List.getD_cons_succ, List.getElem?_cons_zero, List.getElem?_cons_succ, List.map_cons, List.map_nil, List.length_cons, List.length_nil, List.cons_append, List.nil_append, Nat.zero_add, Nat.reduceAdd]
  intro w1 hr; refine (c_Levels w1 s (by omega)).mono ?_; rintro e w2 ⟨v1, rfl, r1, f1, m1⟩; refine ⟨[.v v1, .r ((lev s).map encS)], rfl, rfl, m1, List.forall_mem_nil _, List.forall_mem_cons.2 ⟨⟨r1, fun k hk => .inl (f1 k hk)⟩, List.forall_mem_nil _⟩, apart_one, ?_⟩; simp only [Tree.goal, X.P, X.ev, V.toI_i, V.toB_b, V.toS_s, V.toR_r, V.toV_v, V.toN_n, V.toL_l, SV.ev, CV.ev, Sc.ev, List.getD_cons_zero, List.getD_cons_succ, List.getElem?_cons_zero, List.getElem?_cons_succ, List.map_cons, List.map_nil, List.length_cons, List.length_nil, List.cons_append, List.nil_append, Nat.zero_add, Nat.reduceAdd, List.length_map]; have hlc := lev_count s; refine ⟨fun h w' hr => ⟨by rw [h, chkT_nil], hr.mod⟩, fun h => ⟨fun h1 w' hr => ⟨by rw [chkT_many h h1], hr.mod⟩, fun h1 => ?_⟩⟩
  refine ⟨[.b (plainS s)], rfl, fun _ w' _ => c_Plain w' s (by omega), ?_⟩; simp only [Tree.goal, X.P, X.ev, V.toI_i, V.toB_b, V.toS_s, V.toR_r, V.toV_v, V.toN_n, V.toL_l, SV.ev, CV.ev, Sc.ev, List.getD_cons_zero, List.getD_cons_succ, List.getElem?_cons_zero, List.getElem?_cons_succ, List.map_cons, List.map_nil, List.length_cons, List.length_nil, List.cons_append, List.nil_append, Nat.zero_add, Nat.reduceAdd]; refine ⟨fun h2 w' hr => ⟨by rw [chkT_plain h h1 h2], hr.mod⟩, fun h2 => ?_⟩; (have h2 := Classical.not_not.1 h2); rw [chkT_lev h h1 h2]
  refine ⟨fun vs => ∃ (x : V) (i : Nat), vs = [x, .i i] ∧ i ≤ (lev s).length ∧ badL false ((lev s).drop i) = badL false (lev s), fun vs => (lev s).length - (vs.getD 1 (.i 0)).toI.toNat, ⟨_, 0, rfl, by omega, rfl⟩, ?_⟩
  rintro _ - ⟨x, i, rfl, hi, hg⟩
  simp only [Tree.goal, X.P, X.ev, V.toI_i, V.toB_b, V.toS_s, V.toR_r, V.toV_v, V.toN_n, V.toL_l, SV.ev, CV.ev, Sc.ev, List.getD_cons_zero, List.getD_cons_succ, List.getElem?_cons_zero, List.getElem?_cons_succ, List.map_cons, List.map_nil, List.length_cons, List.length_nil, List.cons_append, List.nil_append, Nat.zero_add, Nat.reduceAdd, Int.toNat_natCast, List.length_map, gS_encS]
  refine ⟨fun h3 => ?_, fun h3 w' hr => ⟨?_, hr.mod⟩⟩
  · rw [dropS _ i (by omega)] at hg
    have hsz := lev_size (getD_mem (ps := lev s) (i := i) (by omega))
    have has := lev_ascii h2 (i := i) (by omega)
    generalize (lev s).getD i [] = y at hg hsz has ⊢
    (repeat refine ⟨by omega, ?_⟩)
    refine ⟨[.b (wild y)], rfl, fun _ w' _ => c_ContainsAny w' y (by omega) has, ?_⟩
    simp only [Tree.goal, X.P, X.ev, V.toI_i, V.toB_b, V.toS_s, V.toR_r, V.toV_v, V.toN_n, V.toL_l, SV.ev, CV.ev, Sc.ev, List.getD_cons_zero, List.getD_cons_succ, List.getElem?_cons_zero, List.getElem?_cons_succ, List.map_cons, List.map_nil, List.length_cons, List.length_nil, List.cons_append, List.nil_append, Nat.zero_add, Nat.reduceAdd]
    simp only [badL, Bool.not_false, Bool.true_or, Bool.and_true] at hg
    refine ⟨fun h4 w' hr => ⟨by rw [← hg, h4]; rfl, hr.mod⟩, fun h4 => ⟨by omega, by omega, ⟨x, i + 1, rfl, by omega, ?_⟩, by omega⟩⟩
    rw [← hg, (Bool.not_eq_true _).mp h4]; simp
  · have : i = (lev s).length := by omega
    subst this
    rw [List.drop_length] at hg; rw [← hg]; rfl
set_option maxHeartbeats 1000000 in
theorem c_Filter (w : World) (s : List UInt8) (hs : s.length < 4294967281) : Calls Tryd.prog 69 #[.string ⟨s.toArray⟩] w fun e w' => e = .returned (.int .i64 (chkT s true)) ∧ Mod [] w w' := by
  refine as_called (run_plain2 (ρ := [.s s]) sxE_ok Tryd.func69 tree_topic_Filter rfl rfl rfl ?_) rfl
  simp only [Tree.goal, X.P, X.ev, V.toI_i, V.toB_b, V.toS_s, V.toR_r, V.toV_v, V.toN_n, V.toL_l, SV.ev, CV.ev, Sc.ev, List.getD_cons_zero, List.getD_cons_succ, List.getElem?_cons_zero, List.getElem?_cons_succ, List.map_cons, List.map_nil, List.length_cons, List.length_nil, List.cons_append, List.nil_append, Nat.zero_add, Nat.reduceAdd]
  intro w1 hr; refine (c_Levels w1 s (by omega)).mono ?_; rintro e w2 ⟨v1, rfl, r1, f1, m1⟩; refine ⟨[.v v1, .r ((lev s).map encS)], rfl, rfl, m1, List.forall_mem_nil _, List.forall_mem_cons.2 ⟨⟨r1, fun k hk => .inl (f1 k hk)⟩, List.forall_mem_nil _⟩, apart_one, ?_⟩; simp only [Tree.goal, X.P, X.ev, V.toI_i, V.toB_b, V.toS_s, V.toR_r, V.toV_v, V.toN_n, V.toL_l, SV.ev, CV.ev, Sc.ev, List.getD_cons_zero, List.getD_cons_succ, List.getElem?_cons_zero, List.getElem?_cons_succ, List.map_cons, List.map_nil, List.length_cons, List.length_nil, List.cons_append, List.nil_append, Nat.zero_add, Nat.reduceAdd, List.length_map]; have hlc := lev_count s; refine ⟨fun h w' hr => ⟨by rw [h, chkT_nil], hr.mod⟩, fun h => ⟨fun h1 w' hr => ⟨by rw [chkT_many h h1], hr.mod⟩, fun h1 => ?_⟩⟩
  refine ⟨[.b (plainS s)], rfl, fun _ w' _ => c_Plain w' s (by omega), ?_⟩; simp only [Tree.goal, X.P, X.ev, V.toI_i, V.toB_b, V.toS_s, V.toR_r, V.toV_v, V.toN_n, V.toL_l, SV.ev, CV.ev, Sc.ev, List.getD_cons_zero, List.getD_cons_succ, List.getElem?_cons_zero, List.getElem?_cons_succ, List.map_cons, List.map_nil, List.length_cons, List.length_nil, List.cons_append, List.nil_append, Nat.zero_add, Nat.reduceAdd]; refine ⟨fun h2 w' hr => ⟨by rw [chkT_plain h h1 h2], hr.mod⟩, fun h2 => ?_⟩; (have h2 := Classical.not_not.1 h2); rw [chkT_lev h h1 h2]
  refine ⟨fun vs => ∃ (x : V) (i : Nat), vs = [x, .i i] ∧ i ≤ (lev s).length ∧ badL true ((lev s).drop i) = badL true (lev s), fun vs => (lev s).length - (vs.getD 1 (.i 0)).toI.toNat, ⟨_, 0, rfl, by omega, rfl⟩, ?_⟩
  rintro _ - ⟨x, i, rfl, hi, hg⟩
  simp only [Tree.goal, X.P, X.ev, V.toI_i, V.toB_b, V.toS_s, V.toR_r, V.toV_v, V.toN_n, V.toL_l, SV.ev, CV.ev, Sc.ev, List.getD_cons_zero, List.getD_cons_succ, List.getElem?_cons_zero, List.getElem?_cons_succ, List.map_cons, List.map_nil, List.length_cons, List.length_nil, List.cons_append, List.nil_append, Nat.zero_add, Nat.reduceAdd, Int.toNat_natCast, List.length_map, gS_encS]
  refine ⟨fun h3 => ?_, fun h3 w' hr => ⟨?_, hr.mod⟩⟩
  · rw [dropS _ i (by omega)] at hg
    have hsz := lev_size (getD_mem (ps := lev s) (i := i) (by omega))
    have has := lev_ascii h2 (i := i) (by omega)
    have hlast : (lev s).drop (i + 1) = [] ↔ (i : Int) = ((lev s).length : Int) - 1 := by rw [List.drop_eq_nil_iff]; omega
    generalize (lev s).getD i [] = y at hg hsz has ⊢
    (repeat refine ⟨by omega, ?_⟩)
    refine ⟨[.b (wild y)], rfl, fun _ w' _ => c_ContainsAny w' y (by omega) has, ?_⟩
    simp only [Tree.goal, X.P, X.ev, V.toI_i, V.toB_b, V.toS_s, V.toR_r, V.toV_v, V.toN_n, V.toL_l, SV.ev, CV.ev, Sc.ev, List.getD_cons_zero, List.getD_cons_succ, List.getElem?_cons_zero, List.getElem?_cons_succ, List.map_cons, List.map_nil, List.length_cons, List.length_nil, List.cons_append, List.nil_append, Nat.zero_add, Nat.reduceAdd]
    have key : (¬((¬wild y = true ∨ y = [43]) ∨ y = [35] ∧ (i : Int) = ((lev s).length : Int) - 1)) ↔ (wild y && (!true || (!decide (y = [43]) && (!decide (y = [35]) || !decide ((lev s).drop (i + 1) = []))))) = true := by
      rw [← hlast]
      cases wild y <;> by_cases q1 : y = [43] <;> by_cases q2 : y = [35] <;> by_cases q3 : (lev s).drop (i + 1) = [] <;> simp [q1, q2, q3]
    simp only [badL] at hg
    refine ⟨fun h4 w' hr => ⟨by rw [← hg, key.1 h4]; rfl, hr.mod⟩, fun h4 => ⟨by omega, by omega, ⟨x, i + 1, rfl, by omega, ?_⟩, by omega⟩⟩
    have h5 := (Bool.not_eq_true _).mp (fun h => h4 (key.2 h))
    rw [← hg, h5]; simp
  · have : i = (lev s).length := by omega
    subst this
    rw [List.drop_length] at hg; rw [← hg]; rfl
theorem wild_snoc (x : List UInt8) (k : Nat) (h : k < x.length) : wild (x.take (k + 1)) = (wild (x.take k) || (decide ((x.getD k 0).toNat = 43) || decide ((x.getD k 0).toNat = 35))) := by
  rw [List.take_add_one, List.getD_eq_getElem?_getD, List.getElem?_eq_getElem h]
  simp only [wild, List.any_append, Option.toList_some, List.any_cons, List.any_nil, Bool.or_false, Option.getD_some]
  have e1 : (x[k] == 43) = decide (x[k].toNat = 43) := by rw [Bool.eq_iff_iff]; simp only [beq_iff_eq, decide_eq_true_eq]; exact ⟨fun h => by rw [h]; rfl, fun h => UInt8.toNat_inj.1 h⟩
  have e2 : (x[k] == 35) = decide (x[k].toNat = 35) := by rw [Bool.eq_iff_iff]; simp only [beq_iff_eq, decide_eq_true_eq]; exact ⟨fun h => by rw [h]; rfl, fun h => UInt8.toNat_inj.1 h⟩
  rw [e1, e2]
set_option maxHeartbeats 1000000 in
theorem c_CheckTopic (w : World) (s : List UInt8) (f : Bool) (hs : s.length < 4294967281) : Calls Tryd.prog 28 #[.string ⟨s.toArray⟩, .bool f] w fun e w' => e = .returned (.int .i64 (chkT s f)) ∧ Mod [] w w' := by
  refine as_called (run_plain2 (ρ := [.s s, .b f]) sxE_ok Tryd.func28 tree_dragomanref_CheckTopic rfl rfl rfl ?_) rfl
  simp only [Tree.goal, X.P, X.ev, V.toI_i, V.toB_b, V.toS_s, V.toR_r, V.toV_v, V.toN_n, V.toL_l, SV.ev, CV.ev, Sc.ev, List.getD_cons_zero, List.getD_cons_succ, List.getElem?_cons_zero, List.getElem?_cons_succ, List.map_cons, List.map_nil, List.length_cons, List.length_nil, List.cons_append, List.nil_append, Nat.zero_add, Nat.reduceAdd]
  intro w1 hr
  refine (c_LevelsOf w1 s (by omega)).mono ?_
  rintro e w2 ⟨v1, rfl, r1, f1, m1⟩
  refine ⟨[.v v1, .r ((lev s).map encS)], rfl, rfl, m1, List.forall_mem_nil _, List.forall_mem_cons.2 ⟨⟨r1, fun k hk => .inl (f1 k hk)⟩, List.forall_mem_nil _⟩, apart_one, ?_⟩
  simp only [Tree.goal, X.P, X.ev, V.toI_i, V.toB_b, V.toS_s, V.toR_r, V.toV_v, V.toN_n, V.toL_l, SV.ev, CV.ev, Sc.ev, List.getD_cons_zero, List.getD_cons_succ, List.getElem?_cons_zero, List.getElem?_cons_succ, List.map_cons, List.map_nil, List.length_cons, List.length_nil, List.cons_append, List.nil_append, Nat.zero_add, Nat.reduceAdd, List.length_map]
  have hlc := lev_count s
  refine ⟨fun h w' hr => ⟨by rw [h, chkT_nil], hr.mod⟩, fun h => ⟨fun h1 w' hr => ⟨by rw [chkT_many h h1], hr.mod⟩, fun h1 => ?_⟩⟩
  refine ⟨[.b (plainS s)], rfl, fun _ w' _ => c_IsPlain w' s (by omega), ?_⟩
  simp only [Tree.goal, X.P, X.ev, V.toI_i, V.toB_b, V.toS_s, V.toR_r, V.toV_v, V.toN_n, V.toL_l, SV.ev, CV.ev, Sc.ev, List.getD_cons_zero, List.getD_cons_succ, List.getElem?_cons_zero, List.getElem?_cons_succ, List.map_cons, List.map_nil, List.length_cons, List.length_nil, List.cons_append, List.nil_append, Nat.zero_add, Nat.reduceAdd]
  refine ⟨fun h2 w' hr => ⟨by rw [chkT_plain h h1 h2], hr.mod⟩, fun h2 => ?_⟩
  have h2 := Classical.not_not.1 h2
  rw [chkT_lev h h1 h2]
  refine ⟨fun vs => ∃ (x : V) (i : Nat), vs = [x, .i i] ∧ i ≤ (lev s).length ∧ badL f ((lev s).drop i) = badL f (lev s), fun vs => (lev s).length - (vs.getD 1 (.i 0)).toI.toNat, ⟨_, 0, rfl, by omega, rfl⟩, ?_⟩
  rintro _ - ⟨x, i, rfl, hi, hg⟩
  simp only [Tree.goal, X.P, X.ev, V.toI_i, V.toB_b, V.toS_s, V.toR_r, V.toV_v, V.toN_n, V.toL_l, SV.ev, CV.ev, Sc.ev, List.getD_cons_zero, List.getD_cons_succ, List.getElem?_cons_zero, List.getElem?_cons_succ, List.map_cons, List.map_nil, List.length_cons, List.length_nil, List.cons_append, List.nil_append, Nat.zero_add, Nat.reduceAdd, Int.toNat_natCast, List.length_map, gS_encS]
  refine ⟨fun h3 => ?_, fun h3 w' hr => ⟨?_, hr.mod⟩⟩
  · rw [dropS _ i (by omega)] at hg
    have hsz := lev_size (getD_mem (ps := lev s) (i := i) (by omega))
    have hlast : (lev s).drop (i + 1) = [] ↔ ¬ ((i : Int) < ((lev s).length : Int) - 1) := by rw [List.drop_eq_nil_iff]; omega
    generalize (lev s).getD i [] = y at hg hsz ⊢
    refine ⟨fun vs => ∃ (k : Nat), vs = [.b (wild (y.take k)), .i k] ∧ k ≤ y.length, fun vs => y.length - (vs.getD 1 (.i 0)).toI.toNat, ⟨0, rfl, by omega⟩, ?_⟩
    rintro _ - ⟨k, rfl, hk⟩
    simp only [Tree.goal, X.P, X.ev, V.toI_i, V.toB_b, V.toS_s, V.toR_r, V.toV_v, V.toN_n, V.toL_l, SV.ev, CV.ev, Sc.ev, List.getD_cons_zero, List.getD_cons_succ, List.getElem?_cons_zero, List.getElem?_cons_succ, List.map_cons, List.map_nil, List.length_cons, List.length_nil, List.cons_append, List.nil_append, Nat.zero_add, Nat.reduceAdd, Int.toNat_natCast, List.length_map, gS_encS]
    refine ⟨by omega, fun h4 => ?_, fun h4 => ?_⟩
    · refine ⟨.inr (by omega), .inr (by omega), by omega, by omega, ⟨k + 1, ?_, by omega⟩, by omega⟩
      rw [wild_snoc y k (by omega)]
      simp only [List.cons.injEq, V.b.injEq, and_true]
      refine ⟨?_, by simp⟩
      rw [Bool.or_assoc]
      congr 2
      · exact decide_eq_decide.2 (by omega)
      · exact decide_eq_decide.2 (by omega)
    · have : k = y.length := by omega
      subst this
      rw [List.take_length]
      have key : (wild y = true ∧ (¬ f = true ∨ ¬ y = [43] ∧ (¬ y = [35] ∨ (i : Int) < ((lev s).length : Int) - 1))) ↔ (wild y && (!f || (!decide (y = [43]) && (!decide (y = [35]) || !decide ((lev s).drop (i + 1) = []))))) = true := by
        by_cases q3 : (i : Int) < ((lev s).length : Int) - 1
        · have q4 : ¬ (lev s).drop (i + 1) = [] := fun h => hlast.1 h q3
          cases wild y <;> cases f <;> by_cases q1 : y = [43] <;> by_cases q2 : y = [35] <;> simp [q1, q2, q3, q4]
        · have q4 : (lev s).drop (i + 1) = [] := hlast.2 q3
          cases wild y <;> cases f <;> by_cases q1 : y = [43] <;> by_cases q2 : y = [35] <;> simp [q1, q2, q3, q4]
      simp only [badL] at hg
      refine ⟨.inr (by omega), .inr (by omega), fun h5 w' hr => ⟨by rw [← hg, key.1 h5]; rfl, hr.mod⟩, fun h5 => ⟨by omega, by omega, ⟨x, i + 1, rfl, by omega, ?_⟩, by omega⟩⟩
      have h6 := (Bool.not_eq_true _).mp (fun h => h5 (key.2 h))
      rw [← hg, h6]; simp
  · have : i = (lev s).length := by omega
    subst this
    rw [List.drop_length] at hg; rw [← hg]; rfl
end Go.Proofs.YtliedecinehijaaDoor

/-
  Packets: what is checked of them, their bytes, how they are read; in plain terms. By an AI agent.
-/
set_option linter.unusedSimpArgs false
set_option linter.unusedVariables false
namespace Go.Proofs.YtliedecinehijaaDoor
open Go.Sx

/-- An ask: its filter, how surely. -/
abbrev Ak := List UInt8 × Int
structure Pkt where
  kind : Int
  dup : Bool
  retain : Bool
  clean : Bool
  session : Bool
  qos : Int
  id : Int
  keep : Int
  code : Int
  client : List UInt8
  topic : List UInt8
  payload : List UInt8
  asks : List Ak
  codes : List Int
  deriving DecidableEq
abbrev pD (k : Int) : Pkt := ⟨k, false, false, false, false, 0, 0, 0, 0, [], [], [], [], []⟩

def kindB (k : Int) : Bool := decide ((1 ≤ k ∧ k ≤ 4) ∨ (8 ≤ k ∧ k ≤ 14))
def idB (p : Pkt) : Bool := decide ((p.kind = 3 ∧ p.qos = 1) ∨ p.kind = 4 ∨ (8 ≤ p.kind ∧ p.kind ≤ 11))
def cliB (s : List UInt8) : Bool := decide (1 ≤ (s.length : Int) ∧ (s.length : Int) ≤ 20) && plainS s
/-- A packet without all that its kind names. -/
def bareP (p : Pkt) : Pkt :=
  if p.kind = 1 then { p with client := [], clean := false, keep := 0 }
  else if p.kind = 2 then { p with code := 0, session := false }
  else if p.kind = 3 then { p with dup := false, qos := 0, retain := false, topic := [], payload := [], id := 0 }
  else if p.kind = 4 ∨ p.kind = 11 then { p with id := 0 }
  else if p.kind = 8 ∨ p.kind = 10 then { p with id := 0, asks := [] }
  else if p.kind = 9 then { p with id := 0, codes := [] }
  else p
def emptyB (p : Pkt) : Bool := decide (p = pD p.kind)
def connE (p : Pkt) : Int := if 20 < (p.client.length : Int) then 2 else if cliB p.client = true then (if 0 ≤ p.keep ∧ p.keep ≤ 65535 then 0 else 3) else 1
def connackE (p : Pkt) : Int := if 0 ≤ p.code ∧ p.code ≤ 5 then (if p.session = true ∧ p.code ≠ 0 then 4 else 0) else 3
def pubE (p : Pkt) : Int :=
  if chkT p.topic false = 0 then
    if 200 < (p.payload.length : Int) then 2
    else if 0 ≤ p.qos ∧ p.qos ≤ 1 then (if p.qos = 0 ∧ (p.dup = true ∨ p.id ≠ 0) then 1 else 0) else 3
  else chkT p.topic false
def countE (n : Nat) : Int := if n = 0 then 1 else if 5 < (n : Int) then 2 else 0
def askE (a : Ak) : Int := if chkT a.1 true = 0 then (if 0 ≤ a.2 ∧ a.2 ≤ 1 then 0 else 3) else chkT a.1 true
def noaskE (a : Ak) : Int := if chkT a.1 true = 0 then (if a.2 = 0 then 0 else 1) else chkT a.1 true
def asksL (k : Int) : List Ak → Int
  | [] => 0
  | a :: l => if (if k = 8 then askE a else noaskE a) = 0 then asksL k l else (if k = 8 then askE a else noaskE a)
def asksE (p : Pkt) : Int := if countE p.asks.length = 0 then asksL p.kind p.asks else countE p.asks.length
def codeB (c : Int) : Bool := decide (c ≠ 0 ∧ c ≠ 1 ∧ c ≠ 128)
def codesE (p : Pkt) : Int := if countE p.codes.length = 0 then (if p.codes.any codeB = true then 3 else 0) else countE p.codes.length
def partsE (p : Pkt) : Int :=
  if p.kind = 1 then connE p else if p.kind = 2 then connackE p else if p.kind = 3 then pubE p
  else if p.kind = 8 ∨ p.kind = 10 then asksE p else if p.kind = 9 then codesE p else 0
def chkP (p : Pkt) : Int :=
  if kindB p.kind = true then
    if emptyB (bareP p) = true then
      if p.kind = 3 ∧ pubE p ≠ 0 then pubE p
      else if idB p = true ∧ ¬ (1 ≤ p.id ∧ p.id ≤ 65535) then 3
      else partsE p
    else 1
  else 7

/-- The bytes of what is asked. -/
def askB (k : Int) (a : Ak) : List UInt8 := txtB a.1 ++ (if k = 8 then numB 1 a.2 else [])
def bit (b : Bool) (n : Int) : Int := if b = true then n else 0
def headB (p : Pkt) : List UInt8 :=
  if p.kind = 1 then txtB [77, 81, 84, 84] ++ (numB 1 4 ++ numB 1 (bit p.clean 2)) ++ numB 2 p.keep ++ txtB p.client
  else if p.kind = 2 then numB 1 (bit p.session 1) ++ numB 1 p.code
  else if p.kind = 3 then txtB p.topic
  else []
def bodyB (p : Pkt) : List UInt8 := headB p ++ (if idB p = true then numB 2 p.id else []) ++ p.payload ++ (p.asks.map (askB p.kind)).flatten ++ (p.codes.map (numB 1)).flatten
def firstB (p : Pkt) : Int :=
  16 * p.kind + (if p.kind = 3 then bit p.dup 8 + 2 * p.qos + bit p.retain 1 else if p.kind = 8 ∨ p.kind = 10 then 2 else 0)
def bytesP (p : Pkt) : List UInt8 := numB 1 (firstB p) ++ lngB 3 (bodyB p).length ++ bodyB p

/-- Reading: the number, the place behind it, whether there was too little. -/
def rdN (s : List UInt8) (k a : Nat) (b : Bool) : Int × Nat × Bool := if a + k ≤ s.length then ((beN ((s.drop a).take k) 0 : Nat), a + k, b) else (0, s.length, true)
def rdT (s : List UInt8) (a : Nat) (b : Bool) : List UInt8 × Nat × Bool :=
  if a + 2 ≤ s.length ∧ a + 2 + beN ((s.drop a).take 2) 0 ≤ s.length then ((s.drop (a + 2)).take (beN ((s.drop a).take 2) 0), a + 2 + beN ((s.drop a).take 2) 0, b) else ([], a, true)
def rdA (s : List UInt8) (k : Int) (a : Nat) (b : Bool) : Ak × Nat × Bool :=
  if k = 8 then (((rdT s a b).1, (rdN s 1 (rdT s a b).2.1 (rdT s a b).2.2).1), (rdN s 1 (rdT s a b).2.1 (rdT s a b).2.2).2) else (((rdT s a b).1, 0), (rdT s a b).2)
def rdAs (s : List UInt8) (k : Int) : Nat → Nat → Bool → List Ak → List Ak × Nat × Bool
  | 0, a, b, l => (l, a, b)
  | f + 1, a, b, l => if a < s.length ∧ b = false then rdAs s k f (rdA s k a b).2.1 (rdA s k a b).2.2 (l ++ [(rdA s k a b).1]) else (l, a, b)
def rdCs (s : List UInt8) : Nat → Nat → Bool → List Int → List Int × Nat × Bool
  | 0, a, b, l => (l, a, b)
  | f + 1, a, b, l => if a < s.length ∧ b = false then rdCs s f (rdN s 1 a b).2.1 (rdN s 1 a b).2.2 (l ++ [(rdN s 1 a b).1]) else (l, a, b)
/-- How many rounds there may be. -/
def rounds (s : List UInt8) (a : Nat) (b : Bool) : Nat := if b = true then 0 else s.length + 1 - a
abbrev RS := Pkt × Nat × Bool
def connD (s : List UInt8) (p : Pkt) (a : Nat) (b : Bool) : RS :=
  let t1 := rdT s a b
  let n1 := rdN s 1 t1.2.1 t1.2.2
  let n2 := rdN s 1 n1.2.1 n1.2.2
  let n3 := rdN s 2 n2.2.1 n2.2.2
  let t2 := rdT s n3.2.1 n3.2.2
  ({ p with clean := decide (n2.1 = 2), keep := n3.1, client := t2.1 }, t2.2)
def headD (s : List UInt8) (p : Pkt) (a : Nat) (b : Bool) : RS :=
  if p.kind = 1 then connD s p a b
  else if p.kind = 2 then ({ p with session := decide ((rdN s 1 a b).1 = 1), code := (rdN s 1 (rdN s 1 a b).2.1 (rdN s 1 a b).2.2).1 }, (rdN s 1 (rdN s 1 a b).2.1 (rdN s 1 a b).2.2).2)
  else if p.kind = 3 then ({ p with topic := (rdT s a b).1 }, (rdT s a b).2)
  else (p, a, b)
def idD (s : List UInt8) (q : RS) : RS := if idB q.1 = true then ({ q.1 with id := (rdN s 2 q.2.1 q.2.2).1 }, (rdN s 2 q.2.1 q.2.2).2) else q
def tailD (s : List UInt8) (q : RS) : RS :=
  if q.1.kind = 3 then ({ q.1 with payload := s.drop q.2.1 }, s.length, q.2.2)
  else if q.1.kind = 8 ∨ q.1.kind = 10 then ({ q.1 with asks := (rdAs s q.1.kind (rounds s q.2.1 q.2.2) q.2.1 q.2.2 q.1.asks).1 }, (rdAs s q.1.kind (rounds s q.2.1 q.2.2) q.2.1 q.2.2 q.1.asks).2)
  else if q.1.kind = 9 then ({ q.1 with codes := (rdCs s (rounds s q.2.1 q.2.2) q.2.1 q.2.2 q.1.codes).1 }, (rdCs s (rounds s q.2.1 q.2.2) q.2.1 q.2.2 q.1.codes).2)
  else q
def bodyD (s : List UInt8) (p : Pkt) (a : Nat) (b : Bool) : RS := tailD s (idD s (headD s p a b))
/-- The packet of which only the first byte is told. -/
def begP (c : Nat) : Pkt := if c / 16 = 3 then { pD 3 with dup := decide (c / 8 % 2 = 1), qos := c / 2 % 4, retain := decide (c % 2 = 1) } else pD ((c / 16 : Nat) : Int)
def readP (s : List UInt8) : RS := bodyD s (begP (s.getD 0 0).toNat) (1 + (getL s 1).2.1).toNat false
def decD (s : List UInt8) : Pkt × Int :=
  if s = [] ∨ (getL s 1).2.2 ≠ 0 then (pD 0, 1)
  else if (readP s).2.2 = true ∨ kindB (readP s).1.kind = false ∨ 1 < (readP s).1.qos ∨ bytesP (readP s).1 ≠ s then (pD 0, 1)
  else if chkP (readP s).1 = 0 then ((readP s).1, 0) else (pD 0, chkP (readP s).1)
end Go.Proofs.YtliedecinehijaaDoor

/-
  Packets: what is told is read; in plain terms. By an AI agent.
-/
set_option linter.unusedSimpArgs false
set_option linter.unusedVariables false
namespace Go.Proofs.YtliedecinehijaaDoor
open Go.Sx

theorem bare_iff (p : Pkt) : bareP p = pD p.kind ↔ (p.kind ≠ 1 → p.client = [] ∧ p.clean = false ∧ p.keep = 0) ∧ (p.kind ≠ 2 → p.session = false ∧ p.code = 0) ∧
    (p.kind ≠ 3 → p.dup = false ∧ p.retain = false ∧ p.qos = 0 ∧ p.topic = [] ∧ p.payload = []) ∧ (¬ ((3 ≤ p.kind ∧ p.kind ≤ 4) ∨ (8 ≤ p.kind ∧ p.kind ≤ 11)) → p.id = 0) ∧
    (p.kind ≠ 8 ∧ p.kind ≠ 10 → p.asks = []) ∧ (p.kind ≠ 9 → p.codes = []) := by
  obtain ⟨k, d, r, c, s, q, i, ke, co, cl, t, pl, a, cs⟩ := p
  unfold bareP
  simp only
  by_cases h1 : k = 1
  · subst h1; simp only [if_true, Pkt.mk.injEq]; simp; grind
  rw [if_neg h1]
  by_cases h2 : k = 2
  · subst h2; simp only [if_true, Pkt.mk.injEq]; simp; grind
  rw [if_neg h2]
  by_cases h3 : k = 3
  · subst h3; simp only [if_true, Pkt.mk.injEq]; simp; grind
  rw [if_neg h3]
  by_cases h4 : k = 4 ∨ k = 11
  · rw [if_pos h4]; rcases h4 with rfl | rfl <;> simp only [Pkt.mk.injEq] <;> simp <;> grind
  rw [if_neg h4]
  by_cases h5 : k = 8 ∨ k = 10
  · rw [if_pos h5]; rcases h5 with rfl | rfl <;> simp only [Pkt.mk.injEq] <;> simp <;> grind
  rw [if_neg h5]
  by_cases h6 : k = 9
  · subst h6; simp only [if_true, Pkt.mk.injEq]; simp; grind
  rw [if_neg h6]
  have h7 : ¬ ((3 ≤ k ∧ k ≤ 4) ∨ (8 ≤ k ∧ k ≤ 11)) := by omega
  have h8 : k ≠ 8 ∧ k ≠ 10 := by omega
  simp only [Pkt.mk.injEq, h7, h8, ne_eq, h1, h2, h3, h6, not_false_eq_true, true_implies, true_and, and_true]
  grind

/-- A packet that can be told and read. -/
structure FormP (p : Pkt) : Prop where
  kind : kindB p.kind = true
  bare : bareP p = pD p.kind
  qos : 0 ≤ p.qos ∧ p.qos ≤ 1
  keep : 0 ≤ p.keep ∧ p.keep < 65536
  code : 0 ≤ p.code ∧ p.code < 256
  id : 0 ≤ p.id ∧ p.id < 65536
  noid : idB p = false → p.id = 0
  client : p.client.length < 65536
  topic : p.topic.length < 65536
  asks : ∀ a ∈ p.asks, a.1.length < 65536 ∧ 0 ≤ a.2 ∧ a.2 < 256 ∧ (p.kind ≠ 8 → a.2 = 0)
  codes : ∀ c ∈ p.codes, 0 ≤ c ∧ c < 256

theorem rdN_at {s t : List UInt8} {k a n : Nat} (b : Bool) (h : s.drop a = numB k n ++ t) (ha : a ≤ s.length) (hn : n < pw k) : rdN s k a b = ((n : Int), a + k, b) ∧ s.drop (a + k) = t ∧ a + k ≤ s.length := by
  have hl : s.length - a = k + t.length := by
    rw [← List.length_drop, h, List.length_append, numB_len]
  have e : (s.drop a).take k = numB k n := by
    rw [h]; exact List.take_left' (numB_len k n)
  refine ⟨?_, ?_, by omega⟩
  · rw [rdN, if_pos (by omega), e, beN_numB k n hn]
  · rw [← List.drop_drop, h]; exact List.drop_left' (numB_len k n)
theorem rdNi_at {s t : List UInt8} {k a : Nat} {n : Int} (b : Bool) (h : s.drop a = numB k n ++ t) (ha : a ≤ s.length) (h0 : 0 ≤ n) (hn : n < pw k) : rdN s k a b = (n, a + k, b) ∧ s.drop (a + k) = t ∧ a + k ≤ s.length := by
  obtain ⟨m, rfl⟩ : ∃ m : Nat, n = m := ⟨n.toNat, by omega⟩
  exact rdN_at b h ha (by omega)
theorem rdT_at {s t x : List UInt8} {a : Nat} (b : Bool) (h : s.drop a = txtB x ++ t) (ha : a ≤ s.length) (hx : x.length < 65536) : rdT s a b = (x, a + 2 + x.length, b) ∧ s.drop (a + 2 + x.length) = t ∧ a + 2 + x.length ≤ s.length := by
  have hh : s.drop a = numB 2 (x.length : Nat) ++ (x ++ t) := by rw [h, txtB, List.append_assoc]
  have hl : s.length - a = 2 + (x.length + t.length) := by
    rw [← List.length_drop, hh, List.length_append, numB_len, List.length_append]
  have e : (s.drop a).take 2 = numB 2 (x.length : Nat) := by
    rw [hh]; exact List.take_left' (numB_len 2 _)
  have e1 : beN ((s.drop a).take 2) 0 = x.length := by rw [e]; exact beN_numB 2 _ hx
  have e2 : s.drop (a + 2) = x ++ t := by rw [← List.drop_drop, hh]; exact List.drop_left' (numB_len 2 _)
  refine ⟨?_, ?_, by omega⟩
  · rw [rdT, e1, if_pos (by omega), e2, List.take_left]
  · rw [← List.drop_drop, e2, List.drop_left]
theorem rdA_at {s t : List UInt8} {k : Int} {a : Nat} {x : Ak} (b : Bool) (h : s.drop a = askB k x ++ t) (ha : a ≤ s.length) (hx : x.1.length < 65536 ∧ 0 ≤ x.2 ∧ x.2 < 256 ∧ (k ≠ 8 → x.2 = 0)) :
    ∃ a', rdA s k a b = (x, a', b) ∧ s.drop a' = t ∧ a' ≤ s.length ∧ a + 2 ≤ a' := by
  by_cases hk : k = 8
  · have h' : s.drop a = txtB x.1 ++ (numB 1 x.2 ++ t) := by rw [h, askB, if_pos hk, List.append_assoc]
    obtain ⟨q1, q2, q3⟩ := rdT_at b h' ha hx.1
    obtain ⟨r1, r2, r3⟩ := rdNi_at b q2 q3 hx.2.1 (by show x.2 < 256; omega)
    refine ⟨_, ?_, r2, r3, by omega⟩
    rw [rdA, if_pos hk, q1]
    simp only [r1]
  · have h' : s.drop a = txtB x.1 ++ t := by rw [h, askB, if_neg hk, List.append_nil]
    obtain ⟨q1, q2, q3⟩ := rdT_at b h' ha hx.1
    refine ⟨_, ?_, q2, q3, by omega⟩
    rw [rdA, if_neg hk, q1]
    have := hx.2.2.2 hk
    simp only [Prod.mk.injEq, and_true]
    exact Prod.ext rfl this.symm
theorem rdAs_at {s : List UInt8} {k : Int} : ∀ (xs l : List Ak) (f a : Nat), s.drop a = (xs.map (askB k)).flatten → a ≤ s.length → (∀ x ∈ xs, x.1.length < 65536 ∧ 0 ≤ x.2 ∧ x.2 < 256 ∧ (k ≠ 8 → x.2 = 0)) → s.length + 1 - a ≤ f →
    rdAs s k f a false l = (l ++ xs, s.length, false)
  | [], l, f, a, h, ha, _, hf => by
    obtain ⟨g, rfl⟩ : ∃ g, f = g + 1 := ⟨f - 1, by omega⟩
    have : s.length - a = 0 := by rw [← List.length_drop, h]; rfl
    rw [rdAs, if_neg (by omega), List.append_nil]
    have : a = s.length := by omega
    rw [this]
  | x :: xs, l, f, a, h, ha, hx, hf => by
    obtain ⟨g, rfl⟩ : ∃ g, f = g + 1 := ⟨f - 1, by omega⟩
    rw [List.map_cons, List.flatten_cons] at h
    obtain ⟨a', h1, h2, h3, h4⟩ := rdA_at false h ha (hx x (List.mem_cons_self ..))
    rw [rdAs, if_pos ⟨by omega, rfl⟩, h1]
    simp only
    rw [rdAs_at xs _ g a' h2 h3 (fun y hy => hx y (List.mem_cons_of_mem _ hy)) (by omega)]
    simp
theorem rdCs_at {s : List UInt8} : ∀ (xs l : List Int) (f a : Nat), s.drop a = (xs.map (numB 1)).flatten → a ≤ s.length → (∀ x ∈ xs, 0 ≤ x ∧ x < 256) → s.length + 1 - a ≤ f →
    rdCs s f a false l = (l ++ xs, s.length, false)
  | [], l, f, a, h, ha, _, hf => by
    obtain ⟨g, rfl⟩ : ∃ g, f = g + 1 := ⟨f - 1, by omega⟩
    have : s.length - a = 0 := by rw [← List.length_drop, h]; rfl
    rw [rdCs, if_neg (by omega), List.append_nil]
    have : a = s.length := by omega
    rw [this]
  | x :: xs, l, f, a, h, ha, hx, hf => by
    obtain ⟨g, rfl⟩ : ∃ g, f = g + 1 := ⟨f - 1, by omega⟩
    rw [List.map_cons, List.flatten_cons] at h
    have hx0 := hx x (List.mem_cons_self ..)
    obtain ⟨h1, h2, h3⟩ := rdNi_at false h ha hx0.1 (by show x < 256; omega)
    rw [rdCs, if_pos ⟨by omega, rfl⟩, h1]
    simp only
    rw [rdCs_at xs _ g (a + 1) h2 h3 (fun y hy => hx y (List.mem_cons_of_mem _ hy)) (by omega)]
    simp

theorem begP_first {p : Pkt} (h : FormP p) : begP (UInt8.ofNat (firstB p % 256).toNat).toNat = { pD p.kind with dup := p.dup, qos := p.qos, retain := p.retain } := by
  have hb := (bare_iff p).1 h.bare
  have hk := h.kind
  have hq := h.qos
  simp only [kindB, decide_eq_true_eq] at hk
  have hf : 0 ≤ firstB p ∧ firstB p < 256 ∧ firstB p / 16 = p.kind := by
    unfold firstB bit
    split
    · split <;> split <;> omega
    · split <;> omega
  have e1 : (UInt8.ofNat (firstB p % 256).toNat).toNat = (firstB p).toNat := by simp; omega
  rw [e1, begP]
  have e2 : (((firstB p).toNat / 16 : Nat) : Int) = p.kind := by omega
  by_cases h3 : p.kind = 3
  · rw [if_pos (by omega)]
    have hv : firstB p = 48 + (bit p.dup 8 + 2 * p.qos + bit p.retain 1) := by rw [firstB, if_pos h3, h3]; rfl
    unfold bit at hv
    rw [h3]
    simp only [Pkt.mk.injEq, and_true, true_and]
    refine ⟨?_, ?_, ?_⟩
    · cases hd : p.dup <;> cases hr : p.retain <;> simp [hd, hr] at hv ⊢ <;> omega
    · cases hd : p.dup <;> cases hr : p.retain <;> simp [hd, hr] at hv ⊢ <;> omega
    · cases hd : p.dup <;> cases hr : p.retain <;> simp [hd, hr] at hv ⊢ <;> omega
  · rw [if_neg (by omega), e2]
    obtain ⟨b1, b2, b3, -, -⟩ := hb.2.2.1 h3
    rw [b1, b2, b3]

theorem body_at {p : Pkt} (h : FormP p) {s : List UInt8} {a : Nat} (hs : s.drop a = bodyB p) (ha : a ≤ s.length) :
    bodyD s { pD p.kind with dup := p.dup, qos := p.qos, retain := p.retain } a false = (p, s.length, false) := by
  have hb := (bare_iff p).1 h.bare
  have hk := h.kind
  have hno := h.noid
  have hask := h.asks
  have hcod := h.codes
  have hkeep := h.keep
  have hcode := h.code
  have hid := h.id
  have hcl := h.client
  have htp := h.topic
  have hqos := h.qos
  obtain ⟨k, d, r, c, se, q, i, ke, co, cl, t, pl, az, cs⟩ := p
  simp only [kindB, decide_eq_true_eq] at hk
  simp only at hb hno hask hcod hkeep hcode hid hcl htp hqos hs ⊢
  obtain ⟨b1, b2, b3, b4, b5, b6⟩ := hb
  have hend : ∀ {x : Nat}, s.drop x = [] → x ≤ s.length → x = s.length := fun {x} hx hx2 => by
    have : s.length - x = 0 := by rw [← List.length_drop, hx]; rfl
    omega
  by_cases k1 : k = 1
  · subst k1
    obtain ⟨rfl, rfl⟩ := b2 (by omega)
    obtain ⟨rfl, rfl, rfl, rfl, rfl⟩ := b3 (by omega)
    obtain rfl := b4 (by omega)
    obtain rfl := b5 (by omega)
    obtain rfl := b6 (by omega)
    have e : s.drop a = txtB [77, 81, 84, 84] ++ (numB 1 4 ++ (numB 1 (bit c 2) ++ (numB 2 ke ++ (txtB cl ++ [])))) := by
      rw [hs]; simp [bodyB, headB, idB]
    obtain ⟨q1, q2, q3⟩ := rdT_at false e ha (by decide)
    obtain ⟨r1, r2, r3⟩ := rdNi_at false q2 q3 (by omega) (by decide)
    obtain ⟨s1, s2, s3⟩ := rdNi_at false r2 r3 (by unfold bit; split <;> omega) (by show bit c 2 < 256; unfold bit; split <;> omega)
    obtain ⟨t1, t2, t3⟩ := rdNi_at false s2 s3 hkeep.1 (by show ke < 65536; omega)
    obtain ⟨u1, u2, u3⟩ := rdT_at false t2 t3 hcl
    have hx := hend u2 u3
    have hbit : decide (bit c 2 = 2) = c := by cases c <;> rfl
    simp only [bodyD, headD, if_true, connD, q1, r1, s1, t1, u1, idD, idB, tailD, hbit, hx]
    rfl
  by_cases k2 : k = 2
  · subst k2
    obtain ⟨rfl, rfl, rfl⟩ := b1 (by omega)
    obtain ⟨rfl, rfl, rfl, rfl, rfl⟩ := b3 (by omega)
    obtain rfl := b4 (by omega)
    obtain rfl := b5 (by omega)
    obtain rfl := b6 (by omega)
    have e : s.drop a = numB 1 (bit se 1) ++ (numB 1 co ++ []) := by
      rw [hs]; simp [bodyB, headB, idB]
    obtain ⟨r1, r2, r3⟩ := rdNi_at false e ha (by unfold bit; split <;> omega) (by show bit se 1 < 256; unfold bit; split <;> omega)
    obtain ⟨s1, s2, s3⟩ := rdNi_at false r2 r3 hcode.1 (by show co < 256; omega)
    have hx := hend s2 s3
    have hbit : decide (bit se 1 = 1) = se := by cases se <;> rfl
    simp only [bodyD, headD, if_true, r1, s1, idD, idB, tailD, hbit, hx]
    rfl
  by_cases k3 : k = 3
  · subst k3
    obtain ⟨rfl, rfl, rfl⟩ := b1 (by omega)
    obtain ⟨rfl, rfl⟩ := b2 (by omega)
    obtain rfl := b5 (by omega)
    obtain rfl := b6 (by omega)
    by_cases hq : q = 1
    · subst hq
      have e : s.drop a = txtB t ++ (numB 2 i ++ pl) := by
        rw [hs]; simp [bodyB, headB, idB]
      obtain ⟨q1, q2, q3⟩ := rdT_at false e ha htp
      obtain ⟨r1, r2, r3⟩ := rdNi_at false q2 q3 hid.1 (by show i < 65536; omega)
      have hd : headD s ⟨3, d, r, false, false, 1, 0, 0, 0, [], [], [], [], []⟩ a false = (⟨3, d, r, false, false, 1, 0, 0, 0, [], t, [], [], []⟩, a + 2 + t.length, false) := by
        simp only [headD, q1]; rfl
      have hi2 : idD s (⟨3, d, r, false, false, 1, 0, 0, 0, [], t, [], [], []⟩, a + 2 + t.length, false) = (⟨3, d, r, false, false, 1, i, 0, 0, [], t, [], [], []⟩, a + 2 + t.length + 2, false) := by
        simp only [idD, r1]; rfl
      rw [bodyD, hd, hi2]
      simp only [tailD, if_true, r2]
    · have hq0 : q = 0 := by omega
      subst hq0
      obtain rfl := hno (by simp [idB])
      have e : s.drop a = txtB t ++ pl := by
        rw [hs]; simp [bodyB, headB, idB]
      obtain ⟨q1, q2, q3⟩ := rdT_at false e ha htp
      have hd : headD s ⟨3, d, r, false, false, 0, 0, 0, 0, [], [], [], [], []⟩ a false = (⟨3, d, r, false, false, 0, 0, 0, 0, [], t, [], [], []⟩, a + 2 + t.length, false) := by
        simp only [headD, q1]; rfl
      have hi2 : idD s (⟨3, d, r, false, false, 0, 0, 0, 0, [], t, [], [], []⟩, a + 2 + t.length, false) = (⟨3, d, r, false, false, 0, 0, 0, 0, [], t, [], [], []⟩, a + 2 + t.length, false) := rfl
      rw [bodyD, hd, hi2]
      simp only [tailD, if_true, q2]
  obtain ⟨rfl, rfl, rfl⟩ := b1 k1
  obtain ⟨rfl, rfl⟩ := b2 k2
  obtain ⟨rfl, rfl, rfl, rfl, rfl⟩ := b3 k3
  have hh : ∀ x : Pkt, x.kind = k → headD s x a false = (x, a, false) := fun x hx => by
    unfold headD; rw [hx, if_neg k1, if_neg k2, if_neg k3]
  rw [bodyD, hh _ rfl]
  have hhB : ∀ x : Pkt, x.kind = k → headB x = [] := fun x hx => by
    unfold headB; rw [hx, if_neg k1, if_neg k2, if_neg k3]
  rw [bodyB, hhB _ rfl] at hs
  by_cases k4 : k = 4 ∨ (8 ≤ k ∧ k ≤ 11)
  · have hidb : ∀ x : Pkt, x.kind = k → idB x = true := fun x hx => by
      simp only [idB, hx, decide_eq_true_eq]; omega
    rw [if_pos (hidb _ rfl)] at hs
    have e : s.drop a = numB 2 i ++ ((az.map (askB k)).flatten ++ (cs.map (numB 1)).flatten) := by
      rw [hs]; simp
    obtain ⟨r1, r2, r3⟩ := rdNi_at false e ha hid.1 (by show i < 65536; omega)
    have hi2 : idD s (⟨k, false, false, false, false, 0, 0, 0, 0, [], [], [], [], []⟩, a, false) = (⟨k, false, false, false, false, 0, i, 0, 0, [], [], [], [], []⟩, a + 2, false) := by
      unfold idD; rw [if_pos (hidb _ rfl)]; simp only [r1]
    rw [hi2, tailD]
    simp only
    rw [if_neg k3]
    by_cases k5 : k = 8 ∨ k = 10
    · obtain rfl := b6 (by omega)
      rw [if_pos k5, rdAs_at az [] (rounds s (a + 2) false) (a + 2) (by rw [r2]; simp) r3 hask (by rw [rounds, if_neg (by simp)]; omega)]
      simp
    · obtain rfl := b5 (by omega)
      rw [if_neg k5]
      by_cases k6 : k = 9
      · rw [if_pos k6, rdCs_at cs [] (rounds s (a + 2) false) (a + 2) (by rw [r2]; simp) r3 hcod (by rw [rounds, if_neg (by simp)]; omega)]
        simp
      · obtain rfl := b6 k6
        rw [if_neg k6, hend (by rw [r2]; rfl) r3]
  · have hidb : ∀ x : Pkt, x.kind = k → idB x = false := fun x hx => by
      simp only [idB, hx, decide_eq_false_iff_not]; omega
    obtain rfl := b4 (by omega)
    obtain rfl := b5 (by omega)
    obtain rfl := b6 (by omega)
    have e : s.drop a = [] := by rw [hs, hidb _ rfl]; simp
    have hi2 : idD s (⟨k, false, false, false, false, 0, 0, 0, 0, [], [], [], [], []⟩, a, false) = (⟨k, false, false, false, false, 0, 0, 0, 0, [], [], [], [], []⟩, a, false) := by
      unfold idD; rw [if_neg (by rw [hidb _ rfl]; simp)]
    rw [hi2, tailD]
    simp only
    rw [if_neg k3, if_neg (by omega), if_neg (by omega), hend e ha]

theorem getL_bytes {p : Pkt} (hl : (bodyB p).length < 268435456) (t : List UInt8) : getL (bytesP p ++ t) 1 = ((((bodyB p).length : Nat) : Int), (((lngB 3 (bodyB p).length).length : Nat) : Int), 0) := by
  have e : (bytesP p ++ t).drop 1 = lngB 3 (bodyB p).length ++ (bodyB p ++ t) := by
    rw [bytesP, List.append_assoc, List.append_assoc, List.drop_left' (numB_len 1 _)]
  have hlen : 1 ≤ (bytesP p ++ t).length := by simp [bytesP, numB_len]
  rw [getL, if_pos (by omega)]
  have e1 : (1 : Int).toNat = 1 := rfl
  rw [e1, e, glF_back _ 3 4 0 0 _ (by show (bodyB p).length < 268435456; exact hl) (by omega) (.inl rfl)]
  simp [p7]
theorem bytesP_hd (p : Pkt) : (bytesP p).getD 0 0 = UInt8.ofNat (firstB p % 256).toNat := by
  have : numB 1 (firstB p) = [UInt8.ofNat (firstB p % 256).toNat] := by simp [numB, pw, List.range_succ]
  rw [bytesP, this]; rfl
theorem read_bytes {p : Pkt} (h : FormP p) (hl : (bodyB p).length < 268435456) : readP (bytesP p) = (p, (bytesP p).length, false) := by
  have hg := getL_bytes hl []
  rw [List.append_nil] at hg
  rw [readP, hg, bytesP_hd, begP_first h]
  have e : (1 + (((lngB 3 (bodyB p).length).length : Nat) : Int)).toNat = 1 + (lngB 3 (bodyB p).length).length := by omega
  simp only [e]
  refine body_at h ?_ (by simp [bytesP, numB_len])
  rw [bytesP]
  exact List.drop_left' (by rw [List.length_append, numB_len])
end Go.Proofs.YtliedecinehijaaDoor

/-
  Packets: what passes can be told and is read; in plain terms. By an AI agent.
-/
set_option linter.unusedSimpArgs false
set_option linter.unusedVariables false
namespace Go.Proofs.YtliedecinehijaaDoor
open Go.Sx

theorem chkT_len {s : List UInt8} {f : Bool} (h : chkT s f = 0) : s.length ≤ 60 := by
  unfold chkT at h
  split at h
  · simp at h
  · split at h
    · simp at h
    · omega
theorem bareP_kind (p : Pkt) : (bareP p).kind = p.kind := by
  unfold bareP; (repeat' split) <;> rfl
theorem empty_iff (p : Pkt) : emptyB (bareP p) = true ↔ bareP p = pD p.kind := by
  simp only [emptyB, decide_eq_true_eq, bareP_kind]
theorem asksL_ok {k : Int} : ∀ {l : List Ak}, asksL k l = 0 → ∀ a ∈ l, chkT a.1 true = 0 ∧ 0 ≤ a.2 ∧ a.2 ≤ 1 ∧ (k ≠ 8 → a.2 = 0)
  | [], _, a, ha => by simp at ha
  | x :: l, h, a, ha => by
    unfold asksL at h
    generalize hX : (if k = 8 then askE x else noaskE x) = X at h
    by_cases h0 : X = 0
    · rw [if_pos h0] at h
      rw [h0] at hX
      rcases List.mem_cons.1 ha with rfl | ha
      · by_cases hk : k = 8
        · rw [if_pos hk, askE] at hX
          split at hX
          · split at hX
            · exact ⟨‹_›, by omega, by omega, fun hh => absurd hk hh⟩
            · simp at hX
          · exact absurd hX ‹_›
        · rw [if_neg hk, noaskE] at hX
          split at hX
          · split at hX
            · exact ⟨‹_›, by omega, by omega, fun _ => ‹_›⟩
            · simp at hX
          · exact absurd hX ‹_›
      · exact asksL_ok h a ha
    · rw [if_neg h0] at h; exact absurd h h0
theorem count_ok {n : Nat} (h : countE n = 0) : 1 ≤ n ∧ n ≤ 5 := by
  unfold countE at h
  split at h
  · simp at h
  · split at h
    · simp at h
    · omega
theorem flat_le {α : Type} (f : α → List UInt8) (m : Nat) : ∀ l : List α, (∀ a ∈ l, (f a).length ≤ m) → (l.map f).flatten.length ≤ l.length * m
  | [], _ => by simp
  | a :: l, h => by
    have h1 := flat_le f m l fun x hx => h x (List.mem_cons_of_mem _ hx)
    have h2 := h a (List.mem_cons_self ..)
    simp only [List.map_cons, List.flatten_cons, List.length_append, List.length_cons, Nat.add_mul, Nat.one_mul]
    omega
theorem txtB_len (t : List UInt8) : (txtB t).length = t.length + 2 := by rw [txtB, List.length_append, numB_len]; omega

theorem chk_form {p : Pkt} (h : chkP p = 0) : FormP p ∧ (bodyB p).length ≤ 1000 := by
  unfold chkP at h
  split at h
  rotate_left
  · simp at h
  rename_i hk
  split at h
  rotate_left
  · simp at h
  rename_i he
  split at h
  · rename_i h3; exact absurd h h3.2
  rename_i hp3
  split at h
  · simp at h
  rename_i hid
  have hbare := (empty_iff p).1 he
  have hb := (bare_iff p).1 hbare
  have hk' := hk
  simp only [kindB, decide_eq_true_eq] at hk'
  obtain ⟨b1, b2, b3, b4, b5, b6⟩ := hb
  -- by kind
  have h1 : p.client.length ≤ 20 ∧ 0 ≤ p.keep ∧ p.keep < 65536 := by
    by_cases k : p.kind = 1
    · rw [partsE, if_pos k, connE] at h
      split at h
      · simp at h
      · split at h
        · split at h
          · omega
          · simp at h
        · simp at h
    · obtain ⟨e1, e2, e3⟩ := b1 k; rw [e1, e3]; simp
  have h2 : 0 ≤ p.code ∧ p.code < 256 := by
    by_cases k : p.kind = 2
    · rw [partsE, if_neg (by omega), if_pos k, connackE] at h
      split at h
      · omega
      · simp at h
    · obtain ⟨e1, e2⟩ := b2 k; omega
  have h3 : p.topic.length ≤ 60 ∧ p.payload.length ≤ 200 ∧ 0 ≤ p.qos ∧ p.qos ≤ 1 ∧ (p.kind = 3 → p.qos = 0 → p.id = 0) := by
    by_cases k : p.kind = 3
    · rw [partsE, if_neg (by omega), if_neg (by omega), if_pos k, pubE] at h
      split at h
      · have := chkT_len ‹_›
        split at h
        · simp at h
        · split at h
          · split at h
            · simp at h
            · rename_i hn
              refine ⟨this, by omega, by omega, by omega, fun _ hq => ?_⟩
              exact Classical.byContradiction fun hi => hn ⟨hq, .inr hi⟩
          · simp at h
      · exact absurd h ‹_›
    · obtain ⟨e1, e2, e3, e4, e5⟩ := b3 k; rw [e3, e4, e5]; simp [k]
  have h4 : p.asks.length ≤ 5 ∧ ∀ a ∈ p.asks, a.1.length ≤ 60 ∧ 0 ≤ a.2 ∧ a.2 < 256 ∧ (p.kind ≠ 8 → a.2 = 0) := by
    by_cases k : p.kind = 8 ∨ p.kind = 10
    · rw [partsE, if_neg (by omega), if_neg (by omega), if_neg (by omega), if_pos k, asksE] at h
      split at h
      · have hc := count_ok ‹_›
        refine ⟨hc.2, fun a ha => ?_⟩
        obtain ⟨a1, a2, a3, a4⟩ := asksL_ok h a ha
        exact ⟨chkT_len a1, a2, by omega, a4⟩
      · exact absurd h ‹_›
    · have e := b5 (by omega); rw [e]; simp
  have h5 : p.codes.length ≤ 5 ∧ ∀ c ∈ p.codes, 0 ≤ c ∧ c < 256 := by
    by_cases k : p.kind = 9
    · rw [partsE, if_neg (by omega), if_neg (by omega), if_neg (by omega), if_neg (by omega), if_pos k, codesE] at h
      split at h
      · have hc := count_ok ‹_›
        refine ⟨hc.2, fun c hcm => ?_⟩
        split at h
        · simp at h
        · rename_i hn
          have : codeB c = false := by
            cases hcb : codeB c
            · rfl
            · exact absurd (List.any_eq_true.2 ⟨c, hcm, hcb⟩) hn
          simp only [codeB, decide_eq_false_iff_not] at this
          omega
      · exact absurd h ‹_›
    · have e := b6 k; rw [e]; simp
  have hid2 : (0 ≤ p.id ∧ p.id < 65536) ∧ (idB p = false → p.id = 0) := by
    by_cases hi : idB p = true
    · have : 1 ≤ p.id ∧ p.id ≤ 65535 := Classical.byContradiction fun hn => hid ⟨hi, hn⟩
      exact ⟨by omega, fun hf => by rw [hi] at hf; simp at hf⟩
    · have h0 : p.id = 0 := by
        by_cases k : p.kind = 3
        · refine h3.2.2.2.2 k ?_
          have : ¬ p.qos = 1 := fun hq => hi (by simp [idB, k, hq])
          omega
        · refine b4 fun hk2 => hi ?_
          simp only [idB, decide_eq_true_eq]; omega
      rw [h0]; simp
  refine ⟨⟨hk, hbare, h3.2.2.1 |> fun a => ⟨a, h3.2.2.2.1⟩, h1.2, h2, hid2.1, hid2.2, by omega, by omega, fun a ha => ?_, h5.2⟩, ?_⟩
  · obtain ⟨a1, a2⟩ := h4.2 a ha
    exact ⟨by omega, a2⟩
  · have e1 : (headB p).length ≤ 64 := by
      unfold headB
      split
      · simp only [List.length_append, txtB_len, numB_len, List.length_cons, List.length_nil]; omega
      · split
        · simp only [List.length_append, numB_len]; omega
        · split
          · rw [txtB_len]; omega
          · simp
    have e2 : (if idB p = true then numB 2 p.id else []).length ≤ 2 := by
      split
      · rw [numB_len]; omega
      · simp
    have e3 := flat_le (askB p.kind) 63 p.asks fun a ha => by
      have := (h4.2 a ha).1
      unfold askB
      rw [List.length_append, txtB_len]
      split
      · rw [numB_len]; omega
      · simp; omega
    have e4 := flat_le (numB 1) 1 p.codes fun c _ => by rw [numB_len]; omega
    have e5 : p.asks.length * 63 ≤ 5 * 63 := Nat.mul_le_mul_right _ h4.1
    unfold bodyB
    simp only [List.length_append]
    omega

theorem bytesP_ne (p : Pkt) : bytesP p ≠ [] := fun h => by
  have : (bytesP p).length = 0 := by rw [h]; rfl
  rw [bytesP] at this
  simp [numB_len] at this
/-- What is encoded is decoded as it was. -/
theorem decD_back {p : Pkt} (h : chkP p = 0) : decD (bytesP p) = (p, 0) := by
  obtain ⟨hf, hl⟩ := chk_form h
  have hg := getL_bytes (p := p) (by omega) []
  rw [List.append_nil] at hg
  have hr := read_bytes hf (by omega)
  have hq := hf.qos
  rw [decD, if_neg (by rw [hg]; simp [bytesP_ne]), hr, if_neg, if_pos h]
  simp only [hf.kind]
  simp
  omega
/-- What is decoded can be encoded. -/
theorem decD_ok {s : List UInt8} (h : (decD s).2 = 0) : chkP (decD s).1 = 0 ∧ bytesP (decD s).1 = s := by
  unfold decD at h ⊢
  split
  · rename_i h0; rw [if_pos h0] at h; simp at h
  · rename_i h0; rw [if_neg h0] at h
    split
    · rename_i h1; rw [if_pos h1] at h; simp at h
    · rename_i h1; rw [if_neg h1] at h
      split
      · rename_i h2
        exact ⟨h2, Classical.byContradiction fun hn => h1 (.inr (.inr (.inr hn)))⟩
      · rename_i h2; rw [if_neg h2] at h; exact absurd h h2
theorem decD_bad {s : List UInt8} (h : (decD s).2 ≠ 0) : (decD s).1 = pD 0 := by
  unfold decD at h ⊢
  split
  · rfl
  · rename_i h0; rw [if_neg h0] at h
    split
    · rfl
    · rename_i h1; rw [if_neg h1] at h
      split
      · rename_i h2; rw [if_pos h2] at h; exact absurd rfl h
      · rfl
/-- No packet's bytes are the beginning of another one's. -/
theorem apartP {p q : Pkt} (hp : chkP p = 0) (hq : chkP q = 0) (h : (bytesP q).take (bytesP p).length = bytesP p) : p = q := by
  have lp := (chk_form hp).2
  have lq := (chk_form hq).2
  have e : bytesP q = bytesP p ++ (bytesP q).drop (bytesP p).length := by
    conv => lhs; rw [← List.take_append_drop (bytesP p).length (bytesP q), h]
  have g1 := getL_bytes (p := p) (by omega) ((bytesP q).drop (bytesP p).length)
  have g2 := getL_bytes (p := q) (by omega) []
  rw [← e] at g1
  rw [List.append_nil, g1] at g2
  have hlen : (bodyB p).length = (bodyB q).length := by
    have := congrArg Prod.fst g2
    simp only at this
    omega
  have hl2 : (bytesP p).length = (bytesP q).length := by simp only [bytesP, List.length_append, numB_len, hlen]
  have e2 : bytesP p = bytesP q := by rw [hl2, List.take_length] at h; exact h.symm
  have d1 := decD_back hp
  rw [e2, decD_back hq] at d1
  exact (congrArg Prod.fst d1).symm
end Go.Proofs.YtliedecinehijaaDoor
