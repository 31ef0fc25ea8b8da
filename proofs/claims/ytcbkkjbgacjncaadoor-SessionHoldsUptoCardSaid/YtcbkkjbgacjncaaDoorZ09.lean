/-
  DERIVED: THE SHELF's CONTRACTS AT THIS DUMP, IN PLAIN WORDS (tools/lay-plain.mjs out of 'YtcbkkjbgacjncaaDoorShelf.lean', which tools/lay-shelf.mjs wrote): THE SAME DECLARATIONS UNDER THE SAME NAMES: 'import', 'namespace', 'open', 'def', 'theorem' AND NOTHING ELSE: no command of the shelf's: FOR A HAND-IN. Each laying: the table of numbers ('.._ren') and one theorem, a field a fact of the dump's own or the kernel's comparison; each contract: ONE APPLICATION.
-/
import Derived.Shelf.Small.Strs
import Derived.Shelf.Strings.Search3
import Derived.Shelf.Strings.Count
import Derived.Shelf.Strings.Split
import Derived.Shelf.Strings.IndexAnyAll
import Derived.Test.YtcbkkjbgacjncaaDoorProg
import Derived.Test.YtcbkkjbgacjncaaDoorZ06
import Derived.Test.YtcbkkjbgacjncaaDoorZ08
namespace Go.Proofs
open Go.Shelf
def Tryd.lays143_ren : Go.Shelf.Ren := ⟨fun | 143 => 53 | 219 => 61 | 217 => 67 | 225 => 65 | 224 => 64 | 267 => 68 | 266 => 69 | 314 => 70 | n => n, fun | 9 => 9 | 3 => 3 | 4 => 4 | 5 => 5 | 46 => 89 | 146 => 96 | 51 => 95 | n => n, fun | 1 => 0 | n => n⟩
theorem Tryd.lays143 : Go.Proofs.Lays.n143 Tryd.prog Tryd.lays143_ren := {
  mixed := by kernel_rfl
  f143 := Tryd.func53.trans (congrArg some (by kernel_rfl))
  f217 := Tryd.func67.trans (congrArg some (by kernel_rfl))
  f219 := Tryd.func61.trans (congrArg some (by kernel_rfl))
  f224 := Tryd.func64.trans (congrArg some (by kernel_rfl))
  f225 := Tryd.func65.trans (congrArg some (by kernel_rfl))
  f266 := Tryd.func69.trans (congrArg some (by kernel_rfl))
  f267 := Tryd.func68.trans (congrArg some (by kernel_rfl))
  f314 := Tryd.func70.trans (congrArg some (by kernel_rfl))
  t3 := Tryd.underlying3
  a3 := Tryd.isAgg3
  z3 := Tryd.sizeOf3
  v3 := Tryd.zeroValue3
  t4 := Tryd.underlying4
  a4 := Tryd.isAgg4
  z4 := Tryd.sizeOf4
  v4 := Tryd.zeroValue4
  t5 := Tryd.underlying5
  a5 := Tryd.isAgg5
  z5 := Tryd.sizeOf5
  v5 := Tryd.zeroValue5
  t9 := Tryd.underlying9
  a9 := Tryd.isAgg9
  z9 := Tryd.sizeOf9
  v9 := Tryd.zeroValue9
  t46 := Tryd.underlying89
  a46 := Tryd.isAgg89
  z46 := Tryd.sizeOf89
  v46 := Tryd.zeroValue89
  t51 := Tryd.underlying95
  a51 := Tryd.isAgg95
  z51 := Tryd.sizeOf95
  v51 := Tryd.zeroValue95
  t146 := Tryd.underlying96
  a146 := Tryd.isAgg96
  z146 := Tryd.sizeOf96
  v146 := Tryd.zeroValue96
  g1 := by kernel_rfl }
def Tryd.lays138_ren : Go.Shelf.Ren := ⟨fun | 138 => 52 | 195 => 58 | 218 => 60 | 143 => 53 | 219 => 61 | 217 => 67 | 225 => 65 | 224 => 64 | 267 => 68 | 266 => 69 | 314 => 70 | n => n, fun | 9 => 9 | 3 => 3 | 4 => 4 | 5 => 5 | 0 => 0 | 46 => 89 | 146 => 96 | 51 => 95 | n => n, fun | 1 => 0 | n => n⟩
theorem Tryd.lays138 : Go.Proofs.Lays.n138 Tryd.prog Tryd.lays138_ren := {
  mixed := by kernel_rfl
  f138 := Tryd.func52.trans (congrArg some (by kernel_rfl))
  f143 := Tryd.func53.trans (congrArg some (by kernel_rfl))
  f195 := Tryd.func58.trans (congrArg some (by kernel_rfl))
  f217 := Tryd.func67.trans (congrArg some (by kernel_rfl))
  f218 := Tryd.func60.trans (congrArg some (by kernel_rfl))
  f219 := Tryd.func61.trans (congrArg some (by kernel_rfl))
  f224 := Tryd.func64.trans (congrArg some (by kernel_rfl))
  f225 := Tryd.func65.trans (congrArg some (by kernel_rfl))
  f266 := Tryd.func69.trans (congrArg some (by kernel_rfl))
  f267 := Tryd.func68.trans (congrArg some (by kernel_rfl))
  f314 := Tryd.func70.trans (congrArg some (by kernel_rfl))
  t0 := Tryd.underlying0
  a0 := Tryd.isAgg0
  z0 := Tryd.sizeOf0
  v0 := Tryd.zeroValue0
  t3 := Tryd.underlying3
  a3 := Tryd.isAgg3
  z3 := Tryd.sizeOf3
  v3 := Tryd.zeroValue3
  t4 := Tryd.underlying4
  a4 := Tryd.isAgg4
  z4 := Tryd.sizeOf4
  v4 := Tryd.zeroValue4
  t5 := Tryd.underlying5
  a5 := Tryd.isAgg5
  z5 := Tryd.sizeOf5
  v5 := Tryd.zeroValue5
  t9 := Tryd.underlying9
  a9 := Tryd.isAgg9
  z9 := Tryd.sizeOf9
  v9 := Tryd.zeroValue9
  t46 := Tryd.underlying89
  a46 := Tryd.isAgg89
  z46 := Tryd.sizeOf89
  v46 := Tryd.zeroValue89
  t51 := Tryd.underlying95
  a51 := Tryd.isAgg95
  z51 := Tryd.sizeOf95
  v51 := Tryd.zeroValue95
  t146 := Tryd.underlying96
  a146 := Tryd.isAgg96
  z146 := Tryd.sizeOf96
  v146 := Tryd.zeroValue96
  g1 := by kernel_rfl }
def Tryd.lays221_ren : Go.Shelf.Ren := ⟨fun | 221 => 43 | 268 => 51 | 138 => 52 | 143 => 53 | 195 => 58 | 197 => 59 | 218 => 60 | 219 => 61 | 260 => 66 | 217 => 67 | 225 => 65 | 224 => 64 | 267 => 68 | 266 => 69 | 314 => 70 | n => n, fun | 9 => 9 | 3 => 3 | 31 => 26 | 4 => 4 | 0 => 0 | 105 => 84 | 21 => 21 | 5 => 5 | 46 => 89 | 119 => 91 | 139 => 94 | 138 => 93 | 146 => 96 | 51 => 95 | n => n, fun | 1 => 0 | 3 => 1 | 4 => 2 | n => n⟩
theorem Tryd.lays221 : Go.Proofs.Lays.n221 Tryd.prog Tryd.lays221_ren := {
  mixed := by kernel_rfl
  f138 := Tryd.func52.trans (congrArg some (by kernel_rfl))
  f143 := Tryd.func53.trans (congrArg some (by kernel_rfl))
  f195 := Tryd.func58.trans (congrArg some (by kernel_rfl))
  f197 := Tryd.func59.trans (congrArg some (by kernel_rfl))
  f217 := Tryd.func67.trans (congrArg some (by kernel_rfl))
  f218 := Tryd.func60.trans (congrArg some (by kernel_rfl))
  f219 := Tryd.func61.trans (congrArg some (by kernel_rfl))
  f221 := Tryd.func43.trans (congrArg some (by kernel_rfl))
  f224 := Tryd.func64.trans (congrArg some (by kernel_rfl))
  f225 := Tryd.func65.trans (congrArg some (by kernel_rfl))
  f260 := Tryd.func66.trans (congrArg some (by kernel_rfl))
  f266 := Tryd.func69.trans (congrArg some (by kernel_rfl))
  f267 := Tryd.func68.trans (congrArg some (by kernel_rfl))
  f268 := Tryd.func51.trans (congrArg some (by kernel_rfl))
  f314 := Tryd.func70.trans (congrArg some (by kernel_rfl))
  t0 := Tryd.underlying0
  a0 := Tryd.isAgg0
  z0 := Tryd.sizeOf0
  v0 := Tryd.zeroValue0
  t3 := Tryd.underlying3
  a3 := Tryd.isAgg3
  z3 := Tryd.sizeOf3
  v3 := Tryd.zeroValue3
  t4 := Tryd.underlying4
  a4 := Tryd.isAgg4
  z4 := Tryd.sizeOf4
  v4 := Tryd.zeroValue4
  t5 := Tryd.underlying5
  a5 := Tryd.isAgg5
  z5 := Tryd.sizeOf5
  v5 := Tryd.zeroValue5
  t9 := Tryd.underlying9
  a9 := Tryd.isAgg9
  z9 := Tryd.sizeOf9
  v9 := Tryd.zeroValue9
  t21 := Tryd.underlying21
  a21 := Tryd.isAgg21
  z21 := Tryd.sizeOf21
  v21 := Tryd.zeroValue21
  t31 := Tryd.underlying26
  a31 := Tryd.isAgg26
  z31 := Tryd.sizeOf26
  v31 := Tryd.zeroValue26
  t46 := Tryd.underlying89
  a46 := Tryd.isAgg89
  z46 := Tryd.sizeOf89
  v46 := Tryd.zeroValue89
  t51 := Tryd.underlying95
  a51 := Tryd.isAgg95
  z51 := Tryd.sizeOf95
  v51 := Tryd.zeroValue95
  t105 := Tryd.underlying84
  a105 := Tryd.isAgg84
  z105 := Tryd.sizeOf84
  v105 := Tryd.zeroValue84
  t119 := Tryd.underlying91
  a119 := Tryd.isAgg91
  z119 := Tryd.sizeOf91
  t138 := Tryd.underlying93
  a138 := Tryd.isAgg93
  z138 := Tryd.sizeOf93
  v138 := Tryd.zeroValue93
  t139 := Tryd.underlying94
  a139 := Tryd.isAgg94
  z139 := Tryd.sizeOf94
  v139 := Tryd.zeroValue94
  t146 := Tryd.underlying96
  a146 := Tryd.isAgg96
  z146 := Tryd.sizeOf96
  v146 := Tryd.zeroValue96
  g1 := by kernel_rfl
  g3 := by kernel_rfl
  g4 := by kernel_rfl }
def Tryd.lays150_ren : Go.Shelf.Ren := ⟨fun | 150 => 35 | 153 => 44 | 152 => 54 | 226 => 55 | 227 => 56 | 228 => 57 | 137 => 62 | 119 => 63 | 224 => 64 | 225 => 65 | 217 => 67 | 266 => 69 | n => n, fun | 9 => 9 | 4 => 4 | 3 => 3 | 5 => 5 | 21 => 21 | 117 => 80 | 116 => 79 | 0 => 0 | 46 => 89 | 124 => 90 | n => n, fun | n => n⟩
theorem Tryd.lays150 : Go.Proofs.Lays.n150 Tryd.prog Tryd.lays150_ren := {
  mixed := by kernel_rfl
  f119 := Tryd.func63.trans (congrArg some (by kernel_rfl))
  f137 := Tryd.func62.trans (congrArg some (by kernel_rfl))
  f150 := Tryd.func35.trans (congrArg some (by kernel_rfl))
  f152 := Tryd.func54.trans (congrArg some (by kernel_rfl))
  f153 := Tryd.func44.trans (congrArg some (by kernel_rfl))
  f217 := Tryd.func67.trans (congrArg some (by kernel_rfl))
  f224 := Tryd.func64.trans (congrArg some (by kernel_rfl))
  f225 := Tryd.func65.trans (congrArg some (by kernel_rfl))
  f226 := Tryd.func55.trans (congrArg some (by kernel_rfl))
  f227 := Tryd.func56.trans (congrArg some (by kernel_rfl))
  f228 := Tryd.func57.trans (congrArg some (by kernel_rfl))
  f266 := Tryd.func69.trans (congrArg some (by kernel_rfl))
  t0 := Tryd.underlying0
  a0 := Tryd.isAgg0
  z0 := Tryd.sizeOf0
  v0 := Tryd.zeroValue0
  t3 := Tryd.underlying3
  a3 := Tryd.isAgg3
  z3 := Tryd.sizeOf3
  v3 := Tryd.zeroValue3
  t4 := Tryd.underlying4
  a4 := Tryd.isAgg4
  z4 := Tryd.sizeOf4
  v4 := Tryd.zeroValue4
  t5 := Tryd.underlying5
  a5 := Tryd.isAgg5
  z5 := Tryd.sizeOf5
  v5 := Tryd.zeroValue5
  t9 := Tryd.underlying9
  a9 := Tryd.isAgg9
  z9 := Tryd.sizeOf9
  v9 := Tryd.zeroValue9
  t21 := Tryd.underlying21
  a21 := Tryd.isAgg21
  z21 := Tryd.sizeOf21
  v21 := Tryd.zeroValue21
  t46 := Tryd.underlying89
  a46 := Tryd.isAgg89
  z46 := Tryd.sizeOf89
  v46 := Tryd.zeroValue89
  t116 := Tryd.underlying79
  a116 := Tryd.isAgg79
  z116 := Tryd.sizeOf79
  t117 := Tryd.underlying80
  a117 := Tryd.isAgg80
  z117 := Tryd.sizeOf80
  v117 := Tryd.zeroValue80
  t124 := Tryd.underlying90
  a124 := Tryd.isAgg90
  z124 := Tryd.sizeOf90
  v124 := Tryd.zeroValue90 }
end Go.Proofs

/-
  Topics: levels of a text. By an AI agent.
-/
set_option linter.unusedSimpArgs false
set_option linter.unusedVariables false
namespace Go.Proofs.YtcbkkjbgacjncaaDoor
open Go.Sx

def encS (s : List UInt8) : List Value := [.string ⟨s.toArray⟩]
theorem gS_encS (ps : List (List UInt8)) (i : Nat) : Value.gS (((ps.map encS).getD i []).getD 0 undef) = ps.getD i [] := by
  simp only [List.getD_eq_getElem?_getD, List.getElem?_map]
  cases ps[i]? <;> simp [encS, Value.gS, undef]
abbrev readsS (w : World) (v : Value) (ps : List (List UInt8)) : Prop := reads w v [.str] (ps.map encS)
def freshS (n : Nat) (v : Value) (ps : List (List UInt8)) : Prop := ∀ k, (ps.map encS).flatten ≠ [] ∧ blockOf v k → n ≤ k
theorem dropS (ps : List (List UInt8)) (i : Nat) (h : i < ps.length) : ps.drop i = ps.getD i [] :: ps.drop (i + 1) := by
  rw [List.drop_eq_getElem_cons h, List.getD_eq_getElem?_getD, List.getElem?_eq_getElem h]; rfl
theorem drop_getD' (s : List UInt8) (k : Nat) (h : k < s.length) : s.drop k = s.getD k 0 :: s.drop (k + 1) := by
  rw [List.drop_eq_getElem_cons h, List.getD_eq_getElem?_getD, List.getElem?_eq_getElem h]; rfl
theorem u8_lt' (b : UInt8) : b.toNat < 256 := b.toNat_lt

/-- The levels of a text. -/
def lev : List UInt8 → List (List UInt8)
  | [] => [[]]
  | c :: l => if c = 47 then [] :: lev l else match lev l with | [] => [[c]] | x :: xs => (c :: x) :: xs
def glue (p : List UInt8) : List (List UInt8) → List (List UInt8)
  | [] => []
  | x :: xs => (p ++ x) :: xs
theorem glue_nil (l : List (List UInt8)) : glue [] l = l := by cases l <;> rfl
theorem lev_ne (s : List UInt8) : ∃ x xs, lev s = x :: xs := by
  cases s with
  | nil => exact ⟨[], [], rfl⟩
  | cons c l =>
    simp only [lev]
    split
    · exact ⟨_, _, rfl⟩
    · split <;> exact ⟨_, _, rfl⟩
theorem lev_slash (l : List UInt8) : lev (47 :: l) = [] :: lev l := by simp [lev]
theorem lev_other {c : UInt8} (l : List UInt8) (h : c ≠ 47) : lev (c :: l) = glue [c] (lev l) := by
  obtain ⟨x, xs, e⟩ := lev_ne l
  simp [lev, if_neg h, e, glue]
theorem glue_glue (p q : List UInt8) (l : List (List UInt8)) : glue p (glue q l) = glue (p ++ q) l := by cases l <;> simp [glue]

theorem c_LevelsOf (w : World) (s : List UInt8) (hs : s.length < 1099511627776) : Calls Tryd.prog 7 #[.string ⟨s.toArray⟩] w
    fun e w' => ∃ v, e = .returned (sc1 v) ∧ readsS w' v (lev s) ∧ freshS w.heap.size v (lev s) ∧ Mod [] w w' := by
  refine as_called (run_plain2 (ρ := [.s s]) sxE_ok Tryd.func7 tree_dragomanref_LevelsOf rfl rfl rfl ?_) rfl
  simp only [Tree.goal, X.P, X.ev, V.toI_i, V.toB_b, V.toS_s, V.toR_r, V.toV_v, V.toN_n, V.toL_l, SV.ev, CV.ev, Sc.ev, List.getD_cons_zero, List.getD_cons_succ, List.getElem?_cons_zero, List.getElem?_cons_succ, List.map_cons, List.map_nil, List.length_cons, List.length_nil, List.cons_append, List.nil_append, Nat.zero_add, Nat.reduceAdd]
  refine ⟨fun vs => ∃ (v : Value) (acc : List (List UInt8)) (a i : Nat), vs = [.v v, .r (acc.map encS), .i a, .i i] ∧ acc.length ≤ i ∧
      (i ≤ s.length ∧ a ≤ i ∧ acc ++ glue ((s.take i).drop a) (lev (s.drop i)) = lev s ∨ i = s.length + 1 ∧ acc = lev s), fun vs => s.length + 1 - (vs.getD 3 (.i 0)).toI.toNat, ⟨_, [], 0, 0, rfl, by simp, .inl ⟨by omega, by omega, by simp [glue_nil]⟩⟩, ?_⟩
  rintro _ - ⟨v, acc, a, i, rfl, hal, hinv⟩
  simp only [Tree.goal, X.P, X.ev, V.toI_i, V.toB_b, V.toS_s, V.toR_r, V.toV_v, V.toN_n, V.toL_l, SV.ev, CV.ev, Sc.ev, List.getD_cons_zero, List.getD_cons_succ, List.getElem?_cons_zero, List.getElem?_cons_succ, List.map_cons, List.map_nil, List.length_cons, List.length_nil, List.cons_append, List.nil_append, Nat.zero_add, Nat.reduceAdd, List.length_map, Int.toNat_natCast]
  refine ⟨fun h1 => ?_, fun h1 w' hr => ?_⟩
  · obtain ⟨hi, ha, hg⟩ := hinv.resolve_right fun h => by omega
    refine ⟨.inr (by omega), by omega, fun h2 => ?_, fun h2 => ?_⟩
    · (repeat refine ⟨by omega, ?_⟩)
      intro v1
      refine ⟨by omega, fun v2 => ⟨by omega, by omega, ⟨v2, acc ++ [(s.take i).drop a], i + 1, i + 1, by simp [encS], by simp; omega, ?_⟩, by omega⟩⟩
      by_cases h3 : i = s.length
      · subst h3
        rw [List.drop_length] at hg
        exact .inr ⟨rfl, by rw [← hg]; simp [lev, glue]⟩
      · refine .inl ⟨by omega, by omega, ?_⟩
        have h4 : s.getD i 0 = 47 := by
          have : (s.getD i 0).toNat = 47 := by
            rcases h2 with h2 | h2
            · omega
            · omega
          exact UInt8.toNat_inj.1 this
        rw [drop_getD' s i (by omega), h4, lev_slash] at hg
        have hz : glue ((s.take (i + 1)).drop (i + 1)) (lev (s.drop (i + 1))) = lev (s.drop (i + 1)) := by rw [List.drop_of_length_le (by simp; omega), glue_nil]
        rw [hz, ← hg]
        simp [glue]
    · refine ⟨by omega, by omega, ⟨v, acc, a, i + 1, rfl, by omega, .inl ⟨by omega, by omega, ?_⟩⟩, by omega⟩
      have h4 : s.getD i 0 ≠ 47 := fun h => h2 (.inr (by rw [h]; rfl))
      rw [drop_getD' s i (by omega), lev_other _ h4, glue_glue] at hg
      rw [← hg]
      congr 2
      rw [List.take_add_one, List.drop_append_of_le_length (by simp; omega), List.getD_eq_getElem?_getD]
      rw [List.getElem?_eq_getElem (by omega)]
      rfl
  · obtain ⟨hi, hg⟩ := hinv.resolve_left fun h => by omega
    subst hg
    refine ⟨v, rfl, owns.reads (hr.at_ 0 rfl), fun k hk => ?_, hr.mod⟩
    rcases hr.own _ (List.mem_cons_self ..) rfl k hk.2 with h | h
    · exact h
    · simp at h

theorem lev_miss : ∀ {s : List UInt8}, Lib.indexByte s 47 = -1 → lev s = [s] := by
  intro s
  induction s with
  | nil => intro _; rfl
  | cons c l ih =>
    intro h
    unfold Lib.indexByte at h
    split at h
    · exact absurd h (by decide)
    · rename_i hc
      have hc : c ≠ 47 := by simpa using hc
      split at h
      · rename_i h2
        rw [lev_other _ hc, ih (by simpa using h2)]; rfl
      · have := Lib.indexByte_ge l 47
        omega
theorem lev_hit : ∀ {s : List UInt8} {i : Nat}, Lib.indexByte s 47 = i → lev s = s.take i :: lev (s.drop (i + 1)) ∧ s.count 47 = (s.drop (i + 1)).count 47 + 1 := by
  intro s
  induction s with
  | nil => intro i h; unfold Lib.indexByte at h; omega
  | cons c l ih =>
    intro i h
    unfold Lib.indexByte at h
    split at h
    · rename_i hc
      have hc : c = 47 := by simpa using hc
      have : i = 0 := by omega
      subst this hc
      rw [lev_slash]
      simp
    · rename_i hc
      have hc : c ≠ 47 := by simpa using hc
      split at h
      · omega
      · rename_i h2
        have h3 := Lib.indexByte_ge l 47
        have h2 : ¬ Lib.indexByte l 47 = -1 := by simpa using h2
        obtain ⟨j, hj⟩ : ∃ j : Nat, Lib.indexByte l 47 = j := ⟨(Lib.indexByte l 47).toNat, by omega⟩
        have hij : i = j + 1 := by omega
        subst hij
        obtain ⟨e1, e2⟩ := ih hj
        rw [lev_other _ hc, e1]
        refine ⟨by simp [glue], ?_⟩
        rw [List.count_cons_of_ne hc, e2]; simp
theorem splitK_lev : ∀ (k : Nat) (s : List UInt8), s.count 47 = k → Lib.splitK [47] 0 k s = lev s := by
  intro k
  induction k with
  | zero =>
    intro s h
    unfold Lib.splitK
    refine (lev_miss ?_).symm
    rcases Int.lt_or_le (Lib.indexByte s 47) 0 with h1 | h1
    · have := Lib.indexByte_ge s 47; omega
    · obtain ⟨i, hi⟩ : ∃ i : Nat, Lib.indexByte s 47 = i := ⟨(Lib.indexByte s 47).toNat, by omega⟩
      have := (lev_hit hi).2
      omega
  | succ k ih =>
    intro s h
    unfold Lib.splitK
    rw [Lib.index_one]
    by_cases h1 : Lib.indexByte s 47 = -1
    · rw [if_pos (by simpa using h1), lev_miss h1]
    · rw [if_neg (by simpa using h1)]
      obtain ⟨i, hi⟩ : ∃ i : Nat, Lib.indexByte s 47 = i := ⟨(Lib.indexByte s 47).toNat, by have h5 := Lib.indexByte_ge s 47; have h6 : ¬ Lib.indexByte s 47 = -1 := h1; omega⟩
      obtain ⟨e1, e2⟩ := lev_hit hi
      rw [hi, e1, ← ih (s.drop (i + 1)) (by omega)]
      simp

/-- strings.Split at a slash: what it hands back. -/
theorem c_genSplit (w : World) (s : List UInt8) (hs : s.length < 4294967281) : Calls Tryd.prog 43 #[.string ⟨s.toArray⟩, .string ⟨#[47]⟩, .int .i64 0, .int .i64 (-1)] w
    fun e w' => ∃ v, e = .returned (sc1 v) ∧ readsS w' v (lev s) ∧ freshS w.heap.size v (lev s) ∧ Mod [] w w' := by
  have hsz : (⟨s.toArray⟩ : ByteArray).size = s.length := rfl
  have hcount : Lib.countB ⟨s.toArray⟩ ⟨#[47]⟩ = s.count 47 := Lib.count_one 47 s
  have hc1 : s.count 47 ≤ s.length := List.count_le_length
  have c := Any.strings_genSplit_core Tryd.lays221 (by kernel_rfl) ⟨s.toArray⟩ ⟨#[47]⟩ 0 (-1) (s.count 47 + 1) w (by rw [hsz]; exact hs) (by decide) (Nat.zero_le _)
    (fun x c hx => (Any.strings_Index_one { Tryd.lays221 with } x 47 _).mono fun e w' ⟨h1, h2⟩ => ⟨by rw [h1]; show _ = Ending.returned (Value.int .i64 (Lib.index x.data.toList [47])); rw [Lib.index_one], h2⟩)
    ((Any.strings_Count_one { Tryd.lays221 with } ⟨s.toArray⟩ 47 w).mono fun e w' ⟨h1, h2⟩ => ⟨by rw [h1, hcount]; rfl, h2⟩) (by decide) (by decide) (by rw [if_pos (by decide), hcount, hsz]; omega)
  refine (as_called c rfl).mono ?_
  rintro e w' ⟨rfl, rfl⟩
  rw [Nat.add_sub_cancel]
  have hdata := Lib.splitB_data ⟨#[47]⟩ 0 (s.count 47) ⟨s.toArray⟩
  have hlev : (Lib.splitB ⟨#[47]⟩ 0 (s.count 47) ⟨s.toArray⟩).map (·.data.toList) = lev s := hdata.trans (splitK_lev _ s rfl)
  have hlen := Lib.splitB_all ⟨#[47]⟩ (by decide) 0 (s.count 47) ⟨s.toArray⟩ hcount
  generalize Lib.splitB ⟨#[47]⟩ 0 (s.count 47) ⟨s.toArray⟩ = pcs at hlev hlen
  rw [hlen]
  have hll : (lev s).length = s.count 47 + 1 := by rw [← hlev, List.length_map, hlen]
  have hfull : Lib.cellsOf pcs (s.count 47 + 1) = (pcs.map Value.string).toArray := by rw [← hlen]; exact Lib.cellsOf_full _
  have hrow : (lev s).map encS = pcs.map fun b => [Value.string b] := by
    rw [← hlev, List.map_map]
    refine List.map_congr_left fun b _ => ?_
    obtain ⟨⟨l⟩⟩ := b
    rfl
  have hfl : (pcs.map fun b => [Value.string b]).flatten = pcs.map Value.string := by
    clear hlev hlen hfull hrow
    induction pcs <;> simp_all
  refine ⟨.slice (some ⟨w.heap.size, 0, none⟩) (s.count 47 + 1) (s.count 47 + 1), rfl, ⟨?_, some ⟨w.heap.size, 0, none⟩, s.count 47 + 1, by rw [List.length_map, hll], ⟨(fun h => by cases h), by rw [List.length_map, hll]; exact Nat.le_refl _⟩, fun _ => ⟨_, rfl, fun j u hj => ?_⟩⟩, fun k hk => ?_, Mod.alloc [] w _⟩
  · intro r hr
    obtain ⟨x, -, rfl⟩ := List.mem_map.1 hr
    exact ⟨⟨_, rfl⟩, trivial⟩
  · rw [hrow, hfl] at hj
    rw [add_mk, Nat.zero_add, hfull]
    exact (World.cell?_alloc_new ..).trans (by simpa using hj)
  · have h := hk.2
    simp only [blockOf, Value.ownBlock, Option.some.injEq] at h
    omega
end Go.Proofs.YtcbkkjbgacjncaaDoor

/-
  Topics: what is wrong with one. By an AI agent.
-/
set_option linter.unusedSimpArgs false
set_option linter.unusedVariables false
namespace Go.Proofs.YtcbkkjbgacjncaaDoor
open Go.Sx

theorem c_Split (w : World) (s : List UInt8) (hs : s.length < 4294967281) : Calls Tryd.prog 33 #[.string ⟨s.toArray⟩, .string ⟨#[47]⟩] w
    fun e w' => ∃ v, e = .returned (sc1 v) ∧ readsS w' v (lev s) ∧ freshS w.heap.size v (lev s) ∧ Mod [] w w' := by
  refine as_called (run_plain2 (ρ := [.s s, .s [47]]) sxE_ok Tryd.func33 tree_strings_Split rfl rfl rfl ?_) rfl
  simp only [Tree.goal, X.P, X.ev, V.toI_i, V.toB_b, V.toS_s, V.toR_r, V.toV_v, V.toN_n, V.toL_l, SV.ev, CV.ev, Sc.ev, List.getD_cons_zero, List.getD_cons_succ, List.getElem?_cons_zero, List.getElem?_cons_succ, List.map_cons, List.map_nil, List.length_cons, List.length_nil, List.cons_append, List.nil_append, Nat.zero_add, Nat.reduceAdd]
  intro w1 hr
  refine (c_genSplit w1 s hs).mono ?_
  rintro e w2 ⟨v1, rfl, r1, f1, m1⟩
  have hsz := hr.mod.size
  refine ⟨[.v v1, .r ((lev s).map encS)], rfl, rfl, m1, List.forall_mem_nil _, List.forall_mem_cons.2 ⟨⟨r1, fun k hk => .inl (f1 k hk)⟩, List.forall_mem_nil _⟩, apart_one, ?_⟩
  simp only [Tree.goal, X.P, X.ev, V.toI_i, V.toB_b, V.toS_s, V.toR_r, V.toV_v, V.toN_n, V.toL_l, SV.ev, CV.ev, Sc.ev, List.getD_cons_zero, List.getD_cons_succ, List.getElem?_cons_zero, List.getElem?_cons_succ, List.map_cons, List.map_nil, List.length_cons, List.length_nil, List.cons_append, List.nil_append, Nat.zero_add, Nat.reduceAdd]
  exact fun w' hr => ⟨v1, rfl, hr.at_ 0 rfl, fun k hk => Nat.le_trans hsz (f1 k hk), hr.mod⟩
theorem c_Levels (w : World) (s : List UInt8) (hs : s.length < 4294967281) : Calls Tryd.prog 18 #[.string ⟨s.toArray⟩] w
    fun e w' => ∃ v, e = .returned (sc1 v) ∧ readsS w' v (lev s) ∧ freshS w.heap.size v (lev s) ∧ Mod [] w w' := by
  refine as_called (run_plain2 (ρ := [.s s]) sxE_ok Tryd.func18 tree_topic_Levels rfl rfl rfl ?_) rfl
  simp only [Tree.goal, X.P, X.ev, V.toI_i, V.toB_b, V.toS_s, V.toR_r, V.toV_v, V.toN_n, V.toL_l, SV.ev, CV.ev, Sc.ev, List.getD_cons_zero, List.getD_cons_succ, List.getElem?_cons_zero, List.getElem?_cons_succ, List.map_cons, List.map_nil, List.length_cons, List.length_nil, List.cons_append, List.nil_append, Nat.zero_add, Nat.reduceAdd]
  intro w1 hr
  refine (c_Split w1 s hs).mono ?_
  rintro e w2 ⟨v1, rfl, r1, f1, m1⟩
  have hsz := hr.mod.size
  refine ⟨[.v v1, .r ((lev s).map encS)], rfl, rfl, m1, List.forall_mem_nil _, List.forall_mem_cons.2 ⟨⟨r1, fun k hk => .inl (f1 k hk)⟩, List.forall_mem_nil _⟩, apart_one, ?_⟩
  simp only [Tree.goal, X.P, X.ev, V.toI_i, V.toB_b, V.toS_s, V.toR_r, V.toV_v, V.toN_n, V.toL_l, SV.ev, CV.ev, Sc.ev, List.getD_cons_zero, List.getD_cons_succ, List.getElem?_cons_zero, List.getElem?_cons_succ, List.map_cons, List.map_nil, List.length_cons, List.length_nil, List.cons_append, List.nil_append, Nat.zero_add, Nat.reduceAdd]
  exact fun w' hr => ⟨v1, rfl, hr.at_ 0 rfl, fun k hk => Nat.le_trans hsz (f1 k hk), hr.mod⟩

/-- Only signs that may be seen. -/
def plainS (s : List UInt8) : Bool := s.all fun b => decide (33 ≤ b.toNat ∧ b.toNat ≤ 126)
theorem plain_snoc (s : List UInt8) (i : Nat) (h : i < s.length) : plainS (s.take (i + 1)) = (plainS (s.take i) && decide (33 ≤ (s.getD i 0).toNat ∧ (s.getD i 0).toNat ≤ 126)) := by
  rw [List.take_add_one, List.getD_eq_getElem?_getD, List.getElem?_eq_getElem h]
  simp only [plainS, List.all_append, Option.toList_some, List.all_cons, List.all_nil, Bool.and_true, Option.getD_some]
theorem plain_not {s : List UInt8} {i : Nat} (h : i < s.length) (h1 : ¬ (33 ≤ (s.getD i 0).toNat ∧ (s.getD i 0).toNat ≤ 126)) : plainS s = false := by
  rw [← Bool.not_eq_true]
  intro h2
  rw [plainS, List.all_eq_true] at h2
  have := h2 (s.getD i 0) (by rw [List.getD_eq_getElem?_getD, List.getElem?_eq_getElem h]; exact List.getElem_mem h)
  exact h1 (of_decide_eq_true this)
theorem c_Plain (w : World) (s : List UInt8) (hs : s.length < 1099511627776) : Calls Tryd.prog 34 #[.string ⟨s.toArray⟩] w fun e w' => e = .returned (.bool (plainS s)) ∧ Mod [] w w' := by
  refine as_called (run_plain2 (ρ := [.s s]) sxE_ok Tryd.func34 tree_topic_Plain rfl rfl rfl ?_) rfl
  simp only [Tree.goal, X.P, X.ev, V.toI_i, V.toB_b, V.toS_s, V.toR_r, V.toV_v, V.toN_n, V.toL_l, SV.ev, CV.ev, Sc.ev, List.getD_cons_zero, List.getD_cons_succ, List.getElem?_cons_zero, List.getElem?_cons_succ, List.map_cons, List.map_nil, List.length_cons, List.length_nil, List.cons_append, List.nil_append, Nat.zero_add, Nat.reduceAdd]
  refine ⟨fun vs => ∃ (x : V) (i : Nat), vs = [x, .i i] ∧ i ≤ s.length ∧ plainS (s.take i) = true, fun vs => s.length - (vs.getD 1 (.i 0)).toI.toNat, ⟨_, 0, rfl, by omega, rfl⟩, ?_⟩
  rintro _ - ⟨x, i, rfl, hi, hp⟩
  simp only [Tree.goal, X.P, X.ev, V.toI_i, V.toB_b, V.toS_s, V.toR_r, V.toV_v, V.toN_n, V.toL_l, SV.ev, CV.ev, Sc.ev, List.getD_cons_zero, List.getD_cons_succ, List.getElem?_cons_zero, List.getElem?_cons_succ, List.map_cons, List.map_nil, List.length_cons, List.length_nil, List.cons_append, List.nil_append, Nat.zero_add, Nat.reduceAdd, Int.toNat_natCast]
  refine ⟨fun h1 => ⟨by omega, fun h2 w' hr => ⟨by rw [plain_not (i := i) (by omega) (by omega)], hr.mod⟩, fun h2 => ⟨by omega, by omega, ⟨x, i + 1, rfl, by omega, ?_⟩, by omega⟩⟩, fun h1 w' hr => ⟨?_, hr.mod⟩⟩
  · rw [plain_snoc _ _ (by omega), hp, Bool.true_and, decide_eq_true_eq]; omega
  · have : i = s.length := by omega
    subst this
    rw [List.take_length] at hp; rw [hp]

/-- Has a level a sign for others? -/
def wild (x : List UInt8) : Bool := x.any fun b => b == 43 || b == 35
theorem has_wild : ∀ x : List UInt8, Lib.containsAny x [43, 35] = wild x := by
  intro x
  induction x with
  | nil => rfl
  | cons b l ih =>
    have hg := Lib.indexAny_ge [43, 35] l
    unfold Lib.containsAny at ih ⊢
    unfold Lib.indexAny
    simp only [wild, List.any_cons]
    by_cases h : b = 43 ∨ b = 35
    · have h1 : ([43, 35] : List UInt8).contains b = true := by rcases h with h | h <;> subst h <;> decide
      have h2 : (b == 43 || b == 35) = true := by rcases h with h | h <;> subst h <;> decide
      rw [if_pos h1, h2] <;> rfl
    · have h1 : ¬ ([43, 35] : List UInt8).contains b = true := by simp; exact ⟨fun h2 => h (.inl h2), fun h2 => h (.inr h2)⟩
      have h2 : (b == 43 || b == 35) = false := by simp; exact ⟨fun h2 => h (.inl h2), fun h2 => h (.inr h2)⟩
      rw [if_neg h1, h2, Bool.false_or]
      change _ = wild l
      rw [← ih]
      by_cases h3 : Lib.indexAny l [43, 35] = -1
      · rw [if_pos (by simpa using h3), h3] <;> rfl
      · rw [if_neg (by simpa using h3)]
        exact decide_eq_decide.2 (by omega)
theorem c_ContainsAny (w : World) (x : List UInt8) (hs : x.length < 4294967281) (ha : ∀ b ∈ x, b.toNat < 128) : Calls Tryd.prog 35 #[.string ⟨x.toArray⟩, .string ⟨#[43, 35]⟩] w fun e w' => e = .returned (.bool (wild x)) ∧ Mod [] w w' := by
  refine (as_called (Any.strings_ContainsAny_laid Tryd.lays150 (by kernel_rfl) ⟨x.toArray⟩ ⟨#[43, 35]⟩ w hs (by decide) (fun j b hb => ha b (List.mem_of_getElem? hb)) (fun j b hb => ?_)) rfl).mono ?_
  · have : b ∈ ([43, 35] : List UInt8) := List.mem_of_getElem? hb
    simp at this
    rcases this with rfl | rfl <;> decide
  · rintro e w' ⟨h1, h2⟩
    refine ⟨?_, Mod.of_below h2⟩
    rw [h1]
    exact congrArg (fun b => Ending.returned (Value.bool b)) (has_wild x)

/-- Levels that may not stand there. -/
def badL (filter : Bool) : List (List UInt8) → Bool
  | [] => false
  | x :: r => (wild x && (!filter || (!decide (x = [43]) && (!decide (x = [35]) || !decide (r = []))))) || badL filter r
/-- What is wrong with a topic, or a filter. -/
def chkT (s : List UInt8) (filter : Bool) : Int :=
  if s = [] then 1 else if 60 < (s.length : Int) ∨ 6 < ((lev s).length : Int) then 2 else if plainS s = true then (if badL filter (lev s) = true then 1 else 0) else 1
theorem chkT_nil {f : Bool} : chkT [] f = 1 := rfl
theorem chkT_many {s : List UInt8} {f : Bool} (h : ¬ s = []) (h1 : 60 < (s.length : Int) ∨ 6 < ((lev s).length : Int)) : chkT s f = 2 := by rw [chkT, if_neg h, if_pos h1]
theorem chkT_plain {s : List UInt8} {f : Bool} (h : ¬ s = []) (h1 : ¬ (60 < (s.length : Int) ∨ 6 < ((lev s).length : Int))) (h2 : ¬ plainS s = true) : chkT s f = 1 := by rw [chkT, if_neg h, if_neg h1, if_neg h2]
theorem chkT_lev {s : List UInt8} {f : Bool} (h : ¬ s = []) (h1 : ¬ (60 < (s.length : Int) ∨ 6 < ((lev s).length : Int))) (h2 : plainS s = true) : chkT s f = if badL f (lev s) = true then 1 else 0 := by rw [chkT, if_neg h, if_neg h1, if_pos h2]

theorem lev_mem : ∀ {s x : List UInt8}, x ∈ lev s → ∀ b ∈ x, b ∈ s := by
  intro s
  induction s with
  | nil => intro x hx b hb; simp [lev] at hx; subst hx; simp at hb
  | cons c l ih =>
    intro x hx b hb
    by_cases hc : c = 47
    · subst hc
      rw [lev_slash] at hx
      rcases List.mem_cons.1 hx with rfl | hx
      · simp at hb
      · exact List.mem_cons_of_mem _ (ih hx b hb)
    · obtain ⟨y, ys, e⟩ := lev_ne l
      rw [lev_other _ hc, e] at hx
      rcases List.mem_cons.1 hx with rfl | hx
      · rcases List.mem_append.1 hb with hb | hb
        · simp at hb; subst hb; simp
        · exact List.mem_cons_of_mem _ (ih (by rw [e]; exact List.mem_cons_self ..) b hb)
      · exact List.mem_cons_of_mem _ (ih (by rw [e]; exact List.mem_cons_of_mem _ hx) b hb)
theorem getD_mem {ps : List (List UInt8)} {i : Nat} (h : i < ps.length) : ps.getD i [] ∈ ps := by
  rw [List.getD_eq_getElem?_getD, List.getElem?_eq_getElem h]; exact List.getElem_mem h
theorem lev_ascii {s : List UInt8} (hp : plainS s = true) {i : Nat} (h : i < (lev s).length) : ∀ b ∈ (lev s).getD i [], b.toNat < 128 := fun b hb => by
  have h1 := lev_mem (getD_mem h) b hb
  have := of_decide_eq_true (List.all_eq_true.1 hp b h1)
  omega
theorem lev_size {s x : List UInt8} (hx : x ∈ lev s) : x.length ≤ s.length := by
  induction s generalizing x with
  | nil => simp [lev] at hx; subst hx; simp
  | cons c l ih =>
    by_cases hc : c = 47
    · subst hc
      rw [lev_slash] at hx
      rcases List.mem_cons.1 hx with rfl | hx
      · simp
      · have := ih hx; simp; omega
    · obtain ⟨y, ys, e⟩ := lev_ne l
      rw [lev_other _ hc, e] at hx
      rcases List.mem_cons.1 hx with rfl | hx
      · have := ih (x := y) (by rw [e]; exact List.mem_cons_self ..); simp; omega
      · have := ih (x := x) (by rw [e]; exact List.mem_cons_of_mem _ hx); simp; omega
theorem lev_count (s : List UInt8) : (lev s).length ≤ s.length + 1 := by
  induction s with
  | nil => simp [lev]
  | cons c l ih =>
    by_cases hc : c = 47
    · subst hc; rw [lev_slash]; simp; omega
    · obtain ⟨y, ys, e⟩ := lev_ne l
      rw [lev_other _ hc, e]; rw [e] at ih; simp [glue] at *; omega

set_option maxHeartbeats 1000000 in
theorem c_Name (w : World) (s : List UInt8) (hs : s.length < 4294967281) : Calls Tryd.prog 8 #[.string ⟨s.toArray⟩] w fun e w' => e = .returned (.int .i64 (chkT s false)) ∧ Mod [] w w' := by
  refine as_called (run_plain2 (ρ := [.s s]) sxE_ok Tryd.func8 tree_topic_Name rfl rfl rfl ?_) rfl
  simp only [Tree.goal, X.P, X.ev, V.toI_i, V.toB_b, V.toS_s, V.toR_r, V.toV_v, V.toN_n, V.toL_l, SV.ev, CV.ev, Sc.ev, List.getD_cons_zero, List.getD_cons_succ, List.getElem?_cons_zero, List.getElem?_cons_succ, List.map_cons, List.map_nil, List.length_cons, List.length_nil, List.cons_append, List.nil_append, Nat.zero_add, Nat.reduceAdd]
  intro w1 hr; refine (c_Levels w1 s (by omega)).mono ?_; rintro e w2 ⟨v1, rfl, r1, f1, m1⟩; refine ⟨[.v v1, .r ((lev s).map encS)], rfl, rfl, m1, List.forall_mem_nil _, List.forall_mem_cons.2 ⟨⟨r1, fun k hk => .inl (f1 k hk)⟩, List.forall_mem_nil _⟩, apart_one, ?_⟩; simp only [Tree.goal, X.P, X.ev, V.toI_i, V.toB_b, V.toS_s, V.toR_r, V.toV_v, V.toN_n, V.toL_l, SV.ev, CV.ev, Sc.ev, List.getD_cons_zero, List.getD_cons_succ, List.getElem?_cons_zero, List.getElem?_cons_succ, List.map_cons, List.map_nil, List.length_cons, List.length_nil, List.cons_append, List.nil_append, Nat.zero_add, Nat.reduceAdd, List.length_map]; have hlc := lev_count s; refine ⟨fun h w' hr => ⟨by rw [h, chkT_nil], hr.mod⟩, fun h => ⟨fun h1 w' hr => ⟨by rw [chkT_many h h1], hr.mod⟩, fun h1 => ?_⟩⟩
  refine ⟨[.b (plainS s)], rfl, fun _ w' _ => c_Plain w' s (by omega), ?_⟩; simp only [Tree.goal, X.P, X.ev, V.toI_i, V.toB_b, V.toS_s, V.toR_r, V.toV_v, V.toN_n, V.toL_l, SV.ev, CV.ev, Sc.ev, List.getD_cons_zero, List.getD_cons_succ, List.getElem?_cons_zero, List.getElem?_cons_succ, List.map_cons, List.map_nil, List.length_cons, List.length_nil, List.cons_append, List.nil_append, Nat.zero_add, Nat.reduceAdd]; refine ⟨fun h2 w' hr => ⟨by rw [chkT_plain h h1 h2], hr.mod⟩, fun h2 => ?_⟩; (have h2 := Classical.not_not.1 h2); rw [chkT_lev h h1 h2]
  refine ⟨fun vs => ∃ (x : V) (i : Nat), vs = [x, .i i] ∧ i ≤ (lev s).length ∧ badL false ((lev s).drop i) = badL false (lev s), fun vs => (lev s).length - (vs.getD 1 (.i 0)).toI.toNat, ⟨_, 0, rfl, by omega, rfl⟩, ?_⟩
  rintro _ - ⟨x, i, rfl, hi, hg⟩
  simp only [Tree.goal, X.P, X.ev, V.toI_i, V.toB_b, V.toS_s, V.toR_r, V.toV_v, V.toN_n, V.toL_l, SV.ev, CV.ev, Sc.ev, List.getD_cons_zero, List.getD_cons_succ, List.getElem?_cons_zero, List.getElem?_cons_succ, List.map_cons, List.map_nil, List.length_cons, List.length_nil, List.cons_append, List.nil_append, Nat.zero_add, Nat.reduceAdd, Int.toNat_natCast, List.length_map, gS_encS]
  refine ⟨fun h3 => ?_, fun h3 w' hr => ⟨?_, hr.mod⟩⟩
  · rw [dropS _ i (by omega)] at hg
    have hsz := lev_size (getD_mem (ps := lev s) (i := i) (by omega))
    have has := lev_ascii h2 (i := i) (by omega)
    generalize (lev s).getD i [] = y at hg hsz has ⊢
    (repeat refine ⟨by omega, ?_⟩)
    refine ⟨[.b (wild y)], rfl, fun _ w' _ => c_ContainsAny w' y (by omega) has, ?_⟩
    simp only [Tree.goal, X.P, X.ev, V.toI_i, V.toB_b, V.toS_s, V.toR_r, V.toV_v, V.toN_n, V.toL_l, SV.ev, CV.ev, Sc.ev, List.getD_cons_zero, List.getD_cons_succ, List.getElem?_cons_zero, List.getElem?_cons_succ, List.map_cons, List.map_nil, List.length_cons, List.length_nil, List.cons_append, List.nil_append, Nat.zero_add, Nat.reduceAdd]
    simp only [badL, Bool.not_false, Bool.true_or, Bool.and_true] at hg
    refine ⟨fun h4 w' hr => ⟨by rw [← hg, h4]; rfl, hr.mod⟩, fun h4 => ⟨by omega, by omega, ⟨x, i + 1, rfl, by omega, ?_⟩, by omega⟩⟩
    rw [← hg, (Bool.not_eq_true _).mp h4]; simp
  · have : i = (lev s).length := by omega
    subst this
    rw [List.drop_length] at hg; rw [← hg]; rfl
set_option maxHeartbeats 1000000 in
theorem c_Filter (w : World) (s : List UInt8) (hs : s.length < 4294967281) : Calls Tryd.prog 16 #[.string ⟨s.toArray⟩] w fun e w' => e = .returned (.int .i64 (chkT s true)) ∧ Mod [] w w' := by
  refine as_called (run_plain2 (ρ := [.s s]) sxE_ok Tryd.func16 tree_topic_Filter rfl rfl rfl ?_) rfl
  simp only [Tree.goal, X.P, X.ev, V.toI_i, V.toB_b, V.toS_s, V.toR_r, V.toV_v, V.toN_n, V.toL_l, SV.ev, CV.ev, Sc.ev, List.getD_cons_zero, List.getD_cons_succ, List.getElem?_cons_zero, List.getElem?_cons_succ, List.map_cons, List.map_nil, List.length_cons, List.length_nil, List.cons_append, List.nil_append, Nat.zero_add, Nat.reduceAdd]
  intro w1 hr; refine (c_Levels w1 s (by omega)).mono ?_; rintro e w2 ⟨v1, rfl, r1, f1, m1⟩; refine ⟨[.v v1, .r ((lev s).map encS)], rfl, rfl, m1, List.forall_mem_nil _, List.forall_mem_cons.2 ⟨⟨r1, fun k hk => .inl (f1 k hk)⟩, List.forall_mem_nil _⟩, apart_one, ?_⟩; simp only [Tree.goal, X.P, X.ev, V.toI_i, V.toB_b, V.toS_s, V.toR_r, V.toV_v, V.toN_n, V.toL_l, SV.ev, CV.ev, Sc.ev, List.getD_cons_zero, List.getD_cons_succ, List.getElem?_cons_zero, List.getElem?_cons_succ, List.map_cons, List.map_nil, List.length_cons, List.length_nil, List.cons_append, List.nil_append, Nat.zero_add, Nat.reduceAdd, List.length_map]; have hlc := lev_count s; refine ⟨fun h w' hr => ⟨by rw [h, chkT_nil], hr.mod⟩, fun h => ⟨fun h1 w' hr => ⟨by rw [chkT_many h h1], hr.mod⟩, fun h1 => ?_⟩⟩
  refine ⟨[.b (plainS s)], rfl, fun _ w' _ => c_Plain w' s (by omega), ?_⟩; simp only [Tree.goal, X.P, X.ev, V.toI_i, V.toB_b, V.toS_s, V.toR_r, V.toV_v, V.toN_n, V.toL_l, SV.ev, CV.ev, Sc.ev, List.getD_cons_zero, List.getD_cons_succ, List.getElem?_cons_zero, List.getElem?_cons_succ, List.map_cons, List.map_nil, List.length_cons, List.length_nil, List.cons_append, List.nil_append, Nat.zero_add, Nat.reduceAdd]; refine ⟨fun h2 w' hr => ⟨by rw [chkT_plain h h1 h2], hr.mod⟩, fun h2 => ?_⟩; (have h2 := Classical.not_not.1 h2); rw [chkT_lev h h1 h2]
  refine ⟨fun vs => ∃ (x : V) (i : Nat), vs = [x, .i i] ∧ i ≤ (lev s).length ∧ badL true ((lev s).drop i) = badL true (lev s), fun vs => (lev s).length - (vs.getD 1 (.i 0)).toI.toNat, ⟨_, 0, rfl, by omega, rfl⟩, ?_⟩
  rintro _ - ⟨x, i, rfl, hi, hg⟩
  simp only [Tree.goal, X.P, X.ev, V.toI_i, V.toB_b, V.toS_s, V.toR_r, V.toV_v, V.toN_n, V.toL_l, SV.ev, CV.ev, Sc.ev, List.getD_cons_zero, List.getD_cons_succ, List.getElem?_cons_zero, List.getElem?_cons_succ, List.map_cons, List.map_nil, List.length_cons, List.length_nil, List.cons_append, List.nil_append, Nat.zero_add, Nat.reduceAdd, Int.toNat_natCast, List.length_map, gS_encS]
  refine ⟨fun h3 => ?_, fun h3 w' hr => ⟨?_, hr.mod⟩⟩
  · rw [dropS _ i (by omega)] at hg
    have hsz := lev_size (getD_mem (ps := lev s) (i := i) (by omega))
    have has := lev_ascii h2 (i := i) (by omega)
    have hlast : (lev s).drop (i + 1) = [] ↔ (i : Int) = ((lev s).length : Int) - 1 := by rw [List.drop_eq_nil_iff]; omega
    generalize (lev s).getD i [] = y at hg hsz has ⊢
    (repeat refine ⟨by omega, ?_⟩)
    refine ⟨[.b (wild y)], rfl, fun _ w' _ => c_ContainsAny w' y (by omega) has, ?_⟩
    simp only [Tree.goal, X.P, X.ev, V.toI_i, V.toB_b, V.toS_s, V.toR_r, V.toV_v, V.toN_n, V.toL_l, SV.ev, CV.ev, Sc.ev, List.getD_cons_zero, List.getD_cons_succ, List.getElem?_cons_zero, List.getElem?_cons_succ, List.map_cons, List.map_nil, List.length_cons, List.length_nil, List.cons_append, List.nil_append, Nat.zero_add, Nat.reduceAdd]
    have key : (¬((¬wild y = true ∨ y = [43]) ∨ y = [35] ∧ (i : Int) = ((lev s).length : Int) - 1)) ↔ (wild y && (!true || (!decide (y = [43]) && (!decide (y = [35]) || !decide ((lev s).drop (i + 1) = []))))) = true := by
      rw [← hlast]
      cases wild y <;> by_cases q1 : y = [43] <;> by_cases q2 : y = [35] <;> by_cases q3 : (lev s).drop (i + 1) = [] <;> simp [q1, q2, q3]
    simp only [badL] at hg
    refine ⟨fun h4 w' hr => ⟨by rw [← hg, key.1 h4]; rfl, hr.mod⟩, fun h4 => ⟨by omega, by omega, ⟨x, i + 1, rfl, by omega, ?_⟩, by omega⟩⟩
    have h5 := (Bool.not_eq_true _).mp (fun h => h4 (key.2 h))
    rw [← hg, h5]; simp
  · have : i = (lev s).length := by omega
    subst this
    rw [List.drop_length] at hg; rw [← hg]; rfl
theorem wild_snoc (x : List UInt8) (k : Nat) (h : k < x.length) : wild (x.take (k + 1)) = (wild (x.take k) || (decide ((x.getD k 0).toNat = 43) || decide ((x.getD k 0).toNat = 35))) := by
  rw [List.take_add_one, List.getD_eq_getElem?_getD, List.getElem?_eq_getElem h]
  simp only [wild, List.any_append, Option.toList_some, List.any_cons, List.any_nil, Bool.or_false, Option.getD_some]
  have e1 : (x[k] == 43) = decide (x[k].toNat = 43) := by rw [Bool.eq_iff_iff]; simp only [beq_iff_eq, decide_eq_true_eq]; exact ⟨fun h => by rw [h]; rfl, fun h => UInt8.toNat_inj.1 h⟩
  have e2 : (x[k] == 35) = decide (x[k].toNat = 35) := by rw [Bool.eq_iff_iff]; simp only [beq_iff_eq, decide_eq_true_eq]; exact ⟨fun h => by rw [h]; rfl, fun h => UInt8.toNat_inj.1 h⟩
  rw [e1, e2]
end Go.Proofs.YtcbkkjbgacjncaaDoor

/-
  Topics: which filter is for which topic. By an AI agent.
-/
set_option linter.unusedSimpArgs false
set_option linter.unusedVariables false
namespace Go.Proofs.YtcbkkjbgacjncaaDoor
open Go.Sx

/-- Are levels of a filter for levels of a topic? -/
def mt : List (List UInt8) → List (List UInt8) → Bool
  | [], n => decide (n = [])
  | f :: fs, n => if f = [35] then true else match n with
    | [] => false
    | x :: xs => if f = [43] ∨ f = x then mt fs xs else false
/-- Are levels of a filter for all that another filter's levels are for? -/
def cv : List (List UInt8) → List (List UInt8) → Bool
  | [], n => decide (n = [])
  | f :: fs, n => if f = [35] then true else match n with
    | [] => false
    | x :: xs => if x = [35] then false else if f = [43] ∨ f = x then cv fs xs else false
theorem mt_all {f : List UInt8} (fs n : List (List UInt8)) (h : f = [35]) : mt (f :: fs) n = true := by cases n <;> simp [mt, h]
theorem mt_none {f : List UInt8} (fs : List (List UInt8)) (h : ¬ f = [35]) : mt (f :: fs) [] = false := by simp [mt, h]
theorem mt_cons {f : List UInt8} (fs : List (List UInt8)) (x : List UInt8) (xs : List (List UInt8)) (h : ¬ f = [35]) : mt (f :: fs) (x :: xs) = if f = [43] ∨ f = x then mt fs xs else false := by simp [mt, h]
theorem cv_all {f : List UInt8} (fs n : List (List UInt8)) (h : f = [35]) : cv (f :: fs) n = true := by cases n <;> simp [cv, h]
theorem cv_none {f : List UInt8} (fs : List (List UInt8)) (h : ¬ f = [35]) : cv (f :: fs) [] = false := by simp [cv, h]
theorem cv_cons {f : List UInt8} (fs : List (List UInt8)) (x : List UInt8) (xs : List (List UInt8)) (h : ¬ f = [35]) : cv (f :: fs) (x :: xs) = if x = [35] then false else if f = [43] ∨ f = x then cv fs xs else false := by simp [cv, h]
theorem tk1 (f : List UInt8) (fs : List (List UInt8)) : List.drop (Int.toNat 1) (List.take (((fs.length + 1 : Nat) : Int)).toNat (encS f :: fs.map encS)) = fs.map encS := by
  rw [Int.toNat_natCast, List.take_of_length_le (by simp)]; rfl
theorem readsS_le {w : World} {u : Value} {a b : List (List Value)} (h : reads w u [.str] a) (e : a = b) : reads w u [.str] b := e ▸ h
theorem c_match : ∀ (fs ns : List (List UInt8)) (u v : Value) (w : World), readsS w u fs → readsS w v ns → fs.length < 1099511627776 → ns.length < 1099511627776 →
    Calls Tryd.prog 36 #[sc1 u, sc1 v] w fun e w' => e = .returned (.bool (mt fs ns)) ∧ Mod [] w w' := by
  intro fs
  induction fs with
  | nil =>
    intro ns u v w hu hv hl hn
    refine as_called (run_tree2 (ρ := [.v u, .r (([] : List (List UInt8)).map encS), .v v, .r (ns.map encS)]) sxE_ok Tryd.func36 tree_topic_match rfl rfl (Rel.start2 (by simp only [List.forall_mem_cons]; exact ⟨⟨hu, rfl⟩, ⟨hv, rfl⟩, by simp⟩)) rfl rfl ?_) rfl
    simp only [Tree.goal, X.P, X.ev, V.toI_i, V.toB_b, V.toS_s, V.toR_r, V.toV_v, V.toN_n, V.toL_l, SV.ev, CV.ev, Sc.ev, List.getD_cons_zero, List.getD_cons_succ, List.getElem?_cons_zero, List.getElem?_cons_succ, List.map_cons, List.map_nil, List.length_cons, List.length_nil, List.cons_append, List.nil_append, Nat.zero_add, Nat.reduceAdd, List.length_map]
    refine ⟨fun _ w' hr => ⟨?_, hr.mod⟩, fun h => absurd rfl h⟩
    simp only [mt, Ending.returned.injEq, Value.bool.injEq]
    exact decide_eq_decide.2 (by rw [← List.length_eq_zero_iff]; omega)
  | cons f fs ih =>
    intro ns u v w hu hv hl hn
    refine as_called (run_tree2 (ρ := [.v u, .r ((f :: fs).map encS), .v v, .r (ns.map encS)]) sxE_ok Tryd.func36 tree_topic_match rfl rfl (Rel.start2 (by simp only [List.forall_mem_cons]; exact ⟨⟨hu, rfl⟩, ⟨hv, rfl⟩, by simp⟩)) rfl rfl ?_) rfl
    simp only [Tree.goal, X.P, X.ev, V.toI_i, V.toB_b, V.toS_s, V.toR_r, V.toV_v, V.toN_n, V.toL_l, SV.ev, CV.ev, Sc.ev, List.getD_cons_zero, List.getD_cons_succ, List.getElem?_cons_zero, List.getElem?_cons_succ, List.map_cons, List.map_nil, List.length_cons, List.length_nil, List.cons_append, List.nil_append, Nat.zero_add, Nat.reduceAdd, List.length_map, Int.toNat_zero]
    have g0 : Value.gS (((encS f :: fs.map encS).getD 0 []).getD 0 undef) = f := gS_encS (f :: fs) 0
    simp only [List.getD_cons_zero] at g0
    have g1 := gS_encS ns 0
    rw [g0, g1]
    refine ⟨fun h => absurd h (by omega), fun _ => ⟨by omega, fun h1 w' hr => ⟨by rw [mt_all _ _ h1], hr.mod⟩, fun h1 => ?_⟩⟩
    rcases ns with _ | ⟨x, xs⟩
    · refine ⟨.inl fun h => absurd rfl h.1, fun _ w' hr => ⟨by rw [mt_none _ h1], hr.mod⟩, fun h => absurd (.inl rfl) h⟩
    · have hl' : fs.length < 1099511627776 := by rw [List.length_cons] at hl; omega
      have hn' : xs.length < 1099511627776 := by rw [List.length_cons] at hn; omega
      simp only [List.getD_cons_zero, List.length_cons]
      rw [mt_cons _ _ _ h1]
      refine ⟨.inr (by omega), fun h2 w' hr => ⟨?_, hr.mod⟩, fun h2 => ?_⟩
      · rw [if_neg]
        intro h3
        rcases h2 with h2 | h2
        · omega
        · rcases h3 with h3 | h3
          · exact h2.1 h3
          · exact h2.2 h3
      · have h3 : f = [43] ∨ f = x := by
          by_cases h4 : f = [43]
          · exact .inl h4
          · by_cases h5 : f = x
            · exact .inr h5
            · exact absurd (.inr ⟨h4, h5⟩) h2
        rw [if_pos h3]
        refine ⟨⟨by omega, fun v1 => ⟨by omega, fun v2 => ?_⟩⟩, ⟨by omega, fun v1 => ⟨by omega, fun v2 => ?_⟩⟩⟩
        · refine ⟨[.b (mt fs xs)], rfl, fun _ w' hr => ?_, ?_⟩; (· have q0 := hr.at_ 0 rfl; have q1 := hr.at_ 1 rfl; simp only [Ent.holds, Tree.goal, X.P, X.ev, V.toI_i, V.toB_b, V.toS_s, V.toR_r, V.toV_v, V.toN_n, V.toL_l, SV.ev, CV.ev, Sc.ev, List.getD_cons_zero, List.getD_cons_succ, List.getElem?_cons_zero, List.getElem?_cons_succ, List.map_cons, List.map_nil, List.length_cons, List.length_nil, List.cons_append, List.nil_append, Nat.zero_add, Nat.reduceAdd, List.length_map, List.length_cons] at q0 q1; clear hl hn; exact ih xs v1 v2 w' (readsS_le q1 (tk1 _ _)) (readsS_le q0 (tk1 _ _)) hl' hn'); simp only [Tree.goal, X.P, X.ev, V.toI_i, V.toB_b, V.toS_s, V.toR_r, V.toV_v, V.toN_n, V.toL_l, SV.ev, CV.ev, Sc.ev, List.getD_cons_zero, List.getD_cons_succ, List.getElem?_cons_zero, List.getElem?_cons_succ, List.map_cons, List.map_nil, List.length_cons, List.length_nil, List.cons_append, List.nil_append, Nat.zero_add, Nat.reduceAdd]; exact fun w' hr => ⟨by trivial, hr.mod⟩
        · refine ⟨[.b (mt fs xs)], rfl, fun _ w' hr => ?_, ?_⟩; (· have q0 := hr.at_ 0 rfl; have q1 := hr.at_ 1 rfl; simp only [Ent.holds, Tree.goal, X.P, X.ev, V.toI_i, V.toB_b, V.toS_s, V.toR_r, V.toV_v, V.toN_n, V.toL_l, SV.ev, CV.ev, Sc.ev, List.getD_cons_zero, List.getD_cons_succ, List.getElem?_cons_zero, List.getElem?_cons_succ, List.map_cons, List.map_nil, List.length_cons, List.length_nil, List.cons_append, List.nil_append, Nat.zero_add, Nat.reduceAdd, List.length_map, List.length_cons] at q0 q1; clear hl hn; exact ih xs v2 v1 w' (readsS_le q0 (tk1 _ _)) (readsS_le q1 (tk1 _ _)) hl' hn'); simp only [Tree.goal, X.P, X.ev, V.toI_i, V.toB_b, V.toS_s, V.toR_r, V.toV_v, V.toN_n, V.toL_l, SV.ev, CV.ev, Sc.ev, List.getD_cons_zero, List.getD_cons_succ, List.getElem?_cons_zero, List.getElem?_cons_succ, List.map_cons, List.map_nil, List.length_cons, List.length_nil, List.cons_append, List.nil_append, Nat.zero_add, Nat.reduceAdd]; exact fun w' hr => ⟨by trivial, hr.mod⟩
theorem c_covers : ∀ (fs ns : List (List UInt8)) (u v : Value) (w : World), readsS w u fs → readsS w v ns → fs.length < 1099511627776 → ns.length < 1099511627776 →
    Calls Tryd.prog 17 #[sc1 u, sc1 v] w fun e w' => e = .returned (.bool (cv fs ns)) ∧ Mod [] w w' := by
  intro fs
  induction fs with
  | nil =>
    intro ns u v w hu hv hl hn
    refine as_called (run_tree2 (ρ := [.v u, .r (([] : List (List UInt8)).map encS), .v v, .r (ns.map encS)]) sxE_ok Tryd.func17 tree_topic_covers rfl rfl (Rel.start2 (by simp only [List.forall_mem_cons]; exact ⟨⟨hu, rfl⟩, ⟨hv, rfl⟩, by simp⟩)) rfl rfl ?_) rfl
    simp only [Tree.goal, X.P, X.ev, V.toI_i, V.toB_b, V.toS_s, V.toR_r, V.toV_v, V.toN_n, V.toL_l, SV.ev, CV.ev, Sc.ev, List.getD_cons_zero, List.getD_cons_succ, List.getElem?_cons_zero, List.getElem?_cons_succ, List.map_cons, List.map_nil, List.length_cons, List.length_nil, List.cons_append, List.nil_append, Nat.zero_add, Nat.reduceAdd, List.length_map]
    refine ⟨fun _ w' hr => ⟨?_, hr.mod⟩, fun h => absurd rfl h⟩
    simp only [cv, Ending.returned.injEq, Value.bool.injEq]
    exact decide_eq_decide.2 (by rw [← List.length_eq_zero_iff]; omega)
  | cons f fs ih =>
    intro ns u v w hu hv hl hn
    refine as_called (run_tree2 (ρ := [.v u, .r ((f :: fs).map encS), .v v, .r (ns.map encS)]) sxE_ok Tryd.func17 tree_topic_covers rfl rfl (Rel.start2 (by simp only [List.forall_mem_cons]; exact ⟨⟨hu, rfl⟩, ⟨hv, rfl⟩, by simp⟩)) rfl rfl ?_) rfl
    simp only [Tree.goal, X.P, X.ev, V.toI_i, V.toB_b, V.toS_s, V.toR_r, V.toV_v, V.toN_n, V.toL_l, SV.ev, CV.ev, Sc.ev, List.getD_cons_zero, List.getD_cons_succ, List.getElem?_cons_zero, List.getElem?_cons_succ, List.map_cons, List.map_nil, List.length_cons, List.length_nil, List.cons_append, List.nil_append, Nat.zero_add, Nat.reduceAdd, List.length_map, Int.toNat_zero]
    have g0 : Value.gS (((encS f :: fs.map encS).getD 0 []).getD 0 undef) = f := gS_encS (f :: fs) 0
    simp only [List.getD_cons_zero] at g0
    have g1 := gS_encS ns 0
    rw [g0, g1]
    refine ⟨fun h => absurd h (by omega), fun _ => ⟨by omega, fun h1 w' hr => ⟨by rw [cv_all _ _ h1], hr.mod⟩, fun h1 => ?_⟩⟩
    rcases ns with _ | ⟨x, xs⟩
    · refine ⟨.inl rfl, .inl fun h => absurd (.inl rfl) h.1, fun _ w' hr => ⟨by rw [cv_none _ h1], hr.mod⟩, fun h => absurd (.inl (.inl rfl)) h⟩
    · have hl' : fs.length < 1099511627776 := by rw [List.length_cons] at hl; omega
      have hn' : xs.length < 1099511627776 := by rw [List.length_cons] at hn; omega
      simp only [List.getD_cons_zero, List.length_cons]
      rw [cv_cons _ _ _ h1]
      refine ⟨.inr (by omega), .inr (by omega), fun h2 w' hr => ⟨?_, hr.mod⟩, fun h2 => ?_⟩
      · by_cases h4 : x = [35]
        · rw [if_pos h4]
        · rw [if_neg h4, if_neg]
          intro h3
          rcases h2 with (h2 | h2) | h2
          · omega
          · exact h4 h2
          · rcases h3 with h3 | h3
            · exact h2.1 h3
            · exact h2.2 h3
      · have h3 : f = [43] ∨ f = x := by
          by_cases h4 : f = [43]
          · exact .inl h4
          · by_cases h5 : f = x
            · exact .inr h5
            · exact absurd (.inr ⟨h4, h5⟩) h2
        rw [if_neg (fun h => h2 (.inl (.inr h))), if_pos h3]
        refine ⟨⟨by omega, fun v1 => ⟨by omega, fun v2 => ?_⟩⟩, ⟨by omega, fun v1 => ⟨by omega, fun v2 => ?_⟩⟩⟩
        · refine ⟨[.b (cv fs xs)], rfl, fun _ w' hr => ?_, ?_⟩; (· have q0 := hr.at_ 0 rfl; have q1 := hr.at_ 1 rfl; simp only [Ent.holds, Tree.goal, X.P, X.ev, V.toI_i, V.toB_b, V.toS_s, V.toR_r, V.toV_v, V.toN_n, V.toL_l, SV.ev, CV.ev, Sc.ev, List.getD_cons_zero, List.getD_cons_succ, List.getElem?_cons_zero, List.getElem?_cons_succ, List.map_cons, List.map_nil, List.length_cons, List.length_nil, List.cons_append, List.nil_append, Nat.zero_add, Nat.reduceAdd, List.length_map, List.length_cons] at q0 q1; clear hl hn; exact ih xs v1 v2 w' (readsS_le q1 (tk1 _ _)) (readsS_le q0 (tk1 _ _)) hl' hn'); simp only [Tree.goal, X.P, X.ev, V.toI_i, V.toB_b, V.toS_s, V.toR_r, V.toV_v, V.toN_n, V.toL_l, SV.ev, CV.ev, Sc.ev, List.getD_cons_zero, List.getD_cons_succ, List.getElem?_cons_zero, List.getElem?_cons_succ, List.map_cons, List.map_nil, List.length_cons, List.length_nil, List.cons_append, List.nil_append, Nat.zero_add, Nat.reduceAdd]; exact fun w' hr => ⟨by trivial, hr.mod⟩
        · refine ⟨[.b (cv fs xs)], rfl, fun _ w' hr => ?_, ?_⟩; (· have q0 := hr.at_ 0 rfl; have q1 := hr.at_ 1 rfl; simp only [Ent.holds, Tree.goal, X.P, X.ev, V.toI_i, V.toB_b, V.toS_s, V.toR_r, V.toV_v, V.toN_n, V.toL_l, SV.ev, CV.ev, Sc.ev, List.getD_cons_zero, List.getD_cons_succ, List.getElem?_cons_zero, List.getElem?_cons_succ, List.map_cons, List.map_nil, List.length_cons, List.length_nil, List.cons_append, List.nil_append, Nat.zero_add, Nat.reduceAdd, List.length_map, List.length_cons] at q0 q1; clear hl hn; exact ih xs v2 v1 w' (readsS_le q0 (tk1 _ _)) (readsS_le q1 (tk1 _ _)) hl' hn'); simp only [Tree.goal, X.P, X.ev, V.toI_i, V.toB_b, V.toS_s, V.toR_r, V.toV_v, V.toN_n, V.toL_l, SV.ev, CV.ev, Sc.ev, List.getD_cons_zero, List.getD_cons_succ, List.getElem?_cons_zero, List.getElem?_cons_succ, List.map_cons, List.map_nil, List.length_cons, List.length_nil, List.cons_append, List.nil_append, Nat.zero_add, Nat.reduceAdd]; exact fun w' hr => ⟨by trivial, hr.mod⟩

theorem c_For (w : World) (f n : List UInt8) (hf : f.length < 4294967281) (hn : n.length < 4294967281) : Calls Tryd.prog 22 #[.string ⟨f.toArray⟩, .string ⟨n.toArray⟩] w
    fun e w' => e = .returned (.bool (mt (lev f) (lev n))) ∧ Mod [] w w' := by
  refine as_called (run_plain2 (ρ := [.s f, .s n]) sxE_ok Tryd.func22 tree_topic_For rfl rfl rfl ?_) rfl
  simp only [Tree.goal, X.P, X.ev, V.toI_i, V.toB_b, V.toS_s, V.toR_r, V.toV_v, V.toN_n, V.toL_l, SV.ev, CV.ev, Sc.ev, List.getD_cons_zero, List.getD_cons_succ, List.getElem?_cons_zero, List.getElem?_cons_succ, List.map_cons, List.map_nil, List.length_cons, List.length_nil, List.cons_append, List.nil_append, Nat.zero_add, Nat.reduceAdd]
  intro w1 hr
  refine (c_Levels w1 f hf).mono ?_
  rintro e w2 ⟨v1, rfl, r1, f1, m1⟩
  refine ⟨[.v v1, .r ((lev f).map encS)], rfl, rfl, m1, List.forall_mem_nil _, List.forall_mem_cons.2 ⟨⟨r1, fun k hk => .inl (f1 k hk)⟩, List.forall_mem_nil _⟩, apart_one, ?_⟩
  simp only [Tree.goal, X.P, X.ev, V.toI_i, V.toB_b, V.toS_s, V.toR_r, V.toV_v, V.toN_n, V.toL_l, SV.ev, CV.ev, Sc.ev, List.getD_cons_zero, List.getD_cons_succ, List.getElem?_cons_zero, List.getElem?_cons_succ, List.map_cons, List.map_nil, List.length_cons, List.length_nil, List.cons_append, List.nil_append, Nat.zero_add, Nat.reduceAdd]
  intro w3 hr
  refine (c_Levels w3 n hn).mono ?_
  rintro e w4 ⟨v2, rfl, r1, f1, m1⟩
  refine ⟨[.v v2, .r ((lev n).map encS)], rfl, rfl, m1, List.forall_mem_nil _, List.forall_mem_cons.2 ⟨⟨r1, fun k hk => .inl (f1 k hk)⟩, List.forall_mem_nil _⟩, apart_one, ?_⟩
  simp only [Tree.goal, X.P, X.ev, V.toI_i, V.toB_b, V.toS_s, V.toR_r, V.toV_v, V.toN_n, V.toL_l, SV.ev, CV.ev, Sc.ev, List.getD_cons_zero, List.getD_cons_succ, List.getElem?_cons_zero, List.getElem?_cons_succ, List.map_cons, List.map_nil, List.length_cons, List.length_nil, List.cons_append, List.nil_append, Nat.zero_add, Nat.reduceAdd]
  have l1 := lev_count f
  have l2 := lev_count n
  refine ⟨[.b (mt (lev f) (lev n))], rfl, fun _ w' hr => c_match (lev f) (lev n) v1 v2 w' (hr.at_ 1 rfl) (hr.at_ 0 rfl) (by omega) (by omega), ?_⟩
  simp only [Tree.goal, X.P, X.ev, V.toI_i, V.toB_b, V.toS_s, V.toR_r, V.toV_v, V.toN_n, V.toL_l, SV.ev, CV.ev, Sc.ev, List.getD_cons_zero, List.getD_cons_succ, List.getElem?_cons_zero, List.getElem?_cons_succ, List.map_cons, List.map_nil, List.length_cons, List.length_nil, List.cons_append, List.nil_append, Nat.zero_add, Nat.reduceAdd]
  exact fun w' hr => ⟨by trivial, hr.mod⟩
def matR (f n : List UInt8) : Bool × Int := if chkT f true = 0 then (if chkT n false = 0 then (mt (lev f) (lev n), 0) else (false, chkT n false)) else (false, chkT f true)
theorem c_Match (w : World) (f n : List UInt8) (hf : f.length < 4294967281) (hn : n.length < 4294967281) : Calls Tryd.prog 9 #[.string ⟨f.toArray⟩, .string ⟨n.toArray⟩] w
    fun e w' => e = .returned (.tuple #[.bool (matR f n).1, .int .i64 (matR f n).2]) ∧ Mod [] w w' := by
  refine as_called (run_plain2 (ρ := [.s f, .s n]) sxE_ok Tryd.func9 tree_topic_Match rfl rfl rfl ?_) rfl
  simp only [Tree.goal, X.P, X.ev, V.toI_i, V.toB_b, V.toS_s, V.toR_r, V.toV_v, V.toN_n, V.toL_l, SV.ev, CV.ev, Sc.ev, List.getD_cons_zero, List.getD_cons_succ, List.getElem?_cons_zero, List.getElem?_cons_succ, List.map_cons, List.map_nil, List.length_cons, List.length_nil, List.cons_append, List.nil_append, Nat.zero_add, Nat.reduceAdd]
  refine ⟨[.i (chkT f true)], rfl, fun _ w' _ => c_Filter w' f hf, ?_⟩
  simp only [Tree.goal, X.P, X.ev, V.toI_i, V.toB_b, V.toS_s, V.toR_r, V.toV_v, V.toN_n, V.toL_l, SV.ev, CV.ev, Sc.ev, List.getD_cons_zero, List.getD_cons_succ, List.getElem?_cons_zero, List.getElem?_cons_succ, List.map_cons, List.map_nil, List.length_cons, List.length_nil, List.cons_append, List.nil_append, Nat.zero_add, Nat.reduceAdd]
  refine ⟨fun h w' hr => ⟨by rw [matR, if_neg h], hr.mod⟩, fun h => ?_⟩
  have h := Classical.not_not.1 h
  refine ⟨[.i (chkT n false)], rfl, fun _ w' _ => c_Name w' n hn, ?_⟩
  simp only [Tree.goal, X.P, X.ev, V.toI_i, V.toB_b, V.toS_s, V.toR_r, V.toV_v, V.toN_n, V.toL_l, SV.ev, CV.ev, Sc.ev, List.getD_cons_zero, List.getD_cons_succ, List.getElem?_cons_zero, List.getElem?_cons_succ, List.map_cons, List.map_nil, List.length_cons, List.length_nil, List.cons_append, List.nil_append, Nat.zero_add, Nat.reduceAdd]
  refine ⟨fun h1 w' hr => ⟨by rw [matR, if_pos h, if_neg h1], hr.mod⟩, fun h1 => ?_⟩
  have h1 := Classical.not_not.1 h1
  refine ⟨[.b (mt (lev f) (lev n))], rfl, fun _ w' _ => c_For w' f n hf hn, ?_⟩
  simp only [Tree.goal, X.P, X.ev, V.toI_i, V.toB_b, V.toS_s, V.toR_r, V.toV_v, V.toN_n, V.toL_l, SV.ev, CV.ev, Sc.ev, List.getD_cons_zero, List.getD_cons_succ, List.getElem?_cons_zero, List.getElem?_cons_succ, List.map_cons, List.map_nil, List.length_cons, List.length_nil, List.cons_append, List.nil_append, Nat.zero_add, Nat.reduceAdd]
  exact fun w' hr => ⟨by rw [matR, if_pos h, if_pos h1], hr.mod⟩

/-- The levels that are covered: the empty text is no topic. -/
def levC (b : List UInt8) : List (List UInt8) := if b = [35] ∨ b = [47, 35] then (lev b).take ((lev b).length - 1) ++ [[43], [35]] else lev b
theorem levC_1 : levC [35] = lev [43, 47, 35] := by decide
theorem levC_2 : levC [47, 35] = lev [47, 43, 47, 35] := by decide
theorem levC_no {b : List UInt8} (h : ¬ (b = [35] ∨ b = [47, 35])) : levC b = lev b := if_neg h
def covR (a b : List UInt8) : Bool × Int := if chkT a true = 0 then (if chkT b true = 0 then (cv (lev a) (levC b), 0) else (false, chkT b true)) else (false, chkT a true)
set_option maxHeartbeats 1000000 in
theorem c_Covers (w : World) (a b : List UInt8) (ha : a.length < 4294967281) (hb : b.length < 4294967281) : Calls Tryd.prog 5 #[.string ⟨a.toArray⟩, .string ⟨b.toArray⟩] w
    fun e w' => e = .returned (.tuple #[.bool (covR a b).1, .int .i64 (covR a b).2]) ∧ Mod [] w w' := by
  refine as_called (run_plain2 (ρ := [.s a, .s b]) sxE_ok Tryd.func5 tree_topic_Covers rfl rfl rfl ?_) rfl
  simp only [Tree.goal, X.P, X.ev, V.toI_i, V.toB_b, V.toS_s, V.toR_r, V.toV_v, V.toN_n, V.toL_l, SV.ev, CV.ev, Sc.ev, List.getD_cons_zero, List.getD_cons_succ, List.getElem?_cons_zero, List.getElem?_cons_succ, List.map_cons, List.map_nil, List.length_cons, List.length_nil, List.cons_append, List.nil_append, Nat.zero_add, Nat.reduceAdd]
  intro v0
  refine ⟨fun vs => ∃ (x y : V) (i : Nat), vs = [x, y, .i i] ∧ i ≤ 2 ∧ (1 ≤ i → chkT a true = 0) ∧ (2 ≤ i → chkT b true = 0), fun vs => 2 - (vs.getD 2 (.i 0)).toI.toNat, ⟨_, _, 0, rfl, by omega, fun h => by omega, fun h => by omega⟩, ?_⟩
  rintro _ - ⟨x, y, i, rfl, hi, h1, h2⟩
  simp only [Tree.goal, X.P, X.ev, V.toI_i, V.toB_b, V.toS_s, V.toR_r, V.toV_v, V.toN_n, V.toL_l, SV.ev, CV.ev, Sc.ev, List.getD_cons_zero, List.getD_cons_succ, List.getElem?_cons_zero, List.getElem?_cons_succ, List.map_cons, List.map_nil, List.length_cons, List.length_nil, List.cons_append, List.nil_append, Nat.zero_add, Nat.reduceAdd, Int.toNat_natCast]
  refine ⟨fun h3 => ?_, fun h3 => ?_⟩
  · refine ⟨by omega, ?_⟩
    have hi' : i = 0 ∨ i = 1 := by omega
    rcases hi' with rfl | rfl
    · refine ⟨[.i (chkT a true)], rfl, fun _ w' _ => c_Filter w' a ha, ?_⟩
      simp only [Tree.goal, X.P, X.ev, V.toI_i, V.toB_b, V.toS_s, V.toR_r, V.toV_v, V.toN_n, V.toL_l, SV.ev, CV.ev, Sc.ev, List.getD_cons_zero, List.getD_cons_succ, List.getElem?_cons_zero, List.getElem?_cons_succ, List.map_cons, List.map_nil, List.length_cons, List.length_nil, List.cons_append, List.nil_append, Nat.zero_add, Nat.reduceAdd]
      refine ⟨fun h w' hr => ⟨by rw [covR, if_neg h], hr.mod⟩, fun h => ⟨by omega, by omega, ⟨x, y, 1, rfl, by omega, fun _ => Classical.not_not.1 h, fun h => by omega⟩, by decide⟩⟩
    · refine ⟨[.i (chkT b true)], rfl, fun _ w' _ => c_Filter w' b hb, ?_⟩
      simp only [Tree.goal, X.P, X.ev, V.toI_i, V.toB_b, V.toS_s, V.toR_r, V.toV_v, V.toN_n, V.toL_l, SV.ev, CV.ev, Sc.ev, List.getD_cons_zero, List.getD_cons_succ, List.getElem?_cons_zero, List.getElem?_cons_succ, List.map_cons, List.map_nil, List.length_cons, List.length_nil, List.cons_append, List.nil_append, Nat.zero_add, Nat.reduceAdd]
      refine ⟨fun h w' hr => ⟨by rw [covR, if_pos (h1 (by omega)), if_neg h], hr.mod⟩, fun h => ⟨by omega, by omega, ⟨x, y, 2, rfl, by omega, fun _ => h1 (by omega), fun _ => Classical.not_not.1 h⟩, by decide⟩⟩
  · have h1 := h1 (by omega)
    have h2 := h2 (by omega)
    have e0 : covR a b = (cv (lev a) (levC b), 0) := by rw [covR, if_pos h1, if_pos h2]
    rw [e0]
    refine ⟨fun h4 => ?_, fun h4 => ⟨fun h5 => ?_, fun h5 => ?_⟩⟩
    · rw [h4, levC_1]
      intro w1 hr; refine (c_Levels w1 a ha).mono ?_; rintro e w2 ⟨v1, rfl, r1, f1, m1⟩; refine ⟨[.v v1, .r ((lev a).map encS)], rfl, rfl, m1, List.forall_mem_nil _, List.forall_mem_cons.2 ⟨⟨r1, fun k hk => .inl (f1 k hk)⟩, List.forall_mem_nil _⟩, apart_one, ?_⟩; simp only [Tree.goal, X.P, X.ev, V.toI_i, V.toB_b, V.toS_s, V.toR_r, V.toV_v, V.toN_n, V.toL_l, SV.ev, CV.ev, Sc.ev, List.getD_cons_zero, List.getD_cons_succ, List.getElem?_cons_zero, List.getElem?_cons_succ, List.map_cons, List.map_nil, List.length_cons, List.length_nil, List.cons_append, List.nil_append, Nat.zero_add, Nat.reduceAdd]; intro w3 hr; refine (c_Levels w3 [43, 47, 35] (by first | exact hb | decide)).mono ?_; rintro e w4 ⟨v2, rfl, r1, f1, m1⟩; refine ⟨[.v v2, .r ((lev [43, 47, 35]).map encS)], rfl, rfl, m1, List.forall_mem_nil _, List.forall_mem_cons.2 ⟨⟨r1, fun k hk => .inl (f1 k hk)⟩, List.forall_mem_nil _⟩, apart_one, ?_⟩; simp only [Tree.goal, X.P, X.ev, V.toI_i, V.toB_b, V.toS_s, V.toR_r, V.toV_v, V.toN_n, V.toL_l, SV.ev, CV.ev, Sc.ev, List.getD_cons_zero, List.getD_cons_succ, List.getElem?_cons_zero, List.getElem?_cons_succ, List.map_cons, List.map_nil, List.length_cons, List.length_nil, List.cons_append, List.nil_append, Nat.zero_add, Nat.reduceAdd]; have l1 := lev_count a; have l2 := lev_count [43, 47, 35]; refine ⟨[.b (cv (lev a) (lev [43, 47, 35]))], rfl, fun _ w' hr => c_covers (lev a) (lev [43, 47, 35]) v1 v2 w' (hr.at_ 1 rfl) (hr.at_ 0 rfl) (by omega) (by first | omega | decide), ?_⟩; simp only [Tree.goal, X.P, X.ev, V.toI_i, V.toB_b, V.toS_s, V.toR_r, V.toV_v, V.toN_n, V.toL_l, SV.ev, CV.ev, Sc.ev, List.getD_cons_zero, List.getD_cons_succ, List.getElem?_cons_zero, List.getElem?_cons_succ, List.map_cons, List.map_nil, List.length_cons, List.length_nil, List.cons_append, List.nil_append, Nat.zero_add, Nat.reduceAdd]
      exact fun w' hr => ⟨by trivial, hr.mod⟩
    · rw [h5, levC_2]
      intro w1 hr; refine (c_Levels w1 a ha).mono ?_; rintro e w2 ⟨v1, rfl, r1, f1, m1⟩; refine ⟨[.v v1, .r ((lev a).map encS)], rfl, rfl, m1, List.forall_mem_nil _, List.forall_mem_cons.2 ⟨⟨r1, fun k hk => .inl (f1 k hk)⟩, List.forall_mem_nil _⟩, apart_one, ?_⟩; simp only [Tree.goal, X.P, X.ev, V.toI_i, V.toB_b, V.toS_s, V.toR_r, V.toV_v, V.toN_n, V.toL_l, SV.ev, CV.ev, Sc.ev, List.getD_cons_zero, List.getD_cons_succ, List.getElem?_cons_zero, List.getElem?_cons_succ, List.map_cons, List.map_nil, List.length_cons, List.length_nil, List.cons_append, List.nil_append, Nat.zero_add, Nat.reduceAdd]; intro w3 hr; refine (c_Levels w3 [47, 43, 47, 35] (by first | exact hb | decide)).mono ?_; rintro e w4 ⟨v2, rfl, r1, f1, m1⟩; refine ⟨[.v v2, .r ((lev [47, 43, 47, 35]).map encS)], rfl, rfl, m1, List.forall_mem_nil _, List.forall_mem_cons.2 ⟨⟨r1, fun k hk => .inl (f1 k hk)⟩, List.forall_mem_nil _⟩, apart_one, ?_⟩; simp only [Tree.goal, X.P, X.ev, V.toI_i, V.toB_b, V.toS_s, V.toR_r, V.toV_v, V.toN_n, V.toL_l, SV.ev, CV.ev, Sc.ev, List.getD_cons_zero, List.getD_cons_succ, List.getElem?_cons_zero, List.getElem?_cons_succ, List.map_cons, List.map_nil, List.length_cons, List.length_nil, List.cons_append, List.nil_append, Nat.zero_add, Nat.reduceAdd]; have l1 := lev_count a; have l2 := lev_count [47, 43, 47, 35]; refine ⟨[.b (cv (lev a) (lev [47, 43, 47, 35]))], rfl, fun _ w' hr => c_covers (lev a) (lev [47, 43, 47, 35]) v1 v2 w' (hr.at_ 1 rfl) (hr.at_ 0 rfl) (by omega) (by first | omega | decide), ?_⟩; simp only [Tree.goal, X.P, X.ev, V.toI_i, V.toB_b, V.toS_s, V.toR_r, V.toV_v, V.toN_n, V.toL_l, SV.ev, CV.ev, Sc.ev, List.getD_cons_zero, List.getD_cons_succ, List.getElem?_cons_zero, List.getElem?_cons_succ, List.map_cons, List.map_nil, List.length_cons, List.length_nil, List.cons_append, List.nil_append, Nat.zero_add, Nat.reduceAdd]
      exact fun w' hr => ⟨by trivial, hr.mod⟩
    · rw [levC_no (fun h => by rcases h with h | h; exact h4 h; exact h5 h)]
      intro w1 hr; refine (c_Levels w1 a ha).mono ?_; rintro e w2 ⟨v1, rfl, r1, f1, m1⟩; refine ⟨[.v v1, .r ((lev a).map encS)], rfl, rfl, m1, List.forall_mem_nil _, List.forall_mem_cons.2 ⟨⟨r1, fun k hk => .inl (f1 k hk)⟩, List.forall_mem_nil _⟩, apart_one, ?_⟩; simp only [Tree.goal, X.P, X.ev, V.toI_i, V.toB_b, V.toS_s, V.toR_r, V.toV_v, V.toN_n, V.toL_l, SV.ev, CV.ev, Sc.ev, List.getD_cons_zero, List.getD_cons_succ, List.getElem?_cons_zero, List.getElem?_cons_succ, List.map_cons, List.map_nil, List.length_cons, List.length_nil, List.cons_append, List.nil_append, Nat.zero_add, Nat.reduceAdd]; intro w3 hr; refine (c_Levels w3 b (by first | exact hb | decide)).mono ?_; rintro e w4 ⟨v2, rfl, r1, f1, m1⟩; refine ⟨[.v v2, .r ((lev b).map encS)], rfl, rfl, m1, List.forall_mem_nil _, List.forall_mem_cons.2 ⟨⟨r1, fun k hk => .inl (f1 k hk)⟩, List.forall_mem_nil _⟩, apart_one, ?_⟩; simp only [Tree.goal, X.P, X.ev, V.toI_i, V.toB_b, V.toS_s, V.toR_r, V.toV_v, V.toN_n, V.toL_l, SV.ev, CV.ev, Sc.ev, List.getD_cons_zero, List.getD_cons_succ, List.getElem?_cons_zero, List.getElem?_cons_succ, List.map_cons, List.map_nil, List.length_cons, List.length_nil, List.cons_append, List.nil_append, Nat.zero_add, Nat.reduceAdd]; have l1 := lev_count a; have l2 := lev_count b; refine ⟨[.b (cv (lev a) (lev b))], rfl, fun _ w' hr => c_covers (lev a) (lev b) v1 v2 w' (hr.at_ 1 rfl) (hr.at_ 0 rfl) (by omega) (by first | omega | decide), ?_⟩; simp only [Tree.goal, X.P, X.ev, V.toI_i, V.toB_b, V.toS_s, V.toR_r, V.toV_v, V.toN_n, V.toL_l, SV.ev, CV.ev, Sc.ev, List.getD_cons_zero, List.getD_cons_succ, List.getElem?_cons_zero, List.getElem?_cons_succ, List.map_cons, List.map_nil, List.length_cons, List.length_nil, List.cons_append, List.nil_append, Nat.zero_add, Nat.reduceAdd]
      exact fun w' hr => ⟨by trivial, hr.mod⟩

theorem cv_loop {fs gs : List (List UInt8)} {i : Nat} (hi : i < fs.length) (h2 : ¬ fs.getD i [] = [35]) (h3 : ¬ (((gs.length : Int) ≤ i ∨ gs.getD i [] = [35]) ∨ ¬ fs.getD i [] = [43] ∧ ¬ fs.getD i [] = gs.getD i [])) (hg : cv (fs.drop i) (gs.drop i) = cv fs gs) : i + 1 ≤ gs.length ∧ cv (fs.drop (i + 1)) (gs.drop (i + 1)) = cv fs gs := by
  have h4 : ¬ gs.length ≤ i := fun h => h3 (.inl (.inl (by omega)))
  refine ⟨by omega, ?_⟩
  rw [dropS fs i hi, dropS gs i (by omega), cv_cons _ _ _ h2, if_neg (fun h => h3 (.inl (.inr h))), if_pos] at hg
  · exact hg
  · by_cases h5 : fs.getD i [] = [43]
    · exact .inl h5
    · by_cases h6 : fs.getD i [] = gs.getD i []
      · exact .inr h6
      · exact absurd (.inr ⟨h5, h6⟩) h3
theorem cv_stop {fs gs : List (List UInt8)} {i : Nat} (hi : i < fs.length) (h2 : ¬ fs.getD i [] = [35]) (h3 : ((gs.length : Int) ≤ i ∨ gs.getD i [] = [35]) ∨ ¬ fs.getD i [] = [43] ∧ ¬ fs.getD i [] = gs.getD i []) (hg : cv (fs.drop i) (gs.drop i) = cv fs gs) : cv fs gs = false := by
  rw [← hg, dropS fs i hi]
  by_cases h4 : gs.length ≤ i
  · rw [List.drop_of_length_le h4, cv_none _ h2]
  · rw [dropS gs i (by omega), cv_cons _ _ _ h2]
    by_cases h5 : gs.getD i [] = [35]
    · rw [if_pos h5]
    · rw [if_neg h5, if_neg]
      intro h6
      rcases h3 with (h3 | h3) | h3
      · omega
      · exact h5 h3
      · rcases h6 with h6 | h6
        · exact h3.1 h6
        · exact h3.2 h6
end Go.Proofs.YtcbkkjbgacjncaaDoor
