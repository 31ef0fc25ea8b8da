/-
  Topics: levels of a text. By an AI agent.
-/
import Derived.Test.YtliedecinehijaaGreatDoorZ06
import Derived.Test.YtliedecinehijaaGreatDoorZ08
import Derived.Test.YtliedecinehijaaGreatDoorZ07
import Derived.Test.YtliedecinehijaaGreatDoorZ05
import Derived.Lib.Overlaps
import Derived.Shelf.Spec.SlicesInsert
import Derived.Lib.AppendZerosOnto
set_option linter.unusedSimpArgs false
set_option linter.unusedVariables false
namespace Go.Proofs.YtliedecinehijaaGreatDoor
open Go.Sx

def encS (s : List UInt8) : List Value := [.string ⟨s.toArray⟩]
theorem gS_encS (ps : List (List UInt8)) (i : Nat) : Value.gS (((ps.map encS).getD i []).getD 0 undef) = ps.getD i [] := by
  simp only [List.getD_eq_getElem?_getD, List.getElem?_map]
  cases ps[i]? <;> simp [encS, Value.gS, undef]
abbrev readsS (w : World) (v : Value) (ps : List (List UInt8)) : Prop := reads w v [.str] (ps.map encS)
def freshS (n : Nat) (v : Value) (ps : List (List UInt8)) : Prop := ∀ k, (ps.map encS).flatten ≠ [] ∧ blockOf v k → n ≤ k
theorem dropS (ps : List (List UInt8)) (i : Nat) (h : i < ps.length) : ps.drop i = ps.getD i [] :: ps.drop (i + 1) := by
  rw [List.drop_eq_getElem_cons h, List.getD_eq_getElem?_getD, List.getElem?_eq_getElem h]; rfl
theorem drop_getD' (s : List UInt8) (k : Nat) (h : k < s.length) : s.drop k = s.getD k 0 :: s.drop (k + 1) := by
  rw [List.drop_eq_getElem_cons h, List.getD_eq_getElem?_getD, List.getElem?_eq_getElem h]; rfl
theorem u8_lt' (b : UInt8) : b.toNat < 256 := b.toNat_lt

/-- The levels of a text. -/
def lev : List UInt8 → List (List UInt8)
  | [] => [[]]
  | c :: l => if c = 47 then [] :: lev l else match lev l with | [] => [[c]] | x :: xs => (c :: x) :: xs
def glue (p : List UInt8) : List (List UInt8) → List (List UInt8)
  | [] => []
  | x :: xs => (p ++ x) :: xs
theorem glue_nil (l : List (List UInt8)) : glue [] l = l := by cases l <;> rfl
theorem lev_ne (s : List UInt8) : ∃ x xs, lev s = x :: xs := by
  cases s with
  | nil => exact ⟨[], [], rfl⟩
  | cons c l =>
    simp only [lev]
    split
    · exact ⟨_, _, rfl⟩
    · split <;> exact ⟨_, _, rfl⟩
theorem lev_slash (l : List UInt8) : lev (47 :: l) = [] :: lev l := by simp [lev]
theorem lev_other {c : UInt8} (l : List UInt8) (h : c ≠ 47) : lev (c :: l) = glue [c] (lev l) := by
  obtain ⟨x, xs, e⟩ := lev_ne l
  simp [lev, if_neg h, e, glue]
theorem glue_glue (p q : List UInt8) (l : List (List UInt8)) : glue p (glue q l) = glue (p ++ q) l := by cases l <;> simp [glue]

theorem c_LevelsOf (w : World) (s : List UInt8) (hs : s.length < 1099511627776) : Calls Tryz.prog 75 #[.string ⟨s.toArray⟩] w
    fun e w' => ∃ v, e = .returned (sc1 v) ∧ readsS w' v (lev s) ∧ freshS w.heap.size v (lev s) ∧ Mod [] w w' := by
  refine as_called (run_plain2 (ρ := [.s s]) sxE_ok Tryz.func75 tree_dragomanref_LevelsOf rfl rfl rfl ?_) rfl
  simp only [Tree.goal, X.P, X.ev, V.toI_i, V.toB_b, V.toS_s, V.toR_r, V.toV_v, V.toN_n, V.toL_l, SV.ev, CV.ev, Sc.ev, List.getD_cons_zero, List.getD_cons_succ, List.getElem?_cons_zero, List.getElem?_cons_succ, List.map_cons, List.map_nil, List.length_cons, List.length_nil, List.cons_append, List.nil_append, Nat.zero_add, Nat.reduceAdd]
  refine ⟨fun vs => ∃ (v : Value) (acc : List (List UInt8)) (a i : Nat), vs = [.v v, .r (acc.map encS), .i a, .i i] ∧ acc.length ≤ i ∧
      (i ≤ s.length ∧ a ≤ i ∧ acc ++ glue ((s.take i).drop a) (lev (s.drop i)) = lev s ∨ i = s.length + 1 ∧ acc = lev s), fun vs => s.length + 1 - (vs.getD 3 (.i 0)).toI.toNat, ⟨_, [], 0, 0, rfl, by simp, .inl ⟨by omega, by omega, by simp [glue_nil]⟩⟩, ?_⟩
  rintro _ - ⟨v, acc, a, i, rfl, hal, hinv⟩
  simp only [Tree.goal, X.P, X.ev, V.toI_i, V.toB_b, V.toS_s, V.toR_r, V.toV_v, V.toN_n, V.toL_l, SV.ev, CV.ev, Sc.ev, List.getD_cons_zero, List.getD_cons_succ, List.getElem?_cons_zero, List.getElem?_cons_succ, List.map_cons, List.map_nil, List.length_cons, List.length_nil, List.cons_append, List.nil_append, Nat.zero_add, Nat.reduceAdd, List.length_map, Int.toNat_natCast]
  refine ⟨fun h1 => ?_, fun h1 w' hr => ?_⟩
  · obtain ⟨hi, ha, hg⟩ := hinv.resolve_right fun h => by omega
    refine ⟨.inr (by omega), by omega, fun h2 => ?_, fun h2 => ?_⟩
    · (repeat refine ⟨by omega, ?_⟩)
      intro v1
      refine ⟨by omega, fun v2 => ⟨by omega, by omega, ⟨v2, acc ++ [(s.take i).drop a], i + 1, i + 1, by simp [encS], by simp; omega, ?_⟩, by omega⟩⟩
      by_cases h3 : i = s.length
      · subst h3
        rw [List.drop_length] at hg
        exact .inr ⟨rfl, by rw [← hg]; simp [lev, glue]⟩
      · refine .inl ⟨by omega, by omega, ?_⟩
        have h4 : s.getD i 0 = 47 := by
          have : (s.getD i 0).toNat = 47 := by
            rcases h2 with h2 | h2
            · omega
            · omega
          exact UInt8.toNat_inj.1 this
        rw [drop_getD' s i (by omega), h4, lev_slash] at hg
        have hz : glue ((s.take (i + 1)).drop (i + 1)) (lev (s.drop (i + 1))) = lev (s.drop (i + 1)) := by rw [List.drop_of_length_le (by simp; omega), glue_nil]
        rw [hz, ← hg]
        simp [glue]
    · refine ⟨by omega, by omega, ⟨v, acc, a, i + 1, rfl, by omega, .inl ⟨by omega, by omega, ?_⟩⟩, by omega⟩
      have h4 : s.getD i 0 ≠ 47 := fun h => h2 (.inr (by rw [h]; rfl))
      rw [drop_getD' s i (by omega), lev_other _ h4, glue_glue] at hg
      rw [← hg]
      congr 2
      rw [List.take_add_one, List.drop_append_of_le_length (by simp; omega), List.getD_eq_getElem?_getD]
      rw [List.getElem?_eq_getElem (by omega)]
      rfl
  · obtain ⟨hi, hg⟩ := hinv.resolve_left fun h => by omega
    subst hg
    refine ⟨v, rfl, owns.reads (hr.at_ 0 rfl), fun k hk => ?_, hr.mod⟩
    rcases hr.own _ (List.mem_cons_self ..) rfl k hk.2 with h | h
    · exact h
    · simp at h

theorem lev_miss : ∀ {s : List UInt8}, Lib.indexByte s 47 = -1 → lev s = [s] := by
  intro s
  induction s with
  | nil => intro _; rfl
  | cons c l ih =>
    intro h
    unfold Lib.indexByte at h
    split at h
    · exact absurd h (by decide)
    · rename_i hc
      have hc : c ≠ 47 := by simpa using hc
      split at h
      · rename_i h2
        rw [lev_other _ hc, ih (by simpa using h2)]; rfl
      · have := Lib.indexByte_ge l 47
        omega
theorem lev_hit : ∀ {s : List UInt8} {i : Nat}, Lib.indexByte s 47 = i → lev s = s.take i :: lev (s.drop (i + 1)) ∧ s.count 47 = (s.drop (i + 1)).count 47 + 1 := by
  intro s
  induction s with
  | nil => intro i h; unfold Lib.indexByte at h; omega
  | cons c l ih =>
    intro i h
    unfold Lib.indexByte at h
    split at h
    · rename_i hc
      have hc : c = 47 := by simpa using hc
      have : i = 0 := by omega
      subst this hc
      rw [lev_slash]
      simp
    · rename_i hc
      have hc : c ≠ 47 := by simpa using hc
      split at h
      · omega
      · rename_i h2
        have h3 := Lib.indexByte_ge l 47
        have h2 : ¬ Lib.indexByte l 47 = -1 := by simpa using h2
        obtain ⟨j, hj⟩ : ∃ j : Nat, Lib.indexByte l 47 = j := ⟨(Lib.indexByte l 47).toNat, by omega⟩
        have hij : i = j + 1 := by omega
        subst hij
        obtain ⟨e1, e2⟩ := ih hj
        rw [lev_other _ hc, e1]
        refine ⟨by simp [glue], ?_⟩
        rw [List.count_cons_of_ne hc, e2]; simp
theorem splitK_lev : ∀ (k : Nat) (s : List UInt8), s.count 47 = k → Lib.splitK [47] 0 k s = lev s := by
  intro k
  induction k with
  | zero =>
    intro s h
    unfold Lib.splitK
    refine (lev_miss ?_).symm
    rcases Int.lt_or_le (Lib.indexByte s 47) 0 with h1 | h1
    · have := Lib.indexByte_ge s 47; omega
    · obtain ⟨i, hi⟩ : ∃ i : Nat, Lib.indexByte s 47 = i := ⟨(Lib.indexByte s 47).toNat, by omega⟩
      have := (lev_hit hi).2
      omega
  | succ k ih =>
    intro s h
    unfold Lib.splitK
    rw [Lib.index_one]
    by_cases h1 : Lib.indexByte s 47 = -1
    · rw [if_pos (by simpa using h1), lev_miss h1]
    · rw [if_neg (by simpa using h1)]
      obtain ⟨i, hi⟩ : ∃ i : Nat, Lib.indexByte s 47 = i := ⟨(Lib.indexByte s 47).toNat, by have h5 := Lib.indexByte_ge s 47; have h6 : ¬ Lib.indexByte s 47 = -1 := h1; omega⟩
      obtain ⟨e1, e2⟩ := lev_hit hi
      rw [hi, e1, ← ih (s.drop (i + 1)) (by omega)]
      simp

/-- strings.Split at a slash: what it hands back. -/
theorem c_genSplit (w : World) (s : List UInt8) (hs : s.length < 4294967281) : Calls Tryz.prog 175 #[.string ⟨s.toArray⟩, .string ⟨#[47]⟩, .int .i64 0, .int .i64 (-1)] w
    fun e w' => ∃ v, e = .returned (sc1 v) ∧ readsS w' v (lev s) ∧ freshS w.heap.size v (lev s) ∧ Mod [] w w' := by
  have hsz : (⟨s.toArray⟩ : ByteArray).size = s.length := rfl
  have hcount : Lib.countB ⟨s.toArray⟩ ⟨#[47]⟩ = s.count 47 := Lib.count_one 47 s
  have hc1 : s.count 47 ≤ s.length := List.count_le_length
  have c := Any.strings_genSplit_core Tryz.lays221 (by kernel_rfl) ⟨s.toArray⟩ ⟨#[47]⟩ 0 (-1) (s.count 47 + 1) w (by rw [hsz]; exact hs) (by decide) (Nat.zero_le _)
    (fun x c hx => (Any.strings_Index_one { Tryz.lays221 with } x 47 _).mono fun e w' ⟨h1, h2⟩ => ⟨by rw [h1]; show _ = Ending.returned (Value.int .i64 (Lib.index x.data.toList [47])); rw [Lib.index_one], h2⟩)
    ((Any.strings_Count_one { Tryz.lays221 with } ⟨s.toArray⟩ 47 w).mono fun e w' ⟨h1, h2⟩ => ⟨by rw [h1, hcount]; rfl, h2⟩) (by decide) (by decide) (by rw [if_pos (by decide), hcount, hsz]; omega)
  refine (as_called c rfl).mono ?_
  rintro e w' ⟨rfl, rfl⟩
  rw [Nat.add_sub_cancel]
  have hdata := Lib.splitB_data ⟨#[47]⟩ 0 (s.count 47) ⟨s.toArray⟩
  have hlev : (Lib.splitB ⟨#[47]⟩ 0 (s.count 47) ⟨s.toArray⟩).map (·.data.toList) = lev s := hdata.trans (splitK_lev _ s rfl)
  have hlen := Lib.splitB_all ⟨#[47]⟩ (by decide) 0 (s.count 47) ⟨s.toArray⟩ hcount
  generalize Lib.splitB ⟨#[47]⟩ 0 (s.count 47) ⟨s.toArray⟩ = pcs at hlev hlen
  rw [hlen]
  have hll : (lev s).length = s.count 47 + 1 := by rw [← hlev, List.length_map, hlen]
  have hfull : Lib.cellsOf pcs (s.count 47 + 1) = (pcs.map Value.string).toArray := by rw [← hlen]; exact Lib.cellsOf_full _
  have hrow : (lev s).map encS = pcs.map fun b => [Value.string b] := by
    rw [← hlev, List.map_map]
    refine List.map_congr_left fun b _ => ?_
    obtain ⟨⟨l⟩⟩ := b
    rfl
  have hfl : (pcs.map fun b => [Value.string b]).flatten = pcs.map Value.string := by
    clear hlev hlen hfull hrow
    induction pcs <;> simp_all
  refine ⟨.slice (some ⟨w.heap.size, 0, none⟩) (s.count 47 + 1) (s.count 47 + 1), rfl, ⟨?_, some ⟨w.heap.size, 0, none⟩, s.count 47 + 1, by rw [List.length_map, hll], ⟨(fun h => by cases h), by rw [List.length_map, hll]; exact Nat.le_refl _⟩, fun _ => ⟨_, rfl, fun j u hj => ?_⟩⟩, fun k hk => ?_, Mod.alloc [] w _⟩
  · intro r hr
    obtain ⟨x, -, rfl⟩ := List.mem_map.1 hr
    exact ⟨⟨_, rfl⟩, trivial⟩
  · rw [hrow, hfl] at hj
    rw [add_mk, Nat.zero_add, hfull]
    exact (World.cell?_alloc_new ..).trans (by simpa using hj)
  · have h := hk.2
    simp only [blockOf, Value.ownBlock, Option.some.injEq] at h
    omega
end Go.Proofs.YtliedecinehijaaGreatDoor

/-
  Topics: what is wrong with one. By an AI agent.
-/
set_option linter.unusedSimpArgs false
set_option linter.unusedVariables false
namespace Go.Proofs.YtliedecinehijaaGreatDoor
open Go.Sx

theorem c_Split (w : World) (s : List UInt8) (hs : s.length < 4294967281) : Calls Tryz.prog 147 #[.string ⟨s.toArray⟩, .string ⟨#[47]⟩] w
    fun e w' => ∃ v, e = .returned (sc1 v) ∧ readsS w' v (lev s) ∧ freshS w.heap.size v (lev s) ∧ Mod [] w w' := by
  refine as_called (run_plain2 (ρ := [.s s, .s [47]]) sxE_ok Tryz.func147 tree_strings_Split rfl rfl rfl ?_) rfl
  simp only [Tree.goal, X.P, X.ev, V.toI_i, V.toB_b, V.toS_s, V.toR_r, V.toV_v, V.toN_n, V.toL_l, SV.ev, CV.ev, Sc.ev, List.getD_cons_zero, List.getD_cons_succ, List.getElem?_cons_zero, List.getElem?_cons_succ, List.map_cons, List.map_nil, List.length_cons, List.length_nil, List.cons_append, List.nil_append, Nat.zero_add, Nat.reduceAdd]
  intro w1 hr
  refine (c_genSplit w1 s hs).mono ?_
  rintro e w2 ⟨v1, rfl, r1, f1, m1⟩
  have hsz := hr.mod.size
  refine ⟨[.v v1, .r ((lev s).map encS)], rfl, rfl, m1, List.forall_mem_nil _, List.forall_mem_cons.2 ⟨⟨r1, fun k hk => .inl (f1 k hk)⟩, List.forall_mem_nil _⟩, apart_one, ?_⟩
  simp only [Tree.goal, X.P, X.ev, V.toI_i, V.toB_b, V.toS_s, V.toR_r, V.toV_v, V.toN_n, V.toL_l, SV.ev, CV.ev, Sc.ev, List.getD_cons_zero, List.getD_cons_succ, List.getElem?_cons_zero, List.getElem?_cons_succ, List.map_cons, List.map_nil, List.length_cons, List.length_nil, List.cons_append, List.nil_append, Nat.zero_add, Nat.reduceAdd]
  exact fun w' hr => ⟨v1, rfl, hr.at_ 0 rfl, fun k hk => Nat.le_trans hsz (f1 k hk), hr.mod⟩
theorem c_Levels (w : World) (s : List UInt8) (hs : s.length < 4294967281) : Calls Tryz.prog 94 #[.string ⟨s.toArray⟩] w
    fun e w' => ∃ v, e = .returned (sc1 v) ∧ readsS w' v (lev s) ∧ freshS w.heap.size v (lev s) ∧ Mod [] w w' := by
  refine as_called (run_plain2 (ρ := [.s s]) sxE_ok Tryz.func94 tree_topic_Levels rfl rfl rfl ?_) rfl
  simp only [Tree.goal, X.P, X.ev, V.toI_i, V.toB_b, V.toS_s, V.toR_r, V.toV_v, V.toN_n, V.toL_l, SV.ev, CV.ev, Sc.ev, List.getD_cons_zero, List.getD_cons_succ, List.getElem?_cons_zero, List.getElem?_cons_succ, List.map_cons, List.map_nil, List.length_cons, List.length_nil, List.cons_append, List.nil_append, Nat.zero_add, Nat.reduceAdd]
  intro w1 hr
  refine (c_Split w1 s hs).mono ?_
  rintro e w2 ⟨v1, rfl, r1, f1, m1⟩
  have hsz := hr.mod.size
  refine ⟨[.v v1, .r ((lev s).map encS)], rfl, rfl, m1, List.forall_mem_nil _, List.forall_mem_cons.2 ⟨⟨r1, fun k hk => .inl (f1 k hk)⟩, List.forall_mem_nil _⟩, apart_one, ?_⟩
  simp only [Tree.goal, X.P, X.ev, V.toI_i, V.toB_b, V.toS_s, V.toR_r, V.toV_v, V.toN_n, V.toL_l, SV.ev, CV.ev, Sc.ev, List.getD_cons_zero, List.getD_cons_succ, List.getElem?_cons_zero, List.getElem?_cons_succ, List.map_cons, List.map_nil, List.length_cons, List.length_nil, List.cons_append, List.nil_append, Nat.zero_add, Nat.reduceAdd]
  exact fun w' hr => ⟨v1, rfl, hr.at_ 0 rfl, fun k hk => Nat.le_trans hsz (f1 k hk), hr.mod⟩

/-- Only signs that may be seen. -/
def plainS (s : List UInt8) : Bool := s.all fun b => decide (33 ≤ b.toNat ∧ b.toNat ≤ 126)
theorem plain_snoc (s : List UInt8) (i : Nat) (h : i < s.length) : plainS (s.take (i + 1)) = (plainS (s.take i) && decide (33 ≤ (s.getD i 0).toNat ∧ (s.getD i 0).toNat ≤ 126)) := by
  rw [List.take_add_one, List.getD_eq_getElem?_getD, List.getElem?_eq_getElem h]
  simp only [plainS, List.all_append, Option.toList_some, List.all_cons, List.all_nil, Bool.and_true, Option.getD_some]
theorem plain_not {s : List UInt8} {i : Nat} (h : i < s.length) (h1 : ¬ (33 ≤ (s.getD i 0).toNat ∧ (s.getD i 0).toNat ≤ 126)) : plainS s = false := by
  rw [← Bool.not_eq_true]
  intro h2
  rw [plainS, List.all_eq_true] at h2
  have := h2 (s.getD i 0) (by rw [List.getD_eq_getElem?_getD, List.getElem?_eq_getElem h]; exact List.getElem_mem h)
  exact h1 (of_decide_eq_true this)
theorem c_IsPlain (w : World) (s : List UInt8) (hs : s.length < 1099511627776) : Calls Tryz.prog 76 #[.string ⟨s.toArray⟩] w fun e w' => e = .returned (.bool (plainS s)) ∧ Mod [] w w' := by
  refine as_called (run_plain2 (ρ := [.s s]) sxE_ok Tryz.func76 tree_dragomanref_IsPlain rfl rfl rfl ?_) rfl
  simp only [Tree.goal, X.P, X.ev, V.toI_i, V.toB_b, V.toS_s, V.toR_r, V.toV_v, V.toN_n, V.toL_l, SV.ev, CV.ev, Sc.ev, List.getD_cons_zero, List.getD_cons_succ, List.getElem?_cons_zero, List.getElem?_cons_succ, List.map_cons, List.map_nil, List.length_cons, List.length_nil, List.cons_append, List.nil_append, Nat.zero_add, Nat.reduceAdd]
  refine ⟨fun vs => ∃ (x : V) (i : Nat), vs = [x, .i i] ∧ i ≤ s.length ∧ plainS (s.take i) = true, fun vs => s.length - (vs.getD 1 (.i 0)).toI.toNat, ⟨_, 0, rfl, by omega, rfl⟩, ?_⟩
  rintro _ - ⟨x, i, rfl, hi, hp⟩
  simp only [Tree.goal, X.P, X.ev, V.toI_i, V.toB_b, V.toS_s, V.toR_r, V.toV_v, V.toN_n, V.toL_l, SV.ev, CV.ev, Sc.ev, List.getD_cons_zero, List.getD_cons_succ, List.getElem?_cons_zero, List.getElem?_cons_succ, List.map_cons, List.map_nil, List.length_cons, List.length_nil, List.cons_append, List.nil_append, Nat.zero_add, Nat.reduceAdd, Int.toNat_natCast]
  refine ⟨fun h1 => ⟨by omega, fun h2 w' hr => ⟨by rw [plain_not (i := i) (by omega) (by omega)], hr.mod⟩, fun h2 => ⟨by omega, by omega, ⟨x, i + 1, rfl, by omega, ?_⟩, by omega⟩⟩, fun h1 w' hr => ⟨?_, hr.mod⟩⟩
  · rw [plain_snoc _ _ (by omega), hp, Bool.true_and, decide_eq_true_eq]; omega
  · have : i = s.length := by omega
    subst this
    rw [List.take_length] at hp; rw [hp]
theorem c_Plain (w : World) (s : List UInt8) (hs : s.length < 1099511627776) : Calls Tryz.prog 159 #[.string ⟨s.toArray⟩] w fun e w' => e = .returned (.bool (plainS s)) ∧ Mod [] w w' := by
  refine as_called (run_plain2 (ρ := [.s s]) sxE_ok Tryz.func159 tree_topic_Plain rfl rfl rfl ?_) rfl
  simp only [Tree.goal, X.P, X.ev, V.toI_i, V.toB_b, V.toS_s, V.toR_r, V.toV_v, V.toN_n, V.toL_l, SV.ev, CV.ev, Sc.ev, List.getD_cons_zero, List.getD_cons_succ, List.getElem?_cons_zero, List.getElem?_cons_succ, List.map_cons, List.map_nil, List.length_cons, List.length_nil, List.cons_append, List.nil_append, Nat.zero_add, Nat.reduceAdd]
  refine ⟨fun vs => ∃ (x : V) (i : Nat), vs = [x, .i i] ∧ i ≤ s.length ∧ plainS (s.take i) = true, fun vs => s.length - (vs.getD 1 (.i 0)).toI.toNat, ⟨_, 0, rfl, by omega, rfl⟩, ?_⟩
  rintro _ - ⟨x, i, rfl, hi, hp⟩
  simp only [Tree.goal, X.P, X.ev, V.toI_i, V.toB_b, V.toS_s, V.toR_r, V.toV_v, V.toN_n, V.toL_l, SV.ev, CV.ev, Sc.ev, List.getD_cons_zero, List.getD_cons_succ, List.getElem?_cons_zero, List.getElem?_cons_succ, List.map_cons, List.map_nil, List.length_cons, List.length_nil, List.cons_append, List.nil_append, Nat.zero_add, Nat.reduceAdd, Int.toNat_natCast]
  refine ⟨fun h1 => ⟨by omega, fun h2 w' hr => ⟨by rw [plain_not (i := i) (by omega) (by omega)], hr.mod⟩, fun h2 => ⟨by omega, by omega, ⟨x, i + 1, rfl, by omega, ?_⟩, by omega⟩⟩, fun h1 w' hr => ⟨?_, hr.mod⟩⟩
  · rw [plain_snoc _ _ (by omega), hp, Bool.true_and, decide_eq_true_eq]; omega
  · have : i = s.length := by omega
    subst this
    rw [List.take_length] at hp; rw [hp]

/-- Has a level a sign for others? -/
def wild (x : List UInt8) : Bool := x.any fun b => b == 43 || b == 35
theorem has_wild : ∀ x : List UInt8, Lib.containsAny x [43, 35] = wild x := by
  intro x
  induction x with
  | nil => rfl
  | cons b l ih =>
    have hg := Lib.indexAny_ge [43, 35] l
    unfold Lib.containsAny at ih ⊢
    unfold Lib.indexAny
    simp only [wild, List.any_cons]
    by_cases h : b = 43 ∨ b = 35
    · have h1 : ([43, 35] : List UInt8).contains b = true := by rcases h with h | h <;> subst h <;> decide
      have h2 : (b == 43 || b == 35) = true := by rcases h with h | h <;> subst h <;> decide
      rw [if_pos h1, h2] <;> rfl
    · have h1 : ¬ ([43, 35] : List UInt8).contains b = true := by simp; exact ⟨fun h2 => h (.inl h2), fun h2 => h (.inr h2)⟩
      have h2 : (b == 43 || b == 35) = false := by simp; exact ⟨fun h2 => h (.inl h2), fun h2 => h (.inr h2)⟩
      rw [if_neg h1, h2, Bool.false_or]
      change _ = wild l
      rw [← ih]
      by_cases h3 : Lib.indexAny l [43, 35] = -1
      · rw [if_pos (by simpa using h3), h3] <;> rfl
      · rw [if_neg (by simpa using h3)]
        exact decide_eq_decide.2 (by omega)
theorem c_ContainsAny (w : World) (x : List UInt8) (hs : x.length < 4294967281) (ha : ∀ b ∈ x, b.toNat < 128) : Calls Tryz.prog 163 #[.string ⟨x.toArray⟩, .string ⟨#[43, 35]⟩] w fun e w' => e = .returned (.bool (wild x)) ∧ Mod [] w w' := by
  refine (as_called (Any.strings_ContainsAny_laid Tryz.lays150 (by kernel_rfl) ⟨x.toArray⟩ ⟨#[43, 35]⟩ w hs (by decide) (fun j b hb => ha b (List.mem_of_getElem? hb)) (fun j b hb => ?_)) rfl).mono ?_
  · have : b ∈ ([43, 35] : List UInt8) := List.mem_of_getElem? hb
    simp at this
    rcases this with rfl | rfl <;> decide
  · rintro e w' ⟨h1, h2⟩
    refine ⟨?_, Mod.of_below h2⟩
    rw [h1]
    exact congrArg (fun b => Ending.returned (Value.bool b)) (has_wild x)

/-- Levels that may not stand there. -/
def badL (filter : Bool) : List (List UInt8) → Bool
  | [] => false
  | x :: r => (wild x && (!filter || (!decide (x = [43]) && (!decide (x = [35]) || !decide (r = []))))) || badL filter r
/-- What is wrong with a topic, or a filter. -/
def chkT (s : List UInt8) (filter : Bool) : Int :=
  if s = [] then 1 else if 60 < (s.length : Int) ∨ 6 < ((lev s).length : Int) then 2 else if plainS s = true then (if badL filter (lev s) = true then 1 else 0) else 1
theorem chkT_nil {f : Bool} : chkT [] f = 1 := rfl
theorem chkT_many {s : List UInt8} {f : Bool} (h : ¬ s = []) (h1 : 60 < (s.length : Int) ∨ 6 < ((lev s).length : Int)) : chkT s f = 2 := by rw [chkT, if_neg h, if_pos h1]
theorem chkT_plain {s : List UInt8} {f : Bool} (h : ¬ s = []) (h1 : ¬ (60 < (s.length : Int) ∨ 6 < ((lev s).length : Int))) (h2 : ¬ plainS s = true) : chkT s f = 1 := by rw [chkT, if_neg h, if_neg h1, if_neg h2]
theorem chkT_lev {s : List UInt8} {f : Bool} (h : ¬ s = []) (h1 : ¬ (60 < (s.length : Int) ∨ 6 < ((lev s).length : Int))) (h2 : plainS s = true) : chkT s f = if badL f (lev s) = true then 1 else 0 := by rw [chkT, if_neg h, if_neg h1, if_pos h2]

theorem lev_mem : ∀ {s x : List UInt8}, x ∈ lev s → ∀ b ∈ x, b ∈ s := by
  intro s
  induction s with
  | nil => intro x hx b hb; simp [lev] at hx; subst hx; simp at hb
  | cons c l ih =>
    intro x hx b hb
    by_cases hc : c = 47
    · subst hc
      rw [lev_slash] at hx
      rcases List.mem_cons.1 hx with rfl | hx
      · simp at hb
      · exact List.mem_cons_of_mem _ (ih hx b hb)
    · obtain ⟨y, ys, e⟩ := lev_ne l
      rw [lev_other _ hc, e] at hx
      rcases List.mem_cons.1 hx with rfl | hx
      · rcases List.mem_append.1 hb with hb | hb
        · simp at hb; subst hb; simp
        · exact List.mem_cons_of_mem _ (ih (by rw [e]; exact List.mem_cons_self ..) b hb)
      · exact List.mem_cons_of_mem _ (ih (by rw [e]; exact List.mem_cons_of_mem _ hx) b hb)
theorem getD_mem {ps : List (List UInt8)} {i : Nat} (h : i < ps.length) : ps.getD i [] ∈ ps := by
  rw [List.getD_eq_getElem?_getD, List.getElem?_eq_getElem h]; exact List.getElem_mem h
theorem lev_ascii {s : List UInt8} (hp : plainS s = true) {i : Nat} (h : i < (lev s).length) : ∀ b ∈ (lev s).getD i [], b.toNat < 128 := fun b hb => by
  have h1 := lev_mem (getD_mem h) b hb
  have := of_decide_eq_true (List.all_eq_true.1 hp b h1)
  omega
theorem lev_size {s x : List UInt8} (hx : x ∈ lev s) : x.length ≤ s.length := by
  induction s generalizing x with
  | nil => simp [lev] at hx; subst hx; simp
  | cons c l ih =>
    by_cases hc : c = 47
    · subst hc
      rw [lev_slash] at hx
      rcases List.mem_cons.1 hx with rfl | hx
      · simp
      · have := ih hx; simp; omega
    · obtain ⟨y, ys, e⟩ := lev_ne l
      rw [lev_other _ hc, e] at hx
      rcases List.mem_cons.1 hx with rfl | hx
      · have := ih (x := y) (by rw [e]; exact List.mem_cons_self ..); simp; omega
      · have := ih (x := x) (by rw [e]; exact List.mem_cons_of_mem _ hx); simp; omega
theorem lev_count (s : List UInt8) : (lev s).length ≤ s.length + 1 := by
  induction s with
  | nil => simp [lev]
  | cons c l ih =>
    by_cases hc : c = 47
    · subst hc; rw [lev_slash]; simp; omega
    · obtain ⟨y, ys, e⟩ := lev_ne l
      rw [lev_other _ hc, e]; rw [e] at ih; simp [glue] at *; omega

set_option maxHeartbeats 1000000 in
theorem c_Name (w : World) (s : List UInt8) (hs : s.length < 4294967281) : Calls Tryz.prog 72 #[.string ⟨s.toArray⟩] w fun e w' => e = .returned (.int .i64 (chkT s false)) ∧ Mod [] w w' := by
  refine as_called (run_plain2 (ρ := [.s s]) sxE_ok Tryz.func72 tree_topic_Name rfl rfl rfl ?_) rfl
  simp only [Tree.goal, X.P, X.ev, V.toI_i, V.toB_b, V.toS_s, V.toR_r, V.toV_v, V.toN_n, V.toL_l, SV.ev, CV.ev, Sc.ev, List.getD_cons_zero, List.getD_cons_succ, List.getElem?_cons_zero, List.getElem?_cons_succ, List.map_cons, List.map_nil, List.length_cons, List.length_nil, List.cons_append, List.nil_append, Nat.zero_add, Nat.reduceAdd]
  intro w1 hr; refine (c_Levels w1 s (by omega)).mono ?_; rintro e w2 ⟨v1, rfl, r1, f1, m1⟩; refine ⟨[.v v1, .r ((lev s).map encS)], rfl, rfl, m1, List.forall_mem_nil _, List.forall_mem_cons.2 ⟨⟨r1, fun k hk => .inl (f1 k hk)⟩, List.forall_mem_nil _⟩, apart_one, ?_⟩; simp only [Tree.goal, X.P, X.ev, V.toI_i, V.toB_b, V.toS_s, V.toR_r, V.toV_v, V.toN_n, V.toL_l, SV.ev, CV.ev, Sc.ev, List.getD_cons_zero, List.getD_cons_succ, List.getElem?_cons_zero, List.getElem?_cons_succ, List.map_cons, List.map_nil, List.length_cons, List.length_nil, List.cons_append, List.nil_append, Nat.zero_add, Nat.reduceAdd, List.length_map]; have hlc := lev_count s; refine ⟨fun h w' hr => ⟨by rw [h, chkT_nil], hr.mod⟩, fun h => ⟨fun h1 w' hr => ⟨by rw [chkT_many h h1], hr.mod⟩, fun h1 => ?_⟩⟩
  refine ⟨[.b (plainS s)], rfl, fun _ w' _ => c_Plain w' s (by omega), ?_⟩; simp only [Tree.goal, X.P, X.ev, V.toI_i, V.toB_b, V.toS_s, V.toR_r, V.toV_v, V.toN_n, V.toL_l, SV.ev, CV.ev, Sc.ev, List.getD_cons_zero, List.getD_cons_succ, List.getElem?_cons_zero, List.getElem?_cons_succ, List.map_cons, List.map_nil, List.length_cons, List.length_nil, List.cons_append, List.nil_append, Nat.zero_add, Nat.reduceAdd]; refine ⟨fun h2 w' hr => ⟨by rw [chkT_plain h h1 h2], hr.mod⟩, fun h2 => ?_⟩; (have h2 := Classical.not_not.1 h2); rw [chkT_lev h h1 h2]
  refine ⟨fun vs => ∃ (x : V) (i : Nat), vs = [x, .i i] ∧ i ≤ (lev s).length ∧ badL false ((lev s).drop i) = badL false (lev s), fun vs => (lev s).length - (vs.getD 1 (.i 0)).toI.toNat, ⟨_, 0, rfl, by omega, rfl⟩, ?_⟩
  rintro _ - ⟨x, i, rfl, hi, hg⟩
  simp only [Tree.goal, X.P, X.ev, V.toI_i, V.toB_b, V.toS_s, V.toR_r, V.toV_v, V.toN_n, V.toL_l, SV.ev, CV.ev, Sc.ev, List.getD_cons_zero, List.getD_cons_succ, List.getElem?_cons_zero, List.getElem?_cons_succ, List.map_cons, List.map_nil, List.length_cons, List.length_nil, List.cons_append, List.nil_append, Nat.zero_add, Nat.reduceAdd, Int.toNat_natCast, List.length_map, gS_encS]
  refine ⟨fun h3 => ?_, fun h3 w' hr => ⟨?_, hr.mod⟩⟩
  · rw [dropS _ i (by omega)] at hg
    have hsz := lev_size (getD_mem (ps := lev s) (i := i) (by omega))
    have has := lev_ascii h2 (i := i) (by omega)
    generalize (lev s).getD i [] = y at hg hsz has ⊢
    (repeat refine ⟨by omega, ?_⟩)
    refine ⟨[.b (wild y)], rfl, fun _ w' _ => c_ContainsAny w' y (by omega) has, ?_⟩
    simp only [Tree.goal, X.P, X.ev, V.toI_i, V.toB_b, V.toS_s, V.toR_r, V.toV_v, V.toN_n, V.toL_l, SV.ev, CV.ev, Sc.ev, List.getD_cons_zero, List.getD_cons_succ, List.getElem?_cons_zero, List.getElem?_cons_succ, List.map_cons, List.map_nil, List.length_cons, List.length_nil, List.cons_append, List.nil_append, Nat.zero_add, Nat.reduceAdd]
    simp only [badL, Bool.not_false, Bool.true_or, Bool.and_true] at hg
    refine ⟨fun h4 w' hr => ⟨by rw [← hg, h4]; rfl, hr.mod⟩, fun h4 => ⟨by omega, by omega, ⟨x, i + 1, rfl, by omega, ?_⟩, by omega⟩⟩
    rw [← hg, (Bool.not_eq_true _).mp h4]; simp
  · have : i = (lev s).length := by omega
    subst this
    rw [List.drop_length] at hg; rw [← hg]; rfl
set_option maxHeartbeats 1000000 in
theorem c_Filter (w : World) (s : List UInt8) (hs : s.length < 4294967281) : Calls Tryz.prog 156 #[.string ⟨s.toArray⟩] w fun e w' => e = .returned (.int .i64 (chkT s true)) ∧ Mod [] w w' := by
  refine as_called (run_plain2 (ρ := [.s s]) sxE_ok Tryz.func156 tree_topic_Filter rfl rfl rfl ?_) rfl
  simp only [Tree.goal, X.P, X.ev, V.toI_i, V.toB_b, V.toS_s, V.toR_r, V.toV_v, V.toN_n, V.toL_l, SV.ev, CV.ev, Sc.ev, List.getD_cons_zero, List.getD_cons_succ, List.getElem?_cons_zero, List.getElem?_cons_succ, List.map_cons, List.map_nil, List.length_cons, List.length_nil, List.cons_append, List.nil_append, Nat.zero_add, Nat.reduceAdd]
  intro w1 hr; refine (c_Levels w1 s (by omega)).mono ?_; rintro e w2 ⟨v1, rfl, r1, f1, m1⟩; refine ⟨[.v v1, .r ((lev s).map encS)], rfl, rfl, m1, List.forall_mem_nil _, List.forall_mem_cons.2 ⟨⟨r1, fun k hk => .inl (f1 k hk)⟩, List.forall_mem_nil _⟩, apart_one, ?_⟩; simp only [Tree.goal, X.P, X.ev, V.toI_i, V.toB_b, V.toS_s, V.toR_r, V.toV_v, V.toN_n, V.toL_l, SV.ev, CV.ev, Sc.ev, List.getD_cons_zero, List.getD_cons_succ, List.getElem?_cons_zero, List.getElem?_cons_succ, List.map_cons, List.map_nil, List.length_cons, List.length_nil, List.cons_append, List.nil_append, Nat.zero_add, Nat.reduceAdd, List.length_map]; have hlc := lev_count s; refine ⟨fun h w' hr => ⟨by rw [h, chkT_nil], hr.mod⟩, fun h => ⟨fun h1 w' hr => ⟨by rw [chkT_many h h1], hr.mod⟩, fun h1 => ?_⟩⟩
  refine ⟨[.b (plainS s)], rfl, fun _ w' _ => c_Plain w' s (by omega), ?_⟩; simp only [Tree.goal, X.P, X.ev, V.toI_i, V.toB_b, V.toS_s, V.toR_r, V.toV_v, V.toN_n, V.toL_l, SV.ev, CV.ev, Sc.ev, List.getD_cons_zero, List.getD_cons_succ, List.getElem?_cons_zero, List.getElem?_cons_succ, List.map_cons, List.map_nil, List.length_cons, List.length_nil, List.cons_append, List.nil_append, Nat.zero_add, Nat.reduceAdd]; refine ⟨fun h2 w' hr => ⟨by rw [chkT_plain h h1 h2], hr.mod⟩, fun h2 => ?_⟩; (have h2 := Classical.not_not.1 h2); rw [chkT_lev h h1 h2]
  refine ⟨fun vs => ∃ (x : V) (i : Nat), vs = [x, .i i] ∧ i ≤ (lev s).length ∧ badL true ((lev s).drop i) = badL true (lev s), fun vs => (lev s).length - (vs.getD 1 (.i 0)).toI.toNat, ⟨_, 0, rfl, by omega, rfl⟩, ?_⟩
  rintro _ - ⟨x, i, rfl, hi, hg⟩
  simp only [Tree.goal, X.P, X.ev, V.toI_i, V.toB_b, V.toS_s, V.toR_r, V.toV_v, V.toN_n, V.toL_l, SV.ev, CV.ev, Sc.ev, List.getD_cons_zero, List.getD_cons_succ, List.getElem?_cons_zero, List.getElem?_cons_succ, List.map_cons, List.map_nil, List.length_cons, List.length_nil, List.cons_append, List.nil_append, Nat.zero_add, Nat.reduceAdd, Int.toNat_natCast, List.length_map, gS_encS]
  refine ⟨fun h3 => ?_, fun h3 w' hr => ⟨?_, hr.mod⟩⟩
  · rw [dropS _ i (by omega)] at hg
    have hsz := lev_size (getD_mem (ps := lev s) (i := i) (by omega))
    have has := lev_ascii h2 (i := i) (by omega)
    have hlast : (lev s).drop (i + 1) = [] ↔ (i : Int) = ((lev s).length : Int) - 1 := by rw [List.drop_eq_nil_iff]; omega
    generalize (lev s).getD i [] = y at hg hsz has ⊢
    (repeat refine ⟨by omega, ?_⟩)
    refine ⟨[.b (wild y)], rfl, fun _ w' _ => c_ContainsAny w' y (by omega) has, ?_⟩
    simp only [Tree.goal, X.P, X.ev, V.toI_i, V.toB_b, V.toS_s, V.toR_r, V.toV_v, V.toN_n, V.toL_l, SV.ev, CV.ev, Sc.ev, List.getD_cons_zero, List.getD_cons_succ, List.getElem?_cons_zero, List.getElem?_cons_succ, List.map_cons, List.map_nil, List.length_cons, List.length_nil, List.cons_append, List.nil_append, Nat.zero_add, Nat.reduceAdd]
    have key : (¬((¬wild y = true ∨ y = [43]) ∨ y = [35] ∧ (i : Int) = ((lev s).length : Int) - 1)) ↔ (wild y && (!true || (!decide (y = [43]) && (!decide (y = [35]) || !decide ((lev s).drop (i + 1) = []))))) = true := by
      rw [← hlast]
      cases wild y <;> by_cases q1 : y = [43] <;> by_cases q2 : y = [35] <;> by_cases q3 : (lev s).drop (i + 1) = [] <;> simp [q1, q2, q3]
    simp only [badL] at hg
    refine ⟨fun h4 w' hr => ⟨by rw [← hg, key.1 h4]; rfl, hr.mod⟩, fun h4 => ⟨by omega, by omega, ⟨x, i + 1, rfl, by omega, ?_⟩, by omega⟩⟩
    have h5 := (Bool.not_eq_true _).mp (fun h => h4 (key.2 h))
    rw [← hg, h5]; simp
  · have : i = (lev s).length := by omega
    subst this
    rw [List.drop_length] at hg; rw [← hg]; rfl
theorem wild_snoc (x : List UInt8) (k : Nat) (h : k < x.length) : wild (x.take (k + 1)) = (wild (x.take k) || (decide ((x.getD k 0).toNat = 43) || decide ((x.getD k 0).toNat = 35))) := by
  rw [List.take_add_one, List.getD_eq_getElem?_getD, List.getElem?_eq_getElem h]
  simp only [wild, List.any_append, Option.toList_some, List.any_cons, List.any_nil, Bool.or_false, Option.getD_some]
  have e1 : (x[k] == 43) = decide (x[k].toNat = 43) := by rw [Bool.eq_iff_iff]; simp only [beq_iff_eq, decide_eq_true_eq]; exact ⟨fun h => by rw [h]; rfl, fun h => UInt8.toNat_inj.1 h⟩
  have e2 : (x[k] == 35) = decide (x[k].toNat = 35) := by rw [Bool.eq_iff_iff]; simp only [beq_iff_eq, decide_eq_true_eq]; exact ⟨fun h => by rw [h]; rfl, fun h => UInt8.toNat_inj.1 h⟩
  rw [e1, e2]
set_option maxHeartbeats 1000000 in
theorem c_CheckTopic (w : World) (s : List UInt8) (f : Bool) (hs : s.length < 4294967281) : Calls Tryz.prog 25 #[.string ⟨s.toArray⟩, .bool f] w fun e w' => e = .returned (.int .i64 (chkT s f)) ∧ Mod [] w w' := by
  refine as_called (run_plain2 (ρ := [.s s, .b f]) sxE_ok Tryz.func25 tree_dragomanref_CheckTopic rfl rfl rfl ?_) rfl
  simp only [Tree.goal, X.P, X.ev, V.toI_i, V.toB_b, V.toS_s, V.toR_r, V.toV_v, V.toN_n, V.toL_l, SV.ev, CV.ev, Sc.ev, List.getD_cons_zero, List.getD_cons_succ, List.getElem?_cons_zero, List.getElem?_cons_succ, List.map_cons, List.map_nil, List.length_cons, List.length_nil, List.cons_append, List.nil_append, Nat.zero_add, Nat.reduceAdd]
  intro w1 hr
  refine (c_LevelsOf w1 s (by omega)).mono ?_
  rintro e w2 ⟨v1, rfl, r1, f1, m1⟩
  refine ⟨[.v v1, .r ((lev s).map encS)], rfl, rfl, m1, List.forall_mem_nil _, List.forall_mem_cons.2 ⟨⟨r1, fun k hk => .inl (f1 k hk)⟩, List.forall_mem_nil _⟩, apart_one, ?_⟩
  simp only [Tree.goal, X.P, X.ev, V.toI_i, V.toB_b, V.toS_s, V.toR_r, V.toV_v, V.toN_n, V.toL_l, SV.ev, CV.ev, Sc.ev, List.getD_cons_zero, List.getD_cons_succ, List.getElem?_cons_zero, List.getElem?_cons_succ, List.map_cons, List.map_nil, List.length_cons, List.length_nil, List.cons_append, List.nil_append, Nat.zero_add, Nat.reduceAdd, List.length_map]
  have hlc := lev_count s
  refine ⟨fun h w' hr => ⟨by rw [h, chkT_nil], hr.mod⟩, fun h => ⟨fun h1 w' hr => ⟨by rw [chkT_many h h1], hr.mod⟩, fun h1 => ?_⟩⟩
  refine ⟨[.b (plainS s)], rfl, fun _ w' _ => c_IsPlain w' s (by omega), ?_⟩
  simp only [Tree.goal, X.P, X.ev, V.toI_i, V.toB_b, V.toS_s, V.toR_r, V.toV_v, V.toN_n, V.toL_l, SV.ev, CV.ev, Sc.ev, List.getD_cons_zero, List.getD_cons_succ, List.getElem?_cons_zero, List.getElem?_cons_succ, List.map_cons, List.map_nil, List.length_cons, List.length_nil, List.cons_append, List.nil_append, Nat.zero_add, Nat.reduceAdd]
  refine ⟨fun h2 w' hr => ⟨by rw [chkT_plain h h1 h2], hr.mod⟩, fun h2 => ?_⟩
  have h2 := Classical.not_not.1 h2
  rw [chkT_lev h h1 h2]
  refine ⟨fun vs => ∃ (x : V) (i : Nat), vs = [x, .i i] ∧ i ≤ (lev s).length ∧ badL f ((lev s).drop i) = badL f (lev s), fun vs => (lev s).length - (vs.getD 1 (.i 0)).toI.toNat, ⟨_, 0, rfl, by omega, rfl⟩, ?_⟩
  rintro _ - ⟨x, i, rfl, hi, hg⟩
  simp only [Tree.goal, X.P, X.ev, V.toI_i, V.toB_b, V.toS_s, V.toR_r, V.toV_v, V.toN_n, V.toL_l, SV.ev, CV.ev, Sc.ev, List.getD_cons_zero, List.getD_cons_succ, List.getElem?_cons_zero, List.getElem?_cons_succ, List.map_cons, List.map_nil, List.length_cons, List.length_nil, List.cons_append, List.nil_append, Nat.zero_add, Nat.reduceAdd, Int.toNat_natCast, List.length_map, gS_encS]
  refine ⟨fun h3 => ?_, fun h3 w' hr => ⟨?_, hr.mod⟩⟩
  · rw [dropS _ i (by omega)] at hg
    have hsz := lev_size (getD_mem (ps := lev s) (i := i) (by omega))
    have hlast : (lev s).drop (i + 1) = [] ↔ ¬ ((i : Int) < ((lev s).length : Int) - 1) := by rw [List.drop_eq_nil_iff]; omega
    generalize (lev s).getD i [] = y at hg hsz ⊢
    refine ⟨fun vs => ∃ (k : Nat), vs = [.b (wild (y.take k)), .i k] ∧ k ≤ y.length, fun vs => y.length - (vs.getD 1 (.i 0)).toI.toNat, ⟨0, rfl, by omega⟩, ?_⟩
    rintro _ - ⟨k, rfl, hk⟩
    simp only [Tree.goal, X.P, X.ev, V.toI_i, V.toB_b, V.toS_s, V.toR_r, V.toV_v, V.toN_n, V.toL_l, SV.ev, CV.ev, Sc.ev, List.getD_cons_zero, List.getD_cons_succ, List.getElem?_cons_zero, List.getElem?_cons_succ, List.map_cons, List.map_nil, List.length_cons, List.length_nil, List.cons_append, List.nil_append, Nat.zero_add, Nat.reduceAdd, Int.toNat_natCast, List.length_map, gS_encS]
    refine ⟨by omega, fun h4 => ?_, fun h4 => ?_⟩
    · refine ⟨.inr (by omega), .inr (by omega), by omega, by omega, ⟨k + 1, ?_, by omega⟩, by omega⟩
      rw [wild_snoc y k (by omega)]
      simp only [List.cons.injEq, V.b.injEq, and_true]
      refine ⟨?_, by simp⟩
      rw [Bool.or_assoc]
      congr 2
      · exact decide_eq_decide.2 (by omega)
      · exact decide_eq_decide.2 (by omega)
    · have : k = y.length := by omega
      subst this
      rw [List.take_length]
      have key : (wild y = true ∧ (¬ f = true ∨ ¬ y = [43] ∧ (¬ y = [35] ∨ (i : Int) < ((lev s).length : Int) - 1))) ↔ (wild y && (!f || (!decide (y = [43]) && (!decide (y = [35]) || !decide ((lev s).drop (i + 1) = []))))) = true := by
        by_cases q3 : (i : Int) < ((lev s).length : Int) - 1
        · have q4 : ¬ (lev s).drop (i + 1) = [] := fun h => hlast.1 h q3
          cases wild y <;> cases f <;> by_cases q1 : y = [43] <;> by_cases q2 : y = [35] <;> simp [q1, q2, q3, q4]
        · have q4 : (lev s).drop (i + 1) = [] := hlast.2 q3
          cases wild y <;> cases f <;> by_cases q1 : y = [43] <;> by_cases q2 : y = [35] <;> simp [q1, q2, q3, q4]
      simp only [badL] at hg
      refine ⟨.inr (by omega), .inr (by omega), fun h5 w' hr => ⟨by rw [← hg, key.1 h5]; rfl, hr.mod⟩, fun h5 => ⟨by omega, by omega, ⟨x, i + 1, rfl, by omega, ?_⟩, by omega⟩⟩
      have h6 := (Bool.not_eq_true _).mp (fun h => h5 (key.2 h))
      rw [← hg, h6]; simp
  · have : i = (lev s).length := by omega
    subst this
    rw [List.drop_length] at hg; rw [← hg]; rfl
end Go.Proofs.YtliedecinehijaaGreatDoor

/-
  Wants: their form and their order. By an AI agent.
-/
set_option linter.unusedSimpArgs false
set_option linter.unusedVariables false
namespace Go.Proofs.YtliedecinehijaaGreatDoor
open Go.Sx

/-- Wants: client, filter, Qos. -/
abbrev Wt := List UInt8 × List UInt8 × Int
def encW (k : Wt) : List Value := [.string ⟨k.1.toArray⟩, .string ⟨k.2.1.toArray⟩, .int .i64 k.2.2]
abbrev wD : Wt := ([], [], 0)
abbrev kW : List Kd := [.str, .str, .int .i64]
theorem gW0 (l : List Wt) (i : Nat) : Value.gS (((l.map encW).getD i []).getD 0 undef) = (l.getD i wD).1 := by
  simp only [List.getD_eq_getElem?_getD, List.getElem?_map]
  cases l[i]? <;> simp [encW, Value.gS, undef]
theorem gW1 (l : List Wt) (i : Nat) : Value.gS (((l.map encW).getD i []).getD 1 undef) = (l.getD i wD).2.1 := by
  simp only [List.getD_eq_getElem?_getD, List.getElem?_map]
  cases l[i]? <;> simp [encW, Value.gS, undef]
theorem gW2 (l : List Wt) (i : Nat) : Value.gI (((l.map encW).getD i []).getD 2 undef) = (l.getD i wD).2.2 := by
  simp only [List.getD_eq_getElem?_getD, List.getElem?_map]
  cases l[i]? <;> rfl
abbrev readsW (w : World) (v : Value) (l : List Wt) : Prop := reads w v kW (l.map encW)
abbrev ownsW (w : World) (v : Value) (l : List Wt) : Prop := owns w v 57 kW (l.map encW)
theorem dropW (l : List Wt) (i : Nat) (h : i < l.length) : l.drop i = l.getD i wD :: l.drop (i + 1) := by
  rw [List.drop_eq_getElem_cons h, List.getD_eq_getElem?_getD, List.getElem?_eq_getElem h]; rfl
theorem takeW (l : List Wt) (i : Nat) (h : i < l.length) : l.take (i + 1) = l.take i ++ [l.getD i wD] := by
  rw [List.take_add_one, List.getD_eq_getElem?_getD, List.getElem?_eq_getElem h]; rfl
theorem memW (l : List Wt) (i : Nat) (h : i < l.length) : l.getD i wD ∈ l := by
  rw [List.getD_eq_getElem?_getD, List.getElem?_eq_getElem h]; exact List.getElem_mem h
def smW (x : Wt) : Prop := x.1.length < 1000000000 ∧ x.2.1.length < 1000000000
def smallW (l : List Wt) : Prop := ∀ x ∈ l, smW x
theorem smallW_at {l : List Wt} (h : smallW l) (i : Nat) : smW (l.getD i wD) := by
  by_cases hi : i < l.length
  · exact h _ (memW l i hi)
  · rw [List.getD_eq_getElem?_getD, List.getElem?_eq_none (by omega)]; exact ⟨by decide, by decide⟩

/-- Whose want, and of what. -/
abbrev Ky := List UInt8 × List UInt8
def ky (x : Wt) : Ky := (x.1, x.2.1)
def ltP (a b : Ky) : Bool := ltB a.1 b.1 || (decide (a.1 = b.1) && ltB a.2 b.2)
theorem ltP_iff {a b : Ky} : ltP a b = true ↔ ltB a.1 b.1 = true ∨ a.1 = b.1 ∧ ltB a.2 b.2 = true := by simp [ltP]
theorem ltP_irr (a : Ky) : ltP a a = false := by simp [ltP, ltB_irr]
theorem ltP_trans {a b c : Ky} (h1 : ltP a b = true) (h2 : ltP b c = true) : ltP a c = true := by
  rw [ltP_iff] at *
  rcases h1 with h1 | ⟨e1, h1⟩ <;> rcases h2 with h2 | ⟨e2, h2⟩
  · exact .inl (ltB_trans h1 h2)
  · exact .inl (by rw [← e2]; exact h1)
  · exact .inl (by rw [e1]; exact h2)
  · exact .inr ⟨e1.trans e2, ltB_trans h1 h2⟩
theorem ltP_asym {a b : Ky} (h : ltP a b = true) : ltP b a = false := by
  cases h2 : ltP b a with
  | false => rfl
  | true => have := ltP_trans h h2; rw [ltP_irr] at this; cases this
theorem ltP_ne {a b : Ky} (h : ltP a b = true) : a ≠ b := by rintro rfl; rw [ltP_irr] at h; cases h
theorem ltP_tri {a b : Ky} (h1 : ltP a b = false) (h2 : ltP b a = false) : a = b := by
  have e : a.1 = b.1 := ltB_tri (by cases h : ltB a.1 b.1 with | false => rfl | true => rw [ltP_iff.2 (.inl h)] at h1; cases h1) (by cases h : ltB b.1 a.1 with | false => rfl | true => rw [ltP_iff.2 (.inl h)] at h2; cases h2)
  have f : a.2 = b.2 := ltB_tri (by cases h : ltB a.2 b.2 with | false => rfl | true => rw [ltP_iff.2 (.inr ⟨e, h⟩)] at h1; cases h1) (by cases h : ltB b.2 a.2 with | false => rfl | true => rw [ltP_iff.2 (.inr ⟨e.symm, h⟩)] at h2; cases h2)
  exact Prod.ext e f
theorem ltP_not {a b : Ky} : ltP a b = false ↔ (ltP b a = true ∨ b = a) := by
  constructor
  · intro h
    cases h2 : ltP b a with
    | true => exact .inl rfl
    | false => exact .inr (ltP_tri h2 h)
  · rintro (h | rfl)
    · exact ltP_asym h
    · exact ltP_irr _
/-- The order of wants as a number. -/
def cmpP (a b : Ky) : Int := if cmpB a.1 b.1 = 0 then cmpB a.2 b.2 else cmpB a.1 b.1
theorem cmpP_lt {a b : Ky} : cmpP a b < 0 ↔ ltP a b = true := by
  unfold cmpP
  rw [ltP_iff]
  by_cases h : cmpB a.1 b.1 = 0
  · rw [if_pos h, cmpB_lt]
    have e := cmpB_zero.1 h
    constructor
    · exact fun h2 => .inr ⟨e, h2⟩
    · rintro (h2 | h2)
      · exact absurd e (ltB_ne h2)
      · exact h2.2
  · rw [if_neg h, cmpB_lt]
    constructor
    · exact .inl
    · rintro (h2 | h2)
      · exact h2
      · exact absurd (cmpB_zero.2 h2.1) h
theorem cmpP_zero {a b : Ky} : cmpP a b = 0 ↔ a = b := by
  unfold cmpP
  by_cases h : cmpB a.1 b.1 = 0
  · rw [if_pos h, cmpB_zero]
    exact ⟨fun h2 => Prod.ext (cmpB_zero.1 h) h2, fun h2 => by rw [h2]⟩
  · rw [if_neg h]
    exact ⟨fun h2 => absurd h2 h, fun h2 => absurd (cmpB_zero.2 (by rw [h2])) h⟩
theorem cmpP_ge {a b : Ky} : 0 ≤ cmpP a b ↔ ltP a b = false := by
  have := @cmpP_lt a b
  cases h : ltP a b with
  | true => rw [h] at this; simp at this ⊢; exact this
  | false => rw [h] at this; simp at this ⊢; exact this

def sortW (l : List Wt) : Prop := l.Pairwise fun a b => ltP (ky a) (ky b) = true
theorem sortW_at {l : List Wt} (h : sortW l) {i j : Nat} (hij : i < j) (hj : j < l.length) : ltP (ky (l.getD i wD)) (ky (l.getD j wD)) = true := by
  rw [sortW, List.pairwise_iff_getElem] at h
  have := h i j (by omega) hj hij
  simpa [List.getD_eq_getElem?_getD, List.getElem?_eq_getElem hj, List.getElem?_eq_getElem (Nat.lt_trans hij hj)] using this
/-- A want's place. -/
def idxW (l : List Wt) (n : Ky) : Nat := (l.filter fun k => ltP (ky k) n).length
theorem idxW_uniq {l : List Wt} {n : Ky} {i : Nat} (hi : i ≤ l.length) (h1 : ∀ j, j < i → ltP (ky (l.getD j wD)) n = true) (h2 : ∀ j, i ≤ j → j < l.length → ltP (ky (l.getD j wD)) n = false) : i = idxW l n := by
  have e : l = l.take i ++ l.drop i := (List.take_append_drop i l).symm
  have f1 : (l.take i).filter (fun k => ltP (ky k) n) = l.take i := by
    rw [List.filter_eq_self]
    intro x hx
    obtain ⟨j, hj, rfl⟩ := List.mem_iff_getElem.1 hx
    have hj' : j < i := by simp at hj; omega
    have := h1 j hj'
    rw [List.getElem_take]
    simpa [List.getD_eq_getElem?_getD, List.getElem?_eq_getElem (show j < l.length by omega)] using this
  have f2 : (l.drop i).filter (fun k => ltP (ky k) n) = [] := by
    rw [List.filter_eq_nil_iff]
    intro x hx
    obtain ⟨j, hj, rfl⟩ := List.mem_iff_getElem.1 hx
    have hj' : i + j < l.length := by simp at hj; omega
    have := h2 (i + j) (by omega) hj'
    rw [List.getElem_drop]
    simpa [List.getD_eq_getElem?_getD, List.getElem?_eq_getElem hj'] using this
  rw [idxW, e, List.filter_append, f1, f2]
  simp; omega
theorem idxW_le (l : List Wt) (n : Ky) : idxW l n ≤ l.length := List.length_filter_le _ _
def hasW (l : List Wt) (n : Ky) : Bool := decide (idxW l n < l.length ∧ ky (l.getD (idxW l n) wD) = n)
theorem halfW (i j : Nat) (h : i + j < 4000000000) : Int.fdiv (IntKind.u64.wrap ((i : Int) + j)) (2 ^ (Nat.min (Int.toNat 1) IntKind.u64.bits)) = (((i + j) / 2 : Nat) : Int) := by
  have e : (2 : Int) ^ (Nat.min (Int.toNat 1) IntKind.u64.bits) = 2 := by decide
  rw [e, IntKind.wrap_u64, Int.emod_eq_of_lt (by omega) (by omega), Int.fdiv_eq_ediv_of_nonneg _ (by decide)]
  omega

/-- Sorted: what is ahead of a place, what is there, what is behind it. -/
def loW (l : List Wt) (n : Ky) : List Wt := l.filter fun k => ltP (ky k) n
def miW (l : List Wt) (n : Ky) : List Wt := l.filter fun k => decide (ky k = n)
def hiW (l : List Wt) (n : Ky) : List Wt := l.filter fun k => ltP n (ky k)
theorem filt_noneW {p : Wt → Bool} {l : List Wt} (h : ∀ x ∈ l, p x = false) : l.filter p = [] := by
  rw [List.filter_eq_nil_iff]
  intro x hx; rw [h x hx]; decide
theorem filt_allW {p : Wt → Bool} {l : List Wt} (h : ∀ x ∈ l, p x = true) : l.filter p = l := List.filter_eq_self.2 h
theorem threeW : ∀ (l : List Wt) (n : Ky), sortW l → l = loW l n ++ miW l n ++ hiW l n ∧ (miW l n).length ≤ 1
  | [], _, _ => by simp [loW, miW, hiW]
  | k :: r, n, h => by
    obtain ⟨h1, h2⟩ := List.pairwise_cons.1 h
    obtain ⟨e, hm⟩ := threeW r n h2
    cases hk : ltP (ky k) n with
    | true =>
      have a1 : loW (k :: r) n = k :: loW r n := by simp [loW, hk]
      have a2 : miW (k :: r) n = miW r n := by simp [miW, ltP_ne hk]
      have a3 : hiW (k :: r) n = hiW r n := by simp [hiW, ltP_asym hk]
      rw [a1, a2, a3]
      exact ⟨by rw [List.cons_append, List.cons_append, ← e], hm⟩
    | false =>
      have hgt : ∀ x ∈ r, ltP n (ky x) = true := fun x hx => by
        rcases ltP_not.1 hk with h3 | h3
        · exact ltP_trans h3 (h1 x hx)
        · rw [h3]; exact h1 x hx
      have b1 : loW r n = [] := filt_noneW fun x hx => ltP_asym (hgt x hx)
      have b2 : miW r n = [] := filt_noneW fun x hx => decide_eq_false (fun e => by have := hgt x hx; rw [e, ltP_irr] at this; cases this)
      have b3 : hiW r n = r := filt_allW hgt
      have a1 : loW (k :: r) n = [] := by rw [loW, List.filter_cons, hk]; exact b1
      rcases ltP_not.1 hk with h3 | h3
      · have a2 : miW (k :: r) n = [] := by rw [miW, List.filter_cons, decide_eq_false (ltP_ne h3).symm]; exact b2
        have a3 : hiW (k :: r) n = k :: r := by rw [hiW, List.filter_cons, h3, if_pos rfl]; exact congrArg (List.cons k) b3
        rw [a1, a2, a3]; simp
      · have a2 : miW (k :: r) n = [k] := by rw [miW, List.filter_cons, decide_eq_true h3.symm, if_pos rfl]; exact congrArg (List.cons k) b2
        have a3 : hiW (k :: r) n = r := by
          have : ltP n (ky k) = false := by rw [← h3]; exact ltP_irr _
          rw [hiW, List.filter_cons, this]; exact b3
        rw [a1, a2, a3]; simp
theorem take_loW {l : List Wt} {n : Ky} (h : sortW l) : l.take (idxW l n) = loW l n := by
  have e := (threeW l n h).1
  calc l.take (loW l n).length = (loW l n ++ miW l n ++ hiW l n).take (loW l n).length := by rw [← e]
    _ = loW l n := by rw [List.append_assoc, List.take_left]
theorem drop_loW {l : List Wt} {n : Ky} (h : sortW l) : l.drop (idxW l n) = miW l n ++ hiW l n := by
  have e := (threeW l n h).1
  calc l.drop (loW l n).length = (loW l n ++ miW l n ++ hiW l n).drop (loW l n).length := by rw [← e]
    _ = miW l n ++ hiW l n := by rw [List.append_assoc, List.drop_left]
theorem at_loW {l : List Wt} {n : Ky} (h : sortW l) : l.getD (idxW l n) wD = (miW l n ++ hiW l n).getD 0 wD := by
  rw [← drop_loW h]; simp [List.getD_eq_getElem?_getD]
theorem len_loW {l : List Wt} {n : Ky} (h : sortW l) : l.length = idxW l n + (miW l n).length + (hiW l n).length := by
  have e := congrArg List.length (threeW l n h).1
  rw [List.length_append, List.length_append] at e
  exact e
theorem hasW_iff {l : List Wt} {n : Ky} (h : sortW l) : (hasW l n = true ∧ ∃ k, miW l n = [k] ∧ ky k = n) ∨ (hasW l n = false ∧ miW l n = []) := by
  have hl := len_loW (n := n) h
  have ha := at_loW (n := n) h
  have hm := (threeW l n h).2
  match he : miW l n, hm with
  | [], _ =>
    rw [he] at hl ha
    refine .inr ⟨?_, rfl⟩
    rw [hasW, decide_eq_false]
    rintro ⟨h1, h2⟩
    rw [ha] at h2
    match hb : hiW l n with
    | [] => rw [hb] at hl; simp at hl; omega
    | x :: r =>
      rw [hb] at h2
      have : x ∈ hiW l n := by rw [hb]; exact List.mem_cons_self ..
      have h3 := (List.mem_filter.1 this).2
      have h2 : ky x = n := h2
      rw [h2, ltP_irr] at h3; cases h3
  | [k], _ =>
    have : k ∈ miW l n := by rw [he]; exact List.mem_cons_self ..
    have hk : ky k = n := by simpa using (List.mem_filter.1 this).2
    rw [he] at hl ha
    refine .inl ⟨?_, k, rfl, hk⟩
    rw [hasW, decide_eq_true]
    refine ⟨by rw [hl]; simp; omega, ?_⟩
    rw [ha]; exact hk
end Go.Proofs.YtliedecinehijaaGreatDoor

/-
  Topics: which filter is for which topic. By an AI agent.
-/
set_option linter.unusedSimpArgs false
set_option linter.unusedVariables false
namespace Go.Proofs.YtliedecinehijaaGreatDoor
open Go.Sx

/-- Are levels of a filter for levels of a topic? -/
def mt : List (List UInt8) → List (List UInt8) → Bool
  | [], n => decide (n = [])
  | f :: fs, n => if f = [35] then true else match n with
    | [] => false
    | x :: xs => if f = [43] ∨ f = x then mt fs xs else false
/-- Are levels of a filter for all that another filter's levels are for? -/
def cv : List (List UInt8) → List (List UInt8) → Bool
  | [], n => decide (n = [])
  | f :: fs, n => if f = [35] then true else match n with
    | [] => false
    | x :: xs => if x = [35] then false else if f = [43] ∨ f = x then cv fs xs else false
theorem mt_all {f : List UInt8} (fs n : List (List UInt8)) (h : f = [35]) : mt (f :: fs) n = true := by cases n <;> simp [mt, h]
theorem mt_none {f : List UInt8} (fs : List (List UInt8)) (h : ¬ f = [35]) : mt (f :: fs) [] = false := by simp [mt, h]
theorem mt_cons {f : List UInt8} (fs : List (List UInt8)) (x : List UInt8) (xs : List (List UInt8)) (h : ¬ f = [35]) : mt (f :: fs) (x :: xs) = if f = [43] ∨ f = x then mt fs xs else false := by simp [mt, h]
theorem cv_all {f : List UInt8} (fs n : List (List UInt8)) (h : f = [35]) : cv (f :: fs) n = true := by cases n <;> simp [cv, h]
theorem cv_none {f : List UInt8} (fs : List (List UInt8)) (h : ¬ f = [35]) : cv (f :: fs) [] = false := by simp [cv, h]
theorem cv_cons {f : List UInt8} (fs : List (List UInt8)) (x : List UInt8) (xs : List (List UInt8)) (h : ¬ f = [35]) : cv (f :: fs) (x :: xs) = if x = [35] then false else if f = [43] ∨ f = x then cv fs xs else false := by simp [cv, h]
theorem tk1 (f : List UInt8) (fs : List (List UInt8)) : List.drop (Int.toNat 1) (List.take (((fs.length + 1 : Nat) : Int)).toNat (encS f :: fs.map encS)) = fs.map encS := by
  rw [Int.toNat_natCast, List.take_of_length_le (by simp)]; rfl
theorem readsS_le {w : World} {u : Value} {a b : List (List Value)} (h : reads w u [.str] a) (e : a = b) : reads w u [.str] b := e ▸ h
theorem c_match : ∀ (fs ns : List (List UInt8)) (u v : Value) (w : World), readsS w u fs → readsS w v ns → fs.length < 1099511627776 → ns.length < 1099511627776 →
    Calls Tryz.prog 164 #[sc1 u, sc1 v] w fun e w' => e = .returned (.bool (mt fs ns)) ∧ Mod [] w w' := by
  intro fs
  induction fs with
  | nil =>
    intro ns u v w hu hv hl hn
    refine as_called (run_tree2 (ρ := [.v u, .r (([] : List (List UInt8)).map encS), .v v, .r (ns.map encS)]) sxE_ok Tryz.func164 tree_topic_match rfl rfl (Rel.start2 (by simp only [List.forall_mem_cons]; exact ⟨⟨hu, rfl⟩, ⟨hv, rfl⟩, by simp⟩)) rfl rfl ?_) rfl
    simp only [Tree.goal, X.P, X.ev, V.toI_i, V.toB_b, V.toS_s, V.toR_r, V.toV_v, V.toN_n, V.toL_l, SV.ev, CV.ev, Sc.ev, List.getD_cons_zero, List.getD_cons_succ, List.getElem?_cons_zero, List.getElem?_cons_succ, List.map_cons, List.map_nil, List.length_cons, List.length_nil, List.cons_append, List.nil_append, Nat.zero_add, Nat.reduceAdd, List.length_map]
    refine ⟨fun _ w' hr => ⟨?_, hr.mod⟩, fun h => absurd rfl h⟩
    simp only [mt, Ending.returned.injEq, Value.bool.injEq]
    exact decide_eq_decide.2 (by rw [← List.length_eq_zero_iff]; omega)
  | cons f fs ih =>
    intro ns u v w hu hv hl hn
    refine as_called (run_tree2 (ρ := [.v u, .r ((f :: fs).map encS), .v v, .r (ns.map encS)]) sxE_ok Tryz.func164 tree_topic_match rfl rfl (Rel.start2 (by simp only [List.forall_mem_cons]; exact ⟨⟨hu, rfl⟩, ⟨hv, rfl⟩, by simp⟩)) rfl rfl ?_) rfl
    simp only [Tree.goal, X.P, X.ev, V.toI_i, V.toB_b, V.toS_s, V.toR_r, V.toV_v, V.toN_n, V.toL_l, SV.ev, CV.ev, Sc.ev, List.getD_cons_zero, List.getD_cons_succ, List.getElem?_cons_zero, List.getElem?_cons_succ, List.map_cons, List.map_nil, List.length_cons, List.length_nil, List.cons_append, List.nil_append, Nat.zero_add, Nat.reduceAdd, List.length_map, Int.toNat_zero]
    have g0 : Value.gS (((encS f :: fs.map encS).getD 0 []).getD 0 undef) = f := gS_encS (f :: fs) 0
    simp only [List.getD_cons_zero] at g0
    have g1 := gS_encS ns 0
    rw [g0, g1]
    refine ⟨fun h => absurd h (by omega), fun _ => ⟨by omega, fun h1 w' hr => ⟨by rw [mt_all _ _ h1], hr.mod⟩, fun h1 => ?_⟩⟩
    rcases ns with _ | ⟨x, xs⟩
    · refine ⟨.inl fun h => absurd rfl h.1, fun _ w' hr => ⟨by rw [mt_none _ h1], hr.mod⟩, fun h => absurd (.inl rfl) h⟩
    · have hl' : fs.length < 1099511627776 := by rw [List.length_cons] at hl; omega
      have hn' : xs.length < 1099511627776 := by rw [List.length_cons] at hn; omega
      simp only [List.getD_cons_zero, List.length_cons]
      rw [mt_cons _ _ _ h1]
      refine ⟨.inr (by omega), fun h2 w' hr => ⟨?_, hr.mod⟩, fun h2 => ?_⟩
      · rw [if_neg]
        intro h3
        rcases h2 with h2 | h2
        · omega
        · rcases h3 with h3 | h3
          · exact h2.1 h3
          · exact h2.2 h3
      · have h3 : f = [43] ∨ f = x := by
          by_cases h4 : f = [43]
          · exact .inl h4
          · by_cases h5 : f = x
            · exact .inr h5
            · exact absurd (.inr ⟨h4, h5⟩) h2
        rw [if_pos h3]
        refine ⟨⟨by omega, fun v1 => ⟨by omega, fun v2 => ?_⟩⟩, ⟨by omega, fun v1 => ⟨by omega, fun v2 => ?_⟩⟩⟩
        · refine ⟨[.b (mt fs xs)], rfl, fun _ w' hr => ?_, ?_⟩; (· have q0 := hr.at_ 0 rfl; have q1 := hr.at_ 1 rfl; simp only [Ent.holds, Tree.goal, X.P, X.ev, V.toI_i, V.toB_b, V.toS_s, V.toR_r, V.toV_v, V.toN_n, V.toL_l, SV.ev, CV.ev, Sc.ev, List.getD_cons_zero, List.getD_cons_succ, List.getElem?_cons_zero, List.getElem?_cons_succ, List.map_cons, List.map_nil, List.length_cons, List.length_nil, List.cons_append, List.nil_append, Nat.zero_add, Nat.reduceAdd, List.length_map, List.length_cons] at q0 q1; clear hl hn; exact ih xs v1 v2 w' (readsS_le q1 (tk1 _ _)) (readsS_le q0 (tk1 _ _)) hl' hn'); simp only [Tree.goal, X.P, X.ev, V.toI_i, V.toB_b, V.toS_s, V.toR_r, V.toV_v, V.toN_n, V.toL_l, SV.ev, CV.ev, Sc.ev, List.getD_cons_zero, List.getD_cons_succ, List.getElem?_cons_zero, List.getElem?_cons_succ, List.map_cons, List.map_nil, List.length_cons, List.length_nil, List.cons_append, List.nil_append, Nat.zero_add, Nat.reduceAdd]; exact fun w' hr => ⟨by trivial, hr.mod⟩
        · refine ⟨[.b (mt fs xs)], rfl, fun _ w' hr => ?_, ?_⟩; (· have q0 := hr.at_ 0 rfl; have q1 := hr.at_ 1 rfl; simp only [Ent.holds, Tree.goal, X.P, X.ev, V.toI_i, V.toB_b, V.toS_s, V.toR_r, V.toV_v, V.toN_n, V.toL_l, SV.ev, CV.ev, Sc.ev, List.getD_cons_zero, List.getD_cons_succ, List.getElem?_cons_zero, List.getElem?_cons_succ, List.map_cons, List.map_nil, List.length_cons, List.length_nil, List.cons_append, List.nil_append, Nat.zero_add, Nat.reduceAdd, List.length_map, List.length_cons] at q0 q1; clear hl hn; exact ih xs v2 v1 w' (readsS_le q0 (tk1 _ _)) (readsS_le q1 (tk1 _ _)) hl' hn'); simp only [Tree.goal, X.P, X.ev, V.toI_i, V.toB_b, V.toS_s, V.toR_r, V.toV_v, V.toN_n, V.toL_l, SV.ev, CV.ev, Sc.ev, List.getD_cons_zero, List.getD_cons_succ, List.getElem?_cons_zero, List.getElem?_cons_succ, List.map_cons, List.map_nil, List.length_cons, List.length_nil, List.cons_append, List.nil_append, Nat.zero_add, Nat.reduceAdd]; exact fun w' hr => ⟨by trivial, hr.mod⟩
theorem c_For (w : World) (f n : List UInt8) (hf : f.length < 4294967281) (hn : n.length < 4294967281) : Calls Tryz.prog 128 #[.string ⟨f.toArray⟩, .string ⟨n.toArray⟩] w
    fun e w' => e = .returned (.bool (mt (lev f) (lev n))) ∧ Mod [] w w' := by
  refine as_called (run_plain2 (ρ := [.s f, .s n]) sxE_ok Tryz.func128 tree_topic_For rfl rfl rfl ?_) rfl
  simp only [Tree.goal, X.P, X.ev, V.toI_i, V.toB_b, V.toS_s, V.toR_r, V.toV_v, V.toN_n, V.toL_l, SV.ev, CV.ev, Sc.ev, List.getD_cons_zero, List.getD_cons_succ, List.getElem?_cons_zero, List.getElem?_cons_succ, List.map_cons, List.map_nil, List.length_cons, List.length_nil, List.cons_append, List.nil_append, Nat.zero_add, Nat.reduceAdd]
  intro w1 hr
  refine (c_Levels w1 f hf).mono ?_
  rintro e w2 ⟨v1, rfl, r1, f1, m1⟩
  refine ⟨[.v v1, .r ((lev f).map encS)], rfl, rfl, m1, List.forall_mem_nil _, List.forall_mem_cons.2 ⟨⟨r1, fun k hk => .inl (f1 k hk)⟩, List.forall_mem_nil _⟩, apart_one, ?_⟩
  simp only [Tree.goal, X.P, X.ev, V.toI_i, V.toB_b, V.toS_s, V.toR_r, V.toV_v, V.toN_n, V.toL_l, SV.ev, CV.ev, Sc.ev, List.getD_cons_zero, List.getD_cons_succ, List.getElem?_cons_zero, List.getElem?_cons_succ, List.map_cons, List.map_nil, List.length_cons, List.length_nil, List.cons_append, List.nil_append, Nat.zero_add, Nat.reduceAdd]
  intro w3 hr
  refine (c_Levels w3 n hn).mono ?_
  rintro e w4 ⟨v2, rfl, r1, f1, m1⟩
  refine ⟨[.v v2, .r ((lev n).map encS)], rfl, rfl, m1, List.forall_mem_nil _, List.forall_mem_cons.2 ⟨⟨r1, fun k hk => .inl (f1 k hk)⟩, List.forall_mem_nil _⟩, apart_one, ?_⟩
  simp only [Tree.goal, X.P, X.ev, V.toI_i, V.toB_b, V.toS_s, V.toR_r, V.toV_v, V.toN_n, V.toL_l, SV.ev, CV.ev, Sc.ev, List.getD_cons_zero, List.getD_cons_succ, List.getElem?_cons_zero, List.getElem?_cons_succ, List.map_cons, List.map_nil, List.length_cons, List.length_nil, List.cons_append, List.nil_append, Nat.zero_add, Nat.reduceAdd]
  have l1 := lev_count f
  have l2 := lev_count n
  refine ⟨[.b (mt (lev f) (lev n))], rfl, fun _ w' hr => c_match (lev f) (lev n) v1 v2 w' (hr.at_ 1 rfl) (hr.at_ 0 rfl) (by omega) (by omega), ?_⟩
  simp only [Tree.goal, X.P, X.ev, V.toI_i, V.toB_b, V.toS_s, V.toR_r, V.toV_v, V.toN_n, V.toL_l, SV.ev, CV.ev, Sc.ev, List.getD_cons_zero, List.getD_cons_succ, List.getElem?_cons_zero, List.getElem?_cons_succ, List.map_cons, List.map_nil, List.length_cons, List.length_nil, List.cons_append, List.nil_append, Nat.zero_add, Nat.reduceAdd]
  exact fun w' hr => ⟨by trivial, hr.mod⟩
def matR (f n : List UInt8) : Bool × Int := if chkT f true = 0 then (if chkT n false = 0 then (mt (lev f) (lev n), 0) else (false, chkT n false)) else (false, chkT f true)
/-- The levels that are covered: the empty text is no topic. -/
def levC (b : List UInt8) : List (List UInt8) := if b = [35] ∨ b = [47, 35] then (lev b).take ((lev b).length - 1) ++ [[43], [35]] else lev b
theorem levC_1 : levC [35] = lev [43, 47, 35] := by decide
theorem levC_2 : levC [47, 35] = lev [47, 43, 47, 35] := by decide
theorem levC_no {b : List UInt8} (h : ¬ (b = [35] ∨ b = [47, 35])) : levC b = lev b := if_neg h
def covR (a b : List UInt8) : Bool × Int := if chkT a true = 0 then (if chkT b true = 0 then (cv (lev a) (levC b), 0) else (false, chkT b true)) else (false, chkT a true)
theorem c_IsFor (w : World) (f n : List UInt8) (hf : f.length < 4294967281) (hn : n.length < 4294967281) : Calls Tryz.prog 77 #[.string ⟨f.toArray⟩, .string ⟨n.toArray⟩] w
    fun e w' => e = .returned (.bool (mt (lev f) (lev n))) ∧ Mod [] w w' := by
  refine as_called (run_plain2 (ρ := [.s f, .s n]) sxE_ok Tryz.func77 tree_dragomanref_IsFor rfl rfl rfl ?_) rfl
  simp only [Tree.goal, X.P, X.ev, V.toI_i, V.toB_b, V.toS_s, V.toR_r, V.toV_v, V.toN_n, V.toL_l, SV.ev, CV.ev, Sc.ev, List.getD_cons_zero, List.getD_cons_succ, List.getElem?_cons_zero, List.getElem?_cons_succ, List.map_cons, List.map_nil, List.length_cons, List.length_nil, List.cons_append, List.nil_append, Nat.zero_add, Nat.reduceAdd]
  intro w1 hr
  refine (c_LevelsOf w1 f (by omega)).mono ?_
  rintro e w2 ⟨v1, rfl, r1, f1, m1⟩
  refine ⟨[.v v1, .r ((lev f).map encS)], rfl, rfl, m1, List.forall_mem_nil _, List.forall_mem_cons.2 ⟨⟨r1, fun k hk => .inl (f1 k hk)⟩, List.forall_mem_nil _⟩, apart_one, ?_⟩
  simp only [Tree.goal, X.P, X.ev, V.toI_i, V.toB_b, V.toS_s, V.toR_r, V.toV_v, V.toN_n, V.toL_l, SV.ev, CV.ev, Sc.ev, List.getD_cons_zero, List.getD_cons_succ, List.getElem?_cons_zero, List.getElem?_cons_succ, List.map_cons, List.map_nil, List.length_cons, List.length_nil, List.cons_append, List.nil_append, Nat.zero_add, Nat.reduceAdd]
  intro w3 hr
  refine (c_LevelsOf w3 n (by omega)).mono ?_
  rintro e w4 ⟨v2, rfl, r1, f1, m1⟩
  refine ⟨[.v v2, .r ((lev n).map encS)], rfl, rfl, m1, List.forall_mem_nil _, List.forall_mem_cons.2 ⟨⟨r1, fun k hk => .inl (f1 k hk)⟩, List.forall_mem_nil _⟩, apart_one, ?_⟩
  simp only [Tree.goal, X.P, X.ev, V.toI_i, V.toB_b, V.toS_s, V.toR_r, V.toV_v, V.toN_n, V.toL_l, SV.ev, CV.ev, Sc.ev, List.getD_cons_zero, List.getD_cons_succ, List.getElem?_cons_zero, List.getElem?_cons_succ, List.map_cons, List.map_nil, List.length_cons, List.length_nil, List.cons_append, List.nil_append, Nat.zero_add, Nat.reduceAdd, List.length_map]
  have l1 := lev_count f
  have l2 := lev_count n
  generalize lev f = fs at *
  generalize lev n = ns at *
  refine ⟨fun vs => ∃ (x : V) (i : Nat), vs = [x, .i i] ∧ i ≤ fs.length ∧ i ≤ ns.length ∧ mt (fs.drop i) (ns.drop i) = mt fs ns, fun vs => fs.length - (vs.getD 1 (.i 0)).toI.toNat, ⟨_, 0, rfl, by omega, by omega, rfl⟩, ?_⟩
  rintro _ - ⟨x, i, rfl, hi, hj, hg⟩
  simp only [Tree.goal, X.P, X.ev, V.toI_i, V.toB_b, V.toS_s, V.toR_r, V.toV_v, V.toN_n, V.toL_l, SV.ev, CV.ev, Sc.ev, List.getD_cons_zero, List.getD_cons_succ, List.getElem?_cons_zero, List.getElem?_cons_succ, List.map_cons, List.map_nil, List.length_cons, List.length_nil, List.cons_append, List.nil_append, Nat.zero_add, Nat.reduceAdd, Int.toNat_natCast, List.length_map, gS_encS]
  refine ⟨fun h1 => ⟨by omega, fun h2 w' hr => ⟨?_, hr.mod⟩, fun h2 => ?_⟩, fun h1 w' hr => ⟨?_, hr.mod⟩⟩
  · rw [dropS fs i (by omega), mt_all _ _ h2] at hg; rw [← hg]
  · rw [dropS fs i (by omega)] at hg
    refine ⟨by omega, fun h3 w' hr => ⟨?_, hr.mod⟩, fun h3 => ?_⟩
    · by_cases h4 : ns.length ≤ i
      · rw [List.drop_of_length_le h4, mt_none _ h2] at hg; rw [← hg]
      · rw [dropS ns i (by omega), mt_cons _ _ _ h2, if_neg] at hg
        · rw [← hg]
        · intro h5
          rcases h3 with h3 | h3
          · omega
          · rcases h5 with h5 | h5
            · exact h3.1 h5
            · exact h3.2 h5
    · have h4 : ¬ ns.length ≤ i := fun h => h3 (.inl (by omega))
      rw [dropS ns i (by omega), mt_cons _ _ _ h2, if_pos] at hg
      · exact ⟨by omega, by omega, ⟨x, i + 1, rfl, by omega, by omega, hg⟩, by omega⟩
      · by_cases h5 : fs.getD i [] = [43]
        · exact .inl h5
        · by_cases h6 : fs.getD i [] = ns.getD i []
          · exact .inr h6
          · exact absurd (.inr ⟨h5, h6⟩) h3
  · have : i = fs.length := by omega
    subst this
    rw [List.drop_length] at hg
    rw [← hg]
    simp only [mt, Ending.returned.injEq, Value.bool.injEq]
    exact decide_eq_decide.2 (by rw [List.drop_eq_nil_iff]; omega)

theorem cv_loop {fs gs : List (List UInt8)} {i : Nat} (hi : i < fs.length) (h2 : ¬ fs.getD i [] = [35]) (h3 : ¬ (((gs.length : Int) ≤ i ∨ gs.getD i [] = [35]) ∨ ¬ fs.getD i [] = [43] ∧ ¬ fs.getD i [] = gs.getD i [])) (hg : cv (fs.drop i) (gs.drop i) = cv fs gs) : i + 1 ≤ gs.length ∧ cv (fs.drop (i + 1)) (gs.drop (i + 1)) = cv fs gs := by
  have h4 : ¬ gs.length ≤ i := fun h => h3 (.inl (.inl (by omega)))
  refine ⟨by omega, ?_⟩
  rw [dropS fs i hi, dropS gs i (by omega), cv_cons _ _ _ h2, if_neg (fun h => h3 (.inl (.inr h))), if_pos] at hg
  · exact hg
  · by_cases h5 : fs.getD i [] = [43]
    · exact .inl h5
    · by_cases h6 : fs.getD i [] = gs.getD i []
      · exact .inr h6
      · exact absurd (.inr ⟨h5, h6⟩) h3
theorem cv_stop {fs gs : List (List UInt8)} {i : Nat} (hi : i < fs.length) (h2 : ¬ fs.getD i [] = [35]) (h3 : ((gs.length : Int) ≤ i ∨ gs.getD i [] = [35]) ∨ ¬ fs.getD i [] = [43] ∧ ¬ fs.getD i [] = gs.getD i []) (hg : cv (fs.drop i) (gs.drop i) = cv fs gs) : cv fs gs = false := by
  rw [← hg, dropS fs i hi]
  by_cases h4 : gs.length ≤ i
  · rw [List.drop_of_length_le h4, cv_none _ h2]
  · rw [dropS gs i (by omega), cv_cons _ _ _ h2]
    by_cases h5 : gs.getD i [] = [35]
    · rw [if_pos h5]
    · rw [if_neg h5, if_neg]
      intro h6
      rcases h3 with (h3 | h3) | h3
      · omega
      · exact h5 h3
      · rcases h6 with h6 | h6
        · exact h3.1 h6
        · exact h3.2 h6
end Go.Proofs.YtliedecinehijaaGreatDoor

/-
  Readers of a topic: plain. By an AI agent.
-/
set_option linter.unusedSimpArgs false
set_option linter.unusedVariables false
namespace Go.Proofs.YtliedecinehijaaGreatDoor
open Go.Sx

/-- Readers: client, Qos. -/
abbrev Rd := List UInt8 × Int
def encY (k : Rd) : List Value := [.string ⟨k.1.toArray⟩, .int .i64 k.2]
abbrev yD : Rd := ([], 0)
abbrev kY : List Kd := [.str, .int .i64]
theorem gY0 (l : List Rd) (i : Nat) : Value.gS (((l.map encY).getD i []).getD 0 undef) = (l.getD i yD).1 := by
  simp only [List.getD_eq_getElem?_getD, List.getElem?_map]
  cases l[i]? <;> simp [encY, Value.gS, undef]
theorem gY1 (l : List Rd) (i : Nat) : Value.gI (((l.map encY).getD i []).getD 1 undef) = (l.getD i yD).2 := by
  simp only [List.getD_eq_getElem?_getD, List.getElem?_map]
  cases l[i]? <;> rfl
abbrev readsY (w : World) (v : Value) (l : List Rd) : Prop := reads w v kY (l.map encY)
abbrev ownsY (w : World) (v : Value) (l : List Rd) : Prop := owns w v 111 kY (l.map encY)
theorem dropY (l : List Rd) (i : Nat) (h : i < l.length) : l.drop i = l.getD i yD :: l.drop (i + 1) := by
  rw [List.drop_eq_getElem_cons h, List.getD_eq_getElem?_getD, List.getElem?_eq_getElem h]; rfl
theorem takeY (l : List Rd) (i : Nat) (h : i < l.length) : l.take (i + 1) = l.take i ++ [l.getD i yD] := by
  rw [List.take_add_one, List.getD_eq_getElem?_getD, List.getElem?_eq_getElem h]; rfl
theorem memY (l : List Rd) (i : Nat) (h : i < l.length) : l.getD i yD ∈ l := by
  rw [List.getD_eq_getElem?_getD, List.getElem?_eq_getElem h]; exact List.getElem_mem h

/-- Is a want of a topic? -/
def forW (n : List UInt8) (w : Wt) : Bool := mt (lev w.2.1) (lev n)
/-- The greatest Qos by which a client wants a topic. -/
def bst (n c : List UInt8) : Option Int → List Wt → Option Int
  | o, [] => o
  | o, w :: r => bst n c (if forW n w = true ∧ w.1 = c then some (max (o.getD 0) w.2.2) else o) r
theorem bst_append (n c : List UInt8) : ∀ (a b : List Wt) (o : Option Int), bst n c o (a ++ b) = bst n c (bst n c o a) b
  | [], _, _ => rfl
  | _ :: a, b, _ => bst_append n c a b _
theorem bst_snoc (n c : List UInt8) (a : List Wt) (w : Wt) (o : Option Int) : bst n c o (a ++ [w]) = if forW n w = true ∧ w.1 = c then some (max ((bst n c o a).getD 0) w.2.2) else bst n c o a := by
  rw [bst_append]; rfl
theorem bst_filter (n c : List UInt8) (p : Wt → Bool) : ∀ (l : List Wt) (o : Option Int), (∀ w ∈ l, w.1 = c → p w = true) → bst n c o (l.filter p) = bst n c o l
  | [], _, _ => rfl
  | w :: r, o, h => by
    have ih := fun o => bst_filter n c p r o fun x hx => h x (List.mem_cons_of_mem _ hx)
    by_cases hp : p w = true
    · rw [List.filter_cons, if_pos hp]; exact ih _
    · rw [List.filter_cons, if_neg hp, bst, if_neg (fun h2 => hp (h w (List.mem_cons_self ..) h2.2))]; exact ih _
theorem bst_none {n c : List UInt8} : ∀ {l : List Wt}, (∀ w ∈ l, w.1 ≠ c) → bst n c none l = none
  | [], _ => rfl
  | w :: r, h => by
    rw [bst, if_neg (fun h2 => h w (List.mem_cons_self ..) h2.2)]
    exact bst_none fun x hx => h x (List.mem_cons_of_mem _ hx)
theorem bst_up (n c : List UInt8) : ∀ (l : List Wt) (x : Int), ∃ q, bst n c (some x) l = some q ∧ x ≤ q
  | [], x => ⟨x, rfl, Int.le_refl _⟩
  | w :: r, x => by
    rw [bst]
    split
    · obtain ⟨q, h1, h2⟩ := bst_up n c r (max x w.2.2)
      exact ⟨q, h1, by omega⟩
    · exact bst_up n c r x
theorem bst_ge {n : List UInt8} {w : Wt} (hf : forW n w = true) : ∀ {l : List Wt} (o : Option Int), w ∈ l → ∃ q, bst n w.1 o l = some q ∧ w.2.2 ≤ q
  | x :: r, o, h => by
    rcases List.mem_cons.1 h with rfl | h
    · rw [bst, if_pos ⟨hf, rfl⟩]
      obtain ⟨q, h1, h2⟩ := bst_up n w.1 r (max (o.getD 0) w.2.2)
      exact ⟨q, h1, by omega⟩
    · rw [bst]; exact bst_ge hf _ h
theorem bst_by {n c : List UInt8} : ∀ {l : List Wt} {o : Option Int} {q : Int}, (∀ w ∈ l, 0 ≤ w.2.2) → bst n c o l = some q → o = some q ∨ ∃ w ∈ l, forW n w = true ∧ w.1 = c ∧ w.2.2 = q
  | [], o, q, _, h => .inl h
  | w :: r, o, q, hn, h => by
    rw [bst] at h
    have hn' : ∀ x ∈ r, 0 ≤ x.2.2 := fun x hx => hn x (List.mem_cons_of_mem _ hx)
    by_cases h1 : forW n w = true ∧ w.1 = c
    · rw [if_pos h1] at h
      rcases bst_by hn' h with h2 | ⟨x, hx, h2⟩
      · have h3 := Option.some.inj h2
        have h0 := hn w (List.mem_cons_self ..)
        cases o with
        | none =>
          simp only [Option.getD_none] at h3
          exact .inr ⟨w, List.mem_cons_self .., h1.1, h1.2, by omega⟩
        | some y =>
          simp only [Option.getD_some] at h3
          by_cases h4 : w.2.2 ≤ y
          · exact .inl (by congr 1; omega)
          · exact .inr ⟨w, List.mem_cons_self .., h1.1, h1.2, by omega⟩
      · exact .inr ⟨x, List.mem_cons_of_mem _ hx, h2⟩
    · rw [if_neg h1] at h
      rcases bst_by hn' h with h2 | ⟨x, hx, h2⟩
      · exact .inl h2
      · exact .inr ⟨x, List.mem_cons_of_mem _ hx, h2⟩

def sortY (l : List Rd) : Prop := l.Pairwise fun a b => ltB a.1 b.1 = true
theorem sortY_uniq : ∀ {a b : List Rd}, sortY a → sortY b → (∀ x, x ∈ a ↔ x ∈ b) → a = b
  | [], [], _, _, _ => rfl
  | [], y :: b, _, _, h => absurd ((h y).2 (List.mem_cons_self ..)) (by simp)
  | x :: a, [], _, _, h => absurd ((h x).1 (List.mem_cons_self ..)) (by simp)
  | x :: a, y :: b, ha, hb, h => by
    obtain ⟨a1, a2⟩ := List.pairwise_cons.1 ha
    obtain ⟨b1, b2⟩ := List.pairwise_cons.1 hb
    have e : x = y := by
      rcases List.mem_cons.1 ((h x).1 (List.mem_cons_self ..)) with e | h1
      · exact e
      · rcases List.mem_cons.1 ((h y).2 (List.mem_cons_self ..)) with e | h2
        · exact e.symm
        · have := ltB_asym (b1 x h1)
          rw [a1 y h2] at this; cases this
    subst e
    congr 1
    refine sortY_uniq a2 b2 fun z => ⟨fun hz => ?_, fun hz => ?_⟩
    · rcases List.mem_cons.1 ((h z).1 (List.mem_cons_of_mem _ hz)) with e | h1
      · have := a1 z hz
        rw [e, ltB_irr] at this; cases this
      · exact h1
    · rcases List.mem_cons.1 ((h z).2 (List.mem_cons_of_mem _ hz)) with e | h1
      · have := b1 z hz
        rw [e, ltB_irr] at this; cases this
      · exact h1

/-- As the reference reckons. -/
def addY (out : List Rd) (w : Wt) : List Rd :=
  match out.getLast? with
  | none => [(w.1, max 0 w.2.2)]
  | some x => if x.1 = w.1 then out.dropLast ++ [(x.1, max x.2 w.2.2)] else out ++ [(w.1, max 0 w.2.2)]
theorem addY_nil (w : Wt) : addY [] w = [(w.1, max 0 w.2.2)] := rfl
theorem addY_snoc (o : List Rd) (x : Rd) (w : Wt) : addY (o ++ [x]) w = if x.1 = w.1 then o ++ [(x.1, max x.2 w.2.2)] else o ++ [x] ++ [(w.1, max 0 w.2.2)] := by
  simp [addY]
def rdF (n : List UInt8) (out : List Rd) (l : List Wt) : List Rd := l.foldl (fun out w => if forW n w = true then addY out w else out) out
def rdOf (n : List UInt8) (l : List Wt) : List Rd := rdF n [] l
def okY (n : List UInt8) (out : List Rd) (l : List Wt) : Prop := sortY out ∧ ∀ c q, (c, q) ∈ out ↔ bst n c none l = some q
theorem bst_mem {n c : List UInt8} {l : List Wt} {q : Int} (h : bst n c none l = some q) : ∃ w ∈ l, w.1 = c := by
  refine Classical.byContradiction fun hn => ?_
  rw [bst_none fun w hw e => hn ⟨w, hw, e⟩] at h
  cases h
theorem okY_skip {n : List UInt8} {out : List Rd} {l : List Wt} (h : okY n out l) {w : Wt} (hf : ¬ forW n w = true) : okY n out (l ++ [w]) :=
  ⟨h.1, fun c q => by rw [bst_snoc, if_neg (fun h2 => hf h2.1)]; exact h.2 c q⟩
theorem okY_step {n : List UInt8} {out : List Rd} {l : List Wt} (h : okY n out l) {w : Wt} (hs : ∀ x ∈ l, x.1 = w.1 ∨ ltB x.1 w.1 = true) (hf : forW n w = true) : okY n (addY out w) (l ++ [w]) := by
  obtain ⟨h1, h2⟩ := h
  have hle : ∀ x ∈ out, x.1 = w.1 ∨ ltB x.1 w.1 = true := fun x hx => by
    obtain ⟨y, hy, e⟩ := bst_mem ((h2 x.1 x.2).1 hx)
    rw [← e]; exact hs y hy
  have hb : ∀ c q, bst n c none (l ++ [w]) = some q ↔ (c = w.1 ∧ q = max ((bst n w.1 none l).getD 0) w.2.2) ∨ (c ≠ w.1 ∧ (c, q) ∈ out) := by
    intro c q
    rw [bst_snoc]
    by_cases hc : w.1 = c
    · subst hc
      rw [if_pos ⟨hf, rfl⟩]
      constructor
      · intro e; exact .inl ⟨rfl, (Option.some.inj e).symm⟩
      · rintro (⟨-, e⟩ | ⟨e, -⟩)
        · rw [e]
        · exact absurd rfl e
    · rw [if_neg (fun h3 => hc h3.2), ← h2 c q]
      constructor
      · exact fun e => .inr ⟨fun e2 => hc e2.symm, e⟩
      · rintro (⟨e, -⟩ | ⟨-, e⟩)
        · exact absurd e.symm hc
        · exact e
  have hno : (∀ x ∈ out, x.1 ≠ w.1) → bst n w.1 none l = none := fun h3 => by
    cases h4 : bst n w.1 none l with
    | none => rfl
    | some q => exact absurd rfl (h3 _ ((h2 _ q).2 h4))
  rcases List.eq_nil_or_concat out with rfl | ⟨o, x, rfl⟩
  · rw [addY_nil]
    refine ⟨List.pairwise_singleton _ _, fun c q => ?_⟩
    rw [hb, hno (by simp)]
    simp only [List.mem_singleton, Option.getD_none, List.not_mem_nil, and_false, or_false, Prod.mk.injEq]
  · rw [List.concat_eq_append] at h1 h2 hle hb hno ⊢
    rw [addY_snoc]
    have ho : ∀ y ∈ o, ltB y.1 x.1 = true := fun y hy => (List.pairwise_append.1 h1).2.2 y hy x (List.mem_singleton.2 rfl)
    have hol : sortY o := (List.pairwise_append.1 h1).1
    by_cases hx : x.1 = w.1
    · rw [if_pos hx]
      have hv : bst n w.1 none l = some x.2 := by rw [← hx]; exact (h2 x.1 x.2).1 (List.mem_append_right _ (List.mem_singleton.2 rfl))
      refine ⟨List.pairwise_append.2 ⟨hol, List.pairwise_singleton _ _, fun y hy z hz => by rw [List.mem_singleton.1 hz]; exact ho y hy⟩, fun c q => ?_⟩
      rw [hb, hv]
      simp only [Option.getD_some, List.mem_append, List.mem_singleton, Prod.mk.injEq, hx]
      constructor
      · rintro (h3 | h3)
        · refine .inr ⟨fun e => ?_, .inl h3⟩
          have := ho _ h3
          rw [e, ← hx, ltB_irr] at this; cases this
        · exact .inl h3
      · rintro (h3 | ⟨h3, h4 | h4⟩)
        · exact .inr h3
        · exact .inl h4
        · exact absurd (by have := congrArg Prod.fst h4; simp only at this; rw [this, hx]) h3
    · rw [if_neg hx]
      have hlt : ltB x.1 w.1 = true := (hle x (List.mem_append_right _ (List.mem_singleton.2 rfl))).resolve_left hx
      have hall : ∀ y ∈ o ++ [x], ltB y.1 w.1 = true := fun y hy => by
        rcases List.mem_append.1 hy with hy | hy
        · exact ltB_trans (ho y hy) hlt
        · rw [List.mem_singleton.1 hy]; exact hlt
      refine ⟨List.pairwise_append.2 ⟨h1, List.pairwise_singleton _ _, fun y hy z hz => by rw [List.mem_singleton.1 hz]; exact hall y hy⟩, fun c q => ?_⟩
      rw [hb, hno fun y hy => ltB_ne (hall y hy)]
      rw [List.mem_append, List.mem_singleton, Prod.mk.injEq, Option.getD_none]
      constructor
      · rintro (h3 | h3)
        · exact .inr ⟨ltB_ne (hall _ h3), h3⟩
        · exact .inl h3
      · rintro (h3 | h3)
        · exact .inr h3
        · exact .inl h3.2
/-- Wants rise by client. -/
def riseW (l : List Wt) : Prop := l.Pairwise fun a b => a.1 = b.1 ∨ ltB a.1 b.1 = true
theorem sortW_rise {l : List Wt} (h : sortW l) : riseW l := h.imp fun {a b} h2 => by
  rcases ltP_iff.1 h2 with h3 | h3
  · exact .inr h3
  · exact .inl h3.1
theorem rdF_ok {n : List UInt8} : ∀ (l d : List Wt) (out : List Rd), riseW (d ++ l) → okY n out d → okY n (rdF n out l) (d ++ l)
  | [], d, out, _, h => by rw [List.append_nil]; exact h
  | w :: r, d, out, hr, h => by
    have e : d ++ w :: r = d ++ [w] ++ r := by simp
    rw [e] at hr ⊢
    rw [rdF, List.foldl_cons]
    refine rdF_ok r (d ++ [w]) _ hr ?_
    have hd : ∀ x ∈ d, x.1 = w.1 ∨ ltB x.1 w.1 = true := fun x hx => (List.pairwise_append.1 (List.pairwise_append.1 hr).1).2.2 x hx w (List.mem_singleton.2 rfl)
    by_cases hf : forW n w = true
    · rw [if_pos hf]; exact okY_step h hd hf
    · rw [if_neg hf]; exact okY_skip h hf
theorem rdOf_ok {n : List UInt8} {l : List Wt} (h : riseW l) : okY n (rdOf n l) l := by
  have := rdF_ok (n := n) l [] [] (by simpa using h) ⟨List.Pairwise.nil, fun c q => by simp [bst]⟩
  simpa [rdOf] using this

/-- The Qos by which a client reads. -/
def qosY : List Rd → List UInt8 → Int
  | [], _ => -1
  | x :: r, c => if x.1 = c then x.2 else qosY r c
theorem qosY_none {c : List UInt8} : ∀ {l : List Rd}, (∀ x ∈ l, x.1 ≠ c) → qosY l c = -1
  | [], _ => rfl
  | x :: r, h => by rw [qosY, if_neg (h x (List.mem_cons_self ..))]; exact qosY_none fun y hy => h y (List.mem_cons_of_mem _ hy)
theorem qosY_at {c : List UInt8} {q : Int} : ∀ {l : List Rd}, sortY l → (c, q) ∈ l → qosY l c = q
  | x :: r, hs, h => by
    obtain ⟨h1, h2⟩ := List.pairwise_cons.1 hs
    rw [qosY]
    rcases List.mem_cons.1 h with e | h
    · rw [← e, if_pos rfl]
    · rw [if_neg (ltB_ne (h1 _ h))]; exact qosY_at h2 h
theorem qosY_of {n c : List UInt8} {l : List Wt} (h : riseW l) : qosY (rdOf n l) c = (bst n c none l).getD (-1) := by
  obtain ⟨h1, h2⟩ := rdOf_ok (n := n) h
  cases hb : bst n c none l with
  | none =>
    rw [Option.getD_none]
    refine qosY_none fun x hx e => ?_
    have := (h2 x.1 x.2).1 hx
    rw [e, hb] at this; cases this
  | some q => exact qosY_at h1 ((h2 c q).2 hb)
theorem rdOf_len (n : List UInt8) : ∀ (l : List Wt) (out : List Rd), (rdF n out l).length ≤ out.length + l.length
  | [], out => Nat.le_refl _
  | w :: r, out => by
    have := rdOf_len n r (if forW n w = true then addY out w else out)
    rw [rdF, List.foldl_cons]
    refine Nat.le_trans this ?_
    have : (if forW n w = true then addY out w else out).length ≤ out.length + 1 := by
      split
      · rcases List.eq_nil_or_concat out with rfl | ⟨o, x, rfl⟩
        · simp [addY_nil]
        · rw [List.concat_eq_append, addY_snoc]
          split <;> simp
      · omega
    simp only [List.length_cons]; omega
end Go.Proofs.YtliedecinehijaaGreatDoor

/-
  Rows that are copied: the laws of 'copy' and 'append' for elements of many cells. By an AI agent.
-/
set_option linter.unusedSimpArgs false
set_option linter.unusedVariables false
namespace Go.Sx
open Go

theorem run_copy_rows {P : Program} (w : World) (dT sT ty elem : TypeId) (sz : Nat) (g o dLen dCap : Nat) (a : Addr) (sLen sCap : Nat) (cur : Array Value) (t : TypeId) (cs : List Value) (q : Nat) (hq : min sLen dLen = q)
    (hu : P.underlying dT = some (.slice elem)) (hs : (P.info? elem).map (·.size) = some sz)
    (hg : w.heap[g]? = some (.cells cur t (0, 0))) (hn : cs.length = q * sz)
    (hsrc : ∀ j v, cs[j]? = some v → w.cell? (a.add j) = some v) (hfit : o + cs.length ≤ cur.size) (h1 : ∀ v ∈ cs, v.oneCell' = true) :
    (Builtin.copy_ #[dT, sT] ty #[.slice (some ⟨g, o, none⟩) dLen dCap, .slice (some a) sLen sCap]).run P w =
      .ok (goInt q) (w.setRow g (cur.toList.take o ++ cs ++ cur.toList.drop (o + cs.length)).toArray) := by
  have hq' : Nat.min sLen dLen = q := hq
  have hl := run_loadCells_list (P := P) w a cs hsrc
  have hst := run_storeCells_at P g o t cs 0 cur w hg (by simpa using hfit) h1
  cases hr : P.info? elem with
  | none => simp [hr] at hs
  | some i =>
    have hi : i.size = sz := by simpa [hr] using hs
    simp [Builtin.copy_, run_underlying hu, Builtin.lenOf, Builtin.firstCells, sizeOf, typeInfo, hr, hi, hq', ← hn, hl, hst]
/-- Two copies into one row, the second one ahead of the first. -/
theorem splice2 {α : Type} (cur cs vs : List α) (a b d : Nat) (h1 : a + vs.length = b) (h2 : b + cs.length = d) (h3 : d ≤ cur.length) :
    (cur.take b ++ cs ++ cur.drop (b + cs.length)).take a ++ vs ++ (cur.take b ++ cs ++ cur.drop (b + cs.length)).drop (a + vs.length) = cur.take a ++ vs ++ cs ++ cur.drop d := by
  subst h1 h2
  have e1 : (cur.take (a + vs.length) ++ cs ++ cur.drop (a + vs.length + cs.length)).take a = cur.take a := by
    rw [List.append_assoc, List.take_append_of_le_length (by simp; omega), List.take_take, Nat.min_eq_left (by omega)]
  have e2 : (cur.take (a + vs.length) ++ cs ++ cur.drop (a + vs.length + cs.length)).drop (a + vs.length) = cs ++ cur.drop (a + vs.length + cs.length) := by
    have hl : (cur.take (a + vs.length)).length = a + vs.length := by simp; omega
    rw [List.append_assoc, List.drop_append_of_le_length (by omega), List.drop_eq_nil_of_le (by omega), List.nil_append]
  rw [e1, e2]
  simp
theorem splice3 {α : Type} (hd vs cs rest : List α) (a : Nat) (h : hd.length + vs.length = a) :
    (hd ++ vs ++ rest).take a ++ cs ++ (hd ++ vs ++ rest).drop (a + cs.length) = hd ++ vs ++ cs ++ (hd ++ vs ++ rest).drop (a + cs.length) := by
  subst h
  rw [List.take_append_of_le_length (by simp), List.take_of_length_le (by simp)]
theorem zeroCells_size (z : Array Value) (n : Nat) : (Builtin.zeroCells z n).size = n * z.size := by
  simp [Builtin.zeroCells, Nat.mul_comm]
theorem flatten_takeI {n : Nat} : ∀ {R : List (List Value)} (i : Nat), (∀ r ∈ R, r.length = n) → R.flatten.take (i * n) = (R.take i).flatten
  | [], i, _ => by simp
  | r :: R, 0, _ => by simp
  | r :: R, i + 1, h => by
    have h1 := h r (by simp)
    have ih := flatten_takeI (R := R) i (fun x hx => h x (by simp [hx]))
    rw [List.flatten_cons, List.take_succ_cons, List.flatten_cons, ← ih, List.take_append, List.take_of_length_le (by rw [h1, Nat.succ_mul]; omega)]
    congr 2
    rw [h1, Nat.succ_mul]; omega
theorem flatten_dropI {n : Nat} : ∀ {R : List (List Value)} (i : Nat), (∀ r ∈ R, r.length = n) → R.flatten.drop (i * n) = (R.drop i).flatten
  | [], i, _ => by simp
  | r :: R, 0, _ => by simp
  | r :: R, i + 1, h => by
    have h1 := h r (by simp)
    have ih := flatten_dropI (R := R) i (fun x hx => h x (by simp [hx]))
    rw [List.flatten_cons, List.drop_succ_cons, ← ih, List.drop_append, List.drop_eq_nil_of_le (by rw [h1, Nat.succ_mul]; omega), List.nil_append]
    congr 1
    rw [h1, Nat.succ_mul]; omega
theorem rows_one {ks : List Kd} {R : List (List Value)} (h : ∀ r ∈ R, rowOk ks r) : ∀ x ∈ R.flatten, x.oneCell' = true := by
  intro x hx
  obtain ⟨row, hr, hx⟩ := List.mem_flatten.1 hx
  exact (h row hr).one x hx
theorem grown_refl (w : World) (r : Option Nat) : w.grownBy w r := ⟨rfl, rfl, rfl, Nat.le_refl _, fun _ _ _ => rfl⟩
/-- What a call that changes an owned row givesR back. -/
def givesR (w w' : World) (s v' : Value) (ty : Nat) (ks : List Kd) (R : List (List Value)) : Prop :=
  owns w' v' ty ks R ∧ (∀ k, blockOf v' k → blockOf s k ∨ w.heap.size ≤ k) ∧ w.grownBy w' s.ownBlock
theorem zeroCells_one {z : Array Value} {n : Nat} (hz : 0 < z.size) (h : ∀ v ∈ z.toList, v.oneCell' = true) : ∀ v ∈ (Builtin.zeroCells z n).toList, v.oneCell' = true := by
  intro v hv
  simp only [Builtin.zeroCells, Array.toList_map, List.mem_map] at hv
  obtain ⟨i, -, rfl⟩ := hv
  have hlt : i % z.size < z.size := Nat.mod_lt _ hz
  rw [getElem!_pos z _ hlt]
  exact h _ (Array.getElem_mem_toList hlt)
/-- An append as one step of a region that draws. -/
theorem step_append_runI {P : Program} {ops : Array Oper} {o : Oper} {a : Act} {w : World} {K : Act → World → Prop} {Q : Exit → Act → World → Prop} {E : Prop}
    (hg : o.guard = none) (d x : Operand) (dT sT : TypeId) (hop : o.op = Op.call { callee := Callee.builtin Builtin.append, args := #[d, x], argTypes := #[dT, sT] })
    (v u : Value) (hd : a.eval d = v) (hx : a.eval x = u) {v' : Value} {w' : World} (hr : (Builtin.append_ #[dT, sT] o.type #[v, u]).run P w = .ok v' w') (hK : K (a.put o.dst v') w') :
    if Region.wanted o (yielded ops a.tmps) = true then Oper.wp P o a w K Q else E := by
  have hw : Region.wanted o (yielded ops a.tmps) = true := by simp [Region.wanted, hg]
  rw [if_pos hw]
  unfold Oper.wp
  simp [execOp, hop, resolve, invoke, builtin, hd, hx, hr, Result.andThen]
  exact hK
theorem wpList_clear_runI {P : Program} (w : World) {ops : Array Oper} {rest : List Oper} {o : Oper} {a : Act} {Q : Exit → Act → World → Prop} (hgd : o.guard = none) (d : Operand) (t : TypeId)
    (ho : o.op = .call { callee := .builtin .clear, args := #[d], argTypes := #[t] }) (v : Value) (hd : a.eval d = v) {v' : Value} {w' : World}
    (hr : (Builtin.clear_ #[t] o.type #[v]).run P w = .ok v' w') (h : wpList P ops Q rest (a.put o.dst v') w') : wpList P ops Q (o :: rest) a w :=
  wpList_plain hgd fun _ hK => by
    unfold Oper.wp execOp
    simp only [ho, resolve, invoke, builtin, Sem.run_bind, Sem.run_pure, Result.andThen_ok, List.map_toArray, List.map_cons, List.map_nil, hd, hr]
    exact hK _ _ h
end Go.Sx

/-
  The library's Insert and Delete at a type of elements. By an AI agent.
-/
set_option linter.unusedSimpArgs false
set_option linter.unusedVariables false
namespace Go.Proofs.YtliedecinehijaaGreatDoor
open Go Go.Sx Go.Shelf Go.RowKit Go.Lib
set_option maxHeartbeats 4000000 in
set_option maxRecDepth 100000 in
theorem insW_none (w : World) (b : Option Addr) (n c i : Nat) (vb : Option Addr) (vc : Nat) (hi : i ≤ n) (hc : n ≤ c) (hb : b = none → c = 0) :
    Calls Tryz.prog 123 #[.slice b n c, .int .i64 i, .slice vb 0 vc] w fun e w' => e = .returned (.slice b n c) ∧ w' = w := by
  go_enter Tryz.func123, Tryz.ntmps123
  go_wp2
  all_goals (go_ret; exact ⟨rfl, rfl⟩)
set_option maxHeartbeats 4000000 in
set_option maxRecDepth 100000 in
theorem insW_end (w : World) (b : Option Addr) (n c : Nat) (vb : Option Addr) (m vc : Nat) (hm : 0 < m) (hc : n ≤ c) (hb : b = none → c = 0) (v' : Value) (w' : World)
    (hrun : ∀ ty, (Builtin.append_ #[42, 42] ty #[.slice b n c, .slice vb m vc]).run Tryz.prog w = .ok v' w') :
    Calls Tryz.prog 123 #[.slice b n c, .int .i64 n, .slice vb m vc] w fun e w1 => e = .returned v' ∧ w1 = w' := by
  have hz1 : ¬ ((m : Int) = 0) := by omega
  go_enter Tryz.func123, Tryz.ntmps123
  go_wp2_with (at_builtin; refine Lib.wpList_append_run _ rfl _ _ _ _ rfl _ _ rfl rfl _ _ (hrun _) ?_)
  all_goals (go_ret; exact ⟨rfl, rfl⟩)
set_option maxHeartbeats 4000000 in
set_option maxRecDepth 100000 in
/-- There is room: in place. -/
theorem insW_shift (w : World) (g n c i vb m vc : Nat) (cs vs : List Value) (cur vcur cur2 : Array Value) (hi : i < n) (hm : 0 < m) (hroom : n + m ≤ c) (hc63 : c ≤ 9223372036854775807) (hvb : vb ≠ g)
    (hg : w.heap[g]? = some (.cells cur 57 (0, 0))) (hcs : cur.size = c * 3) (hv : w.heap[vb]? = some (.cells vcur 57 (0, 0))) (hvl : m * 3 ≤ vcur.size)
    (e1 : cs = (cur.toList.drop (i * 3)).take ((n - i) * 3)) (e2 : vs = vcur.toList.take (m * 3)) (h1c : ∀ v ∈ cs, v.oneCell' = true) (h1v : ∀ v ∈ vs, v.oneCell' = true)
    (e3 : cur2.toList = cur.toList.take (i * 3) ++ vs ++ cs ++ cur.toList.drop ((n + m) * 3)) :
    Calls Tryz.prog 123 #[.slice (some ⟨g, 0, none⟩) n c, .int .i64 i, .slice (some ⟨vb, 0, none⟩) m vc] w fun e w' => e = .returned (.slice (some ⟨g, 0, none⟩) (n + m) c) ∧ w' = w.drew.setRow g cur2 := by
  have hz1 : ¬ ((m : Int) = 0) := by omega
  have hz2 : ¬ ((i : Int) = (n : Int)) := by omega
  have hw1 : IntKind.i64.wrap ((i : Int) + (m : Int)) = (i : Int) + (m : Int) := by rw [IntKind.wrap_i64]; omega
  have hw2 : IntKind.i64.wrap ((n : Int) + (m : Int)) = (n : Int) + (m : Int) := by rw [IntKind.wrap_i64]; omega
  have hb1 : (0 : Int) ≤ (i : Int) + (m : Int) := by omega
  have hin : i ≤ n := by omega
  have htn : ((i : Int) + (m : Int)).toNat = i + m := by omega
  have htn2 : ((n : Int) + (m : Int)).toNat = n + m := by omega
  have hb2 : ¬ (c = i + m) := by omega
  have hb3 : (i : Int) ≤ (n : Int) + (m : Int) := by omega
  have hb4 : ¬ (c = i) := by omega
  have hsz : (Tryz.prog.info? 57).map (·.size) = some 3 := by kernel_rfl
  have hso : ∀ w, (Go.sizeOf 57).run Tryz.prog w = .ok 3 w := fun w => by
    cases hq : Tryz.prog.info? 57 with
    | none => rw [hq] at hsz; simp at hsz
    | some i => rw [hq] at hsz; simp at hsz; simp [sizeOf, typeInfo, hq, hsz]
  have hu := Tryz.underlying42
  have hov : ∀ o lb cb, (callFunc 160 #[.slice (some ⟨vb, 0, none⟩) m vc, .slice (some ⟨g, o, none⟩) lb cb]).run Tryz.prog w = .ok (.value (.bool false)) w := fun o lb cb => by
    rw [run_callFunc_extern Tryz.func160 (by kernel_rfl) (by kernel_rfl) (by kernel_rfl) (e := Extern.SlicesOverlaps.overlaps #[42, 42] #[4]) (by kernel_rfl),
      Lib.run_overlaps_apart w 42 4 57 hu 3 hso ⟨vb, 0, none⟩ ⟨g, o, none⟩ m vc lb cb hvb 57 57 vcur.size cur.size (by simp [World.shape?, hv]) (by simp [World.shape?, hg]) (by omega) (by simp [World.frozen?, hv]) (by simp [World.frozen?, hv])]
    rfl
  have hcl : cs.length = (n - i) * 3 := by rw [e1]; simp; omega
  have hvl2 : vs.length = m * 3 := by rw [e2]; simp; omega
  have hgd : w.drew.heap[g]? = some (.cells cur 57 (0, 0)) := hg
  have hcp1 : ∀ ty dc sc, (Builtin.copy_ #[42, 42] ty #[.slice (some ⟨g, (i + m) * 3, none⟩) (n + m - (i + m)) dc, .slice (some ⟨g, i * 3, none⟩) (n + m - i) sc]).run Tryz.prog w.drew = .ok (goInt ((n - i : Nat) : Int)) (w.drew.setRow g (cur.toList.take ((i + m) * 3) ++ cs ++ cur.toList.drop ((i + m) * 3 + cs.length)).toArray) := fun ty dc sc =>
    run_copy_rows (P := Tryz.prog) w.drew 42 42 ty 57 3 g ((i + m) * 3) (n + m - (i + m)) dc ⟨g, i * 3, none⟩ (n + m - i) sc cur 57 cs (n - i) (by omega) hu hsz hgd hcl (fun j v hj => by
      rw [e1, List.getElem?_take] at hj
      split at hj
      · rw [Addr.add_lit]
        simp only [World.cell?, hgd]
        simpa using hj
      · cases hj) (by rw [hcl]; omega) h1c
  obtain ⟨cur1, hcur1⟩ : ∃ cur1 : Array Value, cur1 = (cur.toList.take ((i + m) * 3) ++ cs ++ cur.toList.drop ((i + m) * 3 + cs.length)).toArray := ⟨_, rfl⟩
  rw [← hcur1] at hcp1
  have hs1 : cur1.size = cur.size := by
    rw [hcur1]; simp only [List.size_toArray, List.length_append, List.length_take, List.length_drop, Array.length_toList, hcl]; omega
  have hcp2 : ∀ (W : World), W.heap = (w.drew.setRow g cur1).heap → ∀ ty dc, (Builtin.copy_ #[42, 42] ty #[.slice (some ⟨g, i * 3, none⟩) (n + m - i) dc, .slice (some ⟨vb, 0, none⟩) m vc]).run Tryz.prog W = .ok (goInt m) (W.setRow g cur2) := fun W hW ty dc => by
    have hgW : W.heap[g]? = some (.cells cur1 57 (0, 0)) := by rw [hW]; exact setRow_heap _ _ _ _ _ _ hgd
    have hvW : W.heap[vb]? = some (.cells vcur 57 (0, 0)) := by rw [hW, setRow_other _ _ _ _ hvb]; exact hv
    have := run_copy_rows (P := Tryz.prog) W 42 42 ty 57 3 g (i * 3) (n + m - i) dc ⟨vb, 0, none⟩ m vc cur1 57 vs m (by omega) hu hsz hgW hvl2 (fun j v hj => by
      rw [e2, List.getElem?_take] at hj
      split at hj
      · rw [Addr.add_lit]
        simp only [World.cell?, hvW, Nat.zero_add]
        simpa using hj
      · cases hj) (by rw [hvl2, hs1]; omega) h1v
    rw [this]
    congr 2
    apply Array.toList_inj.1
    rw [e3, hcur1]
    simp only [List.toList_toArray]
    rw [splice2 cur.toList cs vs (i * 3) ((i + m) * 3) ((n + m) * 3) (by rw [hvl2]; omega) (by rw [hcl]; omega) (by simp; omega)]
  have mixed : Tryz.prog.follows Departure.mixedOrders = true := by kernel_rfl
  go_enter Tryz.func123, Tryz.ntmps123
  go_wp2_with (simp only [hov])
  go_region_law_o (refine step_copy_runI rfl _ _ 42 42 rfl _ _ (by simp [Act.eval, Act.put]) (by simp [Act.eval, Act.put]) (hcp1 _ _ _) ?_)
  go_wp2_with (at_builtin; refine wpList_copy_runI _ rfl _ _ 42 42 rfl _ _ rfl rfl (hcp2 _ rfl _ _) ?_)
  go_ret
  first | exact ⟨rfl, rfl⟩ | exact ⟨rfl, by rw [setRow_setRow]⟩
set_option maxHeartbeats 4000000 in
set_option maxRecDepth 100000 in
/-- There is no room: a new row. -/
theorem insW_grow (w : World) (g n c i vb m vc : Nat) (hd cs vs : List Value) (cur vcur : Array Value) (hi : i < n) (hm : 0 < m) (hnc : n ≤ c) (hroom : c < n + m) (hbig : (n + m) * 40 ≤ 140737488355328)
    (hg : w.heap[g]? = some (.cells cur 57 (0, 0))) (hcs : cur.size = c * 3) (hv : w.heap[vb]? = some (.cells vcur 57 (0, 0))) (hvl : m * 3 ≤ vcur.size)
    (e0 : hd = cur.toList.take (i * 3)) (e1 : cs = (cur.toList.drop (i * 3)).take ((n - i) * 3)) (e2 : vs = vcur.toList.take (m * 3)) (h1c : ∀ v ∈ cs, v.oneCell' = true) (h1v : ∀ v ∈ vs, v.oneCell' = true) :
    Calls Tryz.prog 123 #[.slice (some ⟨g, 0, none⟩) n c, .int .i64 i, .slice (some ⟨vb, 0, none⟩) m vc] w fun e w' => ∃ (G : Nat) (cur3 : Array Value), e = .returned (.slice (some ⟨w.heap.size, 0, none⟩) (n + m) G) ∧ n + m ≤ G ∧ G ≤ maxLen ∧ cur3.size = G * 3 ∧ cur3.toList.take ((n + m) * 3) = hd ++ vs ++ cs ∧
      w'.heap[w.heap.size]? = some (.cells cur3 57 (0, 0)) ∧ w.grownBy w' none := by
  have hz1 : ¬ ((m : Int) = 0) := by omega
  have hz2 : ¬ ((i : Int) = (n : Int)) := by omega
  have hz3 : (c : Int) < (n : Int) + (m : Int) := by omega
  have hw1 : IntKind.i64.wrap ((i : Int) + (m : Int)) = (i : Int) + (m : Int) := by rw [IntKind.wrap_i64]; omega
  have hb1 : (0 : Int) ≤ (i : Int) + (m : Int) := by omega
  have hin : i ≤ n := by omega
  have htn : ((i : Int) + (m : Int)).toNat = i + m := by omega
  have hb3 : (i : Int) ≤ (n : Int) := by omega
  have hu := Tryz.underlying42
  have hsz : (Tryz.prog.info? 57).map (·.size) = some 3 := by kernel_rfl
  obtain ⟨i0, hi0⟩ : ∃ i0, Tryz.prog.info? 57 = some i0 := by
    cases hq : Tryz.prog.info? 57 with
    | none => rw [hq] at hsz; simp at hsz
    | some i => exact ⟨i, rfl⟩
  have hk : i0.size = 3 := by rw [hi0] at hsz; simpa using hsz
  have hby : i0.bytes = 40 := by
    have : (Tryz.prog.info? 57).map (·.bytes) = some 40 := by kernel_rfl
    rw [hi0] at this; simpa using this
  obtain ⟨z, hz, hzs⟩ : ∃ z, i0.zero = some z ∧ z.cells.size = 3 := by
    have : (Tryz.prog.info? 57).bind (fun i => i.zero.map (fun z => z.cells.size)) = some 3 := by kernel_rfl
    rw [hi0] at this
    simp only [Option.bind_some, Option.map_eq_some_iff] at this
    exact this
  have hbw : g < w.heap.size := (Array.getElem?_eq_some_iff.1 hg).1
  have hvw : vb < w.heap.size := (Array.getElem?_eq_some_iff.1 hv).1
  have hkk : (n : Int) + (m : Int) - (i : Int) = ((n + m - i : Nat) : Int) := by omega
  have hik : i + (n + m - i) = n + m := by omega
  have hgd : w.drew.heap[g]? = some (.cells cur 57 (0, 0)) := hg
  have hhl : hd.length = i * 3 := by rw [e0]; simp; omega
  have hold : (Builtin.firstCells i0.size i (.slice (some ⟨g, 0, none⟩) i c)).run Tryz.prog w.drew = .ok hd.toArray w.drew := by
    rw [hk]
    exact run_firstCells_some w.drew 3 i ⟨g, 0, none⟩ i c hd hhl (fun j v hj => by
      rw [Addr.add_lit]
      rw [e0, List.getElem?_take] at hj
      split at hj
      · simp only [World.cell?, hgd, Nat.zero_add]
        simpa using hj
      · cases hj)
  have hrz : ∀ ty, (Builtin.append_ #[42, 3] ty #[.slice (some ⟨g, 0, none⟩) i c, .int .i64 ((n : Int) + (m : Int) - (i : Int))]).run Tryz.prog w =
      .ok (.slice (some ⟨w.heap.size, 0, none⟩) (n + m) (grownCap w (n + m) c 57)) (w.drew.alloc (.cells (hd.toArray ++ Builtin.zeroCells z.cells (n + m - i) ++ Builtin.zeroCells z.cells (grownCap w (n + m) c 57 - (n + m))) 57)) := fun ty => by
    have h := Lib.run_append_grow_zeros w 42 3 ty 57 i0 z .i64 .i64 hu Tryz.underlying3 hi0 hz (some ⟨g, 0, none⟩) i c hd hold (n + m - i) (by omega) (by omega) (by omega) (by omega) (by rw [hby]; omega) (by rw [hby, hik]; exact growslice_fits hroom hbig)
    rw [hik] at h
    rw [hkk]
    exact h
  obtain ⟨G, hG⟩ : ∃ G, G = grownCap w (n + m) c 57 := ⟨_, rfl⟩
  obtain ⟨ROW, hROW⟩ : ∃ ROW : Array Value, ROW = hd.toArray ++ Builtin.zeroCells z.cells (n + m - i) ++ Builtin.zeroCells z.cells (G - (n + m)) := ⟨_, rfl⟩
  rw [← hG] at hrz
  rw [← hROW] at hrz
  have hGn : n + m ≤ G := by rw [hG]; exact grownCap_ge w _ _ _
  have hG63 : G ≤ maxLen := by
    have := grownCap_le_maxLen w (n + m) c 57 (by unfold maxLen; omega)
    rw [← hG] at this
    exact this
  have hG63' : G ≤ 9223372036854775807 := hG63
  have hRl : ROW.size = G * 3 := by
    rw [hROW]
    simp only [Array.size_append, List.size_toArray, zeroCells_size, hzs, hhl]
    omega
  have hRt : ROW.toList.take (i * 3) = hd := by
    rw [hROW]
    simp only [Array.toList_append, List.toList_toArray, List.append_assoc]
    rw [List.take_append_of_le_length (by omega), List.take_of_length_le (by omega)]
  have hcl : cs.length = (n - i) * 3 := by rw [e1]; simp; omega
  have hvl2 : vs.length = m * 3 := by rw [e2]; simp; omega
  obtain ⟨W1, hW1⟩ : ∃ W1, W1 = w.drew.alloc (.cells ROW 57) := ⟨_, rfl⟩
  rw [← hW1] at hrz
  have hN : W1.heap[w.heap.size]? = some (.cells ROW 57 (0, 0)) := by rw [hW1]; exact heap_alloc_new w.drew _
  have hO : ∀ k, k < w.heap.size → W1.heap[k]? = w.heap[k]? := fun k hk => by rw [hW1]; exact heap_alloc_old w.drew _ hk
  obtain ⟨cur2, hcur2⟩ : ∃ cur2 : Array Value, cur2 = (ROW.toList.take (i * 3) ++ vs ++ ROW.toList.drop (i * 3 + vs.length)).toArray := ⟨_, rfl⟩
  obtain ⟨cur3, hcur3⟩ : ∃ cur3 : Array Value, cur3 = (cur2.toList.take ((i + m) * 3) ++ cs ++ cur2.toList.drop ((i + m) * 3 + cs.length)).toArray := ⟨_, rfl⟩
  have hs2 : cur2.size = ROW.size := by
    rw [hcur2]; simp only [List.size_toArray, List.length_append, List.length_take, List.length_drop, Array.length_toList, hvl2]; omega
  have hs3 : cur3.size = ROW.size := by
    rw [hcur3]; simp only [List.size_toArray, List.length_append, List.length_take, List.length_drop, Array.length_toList, hcl, hs2]; omega
  have ht3 : cur3.toList.take ((n + m) * 3) = hd ++ vs ++ cs := by
    rw [hcur3, hcur2]
    simp only [List.toList_toArray]
    rw [hRt, splice3 hd vs cs _ ((i + m) * 3) (by omega)]
    rw [List.take_append_of_le_length (by simp only [List.length_append]; omega), List.take_of_length_le (by simp only [List.length_append]; omega)]
  have hcpA : ∀ (W : World), W.heap = W1.heap → ∀ ty dc, (Builtin.copy_ #[42, 42] ty #[.slice (some ⟨w.heap.size, i * 3, none⟩) (n + m - i) dc, .slice (some ⟨vb, 0, none⟩) m vc]).run Tryz.prog W = .ok (goInt m) (W.setRow w.heap.size cur2) := fun W hW ty dc => by
    rw [hcur2]
    exact run_copy_rows (P := Tryz.prog) W 42 42 ty 57 3 w.heap.size (i * 3) (n + m - i) dc ⟨vb, 0, none⟩ m vc ROW 57 vs m (by omega) hu hsz (by rw [hW]; exact hN) hvl2 (fun j v hj => by
      rw [e2, List.getElem?_take] at hj
      split at hj
      · rw [Addr.add_lit]
        simp only [World.cell?, hW, hO vb hvw, hv, Nat.zero_add]
        simpa using hj
      · cases hj) (by rw [hvl2, hRl]; omega) h1v
  have hcpB : ∀ (W : World), W.heap = (W1.setRow w.heap.size cur2).heap → ∀ ty dc sc, (Builtin.copy_ #[42, 42] ty #[.slice (some ⟨w.heap.size, (i + m) * 3, none⟩) (n + m - (i + m)) dc, .slice (some ⟨g, i * 3, none⟩) (n - i) sc]).run Tryz.prog W = .ok (goInt ((n - i : Nat) : Int)) (W.setRow w.heap.size cur3) := fun W hW ty dc sc => by
    rw [hcur3]
    exact run_copy_rows (P := Tryz.prog) W 42 42 ty 57 3 w.heap.size ((i + m) * 3) (n + m - (i + m)) dc ⟨g, i * 3, none⟩ (n - i) sc cur2 57 cs (n - i) (by omega) hu hsz (by rw [hW]; exact setRow_heap _ _ _ _ _ _ hN) hcl (fun j v hj => by
      rw [e1, List.getElem?_take] at hj
      split at hj
      · rw [Addr.add_lit]
        simp only [World.cell?, hW, setRow_other _ _ _ _ (Nat.ne_of_lt hbw), hO g hbw, hg]
        simpa using hj
      · cases hj) (by rw [hcl, hs2, hRl]; omega) h1c
  have hGi : ¬ (G = i) := by omega
  have hGim : ¬ (G = i + m) := by omega
  have hci : ¬ (c = i) := by omega
  have hfin : ∀ W : World, W.heap = (W1.setRow w.heap.size cur2).heap → W.os = w.os → W.tape = w.tape → W.output = w.output → ∃ (G' : Nat) (cur4 : Array Value), Ending.returned (.slice (some ⟨w.heap.size, 0, none⟩) (n + m) G) = .returned (.slice (some ⟨w.heap.size, 0, none⟩) (n + m) G') ∧ n + m ≤ G' ∧ G' ≤ maxLen ∧ cur4.size = G' * 3 ∧ cur4.toList.take ((n + m) * 3) = hd ++ vs ++ cs ∧
      (W.setRow w.heap.size cur3).heap[w.heap.size]? = some (.cells cur4 57 (0, 0)) ∧ w.grownBy (W.setRow w.heap.size cur3) none := by
    intro W hW ho ht hou
    refine ⟨G, cur3, rfl, hGn, hG63, by rw [hs3, hRl], ht3, setRow_heap _ _ _ _ _ _ (by rw [hW]; exact setRow_heap _ _ _ _ _ _ hN), ⟨ho, ht, hou, ?_, fun k hk _ => ?_⟩⟩
    · rw [setRow_size, hW, setRow_size, hW1]; exact Nat.le_of_lt (by show w.heap.size < (w.heap.push _).size; rw [Array.size_push]; omega)
    · rw [setRow_other _ _ _ _ (by omega), hW, setRow_other _ _ _ _ (by omega)]; exact hO k hk
  subst hW1
  have mixed : Tryz.prog.follows Departure.mixedOrders = true := by kernel_rfl
  have hE1 : ((w.alloc (.cells ROW 57)).drew).heap = (w.drew.alloc (.cells ROW 57)).heap := rfl
  have hF1 : (((w.alloc (.cells ROW 57)).drew.setRow w.heap.size cur2).drew).heap = ((w.drew.alloc (.cells ROW 57)).setRow w.heap.size cur2).heap := rfl
  clear hkk hik hold hROW hG hRl hcur2 hcur3 hs2 hs3 ht3 hRt
  go_enter Tryz.func123, Tryz.ntmps123
  go_wp2_with (first
    | (at_builtin; refine Lib.wpList_append_run _ rfl _ _ _ _ rfl _ _ rfl rfl _ _ (hrz _) ?_)
    | (at_builtin; refine wpList_copy_runI _ rfl _ _ 42 42 rfl _ _ rfl rfl (hcpA _ hE1 _ _) ?_)
    | (at_builtin; refine wpList_copy_runI _ rfl _ _ 42 42 rfl _ _ rfl rfl (hcpB _ hF1 _ _ _) ?_))
  go_region_law_o (refine step_copy_runI rfl _ _ 42 42 rfl (.slice (some ⟨w.heap.size, (i + m) * 3, none⟩) (n + m - (i + m)) (G - (i + m))) (.slice (some ⟨g, i * 3, none⟩) (n - i) (c - i)) (by simp [Act.eval, Act.put]) (by simp [Act.eval, Act.put]) (hcpB _ hF1 3 (G - (i + m)) (c - i)) ?_)
  go_wp2
  go_ret
  exact hfin _ rfl rfl rfl rfl
set_option maxHeartbeats 1000000 in
theorem c_InsertW (w : World) (s v : Value) (i : Nat) (R V : List (List Value)) (hs : owns w s 57 [.str, .str, .int .i64] R) (hv : owns w v 57 [.str, .str, .int .i64] V) (hne : ∀ k, blockOf s k → blockOf v k → False) (hi : i ≤ R.length) (hb : (R.length + V.length) * 40 ≤ 140737488355328) :
    Calls Tryz.prog 123 #[s, .int .i64 i, v] w fun e w' => ∃ v', e = .returned v' ∧ givesR w w' s v' 57 [.str, .str, .int .i64] (R.take i ++ V ++ R.drop i) := by
  have hs' := hs
  have hv' := hv
  obtain ⟨hk1, hl1, ho⟩ := hs
  obtain ⟨hk2, hl2, hov⟩ := hv
  have hu := Tryz.underlying42
  have hrl1 : ∀ r ∈ R, r.length = 3 := fun r hr => (hk1 r hr).length
  have hrl2 : ∀ r ∈ V, r.length = 3 := fun r hr => (hk2 r hr).length
  obtain ⟨inf, hinf⟩ : ∃ i0, Tryz.prog.info? 57 = some i0 := by
    have : (Tryz.prog.info? 57).isSome = true := by kernel_rfl
    exact Option.isSome_iff_exists.1 this
  have hk : inf.size = 3 := by
    have : (Tryz.prog.info? 57).map (·.size) = some 3 := by kernel_rfl
    rw [hinf] at this; simpa using this
  have hby : inf.bytes = 40 := by
    have : (Tryz.prog.info? 57).map (·.bytes) = some 40 := by kernel_rfl
    rw [hinf] at this; simpa using this
  obtain ⟨z, hz, hzs⟩ : ∃ z, inf.zero = some z ∧ z.cells.size = 3 := by
    have : (Tryz.prog.info? 57).bind (fun i => i.zero.map (fun z => z.cells.size)) = some 3 := by kernel_rfl
    rw [hinf] at this
    simp only [Option.bind_some, Option.map_eq_some_iff] at this
    exact this
  have hbase : ∀ {v : Value} {n : Nat} {xs : List Value}, ((v = .slice none 0 0 ∧ n = 0) ∨ ∃ g cap cur, v = .slice (some ⟨g, 0, none⟩) n cap ∧ 0 ≤ g ∧ w.heap[g]? = some (.cells cur 57 (0, 0)) ∧ n ≤ cap ∧ cap ≤ maxLen ∧ cur.size = cap * 3 ∧ cur.toList.take (n * 3) = xs) → ∃ b c, v = .slice b n c ∧ n ≤ c ∧ (b = none → c = 0) := by
    intro v n xs h
    rcases h with ⟨rfl, rfl⟩ | ⟨g, cap, cur, rfl, -, -, h, -⟩
    · exact ⟨none, 0, rfl, Nat.le_refl _, fun _ => rfl⟩
    · exact ⟨some ⟨g, 0, none⟩, cap, rfl, h, fun h => by cases h⟩
  by_cases hV : V = []
  · subst hV
    obtain ⟨b, c, rfl, hc1, hc2⟩ := hbase ho
    obtain ⟨vb, vc, rfl, -, -⟩ := hbase hov
    refine (insW_none w b R.length c i vb vc hi hc1 hc2).mono ?_
    rintro e w' ⟨rfl, rfl⟩
    exact ⟨_, rfl, by simpa using hs', fun k hk => .inl hk, grown_refl _ _⟩
  have hVl : 0 < V.length := List.length_pos_iff.2 hV
  by_cases hin : i = R.length
  · subst hin
    obtain ⟨b, c, rfl, hc1, hc2⟩ := hbase ho
    obtain ⟨vb, vc, rfl, -, -⟩ := hbase hov
    obtain ⟨v', w', h1, h2, h3, h4⟩ := run_append (ks := [.str, .str, .int .i64]) (ty := 42) hu hinf hz hk hzs hby (by decide) hs' hv'.reads hb (by decide)
    have hrun : ∀ ty, (Builtin.append_ #[42, 42] ty #[.slice b R.length c, .slice vb V.length vc]).run Tryz.prog w = .ok v' w' := fun ty => h1
    refine (insW_end w b R.length c vb V.length vc hVl hc1 hc2 v' w' hrun).mono ?_
    rintro e w1 ⟨rfl, rfl⟩
    exact ⟨_, rfl, by simpa using h2, h4, h3⟩
  have hin : i < R.length := by omega
  rcases ho with ⟨-, hn⟩ | ⟨g, c, cur, rfl, -, hg, hnc, hcm, hcs, htk⟩
  · omega
  rcases hov with ⟨-, hn⟩ | ⟨vb, vc, vcur, rfl, -, hvg, hvn, -, hvs, hvt⟩
  · omega
  replace hcs : cur.size = c * 3 := hcs
  replace hvs : vcur.size = vc * 3 := hvs
  replace htk : cur.toList.take (R.length * 3) = R.flatten := htk
  replace hvt : vcur.toList.take (V.length * 3) = V.flatten := hvt
  replace hl1 : R.flatten.length = R.length * 3 := hl1
  have hcl2 : cur.toList.length = c * 3 := by rw [Array.length_toList]; exact hcs
  replace hl2 : V.flatten.length = V.length * 3 := hl2
  have hvb : vb ≠ g := fun e => hne g rfl (by rw [← e]; rfl)
  have t1 : cur.toList.take (i * 3) = (R.take i).flatten := by
    rw [← flatten_takeI i hrl1, ← htk, List.take_take, Nat.min_eq_left (by omega)]
  have t2 : (cur.toList.drop (i * 3)).take ((R.length - i) * 3) = (R.drop i).flatten := by
    rw [← flatten_dropI i hrl1, ← htk, List.drop_take, Nat.sub_mul]
  have o1 : ∀ x ∈ (R.drop i).flatten, x.oneCell' = true := rows_one fun r hr => hk1 r (List.mem_of_mem_drop hr)
  have o2 : ∀ x ∈ V.flatten, x.oneCell' = true := rows_one hk2
  have hrows : ∀ r ∈ R.take i ++ V ++ R.drop i, rowOk [.str, .str, .int .i64] r := by
    intro r hr
    simp only [List.mem_append] at hr
    rcases hr with (hr | hr) | hr
    · exact hk1 r (List.mem_of_mem_take hr)
    · exact hk2 r hr
    · exact hk1 r (List.mem_of_mem_drop hr)
  have hlen : (R.take i ++ V ++ R.drop i).length = R.length + V.length := by simp; omega
  have hfl : (R.take i ++ V ++ R.drop i).flatten.length = (R.length + V.length) * 3 := by
    have := flatten_length (n := 3) (fun r hr => (hrows r hr).length)
    rw [hlen] at this
    exact this
  by_cases hroom : R.length + V.length ≤ c
  · obtain ⟨cur2, hcur2⟩ : ∃ cur2 : Array Value, cur2 = (cur.toList.take (i * 3) ++ V.flatten ++ (R.drop i).flatten ++ cur.toList.drop ((R.length + V.length) * 3)).toArray := ⟨_, rfl⟩
    refine (insW_shift w g R.length c i vb V.length vc (R.drop i).flatten V.flatten cur vcur cur2 hin hVl hroom hcm hvb hg hcs hvg (by omega) t2.symm hvt.symm o1 o2 (by rw [hcur2])).mono ?_
    rintro e w' ⟨rfl, rfl⟩
    have hgd : w.drew.heap[g]? = some (.cells cur 57 (0, 0)) := hg
    refine ⟨_, rfl, ⟨hrows, ?_, .inr ⟨g, c, cur2, by rw [hlen], Nat.zero_le _, setRow_heap _ _ _ _ _ _ hgd, by omega, hcm, ?_, ?_⟩⟩, fun k hk => .inl hk, ⟨rfl, rfl, rfl, by rw [setRow_size]; exact Nat.le_refl _, fun k hk hkr => setRow_other _ _ _ _ (fun e => hkr (by rw [e]; rfl))⟩⟩
    · rw [hfl, hlen]; rfl
    · show cur2.size = c * 3
      rw [hcur2]
      have : (cur.toList.take (i * 3) ++ V.flatten ++ (R.drop i).flatten).length = (R.length + V.length) * 3 := by
        rw [t1, ← hfl]; simp [List.flatten_append]
      rw [List.size_toArray, List.length_append, this, List.length_drop, hcl2]; omega
    · have : cur.toList.take (i * 3) ++ V.flatten ++ (R.drop i).flatten = (R.take i ++ V ++ R.drop i).flatten := by
        rw [t1]; simp [List.flatten_append]
      show cur2.toList.take (_ * 3) = _
      rw [hcur2, List.toList_toArray, this, hlen, List.take_append_of_le_length (by omega), List.take_of_length_le (by omega)]
  · refine (insW_grow w g R.length c i vb V.length vc (R.take i).flatten (R.drop i).flatten V.flatten cur vcur hin hVl hnc (by omega) (by omega) hg hcs hvg (by omega) t1.symm t2.symm hvt.symm o1 o2).mono ?_
    rintro e w' ⟨G, cur3, rfl, q1, q2, q3, q4, q5, q6⟩
    refine ⟨_, rfl, ⟨hrows, ?_, .inr ⟨w.heap.size, G, cur3, by rw [hlen], Nat.zero_le _, q5, by omega, q2, q3, ?_⟩⟩, fun k hk => .inr ?_, ⟨q6.os, q6.tape, q6.output, q6.size, fun k hk _ => q6.block k hk (by simp)⟩⟩
    · rw [hfl, hlen]; rfl
    · rw [hlen]
      show cur3.toList.take ((R.length + V.length) * 3) = _
      rw [q4]; simp [List.flatten_append]
    · have : w.heap.size = k := Option.some.inj hk
      omega
end Go.Proofs.YtliedecinehijaaGreatDoor
