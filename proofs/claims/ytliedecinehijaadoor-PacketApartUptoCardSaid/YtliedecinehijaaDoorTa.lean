/-
  Topics: levels of a text. By an AI agent.
-/
import Derived.Test.YtliedecinehijaaDoorEnv
import Derived.Test.YtliedecinehijaaDoorTreesT
import Derived.Test.YtliedecinehijaaDoorShelf
set_option linter.unusedSimpArgs false
set_option linter.unusedVariables false
namespace Go.Proofs.YtliedecinehijaaDoor
open Go.Sx

def encS (s : List UInt8) : List Value := [.string ⟨s.toArray⟩]
theorem gS_encS (ps : List (List UInt8)) (i : Nat) : Value.gS (((ps.map encS).getD i []).getD 0 undef) = ps.getD i [] := by
  simp only [List.getD_eq_getElem?_getD, List.getElem?_map]
  cases ps[i]? <;> simp [encS, Value.gS, undef]
abbrev readsS (w : World) (v : Value) (ps : List (List UInt8)) : Prop := reads w v [.str] (ps.map encS)
def freshS (n : Nat) (v : Value) (ps : List (List UInt8)) : Prop := ∀ k, (ps.map encS).flatten ≠ [] ∧ blockOf v k → n ≤ k
theorem dropS (ps : List (List UInt8)) (i : Nat) (h : i < ps.length) : ps.drop i = ps.getD i [] :: ps.drop (i + 1) := by
  rw [List.drop_eq_getElem_cons h, List.getD_eq_getElem?_getD, List.getElem?_eq_getElem h]; rfl
theorem drop_getD' (s : List UInt8) (k : Nat) (h : k < s.length) : s.drop k = s.getD k 0 :: s.drop (k + 1) := by
  rw [List.drop_eq_getElem_cons h, List.getD_eq_getElem?_getD, List.getElem?_eq_getElem h]; rfl
theorem u8_lt' (b : UInt8) : b.toNat < 256 := b.toNat_lt

/-- The levels of a text. -/
def lev : List UInt8 → List (List UInt8)
  | [] => [[]]
  | c :: l => if c = 47 then [] :: lev l else match lev l with | [] => [[c]] | x :: xs => (c :: x) :: xs
def glue (p : List UInt8) : List (List UInt8) → List (List UInt8)
  | [] => []
  | x :: xs => (p ++ x) :: xs
theorem glue_nil (l : List (List UInt8)) : glue [] l = l := by cases l <;> rfl
theorem lev_ne (s : List UInt8) : ∃ x xs, lev s = x :: xs := by
  cases s with
  | nil => exact ⟨[], [], rfl⟩
  | cons c l =>
    simp only [lev]
    split
    · exact ⟨_, _, rfl⟩
    · split <;> exact ⟨_, _, rfl⟩
theorem lev_slash (l : List UInt8) : lev (47 :: l) = [] :: lev l := by simp [lev]
theorem lev_other {c : UInt8} (l : List UInt8) (h : c ≠ 47) : lev (c :: l) = glue [c] (lev l) := by
  obtain ⟨x, xs, e⟩ := lev_ne l
  simp [lev, if_neg h, e, glue]
theorem glue_glue (p q : List UInt8) (l : List (List UInt8)) : glue p (glue q l) = glue (p ++ q) l := by cases l <;> simp [glue]

theorem c_LevelsOf (w : World) (s : List UInt8) (hs : s.length < 1099511627776) : Calls Tryd.prog 33 #[.string ⟨s.toArray⟩] w
    fun e w' => ∃ v, e = .returned (sc1 v) ∧ readsS w' v (lev s) ∧ freshS w.heap.size v (lev s) ∧ Mod [] w w' := by
  refine as_called (run_plain2 (ρ := [.s s]) sxE_ok Tryd.func33 tree_dragomanref_LevelsOf rfl rfl rfl ?_) rfl
  simp only [Tree.goal, X.P, X.ev, V.toI_i, V.toB_b, V.toS_s, V.toR_r, V.toV_v, V.toN_n, V.toL_l, SV.ev, CV.ev, Sc.ev, List.getD_cons_zero, List.getD_cons_succ, List.getElem?_cons_zero, List.getElem?_cons_succ, List.map_cons, List.map_nil, List.length_cons, List.length_nil, List.cons_append, List.nil_append, Nat.zero_add, Nat.reduceAdd]
  refine ⟨fun vs => ∃ (v : Value) (acc : List (List UInt8)) (a i : Nat), vs = [.v v, .r (acc.map encS), .i a, .i i] ∧ acc.length ≤ i ∧
      (i ≤ s.length ∧ a ≤ i ∧ acc ++ glue ((s.take i).drop a) (lev (s.drop i)) = lev s ∨ i = s.length + 1 ∧ acc = lev s), fun vs => s.length + 1 - (vs.getD 3 (.i 0)).toI.toNat, ⟨_, [], 0, 0, rfl, by simp, .inl ⟨by omega, by omega, by simp [glue_nil]⟩⟩, ?_⟩
  rintro _ - ⟨v, acc, a, i, rfl, hal, hinv⟩
  simp only [Tree.goal, X.P, X.ev, V.toI_i, V.toB_b, V.toS_s, V.toR_r, V.toV_v, V.toN_n, V.toL_l, SV.ev, CV.ev, Sc.ev, List.getD_cons_zero, List.getD_cons_succ, List.getElem?_cons_zero, List.getElem?_cons_succ, List.map_cons, List.map_nil, List.length_cons, List.length_nil, List.cons_append, List.nil_append, Nat.zero_add, Nat.reduceAdd, List.length_map, Int.toNat_natCast]
  refine ⟨fun h1 => ?_, fun h1 w' hr => ?_⟩
  · obtain ⟨hi, ha, hg⟩ := hinv.resolve_right fun h => by omega
    refine ⟨.inr (by omega), by omega, fun h2 => ?_, fun h2 => ?_⟩
    · (repeat refine ⟨by omega, ?_⟩)
      intro v1
      refine ⟨by omega, fun v2 => ⟨by omega, by omega, ⟨v2, acc ++ [(s.take i).drop a], i + 1, i + 1, by simp [encS], by simp; omega, ?_⟩, by omega⟩⟩
      by_cases h3 : i = s.length
      · subst h3
        rw [List.drop_length] at hg
        exact .inr ⟨rfl, by rw [← hg]; simp [lev, glue]⟩
      · refine .inl ⟨by omega, by omega, ?_⟩
        have h4 : s.getD i 0 = 47 := by
          have : (s.getD i 0).toNat = 47 := by
            rcases h2 with h2 | h2
            · omega
            · omega
          exact UInt8.toNat_inj.1 this
        rw [drop_getD' s i (by omega), h4, lev_slash] at hg
        have hz : glue ((s.take (i + 1)).drop (i + 1)) (lev (s.drop (i + 1))) = lev (s.drop (i + 1)) := by rw [List.drop_of_length_le (by simp; omega), glue_nil]
        rw [hz, ← hg]
        simp [glue]
    · refine ⟨by omega, by omega, ⟨v, acc, a, i + 1, rfl, by omega, .inl ⟨by omega, by omega, ?_⟩⟩, by omega⟩
      have h4 : s.getD i 0 ≠ 47 := fun h => h2 (.inr (by rw [h]; rfl))
      rw [drop_getD' s i (by omega), lev_other _ h4, glue_glue] at hg
      rw [← hg]
      congr 2
      rw [List.take_add_one, List.drop_append_of_le_length (by simp; omega), List.getD_eq_getElem?_getD]
      rw [List.getElem?_eq_getElem (by omega)]
      rfl
  · obtain ⟨hi, hg⟩ := hinv.resolve_left fun h => by omega
    subst hg
    refine ⟨v, rfl, owns.reads (hr.at_ 0 rfl), fun k hk => ?_, hr.mod⟩
    rcases hr.own _ (List.mem_cons_self ..) rfl k hk.2 with h | h
    · exact h
    · simp at h

theorem lev_miss : ∀ {s : List UInt8}, Lib.indexByte s 47 = -1 → lev s = [s] := by
  intro s
  induction s with
  | nil => intro _; rfl
  | cons c l ih =>
    intro h
    unfold Lib.indexByte at h
    split at h
    · exact absurd h (by decide)
    · rename_i hc
      have hc : c ≠ 47 := by simpa using hc
      split at h
      · rename_i h2
        rw [lev_other _ hc, ih (by simpa using h2)]; rfl
      · have := Lib.indexByte_ge l 47
        omega
theorem lev_hit : ∀ {s : List UInt8} {i : Nat}, Lib.indexByte s 47 = i → lev s = s.take i :: lev (s.drop (i + 1)) ∧ s.count 47 = (s.drop (i + 1)).count 47 + 1 := by
  intro s
  induction s with
  | nil => intro i h; unfold Lib.indexByte at h; omega
  | cons c l ih =>
    intro i h
    unfold Lib.indexByte at h
    split at h
    · rename_i hc
      have hc : c = 47 := by simpa using hc
      have : i = 0 := by omega
      subst this hc
      rw [lev_slash]
      simp
    · rename_i hc
      have hc : c ≠ 47 := by simpa using hc
      split at h
      · omega
      · rename_i h2
        have h3 := Lib.indexByte_ge l 47
        have h2 : ¬ Lib.indexByte l 47 = -1 := by simpa using h2
        obtain ⟨j, hj⟩ : ∃ j : Nat, Lib.indexByte l 47 = j := ⟨(Lib.indexByte l 47).toNat, by omega⟩
        have hij : i = j + 1 := by omega
        subst hij
        obtain ⟨e1, e2⟩ := ih hj
        rw [lev_other _ hc, e1]
        refine ⟨by simp [glue], ?_⟩
        rw [List.count_cons_of_ne hc, e2]; simp
theorem splitK_lev : ∀ (k : Nat) (s : List UInt8), s.count 47 = k → Lib.splitK [47] 0 k s = lev s := by
  intro k
  induction k with
  | zero =>
    intro s h
    unfold Lib.splitK
    refine (lev_miss ?_).symm
    rcases Int.lt_or_le (Lib.indexByte s 47) 0 with h1 | h1
    · have := Lib.indexByte_ge s 47; omega
    · obtain ⟨i, hi⟩ : ∃ i : Nat, Lib.indexByte s 47 = i := ⟨(Lib.indexByte s 47).toNat, by omega⟩
      have := (lev_hit hi).2
      omega
  | succ k ih =>
    intro s h
    unfold Lib.splitK
    rw [Lib.index_one]
    by_cases h1 : Lib.indexByte s 47 = -1
    · rw [if_pos (by simpa using h1), lev_miss h1]
    · rw [if_neg (by simpa using h1)]
      obtain ⟨i, hi⟩ : ∃ i : Nat, Lib.indexByte s 47 = i := ⟨(Lib.indexByte s 47).toNat, by have h5 := Lib.indexByte_ge s 47; have h6 : ¬ Lib.indexByte s 47 = -1 := h1; omega⟩
      obtain ⟨e1, e2⟩ := lev_hit hi
      rw [hi, e1, ← ih (s.drop (i + 1)) (by omega)]
      simp

/-- strings.Split at a slash: what it hands back. -/
theorem c_genSplit (w : World) (s : List UInt8) (hs : s.length < 4294967281) : Calls Tryd.prog 146 #[.string ⟨s.toArray⟩, .string ⟨#[47]⟩, .int .i64 0, .int .i64 (-1)] w
    fun e w' => ∃ v, e = .returned (sc1 v) ∧ readsS w' v (lev s) ∧ freshS w.heap.size v (lev s) ∧ Mod [] w w' := by
  have hsz : (⟨s.toArray⟩ : ByteArray).size = s.length := rfl
  have hcount : Lib.countB ⟨s.toArray⟩ ⟨#[47]⟩ = s.count 47 := Lib.count_one 47 s
  have hc1 : s.count 47 ≤ s.length := List.count_le_length
  have c := Any.strings_genSplit_core Tryd.lays221 (by kernel_rfl) ⟨s.toArray⟩ ⟨#[47]⟩ 0 (-1) (s.count 47 + 1) w (by rw [hsz]; exact hs) (by decide) (Nat.zero_le _)
    (fun x c hx => (Any.strings_Index_one { Tryd.lays221 with } x 47 _).mono fun e w' ⟨h1, h2⟩ => ⟨by rw [h1]; show _ = Ending.returned (Value.int .i64 (Lib.index x.data.toList [47])); rw [Lib.index_one], h2⟩)
    ((Any.strings_Count_one { Tryd.lays221 with } ⟨s.toArray⟩ 47 w).mono fun e w' ⟨h1, h2⟩ => ⟨by rw [h1, hcount]; rfl, h2⟩) (by decide) (by decide) (by rw [if_pos (by decide), hcount, hsz]; omega)
  refine (as_called c rfl).mono ?_
  rintro e w' ⟨rfl, rfl⟩
  rw [Nat.add_sub_cancel]
  have hdata := Lib.splitB_data ⟨#[47]⟩ 0 (s.count 47) ⟨s.toArray⟩
  have hlev : (Lib.splitB ⟨#[47]⟩ 0 (s.count 47) ⟨s.toArray⟩).map (·.data.toList) = lev s := hdata.trans (splitK_lev _ s rfl)
  have hlen := Lib.splitB_all ⟨#[47]⟩ (by decide) 0 (s.count 47) ⟨s.toArray⟩ hcount
  generalize Lib.splitB ⟨#[47]⟩ 0 (s.count 47) ⟨s.toArray⟩ = pcs at hlev hlen
  rw [hlen]
  have hll : (lev s).length = s.count 47 + 1 := by rw [← hlev, List.length_map, hlen]
  have hfull : Lib.cellsOf pcs (s.count 47 + 1) = (pcs.map Value.string).toArray := by rw [← hlen]; exact Lib.cellsOf_full _
  have hrow : (lev s).map encS = pcs.map fun b => [Value.string b] := by
    rw [← hlev, List.map_map]
    refine List.map_congr_left fun b _ => ?_
    obtain ⟨⟨l⟩⟩ := b
    rfl
  have hfl : (pcs.map fun b => [Value.string b]).flatten = pcs.map Value.string := by
    clear hlev hlen hfull hrow
    induction pcs <;> simp_all
  refine ⟨.slice (some ⟨w.heap.size, 0, none⟩) (s.count 47 + 1) (s.count 47 + 1), rfl, ⟨?_, some ⟨w.heap.size, 0, none⟩, s.count 47 + 1, by rw [List.length_map, hll], ⟨(fun h => by cases h), by rw [List.length_map, hll]; exact Nat.le_refl _⟩, fun _ => ⟨_, rfl, fun j u hj => ?_⟩⟩, fun k hk => ?_, Mod.alloc [] w _⟩
  · intro r hr
    obtain ⟨x, -, rfl⟩ := List.mem_map.1 hr
    exact ⟨⟨_, rfl⟩, trivial⟩
  · rw [hrow, hfl] at hj
    rw [add_mk, Nat.zero_add, hfull]
    exact (World.cell?_alloc_new ..).trans (by simpa using hj)
  · have h := hk.2
    simp only [blockOf, Value.ownBlock, Option.some.injEq] at h
    omega
end Go.Proofs.YtliedecinehijaaDoor
