/-
  Wants: Check, Raw, Add, Drop, Leave, walked. By an AI agent.
-/
import Derived.Test.YtliedecinehijaaGreatDoorZ09
import Derived.Test.YtliedecinehijaaGreatDoorZ13
import Derived.Test.YtliedecinehijaaGreatDoorZ14
import Derived.Shelf.SlSortCmp.WholeK
import Derived.Sort.OwnSorted
import Derived.Ground.SlsfProg
import Derived.Test.YtliedecinehijaaGreatDoorProg
import Derived.Maps.RangeWalk
import Derived.Maps.OwnOps
import Derived.Sort.KeysCollected
import Derived.WalkKit
import Derived.Test.YtliedecinehijaaGreatDoorZ07
set_option linter.unusedSimpArgs false
set_option linter.unusedVariables false
namespace Go.Proofs.YtliedecinehijaaGreatDoor
open Go.Sx
abbrev wV (x : Wt) : Value := .agg #[.string ⟨x.1.toArray⟩, .string ⟨x.2.1.toArray⟩, .int .i64 x.2.2]

theorem c_Or (w : World) (v : Value) (x y : Int) (hv : reads w v [.int .i64] [[.int .i64 x], [.int .i64 y]]) : Calls Tryz.prog 133 #[sc1 v] w fun e w' => e = .returned (.int .i64 (if x = 0 then y else x)) ∧ Mod [] w w' := by
  refine as_called (run_tree2 (ρ := [.v v, .r [[.int .i64 x], [.int .i64 y]]]) sxE_ok Tryz.func133 tree_cmp_Or_int rfl rfl (Rel.start2 (by simp [Ent.holds, Ent.wr, hv, X.ev])) rfl rfl ?_) rfl
  simp only [Tree.goal, X.P, X.ev, V.toI_i, V.toB_b, V.toS_s, V.toR_r, V.toV_v, V.toN_n, V.toL_l, SV.ev, CV.ev, Sc.ev, List.getD_cons_zero, List.getD_cons_succ, List.getElem?_cons_zero, List.getElem?_cons_succ, List.map_cons, List.map_nil, List.length_cons, List.length_nil, List.cons_append, List.nil_append, Nat.zero_add, Nat.reduceAdd]
  refine ⟨fun vs => ∃ (i : Nat) (u : V), vs = [u, .i i] ∧ i ≤ 2 ∧ (1 ≤ i → x = 0) ∧ (2 ≤ i → y = 0), fun vs => 2 - (vs.getD 1 (.i 0)).toI.toNat, ⟨0, _, rfl, by omega, fun h => by omega, fun h => by omega⟩, ?_⟩
  rintro _ - ⟨i, u, rfl, hi, h1, h2⟩
  have h3 : i = 0 ∨ i = 1 ∨ i = 2 := by omega
  rcases h3 with rfl | rfl | rfl
  · simp only [Tree.goal, X.P, X.ev, V.toI_i, V.toB_b, V.toS_s, V.toR_r, V.toV_v, V.toN_n, V.toL_l, SV.ev, CV.ev, Sc.ev, List.getD_cons_zero, List.getD_cons_succ, List.getElem?_cons_zero, List.getElem?_cons_succ, List.map_cons, List.map_nil, List.length_cons, List.length_nil, List.cons_append, List.nil_append, Nat.zero_add, Nat.reduceAdd]
    refine ⟨fun _ => ⟨by omega, fun h w' hr => ⟨?_, hr.mod⟩, fun h => ⟨by omega, by omega, ⟨1, _, rfl, by omega, fun _ => ?_, fun h => by omega⟩, by simp⟩⟩, fun h => by simp at h⟩
    · rw [if_neg (show ¬ x = 0 from h)]; rfl
    · exact Classical.not_not.1 h
  · have hx := h1 (Nat.le_refl _)
    simp only [Tree.goal, X.P, X.ev, V.toI_i, V.toB_b, V.toS_s, V.toR_r, V.toV_v, V.toN_n, V.toL_l, SV.ev, CV.ev, Sc.ev, List.getD_cons_zero, List.getD_cons_succ, List.getElem?_cons_zero, List.getElem?_cons_succ, List.map_cons, List.map_nil, List.length_cons, List.length_nil, List.cons_append, List.nil_append, Nat.zero_add, Nat.reduceAdd]
    refine ⟨fun _ => ⟨by omega, fun h w' hr => ⟨?_, hr.mod⟩, fun h => ⟨by omega, by omega, ⟨2, _, rfl, by omega, fun _ => hx, fun _ => ?_⟩, by simp⟩⟩, fun h => by simp at h⟩
    · rw [if_pos hx]; rfl
    · exact Classical.not_not.1 h
  · have hx := h1 (by omega)
    have hy := h2 (by omega)
    simp only [Tree.goal, X.P, X.ev, V.toI_i, V.toB_b, V.toS_s, V.toR_r, V.toV_v, V.toN_n, V.toL_l, SV.ev, CV.ev, Sc.ev, List.getD_cons_zero, List.getD_cons_succ, List.getElem?_cons_zero, List.getElem?_cons_succ, List.map_cons, List.map_nil, List.length_cons, List.length_nil, List.cons_append, List.nil_append, Nat.zero_add, Nat.reduceAdd]
    refine ⟨fun h => by simp at h, fun _ w' hr => ⟨?_, hr.mod⟩⟩
    rw [if_pos hx, hy]
theorem c_order (w : World) (a b : Wt) : Calls Tryz.prog 79 #[wV a, wV b] w fun e w' => e = .returned (.int .i64 (cmpP (ky a) (ky b))) ∧ Mod [] w w' := by
  refine as_called (run_plain2 (ρ := [.s a.1, .s a.2.1, .i a.2.2, .s b.1, .s b.2.1, .i b.2.2]) (sxE_ok.joins _) Tryz.func79 tree_want_order rfl rfl rfl ?_) rfl
  simp only [Tree.goal, X.P, X.ev, V.toI_i, V.toB_b, V.toS_s, V.toR_r, V.toV_v, V.toN_n, V.toL_l, SV.ev, CV.ev, Sc.ev, List.getD_cons_zero, List.getD_cons_succ, List.getElem?_cons_zero, List.getElem?_cons_succ, List.map_cons, List.map_nil, List.length_cons, List.length_nil, List.cons_append, List.nil_append, Nat.zero_add, Nat.reduceAdd]
  intro b1 b2
  refine ⟨[.i (cmpB a.1 b.1)], rfl, fun _ w' _ => c_Compare w' _ _, ?_⟩
  simp only [Tree.goal, X.P, X.ev, V.toI_i, V.toB_b, V.toS_s, V.toR_r, V.toV_v, V.toN_n, V.toL_l, SV.ev, CV.ev, Sc.ev, List.getD_cons_zero, List.getD_cons_succ, List.getElem?_cons_zero, List.getElem?_cons_succ, List.map_cons, List.map_nil, List.length_cons, List.length_nil, List.cons_append, List.nil_append, Nat.zero_add, Nat.reduceAdd]
  refine ⟨[.i (cmpB a.2.1 b.2.1)], rfl, fun _ w' _ => c_Compare w' _ _, ?_⟩
  simp only [Tree.goal, X.P, X.ev, V.toI_i, V.toB_b, V.toS_s, V.toR_r, V.toV_v, V.toN_n, V.toL_l, SV.ev, CV.ev, Sc.ev, List.getD_cons_zero, List.getD_cons_succ, List.getElem?_cons_zero, List.getElem?_cons_succ, List.map_cons, List.map_nil, List.length_cons, List.length_nil, List.cons_append, List.nil_append, Nat.zero_add, Nat.reduceAdd]
  intro v
  refine ⟨[.i (cmpP (ky a) (ky b))], rfl, fun _ w' hr => c_Or w' v _ _ (hr.at_ 0 rfl).reads, ?_⟩
  simp only [Tree.goal, X.P, X.ev, V.toI_i, V.toB_b, V.toS_s, V.toR_r, V.toV_v, V.toN_n, V.toL_l, SV.ev, CV.ev, Sc.ev, List.getD_cons_zero, List.getD_cons_succ, List.getElem?_cons_zero, List.getElem?_cons_succ, List.map_cons, List.map_nil, List.length_cons, List.length_nil, List.cons_append, List.nil_append, Nat.zero_add, Nat.reduceAdd]
  exact fun w' hr => ⟨by trivial, hr.mod⟩
/-- What is wrong with one want. -/
def oneE (x : Wt) : Int := if cliB x.1 = true then askE (x.2.1, x.2.2) else 1
theorem c_one (w : World) (x : Wt) (hs : smW x) : Calls Tryz.prog 67 #[wV x] w fun e w' => e = .returned (.int .i64 (oneE x)) ∧ Mod [] w w' := by
  have h1 := hs.1
  have h2 := hs.2
  refine as_called (run_plain2 (ρ := [.s x.1, .s x.2.1, .i x.2.2]) sxE_ok Tryz.func67 tree_want_one rfl rfl rfl ?_) rfl
  simp only [Tree.goal, X.P, X.ev, V.toI_i, V.toB_b, V.toS_s, V.toR_r, V.toV_v, V.toN_n, V.toL_l, SV.ev, CV.ev, Sc.ev, List.getD_cons_zero, List.getD_cons_succ, List.getElem?_cons_zero, List.getElem?_cons_succ, List.map_cons, List.map_nil, List.length_cons, List.length_nil, List.cons_append, List.nil_append, Nat.zero_add, Nat.reduceAdd]
  intro b1
  refine ⟨[.b (cliB x.1)], rfl, fun _ w' _ => c_PClient w' _ (by omega), ?_⟩
  simp only [Tree.goal, X.P, X.ev, V.toI_i, V.toB_b, V.toS_s, V.toR_r, V.toV_v, V.toN_n, V.toL_l, SV.ev, CV.ev, Sc.ev, List.getD_cons_zero, List.getD_cons_succ, List.getElem?_cons_zero, List.getElem?_cons_succ, List.map_cons, List.map_nil, List.length_cons, List.length_nil, List.cons_append, List.nil_append, Nat.zero_add, Nat.reduceAdd]
  refine ⟨fun h w' hr => ⟨by rw [oneE, if_neg h], hr.mod⟩, fun h => ?_⟩
  have h := Classical.not_not.1 h
  refine ⟨[.i (askE (x.2.1, x.2.2))], rfl, fun _ w' _ => c_PAsk w' (x.2.1, x.2.2) h2, ?_⟩
  simp only [Tree.goal, X.P, X.ev, V.toI_i, V.toB_b, V.toS_s, V.toR_r, V.toV_v, V.toN_n, V.toL_l, SV.ev, CV.ev, Sc.ev, List.getD_cons_zero, List.getD_cons_succ, List.getElem?_cons_zero, List.getElem?_cons_succ, List.map_cons, List.map_nil, List.length_cons, List.length_nil, List.cons_append, List.nil_append, Nat.zero_add, Nat.reduceAdd]
  exact fun w' hr => ⟨by rw [oneE, if_pos h], hr.mod⟩
/-- What is wrong with wants behind one. -/
def chkWr : Option Ky → List Wt → Int
  | _, [] => 0
  | p, k :: l => if oneE k ≠ 0 then oneE k else if (p.any fun t => !(ltP t (ky k))) = true then 4 else chkWr (some (ky k)) l
def chkW (l : List Wt) : Int := if 20 < (l.length : Int) then 2 else chkWr none l
def prevW (l : List Wt) (i : Nat) : Option Ky := if i = 0 then none else some (ky (l.getD (i - 1) wD))
theorem prevW_any (l : List Wt) (i : Nat) : ((prevW l i).any fun t => !(ltP t (ky (l.getD i wD)))) = true ↔ (0 < (i : Int) ∧ 0 ≤ cmpP (ky (l.getD (i - 1) wD)) (ky (l.getD i wD))) := by
  unfold prevW
  rw [cmpP_ge]
  by_cases h : i = 0
  · simp [h]
  · rw [if_neg h]
    simp only [Option.any_some, Bool.not_eq_true']
    exact ⟨fun h2 => ⟨by omega, h2⟩, fun h2 => h2.2⟩
theorem chkWr_step {l : List Wt} {i : Nat} (h : i < l.length) : chkWr (prevW l i) (l.drop i) = if oneE (l.getD i wD) ≠ 0 then oneE (l.getD i wD)
    else if 0 < (i : Int) ∧ 0 ≤ cmpP (ky (l.getD (i - 1) wD)) (ky (l.getD i wD)) then 4 else chkWr (prevW l (i + 1)) (l.drop (i + 1)) := by
  rw [dropW l i h, chkWr]
  simp only [prevW_any]
  rfl
set_option maxHeartbeats 1000000 in
theorem c_CheckW (w : World) (v : Value) (l : List Wt) (hv : readsW w v l) (hs : smallW l) (hl : l.length < 1000000000) : Calls Tryz.prog 31 #[sc1 v] w
    fun e w' => e = .returned (.int .i64 (chkW l)) ∧ Mod [] w w' := by
  refine as_called (run_tree2 (ρ := [.v v, .r (l.map encW)]) sxE_ok Tryz.func31 tree_want_Check rfl rfl (Rel.start2 (by simp [Ent.holds, Ent.wr, hv, X.ev])) rfl rfl ?_) rfl
  simp only [Tree.goal, X.P, X.ev, V.toI_i, V.toB_b, V.toS_s, V.toR_r, V.toV_v, V.toN_n, V.toL_l, SV.ev, CV.ev, Sc.ev, List.getD_cons_zero, List.getD_cons_succ, List.getElem?_cons_zero, List.getElem?_cons_succ, List.map_cons, List.map_nil, List.length_cons, List.length_nil, List.cons_append, List.nil_append, Nat.zero_add, Nat.reduceAdd, List.length_map, Int.toNat_natCast, gW0, gW1, gW2]
  refine ⟨fun h w' hr => ⟨by rw [chkW, if_pos h], hr.mod⟩, fun h => ?_⟩
  rw [chkW, if_neg h]
  refine ⟨fun vs => ∃ (i : Nat) (x : V), vs = [x, .i i] ∧ i ≤ l.length ∧ chkWr (prevW l i) (l.drop i) = chkWr none l, fun vs => l.length - (vs.getD 1 (.i 0)).toI.toNat, ⟨0, _, rfl, by omega, rfl⟩, ?_⟩
  rintro _ - ⟨i, x, rfl, hi, hg⟩
  simp only [Tree.goal, X.P, X.ev, V.toI_i, V.toB_b, V.toS_s, V.toR_r, V.toV_v, V.toN_n, V.toL_l, SV.ev, CV.ev, Sc.ev, List.getD_cons_zero, List.getD_cons_succ, List.getElem?_cons_zero, List.getElem?_cons_succ, List.map_cons, List.map_nil, List.length_cons, List.length_nil, List.cons_append, List.nil_append, Nat.zero_add, Nat.reduceAdd, List.length_map, Int.toNat_natCast, gW0, gW1, gW2]
  have hi1 : ((i : Int) - 1).toNat = i - 1 := by omega
  try rw [hi1]
  refine ⟨fun h1 => ⟨by omega, fun b => ?_⟩, fun h1 w' hr => ⟨?_, hr.mod⟩⟩
  · rw [chkWr_step (by omega)] at hg
    refine ⟨[.i (oneE (l.getD i wD))], rfl, fun _ w' _ => c_one w' _ (smallW_at hs i), ?_⟩
    simp only [Tree.goal, X.P, X.ev, V.toI_i, V.toB_b, V.toS_s, V.toR_r, V.toV_v, V.toN_n, V.toL_l, SV.ev, CV.ev, Sc.ev, List.getD_cons_zero, List.getD_cons_succ, List.getElem?_cons_zero, List.getElem?_cons_succ, List.map_cons, List.map_nil, List.length_cons, List.length_nil, List.cons_append, List.nil_append, Nat.zero_add, Nat.reduceAdd, List.length_map, Int.toNat_natCast, gW0, gW1, gW2]
    try rw [hi1]
    refine ⟨fun h2 w' hr => ⟨?_, hr.mod⟩, fun h2 => ⟨by omega, by omega, by omega, by omega, ?_⟩⟩
    · rw [if_pos h2] at hg; rw [← hg]
    · rw [if_neg h2] at hg
      refine ⟨[.i (cmpP (ky (l.getD (i - 1) wD)) (ky (l.getD i wD)))], rfl, fun _ w' _ => c_order w' (l.getD (i - 1) wD) (l.getD i wD), ?_⟩
      simp only [Tree.goal, X.P, X.ev, V.toI_i, V.toB_b, V.toS_s, V.toR_r, V.toV_v, V.toN_n, V.toL_l, SV.ev, CV.ev, Sc.ev, List.getD_cons_zero, List.getD_cons_succ, List.getElem?_cons_zero, List.getElem?_cons_succ, List.map_cons, List.map_nil, List.length_cons, List.length_nil, List.cons_append, List.nil_append, Nat.zero_add, Nat.reduceAdd]
      refine ⟨fun h6 w' hr => ⟨?_, hr.mod⟩, fun h6 => ⟨by omega, by omega, ⟨i + 1, x, rfl, by omega, ?_⟩, by omega⟩⟩
      · rw [if_pos h6] at hg; rw [← hg]
      · rw [if_neg h6] at hg; exact hg
  · have : i = l.length := by omega
    subst this
    rw [List.drop_length] at hg
    rw [← hg]; rfl
/-- One want is right. -/
theorem chkWr_iff : ∀ (l : List Wt) (p : Option Ky), chkWr p l = 0 ↔ (∀ k ∈ l, oneE k = 0) ∧ sortW l ∧ ∀ t, p = some t → ∀ k ∈ l, ltP t (ky k) = true
  | [], p => by simp [chkWr, sortW]
  | k :: l, p => by
    rw [chkWr]
    constructor
    · intro h
      split at h
      · exact absurd h (by assumption)
      rename_i h1
      split at h
      · exact absurd h (by decide)
      rename_i h5
      obtain ⟨i1, i2, i3⟩ := (chkWr_iff l (some (ky k))).1 h
      refine ⟨fun x hx => ?_, List.pairwise_cons.2 ⟨fun x hx => i3 _ rfl x hx, i2⟩, fun t ht x hx => ?_⟩
      · rcases List.mem_cons.1 hx with rfl | hx
        · exact Classical.not_not.1 h1
        · exact i1 x hx
      · subst ht
        have h6 : ltP t (ky k) = true := by simpa using h5
        rcases List.mem_cons.1 hx with rfl | hx
        · exact h6
        · exact ltP_trans h6 (i3 _ rfl x hx)
    · rintro ⟨i1, i2, i3⟩
      obtain ⟨j1, j2⟩ := List.pairwise_cons.1 i2
      rw [if_neg (by simpa using i1 k (List.mem_cons_self ..)), if_neg]
      · exact (chkWr_iff l (some (ky k))).2 ⟨fun x hx => i1 x (List.mem_cons_of_mem _ hx), j2, fun t ht x hx => by cases ht; exact j1 x hx⟩
      · cases p with
        | none => simp
        | some t => simpa using i3 t rfl k (List.mem_cons_self ..)
theorem chkW_iff {l : List Wt} : chkW l = 0 ↔ l.length ≤ 20 ∧ (∀ k ∈ l, oneE k = 0) ∧ sortW l := by
  unfold chkW
  constructor
  · intro h
    split at h
    · exact absurd h (by decide)
    · obtain ⟨a, b, -⟩ := (chkWr_iff l none).1 h
      exact ⟨by omega, a, b⟩
  · rintro ⟨a, b, c⟩
    rw [if_neg (by omega)]
    exact (chkWr_iff l none).2 ⟨b, c, fun t ht => by cases ht⟩

theorem nil_rowsW {v : Value} (hn : (match v with | .slice none _ _ => true | _ => false) = true) {w : World} {ks : List Kd} {rows : List (List Value)} (h : reads w v ks rows) : rows = [] := by
  obtain ⟨_, a, cap, rfl, _, h2⟩ := h
  refine Classical.byContradiction fun hne => ?_
  obtain ⟨ad, rfl, _⟩ := h2 hne
  simp at hn
theorem c_CloneW (w : World) (v : Value) (l : List Wt) (hv : readsW w v l) (hl : l.length < 1000000000) : Calls Tryz.prog 121 #[sc1 v] w
    fun e w' => ∃ v', e = .returned (sc1 v') ∧ ownsW w' v' l ∧ (∀ k, blockOf v' k → w.heap.size ≤ k) ∧ Mod [] w w' := by
  refine as_called (run_tree2 (ρ := [.v v, .r (l.map encW)]) sxE_ok Tryz.func121 tree_slices_Clone_api_Want_api_Want rfl rfl (Rel.start2 (by simp [Ent.holds, Ent.wr, hv, X.ev])) rfl rfl ?_) rfl
  simp only [Tree.goal, X.P, X.ev, V.toI_i, V.toB_b, V.toS_s, V.toR_r, V.toV_v, V.toN_n, V.toL_l, SV.ev, CV.ev, Sc.ev, List.getD_cons_zero, List.getD_cons_succ, List.getElem?_cons_zero, List.getElem?_cons_succ, List.map_cons, List.map_nil, List.length_cons, List.length_nil, List.cons_append, List.nil_append, Nat.zero_add, Nat.reduceAdd, List.length_map, List.nil_append]
  refine ⟨fun h w' hr => ?_, fun h v1 => ⟨by simp only [Int.natCast_zero]; omega, fun v2 w' hr => ?_⟩⟩
  · have hn : l = [] := List.map_eq_nil_iff.1 (nil_rowsW h hv)
    subst hn
    exact ⟨_, rfl, hr.at_ 0 rfl, hr.fresh 0 rfl, hr.mod⟩
  · exact ⟨v2, rfl, hr.at_ 0 rfl, hr.fresh 0 rfl, hr.mod⟩
theorem c_InsW (w : World) (s v : Value) (l : List Wt) (x : Wt) (i : Nat) (hs : ownsW w s l) (hv : ownsW w v [x]) (hne : ∀ k, blockOf s k → blockOf v k → False) (hi : i ≤ l.length) (hl : l.length < 1000000) :
    Calls Tryz.prog 123 #[sc1 s, .int .i64 i, sc1 v] w
    fun e w' => ∃ v', e = .returned (sc1 v') ∧ ownsW w' v' (l.take i ++ [x] ++ l.drop i) ∧ (∀ k, blockOf v' k → blockOf s k ∨ w.heap.size ≤ k) ∧ Mod s.ownBlock.toList w w' := by
  rw [hs.reads.sc1, hv.reads.sc1]
  refine (c_InsertW w s v i _ _ hs hv hne (by simpa using hi) (by simp; omega)).mono ?_
  rintro e w' ⟨v', rfl, g1, g2, g3⟩
  refine ⟨v', by rw [g1.reads.sc1], ?_, g2, Mod.of_grown g3 fun k hk => .inl (Option.mem_toList.2 hk)⟩
  rw [ownsW, List.map_append, List.map_append, List.map_take, List.map_drop]
  exact g1
theorem gone_ofW {ρ : List V} {g : List Nat} {i : Nat} (hi : i ∈ g) {k : Nat} (h : blockOf (ρ.getD i (.i 0)).toV k) : k ∈ goneOf ρ g := List.mem_flatMap.2 ⟨i, hi, by rw [h]; simp⟩
/-- A slice is new. -/
def newW (n : Nat) (u : Value) : Prop := ∀ k, blockOf u k → n ≤ k
theorem newW_nil (n : Nat) : newW n (.slice none 0 0) := fun k hk => by simp [blockOf, Value.ownBlock] at hk
theorem newW_le {n m : Nat} {x : Value} (h : newW m x) (hm : n ≤ m) : newW n x := fun k hk => Nat.le_trans hm (h k hk)
theorem readsW_nil (w : World) : readsW w (.slice none 0 0) [] := ⟨by simp, none, 0, rfl, ⟨fun _ => rfl, Nat.le_refl _⟩, fun h => absurd rfl h⟩
/-- Wants come, and an error. -/
def gotW (w w' : World) (e : Ending) (r : List Wt) (er : Int) : Prop := ∃ v', e = .returned (.tuple #[sc1 v', .int .i64 er]) ∧ readsW w' v' r ∧ newW w.heap.size v' ∧ Mod [] w w'
def rawW (l : List Wt) (x : Wt) : List Wt × Int :=
  if hasW l (ky x) = true then (l.set (idxW l (ky x)) x, 0)
  else if (l.length : Int) = 20 then ([], 2) else (l.take (idxW l (ky x)) ++ [x] ++ l.drop (idxW l (ky x)), 0)
theorem set_rowW (R : List Wt) (m : Nat) (x : Wt) : (R.map encW).set m [.string ⟨x.1.toArray⟩, .string ⟨x.2.1.toArray⟩, .int .i64 x.2.2] = (R.set m x).map encW := by rw [List.map_set]; rfl
set_option maxHeartbeats 1000000 in
theorem c_RawW (w : World) (v : Value) (l : List Wt) (x : Wt) (hv : readsW w v l) (hs : sortW l) (hl : l.length ≤ 20) : Calls Tryz.prog 68 #[sc1 v, wV x] w
    fun e w' => gotW w w' e (rawW l x).1 (rawW l x).2 := by
  refine as_called (run_tree2 (ρ := [.v v, .r (l.map encW), .s x.1, .s x.2.1, .i x.2.2]) sxE_ok Tryz.func68 tree_want_Raw rfl rfl (Rel.start2 (by simp [Ent.holds, Ent.wr, hv, X.ev])) rfl rfl ?_) rfl
  simp only [Tree.goal, X.P, X.ev, V.toI_i, V.toB_b, V.toS_s, V.toR_r, V.toV_v, V.toN_n, V.toL_l, SV.ev, CV.ev, Sc.ev, List.getD_cons_zero, List.getD_cons_succ, List.getElem?_cons_zero, List.getElem?_cons_succ, List.map_cons, List.map_nil, List.length_cons, List.length_nil, List.cons_append, List.nil_append, Nat.zero_add, Nat.reduceAdd, List.length_map, Int.toNat_natCast, gW0, gW1, gW2]
  intro b1 w1 hr
  refine (c_CloneW w1 v l (by (first | exact hr.at_ 0 rfl | exact hr.at_ 1 rfl | exact hr.at_ 2 rfl | exact hr.at_ 3 rfl | exact hr.at_ 4 rfl | exact hr.at_ 5 rfl | exact hr.at_ 6 rfl | exact hr.at_ 7 rfl | exact hr.at_ 8 rfl)) (by omega)).mono ?_
  rintro e w2 ⟨u, rfl, a1, f1, m1⟩
  refine ⟨[.v u, .r (l.map encW)], rfl, rfl, m1, List.forall_mem_nil _, List.forall_mem_cons.2 ⟨⟨a1, fun k hk => .inl (f1 k hk)⟩, List.forall_mem_nil _⟩, apart_one, ?_⟩
  clear hr a1 f1 m1
  simp only [Tree.goal, X.P, X.ev, V.toI_i, V.toB_b, V.toS_s, V.toR_r, V.toV_v, V.toN_n, V.toL_l, SV.ev, CV.ev, Sc.ev, List.getD_cons_zero, List.getD_cons_succ, List.getElem?_cons_zero, List.getElem?_cons_succ, List.map_cons, List.map_nil, List.length_cons, List.length_nil, List.cons_append, List.nil_append, Nat.zero_add, Nat.reduceAdd, List.length_map, Int.toNat_natCast, gW0, gW1, gW2]
  intro b3
  refine ⟨fun vs => ∃ (i j : Nat), vs = [.i i, .i j] ∧ i ≤ j ∧ j ≤ l.length ∧ (∀ k, k < i → ltP (ky (l.getD k wD)) (ky x) = true) ∧ (∀ k, j ≤ k → k < l.length → ltP (ky (l.getD k wD)) (ky x) = false), fun vs => (vs.getD 1 (.i 0)).toI.toNat - (vs.getD 0 (.i 0)).toI.toNat, ⟨0, l.length, rfl, by omega, by omega, fun k hk => by omega, fun k h1 h2 => by omega⟩, ?_⟩
  rintro _ - ⟨i, j, rfl, hij, hj, hA, hB⟩
  simp only [Tree.goal, X.P, X.ev, V.toI_i, V.toB_b, V.toS_s, V.toR_r, V.toV_v, V.toN_n, V.toL_l, SV.ev, CV.ev, Sc.ev, List.getD_cons_zero, List.getD_cons_succ, List.getElem?_cons_zero, List.getElem?_cons_succ, List.map_cons, List.map_nil, List.length_cons, List.length_nil, List.cons_append, List.nil_append, Nat.zero_add, Nat.reduceAdd, List.length_map, Int.toNat_natCast, gW0, gW1, gW2]
  refine ⟨fun h1 => ?_, fun h1 => ?_⟩
  · rw [halfW i j (by omega)]
    obtain ⟨h, hh⟩ : ∃ h, h = (i + j) / 2 := ⟨_, rfl⟩
    rw [← hh]
    have hh1 : i ≤ h ∧ h < j := by omega
    simp only [Int.toNat_natCast, gW0, gW1, gW2]
    refine ⟨by omega, by omega, by omega, by omega, by omega, by omega, ?_⟩
    refine ⟨[.i (cmpP (ky (l.getD h wD)) (ky x))], rfl, fun _ w' _ => c_order w' (l.getD h wD) x, ?_⟩
    simp only [Tree.goal, X.P, X.ev, V.toI_i, V.toB_b, V.toS_s, V.toR_r, V.toV_v, V.toN_n, V.toL_l, SV.ev, CV.ev, Sc.ev, List.getD_cons_zero, List.getD_cons_succ, List.getElem?_cons_zero, List.getElem?_cons_succ, List.map_cons, List.map_nil, List.length_cons, List.length_nil, List.cons_append, List.nil_append, Nat.zero_add, Nat.reduceAdd, List.length_map, Int.toNat_natCast, gW0, gW1, gW2]
    rw [cmpP_lt]
    refine ⟨fun h2 => ⟨by omega, by omega, ⟨h + 1, j, rfl, by omega, hj, fun k hk => ?_, hB⟩, by omega⟩, fun h2 => ⟨⟨i, h, rfl, by omega, by omega, hA, fun k hk1 hk2 => ?_⟩, by omega⟩⟩
    · by_cases hkh : k = h
      · rw [hkh]; exact h2
      · exact ltP_trans (sortW_at hs (i := k) (j := h) (by omega) (by omega)) h2
    · have h3 : ltP (ky (l.getD h wD)) (ky x) = false := by simpa using h2
      by_cases hkh : k = h
      · rw [hkh]; exact h3
      · cases h4 : ltP (ky (l.getD k wD)) (ky x) with
        | false => rfl
        | true =>
          have := ltP_trans (sortW_at hs (i := h) (j := k) (by omega) hk2) h4
          rw [h3] at this; cases this
  · have hie : i = j := by omega
    subst hie
    have e := idxW_uniq (i := i) hj hA hB
    refine ⟨by omega, by omega, fun h2 => ?_, fun h2 => ?_⟩
    · refine ⟨[.i (cmpP (ky (l.getD i wD)) (ky x))], rfl, fun _ w' _ => c_order w' (l.getD i wD) x, ?_⟩
      simp only [Tree.goal, X.P, X.ev, V.toI_i, V.toB_b, V.toS_s, V.toR_r, V.toV_v, V.toN_n, V.toL_l, SV.ev, CV.ev, Sc.ev, List.getD_cons_zero, List.getD_cons_succ, List.getElem?_cons_zero, List.getElem?_cons_succ, List.map_cons, List.map_nil, List.length_cons, List.length_nil, List.cons_append, List.nil_append, Nat.zero_add, Nat.reduceAdd, List.length_map, Int.toNat_natCast, gW0, gW1, gW2]
      rw [cmpP_zero]
      refine ⟨fun h3 => ⟨by omega, fun w3 hr => ?_⟩, fun h3 => ⟨fun h4 w3 hr => ?_, fun h4 u2 w3 hr => ?_⟩⟩
      · have hh : hasW l (ky x) = true := by rw [hasW, ← e]; exact decide_eq_true ⟨by omega, h3⟩
        rw [rawW, if_pos hh, ← e]
        refine ⟨u, rfl, ?_, hr.fresh 1 rfl, hr.mod⟩
        have h0 := (hr.at_ 1 rfl).reads
        rw [readsW, ← set_rowW]
        exact h0
      · have hh : ¬ hasW l (ky x) = true := by rw [hasW, ← e, decide_eq_true_eq]; exact fun h => h3 h.2
        rw [rawW, if_neg hh, if_pos h4]
        exact ⟨_, rfl, readsW_nil _, newW_nil _, hr.mod⟩
      · have hh : ¬ hasW l (ky x) = true := by rw [hasW, ← e, decide_eq_true_eq]; exact fun h => h3 h.2
        rw [rawW, if_neg hh, if_neg h4, ← e]
        refine (c_InsW w3 u u2 l x i (by (first | exact hr.at_ 0 rfl | exact hr.at_ 1 rfl | exact hr.at_ 2 rfl | exact hr.at_ 3 rfl | exact hr.at_ 4 rfl | exact hr.at_ 5 rfl | exact hr.at_ 6 rfl | exact hr.at_ 7 rfl | exact hr.at_ 8 rfl)) (by (first | exact hr.at_ 0 rfl | exact hr.at_ 1 rfl | exact hr.at_ 2 rfl | exact hr.at_ 3 rfl | exact hr.at_ 4 rfl | exact hr.at_ 5 rfl | exact hr.at_ 6 rfl | exact hr.at_ 7 rfl | exact hr.at_ 8 rfl)) (fun k h5 h6 => hr.sep.disj (i := 2) (j := 0) rfl rfl (by omega) (.inl rfl) (k := k) h5 h6) (by omega) (by omega)).mono ?_; rintro e w4 ⟨v', rfl, g1, g2, g3⟩; refine ⟨[.v v', .r ((l.take i ++ [x] ++ l.drop i).map encW)], rfl, rfl, g3.mono fun k hk => .inl (by unfold modsOf; exact List.mem_append_right _ (gone_ofW (i := 7) (by simp) (Option.mem_toList.1 hk))), List.forall_mem_nil _, List.forall_mem_cons.2 ⟨⟨g1, fun k hk => ?_⟩, List.forall_mem_nil _⟩, apart_one, ?_⟩; (· rcases g2 k hk with h5 | h5; (· exact .inr (.inr (gone_ofW (i := 7) (by simp) h5))); (· exact .inl h5)); (· intro w5 hr5; exact ⟨v', rfl, (hr5.at_ 0 rfl).reads, hr5.fresh 0 rfl, hr5.mod⟩)
    · have hh : ¬ hasW l (ky x) = true := by rw [hasW, ← e, decide_eq_true_eq]; exact fun h => h2 (by omega)
      refine ⟨fun h4 w3 hr => ?_, fun h4 u2 w3 hr => ?_⟩
      · rw [rawW, if_neg hh, if_pos h4]
        exact ⟨_, rfl, readsW_nil _, newW_nil _, hr.mod⟩
      · rw [rawW, if_neg hh, if_neg h4, ← e]
        refine (c_InsW w3 u u2 l x i (by (first | exact hr.at_ 0 rfl | exact hr.at_ 1 rfl | exact hr.at_ 2 rfl | exact hr.at_ 3 rfl | exact hr.at_ 4 rfl | exact hr.at_ 5 rfl | exact hr.at_ 6 rfl | exact hr.at_ 7 rfl | exact hr.at_ 8 rfl)) (by (first | exact hr.at_ 0 rfl | exact hr.at_ 1 rfl | exact hr.at_ 2 rfl | exact hr.at_ 3 rfl | exact hr.at_ 4 rfl | exact hr.at_ 5 rfl | exact hr.at_ 6 rfl | exact hr.at_ 7 rfl | exact hr.at_ 8 rfl)) (fun k h5 h6 => hr.sep.disj (i := 2) (j := 0) rfl rfl (by omega) (.inl rfl) (k := k) h5 h6) (by omega) (by omega)).mono ?_; rintro e w4 ⟨v', rfl, g1, g2, g3⟩; refine ⟨[.v v', .r ((l.take i ++ [x] ++ l.drop i).map encW)], rfl, rfl, g3.mono fun k hk => .inl (by unfold modsOf; exact List.mem_append_right _ (gone_ofW (i := 7) (by simp) (Option.mem_toList.1 hk))), List.forall_mem_nil _, List.forall_mem_cons.2 ⟨⟨g1, fun k hk => ?_⟩, List.forall_mem_nil _⟩, apart_one, ?_⟩; (· rcases g2 k hk with h5 | h5; (· exact .inr (.inr (gone_ofW (i := 7) (by simp) h5))); (· exact .inl h5)); (· intro w5 hr5; exact ⟨v', rfl, (hr5.at_ 0 rfl).reads, hr5.fresh 0 rfl, hr5.mod⟩)
def addE (l : List Wt) (x : Wt) : Int := if chkW l = 0 then oneE x else chkW l
def addC (l : List Wt) (x : Wt) : List Wt × Int := if addE l x = 0 then rawW l x else ([], addE l x)
set_option maxHeartbeats 1000000 in
theorem c_AddW (w : World) (v : Value) (l : List Wt) (x : Wt) (hv : readsW w v l) (hs : smallW l) (hl : l.length < 1000000000) (hx : smW x) : Calls Tryz.prog 19 #[sc1 v, .string ⟨x.1.toArray⟩, .agg #[.string ⟨x.2.1.toArray⟩, .int .i64 x.2.2]] w
    fun e w' => gotW w w' e (addC l x).1 (addC l x).2 := by
  refine as_called (run_tree2 (ρ := [.v v, .r (l.map encW), .s x.1, .s x.2.1, .i x.2.2]) sxE_ok Tryz.func19 tree_want_Add rfl rfl (Rel.start2 (by simp [Ent.holds, Ent.wr, hv, X.ev])) rfl rfl ?_) rfl
  simp only [Tree.goal, X.P, X.ev, V.toI_i, V.toB_b, V.toS_s, V.toR_r, V.toV_v, V.toN_n, V.toL_l, SV.ev, CV.ev, Sc.ev, List.getD_cons_zero, List.getD_cons_succ, List.getElem?_cons_zero, List.getElem?_cons_succ, List.map_cons, List.map_nil, List.length_cons, List.length_nil, List.cons_append, List.nil_append, Nat.zero_add, Nat.reduceAdd, List.length_map, Int.toNat_natCast, gW0, gW1, gW2]
  intro b1 b2
  refine ⟨[.i (chkW l)], rfl, fun _ w' hr => c_CheckW w' v l (by (first | exact hr.at_ 0 rfl | exact hr.at_ 1 rfl | exact hr.at_ 2 rfl | exact hr.at_ 3 rfl | exact hr.at_ 4 rfl | exact hr.at_ 5 rfl | exact hr.at_ 6 rfl | exact hr.at_ 7 rfl | exact hr.at_ 8 rfl)) hs hl, ?_⟩
  simp only [Tree.goal, X.P, X.ev, V.toI_i, V.toB_b, V.toS_s, V.toR_r, V.toV_v, V.toN_n, V.toL_l, SV.ev, CV.ev, Sc.ev, List.getD_cons_zero, List.getD_cons_succ, List.getElem?_cons_zero, List.getElem?_cons_succ, List.map_cons, List.map_nil, List.length_cons, List.length_nil, List.cons_append, List.nil_append, Nat.zero_add, Nat.reduceAdd, List.length_map, Int.toNat_natCast, gW0, gW1, gW2]
  refine ⟨fun h => ?_, fun h w1 hr => ?_⟩
  · refine ⟨[.i (oneE x)], rfl, fun _ w' hr => c_one w' x hx, ?_⟩
    simp only [Tree.goal, X.P, X.ev, V.toI_i, V.toB_b, V.toS_s, V.toR_r, V.toV_v, V.toN_n, V.toL_l, SV.ev, CV.ev, Sc.ev, List.getD_cons_zero, List.getD_cons_succ, List.getElem?_cons_zero, List.getElem?_cons_succ, List.map_cons, List.map_nil, List.length_cons, List.length_nil, List.cons_append, List.nil_append, Nat.zero_add, Nat.reduceAdd, List.length_map, Int.toNat_natCast, gW0, gW1, gW2]
    have e : addE l x = oneE x := by rw [addE, if_pos h]
    refine ⟨fun h1 w1 hr => ?_, fun h1 w1 hr => ?_⟩
    · rw [addC, e, if_neg h1]
      exact ⟨_, rfl, readsW_nil _, newW_nil _, hr.mod⟩
    · have h1 : oneE x = 0 := Classical.not_not.1 h1
      rw [addC, e, if_pos h1]
      obtain ⟨k1, k2, k3⟩ := chkW_iff.1 h
      have hc := c_RawW w1 v l x (by (first | exact hr.at_ 0 rfl | exact hr.at_ 1 rfl | exact hr.at_ 2 rfl | exact hr.at_ 3 rfl | exact hr.at_ 4 rfl | exact hr.at_ 5 rfl | exact hr.at_ 6 rfl | exact hr.at_ 7 rfl | exact hr.at_ 8 rfl)) k3 k1
      generalize rawW l x = rr at hc ⊢
      obtain ⟨r, er⟩ := rr
      refine hc.mono ?_
      rintro e w2 ⟨v', rfl, g1, g2, gm⟩; refine ⟨[.v v', .r (r.map encW), .i er], rfl, rfl, gm, List.forall_mem_nil _, List.forall_mem_cons.2 ⟨⟨g1, fun k hk => .inl (g2 k hk.2)⟩, List.forall_mem_nil _⟩, apart_one, ?_⟩; intro w3 hr3; exact ⟨v', rfl, hr3.at_ 0 rfl, newW_le g2 hr.mod.size, hr3.mod⟩
  · have e : addE l x = chkW l := by rw [addE, if_neg h]
    rw [addC, e, if_neg h]
    exact ⟨_, rfl, readsW_nil _, newW_nil _, hr.mod⟩

def dropL (c f : List UInt8) (l : List Wt) : List Wt := l.filter fun w => decide (¬ (w.1 = c ∧ w.2.1 = f))
def leaveL (c : List UInt8) (l : List Wt) : List Wt := l.filter fun w => decide (¬ w.1 = c)
theorem filtW_snoc (p : Wt → Bool) (l : List Wt) (i : Nat) (h : i < l.length) : (l.take (i + 1)).filter p = (l.take i).filter p ++ (if p (l.getD i wD) = true then [l.getD i wD] else []) := by
  rw [takeW l i h, List.filter_append]
  generalize l.getD i wD = o
  by_cases h1 : p o = true <;> simp [h1]
theorem filtW_all {p : Wt → Bool} {l : List Wt} {i : Nat} (h : ∀ j, j < i → p (l.getD j wD) = true) : (l.take i).filter p = l.take i := by
  rw [List.filter_eq_self]
  intro x hx
  obtain ⟨j, hj, rfl⟩ := List.getElem_of_mem hx
  simp only [List.length_take] at hj
  have := h j (by omega)
  rw [List.getElem_take]
  rwa [List.getD_eq_getElem?_getD, List.getElem?_eq_getElem (by omega)] at this
theorem setW_take {R l : List Wt} {a j : Nat} {p : Wt → Bool} (haj : a < j) (hj : j < l.length) (hR : R.length = l.length) (ht : R.take a = (l.take j).filter p) (hd : R.drop j = l.drop j) (hp : p (l.getD j wD) = true) :
    (R.set a (R.getD j wD)).take (a + 1) = (l.take (j + 1)).filter p := by
  have hg : R.getD j wD = l.getD j wD := by
    have := congrArg (fun l => l[0]?) hd
    simp only [List.getElem?_drop, Nat.add_zero] at this
    rw [List.getD_eq_getElem?_getD, List.getD_eq_getElem?_getD, this]
  rw [filtW_snoc p l j hj, if_pos hp, ← ht, hg, takeW _ _ (by simp; omega)]
  congr 1
  · rw [List.take_set_of_le (Nat.le_refl _)]
  · rw [List.getD_eq_getElem?_getD, List.getElem?_set_self (by omega)]; rfl
theorem dropW_step {R l : List Wt} {j : Nat} (hd : R.drop j = l.drop j) : R.drop (j + 1) = l.drop (j + 1) := by
  have := congrArg (fun l => l.drop 1) hd
  simpa [List.drop_drop, Nat.add_comm] using this
theorem getW_drop {R l : List Wt} {j : Nat} (hd : R.drop j = l.drop j) : R.getD j wD = l.getD j wD := by
  have := congrArg (fun l => l[0]?) hd
  simp only [List.getElem?_drop, Nat.add_zero] at this
  rw [List.getD_eq_getElem?_getD, List.getD_eq_getElem?_getD, this]
def goneC (p : Wt → Bool) (l : List Wt) : List Wt × Int := if chkW l = 0 then (l.filter p, 0) else ([], chkW l)
set_option maxHeartbeats 2000000 in
theorem c_LeaveW (w : World) (v : Value) (l : List Wt) (c : List UInt8) (hv : readsW w v l) (hs : smallW l) (hl : l.length < 1000000000) : Calls Tryz.prog 21 #[sc1 v, .string ⟨c.toArray⟩] w
    fun e w' => gotW w w' e (goneC (fun w => decide (¬ w.1 = c)) l).1 (goneC (fun w => decide (¬ w.1 = c)) l).2 := by
  refine as_called (run_tree2 (ρ := [.v v, .r (l.map encW), .s c]) sxE_ok Tryz.func21 tree_want_Leave rfl rfl (Rel.start2 (by simp [Ent.holds, Ent.wr, hv, X.ev])) rfl rfl ?_) rfl
  simp only [Tree.goal, X.P, X.ev, V.toI_i, V.toB_b, V.toS_s, V.toR_r, V.toV_v, V.toN_n, V.toL_l, SV.ev, CV.ev, Sc.ev, List.getD_cons_zero, List.getD_cons_succ, List.getElem?_cons_zero, List.getElem?_cons_succ, List.map_cons, List.map_nil, List.length_cons, List.length_nil, List.cons_append, List.nil_append, Nat.zero_add, Nat.reduceAdd, List.length_map, Int.toNat_natCast, gW0, gW1, gW2]
  intro b1
  refine ⟨[.i (chkW l)], rfl, fun _ w' hr => c_CheckW w' v l (by (first | exact hr.at_ 0 rfl | exact hr.at_ 1 rfl | exact hr.at_ 2 rfl | exact hr.at_ 3 rfl | exact hr.at_ 4 rfl | exact hr.at_ 5 rfl | exact hr.at_ 6 rfl | exact hr.at_ 7 rfl | exact hr.at_ 8 rfl)) hs hl, ?_⟩; simp only [Tree.goal, X.P, X.ev, V.toI_i, V.toB_b, V.toS_s, V.toR_r, V.toV_v, V.toN_n, V.toL_l, SV.ev, CV.ev, Sc.ev, List.getD_cons_zero, List.getD_cons_succ, List.getElem?_cons_zero, List.getElem?_cons_succ, List.map_cons, List.map_nil, List.length_cons, List.length_nil, List.cons_append, List.nil_append, Nat.zero_add, Nat.reduceAdd, List.length_map, Int.toNat_natCast, gW0, gW1, gW2]; refine ⟨fun h w1 hr => ?_, fun h => ?_⟩; (· rw [goneC, if_neg h]; exact ⟨_, rfl, readsW_nil _, newW_nil _, hr.mod⟩); have h := Classical.not_not.1 h; rw [goneC, if_pos h]; intro w1 hr; refine (c_CloneW w1 v l (by (first | exact hr.at_ 0 rfl | exact hr.at_ 1 rfl | exact hr.at_ 2 rfl | exact hr.at_ 3 rfl | exact hr.at_ 4 rfl | exact hr.at_ 5 rfl | exact hr.at_ 6 rfl | exact hr.at_ 7 rfl | exact hr.at_ 8 rfl)) (by omega)).mono ?_; rintro e w2 ⟨u, rfl, a1, f1, m1⟩; refine ⟨[.v u, .r (l.map encW)], rfl, rfl, m1, List.forall_mem_nil _, List.forall_mem_cons.2 ⟨⟨a1, fun k hk => .inl (f1 k hk)⟩, List.forall_mem_nil _⟩, apart_one, ?_⟩; clear hr a1 f1 m1; simp only [Tree.goal, X.P, X.ev, V.toI_i, V.toB_b, V.toS_s, V.toR_r, V.toV_v, V.toN_n, V.toL_l, SV.ev, CV.ev, Sc.ev, List.getD_cons_zero, List.getD_cons_succ, List.getElem?_cons_zero, List.getElem?_cons_succ, List.map_cons, List.map_nil, List.length_cons, List.length_nil, List.cons_append, List.nil_append, Nat.zero_add, Nat.reduceAdd, List.length_map, Int.toNat_natCast, gW0, gW1, gW2]
  generalize hkp : (fun w : Wt => decide (¬ w.1 = c)) = kp
  have kp0 : ∀ x : Wt, x.1 = c → ¬ kp x = true := fun x hx => by rw [← hkp]; simp [hx]
  have kp1 : ∀ x : Wt, ¬ x.1 = c → kp x = true := fun x hx => by rw [← hkp]; simp [hx]
  refine ⟨fun vs => ∃ (x : V) (i : Nat), vs = [x, .i i, .s c] ∧ i ≤ l.length ∧ ∀ j, j < i → kp (l.getD j wD) = true, fun vs => (l.length - (vs.getD 1 (.i 0)).toI).toNat, ⟨_, 0, rfl, by omega, fun j hj => by omega⟩, ?_⟩
  rintro _ - ⟨x, i, rfl, hi, hn⟩
  simp only [Tree.goal, X.P, X.ev, V.toI_i, V.toB_b, V.toS_s, V.toR_r, V.toV_v, V.toN_n, V.toL_l, SV.ev, CV.ev, Sc.ev, List.getD_cons_zero, List.getD_cons_succ, List.getElem?_cons_zero, List.getElem?_cons_succ, List.map_cons, List.map_nil, List.length_cons, List.length_nil, List.cons_append, List.nil_append, Nat.zero_add, Nat.reduceAdd, List.length_map, Int.toNat_natCast, gW0, gW1, gW2]
  refine ⟨fun h1 => ?_, fun h1 w3 hr => ?_⟩
  · (repeat refine ⟨by omega, ?_⟩)
    intro b7
    refine ⟨fun h2 => ⟨fun h3 => by omega, fun h3 => ⟨by omega, by omega, ?_⟩⟩, fun h2 => ?_⟩
    · refine ⟨fun vs => ∃ (a j : Nat) (R : List Wt), vs = [.i a, .i j, .r (R.map encW), .s c] ∧ a < j ∧ j ≤ l.length ∧ R.length = l.length ∧ R.take a = (l.take j).filter kp ∧ R.drop j = l.drop j, fun vs => (l.length - (vs.getD 1 (.i 0)).toI).toNat,
        ⟨i, i + 1, l, rfl, by omega, by omega, rfl, ?_, rfl⟩, ?_⟩
      · rw [filtW_snoc kp l i (by omega), if_neg (kp0 _ h2), List.append_nil, filtW_all hn]
      rintro _ - ⟨a, j, R, rfl, haj, hj, hR, ht, hd⟩
      simp only [Tree.goal, X.P, X.ev, V.toI_i, V.toB_b, V.toS_s, V.toR_r, V.toV_v, V.toN_n, V.toL_l, SV.ev, CV.ev, Sc.ev, List.getD_cons_zero, List.getD_cons_succ, List.getElem?_cons_zero, List.getElem?_cons_succ, List.map_cons, List.map_nil, List.length_cons, List.length_nil, List.cons_append, List.nil_append, Nat.zero_add, Nat.reduceAdd, List.length_map, Int.toNat_natCast, gW0, gW1, gW2, hR]
      refine ⟨fun h3 => ?_, fun h3 => ?_⟩
      · (repeat refine ⟨by omega, ?_⟩)
        intro b8 b9
        have hg := getW_drop hd
        refine ⟨fun h4 => ?_, fun h4 => ?_⟩
        · (repeat refine ⟨by omega, ?_⟩)
          refine ⟨⟨a + 1, j + 1, R.set a (R.getD j wD), ?_, by omega, by omega, by simpa using hR, setW_take haj (by omega) hR ht hd (kp1 _ (by rw [← hg]; exact h4)), ?_⟩, by omega⟩
          · rw [← set_rowW]; rfl
          · rw [List.drop_set_of_lt (by omega)]; exact dropW_step hd
        · (repeat refine ⟨by omega, ?_⟩)
          refine ⟨⟨a, j + 1, R, rfl, by omega, by omega, hR, ?_, dropW_step hd⟩, by omega⟩
          rw [filtW_snoc kp l j (by omega), if_neg (kp0 _ (by rw [← hg]; exact Classical.not_not.1 h4)), List.append_nil]; exact ht
      · (have hje : j = l.length := by omega); subst hje; rw [List.take_length] at ht; refine ⟨by omega, by omega, ?_, fun u' w3 hr => ⟨u', rfl, ?_, hr.fresh 0 rfl, hr.mod⟩⟩; (· simp only [List.length_append, List.length_take, List.length_replicate, List.length_map, hR]; omega); (· have h0 := (hr.at_ 0 rfl).reads; simp only [Tree.goal, X.P, X.ev, V.toI_i, V.toB_b, V.toS_s, V.toR_r, V.toV_v, V.toN_n, V.toL_l, SV.ev, CV.ev, Sc.ev, List.getD_cons_zero, List.getD_cons_succ, List.getElem?_cons_zero, List.getElem?_cons_succ, List.map_cons, List.map_nil, List.length_cons, List.length_nil, List.cons_append, List.nil_append, Nat.zero_add, Nat.reduceAdd, List.length_map, Int.toNat_natCast, gW0, gW1, gW2] at h0; rw [List.take_append_of_le_length (by simp; omega), List.take_take, Nat.min_self, ← List.map_take, ht] at h0; exact h0)
    · (repeat refine ⟨by omega, ?_⟩)
      refine ⟨⟨_, i + 1, rfl, by omega, fun j hj => ?_⟩, by omega⟩
      by_cases hji : j = i
      · subst hji; exact kp1 _ h2
      · exact hn j (by omega)
  · (have hie : i = l.length := by omega); subst hie; (have e1 := filtW_all (p := kp) (l := l) (i := l.length) hn); rw [List.take_length] at e1; rw [e1]; exact ⟨u, rfl, owns.reads (by (first | exact hr.at_ 0 rfl | exact hr.at_ 1 rfl | exact hr.at_ 2 rfl | exact hr.at_ 3 rfl | exact hr.at_ 4 rfl | exact hr.at_ 5 rfl | exact hr.at_ 6 rfl | exact hr.at_ 7 rfl | exact hr.at_ 8 rfl)), hr.fresh 1 rfl, hr.mod⟩
set_option maxHeartbeats 2000000 in
theorem c_DropW (w : World) (v : Value) (l : List Wt) (c f : List UInt8) (hv : readsW w v l) (hs : smallW l) (hl : l.length < 1000000000) : Calls Tryz.prog 20 #[sc1 v, .string ⟨c.toArray⟩, .string ⟨f.toArray⟩] w
    fun e w' => gotW w w' e (goneC (fun w => decide (¬ (w.1 = c ∧ w.2.1 = f))) l).1 (goneC (fun w => decide (¬ (w.1 = c ∧ w.2.1 = f))) l).2 := by
  refine as_called (run_tree2 (ρ := [.v v, .r (l.map encW), .s c, .s f]) sxE_ok Tryz.func20 tree_want_Drop rfl rfl (Rel.start2 (by simp [Ent.holds, Ent.wr, hv, X.ev])) rfl rfl ?_) rfl
  simp only [Tree.goal, X.P, X.ev, V.toI_i, V.toB_b, V.toS_s, V.toR_r, V.toV_v, V.toN_n, V.toL_l, SV.ev, CV.ev, Sc.ev, List.getD_cons_zero, List.getD_cons_succ, List.getElem?_cons_zero, List.getElem?_cons_succ, List.map_cons, List.map_nil, List.length_cons, List.length_nil, List.cons_append, List.nil_append, Nat.zero_add, Nat.reduceAdd, List.length_map, Int.toNat_natCast, gW0, gW1, gW2]
  intro b1 b2
  refine ⟨[.i (chkW l)], rfl, fun _ w' hr => c_CheckW w' v l (by (first | exact hr.at_ 0 rfl | exact hr.at_ 1 rfl | exact hr.at_ 2 rfl | exact hr.at_ 3 rfl | exact hr.at_ 4 rfl | exact hr.at_ 5 rfl | exact hr.at_ 6 rfl | exact hr.at_ 7 rfl | exact hr.at_ 8 rfl)) hs hl, ?_⟩; simp only [Tree.goal, X.P, X.ev, V.toI_i, V.toB_b, V.toS_s, V.toR_r, V.toV_v, V.toN_n, V.toL_l, SV.ev, CV.ev, Sc.ev, List.getD_cons_zero, List.getD_cons_succ, List.getElem?_cons_zero, List.getElem?_cons_succ, List.map_cons, List.map_nil, List.length_cons, List.length_nil, List.cons_append, List.nil_append, Nat.zero_add, Nat.reduceAdd, List.length_map, Int.toNat_natCast, gW0, gW1, gW2]; refine ⟨fun h w1 hr => ?_, fun h => ?_⟩; (· rw [goneC, if_neg h]; exact ⟨_, rfl, readsW_nil _, newW_nil _, hr.mod⟩); have h := Classical.not_not.1 h; rw [goneC, if_pos h]; intro w1 hr; refine (c_CloneW w1 v l (by (first | exact hr.at_ 0 rfl | exact hr.at_ 1 rfl | exact hr.at_ 2 rfl | exact hr.at_ 3 rfl | exact hr.at_ 4 rfl | exact hr.at_ 5 rfl | exact hr.at_ 6 rfl | exact hr.at_ 7 rfl | exact hr.at_ 8 rfl)) (by omega)).mono ?_; rintro e w2 ⟨u, rfl, a1, f1, m1⟩; refine ⟨[.v u, .r (l.map encW)], rfl, rfl, m1, List.forall_mem_nil _, List.forall_mem_cons.2 ⟨⟨a1, fun k hk => .inl (f1 k hk)⟩, List.forall_mem_nil _⟩, apart_one, ?_⟩; clear hr a1 f1 m1; simp only [Tree.goal, X.P, X.ev, V.toI_i, V.toB_b, V.toS_s, V.toR_r, V.toV_v, V.toN_n, V.toL_l, SV.ev, CV.ev, Sc.ev, List.getD_cons_zero, List.getD_cons_succ, List.getElem?_cons_zero, List.getElem?_cons_succ, List.map_cons, List.map_nil, List.length_cons, List.length_nil, List.cons_append, List.nil_append, Nat.zero_add, Nat.reduceAdd, List.length_map, Int.toNat_natCast, gW0, gW1, gW2]
  generalize hkp : (fun w : Wt => decide (¬ (w.1 = c ∧ w.2.1 = f))) = kp
  have kp0 : ∀ x : Wt, x.1 = c ∧ x.2.1 = f → ¬ kp x = true := fun x hx => by rw [← hkp]; simp [hx]
  have kp1 : ∀ x : Wt, ¬ (x.1 = c ∧ x.2.1 = f) → kp x = true := fun x hx => by rw [← hkp]; exact decide_eq_true hx
  refine ⟨fun vs => ∃ (x : V) (i : Nat), vs = [x, .i i, .s f, .s c] ∧ i ≤ l.length ∧ ∀ j, j < i → kp (l.getD j wD) = true, fun vs => (l.length - (vs.getD 1 (.i 0)).toI).toNat, ⟨_, 0, rfl, by omega, fun j hj => by omega⟩, ?_⟩
  rintro _ - ⟨x, i, rfl, hi, hn⟩
  simp only [Tree.goal, X.P, X.ev, V.toI_i, V.toB_b, V.toS_s, V.toR_r, V.toV_v, V.toN_n, V.toL_l, SV.ev, CV.ev, Sc.ev, List.getD_cons_zero, List.getD_cons_succ, List.getElem?_cons_zero, List.getElem?_cons_succ, List.map_cons, List.map_nil, List.length_cons, List.length_nil, List.cons_append, List.nil_append, Nat.zero_add, Nat.reduceAdd, List.length_map, Int.toNat_natCast, gW0, gW1, gW2]
  refine ⟨fun h1 => ?_, fun h1 w3 hr => ?_⟩
  · (repeat refine ⟨by omega, ?_⟩)
    intro b7
    refine ⟨fun h2 => ⟨fun h3 => by omega, fun h3 => ⟨by omega, by omega, ?_⟩⟩, fun h2 => ?_⟩
    · refine ⟨fun vs => ∃ (a j : Nat) (R : List Wt), vs = [.i a, .i j, .r (R.map encW), .s f, .s c] ∧ a < j ∧ j ≤ l.length ∧ R.length = l.length ∧ R.take a = (l.take j).filter kp ∧ R.drop j = l.drop j, fun vs => (l.length - (vs.getD 1 (.i 0)).toI).toNat,
        ⟨i, i + 1, l, rfl, by omega, by omega, rfl, ?_, rfl⟩, ?_⟩
      · rw [filtW_snoc kp l i (by omega), if_neg (kp0 _ h2), List.append_nil, filtW_all hn]
      rintro _ - ⟨a, j, R, rfl, haj, hj, hR, ht, hd⟩
      simp only [Tree.goal, X.P, X.ev, V.toI_i, V.toB_b, V.toS_s, V.toR_r, V.toV_v, V.toN_n, V.toL_l, SV.ev, CV.ev, Sc.ev, List.getD_cons_zero, List.getD_cons_succ, List.getElem?_cons_zero, List.getElem?_cons_succ, List.map_cons, List.map_nil, List.length_cons, List.length_nil, List.cons_append, List.nil_append, Nat.zero_add, Nat.reduceAdd, List.length_map, Int.toNat_natCast, gW0, gW1, gW2, hR]
      refine ⟨fun h3 => ?_, fun h3 => ?_⟩
      · (repeat refine ⟨by omega, ?_⟩)
        intro b8 b9
        have hg := getW_drop hd
        refine ⟨fun h4 => ?_, fun h4 => ?_⟩
        · (repeat refine ⟨by omega, ?_⟩)
          refine ⟨⟨a + 1, j + 1, R.set a (R.getD j wD), ?_, by omega, by omega, by simpa using hR, setW_take haj (by omega) hR ht hd (kp1 _ (by rw [← hg]; exact h4)), ?_⟩, by omega⟩
          · rw [← set_rowW]; rfl
          · rw [List.drop_set_of_lt (by omega)]; exact dropW_step hd
        · (repeat refine ⟨by omega, ?_⟩)
          refine ⟨⟨a, j + 1, R, rfl, by omega, by omega, hR, ?_, dropW_step hd⟩, by omega⟩
          rw [filtW_snoc kp l j (by omega), if_neg (kp0 _ (by rw [← hg]; exact Classical.not_not.1 h4)), List.append_nil]; exact ht
      · (have hje : j = l.length := by omega); subst hje; rw [List.take_length] at ht; refine ⟨by omega, by omega, ?_, fun u' w3 hr => ⟨u', rfl, ?_, hr.fresh 0 rfl, hr.mod⟩⟩; (· simp only [List.length_append, List.length_take, List.length_replicate, List.length_map, hR]; omega); (· have h0 := (hr.at_ 0 rfl).reads; simp only [Tree.goal, X.P, X.ev, V.toI_i, V.toB_b, V.toS_s, V.toR_r, V.toV_v, V.toN_n, V.toL_l, SV.ev, CV.ev, Sc.ev, List.getD_cons_zero, List.getD_cons_succ, List.getElem?_cons_zero, List.getElem?_cons_succ, List.map_cons, List.map_nil, List.length_cons, List.length_nil, List.cons_append, List.nil_append, Nat.zero_add, Nat.reduceAdd, List.length_map, Int.toNat_natCast, gW0, gW1, gW2] at h0; rw [List.take_append_of_le_length (by simp; omega), List.take_take, Nat.min_self, ← List.map_take, ht] at h0; exact h0)
    · (repeat refine ⟨by omega, ?_⟩)
      refine ⟨⟨_, i + 1, rfl, by omega, fun j hj => ?_⟩, by omega⟩
      by_cases hji : j = i
      · subst hji; exact kp1 _ h2
      · exact hn j (by omega)
  · (have hie : i = l.length := by omega); subst hie; (have e1 := filtW_all (p := kp) (l := l) (i := l.length) hn); rw [List.take_length] at e1; rw [e1]; exact ⟨u, rfl, owns.reads (by (first | exact hr.at_ 0 rfl | exact hr.at_ 1 rfl | exact hr.at_ 2 rfl | exact hr.at_ 3 rfl | exact hr.at_ 4 rfl | exact hr.at_ 5 rfl | exact hr.at_ 6 rfl | exact hr.at_ 7 rfl | exact hr.at_ 8 rfl)), hr.fresh 1 rfl, hr.mod⟩
theorem goneW_ok {p : Wt → Bool} {l : List Wt} (h : chkW l = 0) : chkW (l.filter p) = 0 := by
  obtain ⟨a, b, c⟩ := chkW_iff.1 h
  exact chkW_iff.2 ⟨Nat.le_trans (List.length_filter_le _ _) a, fun k hk => b k (List.mem_filter.1 hk).1, c.filter _⟩
theorem rawW_lo {l : List Wt} {x : Wt} (hs : sortW l) (h0 : (rawW l x).2 = 0) : (rawW l x).1 = loW l (ky x) ++ [x] ++ hiW l (ky x) := by
  have t1 := take_loW (n := ky x) hs
  have t2 := drop_loW (n := ky x) hs
  unfold rawW at h0 ⊢
  rcases hasW_iff (n := ky x) hs with ⟨h1, k, h2, h3⟩ | ⟨h1, h2⟩
  · rw [if_pos h1]
    simp only
    have hlt := (of_decide_eq_true h1).1
    rw [List.set_eq_take_append_cons_drop, if_pos hlt, t1]
    have : l.drop (idxW l (ky x) + 1) = hiW l (ky x) := by
      rw [← List.drop_drop, t2, h2]; rfl
    rw [this]; simp
  · rw [if_neg (by rw [h1]; decide)] at h0 ⊢
    by_cases h4 : (l.length : Int) = 20
    · rw [if_pos h4] at h0; exact absurd h0 (by decide)
    · rw [if_neg h4]
      simp only
      rw [t1, t2, h2, List.nil_append]
theorem rawW_ok {l : List Wt} {x : Wt} (h : chkW l = 0) (hx : oneE x = 0) (h0 : (rawW l x).2 = 0) : chkW (rawW l x).1 = 0 := by
  obtain ⟨a, b, c⟩ := chkW_iff.1 h
  refine chkW_iff.2 ⟨?_, ?_, ?_⟩
  · unfold rawW at h0 ⊢
    by_cases h1 : hasW l (ky x) = true
    · rw [if_pos h1]; simpa using a
    · rw [if_neg h1] at h0 ⊢
      by_cases h4 : (l.length : Int) = 20
      · rw [if_pos h4] at h0; exact absurd h0 (by decide)
      · rw [if_neg h4]
        have := idxW_le l (ky x)
        simp; omega
  · rw [rawW_lo c h0]
    intro k hk
    rcases List.mem_append.1 hk with hk | hk
    · rcases List.mem_append.1 hk with hk | hk
      · exact b k (List.mem_filter.1 hk).1
      · rw [List.mem_singleton.1 hk]; exact hx
    · exact b k (List.mem_filter.1 hk).1
  · rw [rawW_lo c h0]
    have q1 : ∀ k ∈ loW l (ky x), ltP (ky k) (ky x) = true := fun k hk => (List.mem_filter.1 hk).2
    have q2 : ∀ k ∈ hiW l (ky x), ltP (ky x) (ky k) = true := fun k hk => (List.mem_filter.1 hk).2
    refine List.pairwise_append.2 ⟨List.pairwise_append.2 ⟨c.filter _, List.pairwise_singleton _ _, fun a ha b hb => ?_⟩, c.filter _, fun a ha b hb => ?_⟩
    · rw [List.mem_singleton.1 hb]; exact q1 a ha
    · rcases List.mem_append.1 ha with ha | ha
      · exact ltP_trans (q1 a ha) (q2 b hb)
      · rw [List.mem_singleton.1 ha]; exact q2 b hb
end Go.Proofs.YtliedecinehijaaGreatDoor

/-
  A row of structs, sorted by the library: what the call owns behind it. By an AI agent.
-/
set_option linter.unusedSimpArgs false
set_option linter.unusedVariables false
namespace Go.Proofs.YtliedecinehijaaGreatDoor
open Go Go.Sx Go.Sort

section
variable {α : Type} [Inhabited α] {enc : α → List Value} {k : Nat}
theorem flatK_list (hk : ∀ x, (enc x).length = k) (k0 : 0 < k) (ds : List α) : (flatK enc k ds.toArray).toList = (ds.map enc).flatten := by
  apply List.ext_getElem?
  intro j
  have hlen : ((ds.map enc).flatten).length = ds.length * k := by
    have := flatten_length (rows := ds.map enc) (n := k) (fun r hr => by obtain ⟨x, -, rfl⟩ := List.mem_map.1 hr; exact hk x)
    simpa using this
  by_cases hj : j < ds.length * k
  · have e1 : (flatK enc k ds.toArray).toList[j]? = some (enc ds.toArray[j / k]!)[j % k]! := by
      rw [Array.getElem?_toList, Array.getElem?_eq_getElem (by simpa using hj), ← get_flatK enc k ds.toArray j (by simpa using hj), getElem!_pos _ j (by simpa using hj)]
    have hd : j / k < ds.length := (Nat.div_lt_iff_lt_mul k0).2 hj
    have hm : j % k < k := Nat.mod_lt _ k0
    have e2 := flatten_get (rows := ds.map enc) (n := k) (fun r hr => by obtain ⟨x, -, rfl⟩ := List.mem_map.1 hr; exact hk x) (i := j / k) (c := j % k) hm
    rw [show j / k * k + j % k = j by rw [Nat.mul_comm]; exact Nat.div_add_mod j k] at e2
    rw [e1, e2, List.getElem?_map, List.getElem?_eq_getElem hd]
    simp only [Option.map_some, Option.bind_some]
    have e3 : ds.toArray[j / k]! = ds[j / k] := by rw [getElem!_pos _ _ (by simpa using hd)]; simp
    rw [e3, List.getElem?_eq_getElem (by rw [hk]; exact hm)]
    congr 1
    rw [getElem!_pos _ _ (by rw [hk]; exact hm)]
  · rw [List.getElem?_eq_none (by simp; omega), List.getElem?_eq_none (by omega)]
theorem holdsK_of_block {w : World} {g : Nat} {cur : Array Value} {e : TypeId} (hk : ∀ x, (enc x).length = k) (k0 : 0 < k) {ds : List α} (hb : w.heap[g]? = some (.cells cur e (0, 0))) (ht : cur.toList.take (ds.length * k) = (ds.map enc).flatten) :
    HoldsK enc k w g 0 ds.toArray := by
  intro j hj
  have hj' : j < ds.length * k := by simpa using hj
  refine ⟨?_, by simp [World.frozen?, hb]⟩
  have h1 : (cur.toList.take (ds.length * k))[j]? = (flatK enc k ds.toArray).toList[j]? := by rw [ht, flatK_list hk k0]
  rw [List.getElem?_take_of_lt hj'] at h1
  simp only [World.cell?, hb, Nat.zero_add, Option.isSome_none, Bool.false_eq_true, if_false]
  have e : (flatK enc k ds.toArray)[j]! = (flatK enc k ds.toArray)[j] := getElem!_pos _ j hj
  rw [← Array.getElem?_toList, h1, Array.getElem?_toList, Array.getElem?_eq_getElem hj, e]
  rfl
theorem heap_sortedK {w : World} {g n : Nat} {os : Array Obj} {cur : Array Value} {e : TypeId} {fr : Nat × Nat} (d : Array α) (hb : w.heap[g]? = some (.cells cur e fr)) :
    (sortWorldK enc k w g 0 n d os).heap[g]? = some (.cells (putCells id 0 (flatK enc k d) cur) e fr) := by
  have hg : g < w.heap.size := (Array.getElem?_eq_some_iff.1 hb).1
  unfold sortWorldK putRowK
  rw [heap_grow_old _ _ (by simpa using hg)]
  simp [putRow, mapBlock, Sort.ahead, Array.getElem?_modify, hb, onCells]
theorem grownBy_sortedK {w : World} {g n : Nat} {os : Array Obj} (d : Array α) : w.grownBy (sortWorldK enc k w g 0 n d os) (some g) := by
  unfold sortWorldK putRowK
  refine ⟨rfl, rfl, rfl, by simp, fun j hj hne => ?_⟩
  rw [heap_grow_old _ _ (by simpa using hj)]
  have : g ≠ j := fun e => hne (by rw [e])
  simp [putRow, mapBlock, Sort.ahead, Array.getElem?_modify, this]
theorem ownsRow_sortedK {w : World} {base g cap n : Nat} {e : TypeId} {os : Array Obj} {cur : Array Value} {ts : List α} (hk : ∀ x, (enc x).length = k) (k0 : 0 < k) (hbase : base ≤ g) (hb : w.heap[g]? = some (.cells cur e (0, 0)))
    (h1 : ts.length ≤ cap) (h2 : cap ≤ maxLen) (h3 : cur.size = cap * k) :
    (sortWorldK enc k w g 0 n ts.toArray os).ownsRow base e k (.slice (some ⟨g, 0, none⟩) ts.length cap) ts.length (ts.map enc).flatten := by
  have hlen : ((ts.map enc).flatten).length = ts.length * k := by
    have := flatten_length (rows := ts.map enc) (n := k) (fun r hr => by obtain ⟨x, -, rfl⟩ := List.mem_map.1 hr; exact hk x)
    simpa using this
  have hle : ts.length * k ≤ cur.size := by rw [h3]; exact Nat.mul_le_mul_right k h1
  refine ⟨hlen, .inr ⟨g, cap, _, rfl, hbase, heap_sortedK _ hb, h1, h2, by simp [putCells, h3], ?_⟩⟩
  apply List.ext_getElem?
  intro j
  by_cases hj : j < ts.length * k
  · rw [List.getElem?_take_of_lt hj, ← flatK_list hk k0, Array.getElem?_toList, Array.getElem?_toList]
    have hj2 : j < (flatK enc k ts.toArray).size := by simpa using hj
    have e : (flatK enc k ts.toArray)[j]! = (flatK enc k ts.toArray)[j] := getElem!_pos _ j hj2
    rw [Array.getElem?_eq_getElem (by simp [putCells]; omega), Array.getElem?_eq_getElem hj2, ← e]
    simp only [putCells, Array.getElem_mapIdx, Nat.zero_add, Nat.sub_zero]
    rw [if_pos ⟨Nat.zero_le _, hj2⟩]
    rfl
  · rw [List.getElem?_take_eq_none (by omega), List.getElem?_eq_none (by omega)]
end
end Go.Proofs.YtliedecinehijaaGreatDoor

/-
  DERIVED: THE SHELF's CONTRACTS AT THIS DUMP, IN PLAIN WORDS (tools/lay-plain.mjs out of 'YtliedecinehijaaGreatDoorShelf3.lean', which tools/lay-shelf.mjs wrote): THE SAME DECLARATIONS UNDER THE SAME NAMES: 'import', 'namespace', 'open', 'def', 'theorem' AND NOTHING ELSE: no command of the shelf's: FOR A HAND-IN. Each laying: the table of numbers ('.._ren') and one theorem, a field a fact of the dump's own or the kernel's comparison; each contract: ONE APPLICATION.
-/
namespace Go.Proofs
open Go.Shelf
def Tryz.sortR_ren : Go.Shelf.Ren := ⟨fun | 6 => 129 | 15 => 166 | 14 => 165 | 28 => 192 | 29 => 193 | 20 => 184 | 21 => 185 | 22 => 186 | 23 => 187 | 24 => 188 | 25 => 189 | 26 => 190 | 27 => 191 | 46 => 210 | 47 => 211 | 48 => 212 | 49 => 213 | 50 => 214 | 57 => 226 | n => n, fun | 22 => 49 | 24 => 111 | 25 => 162 | 3 => 3 | 39 => 81 | 0 => 0 | 53 => 203 | 55 => 205 | 4 => 4 | 46 => 197 | 45 => 196 | 50 => 153 | 5 => 5 | 9 => 9 | 66 => 222 | 70 => 226 | 76 => 235 | 77 => 236 | n => n, fun | n => n⟩
theorem Tryz.sortR : Go.Proofs.SlLaysF0.n6 Tryz.prog Tryz.sortR_ren := {
  mixed := by kernel_rfl
  f6 := ⟨Tryz.f129.name, by decide, Tryz.func129.trans (congrArg some (by kernel_rfl))⟩
  f14 := ⟨Tryz.f165.name, by decide, Tryz.func165.trans (congrArg some (by kernel_rfl))⟩
  f15 := Tryz.func166.trans (congrArg some (by kernel_rfl))
  f20 := ⟨Tryz.f184.name, by decide, Tryz.func184.trans (congrArg some (by kernel_rfl))⟩
  f21 := ⟨Tryz.f185.name, by decide, Tryz.func185.trans (congrArg some (by kernel_rfl))⟩
  f22 := ⟨Tryz.f186.name, by decide, Tryz.func186.trans (congrArg some (by kernel_rfl))⟩
  f23 := ⟨Tryz.f187.name, by decide, Tryz.func187.trans (congrArg some (by kernel_rfl))⟩
  f24 := ⟨Tryz.f188.name, by decide, Tryz.func188.trans (congrArg some (by kernel_rfl))⟩
  f25 := ⟨Tryz.f189.name, by decide, Tryz.func189.trans (congrArg some (by kernel_rfl))⟩
  f26 := ⟨Tryz.f190.name, by decide, Tryz.func190.trans (congrArg some (by kernel_rfl))⟩
  f27 := ⟨Tryz.f191.name, by decide, Tryz.func191.trans (congrArg some (by kernel_rfl))⟩
  f28 := Tryz.func192.trans (congrArg some (by kernel_rfl))
  f29 := Tryz.func193.trans (congrArg some (by kernel_rfl))
  f46 := ⟨Tryz.f210.name, by decide, Tryz.func210.trans (congrArg some (by kernel_rfl))⟩
  f47 := Tryz.func211.trans (congrArg some (by kernel_rfl))
  f48 := Tryz.func212.trans (congrArg some (by kernel_rfl))
  f49 := ⟨Tryz.f213.name, by decide, Tryz.func213.trans (congrArg some (by kernel_rfl))⟩
  f50 := ⟨Tryz.f214.name, by decide, Tryz.func214.trans (congrArg some (by kernel_rfl))⟩
  f57 := ⟨Tryz.f226.name, by decide, Tryz.func226.trans (congrArg some (by kernel_rfl))⟩
  t0 := Tryz.underlying0
  a0 := Tryz.isAgg0
  z0 := Tryz.sizeOf0
  v0 := Tryz.zeroValue0
  t3 := Tryz.underlying3
  a3 := Tryz.isAgg3
  z3 := Tryz.sizeOf3
  v3 := Tryz.zeroValue3
  t4 := Tryz.underlying4
  a4 := Tryz.isAgg4
  z4 := Tryz.sizeOf4
  v4 := Tryz.zeroValue4
  t5 := Tryz.underlying5
  a5 := Tryz.isAgg5
  z5 := Tryz.sizeOf5
  v5 := Tryz.zeroValue5
  t9 := Tryz.underlying9
  a9 := Tryz.isAgg9
  z9 := Tryz.sizeOf9
  v9 := Tryz.zeroValue9
  t22 := Tryz.underlying49
  a22 := Tryz.isAgg49
  z22 := Tryz.sizeOf49
  v22 := Tryz.zeroValue49
  t25 := Tryz.underlying162
  a25 := Tryz.isAgg162
  z25 := Tryz.sizeOf162
  v25 := Tryz.zeroValue162
  t39 := Tryz.underlying81
  a39 := Tryz.isAgg81
  z39 := Tryz.sizeOf81
  v39 := Tryz.zeroValue81
  t45 := Tryz.underlying196
  a45 := Tryz.isAgg196
  z45 := Tryz.sizeOf196
  v45 := Tryz.zeroValue196
  t46 := Tryz.underlying197
  a46 := Tryz.isAgg197
  z46 := Tryz.sizeOf197
  v46 := Tryz.zeroValue197
  t50 := Tryz.underlying153
  a50 := Tryz.isAgg153
  z50 := Tryz.sizeOf153
  v50 := Tryz.zeroValue153
  t53 := Tryz.underlying203
  a53 := Tryz.isAgg203
  z53 := Tryz.sizeOf203
  v53 := Tryz.zeroValue203
  t55 := Tryz.underlying205
  a55 := Tryz.isAgg205
  z55 := Tryz.sizeOf205
  v55 := Tryz.zeroValue205
  t66 := Tryz.underlying222
  a66 := Tryz.isAgg222
  z66 := Tryz.sizeOf222
  v66 := Tryz.zeroValue222
  t70 := Tryz.underlying226
  a70 := Tryz.isAgg226
  z70 := Tryz.sizeOf226
  v70 := Tryz.zeroValue226
  t76 := Tryz.underlying235
  a76 := Tryz.isAgg235
  z76 := Tryz.sizeOf235
  v76 := Tryz.zeroValue235
  t77 := Tryz.underlying236
  a77 := Tryz.isAgg236
  z77 := Tryz.sizeOf236
  v77 := Tryz.zeroValue236 }
end Go.Proofs

/-
  Readers of a topic: the walk of want.Of (a map, ranged over, sorted). By an AI agent.
-/
set_option linter.unusedSimpArgs false
set_option linter.unusedVariables false
namespace Go.Proofs.YtliedecinehijaaGreatDoor
open Go Go.Sx Go.RowKit Go.Shelf Go.Lib Go.Sort

theorem lawS : Maps.Keyed Tryz.prog 9 := Maps.string_keyed Tryz.underlying9
theorem zeroI (w : World) : (zeroValue 3).run Tryz.prog w = .ok (.int .i64 0) w := by kernel_rfl

/-- What the map holds behind some wants. -/
def holdsB (n : List UInt8) (l : List Wt) (D : DataW Unit) : Prop :=
  Maps.IsMap D ∧ (∀ c, Maps.has D (.string c) = (bst n c none l).isSome) ∧ ∀ c q, bst n c none l = some q → ∀ z, D.atKey (.string c) z = .lit (.int .i64 q)
theorem holdsB_nil (n : List UInt8) : holdsB n [] (.map []) := ⟨Maps.isMap_empty, fun c => rfl, fun c q h => by cases h⟩
theorem holdsB_skip {n : List UInt8} {l : List Wt} {D : DataW Unit} {x : Wt} (h : holdsB n l D) (hf : ¬ forW n x = true) : holdsB n (l ++ [x]) D := by
  have e : ∀ c, bst n c none (l ++ [x]) = bst n c none l := fun c => by rw [bst_snoc, if_neg (fun h => hf h.1)]
  exact ⟨h.1, fun c => by rw [e]; exact h.2.1 c, fun c q hq => by rw [e] at hq; exact h.2.2 c q hq⟩
theorem holdsB_at {n : List UInt8} {l : List Wt} {D : DataW Unit} (h : holdsB n l D) {c : List UInt8} {q : Int} (hat : D.atKey (.string c) (.lit (.int .i64 0)) = .lit (.int .i64 q)) : q = (bst n c none l).getD 0 := by
  cases hb : bst n c none l with
  | none =>
    have := h.2.1 c
    rw [hb] at this
    rw [Maps.atKey_of_not_has this] at hat
    simp only [DataW.lit.injEq, Lit.int.injEq, true_and] at hat
    rw [← hat]; rfl
  | some q' =>
    rw [h.2.2 c q' hb] at hat
    simp only [DataW.lit.injEq, Lit.int.injEq, true_and] at hat
    rw [← hat]; rfl
theorem holdsB_put {n : List UInt8} {l : List Wt} {D : DataW Unit} {x : Wt} {q : Int} (h : holdsB n l D) (hf : forW n x = true) (hq : q = max ((bst n x.1 none l).getD 0) x.2.2) : holdsB n (l ++ [x]) (D.put (.string x.1) (.lit (.int .i64 q))) := by
  have e0 : bst n x.1 none (l ++ [x]) = some q := by rw [bst_snoc, if_pos ⟨hf, rfl⟩, hq]
  have e1 : ∀ c, c ≠ x.1 → bst n c none (l ++ [x]) = bst n c none l := fun c hc => by rw [bst_snoc, if_neg (fun h => hc h.2.symm)]
  refine ⟨h.1.put _ _, fun c => ?_, fun c q' hq' z => ?_⟩
  · by_cases hc : c = x.1
    · rw [hc, e0]; exact Maps.has_put_same h.1 (show WideAt.IsKeyLit (.string x.1) from trivial) _
    · rw [e1 c hc, Maps.has_put_other (by simpa using hc)]; exact h.2.1 c
  · by_cases hc : c = x.1
    · rw [hc, e0] at hq'
      cases hq'
      rw [hc]; exact Maps.atKey_put_same h.1 (show WideAt.IsKeyLit (.string x.1) from trivial) _ _
    · rw [e1 c hc] at hq'
      rw [Maps.atKey_put_other (by simpa using hc)]; exact h.2.2 c q' hq' z

theorem cell_lt {w : World} {a : Addr} {u : Value} (h : w.cell? a = some u) : a.block < w.heap.size := by
  refine Classical.byContradiction fun hn => ?_
  have : w.heap[a.block]? = none := by simp; omega
  simp [World.cell?, this] at h
theorem below_cell {w w' : World} {a : Addr} {u : Value} (h : w.cell? a = some u) (hb : Below w.heap.size w w') : w'.cell? a = some u := by
  rw [← h]; exact World.cell?_of_block (hb.block _ (cell_lt h))
theorem want_cells {w : World} {ad : Addr} {cap : Nat} {l : List Wt} (hv : readsW w (.slice (some ad) l.length cap) l) {k : Nat} (hk : k < l.length) :
    w.cell? (ad.add (k * 3)) = some (.string ⟨(l.getD k wD).1.toArray⟩) ∧ w.cell? ((ad.add (k * 3)).add 1) = some (.string ⟨(l.getD k wD).2.1.toArray⟩) ∧ w.cell? ((ad.add (k * 3)).add 2) = some (.int .i64 (l.getD k wD).2.2) := by
  have hr : (l.map encW).getD k [] = encW (l.getD k wD) := by
    rw [List.getD_eq_getElem?_getD, List.getD_eq_getElem?_getD, List.getElem?_map, List.getElem?_eq_getElem hk]; rfl
  have key : ∀ c, c < 3 → w.cell? ((ad.add (k * 3)).add c) = some ((encW (l.getD k wD)).getD c undef) := fun c hc => by
    obtain ⟨ad', cap', e, h, -⟩ := hv.get (i := k) (c := c) (by rw [List.length_map]; exact hk) hc
    simp only [Value.slice.injEq, Option.some.injEq] at e
    obtain ⟨rfl, -, rfl⟩ := e
    rw [hr] at h
    rw [Addr.add_add]; exact h
  refine ⟨?_, key 1 (by decide), key 2 (by decide)⟩
  have := key 0 (by decide)
  rwa [Addr.add_zero'] at this
theorem grown_mod {w w' : World} (h : Mod [] w w') : w.grownBy w' none := ⟨h.os, h.tape, h.output, h.size, fun k hk _ => h.block k hk (by simp)⟩
theorem heap_allocd (w : World) (o : Obj) : (w.alloc o).heap[w.heap.size]? = some o := by show (w.heap.push o)[w.heap.size]? = some o; simp
theorem cell_at {w : World} {b : Nat} {cs : Array Value} {t : TypeId} (h : w.heap[b]? = some (.cells cs t (0, 0))) (j : Nat) : w.cell? ⟨b, j, none⟩ = cs[j]? := by
  simp [World.cell?, h]
theorem wf_small {x : Int} (h1 : -9223372036854775808 ≤ x) (h2 : x ≤ 9223372036854775807) : (Lit.int .i64 x).wf = true := WalkArith.wf_i64 (by omega)
theorem wf_max {c y : Int} (hc : (Lit.int .i64 c).wf = true) (h1 : 0 ≤ y) (h2 : y ≤ 1) : (Lit.int .i64 (max c y)).wf = true := by
  simp [Lit.wf, IntKind.min, IntKind.max, IntKind.signed, IntKind.bits] at hc
  exact wf_small (by omega) (by omega)
theorem info_rd : (Tryz.prog.info? 111).map (fun i => (i.zero, i.size, i.bytes)) = some (some (.agg #[.string ⟨#[]⟩, .int .i64 0]), 2, 24) := by kernel_rfl
theorem cells_new (w : World) (x y : Value) (t : TypeId) : ∀ j u, [x, y][j]? = some u → (w.alloc (.cells #[x, y] t)).cell? ((⟨w.heap.size, 0, none⟩ : Addr).add j) = some u := by
  intro j u hj
  rw [Addr.add_lit, cell_at (heap_allocd w _)]
  match j, hj with
  | 0, hj => exact hj
  | 1, hj => exact hj
/-- What was collected of the map. -/
def collB (D : DataW Unit) (left : Lit → Bool) (ss : List Rd) : Prop := Collected D left (ss.map (·.1)) ∧ ∀ x ∈ ss, ∀ z, D.atKey (.string x.1) z = .lit (.int .i64 x.2)
theorem collB_start (D : DataW Unit) : collB D (Maps.has D) [] := ⟨Collected.start D, by simp⟩
theorem collB_step {D : DataW Unit} {left : Lit → Bool} {ss : List Rd} (h : collB D left ss) {c : List UInt8} {q : Int} (hlk : left (.string c) = true) (hat : ∀ z, D.atKey (.string c) z = .lit (.int .i64 q)) : collB D (fun z => left z && !z.sameKey (.string c)) (ss ++ [(c, q)]) := by
  refine ⟨by rw [List.map_append]; exact h.1.step hlk hat, fun x hx => ?_⟩
  rcases List.mem_append.1 hx with hx | hx
  · exact h.2 x hx
  · rw [List.mem_singleton.1 hx]; exact hat
/-- All is collected: sorted it is the readers. -/
theorem collB_end {n : List UInt8} {l : List Wt} {D : DataW Unit} {left : Lit → Bool} {ss ts : List Rd} (hD : holdsB n l D) (h : collB D left ss) (hl : ∀ k, left k = false) (hp : ts.Perm ss) (hs : ∀ i j, (hij : i < j) → (hj : j < ts.length) → ltB ts[j].1 (ts[i]'(Nat.lt_trans hij hj)).1 = false) : okY n ts l := by
  have hnd : (ts.map (·.1)).Nodup := (hp.map _).nodup_iff.2 h.1.1
  refine ⟨?_, fun c q => ?_⟩
  · rw [sortY, List.pairwise_iff_getElem]
    intro i j hi hj hij
    rcases ltB_not.1 (hs i j hij hj) with h1 | h1
    · exact h1
    · rw [List.nodup_iff_pairwise_ne, List.pairwise_iff_getElem] at hnd
      have := hnd i j (by simpa using hi) (by simpa using hj) hij
      simp only [List.getElem_map] at this
      exact absurd h1 this
  · rw [hp.mem_iff]
    constructor
    · intro hm
      have h1 := h.2 _ hm
      have h2 := (h.1.2 c).1 (List.mem_map.2 ⟨_, hm, rfl⟩)
      have h3 := hD.2.1 c
      rw [h2.1] at h3
      cases hb : bst n c none l with
      | none => rw [hb] at h3; cases h3
      | some q' =>
        have h4 := hD.2.2 c q' hb .nil
        rw [h1] at h4
        simp only [DataW.lit.injEq, Lit.int.injEq, true_and] at h4
        rw [h4]
    · intro hb
      have h3 := hD.2.1 c
      rw [hb] at h3
      obtain ⟨x, hx, hxc⟩ := List.mem_map.1 ((h.1.2 c).2 ⟨h3, hl _⟩)
      have h1 := h.2 x hx .nil
      have h4 := hD.2.2 c q hb .nil
      rw [hxc, h4] at h1
      simp only [DataW.lit.injEq, Lit.int.injEq, true_and] at h1
      rw [show (c, q) = x from Prod.ext hxc.symm h1]; exact hx
def cmpY (x y : Rd) : Int := cmpB x.1 y.1
theorem ltOf_cmpY (x y : Rd) : ltOf cmpY x y = ltB x.1 y.1 := by
  unfold ltOf cmpY
  have := @cmpB_lt x.1 y.1
  cases h : ltB x.1 y.1 with
  | true => exact decide_eq_true (this.2 h)
  | false => exact decide_eq_false (fun h2 => by rw [this.1 h2] at h; cases h)
theorem swoY : Sort.SWO (ltOf cmpY) where
  irrefl x := by rw [ltOf_cmpY]; exact ltB_irr _
  trans x y z h1 h2 := by rw [ltOf_cmpY] at *; exact ltB_trans h1 h2
  ntrans x y z h1 h2 := by
    rw [ltOf_cmpY] at *
    rcases ltB_not.1 h1 with h1 | h1 <;> rcases ltB_not.1 h2 with h2 | h2
    · exact ltB_asym (ltB_trans h2 h1)
    · rw [h2]; exact ltB_asym h1
    · rw [← h1]; exact ltB_asym h2
    · rw [h2, h1]; exact ltB_irr _
set_option maxHeartbeats 1000000 in
theorem closY (x y : Rd) (W : World) : Calls Tryz.prog 130 #[.agg (encY x).toArray, .agg (encY y).toArray] W fun e w' => e = .returned (.int .i64 (cmpY x y)) ∧ ∃ q os', w' = grow (W.drewN q) os' := by
  have hcon : ∀ W', Calls Tryz.prog 131 #[.string ⟨x.1.toArray⟩, .string ⟨y.1.toArray⟩] W' fun e w' => e = .returned (.int .i64 (cmpY x y)) ∧ w' = W' := fun W' => by
    refine (Any.strings_Compare Tryz.lays106 ⟨x.1.toArray⟩ ⟨y.1.toArray⟩ W').mono ?_
    rintro e w' ⟨rfl, rfl⟩
    rw [cmpB_eq]
    exact ⟨rfl, rfl⟩
  simp only [encY]
  generalize cmpY x y = r at hcon ⊢
  go_enter Tryz.func130, Tryz.ntmps130
  go_wp2_with (go_at_call 131; refine (hcon _).mono ?_; rintro e w' ⟨rfl, rfl⟩)
  go_ret
  exact ⟨rfl, 0, _, by rw [alloc_eq_grow, alloc_eq_grow, grow_grow]; rfl⟩
theorem encY_one (x : Rd) : ∀ v ∈ encY x, v.oneCell' = true := by
  intro v hv
  simp only [encY, List.mem_cons, List.not_mem_nil, or_false] at hv
  rcases hv with rfl | rfl <;> rfl
set_option maxRecDepth 100000 in
set_option maxHeartbeats 1000000 in
theorem ins_nil (w : World) (f : Value) : Calls Tryz.prog 184 #[.slice none 0 0, .int .i64 0, .int .i64 0, f] w fun e w' => e = .returned (.tuple #[]) ∧ w' = w := by
  go_enter Tryz.func184, Tryz.ntmps184
  go_wp2
  refine wp_loop_rounds 1 ?_
  rw [rounds_succ]
  go_wp2
  go_end0
  exact ⟨rfl, rfl⟩
set_option maxRecDepth 100000 in
set_option maxHeartbeats 1000000 in
theorem pdq_nil (w : World) (f : Value) (n : Int) : Calls Tryz.prog 165 #[.slice none 0 0, .int .i64 0, .int .i64 0, .int .i64 n, f] w fun e w' => e = .returned (.tuple #[]) ∧ w' = w := by
  go_enter Tryz.func165, Tryz.ntmps165
  go_wp2
  refine wp_loop_rounds 1 ?_
  rw [rounds_succ]
  go_wp2_with (go_at_call 184; refine (ins_nil _ _).mono ?_; rintro e w' ⟨rfl, rfl⟩)
  (try simp only [Exit.inBlock, Exit.then])
  refine bodyPost_ret (results_none rfl _ _ _) rfl ?_
  exact ⟨rfl, rfl⟩
set_option maxRecDepth 100000 in
set_option maxHeartbeats 1000000 in
theorem sort_nil (w : World) : Calls Tryz.prog 129 #[.slice none 0 0, .func (.func 130) #[] #[]] w fun e w' => e = .returned (.tuple #[]) ∧ Mod [] w w' := by
  have hl : ∀ W, Calls Tryz.prog 166 #[.int .u64 0] W fun e w' => e = .returned (.int .i64 (Lib.bitLen 0 : Nat)) ∧ w' = W := fun W =>
    Any.bits_Len (SlLaysF0.n15.bits (P := Tryz.prog) (ρ := Tryz.sortR_ren) { Tryz.sortR with }) 0 W (by omega) (by omega)
  go_enter Tryz.func129, Tryz.ntmps129
  go_wp2_with (first | (go_at_call 166; refine (hl _).mono ?_; rintro e w' ⟨rfl, rfl⟩) | (go_at_call 165; refine (pdq_nil _ _ _).mono ?_; rintro e w' ⟨rfl, rfl⟩))
  go_end0
  exact ⟨rfl, Mod.refl _ _⟩
theorem size_map {w : World} {P : Program} {k : TypeId} {R : Value → Option (DataW Unit × List MemPlace)} {b n : Nat} {D : DataW Unit} (h : w.ownsMap P k R b n D) : Maps.size D ≤ n := by
  obtain ⟨es, clock, hb, F, hn, rfl⟩ := h
  simpa [Maps.size, length_sorted] using hn
theorem own_base {w : World} {base e k : Nat} {v : Value} {n : Nat} {xs : List Value} (h : w.ownsRow base e k v n xs) : w.ownsRow 0 e k v n xs :=
  ⟨h.1, h.2.imp id fun ⟨g, cap, cur, a, b, r⟩ => ⟨g, cap, cur, a, Nat.zero_le _, r⟩⟩
theorem ownsY_nil (w : World) : ownsY w (.slice none 0 0) [] := ⟨by simp, rfl, .inl ⟨rfl, rfl⟩⟩
theorem rows_encY (ts : List Rd) : ∀ r ∈ ts.map encY, rowOk kY r := by
  intro r hr
  obtain ⟨x, -, rfl⟩ := List.mem_map.1 hr
  exact ⟨⟨_, rfl⟩, ⟨_, rfl⟩, trivial⟩
set_option maxRecDepth 100000 in
set_option maxHeartbeats 4000000 in
theorem of_walk (w : World) (a : Option Addr) (cap : Nat) (l : List Wt) (n : List UInt8) (hv : readsW w (.slice a l.length cap) l) (hs : smallW l) (hn : n.length < 1000000000) (hl : l.length < 1000000) (hq : ∀ x ∈ l, 0 ≤ x.2.2 ∧ x.2.2 ≤ 1) :
    Calls Tryz.prog 73 #[.slice a l.length cap, .string ⟨n.toArray⟩] w fun e w' => ∃ v' rs, e = .returned v' ∧ ownsY w' v' rs ∧ newW w.heap.size v' ∧ okY n rs l ∧ Mod [] w w' := by
  have hv0 := hv
  obtain ⟨hrow, a', cap', e1, ⟨hc1, hc2⟩, hcells⟩ := hv
  simp only [Value.slice.injEq, List.length_map] at e1
  obtain ⟨rfl, -, rfl⟩ := e1
  have hmm := @run_makeMap Tryz.prog
  go_enter Tryz.func73, Tryz.ntmps73
  go_wp2
  go_loopw [14] (fun i wr => ∃ (k : Nat) (D : DataW Unit), k ≤ l.length ∧ i = .int .i64 k ∧ wr.ownsMap Tryz.prog 9 (plainElem Tryz.prog 3) w.heap.size k D ∧ holdsB n (l.take k) D ∧ Below w.heap.size w wr)
    (fun i _ => l.length - (intOf i).toNat)
  case atStart => exact ⟨0, _, Nat.zero_le _, rfl, World.ownsMap_made _ _ _ _, holdsB_nil n, (Below.refl _ _).alloc (Nat.le_refl _) _⟩
  case round =>
    obtain ⟨k, D, hk, rfl, hown, hD, hnx⟩ := hrel
    by_cases hlt : k < l.length
    · obtain ⟨ad, rfl, hcell⟩ := hcells (fun e => by rw [List.map_eq_nil_iff] at e; rw [e] at hlt; exact Nat.not_lt_zero _ hlt)
      obtain ⟨q0, q1, q2⟩ := want_cells hv0 hlt
      have h0 := below_cell q0 hnx
      have h1 := below_cell q1 hnx
      have h2 := below_cell q2 hnx
      have hx1 := hs _ (memW l k hlt)
      have htk := takeW l k hlt
      have hq1 := hq _ (memW l k hlt)
      generalize l.getD k wD = x at h0 h1 h2 hx1 htk hq1
      rw [Addr.add_succ'] at h1 h2
      clear q0 q1 q2
      generalize hA : ad.add (k * 3) = A at h0 h1 h2
      have hkey : keyOf Tryz.prog 9 (.string ⟨x.1.toArray⟩) = some (.string x.1) := by
        have := WideMaps.keyOf_string_mk Tryz.underlying9 (s := ⟨x.1.toArray⟩) (by have := hx1.1; simp [ByteArray.size, maxLen]; omega)
        simpa using this
      have hc := c_For (wr.alloc (.cells #[.string ⟨x.1.toArray⟩, .string ⟨x.2.1.toArray⟩, .int .i64 x.2.2] 57)) x.2.1 n (by have := hx1.2; omega) (by omega)
      go_wp2_with (first
        | (go_at_call 128; refine hc.mono ?_; rintro e w2 ⟨rfl, gm⟩
           have g1 := grown_mod gm
           have hown2 := (hown.alloc (.cells #[.string ⟨x.1.toArray⟩, .string ⟨x.2.1.toArray⟩, .int .i64 x.2.2] 57)).kept g1 (by simp)
           have hnx2 := (hnx.alloc hnx.size (.cells #[.string ⟨x.1.toArray⟩, .string ⟨x.2.1.toArray⟩, .int .i64 x.2.2] 57)).grown g1 (by have := hnx.size; simp; omega) (fun j hj => by cases hj)
           have hbl := g1.block wr.heap.size (by simp) (by simp)
           simp only [heap_allocd] at hbl
           have c0 := cell_at hbl 0
           have c1 := cell_at hbl 1
           have c2 := cell_at hbl 2)
        | (at_lookup; refine wpList_lookup_own_int _ rfl _ _ 159 rfl 9 3 .i64 lawS Tryz.underlying159 Tryz.underlying3 (zeroI _) w.heap.size k _ rfl hown2 _ _ rfl hkey ?_; intro c hat hwc)
        | (at_mapUpdate; refine wpList_mapUpdate_own _ rfl _ _ _ 159 rfl 9 3 lawS Tryz.underlying159 _ w.heap.size k _ rfl hown2 (by unfold maxLen; omega) _ _ _ rfl rfl hkey _ [] (plainElem_int Tryz.underlying3 (wf_max hwc hq1.1 hq1.2)) ?_; intro w3 hown3 hgrow3)
        | go_in)
      · have hf : forW n x = true := by assumption
        have hg : holdsB n (l.take (k + 1)) (D.put (.string x.1) (.lit (.int .i64 (max c x.2.2)))) := by rw [htk]; exact holdsB_put hD hf (by rw [holdsB_at hD hat])
        have hb3 := hnx2.grown hgrow3 hnx2.size (fun j hj => by cases hj; exact Nat.le_refl _)
        go_roundw
        case rel => exact ⟨k + 1, _, by omega, by go_num, hown3, hg, hb3⟩
        case measure => simp [intOf]; omega
      · have hf : ¬ forW n x = true := by rw [forW]; simp_all
        have hg : holdsB n (l.take (k + 1)) D := by rw [htk]; exact holdsB_skip hD hf
        go_roundw
        case rel => exact ⟨k + 1, _, by omega, by go_num, hown2.mono (by omega), hg, hnx2⟩
        case measure => simp [intOf]; omega
    · have hke : k = l.length := by omega
      subst hke
      rw [List.take_length] at hD
      go_wp2_with (first
        | (at_range; refine wpList_range_own _ rfl _ 159 rfl 9 3 lawS Tryz.underlying159 _ w.heap.size l.length _ rfl hown ?_; intro w0 hrg0 hg0 hs0)
        | go_in)
      go_frame
      obtain ⟨i0, hi, hz0, hz1, hz2⟩ := info_parts info_rd
      have hb0 := hnx.grown hg0 hnx.size (fun j hj => by cases hj)
      have hr0 : w.heap.size ≤ wr.heap.size := hnx.size
      have hszD : Maps.size D ≤ l.length := size_map hown
      generalize wr.heap.size = r0 at hrg0 hr0 ⊢
      clear hg0 hs0 hown hnx
      go_loopw [8] (fun v wq => ∃ (left : Lit → Bool) (cnt : Nat) (ss : List Rd), wq.ranges Tryz.prog 9 (plainElem Tryz.prog 3) w.heap.size r0 l.length D left cnt ∧ ss.length + cnt ≤ Maps.size D ∧
          wq.ownsRow (w.heap.size + 1) 111 2 v ss.length (ss.map encY).flatten ∧ collB D left ss ∧ Below w.heap.size w wq)
        (fun _ wq => wq.rangeLeft w.heap.size r0)
      case atStart => exact ⟨_, _, [], hrg0, by simp, ⟨rfl, .inl ⟨rfl, rfl⟩⟩, collB_start D, hb0⟩
      case round =>
        obtain ⟨left, cnt, ss, hrg, hcs, hrow, hC, hnq⟩ := hrel
        go_wp2_with (first
          | (at_next; refine wpList_next_ranges _ rfl _ rfl 9 lawS (plainElem Tryz.prog 3) Go.Proofs.encStr (Value.int .i64) (fun key kl hk => by obtain ⟨x, hx, _⟩ := Maps.keyOf_str Tryz.underlying9 hk; exact ⟨x, hx⟩) (fun v y hv => by obtain ⟨c, rfl, _⟩ := plainElem_int_inv Tryz.underlying3 hv; exact ⟨c, rfl⟩) w.heap.size r0 l.length _ _ _ rfl hrg ?_ ?_)
          | go_in)
        · intro hc00 hl0
          rcases hrow.2 with ⟨hnil, hz⟩ | ⟨g, cap2, cur, hvs, hbase, hb, h1, h2, h3, h4⟩
          · have hss : ss = [] := List.length_eq_zero_iff.1 hz
            subst hss
            subst hnil
            go_wp2_with (go_at_call 129; refine (sort_nil _).mono ?_; rintro e w' ⟨rfl, gm⟩)
            go_ret
            refine ⟨.slice none 0 0, [], rfl, ownsY_nil _, newW_nil _, collB_end hD hC hl0 (List.Perm.refl _) (fun i j hij hj => absurd hj (by simp)), ?_⟩
            exact Mod.of_below (hnq.grown (grown_mod gm) hnq.size (fun j hj => by cases hj))
          · subst hvs
            have hgl := (Array.getElem?_eq_some_iff.1 hb).1
            have hlen : ss.length < 4611686018427387904 := by omega
            have eg : ∀ args w, (callFunc 130 args).run Tryz.prog w = .ok (.enter 130 args) w := enters_of Tryz.func130 (by kernel_rfl) rfl
            have hc : Calls Tryz.prog 129 #[.slice (some ⟨g, 0, none⟩) ss.length cap2, .func (.func 130) #[] #[]] wr _ :=
              AnyQ.slices_SortFunc Tryz.sortR 2 Tryz.isAgg111 Tryz.sizeOf111 encY (fun _ => rfl) encY_one cmpY swoY 130 #[] g 0 cap2 ss.toArray wr eg (fun _ _ _ _ x y => closY x y _) (holdsK_of_block (enc := encY) (k := 2) (ds := ss) (fun _ => rfl) (by decide) hb h4) hgl hlen
            go_wp2_with (go_at_call 129; refine hc.mono ?_; rintro e w' ⟨rfl, d', nn, os, hp, hso, rfl⟩)
            go_ret
            obtain ⟨ts⟩ := d'
            have hsz : ts.length = ss.length := hp.1
            have hpm : ts.Perm ss := by
              have := hp.2.2
              simp only [List.size_toArray] at this
              rw [← hsz] at this
              have e : ss.take ts.length = ss := by rw [hsz, List.take_length]
              simpa [e] using this
            refine ⟨_, ts, rfl, ⟨rows_encY ts, own_base (base := w.heap.size + 1) ?_⟩, fun k hk => ?_, collB_end hD hC hl0 hpm (fun i j hij hj => ?_), ?_⟩
            · have := ownsRow_sortedK (w := wr) (n := nn) (os := os) (enc := encY) (k := 2) (ts := ts) (fun _ => rfl) (by decide) hbase hb (by omega) h2 h3
              rw [List.length_map, ← hsz]; exact this
            · have : g = k := Option.some.inj hk
              omega
            · have := hso i j (Nat.zero_le _) hij (by show j < ss.length; omega)
              rw [ltOf_cmpY, getElem!_pos _ j (by simpa using hj), getElem!_pos _ i (by simp; omega)] at this
              exact this
            · exact Mod.of_below (hnq.grown (grownBy_sortedK _) hnq.size (fun j hj => by cases hj; exact Nat.le_of_succ_le hbase))
        · intro x c kl yd yp w2 cnt2 hkey hlk hv hat hrg2 hlt2 hg2 hs2 hen
          obtain ⟨x', ex, rfl, _⟩ := Maps.keyOf_str Tryz.underlying9 hkey
          obtain rfl : x = x' := encStr_inj ex
          have hrow2 := hrow.kept hg2 (Or.inr (row_ne_iter hrow hrg).symm)
          clear hs2
          obtain ⟨c', ec, e2, hwc⟩ := plainElem_int_inv Tryz.underlying3 hv
          obtain rfl : c = c' := by simpa using ec
          obtain rfl : yd = .lit (.int .i64 c) := (Prod.mk.inj e2).1
          clear hv ec e2
          go_wp2_with (first
            | (at_builtin; refine wpList_append_own _ rfl _ _ 49 rfl (w.heap.size + 1) 111 i0 (.agg #[.string ⟨#[]⟩, .int .i64 0]) 2 24 Tryz.underlying49 hi hz0 hz1 hz2 rfl (by decide) _ _ _ rfl (hrow2.alloc _) ⟨w2.heap.size, 0, none⟩ 1 1 [Go.Proofs.encStr x, .int .i64 c] rfl rfl (cells_new _ _ _ _) (by simp [Value.oneCell', Go.Proofs.encStr]) (by unfold maxLen; omega) (by omega) (by have := hrg2.owns.lt; simp; omega) ?_; intro v' w3 hown' hg3 hnil3; go_frame)
            | go_in)
          have hrg3 := (hrg2.alloc _).kept hg3 (row_ne_low hrow2 (Nat.lt_succ_self _)) (row_ne_iter hrow2 hrg2)
          have hb3 := ((hnq.grown hg2 hnq.size (fun j hj => by cases hj; exact hr0)).alloc (by have := hnq.size; have := hg2.size; omega) _).grown hg3 (by have := hnq.size; have := hg2.size; simp; omega) (fun j hj => Nat.le_of_succ_le (hrow2.lt j hj).1)
          go_roundw
          case rel =>
            exact ⟨_, cnt2, ss ++ [(x, c)], hrg3, by simp; omega, by simpa [encY, Go.Proofs.encStr] using hown', collB_step hC hlk hat, hb3⟩
          case measure => rw [hrg3.left_eq, hrg.left_eq]; exact hlt2
end Go.Proofs.YtliedecinehijaaGreatDoor

/-
  Wants: Readers; what must be in any case. By an AI agent.
-/
set_option linter.unusedSimpArgs false
set_option linter.unusedVariables false
namespace Go.Proofs.YtliedecinehijaaGreatDoor
open Go Go.Sx

theorem oneE_q {x : Wt} (h : oneE x = 0) : cliB x.1 = true ∧ chkT x.2.1 true = 0 ∧ 0 ≤ x.2.2 ∧ x.2.2 ≤ 1 := by
  unfold oneE at h
  split at h
  · rename_i h1
    unfold askE at h
    simp only at h
    split at h
    · rename_i h2
      split at h
      · rename_i h3
        exact ⟨h1, h2, h3⟩
      · exact absurd h (by decide)
    · rename_i h2
      exact absurd h h2
  · exact absurd h (by decide)
theorem chkW_q {l : List Wt} (h : chkW l = 0) : ∀ x ∈ l, cliB x.1 = true ∧ chkT x.2.1 true = 0 ∧ 0 ≤ x.2.2 ∧ x.2.2 ≤ 1 := fun x hx => oneE_q ((chkW_iff.1 h).2.1 x hx)
theorem c_Of (w : World) (v : Value) (l : List Wt) (n : List UInt8) (hv : readsW w v l) (hs : smallW l) (hn : n.length < 1000000000) (h : chkW l = 0) : Calls Tryz.prog 73 #[sc1 v, .string ⟨n.toArray⟩] w
    fun e w' => ∃ v', e = .returned (sc1 v') ∧ ownsY w' v' (rdOf n l) ∧ newW w.heap.size v' ∧ Mod [] w w' := by
  rw [hv.sc1]
  obtain ⟨k1, k2, k3⟩ := chkW_iff.1 h
  have hv0 := hv
  obtain ⟨-, a, cap, rfl, -, -⟩ := hv
  rw [List.length_map] at hv0 ⊢
  refine (of_walk w a cap l n hv0 hs hn (by omega) fun x hx => (chkW_q h x hx).2.2).mono ?_
  rintro e w' ⟨v', rs, rfl, g1, g2, g3, g4⟩
  have e1 : rs = rdOf n l := by
    obtain ⟨a1, a2⟩ := rdOf_ok (n := n) (sortW_rise k3)
    exact sortY_uniq g3.1 a1 fun x => by rw [show x = (x.1, x.2) from rfl, g3.2, a2]
  subst e1
  exact ⟨v', by rw [g1.reads.sc1], g1, g2, g4⟩
def readE (l : List Wt) (n : List UInt8) : Int := if chkW l = 0 then chkT n false else chkW l
def readC (l : List Wt) (n : List UInt8) : List Rd × Int := if readE l n = 0 then (rdOf n l, 0) else ([], readE l n)
theorem readsY_nil (w : World) : readsY w (.slice none 0 0) [] := ⟨by simp, none, 0, rfl, ⟨fun _ => rfl, Nat.le_refl _⟩, fun h => absurd rfl h⟩
def gotY (w w' : World) (e : Ending) (r : List Rd) (er : Int) : Prop := ∃ v', e = .returned (.tuple #[sc1 v', .int .i64 er]) ∧ readsY w' v' r ∧ newW w.heap.size v' ∧ Mod [] w w'
set_option maxHeartbeats 1000000 in
theorem c_Readers (w : World) (v : Value) (l : List Wt) (n : List UInt8) (hv : readsW w v l) (hs : smallW l) (hl : l.length < 1000000000) (hn : n.length < 1000000000) : Calls Tryz.prog 22 #[sc1 v, .string ⟨n.toArray⟩] w
    fun e w' => gotY w w' e (readC l n).1 (readC l n).2 := by
  refine as_called (run_tree2 (ρ := [.v v, .r (l.map encW), .s n]) sxE_ok Tryz.func22 tree_want_Readers rfl rfl (Rel.start2 (by simp [Ent.holds, Ent.wr, hv, X.ev])) rfl rfl ?_) rfl
  simp only [Tree.goal, X.P, X.ev, V.toI_i, V.toB_b, V.toS_s, V.toR_r, V.toV_v, V.toN_n, V.toL_l, SV.ev, CV.ev, Sc.ev, List.getD_cons_zero, List.getD_cons_succ, List.getElem?_cons_zero, List.getElem?_cons_succ, List.map_cons, List.map_nil, List.length_cons, List.length_nil, List.cons_append, List.nil_append, Nat.zero_add, Nat.reduceAdd, List.length_map, Int.toNat_natCast, gW0, gW1, gW2, gY0, gY1]
  refine ⟨[.i (chkW l)], rfl, fun _ w' hr => c_CheckW w' v l (by (have hq := hr; repeat (first | exact hq.hd | replace hq := hq.tl))) hs hl, ?_⟩
  simp only [Tree.goal, X.P, X.ev, V.toI_i, V.toB_b, V.toS_s, V.toR_r, V.toV_v, V.toN_n, V.toL_l, SV.ev, CV.ev, Sc.ev, List.getD_cons_zero, List.getD_cons_succ, List.getElem?_cons_zero, List.getElem?_cons_succ, List.map_cons, List.map_nil, List.length_cons, List.length_nil, List.cons_append, List.nil_append, Nat.zero_add, Nat.reduceAdd, List.length_map, Int.toNat_natCast, gW0, gW1, gW2, gY0, gY1]
  refine ⟨fun h w1 hr => ?_, fun h => ?_⟩
  · have e : readE l n = chkW l := by rw [readE, if_neg h]
    rw [readC, e, if_neg h]
    exact ⟨_, rfl, readsY_nil _, newW_nil _, hr.mod⟩
  have h := Classical.not_not.1 h
  have e : readE l n = chkT n false := by rw [readE, if_pos h]
  refine ⟨[.i (chkT n false)], rfl, fun _ w' hr => c_Name w' n (by omega), ?_⟩
  simp only [Tree.goal, X.P, X.ev, V.toI_i, V.toB_b, V.toS_s, V.toR_r, V.toV_v, V.toN_n, V.toL_l, SV.ev, CV.ev, Sc.ev, List.getD_cons_zero, List.getD_cons_succ, List.getElem?_cons_zero, List.getElem?_cons_succ, List.map_cons, List.map_nil, List.length_cons, List.length_nil, List.cons_append, List.nil_append, Nat.zero_add, Nat.reduceAdd, List.length_map, Int.toNat_natCast, gW0, gW1, gW2, gY0, gY1]
  refine ⟨fun h1 w1 hr => ?_, fun h1 w1 hr => ?_⟩
  · rw [readC, e, if_neg h1]
    exact ⟨_, rfl, readsY_nil _, newW_nil _, hr.mod⟩
  · have h1 := Classical.not_not.1 h1
    rw [readC, e, if_pos h1]
    refine (c_Of w1 v l n (by (have hq := hr; repeat (first | exact hq.hd | replace hq := hq.tl))) hs hn h).mono ?_
    rintro e w2 ⟨v', rfl, g1, g2, gm⟩
    refine ⟨[.v v', .r ((rdOf n l).map encY)], rfl, rfl, gm, List.forall_mem_nil _, List.forall_mem_cons.2 ⟨⟨g1.reads, fun k hk => .inl (g2 k hk.2)⟩, List.forall_mem_nil _⟩, apart_one, ?_⟩
    intro w3 hr3
    exact ⟨v', rfl, hr3.at_ 0 rfl, newW_le g2 hr.mod.size, hr3.mod⟩
theorem c_sameReaders (w : World) (u v : Value) (a b : List Rd) (hu : readsY w u a) (hv : readsY w v b) (hl : a.length < 1000000000) : Calls Tryz.prog 33 #[sc1 u, sc1 v] w
    fun e w' => e = .returned (.bool (decide (a = b))) ∧ Mod [] w w' := by
  refine as_called (run_tree2 (ρ := [.v u, .r (a.map encY), .v v, .r (b.map encY)]) sxE_ok Tryz.func33 tree_dragomanlaw_sameReaders rfl rfl (Rel.start2 (by simp [Ent.holds, Ent.wr, hu, hv, X.ev])) rfl rfl ?_) rfl
  simp only [Tree.goal, X.P, X.ev, V.toI_i, V.toB_b, V.toS_s, V.toR_r, V.toV_v, V.toN_n, V.toL_l, SV.ev, CV.ev, Sc.ev, List.getD_cons_zero, List.getD_cons_succ, List.getElem?_cons_zero, List.getElem?_cons_succ, List.map_cons, List.map_nil, List.length_cons, List.length_nil, List.cons_append, List.nil_append, Nat.zero_add, Nat.reduceAdd, List.length_map, Int.toNat_natCast, gW0, gW1, gW2, gY0, gY1]
  refine ⟨fun h w' hr => ⟨?_, hr.mod⟩, fun h => ?_⟩
  · rw [decide_eq_false]; rintro rfl; exact h rfl
  have h : a.length = b.length := by omega
  refine ⟨fun vs => ∃ (i : Nat) (x : V), vs = [x, .i i] ∧ i ≤ a.length ∧ ∀ j, j < i → a.getD j yD = b.getD j yD, fun vs => a.length - (vs.getD 1 (.i 0)).toI.toNat, ⟨0, _, rfl, by omega, fun j hj => by omega⟩, ?_⟩
  rintro _ - ⟨i, x, rfl, hi, hs⟩
  simp only [Tree.goal, X.P, X.ev, V.toI_i, V.toB_b, V.toS_s, V.toR_r, V.toV_v, V.toN_n, V.toL_l, SV.ev, CV.ev, Sc.ev, List.getD_cons_zero, List.getD_cons_succ, List.getElem?_cons_zero, List.getElem?_cons_succ, List.map_cons, List.map_nil, List.length_cons, List.length_nil, List.cons_append, List.nil_append, Nat.zero_add, Nat.reduceAdd, List.length_map, Int.toNat_natCast, gW0, gW1, gW2, gY0, gY1]
  refine ⟨fun h1 => ⟨by omega, by omega, fun h2 w' hr => ⟨?_, hr.mod⟩, fun h2 => ⟨by omega, by omega, ⟨i + 1, x, rfl, by omega, fun j hj => ?_⟩, by omega⟩⟩, fun h1 w' hr => ⟨?_, hr.mod⟩⟩
  · rw [decide_eq_false]; rintro rfl; exact h2 ⟨rfl, rfl⟩
  · by_cases hji : j = i
    · subst hji
      have h2 := Classical.not_not.1 h2
      exact Prod.ext h2.1 h2.2
    · exact hs j (by omega)
  · rw [decide_eq_true]
    refine List.ext_getElem h fun j hj1 hj2 => ?_
    have := hs j (by omega)
    rwa [List.getD_eq_getElem?_getD, List.getD_eq_getElem?_getD, List.getElem?_eq_getElem hj1, List.getElem?_eq_getElem hj2] at this
def wA : List Wt := [([97, 110, 110], [35], 0), ([97, 110, 110], [97, 47, 43], 1), ([98, 111, 98], [99], 0)]
def wB : List Wt := [([97, 110, 110], [35], 1), ([97, 110, 110], [97, 47, 43], 1), ([98, 111, 98], [99], 0)]
def wC : List Wt := [([97, 110, 110], [97, 47, 43], 1), ([98, 111, 98], [99], 0)]
def wE : List Wt := [([98, 111, 98], [99], 0)]
theorem wb1 : addC wA ([97, 110, 110], [35], 1) = (wB, 0) := Prod.ext (by decide) (by decide)
theorem wb2 : goneC (fun w => decide (¬ (w.1 = [97, 110, 110] ∧ w.2.1 = [35]))) wA = (wC, 0) := Prod.ext (by decide) (by decide)
theorem wb3 : goneC (fun w => decide (¬ w.1 = [97, 110, 110])) wA = (wE, 0) := Prod.ext (by decide) (by decide)
theorem wb4 : readC wA [97, 47, 98] = ([([97, 110, 110], 1)], 0) := Prod.ext (by decide) (by decide)
theorem wb5 : chkW wA = 0 := by decide
theorem c_wants (w : World) : Calls Tryz.prog 78 #[] w fun e w' => ∃ v', e = .returned (sc1 v') ∧ readsW w' v' wA ∧ newW w.heap.size v' ∧ Mod [] w w' := by
  refine as_called (run_plain2 (ρ := []) sxE_ok Tryz.func78 tree_dragomanlaw_wants rfl rfl rfl ?_) rfl
  simp only [Tree.goal, X.P, X.ev, V.toI_i, V.toB_b, V.toS_s, V.toR_r, V.toV_v, V.toN_n, V.toL_l, SV.ev, CV.ev, Sc.ev, List.getD_cons_zero, List.getD_cons_succ, List.getElem?_cons_zero, List.getElem?_cons_succ, List.map_cons, List.map_nil, List.length_cons, List.length_nil, List.cons_append, List.nil_append, Nat.zero_add, Nat.reduceAdd]
  intro v w' hr
  exact ⟨v, rfl, (hr.at_ 0 rfl).reads, hr.fresh 0 rfl, hr.mod⟩
set_option maxHeartbeats 1000000 in
theorem c_wantBegun (w : World) : Calls Tryz.prog 30 #[] w fun e w' => e = .returned (.bool true) ∧ Mod [] w w' := by
  refine as_called (run_plain2 (ρ := []) sxE_ok Tryz.func30 tree_dragomanlaw_wantBegun rfl rfl rfl ?_) rfl
  simp only [Tree.goal, X.P, X.ev, V.toI_i, V.toB_b, V.toS_s, V.toR_r, V.toV_v, V.toN_n, V.toL_l, SV.ev, CV.ev, Sc.ev, List.getD_cons_zero, List.getD_cons_succ, List.getElem?_cons_zero, List.getElem?_cons_succ, List.map_cons, List.map_nil, List.length_cons, List.length_nil, List.cons_append, List.nil_append, Nat.zero_add, Nat.reduceAdd]
  intro w1 hr; refine (c_wants w1).mono ?_; rintro e w2 ⟨v', rfl, g1, g2, gm⟩; refine ⟨[.v v', .r (wA.map encW)], rfl, rfl, gm, List.forall_mem_nil _, List.forall_mem_cons.2 ⟨⟨g1, fun k hk => .inl (g2 k hk.2)⟩, List.forall_mem_nil _⟩, apart_one, ?_⟩; clear hr g1 g2 gm; simp only [Tree.goal, X.P, X.ev, V.toI_i, V.toB_b, V.toS_s, V.toR_r, V.toV_v, V.toN_n, V.toL_l, SV.ev, CV.ev, Sc.ev, List.getD_cons_zero, List.getD_cons_succ, List.getElem?_cons_zero, List.getElem?_cons_succ, List.map_cons, List.map_nil, List.length_cons, List.length_nil, List.cons_append, List.nil_append, Nat.zero_add, Nat.reduceAdd]; intro w1 hr
  refine (c_AddW w1 v' wA ([97, 110, 110], [35], 1) (by (have hq := hr; repeat (first | exact hq.hd | replace hq := hq.tl))) (by unfold smallW smW; decide) (by decide) ⟨by decide, by decide⟩).mono ?_
  rw [wb1]
  rintro e w2 ⟨u1, rfl, g1, g2, gm⟩
  refine ⟨[.v u1, .r (wB.map encW), .i 0], rfl, rfl, gm, List.forall_mem_nil _, List.forall_mem_cons.2 ⟨⟨g1, fun k hk => .inl (g2 k hk.2)⟩, List.forall_mem_nil _⟩, apart_one, ?_⟩; clear hr g1 g2 gm; simp only [Tree.goal, X.P, X.ev, V.toI_i, V.toB_b, V.toS_s, V.toR_r, V.toV_v, V.toN_n, V.toL_l, SV.ev, CV.ev, Sc.ev, List.getD_cons_zero, List.getD_cons_succ, List.getElem?_cons_zero, List.getElem?_cons_succ, List.map_cons, List.map_nil, List.length_cons, List.length_nil, List.cons_append, List.nil_append, Nat.zero_add, Nat.reduceAdd]
  intro w1 hr; refine (c_wants w1).mono ?_; rintro e w2 ⟨v', rfl, g1, g2, gm⟩; refine ⟨[.v v', .r (wA.map encW)], rfl, rfl, gm, List.forall_mem_nil _, List.forall_mem_cons.2 ⟨⟨g1, fun k hk => .inl (g2 k hk.2)⟩, List.forall_mem_nil _⟩, apart_one, ?_⟩; clear hr g1 g2 gm; simp only [Tree.goal, X.P, X.ev, V.toI_i, V.toB_b, V.toS_s, V.toR_r, V.toV_v, V.toN_n, V.toL_l, SV.ev, CV.ev, Sc.ev, List.getD_cons_zero, List.getD_cons_succ, List.getElem?_cons_zero, List.getElem?_cons_succ, List.map_cons, List.map_nil, List.length_cons, List.length_nil, List.cons_append, List.nil_append, Nat.zero_add, Nat.reduceAdd]; intro w1 hr
  refine (c_DropW w1 v' wA [97, 110, 110] [35] (by (have hq := hr; repeat (first | exact hq.hd | replace hq := hq.tl))) (by unfold smallW smW; decide) (by decide)).mono ?_
  rw [wb2]
  rintro e w2 ⟨u2, rfl, g1, g2, gm⟩
  refine ⟨[.v u2, .r (wC.map encW), .i 0], rfl, rfl, gm, List.forall_mem_nil _, List.forall_mem_cons.2 ⟨⟨g1, fun k hk => .inl (g2 k hk.2)⟩, List.forall_mem_nil _⟩, apart_one, ?_⟩; clear hr g1 g2 gm; simp only [Tree.goal, X.P, X.ev, V.toI_i, V.toB_b, V.toS_s, V.toR_r, V.toV_v, V.toN_n, V.toL_l, SV.ev, CV.ev, Sc.ev, List.getD_cons_zero, List.getD_cons_succ, List.getElem?_cons_zero, List.getElem?_cons_succ, List.map_cons, List.map_nil, List.length_cons, List.length_nil, List.cons_append, List.nil_append, Nat.zero_add, Nat.reduceAdd]
  intro w1 hr; refine (c_wants w1).mono ?_; rintro e w2 ⟨v', rfl, g1, g2, gm⟩; refine ⟨[.v v', .r (wA.map encW)], rfl, rfl, gm, List.forall_mem_nil _, List.forall_mem_cons.2 ⟨⟨g1, fun k hk => .inl (g2 k hk.2)⟩, List.forall_mem_nil _⟩, apart_one, ?_⟩; clear hr g1 g2 gm; simp only [Tree.goal, X.P, X.ev, V.toI_i, V.toB_b, V.toS_s, V.toR_r, V.toV_v, V.toN_n, V.toL_l, SV.ev, CV.ev, Sc.ev, List.getD_cons_zero, List.getD_cons_succ, List.getElem?_cons_zero, List.getElem?_cons_succ, List.map_cons, List.map_nil, List.length_cons, List.length_nil, List.cons_append, List.nil_append, Nat.zero_add, Nat.reduceAdd]; intro w1 hr
  refine (c_LeaveW w1 v' wA [97, 110, 110] (by (have hq := hr; repeat (first | exact hq.hd | replace hq := hq.tl))) (by unfold smallW smW; decide) (by decide)).mono ?_
  rw [wb3]
  rintro e w2 ⟨u3, rfl, g1, g2, gm⟩
  refine ⟨[.v u3, .r (wE.map encW), .i 0], rfl, rfl, gm, List.forall_mem_nil _, List.forall_mem_cons.2 ⟨⟨g1, fun k hk => .inl (g2 k hk.2)⟩, List.forall_mem_nil _⟩, apart_one, ?_⟩; clear hr g1 g2 gm; simp only [Tree.goal, X.P, X.ev, V.toI_i, V.toB_b, V.toS_s, V.toR_r, V.toV_v, V.toN_n, V.toL_l, SV.ev, CV.ev, Sc.ev, List.getD_cons_zero, List.getD_cons_succ, List.getElem?_cons_zero, List.getElem?_cons_succ, List.map_cons, List.map_nil, List.length_cons, List.length_nil, List.cons_append, List.nil_append, Nat.zero_add, Nat.reduceAdd]
  intro w1 hr; refine (c_wants w1).mono ?_; rintro e w2 ⟨v', rfl, g1, g2, gm⟩; refine ⟨[.v v', .r (wA.map encW)], rfl, rfl, gm, List.forall_mem_nil _, List.forall_mem_cons.2 ⟨⟨g1, fun k hk => .inl (g2 k hk.2)⟩, List.forall_mem_nil _⟩, apart_one, ?_⟩; clear hr g1 g2 gm; simp only [Tree.goal, X.P, X.ev, V.toI_i, V.toB_b, V.toS_s, V.toR_r, V.toV_v, V.toN_n, V.toL_l, SV.ev, CV.ev, Sc.ev, List.getD_cons_zero, List.getD_cons_succ, List.getElem?_cons_zero, List.getElem?_cons_succ, List.map_cons, List.map_nil, List.length_cons, List.length_nil, List.cons_append, List.nil_append, Nat.zero_add, Nat.reduceAdd]; intro w1 hr
  refine (c_Readers w1 v' wA [97, 47, 98] (by (have hq := hr; repeat (first | exact hq.hd | replace hq := hq.tl))) (by unfold smallW smW; decide) (by decide) (by decide)).mono ?_
  rw [wb4]
  rintro e w2 ⟨u4, rfl, g1, g2, gm⟩
  refine ⟨[.v u4, .r ([(([97, 110, 110], 1) : Rd)].map encY), .i 0], rfl, rfl, gm, List.forall_mem_nil _, List.forall_mem_cons.2 ⟨⟨g1, fun k hk => .inl (g2 k hk.2)⟩, List.forall_mem_nil _⟩, apart_one, ?_⟩; clear hr g1 g2 gm; simp only [Tree.goal, X.P, X.ev, V.toI_i, V.toB_b, V.toS_s, V.toR_r, V.toV_v, V.toN_n, V.toL_l, SV.ev, CV.ev, Sc.ev, List.getD_cons_zero, List.getD_cons_succ, List.getElem?_cons_zero, List.getElem?_cons_succ, List.map_cons, List.map_nil, List.length_cons, List.length_nil, List.cons_append, List.nil_append, Nat.zero_add, Nat.reduceAdd]
  intro w1 hr; refine (c_wants w1).mono ?_; rintro e w2 ⟨v', rfl, g1, g2, gm⟩; refine ⟨[.v v', .r (wA.map encW)], rfl, rfl, gm, List.forall_mem_nil _, List.forall_mem_cons.2 ⟨⟨g1, fun k hk => .inl (g2 k hk.2)⟩, List.forall_mem_nil _⟩, apart_one, ?_⟩; clear hr g1 g2 gm; simp only [Tree.goal, X.P, X.ev, V.toI_i, V.toB_b, V.toS_s, V.toR_r, V.toV_v, V.toN_n, V.toL_l, SV.ev, CV.ev, Sc.ev, List.getD_cons_zero, List.getD_cons_succ, List.getElem?_cons_zero, List.getElem?_cons_succ, List.map_cons, List.map_nil, List.length_cons, List.length_nil, List.cons_append, List.nil_append, Nat.zero_add, Nat.reduceAdd]
  refine ⟨[.i (chkW wA)], rfl, fun _ w' hr => c_CheckW w' v' wA (by (have hq := hr; repeat (first | exact hq.hd | replace hq := hq.tl))) (by unfold smallW smW; decide) (by decide), ?_⟩
  rw [wb5]
  simp only [Tree.goal, X.P, X.ev, V.toI_i, V.toB_b, V.toS_s, V.toR_r, V.toV_v, V.toN_n, V.toL_l, SV.ev, CV.ev, Sc.ev, List.getD_cons_zero, List.getD_cons_succ, List.getElem?_cons_zero, List.getElem?_cons_succ, List.map_cons, List.map_nil, List.length_cons, List.length_nil, List.cons_append, List.nil_append, Nat.zero_add, Nat.reduceAdd]
  refine ⟨.inr (by decide), fun h => ?_, fun h => ?_⟩
  · intro v1
    refine ⟨[.b true], rfl, fun _ w' hr => ?_, ?_⟩
    · have := c_sameReaders w' u4 v1 [([97, 110, 110], 1)] [([97, 110, 110], 1)] (hr.at_ 2 rfl) (hr.at_ 0 rfl).reads (by decide)
      exact this
    · simp only [Tree.goal, X.P, X.ev, V.toI_i, V.toB_b, V.toS_s, V.toR_r, V.toV_v, V.toN_n, V.toL_l, SV.ev, CV.ev, Sc.ev, List.getD_cons_zero, List.getD_cons_succ, List.getElem?_cons_zero, List.getElem?_cons_succ, List.map_cons, List.map_nil, List.length_cons, List.length_nil, List.cons_append, List.nil_append, Nat.zero_add, Nat.reduceAdd]
      exact fun w' hr => ⟨by trivial, hr.mod⟩
  · exact absurd (by decide) h
end Go.Proofs.YtliedecinehijaaGreatDoor

/-
  The order of texts, as the reference has it. By an AI agent.
-/
set_option linter.unusedSimpArgs false
set_option linter.unusedVariables false
namespace Go.Proofs.YtliedecinehijaaGreatDoor
open Go.Sx
theorem ltB_at {a b : List UInt8} {i : Nat} (h : a.take i = b.take i) (hi : i < a.length) (hj : i < b.length) (hne : ¬ a.getD i 0 = b.getD i 0) : ltB a b = decide (a.getD i 0 < b.getD i 0) := by
  induction i generalizing a b with
  | zero =>
    match a, b, hi, hj with
    | x :: a, y :: b, _, _ =>
      simp only [List.getD_cons_zero] at hne
      simp [ltB, Op.bytesLess, hne]
  | succ i ih =>
    match a, b, hi, hj with
    | x :: a, y :: b, hi, hj =>
      simp only [List.take_succ_cons, List.cons.injEq] at h
      obtain ⟨rfl, h⟩ := h
      simp only [List.getD_cons_succ] at hne ⊢
      have := ih h (by simpa using hi) (by simpa using hj) hne
      show (decide (x < x) || (x == x && ltB a b)) = _
      rw [this]; simp [UInt8.lt_irrefl]
theorem ltB_end {a b : List UInt8} {i : Nat} (h : a.take i = b.take i) (hi : i ≤ a.length) (hj : i ≤ b.length) (he : i = a.length ∨ i = b.length) : ltB a b = decide (a.length < b.length) := by
  induction i generalizing a b with
  | zero =>
    match a, b with
    | [], [] => rfl
    | [], _ :: _ => rfl
    | _ :: _, [] => simp [ltB_nil]
    | _ :: _, _ :: _ => simp at he
  | succ i ih =>
    match a, b, hi, hj with
    | x :: a, y :: b, hi, hj =>
      simp only [List.take_succ_cons, List.cons.injEq] at h
      obtain ⟨rfl, h⟩ := h
      have := ih h (by simpa using hi) (by simpa using hj) (by simpa using he)
      simp [ltB, Op.bytesLess, UInt8.lt_irrefl]
      simpa using this
theorem takeB {a b : List UInt8} {i : Nat} (h : a.take i = b.take i) (hi : i < a.length) (hj : i < b.length) (he : a.getD i 0 = b.getD i 0) : a.take (i + 1) = b.take (i + 1) := by
  rw [List.take_add_one, List.take_add_one, h]
  simp only [List.getD_eq_getElem?_getD, List.getElem?_eq_getElem hi, List.getElem?_eq_getElem hj, Option.getD_some] at he
  rw [List.getElem?_eq_getElem hi, List.getElem?_eq_getElem hj, he]
theorem c_textLess (w : World) (a b : List UInt8) (ha : a.length < 1099511627776) : Calls Tryz.prog 132 #[.string ⟨a.toArray⟩, .string ⟨b.toArray⟩] w fun e w' => e = .returned (.bool (ltB a b)) ∧ Mod [] w w' := by
  refine as_called (run_plain2 (ρ := [.s a, .s b]) sxE_ok Tryz.func132 tree_dragomanref_textLess rfl rfl rfl ?_) rfl
  simp only [Tree.goal, X.P, X.ev, V.toI_i, V.toB_b, V.toS_s, V.toR_r, V.toV_v, V.toN_n, V.toL_l, SV.ev, CV.ev, Sc.ev, List.getD_cons_zero, List.getD_cons_succ, List.getElem?_cons_zero, List.getElem?_cons_succ, List.map_cons, List.map_nil, List.length_cons, List.length_nil, List.cons_append, List.nil_append, Nat.zero_add, Nat.reduceAdd]
  refine ⟨fun vs => ∃ (i : Nat) (x : V), vs = [x, .i i] ∧ i ≤ a.length ∧ i ≤ b.length ∧ a.take i = b.take i, fun vs => a.length - (vs.getD 1 (.i 0)).toI.toNat, ⟨0, _, rfl, by omega, by omega, rfl⟩, ?_⟩
  rintro _ - ⟨i, x, rfl, hi, hj, ht⟩
  simp only [Tree.goal, X.P, X.ev, V.toI_i, V.toB_b, V.toS_s, V.toR_r, V.toV_v, V.toN_n, V.toL_l, SV.ev, CV.ev, Sc.ev, List.getD_cons_zero, List.getD_cons_succ, List.getElem?_cons_zero, List.getElem?_cons_succ, List.map_cons, List.map_nil, List.length_cons, List.length_nil, List.cons_append, List.nil_append, Nat.zero_add, Nat.reduceAdd, Int.toNat_natCast]
  refine ⟨fun h1 => ⟨by omega, fun h2 w' hr => ⟨?_, hr.mod⟩, fun h2 => ⟨by omega, by omega, ⟨i + 1, x, rfl, by omega, by omega, takeB ht (by omega) (by omega) ?_⟩, by omega⟩⟩, fun h1 w' hr => ⟨?_, hr.mod⟩⟩
  · rw [ltB_at ht (by omega) (by omega) (fun e => h2 (by rw [e]))]
    simp [UInt8.lt_iff_toNat_lt]
  · have h3 := Classical.not_not.1 h2
    exact UInt8.toNat_inj.1 (by exact_mod_cast h3)
  · rw [ltB_end ht hi hj (by omega)]
    simp
end Go.Proofs.YtliedecinehijaaGreatDoor

/-
  A client's name, as the reference has it. By an AI agent.
-/
set_option linter.unusedSimpArgs false
set_option linter.unusedVariables false
namespace Go.Proofs.YtliedecinehijaaGreatDoor
open Go.Sx
theorem c_IsClient (w : World) (s : List UInt8) (hs : s.length < 1099511627776) : Calls Tryz.prog 50 #[.string ⟨s.toArray⟩] w fun e w' => e = .returned (.bool (cliB s)) ∧ Mod [] w w' := by
  refine as_called (run_plain2 (ρ := [.s s]) sxE_ok Tryz.func50 tree_dragomanref_IsClient rfl rfl rfl ?_) rfl
  simp only [Tree.goal, X.P, X.ev, V.toI_i, V.toB_b, V.toS_s, V.toR_r, V.toV_v, V.toN_n, V.toL_l, SV.ev, CV.ev, Sc.ev, List.getD_cons_zero, List.getD_cons_succ, List.getElem?_cons_zero, List.getElem?_cons_succ, List.map_cons, List.map_nil, List.length_cons, List.length_nil, List.cons_append, List.nil_append, Nat.zero_add, Nat.reduceAdd]
  refine ⟨[.b (plainS s)], rfl, fun _ w' _ => c_IsPlain w' s hs, ?_⟩
  simp only [Tree.goal, X.P, X.ev, V.toI_i, V.toB_b, V.toS_s, V.toR_r, V.toV_v, V.toN_n, V.toL_l, SV.ev, CV.ev, Sc.ev, List.getD_cons_zero, List.getD_cons_succ, List.getElem?_cons_zero, List.getElem?_cons_succ, List.map_cons, List.map_nil, List.length_cons, List.length_nil, List.cons_append, List.nil_append, Nat.zero_add, Nat.reduceAdd]
  exact fun w' hr => ⟨by simp [cliB], hr.mod⟩
end Go.Proofs.YtliedecinehijaaGreatDoor
