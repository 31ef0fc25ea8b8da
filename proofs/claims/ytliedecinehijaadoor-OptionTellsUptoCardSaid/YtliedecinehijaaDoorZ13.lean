/-
  Options: the library's Join, Contains, TrimLeft; paths and numbers, walked. By an AI agent.
-/
import Derived.Test.YtliedecinehijaaDoorZ12
set_option linter.unusedSimpArgs false
set_option linter.unusedVariables false
namespace Go.Proofs.YtliedecinehijaaDoor
open Go.Sx

theorem c_TrimZ (w : World) (s : List UInt8) : Calls Tryd.prog 138 #[.string ⟨s.toArray⟩, .string ⟨#[0]⟩] w fun e w' => e = .returned (.string ⟨(s.dropWhile fun c => c == 0).toArray⟩) ∧ Mod [] w w' := by
  refine (as_called (Any.strings_TrimLeft_one Tryd.lays161 ⟨s.toArray⟩ 0 (by decide) w) rfl).mono ?_
  rintro e w' ⟨rfl, rfl⟩
  exact ⟨rfl, Mod.refl _ _⟩
theorem index_has (s : List UInt8) (c : UInt8) : decide (0 ≤ Go.Lib.indexByte s c) = s.any fun b => b == c := by
  rw [← Go.Lib.contains_iff_indexByte, Bool.eq_iff_iff]
  simp only [List.contains_iff_mem, List.any_eq_true, beq_iff_eq]
  exact ⟨fun h => ⟨c, h, rfl⟩, fun ⟨x, h, e⟩ => e ▸ h⟩
theorem c_Has (w : World) (s : List UInt8) : Calls Tryd.prog 100 #[.string ⟨s.toArray⟩, .string ⟨#[47]⟩] w fun e w' => e = .returned (.bool (s.any fun c => c == 47)) ∧ Mod [] w w' := by
  refine (as_called (Any.strings_Contains_one Tryd.lays144 ⟨s.toArray⟩ 47 w) rfl).mono ?_
  rintro e w' ⟨rfl, rfl⟩
  exact ⟨by rw [← index_has], Mod.refl _ _⟩
theorem extraJ : Builder.Extra Tryd.prog Tryd.lays156_ren where
  sizeBuilder := by kernel_rfl
  liesBuilder := by kernel_rfl
  t5 := Tryd.underlying5
  a5 := Tryd.isAgg5
  z5 := Tryd.sizeOf5
  v5 := Tryd.zeroValue5
  infoByte := by kernel_rfl
  cellsByte := by kernel_rfl
  sizeByte := by kernel_rfl
  neB5 := by decide
theorem join_unlev : ∀ ps : List (List UInt8), Go.Lib.join ps [47] = unlev ps
  | [] => rfl
  | [x] => Go.Lib.join_one x [47]
  | x :: y :: r => by
    have := join_unlev (y :: r)
    rw [Go.Lib.join_cons] at this ⊢
    rw [unlev, ← this]
    simp [Go.Lib.joinTail]
theorem flat_encS : ∀ ps : List (List UInt8), (ps.map encS).flatten = ps.map fun p => Value.string ⟨p.toArray⟩
  | [] => rfl
  | p :: ps => by simp only [List.map_cons, List.flatten_cons, flat_encS ps]; rfl
theorem c_Join (w : World) (v : Value) (ps : List (List UInt8)) (hv : owns w v 9 [.str] (ps.map encS)) (hl : ps.length ≤ 140737488355328) (hb : (unlev ps).length ≤ 140737488355328) :
    Calls Tryd.prog 101 #[sc1 v, .string ⟨#[47]⟩] w fun e w' => e = .returned (.string ⟨(unlev ps).toArray⟩) ∧ Mod [] w w' := by
  rw [hv.reads.sc1]
  obtain ⟨hk, hlen, ho⟩ := hv
  rcases ho with ⟨rfl, hn⟩ | ⟨g, c, cur, rfl, -, hg, hnc, hcm, hcs, htk⟩
  · have : ps = [] := by simpa using hn
    subst this
    refine (as_called (Any.strings_Join_none Tryd.lays156 extraJ none 0 ⟨#[47]⟩ w) rfl).mono ?_
    rintro e w' ⟨rfl, rfl⟩
    exact ⟨rfl, Mod.refl _ _⟩
  · have hgs : g < w.heap.size := by
      have := (Array.getElem?_eq_some_iff.1 hg).1
      exact this
    have e1 : (ps.map fun p => (⟨p.toArray⟩ : ByteArray)).map (fun x => x.data.toList) = ps := by simp [List.map_map, Function.comp_def]
    have hfl : (ps.map encS).flatten = ps.map fun p => Value.string ⟨p.toArray⟩ := by
      exact flat_encS ps
    rw [hfl] at htk
    have := Any.strings_Join Tryd.lays156 extraJ g 0 c (ps.map fun p => (⟨p.toArray⟩ : ByteArray)) ⟨#[47]⟩ w (fun j x hj => ?_) hgs (by simpa using hl) (by simpa using hnc) (by rw [e1]; show (Go.Lib.join ps [47]).length ≤ _; rw [join_unlev]; exact hb)
    · rw [e1, show (⟨#[47]⟩ : ByteArray).data.toList = [47] from rfl, join_unlev, List.length_map] at this
      rw [List.length_map]
      refine (as_called this rfl).mono ?_
      rintro e w' ⟨rfl, h⟩
      exact ⟨rfl, Mod.of_below h⟩
    · rw [List.getElem?_map, Option.map_eq_some_iff] at hj
      obtain ⟨p, hp, rfl⟩ := hj
      have h1 := congrArg (fun l => l[j]?) htk
      simp only [List.getElem?_map, hp, Option.map_some] at h1
      rw [List.getElem?_take_of_lt (by have := (List.getElem?_eq_some_iff.1 hp).1; simpa using this)] at h1
      simp only [World.cell?, hg, Nat.zero_add]
      simpa using h1

theorem c_short (w : World) (n : Int) (h : 0 ≤ n ∧ n ≤ 16777215) : Calls Tryd.prog 99 #[.int .i64 n] w fun e w' => e = .returned (.string ⟨(shortB n).toArray⟩) ∧ Mod [] w w' := by
  refine as_called (run_plain2 (ρ := [.i n]) sxE_ok Tryd.func99 tree_option_short rfl rfl rfl ?_) rfl
  simp only [Tree.goal, X.P, X.ev, V.toI_i, V.toB_b, V.toS_s, V.toR_r, V.toV_v, V.toN_n, V.toL_l, SV.ev, CV.ev, Sc.ev, List.getD_cons_zero, List.getD_cons_succ, List.getElem?_cons_zero, List.getElem?_cons_succ, List.map_cons, List.map_nil, List.length_cons, List.length_nil, List.cons_append, List.nil_append, Nat.zero_add, Nat.reduceAdd]
  refine ⟨[.s (numB 3 n)], rfl, fun _ w' _ => c_Bytes w' n 3 (by omega) (by omega) (by omega), ?_⟩
  simp only [Tree.goal, X.P, X.ev, V.toI_i, V.toB_b, V.toS_s, V.toR_r, V.toV_v, V.toN_n, V.toL_l, SV.ev, CV.ev, Sc.ev, List.getD_cons_zero, List.getD_cons_succ, List.getElem?_cons_zero, List.getElem?_cons_succ, List.map_cons, List.map_nil, List.length_cons, List.length_nil, List.cons_append, List.nil_append, Nat.zero_add, Nat.reduceAdd]
  refine ⟨[.s (shortB n)], rfl, fun _ w' _ => c_TrimZ w' _, ?_⟩
  simp only [Tree.goal, X.P, X.ev, V.toI_i, V.toB_b, V.toS_s, V.toR_r, V.toV_v, V.toN_n, V.toL_l, SV.ev, CV.ev, Sc.ev, List.getD_cons_zero, List.getD_cons_succ, List.getElem?_cons_zero, List.getElem?_cons_succ, List.map_cons, List.map_nil, List.length_cons, List.length_nil, List.cons_append, List.nil_append, Nat.zero_add, Nat.reduceAdd]
  exact fun w' hr => ⟨by trivial, hr.mod⟩
theorem dropW_len : ∀ l : List UInt8, (l.dropWhile fun c => c == 0).length ≤ l.length
  | [] => Nat.le_refl _
  | c :: l => by
    have := dropW_len l
    rw [List.dropWhile_cons]
    split <;> simp only [List.length_cons] <;> omega
theorem c_ShortOf' : ∀ (k n : Nat) (w : World), n < pw k → k ≤ 7 → Calls Tryd.prog 34 #[.int .i64 n] w fun e w' => e = .returned (.string ⟨((numB k (n : Int)).dropWhile fun c => c == 0).toArray⟩) ∧ Mod [] w w'
  | k, n, w, h, hk => by
    have hp : pw k ≤ pw 7 := pw_mono hk
    have hp7 : pw 7 = 72057594037927936 := rfl
    refine as_called (run_plain2 (ρ := [.i n]) (sxE_ok.joins _) Tryd.func34 tree_dragomanref_ShortOf rfl rfl rfl ?_) rfl
    simp only [Tree.goal, X.P, X.ev, V.toI_i, V.toB_b, V.toS_s, V.toR_r, V.toV_v, V.toN_n, V.toL_l, SV.ev, CV.ev, Sc.ev, List.getD_cons_zero, List.getD_cons_succ, List.getElem?_cons_zero, List.getElem?_cons_succ, List.map_cons, List.map_nil, List.length_cons, List.length_nil, List.cons_append, List.nil_append, Nat.zero_add, Nat.reduceAdd]
    refine ⟨fun h1 w' hr => ⟨?_, hr.mod⟩, fun h1 => ?_⟩
    · rw [(short_nil k n h).2 (by omega)]
    obtain ⟨k, rfl⟩ : ∃ j, k = j + 1 := by
      cases k with
      | zero => exact absurd h (by show ¬ n < 1; omega)
      | succ j => exact ⟨j, rfl⟩
    (repeat refine ⟨by omega, ?_⟩)
    have hk2 : n / 256 < pw k := by
      have h : n < 256 * pw k := h
      omega
    have hl : ((numB k ((n / 256 : Nat) : Int)).dropWhile fun c => c == 0).length ≤ k := by have := dropW_len (numB k ((n / 256 : Nat) : Int)); rw [numB_len] at this; exact this
    refine ⟨[.s ((numB k ((n / 256 : Nat) : Int)).dropWhile fun c => c == 0)], rfl, fun _ w' _ => c_ShortOf' k (n / 256) w' hk2 (by omega), fun v2 => ?_⟩
    simp only [Tree.goal, X.P, X.ev, V.toI_i, V.toB_b, V.toS_s, V.toR_r, V.toV_v, V.toN_n, V.toL_l, SV.ev, CV.ev, Sc.ev, List.getD_cons_zero, List.getD_cons_succ, List.getElem?_cons_zero, List.getElem?_cons_succ, List.map_cons, List.map_nil, List.length_cons, List.length_nil, List.cons_append, List.nil_append, Nat.zero_add, Nat.reduceAdd]
    refine ⟨by simp at hl ⊢; omega, fun w' hr => ⟨?_, hr.mod⟩⟩
    rw [short_snoc k n h, if_neg (by omega)]
    have e : UInt8.ofNat (n % 256) = UInt8.ofNat ((n : Int) % 256).toNat := by congr 1
    simp [e, Value.gI]
theorem c_ShortOf (w : World) (n : Int) (h : 0 ≤ n ∧ n ≤ 16777215) : Calls Tryd.prog 34 #[.int .i64 n] w fun e w' => e = .returned (.string ⟨(shortB n).toArray⟩) ∧ Mod [] w w' := by
  obtain ⟨m, rfl⟩ : ∃ m : Nat, n = m := ⟨n.toNat, by omega⟩
  exact c_ShortOf' 3 m w (by show m < 16777216; omega) (by omega)

theorem vals_snoc (n : Int) (os : List Opt) (i : Nat) (h : i < os.length) : valsOf n (os.take (i + 1)) = valsOf n (os.take i) ++ (if (os.getD i oD).1 = n then [(os.getD i oD).2] else []) := by
  rw [takeO os i h, vals_app]
  generalize os.getD i oD = o
  by_cases h1 : o.1 = n <;> simp [valsOf, h1]
theorem vals_len (n : Int) (os : List Opt) : (valsOf n os).length ≤ os.length := by
  rw [valsOf, List.length_map]; exact List.length_filter_le _ _
theorem vals_first {n : Int} {os : List Opt} {i : Nat} (h : i < os.length) (h1 : ∀ j, j < i → (os.getD j oD).1 ≠ n) (h2 : (os.getD i oD).1 = n) : ∃ r, valsOf n os = (os.getD i oD).2 :: r := by
  have e : os = os.take i ++ os.drop i := (List.take_append_drop i os).symm
  have e0 : valsOf n (os.take i) = [] := by
    refine vals_none fun o ho => ?_
    obtain ⟨j, hj, rfl⟩ := List.getElem_of_mem ho
    simp only [List.length_take] at hj
    have := h1 j (by omega)
    rw [List.getD_eq_getElem?_getD, List.getElem?_eq_getElem (by omega)] at this
    rw [List.getElem_take]; exact this
  have e1 : valsOf n (os.drop i) = (os.getD i oD).2 :: valsOf n (os.drop (i + 1)) := by
    rw [dropO os i h]
    generalize os.getD i oD = o at h2
    simp [valsOf, List.filter_cons, h2]
  exact ⟨_, by rw [e, vals_app, ← e, e0, e1]; rfl⟩
theorem vals_all {n : Int} {os : List Opt} (h : ∀ j, j < os.length → (os.getD j oD).1 ≠ n) : valsOf n os = [] := by
  refine vals_none fun o ho => ?_
  obtain ⟨j, hj, rfl⟩ := List.getElem_of_mem ho
  have := h j hj
  rwa [List.getD_eq_getElem?_getD, List.getElem?_eq_getElem hj] at this

theorem c_UintOf (w : World) (m : Msg) (v : Value) (n : Int) (hv : readsO w v m.opts) (hl : m.opts.length < 1000000000) :
    Calls Tryd.prog 60 #[mV m (sc1 v), .int .i64 n] w fun e w' => e = .returned (.tuple #[.int .i64 (uintL n m.opts).1, .int .i64 (uintL n m.opts).2]) ∧ Mod [] w w' := by
  refine as_called (run_tree2 (ρ := [.i m.kind, .i m.code, .i m.id, .s m.tok, .v v, .r (m.opts.map encO), .s m.pay, .i n]) sxE_ok Tryd.func60 tree_option_UintOf rfl rfl (Rel.start2 (by simp [Ent.holds, Ent.wr, hv, X.ev])) rfl rfl ?_) rfl
  simp only [Tree.goal, X.P, X.ev, V.toI_i, V.toB_b, V.toS_s, V.toR_r, V.toV_v, V.toN_n, V.toL_l, SV.ev, CV.ev, Sc.ev, List.getD_cons_zero, List.getD_cons_succ, List.getElem?_cons_zero, List.getElem?_cons_succ, List.map_cons, List.map_nil, List.length_cons, List.length_nil, List.cons_append, List.nil_append, Nat.zero_add, Nat.reduceAdd, List.length_map, Int.toNat_natCast, gI_encO, gS_encO, gS_encS]
  intro b1 b2
  generalize m.opts = os at hl ⊢
  refine ⟨fun vs => ∃ (x : V) (i : Nat), vs = [x, .i i, .i n] ∧ i ≤ os.length ∧ ∀ j, j < i → (os.getD j oD).1 ≠ n, fun vs => (os.length - (vs.getD 1 (.i 0)).toI).toNat, ⟨_, 0, rfl, by omega, fun j hj => by omega⟩, ?_⟩
  rintro _ - ⟨x, i, rfl, hi, hn⟩
  simp only [Tree.goal, X.P, X.ev, V.toI_i, V.toB_b, V.toS_s, V.toR_r, V.toV_v, V.toN_n, V.toL_l, SV.ev, CV.ev, Sc.ev, List.getD_cons_zero, List.getD_cons_succ, List.getElem?_cons_zero, List.getElem?_cons_succ, List.map_cons, List.map_nil, List.length_cons, List.length_nil, List.cons_append, List.nil_append, Nat.zero_add, Nat.reduceAdd, List.length_map, Int.toNat_natCast, gI_encO, gS_encO, gS_encS]
  refine ⟨fun h1 => ?_, fun h1 w' hr => ⟨?_, hr.mod⟩⟩
  · (repeat refine ⟨by omega, ?_⟩)
    intro b3
    refine ⟨fun h2 => ?_, fun h2 => ?_⟩
    · obtain ⟨r, e⟩ := vals_first (by omega) hn h2
      have eu : uintL n os = uintV (os.getD i oD).2 := by rw [uintL, e]
      rw [eu]
      generalize (os.getD i oD).2 = s
      refine ⟨fun h3 => by omega, fun _ => ⟨fun h3 w' hr => ⟨by rw [uintV, if_pos h3], hr.mod⟩, fun h3 => ⟨fun h4 w' hr => ⟨by subst h4; rfl, hr.mod⟩, fun h4 => ?_⟩⟩⟩
      have eg : getR s 0 s.length = uintV s := by
        have := List.length_pos_iff.2 h4
        rw [getR, if_pos (by omega), if_pos (by omega), if_neg (by omega), uintV, if_neg h3]
        simp
      refine ⟨[.i (uintV s).1, .i (uintV s).2], rfl, fun _ w' _ => ?_, ?_⟩
      · have := c_Get w' s 0 s.length (by omega)
        rw [eg] at this
        exact this
      · simp only [Tree.goal, X.P, X.ev, V.toI_i, V.toB_b, V.toS_s, V.toR_r, V.toV_v, V.toN_n, V.toL_l, SV.ev, CV.ev, Sc.ev, List.getD_cons_zero, List.getD_cons_succ, List.getElem?_cons_zero, List.getElem?_cons_succ, List.map_cons, List.map_nil, List.length_cons, List.length_nil, List.cons_append, List.nil_append, Nat.zero_add, Nat.reduceAdd]
        exact fun w' hr => ⟨by trivial, hr.mod⟩
    · (repeat refine ⟨by omega, ?_⟩)
      refine ⟨⟨_, i + 1, rfl, by omega, fun j hj => ?_⟩, by omega⟩
      by_cases hji : j = i
      · subst hji; exact h2
      · exact hn j (by omega)
  · rw [uintL, vals_all fun j hj => hn j (by omega)]
theorem beN_takeO (s : List UInt8) (k : Nat) (h : k < s.length) : beN (s.take (k + 1)) 0 = 256 * beN (s.take k) 0 + (s.getD k 0).toNat := by
  rw [List.take_add_one, List.getElem?_eq_getElem h, List.getD_eq_getElem?_getD, List.getElem?_eq_getElem h]
  exact beN_snoc _ _ _
theorem c_UintOfR (w : World) (m : Msg) (v : Value) (n : Int) (hv : readsO w v m.opts) (hl : m.opts.length < 1000000000) :
    Calls Tryd.prog 29 #[mV m (sc1 v), .int .i64 n] w fun e w' => e = .returned (.tuple #[.int .i64 (uintL n m.opts).1, .int .i64 (uintL n m.opts).2]) ∧ Mod [] w w' := by
  refine as_called (run_tree2 (ρ := [.i m.kind, .i m.code, .i m.id, .s m.tok, .v v, .r (m.opts.map encO), .s m.pay, .i n]) sxE_ok Tryd.func29 tree_dragomanref_UintOf rfl rfl (Rel.start2 (by simp [Ent.holds, Ent.wr, hv, X.ev])) rfl rfl ?_) rfl
  simp only [Tree.goal, X.P, X.ev, V.toI_i, V.toB_b, V.toS_s, V.toR_r, V.toV_v, V.toN_n, V.toL_l, SV.ev, CV.ev, Sc.ev, List.getD_cons_zero, List.getD_cons_succ, List.getElem?_cons_zero, List.getElem?_cons_succ, List.map_cons, List.map_nil, List.length_cons, List.length_nil, List.cons_append, List.nil_append, Nat.zero_add, Nat.reduceAdd, List.length_map, Int.toNat_natCast, gI_encO, gS_encO, gS_encS]
  intro b1
  generalize m.opts = os at hl ⊢
  refine ⟨fun vs => ∃ (x y : V) (i : Nat), vs = [x, y, .i i] ∧ i ≤ os.length ∧ ∀ j, j < i → (os.getD j oD).1 ≠ n, fun vs => (os.length - (vs.getD 2 (.i 0)).toI).toNat, ⟨_, _, 0, rfl, by omega, fun j hj => by omega⟩, ?_⟩
  rintro _ - ⟨x, y, i, rfl, hi, hn⟩
  simp only [Tree.goal, X.P, X.ev, V.toI_i, V.toB_b, V.toS_s, V.toR_r, V.toV_v, V.toN_n, V.toL_l, SV.ev, CV.ev, Sc.ev, List.getD_cons_zero, List.getD_cons_succ, List.getElem?_cons_zero, List.getElem?_cons_succ, List.map_cons, List.map_nil, List.length_cons, List.length_nil, List.cons_append, List.nil_append, Nat.zero_add, Nat.reduceAdd, List.length_map, Int.toNat_natCast, gI_encO, gS_encO, gS_encS]
  refine ⟨fun h1 => ?_, fun h1 w' hr => ⟨?_, hr.mod⟩⟩
  · (repeat refine ⟨by omega, ?_⟩)
    refine ⟨fun h2 => ?_, fun h2 => ?_⟩
    · (repeat refine ⟨by omega, ?_⟩)
      refine ⟨⟨_, _, i + 1, rfl, by omega, fun j hj => ?_⟩, by omega⟩
      by_cases hji : j = i
      · subst hji; exact h2
      · exact hn j (by omega)
    · obtain ⟨r, e⟩ := vals_first (by omega) hn (Classical.not_not.1 h2)
      have eu : uintL n os = uintV (os.getD i oD).2 := by rw [uintL, e]
      rw [eu]
      generalize (os.getD i oD).2 = s
      refine ⟨fun h3 w' hr => ⟨by rw [uintV, if_pos h3], hr.mod⟩, fun h3 => ?_⟩
      refine ⟨fun vs => ∃ k : Nat, vs = [.i (beN (s.take k) 0 : Nat), .i k] ∧ k ≤ s.length, fun vs => (s.length - (vs.getD 1 (.i 0)).toI).toNat, ⟨0, rfl, by omega⟩, ?_⟩
      rintro _ - ⟨k, rfl, hk⟩
      simp only [Tree.goal, X.P, X.ev, V.toI_i, V.toB_b, V.toS_s, V.toR_r, V.toV_v, V.toN_n, V.toL_l, SV.ev, CV.ev, Sc.ev, List.getD_cons_zero, List.getD_cons_succ, List.getElem?_cons_zero, List.getElem?_cons_succ, List.map_cons, List.map_nil, List.length_cons, List.length_nil, List.cons_append, List.nil_append, Nat.zero_add, Nat.reduceAdd, List.length_map, Int.toNat_natCast, gI_encO, gS_encO, gS_encS]
      have hb := beN_lt (s.take k) 0
      rw [Nat.zero_add, Nat.one_mul] at hb
      have hp : pw (s.take k).length ≤ pw 3 := pw_mono (by rw [List.length_take]; omega)
      have hp3 : pw 3 = 16777216 := rfl
      refine ⟨fun h4 => ?_, fun h4 w' hr => ⟨?_, hr.mod⟩⟩
      · have hc := u8_lt' (s.getD k 0)
        (repeat refine ⟨by omega, ?_⟩)
        refine ⟨⟨k + 1, ?_, by omega⟩, by omega⟩
        rw [beN_takeO s k (by omega)]
        rfl
      · have : k = s.length := by omega
        subst this
        rw [List.take_length, uintV, if_neg h3]
  · rw [uintL, vals_all fun j hj => hn j (by omega)]

/-- Paths. -/
theorem unlev_snoc : ∀ (l : List (List UInt8)) (x : List UInt8), unlev (l ++ [x]) = if l = [] then x else unlev l ++ 47 :: x
  | [], x => rfl
  | [y], x => by simp [unlev]
  | y :: z :: l, x => by
    have := unlev_snoc (z :: l) x
    rw [if_neg (by simp)] at this
    rw [if_neg (by simp)]
    simp only [List.cons_append, unlev] at this ⊢
    rw [this]; simp
theorem unlev_len (b : Nat) : ∀ (l : List (List UInt8)), (∀ x ∈ l, x.length ≤ b) → (unlev l).length ≤ l.length * (b + 1)
  | [], _ => by simp [unlev]
  | [y], h => by have := h y (by simp); simp [unlev]; omega
  | y :: z :: l, h => by
    have h1 := unlev_len b (z :: l) fun x hx => h x (List.mem_cons_of_mem _ hx)
    have h2 := h y (by simp)
    simp only [unlev, List.length_append, List.length_cons, Nat.add_mul] at h1 ⊢
    omega
theorem optE_all : ∀ {os : List Opt} {was : Int}, optE was os = 0 → ∀ o ∈ os, o.2.length ≤ 60
  | [], _, _, o, ho => by simp at ho
  | x :: os, was, h, o, ho => by
    obtain ⟨-, -, h3, h4⟩ := optE_cons.1 h
    rcases List.mem_cons.1 ho with rfl | ho
    · exact h3
    · exact optE_all h4 o ho
theorem vals_mem {n : Int} {os : List Opt} {x : List UInt8} (h : x ∈ valsOf n os) : ∃ o ∈ os, o.2 = x := by
  simp only [valsOf, List.mem_map, List.mem_filter] at h
  obtain ⟨o, ⟨h1, -⟩, h2⟩ := h
  exact ⟨o, h1, h2⟩
theorem lev_slash_iff : ∀ s : List UInt8, (1 < (lev s).length) ↔ (s.any fun c => c == 47) = true
  | [] => by simp [lev]
  | c :: s => by
    have ih := lev_slash_iff s
    by_cases h : c = 47
    · subst h
      obtain ⟨y, ys, e⟩ := lev_ne s
      rw [lev_slash, e]; simp
    · obtain ⟨y, ys, e⟩ := lev_ne s
      rw [lev_other _ h, e]
      rw [e] at ih
      simpa [glue, h] using ih
theorem path_none {os : List Opt} (h : valsOf 11 os = []) : pathL os = ([], 5) := if_pos h
theorem path_bad {os : List Opt} (h : ¬ valsOf 11 os = []) (h1 : ¬ chkT (unlev (valsOf 11 os)) false = 0) : pathL os = ([], chkT (unlev (valsOf 11 os)) false) := by rw [pathL, if_neg h, if_neg h1]
theorem path_form {os : List Opt} (h : ¬ valsOf 11 os = []) (h1 : chkT (unlev (valsOf 11 os)) false = 0) (h2 : (valsOf 11 os).any (fun v => v.any fun c => c == 47) = true) : pathL os = ([], 1) := by rw [pathL, if_neg h, if_pos h1, if_pos h2]
theorem path_ok {os : List Opt} (h : ¬ valsOf 11 os = []) (h1 : chkT (unlev (valsOf 11 os)) false = 0) (h2 : ¬ (valsOf 11 os).any (fun v => v.any fun c => c == 47) = true) : pathL os = (unlev (valsOf 11 os), 0) := by rw [pathL, if_neg h, if_pos h1, if_neg h2]
set_option maxHeartbeats 1000000 in
theorem c_PathOf (w : World) (m : Msg) (v : Value) (hv : readsO w v m.opts) (hc : chk m = 0) :
    Calls Tryd.prog 56 #[mV m (sc1 v)] w fun e w' => e = .returned (.tuple #[.string ⟨(pathL m.opts).1.toArray⟩, .int .i64 (pathL m.opts).2]) ∧ Mod [] w w' := by
  obtain ⟨-, -, hl, ho, -⟩ := chk_ok.1 hc
  refine as_called (run_tree2 (ρ := [.i m.kind, .i m.code, .i m.id, .s m.tok, .v v, .r (m.opts.map encO), .s m.pay]) sxE_ok Tryd.func56 tree_option_PathOf rfl rfl (Rel.start2 (by simp [Ent.holds, Ent.wr, hv, X.ev])) rfl rfl ?_) rfl
  simp only [Tree.goal, X.P, X.ev, V.toI_i, V.toB_b, V.toS_s, V.toR_r, V.toV_v, V.toN_n, V.toL_l, SV.ev, CV.ev, Sc.ev, List.getD_cons_zero, List.getD_cons_succ, List.getElem?_cons_zero, List.getElem?_cons_succ, List.map_cons, List.map_nil, List.length_cons, List.length_nil, List.cons_append, List.nil_append, Nat.zero_add, Nat.reduceAdd, List.length_map, Int.toNat_natCast, gI_encO, gS_encO, gS_encS]
  intro b1
  replace hl := hl.2.1
  generalize m.opts = os at hl ho ⊢
  have hvl := vals_len 11 os
  have hul : (unlev (valsOf 11 os)).length ≤ 12 * 61 := Nat.le_trans (unlev_len 60 _ fun x hx => by obtain ⟨o, h1, rfl⟩ := vals_mem hx; exact optE_all ho o h1) (by omega)
  refine ⟨fun vs => ∃ (s : Value) (i : Nat), vs = [.v s, .r ((valsOf 11 (os.take i)).map encS), .b ((valsOf 11 (os.take i)).any fun v => v.any fun c => c == 47), .i i] ∧ i ≤ os.length, fun vs => (os.length - (vs.getD 3 (.i 0)).toI).toNat, ⟨_, 0, rfl, by omega⟩, ?_⟩
  rintro _ - ⟨s, i, rfl, hi⟩
  simp only [Tree.goal, X.P, X.ev, V.toI_i, V.toB_b, V.toS_s, V.toR_r, V.toV_v, V.toN_n, V.toL_l, SV.ev, CV.ev, Sc.ev, List.getD_cons_zero, List.getD_cons_succ, List.getElem?_cons_zero, List.getElem?_cons_succ, List.map_cons, List.map_nil, List.length_cons, List.length_nil, List.cons_append, List.nil_append, Nat.zero_add, Nat.reduceAdd, List.length_map, Int.toNat_natCast, gI_encO, gS_encO, gS_encS]
  refine ⟨fun h1 => ?_, fun h1 => ?_⟩
  · have hs := vals_snoc 11 os i (by omega)
    have hvi := vals_len 11 (os.take i)
    rw [List.length_take] at hvi
    (repeat refine ⟨by omega, ?_⟩)
    intro b2
    refine ⟨fun h2 v1 => ⟨by simp; omega, fun v2 => ?_⟩, fun h2 => ?_⟩
    · rw [if_pos h2] at hs
      refine ⟨[.b ((os.getD i oD).2.any fun c => c == 47)], rfl, fun _ w' _ => c_Has w' _, ?_⟩
      simp only [Tree.goal, X.P, X.ev, V.toI_i, V.toB_b, V.toS_s, V.toR_r, V.toV_v, V.toN_n, V.toL_l, SV.ev, CV.ev, Sc.ev, List.getD_cons_zero, List.getD_cons_succ, List.getElem?_cons_zero, List.getElem?_cons_succ, List.map_cons, List.map_nil, List.length_cons, List.length_nil, List.cons_append, List.nil_append, Nat.zero_add, Nat.reduceAdd, List.length_map, Int.toNat_natCast, gI_encO, gS_encO, gS_encS]
      refine ⟨by omega, by omega, ⟨v2, i + 1, ?_, by omega⟩, by omega⟩
      rw [hs]
      simp [encS]
    · rw [if_neg h2, List.append_nil] at hs
      (repeat refine ⟨by omega, ?_⟩)
      exact ⟨⟨s, i + 1, by rw [hs]; rfl, by omega⟩, by omega⟩
  · have : i = os.length := by omega
    subst this
    rw [List.take_length]
    refine ⟨fun h2 w' hr => ⟨?_, hr.mod⟩, fun h2 => ?_⟩
    · rw [path_none (List.length_eq_zero_iff.1 (by omega))]
    have h2 : ¬ valsOf 11 os = [] := fun h => h2 (by rw [h]; rfl)
    refine ⟨[.s (unlev (valsOf 11 os))], rfl, fun _ w' hr => c_Join w' s _ (hr.at_ 0 rfl) (by omega) (by omega), ?_⟩
    simp only [Tree.goal, X.P, X.ev, V.toI_i, V.toB_b, V.toS_s, V.toR_r, V.toV_v, V.toN_n, V.toL_l, SV.ev, CV.ev, Sc.ev, List.getD_cons_zero, List.getD_cons_succ, List.getElem?_cons_zero, List.getElem?_cons_succ, List.map_cons, List.map_nil, List.length_cons, List.length_nil, List.cons_append, List.nil_append, Nat.zero_add, Nat.reduceAdd]
    refine ⟨[.i (chkT (unlev (valsOf 11 os)) false)], rfl, fun _ w' hr => c_Name w' _ (by omega), ?_⟩
    simp only [Tree.goal, X.P, X.ev, V.toI_i, V.toB_b, V.toS_s, V.toR_r, V.toV_v, V.toN_n, V.toL_l, SV.ev, CV.ev, Sc.ev, List.getD_cons_zero, List.getD_cons_succ, List.getElem?_cons_zero, List.getElem?_cons_succ, List.map_cons, List.map_nil, List.length_cons, List.length_nil, List.cons_append, List.nil_append, Nat.zero_add, Nat.reduceAdd]
    refine ⟨fun h3 => ⟨fun _ w' hr => ⟨?_, hr.mod⟩, fun h => (h (by decide)).elim⟩, fun h3 => ⟨fun h4 w' hr => ⟨?_, hr.mod⟩, fun h4 w' hr => ⟨?_, hr.mod⟩⟩⟩
    · rw [path_form h2 h3.1 h3.2]
    · rw [path_bad h2 h4]
    · have h4 := Classical.not_not.1 h4
      rw [path_ok h2 h4 fun h => h3 ⟨h4, h⟩]
set_option maxHeartbeats 1000000 in
theorem c_PathOfR (w : World) (m : Msg) (v : Value) (hv : readsO w v m.opts) (hc : chk m = 0) :
    Calls Tryd.prog 27 #[mV m (sc1 v)] w fun e w' => e = .returned (.tuple #[.string ⟨(pathL m.opts).1.toArray⟩, .int .i64 (pathL m.opts).2]) ∧ Mod [] w w' := by
  obtain ⟨-, -, hl, ho, -⟩ := chk_ok.1 hc
  refine as_called (run_tree2 (ρ := [.i m.kind, .i m.code, .i m.id, .s m.tok, .v v, .r (m.opts.map encO), .s m.pay]) sxE_ok Tryd.func27 tree_dragomanref_PathOf rfl rfl (Rel.start2 (by simp [Ent.holds, Ent.wr, hv, X.ev])) rfl rfl ?_) rfl
  simp only [Tree.goal, X.P, X.ev, V.toI_i, V.toB_b, V.toS_s, V.toR_r, V.toV_v, V.toN_n, V.toL_l, SV.ev, CV.ev, Sc.ev, List.getD_cons_zero, List.getD_cons_succ, List.getElem?_cons_zero, List.getElem?_cons_succ, List.map_cons, List.map_nil, List.length_cons, List.length_nil, List.cons_append, List.nil_append, Nat.zero_add, Nat.reduceAdd, List.length_map, Int.toNat_natCast, gI_encO, gS_encO, gS_encS]
  intro b1
  replace hl := hl.2.1
  generalize m.opts = os at hl ho ⊢
  have hvl := vals_len 11 os
  have hul : (unlev (valsOf 11 os)).length ≤ 12 * 61 := Nat.le_trans (unlev_len 60 _ fun x hx => by obtain ⟨o, h1, rfl⟩ := vals_mem hx; exact optE_all ho o h1) (by omega)
  refine ⟨fun vs => ∃ i : Nat, vs = [.s (unlev (valsOf 11 (os.take i))), .i (valsOf 11 (os.take i)).length, .b ((valsOf 11 (os.take i)).any fun v => v.any fun c => c == 47), .i i] ∧ i ≤ os.length, fun vs => (os.length - (vs.getD 3 (.i 0)).toI).toNat, ⟨0, rfl, by omega⟩, ?_⟩
  rintro _ - ⟨i, rfl, hi⟩
  simp only [Tree.goal, X.P, X.ev, V.toI_i, V.toB_b, V.toS_s, V.toR_r, V.toV_v, V.toN_n, V.toL_l, SV.ev, CV.ev, Sc.ev, List.getD_cons_zero, List.getD_cons_succ, List.getElem?_cons_zero, List.getElem?_cons_succ, List.map_cons, List.map_nil, List.length_cons, List.length_nil, List.cons_append, List.nil_append, Nat.zero_add, Nat.reduceAdd, List.length_map, Int.toNat_natCast, gI_encO, gS_encO, gS_encS]
  refine ⟨fun h1 => ?_, fun h1 => ?_⟩
  · have hs := vals_snoc 11 os i (by omega)
    have hvi := vals_len 11 (os.take i)
    rw [List.length_take] at hvi
    have hui : (unlev (valsOf 11 (os.take i))).length ≤ 12 * 61 := Nat.le_trans (unlev_len 60 _ fun x hx => by obtain ⟨o, h1, rfl⟩ := vals_mem hx; exact optE_all ho o (List.mem_of_mem_take h1)) (by omega)
    have hval : (os.getD i oD).2.length ≤ 60 := optE_all ho _ (by rw [List.getD_eq_getElem?_getD, List.getElem?_eq_getElem (by omega)]; exact List.getElem_mem _)
    (repeat refine ⟨by omega, ?_⟩)
    refine ⟨fun h2 => ?_, fun h2 => ?_⟩
    · rw [if_neg h2, List.append_nil] at hs
      (repeat refine ⟨by omega, ?_⟩)
      exact ⟨⟨i + 1, by rw [hs]; rfl, by omega⟩, by omega⟩
    rw [if_pos (Classical.not_not.1 h2)] at hs
    generalize valsOf 11 (os.take i) = l at hs hvi hui ⊢
    generalize (os.getD i oD).2 = x at hs hval ⊢
    have hus := unlev_snoc l x
    refine ⟨fun h3 => ?_, fun h3 => ?_⟩
    · rw [if_neg (fun h => by rw [h] at h3; simp at h3)] at hus
      refine ⟨by omega, by simp; omega, by omega, by omega, fun h4 => ?_, fun h4 w1 hr => ?_⟩
      · refine ⟨by omega, by omega, ⟨i + 1, ?_, by omega⟩, by omega⟩
        rw [hs, hus, List.any_append, h4]
        simp
      · refine (c_LevelsOf w1 x (by omega)).mono ?_
        rintro e w2 ⟨v1, rfl, r1, f1, m1⟩
        refine ⟨[.v v1, .r ((lev x).map encS)], rfl, rfl, m1, List.forall_mem_nil _, List.forall_mem_cons.2 ⟨⟨r1, fun k hk => .inl (f1 k hk)⟩, List.forall_mem_nil _⟩, apart_one, ?_⟩
        simp only [Tree.goal, X.P, X.ev, V.toI_i, V.toB_b, V.toS_s, V.toR_r, V.toV_v, V.toN_n, V.toL_l, SV.ev, CV.ev, Sc.ev, List.getD_cons_zero, List.getD_cons_succ, List.getElem?_cons_zero, List.getElem?_cons_succ, List.map_cons, List.map_nil, List.length_cons, List.length_nil, List.cons_append, List.nil_append, Nat.zero_add, Nat.reduceAdd, List.length_map, Int.toNat_natCast, gI_encO, gS_encO, gS_encS]
        refine ⟨by omega, by omega, ⟨i + 1, ?_, by omega⟩, by omega⟩
        have e2 : decide ((1 : Int) < ((lev x).length : Int)) = x.any fun c => c == 47 := by rw [Bool.eq_iff_iff, decide_eq_true_eq, ← lev_slash_iff]; omega
        rw [hs, hus, List.any_append, Bool.eq_false_iff.2 h4, e2]
        simp
    · have hl0 : l = [] := List.length_eq_zero_iff.1 (by omega)
      subst hl0
      rw [if_pos rfl] at hus
      refine ⟨by simp [unlev]; omega, by simp, by simp, fun h4 => by simp at h4, fun h4 w1 hr => ?_⟩
      refine (c_LevelsOf w1 x (by omega)).mono ?_
      rintro e w2 ⟨v1, rfl, r1, f1, m1⟩
      refine ⟨[.v v1, .r ((lev x).map encS)], rfl, rfl, m1, List.forall_mem_nil _, List.forall_mem_cons.2 ⟨⟨r1, fun k hk => .inl (f1 k hk)⟩, List.forall_mem_nil _⟩, apart_one, ?_⟩
      simp only [Tree.goal, X.P, X.ev, V.toI_i, V.toB_b, V.toS_s, V.toR_r, V.toV_v, V.toN_n, V.toL_l, SV.ev, CV.ev, Sc.ev, List.getD_cons_zero, List.getD_cons_succ, List.getElem?_cons_zero, List.getElem?_cons_succ, List.map_cons, List.map_nil, List.length_cons, List.length_nil, List.cons_append, List.nil_append, Nat.zero_add, Nat.reduceAdd, List.length_map, Int.toNat_natCast, gI_encO, gS_encO, gS_encS]
      refine ⟨by omega, by omega, ⟨i + 1, ?_, by omega⟩, by omega⟩
      have e2 : decide ((1 : Int) < ((lev x).length : Int)) = x.any fun c => c == 47 := by rw [Bool.eq_iff_iff, decide_eq_true_eq, ← lev_slash_iff]; omega
      rw [hs, hus, e2]
      simp [unlev]
  · have : i = os.length := by omega
    subst this
    rw [List.take_length]
    refine ⟨fun h2 w' hr => ⟨?_, hr.mod⟩, fun h2 => ?_⟩
    · rw [path_none (List.length_eq_zero_iff.1 (by omega))]
    have h2 : ¬ valsOf 11 os = [] := fun h => h2 (by rw [h]; rfl)
    refine ⟨[.i (chkT (unlev (valsOf 11 os)) false)], rfl, fun _ w' hr => c_CheckTopic w' _ false (by omega), ?_⟩
    simp only [Tree.goal, X.P, X.ev, V.toI_i, V.toB_b, V.toS_s, V.toR_r, V.toV_v, V.toN_n, V.toL_l, SV.ev, CV.ev, Sc.ev, List.getD_cons_zero, List.getD_cons_succ, List.getElem?_cons_zero, List.getElem?_cons_succ, List.map_cons, List.map_nil, List.length_cons, List.length_nil, List.cons_append, List.nil_append, Nat.zero_add, Nat.reduceAdd]
    refine ⟨fun h3 => ⟨fun _ w' hr => ⟨?_, hr.mod⟩, fun h => (h (by decide)).elim⟩, fun h3 => ⟨fun h4 w' hr => ⟨?_, hr.mod⟩, fun h4 w' hr => ⟨?_, hr.mod⟩⟩⟩
    · rw [path_form h2 h3.1 h3.2]
    · rw [path_bad h2 h4]
    · have h4 := Classical.not_not.1 h4
      rw [path_ok h2 h4 fun h => h3 ⟨h4, h⟩, h4]
end Go.Proofs.YtliedecinehijaaDoor

/-
  Messages: what is alike; the message that asks. By an AI agent.
-/
set_option linter.unusedSimpArgs false
set_option linter.unusedVariables false
namespace Go.Proofs.YtliedecinehijaaDoor
open Go.Sx

def freshO (n : Nat) (v : Value) (os : List Opt) : Prop := ∀ k, (os.map encO).flatten ≠ [] ∧ blockOf v k → n ≤ k
theorem freshO.mono {n m : Nat} {v : Value} {os : List Opt} (h : freshO n v os) (hm : m ≤ n) : freshO m v os := fun k hk => Nat.le_trans hm (h k hk)
theorem freshO_nil (n : Nat) (v : Value) : freshO n v [] := fun k hk => absurd rfl hk.1
theorem c_SameMessage (w : World) (m n : Msg) (u v : Value) (hu : readsO w u m.opts) (hv : readsO w v n.opts) (hl : m.opts.length < 1099511627776) : Calls Tryd.prog 20 #[mV m (sc1 u), mV n (sc1 v)] w
    fun e w' => e = .returned (.bool (decide (m.kind = n.kind ∧ m.code = n.code ∧ m.id = n.id ∧ m.tok = n.tok ∧ m.pay = n.pay ∧ m.opts = n.opts))) ∧ Mod [] w w' := by
  refine as_called (run_tree2 (ρ := [.i m.kind, .i m.code, .i m.id, .s m.tok, .v u, .r (m.opts.map encO), .s m.pay, .i n.kind, .i n.code, .i n.id, .s n.tok, .v v, .r (n.opts.map encO), .s n.pay]) sxE_ok Tryd.func20 tree_dragomanref_SameMessage rfl rfl (Rel.start2 (by simp [Ent.holds, Ent.wr, hu, hv, X.ev])) rfl rfl ?_) rfl
  simp only [Tree.goal, X.P, X.ev, V.toI_i, V.toB_b, V.toS_s, V.toR_r, V.toV_v, V.toN_n, V.toL_l, SV.ev, CV.ev, Sc.ev, List.getD_cons_zero, List.getD_cons_succ, List.getElem?_cons_zero, List.getElem?_cons_succ, List.map_cons, List.map_nil, List.length_cons, List.length_nil, List.cons_append, List.nil_append, Nat.zero_add, Nat.reduceAdd, List.length_map]
  intro b1 b2
  refine ⟨fun h w' hr => ⟨?_, hr.mod⟩, fun h => ?_⟩
  · rw [decide_eq_false]
    rintro ⟨h1, h2, h3, h4, h5, h6⟩
    rcases h with ((((h | h) | h) | h) | h) | h
    · exact h h1
    · exact h h2
    · exact h h3
    · exact h h4
    · exact h h5
    · exact h (by rw [h6])
  · simp only [not_or, Classical.not_not] at h
    obtain ⟨⟨⟨⟨⟨h1, h2⟩, h3⟩, h4⟩, h5⟩, h6⟩ := h
    have hlen : m.opts.length = n.opts.length := by omega
    refine ⟨fun vs => ∃ (i : Nat) (x : V), vs = [x, .i i] ∧ i ≤ m.opts.length ∧ ∀ j, j < i → m.opts.getD j oD = n.opts.getD j oD, fun vs => (m.opts.length - (vs.getD 1 (.i 0)).toI).toNat, ⟨0, _, rfl, by omega, fun j hj => by omega⟩, ?_⟩
    rintro _ - ⟨i, x, rfl, hi, hall⟩
    simp only [Tree.goal, X.P, X.ev, V.toI_i, V.toB_b, V.toS_s, V.toR_r, V.toV_v, V.toN_n, V.toL_l, SV.ev, CV.ev, Sc.ev, List.getD_cons_zero, List.getD_cons_succ, List.getElem?_cons_zero, List.getElem?_cons_succ, List.map_cons, List.map_nil, List.length_cons, List.length_nil, List.cons_append, List.nil_append, Nat.zero_add, Nat.reduceAdd, List.length_map, Int.toNat_natCast, gI_encO, gS_encO]
    refine ⟨fun h7 => ⟨by omega, by omega, fun h8 w' hr => ⟨?_, hr.mod⟩, fun h8 => ⟨by omega, by omega, ⟨i + 1, x, rfl, by omega, fun j hj => ?_⟩, by omega⟩⟩, fun h7 w' hr => ⟨?_, hr.mod⟩⟩
    · rw [decide_eq_false]
      rintro ⟨-, -, -, -, -, h9⟩
      rw [h9] at h8
      exact h8 ⟨rfl, rfl⟩
    · by_cases hji : j = i
      · subst hji
        have := Classical.not_not.1 h8
        exact Prod.ext this.1 this.2
      · exact hall j (by omega)
    · rw [decide_eq_true]
      refine ⟨h1, h2, h3, h4, h5, List.ext_getElem? fun j => ?_⟩
      by_cases hj : j < m.opts.length
      · have := hall j (by omega)
        rw [List.getD_eq_getElem?_getD, List.getD_eq_getElem?_getD, List.getElem?_eq_getElem hj, List.getElem?_eq_getElem (by omega)] at this
        rw [List.getElem?_eq_getElem hj, List.getElem?_eq_getElem (by omega)]
        simpa using this
      · rw [List.getElem?_eq_none (by omega), List.getElem?_eq_none (by omega)]

/-- The message that asks for a topic. -/
def mGet : Msg := ⟨0, 1, 258, [116], [(6, []), (11, [97]), (11, [98])], []⟩
theorem c_get (w : World) : Calls Tryd.prog 52 #[] w fun e w' => ∃ v, e = .returned (mV mGet (sc1 v)) ∧ readsO w' v mGet.opts ∧ freshO w.heap.size v mGet.opts ∧ Mod [] w w' := by
  refine as_called (run_plain2 (ρ := []) sxE_ok Tryd.func52 tree_dragomanlaw_get rfl rfl rfl ?_) rfl
  simp only [Tree.goal, X.P, X.ev, V.toI_i, V.toB_b, V.toS_s, V.toR_r, V.toV_v, V.toN_n, V.toL_l, SV.ev, CV.ev, Sc.ev, List.getD_cons_zero, List.getD_cons_succ, List.getElem?_cons_zero, List.getElem?_cons_succ, List.map_cons, List.map_nil, List.length_cons, List.length_nil, List.cons_append, List.nil_append, Nat.zero_add, Nat.reduceAdd]
  intro b v w' hr
  refine ⟨v, rfl, owns.reads (hr.at_ 0 rfl), fun k hk => ?_, hr.mod⟩
  rcases hr.own _ (List.mem_cons_self ..) rfl k hk.2 with h | h
  · exact h
  · simp at h

end Go.Proofs.YtliedecinehijaaDoor

/-
  Options: bits of blocks; the calls, walked. By an AI agent.
-/
set_option linter.unusedSimpArgs false
set_option linter.unusedVariables false
namespace Go.Proofs.YtliedecinehijaaDoor
open Go.Sx

theorem ibits_or (x y : Nat) (hx : x < 2 ^ 62) (hy : y < 2 ^ 62) : ibits .or .i64 (x : Int) (y : Int) = ((x ||| y : Nat) : Int) := by
  have h : x ||| y < 2 ^ 62 := Nat.or_lt_two_pow hx hy
  have e : (BitVec.ofInt 64 (x : Int) ||| BitVec.ofInt 64 (y : Int)).toNat = x ||| y := by
    rw [BitVec.toNat_or, BitVec.ofInt_natCast, BitVec.ofInt_natCast, BitVec.toNat_ofNat, BitVec.toNat_ofNat, Nat.mod_eq_of_lt (by omega), Nat.mod_eq_of_lt (by omega)]
  show IntKind.i64.wrap ((BitVec.ofInt 64 (x : Int) ||| BitVec.ofInt 64 (y : Int)).toNat : Int) = _
  rw [e, IntKind.wrap_i64]
  omega
theorem ibits_and (x y : Nat) (hx : x < 2 ^ 62) (hy : y < 2 ^ 62) : ibits .and .i64 (x : Int) (y : Int) = ((x &&& y : Nat) : Int) := by
  have h : x &&& y < 2 ^ 62 := Nat.and_lt_two_pow _ hy
  have e : (BitVec.ofInt 64 (x : Int) &&& BitVec.ofInt 64 (y : Int)).toNat = x &&& y := by
    rw [BitVec.toNat_and, BitVec.ofInt_natCast, BitVec.ofInt_natCast, BitVec.toNat_ofNat, BitVec.toNat_ofNat, Nat.mod_eq_of_lt (by omega), Nat.mod_eq_of_lt (by omega)]
  show IntKind.i64.wrap ((BitVec.ofInt 64 (x : Int) &&& BitVec.ofInt 64 (y : Int)).toNat : Int) = _
  rw [e, IntKind.wrap_i64]
  omega
theorem or_hi (a s t : Nat) (hs : s < 16) (ht : t < 16) : (16 * a + s) ||| t = 16 * a + (s ||| t) := by
  have h1 : ((16 * a + s) ||| t) / 2 ^ 4 = ((16 * a + s) / 2 ^ 4) ||| (t / 2 ^ 4) := Nat.or_div_two_pow ..
  have h2 : ((16 * a + s) ||| t) % 2 ^ 4 = ((16 * a + s) % 2 ^ 4) ||| (t % 2 ^ 4) := Nat.or_mod_two_pow ..
  have e1 : (16 * a + s) / 2 ^ 4 = a := by omega
  have e2 : (16 * a + s) % 2 ^ 4 = s := by omega
  have e3 : t / 2 ^ 4 = 0 := by omega
  have e4 : t % 2 ^ 4 = t := by omega
  rw [e1, e3, Nat.or_zero] at h1
  rw [e2, e4] at h2
  omega
theorem and_lo (x t : Nat) (ht : t < 16) : x &&& t = (x % 16) &&& t := by
  have h1 : (x &&& t) / 2 ^ 4 = (x / 2 ^ 4) &&& (t / 2 ^ 4) := Nat.and_div_two_pow ..
  have h2 : (x &&& t) % 2 ^ 4 = (x % 2 ^ 4) &&& (t % 2 ^ 4) := Nat.and_mod_two_pow ..
  have e3 : t / 2 ^ 4 = 0 := by omega
  have e4 : t % 2 ^ 4 = t := by omega
  rw [e3, Nat.and_zero] at h1
  rw [e4] at h2
  replace h1 : (x &&& t) / 16 = 0 := h1
  replace h2 : (x &&& t) % 16 = (x % 16) &&& t := h2
  omega
theorem and8 (n : Nat) (h : n < 2 ^ 62) : (!decide (ibits .and .i64 (n : Int) 8 = 0)) = decide ((n : Int) / 8 % 2 = 1) := by
  have e : ibits .and .i64 (n : Int) 8 = ((n &&& 8 : Nat) : Int) := ibits_and n 8 h (by decide)
  rw [e, and_lo n 8 (by decide)]
  have : ∀ x : Fin 16, (!decide (((x.val &&& 8 : Nat) : Int) = 0)) = decide (x.val / 8 % 2 = 1) := by decide +kernel
  have := this ⟨n % 16, by omega⟩
  simp only at this
  rw [this]
  exact decide_eq_decide.2 (by omega)
theorem and7 (n : Nat) (h : n < 2 ^ 62) : ibits .and .i64 (n : Int) 7 = (n : Int) % 8 := by
  have e : ibits .and .i64 (n : Int) 7 = ((n &&& 7 : Nat) : Int) := ibits_and n 7 h (by decide)
  rw [e, and_lo n 7 (by decide)]
  have : ∀ x : Fin 16, x.val &&& 7 = x.val % 8 := by decide +kernel
  have := this ⟨n % 16, by omega⟩
  simp only at this
  rw [this]
  omega
theorem shr4 (n : Nat) : ((n : Int)).fdiv (2 ^ (Nat.min (Int.toNat 4) IntKind.i64.bits)) = (n : Int) / 16 := by
  show ((n : Int)).fdiv 16 = _
  rw [Int.fdiv_eq_ediv_of_nonneg _ (by decide)]
theorem blkBits (b : Bk) (h : blkE b = 0) : (if b.2.1 = true then ibits .or .i64 (ibits .or .i64 (IntKind.i64.wrap (b.1 * 2 ^ (Nat.min (Int.toNat 4) IntKind.i64.bits))) b.2.2) 8 else ibits .or .i64 (IntKind.i64.wrap (b.1 * 2 ^ (Nat.min (Int.toNat 4) IntKind.i64.bits))) b.2.2) = blkN b := by
  obtain ⟨n, m, s⟩ := b
  unfold blkE at h
  split at h
  · rename_i hb
    simp only at hb ⊢
    obtain ⟨a, rfl⟩ : ∃ a : Nat, n = a := ⟨n.toNat, by omega⟩
    obtain ⟨t, rfl⟩ : ∃ a : Nat, s = a := ⟨s.toNat, by omega⟩
    have e0 : IntKind.i64.wrap ((a : Int) * 2 ^ (Nat.min (Int.toNat 4) IntKind.i64.bits)) = ((16 * a : Nat) : Int) := by
      show IntKind.i64.wrap ((a : Int) * 16) = _
      rw [IntKind.wrap_i64]; omega
    have e1 : ibits .or .i64 ((16 * a : Nat) : Int) (t : Int) = ((16 * a + t : Nat) : Int) := by
      rw [ibits_or _ _ (by omega) (by omega)]
      have := or_hi a 0 t (by decide) (by omega)
      rw [Nat.add_zero, Nat.zero_or] at this
      rw [this]
    have e2 : ibits .or .i64 ((16 * a + t : Nat) : Int) 8 = ((16 * a + t + 8 : Nat) : Int) := by
      have e : ibits .or .i64 ((16 * a + t : Nat) : Int) 8 = (((16 * a + t) ||| 8 : Nat) : Int) := ibits_or _ 8 (by omega) (by decide)
      rw [e, or_hi a t 8 (by omega) (by decide)]
      have : ∀ x : Fin 8, x.val ||| 8 = x.val + 8 := by decide +kernel
      have := this ⟨t, by omega⟩
      simp only at this
      rw [this]; rfl
    rw [e0, e1, e2]
    show _ = 16 * (a : Int) + (t : Int) + (if m = true then 8 else 0)
    cases m <;> simp
  · cases h

theorem uintV_bd (v : List UInt8) : 0 ≤ (uintV v).1 ∧ (uintV v).1 ≤ 16777215 := by
  unfold uintV
  split
  · decide
  · have hb := beN_lt v 0
    have hp : pw v.length ≤ pw 3 := pw_mono (by omega)
    have hp3 : pw 3 = 16777216 := rfl
    simp only
    omega
theorem uintL_bd (n : Int) (os : List Opt) : 0 ≤ (uintL n os).1 ∧ (uintL n os).1 ≤ 16777215 := by
  unfold uintL
  split
  · decide
  · exact uintV_bd _
theorem uintR_bd (m : Msg) (n : Int) : 0 ≤ (uintR m n).1 ∧ (uintR m n).1 ≤ 16777215 := by
  unfold uintR
  split
  · exact uintL_bd _ _
  · show (0 : Int) ≤ 0 ∧ (0 : Int) ≤ 16777215
    decide

/-- The bounds of a message that comes in. -/
abbrev bdM (m : Msg) : Prop := m.opts.length < 1000000000 ∧ m.tok.length < 1099511627776 ∧ m.pay.length < 1099511627776
theorem c_CheckB (w : World) (m : Msg) (v : Value) (hv : readsO w v m.opts) (hb : bdM m) :
    Calls Tryd.prog 53 #[mV m (sc1 v)] w fun e w' => e = .returned (.int .i64 (chk m)) ∧ Mod [] w w' := c_Check w m v hv (by have := hb.1; omega) hb.2.1 hb.2.2
theorem c_Path (w : World) (m : Msg) (v : Value) (hv : readsO w v m.opts) (hb : bdM m) :
    Calls Tryd.prog 21 #[mV m (sc1 v)] w fun e w' => e = .returned (.tuple #[.string ⟨(pathR m).1.toArray⟩, .int .i64 (pathR m).2]) ∧ Mod [] w w' := by
  refine as_called (run_tree2 (ρ := [.i m.kind, .i m.code, .i m.id, .s m.tok, .v v, .r (m.opts.map encO), .s m.pay]) sxE_ok Tryd.func21 tree_option_Path rfl rfl (Rel.start2 (by simp [Ent.holds, Ent.wr, hv, X.ev])) rfl rfl ?_) rfl
  simp only [Tree.goal, X.P, X.ev, V.toI_i, V.toB_b, V.toS_s, V.toR_r, V.toV_v, V.toN_n, V.toL_l, SV.ev, CV.ev, Sc.ev, List.getD_cons_zero, List.getD_cons_succ, List.getElem?_cons_zero, List.getElem?_cons_succ, List.map_cons, List.map_nil, List.length_cons, List.length_nil, List.cons_append, List.nil_append, Nat.zero_add, Nat.reduceAdd, List.length_map, Int.toNat_natCast, gI_encO, gS_encO, gS_encS]
  intro b1
  refine ⟨[.i (chk m)], rfl, fun _ w' hr => c_CheckB w' m v (hr.at_ 1 rfl) hb, ?_⟩
  simp only [Tree.goal, X.P, X.ev, V.toI_i, V.toB_b, V.toS_s, V.toR_r, V.toV_v, V.toN_n, V.toL_l, SV.ev, CV.ev, Sc.ev, List.getD_cons_zero, List.getD_cons_succ, List.getElem?_cons_zero, List.getElem?_cons_succ, List.map_cons, List.map_nil, List.length_cons, List.length_nil, List.cons_append, List.nil_append, Nat.zero_add, Nat.reduceAdd]
  refine ⟨fun h w' hr => ⟨by rw [pathR, if_neg h], hr.mod⟩, fun h => ?_⟩
  have h := Classical.not_not.1 h
  refine ⟨[.s (pathL m.opts).1, .i (pathL m.opts).2], rfl, fun _ w' hr => c_PathOf w' m v (hr.at_ 1 rfl) h, ?_⟩
  simp only [Tree.goal, X.P, X.ev, V.toI_i, V.toB_b, V.toS_s, V.toR_r, V.toV_v, V.toN_n, V.toL_l, SV.ev, CV.ev, Sc.ev, List.getD_cons_zero, List.getD_cons_succ, List.getElem?_cons_zero, List.getElem?_cons_succ, List.map_cons, List.map_nil, List.length_cons, List.length_nil, List.cons_append, List.nil_append, Nat.zero_add, Nat.reduceAdd]
  exact fun w' hr => ⟨by rw [pathR, if_pos h], hr.mod⟩
theorem c_Uint (w : World) (m : Msg) (v : Value) (n : Int) (hv : readsO w v m.opts) (hb : bdM m) :
    Calls Tryd.prog 23 #[mV m (sc1 v), .int .i64 n] w fun e w' => e = .returned (.tuple #[.int .i64 (uintR m n).1, .int .i64 (uintR m n).2]) ∧ Mod [] w w' := by
  refine as_called (run_tree2 (ρ := [.i m.kind, .i m.code, .i m.id, .s m.tok, .v v, .r (m.opts.map encO), .s m.pay, .i n]) sxE_ok Tryd.func23 tree_option_Uint rfl rfl (Rel.start2 (by simp [Ent.holds, Ent.wr, hv, X.ev])) rfl rfl ?_) rfl
  simp only [Tree.goal, X.P, X.ev, V.toI_i, V.toB_b, V.toS_s, V.toR_r, V.toV_v, V.toN_n, V.toL_l, SV.ev, CV.ev, Sc.ev, List.getD_cons_zero, List.getD_cons_succ, List.getElem?_cons_zero, List.getElem?_cons_succ, List.map_cons, List.map_nil, List.length_cons, List.length_nil, List.cons_append, List.nil_append, Nat.zero_add, Nat.reduceAdd, List.length_map, Int.toNat_natCast, gI_encO, gS_encO, gS_encS]
  intro b1
  refine ⟨[.i (chk m)], rfl, fun _ w' hr => c_CheckB w' m v (hr.at_ 1 rfl) hb, ?_⟩
  simp only [Tree.goal, X.P, X.ev, V.toI_i, V.toB_b, V.toS_s, V.toR_r, V.toV_v, V.toN_n, V.toL_l, SV.ev, CV.ev, Sc.ev, List.getD_cons_zero, List.getD_cons_succ, List.getElem?_cons_zero, List.getElem?_cons_succ, List.map_cons, List.map_nil, List.length_cons, List.length_nil, List.cons_append, List.nil_append, Nat.zero_add, Nat.reduceAdd]
  refine ⟨fun h w' hr => ⟨by rw [uintR, if_neg h], hr.mod⟩, fun h => ?_⟩
  have h := Classical.not_not.1 h
  refine ⟨[.i (uintL n m.opts).1, .i (uintL n m.opts).2], rfl, fun _ w' hr => c_UintOf w' m v n (hr.at_ 1 rfl) hb.1, ?_⟩
  simp only [Tree.goal, X.P, X.ev, V.toI_i, V.toB_b, V.toS_s, V.toR_r, V.toV_v, V.toN_n, V.toL_l, SV.ev, CV.ev, Sc.ev, List.getD_cons_zero, List.getD_cons_succ, List.getElem?_cons_zero, List.getElem?_cons_succ, List.map_cons, List.map_nil, List.length_cons, List.length_nil, List.cons_append, List.nil_append, Nat.zero_add, Nat.reduceAdd]
  exact fun w' hr => ⟨by rw [uintR, if_pos h], hr.mod⟩
def bV (b : Bk) : Value := .agg #[.int .i64 b.1, .bool b.2.1, .int .i64 b.2.2]
theorem c_block (w : World) (b : Bk) : Calls Tryd.prog 61 #[bV b] w fun e w' => e = .returned (.int .i64 (blkE b)) ∧ Mod [] w w' := by
  refine as_called (run_plain2 (ρ := [.i b.1, .b b.2.1, .i b.2.2]) sxE_ok Tryd.func61 tree_option_block rfl rfl rfl ?_) rfl
  simp only [Tree.goal, X.P, X.ev, V.toI_i, V.toB_b, V.toS_s, V.toR_r, V.toV_v, V.toN_n, V.toL_l, SV.ev, CV.ev, Sc.ev, List.getD_cons_zero, List.getD_cons_succ, List.getElem?_cons_zero, List.getElem?_cons_succ, List.map_cons, List.map_nil, List.length_cons, List.length_nil, List.cons_append, List.nil_append, Nat.zero_add, Nat.reduceAdd]
  refine fun b1 => ⟨fun h w' hr => ⟨by rw [blkE, if_neg (by omega)], hr.mod⟩, fun h w' hr => ⟨by rw [blkE, if_pos (by omega)], hr.mod⟩⟩
theorem c_BlockErr (w : World) (b : Bk) : Calls Tryd.prog 31 #[bV b] w fun e w' => e = .returned (.int .i64 (blkE b)) ∧ Mod [] w w' := by
  refine as_called (run_plain2 (ρ := [.i b.1, .b b.2.1, .i b.2.2]) sxE_ok Tryd.func31 tree_dragomanref_BlockErr rfl rfl rfl ?_) rfl
  simp only [Tree.goal, X.P, X.ev, V.toI_i, V.toB_b, V.toS_s, V.toR_r, V.toV_v, V.toN_n, V.toL_l, SV.ev, CV.ev, Sc.ev, List.getD_cons_zero, List.getD_cons_succ, List.getElem?_cons_zero, List.getElem?_cons_succ, List.map_cons, List.map_nil, List.length_cons, List.length_nil, List.cons_append, List.nil_append, Nat.zero_add, Nat.reduceAdd]
  refine fun b1 => ⟨fun h w' hr => ⟨by rw [blkE, if_neg (by omega)], hr.mod⟩, fun h => ⟨fun h1 w' hr => ⟨by rw [blkE, if_neg (by omega)], hr.mod⟩, fun h1 w' hr => ⟨by rw [blkE, if_pos (by omega)], hr.mod⟩⟩⟩
theorem c_Block (w : World) (m : Msg) (v : Value) (hv : readsO w v m.opts) (hb : bdM m) :
    Calls Tryd.prog 24 #[mV m (sc1 v)] w fun e w' => e = .returned (.tuple #[bV (blockR m).1, .int .i64 (blockR m).2]) ∧ Mod [] w w' := by
  refine as_called (run_tree2 (ρ := [.i m.kind, .i m.code, .i m.id, .s m.tok, .v v, .r (m.opts.map encO), .s m.pay]) sxE_ok Tryd.func24 tree_option_Block rfl rfl (Rel.start2 (by simp [Ent.holds, Ent.wr, hv, X.ev])) rfl rfl ?_) rfl
  simp only [Tree.goal, X.P, X.ev, V.toI_i, V.toB_b, V.toS_s, V.toR_r, V.toV_v, V.toN_n, V.toL_l, SV.ev, CV.ev, Sc.ev, List.getD_cons_zero, List.getD_cons_succ, List.getElem?_cons_zero, List.getElem?_cons_succ, List.map_cons, List.map_nil, List.length_cons, List.length_nil, List.cons_append, List.nil_append, Nat.zero_add, Nat.reduceAdd, List.length_map, Int.toNat_natCast, gI_encO, gS_encO, gS_encS]
  intro b1 b2
  refine ⟨[.i (uintR m 23).1, .i (uintR m 23).2], rfl, fun _ w' hr => c_Uint w' m v 23 (hr.at_ 2 rfl) hb, ?_⟩
  simp only [Tree.goal, X.P, X.ev, V.toI_i, V.toB_b, V.toS_s, V.toR_r, V.toV_v, V.toN_n, V.toL_l, SV.ev, CV.ev, Sc.ev, List.getD_cons_zero, List.getD_cons_succ, List.getElem?_cons_zero, List.getElem?_cons_succ, List.map_cons, List.map_nil, List.length_cons, List.length_nil, List.cons_append, List.nil_append, Nat.zero_add, Nat.reduceAdd]
  refine ⟨fun h w' hr => ⟨by rw [blockR, if_neg h]; rfl, hr.mod⟩, fun h b3 => ?_⟩
  have h := Classical.not_not.1 h
  have hbd := uintR_bd m 23
  have e0 : blockR m = if blkE (nBlk (uintR m 23).1) = 0 then (nBlk (uintR m 23).1, 0) else ((0, false, 0), blkE (nBlk (uintR m 23).1)) := by rw [blockR, if_pos h]
  generalize (uintR m 23).1 = n at hbd e0 ⊢
  obtain ⟨a, rfl⟩ : ∃ a : Nat, n = a := ⟨n.toNat, by omega⟩
  rw [shr4, and8 a (by omega), and7 a (by omega)]
  refine ⟨[.i (blkE (nBlk a))], rfl, fun _ w' hr => c_block w' (nBlk a), ?_⟩
  simp only [Tree.goal, X.P, X.ev, V.toI_i, V.toB_b, V.toS_s, V.toR_r, V.toV_v, V.toN_n, V.toL_l, SV.ev, CV.ev, Sc.ev, List.getD_cons_zero, List.getD_cons_succ, List.getElem?_cons_zero, List.getElem?_cons_succ, List.map_cons, List.map_nil, List.length_cons, List.length_nil, List.cons_append, List.nil_append, Nat.zero_add, Nat.reduceAdd]
  exact ⟨fun h1 w' hr => ⟨by rw [e0, if_neg h1]; rfl, hr.mod⟩, fun h1 w' hr => ⟨by rw [e0, if_pos (Classical.not_not.1 h1)]; rfl, hr.mod⟩⟩
theorem c_blockOf (w : World) (m : Msg) (v : Value) (hv : readsO w v m.opts) (hb : bdM m) (hc : chk m = 0) :
    Calls Tryd.prog 30 #[mV m (sc1 v)] w fun e w' => e = .returned (.tuple #[bV (blockR m).1, .int .i64 (blockR m).2]) ∧ Mod [] w w' := by
  refine as_called (run_tree2 (ρ := [.i m.kind, .i m.code, .i m.id, .s m.tok, .v v, .r (m.opts.map encO), .s m.pay]) sxE_ok Tryd.func30 tree_dragomanlaw_blockOf rfl rfl (Rel.start2 (by simp [Ent.holds, Ent.wr, hv, X.ev])) rfl rfl ?_) rfl
  simp only [Tree.goal, X.P, X.ev, V.toI_i, V.toB_b, V.toS_s, V.toR_r, V.toV_v, V.toN_n, V.toL_l, SV.ev, CV.ev, Sc.ev, List.getD_cons_zero, List.getD_cons_succ, List.getElem?_cons_zero, List.getElem?_cons_succ, List.map_cons, List.map_nil, List.length_cons, List.length_nil, List.cons_append, List.nil_append, Nat.zero_add, Nat.reduceAdd, List.length_map, Int.toNat_natCast, gI_encO, gS_encO, gS_encS]
  intro b1 b2
  have eu : uintR m 23 = uintL 23 m.opts := by rw [uintR, if_pos hc]
  rw [blockR, eu]
  refine ⟨[.i (uintL 23 m.opts).1, .i (uintL 23 m.opts).2], rfl, fun _ w' hr => c_UintOfR w' m v 23 (hr.at_ 2 rfl) hb.1, ?_⟩
  simp only [Tree.goal, X.P, X.ev, V.toI_i, V.toB_b, V.toS_s, V.toR_r, V.toV_v, V.toN_n, V.toL_l, SV.ev, CV.ev, Sc.ev, List.getD_cons_zero, List.getD_cons_succ, List.getElem?_cons_zero, List.getElem?_cons_succ, List.map_cons, List.map_nil, List.length_cons, List.length_nil, List.cons_append, List.nil_append, Nat.zero_add, Nat.reduceAdd]
  have hbd := uintL_bd 23 m.opts
  generalize uintL 23 m.opts = u at hbd ⊢
  refine ⟨fun h w' hr => ⟨by rw [if_neg h]; rfl, hr.mod⟩, fun h => ⟨by omega, by omega, by omega, fun b3 => ?_⟩⟩
  have h := Classical.not_not.1 h
  rw [if_pos h]
  refine ⟨[.i (blkE (nBlk u.1))], rfl, fun _ w' hr => c_BlockErr w' (nBlk u.1), ?_⟩
  simp only [Tree.goal, X.P, X.ev, V.toI_i, V.toB_b, V.toS_s, V.toR_r, V.toV_v, V.toN_n, V.toL_l, SV.ev, CV.ev, Sc.ev, List.getD_cons_zero, List.getD_cons_succ, List.getElem?_cons_zero, List.getElem?_cons_succ, List.map_cons, List.map_nil, List.length_cons, List.length_nil, List.cons_append, List.nil_append, Nat.zero_add, Nat.reduceAdd]
  exact ⟨fun h1 w' hr => ⟨by rw [if_neg h1]; rfl, hr.mod⟩, fun h1 w' hr => ⟨by rw [if_pos (Classical.not_not.1 h1), Classical.not_not.1 h1]; rfl, hr.mod⟩⟩
theorem c_blockNumber (w : World) (b : Bk) (h : blkE b = 0) : Calls Tryd.prog 35 #[bV b] w fun e w' => e = .returned (.int .i64 (blkN b)) ∧ Mod [] w w' := by
  refine as_called (run_plain2 (ρ := [.i b.1, .b b.2.1, .i b.2.2]) sxE_ok Tryd.func35 tree_dragomanlaw_blockNumber rfl rfl rfl ?_) rfl
  simp only [Tree.goal, X.P, X.ev, V.toI_i, V.toB_b, V.toS_s, V.toR_r, V.toV_v, V.toN_n, V.toL_l, SV.ev, CV.ev, Sc.ev, List.getD_cons_zero, List.getD_cons_succ, List.getElem?_cons_zero, List.getElem?_cons_succ, List.map_cons, List.map_nil, List.length_cons, List.length_nil, List.cons_append, List.nil_append, Nat.zero_add, Nat.reduceAdd]
  intro b1
  unfold blkE at h
  split at h
  · rename_i hb
    refine ⟨by omega, by omega, by omega, by omega, fun h1 => ⟨by omega, by omega, fun w' hr => ⟨?_, hr.mod⟩⟩, fun h1 w' hr => ⟨?_, hr.mod⟩⟩
    · rw [blkN, if_pos h1]
    · rw [blkN, if_neg h1, Int.add_zero]
  · cases h

/-- A message and an errno, given back. -/
def gotM (w w' : World) (e : Ending) (r : Msg × Int) : Prop := ∃ v', e = .returned (.tuple #[mV r.1 (sc1 v'), .int .i64 r.2]) ∧ readsO w' v' r.1.opts ∧ freshO w.heap.size v' r.1.opts ∧ Mod [] w w'
theorem gotM_nil {w w' : World} {er : Int} (h : Mod [] w w') : gotM w w' (.returned (.tuple #[mV mNil (sc1 (.slice none 0 0)), .int .i64 er])) (mNil, er) := ⟨_, rfl, readsO_nil _, freshO_nil _ _, h⟩
theorem withM_bd {m : Msg} {n : Int} {us : List (List UInt8)} (h : bdM m) (hu : us.length < 1000000) (hm : m.opts.length ≤ 12) : bdM (withM m n us) := by
  refine ⟨?_, h.2.1, h.2.2⟩
  show (withL m.opts n us).length < _
  have h1 := congrArg List.length (upTo_past n (noN n m.opts))
  have h2 := noN_len n m.opts
  simp only [withL, List.length_append, List.length_map] at h1 ⊢
  omega
theorem c_WithUint (w : World) (m : Msg) (v : Value) (n x : Int) (hv : readsO w v m.opts) (hb : bdM m) :
    Calls Tryd.prog 19 #[mV m (sc1 v), .int .i64 n, .int .i64 x] w fun e w' => gotM w w' e (withUintR m n x) := by
  refine as_called (run_tree2 (ρ := [.i m.kind, .i m.code, .i m.id, .s m.tok, .v v, .r (m.opts.map encO), .s m.pay, .i n, .i x]) (sxE_ok.joins _) Tryd.func19 tree_option_WithUint rfl rfl (Rel.start2 (by simp [Ent.holds, Ent.wr, hv, X.ev])) rfl rfl ?_) rfl
  simp only [Tree.goal, X.P, X.ev, V.toI_i, V.toB_b, V.toS_s, V.toR_r, V.toV_v, V.toN_n, V.toL_l, SV.ev, CV.ev, Sc.ev, List.getD_cons_zero, List.getD_cons_succ, List.getElem?_cons_zero, List.getElem?_cons_succ, List.map_cons, List.map_nil, List.length_cons, List.length_nil, List.cons_append, List.nil_append, Nat.zero_add, Nat.reduceAdd, List.length_map, Int.toNat_natCast, gI_encO, gS_encO, gS_encS]
  intro b1 b2
  refine ⟨[.i (chk m)], rfl, fun _ w' hr => c_CheckB w' m v (hr.at_ 2 rfl) hb, ?_⟩
  simp only [Tree.goal, X.P, X.ev, V.toI_i, V.toB_b, V.toS_s, V.toR_r, V.toV_v, V.toN_n, V.toL_l, SV.ev, CV.ev, Sc.ev, List.getD_cons_zero, List.getD_cons_succ, List.getElem?_cons_zero, List.getElem?_cons_succ, List.map_cons, List.map_nil, List.length_cons, List.length_nil, List.cons_append, List.nil_append, Nat.zero_add, Nat.reduceAdd]
  refine ⟨fun vs => ∃ y : Int, vs = [.i y] ∧ y = (if chk m = 0 then (if 0 ≤ x ∧ x ≤ 16777215 then 0 else 3) else chk m), ⟨fun h => ⟨3, rfl, by rw [if_pos h.1, if_neg (by omega)]⟩, fun h => ⟨_, rfl, ?_⟩⟩, ?_⟩
  · by_cases h1 : chk m = 0
    · rw [if_pos h1, if_pos (by omega), h1]
    · rw [if_neg h1]
  rintro _ - ⟨y, rfl, hy⟩
  simp only [Tree.goal, X.P, X.ev, V.toI_i, V.toB_b, V.toS_s, V.toR_r, V.toV_v, V.toN_n, V.toL_l, SV.ev, CV.ev, Sc.ev, List.getD_cons_zero, List.getD_cons_succ, List.getElem?_cons_zero, List.getElem?_cons_succ, List.map_cons, List.map_nil, List.length_cons, List.length_nil, List.cons_append, List.nil_append, Nat.zero_add, Nat.reduceAdd]
  refine ⟨fun h w' hr => ?_, fun h b3 b4 => ?_⟩
  · have e : withUintR m n x = (mNil, y) := by
      rw [withUintR]
      by_cases h1 : chk m = 0
      · rw [if_pos h1] at hy ⊢
        by_cases h2 : 0 ≤ x ∧ x ≤ 16777215
        · rw [if_pos h2] at hy; exact absurd hy h
        · rw [if_neg h2] at hy ⊢; rw [hy]
      · rw [if_neg h1] at hy ⊢; rw [hy]
    rw [e]
    exact gotM_nil hr.mod
  have h := Classical.not_not.1 h
  rw [h] at hy
  have h1 : chk m = 0 := Classical.byContradiction fun h1 => by rw [if_neg h1] at hy; exact h1 hy.symm
  rw [if_pos h1] at hy
  have h2 : 0 ≤ x ∧ x ≤ 16777215 := Classical.byContradiction fun h2 => by rw [if_neg h2] at hy; cases hy
  have e : withUintR m n x = outR (withM m n [shortB x]) := by rw [withUintR, if_pos h1, if_pos h2]
  rw [e]
  have hm12 := (chk_ok.1 h1).2.2.1.2.1
  refine ⟨[.s (shortB x)], rfl, fun _ w' hr => c_short w' x h2, fun u w1 hr => ?_⟩
  have hu := (hr.at_ 0 rfl).reads
  refine (c_With w1 m v u n [shortB x] (hr.at_ 5 rfl) hu (by omega) (by simp)).mono ?_
  rintro e w2 ⟨v', rfl, r1, f1, m1⟩
  replace f1 : freshO w1.heap.size v' (withL m.opts n [shortB x]) := fun k hk => f1 k hk.2
  refine ⟨[.i m.kind, .i m.code, .i m.id, .s m.tok, .v v', .r ((withL m.opts n [shortB x]).map encO), .s m.pay], rfl, rfl, m1, List.forall_mem_nil _, List.forall_mem_cons.2 ⟨⟨r1, fun k hk => .inl (f1 k hk)⟩, List.forall_mem_nil _⟩, apart_one, ?_⟩
  have hsz := hr.mod.size
  clear hr r1 m1 hu
  simp only [Tree.goal, X.P, X.ev, V.toI_i, V.toB_b, V.toS_s, V.toR_r, V.toV_v, V.toN_n, V.toL_l, SV.ev, CV.ev, Sc.ev, List.getD_cons_zero, List.getD_cons_succ, List.getElem?_cons_zero, List.getElem?_cons_succ, List.map_cons, List.map_nil, List.length_cons, List.length_nil, List.cons_append, List.nil_append, Nat.zero_add, Nat.reduceAdd]
  intro b5 b6
  refine ⟨[.i (chk (withM m n [shortB x]))], rfl, fun _ w' hr => c_CheckB w' (withM m n [shortB x]) v' (hr.at_ 2 rfl) (withM_bd hb (by simp) hm12), ?_⟩
  simp only [Tree.goal, X.P, X.ev, V.toI_i, V.toB_b, V.toS_s, V.toR_r, V.toV_v, V.toN_n, V.toL_l, SV.ev, CV.ev, Sc.ev, List.getD_cons_zero, List.getD_cons_succ, List.getElem?_cons_zero, List.getElem?_cons_succ, List.map_cons, List.map_nil, List.length_cons, List.length_nil, List.cons_append, List.nil_append, Nat.zero_add, Nat.reduceAdd]
  refine ⟨fun h3 w' hr => ?_, fun h3 w' hr => ?_⟩
  · rw [outR, if_neg h3]
    exact gotM_nil hr.mod
  · rw [outR, if_pos (Classical.not_not.1 h3)]
    exact ⟨v', rfl, hr.at_ 2 rfl, f1.mono hsz, hr.mod⟩
end Go.Proofs.YtliedecinehijaaDoor

/-
  Options: WithPath, WithBlock; the reference's WithOf; what the laws use. By an AI agent.
-/
set_option linter.unusedSimpArgs false
set_option linter.unusedVariables false
namespace Go.Proofs.YtliedecinehijaaDoor
open Go.Sx

theorem lev_le : ∀ s : List UInt8, (lev s).length ≤ s.length + 1
  | [] => by simp [lev]
  | c :: s => by
    have := lev_le s
    by_cases h : c = 47
    · subst h; rw [lev_slash]; simp; omega
    · obtain ⟨y, ys, e⟩ := lev_ne s
      rw [lev_other _ h, e]
      rw [e] at this
      simp [glue] at this ⊢; omega
theorem c_WithPath (w : World) (m : Msg) (v : Value) (t : List UInt8) (hv : readsO w v m.opts) (hb : bdM m) (ht : t.length < 4294967281) :
    Calls Tryd.prog 22 #[mV m (sc1 v), .string ⟨t.toArray⟩] w fun e w' => gotM w w' e (withPathR m t) := by
  refine as_called (run_tree2 (ρ := [.i m.kind, .i m.code, .i m.id, .s m.tok, .v v, .r (m.opts.map encO), .s m.pay, .s t]) (sxE_ok.joins _) Tryd.func22 tree_option_WithPath rfl rfl (Rel.start2 (by simp [Ent.holds, Ent.wr, hv, X.ev])) rfl rfl ?_) rfl
  simp only [Tree.goal, X.P, X.ev, V.toI_i, V.toB_b, V.toS_s, V.toR_r, V.toV_v, V.toN_n, V.toL_l, SV.ev, CV.ev, Sc.ev, List.getD_cons_zero, List.getD_cons_succ, List.getElem?_cons_zero, List.getElem?_cons_succ, List.map_cons, List.map_nil, List.length_cons, List.length_nil, List.cons_append, List.nil_append, Nat.zero_add, Nat.reduceAdd, List.length_map, Int.toNat_natCast, gI_encO, gS_encO, gS_encS]
  intro b1 b2
  refine ⟨[.i (chk m)], rfl, fun _ w' hr => c_CheckB w' m v ((by first | exact hr.at_ 0 rfl | exact hr.at_ 1 rfl | exact hr.at_ 2 rfl | exact hr.at_ 3 rfl | exact hr.at_ 4 rfl | exact hr.at_ 5 rfl | exact hr.at_ 6 rfl | exact hr.at_ 7 rfl | exact hr.at_ 8 rfl | exact hr.at_ 9 rfl | exact hr.at_ 10 rfl | exact hr.at_ 11 rfl)) hb, ?_⟩
  simp only [Tree.goal, X.P, X.ev, V.toI_i, V.toB_b, V.toS_s, V.toR_r, V.toV_v, V.toN_n, V.toL_l, SV.ev, CV.ev, Sc.ev, List.getD_cons_zero, List.getD_cons_succ, List.getElem?_cons_zero, List.getElem?_cons_succ, List.map_cons, List.map_nil, List.length_cons, List.length_nil, List.cons_append, List.nil_append, Nat.zero_add, Nat.reduceAdd]
  refine ⟨fun vs => ∃ y : Int, vs = [.i y] ∧ y = (if chk m = 0 then chkT t false else chk m), ⟨fun h => ?_, fun h => ⟨_, rfl, by rw [if_neg h]⟩⟩, ?_⟩
  · refine ⟨[.i (chkT t false)], rfl, fun _ w' _ => c_Name w' t ht, ?_⟩
    simp only [Tree.goal, X.P, X.ev, V.toI_i, V.toB_b, V.toS_s, V.toR_r, V.toV_v, V.toN_n, V.toL_l, SV.ev, CV.ev, Sc.ev, List.getD_cons_zero, List.getD_cons_succ, List.getElem?_cons_zero, List.getElem?_cons_succ, List.map_cons, List.map_nil, List.length_cons, List.length_nil, List.cons_append, List.nil_append, Nat.zero_add, Nat.reduceAdd]
    exact ⟨_, rfl, by rw [if_pos h]⟩
  rintro _ - ⟨y, rfl, hy⟩
  simp only [Tree.goal, X.P, X.ev, V.toI_i, V.toB_b, V.toS_s, V.toR_r, V.toV_v, V.toN_n, V.toL_l, SV.ev, CV.ev, Sc.ev, List.getD_cons_zero, List.getD_cons_succ, List.getElem?_cons_zero, List.getElem?_cons_succ, List.map_cons, List.map_nil, List.length_cons, List.length_nil, List.cons_append, List.nil_append, Nat.zero_add, Nat.reduceAdd]
  refine ⟨fun h w' hr => ?_, fun h => ?_⟩
  · have e : withPathR m t = (mNil, y) := by
      rw [withPathR]
      by_cases h1 : chk m = 0
      · rw [if_pos h1] at hy ⊢
        rw [if_neg (by rw [← hy]; exact h), hy]
      · rw [if_neg h1] at hy ⊢; rw [hy]
    rw [e]
    exact gotM_nil hr.mod
  have h := Classical.not_not.1 h
  rw [h] at hy
  have h1 : chk m = 0 := Classical.byContradiction fun h1 => by rw [if_neg h1] at hy; exact h1 hy.symm
  rw [if_pos h1] at hy
  have e : withPathR m t = outR (withM m 11 (lev t)) := by rw [withPathR, if_pos h1, if_pos hy.symm]
  rw [e]
  have hm12 := (chk_ok.1 h1).2.2.1.2.1
  have hl6 := (chkT_ok.1 hy.symm).2.1.2
  refine ⟨?_, ?_⟩ <;> (intro w0 hr0; have hsz0 := hr0.mod.size; refine (c_Levels w0 t ht).mono ?_; rintro e w1 ⟨u, rfl, r1, f1, m1⟩; refine ⟨[.v u, .r ((lev t).map encS)], rfl, rfl, m1, List.forall_mem_nil _, List.forall_mem_cons.2 ⟨⟨r1, fun k hk => .inl (f1 k hk)⟩, List.forall_mem_nil _⟩, apart_one, ?_⟩; clear hr0 r1 f1 m1; simp only [Tree.goal, X.P, X.ev, V.toI_i, V.toB_b, V.toS_s, V.toR_r, V.toV_v, V.toN_n, V.toL_l, SV.ev, CV.ev, Sc.ev, List.getD_cons_zero, List.getD_cons_succ, List.getElem?_cons_zero, List.getElem?_cons_succ, List.map_cons, List.map_nil, List.length_cons, List.length_nil, List.cons_append, List.nil_append, Nat.zero_add, Nat.reduceAdd]; intro w1 hr; have hsz1 := hr.mod.size; refine (c_With w1 m v u 11 (lev t) ((by first | exact hr.at_ 0 rfl | exact hr.at_ 1 rfl | exact hr.at_ 2 rfl | exact hr.at_ 3 rfl | exact hr.at_ 4 rfl | exact hr.at_ 5 rfl | exact hr.at_ 6 rfl | exact hr.at_ 7 rfl | exact hr.at_ 8 rfl | exact hr.at_ 9 rfl | exact hr.at_ 10 rfl | exact hr.at_ 11 rfl)) ((by first | exact hr.at_ 0 rfl | exact hr.at_ 1 rfl | exact hr.at_ 2 rfl | exact hr.at_ 3 rfl | exact hr.at_ 4 rfl | exact hr.at_ 5 rfl | exact hr.at_ 6 rfl | exact hr.at_ 7 rfl | exact hr.at_ 8 rfl | exact hr.at_ 9 rfl | exact hr.at_ 10 rfl | exact hr.at_ 11 rfl)) (by omega) (by omega)).mono ?_; rintro e w2 ⟨v', rfl, r1, f1, m1⟩; replace f1 : freshO w1.heap.size v' (withL m.opts 11 (lev t)) := fun k hk => f1 k hk.2; refine ⟨[.i m.kind, .i m.code, .i m.id, .s m.tok, .v v', .r ((withL m.opts 11 (lev t)).map encO), .s m.pay], rfl, rfl, m1, List.forall_mem_nil _, List.forall_mem_cons.2 ⟨⟨r1, fun k hk => .inl (f1 k hk)⟩, List.forall_mem_nil _⟩, apart_one, ?_⟩; clear hr r1 m1; simp only [Tree.goal, X.P, X.ev, V.toI_i, V.toB_b, V.toS_s, V.toR_r, V.toV_v, V.toN_n, V.toL_l, SV.ev, CV.ev, Sc.ev, List.getD_cons_zero, List.getD_cons_succ, List.getElem?_cons_zero, List.getElem?_cons_succ, List.map_cons, List.map_nil, List.length_cons, List.length_nil, List.cons_append, List.nil_append, Nat.zero_add, Nat.reduceAdd]; intro b5 b6; refine ⟨[.i (chk (withM m 11 (lev t)))], rfl, fun _ w' hr => c_CheckB w' (withM m 11 (lev t)) v' ((by first | exact hr.at_ 0 rfl | exact hr.at_ 1 rfl | exact hr.at_ 2 rfl | exact hr.at_ 3 rfl | exact hr.at_ 4 rfl | exact hr.at_ 5 rfl | exact hr.at_ 6 rfl | exact hr.at_ 7 rfl | exact hr.at_ 8 rfl | exact hr.at_ 9 rfl | exact hr.at_ 10 rfl | exact hr.at_ 11 rfl)) (withM_bd hb (by omega) hm12), ?_⟩; simp only [Tree.goal, X.P, X.ev, V.toI_i, V.toB_b, V.toS_s, V.toR_r, V.toV_v, V.toN_n, V.toL_l, SV.ev, CV.ev, Sc.ev, List.getD_cons_zero, List.getD_cons_succ, List.getElem?_cons_zero, List.getElem?_cons_succ, List.map_cons, List.map_nil, List.length_cons, List.length_nil, List.cons_append, List.nil_append, Nat.zero_add, Nat.reduceAdd]; refine ⟨fun h3 w' hr => ?_, fun h3 w' hr => ?_⟩; (· rw [outR, if_neg h3]; exact gotM_nil hr.mod); (· rw [outR, if_pos (Classical.not_not.1 h3)]; exact ⟨v', rfl, ((by first | exact hr.at_ 0 rfl | exact hr.at_ 1 rfl | exact hr.at_ 2 rfl | exact hr.at_ 3 rfl | exact hr.at_ 4 rfl | exact hr.at_ 5 rfl | exact hr.at_ 6 rfl | exact hr.at_ 7 rfl | exact hr.at_ 8 rfl | exact hr.at_ 9 rfl | exact hr.at_ 10 rfl | exact hr.at_ 11 rfl)), f1.mono hsz1, hr.mod⟩))
/-- The atoms of a message and an errno. -/
abbrev mEV (r : Msg × Int) (v : Value) : List V := [.i r.1.kind, .i r.1.code, .i r.1.id, .s r.1.tok, .v v, .r (r.1.opts.map encO), .s r.1.pay, .i r.2]
abbrev mVs (m : Msg) (v : Value) : List V := [.i m.kind, .i m.code, .i m.id, .s m.tok, .v v, .r (m.opts.map encO), .s m.pay]
theorem c_WithBlock (w : World) (m : Msg) (v : Value) (b : Bk) (hv : readsO w v m.opts) (hb : bdM m) :
    Calls Tryd.prog 25 #[mV m (sc1 v), bV b] w fun e w' => gotM w w' e (withBlockR m b) := by
  refine as_called (run_tree2 (ρ := [.i m.kind, .i m.code, .i m.id, .s m.tok, .v v, .r (m.opts.map encO), .s m.pay, .i b.1, .b b.2.1, .i b.2.2]) (sxE_ok.joins _) Tryd.func25 tree_option_WithBlock rfl rfl (Rel.start2 (by simp [Ent.holds, Ent.wr, hv, X.ev])) rfl rfl ?_) rfl
  simp only [Tree.goal, X.P, X.ev, V.toI_i, V.toB_b, V.toS_s, V.toR_r, V.toV_v, V.toN_n, V.toL_l, SV.ev, CV.ev, Sc.ev, List.getD_cons_zero, List.getD_cons_succ, List.getElem?_cons_zero, List.getElem?_cons_succ, List.map_cons, List.map_nil, List.length_cons, List.length_nil, List.cons_append, List.nil_append, Nat.zero_add, Nat.reduceAdd, List.length_map, Int.toNat_natCast, gI_encO, gS_encO, gS_encS]
  intro b1 b2 b3
  refine ⟨[.i (chk m)], rfl, fun _ w' hr => c_CheckB w' m v ((by first | exact hr.at_ 0 rfl | exact hr.at_ 1 rfl | exact hr.at_ 2 rfl | exact hr.at_ 3 rfl | exact hr.at_ 4 rfl | exact hr.at_ 5 rfl | exact hr.at_ 6 rfl | exact hr.at_ 7 rfl | exact hr.at_ 8 rfl | exact hr.at_ 9 rfl | exact hr.at_ 10 rfl | exact hr.at_ 11 rfl)) hb, ?_⟩
  simp only [Tree.goal, X.P, X.ev, V.toI_i, V.toB_b, V.toS_s, V.toR_r, V.toV_v, V.toN_n, V.toL_l, SV.ev, CV.ev, Sc.ev, List.getD_cons_zero, List.getD_cons_succ, List.getElem?_cons_zero, List.getElem?_cons_succ, List.map_cons, List.map_nil, List.length_cons, List.length_nil, List.cons_append, List.nil_append, Nat.zero_add, Nat.reduceAdd]
  refine ⟨fun h => ?_, fun h w' hr => ?_⟩
  · refine ⟨[.i (blkE b)], rfl, fun _ w' hr => c_block w' b, ?_⟩
    simp only [Tree.goal, X.P, X.ev, V.toI_i, V.toB_b, V.toS_s, V.toR_r, V.toV_v, V.toN_n, V.toL_l, SV.ev, CV.ev, Sc.ev, List.getD_cons_zero, List.getD_cons_succ, List.getElem?_cons_zero, List.getElem?_cons_succ, List.map_cons, List.map_nil, List.length_cons, List.length_nil, List.cons_append, List.nil_append, Nat.zero_add, Nat.reduceAdd]
    refine ⟨fun h1 w' hr => ?_, fun h1 => ?_⟩
    · rw [withBlockR, if_pos h, if_neg h1]
      exact gotM_nil hr.mod
    have h1 := Classical.not_not.1 h1
    have hbits := blkBits b h1
    refine ⟨fun vs => vs = [.i (blkN b)], ⟨fun h2 => ?_, fun h2 => ?_⟩, ?_⟩
    · rw [if_pos h2] at hbits; rw [← hbits]
    · rw [if_neg h2] at hbits; rw [← hbits]
    rintro _ - rfl
    simp only [Tree.goal, X.P, X.ev, V.toI_i, V.toB_b, V.toS_s, V.toR_r, V.toV_v, V.toN_n, V.toL_l, SV.ev, CV.ev, Sc.ev, List.getD_cons_zero, List.getD_cons_succ, List.getElem?_cons_zero, List.getElem?_cons_succ, List.map_cons, List.map_nil, List.length_cons, List.length_nil, List.cons_append, List.nil_append, Nat.zero_add, Nat.reduceAdd]
    intro w1 hr
    have hsz1 := hr.mod.size
    refine (c_WithUint w1 m v 23 (blkN b) ((by first | exact hr.at_ 0 rfl | exact hr.at_ 1 rfl | exact hr.at_ 2 rfl | exact hr.at_ 3 rfl | exact hr.at_ 4 rfl | exact hr.at_ 5 rfl | exact hr.at_ 6 rfl | exact hr.at_ 7 rfl | exact hr.at_ 8 rfl | exact hr.at_ 9 rfl | exact hr.at_ 10 rfl | exact hr.at_ 11 rfl)) hb).mono ?_
    rintro e w2 ⟨v', rfl, r1, f1, m1⟩
    refine ⟨mEV (withUintR m 23 (blkN b)) v', rfl, rfl, m1, List.forall_mem_nil _, List.forall_mem_cons.2 ⟨⟨r1, fun k hk => .inl (f1 k hk)⟩, List.forall_mem_nil _⟩, apart_one, ?_⟩
    clear hr r1 m1
    simp only [Tree.goal, X.P, X.ev, V.toI_i, V.toB_b, V.toS_s, V.toR_r, V.toV_v, V.toN_n, V.toL_l, SV.ev, CV.ev, Sc.ev, List.getD_cons_zero, List.getD_cons_succ, List.getElem?_cons_zero, List.getElem?_cons_succ, List.map_cons, List.map_nil, List.length_cons, List.length_nil, List.cons_append, List.nil_append, Nat.zero_add, Nat.reduceAdd, mEV]
    intro w3 hr
    rw [withBlockR, if_pos h, if_pos h1]
    exact ⟨v', rfl, hr.at_ 0 rfl, f1.mono hsz1, hr.mod⟩
  · rw [withBlockR, if_neg h]
    exact gotM_nil hr.mod

theorem noN_drop (n : Int) (os : List Opt) (i : Nat) (h : i < os.length) : noN n (os.drop i) = (if (os.getD i oD).1 = n then [] else [os.getD i oD]) ++ noN n (os.drop (i + 1)) := by
  rw [dropO os i h]
  generalize os.getD i oD = o
  by_cases h1 : o.1 = n <;> simp [noN, List.filter_cons, h1]
theorem noN_split (n : Int) (os : List Opt) (i : Nat) : noN n os = noN n (os.take i) ++ noN n (os.drop i) := by
  rw [noN, noN, noN, ← List.filter_append, List.take_append_drop]
theorem with_at {n : Int} {os : List Opt} {us : List (List UInt8)} {i : Nat} (h1 : ∀ j, j < i → (os.getD j oD).1 ≤ n) (h : i = os.length ∨ i < os.length ∧ n < (os.getD i oD).1) :
    noN n (os.take i) ++ us.map (fun x => ((n, x) : Opt)) ++ noN n (os.drop i) = withL os n us := by
  have hsp := noN_split n os i
  have hle : ∀ o ∈ noN n (os.take i), o.1 ≤ n := by
    intro o ho
    have ho := (List.mem_filter.1 ho).1
    obtain ⟨j, hj, rfl⟩ := List.getElem_of_mem ho
    simp only [List.length_take] at hj
    have := h1 j (by omega)
    rw [List.getD_eq_getElem?_getD, List.getElem?_eq_getElem (by omega)] at this
    rw [List.getElem_take]; exact this
  obtain ⟨e1, e2⟩ := split_at (n := n) (l := noN n os) (k := (noN n (os.take i)).length) (by rw [hsp, List.length_append]; omega)
    (fun j hj => by
      rw [hsp, List.getD_eq_getElem?_getD, List.getElem?_append_left hj, List.getElem?_eq_getElem hj]
      exact hle _ (List.getElem_mem _))
    (fun hj => by
      rcases h with h | ⟨h2, h3⟩
      · subst h; rw [hsp, List.drop_length] at hj; simp [noN] at hj
      · rw [hsp, noN_drop n os i h2, if_neg (by omega), List.getD_eq_getElem?_getD, List.getElem?_append_right (Nat.le_refl _), Nat.sub_self]
        exact h3)
  rw [withL, ← e1, ← e2]
  generalize noN n (os.drop i) = D at hsp
  rw [hsp, List.take_left, List.drop_left]
set_option maxHeartbeats 1000000 in
theorem c_WithOf (w : World) (m : Msg) (v u : Value) (n : Int) (us : List (List UInt8)) (hv : readsO w v m.opts) (hu : readsS w u us) (hb : bdM m) (hul : us.length < 1000000) :
    Calls Tryd.prog 32 #[mV m (sc1 v), .int .i64 n, sc1 u] w fun e w' => gotM w w' e (outR (withM m n us)) := by
  refine as_called (run_tree2 (ρ := [.i m.kind, .i m.code, .i m.id, .s m.tok, .v v, .r (m.opts.map encO), .s m.pay, .i n, .v u, .r (us.map encS)]) sxE_ok Tryd.func32 tree_dragomanref_WithOf rfl rfl (Rel.start2 (by simp [Ent.holds, Ent.wr, hv, hu, X.ev])) rfl rfl ?_) rfl
  simp only [Tree.goal, X.P, X.ev, V.toI_i, V.toB_b, V.toS_s, V.toR_r, V.toV_v, V.toN_n, V.toL_l, SV.ev, CV.ev, Sc.ev, List.getD_cons_zero, List.getD_cons_succ, List.getElem?_cons_zero, List.getElem?_cons_succ, List.map_cons, List.map_nil, List.length_cons, List.length_nil, List.cons_append, List.nil_append, Nat.zero_add, Nat.reduceAdd, List.length_map, Int.toNat_natCast, gI_encO, gS_encO, gS_encS]
  intro b1 b2 b3
  have hl := hb.1
  have hwl : withM m n us = { m with opts := withL m.opts n us } := rfl
  generalize hos : m.opts = os at hl ⊢
  refine ⟨fun vs => ∃ (p : Bool) (i : Nat) (x : Value) (A : List Opt), vs = [.b p, .i i, .i m.kind, .i m.code, .i m.id, .s m.tok, .v x, .r (A.map encO), .s m.pay] ∧ A.length ≤ i + us.length ∧ i ≤ os.length + 1 ∧
      ((p = false ∧ i ≤ os.length ∧ A = noN n (os.take i) ∧ ∀ j, j < i → (os.getD j oD).1 ≤ n) ∨ (p = true ∧ A ++ noN n (os.drop i) = withL os n us)), fun vs => (os.length + 1 - (vs.getD 1 (.i 0)).toI).toNat, ⟨false, 0, _, [], rfl, by simp, by omega, .inl ⟨rfl, by omega, by simp [noN], fun j hj => by omega⟩⟩, ?_⟩
  rintro _ - ⟨p, i, x, A, rfl, hAl, hi, hcase⟩
  simp only [Tree.goal, X.P, X.ev, V.toI_i, V.toB_b, V.toS_s, V.toR_r, V.toV_v, V.toN_n, V.toL_l, SV.ev, CV.ev, Sc.ev, List.getD_cons_zero, List.getD_cons_succ, List.getElem?_cons_zero, List.getElem?_cons_succ, List.map_cons, List.map_nil, List.length_cons, List.length_nil, List.cons_append, List.nil_append, Nat.zero_add, Nat.reduceAdd, List.length_map, Int.toNat_natCast, gI_encO, gS_encO, gS_encS]
  refine ⟨fun h1 => ⟨?_, ?_, fun h2 => ?_, fun h2 => ?_⟩, fun h1 => ?_⟩
  · exact .inr (by omega)
  · by_cases h : i < os.length
    · exact .inr (by omega)
    · exact .inl (fun h3 => h3.2 (by omega))
  · -- the values are put in
    obtain ⟨hp, hil, hA, hle⟩ : p = false ∧ i ≤ os.length ∧ A = noN n (os.take i) ∧ ∀ j, j < i → (os.getD j oD).1 ≤ n := by
      rcases hcase with h | ⟨h, -⟩
      · exact h
      · exact absurd h h2.1
    have hat := with_at (us := us) hle (by rcases h2.2 with h | h; (· exact .inl (by omega)); (· by_cases hlt : i < os.length; (· exact .inr ⟨hlt, h⟩); (· exact .inl (by omega))))
    rw [← hA] at hat
    refine ⟨fun vs => ∃ (k : Nat) (y : Value), vs = [.i k, .i m.kind, .i m.code, .i m.id, .s m.tok, .v y, .r ((A ++ (us.take k).map fun x => ((n, x) : Opt)).map encO), .s m.pay] ∧ k ≤ us.length, fun vs => (us.length - (vs.getD 0 (.i 0)).toI).toNat, ⟨0, x, by simp, by omega⟩, ?_⟩
    rintro _ - ⟨k, y, rfl, hk⟩
    simp only [Tree.goal, X.P, X.ev, V.toI_i, V.toB_b, V.toS_s, V.toR_r, V.toV_v, V.toN_n, V.toL_l, SV.ev, CV.ev, Sc.ev, List.getD_cons_zero, List.getD_cons_succ, List.getElem?_cons_zero, List.getElem?_cons_succ, List.map_cons, List.map_nil, List.length_cons, List.length_nil, List.cons_append, List.nil_append, Nat.zero_add, Nat.reduceAdd, List.length_map, Int.toNat_natCast, gI_encO, gS_encO, gS_encS]
    refine ⟨fun h3 => ?_, fun h3 => ?_⟩
    · (repeat refine ⟨by omega, ?_⟩)
      intro v2
      refine ⟨by simp; omega, fun v3 => ⟨by omega, by omega, ⟨k + 1, v3, ?_, by omega⟩, by omega⟩⟩
      rw [List.take_add_one, List.getElem?_eq_getElem (by omega), List.getD_eq_getElem?_getD, List.getElem?_eq_getElem (by omega)]
      simp only [Option.toList_some, List.map_append, List.map_cons, List.map_nil, List.append_assoc]
      rfl
    · have : k = us.length := by omega
      subst this
      rw [List.take_length]
      have hlen : (A ++ us.map fun x => ((n, x) : Opt)).length ≤ i + us.length := by
        have := congrArg List.length hA
        have h5 := noN_len n (os.take i)
        simp only [List.length_take] at h5
        simp only [List.length_append, List.length_map]; omega
      generalize hB : A ++ us.map (fun x => ((n, x) : Opt)) = B at hat hlen ⊢
      refine ⟨by omega, by by_cases h : i < os.length; (· exact .inr (by omega)); (· exact .inl (by omega)), fun h4 => ?_, fun h4 => ?_⟩
      · refine ⟨by omega, fun v4 => ⟨by simp; omega, fun v5 => ⟨by omega, by omega, ⟨true, i + 1, v5, B ++ [os.getD i oD], ?_, by simp; omega, by omega, .inr ⟨rfl, ?_⟩⟩, by omega⟩⟩⟩
        · simp [encO]
        · rw [noN_drop n os i (by omega), if_neg h4.2] at hat
          rw [← hat]; simp
      · refine ⟨by omega, by omega, ⟨true, i + 1, _, B, rfl, by omega, by omega, .inr ⟨rfl, ?_⟩⟩, by omega⟩
        by_cases hlt : i < os.length
        · rw [noN_drop n os i hlt, if_pos (Classical.byContradiction fun h5 => h4 ⟨by omega, h5⟩)] at hat
          exact hat
        · rw [List.drop_of_length_le (by omega)] at hat ⊢
          exact hat
  · -- on
    have hstep : ∀ (Bo : List Opt), (if (os.getD i oD).1 = n then [] else [os.getD i oD]) = Bo → i < os.length → ((p = false ∧ i + 1 ≤ os.length ∧ A ++ Bo = noN n (os.take (i + 1)) ∧ ∀ j, j < i + 1 → (os.getD j oD).1 ≤ n) ∨ (p = true ∧ (A ++ Bo) ++ noN n (os.drop (i + 1)) = withL os n us)) := by
      intro Bo hBo hlt
      rcases hcase with ⟨hp, hil, hA, hle⟩ | ⟨hp, hA⟩
      · refine .inl ⟨hp, by omega, by rw [noN_snoc n os i hlt, ← hA, hBo], fun j hj => ?_⟩
        by_cases hji : j = i
        · subst hji
          exact Classical.byContradiction fun h => h2 ⟨by rw [hp]; simp, .inr (by omega)⟩
        · exact hle j (by omega)
      · refine .inr ⟨hp, ?_⟩
        rw [← hA, noN_drop n os i hlt, hBo, List.append_assoc]
    refine ⟨by omega, by by_cases h : i < os.length; (· exact .inr (by omega)); (· exact .inl (by omega)), fun h4 => ?_, fun h4 => ?_⟩
    · have := hstep _ rfl (by omega)
      rw [if_neg h4.2] at this
      refine ⟨by omega, fun v4 => ⟨by simp; omega, fun v5 => ⟨by omega, by omega, ⟨p, i + 1, v5, A ++ [os.getD i oD], ?_, by simp; omega, by omega, this⟩, by omega⟩⟩⟩
      simp [encO]
    · refine ⟨by omega, by omega, ⟨p, i + 1, x, A, rfl, by omega, by omega, ?_⟩, by omega⟩
      by_cases hlt : i < os.length
      · have := hstep _ rfl hlt
        rw [if_pos (Classical.byContradiction fun h5 => h4 ⟨by omega, h5⟩), List.append_nil] at this
        exact this
      · rcases hcase with ⟨hp, hil, hA, hle⟩ | ⟨hp, hA⟩
        · exact absurd ⟨by rw [hp]; simp, .inl (by omega)⟩ h2
        · refine .inr ⟨hp, ?_⟩
          rw [List.drop_of_length_le (by omega)] at hA ⊢
          exact hA
  · have hie : i = os.length + 1 := by omega
    have hA : A = withL os n us := by
      rcases hcase with ⟨-, h, -⟩ | ⟨-, h⟩
      · omega
      · rw [List.drop_of_length_le (by omega)] at h
        simpa [noN] using h
    have hchk : withM m n us = { m with opts := A } := by rw [hwl, hA, hos]
    rw [hchk]
    refine ⟨[.i (chk { m with opts := A })], rfl, fun _ w' hr => c_CheckMessage w' { m with opts := A } x (owns.reads ((by first | exact hr.at_ 0 rfl | exact hr.at_ 1 rfl | exact hr.at_ 2 rfl | exact hr.at_ 3 rfl | exact hr.at_ 4 rfl | exact hr.at_ 5 rfl | exact hr.at_ 6 rfl | exact hr.at_ 7 rfl | exact hr.at_ 8 rfl | exact hr.at_ 9 rfl | exact hr.at_ 10 rfl | exact hr.at_ 11 rfl))) (by show A.length < _; omega), ?_⟩
    simp only [Tree.goal, X.P, X.ev, V.toI_i, V.toB_b, V.toS_s, V.toR_r, V.toV_v, V.toN_n, V.toL_l, SV.ev, CV.ev, Sc.ev, List.getD_cons_zero, List.getD_cons_succ, List.getElem?_cons_zero, List.getElem?_cons_succ, List.map_cons, List.map_nil, List.length_cons, List.length_nil, List.cons_append, List.nil_append, Nat.zero_add, Nat.reduceAdd]
    refine ⟨fun h3 w' hr => ?_, fun h3 w' hr => ?_⟩
    · rw [outR, if_neg h3]
      exact gotM_nil hr.mod
    · have h3 := Classical.not_not.1 h3
      rw [outR, if_pos h3, h3]
      refine ⟨x, rfl, owns.reads ((by first | exact hr.at_ 0 rfl | exact hr.at_ 1 rfl | exact hr.at_ 2 rfl | exact hr.at_ 3 rfl | exact hr.at_ 4 rfl | exact hr.at_ 5 rfl | exact hr.at_ 6 rfl | exact hr.at_ 7 rfl | exact hr.at_ 8 rfl | exact hr.at_ 9 rfl | exact hr.at_ 10 rfl | exact hr.at_ 11 rfl)), fun k hk => ?_, hr.mod⟩
      exact hr.fresh 5 rfl k hk.2
end Go.Proofs.YtliedecinehijaaDoor

/-
  Options: bare, messageIs, optionBegun; the law OptionTwice, walked. By an AI agent.
-/
set_option linter.unusedSimpArgs false
set_option linter.unusedVariables false
namespace Go.Proofs.YtliedecinehijaaDoor
open Go.Sx

def bareM (m : Msg) (n : Int) : Msg := { m with opts := noN n m.opts }
theorem c_bare (w : World) (m : Msg) (v : Value) (n : Int) (hv : readsO w v m.opts) (hl : m.opts.length < 1000000000) :
    Calls Tryd.prog 37 #[mV m (sc1 v), .int .i64 n] w fun e w' => ∃ v', e = .returned (mV (bareM m n) (sc1 v')) ∧ readsO w' v' (noN n m.opts) ∧ freshO w.heap.size v' (noN n m.opts) ∧ Mod [] w w' := by
  refine as_called (run_tree2 (ρ := [.i m.kind, .i m.code, .i m.id, .s m.tok, .v v, .r (m.opts.map encO), .s m.pay, .i n]) sxE_ok Tryd.func37 tree_dragomanlaw_bare rfl rfl (Rel.start2 (by simp [Ent.holds, Ent.wr, hv, X.ev])) rfl rfl ?_) rfl
  simp only [Tree.goal, X.P, X.ev, V.toI_i, V.toB_b, V.toS_s, V.toR_r, V.toV_v, V.toN_n, V.toL_l, SV.ev, CV.ev, Sc.ev, List.getD_cons_zero, List.getD_cons_succ, List.getElem?_cons_zero, List.getElem?_cons_succ, List.map_cons, List.map_nil, List.length_cons, List.length_nil, List.cons_append, List.nil_append, Nat.zero_add, Nat.reduceAdd, List.length_map, Int.toNat_natCast, gI_encO, gS_encO, gS_encS]
  intro b1 b2 b3
  have hwl : ∀ A, mV (bareM m n) A = .agg #[.int .i64 m.kind, .int .i64 m.code, .int .i64 m.id, .string ⟨m.tok.toArray⟩, A, .string ⟨m.pay.toArray⟩] := fun A => rfl
  simp only [hwl]
  generalize hos : m.opts = os at hl ⊢
  refine ⟨fun vs => ∃ (i : Nat) (x : Value), vs = [.i i, .i m.kind, .i m.code, .i m.id, .s m.tok, .v x, .r ((noN n (os.take i)).map encO), .s m.pay] ∧ i ≤ os.length, fun vs => (os.length - (vs.getD 0 (.i 0)).toI).toNat, ⟨0, _, rfl, by omega⟩, ?_⟩
  rintro _ - ⟨i, x, rfl, hi⟩
  simp only [Tree.goal, X.P, X.ev, V.toI_i, V.toB_b, V.toS_s, V.toR_r, V.toV_v, V.toN_n, V.toL_l, SV.ev, CV.ev, Sc.ev, List.getD_cons_zero, List.getD_cons_succ, List.getElem?_cons_zero, List.getElem?_cons_succ, List.map_cons, List.map_nil, List.length_cons, List.length_nil, List.cons_append, List.nil_append, Nat.zero_add, Nat.reduceAdd, List.length_map, Int.toNat_natCast, gI_encO, gS_encO, gS_encS]
  refine ⟨fun h1 => ?_, fun h1 w' hr => ?_⟩
  · have hs := noN_snoc n os i (by omega)
    have hln := noN_len n (os.take i)
    simp only [List.length_take] at hln
    (repeat refine ⟨by omega, ?_⟩)
    refine ⟨fun h2 v1 => ⟨by simp; omega, fun v2 => ⟨by omega, by omega, ⟨i + 1, v2, ?_, by omega⟩, by omega⟩⟩, fun h2 => ⟨by omega, by omega, ⟨i + 1, x, ?_, by omega⟩, by omega⟩⟩
    · rw [hs, if_neg h2]
      simp [encO]
    · rw [hs, if_pos (Classical.not_not.1 h2), List.append_nil]; rfl
  · have : i = os.length := by omega
    subst this
    rw [List.take_length] at hr
    exact ⟨x, rfl, owns.reads ((by first | exact hr.at_ 0 rfl | exact hr.at_ 1 rfl | exact hr.at_ 2 rfl | exact hr.at_ 3 rfl | exact hr.at_ 4 rfl | exact hr.at_ 5 rfl | exact hr.at_ 6 rfl | exact hr.at_ 7 rfl | exact hr.at_ 8 rfl | exact hr.at_ 9 rfl | exact hr.at_ 10 rfl | exact hr.at_ 11 rfl)), fun k hk => hr.fresh 4 rfl k hk.2, hr.mod⟩

theorem sameTrue (m : Msg) : decide (m.kind = m.kind ∧ m.code = m.code ∧ m.id = m.id ∧ m.tok = m.tok ∧ m.pay = m.pay ∧ m.opts = m.opts) = true := by simp
theorem c_sameT (w : World) (m : Msg) (u v : Value) (hu : readsO w u m.opts) (hv : readsO w v m.opts) (hl : m.opts.length < 1000000000) : Calls Tryd.prog 20 #[mV m (sc1 u), mV m (sc1 v)] w
    fun e w' => e = .returned (.bool true) ∧ Mod [] w w' := by
  have := c_SameMessage w m m u v hu hv (by omega)
  rw [sameTrue] at this
  exact this
theorem c_messageIs (w : World) (r : Msg × Int) (q : Msg) (v u : Value) (hv : readsO w v r.1.opts) (hu : readsO w u q.opts) (hl : r.1.opts.length < 1000000000) (hq : r.2 = 0 → q = r.1) (hz : r.2 ≠ 0 → r.1 = mNil) :
    Calls Tryd.prog 36 #[mV r.1 (sc1 v), .int .i64 r.2, .int .i64 r.2, mV q (sc1 u)] w fun e w' => e = .returned (.bool true) ∧ Mod [] w w' := by
  refine as_called (run_tree2 (ρ := [.i r.1.kind, .i r.1.code, .i r.1.id, .s r.1.tok, .v v, .r (r.1.opts.map encO), .s r.1.pay, .i r.2, .i r.2, .i q.kind, .i q.code, .i q.id, .s q.tok, .v u, .r (q.opts.map encO), .s q.pay]) sxE_ok Tryd.func36 tree_dragomanlaw_messageIs rfl rfl (Rel.start2 (by simp [Ent.holds, Ent.wr, hv, hu, X.ev])) rfl rfl ?_) rfl
  simp only [Tree.goal, X.P, X.ev, V.toI_i, V.toB_b, V.toS_s, V.toR_r, V.toV_v, V.toN_n, V.toL_l, SV.ev, CV.ev, Sc.ev, List.getD_cons_zero, List.getD_cons_succ, List.getElem?_cons_zero, List.getElem?_cons_succ, List.map_cons, List.map_nil, List.length_cons, List.length_nil, List.cons_append, List.nil_append, Nat.zero_add, Nat.reduceAdd, List.length_map, Int.toNat_natCast, gI_encO, gS_encO, gS_encS]
  intro b1 b2
  refine ⟨fun h => ?_, fun h => ?_⟩
  · have e := hz h
    refine ⟨[.b true], rfl, fun _ w' hr => ?_, ?_⟩
    · have h1 : readsO w' v r.1.opts := (by first | exact hr.at_ 0 rfl | exact hr.at_ 1 rfl | exact hr.at_ 2 rfl | exact hr.at_ 3 rfl | exact hr.at_ 4 rfl | exact hr.at_ 5 rfl | exact hr.at_ 6 rfl | exact hr.at_ 7 rfl | exact hr.at_ 8 rfl | exact hr.at_ 9 rfl | exact hr.at_ 10 rfl | exact hr.at_ 11 rfl)
      rw [e] at h1 ⊢
      exact c_sameT w' mNil v (.slice none 0 0) h1 (readsO_nil _) (by decide)
    · simp only [Tree.goal, X.P, X.ev, V.toI_i, V.toB_b, V.toS_s, V.toR_r, V.toV_v, V.toN_n, V.toL_l, SV.ev, CV.ev, Sc.ev, List.getD_cons_zero, List.getD_cons_succ, List.getElem?_cons_zero, List.getElem?_cons_succ, List.map_cons, List.map_nil, List.length_cons, List.length_nil, List.cons_append, List.nil_append, Nat.zero_add, Nat.reduceAdd]
      exact fun w' hr => ⟨by simp, hr.mod⟩
  · have h := Classical.not_not.1 h
    have e := hq h
    refine ⟨[.b true], rfl, fun _ w' hr => ?_, ?_⟩
    · have h1 : readsO w' v r.1.opts := (by first | exact hr.at_ 0 rfl | exact hr.at_ 1 rfl | exact hr.at_ 2 rfl | exact hr.at_ 3 rfl | exact hr.at_ 4 rfl | exact hr.at_ 5 rfl | exact hr.at_ 6 rfl | exact hr.at_ 7 rfl | exact hr.at_ 8 rfl | exact hr.at_ 9 rfl | exact hr.at_ 10 rfl | exact hr.at_ 11 rfl)
      have h2 : readsO w' u q.opts := (by first | exact hr.at_ 0 rfl | exact hr.at_ 1 rfl | exact hr.at_ 2 rfl | exact hr.at_ 3 rfl | exact hr.at_ 4 rfl | exact hr.at_ 5 rfl | exact hr.at_ 6 rfl | exact hr.at_ 7 rfl | exact hr.at_ 8 rfl | exact hr.at_ 9 rfl | exact hr.at_ 10 rfl | exact hr.at_ 11 rfl)
      rw [e] at h2 ⊢
      exact c_sameT w' r.1 v u h1 h2 hl
    · simp only [Tree.goal, X.P, X.ev, V.toI_i, V.toB_b, V.toS_s, V.toR_r, V.toV_v, V.toN_n, V.toL_l, SV.ev, CV.ev, Sc.ev, List.getD_cons_zero, List.getD_cons_succ, List.getElem?_cons_zero, List.getElem?_cons_succ, List.map_cons, List.map_nil, List.length_cons, List.length_nil, List.cons_append, List.nil_append, Nat.zero_add, Nat.reduceAdd]
      exact fun w' hr => ⟨by simp, hr.mod⟩

theorem bd_get : bdM mGet := ⟨by decide, by decide, by decide⟩
theorem og1 : pathR mGet = ([97, 47, 98], 0) := by decide +kernel
theorem og2 : (withPathR mGet [120, 47, 121, 47, 122]).2 = 0 ∧ (withPathR mGet [120, 47, 121, 47, 122]).1.opts.length = 4 := by decide +kernel
theorem og3 : uintR mGet 6 = (0, 0) := by decide +kernel
theorem og4 : (withUintR mGet 6 300).2 = 0 := by decide +kernel
theorem og5 : uintR (withUintR mGet 6 300).1 6 = (300, 0) := by decide +kernel
theorem og6 : (withBlockR mGet (3, true, 2)).2 = 0 := by decide +kernel
theorem og7 : blockR (withBlockR mGet (3, true, 2)).1 = ((3, true, 2), 0) := by decide +kernel
theorem og8 : (withUintR mGet 6 300).1.opts.length < 1000000000 ∧ (withUintR mGet 6 300).1.tok.length < 1099511627776 ∧ (withUintR mGet 6 300).1.pay.length < 1099511627776 := by decide +kernel
theorem og9 : (withBlockR mGet (3, true, 2)).1.opts.length < 1000000000 ∧ (withBlockR mGet (3, true, 2)).1.tok.length < 1099511627776 ∧ (withBlockR mGet (3, true, 2)).1.pay.length < 1099511627776 := by decide +kernel
set_option maxHeartbeats 2000000 in
set_option maxRecDepth 10000 in
theorem c_optionBegun (w : World) : Calls Tryd.prog 18 #[] w fun e w' => e = .returned (.bool true) ∧ Mod [] w w' := by
  refine as_called (run_plain2 (ρ := []) sxE_ok Tryd.func18 tree_dragomanlaw_optionBegun rfl rfl rfl ?_) rfl
  simp only [Tree.goal, X.P, X.ev, V.toI_i, V.toB_b, V.toS_s, V.toR_r, V.toV_v, V.toN_n, V.toL_l, SV.ev, CV.ev, Sc.ev, List.getD_cons_zero, List.getD_cons_succ, List.getElem?_cons_zero, List.getElem?_cons_succ, List.map_cons, List.map_nil, List.length_cons, List.length_nil, List.cons_append, List.nil_append, Nat.zero_add, Nat.reduceAdd]
  intro w1 hr
  refine (c_get w1).mono ?_
  rintro e w2 ⟨v1, rfl, r1, f1, m1⟩
  refine ⟨mVs mGet v1, rfl, rfl, m1, List.forall_mem_nil _, List.forall_mem_cons.2 ⟨⟨r1, fun k hk => .inl (f1 k hk)⟩, List.forall_mem_nil _⟩, apart_one, ?_⟩
  clear hr r1 f1 m1
  simp only [Tree.goal, X.P, X.ev, V.toI_i, V.toB_b, V.toS_s, V.toR_r, V.toV_v, V.toN_n, V.toL_l, SV.ev, CV.ev, Sc.ev, List.getD_cons_zero, List.getD_cons_succ, List.getElem?_cons_zero, List.getElem?_cons_succ, List.map_cons, List.map_nil, List.length_cons, List.length_nil, List.cons_append, List.nil_append, Nat.zero_add, Nat.reduceAdd, mVs]
  refine ⟨[.s (pathR mGet).1, .i (pathR mGet).2], rfl, fun _ w' hr => c_Path w' mGet v1 ((by first | exact hr.at_ 0 rfl | exact hr.at_ 1 rfl | exact hr.at_ 2 rfl | exact hr.at_ 3 rfl | exact hr.at_ 4 rfl | exact hr.at_ 5 rfl | exact hr.at_ 6 rfl | exact hr.at_ 7 rfl | exact hr.at_ 8 rfl | exact hr.at_ 9 rfl | exact hr.at_ 10 rfl | exact hr.at_ 11 rfl)) bd_get, ?_⟩
  simp only [Tree.goal, X.P, X.ev, V.toI_i, V.toB_b, V.toS_s, V.toR_r, V.toV_v, V.toN_n, V.toL_l, SV.ev, CV.ev, Sc.ev, List.getD_cons_zero, List.getD_cons_succ, List.getElem?_cons_zero, List.getElem?_cons_succ, List.map_cons, List.map_nil, List.length_cons, List.length_nil, List.cons_append, List.nil_append, Nat.zero_add, Nat.reduceAdd]
  intro w1 hr
  refine (c_get w1).mono ?_
  rintro e w2 ⟨v2, rfl, r1, f1, m1⟩
  refine ⟨mVs mGet v2, rfl, rfl, m1, List.forall_mem_nil _, List.forall_mem_cons.2 ⟨⟨r1, fun k hk => .inl (f1 k hk)⟩, List.forall_mem_nil _⟩, apart_one, ?_⟩
  clear hr r1 f1 m1
  simp only [Tree.goal, X.P, X.ev, V.toI_i, V.toB_b, V.toS_s, V.toR_r, V.toV_v, V.toN_n, V.toL_l, SV.ev, CV.ev, Sc.ev, List.getD_cons_zero, List.getD_cons_succ, List.getElem?_cons_zero, List.getElem?_cons_succ, List.map_cons, List.map_nil, List.length_cons, List.length_nil, List.cons_append, List.nil_append, Nat.zero_add, Nat.reduceAdd, mVs]
  intro w1 hr
  refine (c_WithPath w1 mGet v2 [120, 47, 121, 47, 122] ((by first | exact hr.at_ 0 rfl | exact hr.at_ 1 rfl | exact hr.at_ 2 rfl | exact hr.at_ 3 rfl | exact hr.at_ 4 rfl | exact hr.at_ 5 rfl | exact hr.at_ 6 rfl | exact hr.at_ 7 rfl | exact hr.at_ 8 rfl | exact hr.at_ 9 rfl | exact hr.at_ 10 rfl | exact hr.at_ 11 rfl)) bd_get (by decide)).mono ?_
  rintro e w2 ⟨v3, rfl, r1, f1, m1⟩
  refine ⟨mEV (withPathR mGet [120, 47, 121, 47, 122]) v3, rfl, rfl, m1, List.forall_mem_nil _, List.forall_mem_cons.2 ⟨⟨r1, fun k hk => .inl (f1 k hk)⟩, List.forall_mem_nil _⟩, apart_one, ?_⟩
  clear hr r1 f1 m1
  simp only [Tree.goal, X.P, X.ev, V.toI_i, V.toB_b, V.toS_s, V.toR_r, V.toV_v, V.toN_n, V.toL_l, SV.ev, CV.ev, Sc.ev, List.getD_cons_zero, List.getD_cons_succ, List.getElem?_cons_zero, List.getElem?_cons_succ, List.map_cons, List.map_nil, List.length_cons, List.length_nil, List.cons_append, List.nil_append, Nat.zero_add, Nat.reduceAdd, mEV]
  intro b1 w1 hr
  refine (c_get w1).mono ?_
  rintro e w2 ⟨v4, rfl, r1, f1, m1⟩
  refine ⟨mVs mGet v4, rfl, rfl, m1, List.forall_mem_nil _, List.forall_mem_cons.2 ⟨⟨r1, fun k hk => .inl (f1 k hk)⟩, List.forall_mem_nil _⟩, apart_one, ?_⟩
  clear hr r1 f1 m1
  simp only [Tree.goal, X.P, X.ev, V.toI_i, V.toB_b, V.toS_s, V.toR_r, V.toV_v, V.toN_n, V.toL_l, SV.ev, CV.ev, Sc.ev, List.getD_cons_zero, List.getD_cons_succ, List.getElem?_cons_zero, List.getElem?_cons_succ, List.map_cons, List.map_nil, List.length_cons, List.length_nil, List.cons_append, List.nil_append, Nat.zero_add, Nat.reduceAdd, mVs]
  refine ⟨[.i (uintR mGet 6).1, .i (uintR mGet 6).2], rfl, fun _ w' hr => c_Uint w' mGet v4 6 ((by first | exact hr.at_ 0 rfl | exact hr.at_ 1 rfl | exact hr.at_ 2 rfl | exact hr.at_ 3 rfl | exact hr.at_ 4 rfl | exact hr.at_ 5 rfl | exact hr.at_ 6 rfl | exact hr.at_ 7 rfl | exact hr.at_ 8 rfl | exact hr.at_ 9 rfl | exact hr.at_ 10 rfl | exact hr.at_ 11 rfl)) bd_get, ?_⟩
  simp only [Tree.goal, X.P, X.ev, V.toI_i, V.toB_b, V.toS_s, V.toR_r, V.toV_v, V.toN_n, V.toL_l, SV.ev, CV.ev, Sc.ev, List.getD_cons_zero, List.getD_cons_succ, List.getElem?_cons_zero, List.getElem?_cons_succ, List.map_cons, List.map_nil, List.length_cons, List.length_nil, List.cons_append, List.nil_append, Nat.zero_add, Nat.reduceAdd]
  intro w1 hr
  refine (c_get w1).mono ?_
  rintro e w2 ⟨v5, rfl, r1, f1, m1⟩
  refine ⟨mVs mGet v5, rfl, rfl, m1, List.forall_mem_nil _, List.forall_mem_cons.2 ⟨⟨r1, fun k hk => .inl (f1 k hk)⟩, List.forall_mem_nil _⟩, apart_one, ?_⟩
  clear hr r1 f1 m1
  simp only [Tree.goal, X.P, X.ev, V.toI_i, V.toB_b, V.toS_s, V.toR_r, V.toV_v, V.toN_n, V.toL_l, SV.ev, CV.ev, Sc.ev, List.getD_cons_zero, List.getD_cons_succ, List.getElem?_cons_zero, List.getElem?_cons_succ, List.map_cons, List.map_nil, List.length_cons, List.length_nil, List.cons_append, List.nil_append, Nat.zero_add, Nat.reduceAdd, mVs]
  intro w1 hr
  refine (c_WithUint w1 mGet v5 6 300 ((by first | exact hr.at_ 0 rfl | exact hr.at_ 1 rfl | exact hr.at_ 2 rfl | exact hr.at_ 3 rfl | exact hr.at_ 4 rfl | exact hr.at_ 5 rfl | exact hr.at_ 6 rfl | exact hr.at_ 7 rfl | exact hr.at_ 8 rfl | exact hr.at_ 9 rfl | exact hr.at_ 10 rfl | exact hr.at_ 11 rfl)) bd_get).mono ?_
  rintro e w2 ⟨v6, rfl, r1, f1, m1⟩
  refine ⟨mEV (withUintR mGet 6 300) v6, rfl, rfl, m1, List.forall_mem_nil _, List.forall_mem_cons.2 ⟨⟨r1, fun k hk => .inl (f1 k hk)⟩, List.forall_mem_nil _⟩, apart_one, ?_⟩
  clear hr r1 f1 m1
  simp only [Tree.goal, X.P, X.ev, V.toI_i, V.toB_b, V.toS_s, V.toR_r, V.toV_v, V.toN_n, V.toL_l, SV.ev, CV.ev, Sc.ev, List.getD_cons_zero, List.getD_cons_succ, List.getElem?_cons_zero, List.getElem?_cons_succ, List.map_cons, List.map_nil, List.length_cons, List.length_nil, List.cons_append, List.nil_append, Nat.zero_add, Nat.reduceAdd, mEV]
  intro b2
  refine ⟨[.i (uintR (withUintR mGet 6 300).1 6).1, .i (uintR (withUintR mGet 6 300).1 6).2], rfl, fun _ w' hr => c_Uint w' (withUintR mGet 6 300).1 v6 6 ((by first | exact hr.at_ 0 rfl | exact hr.at_ 1 rfl | exact hr.at_ 2 rfl | exact hr.at_ 3 rfl | exact hr.at_ 4 rfl | exact hr.at_ 5 rfl | exact hr.at_ 6 rfl | exact hr.at_ 7 rfl | exact hr.at_ 8 rfl | exact hr.at_ 9 rfl | exact hr.at_ 10 rfl | exact hr.at_ 11 rfl)) og8, ?_⟩
  simp only [Tree.goal, X.P, X.ev, V.toI_i, V.toB_b, V.toS_s, V.toR_r, V.toV_v, V.toN_n, V.toL_l, SV.ev, CV.ev, Sc.ev, List.getD_cons_zero, List.getD_cons_succ, List.getElem?_cons_zero, List.getElem?_cons_succ, List.map_cons, List.map_nil, List.length_cons, List.length_nil, List.cons_append, List.nil_append, Nat.zero_add, Nat.reduceAdd]
  intro w1 hr
  refine (c_get w1).mono ?_
  rintro e w2 ⟨v7, rfl, r1, f1, m1⟩
  refine ⟨mVs mGet v7, rfl, rfl, m1, List.forall_mem_nil _, List.forall_mem_cons.2 ⟨⟨r1, fun k hk => .inl (f1 k hk)⟩, List.forall_mem_nil _⟩, apart_one, ?_⟩
  clear hr r1 f1 m1
  simp only [Tree.goal, X.P, X.ev, V.toI_i, V.toB_b, V.toS_s, V.toR_r, V.toV_v, V.toN_n, V.toL_l, SV.ev, CV.ev, Sc.ev, List.getD_cons_zero, List.getD_cons_succ, List.getElem?_cons_zero, List.getElem?_cons_succ, List.map_cons, List.map_nil, List.length_cons, List.length_nil, List.cons_append, List.nil_append, Nat.zero_add, Nat.reduceAdd, mVs]
  intro w1 hr
  refine (c_WithBlock w1 mGet v7 (3, true, 2) ((by first | exact hr.at_ 0 rfl | exact hr.at_ 1 rfl | exact hr.at_ 2 rfl | exact hr.at_ 3 rfl | exact hr.at_ 4 rfl | exact hr.at_ 5 rfl | exact hr.at_ 6 rfl | exact hr.at_ 7 rfl | exact hr.at_ 8 rfl | exact hr.at_ 9 rfl | exact hr.at_ 10 rfl | exact hr.at_ 11 rfl)) bd_get).mono ?_
  rintro e w2 ⟨v8, rfl, r1, f1, m1⟩
  refine ⟨mEV (withBlockR mGet (3, true, 2)) v8, rfl, rfl, m1, List.forall_mem_nil _, List.forall_mem_cons.2 ⟨⟨r1, fun k hk => .inl (f1 k hk)⟩, List.forall_mem_nil _⟩, apart_one, ?_⟩
  clear hr r1 f1 m1
  simp only [Tree.goal, X.P, X.ev, V.toI_i, V.toB_b, V.toS_s, V.toR_r, V.toV_v, V.toN_n, V.toL_l, SV.ev, CV.ev, Sc.ev, List.getD_cons_zero, List.getD_cons_succ, List.getElem?_cons_zero, List.getElem?_cons_succ, List.map_cons, List.map_nil, List.length_cons, List.length_nil, List.cons_append, List.nil_append, Nat.zero_add, Nat.reduceAdd, mEV]
  intro b3
  refine ⟨[.i (blockR (withBlockR mGet (3, true, 2)).1).1.1, .b (blockR (withBlockR mGet (3, true, 2)).1).1.2.1, .i (blockR (withBlockR mGet (3, true, 2)).1).1.2.2, .i (blockR (withBlockR mGet (3, true, 2)).1).2], rfl, fun _ w' hr => c_Block w' (withBlockR mGet (3, true, 2)).1 v8 ((by first | exact hr.at_ 0 rfl | exact hr.at_ 1 rfl | exact hr.at_ 2 rfl | exact hr.at_ 3 rfl | exact hr.at_ 4 rfl | exact hr.at_ 5 rfl | exact hr.at_ 6 rfl | exact hr.at_ 7 rfl | exact hr.at_ 8 rfl | exact hr.at_ 9 rfl | exact hr.at_ 10 rfl | exact hr.at_ 11 rfl)) og9, ?_⟩
  simp only [Tree.goal, X.P, X.ev, V.toI_i, V.toB_b, V.toS_s, V.toR_r, V.toV_v, V.toN_n, V.toL_l, SV.ev, CV.ev, Sc.ev, List.getD_cons_zero, List.getD_cons_succ, List.getElem?_cons_zero, List.getElem?_cons_succ, List.map_cons, List.map_nil, List.length_cons, List.length_nil, List.cons_append, List.nil_append, Nat.zero_add, Nat.reduceAdd]
  intro b4 w' hr
  refine ⟨?_, hr.mod⟩
  rw [og1, og2.1, List.length_map, og2.2, og3, og4, og5, og6, og7]
  rfl
end Go.Proofs.YtliedecinehijaaDoor

/-
  The law OptionTwice, walked. By an AI agent.
-/
set_option linter.unusedSimpArgs false
set_option linter.unusedVariables false
namespace Go.Proofs.YtliedecinehijaaDoor
open Go.Sx

theorem outR_cases (m : Msg) : (chk m = 0 ∧ outR m = (m, 0)) ∨ (chk m ≠ 0 ∧ outR m = (mNil, chk m)) := by
  unfold outR
  by_cases h : chk m = 0
  · exact .inl ⟨h, if_pos h⟩
  · exact .inr ⟨h, if_neg h⟩
theorem withUint_no {m : Msg} {n x : Int} (h : (withUintR m n x).2 ≠ 0) : (withUintR m n x).1 = mNil := by
  unfold withUintR at h ⊢
  split
  · rename_i h0
    rw [if_pos h0] at h
    split
    · rename_i h1
      rw [if_pos h1] at h
      rcases outR_cases (withM m n [shortB x]) with ⟨-, e⟩ | ⟨-, e⟩
      · rw [e] at h; exact absurd rfl h
      · rw [e]
    · rfl
  · rfl
theorem bd_chk {m : Msg} (h : chk m = 0) : bdM m := by
  have := (chk_ok.1 h).2.2.1
  exact ⟨by omega, by omega, by omega⟩
theorem withUint_bd {m : Msg} {n x : Int} : bdM (withUintR m n x).1 := by
  by_cases h : (withUintR m n x).2 = 0
  · obtain ⟨-, -, h3, h4⟩ := withUint_ok h
    rw [h4]; exact bd_chk h3
  · rw [withUint_no h]; exact ⟨by decide, by decide, by decide⟩
theorem withM_withM (m : Msg) (n : Int) (a b : List (List UInt8)) : withM (withM m n a) n b = withM m n b := by
  simp only [withM, with_with]
theorem withUint_twice {m : Msg} {n a b : Int} (h : (withUintR m n a).2 = 0) : withUintR (withUintR m n a).1 n b = withUintR m n b := by
  obtain ⟨h1, h2, h3, h4⟩ := withUint_ok h
  rw [h4]
  simp only [withUintR, if_pos h1, if_pos h3, withM_withM]
set_option maxHeartbeats 2000000 in
set_option maxRecDepth 10000 in
theorem c_OptionTwice (w : World) (m : Msg) (v : Value) (n a b : Int) (hv : readsO w v m.opts) (hb : bdM m) :
    Calls Tryd.prog 7 #[mV m (sc1 v), .int .i64 n, .int .i64 a, .int .i64 b] w fun e w' => e = .returned (.bool true) ∧ Mod [] w w' := by
  refine as_called (run_tree2 (ρ := [.i m.kind, .i m.code, .i m.id, .s m.tok, .v v, .r (m.opts.map encO), .s m.pay, .i n, .i a, .i b]) (sxE_ok.joins _) Tryd.func7 tree_dragomanlaw_OptionTwice rfl rfl (Rel.start2 (by simp [Ent.holds, Ent.wr, hv, X.ev])) rfl rfl ?_) rfl
  simp only [Tree.goal, X.P, X.ev, V.toI_i, V.toB_b, V.toS_s, V.toR_r, V.toV_v, V.toN_n, V.toL_l, SV.ev, CV.ev, Sc.ev, List.getD_cons_zero, List.getD_cons_succ, List.getElem?_cons_zero, List.getElem?_cons_succ, List.map_cons, List.map_nil, List.length_cons, List.length_nil, List.cons_append, List.nil_append, Nat.zero_add, Nat.reduceAdd, List.length_map, Int.toNat_natCast, gI_encO, gS_encO, gS_encS]
  intro b1
  refine ⟨[.b true], rfl, fun _ w' _ => c_optionBegun w', ?_⟩
  simp only [Tree.goal, X.P, X.ev, V.toI_i, V.toB_b, V.toS_s, V.toR_r, V.toV_v, V.toN_n, V.toL_l, SV.ev, CV.ev, Sc.ev, List.getD_cons_zero, List.getD_cons_succ, List.getElem?_cons_zero, List.getElem?_cons_succ, List.map_cons, List.map_nil, List.length_cons, List.length_nil, List.cons_append, List.nil_append, Nat.zero_add, Nat.reduceAdd]
  refine ⟨fun h => absurd trivial h, fun _ => ?_⟩
  intro w1 hr
  refine (c_WithUint w1 m v n a ((by first | exact hr.at_ 0 rfl | exact hr.at_ 1 rfl | exact hr.at_ 2 rfl | exact hr.at_ 3 rfl | exact hr.at_ 4 rfl | exact hr.at_ 5 rfl | exact hr.at_ 6 rfl | exact hr.at_ 7 rfl | exact hr.at_ 8 rfl | exact hr.at_ 9 rfl | exact hr.at_ 10 rfl | exact hr.at_ 11 rfl)) hb).mono ?_
  rintro e w2 ⟨v1, rfl, r1, f1, m1⟩
  refine ⟨mEV (withUintR m n a) v1, rfl, rfl, m1, List.forall_mem_nil _, List.forall_mem_cons.2 ⟨⟨r1, fun k hk => .inl (f1 k hk)⟩, List.forall_mem_nil _⟩, apart_one, ?_⟩
  clear hr r1 f1 m1
  simp only [Tree.goal, X.P, X.ev, V.toI_i, V.toB_b, V.toS_s, V.toR_r, V.toV_v, V.toN_n, V.toL_l, SV.ev, CV.ev, Sc.ev, List.getD_cons_zero, List.getD_cons_succ, List.getElem?_cons_zero, List.getElem?_cons_succ, List.map_cons, List.map_nil, List.length_cons, List.length_nil, List.cons_append, List.nil_append, Nat.zero_add, Nat.reduceAdd, mEV, List.length_map]
  intro b2
  refine ⟨fun h w' hr => ⟨?_, hr.mod⟩, fun h => ?_⟩
  · rw [withUint_no h]; rfl
  have h := Classical.not_not.1 h
  have e2 := withUint_twice (b := b) h
  have hok := withUint_ok h
  have hx : (withUintR m n a).1.opts = withL m.opts n [shortB a] := by rw [hok.2.2.2]; rfl
  have hbx : bdM (withUintR m n a).1 := withUint_bd
  generalize hr0 : withUintR m n a = r at h e2 hx hbx ⊢
  intro w1 hr
  refine (c_WithUint w1 r.1 v1 n b ((by first | exact hr.at_ 0 rfl | exact hr.at_ 1 rfl | exact hr.at_ 2 rfl | exact hr.at_ 3 rfl | exact hr.at_ 4 rfl | exact hr.at_ 5 rfl | exact hr.at_ 6 rfl | exact hr.at_ 7 rfl | exact hr.at_ 8 rfl | exact hr.at_ 9 rfl | exact hr.at_ 10 rfl | exact hr.at_ 11 rfl)) hbx).mono ?_
  rintro e w2 ⟨v2, rfl, r1, f1, m1⟩
  refine ⟨mEV (withUintR r.1 n b) v2, rfl, rfl, m1, List.forall_mem_nil _, List.forall_mem_cons.2 ⟨⟨r1, fun k hk => .inl (f1 k hk)⟩, List.forall_mem_nil _⟩, apart_one, ?_⟩
  clear hr r1 f1 m1
  rw [e2]
  simp only [Tree.goal, X.P, X.ev, V.toI_i, V.toB_b, V.toS_s, V.toR_r, V.toV_v, V.toN_n, V.toL_l, SV.ev, CV.ev, Sc.ev, List.getD_cons_zero, List.getD_cons_succ, List.getElem?_cons_zero, List.getElem?_cons_succ, List.map_cons, List.map_nil, List.length_cons, List.length_nil, List.cons_append, List.nil_append, Nat.zero_add, Nat.reduceAdd, mEV, List.length_map]
  intro b3 w1 hr
  refine (c_WithUint w1 m v n b ((by first | exact hr.at_ 0 rfl | exact hr.at_ 1 rfl | exact hr.at_ 2 rfl | exact hr.at_ 3 rfl | exact hr.at_ 4 rfl | exact hr.at_ 5 rfl | exact hr.at_ 6 rfl | exact hr.at_ 7 rfl | exact hr.at_ 8 rfl | exact hr.at_ 9 rfl | exact hr.at_ 10 rfl | exact hr.at_ 11 rfl)) hb).mono ?_
  rintro e w2 ⟨v3, rfl, r1, f1, m1⟩
  refine ⟨mEV (withUintR m n b) v3, rfl, rfl, m1, List.forall_mem_nil _, List.forall_mem_cons.2 ⟨⟨r1, fun k hk => .inl (f1 k hk)⟩, List.forall_mem_nil _⟩, apart_one, ?_⟩
  clear hr r1 f1 m1
  simp only [Tree.goal, X.P, X.ev, V.toI_i, V.toB_b, V.toS_s, V.toR_r, V.toV_v, V.toN_n, V.toL_l, SV.ev, CV.ev, Sc.ev, List.getD_cons_zero, List.getD_cons_succ, List.getElem?_cons_zero, List.getElem?_cons_succ, List.map_cons, List.map_nil, List.length_cons, List.length_nil, List.cons_append, List.nil_append, Nat.zero_add, Nat.reduceAdd, mEV, List.length_map]
  intro b4
  refine ⟨[.b true], rfl, fun _ w' hr => ?_, ?_⟩
  · have q1 : readsO w' v2 (withUintR m n b).1.opts := by
      have := hr.at_ 3 rfl
      exact this
    have q2 : readsO w' v3 (withUintR m n b).1.opts := by
      have := hr.at_ 1 rfl
      exact this
    exact c_sameT w' (withUintR m n b).1 v2 v3 q1 q2 withUint_bd.1
  simp only [Tree.goal, X.P, X.ev, V.toI_i, V.toB_b, V.toS_s, V.toR_r, V.toV_v, V.toN_n, V.toL_l, SV.ev, CV.ev, Sc.ev, List.getD_cons_zero, List.getD_cons_succ, List.getElem?_cons_zero, List.getElem?_cons_succ, List.map_cons, List.map_nil, List.length_cons, List.length_nil, List.cons_append, List.nil_append, Nat.zero_add, Nat.reduceAdd]
  refine ⟨fun h1 => ?_, fun _ => ?_⟩
  · rcases h1 with h1 | h1
    · exact absurd trivial h1
    · exact absurd trivial h1.2
  rw [hx]
  have hvals := vals_with m.opts n [shortB a]
  have hln := hbx.1
  rw [hx] at hln
  generalize withL m.opts n [shortB a] = os at hvals hln ⊢
  refine ⟨fun vs => ∃ (x : V) (i : Nat), vs = [x, .i i] ∧ i ≤ os.length ∧ ∀ j, j < i → (os.getD j oD).1 ≠ n, fun vs => (os.length - (vs.getD 1 (.i 0)).toI).toNat, ⟨_, 0, rfl, by omega, fun j hj => by omega⟩, ?_⟩
  rintro _ - ⟨x, i, rfl, hi, hn⟩
  simp only [Tree.goal, X.P, X.ev, V.toI_i, V.toB_b, V.toS_s, V.toR_r, V.toV_v, V.toN_n, V.toL_l, SV.ev, CV.ev, Sc.ev, List.getD_cons_zero, List.getD_cons_succ, List.getElem?_cons_zero, List.getElem?_cons_succ, List.map_cons, List.map_nil, List.length_cons, List.length_nil, List.cons_append, List.nil_append, Nat.zero_add, Nat.reduceAdd, List.length_map, Int.toNat_natCast, gI_encO, gS_encO, gS_encS]
  refine ⟨fun h1 => ?_, fun h1 w' hr => ⟨?_, hr.mod⟩⟩
  · refine ⟨by omega, fun h2 => ⟨by omega, by omega, ⟨_, i + 1, rfl, by omega, fun j hj => ?_⟩, by omega⟩, fun h2 w' hr => ⟨?_, hr.mod⟩⟩
    · by_cases hji : j = i
      · subst hji; exact h2
      · exact hn j (by omega)
    · obtain ⟨r', e⟩ := vals_first (by omega) hn (Classical.not_not.1 h2)
      rw [hvals] at e
      have e : (os.getD i oD).2 = shortB a := (List.cons.inj e).1.symm
      rw [e]
      have hl := short_len hok.2.1
      simp only [Ending.returned.injEq, Value.bool.injEq, Bool.or_eq_true, Bool.and_eq_true, decide_eq_true_eq]
      omega
  · rw [vals_all fun j hj => hn j (by omega)] at hvals
    cases hvals
end Go.Proofs.YtliedecinehijaaDoor

/-
  The law OptionBack, walked. By an AI agent.
-/
set_option linter.unusedSimpArgs false
set_option linter.unusedVariables false
namespace Go.Proofs.YtliedecinehijaaDoor
open Go.Sx

theorem withPath_ok {m : Msg} {t : List UInt8} (h : (withPathR m t).2 = 0) : chk m = 0 ∧ chkT t false = 0 ∧ chk (withM m 11 (lev t)) = 0 ∧ withPathR m t = (withM m 11 (lev t), 0) := by
  unfold withPathR at h ⊢
  split at h
  · rename_i h0
    rw [if_pos h0]
    split at h
    · rename_i h1
      rw [if_pos h1]
      exact ⟨h0, h1, (outR_ok h).1, (outR_ok h).2⟩
    · rename_i h1; exact absurd h h1
  · rename_i h0; exact absurd h h0
theorem withPath_no {m : Msg} {t : List UInt8} (h : (withPathR m t).2 ≠ 0) : (withPathR m t).1 = mNil := by
  unfold withPathR at h ⊢
  split
  · rename_i h0
    rw [if_pos h0] at h
    split
    · rename_i h1
      rw [if_pos h1] at h
      rcases outR_cases (withM m 11 (lev t)) with ⟨-, e⟩ | ⟨-, e⟩
      · rw [e] at h; exact absurd rfl h
      · rw [e]
    · rfl
  · rfl
theorem withBlock_ok {m : Msg} {b : Bk} (h : (withBlockR m b).2 = 0) : blkE b = 0 ∧ withBlockR m b = withUintR m 23 (blkN b) ∧ (withUintR m 23 (blkN b)).2 = 0 := by
  unfold withBlockR at h ⊢
  split at h
  · rename_i h0
    rw [if_pos h0]
    split at h
    · rename_i h1
      rw [if_pos h1]
      exact ⟨h1, rfl, h⟩
    · rename_i h1; exact absurd h h1
  · rename_i h0; exact absurd h h0
theorem withBlock_no {m : Msg} {b : Bk} (h : (withBlockR m b).2 ≠ 0) : (withBlockR m b).1 = mNil := by
  unfold withBlockR at h ⊢
  split
  · rename_i h0
    rw [if_pos h0] at h
    split
    · rename_i h1
      rw [if_pos h1] at h
      exact withUint_no h
    · rfl
  · rfl
theorem bare_with (m : Msg) (n : Int) (us : List (List UInt8)) : bareM (withM m n us) n = bareM m n := by
  simp only [bareM, withM, noN_with]
set_option maxHeartbeats 4000000 in
set_option maxRecDepth 10000 in
theorem c_OptionBack (w : World) (m : Msg) (v : Value) (t : List UInt8) (n x : Int) (b : Bk) (hv : readsO w v m.opts) (hb : bdM m) (ht : t.length < 4294967281) :
    Calls Tryd.prog 9 #[mV m (sc1 v), .string ⟨t.toArray⟩, .int .i64 n, .int .i64 x, bV b] w fun e w' => e = .returned (.bool true) ∧ Mod [] w w' := by
  refine as_called (run_tree2 (ρ := [.i m.kind, .i m.code, .i m.id, .s m.tok, .v v, .r (m.opts.map encO), .s m.pay, .s t, .i n, .i x, .i b.1, .b b.2.1, .i b.2.2]) (sxE_ok.joins _) Tryd.func9 tree_dragomanlaw_OptionBack rfl rfl (Rel.start2 (by simp [Ent.holds, Ent.wr, hv, X.ev])) rfl rfl ?_) rfl
  simp only [Tree.goal, X.P, X.ev, V.toI_i, V.toB_b, V.toS_s, V.toR_r, V.toV_v, V.toN_n, V.toL_l, SV.ev, CV.ev, Sc.ev, List.getD_cons_zero, List.getD_cons_succ, List.getElem?_cons_zero, List.getElem?_cons_succ, List.map_cons, List.map_nil, List.length_cons, List.length_nil, List.cons_append, List.nil_append, Nat.zero_add, Nat.reduceAdd, List.length_map, Int.toNat_natCast, gI_encO, gS_encO, gS_encS]
  intro b1 b2
  refine ⟨[.b true], rfl, fun _ w' _ => c_optionBegun w', ?_⟩
  simp only [Tree.goal, X.P, X.ev, V.toI_i, V.toB_b, V.toS_s, V.toR_r, V.toV_v, V.toN_n, V.toL_l, SV.ev, CV.ev, Sc.ev, List.getD_cons_zero, List.getD_cons_succ, List.getElem?_cons_zero, List.getElem?_cons_succ, List.map_cons, List.map_nil, List.length_cons, List.length_nil, List.cons_append, List.nil_append, Nat.zero_add, Nat.reduceAdd]
  refine ⟨fun h => absurd trivial h, fun _ => ?_⟩
  -- the path
  intro w1 hr
  refine (c_WithPath w1 m v t ((by first | exact hr.at_ 0 rfl | exact hr.at_ 1 rfl | exact hr.at_ 2 rfl | exact hr.at_ 3 rfl | exact hr.at_ 4 rfl | exact hr.at_ 5 rfl | exact hr.at_ 6 rfl | exact hr.at_ 7 rfl | exact hr.at_ 8 rfl | exact hr.at_ 9 rfl | exact hr.at_ 10 rfl | exact hr.at_ 11 rfl)) hb ht).mono ?_
  rintro e w2 ⟨v1, rfl, r1, f1, m1⟩
  refine ⟨mEV (withPathR m t) v1, rfl, rfl, m1, List.forall_mem_nil _, List.forall_mem_cons.2 ⟨⟨r1, fun k hk => .inl (f1 k hk)⟩, List.forall_mem_nil _⟩, apart_one, ?_⟩
  clear hr r1 f1 m1
  simp only [Tree.goal, X.P, X.ev, V.toI_i, V.toB_b, V.toS_s, V.toR_r, V.toV_v, V.toN_n, V.toL_l, SV.ev, CV.ev, Sc.ev, List.getD_cons_zero, List.getD_cons_succ, List.getElem?_cons_zero, List.getElem?_cons_succ, List.map_cons, List.map_nil, List.length_cons, List.length_nil, List.cons_append, List.nil_append, Nat.zero_add, Nat.reduceAdd, mEV, List.length_map]
  intro b3
  refine ⟨fun vs => ∃ y, vs = [y], ⟨fun h => ?_, fun h => ⟨_, rfl⟩⟩, ?_⟩
  · obtain ⟨h1, h2, h3, h4⟩ := withPath_ok h
    rw [h4]
    have hbx := bd_chk h3
    have hpath : pathR (withM m 11 (lev t)) = (t, 0) := by rw [pathR, if_pos h3]; exact path_back h2
    have hbare := bare_with m 11 (lev t)
    generalize withM m 11 (lev t) = Z at hbx hpath hbare ⊢
    refine ⟨[.s (pathR Z).1, .i (pathR Z).2], rfl, fun _ w' hr => c_Path w' Z v1 ((by first | exact hr.at_ 0 rfl | exact hr.at_ 1 rfl | exact hr.at_ 2 rfl | exact hr.at_ 3 rfl | exact hr.at_ 4 rfl | exact hr.at_ 5 rfl | exact hr.at_ 6 rfl | exact hr.at_ 7 rfl | exact hr.at_ 8 rfl | exact hr.at_ 9 rfl | exact hr.at_ 10 rfl | exact hr.at_ 11 rfl)) hbx, ?_⟩
    rw [hpath]
    simp only [Tree.goal, X.P, X.ev, V.toI_i, V.toB_b, V.toS_s, V.toR_r, V.toV_v, V.toN_n, V.toL_l, SV.ev, CV.ev, Sc.ev, List.getD_cons_zero, List.getD_cons_succ, List.getElem?_cons_zero, List.getElem?_cons_succ, List.map_cons, List.map_nil, List.length_cons, List.length_nil, List.cons_append, List.nil_append, Nat.zero_add, Nat.reduceAdd]
    refine ⟨?_, ?_⟩ <;>
    (refine ⟨fun h => (h.elim (fun h => h (by trivial)) (fun h => h (by trivial))).elim, fun _ => ?_⟩
     intro w1 hr
     refine (c_bare w1 Z v1 11 ((by first | exact hr.at_ 0 rfl | exact hr.at_ 1 rfl | exact hr.at_ 2 rfl | exact hr.at_ 3 rfl | exact hr.at_ 4 rfl | exact hr.at_ 5 rfl | exact hr.at_ 6 rfl | exact hr.at_ 7 rfl | exact hr.at_ 8 rfl | exact hr.at_ 9 rfl | exact hr.at_ 10 rfl | exact hr.at_ 11 rfl)) hbx.1).mono ?_
     rintro e w2 ⟨v2, rfl, r1, f1, m1⟩
     refine ⟨mVs (bareM Z 11) v2, rfl, rfl, m1, List.forall_mem_nil _, List.forall_mem_cons.2 ⟨⟨r1, fun k hk => .inl (f1 k hk)⟩, List.forall_mem_nil _⟩, apart_one, ?_⟩
     clear hr r1 f1 m1
     simp only [Tree.goal, X.P, X.ev, V.toI_i, V.toB_b, V.toS_s, V.toR_r, V.toV_v, V.toN_n, V.toL_l, SV.ev, CV.ev, Sc.ev, List.getD_cons_zero, List.getD_cons_succ, List.getElem?_cons_zero, List.getElem?_cons_succ, List.map_cons, List.map_nil, List.length_cons, List.length_nil, List.cons_append, List.nil_append, Nat.zero_add, Nat.reduceAdd, mVs]
     intro w1 hr
     refine (c_bare w1 m v 11 ((by first | exact hr.at_ 0 rfl | exact hr.at_ 1 rfl | exact hr.at_ 2 rfl | exact hr.at_ 3 rfl | exact hr.at_ 4 rfl | exact hr.at_ 5 rfl | exact hr.at_ 6 rfl | exact hr.at_ 7 rfl | exact hr.at_ 8 rfl | exact hr.at_ 9 rfl | exact hr.at_ 10 rfl | exact hr.at_ 11 rfl)) hb.1).mono ?_
     rintro e w2 ⟨v3, rfl, r1, f1, m1⟩
     refine ⟨mVs (bareM m 11) v3, rfl, rfl, m1, List.forall_mem_nil _, List.forall_mem_cons.2 ⟨⟨r1, fun k hk => .inl (f1 k hk)⟩, List.forall_mem_nil _⟩, apart_one, ?_⟩
     clear hr r1 f1 m1
     simp only [Tree.goal, X.P, X.ev, V.toI_i, V.toB_b, V.toS_s, V.toR_r, V.toV_v, V.toN_n, V.toL_l, SV.ev, CV.ev, Sc.ev, List.getD_cons_zero, List.getD_cons_succ, List.getElem?_cons_zero, List.getElem?_cons_succ, List.map_cons, List.map_nil, List.length_cons, List.length_nil, List.cons_append, List.nil_append, Nat.zero_add, Nat.reduceAdd, mVs]
     refine ⟨[.b true], rfl, fun _ w' hr => ?_, ?_⟩
     · have q1 : readsO w' v2 (bareM Z 11).opts := (by first | exact hr.at_ 0 rfl | exact hr.at_ 1 rfl | exact hr.at_ 2 rfl | exact hr.at_ 3 rfl | exact hr.at_ 4 rfl | exact hr.at_ 5 rfl | exact hr.at_ 6 rfl | exact hr.at_ 7 rfl | exact hr.at_ 8 rfl | exact hr.at_ 9 rfl | exact hr.at_ 10 rfl | exact hr.at_ 11 rfl)
       have q2 : readsO w' v3 (bareM m 11).opts := (by first | exact hr.at_ 0 rfl | exact hr.at_ 1 rfl | exact hr.at_ 2 rfl | exact hr.at_ 3 rfl | exact hr.at_ 4 rfl | exact hr.at_ 5 rfl | exact hr.at_ 6 rfl | exact hr.at_ 7 rfl | exact hr.at_ 8 rfl | exact hr.at_ 9 rfl | exact hr.at_ 10 rfl | exact hr.at_ 11 rfl)
       have hl : (bareM m 11).opts.length < 1000000000 := Nat.lt_of_le_of_lt (noN_len 11 m.opts) hb.1
       rw [hbare] at q1 ⊢
       exact c_sameT w' (bareM m 11) v2 v3 q1 q2 hl
     simp only [Tree.goal, X.P, X.ev, V.toI_i, V.toB_b, V.toS_s, V.toR_r, V.toV_v, V.toN_n, V.toL_l, SV.ev, CV.ev, Sc.ev, List.getD_cons_zero, List.getD_cons_succ, List.getElem?_cons_zero, List.getElem?_cons_succ, List.map_cons, List.map_nil, List.length_cons, List.length_nil, List.cons_append, List.nil_append, Nat.zero_add, Nat.reduceAdd]
     exact ⟨fun h => absurd trivial h, fun _ => ⟨_, rfl⟩⟩)
  rintro _ - ⟨y, rfl⟩
  simp only [Tree.goal, X.P, X.ev, V.toI_i, V.toB_b, V.toS_s, V.toR_r, V.toV_v, V.toN_n, V.toL_l, SV.ev, CV.ev, Sc.ev, List.getD_cons_zero, List.getD_cons_succ, List.getElem?_cons_zero, List.getElem?_cons_succ, List.map_cons, List.map_nil, List.length_cons, List.length_nil, List.cons_append, List.nil_append, Nat.zero_add, Nat.reduceAdd]
  -- the number
  intro w1 hr
  refine (c_WithUint w1 m v n x ((by first | exact hr.at_ 0 rfl | exact hr.at_ 1 rfl | exact hr.at_ 2 rfl | exact hr.at_ 3 rfl | exact hr.at_ 4 rfl | exact hr.at_ 5 rfl | exact hr.at_ 6 rfl | exact hr.at_ 7 rfl | exact hr.at_ 8 rfl | exact hr.at_ 9 rfl | exact hr.at_ 10 rfl | exact hr.at_ 11 rfl)) hb).mono ?_
  rintro e w2 ⟨v2, rfl, r1, f1, m1⟩
  refine ⟨mEV (withUintR m n x) v2, rfl, rfl, m1, List.forall_mem_nil _, List.forall_mem_cons.2 ⟨⟨r1, fun k hk => .inl (f1 k hk)⟩, List.forall_mem_nil _⟩, apart_one, ?_⟩
  clear hr r1 f1 m1
  simp only [Tree.goal, X.P, X.ev, V.toI_i, V.toB_b, V.toS_s, V.toR_r, V.toV_v, V.toN_n, V.toL_l, SV.ev, CV.ev, Sc.ev, List.getD_cons_zero, List.getD_cons_succ, List.getElem?_cons_zero, List.getElem?_cons_succ, List.map_cons, List.map_nil, List.length_cons, List.length_nil, List.cons_append, List.nil_append, Nat.zero_add, Nat.reduceAdd, mEV, List.length_map]
  refine ⟨fun vs => ∃ y, vs = [y], ⟨fun h => ?_, fun h => ⟨_, rfl⟩⟩, ?_⟩
  · obtain ⟨h1, h2, h3, h4⟩ := withUint_ok h
    rw [h4]
    have hbx := bd_chk h3
    have huint : uintR (withM m n [shortB x]) n = (x, 0) := by rw [uintR, if_pos h3]; exact uint_back h2
    have hbare := bare_with m n [shortB x]
    generalize withM m n [shortB x] = Z at hbx huint hbare ⊢
    refine ⟨[.i (uintR Z n).1, .i (uintR Z n).2], rfl, fun _ w' hr => c_Uint w' Z v2 n ((by first | exact hr.at_ 0 rfl | exact hr.at_ 1 rfl | exact hr.at_ 2 rfl | exact hr.at_ 3 rfl | exact hr.at_ 4 rfl | exact hr.at_ 5 rfl | exact hr.at_ 6 rfl | exact hr.at_ 7 rfl | exact hr.at_ 8 rfl | exact hr.at_ 9 rfl | exact hr.at_ 10 rfl | exact hr.at_ 11 rfl)) hbx, ?_⟩
    rw [huint]
    simp only [Tree.goal, X.P, X.ev, V.toI_i, V.toB_b, V.toS_s, V.toR_r, V.toV_v, V.toN_n, V.toL_l, SV.ev, CV.ev, Sc.ev, List.getD_cons_zero, List.getD_cons_succ, List.getElem?_cons_zero, List.getElem?_cons_succ, List.map_cons, List.map_nil, List.length_cons, List.length_nil, List.cons_append, List.nil_append, Nat.zero_add, Nat.reduceAdd]
    refine ⟨?_, ?_⟩ <;>
    (refine ⟨fun h => (h.elim (fun h => h (by trivial)) (fun h => h (by trivial))).elim, fun _ => ?_⟩
     intro w1 hr
     refine (c_bare w1 Z v2 n ((by first | exact hr.at_ 0 rfl | exact hr.at_ 1 rfl | exact hr.at_ 2 rfl | exact hr.at_ 3 rfl | exact hr.at_ 4 rfl | exact hr.at_ 5 rfl | exact hr.at_ 6 rfl | exact hr.at_ 7 rfl | exact hr.at_ 8 rfl | exact hr.at_ 9 rfl | exact hr.at_ 10 rfl | exact hr.at_ 11 rfl)) hbx.1).mono ?_
     rintro e w2 ⟨v3, rfl, r1, f1, m1⟩
     refine ⟨mVs (bareM Z n) v3, rfl, rfl, m1, List.forall_mem_nil _, List.forall_mem_cons.2 ⟨⟨r1, fun k hk => .inl (f1 k hk)⟩, List.forall_mem_nil _⟩, apart_one, ?_⟩
     clear hr r1 f1 m1
     simp only [Tree.goal, X.P, X.ev, V.toI_i, V.toB_b, V.toS_s, V.toR_r, V.toV_v, V.toN_n, V.toL_l, SV.ev, CV.ev, Sc.ev, List.getD_cons_zero, List.getD_cons_succ, List.getElem?_cons_zero, List.getElem?_cons_succ, List.map_cons, List.map_nil, List.length_cons, List.length_nil, List.cons_append, List.nil_append, Nat.zero_add, Nat.reduceAdd, mVs]
     intro w1 hr
     refine (c_bare w1 m v n ((by first | exact hr.at_ 0 rfl | exact hr.at_ 1 rfl | exact hr.at_ 2 rfl | exact hr.at_ 3 rfl | exact hr.at_ 4 rfl | exact hr.at_ 5 rfl | exact hr.at_ 6 rfl | exact hr.at_ 7 rfl | exact hr.at_ 8 rfl | exact hr.at_ 9 rfl | exact hr.at_ 10 rfl | exact hr.at_ 11 rfl)) hb.1).mono ?_
     rintro e w2 ⟨v4, rfl, r1, f1, m1⟩
     refine ⟨mVs (bareM m n) v4, rfl, rfl, m1, List.forall_mem_nil _, List.forall_mem_cons.2 ⟨⟨r1, fun k hk => .inl (f1 k hk)⟩, List.forall_mem_nil _⟩, apart_one, ?_⟩
     clear hr r1 f1 m1
     simp only [Tree.goal, X.P, X.ev, V.toI_i, V.toB_b, V.toS_s, V.toR_r, V.toV_v, V.toN_n, V.toL_l, SV.ev, CV.ev, Sc.ev, List.getD_cons_zero, List.getD_cons_succ, List.getElem?_cons_zero, List.getElem?_cons_succ, List.map_cons, List.map_nil, List.length_cons, List.length_nil, List.cons_append, List.nil_append, Nat.zero_add, Nat.reduceAdd, mVs]
     refine ⟨[.b true], rfl, fun _ w' hr => ?_, ?_⟩
     · have q1 : readsO w' v3 (bareM Z n).opts := (by first | exact hr.at_ 0 rfl | exact hr.at_ 1 rfl | exact hr.at_ 2 rfl | exact hr.at_ 3 rfl | exact hr.at_ 4 rfl | exact hr.at_ 5 rfl | exact hr.at_ 6 rfl | exact hr.at_ 7 rfl | exact hr.at_ 8 rfl | exact hr.at_ 9 rfl | exact hr.at_ 10 rfl | exact hr.at_ 11 rfl)
       have q2 : readsO w' v4 (bareM m n).opts := (by first | exact hr.at_ 0 rfl | exact hr.at_ 1 rfl | exact hr.at_ 2 rfl | exact hr.at_ 3 rfl | exact hr.at_ 4 rfl | exact hr.at_ 5 rfl | exact hr.at_ 6 rfl | exact hr.at_ 7 rfl | exact hr.at_ 8 rfl | exact hr.at_ 9 rfl | exact hr.at_ 10 rfl | exact hr.at_ 11 rfl)
       have hl : (bareM m n).opts.length < 1000000000 := Nat.lt_of_le_of_lt (noN_len n m.opts) hb.1
       rw [hbare] at q1 ⊢
       exact c_sameT w' (bareM m n) v3 v4 q1 q2 hl
     simp only [Tree.goal, X.P, X.ev, V.toI_i, V.toB_b, V.toS_s, V.toR_r, V.toV_v, V.toN_n, V.toL_l, SV.ev, CV.ev, Sc.ev, List.getD_cons_zero, List.getD_cons_succ, List.getElem?_cons_zero, List.getElem?_cons_succ, List.map_cons, List.map_nil, List.length_cons, List.length_nil, List.cons_append, List.nil_append, Nat.zero_add, Nat.reduceAdd]
     exact ⟨fun h => absurd trivial h, fun _ => ⟨_, rfl⟩⟩)
  rintro _ - ⟨y2, rfl⟩
  simp only [Tree.goal, X.P, X.ev, V.toI_i, V.toB_b, V.toS_s, V.toR_r, V.toV_v, V.toN_n, V.toL_l, SV.ev, CV.ev, Sc.ev, List.getD_cons_zero, List.getD_cons_succ, List.getElem?_cons_zero, List.getElem?_cons_succ, List.map_cons, List.map_nil, List.length_cons, List.length_nil, List.cons_append, List.nil_append, Nat.zero_add, Nat.reduceAdd]
  -- the block
  intro w1 hr
  refine (c_WithBlock w1 m v b ((by first | exact hr.at_ 0 rfl | exact hr.at_ 1 rfl | exact hr.at_ 2 rfl | exact hr.at_ 3 rfl | exact hr.at_ 4 rfl | exact hr.at_ 5 rfl | exact hr.at_ 6 rfl | exact hr.at_ 7 rfl | exact hr.at_ 8 rfl | exact hr.at_ 9 rfl | exact hr.at_ 10 rfl | exact hr.at_ 11 rfl)) hb).mono ?_
  rintro e w2 ⟨v3, rfl, r1, f1, m1⟩
  refine ⟨mEV (withBlockR m b) v3, rfl, rfl, m1, List.forall_mem_nil _, List.forall_mem_cons.2 ⟨⟨r1, fun k hk => .inl (f1 k hk)⟩, List.forall_mem_nil _⟩, apart_one, ?_⟩
  clear hr r1 f1 m1
  simp only [Tree.goal, X.P, X.ev, V.toI_i, V.toB_b, V.toS_s, V.toR_r, V.toV_v, V.toN_n, V.toL_l, SV.ev, CV.ev, Sc.ev, List.getD_cons_zero, List.getD_cons_succ, List.getElem?_cons_zero, List.getElem?_cons_succ, List.map_cons, List.map_nil, List.length_cons, List.length_nil, List.cons_append, List.nil_append, Nat.zero_add, Nat.reduceAdd, mEV, List.length_map]
  refine ⟨fun h w' hr => ⟨?_, hr.mod⟩, fun h => ?_⟩
  · rw [withBlock_no h]; rfl
  have h := Classical.not_not.1 h
  obtain ⟨g1, g2, g3⟩ := withBlock_ok h
  obtain ⟨h1, h2, h3, h4⟩ := withUint_ok g3
  rw [g2, h4]
  have hbx := bd_chk h3
  have huint : uintR (withM m 23 [shortB (blkN b)]) 23 = (blkN b, 0) := by rw [uintR, if_pos h3]; exact uint_back h2
  have hblk : blockR (withM m 23 [shortB (blkN b)]) = (b, 0) := by
    have e := (blk_back g1).2.2
    rw [blockR, huint, if_pos rfl, e, if_pos g1]
  have hbare := bare_with m 23 [shortB (blkN b)]
  generalize withM m 23 [shortB (blkN b)] = Z at hbx hblk hbare ⊢
  refine ⟨[.i (blockR Z).1.1, .b (blockR Z).1.2.1, .i (blockR Z).1.2.2, .i (blockR Z).2], rfl, fun _ w' hr => c_Block w' Z v3 ((by first | exact hr.at_ 0 rfl | exact hr.at_ 1 rfl | exact hr.at_ 2 rfl | exact hr.at_ 3 rfl | exact hr.at_ 4 rfl | exact hr.at_ 5 rfl | exact hr.at_ 6 rfl | exact hr.at_ 7 rfl | exact hr.at_ 8 rfl | exact hr.at_ 9 rfl | exact hr.at_ 10 rfl | exact hr.at_ 11 rfl)) hbx, ?_⟩
  rw [hblk]
  simp only [Tree.goal, X.P, X.ev, V.toI_i, V.toB_b, V.toS_s, V.toR_r, V.toV_v, V.toN_n, V.toL_l, SV.ev, CV.ev, Sc.ev, List.getD_cons_zero, List.getD_cons_succ, List.getElem?_cons_zero, List.getElem?_cons_succ, List.map_cons, List.map_nil, List.length_cons, List.length_nil, List.cons_append, List.nil_append, Nat.zero_add, Nat.reduceAdd]
  intro b5
  refine ⟨?_, ?_⟩ <;>
  (refine ⟨fun _ => ?_, fun h => absurd (by simp) h⟩
   intro w1 hr
   refine (c_bare w1 Z v3 23 ((by first | exact hr.at_ 0 rfl | exact hr.at_ 1 rfl | exact hr.at_ 2 rfl | exact hr.at_ 3 rfl | exact hr.at_ 4 rfl | exact hr.at_ 5 rfl | exact hr.at_ 6 rfl | exact hr.at_ 7 rfl | exact hr.at_ 8 rfl | exact hr.at_ 9 rfl | exact hr.at_ 10 rfl | exact hr.at_ 11 rfl)) hbx.1).mono ?_
   rintro e w2 ⟨v4, rfl, r1, f1, m1⟩
   refine ⟨mVs (bareM Z 23) v4, rfl, rfl, m1, List.forall_mem_nil _, List.forall_mem_cons.2 ⟨⟨r1, fun k hk => .inl (f1 k hk)⟩, List.forall_mem_nil _⟩, apart_one, ?_⟩
   clear hr r1 f1 m1
   simp only [Tree.goal, X.P, X.ev, V.toI_i, V.toB_b, V.toS_s, V.toR_r, V.toV_v, V.toN_n, V.toL_l, SV.ev, CV.ev, Sc.ev, List.getD_cons_zero, List.getD_cons_succ, List.getElem?_cons_zero, List.getElem?_cons_succ, List.map_cons, List.map_nil, List.length_cons, List.length_nil, List.cons_append, List.nil_append, Nat.zero_add, Nat.reduceAdd, mVs]
   intro w1 hr
   refine (c_bare w1 m v 23 ((by first | exact hr.at_ 0 rfl | exact hr.at_ 1 rfl | exact hr.at_ 2 rfl | exact hr.at_ 3 rfl | exact hr.at_ 4 rfl | exact hr.at_ 5 rfl | exact hr.at_ 6 rfl | exact hr.at_ 7 rfl | exact hr.at_ 8 rfl | exact hr.at_ 9 rfl | exact hr.at_ 10 rfl | exact hr.at_ 11 rfl)) hb.1).mono ?_
   rintro e w2 ⟨v5, rfl, r1, f1, m1⟩
   refine ⟨mVs (bareM m 23) v5, rfl, rfl, m1, List.forall_mem_nil _, List.forall_mem_cons.2 ⟨⟨r1, fun k hk => .inl (f1 k hk)⟩, List.forall_mem_nil _⟩, apart_one, ?_⟩
   clear hr r1 f1 m1
   simp only [Tree.goal, X.P, X.ev, V.toI_i, V.toB_b, V.toS_s, V.toR_r, V.toV_v, V.toN_n, V.toL_l, SV.ev, CV.ev, Sc.ev, List.getD_cons_zero, List.getD_cons_succ, List.getElem?_cons_zero, List.getElem?_cons_succ, List.map_cons, List.map_nil, List.length_cons, List.length_nil, List.cons_append, List.nil_append, Nat.zero_add, Nat.reduceAdd, mVs]
   refine ⟨[.b true], rfl, fun _ w' hr => ?_, ?_⟩
   · have q1 : readsO w' v4 (bareM Z 23).opts := (by first | exact hr.at_ 0 rfl | exact hr.at_ 1 rfl | exact hr.at_ 2 rfl | exact hr.at_ 3 rfl | exact hr.at_ 4 rfl | exact hr.at_ 5 rfl | exact hr.at_ 6 rfl | exact hr.at_ 7 rfl | exact hr.at_ 8 rfl | exact hr.at_ 9 rfl | exact hr.at_ 10 rfl | exact hr.at_ 11 rfl)
     have q2 : readsO w' v5 (bareM m 23).opts := (by first | exact hr.at_ 0 rfl | exact hr.at_ 1 rfl | exact hr.at_ 2 rfl | exact hr.at_ 3 rfl | exact hr.at_ 4 rfl | exact hr.at_ 5 rfl | exact hr.at_ 6 rfl | exact hr.at_ 7 rfl | exact hr.at_ 8 rfl | exact hr.at_ 9 rfl | exact hr.at_ 10 rfl | exact hr.at_ 11 rfl)
     have hl : (bareM m 23).opts.length < 1000000000 := Nat.lt_of_le_of_lt (noN_len 23 m.opts) hb.1
     rw [hbare] at q1 ⊢
     exact c_sameT w' (bareM m 23) v4 v5 q1 q2 hl
   simp only [Tree.goal, X.P, X.ev, V.toI_i, V.toB_b, V.toS_s, V.toR_r, V.toV_v, V.toN_n, V.toL_l, SV.ev, CV.ev, Sc.ev, List.getD_cons_zero, List.getD_cons_succ, List.getElem?_cons_zero, List.getElem?_cons_succ, List.map_cons, List.map_nil, List.length_cons, List.length_nil, List.cons_append, List.nil_append, Nat.zero_add, Nat.reduceAdd]
   exact fun w' hr => ⟨by trivial, hr.mod⟩)
end Go.Proofs.YtliedecinehijaaDoor
