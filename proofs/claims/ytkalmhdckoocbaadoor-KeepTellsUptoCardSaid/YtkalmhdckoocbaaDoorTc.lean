/-
  Topics: which filter is for which topic. By an AI agent.
-/
import Derived.Test.YtkalmhdckoocbaaDoorTb
set_option linter.unusedSimpArgs false
set_option linter.unusedVariables false
namespace Go.Proofs.YtkalmhdckoocbaaDoor
open Go.Sx

/-- Are levels of a filter for levels of a topic? -/
def mt : List (List UInt8) → List (List UInt8) → Bool
  | [], n => decide (n = [])
  | f :: fs, n => if f = [35] then true else match n with
    | [] => false
    | x :: xs => if f = [43] ∨ f = x then mt fs xs else false
/-- Are levels of a filter for all that another filter's levels are for? -/
def cv : List (List UInt8) → List (List UInt8) → Bool
  | [], n => decide (n = [])
  | f :: fs, n => if f = [35] then true else match n with
    | [] => false
    | x :: xs => if x = [35] then false else if f = [43] ∨ f = x then cv fs xs else false
theorem mt_all {f : List UInt8} (fs n : List (List UInt8)) (h : f = [35]) : mt (f :: fs) n = true := by cases n <;> simp [mt, h]
theorem mt_none {f : List UInt8} (fs : List (List UInt8)) (h : ¬ f = [35]) : mt (f :: fs) [] = false := by simp [mt, h]
theorem mt_cons {f : List UInt8} (fs : List (List UInt8)) (x : List UInt8) (xs : List (List UInt8)) (h : ¬ f = [35]) : mt (f :: fs) (x :: xs) = if f = [43] ∨ f = x then mt fs xs else false := by simp [mt, h]
theorem cv_all {f : List UInt8} (fs n : List (List UInt8)) (h : f = [35]) : cv (f :: fs) n = true := by cases n <;> simp [cv, h]
theorem cv_none {f : List UInt8} (fs : List (List UInt8)) (h : ¬ f = [35]) : cv (f :: fs) [] = false := by simp [cv, h]
theorem cv_cons {f : List UInt8} (fs : List (List UInt8)) (x : List UInt8) (xs : List (List UInt8)) (h : ¬ f = [35]) : cv (f :: fs) (x :: xs) = if x = [35] then false else if f = [43] ∨ f = x then cv fs xs else false := by simp [cv, h]
theorem tk1 (f : List UInt8) (fs : List (List UInt8)) : List.drop (Int.toNat 1) (List.take (((fs.length + 1 : Nat) : Int)).toNat (encS f :: fs.map encS)) = fs.map encS := by
  rw [Int.toNat_natCast, List.take_of_length_le (by simp)]; rfl
theorem readsS_le {w : World} {u : Value} {a b : List (List Value)} (h : reads w u [.str] a) (e : a = b) : reads w u [.str] b := e ▸ h
theorem c_match : ∀ (fs ns : List (List UInt8)) (u v : Value) (w : World), readsS w u fs → readsS w v ns → fs.length < 1099511627776 → ns.length < 1099511627776 →
    Calls Tryd.prog 102 #[sc1 u, sc1 v] w fun e w' => e = .returned (.bool (mt fs ns)) ∧ Mod [] w w' := by
  intro fs
  induction fs with
  | nil =>
    intro ns u v w hu hv hl hn
    refine as_called (run_tree2 (ρ := [.v u, .r (([] : List (List UInt8)).map encS), .v v, .r (ns.map encS)]) sxE_ok Tryd.func102 tree_topic_match rfl rfl (Rel.start2 (by simp only [List.forall_mem_cons]; exact ⟨⟨hu, rfl⟩, ⟨hv, rfl⟩, by simp⟩)) rfl rfl ?_) rfl
    simp only [Tree.goal, X.P, X.ev, V.toI_i, V.toB_b, V.toS_s, V.toR_r, V.toV_v, V.toN_n, V.toL_l, SV.ev, CV.ev, Sc.ev, List.getD_cons_zero, List.getD_cons_succ, List.getElem?_cons_zero, List.getElem?_cons_succ, List.map_cons, List.map_nil, List.length_cons, List.length_nil, List.cons_append, List.nil_append, Nat.zero_add, Nat.reduceAdd, List.length_map]
    refine ⟨fun _ w' hr => ⟨?_, hr.mod⟩, fun h => absurd rfl h⟩
    simp only [mt, Ending.returned.injEq, Value.bool.injEq]
    exact decide_eq_decide.2 (by rw [← List.length_eq_zero_iff]; omega)
  | cons f fs ih =>
    intro ns u v w hu hv hl hn
    refine as_called (run_tree2 (ρ := [.v u, .r ((f :: fs).map encS), .v v, .r (ns.map encS)]) sxE_ok Tryd.func102 tree_topic_match rfl rfl (Rel.start2 (by simp only [List.forall_mem_cons]; exact ⟨⟨hu, rfl⟩, ⟨hv, rfl⟩, by simp⟩)) rfl rfl ?_) rfl
    simp only [Tree.goal, X.P, X.ev, V.toI_i, V.toB_b, V.toS_s, V.toR_r, V.toV_v, V.toN_n, V.toL_l, SV.ev, CV.ev, Sc.ev, List.getD_cons_zero, List.getD_cons_succ, List.getElem?_cons_zero, List.getElem?_cons_succ, List.map_cons, List.map_nil, List.length_cons, List.length_nil, List.cons_append, List.nil_append, Nat.zero_add, Nat.reduceAdd, List.length_map, Int.toNat_zero]
    have g0 : Value.gS (((encS f :: fs.map encS).getD 0 []).getD 0 undef) = f := gS_encS (f :: fs) 0
    simp only [List.getD_cons_zero] at g0
    have g1 := gS_encS ns 0
    rw [g0, g1]
    refine ⟨fun h => absurd h (by omega), fun _ => ⟨by omega, fun h1 w' hr => ⟨by rw [mt_all _ _ h1], hr.mod⟩, fun h1 => ?_⟩⟩
    rcases ns with _ | ⟨x, xs⟩
    · refine ⟨.inl fun h => absurd rfl h.1, fun _ w' hr => ⟨by rw [mt_none _ h1], hr.mod⟩, fun h => absurd (.inl rfl) h⟩
    · have hl' : fs.length < 1099511627776 := by rw [List.length_cons] at hl; omega
      have hn' : xs.length < 1099511627776 := by rw [List.length_cons] at hn; omega
      simp only [List.getD_cons_zero, List.length_cons]
      rw [mt_cons _ _ _ h1]
      refine ⟨.inr (by omega), fun h2 w' hr => ⟨?_, hr.mod⟩, fun h2 => ?_⟩
      · rw [if_neg]
        intro h3
        rcases h2 with h2 | h2
        · omega
        · rcases h3 with h3 | h3
          · exact h2.1 h3
          · exact h2.2 h3
      · have h3 : f = [43] ∨ f = x := by
          by_cases h4 : f = [43]
          · exact .inl h4
          · by_cases h5 : f = x
            · exact .inr h5
            · exact absurd (.inr ⟨h4, h5⟩) h2
        rw [if_pos h3]
        refine ⟨⟨by omega, fun v1 => ⟨by omega, fun v2 => ?_⟩⟩, ⟨by omega, fun v1 => ⟨by omega, fun v2 => ?_⟩⟩⟩
        · refine ⟨[.b (mt fs xs)], rfl, fun _ w' hr => ?_, ?_⟩; (· have q0 := hr.at_ 0 rfl; have q1 := hr.at_ 1 rfl; simp only [Ent.holds, Tree.goal, X.P, X.ev, V.toI_i, V.toB_b, V.toS_s, V.toR_r, V.toV_v, V.toN_n, V.toL_l, SV.ev, CV.ev, Sc.ev, List.getD_cons_zero, List.getD_cons_succ, List.getElem?_cons_zero, List.getElem?_cons_succ, List.map_cons, List.map_nil, List.length_cons, List.length_nil, List.cons_append, List.nil_append, Nat.zero_add, Nat.reduceAdd, List.length_map, List.length_cons] at q0 q1; clear hl hn; exact ih xs v1 v2 w' (readsS_le q1 (tk1 _ _)) (readsS_le q0 (tk1 _ _)) hl' hn'); simp only [Tree.goal, X.P, X.ev, V.toI_i, V.toB_b, V.toS_s, V.toR_r, V.toV_v, V.toN_n, V.toL_l, SV.ev, CV.ev, Sc.ev, List.getD_cons_zero, List.getD_cons_succ, List.getElem?_cons_zero, List.getElem?_cons_succ, List.map_cons, List.map_nil, List.length_cons, List.length_nil, List.cons_append, List.nil_append, Nat.zero_add, Nat.reduceAdd]; exact fun w' hr => ⟨by trivial, hr.mod⟩
        · refine ⟨[.b (mt fs xs)], rfl, fun _ w' hr => ?_, ?_⟩; (· have q0 := hr.at_ 0 rfl; have q1 := hr.at_ 1 rfl; simp only [Ent.holds, Tree.goal, X.P, X.ev, V.toI_i, V.toB_b, V.toS_s, V.toR_r, V.toV_v, V.toN_n, V.toL_l, SV.ev, CV.ev, Sc.ev, List.getD_cons_zero, List.getD_cons_succ, List.getElem?_cons_zero, List.getElem?_cons_succ, List.map_cons, List.map_nil, List.length_cons, List.length_nil, List.cons_append, List.nil_append, Nat.zero_add, Nat.reduceAdd, List.length_map, List.length_cons] at q0 q1; clear hl hn; exact ih xs v2 v1 w' (readsS_le q0 (tk1 _ _)) (readsS_le q1 (tk1 _ _)) hl' hn'); simp only [Tree.goal, X.P, X.ev, V.toI_i, V.toB_b, V.toS_s, V.toR_r, V.toV_v, V.toN_n, V.toL_l, SV.ev, CV.ev, Sc.ev, List.getD_cons_zero, List.getD_cons_succ, List.getElem?_cons_zero, List.getElem?_cons_succ, List.map_cons, List.map_nil, List.length_cons, List.length_nil, List.cons_append, List.nil_append, Nat.zero_add, Nat.reduceAdd]; exact fun w' hr => ⟨by trivial, hr.mod⟩
theorem c_covers : ∀ (fs ns : List (List UInt8)) (u v : Value) (w : World), readsS w u fs → readsS w v ns → fs.length < 1099511627776 → ns.length < 1099511627776 →
    Calls Tryd.prog 64 #[sc1 u, sc1 v] w fun e w' => e = .returned (.bool (cv fs ns)) ∧ Mod [] w w' := by
  intro fs
  induction fs with
  | nil =>
    intro ns u v w hu hv hl hn
    refine as_called (run_tree2 (ρ := [.v u, .r (([] : List (List UInt8)).map encS), .v v, .r (ns.map encS)]) sxE_ok Tryd.func64 tree_topic_covers rfl rfl (Rel.start2 (by simp only [List.forall_mem_cons]; exact ⟨⟨hu, rfl⟩, ⟨hv, rfl⟩, by simp⟩)) rfl rfl ?_) rfl
    simp only [Tree.goal, X.P, X.ev, V.toI_i, V.toB_b, V.toS_s, V.toR_r, V.toV_v, V.toN_n, V.toL_l, SV.ev, CV.ev, Sc.ev, List.getD_cons_zero, List.getD_cons_succ, List.getElem?_cons_zero, List.getElem?_cons_succ, List.map_cons, List.map_nil, List.length_cons, List.length_nil, List.cons_append, List.nil_append, Nat.zero_add, Nat.reduceAdd, List.length_map]
    refine ⟨fun _ w' hr => ⟨?_, hr.mod⟩, fun h => absurd rfl h⟩
    simp only [cv, Ending.returned.injEq, Value.bool.injEq]
    exact decide_eq_decide.2 (by rw [← List.length_eq_zero_iff]; omega)
  | cons f fs ih =>
    intro ns u v w hu hv hl hn
    refine as_called (run_tree2 (ρ := [.v u, .r ((f :: fs).map encS), .v v, .r (ns.map encS)]) sxE_ok Tryd.func64 tree_topic_covers rfl rfl (Rel.start2 (by simp only [List.forall_mem_cons]; exact ⟨⟨hu, rfl⟩, ⟨hv, rfl⟩, by simp⟩)) rfl rfl ?_) rfl
    simp only [Tree.goal, X.P, X.ev, V.toI_i, V.toB_b, V.toS_s, V.toR_r, V.toV_v, V.toN_n, V.toL_l, SV.ev, CV.ev, Sc.ev, List.getD_cons_zero, List.getD_cons_succ, List.getElem?_cons_zero, List.getElem?_cons_succ, List.map_cons, List.map_nil, List.length_cons, List.length_nil, List.cons_append, List.nil_append, Nat.zero_add, Nat.reduceAdd, List.length_map, Int.toNat_zero]
    have g0 : Value.gS (((encS f :: fs.map encS).getD 0 []).getD 0 undef) = f := gS_encS (f :: fs) 0
    simp only [List.getD_cons_zero] at g0
    have g1 := gS_encS ns 0
    rw [g0, g1]
    refine ⟨fun h => absurd h (by omega), fun _ => ⟨by omega, fun h1 w' hr => ⟨by rw [cv_all _ _ h1], hr.mod⟩, fun h1 => ?_⟩⟩
    rcases ns with _ | ⟨x, xs⟩
    · refine ⟨.inl rfl, .inl fun h => absurd (.inl rfl) h.1, fun _ w' hr => ⟨by rw [cv_none _ h1], hr.mod⟩, fun h => absurd (.inl (.inl rfl)) h⟩
    · have hl' : fs.length < 1099511627776 := by rw [List.length_cons] at hl; omega
      have hn' : xs.length < 1099511627776 := by rw [List.length_cons] at hn; omega
      simp only [List.getD_cons_zero, List.length_cons]
      rw [cv_cons _ _ _ h1]
      refine ⟨.inr (by omega), .inr (by omega), fun h2 w' hr => ⟨?_, hr.mod⟩, fun h2 => ?_⟩
      · by_cases h4 : x = [35]
        · rw [if_pos h4]
        · rw [if_neg h4, if_neg]
          intro h3
          rcases h2 with (h2 | h2) | h2
          · omega
          · exact h4 h2
          · rcases h3 with h3 | h3
            · exact h2.1 h3
            · exact h2.2 h3
      · have h3 : f = [43] ∨ f = x := by
          by_cases h4 : f = [43]
          · exact .inl h4
          · by_cases h5 : f = x
            · exact .inr h5
            · exact absurd (.inr ⟨h4, h5⟩) h2
        rw [if_neg (fun h => h2 (.inl (.inr h))), if_pos h3]
        refine ⟨⟨by omega, fun v1 => ⟨by omega, fun v2 => ?_⟩⟩, ⟨by omega, fun v1 => ⟨by omega, fun v2 => ?_⟩⟩⟩
        · refine ⟨[.b (cv fs xs)], rfl, fun _ w' hr => ?_, ?_⟩; (· have q0 := hr.at_ 0 rfl; have q1 := hr.at_ 1 rfl; simp only [Ent.holds, Tree.goal, X.P, X.ev, V.toI_i, V.toB_b, V.toS_s, V.toR_r, V.toV_v, V.toN_n, V.toL_l, SV.ev, CV.ev, Sc.ev, List.getD_cons_zero, List.getD_cons_succ, List.getElem?_cons_zero, List.getElem?_cons_succ, List.map_cons, List.map_nil, List.length_cons, List.length_nil, List.cons_append, List.nil_append, Nat.zero_add, Nat.reduceAdd, List.length_map, List.length_cons] at q0 q1; clear hl hn; exact ih xs v1 v2 w' (readsS_le q1 (tk1 _ _)) (readsS_le q0 (tk1 _ _)) hl' hn'); simp only [Tree.goal, X.P, X.ev, V.toI_i, V.toB_b, V.toS_s, V.toR_r, V.toV_v, V.toN_n, V.toL_l, SV.ev, CV.ev, Sc.ev, List.getD_cons_zero, List.getD_cons_succ, List.getElem?_cons_zero, List.getElem?_cons_succ, List.map_cons, List.map_nil, List.length_cons, List.length_nil, List.cons_append, List.nil_append, Nat.zero_add, Nat.reduceAdd]; exact fun w' hr => ⟨by trivial, hr.mod⟩
        · refine ⟨[.b (cv fs xs)], rfl, fun _ w' hr => ?_, ?_⟩; (· have q0 := hr.at_ 0 rfl; have q1 := hr.at_ 1 rfl; simp only [Ent.holds, Tree.goal, X.P, X.ev, V.toI_i, V.toB_b, V.toS_s, V.toR_r, V.toV_v, V.toN_n, V.toL_l, SV.ev, CV.ev, Sc.ev, List.getD_cons_zero, List.getD_cons_succ, List.getElem?_cons_zero, List.getElem?_cons_succ, List.map_cons, List.map_nil, List.length_cons, List.length_nil, List.cons_append, List.nil_append, Nat.zero_add, Nat.reduceAdd, List.length_map, List.length_cons] at q0 q1; clear hl hn; exact ih xs v2 v1 w' (readsS_le q0 (tk1 _ _)) (readsS_le q1 (tk1 _ _)) hl' hn'); simp only [Tree.goal, X.P, X.ev, V.toI_i, V.toB_b, V.toS_s, V.toR_r, V.toV_v, V.toN_n, V.toL_l, SV.ev, CV.ev, Sc.ev, List.getD_cons_zero, List.getD_cons_succ, List.getElem?_cons_zero, List.getElem?_cons_succ, List.map_cons, List.map_nil, List.length_cons, List.length_nil, List.cons_append, List.nil_append, Nat.zero_add, Nat.reduceAdd]; exact fun w' hr => ⟨by trivial, hr.mod⟩

theorem c_For (w : World) (f n : List UInt8) (hf : f.length < 4294967281) (hn : n.length < 4294967281) : Calls Tryd.prog 63 #[.string ⟨f.toArray⟩, .string ⟨n.toArray⟩] w
    fun e w' => e = .returned (.bool (mt (lev f) (lev n))) ∧ Mod [] w w' := by
  refine as_called (run_plain2 (ρ := [.s f, .s n]) sxE_ok Tryd.func63 tree_topic_For rfl rfl rfl ?_) rfl
  simp only [Tree.goal, X.P, X.ev, V.toI_i, V.toB_b, V.toS_s, V.toR_r, V.toV_v, V.toN_n, V.toL_l, SV.ev, CV.ev, Sc.ev, List.getD_cons_zero, List.getD_cons_succ, List.getElem?_cons_zero, List.getElem?_cons_succ, List.map_cons, List.map_nil, List.length_cons, List.length_nil, List.cons_append, List.nil_append, Nat.zero_add, Nat.reduceAdd]
  intro w1 hr
  refine (c_Levels w1 f hf).mono ?_
  rintro e w2 ⟨v1, rfl, r1, f1, m1⟩
  refine ⟨[.v v1, .r ((lev f).map encS)], rfl, rfl, m1, List.forall_mem_nil _, List.forall_mem_cons.2 ⟨⟨r1, fun k hk => .inl (f1 k hk)⟩, List.forall_mem_nil _⟩, apart_one, ?_⟩
  simp only [Tree.goal, X.P, X.ev, V.toI_i, V.toB_b, V.toS_s, V.toR_r, V.toV_v, V.toN_n, V.toL_l, SV.ev, CV.ev, Sc.ev, List.getD_cons_zero, List.getD_cons_succ, List.getElem?_cons_zero, List.getElem?_cons_succ, List.map_cons, List.map_nil, List.length_cons, List.length_nil, List.cons_append, List.nil_append, Nat.zero_add, Nat.reduceAdd]
  intro w3 hr
  refine (c_Levels w3 n hn).mono ?_
  rintro e w4 ⟨v2, rfl, r1, f1, m1⟩
  refine ⟨[.v v2, .r ((lev n).map encS)], rfl, rfl, m1, List.forall_mem_nil _, List.forall_mem_cons.2 ⟨⟨r1, fun k hk => .inl (f1 k hk)⟩, List.forall_mem_nil _⟩, apart_one, ?_⟩
  simp only [Tree.goal, X.P, X.ev, V.toI_i, V.toB_b, V.toS_s, V.toR_r, V.toV_v, V.toN_n, V.toL_l, SV.ev, CV.ev, Sc.ev, List.getD_cons_zero, List.getD_cons_succ, List.getElem?_cons_zero, List.getElem?_cons_succ, List.map_cons, List.map_nil, List.length_cons, List.length_nil, List.cons_append, List.nil_append, Nat.zero_add, Nat.reduceAdd]
  have l1 := lev_count f
  have l2 := lev_count n
  refine ⟨[.b (mt (lev f) (lev n))], rfl, fun _ w' hr => c_match (lev f) (lev n) v1 v2 w' (hr.at_ 1 rfl) (hr.at_ 0 rfl) (by omega) (by omega), ?_⟩
  simp only [Tree.goal, X.P, X.ev, V.toI_i, V.toB_b, V.toS_s, V.toR_r, V.toV_v, V.toN_n, V.toL_l, SV.ev, CV.ev, Sc.ev, List.getD_cons_zero, List.getD_cons_succ, List.getElem?_cons_zero, List.getElem?_cons_succ, List.map_cons, List.map_nil, List.length_cons, List.length_nil, List.cons_append, List.nil_append, Nat.zero_add, Nat.reduceAdd]
  exact fun w' hr => ⟨by trivial, hr.mod⟩
def matR (f n : List UInt8) : Bool × Int := if chkT f true = 0 then (if chkT n false = 0 then (mt (lev f) (lev n), 0) else (false, chkT n false)) else (false, chkT f true)
theorem c_Match (w : World) (f n : List UInt8) (hf : f.length < 4294967281) (hn : n.length < 4294967281) : Calls Tryd.prog 17 #[.string ⟨f.toArray⟩, .string ⟨n.toArray⟩] w
    fun e w' => e = .returned (.tuple #[.bool (matR f n).1, .int .i64 (matR f n).2]) ∧ Mod [] w w' := by
  refine as_called (run_plain2 (ρ := [.s f, .s n]) sxE_ok Tryd.func17 tree_topic_Match rfl rfl rfl ?_) rfl
  simp only [Tree.goal, X.P, X.ev, V.toI_i, V.toB_b, V.toS_s, V.toR_r, V.toV_v, V.toN_n, V.toL_l, SV.ev, CV.ev, Sc.ev, List.getD_cons_zero, List.getD_cons_succ, List.getElem?_cons_zero, List.getElem?_cons_succ, List.map_cons, List.map_nil, List.length_cons, List.length_nil, List.cons_append, List.nil_append, Nat.zero_add, Nat.reduceAdd]
  refine ⟨[.i (chkT f true)], rfl, fun _ w' _ => c_Filter w' f hf, ?_⟩
  simp only [Tree.goal, X.P, X.ev, V.toI_i, V.toB_b, V.toS_s, V.toR_r, V.toV_v, V.toN_n, V.toL_l, SV.ev, CV.ev, Sc.ev, List.getD_cons_zero, List.getD_cons_succ, List.getElem?_cons_zero, List.getElem?_cons_succ, List.map_cons, List.map_nil, List.length_cons, List.length_nil, List.cons_append, List.nil_append, Nat.zero_add, Nat.reduceAdd]
  refine ⟨fun h w' hr => ⟨by rw [matR, if_neg h], hr.mod⟩, fun h => ?_⟩
  have h := Classical.not_not.1 h
  refine ⟨[.i (chkT n false)], rfl, fun _ w' _ => c_Name w' n hn, ?_⟩
  simp only [Tree.goal, X.P, X.ev, V.toI_i, V.toB_b, V.toS_s, V.toR_r, V.toV_v, V.toN_n, V.toL_l, SV.ev, CV.ev, Sc.ev, List.getD_cons_zero, List.getD_cons_succ, List.getElem?_cons_zero, List.getElem?_cons_succ, List.map_cons, List.map_nil, List.length_cons, List.length_nil, List.cons_append, List.nil_append, Nat.zero_add, Nat.reduceAdd]
  refine ⟨fun h1 w' hr => ⟨by rw [matR, if_pos h, if_neg h1], hr.mod⟩, fun h1 => ?_⟩
  have h1 := Classical.not_not.1 h1
  refine ⟨[.b (mt (lev f) (lev n))], rfl, fun _ w' _ => c_For w' f n hf hn, ?_⟩
  simp only [Tree.goal, X.P, X.ev, V.toI_i, V.toB_b, V.toS_s, V.toR_r, V.toV_v, V.toN_n, V.toL_l, SV.ev, CV.ev, Sc.ev, List.getD_cons_zero, List.getD_cons_succ, List.getElem?_cons_zero, List.getElem?_cons_succ, List.map_cons, List.map_nil, List.length_cons, List.length_nil, List.cons_append, List.nil_append, Nat.zero_add, Nat.reduceAdd]
  exact fun w' hr => ⟨by rw [matR, if_pos h, if_pos h1], hr.mod⟩

/-- The levels that are covered: the empty text is no topic. -/
def levC (b : List UInt8) : List (List UInt8) := if b = [35] ∨ b = [47, 35] then (lev b).take ((lev b).length - 1) ++ [[43], [35]] else lev b
theorem levC_1 : levC [35] = lev [43, 47, 35] := by decide
theorem levC_2 : levC [47, 35] = lev [47, 43, 47, 35] := by decide
theorem levC_no {b : List UInt8} (h : ¬ (b = [35] ∨ b = [47, 35])) : levC b = lev b := if_neg h
def covR (a b : List UInt8) : Bool × Int := if chkT a true = 0 then (if chkT b true = 0 then (cv (lev a) (levC b), 0) else (false, chkT b true)) else (false, chkT a true)
set_option maxHeartbeats 1000000 in
theorem c_Covers (w : World) (a b : List UInt8) (ha : a.length < 4294967281) (hb : b.length < 4294967281) : Calls Tryd.prog 18 #[.string ⟨a.toArray⟩, .string ⟨b.toArray⟩] w
    fun e w' => e = .returned (.tuple #[.bool (covR a b).1, .int .i64 (covR a b).2]) ∧ Mod [] w w' := by
  refine as_called (run_plain2 (ρ := [.s a, .s b]) sxE_ok Tryd.func18 tree_topic_Covers rfl rfl rfl ?_) rfl
  simp only [Tree.goal, X.P, X.ev, V.toI_i, V.toB_b, V.toS_s, V.toR_r, V.toV_v, V.toN_n, V.toL_l, SV.ev, CV.ev, Sc.ev, List.getD_cons_zero, List.getD_cons_succ, List.getElem?_cons_zero, List.getElem?_cons_succ, List.map_cons, List.map_nil, List.length_cons, List.length_nil, List.cons_append, List.nil_append, Nat.zero_add, Nat.reduceAdd]
  intro v0
  refine ⟨fun vs => ∃ (x y : V) (i : Nat), vs = [x, y, .i i] ∧ i ≤ 2 ∧ (1 ≤ i → chkT a true = 0) ∧ (2 ≤ i → chkT b true = 0), fun vs => 2 - (vs.getD 2 (.i 0)).toI.toNat, ⟨_, _, 0, rfl, by omega, fun h => by omega, fun h => by omega⟩, ?_⟩
  rintro _ - ⟨x, y, i, rfl, hi, h1, h2⟩
  simp only [Tree.goal, X.P, X.ev, V.toI_i, V.toB_b, V.toS_s, V.toR_r, V.toV_v, V.toN_n, V.toL_l, SV.ev, CV.ev, Sc.ev, List.getD_cons_zero, List.getD_cons_succ, List.getElem?_cons_zero, List.getElem?_cons_succ, List.map_cons, List.map_nil, List.length_cons, List.length_nil, List.cons_append, List.nil_append, Nat.zero_add, Nat.reduceAdd, Int.toNat_natCast]
  refine ⟨fun h3 => ?_, fun h3 => ?_⟩
  · refine ⟨by omega, ?_⟩
    have hi' : i = 0 ∨ i = 1 := by omega
    rcases hi' with rfl | rfl
    · refine ⟨[.i (chkT a true)], rfl, fun _ w' _ => c_Filter w' a ha, ?_⟩
      simp only [Tree.goal, X.P, X.ev, V.toI_i, V.toB_b, V.toS_s, V.toR_r, V.toV_v, V.toN_n, V.toL_l, SV.ev, CV.ev, Sc.ev, List.getD_cons_zero, List.getD_cons_succ, List.getElem?_cons_zero, List.getElem?_cons_succ, List.map_cons, List.map_nil, List.length_cons, List.length_nil, List.cons_append, List.nil_append, Nat.zero_add, Nat.reduceAdd]
      refine ⟨fun h w' hr => ⟨by rw [covR, if_neg h], hr.mod⟩, fun h => ⟨by omega, by omega, ⟨x, y, 1, rfl, by omega, fun _ => Classical.not_not.1 h, fun h => by omega⟩, by decide⟩⟩
    · refine ⟨[.i (chkT b true)], rfl, fun _ w' _ => c_Filter w' b hb, ?_⟩
      simp only [Tree.goal, X.P, X.ev, V.toI_i, V.toB_b, V.toS_s, V.toR_r, V.toV_v, V.toN_n, V.toL_l, SV.ev, CV.ev, Sc.ev, List.getD_cons_zero, List.getD_cons_succ, List.getElem?_cons_zero, List.getElem?_cons_succ, List.map_cons, List.map_nil, List.length_cons, List.length_nil, List.cons_append, List.nil_append, Nat.zero_add, Nat.reduceAdd]
      refine ⟨fun h w' hr => ⟨by rw [covR, if_pos (h1 (by omega)), if_neg h], hr.mod⟩, fun h => ⟨by omega, by omega, ⟨x, y, 2, rfl, by omega, fun _ => h1 (by omega), fun _ => Classical.not_not.1 h⟩, by decide⟩⟩
  · have h1 := h1 (by omega)
    have h2 := h2 (by omega)
    have e0 : covR a b = (cv (lev a) (levC b), 0) := by rw [covR, if_pos h1, if_pos h2]
    rw [e0]
    refine ⟨fun h4 => ?_, fun h4 => ⟨fun h5 => ?_, fun h5 => ?_⟩⟩
    · rw [h4, levC_1]
      intro w1 hr; refine (c_Levels w1 a ha).mono ?_; rintro e w2 ⟨v1, rfl, r1, f1, m1⟩; refine ⟨[.v v1, .r ((lev a).map encS)], rfl, rfl, m1, List.forall_mem_nil _, List.forall_mem_cons.2 ⟨⟨r1, fun k hk => .inl (f1 k hk)⟩, List.forall_mem_nil _⟩, apart_one, ?_⟩; simp only [Tree.goal, X.P, X.ev, V.toI_i, V.toB_b, V.toS_s, V.toR_r, V.toV_v, V.toN_n, V.toL_l, SV.ev, CV.ev, Sc.ev, List.getD_cons_zero, List.getD_cons_succ, List.getElem?_cons_zero, List.getElem?_cons_succ, List.map_cons, List.map_nil, List.length_cons, List.length_nil, List.cons_append, List.nil_append, Nat.zero_add, Nat.reduceAdd]; intro w3 hr; refine (c_Levels w3 [43, 47, 35] (by first | exact hb | decide)).mono ?_; rintro e w4 ⟨v2, rfl, r1, f1, m1⟩; refine ⟨[.v v2, .r ((lev [43, 47, 35]).map encS)], rfl, rfl, m1, List.forall_mem_nil _, List.forall_mem_cons.2 ⟨⟨r1, fun k hk => .inl (f1 k hk)⟩, List.forall_mem_nil _⟩, apart_one, ?_⟩; simp only [Tree.goal, X.P, X.ev, V.toI_i, V.toB_b, V.toS_s, V.toR_r, V.toV_v, V.toN_n, V.toL_l, SV.ev, CV.ev, Sc.ev, List.getD_cons_zero, List.getD_cons_succ, List.getElem?_cons_zero, List.getElem?_cons_succ, List.map_cons, List.map_nil, List.length_cons, List.length_nil, List.cons_append, List.nil_append, Nat.zero_add, Nat.reduceAdd]; have l1 := lev_count a; have l2 := lev_count [43, 47, 35]; refine ⟨[.b (cv (lev a) (lev [43, 47, 35]))], rfl, fun _ w' hr => c_covers (lev a) (lev [43, 47, 35]) v1 v2 w' (hr.at_ 1 rfl) (hr.at_ 0 rfl) (by omega) (by first | omega | decide), ?_⟩; simp only [Tree.goal, X.P, X.ev, V.toI_i, V.toB_b, V.toS_s, V.toR_r, V.toV_v, V.toN_n, V.toL_l, SV.ev, CV.ev, Sc.ev, List.getD_cons_zero, List.getD_cons_succ, List.getElem?_cons_zero, List.getElem?_cons_succ, List.map_cons, List.map_nil, List.length_cons, List.length_nil, List.cons_append, List.nil_append, Nat.zero_add, Nat.reduceAdd]
      exact fun w' hr => ⟨by trivial, hr.mod⟩
    · rw [h5, levC_2]
      intro w1 hr; refine (c_Levels w1 a ha).mono ?_; rintro e w2 ⟨v1, rfl, r1, f1, m1⟩; refine ⟨[.v v1, .r ((lev a).map encS)], rfl, rfl, m1, List.forall_mem_nil _, List.forall_mem_cons.2 ⟨⟨r1, fun k hk => .inl (f1 k hk)⟩, List.forall_mem_nil _⟩, apart_one, ?_⟩; simp only [Tree.goal, X.P, X.ev, V.toI_i, V.toB_b, V.toS_s, V.toR_r, V.toV_v, V.toN_n, V.toL_l, SV.ev, CV.ev, Sc.ev, List.getD_cons_zero, List.getD_cons_succ, List.getElem?_cons_zero, List.getElem?_cons_succ, List.map_cons, List.map_nil, List.length_cons, List.length_nil, List.cons_append, List.nil_append, Nat.zero_add, Nat.reduceAdd]; intro w3 hr; refine (c_Levels w3 [47, 43, 47, 35] (by first | exact hb | decide)).mono ?_; rintro e w4 ⟨v2, rfl, r1, f1, m1⟩; refine ⟨[.v v2, .r ((lev [47, 43, 47, 35]).map encS)], rfl, rfl, m1, List.forall_mem_nil _, List.forall_mem_cons.2 ⟨⟨r1, fun k hk => .inl (f1 k hk)⟩, List.forall_mem_nil _⟩, apart_one, ?_⟩; simp only [Tree.goal, X.P, X.ev, V.toI_i, V.toB_b, V.toS_s, V.toR_r, V.toV_v, V.toN_n, V.toL_l, SV.ev, CV.ev, Sc.ev, List.getD_cons_zero, List.getD_cons_succ, List.getElem?_cons_zero, List.getElem?_cons_succ, List.map_cons, List.map_nil, List.length_cons, List.length_nil, List.cons_append, List.nil_append, Nat.zero_add, Nat.reduceAdd]; have l1 := lev_count a; have l2 := lev_count [47, 43, 47, 35]; refine ⟨[.b (cv (lev a) (lev [47, 43, 47, 35]))], rfl, fun _ w' hr => c_covers (lev a) (lev [47, 43, 47, 35]) v1 v2 w' (hr.at_ 1 rfl) (hr.at_ 0 rfl) (by omega) (by first | omega | decide), ?_⟩; simp only [Tree.goal, X.P, X.ev, V.toI_i, V.toB_b, V.toS_s, V.toR_r, V.toV_v, V.toN_n, V.toL_l, SV.ev, CV.ev, Sc.ev, List.getD_cons_zero, List.getD_cons_succ, List.getElem?_cons_zero, List.getElem?_cons_succ, List.map_cons, List.map_nil, List.length_cons, List.length_nil, List.cons_append, List.nil_append, Nat.zero_add, Nat.reduceAdd]
      exact fun w' hr => ⟨by trivial, hr.mod⟩
    · rw [levC_no (fun h => by rcases h with h | h; exact h4 h; exact h5 h)]
      intro w1 hr; refine (c_Levels w1 a ha).mono ?_; rintro e w2 ⟨v1, rfl, r1, f1, m1⟩; refine ⟨[.v v1, .r ((lev a).map encS)], rfl, rfl, m1, List.forall_mem_nil _, List.forall_mem_cons.2 ⟨⟨r1, fun k hk => .inl (f1 k hk)⟩, List.forall_mem_nil _⟩, apart_one, ?_⟩; simp only [Tree.goal, X.P, X.ev, V.toI_i, V.toB_b, V.toS_s, V.toR_r, V.toV_v, V.toN_n, V.toL_l, SV.ev, CV.ev, Sc.ev, List.getD_cons_zero, List.getD_cons_succ, List.getElem?_cons_zero, List.getElem?_cons_succ, List.map_cons, List.map_nil, List.length_cons, List.length_nil, List.cons_append, List.nil_append, Nat.zero_add, Nat.reduceAdd]; intro w3 hr; refine (c_Levels w3 b (by first | exact hb | decide)).mono ?_; rintro e w4 ⟨v2, rfl, r1, f1, m1⟩; refine ⟨[.v v2, .r ((lev b).map encS)], rfl, rfl, m1, List.forall_mem_nil _, List.forall_mem_cons.2 ⟨⟨r1, fun k hk => .inl (f1 k hk)⟩, List.forall_mem_nil _⟩, apart_one, ?_⟩; simp only [Tree.goal, X.P, X.ev, V.toI_i, V.toB_b, V.toS_s, V.toR_r, V.toV_v, V.toN_n, V.toL_l, SV.ev, CV.ev, Sc.ev, List.getD_cons_zero, List.getD_cons_succ, List.getElem?_cons_zero, List.getElem?_cons_succ, List.map_cons, List.map_nil, List.length_cons, List.length_nil, List.cons_append, List.nil_append, Nat.zero_add, Nat.reduceAdd]; have l1 := lev_count a; have l2 := lev_count b; refine ⟨[.b (cv (lev a) (lev b))], rfl, fun _ w' hr => c_covers (lev a) (lev b) v1 v2 w' (hr.at_ 1 rfl) (hr.at_ 0 rfl) (by omega) (by first | omega | decide), ?_⟩; simp only [Tree.goal, X.P, X.ev, V.toI_i, V.toB_b, V.toS_s, V.toR_r, V.toV_v, V.toN_n, V.toL_l, SV.ev, CV.ev, Sc.ev, List.getD_cons_zero, List.getD_cons_succ, List.getElem?_cons_zero, List.getElem?_cons_succ, List.map_cons, List.map_nil, List.length_cons, List.length_nil, List.cons_append, List.nil_append, Nat.zero_add, Nat.reduceAdd]
      exact fun w' hr => ⟨by trivial, hr.mod⟩

theorem c_IsFor (w : World) (f n : List UInt8) (hf : f.length < 4294967281) (hn : n.length < 4294967281) : Calls Tryd.prog 21 #[.string ⟨f.toArray⟩, .string ⟨n.toArray⟩] w
    fun e w' => e = .returned (.bool (mt (lev f) (lev n))) ∧ Mod [] w w' := by
  refine as_called (run_plain2 (ρ := [.s f, .s n]) sxE_ok Tryd.func21 tree_dragomanref_IsFor rfl rfl rfl ?_) rfl
  simp only [Tree.goal, X.P, X.ev, V.toI_i, V.toB_b, V.toS_s, V.toR_r, V.toV_v, V.toN_n, V.toL_l, SV.ev, CV.ev, Sc.ev, List.getD_cons_zero, List.getD_cons_succ, List.getElem?_cons_zero, List.getElem?_cons_succ, List.map_cons, List.map_nil, List.length_cons, List.length_nil, List.cons_append, List.nil_append, Nat.zero_add, Nat.reduceAdd]
  intro w1 hr
  refine (c_LevelsOf w1 f (by omega)).mono ?_
  rintro e w2 ⟨v1, rfl, r1, f1, m1⟩
  refine ⟨[.v v1, .r ((lev f).map encS)], rfl, rfl, m1, List.forall_mem_nil _, List.forall_mem_cons.2 ⟨⟨r1, fun k hk => .inl (f1 k hk)⟩, List.forall_mem_nil _⟩, apart_one, ?_⟩
  simp only [Tree.goal, X.P, X.ev, V.toI_i, V.toB_b, V.toS_s, V.toR_r, V.toV_v, V.toN_n, V.toL_l, SV.ev, CV.ev, Sc.ev, List.getD_cons_zero, List.getD_cons_succ, List.getElem?_cons_zero, List.getElem?_cons_succ, List.map_cons, List.map_nil, List.length_cons, List.length_nil, List.cons_append, List.nil_append, Nat.zero_add, Nat.reduceAdd]
  intro w3 hr
  refine (c_LevelsOf w3 n (by omega)).mono ?_
  rintro e w4 ⟨v2, rfl, r1, f1, m1⟩
  refine ⟨[.v v2, .r ((lev n).map encS)], rfl, rfl, m1, List.forall_mem_nil _, List.forall_mem_cons.2 ⟨⟨r1, fun k hk => .inl (f1 k hk)⟩, List.forall_mem_nil _⟩, apart_one, ?_⟩
  simp only [Tree.goal, X.P, X.ev, V.toI_i, V.toB_b, V.toS_s, V.toR_r, V.toV_v, V.toN_n, V.toL_l, SV.ev, CV.ev, Sc.ev, List.getD_cons_zero, List.getD_cons_succ, List.getElem?_cons_zero, List.getElem?_cons_succ, List.map_cons, List.map_nil, List.length_cons, List.length_nil, List.cons_append, List.nil_append, Nat.zero_add, Nat.reduceAdd, List.length_map]
  have l1 := lev_count f
  have l2 := lev_count n
  generalize lev f = fs at *
  generalize lev n = ns at *
  refine ⟨fun vs => ∃ (x : V) (i : Nat), vs = [x, .i i] ∧ i ≤ fs.length ∧ i ≤ ns.length ∧ mt (fs.drop i) (ns.drop i) = mt fs ns, fun vs => fs.length - (vs.getD 1 (.i 0)).toI.toNat, ⟨_, 0, rfl, by omega, by omega, rfl⟩, ?_⟩
  rintro _ - ⟨x, i, rfl, hi, hj, hg⟩
  simp only [Tree.goal, X.P, X.ev, V.toI_i, V.toB_b, V.toS_s, V.toR_r, V.toV_v, V.toN_n, V.toL_l, SV.ev, CV.ev, Sc.ev, List.getD_cons_zero, List.getD_cons_succ, List.getElem?_cons_zero, List.getElem?_cons_succ, List.map_cons, List.map_nil, List.length_cons, List.length_nil, List.cons_append, List.nil_append, Nat.zero_add, Nat.reduceAdd, Int.toNat_natCast, List.length_map, gS_encS]
  refine ⟨fun h1 => ⟨by omega, fun h2 w' hr => ⟨?_, hr.mod⟩, fun h2 => ?_⟩, fun h1 w' hr => ⟨?_, hr.mod⟩⟩
  · rw [dropS fs i (by omega), mt_all _ _ h2] at hg; rw [← hg]
  · rw [dropS fs i (by omega)] at hg
    refine ⟨by omega, fun h3 w' hr => ⟨?_, hr.mod⟩, fun h3 => ?_⟩
    · by_cases h4 : ns.length ≤ i
      · rw [List.drop_of_length_le h4, mt_none _ h2] at hg; rw [← hg]
      · rw [dropS ns i (by omega), mt_cons _ _ _ h2, if_neg] at hg
        · rw [← hg]
        · intro h5
          rcases h3 with h3 | h3
          · omega
          · rcases h5 with h5 | h5
            · exact h3.1 h5
            · exact h3.2 h5
    · have h4 : ¬ ns.length ≤ i := fun h => h3 (.inl (by omega))
      rw [dropS ns i (by omega), mt_cons _ _ _ h2, if_pos] at hg
      · exact ⟨by omega, by omega, ⟨x, i + 1, rfl, by omega, by omega, hg⟩, by omega⟩
      · by_cases h5 : fs.getD i [] = [43]
        · exact .inl h5
        · by_cases h6 : fs.getD i [] = ns.getD i []
          · exact .inr h6
          · exact absurd (.inr ⟨h5, h6⟩) h3
  · have : i = fs.length := by omega
    subst this
    rw [List.drop_length] at hg
    rw [← hg]
    simp only [mt, Ending.returned.injEq, Value.bool.injEq]
    exact decide_eq_decide.2 (by rw [List.drop_eq_nil_iff]; omega)

theorem cv_loop {fs gs : List (List UInt8)} {i : Nat} (hi : i < fs.length) (h2 : ¬ fs.getD i [] = [35]) (h3 : ¬ (((gs.length : Int) ≤ i ∨ gs.getD i [] = [35]) ∨ ¬ fs.getD i [] = [43] ∧ ¬ fs.getD i [] = gs.getD i [])) (hg : cv (fs.drop i) (gs.drop i) = cv fs gs) : i + 1 ≤ gs.length ∧ cv (fs.drop (i + 1)) (gs.drop (i + 1)) = cv fs gs := by
  have h4 : ¬ gs.length ≤ i := fun h => h3 (.inl (.inl (by omega)))
  refine ⟨by omega, ?_⟩
  rw [dropS fs i hi, dropS gs i (by omega), cv_cons _ _ _ h2, if_neg (fun h => h3 (.inl (.inr h))), if_pos] at hg
  · exact hg
  · by_cases h5 : fs.getD i [] = [43]
    · exact .inl h5
    · by_cases h6 : fs.getD i [] = gs.getD i []
      · exact .inr h6
      · exact absurd (.inr ⟨h5, h6⟩) h3
theorem cv_stop {fs gs : List (List UInt8)} {i : Nat} (hi : i < fs.length) (h2 : ¬ fs.getD i [] = [35]) (h3 : ((gs.length : Int) ≤ i ∨ gs.getD i [] = [35]) ∨ ¬ fs.getD i [] = [43] ∧ ¬ fs.getD i [] = gs.getD i []) (hg : cv (fs.drop i) (gs.drop i) = cv fs gs) : cv fs gs = false := by
  rw [← hg, dropS fs i hi]
  by_cases h4 : gs.length ≤ i
  · rw [List.drop_of_length_le h4, cv_none _ h2]
  · rw [dropS gs i (by omega), cv_cons _ _ _ h2]
    by_cases h5 : gs.getD i [] = [35]
    · rw [if_pos h5]
    · rw [if_neg h5, if_neg]
      intro h6
      rcases h3 with (h3 | h3) | h3
      · omega
      · exact h5 h3
      · rcases h6 with h6 | h6
        · exact h3.1 h6
        · exact h3.2 h6
set_option maxHeartbeats 1000000 in
theorem c_CoversOf (w : World) (a b : List UInt8) (hf : a.length < 4294967281) (hn : b.length < 4294967281) : Calls Tryd.prog 22 #[.string ⟨a.toArray⟩, .string ⟨b.toArray⟩] w
    fun e w' => e = .returned (.bool (cv (lev a) (levC b))) ∧ Mod [] w w' := by
  refine as_called (run_plain2 (ρ := [.s a, .s b]) sxE_ok Tryd.func22 tree_dragomanref_CoversOf rfl rfl rfl ?_) rfl
  simp only [Tree.goal, X.P, X.ev, V.toI_i, V.toB_b, V.toS_s, V.toR_r, V.toV_v, V.toN_n, V.toL_l, SV.ev, CV.ev, Sc.ev, List.getD_cons_zero, List.getD_cons_succ, List.getElem?_cons_zero, List.getElem?_cons_succ, List.map_cons, List.map_nil, List.length_cons, List.length_nil, List.cons_append, List.nil_append, Nat.zero_add, Nat.reduceAdd]
  intro w1 hr
  refine (c_LevelsOf w1 a (by omega)).mono ?_
  rintro e w2 ⟨v1, rfl, r1, f1, m1⟩
  refine ⟨[.v v1, .r ((lev a).map encS)], rfl, rfl, m1, List.forall_mem_nil _, List.forall_mem_cons.2 ⟨⟨r1, fun k hk => .inl (f1 k hk)⟩, List.forall_mem_nil _⟩, apart_one, ?_⟩
  simp only [Tree.goal, X.P, X.ev, V.toI_i, V.toB_b, V.toS_s, V.toR_r, V.toV_v, V.toN_n, V.toL_l, SV.ev, CV.ev, Sc.ev, List.getD_cons_zero, List.getD_cons_succ, List.getElem?_cons_zero, List.getElem?_cons_succ, List.map_cons, List.map_nil, List.length_cons, List.length_nil, List.cons_append, List.nil_append, Nat.zero_add, Nat.reduceAdd]
  intro w3 hr
  refine (c_LevelsOf w3 b (by omega)).mono ?_
  rintro e w4 ⟨v2, rfl, r1, f1, m1⟩
  refine ⟨[.v v2, .r ((lev b).map encS)], rfl, rfl, m1, List.forall_mem_nil _, List.forall_mem_cons.2 ⟨⟨r1, fun k hk => .inl (f1 k hk)⟩, List.forall_mem_nil _⟩, apart_one, ?_⟩
  simp only [Tree.goal, X.P, X.ev, V.toI_i, V.toB_b, V.toS_s, V.toR_r, V.toV_v, V.toN_n, V.toL_l, SV.ev, CV.ev, Sc.ev, List.getD_cons_zero, List.getD_cons_succ, List.getElem?_cons_zero, List.getElem?_cons_succ, List.map_cons, List.map_nil, List.length_cons, List.length_nil, List.cons_append, List.nil_append, Nat.zero_add, Nat.reduceAdd, List.length_map]
  have l1 := lev_count a
  have l2 := lev_count b
  generalize lev a = fs at *
  refine ⟨fun h => ?_, fun h => ?_⟩
  · have hC : levC b = (lev b).take ((lev b).length - 1) ++ [[43], [35]] := if_pos h
    obtain ⟨y, ys, e5⟩ := lev_ne b
    have hpos : 0 < (lev b).length := by rw [e5]; simp
    have e6 : (((lev b).length : Int) - 1).toNat = (lev b).length - 1 := by omega
    have e7 : ([] ++ List.drop (Int.toNat 0) (List.take ((lev b).length - 1) ((lev b).map encS)) ++ ([] ++ [[Value.string ⟨[43].toArray⟩]] ++ [[Value.string ⟨[35].toArray⟩]]) : List (List Value)) = (levC b).map encS := by
      rw [hC]; simp [encS]
    rw [e6]
    simp only [List.nil_append, List.cons_append] at e7 ⊢
    have e8 : (List.drop (Int.toNat 0) (List.take ((lev b).length - 1) ((lev b).map encS))).length = (lev b).length - 1 := by simp
    rw [e7]
    have hCl : (levC b).length = (lev b).length + 1 := by rw [hC]; simp; omega
    generalize levC b = gs at hCl ⊢
    rw [e8]
    (repeat refine ⟨by omega, ?_⟩)
    intro v3
    (repeat refine ⟨by omega, ?_⟩)
    intro v4
    (repeat refine ⟨by omega, ?_⟩)
    intro v5
    (repeat refine ⟨by omega, ?_⟩)
    intro v6
    (repeat refine ⟨by omega, ?_⟩)
    intro v7
    refine ⟨fun vs => ∃ (x : V) (i : Nat), vs = [x, .i i] ∧ i ≤ fs.length ∧ i ≤ gs.length ∧ cv (fs.drop i) (gs.drop i) = cv fs gs, fun vs => fs.length - (vs.getD 1 (.i 0)).toI.toNat, ⟨_, 0, rfl, by omega, by omega, rfl⟩, ?_⟩; rintro _ - ⟨x, i, rfl, hi, hj, hg⟩; simp only [Tree.goal, X.P, X.ev, V.toI_i, V.toB_b, V.toS_s, V.toR_r, V.toV_v, V.toN_n, V.toL_l, SV.ev, CV.ev, Sc.ev, List.getD_cons_zero, List.getD_cons_succ, List.getElem?_cons_zero, List.getElem?_cons_succ, List.map_cons, List.map_nil, List.length_cons, List.length_nil, List.cons_append, List.nil_append, Nat.zero_add, Nat.reduceAdd, Int.toNat_natCast, List.length_map, gS_encS]; refine ⟨fun h1 => ⟨by omega, fun h2 w' hr => ⟨?_, hr.mod⟩, fun h2 => ?_⟩, fun h1 w' hr => ⟨?_, hr.mod⟩⟩; (· rw [dropS fs i (by omega), cv_all _ _ h2] at hg; rw [← hg]); (· refine ⟨by omega, by omega, fun h3 w' hr => ⟨by rw [cv_stop (by omega) h2 h3 hg], hr.mod⟩, fun h3 => ?_⟩; obtain ⟨q1, q2⟩ := cv_loop (by omega) h2 h3 hg; exact ⟨by omega, by omega, ⟨x, i + 1, rfl, by omega, q1, q2⟩, by omega⟩); (· have : i = fs.length := (by omega); subst this; rw [List.drop_length] at hg; rw [← hg]; simp only [cv, Ending.returned.injEq, Value.bool.injEq]; exact decide_eq_decide.2 (by rw [List.drop_eq_nil_iff]; omega))
  · rw [levC_no h]
    generalize lev b = gs at *
    refine ⟨fun vs => ∃ (x : V) (i : Nat), vs = [x, .i i] ∧ i ≤ fs.length ∧ i ≤ gs.length ∧ cv (fs.drop i) (gs.drop i) = cv fs gs, fun vs => fs.length - (vs.getD 1 (.i 0)).toI.toNat, ⟨_, 0, rfl, by omega, by omega, rfl⟩, ?_⟩; rintro _ - ⟨x, i, rfl, hi, hj, hg⟩; simp only [Tree.goal, X.P, X.ev, V.toI_i, V.toB_b, V.toS_s, V.toR_r, V.toV_v, V.toN_n, V.toL_l, SV.ev, CV.ev, Sc.ev, List.getD_cons_zero, List.getD_cons_succ, List.getElem?_cons_zero, List.getElem?_cons_succ, List.map_cons, List.map_nil, List.length_cons, List.length_nil, List.cons_append, List.nil_append, Nat.zero_add, Nat.reduceAdd, Int.toNat_natCast, List.length_map, gS_encS]; refine ⟨fun h1 => ⟨by omega, fun h2 w' hr => ⟨?_, hr.mod⟩, fun h2 => ?_⟩, fun h1 w' hr => ⟨?_, hr.mod⟩⟩; (· rw [dropS fs i (by omega), cv_all _ _ h2] at hg; rw [← hg]); (· refine ⟨by omega, by omega, fun h3 w' hr => ⟨by rw [cv_stop (by omega) h2 h3 hg], hr.mod⟩, fun h3 => ?_⟩; obtain ⟨q1, q2⟩ := cv_loop (by omega) h2 h3 hg; exact ⟨by omega, by omega, ⟨x, i + 1, rfl, by omega, q1, q2⟩, by omega⟩); (· have : i = fs.length := (by omega); subst this; rw [List.drop_length] at hg; rw [← hg]; simp only [cv, Ending.returned.injEq, Value.bool.injEq]; exact decide_eq_decide.2 (by rw [List.drop_eq_nil_iff]; omega))
end Go.Proofs.YtkalmhdckoocbaaDoor
