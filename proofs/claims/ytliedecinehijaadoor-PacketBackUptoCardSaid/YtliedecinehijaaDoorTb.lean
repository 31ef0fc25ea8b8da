/-
  Topics: what is wrong with one. By an AI agent.
-/
import Derived.Test.YtliedecinehijaaDoorTa
set_option linter.unusedSimpArgs false
set_option linter.unusedVariables false
namespace Go.Proofs.YtliedecinehijaaDoor
open Go.Sx

theorem c_Split (w : World) (s : List UInt8) (hs : s.length < 4294967281) : Calls Tryd.prog 111 #[.string ⟨s.toArray⟩, .string ⟨#[47]⟩] w
    fun e w' => ∃ v, e = .returned (sc1 v) ∧ readsS w' v (lev s) ∧ freshS w.heap.size v (lev s) ∧ Mod [] w w' := by
  refine as_called (run_plain2 (ρ := [.s s, .s [47]]) sxE_ok Tryd.func111 tree_strings_Split rfl rfl rfl ?_) rfl
  simp only [Tree.goal, X.P, X.ev, V.toI_i, V.toB_b, V.toS_s, V.toR_r, V.toV_v, V.toN_n, V.toL_l, SV.ev, CV.ev, Sc.ev, List.getD_cons_zero, List.getD_cons_succ, List.getElem?_cons_zero, List.getElem?_cons_succ, List.map_cons, List.map_nil, List.length_cons, List.length_nil, List.cons_append, List.nil_append, Nat.zero_add, Nat.reduceAdd]
  intro w1 hr
  refine (c_genSplit w1 s hs).mono ?_
  rintro e w2 ⟨v1, rfl, r1, f1, m1⟩
  have hsz := hr.mod.size
  refine ⟨[.v v1, .r ((lev s).map encS)], rfl, rfl, m1, List.forall_mem_nil _, List.forall_mem_cons.2 ⟨⟨r1, fun k hk => .inl (f1 k hk)⟩, List.forall_mem_nil _⟩, apart_one, ?_⟩
  simp only [Tree.goal, X.P, X.ev, V.toI_i, V.toB_b, V.toS_s, V.toR_r, V.toV_v, V.toN_n, V.toL_l, SV.ev, CV.ev, Sc.ev, List.getD_cons_zero, List.getD_cons_succ, List.getElem?_cons_zero, List.getElem?_cons_succ, List.map_cons, List.map_nil, List.length_cons, List.length_nil, List.cons_append, List.nil_append, Nat.zero_add, Nat.reduceAdd]
  exact fun w' hr => ⟨v1, rfl, hr.at_ 0 rfl, fun k hk => Nat.le_trans hsz (f1 k hk), hr.mod⟩
theorem c_Levels (w : World) (s : List UInt8) (hs : s.length < 4294967281) : Calls Tryd.prog 59 #[.string ⟨s.toArray⟩] w
    fun e w' => ∃ v, e = .returned (sc1 v) ∧ readsS w' v (lev s) ∧ freshS w.heap.size v (lev s) ∧ Mod [] w w' := by
  refine as_called (run_plain2 (ρ := [.s s]) sxE_ok Tryd.func59 tree_topic_Levels rfl rfl rfl ?_) rfl
  simp only [Tree.goal, X.P, X.ev, V.toI_i, V.toB_b, V.toS_s, V.toR_r, V.toV_v, V.toN_n, V.toL_l, SV.ev, CV.ev, Sc.ev, List.getD_cons_zero, List.getD_cons_succ, List.getElem?_cons_zero, List.getElem?_cons_succ, List.map_cons, List.map_nil, List.length_cons, List.length_nil, List.cons_append, List.nil_append, Nat.zero_add, Nat.reduceAdd]
  intro w1 hr
  refine (c_Split w1 s hs).mono ?_
  rintro e w2 ⟨v1, rfl, r1, f1, m1⟩
  have hsz := hr.mod.size
  refine ⟨[.v v1, .r ((lev s).map encS)], rfl, rfl, m1, List.forall_mem_nil _, List.forall_mem_cons.2 ⟨⟨r1, fun k hk => .inl (f1 k hk)⟩, List.forall_mem_nil _⟩, apart_one, ?_⟩
  simp only [Tree.goal, X.P, X.ev, V.toI_i, V.toB_b, V.toS_s, V.toR_r, V.toV_v, V.toN_n, V.toL_l, SV.ev, CV.ev, Sc.ev, List.getD_cons_zero, List.getD_cons_succ, List.getElem?_cons_zero, List.getElem?_cons_succ, List.map_cons, List.map_nil, List.length_cons, List.length_nil, List.cons_append, List.nil_append, Nat.zero_add, Nat.reduceAdd]
  exact fun w' hr => ⟨v1, rfl, hr.at_ 0 rfl, fun k hk => Nat.le_trans hsz (f1 k hk), hr.mod⟩

/-- Only signs that may be seen. -/
def plainS (s : List UInt8) : Bool := s.all fun b => decide (33 ≤ b.toNat ∧ b.toNat ≤ 126)
theorem plain_snoc (s : List UInt8) (i : Nat) (h : i < s.length) : plainS (s.take (i + 1)) = (plainS (s.take i) && decide (33 ≤ (s.getD i 0).toNat ∧ (s.getD i 0).toNat ≤ 126)) := by
  rw [List.take_add_one, List.getD_eq_getElem?_getD, List.getElem?_eq_getElem h]
  simp only [plainS, List.all_append, Option.toList_some, List.all_cons, List.all_nil, Bool.and_true, Option.getD_some]
theorem plain_not {s : List UInt8} {i : Nat} (h : i < s.length) (h1 : ¬ (33 ≤ (s.getD i 0).toNat ∧ (s.getD i 0).toNat ≤ 126)) : plainS s = false := by
  rw [← Bool.not_eq_true]
  intro h2
  rw [plainS, List.all_eq_true] at h2
  have := h2 (s.getD i 0) (by rw [List.getD_eq_getElem?_getD, List.getElem?_eq_getElem h]; exact List.getElem_mem h)
  exact h1 (of_decide_eq_true this)
theorem c_IsPlain (w : World) (s : List UInt8) (hs : s.length < 1099511627776) : Calls Tryd.prog 63 #[.string ⟨s.toArray⟩] w fun e w' => e = .returned (.bool (plainS s)) ∧ Mod [] w w' := by
  refine as_called (run_plain2 (ρ := [.s s]) sxE_ok Tryd.func63 tree_dragomanref_IsPlain rfl rfl rfl ?_) rfl
  simp only [Tree.goal, X.P, X.ev, V.toI_i, V.toB_b, V.toS_s, V.toR_r, V.toV_v, V.toN_n, V.toL_l, SV.ev, CV.ev, Sc.ev, List.getD_cons_zero, List.getD_cons_succ, List.getElem?_cons_zero, List.getElem?_cons_succ, List.map_cons, List.map_nil, List.length_cons, List.length_nil, List.cons_append, List.nil_append, Nat.zero_add, Nat.reduceAdd]
  refine ⟨fun vs => ∃ (x : V) (i : Nat), vs = [x, .i i] ∧ i ≤ s.length ∧ plainS (s.take i) = true, fun vs => s.length - (vs.getD 1 (.i 0)).toI.toNat, ⟨_, 0, rfl, by omega, rfl⟩, ?_⟩
  rintro _ - ⟨x, i, rfl, hi, hp⟩
  simp only [Tree.goal, X.P, X.ev, V.toI_i, V.toB_b, V.toS_s, V.toR_r, V.toV_v, V.toN_n, V.toL_l, SV.ev, CV.ev, Sc.ev, List.getD_cons_zero, List.getD_cons_succ, List.getElem?_cons_zero, List.getElem?_cons_succ, List.map_cons, List.map_nil, List.length_cons, List.length_nil, List.cons_append, List.nil_append, Nat.zero_add, Nat.reduceAdd, Int.toNat_natCast]
  refine ⟨fun h1 => ⟨by omega, fun h2 w' hr => ⟨by rw [plain_not (i := i) (by omega) (by omega)], hr.mod⟩, fun h2 => ⟨by omega, by omega, ⟨x, i + 1, rfl, by omega, ?_⟩, by omega⟩⟩, fun h1 w' hr => ⟨?_, hr.mod⟩⟩
  · rw [plain_snoc _ _ (by omega), hp, Bool.true_and, decide_eq_true_eq]; omega
  · have : i = s.length := by omega
    subst this
    rw [List.take_length] at hp; rw [hp]
theorem c_Plain (w : World) (s : List UInt8) (hs : s.length < 1099511627776) : Calls Tryd.prog 141 #[.string ⟨s.toArray⟩] w fun e w' => e = .returned (.bool (plainS s)) ∧ Mod [] w w' := by
  refine as_called (run_plain2 (ρ := [.s s]) sxE_ok Tryd.func141 tree_topic_Plain rfl rfl rfl ?_) rfl
  simp only [Tree.goal, X.P, X.ev, V.toI_i, V.toB_b, V.toS_s, V.toR_r, V.toV_v, V.toN_n, V.toL_l, SV.ev, CV.ev, Sc.ev, List.getD_cons_zero, List.getD_cons_succ, List.getElem?_cons_zero, List.getElem?_cons_succ, List.map_cons, List.map_nil, List.length_cons, List.length_nil, List.cons_append, List.nil_append, Nat.zero_add, Nat.reduceAdd]
  refine ⟨fun vs => ∃ (x : V) (i : Nat), vs = [x, .i i] ∧ i ≤ s.length ∧ plainS (s.take i) = true, fun vs => s.length - (vs.getD 1 (.i 0)).toI.toNat, ⟨_, 0, rfl, by omega, rfl⟩, ?_⟩
  rintro _ - ⟨x, i, rfl, hi, hp⟩
  simp only [Tree.goal, X.P, X.ev, V.toI_i, V.toB_b, V.toS_s, V.toR_r, V.toV_v, V.toN_n, V.toL_l, SV.ev, CV.ev, Sc.ev, List.getD_cons_zero, List.getD_cons_succ, List.getElem?_cons_zero, List.getElem?_cons_succ, List.map_cons, List.map_nil, List.length_cons, List.length_nil, List.cons_append, List.nil_append, Nat.zero_add, Nat.reduceAdd, Int.toNat_natCast]
  refine ⟨fun h1 => ⟨by omega, fun h2 w' hr => ⟨by rw [plain_not (i := i) (by omega) (by omega)], hr.mod⟩, fun h2 => ⟨by omega, by omega, ⟨x, i + 1, rfl, by omega, ?_⟩, by omega⟩⟩, fun h1 w' hr => ⟨?_, hr.mod⟩⟩
  · rw [plain_snoc _ _ (by omega), hp, Bool.true_and, decide_eq_true_eq]; omega
  · have : i = s.length := by omega
    subst this
    rw [List.take_length] at hp; rw [hp]

/-- Has a level a sign for others? -/
def wild (x : List UInt8) : Bool := x.any fun b => b == 43 || b == 35
theorem has_wild : ∀ x : List UInt8, Lib.containsAny x [43, 35] = wild x := by
  intro x
  induction x with
  | nil => rfl
  | cons b l ih =>
    have hg := Lib.indexAny_ge [43, 35] l
    unfold Lib.containsAny at ih ⊢
    unfold Lib.indexAny
    simp only [wild, List.any_cons]
    by_cases h : b = 43 ∨ b = 35
    · have h1 : ([43, 35] : List UInt8).contains b = true := by rcases h with h | h <;> subst h <;> decide
      have h2 : (b == 43 || b == 35) = true := by rcases h with h | h <;> subst h <;> decide
      rw [if_pos h1, h2] <;> rfl
    · have h1 : ¬ ([43, 35] : List UInt8).contains b = true := by simp; exact ⟨fun h2 => h (.inl h2), fun h2 => h (.inr h2)⟩
      have h2 : (b == 43 || b == 35) = false := by simp; exact ⟨fun h2 => h (.inl h2), fun h2 => h (.inr h2)⟩
      rw [if_neg h1, h2, Bool.false_or]
      change _ = wild l
      rw [← ih]
      by_cases h3 : Lib.indexAny l [43, 35] = -1
      · rw [if_pos (by simpa using h3), h3] <;> rfl
      · rw [if_neg (by simpa using h3)]
        exact decide_eq_decide.2 (by omega)
theorem c_ContainsAny (w : World) (x : List UInt8) (hs : x.length < 4294967281) (ha : ∀ b ∈ x, b.toNat < 128) : Calls Tryd.prog 142 #[.string ⟨x.toArray⟩, .string ⟨#[43, 35]⟩] w fun e w' => e = .returned (.bool (wild x)) ∧ Mod [] w w' := by
  refine (as_called (Any.strings_ContainsAny_laid Tryd.lays150 (by kernel_rfl) ⟨x.toArray⟩ ⟨#[43, 35]⟩ w hs (by decide) (fun j b hb => ha b (List.mem_of_getElem? hb)) (fun j b hb => ?_)) rfl).mono ?_
  · have : b ∈ ([43, 35] : List UInt8) := List.mem_of_getElem? hb
    simp at this
    rcases this with rfl | rfl <;> decide
  · rintro e w' ⟨h1, h2⟩
    refine ⟨?_, Mod.of_below h2⟩
    rw [h1]
    exact congrArg (fun b => Ending.returned (Value.bool b)) (has_wild x)

/-- Levels that may not stand there. -/
def badL (filter : Bool) : List (List UInt8) → Bool
  | [] => false
  | x :: r => (wild x && (!filter || (!decide (x = [43]) && (!decide (x = [35]) || !decide (r = []))))) || badL filter r
/-- What is wrong with a topic, or a filter. -/
def chkT (s : List UInt8) (filter : Bool) : Int :=
  if s = [] then 1 else if 60 < (s.length : Int) ∨ 6 < ((lev s).length : Int) then 2 else if plainS s = true then (if badL filter (lev s) = true then 1 else 0) else 1
theorem chkT_nil {f : Bool} : chkT [] f = 1 := rfl
theorem chkT_many {s : List UInt8} {f : Bool} (h : ¬ s = []) (h1 : 60 < (s.length : Int) ∨ 6 < ((lev s).length : Int)) : chkT s f = 2 := by rw [chkT, if_neg h, if_pos h1]
theorem chkT_plain {s : List UInt8} {f : Bool} (h : ¬ s = []) (h1 : ¬ (60 < (s.length : Int) ∨ 6 < ((lev s).length : Int))) (h2 : ¬ plainS s = true) : chkT s f = 1 := by rw [chkT, if_neg h, if_neg h1, if_neg h2]
theorem chkT_lev {s : List UInt8} {f : Bool} (h : ¬ s = []) (h1 : ¬ (60 < (s.length : Int) ∨ 6 < ((lev s).length : Int))) (h2 : plainS s = true) : chkT s f = if badL f (lev s) = true then 1 else 0 := by rw [chkT, if_neg h, if_neg h1, if_pos h2]

theorem lev_mem : ∀ {s x : List UInt8}, x ∈ lev s → ∀ b ∈ x, b ∈ s := by
  intro s
  induction s with
  | nil => intro x hx b hb; simp [lev] at hx; subst hx; simp at hb
  | cons c l ih =>
    intro x hx b hb
    by_cases hc : c = 47
    · subst hc
      rw [lev_slash] at hx
      rcases List.mem_cons.1 hx with rfl | hx
      · simp at hb
      · exact List.mem_cons_of_mem _ (ih hx b hb)
    · obtain ⟨y, ys, e⟩ := lev_ne l
      rw [lev_other _ hc, e] at hx
      rcases List.mem_cons.1 hx with rfl | hx
      · rcases List.mem_append.1 hb with hb | hb
        · simp at hb; subst hb; simp
        · exact List.mem_cons_of_mem _ (ih (by rw [e]; exact List.mem_cons_self ..) b hb)
      · exact List.mem_cons_of_mem _ (ih (by rw [e]; exact List.mem_cons_of_mem _ hx) b hb)
theorem getD_mem {ps : List (List UInt8)} {i : Nat} (h : i < ps.length) : ps.getD i [] ∈ ps := by
  rw [List.getD_eq_getElem?_getD, List.getElem?_eq_getElem h]; exact List.getElem_mem h
theorem lev_ascii {s : List UInt8} (hp : plainS s = true) {i : Nat} (h : i < (lev s).length) : ∀ b ∈ (lev s).getD i [], b.toNat < 128 := fun b hb => by
  have h1 := lev_mem (getD_mem h) b hb
  have := of_decide_eq_true (List.all_eq_true.1 hp b h1)
  omega
theorem lev_size {s x : List UInt8} (hx : x ∈ lev s) : x.length ≤ s.length := by
  induction s generalizing x with
  | nil => simp [lev] at hx; subst hx; simp
  | cons c l ih =>
    by_cases hc : c = 47
    · subst hc
      rw [lev_slash] at hx
      rcases List.mem_cons.1 hx with rfl | hx
      · simp
      · have := ih hx; simp; omega
    · obtain ⟨y, ys, e⟩ := lev_ne l
      rw [lev_other _ hc, e] at hx
      rcases List.mem_cons.1 hx with rfl | hx
      · have := ih (x := y) (by rw [e]; exact List.mem_cons_self ..); simp; omega
      · have := ih (x := x) (by rw [e]; exact List.mem_cons_of_mem _ hx); simp; omega
theorem lev_count (s : List UInt8) : (lev s).length ≤ s.length + 1 := by
  induction s with
  | nil => simp [lev]
  | cons c l ih =>
    by_cases hc : c = 47
    · subst hc; rw [lev_slash]; simp; omega
    · obtain ⟨y, ys, e⟩ := lev_ne l
      rw [lev_other _ hc, e]; rw [e] at ih; simp [glue] at *; omega

set_option maxHeartbeats 1000000 in
theorem c_Name (w : World) (s : List UInt8) (hs : s.length < 4294967281) : Calls Tryd.prog 57 #[.string ⟨s.toArray⟩] w fun e w' => e = .returned (.int .i64 (chkT s false)) ∧ Mod [] w w' := by
  refine as_called (run_plain2 (ρ := [.s s]) sxE_ok Tryd.func57 tree_topic_Name rfl rfl rfl ?_) rfl
  simp only [Tree.goal, X.P, X.ev, V.toI_i, V.toB_b, V.toS_s, V.toR_r, V.toV_v, V.toN_n, V.toL_l, SV.ev, CV.ev, Sc.ev, List.getD_cons_zero, List.getD_cons_succ, List.getElem?_cons_zero, List.getElem?_cons_succ, List.map_cons, List.map_nil, List.length_cons, List.length_nil, List.cons_append, List.nil_append, Nat.zero_add, Nat.reduceAdd]
  intro w1 hr; refine (c_Levels w1 s (by omega)).mono ?_; rintro e w2 ⟨v1, rfl, r1, f1, m1⟩; refine ⟨[.v v1, .r ((lev s).map encS)], rfl, rfl, m1, List.forall_mem_nil _, List.forall_mem_cons.2 ⟨⟨r1, fun k hk => .inl (f1 k hk)⟩, List.forall_mem_nil _⟩, apart_one, ?_⟩; simp only [Tree.goal, X.P, X.ev, V.toI_i, V.toB_b, V.toS_s, V.toR_r, V.toV_v, V.toN_n, V.toL_l, SV.ev, CV.ev, Sc.ev, List.getD_cons_zero, List.getD_cons_succ, List.getElem?_cons_zero, List.getElem?_cons_succ, List.map_cons, List.map_nil, List.length_cons, List.length_nil, List.cons_append, List.nil_append, Nat.zero_add, Nat.reduceAdd, List.length_map]; have hlc := lev_count s; refine ⟨fun h w' hr => ⟨by rw [h, chkT_nil], hr.mod⟩, fun h => ⟨fun h1 w' hr => ⟨by rw [chkT_many h h1], hr.mod⟩, fun h1 => ?_⟩⟩
  refine ⟨[.b (plainS s)], rfl, fun _ w' _ => c_Plain w' s (by omega), ?_⟩; simp only [Tree.goal, X.P, X.ev, V.toI_i, V.toB_b, V.toS_s, V.toR_r, V.toV_v, V.toN_n, V.toL_l, SV.ev, CV.ev, Sc.ev, List.getD_cons_zero, List.getD_cons_succ, List.getElem?_cons_zero, List.getElem?_cons_succ, List.map_cons, List.map_nil, List.length_cons, List.length_nil, List.cons_append, List.nil_append, Nat.zero_add, Nat.reduceAdd]; refine ⟨fun h2 w' hr => ⟨by rw [chkT_plain h h1 h2], hr.mod⟩, fun h2 => ?_⟩; (have h2 := Classical.not_not.1 h2); rw [chkT_lev h h1 h2]
  refine ⟨fun vs => ∃ (x : V) (i : Nat), vs = [x, .i i] ∧ i ≤ (lev s).length ∧ badL false ((lev s).drop i) = badL false (lev s), fun vs => (lev s).length - (vs.getD 1 (.i 0)).toI.toNat, ⟨_, 0, rfl, by omega, rfl⟩, ?_⟩
  rintro _ - ⟨x, i, rfl, hi, hg⟩
  simp only [Tree.goal, X.P, X.ev, V.toI_i, V.toB_b, V.toS_s, V.toR_r, V.toV_v, V.toN_n, V.toL_l, SV.ev, CV.ev, Sc.ev, List.getD_cons_zero, List.getD_cons_succ, List.getElem?_cons_zero, List.getElem?_cons_succ, List.map_cons, List.map_nil, List.length_cons, List.length_nil, List.cons_append, List.nil_append, Nat.zero_add, Nat.reduceAdd, Int.toNat_natCast, List.length_map, gS_encS]
  refine ⟨fun h3 => ?_, fun h3 w' hr => ⟨?_, hr.mod⟩⟩
  · rw [dropS _ i (by omega)] at hg
    have hsz := lev_size (getD_mem (ps := lev s) (i := i) (by omega))
    have has := lev_ascii h2 (i := i) (by omega)
    generalize (lev s).getD i [] = y at hg hsz has ⊢
    (repeat refine ⟨by omega, ?_⟩)
    refine ⟨[.b (wild y)], rfl, fun _ w' _ => c_ContainsAny w' y (by omega) has, ?_⟩
    simp only [Tree.goal, X.P, X.ev, V.toI_i, V.toB_b, V.toS_s, V.toR_r, V.toV_v, V.toN_n, V.toL_l, SV.ev, CV.ev, Sc.ev, List.getD_cons_zero, List.getD_cons_succ, List.getElem?_cons_zero, List.getElem?_cons_succ, List.map_cons, List.map_nil, List.length_cons, List.length_nil, List.cons_append, List.nil_append, Nat.zero_add, Nat.reduceAdd]
    simp only [badL, Bool.not_false, Bool.true_or, Bool.and_true] at hg
    refine ⟨fun h4 w' hr => ⟨by rw [← hg, h4]; rfl, hr.mod⟩, fun h4 => ⟨by omega, by omega, ⟨x, i + 1, rfl, by omega, ?_⟩, by omega⟩⟩
    rw [← hg, (Bool.not_eq_true _).mp h4]; simp
  · have : i = (lev s).length := by omega
    subst this
    rw [List.drop_length] at hg; rw [← hg]; rfl
set_option maxHeartbeats 1000000 in
theorem c_Filter (w : World) (s : List UInt8) (hs : s.length < 4294967281) : Calls Tryd.prog 69 #[.string ⟨s.toArray⟩] w fun e w' => e = .returned (.int .i64 (chkT s true)) ∧ Mod [] w w' := by
  refine as_called (run_plain2 (ρ := [.s s]) sxE_ok Tryd.func69 tree_topic_Filter rfl rfl rfl ?_) rfl
  simp only [Tree.goal, X.P, X.ev, V.toI_i, V.toB_b, V.toS_s, V.toR_r, V.toV_v, V.toN_n, V.toL_l, SV.ev, CV.ev, Sc.ev, List.getD_cons_zero, List.getD_cons_succ, List.getElem?_cons_zero, List.getElem?_cons_succ, List.map_cons, List.map_nil, List.length_cons, List.length_nil, List.cons_append, List.nil_append, Nat.zero_add, Nat.reduceAdd]
  intro w1 hr; refine (c_Levels w1 s (by omega)).mono ?_; rintro e w2 ⟨v1, rfl, r1, f1, m1⟩; refine ⟨[.v v1, .r ((lev s).map encS)], rfl, rfl, m1, List.forall_mem_nil _, List.forall_mem_cons.2 ⟨⟨r1, fun k hk => .inl (f1 k hk)⟩, List.forall_mem_nil _⟩, apart_one, ?_⟩; simp only [Tree.goal, X.P, X.ev, V.toI_i, V.toB_b, V.toS_s, V.toR_r, V.toV_v, V.toN_n, V.toL_l, SV.ev, CV.ev, Sc.ev, List.getD_cons_zero, List.getD_cons_succ, List.getElem?_cons_zero, List.getElem?_cons_succ, List.map_cons, List.map_nil, List.length_cons, List.length_nil, List.cons_append, List.nil_append, Nat.zero_add, Nat.reduceAdd, List.length_map]; have hlc := lev_count s; refine ⟨fun h w' hr => ⟨by rw [h, chkT_nil], hr.mod⟩, fun h => ⟨fun h1 w' hr => ⟨by rw [chkT_many h h1], hr.mod⟩, fun h1 => ?_⟩⟩
  refine ⟨[.b (plainS s)], rfl, fun _ w' _ => c_Plain w' s (by omega), ?_⟩; simp only [Tree.goal, X.P, X.ev, V.toI_i, V.toB_b, V.toS_s, V.toR_r, V.toV_v, V.toN_n, V.toL_l, SV.ev, CV.ev, Sc.ev, List.getD_cons_zero, List.getD_cons_succ, List.getElem?_cons_zero, List.getElem?_cons_succ, List.map_cons, List.map_nil, List.length_cons, List.length_nil, List.cons_append, List.nil_append, Nat.zero_add, Nat.reduceAdd]; refine ⟨fun h2 w' hr => ⟨by rw [chkT_plain h h1 h2], hr.mod⟩, fun h2 => ?_⟩; (have h2 := Classical.not_not.1 h2); rw [chkT_lev h h1 h2]
  refine ⟨fun vs => ∃ (x : V) (i : Nat), vs = [x, .i i] ∧ i ≤ (lev s).length ∧ badL true ((lev s).drop i) = badL true (lev s), fun vs => (lev s).length - (vs.getD 1 (.i 0)).toI.toNat, ⟨_, 0, rfl, by omega, rfl⟩, ?_⟩
  rintro _ - ⟨x, i, rfl, hi, hg⟩
  simp only [Tree.goal, X.P, X.ev, V.toI_i, V.toB_b, V.toS_s, V.toR_r, V.toV_v, V.toN_n, V.toL_l, SV.ev, CV.ev, Sc.ev, List.getD_cons_zero, List.getD_cons_succ, List.getElem?_cons_zero, List.getElem?_cons_succ, List.map_cons, List.map_nil, List.length_cons, List.length_nil, List.cons_append, List.nil_append, Nat.zero_add, Nat.reduceAdd, Int.toNat_natCast, List.length_map, gS_encS]
  refine ⟨fun h3 => ?_, fun h3 w' hr => ⟨?_, hr.mod⟩⟩
  · rw [dropS _ i (by omega)] at hg
    have hsz := lev_size (getD_mem (ps := lev s) (i := i) (by omega))
    have has := lev_ascii h2 (i := i) (by omega)
    have hlast : (lev s).drop (i + 1) = [] ↔ (i : Int) = ((lev s).length : Int) - 1 := by rw [List.drop_eq_nil_iff]; omega
    generalize (lev s).getD i [] = y at hg hsz has ⊢
    (repeat refine ⟨by omega, ?_⟩)
    refine ⟨[.b (wild y)], rfl, fun _ w' _ => c_ContainsAny w' y (by omega) has, ?_⟩
    simp only [Tree.goal, X.P, X.ev, V.toI_i, V.toB_b, V.toS_s, V.toR_r, V.toV_v, V.toN_n, V.toL_l, SV.ev, CV.ev, Sc.ev, List.getD_cons_zero, List.getD_cons_succ, List.getElem?_cons_zero, List.getElem?_cons_succ, List.map_cons, List.map_nil, List.length_cons, List.length_nil, List.cons_append, List.nil_append, Nat.zero_add, Nat.reduceAdd]
    have key : (¬((¬wild y = true ∨ y = [43]) ∨ y = [35] ∧ (i : Int) = ((lev s).length : Int) - 1)) ↔ (wild y && (!true || (!decide (y = [43]) && (!decide (y = [35]) || !decide ((lev s).drop (i + 1) = []))))) = true := by
      rw [← hlast]
      cases wild y <;> by_cases q1 : y = [43] <;> by_cases q2 : y = [35] <;> by_cases q3 : (lev s).drop (i + 1) = [] <;> simp [q1, q2, q3]
    simp only [badL] at hg
    refine ⟨fun h4 w' hr => ⟨by rw [← hg, key.1 h4]; rfl, hr.mod⟩, fun h4 => ⟨by omega, by omega, ⟨x, i + 1, rfl, by omega, ?_⟩, by omega⟩⟩
    have h5 := (Bool.not_eq_true _).mp (fun h => h4 (key.2 h))
    rw [← hg, h5]; simp
  · have : i = (lev s).length := by omega
    subst this
    rw [List.drop_length] at hg; rw [← hg]; rfl
theorem wild_snoc (x : List UInt8) (k : Nat) (h : k < x.length) : wild (x.take (k + 1)) = (wild (x.take k) || (decide ((x.getD k 0).toNat = 43) || decide ((x.getD k 0).toNat = 35))) := by
  rw [List.take_add_one, List.getD_eq_getElem?_getD, List.getElem?_eq_getElem h]
  simp only [wild, List.any_append, Option.toList_some, List.any_cons, List.any_nil, Bool.or_false, Option.getD_some]
  have e1 : (x[k] == 43) = decide (x[k].toNat = 43) := by rw [Bool.eq_iff_iff]; simp only [beq_iff_eq, decide_eq_true_eq]; exact ⟨fun h => by rw [h]; rfl, fun h => UInt8.toNat_inj.1 h⟩
  have e2 : (x[k] == 35) = decide (x[k].toNat = 35) := by rw [Bool.eq_iff_iff]; simp only [beq_iff_eq, decide_eq_true_eq]; exact ⟨fun h => by rw [h]; rfl, fun h => UInt8.toNat_inj.1 h⟩
  rw [e1, e2]
set_option maxHeartbeats 1000000 in
theorem c_CheckTopic (w : World) (s : List UInt8) (f : Bool) (hs : s.length < 4294967281) : Calls Tryd.prog 28 #[.string ⟨s.toArray⟩, .bool f] w fun e w' => e = .returned (.int .i64 (chkT s f)) ∧ Mod [] w w' := by
  refine as_called (run_plain2 (ρ := [.s s, .b f]) sxE_ok Tryd.func28 tree_dragomanref_CheckTopic rfl rfl rfl ?_) rfl
  simp only [Tree.goal, X.P, X.ev, V.toI_i, V.toB_b, V.toS_s, V.toR_r, V.toV_v, V.toN_n, V.toL_l, SV.ev, CV.ev, Sc.ev, List.getD_cons_zero, List.getD_cons_succ, List.getElem?_cons_zero, List.getElem?_cons_succ, List.map_cons, List.map_nil, List.length_cons, List.length_nil, List.cons_append, List.nil_append, Nat.zero_add, Nat.reduceAdd]
  intro w1 hr
  refine (c_LevelsOf w1 s (by omega)).mono ?_
  rintro e w2 ⟨v1, rfl, r1, f1, m1⟩
  refine ⟨[.v v1, .r ((lev s).map encS)], rfl, rfl, m1, List.forall_mem_nil _, List.forall_mem_cons.2 ⟨⟨r1, fun k hk => .inl (f1 k hk)⟩, List.forall_mem_nil _⟩, apart_one, ?_⟩
  simp only [Tree.goal, X.P, X.ev, V.toI_i, V.toB_b, V.toS_s, V.toR_r, V.toV_v, V.toN_n, V.toL_l, SV.ev, CV.ev, Sc.ev, List.getD_cons_zero, List.getD_cons_succ, List.getElem?_cons_zero, List.getElem?_cons_succ, List.map_cons, List.map_nil, List.length_cons, List.length_nil, List.cons_append, List.nil_append, Nat.zero_add, Nat.reduceAdd, List.length_map]
  have hlc := lev_count s
  refine ⟨fun h w' hr => ⟨by rw [h, chkT_nil], hr.mod⟩, fun h => ⟨fun h1 w' hr => ⟨by rw [chkT_many h h1], hr.mod⟩, fun h1 => ?_⟩⟩
  refine ⟨[.b (plainS s)], rfl, fun _ w' _ => c_IsPlain w' s (by omega), ?_⟩
  simp only [Tree.goal, X.P, X.ev, V.toI_i, V.toB_b, V.toS_s, V.toR_r, V.toV_v, V.toN_n, V.toL_l, SV.ev, CV.ev, Sc.ev, List.getD_cons_zero, List.getD_cons_succ, List.getElem?_cons_zero, List.getElem?_cons_succ, List.map_cons, List.map_nil, List.length_cons, List.length_nil, List.cons_append, List.nil_append, Nat.zero_add, Nat.reduceAdd]
  refine ⟨fun h2 w' hr => ⟨by rw [chkT_plain h h1 h2], hr.mod⟩, fun h2 => ?_⟩
  have h2 := Classical.not_not.1 h2
  rw [chkT_lev h h1 h2]
  refine ⟨fun vs => ∃ (x : V) (i : Nat), vs = [x, .i i] ∧ i ≤ (lev s).length ∧ badL f ((lev s).drop i) = badL f (lev s), fun vs => (lev s).length - (vs.getD 1 (.i 0)).toI.toNat, ⟨_, 0, rfl, by omega, rfl⟩, ?_⟩
  rintro _ - ⟨x, i, rfl, hi, hg⟩
  simp only [Tree.goal, X.P, X.ev, V.toI_i, V.toB_b, V.toS_s, V.toR_r, V.toV_v, V.toN_n, V.toL_l, SV.ev, CV.ev, Sc.ev, List.getD_cons_zero, List.getD_cons_succ, List.getElem?_cons_zero, List.getElem?_cons_succ, List.map_cons, List.map_nil, List.length_cons, List.length_nil, List.cons_append, List.nil_append, Nat.zero_add, Nat.reduceAdd, Int.toNat_natCast, List.length_map, gS_encS]
  refine ⟨fun h3 => ?_, fun h3 w' hr => ⟨?_, hr.mod⟩⟩
  · rw [dropS _ i (by omega)] at hg
    have hsz := lev_size (getD_mem (ps := lev s) (i := i) (by omega))
    have hlast : (lev s).drop (i + 1) = [] ↔ ¬ ((i : Int) < ((lev s).length : Int) - 1) := by rw [List.drop_eq_nil_iff]; omega
    generalize (lev s).getD i [] = y at hg hsz ⊢
    refine ⟨fun vs => ∃ (k : Nat), vs = [.b (wild (y.take k)), .i k] ∧ k ≤ y.length, fun vs => y.length - (vs.getD 1 (.i 0)).toI.toNat, ⟨0, rfl, by omega⟩, ?_⟩
    rintro _ - ⟨k, rfl, hk⟩
    simp only [Tree.goal, X.P, X.ev, V.toI_i, V.toB_b, V.toS_s, V.toR_r, V.toV_v, V.toN_n, V.toL_l, SV.ev, CV.ev, Sc.ev, List.getD_cons_zero, List.getD_cons_succ, List.getElem?_cons_zero, List.getElem?_cons_succ, List.map_cons, List.map_nil, List.length_cons, List.length_nil, List.cons_append, List.nil_append, Nat.zero_add, Nat.reduceAdd, Int.toNat_natCast, List.length_map, gS_encS]
    refine ⟨by omega, fun h4 => ?_, fun h4 => ?_⟩
    · refine ⟨.inr (by omega), .inr (by omega), by omega, by omega, ⟨k + 1, ?_, by omega⟩, by omega⟩
      rw [wild_snoc y k (by omega)]
      simp only [List.cons.injEq, V.b.injEq, and_true]
      refine ⟨?_, by simp⟩
      rw [Bool.or_assoc]
      congr 2
      · exact decide_eq_decide.2 (by omega)
      · exact decide_eq_decide.2 (by omega)
    · have : k = y.length := by omega
      subst this
      rw [List.take_length]
      have key : (wild y = true ∧ (¬ f = true ∨ ¬ y = [43] ∧ (¬ y = [35] ∨ (i : Int) < ((lev s).length : Int) - 1))) ↔ (wild y && (!f || (!decide (y = [43]) && (!decide (y = [35]) || !decide ((lev s).drop (i + 1) = []))))) = true := by
        by_cases q3 : (i : Int) < ((lev s).length : Int) - 1
        · have q4 : ¬ (lev s).drop (i + 1) = [] := fun h => hlast.1 h q3
          cases wild y <;> cases f <;> by_cases q1 : y = [43] <;> by_cases q2 : y = [35] <;> simp [q1, q2, q3, q4]
        · have q4 : (lev s).drop (i + 1) = [] := hlast.2 q3
          cases wild y <;> cases f <;> by_cases q1 : y = [43] <;> by_cases q2 : y = [35] <;> simp [q1, q2, q3, q4]
      simp only [badL] at hg
      refine ⟨.inr (by omega), .inr (by omega), fun h5 w' hr => ⟨by rw [← hg, key.1 h5]; rfl, hr.mod⟩, fun h5 => ⟨by omega, by omega, ⟨x, i + 1, rfl, by omega, ?_⟩, by omega⟩⟩
      have h6 := (Bool.not_eq_true _).mp (fun h => h5 (key.2 h))
      rw [← hg, h6]; simp
  · have : i = (lev s).length := by omega
    subst this
    rw [List.drop_length] at hg; rw [← hg]; rfl
end Go.Proofs.YtliedecinehijaaDoor
