/-
  Sessions: what is checked of them. By an AI agent.
-/
import Derived.Test.YtcbkkjbgacjncaaDoorZ09
import Derived.Test.YtcbkkjbgacjncaaDoorZ10
set_option linter.unusedSimpArgs false
set_option linter.unusedVariables false
namespace Go.Proofs.YtcbkkjbgacjncaaDoor
open Go.Sx

/-- A flight: its number, its topic, its payload. -/
abbrev Fl := Int × List UInt8 × List UInt8
def encF (f : Fl) : List Value := [.int .i64 f.1, .string ⟨f.2.1.toArray⟩, .string ⟨f.2.2.toArray⟩]
abbrev fD : Fl := (0, [], [])
abbrev kF : List Kd := [.int .i64, .str, .str]
theorem gF0 (l : List Fl) (i : Nat) : Value.gI (((l.map encF).getD i []).getD 0 undef) = (l.getD i fD).1 := by
  simp only [List.getD_eq_getElem?_getD, List.getElem?_map]
  cases l[i]? <;> rfl
theorem gF1 (l : List Fl) (i : Nat) : Value.gS (((l.map encF).getD i []).getD 1 undef) = (l.getD i fD).2.1 := by
  simp only [List.getD_eq_getElem?_getD, List.getElem?_map]
  cases l[i]? <;> simp [encF, Value.gS, undef]
theorem gF2 (l : List Fl) (i : Nat) : Value.gS (((l.map encF).getD i []).getD 2 undef) = (l.getD i fD).2.2 := by
  simp only [List.getD_eq_getElem?_getD, List.getElem?_map]
  cases l[i]? <;> simp [encF, Value.gS, undef]
abbrev readsF (w : World) (v : Value) (l : List Fl) : Prop := reads w v kF (l.map encF)
theorem readsF_nil (w : World) : readsF w (.slice none 0 0) [] := ⟨by simp, none, 0, rfl, ⟨fun _ => rfl, Nat.le_refl _⟩, fun h => absurd rfl h⟩
theorem dropF (l : List Fl) (i : Nat) (h : i < l.length) : l.drop i = l.getD i fD :: l.drop (i + 1) := by
  rw [List.drop_eq_getElem_cons h, List.getD_eq_getElem?_getD, List.getElem?_eq_getElem h]; rfl
theorem takeF (l : List Fl) (i : Nat) (h : i < l.length) : l.take (i + 1) = l.take i ++ [l.getD i fD] := by
  rw [List.take_add_one, List.getD_eq_getElem?_getD, List.getElem?_eq_getElem h]; rfl
theorem getTakeF (l : List Fl) {k i : Nat} (h : k < i) : (l.take i).getD k fD = l.getD k fD := by
  simp only [List.getD_eq_getElem?_getD, List.getElem?_take, if_pos h]
def smallF (l : List Fl) : Prop := ∀ x ∈ l, x.2.1.length < 4294967281
theorem smallF_at {l : List Fl} (h : smallF l) (i : Nat) : (l.getD i fD).2.1.length < 4294967281 := by
  by_cases hi : i < l.length
  · rw [List.getD_eq_getElem?_getD, List.getElem?_eq_getElem hi]; exact h _ (List.getElem_mem hi)
  · rw [List.getD_eq_getElem?_getD, List.getElem?_eq_none (by omega)]; decide

/-- What is wrong with a flight by itself. -/
def flE (f : Fl) : Int := if chkT f.2.1 false = 0 then (if 200 < (f.2.2.length : Int) then 2 else 0) else chkT f.2.1 false
def idIs (n : Int) (f : Fl) : Bool := decide (f.1 = n)
/-- What is wrong with flights behind others. -/
def chkFl : List Fl → List Fl → Int
  | _, [] => 0
  | prev, f :: l => if flE f ≠ 0 then flE f else if 1 ≤ f.1 ∧ f.1 ≤ 65535 then if prev.any (idIs f.1) = true then 6 else chkFl (prev ++ [f]) l else 3
/-- What is wrong with what waits. -/
def chkQu : List Fl → Int
  | [] => 0
  | f :: l => if flE f ≠ 0 then flE f else if f.1 = 0 then chkQu l else 1
structure Ses where
  cl : List UInt8
  on : Bool
  clean : Bool
  fl : List Fl
  qu : List Fl
  next : Int
  deriving DecidableEq
def sesV (s : Ses) (u v : Value) : Value := .agg #[.string ⟨s.cl.toArray⟩, .bool s.on, .bool s.clean, sc1 u, sc1 v, .int .i64 s.next]
def clientB (s : List UInt8) : Bool := decide (1 ≤ (s.length : Int) ∧ (s.length : Int) ≤ 20) && plainS s
def allS (s : Ses) : Int := if chkFl [] s.fl = 0 then chkQu s.qu else chkFl [] s.fl
def chkS (s : Ses) : Int :=
  if clientB s.cl = true then
    if 3 < (s.fl.length : Int) ∨ 6 < (s.qu.length : Int) then 2
    else if allS s = 0 then
      if 1 ≤ s.next ∧ s.next ≤ 65535 then
        if ((¬s.on = true ∧ s.clean = true) ∧ 0 < (s.fl.length : Int) + s.qu.length) ∨ ((s.on = true ∧ 0 < (s.qu.length : Int)) ∧ (s.fl.length : Int) < 3) then 4 else 0
      else 3
    else allS s
  else 1

theorem c_Client (w : World) (s : List UInt8) (hs : s.length < 1099511627776) : Calls Tryd.prog 25 #[.string ⟨s.toArray⟩] w fun e w' => e = .returned (.bool (clientB s)) ∧ Mod [] w w' := by
  refine as_called (run_plain2 (ρ := [.s s]) sxE_ok Tryd.func25 tree_packet_Client rfl rfl rfl ?_) rfl
  simp only [Tree.goal, X.P, X.ev, V.toI_i, V.toB_b, V.toS_s, V.toR_r, V.toV_v, V.toN_n, V.toL_l, SV.ev, CV.ev, Sc.ev, List.getD_cons_zero, List.getD_cons_succ, List.getElem?_cons_zero, List.getElem?_cons_succ, List.map_cons, List.map_nil, List.length_cons, List.length_nil, List.cons_append, List.nil_append, Nat.zero_add, Nat.reduceAdd]
  refine ⟨[.b (plainS s)], rfl, fun _ w' _ => c_Plain w' s hs, ?_⟩
  simp only [Tree.goal, X.P, X.ev, V.toI_i, V.toB_b, V.toS_s, V.toR_r, V.toV_v, V.toN_n, V.toL_l, SV.ev, CV.ev, Sc.ev, List.getD_cons_zero, List.getD_cons_succ, List.getElem?_cons_zero, List.getElem?_cons_succ, List.map_cons, List.map_nil, List.length_cons, List.length_nil, List.cons_append, List.nil_append, Nat.zero_add, Nat.reduceAdd]
  exact fun w' hr => ⟨by simp [clientB], hr.mod⟩
theorem c_flight (w : World) (f : Fl) (hn : f.2.1.length < 4294967281) : Calls Tryd.prog 29 #[.agg #[.int .i64 f.1, .string ⟨f.2.1.toArray⟩, .string ⟨f.2.2.toArray⟩]] w fun e w' => e = .returned (.int .i64 (flE f)) ∧ Mod [] w w' := by
  refine as_called (run_plain2 (ρ := [.i f.1, .s f.2.1, .s f.2.2]) sxE_ok Tryd.func29 tree_session_flight rfl rfl rfl ?_) rfl
  simp only [Tree.goal, X.P, X.ev, V.toI_i, V.toB_b, V.toS_s, V.toR_r, V.toV_v, V.toN_n, V.toL_l, SV.ev, CV.ev, Sc.ev, List.getD_cons_zero, List.getD_cons_succ, List.getElem?_cons_zero, List.getElem?_cons_succ, List.map_cons, List.map_nil, List.length_cons, List.length_nil, List.cons_append, List.nil_append, Nat.zero_add, Nat.reduceAdd]
  intro b
  refine ⟨[.i (chkT f.2.1 false)], rfl, fun _ w' _ => c_Name w' _ hn, ?_⟩
  simp only [Tree.goal, X.P, X.ev, V.toI_i, V.toB_b, V.toS_s, V.toR_r, V.toV_v, V.toN_n, V.toL_l, SV.ev, CV.ev, Sc.ev, List.getD_cons_zero, List.getD_cons_succ, List.getElem?_cons_zero, List.getElem?_cons_succ, List.map_cons, List.map_nil, List.length_cons, List.length_nil, List.cons_append, List.nil_append, Nat.zero_add, Nat.reduceAdd]
  refine ⟨fun h w' hr => ⟨by rw [flE, if_neg h], hr.mod⟩, fun h => ⟨fun h1 w' hr => ⟨by rw [flE, if_pos (Classical.not_not.1 h), if_pos h1], hr.mod⟩, fun h1 w' hr => ⟨by rw [flE, if_pos (Classical.not_not.1 h), if_neg h1], hr.mod⟩⟩⟩
theorem c_sid (w : World) (n : Int) : Calls Tryd.prog 27 #[.int .i64 n] w fun e w' => e = .returned (.bool (decide (1 ≤ n ∧ n ≤ 65535))) ∧ Mod [] w w' := by
  refine as_called (run_plain2 (ρ := [.i n]) sxE_ok Tryd.func27 tree_session_id rfl rfl rfl ?_) rfl
  simp only [Tree.goal, X.P, X.ev, V.toI_i, V.toB_b, V.toS_s, V.toR_r, V.toV_v, V.toN_n, V.toL_l, SV.ev, CV.ev, Sc.ev, List.getD_cons_zero, List.getD_cons_succ, List.getElem?_cons_zero, List.getElem?_cons_succ, List.map_cons, List.map_nil, List.length_cons, List.length_nil, List.cons_append, List.nil_append, Nat.zero_add, Nat.reduceAdd]
  exact fun w' hr => ⟨by simp, hr.mod⟩
theorem anyF_snoc (p : Fl → Bool) (l : List Fl) (k : Nat) (h : k < l.length) : (l.take (k + 1)).any p = ((l.take k).any p || p (l.getD k fD)) := by
  rw [takeF l k h, List.any_append]; simp
theorem anyF_at {p : Fl → Bool} {l : List Fl} {k i : Nat} (hk : k < i) (hi : i ≤ l.length) (h : p (l.getD k fD) = true) : (l.take i).any p = true := by
  rw [List.any_eq_true]
  refine ⟨l.getD k fD, ?_, h⟩
  rw [← getTakeF l hk, List.getD_eq_getElem?_getD, List.getElem?_eq_getElem (by simp; omega)]
  exact List.getElem_mem _
theorem both_same {p : Prop} (h : p) : p ∧ p := ⟨h, h⟩
theorem c_with (w : World) (v : Value) (l : List Fl) (n : Int) (hv : readsF w v l) (hl : l.length < 1000000000) : Calls Tryd.prog 38 #[sc1 v, .int .i64 n] w fun e w' => e = .returned (.bool (l.any (idIs n))) ∧ Mod [] w w' := by
  refine as_called (run_tree2 (ρ := [.v v, .r (l.map encF), .i n]) sxE_ok Tryd.func38 tree_session_with rfl rfl (Rel.start2 (by simp [Ent.holds, Ent.wr, hv, X.ev])) rfl rfl ?_) rfl
  simp only [Tree.goal, X.P, X.ev, V.toI_i, V.toB_b, V.toS_s, V.toR_r, V.toV_v, V.toN_n, V.toL_l, SV.ev, CV.ev, Sc.ev, List.getD_cons_zero, List.getD_cons_succ, List.getElem?_cons_zero, List.getElem?_cons_succ, List.map_cons, List.map_nil, List.length_cons, List.length_nil, List.cons_append, List.nil_append, Nat.zero_add, Nat.reduceAdd]
  intro b
  refine ⟨fun vs => ∃ (i : Nat) (x : V), vs = [x, .i i, .i n] ∧ i ≤ l.length ∧ (l.take i).any (idIs n) = false, fun vs => l.length - (vs.getD 1 (.i 0)).toI.toNat, ⟨0, _, rfl, by omega, by simp⟩, ?_⟩
  rintro _ - ⟨i, x, rfl, hi, hno⟩
  simp only [Tree.goal, X.P, X.ev, V.toI_i, V.toB_b, V.toS_s, V.toR_r, V.toV_v, V.toN_n, V.toL_l, SV.ev, CV.ev, Sc.ev, List.getD_cons_zero, List.getD_cons_succ, List.getElem?_cons_zero, List.getElem?_cons_succ, List.map_cons, List.map_nil, List.length_cons, List.length_nil, List.cons_append, List.nil_append, Nat.zero_add, Nat.reduceAdd, List.length_map, Int.toNat_natCast, gF0, gF1, gF2]
  refine ⟨fun h1 => ⟨by omega, fun b2 => ⟨fun h2 w' hr => ⟨?_, hr.mod⟩, fun h2 => ⟨by omega, by omega, ⟨i + 1, x, rfl, by omega, ?_⟩, by omega⟩⟩⟩, fun h1 w' hr => ⟨?_, hr.mod⟩⟩
  · have := anyF_at (p := idIs n) (l := l) (k := i) (i := l.length) (by omega) (Nat.le_refl _) (by simp only [idIs, decide_eq_true_eq]; exact h2)
    rw [List.take_length] at this
    rw [this]; simp
  · rw [anyF_snoc _ l i (by omega), hno, Bool.false_or]
    simp only [idIs, decide_eq_false_iff_not]; exact h2
  · have : i = l.length := by omega
    subst this
    rw [List.take_length] at hno
    rw [hno]; rfl
set_option maxHeartbeats 1000000 in
theorem c_all (w : World) (s : Ses) (u v : Value) (hu : readsF w u s.fl) (hv : readsF w v s.qu) (h1 : smallF s.fl) (h2 : smallF s.qu) (hl1 : s.fl.length < 1000000000) (hl2 : s.qu.length < 1000000000) : Calls Tryd.prog 26 #[sesV s u v] w
    fun e w' => e = .returned (.int .i64 (allS s)) ∧ Mod [] w w' := by
  refine as_called (run_tree2 (ρ := [.s s.cl, .b s.on, .b s.clean, .v u, .r (s.fl.map encF), .v v, .r (s.qu.map encF), .i s.next]) sxE_ok Tryd.func26 tree_session_all rfl rfl (Rel.start2 (by simp [Ent.holds, Ent.wr, hu, hv, X.ev])) rfl rfl ?_) rfl
  simp only [Tree.goal, X.P, X.ev, V.toI_i, V.toB_b, V.toS_s, V.toR_r, V.toV_v, V.toN_n, V.toL_l, SV.ev, CV.ev, Sc.ev, List.getD_cons_zero, List.getD_cons_succ, List.getElem?_cons_zero, List.getElem?_cons_succ, List.map_cons, List.map_nil, List.length_cons, List.length_nil, List.cons_append, List.nil_append, Nat.zero_add, Nat.reduceAdd]
  intro b
  refine ⟨fun vs => ∃ (i : Nat) (x : V), vs = [x, .i i] ∧ i ≤ s.fl.length ∧ chkFl (s.fl.take i) (s.fl.drop i) = chkFl [] s.fl, fun vs => s.fl.length - (vs.getD 1 (.i 0)).toI.toNat, ⟨0, _, rfl, by omega, rfl⟩, ?_⟩
  rintro _ - ⟨i, x, rfl, hi, hg⟩
  simp only [Tree.goal, X.P, X.ev, V.toI_i, V.toB_b, V.toS_s, V.toR_r, V.toV_v, V.toN_n, V.toL_l, SV.ev, CV.ev, Sc.ev, List.getD_cons_zero, List.getD_cons_succ, List.getElem?_cons_zero, List.getElem?_cons_succ, List.map_cons, List.map_nil, List.length_cons, List.length_nil, List.cons_append, List.nil_append, Nat.zero_add, Nat.reduceAdd, List.length_map, Int.toNat_natCast, gF0, gF1, gF2]
  refine ⟨fun h3 => ⟨by omega, fun b2 => ?_⟩, fun h3 => ?_⟩
  · have hsm := smallF_at h1 i
    rw [dropF _ i (by omega)] at hg
    simp only [chkFl] at hg
    refine ⟨[.i (flE (s.fl.getD i fD))], rfl, fun _ w' _ => c_flight w' (s.fl.getD i fD) hsm, ?_⟩
    simp only [Tree.goal, X.P, X.ev, V.toI_i, V.toB_b, V.toS_s, V.toR_r, V.toV_v, V.toN_n, V.toL_l, SV.ev, CV.ev, Sc.ev, List.getD_cons_zero, List.getD_cons_succ, List.getElem?_cons_zero, List.getElem?_cons_succ, List.map_cons, List.map_nil, List.length_cons, List.length_nil, List.cons_append, List.nil_append, Nat.zero_add, Nat.reduceAdd, List.length_map, Int.toNat_natCast, gF0, gF1, gF2]
    refine ⟨fun h4 w' hr => ⟨?_, hr.mod⟩, fun h4 => ?_⟩
    · rw [if_pos h4] at hg
      rw [allS, ← hg, if_neg h4]
    rw [if_neg h4] at hg
    refine ⟨[.b (decide (1 ≤ (s.fl.getD i fD).1 ∧ (s.fl.getD i fD).1 ≤ 65535))], rfl, fun _ w' _ => c_sid w' _, ?_⟩
    simp only [Tree.goal, X.P, X.ev, V.toI_i, V.toB_b, V.toS_s, V.toR_r, V.toV_v, V.toN_n, V.toL_l, SV.ev, CV.ev, Sc.ev, List.getD_cons_zero, List.getD_cons_succ, List.getElem?_cons_zero, List.getElem?_cons_succ, List.map_cons, List.map_nil, List.length_cons, List.length_nil, List.cons_append, List.nil_append, Nat.zero_add, Nat.reduceAdd, List.length_map, Int.toNat_natCast, gF0, gF1, gF2, decide_eq_true_eq]
    refine ⟨fun h5 w' hr => ⟨?_, hr.mod⟩, fun h5 => ?_⟩
    · rw [if_neg h5] at hg
      rw [allS, ← hg]; rfl
    rw [if_pos (Classical.not_not.1 h5)] at hg
    first | refine both_same ?_ | skip
    refine ⟨by omega, fun v9 => ?_⟩
    refine ⟨[.b ((s.fl.take i).any (idIs (s.fl.getD i fD).1))], rfl, fun _ w' hr => ?_, ?_⟩
    · have h0 := hr.at_ 0 rfl
      simp only [Ent.holds, Tree.goal, X.P, X.ev, V.toI_i, V.toB_b, V.toS_s, V.toR_r, V.toV_v, V.toN_n, V.toL_l, SV.ev, CV.ev, Sc.ev, List.getD_cons_zero, List.getD_cons_succ, List.getElem?_cons_zero, List.getElem?_cons_succ, List.map_cons, List.map_nil, List.length_cons, List.length_nil, List.cons_append, List.nil_append, Nat.zero_add, Nat.reduceAdd, Int.toNat_zero, List.drop_zero, Int.toNat_natCast, ← List.map_take] at h0
      exact c_with w' v9 _ _ h0 (by rw [List.length_take]; omega)
    simp only [Tree.goal, X.P, X.ev, V.toI_i, V.toB_b, V.toS_s, V.toR_r, V.toV_v, V.toN_n, V.toL_l, SV.ev, CV.ev, Sc.ev, List.getD_cons_zero, List.getD_cons_succ, List.getElem?_cons_zero, List.getElem?_cons_succ, List.map_cons, List.map_nil, List.length_cons, List.length_nil, List.cons_append, List.nil_append, Nat.zero_add, Nat.reduceAdd, List.length_map, Int.toNat_natCast, gF0, gF1, gF2]
    refine ⟨fun h6 w' hr => ⟨?_, hr.mod⟩, fun h6 => ?_⟩
    · rw [if_pos h6] at hg
      rw [allS, ← hg]; rfl
    · rw [if_neg h6, ← takeF _ i (by omega)] at hg
      exact ⟨by omega, by omega, ⟨i + 1, x, rfl, by omega, hg⟩, by omega⟩
  · have : i = s.fl.length := by omega
    subst this
    rw [List.drop_length] at hg
    have hg : chkFl [] s.fl = 0 := hg.symm
    rw [allS, if_pos hg]
    refine ⟨fun vs => ∃ (i : Nat) (x : V), vs = [x, .i i] ∧ i ≤ s.qu.length ∧ chkQu (s.qu.drop i) = chkQu s.qu, fun vs => s.qu.length - (vs.getD 1 (.i 0)).toI.toNat, ⟨0, _, rfl, by omega, rfl⟩, ?_⟩
    rintro _ - ⟨i, x, rfl, hi, hg⟩
    simp only [Tree.goal, X.P, X.ev, V.toI_i, V.toB_b, V.toS_s, V.toR_r, V.toV_v, V.toN_n, V.toL_l, SV.ev, CV.ev, Sc.ev, List.getD_cons_zero, List.getD_cons_succ, List.getElem?_cons_zero, List.getElem?_cons_succ, List.map_cons, List.map_nil, List.length_cons, List.length_nil, List.cons_append, List.nil_append, Nat.zero_add, Nat.reduceAdd, List.length_map, Int.toNat_natCast, gF0, gF1, gF2]
    refine ⟨fun h3 => ⟨by omega, fun b2 => ?_⟩, fun h3 w' hr => ⟨?_, hr.mod⟩⟩
    · have hsm := smallF_at h2 i
      rw [dropF _ i (by omega)] at hg
      simp only [chkQu] at hg
      refine ⟨[.i (flE (s.qu.getD i fD))], rfl, fun _ w' _ => c_flight w' (s.qu.getD i fD) hsm, ?_⟩
      simp only [Tree.goal, X.P, X.ev, V.toI_i, V.toB_b, V.toS_s, V.toR_r, V.toV_v, V.toN_n, V.toL_l, SV.ev, CV.ev, Sc.ev, List.getD_cons_zero, List.getD_cons_succ, List.getElem?_cons_zero, List.getElem?_cons_succ, List.map_cons, List.map_nil, List.length_cons, List.length_nil, List.cons_append, List.nil_append, Nat.zero_add, Nat.reduceAdd, List.length_map, Int.toNat_natCast, gF0, gF1, gF2]
      refine ⟨fun h4 w' hr => ⟨?_, hr.mod⟩, fun h4 => ⟨fun h5 w' hr => ⟨?_, hr.mod⟩, fun h5 => ?_⟩⟩
      · rw [if_pos h4] at hg
        rw [← hg]
      · rw [if_neg h4, if_neg h5] at hg
        rw [← hg]
      · rw [if_neg h4, if_pos (Classical.not_not.1 h5)] at hg
        exact ⟨by omega, by omega, ⟨i + 1, x, rfl, by omega, hg⟩, by omega⟩
    · have : i = s.qu.length := by omega
      subst this
      rw [List.drop_length] at hg
      rw [← hg]; rfl
set_option maxHeartbeats 1000000 in
theorem c_CheckS (w : World) (s : Ses) (u v : Value) (hu : readsF w u s.fl) (hv : readsF w v s.qu) (h1 : smallF s.fl) (h2 : smallF s.qu) (hl1 : s.fl.length < 1000000000) (hl2 : s.qu.length < 1000000000) (hc : s.cl.length < 1099511627776) : Calls Tryd.prog 12 #[sesV s u v] w
    fun e w' => e = .returned (.int .i64 (chkS s)) ∧ Mod [] w w' := by
  refine as_called (run_tree2 (ρ := [.s s.cl, .b s.on, .b s.clean, .v u, .r (s.fl.map encF), .v v, .r (s.qu.map encF), .i s.next]) sxE_ok Tryd.func12 tree_session_Check rfl rfl (Rel.start2 (by simp [Ent.holds, Ent.wr, hu, hv, X.ev])) rfl rfl ?_) rfl
  simp only [Tree.goal, X.P, X.ev, V.toI_i, V.toB_b, V.toS_s, V.toR_r, V.toV_v, V.toN_n, V.toL_l, SV.ev, CV.ev, Sc.ev, List.getD_cons_zero, List.getD_cons_succ, List.getElem?_cons_zero, List.getElem?_cons_succ, List.map_cons, List.map_nil, List.length_cons, List.length_nil, List.cons_append, List.nil_append, Nat.zero_add, Nat.reduceAdd]
  intro b
  refine ⟨[.b (clientB s.cl)], rfl, fun _ w' _ => c_Client w' _ hc, ?_⟩
  simp only [Tree.goal, X.P, X.ev, V.toI_i, V.toB_b, V.toS_s, V.toR_r, V.toV_v, V.toN_n, V.toL_l, SV.ev, CV.ev, Sc.ev, List.getD_cons_zero, List.getD_cons_succ, List.getElem?_cons_zero, List.getElem?_cons_succ, List.map_cons, List.map_nil, List.length_cons, List.length_nil, List.cons_append, List.nil_append, Nat.zero_add, Nat.reduceAdd, List.length_map]
  refine ⟨fun h w' hr => ⟨by rw [chkS, if_neg h], hr.mod⟩, fun h => ?_⟩
  rw [chkS, if_pos (Classical.not_not.1 h)]
  refine ⟨fun h w' hr => ⟨by rw [if_pos h], hr.mod⟩, fun h => ?_⟩
  rw [if_neg h]
  refine ⟨[.i (allS s)], rfl, fun _ w' hr => c_all w' s u v (hr.at_ 1 rfl) (hr.at_ 2 rfl) h1 h2 hl1 hl2, ?_⟩
  simp only [Tree.goal, X.P, X.ev, V.toI_i, V.toB_b, V.toS_s, V.toR_r, V.toV_v, V.toN_n, V.toL_l, SV.ev, CV.ev, Sc.ev, List.getD_cons_zero, List.getD_cons_succ, List.getElem?_cons_zero, List.getElem?_cons_succ, List.map_cons, List.map_nil, List.length_cons, List.length_nil, List.cons_append, List.nil_append, Nat.zero_add, Nat.reduceAdd, List.length_map]
  refine ⟨fun h w' hr => ⟨by rw [if_neg h], hr.mod⟩, fun h => ?_⟩
  rw [if_pos (Classical.not_not.1 h)]
  refine ⟨[.b (decide (1 ≤ s.next ∧ s.next ≤ 65535))], rfl, fun _ w' _ => c_sid w' _, ?_⟩
  simp only [Tree.goal, X.P, X.ev, V.toI_i, V.toB_b, V.toS_s, V.toR_r, V.toV_v, V.toN_n, V.toL_l, SV.ev, CV.ev, Sc.ev, List.getD_cons_zero, List.getD_cons_succ, List.getElem?_cons_zero, List.getElem?_cons_succ, List.map_cons, List.map_nil, List.length_cons, List.length_nil, List.cons_append, List.nil_append, Nat.zero_add, Nat.reduceAdd, List.length_map, decide_eq_true_eq]
  refine ⟨fun h w' hr => ⟨by rw [if_neg h], hr.mod⟩, fun h => ?_⟩
  rw [if_pos (Classical.not_not.1 h)]
  refine ⟨.inr (by omega), fun h w' hr => ⟨by rw [if_pos (.inl h)], hr.mod⟩, fun h => ⟨fun h1 w' hr => ⟨by rw [if_pos (.inr h1)], hr.mod⟩, fun h1 w' hr => ⟨by rw [if_neg (fun h2 => h2.elim h h1)], hr.mod⟩⟩⟩
theorem Ses.eq_iff {a b : Ses} : a = b ↔ a.cl = b.cl ∧ a.on = b.on ∧ a.clean = b.clean ∧ a.next = b.next ∧ a.fl = b.fl ∧ a.qu = b.qu := by
  cases a; cases b
  simp only [Ses.mk.injEq]
  exact ⟨fun ⟨h1, h2, h3, h5, h6, h4⟩ => ⟨h1, h2, h3, h4, h5, h6⟩, fun ⟨h1, h2, h3, h4, h5, h6⟩ => ⟨h1, h2, h3, h5, h6, h4⟩⟩
end Go.Proofs.YtcbkkjbgacjncaaDoor

/-
  Sessions: packets that are sent; copies of flights; are they what they must be? By an AI agent.
-/
set_option linter.unusedSimpArgs false
set_option linter.unusedVariables false
namespace Go.Proofs.YtcbkkjbgacjncaaDoor
open Go.Sx

/-- A packet that a session sends: dup, qos, id, topic, payload. -/
abbrev Pk := Bool × Int × Int × List UInt8 × List UInt8
def encP (p : Pk) : List Value := [.int .i64 3, .bool p.1, .bool false, .bool false, .bool false, .int .i64 p.2.1, .int .i64 p.2.2.1, .int .i64 0, .int .i64 0, .string ⟨([] : List UInt8).toArray⟩, .string ⟨p.2.2.2.1.toArray⟩, .string ⟨p.2.2.2.2.toArray⟩, .slice none 0 0, .slice none 0 0]
abbrev pD : Pk := (false, 0, 0, [], [])
abbrev kP : List Kd := [.int .i64, .bool, .bool, .bool, .bool, .int .i64, .int .i64, .int .i64, .int .i64, .str, .str, .str, .oth, .oth]
abbrev readsP (w : World) (v : Value) (l : List Pk) : Prop := reads w v kP (l.map encP)
theorem reads_nil (w : World) (ks : List Kd) : reads w (.slice none 0 0) ks [] := ⟨by simp, none, 0, rfl, ⟨fun _ => rfl, Nat.le_refl _⟩, fun h => absurd rfl h⟩
theorem gP_at {l : List Pk} {i : Nat} (h : i < l.length) : (l.map encP).getD i [] = encP (l.getD i pD) := by
  simp only [List.getD_eq_getElem?_getD, List.getElem?_map, List.getElem?_eq_getElem h]; rfl
abbrev ownsF (w : World) (v : Value) (l : List Fl) : Prop := owns w v 44 kF (l.map encF)
theorem nil_rows {v : Value} (hn : (match v with | .slice none _ _ => true | _ => false) = true) {w : World} {ks : List Kd} {rows : List (List Value)} (h : reads w v ks rows) : rows = [] := by
  obtain ⟨_, a, cap, rfl, _, h2⟩ := h
  refine Classical.byContradiction fun hne => ?_
  obtain ⟨ad, rfl, _⟩ := h2 hne
  simp at hn
theorem c_CloneF (w : World) (v : Value) (l : List Fl) (hv : readsF w v l) (hl : l.length < 1000000000) : Calls Tryd.prog 49 #[sc1 v] w
    fun e w' => ∃ v', e = .returned (sc1 v') ∧ ownsF w' v' l ∧ (∀ k, blockOf v' k → w.heap.size ≤ k) ∧ Mod [] w w' := by
  refine as_called (run_tree2 (ρ := [.v v, .r (l.map encF)]) sxE_ok Tryd.func49 tree_slices_Clone_api_Flight_api_Flight rfl rfl (Rel.start2 (by simp [Ent.holds, Ent.wr, hv, X.ev])) rfl rfl ?_) rfl
  simp only [Tree.goal, X.P, X.ev, V.toI_i, V.toB_b, V.toS_s, V.toR_r, V.toV_v, V.toN_n, V.toL_l, SV.ev, CV.ev, Sc.ev, List.getD_cons_zero, List.getD_cons_succ, List.getElem?_cons_zero, List.getElem?_cons_succ, List.map_cons, List.map_nil, List.length_cons, List.length_nil, List.cons_append, List.nil_append, Nat.zero_add, Nat.reduceAdd, List.length_map, List.nil_append]
  refine ⟨fun h w' hr => ?_, fun h v1 => ⟨by simp only [Int.natCast_zero]; omega, fun v2 w' hr => ?_⟩⟩
  · have hn : l = [] := List.map_eq_nil_iff.1 (nil_rows h hv)
    subst hn
    refine ⟨_, rfl, hr.at_ 0 rfl, fun k hk => ?_, hr.mod⟩
    rcases hr.own _ (List.mem_cons_self ..) rfl k hk with h | h
    · exact h
    · simp at h
  · refine ⟨v2, rfl, hr.at_ 0 rfl, fun k hk => ?_, hr.mod⟩
    rcases hr.own _ (List.mem_cons_self ..) rfl k hk with h | h
    · exact h
    · simp at h
/-- No session. -/
def s0 : Ses := ⟨[], false, false, [], [], 0⟩
end Go.Proofs.YtcbkkjbgacjncaaDoor

/-
  Sessions: the plain law of what flies. By an AI agent.
-/
set_option linter.unusedSimpArgs false
set_option linter.unusedVariables false
namespace Go.Proofs.YtcbkkjbgacjncaaDoor
open Go.Sx

/-- The next number; it goes round. -/
def nx (n : Int) : Int := n % 65535 + 1
def used (fl : List Fl) (n : Int) : Bool := fl.any (idIs n)
/-- The first number from n on that none of fewer than three flights has. -/
def freeId (fl : List Fl) (n : Int) : Int := if used fl n = true then (if used fl (nx n) = true then nx (nx n) else nx n) else n
theorem nx_ok {n : Int} (h : 1 ≤ n ∧ n ≤ 65535) : (1 ≤ nx n ∧ nx n ≤ 65535) ∧ nx n ≠ n ∧ nx (nx n) ≠ n ∧ nx (nx n) ≠ nx n := by
  unfold nx; omega
/-- As the reference reckons it. -/
theorem nx_if {n : Int} (h : 1 ≤ n ∧ n ≤ 65535) : nx n = if 65535 < n + 1 then 1 else n + 1 := by
  unfold nx; split <;> omega
theorem pigeon {fl : List Fl} {a b c : Int} (hl : fl.length < 3) (ha : used fl a = true) (hb : used fl b = true) (hc : used fl c = true) (h1 : a ≠ b) (h2 : a ≠ c) (h3 : b ≠ c) : False := by
  match fl, hl with
  | [], _ => simp [used] at ha
  | [x], _ => simp [used, idIs] at ha hb; omega
  | [x, y], _ => simp [used, idIs] at ha hb hc; omega
  | _ :: _ :: _ :: _, hl => simp at hl; omega
theorem free_free {fl : List Fl} {n : Int} (hl : fl.length < 3) (h : 1 ≤ n ∧ n ≤ 65535) : used fl (freeId fl n) = false := by
  obtain ⟨-, h1, h2, h3⟩ := nx_ok h
  unfold freeId
  split
  · rename_i u1
    split
    · rename_i u2
      cases u3 : used fl (nx (nx n)) with
      | false => rfl
      | true => exact (pigeon hl u1 u2 u3 (Ne.symm h1) (Ne.symm h2) (Ne.symm h3)).elim
    · rename_i u2; simpa using u2
  · rename_i u1; simpa using u1
theorem free_ok {fl : List Fl} {n : Int} (h : 1 ≤ n ∧ n ≤ 65535) : 1 ≤ freeId fl n ∧ freeId fl n ≤ 65535 := by
  obtain ⟨h1, -⟩ := nx_ok h
  unfold freeId
  split
  · split
    · exact (nx_ok h1).1
    · exact h1
  · exact h

/-- What flies out of what waits. -/
def flyR (on : Bool) : List Fl → List Fl → Int → List Pk → List Fl × List Fl × Int × List Pk
  | fl, [], next, out => (fl, [], next, out)
  | fl, f :: q, next, out =>
    if on = true ∧ fl.length < 3 then flyR on (fl ++ [(freeId fl next, f.2.1, f.2.2)]) q (nx (freeId fl next)) (out ++ [(false, 1, freeId fl next, f.2.1, f.2.2)])
    else (fl, f :: q, next, out)
theorem flyR_stop {on : Bool} {fl qu : List Fl} {next : Int} {out : List Pk} (h : ¬((on = true ∧ 0 < qu.length) ∧ fl.length < 3)) : flyR on fl qu next out = (fl, qu, next, out) := by
  cases qu with
  | nil => rfl
  | cons f q =>
    rw [flyR, if_neg]
    intro h2
    exact h ⟨⟨h2.1, by simp⟩, h2.2⟩
theorem flyR_step {on : Bool} {fl qu : List Fl} {next : Int} {out : List Pk} (h : (on = true ∧ 0 < qu.length) ∧ fl.length < 3) :
    flyR on fl qu next out = flyR on (fl ++ [(freeId fl next, (qu.getD 0 fD).2.1, (qu.getD 0 fD).2.2)]) (qu.drop 1) (nx (freeId fl next)) (out ++ [(false, 1, freeId fl next, (qu.getD 0 fD).2.1, (qu.getD 0 fD).2.2)]) := by
  cases qu with
  | nil => simp at h
  | cons f q =>
    rw [flyR, if_pos ⟨h.1.1, h.2⟩]
    rfl
theorem flyR_len (on : Bool) : ∀ (qu fl : List Fl) (next : Int) (out : List Pk), (flyR on fl qu next out).1.length ≤ fl.length + qu.length ∧ (flyR on fl qu next out).2.1.length ≤ qu.length ∧ (flyR on fl qu next out).2.2.2.length ≤ out.length + qu.length := by
  intro qu
  induction qu with
  | nil => intro fl next out; simp [flyR]
  | cons f q ih =>
    intro fl next out
    rw [flyR]
    split
    · obtain ⟨h1, h2, h3⟩ := ih (fl ++ [(freeId fl next, f.2.1, f.2.2)]) (nx (freeId fl next)) (out ++ [(false, 1, freeId fl next, f.2.1, f.2.2)])
      simp only [List.length_append, List.length_cons, List.length_nil] at h1 h2 h3 ⊢
      omega
    · simp
end Go.Proofs.YtcbkkjbgacjncaaDoor

/-
  Sessions: who goes. By an AI agent.
-/
set_option linter.unusedSimpArgs false
set_option linter.unusedVariables false
namespace Go.Proofs.YtcbkkjbgacjncaaDoor
open Go.Sx

/-- A slice is new, or it is one of a session's. -/
def fromS (n : Nat) (s : Ses) (u v x : Value) (l : List Fl) : Prop :=
  ∀ k, (l.map encF).flatten ≠ [] ∧ blockOf x k → n ≤ k ∨ ((s.fl.map encF).flatten ≠ [] ∧ blockOf u k) ∨ ((s.qu.map encF).flatten ≠ [] ∧ blockOf v k)
theorem fromS_nil {n : Nat} {s : Ses} {u v x : Value} : fromS n s u v x [] := fun k hk => absurd rfl hk.1
/-- A session is what comes. -/
def gotS (w w' : World) (s : Ses) (u v : Value) (e : Ending) (r : Ses) : Prop :=
  ∃ u' v', e = .returned (sesV r u' v') ∧ readsF w' u' r.fl ∧ readsF w' v' r.qu ∧ fromS w.heap.size s u v u' r.fl ∧ fromS w.heap.size s u v v' r.qu ∧ Mod [] w w'
def goR (s : Ses) : Ses := { s with on := false, fl := if s.clean = true then [] else s.fl, qu := if s.clean = true then [] else s.qu }
end Go.Proofs.YtcbkkjbgacjncaaDoor
