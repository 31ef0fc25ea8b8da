/-
  Sessions: what is checked of them. By an AI agent.
-/
import Derived.Test.YtkalmhdckoocbaaDoorTc
import Derived.Test.YtkalmhdckoocbaaDoorTreesN
set_option linter.unusedSimpArgs false
set_option linter.unusedVariables false
namespace Go.Proofs.YtkalmhdckoocbaaDoor
open Go.Sx

/-- A flight: its number, its topic, its payload. -/
abbrev Fl := Int × List UInt8 × List UInt8
def encF (f : Fl) : List Value := [.int .i64 f.1, .string ⟨f.2.1.toArray⟩, .string ⟨f.2.2.toArray⟩]
abbrev fD : Fl := (0, [], [])
abbrev kF : List Kd := [.int .i64, .str, .str]
theorem gF0 (l : List Fl) (i : Nat) : Value.gI (((l.map encF).getD i []).getD 0 undef) = (l.getD i fD).1 := by
  simp only [List.getD_eq_getElem?_getD, List.getElem?_map]
  cases l[i]? <;> rfl
theorem gF1 (l : List Fl) (i : Nat) : Value.gS (((l.map encF).getD i []).getD 1 undef) = (l.getD i fD).2.1 := by
  simp only [List.getD_eq_getElem?_getD, List.getElem?_map]
  cases l[i]? <;> simp [encF, Value.gS, undef]
theorem gF2 (l : List Fl) (i : Nat) : Value.gS (((l.map encF).getD i []).getD 2 undef) = (l.getD i fD).2.2 := by
  simp only [List.getD_eq_getElem?_getD, List.getElem?_map]
  cases l[i]? <;> simp [encF, Value.gS, undef]
abbrev readsF (w : World) (v : Value) (l : List Fl) : Prop := reads w v kF (l.map encF)
theorem readsF_nil (w : World) : readsF w (.slice none 0 0) [] := ⟨by simp, none, 0, rfl, ⟨fun _ => rfl, Nat.le_refl _⟩, fun h => absurd rfl h⟩
theorem dropF (l : List Fl) (i : Nat) (h : i < l.length) : l.drop i = l.getD i fD :: l.drop (i + 1) := by
  rw [List.drop_eq_getElem_cons h, List.getD_eq_getElem?_getD, List.getElem?_eq_getElem h]; rfl
theorem takeF (l : List Fl) (i : Nat) (h : i < l.length) : l.take (i + 1) = l.take i ++ [l.getD i fD] := by
  rw [List.take_add_one, List.getD_eq_getElem?_getD, List.getElem?_eq_getElem h]; rfl
theorem getTakeF (l : List Fl) {k i : Nat} (h : k < i) : (l.take i).getD k fD = l.getD k fD := by
  simp only [List.getD_eq_getElem?_getD, List.getElem?_take, if_pos h]
def smallF (l : List Fl) : Prop := ∀ x ∈ l, x.2.1.length < 4294967281
theorem smallF_at {l : List Fl} (h : smallF l) (i : Nat) : (l.getD i fD).2.1.length < 4294967281 := by
  by_cases hi : i < l.length
  · rw [List.getD_eq_getElem?_getD, List.getElem?_eq_getElem hi]; exact h _ (List.getElem_mem hi)
  · rw [List.getD_eq_getElem?_getD, List.getElem?_eq_none (by omega)]; decide

/-- What is wrong with a flight by itself. -/
def flE (f : Fl) : Int := if chkT f.2.1 false = 0 then (if 200 < (f.2.2.length : Int) then 2 else 0) else chkT f.2.1 false
def idIs (n : Int) (f : Fl) : Bool := decide (f.1 = n)
/-- What is wrong with flights behind others. -/
def chkFl : List Fl → List Fl → Int
  | _, [] => 0
  | prev, f :: l => if flE f ≠ 0 then flE f else if 1 ≤ f.1 ∧ f.1 ≤ 65535 then if prev.any (idIs f.1) = true then 6 else chkFl (prev ++ [f]) l else 3
/-- What is wrong with what waits. -/
def chkQu : List Fl → Int
  | [] => 0
  | f :: l => if flE f ≠ 0 then flE f else if f.1 = 0 then chkQu l else 1
structure Ses where
  cl : List UInt8
  on : Bool
  clean : Bool
  fl : List Fl
  qu : List Fl
  next : Int
  deriving DecidableEq
def sesV (s : Ses) (u v : Value) : Value := .agg #[.string ⟨s.cl.toArray⟩, .bool s.on, .bool s.clean, sc1 u, sc1 v, .int .i64 s.next]
def clientB (s : List UInt8) : Bool := decide (1 ≤ (s.length : Int) ∧ (s.length : Int) ≤ 20) && plainS s
def allS (s : Ses) : Int := if chkFl [] s.fl = 0 then chkQu s.qu else chkFl [] s.fl
def chkS (s : Ses) : Int :=
  if clientB s.cl = true then
    if 3 < (s.fl.length : Int) ∨ 6 < (s.qu.length : Int) then 2
    else if allS s = 0 then
      if 1 ≤ s.next ∧ s.next ≤ 65535 then
        if ((¬s.on = true ∧ s.clean = true) ∧ 0 < (s.fl.length : Int) + s.qu.length) ∨ ((s.on = true ∧ 0 < (s.qu.length : Int)) ∧ (s.fl.length : Int) < 3) then 4 else 0
      else 3
    else allS s
  else 1

theorem c_Client (w : World) (s : List UInt8) (hs : s.length < 1099511627776) : Calls Tryd.prog 88 #[.string ⟨s.toArray⟩] w fun e w' => e = .returned (.bool (clientB s)) ∧ Mod [] w w' := by
  refine as_called (run_plain2 (ρ := [.s s]) sxE_ok Tryd.func88 tree_packet_Client rfl rfl rfl ?_) rfl
  simp only [Tree.goal, X.P, X.ev, V.toI_i, V.toB_b, V.toS_s, V.toR_r, V.toV_v, V.toN_n, V.toL_l, SV.ev, CV.ev, Sc.ev, List.getD_cons_zero, List.getD_cons_succ, List.getElem?_cons_zero, List.getElem?_cons_succ, List.map_cons, List.map_nil, List.length_cons, List.length_nil, List.cons_append, List.nil_append, Nat.zero_add, Nat.reduceAdd]
  refine ⟨[.b (plainS s)], rfl, fun _ w' _ => c_Plain w' s hs, ?_⟩
  simp only [Tree.goal, X.P, X.ev, V.toI_i, V.toB_b, V.toS_s, V.toR_r, V.toV_v, V.toN_n, V.toL_l, SV.ev, CV.ev, Sc.ev, List.getD_cons_zero, List.getD_cons_succ, List.getElem?_cons_zero, List.getElem?_cons_succ, List.map_cons, List.map_nil, List.length_cons, List.length_nil, List.cons_append, List.nil_append, Nat.zero_add, Nat.reduceAdd]
  exact fun w' hr => ⟨by simp [clientB], hr.mod⟩
theorem c_IsClient (w : World) (s : List UInt8) (hs : s.length < 1099511627776) : Calls Tryd.prog 84 #[.string ⟨s.toArray⟩] w fun e w' => e = .returned (.bool (clientB s)) ∧ Mod [] w w' := by
  refine as_called (run_plain2 (ρ := [.s s]) sxE_ok Tryd.func84 tree_dragomanref_IsClient rfl rfl rfl ?_) rfl
  simp only [Tree.goal, X.P, X.ev, V.toI_i, V.toB_b, V.toS_s, V.toR_r, V.toV_v, V.toN_n, V.toL_l, SV.ev, CV.ev, Sc.ev, List.getD_cons_zero, List.getD_cons_succ, List.getElem?_cons_zero, List.getElem?_cons_succ, List.map_cons, List.map_nil, List.length_cons, List.length_nil, List.cons_append, List.nil_append, Nat.zero_add, Nat.reduceAdd]
  refine ⟨[.b (plainS s)], rfl, fun _ w' _ => c_IsPlain w' s hs, ?_⟩
  simp only [Tree.goal, X.P, X.ev, V.toI_i, V.toB_b, V.toS_s, V.toR_r, V.toV_v, V.toN_n, V.toL_l, SV.ev, CV.ev, Sc.ev, List.getD_cons_zero, List.getD_cons_succ, List.getElem?_cons_zero, List.getElem?_cons_succ, List.map_cons, List.map_nil, List.length_cons, List.length_nil, List.cons_append, List.nil_append, Nat.zero_add, Nat.reduceAdd]
  exact fun w' hr => ⟨by simp [clientB], hr.mod⟩
theorem c_flight (w : World) (f : Fl) (hn : f.2.1.length < 4294967281) : Calls Tryd.prog 79 #[.agg #[.int .i64 f.1, .string ⟨f.2.1.toArray⟩, .string ⟨f.2.2.toArray⟩]] w fun e w' => e = .returned (.int .i64 (flE f)) ∧ Mod [] w w' := by
  refine as_called (run_plain2 (ρ := [.i f.1, .s f.2.1, .s f.2.2]) sxE_ok Tryd.func79 tree_session_flight rfl rfl rfl ?_) rfl
  simp only [Tree.goal, X.P, X.ev, V.toI_i, V.toB_b, V.toS_s, V.toR_r, V.toV_v, V.toN_n, V.toL_l, SV.ev, CV.ev, Sc.ev, List.getD_cons_zero, List.getD_cons_succ, List.getElem?_cons_zero, List.getElem?_cons_succ, List.map_cons, List.map_nil, List.length_cons, List.length_nil, List.cons_append, List.nil_append, Nat.zero_add, Nat.reduceAdd]
  intro b
  refine ⟨[.i (chkT f.2.1 false)], rfl, fun _ w' _ => c_Name w' _ hn, ?_⟩
  simp only [Tree.goal, X.P, X.ev, V.toI_i, V.toB_b, V.toS_s, V.toR_r, V.toV_v, V.toN_n, V.toL_l, SV.ev, CV.ev, Sc.ev, List.getD_cons_zero, List.getD_cons_succ, List.getElem?_cons_zero, List.getElem?_cons_succ, List.map_cons, List.map_nil, List.length_cons, List.length_nil, List.cons_append, List.nil_append, Nat.zero_add, Nat.reduceAdd]
  refine ⟨fun h w' hr => ⟨by rw [flE, if_neg h], hr.mod⟩, fun h => ⟨fun h1 w' hr => ⟨by rw [flE, if_pos (Classical.not_not.1 h), if_pos h1], hr.mod⟩, fun h1 w' hr => ⟨by rw [flE, if_pos (Classical.not_not.1 h), if_neg h1], hr.mod⟩⟩⟩
theorem c_checkFlight (w : World) (f : Fl) (hn : f.2.1.length < 4294967281) : Calls Tryd.prog 85 #[.agg #[.int .i64 f.1, .string ⟨f.2.1.toArray⟩, .string ⟨f.2.2.toArray⟩]] w fun e w' => e = .returned (.int .i64 (flE f)) ∧ Mod [] w w' := by
  refine as_called (run_plain2 (ρ := [.i f.1, .s f.2.1, .s f.2.2]) sxE_ok Tryd.func85 tree_dragomanref_checkFlight rfl rfl rfl ?_) rfl
  simp only [Tree.goal, X.P, X.ev, V.toI_i, V.toB_b, V.toS_s, V.toR_r, V.toV_v, V.toN_n, V.toL_l, SV.ev, CV.ev, Sc.ev, List.getD_cons_zero, List.getD_cons_succ, List.getElem?_cons_zero, List.getElem?_cons_succ, List.map_cons, List.map_nil, List.length_cons, List.length_nil, List.cons_append, List.nil_append, Nat.zero_add, Nat.reduceAdd]
  intro b
  refine ⟨[.i (chkT f.2.1 false)], rfl, fun _ w' _ => c_CheckTopic w' _ false hn, ?_⟩
  simp only [Tree.goal, X.P, X.ev, V.toI_i, V.toB_b, V.toS_s, V.toR_r, V.toV_v, V.toN_n, V.toL_l, SV.ev, CV.ev, Sc.ev, List.getD_cons_zero, List.getD_cons_succ, List.getElem?_cons_zero, List.getElem?_cons_succ, List.map_cons, List.map_nil, List.length_cons, List.length_nil, List.cons_append, List.nil_append, Nat.zero_add, Nat.reduceAdd]
  refine ⟨fun h w' hr => ⟨by rw [flE, if_pos h.1, if_pos h.2], hr.mod⟩, fun h w' hr => ⟨?_, hr.mod⟩⟩
  by_cases h1 : chkT f.2.1 false = 0
  · rw [flE, if_pos h1, if_neg (fun h2 => h ⟨h1, h2⟩), h1]
  · rw [flE, if_neg h1]
theorem c_sid (w : World) (n : Int) : Calls Tryd.prog 90 #[.int .i64 n] w fun e w' => e = .returned (.bool (decide (1 ≤ n ∧ n ≤ 65535))) ∧ Mod [] w w' := by
  refine as_called (run_plain2 (ρ := [.i n]) sxE_ok Tryd.func90 tree_session_id rfl rfl rfl ?_) rfl
  simp only [Tree.goal, X.P, X.ev, V.toI_i, V.toB_b, V.toS_s, V.toR_r, V.toV_v, V.toN_n, V.toL_l, SV.ev, CV.ev, Sc.ev, List.getD_cons_zero, List.getD_cons_succ, List.getElem?_cons_zero, List.getElem?_cons_succ, List.map_cons, List.map_nil, List.length_cons, List.length_nil, List.cons_append, List.nil_append, Nat.zero_add, Nat.reduceAdd]
  exact fun w' hr => ⟨by simp, hr.mod⟩
theorem anyF_snoc (p : Fl → Bool) (l : List Fl) (k : Nat) (h : k < l.length) : (l.take (k + 1)).any p = ((l.take k).any p || p (l.getD k fD)) := by
  rw [takeF l k h, List.any_append]; simp
theorem anyF_at {p : Fl → Bool} {l : List Fl} {k i : Nat} (hk : k < i) (hi : i ≤ l.length) (h : p (l.getD k fD) = true) : (l.take i).any p = true := by
  rw [List.any_eq_true]
  refine ⟨l.getD k fD, ?_, h⟩
  rw [← getTakeF l hk, List.getD_eq_getElem?_getD, List.getElem?_eq_getElem (by simp; omega)]
  exact List.getElem_mem _
theorem c_with (w : World) (v : Value) (l : List Fl) (n : Int) (hv : readsF w v l) (hl : l.length < 1000000000) : Calls Tryd.prog 113 #[sc1 v, .int .i64 n] w fun e w' => e = .returned (.bool (l.any (idIs n))) ∧ Mod [] w w' := by
  refine as_called (run_tree2 (ρ := [.v v, .r (l.map encF), .i n]) sxE_ok Tryd.func113 tree_session_with rfl rfl (Rel.start2 (by simp [Ent.holds, Ent.wr, hv, X.ev])) rfl rfl ?_) rfl
  simp only [Tree.goal, X.P, X.ev, V.toI_i, V.toB_b, V.toS_s, V.toR_r, V.toV_v, V.toN_n, V.toL_l, SV.ev, CV.ev, Sc.ev, List.getD_cons_zero, List.getD_cons_succ, List.getElem?_cons_zero, List.getElem?_cons_succ, List.map_cons, List.map_nil, List.length_cons, List.length_nil, List.cons_append, List.nil_append, Nat.zero_add, Nat.reduceAdd]
  intro b
  refine ⟨fun vs => ∃ (i : Nat) (x : V), vs = [x, .i i] ∧ i ≤ l.length ∧ (l.take i).any (idIs n) = false, fun vs => l.length - (vs.getD 1 (.i 0)).toI.toNat, ⟨0, _, rfl, by omega, by simp⟩, ?_⟩
  rintro _ - ⟨i, x, rfl, hi, hno⟩
  simp only [Tree.goal, X.P, X.ev, V.toI_i, V.toB_b, V.toS_s, V.toR_r, V.toV_v, V.toN_n, V.toL_l, SV.ev, CV.ev, Sc.ev, List.getD_cons_zero, List.getD_cons_succ, List.getElem?_cons_zero, List.getElem?_cons_succ, List.map_cons, List.map_nil, List.length_cons, List.length_nil, List.cons_append, List.nil_append, Nat.zero_add, Nat.reduceAdd, List.length_map, Int.toNat_natCast, gF0, gF1, gF2]
  refine ⟨fun h1 => ⟨by omega, fun b2 => ⟨fun h2 w' hr => ⟨?_, hr.mod⟩, fun h2 => ⟨by omega, by omega, ⟨i + 1, x, rfl, by omega, ?_⟩, by omega⟩⟩⟩, fun h1 w' hr => ⟨?_, hr.mod⟩⟩
  · have := anyF_at (p := idIs n) (l := l) (k := i) (i := l.length) (by omega) (Nat.le_refl _) (by simp only [idIs, decide_eq_true_eq]; exact h2)
    rw [List.take_length] at this
    rw [this]; simp
  · rw [anyF_snoc _ l i (by omega), hno, Bool.false_or]
    simp only [idIs, decide_eq_false_iff_not]; exact h2
  · have : i = l.length := by omega
    subst this
    rw [List.take_length] at hno
    rw [hno]; rfl
theorem c_SameFlights (w : World) (u v : Value) (a b : List Fl) (hu : readsF w u a) (hv : readsF w v b) (hl : a.length < 1000000000) : Calls Tryd.prog 114 #[sc1 u, sc1 v] w
    fun e w' => e = .returned (.bool (decide (a = b))) ∧ Mod [] w w' := by
  refine as_called (run_tree2 (ρ := [.v u, .r (a.map encF), .v v, .r (b.map encF)]) sxE_ok Tryd.func114 tree_dragomanref_SameFlights rfl rfl (Rel.start2 (by simp [Ent.holds, Ent.wr, hu, hv, X.ev])) rfl rfl ?_) rfl
  simp only [Tree.goal, X.P, X.ev, V.toI_i, V.toB_b, V.toS_s, V.toR_r, V.toV_v, V.toN_n, V.toL_l, SV.ev, CV.ev, Sc.ev, List.getD_cons_zero, List.getD_cons_succ, List.getElem?_cons_zero, List.getElem?_cons_succ, List.map_cons, List.map_nil, List.length_cons, List.length_nil, List.cons_append, List.nil_append, Nat.zero_add, Nat.reduceAdd, List.length_map]
  refine ⟨fun h w' hr => ⟨?_, hr.mod⟩, fun h => ?_⟩
  · rw [decide_eq_false]
    intro e; rw [e] at h; exact h rfl
  · have hlen : a.length = b.length := by omega
    refine ⟨fun vs => ∃ (i : Nat) (x : V), vs = [x, .i i] ∧ i ≤ a.length ∧ ∀ j, j < i → a.getD j fD = b.getD j fD, fun vs => a.length - (vs.getD 1 (.i 0)).toI.toNat, ⟨0, _, rfl, by omega, fun j hj => by omega⟩, ?_⟩
    rintro _ - ⟨i, x, rfl, hi, hall⟩
    simp only [Tree.goal, X.P, X.ev, V.toI_i, V.toB_b, V.toS_s, V.toR_r, V.toV_v, V.toN_n, V.toL_l, SV.ev, CV.ev, Sc.ev, List.getD_cons_zero, List.getD_cons_succ, List.getElem?_cons_zero, List.getElem?_cons_succ, List.map_cons, List.map_nil, List.length_cons, List.length_nil, List.cons_append, List.nil_append, Nat.zero_add, Nat.reduceAdd, List.length_map, Int.toNat_natCast, gF0, gF1, gF2]
    refine ⟨fun h7 => ⟨by omega, by omega, fun h8 w' hr => ⟨?_, hr.mod⟩, fun h8 => ⟨by omega, by omega, ⟨i + 1, x, rfl, by omega, fun j hj => ?_⟩, by omega⟩⟩, fun h7 w' hr => ⟨?_, hr.mod⟩⟩
    · rw [decide_eq_false]
      intro e
      rw [e] at h8
      exact h8 ⟨rfl, rfl, rfl⟩
    · by_cases hji : j = i
      · subst hji
        have h9 := Classical.not_not.1 h8
        exact Prod.ext h9.1 (Prod.ext h9.2.1 h9.2.2)
      · exact hall j (by omega)
    · rw [decide_eq_true]
      refine List.ext_getElem? fun j => ?_
      by_cases hj : j < a.length
      · have := hall j (by omega)
        rw [List.getD_eq_getElem?_getD, List.getD_eq_getElem?_getD, List.getElem?_eq_getElem hj, List.getElem?_eq_getElem (by omega)] at this
        rw [List.getElem?_eq_getElem hj, List.getElem?_eq_getElem (by omega)]
        simpa using this
      · rw [List.getElem?_eq_none (by omega), List.getElem?_eq_none (by omega)]

set_option maxHeartbeats 1000000 in
theorem c_all (w : World) (s : Ses) (u v : Value) (hu : readsF w u s.fl) (hv : readsF w v s.qu) (h1 : smallF s.fl) (h2 : smallF s.qu) (hl1 : s.fl.length < 1000000000) (hl2 : s.qu.length < 1000000000) : Calls Tryd.prog 89 #[sesV s u v] w
    fun e w' => e = .returned (.int .i64 (allS s)) ∧ Mod [] w w' := by
  refine as_called (run_tree2 (ρ := [.s s.cl, .b s.on, .b s.clean, .v u, .r (s.fl.map encF), .v v, .r (s.qu.map encF), .i s.next]) sxE_ok Tryd.func89 tree_session_all rfl rfl (Rel.start2 (by simp [Ent.holds, Ent.wr, hu, hv, X.ev])) rfl rfl ?_) rfl
  simp only [Tree.goal, X.P, X.ev, V.toI_i, V.toB_b, V.toS_s, V.toR_r, V.toV_v, V.toN_n, V.toL_l, SV.ev, CV.ev, Sc.ev, List.getD_cons_zero, List.getD_cons_succ, List.getElem?_cons_zero, List.getElem?_cons_succ, List.map_cons, List.map_nil, List.length_cons, List.length_nil, List.cons_append, List.nil_append, Nat.zero_add, Nat.reduceAdd]
  intro b
  refine ⟨fun vs => ∃ (i : Nat) (x : V), vs = [x, .i i] ∧ i ≤ s.fl.length ∧ chkFl (s.fl.take i) (s.fl.drop i) = chkFl [] s.fl, fun vs => s.fl.length - (vs.getD 1 (.i 0)).toI.toNat, ⟨0, _, rfl, by omega, rfl⟩, ?_⟩
  rintro _ - ⟨i, x, rfl, hi, hg⟩
  simp only [Tree.goal, X.P, X.ev, V.toI_i, V.toB_b, V.toS_s, V.toR_r, V.toV_v, V.toN_n, V.toL_l, SV.ev, CV.ev, Sc.ev, List.getD_cons_zero, List.getD_cons_succ, List.getElem?_cons_zero, List.getElem?_cons_succ, List.map_cons, List.map_nil, List.length_cons, List.length_nil, List.cons_append, List.nil_append, Nat.zero_add, Nat.reduceAdd, List.length_map, Int.toNat_natCast, gF0, gF1, gF2]
  refine ⟨fun h3 => ⟨by omega, fun b2 => ?_⟩, fun h3 => ?_⟩
  · have hsm := smallF_at h1 i
    rw [dropF _ i (by omega)] at hg
    simp only [chkFl] at hg
    refine ⟨[.i (flE (s.fl.getD i fD))], rfl, fun _ w' _ => c_flight w' (s.fl.getD i fD) hsm, ?_⟩
    simp only [Tree.goal, X.P, X.ev, V.toI_i, V.toB_b, V.toS_s, V.toR_r, V.toV_v, V.toN_n, V.toL_l, SV.ev, CV.ev, Sc.ev, List.getD_cons_zero, List.getD_cons_succ, List.getElem?_cons_zero, List.getElem?_cons_succ, List.map_cons, List.map_nil, List.length_cons, List.length_nil, List.cons_append, List.nil_append, Nat.zero_add, Nat.reduceAdd, List.length_map, Int.toNat_natCast, gF0, gF1, gF2]
    refine ⟨fun h4 w' hr => ⟨?_, hr.mod⟩, fun h4 => ?_⟩
    · rw [if_pos h4] at hg
      rw [allS, ← hg, if_neg h4]
    rw [if_neg h4] at hg
    refine ⟨[.b (decide (1 ≤ (s.fl.getD i fD).1 ∧ (s.fl.getD i fD).1 ≤ 65535))], rfl, fun _ w' _ => c_sid w' _, ?_⟩
    simp only [Tree.goal, X.P, X.ev, V.toI_i, V.toB_b, V.toS_s, V.toR_r, V.toV_v, V.toN_n, V.toL_l, SV.ev, CV.ev, Sc.ev, List.getD_cons_zero, List.getD_cons_succ, List.getElem?_cons_zero, List.getElem?_cons_succ, List.map_cons, List.map_nil, List.length_cons, List.length_nil, List.cons_append, List.nil_append, Nat.zero_add, Nat.reduceAdd, List.length_map, Int.toNat_natCast, gF0, gF1, gF2, decide_eq_true_eq]
    refine ⟨fun h5 w' hr => ⟨?_, hr.mod⟩, fun h5 => ?_⟩
    · rw [if_neg h5] at hg
      rw [allS, ← hg]; rfl
    rw [if_pos (Classical.not_not.1 h5)] at hg
    refine ⟨by omega, fun v9 => ?_⟩
    refine ⟨[.b ((s.fl.take i).any (idIs (s.fl.getD i fD).1))], rfl, fun _ w' hr => ?_, ?_⟩
    · have h0 := hr.at_ 0 rfl
      simp only [Ent.holds, Tree.goal, X.P, X.ev, V.toI_i, V.toB_b, V.toS_s, V.toR_r, V.toV_v, V.toN_n, V.toL_l, SV.ev, CV.ev, Sc.ev, List.getD_cons_zero, List.getD_cons_succ, List.getElem?_cons_zero, List.getElem?_cons_succ, List.map_cons, List.map_nil, List.length_cons, List.length_nil, List.cons_append, List.nil_append, Nat.zero_add, Nat.reduceAdd, Int.toNat_zero, List.drop_zero, Int.toNat_natCast, ← List.map_take] at h0
      exact c_with w' v9 _ _ h0 (by rw [List.length_take]; omega)
    simp only [Tree.goal, X.P, X.ev, V.toI_i, V.toB_b, V.toS_s, V.toR_r, V.toV_v, V.toN_n, V.toL_l, SV.ev, CV.ev, Sc.ev, List.getD_cons_zero, List.getD_cons_succ, List.getElem?_cons_zero, List.getElem?_cons_succ, List.map_cons, List.map_nil, List.length_cons, List.length_nil, List.cons_append, List.nil_append, Nat.zero_add, Nat.reduceAdd, List.length_map, Int.toNat_natCast, gF0, gF1, gF2]
    refine ⟨fun h6 w' hr => ⟨?_, hr.mod⟩, fun h6 => ?_⟩
    · rw [if_pos h6] at hg
      rw [allS, ← hg]; rfl
    · rw [if_neg h6, ← takeF _ i (by omega)] at hg
      exact ⟨by omega, by omega, ⟨i + 1, x, rfl, by omega, hg⟩, by omega⟩
  · have : i = s.fl.length := by omega
    subst this
    rw [List.drop_length] at hg
    have hg : chkFl [] s.fl = 0 := hg.symm
    rw [allS, if_pos hg]
    refine ⟨fun vs => ∃ (i : Nat) (x : V), vs = [x, .i i] ∧ i ≤ s.qu.length ∧ chkQu (s.qu.drop i) = chkQu s.qu, fun vs => s.qu.length - (vs.getD 1 (.i 0)).toI.toNat, ⟨0, _, rfl, by omega, rfl⟩, ?_⟩
    rintro _ - ⟨i, x, rfl, hi, hg⟩
    simp only [Tree.goal, X.P, X.ev, V.toI_i, V.toB_b, V.toS_s, V.toR_r, V.toV_v, V.toN_n, V.toL_l, SV.ev, CV.ev, Sc.ev, List.getD_cons_zero, List.getD_cons_succ, List.getElem?_cons_zero, List.getElem?_cons_succ, List.map_cons, List.map_nil, List.length_cons, List.length_nil, List.cons_append, List.nil_append, Nat.zero_add, Nat.reduceAdd, List.length_map, Int.toNat_natCast, gF0, gF1, gF2]
    refine ⟨fun h3 => ⟨by omega, fun b2 => ?_⟩, fun h3 w' hr => ⟨?_, hr.mod⟩⟩
    · have hsm := smallF_at h2 i
      rw [dropF _ i (by omega)] at hg
      simp only [chkQu] at hg
      refine ⟨[.i (flE (s.qu.getD i fD))], rfl, fun _ w' _ => c_flight w' (s.qu.getD i fD) hsm, ?_⟩
      simp only [Tree.goal, X.P, X.ev, V.toI_i, V.toB_b, V.toS_s, V.toR_r, V.toV_v, V.toN_n, V.toL_l, SV.ev, CV.ev, Sc.ev, List.getD_cons_zero, List.getD_cons_succ, List.getElem?_cons_zero, List.getElem?_cons_succ, List.map_cons, List.map_nil, List.length_cons, List.length_nil, List.cons_append, List.nil_append, Nat.zero_add, Nat.reduceAdd, List.length_map, Int.toNat_natCast, gF0, gF1, gF2]
      refine ⟨fun h4 w' hr => ⟨?_, hr.mod⟩, fun h4 => ⟨fun h5 w' hr => ⟨?_, hr.mod⟩, fun h5 => ?_⟩⟩
      · rw [if_pos h4] at hg
        rw [← hg]
      · rw [if_neg h4, if_neg h5] at hg
        rw [← hg]
      · rw [if_neg h4, if_pos (Classical.not_not.1 h5)] at hg
        exact ⟨by omega, by omega, ⟨i + 1, x, rfl, by omega, hg⟩, by omega⟩
    · have : i = s.qu.length := by omega
      subst this
      rw [List.drop_length] at hg
      rw [← hg]; rfl
set_option maxHeartbeats 1000000 in
theorem c_CheckS (w : World) (s : Ses) (u v : Value) (hu : readsF w u s.fl) (hv : readsF w v s.qu) (h1 : smallF s.fl) (h2 : smallF s.qu) (hl1 : s.fl.length < 1000000000) (hl2 : s.qu.length < 1000000000) (hc : s.cl.length < 1099511627776) : Calls Tryd.prog 48 #[sesV s u v] w
    fun e w' => e = .returned (.int .i64 (chkS s)) ∧ Mod [] w w' := by
  refine as_called (run_tree2 (ρ := [.s s.cl, .b s.on, .b s.clean, .v u, .r (s.fl.map encF), .v v, .r (s.qu.map encF), .i s.next]) sxE_ok Tryd.func48 tree_session_Check rfl rfl (Rel.start2 (by simp [Ent.holds, Ent.wr, hu, hv, X.ev])) rfl rfl ?_) rfl
  simp only [Tree.goal, X.P, X.ev, V.toI_i, V.toB_b, V.toS_s, V.toR_r, V.toV_v, V.toN_n, V.toL_l, SV.ev, CV.ev, Sc.ev, List.getD_cons_zero, List.getD_cons_succ, List.getElem?_cons_zero, List.getElem?_cons_succ, List.map_cons, List.map_nil, List.length_cons, List.length_nil, List.cons_append, List.nil_append, Nat.zero_add, Nat.reduceAdd]
  intro b
  refine ⟨[.b (clientB s.cl)], rfl, fun _ w' _ => c_Client w' _ hc, ?_⟩
  simp only [Tree.goal, X.P, X.ev, V.toI_i, V.toB_b, V.toS_s, V.toR_r, V.toV_v, V.toN_n, V.toL_l, SV.ev, CV.ev, Sc.ev, List.getD_cons_zero, List.getD_cons_succ, List.getElem?_cons_zero, List.getElem?_cons_succ, List.map_cons, List.map_nil, List.length_cons, List.length_nil, List.cons_append, List.nil_append, Nat.zero_add, Nat.reduceAdd, List.length_map]
  refine ⟨fun h w' hr => ⟨by rw [chkS, if_neg h], hr.mod⟩, fun h => ?_⟩
  rw [chkS, if_pos (Classical.not_not.1 h)]
  refine ⟨fun h w' hr => ⟨by rw [if_pos h], hr.mod⟩, fun h => ?_⟩
  rw [if_neg h]
  refine ⟨[.i (allS s)], rfl, fun _ w' hr => c_all w' s u v (hr.at_ 1 rfl) (hr.at_ 2 rfl) h1 h2 hl1 hl2, ?_⟩
  simp only [Tree.goal, X.P, X.ev, V.toI_i, V.toB_b, V.toS_s, V.toR_r, V.toV_v, V.toN_n, V.toL_l, SV.ev, CV.ev, Sc.ev, List.getD_cons_zero, List.getD_cons_succ, List.getElem?_cons_zero, List.getElem?_cons_succ, List.map_cons, List.map_nil, List.length_cons, List.length_nil, List.cons_append, List.nil_append, Nat.zero_add, Nat.reduceAdd, List.length_map]
  refine ⟨fun h w' hr => ⟨by rw [if_neg h], hr.mod⟩, fun h => ?_⟩
  rw [if_pos (Classical.not_not.1 h)]
  refine ⟨[.b (decide (1 ≤ s.next ∧ s.next ≤ 65535))], rfl, fun _ w' _ => c_sid w' _, ?_⟩
  simp only [Tree.goal, X.P, X.ev, V.toI_i, V.toB_b, V.toS_s, V.toR_r, V.toV_v, V.toN_n, V.toL_l, SV.ev, CV.ev, Sc.ev, List.getD_cons_zero, List.getD_cons_succ, List.getElem?_cons_zero, List.getElem?_cons_succ, List.map_cons, List.map_nil, List.length_cons, List.length_nil, List.cons_append, List.nil_append, Nat.zero_add, Nat.reduceAdd, List.length_map, decide_eq_true_eq]
  refine ⟨fun h w' hr => ⟨by rw [if_neg h], hr.mod⟩, fun h => ?_⟩
  rw [if_pos (Classical.not_not.1 h)]
  refine ⟨.inr (by omega), fun h w' hr => ⟨by rw [if_pos (.inl h)], hr.mod⟩, fun h => ⟨fun h1 w' hr => ⟨by rw [if_pos (.inr h1)], hr.mod⟩, fun h1 w' hr => ⟨by rw [if_neg (fun h2 => h2.elim h h1)], hr.mod⟩⟩⟩
set_option maxHeartbeats 1000000 in
theorem c_CheckSession (w : World) (s : Ses) (u v : Value) (hu : readsF w u s.fl) (hv : readsF w v s.qu) (h1 : smallF s.fl) (h2 : smallF s.qu) (hl1 : s.fl.length < 1000000000) (hl2 : s.qu.length < 1000000000) (hc : s.cl.length < 1099511627776) : Calls Tryd.prog 42 #[sesV s u v] w
    fun e w' => e = .returned (.int .i64 (chkS s)) ∧ Mod [] w w' := by
  refine as_called (run_tree2 (ρ := [.s s.cl, .b s.on, .b s.clean, .v u, .r (s.fl.map encF), .v v, .r (s.qu.map encF), .i s.next]) sxE_ok Tryd.func42 tree_dragomanref_CheckSession rfl rfl (Rel.start2 (by simp [Ent.holds, Ent.wr, hu, hv, X.ev])) rfl rfl ?_) rfl
  simp only [Tree.goal, X.P, X.ev, V.toI_i, V.toB_b, V.toS_s, V.toR_r, V.toV_v, V.toN_n, V.toL_l, SV.ev, CV.ev, Sc.ev, List.getD_cons_zero, List.getD_cons_succ, List.getElem?_cons_zero, List.getElem?_cons_succ, List.map_cons, List.map_nil, List.length_cons, List.length_nil, List.cons_append, List.nil_append, Nat.zero_add, Nat.reduceAdd]
  intro b
  refine ⟨[.b (clientB s.cl)], rfl, fun _ w' _ => c_IsClient w' _ hc, ?_⟩
  simp only [Tree.goal, X.P, X.ev, V.toI_i, V.toB_b, V.toS_s, V.toR_r, V.toV_v, V.toN_n, V.toL_l, SV.ev, CV.ev, Sc.ev, List.getD_cons_zero, List.getD_cons_succ, List.getElem?_cons_zero, List.getElem?_cons_succ, List.map_cons, List.map_nil, List.length_cons, List.length_nil, List.cons_append, List.nil_append, Nat.zero_add, Nat.reduceAdd, List.length_map]
  refine ⟨fun h w' hr => ⟨by rw [chkS, if_neg h], hr.mod⟩, fun h => ?_⟩
  rw [chkS, if_pos (Classical.not_not.1 h)]
  refine ⟨fun h w' hr => ⟨by rw [if_pos h], hr.mod⟩, fun h => ?_⟩
  rw [if_neg h]
  refine ⟨fun vs => ∃ (i : Nat) (x : V), vs = [x, .i i] ∧ i ≤ s.fl.length ∧ chkFl (s.fl.take i) (s.fl.drop i) = chkFl [] s.fl, fun vs => s.fl.length - (vs.getD 1 (.i 0)).toI.toNat, ⟨0, _, rfl, by omega, rfl⟩, ?_⟩
  rintro _ - ⟨i, x, rfl, hi, hg⟩
  simp only [Tree.goal, X.P, X.ev, V.toI_i, V.toB_b, V.toS_s, V.toR_r, V.toV_v, V.toN_n, V.toL_l, SV.ev, CV.ev, Sc.ev, List.getD_cons_zero, List.getD_cons_succ, List.getElem?_cons_zero, List.getElem?_cons_succ, List.map_cons, List.map_nil, List.length_cons, List.length_nil, List.cons_append, List.nil_append, Nat.zero_add, Nat.reduceAdd, List.length_map, Int.toNat_natCast, gF0, gF1, gF2]
  refine ⟨fun h3 => ⟨by omega, ?_⟩, fun h3 => ?_⟩
  · have hsm := smallF_at h1 i
    rw [dropF _ i (by omega)] at hg
    simp only [chkFl] at hg
    refine ⟨[.i (flE (s.fl.getD i fD))], rfl, fun _ w' _ => c_checkFlight w' (s.fl.getD i fD) hsm, ?_⟩
    simp only [Tree.goal, X.P, X.ev, V.toI_i, V.toB_b, V.toS_s, V.toR_r, V.toV_v, V.toN_n, V.toL_l, SV.ev, CV.ev, Sc.ev, List.getD_cons_zero, List.getD_cons_succ, List.getElem?_cons_zero, List.getElem?_cons_succ, List.map_cons, List.map_nil, List.length_cons, List.length_nil, List.cons_append, List.nil_append, Nat.zero_add, Nat.reduceAdd, List.length_map, Int.toNat_natCast, gF0, gF1, gF2]
    refine ⟨fun h4 w' hr => ⟨?_, hr.mod⟩, fun h4 => ?_⟩
    · rw [if_pos h4] at hg
      have : allS s = flE (s.fl.getD i fD) := by rw [allS, ← hg, if_neg h4]
      rw [this, if_neg h4]
    rw [if_neg h4] at hg
    refine ⟨fun h5 w' hr => ⟨?_, hr.mod⟩, fun h5 => ?_⟩
    · rw [if_neg h5] at hg
      have : allS s = 3 := by rw [allS, ← hg]; rfl
      rw [this]; rfl
    rw [if_pos (Classical.not_not.1 h5)] at hg
    refine ⟨fun vs => ∃ (k : Nat) (y : V), vs = [y, .i k] ∧ k ≤ i ∧ (s.fl.take k).any (idIs (s.fl.getD i fD).1) = false, fun vs => i - (vs.getD 1 (.i 0)).toI.toNat, ⟨0, _, rfl, by omega, by simp⟩, ?_⟩
    rintro _ - ⟨k, y, rfl, hk, hno⟩
    simp only [Tree.goal, X.P, X.ev, V.toI_i, V.toB_b, V.toS_s, V.toR_r, V.toV_v, V.toN_n, V.toL_l, SV.ev, CV.ev, Sc.ev, List.getD_cons_zero, List.getD_cons_succ, List.getElem?_cons_zero, List.getElem?_cons_succ, List.map_cons, List.map_nil, List.length_cons, List.length_nil, List.cons_append, List.nil_append, Nat.zero_add, Nat.reduceAdd, List.length_map, Int.toNat_natCast, gF0, gF1, gF2]
    refine ⟨fun h4 => ⟨by omega, by omega, fun h5 w' hr => ⟨?_, hr.mod⟩, fun h5 => ?_⟩, fun h4 => ?_⟩
    · rw [if_pos (anyF_at (k := k) (by omega) (by omega) (by simp only [idIs, decide_eq_true_eq]; exact h5))] at hg
      have : allS s = 6 := by rw [allS, ← hg]; rfl
      rw [this]; rfl
    · refine ⟨by omega, by omega, ⟨k + 1, y, rfl, by omega, ?_⟩, by omega⟩
      rw [anyF_snoc _ _ k (by omega), hno, Bool.false_or]
      simp only [idIs, decide_eq_false_iff_not]
      exact h5
    · have : k = i := by omega
      subst this
      rw [if_neg (by rw [hno]; decide), ← takeF _ k (by omega)] at hg
      exact ⟨by omega, by omega, ⟨k + 1, _, rfl, by omega, hg⟩, by omega⟩
  · have : i = s.fl.length := by omega
    subst this
    rw [List.drop_length] at hg
    have hg : chkFl [] s.fl = 0 := hg.symm
    have hA : allS s = chkQu s.qu := by rw [allS, if_pos hg]
    rw [hA]
    refine ⟨fun vs => ∃ (i : Nat) (x : V), vs = [x, .i i] ∧ i ≤ s.qu.length ∧ chkQu (s.qu.drop i) = chkQu s.qu, fun vs => s.qu.length - (vs.getD 1 (.i 0)).toI.toNat, ⟨0, _, rfl, by omega, rfl⟩, ?_⟩
    rintro _ - ⟨i, x, rfl, hi, hg⟩
    simp only [Tree.goal, X.P, X.ev, V.toI_i, V.toB_b, V.toS_s, V.toR_r, V.toV_v, V.toN_n, V.toL_l, SV.ev, CV.ev, Sc.ev, List.getD_cons_zero, List.getD_cons_succ, List.getElem?_cons_zero, List.getElem?_cons_succ, List.map_cons, List.map_nil, List.length_cons, List.length_nil, List.cons_append, List.nil_append, Nat.zero_add, Nat.reduceAdd, List.length_map, Int.toNat_natCast, gF0, gF1, gF2]
    refine ⟨fun h3 => ⟨by omega, ?_⟩, fun h3 => ?_⟩
    · have hsm := smallF_at h2 i
      rw [dropF _ i (by omega)] at hg
      simp only [chkQu] at hg
      refine ⟨[.i (flE (s.qu.getD i fD))], rfl, fun _ w' _ => c_checkFlight w' (s.qu.getD i fD) hsm, ?_⟩
      simp only [Tree.goal, X.P, X.ev, V.toI_i, V.toB_b, V.toS_s, V.toR_r, V.toV_v, V.toN_n, V.toL_l, SV.ev, CV.ev, Sc.ev, List.getD_cons_zero, List.getD_cons_succ, List.getElem?_cons_zero, List.getElem?_cons_succ, List.map_cons, List.map_nil, List.length_cons, List.length_nil, List.cons_append, List.nil_append, Nat.zero_add, Nat.reduceAdd, List.length_map, Int.toNat_natCast, gF0, gF1, gF2]
      refine ⟨fun h4 w' hr => ⟨?_, hr.mod⟩, fun h4 => ⟨fun h5 w' hr => ⟨?_, hr.mod⟩, fun h5 => ?_⟩⟩
      · rw [if_pos h4] at hg
        rw [← hg, if_neg h4]
      · rw [if_neg h4, if_neg h5] at hg
        rw [← hg]; rfl
      · rw [if_neg h4, if_pos (Classical.not_not.1 h5)] at hg
        exact ⟨by omega, by omega, ⟨i + 1, x, rfl, by omega, hg⟩, by omega⟩
    · have : i = s.qu.length := by omega
      subst this
      rw [List.drop_length] at hg
      have hg : chkQu s.qu = 0 := hg.symm
      rw [if_pos hg]
      refine ⟨fun h w' hr => ⟨by rw [if_neg h], hr.mod⟩, fun h => ?_⟩
      rw [if_pos (Classical.not_not.1 h)]
      refine ⟨.inr (by omega), fun h w' hr => ⟨by rw [if_pos h], hr.mod⟩, fun h w' hr => ⟨by rw [if_neg h], hr.mod⟩⟩
theorem Ses.eq_iff {a b : Ses} : a = b ↔ a.cl = b.cl ∧ a.on = b.on ∧ a.clean = b.clean ∧ a.next = b.next ∧ a.fl = b.fl ∧ a.qu = b.qu := by
  cases a; cases b
  simp only [Ses.mk.injEq]
  exact ⟨fun ⟨h1, h2, h3, h5, h6, h4⟩ => ⟨h1, h2, h3, h4, h5, h6⟩, fun ⟨h1, h2, h3, h4, h5, h6⟩ => ⟨h1, h2, h3, h5, h6, h4⟩⟩
theorem c_SameSession (w : World) (a b : Ses) (u v u' v' : Value) (hu : readsF w u a.fl) (hv : readsF w v a.qu) (hu' : readsF w u' b.fl) (hv' : readsF w v' b.qu) (hl1 : a.fl.length < 1000000000) (hl2 : a.qu.length < 1000000000) : Calls Tryd.prog 91 #[sesV a u v, sesV b u' v'] w
    fun e w' => e = .returned (.bool (decide (a = b))) ∧ Mod [] w w' := by
  refine as_called (run_tree2 (ρ := [.s a.cl, .b a.on, .b a.clean, .v u, .r (a.fl.map encF), .v v, .r (a.qu.map encF), .i a.next, .s b.cl, .b b.on, .b b.clean, .v u', .r (b.fl.map encF), .v v', .r (b.qu.map encF), .i b.next]) sxE_ok Tryd.func91 tree_dragomanref_SameSession rfl rfl (Rel.start2 (by simp [Ent.holds, Ent.wr, hu, hv, hu', hv', X.ev])) rfl rfl ?_) rfl
  simp only [Tree.goal, X.P, X.ev, V.toI_i, V.toB_b, V.toS_s, V.toR_r, V.toV_v, V.toN_n, V.toL_l, SV.ev, CV.ev, Sc.ev, List.getD_cons_zero, List.getD_cons_succ, List.getElem?_cons_zero, List.getElem?_cons_succ, List.map_cons, List.map_nil, List.length_cons, List.length_nil, List.cons_append, List.nil_append, Nat.zero_add, Nat.reduceAdd]
  intro b1 b2
  refine ⟨[.b (decide (a.fl = b.fl))], rfl, fun _ w' hr => c_SameFlights w' u u' _ _ (hr.at_ 2 rfl) (hr.at_ 4 rfl) hl1, ?_⟩
  simp only [Tree.goal, X.P, X.ev, V.toI_i, V.toB_b, V.toS_s, V.toR_r, V.toV_v, V.toN_n, V.toL_l, SV.ev, CV.ev, Sc.ev, List.getD_cons_zero, List.getD_cons_succ, List.getElem?_cons_zero, List.getElem?_cons_succ, List.map_cons, List.map_nil, List.length_cons, List.length_nil, List.cons_append, List.nil_append, Nat.zero_add, Nat.reduceAdd]
  refine ⟨[.b (decide (a.qu = b.qu))], rfl, fun _ w' hr => c_SameFlights w' v v' _ _ (hr.at_ 3 rfl) (hr.at_ 5 rfl) hl2, ?_⟩
  simp only [Tree.goal, X.P, X.ev, V.toI_i, V.toB_b, V.toS_s, V.toR_r, V.toV_v, V.toN_n, V.toL_l, SV.ev, CV.ev, Sc.ev, List.getD_cons_zero, List.getD_cons_succ, List.getElem?_cons_zero, List.getElem?_cons_succ, List.map_cons, List.map_nil, List.length_cons, List.length_nil, List.cons_append, List.nil_append, Nat.zero_add, Nat.reduceAdd]
  refine fun w' hr => ⟨?_, hr.mod⟩
  simp only [Ending.returned.injEq, Value.bool.injEq]
  rw [Bool.eq_iff_iff, decide_eq_true_eq, Ses.eq_iff]
  simp [and_assoc]
end Go.Proofs.YtkalmhdckoocbaaDoor
