/-
  Sessions: who goes. By an AI agent.
-/
import Derived.Test.YtkalmhdckoocbaaDoorNc
set_option linter.unusedSimpArgs false
set_option linter.unusedVariables false
namespace Go.Proofs.YtkalmhdckoocbaaDoor
open Go.Sx

/-- A slice is new, or it is one of a session's. -/
def fromS (n : Nat) (s : Ses) (u v x : Value) (l : List Fl) : Prop :=
  ∀ k, (l.map encF).flatten ≠ [] ∧ blockOf x k → n ≤ k ∨ ((s.fl.map encF).flatten ≠ [] ∧ blockOf u k) ∨ ((s.qu.map encF).flatten ≠ [] ∧ blockOf v k)
theorem fromS_nil {n : Nat} {s : Ses} {u v x : Value} : fromS n s u v x [] := fun k hk => absurd rfl hk.1
/-- A session is what comes. -/
def gotS (w w' : World) (s : Ses) (u v : Value) (e : Ending) (r : Ses) : Prop :=
  ∃ u' v', e = .returned (sesV r u' v') ∧ readsF w' u' r.fl ∧ readsF w' v' r.qu ∧ fromS w.heap.size s u v u' r.fl ∧ fromS w.heap.size s u v v' r.qu ∧ Mod [] w w'
def goR (s : Ses) : Ses := { s with on := false, fl := if s.clean = true then [] else s.fl, qu := if s.clean = true then [] else s.qu }
theorem c_GoOf (w : World) (s : Ses) (u v : Value) (hu : readsF w u s.fl) (hv : readsF w v s.qu) : Calls Tryd.prog 46 #[sesV s u v] w
    fun e w' => gotS w w' s u v e (goR s) := by
  refine as_called (run_tree2 (ρ := [.s s.cl, .b s.on, .b s.clean, .v u, .r (s.fl.map encF), .v v, .r (s.qu.map encF), .i s.next]) sxE_ok Tryd.func46 tree_dragomanref_GoOf rfl rfl (Rel.start2 (by simp [Ent.holds, Ent.wr, hu, hv, X.ev])) rfl rfl ?_) rfl
  simp only [Tree.goal, X.P, X.ev, V.toI_i, V.toB_b, V.toS_s, V.toR_r, V.toV_v, V.toN_n, V.toL_l, SV.ev, CV.ev, Sc.ev, List.getD_cons_zero, List.getD_cons_succ, List.getElem?_cons_zero, List.getElem?_cons_succ, List.map_cons, List.map_nil, List.length_cons, List.length_nil, List.cons_append, List.nil_append, Nat.zero_add, Nat.reduceAdd]
  intro b1 b2
  refine ⟨fun h w' hr => ?_, fun h w' hr => ?_⟩
  · have e : goR s = ⟨s.cl, false, s.clean, [], [], s.next⟩ := by simp [goR, h]
    rw [e]
    exact ⟨.slice none 0 0, .slice none 0 0, rfl, reads_nil _ _, reads_nil _ _, fromS_nil, fromS_nil, hr.mod⟩
  · have e : goR s = ⟨s.cl, false, s.clean, s.fl, s.qu, s.next⟩ := by simp [goR, h]
    rw [e]
    exact ⟨u, v, rfl, hr.at_ 2 rfl, hr.at_ 3 rfl, fun k hk => .inr (.inl hk), fun k hk => .inr (.inr hk), hr.mod⟩
end Go.Proofs.YtkalmhdckoocbaaDoor
