/-
  Sessions: a sender's call, told without names. By an AI agent.
-/
import Derived.Test.YtkalmhdckoocbaaDoorNg
set_option linter.unusedSimpArgs false
set_option linter.unusedVariables false
namespace Go.Proofs.YtkalmhdckoocbaaDoor
open Go.Sx

/-- A slice's block is new, or it was one of these slices'. -/
def fromG (n : Nat) (u v x y : Value) : Prop := ∀ k, blockOf y k → n ≤ k ∨ blockOf u k ∨ blockOf v k ∨ blockOf x k
def apartV (u v : Value) : Prop := ∀ k, blockOf u k → blockOf v k → False
theorem apart_rows3 {ρ : List V} {a b c ta tb tc : Nat} {ka kb kc : List Kd} {ra rb rc : X} (h1 : apartV (ρ.getD a (.i 0)).toV (ρ.getD b (.i 0)).toV) (h2 : apartV (ρ.getD a (.i 0)).toV (ρ.getD c (.i 0)).toV) (h3 : apartV (ρ.getD b (.i 0)).toV (ρ.getD c (.i 0)).toV) :
    Apart ρ [.row a ta ka ra, .row b tb kb rb, .row c tc kc rc] := by
  refine List.pairwise_cons.2 ⟨fun e he _ k hk hk' => ?_, List.pairwise_cons.2 ⟨fun e he _ k hk hk' => ?_, List.pairwise_singleton _ _⟩⟩
  · rcases List.mem_cons.1 he with rfl | he
    · exact h1 k hk hk'
    · rw [List.mem_singleton.1 he] at hk'; exact h2 k hk hk'
  · rw [List.mem_singleton.1 he] at hk'; exact h3 k hk hk'
theorem fly_call {B : Base} {w : World} {k : Nat} {s : Ses} {u v x : Value} {o0 : List Pk} (hrel : Rel B (sndA k s u v x o0) sndH w) (hn : 1 ≤ s.next ∧ s.next ≤ 65535) (hl1 : s.fl.length < 100000) (hl2 : s.qu.length < 100000) (hl3 : o0.length < 100000) :
    Calls Tryd.prog 109 #[.pointer (some ⟨k, 0, none⟩)] w
    fun e w' => e = .returned (.tuple #[]) ∧ ∃ u' v' x', w'.heap[k]? = some (.cells #[.string ⟨s.cl.toArray⟩, .bool s.on, .bool s.clean, sc1 u', sc1 v', .int .i64 (flyG s o0).1.next, sc1 x'] 120 (0, 0)) ∧
      ownsF w' u' (flyG s o0).1.fl ∧ ownsF w' v' (flyG s o0).1.qu ∧ owns w' x' 104 kP ((flyG s o0).2.map encP) ∧ fromG w.heap.size u v x u' ∧ fromG w.heap.size u v x v' ∧ fromG w.heap.size u v x x' ∧
      apartV u' v' ∧ apartV u' x' ∧ apartV v' x' ∧ Mod (k :: (u.ownBlock.toList ++ (v.ownBlock.toList ++ x.ownBlock.toList))) w w' := by
  refine (c_fly _ w k s u v x o0 hrel.base hn hl1 hl2 hl3).mono ?_
  rintro e w' ⟨he, u', v', x', hr⟩
  have hfp : ∀ j, j ∈ fpAll (sndA k s u v x o0) sndH → j = k ∨ blockOf u j ∨ blockOf v j ∨ blockOf x j := by
    intro j hj
    simp only [fpAll, sndA, sndH, sndC, List.flatMap_cons, List.flatMap_nil, Ent.fpl, Tree.goal, X.P, X.ev, V.toI_i, V.toB_b, V.toS_s, V.toR_r, V.toV_v, V.toN_n, V.toL_l, SV.ev, CV.ev, Sc.ev, List.getD_cons_zero, List.getD_cons_succ, List.getElem?_cons_zero, List.getElem?_cons_succ, List.map_cons, List.map_nil, List.length_cons, List.length_nil, List.cons_append, List.nil_append, Nat.zero_add, Nat.reduceAdd, List.append_nil, List.mem_append, List.mem_singleton, Option.mem_toList, List.getD_nil] at hj
    simp only [blockOf]
    rcases hj with h | h | h | h
    · exact .inr (.inl h)
    · exact .inr (.inr (.inl h))
    · exact .inr (.inr (.inr h))
    · exact .inl h
  have hnew : ∀ (i : Nat) (e : Ent), sndH[i]? = some e → i < 3 → e.wr = true → ∀ j, e.fp (sndA k (flyG s o0).1 u' v' x' (flyG s o0).2) j → w.heap.size ≤ j ∨ blockOf u j ∨ blockOf v j ∨ blockOf x j := by
    intro i e hi hlt hwr j hj
    rcases hr.own e (List.mem_of_getElem? hi) hwr j hj with h | h
    · exact .inl h
    · rcases hfp j h with rfl | h
      · exfalso
        exact hr.sep.disj (i := i) (j := 3) hi rfl (by omega) (.inl hwr) hj rfl
      · exact .inr h
  refine ⟨he, u', v', x', hr.at_ 3 rfl, hr.at_ 0 rfl, hr.at_ 1 rfl, hr.at_ 2 rfl, fun j hj => hnew 0 _ rfl (by omega) rfl j hj, fun j hj => hnew 1 _ rfl (by omega) rfl j hj, fun j hj => hnew 2 _ rfl (by omega) rfl j hj,
    fun j h1 h2 => hr.sep.disj (i := 0) (j := 1) rfl rfl (by omega) (.inl rfl) (k := j) h1 h2, fun j h1 h2 => hr.sep.disj (i := 0) (j := 2) rfl rfl (by omega) (.inl rfl) (k := j) h1 h2, fun j h1 h2 => hr.sep.disj (i := 1) (j := 2) rfl rfl (by omega) (.inl rfl) (k := j) h1 h2, hr.mod.mono fun j hj => .inl ?_⟩
  rcases hfp j hj with rfl | h | h | h
  · exact List.mem_cons_self ..
  · exact List.mem_cons_of_mem _ (List.mem_append_left _ (Option.mem_toList.2 h))
  · exact List.mem_cons_of_mem _ (List.mem_append_right _ (List.mem_append_left _ (Option.mem_toList.2 h)))
  · exact List.mem_cons_of_mem _ (List.mem_append_right _ (List.mem_append_right _ (Option.mem_toList.2 h)))
end Go.Proofs.YtkalmhdckoocbaaDoor
