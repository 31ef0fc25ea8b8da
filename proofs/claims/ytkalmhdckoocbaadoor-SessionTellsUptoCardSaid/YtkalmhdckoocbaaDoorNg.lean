/-
  Sessions: what flies, as the code makes it. By an AI agent.
-/
import Derived.Test.YtkalmhdckoocbaaDoorNf
set_option linter.unusedSimpArgs false
set_option linter.unusedVariables false
namespace Go.Proofs.YtkalmhdckoocbaaDoor
open Go.Sx

/-- A sender, as names and assertions. -/
def sndA (k : Nat) (s : Ses) (u v x : Value) (out : List Pk) : List V := [.n k, .s s.cl, .b s.on, .b s.clean, .v u, .r (s.fl.map encF), .v v, .r (s.qu.map encF), .i s.next, .v x, .r (out.map encP)]
abbrev sndC : Ent := .cells 0 120 [.str (.var 1), .bool (.var 2), .bool (.var 3), .val (.var 4), .val (.var 6), .int .i64 (.var 8), .val (.var 9)]
abbrev sndH : List Ent := [.row 4 73 kF (.var 5), .row 6 73 kF (.var 7), .row 9 104 kP (.var 10), sndC]
def flyG (s : Ses) (out : List Pk) : Ses × List Pk := (⟨s.cl, s.on, s.clean, (flyR s.on s.fl s.qu s.next out).1, (flyR s.on s.fl s.qu s.next out).2.1, (flyR s.on s.fl s.qu s.next out).2.2.1⟩, (flyR s.on s.fl s.qu s.next out).2.2.2)

/-- A round's state. -/
def flyJ (s : Ses) (o0 : List Pk) (vs : List V) : Prop :=
  ∃ (x u' v' : Value) (out : List Pk) (fl qu : List Fl) (next : Int), vs = [.s s.cl, .b s.on, .b s.clean, .v u', .r (fl.map encF), .v v', .r (qu.map encF), .i next, .v x, .r (out.map encP)] ∧
    flyR s.on fl qu next out = flyR s.on s.fl s.qu s.next o0 ∧ (1 ≤ next ∧ next ≤ 65535) ∧ qu.length ≤ s.qu.length ∧ fl.length + qu.length ≤ s.fl.length + s.qu.length ∧ out.length + qu.length ≤ o0.length + s.qu.length
theorem flyJ_step {s : Ses} {x' u' v' : Value} {o0 out : List Pk} {fl qu : List Fl} {next id : Int} {vs : List V} (hg : flyR s.on fl qu next out = flyR s.on s.fl s.qu s.next o0) (hn : 1 ≤ next ∧ next ≤ 65535)
    (hq : qu.length ≤ s.qu.length) (hf : fl.length + qu.length ≤ s.fl.length + s.qu.length) (ho : out.length + qu.length ≤ o0.length + s.qu.length) (hc : (s.on = true ∧ 0 < (qu.length : Int)) ∧ (fl.length : Int) < 3) (hid : id = freeId fl next)
    {R1 R2 R3 : List (List Value)} {n1 : Int} (hvs : vs = [.s s.cl, .b s.on, .b s.clean, .v u', .r R2, .v v', .r R3, .i n1, .v x', .r R1])
    (e1 : R1 = (out ++ [(false, 1, id, (qu.getD 0 fD).2.1, (qu.getD 0 fD).2.2)]).map encP) (e2 : R2 = (fl ++ [(id, (qu.getD 0 fD).2.1, (qu.getD 0 fD).2.2)]).map encF) (e3 : R3 = (qu.drop 1).map encF) (e4 : n1 = nx id) : flyJ s o0 vs := by
  subst hid e1 e2 e3 e4
  have hs := flyR_step (on := s.on) (fl := fl) (qu := qu) (next := next) (out := out) ⟨⟨hc.1.1, by omega⟩, by omega⟩
  exact ⟨x', u', v', _, _, _, _, hvs, hs.symm.trans hg, (nx_ok (free_ok hn)).1, by simp; omega, by simp; omega, by simp; omega⟩
theorem idIs_used (fl : List Fl) (id : Int) : fl.any (idIs id) = used fl id := rfl

set_option maxHeartbeats 4000000 in
theorem c_fly (B : Base) (w : World) (k : Nat) (s : Ses) (u v x : Value) (o0 : List Pk) (hrel : Rel B (sndA k s u v x o0) sndH w) (hn : 1 ≤ s.next ∧ s.next ≤ 65535) (hl1 : s.fl.length < 100000) (hl2 : s.qu.length < 100000) (hl3 : o0.length < 100000) :
    Calls Tryd.prog 109 #[.pointer (some ⟨k, 0, none⟩)] w
    fun e w' => e = .returned (.tuple #[]) ∧ ∃ u' v' x', Rel B (sndA k (flyG s o0).1 u' v' x' (flyG s o0).2) sndH w' := by
  refine as_called (run_tree2 (B := B) (ρ := sndA k s u v x o0) sxE_ok Tryd.func109 tree_session_sender_fly rfl rfl hrel rfl rfl ?_) rfl
  simp only [sndA]
  simp only [Tree.goal, X.P, X.ev, V.toI_i, V.toB_b, V.toS_s, V.toR_r, V.toV_v, V.toN_n, V.toL_l, SV.ev, CV.ev, Sc.ev, List.getD_cons_zero, List.getD_cons_succ, List.getElem?_cons_zero, List.getElem?_cons_succ, List.map_cons, List.map_nil, List.length_cons, List.length_nil, List.cons_append, List.nil_append, Nat.zero_add, Nat.reduceAdd, List.length_map, Int.toNat_natCast, gF0, gF1, gF2]
  have hg : flyR s.on s.fl s.qu s.next o0 = flyR s.on s.fl s.qu s.next o0 := rfl
  have hnx : 1 ≤ s.next ∧ s.next ≤ 65535 := hn
  have hq : s.qu.length ≤ s.qu.length := Nat.le_refl _
  have hf : s.fl.length + s.qu.length ≤ s.fl.length + s.qu.length := Nat.le_refl _
  have ho : o0.length + s.qu.length ≤ o0.length + s.qu.length := Nat.le_refl _
  refine ⟨fun hc => ?_, fun hc w1 hr => ?_⟩
  · intro b3
    refine ⟨fun vs => ∃ (id : Int), vs = [.i id] ∧ atTry s.fl s.next id, fun vs => tries s.next (vs.getD 0 (.i 0)).toI true, ⟨s.next, rfl, .inl rfl⟩, ?_⟩
    rintro _ - ⟨id, rfl, ha⟩
    have hid := atTry_ok hnx ha
    simp only [Tree.goal, X.P, X.ev, V.toI_i, V.toB_b, V.toS_s, V.toR_r, V.toV_v, V.toN_n, V.toL_l, SV.ev, CV.ev, Sc.ev, List.getD_cons_zero, List.getD_cons_succ, List.getElem?_cons_zero, List.getElem?_cons_succ, List.map_cons, List.map_nil, List.length_cons, List.length_nil, List.cons_append, List.nil_append, Nat.zero_add, Nat.reduceAdd, List.length_map, Int.toNat_natCast, gF0, gF1, gF2]
    refine ⟨[.b (s.fl.any (idIs id))], rfl, fun _ w' hr => c_with w' u s.fl id (hr.at_ 1 rfl).reads (by omega), ?_⟩
    simp only [Tree.goal, X.P, X.ev, V.toI_i, V.toB_b, V.toS_s, V.toR_r, V.toV_v, V.toN_n, V.toL_l, SV.ev, CV.ev, Sc.ev, List.getD_cons_zero, List.getD_cons_succ, List.getElem?_cons_zero, List.getElem?_cons_succ, List.map_cons, List.map_nil, List.length_cons, List.length_nil, List.cons_append, List.nil_append, Nat.zero_add, Nat.reduceAdd, List.length_map, Int.toNat_natCast, gF0, gF1, gF2]
    refine ⟨fun hu => ?_, fun hu => ?_⟩
    · obtain ⟨n1, n2⟩ := atTry_next (by omega) hnx ha hu
      exact ⟨by omega, ⟨_, rfl, n1⟩, n2⟩
    have hid2 := atTry_free ha (by simpa [used] using hu)
    (repeat (first | (refine ⟨by ((try simp only [List.length_map, Int.toNat_natCast, gF0, gF1, gF2, List.length_append, List.nil_append, List.length_cons, List.length_nil]); omega), ?_⟩) | (intro _)))
    refine ⟨fun vs => flyJ s o0 vs, fun vs => (vs.getD 6 (.i 0)).toR.length, flyJ_step hg hnx hq hf ho hc hid2 rfl (by simp [encP, List.map_append]) (by simp [encF, List.map_append]) (dropQ _) rfl, ?_⟩
    clear hg hnx hq hf ho hc ha hid hid2 hu
    rintro _ - ⟨x, u', v', out, fl, qu, next, rfl, hg, hnx, hq, hf, ho⟩
    simp only [Tree.goal, X.P, X.ev, V.toI_i, V.toB_b, V.toS_s, V.toR_r, V.toV_v, V.toN_n, V.toL_l, SV.ev, CV.ev, Sc.ev, List.getD_cons_zero, List.getD_cons_succ, List.getElem?_cons_zero, List.getElem?_cons_succ, List.map_cons, List.map_nil, List.length_cons, List.length_nil, List.cons_append, List.nil_append, Nat.zero_add, Nat.reduceAdd, List.length_map, Int.toNat_natCast, gF0, gF1, gF2]
    refine ⟨fun hc => ?_, fun hc w1 hr => ?_⟩
    · intro b3
      refine ⟨fun vs => ∃ (id : Int), vs = [.i id] ∧ atTry fl next id, fun vs => tries next (vs.getD 0 (.i 0)).toI true, ⟨next, rfl, .inl rfl⟩, ?_⟩
      rintro _ - ⟨id, rfl, ha⟩
      have hid := atTry_ok hnx ha
      simp only [Tree.goal, X.P, X.ev, V.toI_i, V.toB_b, V.toS_s, V.toR_r, V.toV_v, V.toN_n, V.toL_l, SV.ev, CV.ev, Sc.ev, List.getD_cons_zero, List.getD_cons_succ, List.getElem?_cons_zero, List.getElem?_cons_succ, List.map_cons, List.map_nil, List.length_cons, List.length_nil, List.cons_append, List.nil_append, Nat.zero_add, Nat.reduceAdd, List.length_map, Int.toNat_natCast, gF0, gF1, gF2]
      refine ⟨[.b (fl.any (idIs id))], rfl, fun _ w' hr => c_with w' u' fl id (hr.at_ 4 rfl).reads (by omega), ?_⟩
      simp only [Tree.goal, X.P, X.ev, V.toI_i, V.toB_b, V.toS_s, V.toR_r, V.toV_v, V.toN_n, V.toL_l, SV.ev, CV.ev, Sc.ev, List.getD_cons_zero, List.getD_cons_succ, List.getElem?_cons_zero, List.getElem?_cons_succ, List.map_cons, List.map_nil, List.length_cons, List.length_nil, List.cons_append, List.nil_append, Nat.zero_add, Nat.reduceAdd, List.length_map, Int.toNat_natCast, gF0, gF1, gF2]
      refine ⟨fun hu => ?_, fun hu => ?_⟩
      · obtain ⟨n1, n2⟩ := atTry_next (by omega) hnx ha hu
        exact ⟨by omega, ⟨_, rfl, n1⟩, n2⟩
      have hid2 := atTry_free ha (by simpa [used] using hu)
      (repeat (first | (refine ⟨by ((try simp only [List.length_map, Int.toNat_natCast, gF0, gF1, gF2, List.length_append, List.nil_append, List.length_cons, List.length_nil]); omega), ?_⟩) | (intro _)))
      exact ⟨flyJ_step hg hnx hq hf ho hc hid2 rfl (by simp [encP, List.map_append]) (by simp [encF, List.map_append]) (dropQ _) rfl, by simp; omega⟩
    · refine (c_CloneF w1 v' qu (hr.at_ 5 rfl) (by omega)).mono ?_
      rintro e w2 ⟨v2, rfl, g1, g2, gm⟩
      refine ⟨[.v v2, .r (qu.map encF)], rfl, rfl, gm, List.forall_mem_nil _, List.forall_mem_cons.2 ⟨⟨g1, fun k hk => .inl (g2 k hk)⟩, List.forall_mem_nil _⟩, apart_one, ?_⟩
      intro w3 hr3
      have e : flyR s.on s.fl s.qu s.next o0 = (fl, qu, next, out) := by
        rw [← hg]; exact flyR_stop (fun h => hc ⟨⟨h.1.1, by omega⟩, by omega⟩)
      simp only [flyG, e]
      exact ⟨trivial, u', v2, x, (hr3.pick [4, 0, 1, 9] (by decide)).conv rfl⟩
  · refine (c_CloneF w1 v s.qu (hr.at_ 1 rfl).reads (by omega)).mono ?_
    rintro e w2 ⟨v2, rfl, g1, g2, gm⟩
    refine ⟨[.v v2, .r (s.qu.map encF)], rfl, rfl, gm, List.forall_mem_nil _, List.forall_mem_cons.2 ⟨⟨g1, fun k hk => .inl (g2 k hk)⟩, List.forall_mem_nil _⟩, apart_one, ?_⟩
    intro w3 hr3
    have e : flyR s.on s.fl s.qu s.next o0 = (s.fl, s.qu, s.next, o0) := by
      rw [← hg]; exact flyR_stop (fun h => hc ⟨⟨h.1.1, by omega⟩, by omega⟩)
    simp only [flyG, e]
    exact ⟨trivial, u, v2, x, (hr3.pick [1, 0, 3, 4] (by decide)).conv rfl⟩
end Go.Proofs.YtkalmhdckoocbaaDoor
