/-
  Sessions: what flies, as the reference reckons it. By an AI agent.
-/
import Derived.Test.YtkalmhdckoocbaaDoorNd
import Derived.Test.YtkalmhdckoocbaaDoorTreesS
set_option linter.unusedSimpArgs false
set_option linter.unusedVariables false
namespace Go.Proofs.YtkalmhdckoocbaaDoor
open Go.Sx

/-- How many numbers are to be tried still. -/
def tries (next id : Int) (ag : Bool) : Nat := if ag = true then (if id = next then 3 else if id = nx next then 2 else 1) else 0
def atTry (fl : List Fl) (next id : Int) : Prop := id = next ∨ (id = nx next ∧ used fl next = true) ∨ (id = nx (nx next) ∧ used fl next = true ∧ used fl (nx next) = true)
theorem atTry_ok {fl : List Fl} {next id : Int} (h : 1 ≤ next ∧ next ≤ 65535) (ha : atTry fl next id) : 1 ≤ id ∧ id ≤ 65535 := by
  obtain ⟨h1, -⟩ := nx_ok h
  rcases ha with rfl | ⟨rfl, -⟩ | ⟨rfl, -⟩
  · exact h
  · exact h1
  · exact (nx_ok h1).1
theorem atTry_next {fl : List Fl} {next id : Int} (hl : fl.length < 3) (h : 1 ≤ next ∧ next ≤ 65535) (ha : atTry fl next id) (hu : used fl id = true) : atTry fl next (nx id) ∧ tries next (nx id) true < tries next id true := by
  obtain ⟨h1, h2, h3, h4⟩ := nx_ok h
  rcases ha with rfl | ⟨rfl, u1⟩ | ⟨rfl, u1, u2⟩
  · exact ⟨.inr (.inl ⟨rfl, hu⟩), by simp [tries, h2]⟩
  · exact ⟨.inr (.inr ⟨rfl, u1, hu⟩), by simp [tries, h2, h3, h4]⟩
  · exact (pigeon hl u1 u2 hu (Ne.symm h2) (Ne.symm h3) (Ne.symm h4)).elim
theorem atTry_free {fl : List Fl} {next id : Int} (ha : atTry fl next id) (hu : used fl id = false) : id = freeId fl next := by
  rcases ha with rfl | ⟨rfl, u1⟩ | ⟨rfl, u1, u2⟩
  · simp [freeId, hu]
  · simp [freeId, hu, u1]
  · simp [freeId, u1, u2]

def flyS (s : Ses) : Ses × List Pk := (⟨s.cl, s.on, s.clean, (flyR s.on s.fl s.qu s.next []).1, (flyR s.on s.fl s.qu s.next []).2.1, (flyR s.on s.fl s.qu s.next []).2.2.1⟩, (flyR s.on s.fl s.qu s.next []).2.2.2)
/-- A session and packets come. -/
def gotSP (w w' : World) (s : Ses) (u v : Value) (e : Ending) (r : Ses) (out : List Pk) : Prop :=
  ∃ u' v' x, e = .returned (.tuple #[sesV r u' v', sc1 x]) ∧ readsF w' u' r.fl ∧ readsF w' v' r.qu ∧ readsP w' x out ∧ fromS w.heap.size s u v u' r.fl ∧ fromS w.heap.size s u v v' r.qu ∧ (∀ k, blockOf x k → w.heap.size ≤ k) ∧ Mod [] w w'
theorem fromS_own {n : Nat} {s : Ses} {u v x : Value} {l : List Fl} (h : ∀ k, blockOf x k → n ≤ k) : fromS n s u v x l := fun k hk => .inl (h k hk.2)
theorem fromS_drop {n : Nat} {s : Ses} {u v x y : Value} {l : List Fl} (h : fromS n s u v x l) (hb : ∀ k, blockOf y k → blockOf x k) (i : Nat) : fromS n s u v y (l.drop i) := fun k hk => h k ⟨fun h0 => hk.1 (by
  rw [List.flatten_eq_nil_iff] at h0 ⊢
  intro a ha
  rw [List.map_drop] at ha
  exact h0 a (List.mem_of_mem_drop ha)), hb k hk.2⟩

/-- A round's state. -/
def flyI (n : Nat) (s : Ses) (u v : Value) (vs : List V) : Prop :=
  ∃ (x u' v' : Value) (out : List Pk) (fl qu : List Fl) (next : Int), vs = [.v x, .r (out.map encP), .s s.cl, .b s.on, .b s.clean, .v u', .r (fl.map encF), .v v', .r (qu.map encF), .i next] ∧
    flyR s.on fl qu next out = flyR s.on s.fl s.qu s.next [] ∧ (1 ≤ next ∧ next ≤ 65535) ∧ qu.length ≤ s.qu.length ∧ fl.length + qu.length ≤ s.fl.length + s.qu.length ∧ out.length + qu.length ≤ s.qu.length ∧
    fromS n s u v u' fl ∧ fromS n s u v v' qu ∧ (∀ k, blockOf x k → n ≤ k)
theorem flyI_step {n : Nat} {s : Ses} {u v x' u' v' : Value} {out : List Pk} {fl qu : List Fl} {next id : Int} {vs : List V} (hg : flyR s.on fl qu next out = flyR s.on s.fl s.qu s.next []) (hn : 1 ≤ next ∧ next ≤ 65535)
    (hq : qu.length ≤ s.qu.length) (hf : fl.length + qu.length ≤ s.fl.length + s.qu.length) (ho : out.length + qu.length ≤ s.qu.length) (hc : (s.on = true ∧ 0 < (qu.length : Int)) ∧ (fl.length : Int) < 3) (hid : id = freeId fl next)
    {R1 R2 R3 : List (List Value)} {n1 : Int} (hvs : vs = [.v x', .r R1, .s s.cl, .b s.on, .b s.clean, .v u', .r R2, .v v', .r R3, .i n1])
    (e1 : R1 = (out ++ [(false, 1, id, (qu.getD 0 fD).2.1, (qu.getD 0 fD).2.2)]).map encP) (e2 : R2 = (fl ++ [(id, (qu.getD 0 fD).2.1, (qu.getD 0 fD).2.2)]).map encF) (e3 : R3 = (qu.drop 1).map encF) (e4 : n1 = nx id)
    (p1 : ∀ k, blockOf u' k → n ≤ k) (p2 : fromS n s u v v' (qu.drop 1)) (p3 : ∀ k, blockOf x' k → n ≤ k) : flyI n s u v vs := by
  subst hid e1 e2 e3 e4
  have hs := flyR_step (on := s.on) (fl := fl) (qu := qu) (next := next) (out := out) ⟨⟨hc.1.1, by omega⟩, by omega⟩
  refine ⟨x', u', v', _, _, _, _, hvs, hs.symm.trans hg, (nx_ok (free_ok hn)).1, by simp; omega, by simp; omega, by simp; omega, fromS_own p1, p2, p3⟩
theorem anyF_take {fl : List Fl} {id : Int} {i : Nat} (hi : i < fl.length) : (fl.take (i + 1)).any (idIs id) = ((fl.take i).any (idIs id) || decide ((fl.getD i fD).1 = id)) := anyF_snoc (idIs id) fl i hi

theorem dropQ (qu : List Fl) : List.drop (Int.toNat 1) (List.take qu.length (List.map encF qu)) = (qu.drop 1).map encF := by
  rw [List.take_of_length_le (by simp), List.map_drop]; rfl
set_option maxHeartbeats 4000000 in
theorem c_FlyOf (w : World) (s : Ses) (u v : Value) (hu : readsF w u s.fl) (hv : readsF w v s.qu) (hn : 1 ≤ s.next ∧ s.next ≤ 65535) (hl1 : s.fl.length < 1000000) (hl2 : s.qu.length < 1000000) : Calls Tryd.prog 86 #[sesV s u v] w
    fun e w' => gotSP w w' s u v e (flyS s).1 (flyS s).2 := by
  refine as_called (run_tree3 (ρ := [.s s.cl, .b s.on, .b s.clean, .v u, .r (s.fl.map encF), .v v, .r (s.qu.map encF), .i s.next]) sxE_ok Tryd.func86 tree_dragomanref_FlyOf rfl rfl (Rel.start2 (by simp [Ent.holds, Ent.wr, hu, hv, X.ev])) rfl rfl ?_) rfl
  simp only [Tree.goal, X.P, X.ev, V.toI_i, V.toB_b, V.toS_s, V.toR_r, V.toV_v, V.toN_n, V.toL_l, SV.ev, CV.ev, Sc.ev, List.getD_cons_zero, List.getD_cons_succ, List.getElem?_cons_zero, List.getElem?_cons_succ, List.map_cons, List.map_nil, List.length_cons, List.length_nil, List.cons_append, List.nil_append, Nat.zero_add, Nat.reduceAdd]
  intro b1 b2
  refine ⟨fun vs => flyI w.heap.size s u v vs, fun vs => (vs.getD 8 (.i 0)).toR.length, ⟨_, _, _, [], _, _, _, rfl, rfl, hn, Nat.le_refl _, Nat.le_refl _, by simp, fun k hk => .inr (.inl hk), fun k hk => .inr (.inr hk), fun k hk => by simp [blockOf, Value.ownBlock] at hk⟩, ?_⟩
  rintro _ - ⟨x, u', v', out, fl, qu, next, rfl, hg, hnx, hq, hf, ho, p1, p2, p3⟩
  simp only [Tree.goal, X.P, X.ev, V.toI_i, V.toB_b, V.toS_s, V.toR_r, V.toV_v, V.toN_n, V.toL_l, SV.ev, CV.ev, Sc.ev, List.getD_cons_zero, List.getD_cons_succ, List.getElem?_cons_zero, List.getElem?_cons_succ, List.map_cons, List.map_nil, List.length_cons, List.length_nil, List.cons_append, List.nil_append, Nat.zero_add, Nat.reduceAdd, List.length_map, Int.toNat_natCast, gF0, gF1, gF2]
  refine ⟨fun hc => ?_, fun hc w' hr => ?_⟩
  · intro b3
    refine ⟨fun vs => ∃ (id : Int) (ag : Bool), vs = [.i id, .b ag] ∧ (1 ≤ id ∧ id ≤ 65535) ∧ (ag = true → atTry fl next id) ∧ (ag = false → id = freeId fl next), fun vs => tries next (vs.getD 0 (.i 0)).toI (vs.getD 1 (.i 0)).toB, ⟨next, true, rfl, hnx, fun _ => .inl rfl, fun h => Bool.noConfusion h⟩, ?_⟩
    rintro _ - ⟨id, ag, rfl, hid, ha, hna⟩
    simp only [Tree.goal, X.P, X.ev, V.toI_i, V.toB_b, V.toS_s, V.toR_r, V.toV_v, V.toN_n, V.toL_l, SV.ev, CV.ev, Sc.ev, List.getD_cons_zero, List.getD_cons_succ, List.getElem?_cons_zero, List.getElem?_cons_succ, List.map_cons, List.map_nil, List.length_cons, List.length_nil, List.cons_append, List.nil_append, Nat.zero_add, Nat.reduceAdd, List.length_map, Int.toNat_natCast, gF0, gF1, gF2]
    refine ⟨fun hag => ?_, fun hag => ?_⟩
    · subst hag
      have ha := ha rfl
      refine ⟨fun vs => ∃ (i : Nat), vs = [.b ((fl.take i).any (idIs id)), .i i] ∧ i ≤ fl.length, fun vs => fl.length - (vs.getD 1 (.i 0)).toI.toNat, ⟨0, by simp, by omega⟩, ?_⟩
      rintro _ - ⟨i, rfl, hi⟩
      simp only [Tree.goal, X.P, X.ev, V.toI_i, V.toB_b, V.toS_s, V.toR_r, V.toV_v, V.toN_n, V.toL_l, SV.ev, CV.ev, Sc.ev, List.getD_cons_zero, List.getD_cons_succ, List.getElem?_cons_zero, List.getElem?_cons_succ, List.map_cons, List.map_nil, List.length_cons, List.length_nil, List.cons_append, List.nil_append, Nat.zero_add, Nat.reduceAdd, List.length_map, Int.toNat_natCast, gF0, gF1, gF2]
      refine ⟨fun h1 => ⟨by omega, fun h2 => ?_, fun h2 => ?_⟩, fun h1 => ?_⟩
      · refine ⟨by omega, by omega, ⟨i + 1, ?_, by omega⟩, by omega⟩
        rw [anyF_take (by omega), decide_eq_true h2, Bool.or_true]; rfl
      · refine ⟨by omega, by omega, ⟨i + 1, ?_, by omega⟩, by omega⟩
        rw [anyF_take (by omega), decide_eq_false h2, Bool.or_false]; rfl
      · have hil : i = fl.length := by omega
        subst hil
        rw [List.take_length]
        refine ⟨fun h2 => ⟨by omega, by omega, ?_, ?_⟩, fun h2 => ?_⟩
        · intro h3
          obtain ⟨n1, n2⟩ := atTry_next (by omega) hnx ha h2
          have e : nx id = 1 := by rw [nx_if hid, if_pos h3]
          rw [e] at n1 n2
          exact ⟨⟨1, true, by rw [h2], by omega, fun _ => n1, fun h => Bool.noConfusion h⟩, by rw [h2]; exact n2⟩
        · intro h3
          obtain ⟨n1, n2⟩ := atTry_next (by omega) hnx ha h2
          have e : nx id = id + 1 := by rw [nx_if hid, if_neg h3]
          rw [e] at n1 n2
          exact ⟨⟨id + 1, true, by rw [h2], by omega, fun _ => n1, fun h => Bool.noConfusion h⟩, by rw [h2]; exact n2⟩
        · have h2 : fl.any (idIs id) = false := by simpa using h2
          refine ⟨⟨id, false, by rw [h2], hid, fun h => Bool.noConfusion h, fun _ => atTry_free ha h2⟩, ?_⟩
          rw [h2]
          have : 0 < tries next id true := by unfold tries; simp only [if_true]; split <;> (try split) <;> omega
          exact this
    · have hid2 := hna (by simpa using hag)
      refine ⟨by omega, by omega, fun h3 => ?_, fun h3 => ?_⟩
      · have e : 1 = nx id := by rw [nx_if hid, if_pos h3]
        (repeat (first | (refine ⟨by ((try simp only [List.length_map, Int.toNat_natCast, gF0, gF1, gF2, List.length_append, List.nil_append, List.length_cons, List.length_nil]); omega), ?_⟩) | (refine ⟨flyI_step hg hnx hq hf ho hc hid2 rfl (by simp [encP, List.map_append]) (by simp [encF, List.map_append]) (dropQ qu) e (fun k hk => (by simpa using (by assumption : ∀ k, blockOf _ k → w.heap.size ≤ k ∨ k ∈ ([] : List Nat)) k hk)) (fromS_drop p2 (by assumption) 1) (fun k hk => (by simpa using (by assumption : ∀ k, blockOf _ k → w.heap.size ≤ k ∨ k ∈ ([] : List Nat)) k hk)), by (simp <;> omega)⟩) | (refine ⟨?_, ?_⟩) | (intro _ _)))
      · have e : id + 1 = nx id := by rw [nx_if hid, if_neg h3]
        (repeat (first | (refine ⟨by ((try simp only [List.length_map, Int.toNat_natCast, gF0, gF1, gF2, List.length_append, List.nil_append, List.length_cons, List.length_nil]); omega), ?_⟩) | (refine ⟨flyI_step hg hnx hq hf ho hc hid2 rfl (by simp [encP, List.map_append]) (by simp [encF, List.map_append]) (dropQ qu) e (fun k hk => (by simpa using (by assumption : ∀ k, blockOf _ k → w.heap.size ≤ k ∨ k ∈ ([] : List Nat)) k hk)) (fromS_drop p2 (by assumption) 1) (fun k hk => (by simpa using (by assumption : ∀ k, blockOf _ k → w.heap.size ≤ k ∨ k ∈ ([] : List Nat)) k hk)), by (simp <;> omega)⟩) | (refine ⟨?_, ?_⟩) | (intro _ _)))
  · have e : flyR s.on s.fl s.qu s.next [] = (fl, qu, next, out) := by
      rw [← hg]; exact flyR_stop (fun h => hc ⟨⟨h.1.1, by omega⟩, by omega⟩)
    refine ⟨u', v', x, ?_, ?_, ?_, ?_, ?_, ?_, p3, hr.mod⟩
    · simp only [flyS, e]; rfl
    · simp only [flyS, e]; exact hr.at_ 4 rfl
    · simp only [flyS, e]; exact hr.at_ 5 rfl
    · simp only [flyS, e]; exact (hr.at_ 0 rfl).reads
    · simp only [flyS, e]; exact p1
    · simp only [flyS, e]; exact p2
end Go.Proofs.YtkalmhdckoocbaaDoor
