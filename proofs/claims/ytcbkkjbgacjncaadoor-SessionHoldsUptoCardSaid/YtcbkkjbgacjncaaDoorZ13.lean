/-
  Sessions: what flies, as the reference reckons it. By an AI agent.
-/
import Derived.Test.YtcbkkjbgacjncaaDoorZ11
import Derived.Test.YtcbkkjbgacjncaaDoorZ12
import Derived.Test.YtcbkkjbgacjncaaDoorZ05
import Derived.Test.YtcbkkjbgacjncaaDoorZ09
set_option linter.unusedSimpArgs false
set_option linter.unusedVariables false
namespace Go.Proofs.YtcbkkjbgacjncaaDoor
open Go.Sx

/-- How many numbers are to be tried still. -/
def tries (next id : Int) (ag : Bool) : Nat := if ag = true then (if id = next then 3 else if id = nx next then 2 else 1) else 0
def atTry (fl : List Fl) (next id : Int) : Prop := id = next ∨ (id = nx next ∧ used fl next = true) ∨ (id = nx (nx next) ∧ used fl next = true ∧ used fl (nx next) = true)
theorem atTry_ok {fl : List Fl} {next id : Int} (h : 1 ≤ next ∧ next ≤ 65535) (ha : atTry fl next id) : 1 ≤ id ∧ id ≤ 65535 := by
  obtain ⟨h1, -⟩ := nx_ok h
  rcases ha with rfl | ⟨rfl, -⟩ | ⟨rfl, -⟩
  · exact h
  · exact h1
  · exact (nx_ok h1).1
theorem atTry_next {fl : List Fl} {next id : Int} (hl : fl.length < 3) (h : 1 ≤ next ∧ next ≤ 65535) (ha : atTry fl next id) (hu : used fl id = true) : atTry fl next (nx id) ∧ tries next (nx id) true < tries next id true := by
  obtain ⟨h1, h2, h3, h4⟩ := nx_ok h
  rcases ha with rfl | ⟨rfl, u1⟩ | ⟨rfl, u1, u2⟩
  · exact ⟨.inr (.inl ⟨rfl, hu⟩), by simp [tries, h2]⟩
  · exact ⟨.inr (.inr ⟨rfl, u1, hu⟩), by simp [tries, h2, h3, h4]⟩
  · exact (pigeon hl u1 u2 hu (Ne.symm h2) (Ne.symm h3) (Ne.symm h4)).elim
theorem atTry_free {fl : List Fl} {next id : Int} (ha : atTry fl next id) (hu : used fl id = false) : id = freeId fl next := by
  rcases ha with rfl | ⟨rfl, u1⟩ | ⟨rfl, u1, u2⟩
  · simp [freeId, hu]
  · simp [freeId, hu, u1]
  · simp [freeId, u1, u2]

def flyS (s : Ses) : Ses × List Pk := (⟨s.cl, s.on, s.clean, (flyR s.on s.fl s.qu s.next []).1, (flyR s.on s.fl s.qu s.next []).2.1, (flyR s.on s.fl s.qu s.next []).2.2.1⟩, (flyR s.on s.fl s.qu s.next []).2.2.2)
/-- A session and packets come. -/
def gotSP (w w' : World) (s : Ses) (u v : Value) (e : Ending) (r : Ses) (out : List Pk) : Prop :=
  ∃ u' v' x, e = .returned (.tuple #[sesV r u' v', sc1 x]) ∧ readsF w' u' r.fl ∧ readsF w' v' r.qu ∧ readsP w' x out ∧ fromS w.heap.size s u v u' r.fl ∧ fromS w.heap.size s u v v' r.qu ∧ (∀ k, blockOf x k → w.heap.size ≤ k) ∧ Mod [] w w'
theorem fromS_own {n : Nat} {s : Ses} {u v x : Value} {l : List Fl} (h : ∀ k, blockOf x k → n ≤ k) : fromS n s u v x l := fun k hk => .inl (h k hk.2)
theorem fromS_drop {n : Nat} {s : Ses} {u v x y : Value} {l : List Fl} (h : fromS n s u v x l) (hb : ∀ k, blockOf y k → blockOf x k) (i : Nat) : fromS n s u v y (l.drop i) := fun k hk => h k ⟨fun h0 => hk.1 (by
  rw [List.flatten_eq_nil_iff] at h0 ⊢
  intro a ha
  rw [List.map_drop] at ha
  exact h0 a (List.mem_of_mem_drop ha)), hb k hk.2⟩

/-- A round's state. -/
def flyI (n : Nat) (s : Ses) (u v : Value) (vs : List V) : Prop :=
  ∃ (x u' v' : Value) (out : List Pk) (fl qu : List Fl) (next : Int), vs = [.v x, .r (out.map encP), .s s.cl, .b s.on, .b s.clean, .v u', .r (fl.map encF), .v v', .r (qu.map encF), .i next] ∧
    flyR s.on fl qu next out = flyR s.on s.fl s.qu s.next [] ∧ (1 ≤ next ∧ next ≤ 65535) ∧ qu.length ≤ s.qu.length ∧ fl.length + qu.length ≤ s.fl.length + s.qu.length ∧ out.length + qu.length ≤ s.qu.length ∧
    fromS n s u v u' fl ∧ fromS n s u v v' qu ∧ (∀ k, blockOf x k → n ≤ k)
theorem flyI_step {n : Nat} {s : Ses} {u v x' u' v' : Value} {out : List Pk} {fl qu : List Fl} {next id : Int} {vs : List V} (hg : flyR s.on fl qu next out = flyR s.on s.fl s.qu s.next []) (hn : 1 ≤ next ∧ next ≤ 65535)
    (hq : qu.length ≤ s.qu.length) (hf : fl.length + qu.length ≤ s.fl.length + s.qu.length) (ho : out.length + qu.length ≤ s.qu.length) (hc : (s.on = true ∧ 0 < (qu.length : Int)) ∧ (fl.length : Int) < 3) (hid : id = freeId fl next)
    {R1 R2 R3 : List (List Value)} {n1 : Int} (hvs : vs = [.v x', .r R1, .s s.cl, .b s.on, .b s.clean, .v u', .r R2, .v v', .r R3, .i n1])
    (e1 : R1 = (out ++ [(false, 1, id, (qu.getD 0 fD).2.1, (qu.getD 0 fD).2.2)]).map encP) (e2 : R2 = (fl ++ [(id, (qu.getD 0 fD).2.1, (qu.getD 0 fD).2.2)]).map encF) (e3 : R3 = (qu.drop 1).map encF) (e4 : n1 = nx id)
    (p1 : ∀ k, blockOf u' k → n ≤ k) (p2 : fromS n s u v v' (qu.drop 1)) (p3 : ∀ k, blockOf x' k → n ≤ k) : flyI n s u v vs := by
  subst hid e1 e2 e3 e4
  have hs := flyR_step (on := s.on) (fl := fl) (qu := qu) (next := next) (out := out) ⟨⟨hc.1.1, by omega⟩, by omega⟩
  refine ⟨x', u', v', _, _, _, _, hvs, hs.symm.trans hg, (nx_ok (free_ok hn)).1, by simp; omega, by simp; omega, by simp; omega, fromS_own p1, p2, p3⟩
theorem anyF_take {fl : List Fl} {id : Int} {i : Nat} (hi : i < fl.length) : (fl.take (i + 1)).any (idIs id) = ((fl.take i).any (idIs id) || decide ((fl.getD i fD).1 = id)) := anyF_snoc (idIs id) fl i hi

theorem dropQ (qu : List Fl) : List.drop (Int.toNat 1) (List.take qu.length (List.map encF qu)) = (qu.drop 1).map encF := by
  rw [List.take_of_length_le (by simp), List.map_drop]; rfl
end Go.Proofs.YtcbkkjbgacjncaaDoor

/-
  Sessions: what the reference sends, lands, and what it does when a client comes. By an AI agent.
-/
set_option linter.unusedSimpArgs false
set_option linter.unusedVariables false
namespace Go.Proofs.YtcbkkjbgacjncaaDoor
open Go.Sx

theorem apart_ro {ρ : List V} {es : List Ent} (h : ∀ e ∈ es, e.wr = false) : Apart ρ es :=
  List.Pairwise.imp_of_mem (fun {a b} ha hb _ hw => by rcases hw with hw | hw; rw [h a ha] at hw; cases hw; rw [h b hb] at hw; cases hw) (List.pairwise_of_forall (R := fun _ _ => True) (fun _ _ => trivial))
def pk0 (n p : List UInt8) : Pk := (false, 0, 0, n, p)
def pk1 (f : Fl) : Pk := (true, 1, f.1, f.2.1, f.2.2)
def sendR (s : Ses) (n p : List UInt8) (q : Int) : Ses × List Pk :=
  if q = 0 then (s, if s.on = true then [pk0 n p] else [])
  else if ((¬ s.on = true) ∧ s.clean = true) ∨ (s.qu.length : Int) = 6 then (s, []) else flyS { s with qu := s.qu ++ [(0, n, p)] }
def landL (l : List Fl) (id : Int) : List Fl := l.filter fun f => !(idIs id f)
def landR (s : Ses) (id : Int) : Ses × List Pk := flyS { s with fl := landL s.fl id }
def comeR (s : Ses) : Ses × List Pk := ((flyS { s with on := true }).1, s.fl.map pk1 ++ (flyS { s with on := true }).2)

theorem fromS_u {n : Nat} {s : Ses} {u v : Value} : fromS n s u v u s.fl := fun k hk => .inr (.inl hk)
theorem fromS_v {n : Nat} {s : Ses} {u v : Value} : fromS n s u v v s.qu := fun k hk => .inr (.inr hk)
theorem gone_of {ρ : List V} {g : List Nat} {i : Nat} (hi : i ∈ g) {k : Nat} (h : blockOf (ρ.getD i (.i 0)).toV k) : k ∈ goneOf ρ g := List.mem_flatMap.2 ⟨i, hi, by rw [h]; simp⟩
/-- A session that comes from a call, with slices of another session. -/
theorem fromS_via {n m : Nat} {s t : Ses} {u v u1 v1 x : Value} {l : List Fl} (h : fromS m t u1 v1 x l) (hnm : n ≤ m) (hu : fromS n s u v u1 t.fl) (hv : fromS n s u v v1 t.qu) : fromS n s u v x l := fun k hk => by
  rcases h k hk with h1 | h1 | h1
  · exact .inl (Nat.le_trans hnm h1)
  · exact hu k h1
  · exact hv k h1

theorem flyS_out (s : Ses) : (flyS s).2.length ≤ s.qu.length := by have := (flyR_len s.on s.qu s.fl s.next []).2.2; simp only [List.length_nil, Nat.zero_add] at this; exact this
end Go.Proofs.YtcbkkjbgacjncaaDoor

/-
  Sessions: what flies, as the code makes it. By an AI agent.
-/
set_option linter.unusedSimpArgs false
set_option linter.unusedVariables false
namespace Go.Proofs.YtcbkkjbgacjncaaDoor
open Go.Sx

/-- A sender, as names and assertions. -/
def sndA (k : Nat) (s : Ses) (u v x : Value) (out : List Pk) : List V := [.n k, .s s.cl, .b s.on, .b s.clean, .v u, .r (s.fl.map encF), .v v, .r (s.qu.map encF), .i s.next, .v x, .r (out.map encP)]
abbrev sndC : Ent := .cells 0 65 [.str (.var 1), .bool (.var 2), .bool (.var 3), .val (.var 4), .val (.var 6), .int .i64 (.var 8), .val (.var 9)]
abbrev sndH : List Ent := [.row 4 44 kF (.var 5), .row 6 44 kF (.var 7), .row 9 53 kP (.var 10), sndC]
def flyG (s : Ses) (out : List Pk) : Ses × List Pk := (⟨s.cl, s.on, s.clean, (flyR s.on s.fl s.qu s.next out).1, (flyR s.on s.fl s.qu s.next out).2.1, (flyR s.on s.fl s.qu s.next out).2.2.1⟩, (flyR s.on s.fl s.qu s.next out).2.2.2)

/-- A round's state. -/
def flyJ (s : Ses) (o0 : List Pk) (vs : List V) : Prop :=
  ∃ (x u' v' : Value) (out : List Pk) (fl qu : List Fl) (next : Int), vs = [.s s.cl, .b s.on, .b s.clean, .v u', .r (fl.map encF), .v v', .r (qu.map encF), .i next, .v x, .r (out.map encP)] ∧
    flyR s.on fl qu next out = flyR s.on s.fl s.qu s.next o0 ∧ (1 ≤ next ∧ next ≤ 65535) ∧ qu.length ≤ s.qu.length ∧ fl.length + qu.length ≤ s.fl.length + s.qu.length ∧ out.length + qu.length ≤ o0.length + s.qu.length
theorem flyJ_step {s : Ses} {x' u' v' : Value} {o0 out : List Pk} {fl qu : List Fl} {next id : Int} {vs : List V} (hg : flyR s.on fl qu next out = flyR s.on s.fl s.qu s.next o0) (hn : 1 ≤ next ∧ next ≤ 65535)
    (hq : qu.length ≤ s.qu.length) (hf : fl.length + qu.length ≤ s.fl.length + s.qu.length) (ho : out.length + qu.length ≤ o0.length + s.qu.length) (hc : (s.on = true ∧ 0 < (qu.length : Int)) ∧ (fl.length : Int) < 3) (hid : id = freeId fl next)
    {R1 R2 R3 : List (List Value)} {n1 : Int} (hvs : vs = [.s s.cl, .b s.on, .b s.clean, .v u', .r R2, .v v', .r R3, .i n1, .v x', .r R1])
    (e1 : R1 = (out ++ [(false, 1, id, (qu.getD 0 fD).2.1, (qu.getD 0 fD).2.2)]).map encP) (e2 : R2 = (fl ++ [(id, (qu.getD 0 fD).2.1, (qu.getD 0 fD).2.2)]).map encF) (e3 : R3 = (qu.drop 1).map encF) (e4 : n1 = nx id) : flyJ s o0 vs := by
  subst hid e1 e2 e3 e4
  have hs := flyR_step (on := s.on) (fl := fl) (qu := qu) (next := next) (out := out) ⟨⟨hc.1.1, by omega⟩, by omega⟩
  exact ⟨x', u', v', _, _, _, _, hvs, hs.symm.trans hg, (nx_ok (free_ok hn)).1, by simp; omega, by simp; omega, by simp; omega⟩
theorem idIs_used (fl : List Fl) (id : Int) : fl.any (idIs id) = used fl id := rfl

set_option maxHeartbeats 4000000 in
theorem c_fly (B : Base) (w : World) (k : Nat) (s : Ses) (u v x : Value) (o0 : List Pk) (hrel : Rel B (sndA k s u v x o0) sndH w) (hn : 1 ≤ s.next ∧ s.next ≤ 65535) (hl1 : s.fl.length < 100000) (hl2 : s.qu.length < 100000) (hl3 : o0.length < 100000) :
    Calls Tryd.prog 40 #[.pointer (some ⟨k, 0, none⟩)] w
    fun e w' => e = .returned (.tuple #[]) ∧ ∃ u' v' x', Rel B (sndA k (flyG s o0).1 u' v' x' (flyG s o0).2) sndH w' := by
  refine as_called (run_tree2 (B := B) (ρ := sndA k s u v x o0) sxE_ok Tryd.func40 tree_session_sender_fly rfl rfl hrel rfl rfl ?_) rfl
  simp only [sndA]
  simp only [Tree.goal, X.P, X.ev, V.toI_i, V.toB_b, V.toS_s, V.toR_r, V.toV_v, V.toN_n, V.toL_l, SV.ev, CV.ev, Sc.ev, List.getD_cons_zero, List.getD_cons_succ, List.getElem?_cons_zero, List.getElem?_cons_succ, List.map_cons, List.map_nil, List.length_cons, List.length_nil, List.cons_append, List.nil_append, Nat.zero_add, Nat.reduceAdd, List.length_map, Int.toNat_natCast, gF0, gF1, gF2]
  have hg : flyR s.on s.fl s.qu s.next o0 = flyR s.on s.fl s.qu s.next o0 := rfl
  have hnx : 1 ≤ s.next ∧ s.next ≤ 65535 := hn
  have hq : s.qu.length ≤ s.qu.length := Nat.le_refl _
  have hf : s.fl.length + s.qu.length ≤ s.fl.length + s.qu.length := Nat.le_refl _
  have ho : o0.length + s.qu.length ≤ o0.length + s.qu.length := Nat.le_refl _
  refine ⟨fun hc => ?_, fun hc w1 hr => ?_⟩
  · intro b3
    refine ⟨fun vs => ∃ (id : Int), vs = [.i id] ∧ atTry s.fl s.next id, fun vs => tries s.next (vs.getD 0 (.i 0)).toI true, ⟨s.next, rfl, .inl rfl⟩, ?_⟩
    rintro _ - ⟨id, rfl, ha⟩
    have hid := atTry_ok hnx ha
    simp only [Tree.goal, X.P, X.ev, V.toI_i, V.toB_b, V.toS_s, V.toR_r, V.toV_v, V.toN_n, V.toL_l, SV.ev, CV.ev, Sc.ev, List.getD_cons_zero, List.getD_cons_succ, List.getElem?_cons_zero, List.getElem?_cons_succ, List.map_cons, List.map_nil, List.length_cons, List.length_nil, List.cons_append, List.nil_append, Nat.zero_add, Nat.reduceAdd, List.length_map, Int.toNat_natCast, gF0, gF1, gF2]
    refine ⟨[.b (s.fl.any (idIs id))], rfl, fun _ w' hr => c_with w' u s.fl id (hr.at_ 1 rfl).reads (by omega), ?_⟩
    simp only [Tree.goal, X.P, X.ev, V.toI_i, V.toB_b, V.toS_s, V.toR_r, V.toV_v, V.toN_n, V.toL_l, SV.ev, CV.ev, Sc.ev, List.getD_cons_zero, List.getD_cons_succ, List.getElem?_cons_zero, List.getElem?_cons_succ, List.map_cons, List.map_nil, List.length_cons, List.length_nil, List.cons_append, List.nil_append, Nat.zero_add, Nat.reduceAdd, List.length_map, Int.toNat_natCast, gF0, gF1, gF2]
    refine ⟨fun hu => ?_, fun hu => ?_⟩
    · obtain ⟨n1, n2⟩ := atTry_next (by omega) hnx ha hu
      exact ⟨by omega, ⟨_, rfl, n1⟩, n2⟩
    have hid2 := atTry_free ha (by simpa [used] using hu)
    (repeat (first | (refine ⟨by ((try simp only [List.length_map, Int.toNat_natCast, gF0, gF1, gF2, List.length_append, List.nil_append, List.length_cons, List.length_nil]); omega), ?_⟩) | (intro _)))
    refine ⟨fun vs => flyJ s o0 vs, fun vs => (vs.getD 6 (.i 0)).toR.length, flyJ_step hg hnx hq hf ho hc hid2 rfl (by simp [encP, List.map_append]) (by simp [encF, List.map_append]) (dropQ _) rfl, ?_⟩
    clear hg hnx hq hf ho hc ha hid hid2 hu
    rintro _ - ⟨x, u', v', out, fl, qu, next, rfl, hg, hnx, hq, hf, ho⟩
    simp only [Tree.goal, X.P, X.ev, V.toI_i, V.toB_b, V.toS_s, V.toR_r, V.toV_v, V.toN_n, V.toL_l, SV.ev, CV.ev, Sc.ev, List.getD_cons_zero, List.getD_cons_succ, List.getElem?_cons_zero, List.getElem?_cons_succ, List.map_cons, List.map_nil, List.length_cons, List.length_nil, List.cons_append, List.nil_append, Nat.zero_add, Nat.reduceAdd, List.length_map, Int.toNat_natCast, gF0, gF1, gF2]
    refine ⟨fun hc => ?_, fun hc w1 hr => ?_⟩
    · intro b3
      refine ⟨fun vs => ∃ (id : Int), vs = [.i id] ∧ atTry fl next id, fun vs => tries next (vs.getD 0 (.i 0)).toI true, ⟨next, rfl, .inl rfl⟩, ?_⟩
      rintro _ - ⟨id, rfl, ha⟩
      have hid := atTry_ok hnx ha
      simp only [Tree.goal, X.P, X.ev, V.toI_i, V.toB_b, V.toS_s, V.toR_r, V.toV_v, V.toN_n, V.toL_l, SV.ev, CV.ev, Sc.ev, List.getD_cons_zero, List.getD_cons_succ, List.getElem?_cons_zero, List.getElem?_cons_succ, List.map_cons, List.map_nil, List.length_cons, List.length_nil, List.cons_append, List.nil_append, Nat.zero_add, Nat.reduceAdd, List.length_map, Int.toNat_natCast, gF0, gF1, gF2]
      refine ⟨[.b (fl.any (idIs id))], rfl, fun _ w' hr => c_with w' u' fl id (hr.at_ 4 rfl).reads (by omega), ?_⟩
      simp only [Tree.goal, X.P, X.ev, V.toI_i, V.toB_b, V.toS_s, V.toR_r, V.toV_v, V.toN_n, V.toL_l, SV.ev, CV.ev, Sc.ev, List.getD_cons_zero, List.getD_cons_succ, List.getElem?_cons_zero, List.getElem?_cons_succ, List.map_cons, List.map_nil, List.length_cons, List.length_nil, List.cons_append, List.nil_append, Nat.zero_add, Nat.reduceAdd, List.length_map, Int.toNat_natCast, gF0, gF1, gF2]
      refine ⟨fun hu => ?_, fun hu => ?_⟩
      · obtain ⟨n1, n2⟩ := atTry_next (by omega) hnx ha hu
        exact ⟨by omega, ⟨_, rfl, n1⟩, n2⟩
      have hid2 := atTry_free ha (by simpa [used] using hu)
      (repeat (first | (refine ⟨by ((try simp only [List.length_map, Int.toNat_natCast, gF0, gF1, gF2, List.length_append, List.nil_append, List.length_cons, List.length_nil]); omega), ?_⟩) | (intro _)))
      exact ⟨flyJ_step hg hnx hq hf ho hc hid2 rfl (by simp [encP, List.map_append]) (by simp [encF, List.map_append]) (dropQ _) rfl, by simp; omega⟩
    · refine (c_CloneF w1 v' qu (hr.at_ 5 rfl) (by omega)).mono ?_
      rintro e w2 ⟨v2, rfl, g1, g2, gm⟩
      refine ⟨[.v v2, .r (qu.map encF)], rfl, rfl, gm, List.forall_mem_nil _, List.forall_mem_cons.2 ⟨⟨g1, fun k hk => .inl (g2 k hk)⟩, List.forall_mem_nil _⟩, apart_one, ?_⟩
      intro w3 hr3
      have e : flyR s.on s.fl s.qu s.next o0 = (fl, qu, next, out) := by
        rw [← hg]; exact flyR_stop (fun h => hc ⟨⟨h.1.1, by omega⟩, by omega⟩)
      simp only [flyG, e]
      exact ⟨trivial, u', v2, x, (hr3.pick [4, 0, 1, 9] (by decide)).conv rfl⟩
  · refine (c_CloneF w1 v s.qu (hr.at_ 1 rfl).reads (by omega)).mono ?_
    rintro e w2 ⟨v2, rfl, g1, g2, gm⟩
    refine ⟨[.v v2, .r (s.qu.map encF)], rfl, rfl, gm, List.forall_mem_nil _, List.forall_mem_cons.2 ⟨⟨g1, fun k hk => .inl (g2 k hk)⟩, List.forall_mem_nil _⟩, apart_one, ?_⟩
    intro w3 hr3
    have e : flyR s.on s.fl s.qu s.next o0 = (s.fl, s.qu, s.next, o0) := by
      rw [← hg]; exact flyR_stop (fun h => hc ⟨⟨h.1.1, by omega⟩, by omega⟩)
    simp only [flyG, e]
    exact ⟨trivial, u, v2, x, (hr3.pick [1, 0, 3, 4] (by decide)).conv rfl⟩
end Go.Proofs.YtcbkkjbgacjncaaDoor

/-
  Sessions: a sender's call, told without names. By an AI agent.
-/
set_option linter.unusedSimpArgs false
set_option linter.unusedVariables false
namespace Go.Proofs.YtcbkkjbgacjncaaDoor
open Go.Sx

/-- A slice's block is new, or it was one of these slices'. -/
def fromG (n : Nat) (u v x y : Value) : Prop := ∀ k, blockOf y k → n ≤ k ∨ blockOf u k ∨ blockOf v k ∨ blockOf x k
def apartV (u v : Value) : Prop := ∀ k, blockOf u k → blockOf v k → False
theorem apart_rows3 {ρ : List V} {a b c ta tb tc : Nat} {ka kb kc : List Kd} {ra rb rc : X} (h1 : apartV (ρ.getD a (.i 0)).toV (ρ.getD b (.i 0)).toV) (h2 : apartV (ρ.getD a (.i 0)).toV (ρ.getD c (.i 0)).toV) (h3 : apartV (ρ.getD b (.i 0)).toV (ρ.getD c (.i 0)).toV) :
    Apart ρ [.row a ta ka ra, .row b tb kb rb, .row c tc kc rc] := by
  refine List.pairwise_cons.2 ⟨fun e he _ k hk hk' => ?_, List.pairwise_cons.2 ⟨fun e he _ k hk hk' => ?_, List.pairwise_singleton _ _⟩⟩
  · rcases List.mem_cons.1 he with rfl | he
    · exact h1 k hk hk'
    · rw [List.mem_singleton.1 he] at hk'; exact h2 k hk hk'
  · rw [List.mem_singleton.1 he] at hk'; exact h3 k hk hk'
theorem fly_call {B : Base} {w : World} {k : Nat} {s : Ses} {u v x : Value} {o0 : List Pk} (hrel : Rel B (sndA k s u v x o0) sndH w) (hn : 1 ≤ s.next ∧ s.next ≤ 65535) (hl1 : s.fl.length < 100000) (hl2 : s.qu.length < 100000) (hl3 : o0.length < 100000) :
    Calls Tryd.prog 40 #[.pointer (some ⟨k, 0, none⟩)] w
    fun e w' => e = .returned (.tuple #[]) ∧ ∃ u' v' x', w'.heap[k]? = some (.cells #[.string ⟨s.cl.toArray⟩, .bool s.on, .bool s.clean, sc1 u', sc1 v', .int .i64 (flyG s o0).1.next, sc1 x'] 65 (0, 0)) ∧
      ownsF w' u' (flyG s o0).1.fl ∧ ownsF w' v' (flyG s o0).1.qu ∧ owns w' x' 53 kP ((flyG s o0).2.map encP) ∧ fromG w.heap.size u v x u' ∧ fromG w.heap.size u v x v' ∧ fromG w.heap.size u v x x' ∧
      apartV u' v' ∧ apartV u' x' ∧ apartV v' x' ∧ Mod (k :: (u.ownBlock.toList ++ (v.ownBlock.toList ++ x.ownBlock.toList))) w w' := by
  refine (c_fly _ w k s u v x o0 hrel.base hn hl1 hl2 hl3).mono ?_
  rintro e w' ⟨he, u', v', x', hr⟩
  have hfp : ∀ j, j ∈ fpAll (sndA k s u v x o0) sndH → j = k ∨ blockOf u j ∨ blockOf v j ∨ blockOf x j := by
    intro j hj
    simp only [fpAll, sndA, sndH, sndC, List.flatMap_cons, List.flatMap_nil, Ent.fpl, Tree.goal, X.P, X.ev, V.toI_i, V.toB_b, V.toS_s, V.toR_r, V.toV_v, V.toN_n, V.toL_l, SV.ev, CV.ev, Sc.ev, List.getD_cons_zero, List.getD_cons_succ, List.getElem?_cons_zero, List.getElem?_cons_succ, List.map_cons, List.map_nil, List.length_cons, List.length_nil, List.cons_append, List.nil_append, Nat.zero_add, Nat.reduceAdd, List.append_nil, List.mem_append, List.mem_singleton, Option.mem_toList, List.getD_nil] at hj
    simp only [blockOf]
    rcases hj with h | h | h | h
    · exact .inr (.inl h)
    · exact .inr (.inr (.inl h))
    · exact .inr (.inr (.inr h))
    · exact .inl h
  have hnew : ∀ (i : Nat) (e : Ent), sndH[i]? = some e → i < 3 → e.wr = true → ∀ j, e.fp (sndA k (flyG s o0).1 u' v' x' (flyG s o0).2) j → w.heap.size ≤ j ∨ blockOf u j ∨ blockOf v j ∨ blockOf x j := by
    intro i e hi hlt hwr j hj
    rcases hr.own e (List.mem_of_getElem? hi) hwr j hj with h | h
    · exact .inl h
    · rcases hfp j h with rfl | h
      · exfalso
        exact hr.sep.disj (i := i) (j := 3) hi rfl (by omega) (.inl hwr) hj rfl
      · exact .inr h
  refine ⟨he, u', v', x', hr.at_ 3 rfl, hr.at_ 0 rfl, hr.at_ 1 rfl, hr.at_ 2 rfl, fun j hj => hnew 0 _ rfl (by omega) rfl j hj, fun j hj => hnew 1 _ rfl (by omega) rfl j hj, fun j hj => hnew 2 _ rfl (by omega) rfl j hj,
    fun j h1 h2 => hr.sep.disj (i := 0) (j := 1) rfl rfl (by omega) (.inl rfl) (k := j) h1 h2, fun j h1 h2 => hr.sep.disj (i := 0) (j := 2) rfl rfl (by omega) (.inl rfl) (k := j) h1 h2, fun j h1 h2 => hr.sep.disj (i := 1) (j := 2) rfl rfl (by omega) (.inl rfl) (k := j) h1 h2, hr.mod.mono fun j hj => .inl ?_⟩
  rcases hfp j hj with rfl | h | h | h
  · exact List.mem_cons_self ..
  · exact List.mem_cons_of_mem _ (List.mem_append_left _ (Option.mem_toList.2 h))
  · exact List.mem_cons_of_mem _ (List.mem_append_right _ (List.mem_append_left _ (Option.mem_toList.2 h)))
  · exact List.mem_cons_of_mem _ (List.mem_append_right _ (List.mem_append_right _ (Option.mem_toList.2 h)))
end Go.Proofs.YtcbkkjbgacjncaaDoor

/-
  Sessions: what the code sends and what it gives back. By an AI agent.
-/
set_option linter.unusedSimpArgs false
set_option linter.unusedVariables false
namespace Go.Proofs.YtcbkkjbgacjncaaDoor
open Go.Sx

theorem nil_none {ρ : List V} {g : List Nat} : ∀ k, blockOf (.slice none 0 0) k → k ∈ goneOf ρ g := fun k hk => by simp [blockOf, Value.ownBlock] at hk
theorem gone3 {ρ : List V} {g : List Nat} {i j n k : Nat} {x : Value} {p : Prop} (hi : i ∈ g) (hj : j ∈ g) (hx : ∀ k, blockOf x k → k ∈ goneOf ρ g) (h : n ≤ k ∨ blockOf (ρ.getD i (.i 0)).toV k ∨ blockOf (ρ.getD j (.i 0)).toV k ∨ blockOf x k) : n ≤ k ∨ p ∨ k ∈ goneOf ρ g := by
  rcases h with h | h | h | h
  · exact .inl h
  · exact .inr (.inr (gone_of hi h))
  · exact .inr (.inr (gone_of hj h))
  · exact .inr (.inr (hx k h))
def newV (n : Nat) (u : Value) : Prop := ∀ k, blockOf u k → n ≤ k
theorem newV_nil (n : Nat) : newV n (.slice none 0 0) := fun k hk => by simp [blockOf, Value.ownBlock] at hk
/-- A session and packets come, all new. -/
def gotN (w w' : World) (e : Ending) (r : Ses) (out : List Pk) : Prop :=
  ∃ u' v' x, e = .returned (.tuple #[sesV r u' v', sc1 x]) ∧ readsF w' u' r.fl ∧ readsF w' v' r.qu ∧ readsP w' x out ∧ newV w.heap.size u' ∧ newV w.heap.size v' ∧ newV w.heap.size x ∧ Mod [] w w'
def rawR (s : Ses) (n p : List UInt8) (q : Int) : Ses × List Pk :=
  if q = 0 ∧ s.on = true then (s, [pk0 n p])
  else if (q = 1 ∧ (s.on = true ∨ ¬ s.clean = true)) ∧ (s.qu.length : Int) < 6 then flyS { s with qu := s.qu ++ [(0, n, p)] } else (s, [])

set_option maxHeartbeats 1000000 in
theorem c_Raw (w : World) (s : Ses) (u v : Value) (n p : List UInt8) (q : Int) (hu : readsF w u s.fl) (hv : readsF w v s.qu) (hn : 1 ≤ s.next ∧ s.next ≤ 65535) (hl1 : s.fl.length < 10000) (hl2 : s.qu.length < 10000) : Calls Tryd.prog 30 #[sesV s u v, .string ⟨n.toArray⟩, .string ⟨p.toArray⟩, .int .i64 q] w
    fun e w' => gotN w w' e (rawR s n p q).1 (rawR s n p q).2 := by
  refine as_called (run_tree2 (ρ := [.s s.cl, .b s.on, .b s.clean, .v u, .r (s.fl.map encF), .v v, .r (s.qu.map encF), .i s.next, .s n, .s p, .i q]) sxE_ok Tryd.func30 tree_session_Raw rfl rfl (Rel.start2 (by simp [Ent.holds, Ent.wr, hu, hv, X.ev])) rfl rfl ?_) rfl
  simp only [Tree.goal, X.P, X.ev, V.toI_i, V.toB_b, V.toS_s, V.toR_r, V.toV_v, V.toN_n, V.toL_l, SV.ev, CV.ev, Sc.ev, List.getD_cons_zero, List.getD_cons_succ, List.getElem?_cons_zero, List.getElem?_cons_succ, List.map_cons, List.map_nil, List.length_cons, List.length_nil, List.cons_append, List.nil_append, Nat.zero_add, Nat.reduceAdd, List.length_map, Int.toNat_natCast, gF0, gF1, gF2, List.nil_append]
  intro b1 b2 b3 b4 b5
  refine both_same ?_
  intro w1 hr1; refine (c_CloneF w1 u s.fl (hr1.at_ 6 rfl) (by omega)).mono ?_; rintro e w2 ⟨u1, rfl, a1, f1, m1⟩; refine ⟨[.v u1, .r (s.fl.map encF)], rfl, rfl, m1, List.forall_mem_nil _, List.forall_mem_cons.2 ⟨⟨a1, fun k hk => .inl (f1 k hk)⟩, List.forall_mem_nil _⟩, apart_one, ?_⟩; intro w3 hr3; refine (c_CloneF w3 v s.qu (hr3.at_ 8 rfl) (by omega)).mono ?_; rintro e w4 ⟨v1, rfl, a2, f2, m2⟩; refine ⟨[.v v1, .r (s.qu.map encF)], rfl, rfl, m2, List.forall_mem_nil _, List.forall_mem_cons.2 ⟨⟨a2, fun k hk => .inl (f2 k hk)⟩, List.forall_mem_nil _⟩, apart_one, ?_⟩; clear hr1 hr3 m1 m2 a1 a2 f1 f2
  intro b6
  simp only [Tree.goal, X.P, X.ev, V.toI_i, V.toB_b, V.toS_s, V.toR_r, V.toV_v, V.toN_n, V.toL_l, SV.ev, CV.ev, Sc.ev, List.getD_cons_zero, List.getD_cons_succ, List.getElem?_cons_zero, List.getElem?_cons_succ, List.map_cons, List.map_nil, List.length_cons, List.length_nil, List.cons_append, List.nil_append, Nat.zero_add, Nat.reduceAdd, List.length_map, Int.toNat_natCast, gF0, gF1, gF2, List.nil_append]
  refine ⟨fun h1 v2 => ⟨by omega, fun v3 w5 hr => ?_⟩, fun h1 => ⟨fun h2 v2 => ⟨by omega, fun v3 w5 hr => ?_⟩, fun h2 w5 hr => ?_⟩⟩
  · rw [rawR, if_pos h1]
    exact ⟨u1, v1, v3, rfl, (hr.at_ 4 rfl).reads, (hr.at_ 3 rfl).reads, (hr.at_ 0 rfl).reads, hr.fresh 4 rfl, hr.fresh 3 rfl, hr.fresh 0 rfl, hr.mod⟩
  · rw [rawR, if_neg h1, if_pos h2]
    refine (fly_call (s := { s with qu := s.qu ++ [(0, n, p)] }) (o0 := []) ((hr.pick [3, 0, 7, 2] (by decide)).conv (by simp only [sndA, List.map_append]; rfl)) hn (by simp; omega) (by simp; omega) (by simp)).mono ?_
    rintro e w6 ⟨rfl, u', v', x', g1, g2, g3, g4, g5, g6, g7, g8, g9, g10, gm⟩
    refine ⟨[.s s.cl, .b s.on, .b s.clean, .v u', .r ((flyS { s with qu := s.qu ++ [(0, n, p)] }).1.fl.map encF), .v v', .r ((flyS { s with qu := s.qu ++ [(0, n, p)] }).1.qu.map encF), .i (flyS { s with qu := s.qu ++ [(0, n, p)] }).1.next, .v x', .r ((flyS { s with qu := s.qu ++ [(0, n, p)] }).2.map encP)], rfl, rfl, ?_, List.forall_mem_cons.2 ⟨g1, List.forall_mem_nil _⟩,
      List.forall_mem_cons.2 ⟨⟨g2, fun k hk => gone3 (List.mem_cons_self ..) (List.mem_cons_of_mem _ (List.mem_cons_self ..)) nil_none <| g5 k hk⟩, List.forall_mem_cons.2 ⟨⟨g3, fun k hk => gone3 (List.mem_cons_self ..) (List.mem_cons_of_mem _ (List.mem_cons_self ..)) nil_none <| g6 k hk⟩, List.forall_mem_cons.2 ⟨⟨g4, fun k hk => gone3 (List.mem_cons_self ..) (List.mem_cons_of_mem _ (List.mem_cons_self ..)) nil_none <| g7 k hk⟩, List.forall_mem_nil _⟩⟩⟩, apart_rows3 g8 g9 g10, ?_⟩
    · exact gm.mono fun k hk => .inl (by simpa [modsOf, goneOf, Value.ownBlock] using hk)
    · intro w7 hr7
      exact ⟨u', v', x', rfl, (hr7.at_ 0 rfl).reads, (hr7.at_ 1 rfl).reads, (hr7.at_ 2 rfl).reads, hr7.fresh 0 rfl, hr7.fresh 1 rfl, hr7.fresh 2 rfl, hr7.mod⟩
  · rw [rawR, if_neg h1, if_neg h2]
    exact ⟨u1, v1, _, rfl, (hr.at_ 2 rfl).reads, (hr.at_ 1 rfl).reads, reads_nil _ _, hr.fresh 2 rfl, hr.fresh 1 rfl, newV_nil _, hr.mod⟩

theorem flyR_out (on : Bool) : ∀ (qu fl : List Fl) (next : Int) (o0 : List Pk), flyR on fl qu next o0 = ((flyR on fl qu next []).1, (flyR on fl qu next []).2.1, (flyR on fl qu next []).2.2.1, o0 ++ (flyR on fl qu next []).2.2.2) := by
  intro qu
  induction qu with
  | nil => intro fl next o0; simp [flyR]
  | cons f q ih =>
    intro fl next o0
    rw [flyR, flyR]
    split
    · rw [ih _ _ (o0 ++ _), ih _ _ ([] ++ _)]
      simp
    · simp
theorem flyG_out (s : Ses) (o0 : List Pk) : flyG s o0 = ((flyS s).1, o0 ++ (flyS s).2) := by
  simp only [flyG, flyS]
  rw [flyR_out]
set_option maxHeartbeats 1000000 in
theorem c_Back (w : World) (s : Ses) (u v : Value) (hu : readsF w u s.fl) (hv : readsF w v s.qu) (hn : 1 ≤ s.next ∧ s.next ≤ 65535) (hl1 : s.fl.length < 10000) (hl2 : s.qu.length < 10000) : Calls Tryd.prog 28 #[sesV s u v] w
    fun e w' => gotN w w' e (comeR s).1 (comeR s).2 := by
  refine as_called (run_tree2 (ρ := [.s s.cl, .b s.on, .b s.clean, .v u, .r (s.fl.map encF), .v v, .r (s.qu.map encF), .i s.next]) sxE_ok Tryd.func28 tree_session_Back rfl rfl (Rel.start2 (by simp [Ent.holds, Ent.wr, hu, hv, X.ev])) rfl rfl ?_) rfl
  simp only [Tree.goal, X.P, X.ev, V.toI_i, V.toB_b, V.toS_s, V.toR_r, V.toV_v, V.toN_n, V.toL_l, SV.ev, CV.ev, Sc.ev, List.getD_cons_zero, List.getD_cons_succ, List.getElem?_cons_zero, List.getElem?_cons_succ, List.map_cons, List.map_nil, List.length_cons, List.length_nil, List.cons_append, List.nil_append, Nat.zero_add, Nat.reduceAdd, List.length_map, Int.toNat_natCast, gF0, gF1, gF2, List.nil_append]
  intro b1 b2 b3 b4 b5
  refine both_same ?_
  intro w1 hr1; refine (c_CloneF w1 u s.fl (hr1.at_ 6 rfl) (by omega)).mono ?_; rintro e w2 ⟨u1, rfl, a1, f1, m1⟩; refine ⟨[.v u1, .r (s.fl.map encF)], rfl, rfl, m1, List.forall_mem_nil _, List.forall_mem_cons.2 ⟨⟨a1, fun k hk => .inl (f1 k hk)⟩, List.forall_mem_nil _⟩, apart_one, ?_⟩; intro w3 hr3; refine (c_CloneF w3 v s.qu (hr3.at_ 8 rfl) (by omega)).mono ?_; rintro e w4 ⟨v1, rfl, a2, f2, m2⟩; refine ⟨[.v v1, .r (s.qu.map encF)], rfl, rfl, m2, List.forall_mem_nil _, List.forall_mem_cons.2 ⟨⟨a2, fun k hk => .inl (f2 k hk)⟩, List.forall_mem_nil _⟩, apart_one, ?_⟩; clear hr1 hr3 m1 m2 a1 a2 f1 f2
  intro b6
  simp only [Tree.goal, X.P, X.ev, V.toI_i, V.toB_b, V.toS_s, V.toR_r, V.toV_v, V.toN_n, V.toL_l, SV.ev, CV.ev, Sc.ev, List.getD_cons_zero, List.getD_cons_succ, List.getElem?_cons_zero, List.getElem?_cons_succ, List.map_cons, List.map_nil, List.length_cons, List.length_nil, List.cons_append, List.nil_append, Nat.zero_add, Nat.reduceAdd, List.length_map, Int.toNat_natCast, gF0, gF1, gF2, List.nil_append]
  refine ⟨fun vs => ∃ (i : Nat) (x : Value), vs = [.i i, .s s.cl, .b true, .b s.clean, .v v1, .r (s.qu.map encF), .i s.next, .v x, .r (((s.fl.take i).map pk1).map encP)] ∧ i ≤ s.fl.length, fun vs => s.fl.length - (vs.getD 0 (.i 0)).toI.toNat, ⟨0, _, by simp; rfl, by omega⟩, ?_⟩
  rintro _ - ⟨i, x, rfl, hi⟩
  simp only [Tree.goal, X.P, X.ev, V.toI_i, V.toB_b, V.toS_s, V.toR_r, V.toV_v, V.toN_n, V.toL_l, SV.ev, CV.ev, Sc.ev, List.getD_cons_zero, List.getD_cons_succ, List.getElem?_cons_zero, List.getElem?_cons_succ, List.map_cons, List.map_nil, List.length_cons, List.length_nil, List.cons_append, List.nil_append, Nat.zero_add, Nat.reduceAdd, List.length_map, Int.toNat_natCast, gF0, gF1, gF2, List.nil_append]
  refine ⟨fun h1 => ⟨by omega, fun b7 b8 v2 => ⟨by simp only [List.length_take]; omega, fun v3 => ⟨by omega, by omega, ⟨i + 1, v3, ?_, by omega⟩, by omega⟩⟩⟩, fun h1 w5 hr => ?_⟩
  · rw [takeF _ i (by omega)]; simp [encP, pk1]
  · have hil : i = s.fl.length := by omega
    subst hil
    rw [List.take_length] at hr
    refine (fly_call (s := { s with on := true }) (o0 := s.fl.map pk1) ((hr.pick [2, 1, 11, 0] (by decide)).conv rfl) hn (by simp; omega) (by simp; omega) (by simp; omega)).mono ?_
    rintro e w6 ⟨rfl, u', v', x', g1, g2, g3, g4, g5, g6, g7, g8, g9, g10, gm⟩
    rw [flyG_out] at g1 g2 g3 g4
    refine ⟨[.s s.cl, .b true, .b s.clean, .v u', .r ((flyS { s with on := true }).1.fl.map encF), .v v', .r ((flyS { s with on := true }).1.qu.map encF), .i (flyS { s with on := true }).1.next, .v x', .r ((s.fl.map pk1 ++ (flyS { s with on := true }).2).map encP)], rfl, rfl, ?_, List.forall_mem_cons.2 ⟨g1, List.forall_mem_nil _⟩,
      List.forall_mem_cons.2 ⟨⟨g2, fun k hk => gone3 (List.mem_cons_self ..) (List.mem_cons_of_mem _ (List.mem_cons_self ..)) (fun k hk => gone_of (List.mem_cons_of_mem _ (List.mem_cons_of_mem _ (List.mem_cons_self ..))) hk) <| g5 k hk⟩, List.forall_mem_cons.2 ⟨⟨g3, fun k hk => gone3 (List.mem_cons_self ..) (List.mem_cons_of_mem _ (List.mem_cons_self ..)) (fun k hk => gone_of (List.mem_cons_of_mem _ (List.mem_cons_of_mem _ (List.mem_cons_self ..))) hk) <| g6 k hk⟩, List.forall_mem_cons.2 ⟨⟨g4, fun k hk => gone3 (List.mem_cons_self ..) (List.mem_cons_of_mem _ (List.mem_cons_self ..)) (fun k hk => gone_of (List.mem_cons_of_mem _ (List.mem_cons_of_mem _ (List.mem_cons_self ..))) hk) <| g7 k hk⟩, List.forall_mem_nil _⟩⟩⟩, apart_rows3 g8 g9 g10, ?_⟩
    · exact gm.mono fun k hk => .inl (by simpa [modsOf, goneOf, Value.ownBlock] using hk)
    · intro w7 hr7
      exact ⟨u', v', x', rfl, (hr7.at_ 0 rfl).reads, (hr7.at_ 1 rfl).reads, (hr7.at_ 2 rfl).reads, hr7.fresh 0 rfl, hr7.fresh 1 rfl, hr7.fresh 2 rfl, hr7.mod⟩
end Go.Proofs.YtcbkkjbgacjncaaDoor

/-
  Sessions: what lands, and who is not there any more. By an AI agent.
-/
set_option linter.unusedSimpArgs false
set_option linter.unusedVariables false
namespace Go.Proofs.YtcbkkjbgacjncaaDoor
open Go.Sx

theorem landL_snoc (l : List Fl) (id : Int) (i : Nat) (h : i < l.length) : landL (l.take (i + 1)) id = landL (l.take i) id ++ (if (l.getD i fD).1 = id then [] else [l.getD i fD]) := by
  rw [takeF l i h, landL, List.filter_append]
  simp only [landL, List.filter_cons, List.filter_nil, idIs]
  by_cases h1 : (l.getD i fD).1 = id
  · rw [if_pos h1, decide_eq_true h1]; simp
  · rw [if_neg h1, decide_eq_false h1]; simp
theorem any_landL {l : List Fl} {id : Int} (h : l.any (idIs id) = false) : landL l id = l := by
  rw [landL, List.filter_eq_self]
  intro x hx
  rw [List.any_eq_false] at h
  have := h x hx
  simpa using this
theorem getD_of_dropF {R l : List Fl} {j : Nat} (h : R.drop j = l.drop j) : R.getD j fD = l.getD j fD := by
  have e : ∀ q : List Fl, q.getD j fD = (q.drop j).getD 0 fD := fun q => by simp [List.getD_eq_getElem?_getD]
  rw [e R, e l, h]
theorem set_rowF (R : List Fl) (m : Nat) (x : Fl) : (R.map encF).set m [Value.int .i64 x.1, .string ⟨x.2.1.toArray⟩, .string ⟨x.2.2.toArray⟩] = (R.set m x).map encF := by rw [List.map_set]; rfl
theorem set_takeF {R : List Fl} {m : Nat} {x : Fl} (h : m < R.length) : (R.set m x).take (m + 1) = R.take m ++ [x] := by
  rw [List.take_set, takeF R m h, List.set_append_right _ _ (by simp; omega)]
  have : m - (R.take m).length = 0 := by simp; omega
  rw [this]; rfl
theorem set_dropF {R : List Fl} {m j : Nat} {x : Fl} (h : m < j) : (R.set m x).drop j = R.drop j := by rw [List.drop_set, if_pos h]

set_option maxHeartbeats 2000000 in
theorem c_Down (w : World) (s : Ses) (u v : Value) (q : Int) (hu : readsF w u s.fl) (hv : readsF w v s.qu) (hn : 1 ≤ s.next ∧ s.next ≤ 65535) (hl1 : s.fl.length < 10000) (hl2 : s.qu.length < 10000) : Calls Tryd.prog 31 #[sesV s u v, .int .i64 q] w
    fun e w' => gotN w w' e (landR s q).1 (landR s q).2 := by
  refine as_called (run_tree2 (ρ := [.s s.cl, .b s.on, .b s.clean, .v u, .r (s.fl.map encF), .v v, .r (s.qu.map encF), .i s.next, .i q]) sxE_ok Tryd.func31 tree_session_Down rfl rfl (Rel.start2 (by simp [Ent.holds, Ent.wr, hu, hv, X.ev])) rfl rfl ?_) rfl
  simp only [Tree.goal, X.P, X.ev, V.toI_i, V.toB_b, V.toS_s, V.toR_r, V.toV_v, V.toN_n, V.toL_l, SV.ev, CV.ev, Sc.ev, List.getD_cons_zero, List.getD_cons_succ, List.getElem?_cons_zero, List.getElem?_cons_succ, List.map_cons, List.map_nil, List.length_cons, List.length_nil, List.cons_append, List.nil_append, Nat.zero_add, Nat.reduceAdd, List.length_map, Int.toNat_natCast, gF0, gF1, gF2, List.nil_append]
  intro b0 b1 b2 b3 b4 b5
  refine both_same ?_
  intro w1 hr1; refine (c_CloneF w1 u s.fl (hr1.at_ 7 rfl) (by omega)).mono ?_; rintro e w2 ⟨u1, rfl, a1, f1, m1⟩; refine ⟨[.v u1, .r (s.fl.map encF)], rfl, rfl, m1, List.forall_mem_nil _, List.forall_mem_cons.2 ⟨⟨a1, fun k hk => .inl (f1 k hk)⟩, List.forall_mem_nil _⟩, apart_one, ?_⟩; intro w3 hr3; refine (c_CloneF w3 v s.qu (hr3.at_ 9 rfl) (by omega)).mono ?_; rintro e w4 ⟨v1, rfl, a2, f2, m2⟩; refine ⟨[.v v1, .r (s.qu.map encF)], rfl, rfl, m2, List.forall_mem_nil _, List.forall_mem_cons.2 ⟨⟨a2, fun k hk => .inl (f2 k hk)⟩, List.forall_mem_nil _⟩, apart_one, ?_⟩; clear hr1 hr3 m1 m2 a1 a2 f1 f2
  intro b6
  simp only [Tree.goal, X.P, X.ev, V.toI_i, V.toB_b, V.toS_s, V.toR_r, V.toV_v, V.toN_n, V.toL_l, SV.ev, CV.ev, Sc.ev, List.getD_cons_zero, List.getD_cons_succ, List.getElem?_cons_zero, List.getElem?_cons_succ, List.map_cons, List.map_nil, List.length_cons, List.length_nil, List.cons_append, List.nil_append, Nat.zero_add, Nat.reduceAdd, List.length_map, Int.toNat_natCast, gF0, gF1, gF2, List.nil_append]
  refine ⟨fun vs => ∃ (i : Nat) (x : V), vs = [x, .i i, .i q] ∧ i ≤ s.fl.length ∧ (s.fl.take i).any (idIs q) = false, fun vs => s.fl.length - (vs.getD 1 (.i 0)).toI.toNat, ⟨0, _, rfl, by omega, by simp⟩, ?_⟩
  rintro _ - ⟨i, x, rfl, hi, hno⟩
  simp only [Tree.goal, X.P, X.ev, V.toI_i, V.toB_b, V.toS_s, V.toR_r, V.toV_v, V.toN_n, V.toL_l, SV.ev, CV.ev, Sc.ev, List.getD_cons_zero, List.getD_cons_succ, List.getElem?_cons_zero, List.getElem?_cons_succ, List.map_cons, List.map_nil, List.length_cons, List.length_nil, List.cons_append, List.nil_append, Nat.zero_add, Nat.reduceAdd, List.length_map, Int.toNat_natCast, gF0, gF1, gF2, List.nil_append]
  refine ⟨fun h1 => ⟨by omega, fun b7 => ⟨fun h2 => ⟨fun h3 => absurd h3 (by omega), fun h3 => ⟨by omega, by omega, ?_⟩⟩, fun h2 => ?_⟩⟩, fun h1 w5 hr => ?_⟩
  · refine ⟨fun vs => ∃ (m j : Nat) (R : List Fl), vs = [.i m, .i j, .r (R.map encF), .i q] ∧ R.length = s.fl.length ∧ m < j ∧ j ≤ s.fl.length ∧ R.take m = landL (s.fl.take j) q ∧ R.drop j = s.fl.drop j, fun vs => s.fl.length - (vs.getD 1 (.i 0)).toI.toNat, ⟨i, i + 1, s.fl, rfl, rfl, by omega, by omega, ?_, rfl⟩, ?_⟩
    · rw [landL_snoc _ _ i (by omega), if_pos h2, List.append_nil, any_landL hno]
    · rintro _ - ⟨m, j, R, rfl, hRl, hmj, hj, htk, hdr⟩
      simp only [Tree.goal, X.P, X.ev, V.toI_i, V.toB_b, V.toS_s, V.toR_r, V.toV_v, V.toN_n, V.toL_l, SV.ev, CV.ev, Sc.ev, List.getD_cons_zero, List.getD_cons_succ, List.getElem?_cons_zero, List.getElem?_cons_succ, List.map_cons, List.map_nil, List.length_cons, List.length_nil, List.cons_append, List.nil_append, Nat.zero_add, Nat.reduceAdd, List.length_map, Int.toNat_natCast, gF0, gF1, gF2, List.nil_append]
      refine ⟨fun h4 => ⟨by omega, fun b8 b9 => ?_⟩, fun h4 => ?_⟩
      · have hsn := landL_snoc s.fl q j (by omega)
        have hRj := getD_of_dropF hdr
        have hdr1 : R.drop (j + 1) = s.fl.drop (j + 1) := by rw [← List.drop_drop, ← List.drop_drop, hdr]
        rw [hRj]
        refine ⟨fun h5 => ?_, fun h5 => ?_⟩
        · rw [if_neg h5] at hsn
          refine ⟨by omega, by omega, by omega, by omega, by omega, by omega, ⟨m + 1, j + 1, R.set m (s.fl.getD j fD), ?_, by simpa using hRl, by omega, by omega, ?_, ?_⟩, by omega⟩
          · rw [set_rowF]; rfl
          · rw [set_takeF (by omega), htk, hsn]
          · rw [set_dropF (by omega), hdr1]
        · rw [if_pos (Classical.not_not.1 h5), List.append_nil] at hsn
          exact ⟨by omega, by omega, ⟨m, j + 1, R, rfl, hRl, by omega, by omega, by rw [htk, hsn], hdr1⟩, by omega⟩
      · have : j = s.fl.length := by omega
        subst this
        rw [List.take_length] at htk
        refine ⟨by omega, by omega, ?_, fun v9 w5 hr => ?_⟩
        · simp only [List.length_append, List.length_take, List.length_map, List.length_replicate]; omega
        · have e1 : (List.take m (List.take m (R.map encF) ++ List.replicate (R.length - m) [Value.int .i64 0, .string ⟨[].toArray⟩, .string ⟨[].toArray⟩])) = (landL s.fl q).map encF := by
            rw [List.take_append_of_le_length (by simp; omega), List.take_take, Nat.min_self, ← List.map_take, htk]
          have hll : (landL s.fl q).length ≤ s.fl.length := List.length_filter_le _ _
          refine (fly_call (s := { s with fl := landL s.fl q }) (o0 := []) ((hr.pick [0, 4, 8, 3] (by decide)).conv (by simp only [sndA, ← e1, ← List.length_map (f := encF)]; rfl)) hn (by simp; omega) (by simp; omega) (by simp)).mono ?_
          rintro e w6 ⟨rfl, u', v', x', g1, g2, g3, g4, g5, g6, g7, g8, g9, g10, gm⟩
          refine ⟨[.s s.cl, .b s.on, .b s.clean, .v u', .r ((landR s q).1.fl.map encF), .v v', .r ((landR s q).1.qu.map encF), .i (landR s q).1.next, .v x', .r ((landR s q).2.map encP)], rfl, rfl, gm.mono fun k hk => .inl (by simpa [modsOf, goneOf, Value.ownBlock] using hk), List.forall_mem_cons.2 ⟨g1, List.forall_mem_nil _⟩, List.forall_mem_cons.2 ⟨⟨g2, fun k hk => gone3 (List.mem_cons_self ..) (List.mem_cons_of_mem _ (List.mem_cons_self ..)) nil_none <| g5 k hk⟩, List.forall_mem_cons.2 ⟨⟨g3, fun k hk => gone3 (List.mem_cons_self ..) (List.mem_cons_of_mem _ (List.mem_cons_self ..)) nil_none <| g6 k hk⟩, List.forall_mem_cons.2 ⟨⟨g4, fun k hk => gone3 (List.mem_cons_self ..) (List.mem_cons_of_mem _ (List.mem_cons_self ..)) nil_none <| g7 k hk⟩, List.forall_mem_nil _⟩⟩⟩, apart_rows3 g8 g9 g10, ?_⟩; intro w7 hr7; exact ⟨u', v', x', rfl, (hr7.at_ 0 rfl).reads, (hr7.at_ 1 rfl).reads, (hr7.at_ 2 rfl).reads, hr7.fresh 0 rfl, hr7.fresh 1 rfl, hr7.fresh 2 rfl, hr7.mod⟩
  · refine ⟨by omega, by omega, ⟨i + 1, x, rfl, by omega, ?_⟩, by omega⟩
    rw [anyF_snoc _ _ i (by omega), hno, Bool.false_or]
    simp only [idIs, decide_eq_false_iff_not]
    exact h2
  · have : i = s.fl.length := by omega
    subst this
    rw [List.take_length] at hno
    have e1 := any_landL hno
    refine (fly_call (s := { s with fl := landL s.fl q }) (o0 := []) ((hr.pick [3, 2, 7, 1] (by decide)).conv (by simp only [sndA, e1]; rfl)) hn (by simp only [e1]; omega) (by simp; omega) (by simp)).mono ?_
    rintro e w6 ⟨rfl, u', v', x', g1, g2, g3, g4, g5, g6, g7, g8, g9, g10, gm⟩
    refine ⟨[.s s.cl, .b s.on, .b s.clean, .v u', .r ((landR s q).1.fl.map encF), .v v', .r ((landR s q).1.qu.map encF), .i (landR s q).1.next, .v x', .r ((landR s q).2.map encP)], rfl, rfl, gm.mono fun k hk => .inl (by simpa [modsOf, goneOf, Value.ownBlock] using hk), List.forall_mem_cons.2 ⟨g1, List.forall_mem_nil _⟩, List.forall_mem_cons.2 ⟨⟨g2, fun k hk => gone3 (List.mem_cons_self ..) (List.mem_cons_of_mem _ (List.mem_cons_self ..)) nil_none <| g5 k hk⟩, List.forall_mem_cons.2 ⟨⟨g3, fun k hk => gone3 (List.mem_cons_self ..) (List.mem_cons_of_mem _ (List.mem_cons_self ..)) nil_none <| g6 k hk⟩, List.forall_mem_cons.2 ⟨⟨g4, fun k hk => gone3 (List.mem_cons_self ..) (List.mem_cons_of_mem _ (List.mem_cons_self ..)) nil_none <| g7 k hk⟩, List.forall_mem_nil _⟩⟩⟩, apart_rows3 g8 g9 g10, ?_⟩; intro w7 hr7; exact ⟨u', v', x', rfl, (hr7.at_ 0 rfl).reads, (hr7.at_ 1 rfl).reads, (hr7.at_ 2 rfl).reads, hr7.fresh 0 rfl, hr7.fresh 1 rfl, hr7.fresh 2 rfl, hr7.mod⟩
end Go.Proofs.YtcbkkjbgacjncaaDoor

/-
  Sessions: the calls of sessions. By an AI agent.
-/
set_option linter.unusedSimpArgs false
set_option linter.unusedVariables false
namespace Go.Proofs.YtcbkkjbgacjncaaDoor
open Go.Sx

theorem chkS_ok {s : Ses} (h : chkS s = 0) : (1 ≤ s.next ∧ s.next ≤ 65535) ∧ s.fl.length ≤ 3 ∧ s.qu.length ≤ 6 := by
  unfold chkS at h
  split at h
  · split at h
    · exact absurd h (by decide)
    · split at h
      · split at h
        · exact ⟨by assumption, by omega, by omega⟩
        · exact absurd h (by decide)
      · exact absurd h (by assumption)
  · exact absurd h (by decide)
/-- A session comes, all new. -/
def gotM (w w' : World) (e : Ending) (r : Ses) : Prop :=
  ∃ u' v', e = .returned (sesV r u' v') ∧ readsF w' u' r.fl ∧ readsF w' v' r.qu ∧ newV w.heap.size u' ∧ newV w.heap.size v' ∧ Mod [] w w'
theorem c_Off (w : World) (s : Ses) (u v : Value) (hu : readsF w u s.fl) (hv : readsF w v s.qu) (hl1 : s.fl.length < 10000) (hl2 : s.qu.length < 10000) : Calls Tryd.prog 24 #[sesV s u v] w
    fun e w' => gotM w w' e (goR s) := by
  refine as_called (run_tree2 (ρ := [.s s.cl, .b s.on, .b s.clean, .v u, .r (s.fl.map encF), .v v, .r (s.qu.map encF), .i s.next]) sxE_ok Tryd.func24 tree_session_Off rfl rfl (Rel.start2 (by simp [Ent.holds, Ent.wr, hu, hv, X.ev])) rfl rfl ?_) rfl
  simp only [Tree.goal, X.P, X.ev, V.toI_i, V.toB_b, V.toS_s, V.toR_r, V.toV_v, V.toN_n, V.toL_l, SV.ev, CV.ev, Sc.ev, List.getD_cons_zero, List.getD_cons_succ, List.getElem?_cons_zero, List.getElem?_cons_succ, List.map_cons, List.map_nil, List.length_cons, List.length_nil, List.cons_append, List.nil_append, Nat.zero_add, Nat.reduceAdd, List.length_map, Int.toNat_natCast, gF0, gF1, gF2, List.nil_append]
  intro b1 b2 b3 b4 b5
  refine both_same ?_
  intro w1 hr1; refine (c_CloneF w1 u s.fl (hr1.at_ 5 rfl) (by omega)).mono ?_; rintro e w2 ⟨u1, rfl, a1, f1, m1⟩; refine ⟨[.v u1, .r (s.fl.map encF)], rfl, rfl, m1, List.forall_mem_nil _, List.forall_mem_cons.2 ⟨⟨a1, fun k hk => .inl (f1 k hk)⟩, List.forall_mem_nil _⟩, apart_one, ?_⟩; intro w3 hr3; refine (c_CloneF w3 v s.qu (hr3.at_ 7 rfl) (by omega)).mono ?_; rintro e w4 ⟨v1, rfl, a2, f2, m2⟩; refine ⟨[.v v1, .r (s.qu.map encF)], rfl, rfl, m2, List.forall_mem_nil _, List.forall_mem_cons.2 ⟨⟨a2, fun k hk => .inl (f2 k hk)⟩, List.forall_mem_nil _⟩, apart_one, ?_⟩; clear hr1 hr3 m1 m2 a1 a2 f1 f2
  intro b6
  simp only [Tree.goal, X.P, X.ev, V.toI_i, V.toB_b, V.toS_s, V.toR_r, V.toV_v, V.toN_n, V.toL_l, SV.ev, CV.ev, Sc.ev, List.getD_cons_zero, List.getD_cons_succ, List.getElem?_cons_zero, List.getElem?_cons_succ, List.map_cons, List.map_nil, List.length_cons, List.length_nil, List.cons_append, List.nil_append, Nat.zero_add, Nat.reduceAdd, List.length_map, Int.toNat_natCast, gF0, gF1, gF2, List.nil_append]
  refine ⟨fun h1 w5 hr => ?_, fun h1 w5 hr => ?_⟩
  · have e : goR s = ⟨s.cl, false, s.clean, [], [], s.next⟩ := by simp [goR, h1]
    rw [e]
    exact ⟨.slice none 0 0, .slice none 0 0, rfl, reads_nil _ _, reads_nil _ _, newV_nil _, newV_nil _, hr.mod⟩
  · have e : goR s = ⟨s.cl, false, s.clean, s.fl, s.qu, s.next⟩ := by simp [goR, h1]
    rw [e]
    exact ⟨u1, v1, rfl, (hr.at_ 2 rfl).reads, (hr.at_ 1 rfl).reads, hr.fresh 2 rfl, hr.fresh 1 rfl, hr.mod⟩

/-- A session, packets and an error come. -/
def gotE (w w' : World) (e : Ending) (r : Ses) (out : List Pk) (er : Int) : Prop :=
  ∃ u' v' x, e = .returned (.tuple #[sesV r u' v', sc1 x, .int .i64 er]) ∧ readsF w' u' r.fl ∧ readsF w' v' r.qu ∧ readsP w' x out ∧ newV w.heap.size u' ∧ newV w.heap.size v' ∧ newV w.heap.size x ∧ Mod [] w w'
def sendE (s : Ses) (n p : List UInt8) (q : Int) : Int := if chkS s = 0 then if flE (0, n, p) = 0 then if q ≠ 0 ∧ q ≠ 1 then 3 else 0 else flE (0, n, p) else chkS s
def sendC (s : Ses) (n p : List UInt8) (q : Int) : Ses × List Pk := if sendE s n p q = 0 then rawR s n p q else (s0, [])
def landC (s : Ses) (q : Int) : Ses × List Pk := if chkS s = 0 then landR s q else (s0, [])
def comeC (s : Ses) : Ses × List Pk := if chkS s = 0 then comeR s else (s0, [])
def goC (s : Ses) : Ses := if chkS s = 0 then goR s else s0

theorem newV_le {n m : Nat} {x : Value} (h : newV m x) (hm : n ≤ m) : newV n x := fun k hk => Nat.le_trans hm (h k hk)
set_option maxHeartbeats 1000000 in
theorem c_Send (w : World) (s : Ses) (u v : Value) (n p : List UInt8) (q : Int) (hu : readsF w u s.fl) (hv : readsF w v s.qu) (h1 : smallF s.fl) (h2 : smallF s.qu) (hl1 : s.fl.length < 1000000000) (hl2 : s.qu.length < 1000000000) (hc : s.cl.length < 1099511627776) (hn : n.length < 4294967281) : Calls Tryd.prog 14 #[sesV s u v, .string ⟨n.toArray⟩, .string ⟨p.toArray⟩, .int .i64 q] w
    fun e w' => gotE w w' e (sendC s n p q).1 (sendC s n p q).2 (sendE s n p q) := by
  refine as_called (run_tree2 (ρ := [.s s.cl, .b s.on, .b s.clean, .v u, .r (s.fl.map encF), .v v, .r (s.qu.map encF), .i s.next, .s n, .s p, .i q]) sxE_ok Tryd.func14 tree_session_Send rfl rfl (Rel.start2 (by simp [Ent.holds, Ent.wr, hu, hv, X.ev])) rfl rfl ?_) rfl
  simp only [Tree.goal, X.P, X.ev, V.toI_i, V.toB_b, V.toS_s, V.toR_r, V.toV_v, V.toN_n, V.toL_l, SV.ev, CV.ev, Sc.ev, List.getD_cons_zero, List.getD_cons_succ, List.getElem?_cons_zero, List.getElem?_cons_succ, List.map_cons, List.map_nil, List.length_cons, List.length_nil, List.cons_append, List.nil_append, Nat.zero_add, Nat.reduceAdd, List.length_map, Int.toNat_natCast, gF0, gF1, gF2, List.nil_append]
  intro b1 b2
  refine ⟨[.i (chkS s)], rfl, fun _ w' hr => c_CheckS w' s u v (hr.at_ 3 rfl) (hr.at_ 4 rfl) h1 h2 hl1 hl2 hc, ?_⟩
  simp only [Tree.goal, X.P, X.ev, V.toI_i, V.toB_b, V.toS_s, V.toR_r, V.toV_v, V.toN_n, V.toL_l, SV.ev, CV.ev, Sc.ev, List.getD_cons_zero, List.getD_cons_succ, List.getElem?_cons_zero, List.getElem?_cons_succ, List.map_cons, List.map_nil, List.length_cons, List.length_nil, List.cons_append, List.nil_append, Nat.zero_add, Nat.reduceAdd, List.length_map, Int.toNat_natCast, gF0, gF1, gF2, List.nil_append]
  refine ⟨fun h3 => ?_, fun h3 w1 hr => ?_⟩
  · obtain ⟨k1, k2, k3⟩ := chkS_ok h3
    refine ⟨[.i (flE (0, n, p))], rfl, fun _ w' _ => c_flight w' (0, n, p) hn, ?_⟩
    simp only [Tree.goal, X.P, X.ev, V.toI_i, V.toB_b, V.toS_s, V.toR_r, V.toV_v, V.toN_n, V.toL_l, SV.ev, CV.ev, Sc.ev, List.getD_cons_zero, List.getD_cons_succ, List.getElem?_cons_zero, List.getElem?_cons_succ, List.map_cons, List.map_nil, List.length_cons, List.length_nil, List.cons_append, List.nil_append, Nat.zero_add, Nat.reduceAdd, List.length_map, Int.toNat_natCast, gF0, gF1, gF2, List.nil_append]
    refine ⟨fun h4 => ⟨fun _ w1 hr => ?_, fun h => absurd (by decide) h⟩, fun h4 => ⟨fun h5 w1 hr => ?_, fun h5 w1 hr => ?_⟩⟩
    · have e : sendE s n p q = 3 := by rw [sendE, if_pos h3, if_pos h4.1.1, if_pos ⟨h4.1.2, h4.2⟩]
      rw [sendC, e]
      exact ⟨.slice none 0 0, .slice none 0 0, _, rfl, reads_nil _ _, reads_nil _ _, reads_nil _ _, newV_nil _, newV_nil _, newV_nil _, hr.mod⟩
    · have e : sendE s n p q = flE (0, n, p) := by rw [sendE, if_pos h3, if_neg h5]
      rw [sendC, e, if_neg h5]
      exact ⟨.slice none 0 0, .slice none 0 0, _, rfl, reads_nil _ _, reads_nil _ _, reads_nil _ _, newV_nil _, newV_nil _, newV_nil _, hr.mod⟩
    · have h5 : flE (0, n, p) = 0 := Classical.not_not.1 h5
      have e : sendE s n p q = 0 := by rw [sendE, if_pos h3, if_pos h5, if_neg (fun h => h4 ⟨⟨h5, h.1⟩, h.2⟩)]
      rw [sendC, e, if_pos rfl]
      have hc := c_Raw w1 s u v n p q (hr.at_ 3 rfl) (hr.at_ 4 rfl) k1 (by omega) (by omega)
      generalize rawR s n p q = rr at hc ⊢
      obtain ⟨r, out⟩ := rr
      refine hc.mono ?_
      rintro e w2 ⟨u', v', x, rfl, g1, g2, g3, g4, g5, g6, gm⟩; refine ⟨[.s r.cl, .b r.on, .b r.clean, .v u', .r (r.fl.map encF), .v v', .r (r.qu.map encF), .i r.next, .v x, .r (out.map encP)], rfl, rfl, gm, List.forall_mem_nil _, List.forall_mem_cons.2 ⟨⟨g1, fun k hk => .inl (g4 k hk.2)⟩, List.forall_mem_cons.2 ⟨⟨g2, fun k hk => .inl (g5 k hk.2)⟩, List.forall_mem_cons.2 ⟨⟨g3, fun k hk => .inl (g6 k hk.2)⟩, List.forall_mem_nil _⟩⟩⟩, apart_ro (by simp [Ent.wr]), ?_⟩; intro b9 w3 hr3; exact ⟨u', v', x, rfl, hr3.at_ 1 rfl, hr3.at_ 2 rfl, hr3.at_ 3 rfl, newV_le g4 hr.mod.size, newV_le g5 hr.mod.size, newV_le g6 hr.mod.size, hr3.mod⟩
  · have e : sendE s n p q = chkS s := by rw [sendE, if_neg h3]
    rw [sendC, e, if_neg h3]
    exact ⟨.slice none 0 0, .slice none 0 0, _, rfl, reads_nil _ _, reads_nil _ _, reads_nil _ _, newV_nil _, newV_nil _, newV_nil _, hr.mod⟩
set_option maxHeartbeats 1000000 in
theorem c_Landed (w : World) (s : Ses) (u v : Value) (q : Int) (hu : readsF w u s.fl) (hv : readsF w v s.qu) (h1 : smallF s.fl) (h2 : smallF s.qu) (hl1 : s.fl.length < 1000000000) (hl2 : s.qu.length < 1000000000) (hc : s.cl.length < 1099511627776) : Calls Tryd.prog 15 #[sesV s u v, .int .i64 q] w
    fun e w' => gotE w w' e (landC s q).1 (landC s q).2 (chkS s) := by
  refine as_called (run_tree2 (ρ := [.s s.cl, .b s.on, .b s.clean, .v u, .r (s.fl.map encF), .v v, .r (s.qu.map encF), .i s.next, .i q]) sxE_ok Tryd.func15 tree_session_Landed rfl rfl (Rel.start2 (by simp [Ent.holds, Ent.wr, hu, hv, X.ev])) rfl rfl ?_) rfl
  simp only [Tree.goal, X.P, X.ev, V.toI_i, V.toB_b, V.toS_s, V.toR_r, V.toV_v, V.toN_n, V.toL_l, SV.ev, CV.ev, Sc.ev, List.getD_cons_zero, List.getD_cons_succ, List.getElem?_cons_zero, List.getElem?_cons_succ, List.map_cons, List.map_nil, List.length_cons, List.length_nil, List.cons_append, List.nil_append, Nat.zero_add, Nat.reduceAdd, List.length_map, Int.toNat_natCast, gF0, gF1, gF2, List.nil_append]
  intro b1 b2
  refine ⟨[.i (chkS s)], rfl, fun _ w' hr => c_CheckS w' s u v (hr.at_ 3 rfl) (hr.at_ 4 rfl) h1 h2 hl1 hl2 hc, ?_⟩
  simp only [Tree.goal, X.P, X.ev, V.toI_i, V.toB_b, V.toS_s, V.toR_r, V.toV_v, V.toN_n, V.toL_l, SV.ev, CV.ev, Sc.ev, List.getD_cons_zero, List.getD_cons_succ, List.getElem?_cons_zero, List.getElem?_cons_succ, List.map_cons, List.map_nil, List.length_cons, List.length_nil, List.cons_append, List.nil_append, Nat.zero_add, Nat.reduceAdd, List.length_map, Int.toNat_natCast, gF0, gF1, gF2, List.nil_append]
  refine ⟨fun h3 w1 hr => ?_, fun h3 w1 hr => ?_⟩
  · rw [landC, if_neg h3]
    exact ⟨.slice none 0 0, .slice none 0 0, _, rfl, reads_nil _ _, reads_nil _ _, reads_nil _ _, newV_nil _, newV_nil _, newV_nil _, hr.mod⟩
  · have h3 : chkS s = 0 := Classical.not_not.1 h3
    obtain ⟨k1, k2, k3⟩ := chkS_ok h3
    rw [landC, if_pos h3, h3]
    have hc := c_Down w1 s u v q (hr.at_ 3 rfl) (hr.at_ 4 rfl) k1 (by omega) (by omega)
    generalize landR s q = rr at hc ⊢
    obtain ⟨r, out⟩ := rr
    refine hc.mono ?_
    rintro e w2 ⟨u', v', x, rfl, g1, g2, g3, g4, g5, g6, gm⟩; refine ⟨[.s r.cl, .b r.on, .b r.clean, .v u', .r (r.fl.map encF), .v v', .r (r.qu.map encF), .i r.next, .v x, .r (out.map encP)], rfl, rfl, gm, List.forall_mem_nil _, List.forall_mem_cons.2 ⟨⟨g1, fun k hk => .inl (g4 k hk.2)⟩, List.forall_mem_cons.2 ⟨⟨g2, fun k hk => .inl (g5 k hk.2)⟩, List.forall_mem_cons.2 ⟨⟨g3, fun k hk => .inl (g6 k hk.2)⟩, List.forall_mem_nil _⟩⟩⟩, apart_ro (by simp [Ent.wr]), ?_⟩; intro b9 w3 hr3; exact ⟨u', v', x, rfl, hr3.at_ 1 rfl, hr3.at_ 2 rfl, hr3.at_ 3 rfl, newV_le g4 hr.mod.size, newV_le g5 hr.mod.size, newV_le g6 hr.mod.size, hr3.mod⟩
set_option maxHeartbeats 1000000 in
theorem c_Come (w : World) (s : Ses) (u v : Value) (hu : readsF w u s.fl) (hv : readsF w v s.qu) (h1 : smallF s.fl) (h2 : smallF s.qu) (hl1 : s.fl.length < 1000000000) (hl2 : s.qu.length < 1000000000) (hc : s.cl.length < 1099511627776) : Calls Tryd.prog 13 #[sesV s u v] w
    fun e w' => gotE w w' e (comeC s).1 (comeC s).2 (chkS s) := by
  refine as_called (run_tree2 (ρ := [.s s.cl, .b s.on, .b s.clean, .v u, .r (s.fl.map encF), .v v, .r (s.qu.map encF), .i s.next]) sxE_ok Tryd.func13 tree_session_Come rfl rfl (Rel.start2 (by simp [Ent.holds, Ent.wr, hu, hv, X.ev])) rfl rfl ?_) rfl
  simp only [Tree.goal, X.P, X.ev, V.toI_i, V.toB_b, V.toS_s, V.toR_r, V.toV_v, V.toN_n, V.toL_l, SV.ev, CV.ev, Sc.ev, List.getD_cons_zero, List.getD_cons_succ, List.getElem?_cons_zero, List.getElem?_cons_succ, List.map_cons, List.map_nil, List.length_cons, List.length_nil, List.cons_append, List.nil_append, Nat.zero_add, Nat.reduceAdd, List.length_map, Int.toNat_natCast, gF0, gF1, gF2, List.nil_append]
  intro b1 b2
  refine ⟨[.i (chkS s)], rfl, fun _ w' hr => c_CheckS w' s u v (hr.at_ 3 rfl) (hr.at_ 4 rfl) h1 h2 hl1 hl2 hc, ?_⟩
  simp only [Tree.goal, X.P, X.ev, V.toI_i, V.toB_b, V.toS_s, V.toR_r, V.toV_v, V.toN_n, V.toL_l, SV.ev, CV.ev, Sc.ev, List.getD_cons_zero, List.getD_cons_succ, List.getElem?_cons_zero, List.getElem?_cons_succ, List.map_cons, List.map_nil, List.length_cons, List.length_nil, List.cons_append, List.nil_append, Nat.zero_add, Nat.reduceAdd, List.length_map, Int.toNat_natCast, gF0, gF1, gF2, List.nil_append]
  refine ⟨fun h3 w1 hr => ?_, fun h3 w1 hr => ?_⟩
  · rw [comeC, if_neg h3]
    exact ⟨.slice none 0 0, .slice none 0 0, _, rfl, reads_nil _ _, reads_nil _ _, reads_nil _ _, newV_nil _, newV_nil _, newV_nil _, hr.mod⟩
  · have h3 : chkS s = 0 := Classical.not_not.1 h3
    obtain ⟨k1, k2, k3⟩ := chkS_ok h3
    rw [comeC, if_pos h3, h3]
    have hc := c_Back w1 s u v (hr.at_ 3 rfl) (hr.at_ 4 rfl) k1 (by omega) (by omega)
    generalize comeR s = rr at hc ⊢
    obtain ⟨r, out⟩ := rr
    refine hc.mono ?_
    rintro e w2 ⟨u', v', x, rfl, g1, g2, g3, g4, g5, g6, gm⟩; refine ⟨[.s r.cl, .b r.on, .b r.clean, .v u', .r (r.fl.map encF), .v v', .r (r.qu.map encF), .i r.next, .v x, .r (out.map encP)], rfl, rfl, gm, List.forall_mem_nil _, List.forall_mem_cons.2 ⟨⟨g1, fun k hk => .inl (g4 k hk.2)⟩, List.forall_mem_cons.2 ⟨⟨g2, fun k hk => .inl (g5 k hk.2)⟩, List.forall_mem_cons.2 ⟨⟨g3, fun k hk => .inl (g6 k hk.2)⟩, List.forall_mem_nil _⟩⟩⟩, apart_ro (by simp [Ent.wr]), ?_⟩; intro b9 w3 hr3; exact ⟨u', v', x, rfl, hr3.at_ 1 rfl, hr3.at_ 2 rfl, hr3.at_ 3 rfl, newV_le g4 hr.mod.size, newV_le g5 hr.mod.size, newV_le g6 hr.mod.size, hr3.mod⟩
def gotEM (w w' : World) (e : Ending) (r : Ses) (er : Int) : Prop :=
  ∃ u' v', e = .returned (.tuple #[sesV r u' v', .int .i64 er]) ∧ readsF w' u' r.fl ∧ readsF w' v' r.qu ∧ newV w.heap.size u' ∧ newV w.heap.size v' ∧ Mod [] w w'
set_option maxHeartbeats 1000000 in
theorem c_Go (w : World) (s : Ses) (u v : Value) (hu : readsF w u s.fl) (hv : readsF w v s.qu) (h1 : smallF s.fl) (h2 : smallF s.qu) (hl1 : s.fl.length < 1000000000) (hl2 : s.qu.length < 1000000000) (hc : s.cl.length < 1099511627776) : Calls Tryd.prog 11 #[sesV s u v] w
    fun e w' => gotEM w w' e (goC s) (chkS s) := by
  refine as_called (run_tree2 (ρ := [.s s.cl, .b s.on, .b s.clean, .v u, .r (s.fl.map encF), .v v, .r (s.qu.map encF), .i s.next]) sxE_ok Tryd.func11 tree_session_Go rfl rfl (Rel.start2 (by simp [Ent.holds, Ent.wr, hu, hv, X.ev])) rfl rfl ?_) rfl
  simp only [Tree.goal, X.P, X.ev, V.toI_i, V.toB_b, V.toS_s, V.toR_r, V.toV_v, V.toN_n, V.toL_l, SV.ev, CV.ev, Sc.ev, List.getD_cons_zero, List.getD_cons_succ, List.getElem?_cons_zero, List.getElem?_cons_succ, List.map_cons, List.map_nil, List.length_cons, List.length_nil, List.cons_append, List.nil_append, Nat.zero_add, Nat.reduceAdd, List.length_map, Int.toNat_natCast, gF0, gF1, gF2, List.nil_append]
  intro b1 b2
  refine ⟨[.i (chkS s)], rfl, fun _ w' hr => c_CheckS w' s u v (hr.at_ 2 rfl) (hr.at_ 3 rfl) h1 h2 hl1 hl2 hc, ?_⟩
  simp only [Tree.goal, X.P, X.ev, V.toI_i, V.toB_b, V.toS_s, V.toR_r, V.toV_v, V.toN_n, V.toL_l, SV.ev, CV.ev, Sc.ev, List.getD_cons_zero, List.getD_cons_succ, List.getElem?_cons_zero, List.getElem?_cons_succ, List.map_cons, List.map_nil, List.length_cons, List.length_nil, List.cons_append, List.nil_append, Nat.zero_add, Nat.reduceAdd, List.length_map, Int.toNat_natCast, gF0, gF1, gF2, List.nil_append]
  refine ⟨fun h3 w1 hr => ?_, fun h3 w1 hr => ?_⟩
  · rw [goC, if_neg h3]
    exact ⟨.slice none 0 0, .slice none 0 0, rfl, reads_nil _ _, reads_nil _ _, newV_nil _, newV_nil _, hr.mod⟩
  · have h3 : chkS s = 0 := Classical.not_not.1 h3
    obtain ⟨k1, k2, k3⟩ := chkS_ok h3
    rw [goC, if_pos h3, h3]
    have hc := c_Off w1 s u v (hr.at_ 2 rfl) (hr.at_ 3 rfl) (by omega) (by omega)
    generalize goR s = r at hc ⊢
    refine hc.mono ?_
    rintro e w2 ⟨u', v', rfl, g1, g2, g4, g5, gm⟩
    refine ⟨[.s r.cl, .b r.on, .b r.clean, .v u', .r (r.fl.map encF), .v v', .r (r.qu.map encF), .i r.next], rfl, rfl, gm, List.forall_mem_nil _, List.forall_mem_cons.2 ⟨⟨g1, fun k hk => .inl (g4 k hk.2)⟩, List.forall_mem_cons.2 ⟨⟨g2, fun k hk => .inl (g5 k hk.2)⟩, List.forall_mem_nil _⟩⟩, apart_ro (by simp [Ent.wr]), ?_⟩
    intro w3 hr3
    exact ⟨u', v', rfl, hr3.at_ 0 rfl, hr3.at_ 1 rfl, newV_le g4 hr.mod.size, newV_le g5 hr.mod.size, hr3.mod⟩
end Go.Proofs.YtcbkkjbgacjncaaDoor

/-
  Sessions: the plain law: a session stays right, and what was sent is there till it has landed. By an AI agent.
-/
set_option linter.unusedSimpArgs false
set_option linter.unusedVariables false
namespace Go.Proofs.YtcbkkjbgacjncaaDoor
open Go.Sx

/-- Flights are right. -/
structure FlOk (fl : List Fl) : Prop where
  each : ∀ f ∈ fl, flE f = 0 ∧ 1 ≤ f.1 ∧ f.1 ≤ 65535
  ids : (fl.map (·.1)).Nodup
theorem idIs_any {l : List Fl} {n : Int} : l.any (idIs n) = true ↔ n ∈ l.map (·.1) := by
  rw [List.any_eq_true, List.mem_map]
  constructor
  · rintro ⟨x, hx, h⟩
    exact ⟨x, hx, by simpa [idIs] using h⟩
  · rintro ⟨x, hx, h⟩
    exact ⟨x, hx, by simpa [idIs] using h⟩
theorem chkFl_iff : ∀ (l prev : List Fl), FlOk prev → (chkFl prev l = 0 ↔ FlOk (prev ++ l))
  | [], prev, hp => by simp [chkFl, hp]
  | f :: l, prev, hp => by
    have key : FlOk (prev ++ [f]) ↔ (flE f = 0 ∧ (1 ≤ f.1 ∧ f.1 ≤ 65535) ∧ ¬ prev.any (idIs f.1) = true) := by
      constructor
      · intro h
        have h1 := h.each f (by simp)
        refine ⟨h1.1, h1.2, fun h2 => ?_⟩
        have h3 := h.ids
        rw [List.map_append, List.nodup_append] at h3
        exact h3.2.2 _ (idIs_any.1 h2) f.1 (by simp) rfl
      · rintro ⟨h1, h2, h3⟩
        refine ⟨fun x hx => ?_, ?_⟩
        · rcases List.mem_append.1 hx with hx | hx
          · exact hp.each x hx
          · rw [List.mem_singleton.1 hx]; exact ⟨h1, h2⟩
        · rw [List.map_append, List.nodup_append]
          refine ⟨hp.ids, by simp, fun a ha b hb => ?_⟩
          rw [List.map_cons, List.map_nil, List.mem_singleton] at hb
          subst hb
          rintro rfl
          exact h3 (idIs_any.2 ha)
    have up : FlOk (prev ++ f :: l) → FlOk (prev ++ [f]) := by
      intro h
      refine ⟨fun x hx => h.each x ?_, ?_⟩
      · rcases List.mem_append.1 hx with hx | hx
        · exact List.mem_append_left _ hx
        · rw [List.mem_singleton.1 hx]; simp
      · have := h.ids
        rw [show prev ++ f :: l = (prev ++ [f]) ++ l by simp, List.map_append, List.nodup_append] at this
        exact this.1
    rw [chkFl]
    constructor
    · intro h
      split at h
      · exact absurd h (by assumption)
      split at h
      · split at h
        · exact absurd h (by decide)
        · have h1 := (chkFl_iff l (prev ++ [f]) (key.2 ⟨by simpa using ‹¬flE f ≠ 0›, by assumption, by assumption⟩)).1 h
          simpa using h1
      · exact absurd h (by decide)
    · intro h
      have h1 := key.1 (up h)
      rw [if_neg (by simpa using h1.1), if_pos h1.2.1, if_neg h1.2.2]
      exact (chkFl_iff l (prev ++ [f]) (up h)).2 (by simpa using h)
theorem chkQu_iff : ∀ l : List Fl, chkQu l = 0 ↔ ∀ f ∈ l, flE f = 0 ∧ f.1 = 0
  | [] => by simp [chkQu]
  | f :: l => by
    rw [chkQu]
    constructor
    · intro h
      split at h
      · exact absurd h (by assumption)
      split at h
      · have := (chkQu_iff l).1 h
        intro x hx
        rcases List.mem_cons.1 hx with rfl | hx
        · exact ⟨by simpa using ‹¬flE x ≠ 0›, by assumption⟩
        · exact this x hx
      · exact absurd h (by decide)
    · intro h
      have h1 := h f (List.mem_cons_self ..)
      rw [if_neg (by simpa using h1.1), if_pos h1.2]
      exact (chkQu_iff l).2 fun x hx => h x (List.mem_cons_of_mem _ hx)
/-- A session is right. -/
structure SesOk (s : Ses) : Prop where
  cl : clientB s.cl = true
  nf : s.fl.length ≤ 3
  nq : s.qu.length ≤ 6
  fl : FlOk s.fl
  qu : ∀ f ∈ s.qu, flE f = 0 ∧ f.1 = 0
  next : 1 ≤ s.next ∧ s.next ≤ 65535
  off : ¬ s.on = true → s.clean = true → s.fl = [] ∧ s.qu = []
  full : s.on = true → s.qu ≠ [] → s.fl.length = 3
theorem FlOk.nil : FlOk [] := ⟨by simp, by simp⟩
theorem allS_iff {s : Ses} : allS s = 0 ↔ FlOk s.fl ∧ ∀ f ∈ s.qu, flE f = 0 ∧ f.1 = 0 := by
  have h1 := chkFl_iff s.fl [] .nil
  have h2 := chkQu_iff s.qu
  rw [List.nil_append] at h1
  unfold allS
  constructor
  · intro h
    split at h
    · exact ⟨h1.1 (by assumption), h2.1 h⟩
    · exact absurd h (by assumption)
  · rintro ⟨h3, h4⟩
    rw [if_pos (h1.2 h3)]
    exact h2.2 h4
theorem chkS_iff {s : Ses} : chkS s = 0 ↔ SesOk s := by
  constructor
  · intro h
    have ⟨k1, k2, k3⟩ := chkS_ok h
    unfold chkS at h
    split at h
    · split at h
      · exact absurd h (by decide)
      · split at h
        · obtain ⟨a1, a2⟩ := (allS_iff (s := s)).1 (by assumption)
          split at h
          · exact absurd h (by decide)
          · rename_i hn
            refine ⟨by assumption, k2, k3, a1, a2, k1, fun h1 h2 => ?_, fun h1 h2 => ?_⟩
            · have : ¬ 0 < (s.fl.length : Int) + s.qu.length := fun h3 => hn (.inl ⟨⟨h1, h2⟩, h3⟩)
              exact ⟨List.length_eq_zero_iff.1 (by omega), List.length_eq_zero_iff.1 (by omega)⟩
            · have h4 : s.qu.length ≠ 0 := fun h => h2 (List.length_eq_zero_iff.1 h)
              have : ¬ (s.fl.length : Int) < 3 := fun h3 => hn (.inr ⟨⟨h1, by omega⟩, h3⟩)
              omega
        · exact absurd h (by assumption)
    · exact absurd h (by decide)
  · intro h
    have nf := h.nf
    have nq := h.nq
    unfold chkS
    rw [if_pos h.cl, if_neg (by omega), if_pos (allS_iff.2 ⟨h.fl, h.qu⟩), if_pos h.next, if_neg]
    rintro (⟨⟨h1, h2⟩, h3⟩ | ⟨⟨h1, h2⟩, h3⟩)
    · have := h.off h1 h2
      rw [this.1, this.2] at h3
      exact absurd h3 (by decide)
    · have := h.full h1 (fun h4 => by rw [h4] at h2; exact absurd h2 (by decide))
      omega

/-- What a flight bears. -/
abbrev pay (f : Fl) : List UInt8 := f.2.2
theorem flyR_ok (on : Bool) : ∀ (qu fl : List Fl) (next : Int) (out : List Pk), FlOk fl → (∀ f ∈ qu, flE f = 0 ∧ f.1 = 0) → (1 ≤ next ∧ next ≤ 65535) → fl.length ≤ 3 →
    FlOk (flyR on fl qu next out).1 ∧ (∀ f ∈ (flyR on fl qu next out).2.1, flE f = 0 ∧ f.1 = 0) ∧ (1 ≤ (flyR on fl qu next out).2.2.1 ∧ (flyR on fl qu next out).2.2.1 ≤ 65535) ∧ (flyR on fl qu next out).1.length ≤ 3 ∧
    (flyR on fl qu next out).1.map pay ++ (flyR on fl qu next out).2.1.map pay = fl.map pay ++ qu.map pay ∧ (on = true → (flyR on fl qu next out).2.1 ≠ [] → (flyR on fl qu next out).1.length = 3) ∧ (flyR on fl qu next out).2.1.length ≤ qu.length := by
  intro qu
  induction qu with
  | nil => intro fl next out h1 h2 h3 h4; exact ⟨h1, by simp [flyR], h3, h4, rfl, fun _ h => absurd rfl h, by simp [flyR]⟩
  | cons f q ih =>
    intro fl next out h1 h2 h3 h4
    rw [flyR]
    split
    · rename_i hc
      have hf := h2 f (List.mem_cons_self ..)
      have hid := free_ok (fl := fl) h3
      have hfree := free_free (fl := fl) hc.2 h3
      have h5 : FlOk (fl ++ [(freeId fl next, f.2.1, f.2.2)]) := by
        refine ⟨fun x hx => ?_, ?_⟩
        · rcases List.mem_append.1 hx with hx | hx
          · exact h1.each x hx
          · rw [List.mem_singleton.1 hx]
            exact ⟨hf.1, hid⟩
        · rw [List.map_append, List.nodup_append]
          refine ⟨h1.ids, by simp, fun a ha b hb => ?_⟩
          rw [List.map_cons, List.map_nil, List.mem_singleton] at hb
          subst hb
          rintro rfl
          have := idIs_any.2 ha
          rw [idIs_any.2 ha |> fun h => (show used fl (freeId fl next) = true from h)] at hfree
          exact Bool.noConfusion hfree
      obtain ⟨i1, i2, i3, i4, i5, i6, i7⟩ := ih (fl ++ [(freeId fl next, f.2.1, f.2.2)]) (nx (freeId fl next)) (out ++ [(false, 1, freeId fl next, f.2.1, f.2.2)]) h5 (fun x hx => h2 x (List.mem_cons_of_mem _ hx)) (nx_ok hid).1 (by simp; omega)
      refine ⟨i1, i2, i3, i4, ?_, i6, ?_⟩
      · rw [i5]; simp
      · rw [List.length_cons]; omega
    · rename_i hc
      refine ⟨h1, h2, h3, h4, rfl, fun h _ => ?_, Nat.le_refl _⟩
      have : ¬ fl.length < 3 := fun h5 => hc ⟨h, h5⟩
      show fl.length = 3
      omega
/-- What is there. -/
def there (s : Ses) : List (List UInt8) := s.fl.map pay ++ s.qu.map pay
theorem flyS_ok {s : Ses} (cl : clientB s.cl = true) (nf : s.fl.length ≤ 3) (nq : s.qu.length ≤ 6) (fl : FlOk s.fl) (qu : ∀ f ∈ s.qu, flE f = 0 ∧ f.1 = 0) (next : 1 ≤ s.next ∧ s.next ≤ 65535) (hon : s.on = true ∨ ¬ s.clean = true) : SesOk (flyS s).1 ∧ there (flyS s).1 = there s := by
  obtain ⟨i1, i2, i3, i4, i5, i6, i7⟩ := flyR_ok s.on s.qu s.fl s.next [] fl qu next nf
  refine ⟨⟨cl, i4, Nat.le_trans i7 nq, i1, i2, i3, fun h1 h2 => ?_, i6⟩, i5⟩
  rcases hon with h | h
  · exact absurd h h1
  · exact absurd h2 h
theorem go_ok {s : Ses} (h : SesOk s) : SesOk (goR s) ∧ there (goR s) = if s.clean = true then [] else there s := by
  unfold goR there
  by_cases hc : s.clean = true
  · simp only [hc, if_true]
    exact ⟨⟨h.cl, by simp, by simp, .nil, by simp, h.next, fun _ _ => ⟨rfl, rfl⟩, fun h1 => Bool.noConfusion h1⟩, rfl⟩
  · simp only [if_neg hc]
    exact ⟨⟨h.cl, h.nf, h.nq, h.fl, h.qu, h.next, fun _ h1 => absurd h1 hc, fun h1 => Bool.noConfusion h1⟩, trivial⟩
theorem come_ok {s : Ses} (h : SesOk s) : SesOk (comeR s).1 ∧ there (comeR s).1 = there s :=
  flyS_ok (s := { s with on := true }) h.cl h.nf h.nq h.fl h.qu h.next (.inl rfl)
theorem raw_ok {s : Ses} {n p : List UInt8} (h : SesOk s) (hp : flE (0, n, p) = 0) (hon : s.on = true) : SesOk (rawR s n p 1).1 ∧ there (rawR s n p 1).1 = if s.qu.length < 6 then there s ++ [p] else there s := by
  unfold rawR
  rw [if_neg (by omega)]
  by_cases hq : s.qu.length < 6
  · rw [if_pos ⟨⟨rfl, .inl hon⟩, by omega⟩, if_pos hq]
    have h1 : ∀ f ∈ s.qu ++ [(0, n, p)], flE f = 0 ∧ f.1 = 0 := by
      intro x hx
      rcases List.mem_append.1 hx with hx | hx
      · exact h.qu x hx
      · rw [List.mem_singleton.1 hx]; exact ⟨hp, rfl⟩
    obtain ⟨a, b⟩ := flyS_ok (s := { s with qu := s.qu ++ [(0, n, p)] }) h.cl h.nf (by simp; omega) h.fl h1 h.next (.inl hon)
    refine ⟨a, ?_⟩
    rw [b]
    simp [there, pay]
  · rw [if_neg (fun h2 => hq (by omega)), if_neg hq]
    exact ⟨h, rfl⟩
theorem landL_ok {fl : List Fl} {id : Int} (h : FlOk fl) : FlOk (landL fl id) := by
  refine ⟨fun x hx => h.each x (List.mem_filter.1 hx).1, ?_⟩
  exact h.ids.sublist (List.Sublist.map _ List.filter_sublist)
/-- The one flight with a number goes. -/
theorem landL_at : ∀ (fl : List Fl) (n : Nat), FlOk fl → n < fl.length → (landL fl (fl.getD n fD).1) = fl.take n ++ fl.drop (n + 1)
  | [], n, _, hn => by simp at hn
  | f :: l, n, h, hn => by
    have hnd : f.1 ∉ l.map (·.1) ∧ (l.map (·.1)).Nodup := by simpa using h.ids
    have hl : FlOk l := ⟨fun x hx => h.each x (List.mem_cons_of_mem _ hx), hnd.2⟩
    match n with
    | 0 =>
      show List.filter (fun g => !(idIs f.1 g)) (f :: l) = l
      rw [List.filter_cons]
      simp only [idIs, decide_true, Bool.not_true, if_neg (by decide : ¬ (false = true))]
      rw [List.filter_eq_self]
      intro x hx
      simp only [Bool.not_eq_true', decide_eq_false_iff_not]
      exact fun e => hnd.1 (e ▸ List.mem_map_of_mem hx)
    | n + 1 =>
      have hn' : n < l.length := by simpa using hn
      have ih := landL_at l n hl hn'
      have hg : (f :: l).getD (n + 1) fD = l.getD n fD := rfl
      have hm : l.getD n fD ∈ l := by
        rw [List.getD_eq_getElem?_getD, List.getElem?_eq_getElem hn']; exact List.getElem_mem hn'
      rw [hg]
      have hne : ¬ f.1 = (l.getD n fD).1 := fun e => hnd.1 (by rw [e]; exact List.mem_map_of_mem hm)
      show List.filter (fun g => !(idIs (l.getD n fD).1 g)) (f :: l) = _
      rw [List.filter_cons]
      simp only [idIs, decide_eq_false hne, Bool.not_false, if_true]
      rw [List.take_succ_cons, List.drop_succ_cons, List.cons_append]
      congr 1
theorem land_ok {s : Ses} {n : Nat} (h : SesOk s) (hon : s.on = true) (hn : n < s.fl.length) : SesOk (landR s (s.fl.getD n fD).1).1 ∧ there (landR s (s.fl.getD n fD).1).1 = (there s).take n ++ (there s).drop (n + 1) := by
  have hl : (landL s.fl (s.fl.getD n fD).1).length ≤ s.fl.length := List.length_filter_le _ _
  have nf := h.nf
  obtain ⟨a, b⟩ := flyS_ok (s := { s with fl := landL s.fl (s.fl.getD n fD).1 }) h.cl (Nat.le_trans hl nf) h.nq (landL_ok h.fl) h.qu h.next (.inl hon)
  refine ⟨a, ?_⟩
  rw [landR, b]
  show (landL s.fl (s.fl.getD n fD).1).map pay ++ s.qu.map pay = _
  rw [landL_at s.fl n h.fl hn, there, List.take_append_of_le_length (by simp; omega), List.drop_append_of_le_length (by simp; omega)]
  simp [List.map_take, List.map_drop]
theorem on_fly (s : Ses) : (flyS s).1.on = s.on ∧ (flyS s).1.clean = s.clean := ⟨rfl, rfl⟩
end Go.Proofs.YtcbkkjbgacjncaaDoor

/-
  Sessions: what must be in any case. By an AI agent.
-/
set_option linter.unusedSimpArgs false
set_option linter.unusedVariables false
namespace Go.Proofs.YtcbkkjbgacjncaaDoor
open Go.Sx

def sA : Ses := ⟨[97, 110, 110], true, false, [], [], 65535⟩
def sB : Ses := ⟨[97, 110, 110], true, false, [(65535, [97], [120])], [], 1⟩
def sC : Ses := ⟨[97, 110, 110], true, false, [(65535, [97], [120]), (1, [97], [121])], [], 2⟩
def sD : Ses := ⟨[97, 110, 110], true, false, [(1, [97], [121])], [], 2⟩
def sE : Ses := ⟨[97, 110, 110], false, false, [(1, [97], [121])], [], 2⟩
theorem sb1 : sendC sA [97] [120] 1 = (sB, [(false, 1, 65535, [97], [120])]) := Prod.ext (by decide) (by decide)
theorem sb2 : sendC sB [97] [121] 1 = (sC, [(false, 1, 1, [97], [121])]) := Prod.ext (by decide) (by decide)
theorem sb3 : landC sC 65535 = (sD, []) := Prod.ext (by decide) (by decide)
theorem sb4 : goC sD = sE := by decide
theorem sb5 : comeC sE = (sD, [(true, 1, 1, [97], [121])]) := Prod.ext (by decide) (by decide)
theorem se1 : sendE sA [97] [120] 1 = 0 := by decide
theorem se2 : sendE sB [97] [121] 1 = 0 := by decide
theorem se3 : chkS sC = 0 := by decide
theorem se4 : chkS sD = 0 := by decide
theorem se5 : chkS sE = 0 := by decide
theorem c_sess (w : World) : Calls Tryd.prog 23 #[] w fun e w' => e = .returned (sesV sA (.slice none 0 0) (.slice none 0 0)) ∧ Mod [] w w' := by
  refine as_called (run_plain2 (ρ := []) sxE_ok Tryd.func23 tree_dragomanlaw_sess rfl rfl rfl ?_) rfl
  simp only [Tree.goal, X.P, X.ev, V.toI_i, V.toB_b, V.toS_s, V.toR_r, V.toV_v, V.toN_n, V.toL_l, SV.ev, CV.ev, Sc.ev, List.getD_cons_zero, List.getD_cons_succ, List.getElem?_cons_zero, List.getElem?_cons_succ, List.map_cons, List.map_nil, List.length_cons, List.length_nil, List.cons_append, List.nil_append, Nat.zero_add, Nat.reduceAdd]
  exact fun b w' hr => ⟨rfl, hr.mod⟩
set_option maxHeartbeats 1000000 in
theorem c_sessionBegun (w : World) : Calls Tryd.prog 10 #[] w fun e w' => e = .returned (.bool true) ∧ Mod [] w w' := by
  refine as_called (run_plain2 (ρ := []) sxE_ok Tryd.func10 tree_dragomanlaw_sessionBegun rfl rfl rfl ?_) rfl
  simp only [Tree.goal, X.P, X.ev, V.toI_i, V.toB_b, V.toS_s, V.toR_r, V.toV_v, V.toN_n, V.toL_l, SV.ev, CV.ev, Sc.ev, List.getD_cons_zero, List.getD_cons_succ, List.getElem?_cons_zero, List.getElem?_cons_succ, List.map_cons, List.map_nil, List.length_cons, List.length_nil, List.cons_append, List.nil_append, Nat.zero_add, Nat.reduceAdd]
  intro w1 hr
  refine (c_sess w1).mono ?_
  rintro e w2 ⟨rfl, gm⟩
  refine ⟨[.s sA.cl, .b sA.on, .b sA.clean, .v (.slice none 0 0), .r (sA.fl.map encF), .v (.slice none 0 0), .r (sA.qu.map encF), .i sA.next], rfl, rfl, gm, List.forall_mem_nil _, List.forall_mem_cons.2 ⟨⟨reads_nil _ _, fun k hk => absurd rfl hk.1⟩, List.forall_mem_cons.2 ⟨⟨reads_nil _ _, fun k hk => absurd rfl hk.1⟩, List.forall_mem_nil _⟩⟩, apart_ro (by simp [Ent.wr]), ?_⟩
  simp only [Tree.goal, X.P, X.ev, V.toI_i, V.toB_b, V.toS_s, V.toR_r, V.toV_v, V.toN_n, V.toL_l, SV.ev, CV.ev, Sc.ev, List.getD_cons_zero, List.getD_cons_succ, List.getElem?_cons_zero, List.getElem?_cons_succ, List.map_cons, List.map_nil, List.length_cons, List.length_nil, List.cons_append, List.nil_append, Nat.zero_add, Nat.reduceAdd]
  intro w1 hr
  refine (c_Send w1 sA _ _ [97] [120] 1 (by (first | exact hr.at_ 0 rfl | exact hr.at_ 1 rfl | exact hr.at_ 2 rfl | exact hr.at_ 3 rfl | exact hr.at_ 4 rfl | exact hr.at_ 5 rfl | exact hr.at_ 6 rfl | exact hr.at_ 7 rfl | exact hr.at_ 8 rfl | exact hr.at_ 9 rfl | exact hr.at_ 10 rfl | exact hr.at_ 11 rfl | exact hr.at_ 12 rfl | exact hr.at_ 13 rfl | exact hr.at_ 14 rfl | exact hr.at_ 15 rfl | exact hr.at_ 16 rfl)) (by (first | exact hr.at_ 0 rfl | exact hr.at_ 1 rfl | exact hr.at_ 2 rfl | exact hr.at_ 3 rfl | exact hr.at_ 4 rfl | exact hr.at_ 5 rfl | exact hr.at_ 6 rfl | exact hr.at_ 7 rfl | exact hr.at_ 8 rfl | exact hr.at_ 9 rfl | exact hr.at_ 10 rfl | exact hr.at_ 11 rfl | exact hr.at_ 12 rfl | exact hr.at_ 13 rfl | exact hr.at_ 14 rfl | exact hr.at_ 15 rfl | exact hr.at_ 16 rfl)) (by unfold smallF; decide) (by unfold smallF; decide) (by decide) (by decide) (by decide) (by decide)).mono ?_
  rw [sb1, se1]
  rintro e w2 ⟨u', v', x, rfl, g1, g2, g3, g4, g5, g6, gm⟩
  refine ⟨[.s sB.cl, .b sB.on, .b sB.clean, .v u', .r (sB.fl.map encF), .v v', .r (sB.qu.map encF), .i sB.next, .v x, .r ([((false, 1, 65535, [97], [120]) : Pk)].map encP), .i 0], rfl, rfl, gm, List.forall_mem_nil _, List.forall_mem_cons.2 ⟨⟨g1, fun k hk => .inl (g4 k hk.2)⟩, List.forall_mem_cons.2 ⟨⟨g2, fun k hk => .inl (g5 k hk.2)⟩, List.forall_mem_cons.2 ⟨⟨g3, fun k hk => .inl (g6 k hk.2)⟩, List.forall_mem_nil _⟩⟩⟩, apart_ro (by simp [Ent.wr]), ?_⟩
  simp only [Tree.goal, X.P, X.ev, V.toI_i, V.toB_b, V.toS_s, V.toR_r, V.toV_v, V.toN_n, V.toL_l, SV.ev, CV.ev, Sc.ev, List.getD_cons_zero, List.getD_cons_succ, List.getElem?_cons_zero, List.getElem?_cons_succ, List.map_cons, List.map_nil, List.length_cons, List.length_nil, List.cons_append, List.nil_append, Nat.zero_add, Nat.reduceAdd]
  intro b1 w1 hr
  refine (c_Send w1 sB _ _ [97] [121] 1 (by (first | exact hr.at_ 0 rfl | exact hr.at_ 1 rfl | exact hr.at_ 2 rfl | exact hr.at_ 3 rfl | exact hr.at_ 4 rfl | exact hr.at_ 5 rfl | exact hr.at_ 6 rfl | exact hr.at_ 7 rfl | exact hr.at_ 8 rfl | exact hr.at_ 9 rfl | exact hr.at_ 10 rfl | exact hr.at_ 11 rfl | exact hr.at_ 12 rfl | exact hr.at_ 13 rfl | exact hr.at_ 14 rfl | exact hr.at_ 15 rfl | exact hr.at_ 16 rfl)) (by (first | exact hr.at_ 0 rfl | exact hr.at_ 1 rfl | exact hr.at_ 2 rfl | exact hr.at_ 3 rfl | exact hr.at_ 4 rfl | exact hr.at_ 5 rfl | exact hr.at_ 6 rfl | exact hr.at_ 7 rfl | exact hr.at_ 8 rfl | exact hr.at_ 9 rfl | exact hr.at_ 10 rfl | exact hr.at_ 11 rfl | exact hr.at_ 12 rfl | exact hr.at_ 13 rfl | exact hr.at_ 14 rfl | exact hr.at_ 15 rfl | exact hr.at_ 16 rfl)) (by unfold smallF; decide) (by unfold smallF; decide) (by decide) (by decide) (by decide) (by decide)).mono ?_
  rw [sb2, se2]
  rintro e w2 ⟨u2, v2, x2, rfl, g1, g2, g3, g4, g5, g6, gm⟩
  refine ⟨[.s sC.cl, .b sC.on, .b sC.clean, .v u2, .r (sC.fl.map encF), .v v2, .r (sC.qu.map encF), .i sC.next, .v x2, .r ([((false, 1, 1, [97], [121]) : Pk)].map encP), .i 0], rfl, rfl, gm, List.forall_mem_nil _, List.forall_mem_cons.2 ⟨⟨g1, fun k hk => .inl (g4 k hk.2)⟩, List.forall_mem_cons.2 ⟨⟨g2, fun k hk => .inl (g5 k hk.2)⟩, List.forall_mem_cons.2 ⟨⟨g3, fun k hk => .inl (g6 k hk.2)⟩, List.forall_mem_nil _⟩⟩⟩, apart_ro (by simp [Ent.wr]), ?_⟩
  simp only [Tree.goal, X.P, X.ev, V.toI_i, V.toB_b, V.toS_s, V.toR_r, V.toV_v, V.toN_n, V.toL_l, SV.ev, CV.ev, Sc.ev, List.getD_cons_zero, List.getD_cons_succ, List.getElem?_cons_zero, List.getElem?_cons_succ, List.map_cons, List.map_nil, List.length_cons, List.length_nil, List.cons_append, List.nil_append, Nat.zero_add, Nat.reduceAdd]
  intro b2 w1 hr
  refine (c_Landed w1 sC _ _ 65535 (by (first | exact hr.at_ 0 rfl | exact hr.at_ 1 rfl | exact hr.at_ 2 rfl | exact hr.at_ 3 rfl | exact hr.at_ 4 rfl | exact hr.at_ 5 rfl | exact hr.at_ 6 rfl | exact hr.at_ 7 rfl | exact hr.at_ 8 rfl | exact hr.at_ 9 rfl | exact hr.at_ 10 rfl | exact hr.at_ 11 rfl | exact hr.at_ 12 rfl | exact hr.at_ 13 rfl | exact hr.at_ 14 rfl | exact hr.at_ 15 rfl | exact hr.at_ 16 rfl)) (by (first | exact hr.at_ 0 rfl | exact hr.at_ 1 rfl | exact hr.at_ 2 rfl | exact hr.at_ 3 rfl | exact hr.at_ 4 rfl | exact hr.at_ 5 rfl | exact hr.at_ 6 rfl | exact hr.at_ 7 rfl | exact hr.at_ 8 rfl | exact hr.at_ 9 rfl | exact hr.at_ 10 rfl | exact hr.at_ 11 rfl | exact hr.at_ 12 rfl | exact hr.at_ 13 rfl | exact hr.at_ 14 rfl | exact hr.at_ 15 rfl | exact hr.at_ 16 rfl)) (by unfold smallF; decide) (by unfold smallF; decide) (by decide) (by decide) (by decide)).mono ?_
  rw [sb3, se3]
  rintro e w2 ⟨u3, v3, x3, rfl, g1, g2, g3, g4, g5, g6, gm⟩
  refine ⟨[.s sD.cl, .b sD.on, .b sD.clean, .v u3, .r (sD.fl.map encF), .v v3, .r (sD.qu.map encF), .i sD.next, .v x3, .r (([] : List Pk).map encP), .i 0], rfl, rfl, gm, List.forall_mem_nil _, List.forall_mem_cons.2 ⟨⟨g1, fun k hk => .inl (g4 k hk.2)⟩, List.forall_mem_cons.2 ⟨⟨g2, fun k hk => .inl (g5 k hk.2)⟩, List.forall_mem_cons.2 ⟨⟨g3, fun k hk => .inl (g6 k hk.2)⟩, List.forall_mem_nil _⟩⟩⟩, apart_ro (by simp [Ent.wr]), ?_⟩
  simp only [Tree.goal, X.P, X.ev, V.toI_i, V.toB_b, V.toS_s, V.toR_r, V.toV_v, V.toN_n, V.toL_l, SV.ev, CV.ev, Sc.ev, List.getD_cons_zero, List.getD_cons_succ, List.getElem?_cons_zero, List.getElem?_cons_succ, List.map_cons, List.map_nil, List.length_cons, List.length_nil, List.cons_append, List.nil_append, Nat.zero_add, Nat.reduceAdd]
  intro b3 w1 hr
  refine (c_Go w1 sD _ _ (by (first | exact hr.at_ 0 rfl | exact hr.at_ 1 rfl | exact hr.at_ 2 rfl | exact hr.at_ 3 rfl | exact hr.at_ 4 rfl | exact hr.at_ 5 rfl | exact hr.at_ 6 rfl | exact hr.at_ 7 rfl | exact hr.at_ 8 rfl | exact hr.at_ 9 rfl | exact hr.at_ 10 rfl | exact hr.at_ 11 rfl | exact hr.at_ 12 rfl | exact hr.at_ 13 rfl | exact hr.at_ 14 rfl | exact hr.at_ 15 rfl | exact hr.at_ 16 rfl)) (by (first | exact hr.at_ 0 rfl | exact hr.at_ 1 rfl | exact hr.at_ 2 rfl | exact hr.at_ 3 rfl | exact hr.at_ 4 rfl | exact hr.at_ 5 rfl | exact hr.at_ 6 rfl | exact hr.at_ 7 rfl | exact hr.at_ 8 rfl | exact hr.at_ 9 rfl | exact hr.at_ 10 rfl | exact hr.at_ 11 rfl | exact hr.at_ 12 rfl | exact hr.at_ 13 rfl | exact hr.at_ 14 rfl | exact hr.at_ 15 rfl | exact hr.at_ 16 rfl)) (by unfold smallF; decide) (by unfold smallF; decide) (by decide) (by decide) (by decide)).mono ?_
  rw [sb4, se4]
  rintro e w2 ⟨u4, v4, rfl, g1, g2, g4, g5, gm⟩
  refine ⟨[.s sE.cl, .b sE.on, .b sE.clean, .v u4, .r (sE.fl.map encF), .v v4, .r (sE.qu.map encF), .i sE.next, .i 0], rfl, rfl, gm, List.forall_mem_nil _, List.forall_mem_cons.2 ⟨⟨g1, fun k hk => .inl (g4 k hk.2)⟩, List.forall_mem_cons.2 ⟨⟨g2, fun k hk => .inl (g5 k hk.2)⟩, List.forall_mem_nil _⟩⟩, apart_ro (by simp [Ent.wr]), ?_⟩
  simp only [Tree.goal, X.P, X.ev, V.toI_i, V.toB_b, V.toS_s, V.toR_r, V.toV_v, V.toN_n, V.toL_l, SV.ev, CV.ev, Sc.ev, List.getD_cons_zero, List.getD_cons_succ, List.getElem?_cons_zero, List.getElem?_cons_succ, List.map_cons, List.map_nil, List.length_cons, List.length_nil, List.cons_append, List.nil_append, Nat.zero_add, Nat.reduceAdd]
  intro b4 w1 hr
  refine (c_Come w1 sE _ _ (by (first | exact hr.at_ 0 rfl | exact hr.at_ 1 rfl | exact hr.at_ 2 rfl | exact hr.at_ 3 rfl | exact hr.at_ 4 rfl | exact hr.at_ 5 rfl | exact hr.at_ 6 rfl | exact hr.at_ 7 rfl | exact hr.at_ 8 rfl | exact hr.at_ 9 rfl | exact hr.at_ 10 rfl | exact hr.at_ 11 rfl | exact hr.at_ 12 rfl | exact hr.at_ 13 rfl | exact hr.at_ 14 rfl | exact hr.at_ 15 rfl | exact hr.at_ 16 rfl)) (by (first | exact hr.at_ 0 rfl | exact hr.at_ 1 rfl | exact hr.at_ 2 rfl | exact hr.at_ 3 rfl | exact hr.at_ 4 rfl | exact hr.at_ 5 rfl | exact hr.at_ 6 rfl | exact hr.at_ 7 rfl | exact hr.at_ 8 rfl | exact hr.at_ 9 rfl | exact hr.at_ 10 rfl | exact hr.at_ 11 rfl | exact hr.at_ 12 rfl | exact hr.at_ 13 rfl | exact hr.at_ 14 rfl | exact hr.at_ 15 rfl | exact hr.at_ 16 rfl)) (by unfold smallF; decide) (by unfold smallF; decide) (by decide) (by decide) (by decide)).mono ?_
  rw [sb5, se5]
  rintro e w2 ⟨u5, v5, x5, rfl, g1, g2, g3, g4, g5, g6, gm⟩
  refine ⟨[.s sD.cl, .b sD.on, .b sD.clean, .v u5, .r (sD.fl.map encF), .v v5, .r (sD.qu.map encF), .i sD.next, .v x5, .r ([((true, 1, 1, [97], [121]) : Pk)].map encP), .i 0], rfl, rfl, gm, List.forall_mem_nil _, List.forall_mem_cons.2 ⟨⟨g1, fun k hk => .inl (g4 k hk.2)⟩, List.forall_mem_cons.2 ⟨⟨g2, fun k hk => .inl (g5 k hk.2)⟩, List.forall_mem_cons.2 ⟨⟨g3, fun k hk => .inl (g6 k hk.2)⟩, List.forall_mem_nil _⟩⟩⟩, apart_ro (by simp [Ent.wr]), ?_⟩
  simp only [Tree.goal, X.P, X.ev, V.toI_i, V.toB_b, V.toS_s, V.toR_r, V.toV_v, V.toN_n, V.toL_l, SV.ev, CV.ev, Sc.ev, List.getD_cons_zero, List.getD_cons_succ, List.getElem?_cons_zero, List.getElem?_cons_succ, List.map_cons, List.map_nil, List.length_cons, List.length_nil, List.cons_append, List.nil_append, Nat.zero_add, Nat.reduceAdd]
  intro b5
  refine ⟨[.i (chkS sC)], rfl, fun _ w' hr => c_CheckS w' sC _ _ (by (first | exact hr.at_ 0 rfl | exact hr.at_ 1 rfl | exact hr.at_ 2 rfl | exact hr.at_ 3 rfl | exact hr.at_ 4 rfl | exact hr.at_ 5 rfl | exact hr.at_ 6 rfl | exact hr.at_ 7 rfl | exact hr.at_ 8 rfl | exact hr.at_ 9 rfl | exact hr.at_ 10 rfl | exact hr.at_ 11 rfl | exact hr.at_ 12 rfl | exact hr.at_ 13 rfl | exact hr.at_ 14 rfl | exact hr.at_ 15 rfl | exact hr.at_ 16 rfl)) (by (first | exact hr.at_ 0 rfl | exact hr.at_ 1 rfl | exact hr.at_ 2 rfl | exact hr.at_ 3 rfl | exact hr.at_ 4 rfl | exact hr.at_ 5 rfl | exact hr.at_ 6 rfl | exact hr.at_ 7 rfl | exact hr.at_ 8 rfl | exact hr.at_ 9 rfl | exact hr.at_ 10 rfl | exact hr.at_ 11 rfl | exact hr.at_ 12 rfl | exact hr.at_ 13 rfl | exact hr.at_ 14 rfl | exact hr.at_ 15 rfl | exact hr.at_ 16 rfl)) (by unfold smallF; decide) (by unfold smallF; decide) (by decide) (by decide) (by decide), ?_⟩
  rw [se3]
  simp only [Tree.goal, X.P, X.ev, V.toI_i, V.toB_b, V.toS_s, V.toR_r, V.toV_v, V.toN_n, V.toL_l, SV.ev, CV.ev, Sc.ev, List.getD_cons_zero, List.getD_cons_succ, List.getElem?_cons_zero, List.getElem?_cons_succ, List.map_cons, List.map_nil, List.length_cons, List.length_nil, List.cons_append, List.nil_append, Nat.zero_add, Nat.reduceAdd]
  refine ⟨.inr (by decide), .inr (by decide), .inr (by decide), fun w' hr => ⟨by rfl, hr.mod⟩⟩
end Go.Proofs.YtcbkkjbgacjncaaDoor

/-
  The laws TopicTells, TopicPlain and TopicCovers, walked. By an AI agent.
-/
set_option linter.unusedSimpArgs false
set_option linter.unusedVariables false
namespace Go.Proofs.YtcbkkjbgacjncaaDoor
open Go.Sx
abbrev bB (x : Bool × Int) : List V := [.b x.1, .i x.2]
theorem tb1 : matR [97, 47, 43, 47, 35] [97, 47, 98] = (true, 0) := by decide
theorem tb2 : matR [97, 47, 43] [97, 47, 98, 47, 99] = (false, 0) := by decide
theorem tb3 : covR [35] [97, 47, 43] = (true, 0) := by decide
theorem tb4 : covR [97, 47, 43] [97, 47, 35] = (false, 0) := by decide
theorem tb5 : chkT [97, 47, 98] false = 0 := by decide
theorem tb6 : chkT [97, 47, 43, 47, 35] true = 0 := by decide
theorem tb7 : chkT [97, 47, 43] false = 1 := by decide
theorem c_topicBegun (w : World) : Calls Tryd.prog 6 #[] w fun e w' => e = .returned (.bool true) ∧ Mod [] w w' := by
  refine as_called (run_plain2 (ρ := []) sxE_ok Tryd.func6 tree_dragomanlaw_topicBegun rfl rfl rfl ?_) rfl
  simp only [Tree.goal, X.P, X.ev, V.toI_i, V.toB_b, V.toS_s, V.toR_r, V.toV_v, V.toN_n, V.toL_l, SV.ev, CV.ev, Sc.ev, List.getD_cons_zero, List.getD_cons_succ, List.getElem?_cons_zero, List.getElem?_cons_succ, List.map_cons, List.map_nil, List.length_cons, List.length_nil, List.cons_append, List.nil_append, Nat.zero_add, Nat.reduceAdd]
  refine ⟨bB (matR [97, 47, 43, 47, 35] [97, 47, 98]), rfl, fun _ w' _ => c_Match w' _ _ (by decide) (by decide), ?_⟩
  simp only [Tree.goal, X.P, X.ev, V.toI_i, V.toB_b, V.toS_s, V.toR_r, V.toV_v, V.toN_n, V.toL_l, SV.ev, CV.ev, Sc.ev, List.getD_cons_zero, List.getD_cons_succ, List.getElem?_cons_zero, List.getElem?_cons_succ, List.map_cons, List.map_nil, List.length_cons, List.length_nil, List.cons_append, List.nil_append, Nat.zero_add, Nat.reduceAdd, bB, tb1]
  refine ⟨bB (matR [97, 47, 43] [97, 47, 98, 47, 99]), rfl, fun _ w' _ => c_Match w' _ _ (by decide) (by decide), ?_⟩
  simp only [Tree.goal, X.P, X.ev, V.toI_i, V.toB_b, V.toS_s, V.toR_r, V.toV_v, V.toN_n, V.toL_l, SV.ev, CV.ev, Sc.ev, List.getD_cons_zero, List.getD_cons_succ, List.getElem?_cons_zero, List.getElem?_cons_succ, List.map_cons, List.map_nil, List.length_cons, List.length_nil, List.cons_append, List.nil_append, Nat.zero_add, Nat.reduceAdd, bB, tb2]
  refine ⟨bB (covR [35] [97, 47, 43]), rfl, fun _ w' _ => c_Covers w' _ _ (by decide) (by decide), ?_⟩
  simp only [Tree.goal, X.P, X.ev, V.toI_i, V.toB_b, V.toS_s, V.toR_r, V.toV_v, V.toN_n, V.toL_l, SV.ev, CV.ev, Sc.ev, List.getD_cons_zero, List.getD_cons_succ, List.getElem?_cons_zero, List.getElem?_cons_succ, List.map_cons, List.map_nil, List.length_cons, List.length_nil, List.cons_append, List.nil_append, Nat.zero_add, Nat.reduceAdd, bB, tb3]
  refine ⟨bB (covR [97, 47, 43] [97, 47, 35]), rfl, fun _ w' _ => c_Covers w' _ _ (by decide) (by decide), ?_⟩
  simp only [Tree.goal, X.P, X.ev, V.toI_i, V.toB_b, V.toS_s, V.toR_r, V.toV_v, V.toN_n, V.toL_l, SV.ev, CV.ev, Sc.ev, List.getD_cons_zero, List.getD_cons_succ, List.getElem?_cons_zero, List.getElem?_cons_succ, List.map_cons, List.map_nil, List.length_cons, List.length_nil, List.cons_append, List.nil_append, Nat.zero_add, Nat.reduceAdd, bB, tb4]
  refine ⟨[.i (chkT [97, 47, 98] false)], rfl, fun _ w' _ => c_Name w' _ (by decide), ?_⟩
  simp only [Tree.goal, X.P, X.ev, V.toI_i, V.toB_b, V.toS_s, V.toR_r, V.toV_v, V.toN_n, V.toL_l, SV.ev, CV.ev, Sc.ev, List.getD_cons_zero, List.getD_cons_succ, List.getElem?_cons_zero, List.getElem?_cons_succ, List.map_cons, List.map_nil, List.length_cons, List.length_nil, List.cons_append, List.nil_append, Nat.zero_add, Nat.reduceAdd, tb5]
  refine ⟨[.i (chkT [97, 47, 43, 47, 35] true)], rfl, fun _ w' _ => c_Filter w' _ (by decide), ?_⟩
  simp only [Tree.goal, X.P, X.ev, V.toI_i, V.toB_b, V.toS_s, V.toR_r, V.toV_v, V.toN_n, V.toL_l, SV.ev, CV.ev, Sc.ev, List.getD_cons_zero, List.getD_cons_succ, List.getElem?_cons_zero, List.getElem?_cons_succ, List.map_cons, List.map_nil, List.length_cons, List.length_nil, List.cons_append, List.nil_append, Nat.zero_add, Nat.reduceAdd, tb6]
  refine ⟨[.i (chkT [97, 47, 43] false)], rfl, fun _ w' _ => c_Name w' _ (by decide), ?_⟩
  simp only [Tree.goal, X.P, X.ev, V.toI_i, V.toB_b, V.toS_s, V.toR_r, V.toV_v, V.toN_n, V.toL_l, SV.ev, CV.ev, Sc.ev, List.getD_cons_zero, List.getD_cons_succ, List.getElem?_cons_zero, List.getElem?_cons_succ, List.map_cons, List.map_nil, List.length_cons, List.length_nil, List.cons_append, List.nil_append, Nat.zero_add, Nat.reduceAdd, tb7]
  exact fun w' hr => ⟨by rfl, hr.mod⟩

/-- A text of its levels. -/
def unlev : List (List UInt8) → List UInt8
  | [] => []
  | [x] => x
  | x :: y :: xs => x ++ 47 :: unlev (y :: xs)
theorem unlev_glue (c : UInt8) (x : List UInt8) (xs : List (List UInt8)) : unlev ((c :: x) :: xs) = c :: unlev (x :: xs) := by cases xs <;> simp [unlev]
theorem unlev_lev : ∀ s : List UInt8, unlev (lev s) = s := by
  intro s
  induction s with
  | nil => rfl
  | cons c l ih =>
    obtain ⟨y, ys, e⟩ := lev_ne l
    by_cases hc : c = 47
    · subst hc
      rw [lev_slash, e]
      rw [e] at ih
      simp [unlev, ih]
    · rw [lev_other _ hc, e]
      rw [e] at ih
      simp only [glue, List.cons_append, List.nil_append]
      rw [unlev_glue, ih]
theorem lev_inj {a b : List UInt8} (h : lev a = lev b) : a = b := by rw [← unlev_lev a, h, unlev_lev]
theorem bad_name {l : List (List UInt8)} (h : badL false l = false) : (∀ x ∈ l, wild x = false) ∧ badL true l = false := by
  induction l with
  | nil => exact ⟨by simp, rfl⟩
  | cons x l ih =>
    simp only [badL, Bool.or_eq_false_iff, Bool.not_false, Bool.true_or, Bool.and_true] at h
    obtain ⟨i1, i2⟩ := ih h.2
    refine ⟨fun y hy => ?_, by simp [badL, h.1, i2]⟩
    rcases List.mem_cons.1 hy with rfl | hy
    · exact h.1
    · exact i1 y hy
theorem chkT_ok {s : List UInt8} {f : Bool} : chkT s f = 0 ↔ s ≠ [] ∧ (s.length ≤ 60 ∧ (lev s).length ≤ 6) ∧ plainS s = true ∧ badL f (lev s) = false := by
  unfold chkT
  by_cases h1 : s = []
  · rw [if_pos h1]; simp [h1]
  · rw [if_neg h1]
    by_cases h2 : 60 < (s.length : Int) ∨ 6 < ((lev s).length : Int)
    · rw [if_pos h2]
      refine ⟨fun h => absurd h (by decide), fun h => by omega⟩
    · rw [if_neg h2]
      by_cases h3 : plainS s = true
      · rw [if_pos h3]
        cases h4 : badL f (lev s)
        · exact ⟨fun _ => ⟨h1, by omega, h3, rfl⟩, fun _ => rfl⟩
        · exact ⟨fun h => absurd h (by decide), fun h => absurd h.2.2.2 (by simp)⟩
      · rw [if_neg h3]
        exact ⟨fun h => absurd h (by decide), fun h => absurd h.2.2.1 h3⟩
theorem chkT_name {s : List UInt8} (h : chkT s false = 0) : chkT s true = 0 := by
  obtain ⟨h1, h2, h3, h4⟩ := chkT_ok.1 h
  exact chkT_ok.2 ⟨h1, h2, h3, (bad_name h4).2⟩
theorem mt_plain : ∀ {fs ns : List (List UInt8)}, (∀ x ∈ fs, wild x = false) → mt fs ns = decide (fs = ns) := by
  intro fs
  induction fs with
  | nil => intro ns _; simp only [mt]; exact decide_eq_decide.2 ⟨fun h => h.symm, fun h => h.symm⟩
  | cons f fs ih =>
    intro ns h
    have hf := h f (List.mem_cons_self ..)
    have h35 : ¬ f = [35] := fun e => by rw [e] at hf; exact absurd hf (by decide)
    have h43 : ¬ f = [43] := fun e => by rw [e] at hf; exact absurd hf (by decide)
    rcases ns with _ | ⟨x, xs⟩
    · rw [mt_none _ h35]; simp
    · rw [mt_cons _ _ _ h35]
      by_cases hx : f = x
      · rw [if_pos (.inr hx), ih fun y hy => h y (List.mem_cons_of_mem _ hy)]
        simp [hx]
      · rw [if_neg (fun e => e.elim h43 hx)]
        simp [hx]
theorem chk_hash : chkT [35] true = 0 := by decide
theorem cv_refl : ∀ l : List (List UInt8), cv l l = true := by
  intro l
  induction l with
  | nil => rfl
  | cons f fs ih =>
    by_cases h : f = [35]
    · exact cv_all _ _ h
    · rw [cv_cons _ _ _ h, if_neg h, if_pos (.inr rfl), ih]
theorem cv_inv {f : List UInt8} {fs g : List (List UInt8)} (hf : ¬ f = [35]) (h : cv (f :: fs) g = true) : ∃ x xs, g = x :: xs ∧ ¬ x = [35] ∧ (f = [43] ∨ f = x) ∧ cv fs xs = true := by
  rcases g with _ | ⟨x, xs⟩
  · rw [cv_none _ hf] at h; cases h
  · rw [cv_cons _ _ _ hf] at h
    split at h
    · cases h
    · split at h
      · exact ⟨x, xs, rfl, by assumption, by assumption, h⟩
      · cases h
theorem mt_inv {f : List UInt8} {fs g : List (List UInt8)} (hf : ¬ f = [35]) (h : mt (f :: fs) g = true) : ∃ x xs, g = x :: xs ∧ (f = [43] ∨ f = x) ∧ mt fs xs = true := by
  rcases g with _ | ⟨x, xs⟩
  · rw [mt_none _ hf] at h; cases h
  · rw [mt_cons _ _ _ hf] at h
    split at h
    · exact ⟨x, xs, rfl, by assumption, h⟩
    · cases h
theorem nil_of {g : List (List UInt8)} (h : cv [] g = true) : g = [] := of_decide_eq_true h
theorem cv_mt : ∀ {a g n : List (List UInt8)}, cv a g = true → mt g n = true → mt a n = true := by
  intro a
  induction a with
  | nil => intro g n h1 h2; rw [nil_of h1] at h2; exact h2
  | cons f fs ih =>
    intro g n h1 h2
    by_cases hf : f = [35]
    · exact mt_all _ _ hf
    · obtain ⟨x, xs, rfl, hx, hfx, h3⟩ := cv_inv hf h1
      obtain ⟨y, ys, rfl, hxy, h4⟩ := mt_inv hx h2
      rw [mt_cons _ _ _ hf, if_pos, ih h3 h4]
      rcases hfx with h | h
      · exact .inl h
      · rcases hxy with h5 | h5
        · exact .inl (h.trans h5)
        · exact .inr (h.trans h5)
theorem cv_trans : ∀ {a g h : List (List UInt8)}, cv a g = true → cv g h = true → cv a h = true := by
  intro a
  induction a with
  | nil => intro g h h1 h2; rw [nil_of h1] at h2; exact h2
  | cons f fs ih =>
    intro g n h1 h2
    by_cases hf : f = [35]
    · exact cv_all _ _ hf
    · obtain ⟨x, xs, rfl, hx, hfx, h3⟩ := cv_inv hf h1
      obtain ⟨y, ys, rfl, hy, hxy, h4⟩ := cv_inv hx h2
      rw [cv_cons _ _ _ hf, if_neg hy, if_pos, ih h3 h4]
      rcases hfx with h | h
      · exact .inl h
      · rcases hxy with h5 | h5
        · exact .inl (h.trans h5)
        · exact .inr (h.trans h5)
theorem lev_hash : lev [35] = [[35]] := by decide
theorem lev_hash2 : lev [47, 35] = [[], [35]] := by decide
theorem levC_hash : levC [35] = [[43], [35]] := by decide
theorem levC_hash2 : levC [47, 35] = [[], [43], [35]] := by decide
theorem mt_levC {b n : List UInt8} (hn : n ≠ []) (h : mt (lev b) (lev n) = true) : mt (levC b) (lev n) = true := by
  by_cases h1 : b = [35]
  · subst h1
    obtain ⟨y, ys, e⟩ := lev_ne n
    rw [levC_hash, e, mt_cons _ _ _ (by decide), if_pos (.inl rfl), mt_all _ _ rfl]
  · by_cases h2 : b = [47, 35]
    · subst h2
      rw [lev_hash2] at h
      obtain ⟨y, ys, e, hy, h3⟩ := mt_inv (by decide) h
      have hy : y = [] := by
        rcases hy with h4 | h4
        · exact absurd h4 (by decide)
        · exact h4.symm
      subst hy
      rcases ys with _ | ⟨z, zs⟩
      · exact absurd (by rw [← unlev_lev n, e]; rfl) hn
      · rw [levC_hash2, e, mt_cons _ _ _ (by decide), if_pos (.inr rfl), mt_cons _ _ _ (by decide), if_pos (.inl rfl), mt_all _ _ rfl]
    · rw [levC_no (fun h3 => h3.elim h1 h2)]; exact h
theorem bad_hash {r : List (List UInt8)} (h : badL true ([35] :: r) = false) : r = [] := by
  simp only [badL, Bool.or_eq_false_iff] at h
  have h1 := h.1
  have hw : wild [35] = true := by decide
  rw [hw] at h1
  simpa using h1
/-- The first levels that are covered. -/
theorem levC_head {c : List UInt8} (hc : chkT c true = 0) : ∃ x r, levC c = x :: r ∧ ¬ x = [35] ∧ (x = [] → ∃ y r', r = y :: r' ∧ ¬ y = [35]) := by
  by_cases h1 : c = [35]
  · subst h1; exact ⟨[43], [[35]], levC_hash, by decide, fun h => absurd h (by decide)⟩
  · by_cases h2 : c = [47, 35]
    · subst h2; exact ⟨[], [[43], [35]], levC_hash2, by decide, fun _ => ⟨[43], [[35]], rfl, by decide⟩⟩
    · rw [levC_no (fun h3 => h3.elim h1 h2)]
      obtain ⟨hne, -, -, hb⟩ := chkT_ok.1 hc
      obtain ⟨x, r, e⟩ := lev_ne c
      have hu := unlev_lev c
      rw [e] at hb hu
      refine ⟨x, r, e, fun h => ?_, fun h => ?_⟩
      · subst h
        rw [bad_hash hb] at hu
        exact h1 hu.symm
      · subst h
        rcases r with _ | ⟨y, r'⟩
        · exact absurd hu.symm hne
        · refine ⟨y, r', rfl, fun h => ?_⟩
          subst h
          have : badL true ([35] :: r') = false := by simp only [badL, Bool.or_eq_false_iff] at hb ⊢; exact hb.2
          rw [bad_hash this] at hu
          exact h2 hu.symm
theorem cv_levC {b c : List UInt8} (hc : chkT c true = 0) (h : cv (lev b) (levC c) = true) : cv (levC b) (levC c) = true := by
  obtain ⟨x, r, e, hx, hr⟩ := levC_head hc
  rw [e] at h ⊢
  by_cases h1 : b = [35]
  · subst h1
    rw [levC_hash, cv_cons _ _ _ (by decide), if_neg hx, if_pos (.inl rfl), cv_all _ _ rfl]
  · by_cases h2 : b = [47, 35]
    · subst h2
      rw [lev_hash2] at h
      obtain ⟨x', xs, e1, h3, h4, h5⟩ := cv_inv (by decide) h
      simp only [List.cons.injEq] at e1
      obtain ⟨rfl, rfl⟩ := e1
      have hx0 : x = [] := by
        rcases h4 with h4 | h4
        · exact absurd h4 (by decide)
        · exact h4.symm
      obtain ⟨y, r', rfl, hy⟩ := hr hx0
      rw [levC_hash2, cv_cons _ _ _ (by decide), if_neg hx, if_pos (.inr hx0.symm), cv_cons _ _ _ (by decide), if_neg hy, if_pos (.inl rfl), cv_all _ _ rfl]
    · rw [levC_no (fun h3 => h3.elim h1 h2)]; exact h
theorem cv_self {a : List UInt8} : cv (lev a) (levC a) = true := by
  by_cases h1 : a = [35]
  · subst h1; decide
  · by_cases h2 : a = [47, 35]
    · subst h2; decide
    · rw [levC_no (fun h3 => h3.elim h1 h2)]; exact cv_refl _

end Go.Proofs.YtcbkkjbgacjncaaDoor
