/-
  Packets: their bytes, walked: the writer. By an AI agent.
-/
import Derived.Test.YtliedecinehijaaDoorQe
import Derived.Test.YtliedecinehijaaDoorBd
set_option linter.unusedSimpArgs false
set_option linter.unusedVariables false
namespace Go.Proofs.YtliedecinehijaaDoor
open Go.Sx

theorem bld_writer : bldIn 125 2 = true := by kernel_rfl
def byW (l : List UInt8) : List (List Value) := l.map fun b => [Value.int .u8 (b.toNat : Int)]
theorem byW_app (a b : List UInt8) : byW (a ++ b) = byW a ++ byW b := List.map_append
def okp (p : Value) (b : Nat) : Prop := p = .pointer none ∨ p = .pointer (some ⟨b, 0, none⟩)
theorem okp.sc1 {p : Value} {b : Nat} (h : okp p b) : sc1 p = p := by rcases h with rfl | rfl <;> rfl
/-- A writer in block b: its Builder's pointer is p, its bytes are q. -/
structure wrS (w : World) (b : Nat) (p q : Value) (l : List UInt8) : Prop where
  cells : w.heap[b]? = some (.cells [Sx.sc1 p, Sx.sc1 q].toArray 125 (0, 0))
  ok : okp p b
  own : owns w q 5 [.int .u8] (byW l)
theorem wrS.ne {w : World} {b : Nat} {p q : Value} {l : List UInt8} (h : wrS w b p q l) {k : Nat} (hk : blockOf q k) : k ≠ b := fun e => by
  subst e
  have hk : q.ownBlock = some k := hk
  rcases h.own.2.2 with ⟨hv, -⟩ | ⟨g, cap, cur, hv, -, hg, -⟩
  · rw [hv] at hk; cases hk
  · rw [hv] at hk
    simp [Value.ownBlock] at hk; subst hk
    have hb := h.cells
    rw [hb] at hg
    simp at hg
theorem wrS.lt {w : World} {b : Nat} {p q : Value} {l : List UInt8} (h : wrS w b p q l) : b < w.heap.size := (Array.getElem?_eq_some_iff.1 h.cells).1
def fpW (b : Nat) (q : Value) : List Nat := [b] ++ (q.ownBlock.toList ++ [])
/-- What a writer's call does: its bytes are l. -/
def wrote (w w' : World) (b : Nat) (q : Value) (l : List UInt8) : Prop :=
  ∃ p' q', wrS w' b p' q' l ∧ Mod (fpW b q) w w' ∧ ∀ k, blockOf q' k → w.heap.size ≤ k ∨ k ∈ q.ownBlock.toList ++ []
theorem c_pws (w : World) (b : Nat) (p q : Value) (l s : List UInt8) (h : wrS w b p q l) (hl : l.length + s.length ≤ 140737488355328) :
    Calls Tryd.prog 135 #[.pointer (some ⟨b, 0, none⟩), .string ⟨s.toArray⟩] w fun e w' => e = .returned (.tuple #[.int .i64 s.length, .nilIface]) ∧ wrote w w' b q (l ++ s) := by
  have hq : sc1 q = q := h.own.reads.sc1
  have hc := h.cells
  rw [h.ok.sc1, hq] at hc
  refine (bld_WriteString 125 b p q [] _ s w bld_writer (by decide) hc h.ok h.own (by simp only [byW, List.length_map]; omega)).mono ?_
  rintro e w' ⟨rfl, v', c1, c2, c3, c4⟩
  have hv : sc1 v' = v' := c2.reads.sc1
  refine ⟨rfl, .pointer (some ⟨b, 0, none⟩), v', ⟨by rw [hv]; exact c1, .inr rfl, by rw [byW_app]; exact c2⟩, c3.mono fun z hz => .inl ?_, fun k hk => (c4 k hk).imp id fun h => by simpa using h⟩
  simpa [fpW] using hz
theorem rel_w {w : World} {b : Nat} {p q : Value} {l : List UInt8} {ρ : List V} {vb vq vp : Nat} {rds : List Ent} {r : X} (h : wrS w b p q l) (hb : (ρ.getD vb (.i 0)).toN = b) (hq : (ρ.getD vq (.i 0)).toV = q)
    (hp : (ρ.getD vp (.i 0)).toV = p) (hr : (r.ev ρ).toR = byW l) (hd : ∀ e ∈ rds, e.holds ρ w ∧ e.wr = false ∧ ∀ k, e.fp ρ k → k ≠ b ∧ ¬ blockOf q k) :
    Rel ⟨fpW b q, w⟩ ρ (.row vq 5 [.int .u8] r :: .cells vb 125 [.val (.var vp), .val (.var vq)] :: rds) w := by
  refine ⟨Mod.refl _ _, List.forall_mem_cons.2 ⟨?_, List.forall_mem_cons.2 ⟨?_, fun e he => (hd e he).1⟩⟩, List.forall_mem_cons.2 ⟨fun _ k hk => .inr ?_, List.forall_mem_cons.2 ⟨fun _ k hk => .inr ?_, fun e he hw => ?_⟩⟩, List.pairwise_cons.2 ⟨?_, List.pairwise_cons.2 ⟨?_, ?_⟩⟩⟩
  · simp only [Ent.holds]; rw [hq, hr]; exact h.own
  · simp only [Ent.holds, List.map_cons, List.map_nil, Sc.ev, X.ev]; rw [hb, hq, hp]; exact h.cells
  · have hk : blockOf (ρ.getD vq (.i 0)).toV k := hk
    rw [hq] at hk
    have hk : q.ownBlock = some k := hk
    simp [fpW, hk]
  · have hk : k = (ρ.getD vb (.i 0)).toN := hk
    rw [hb] at hk
    simp [fpW, hk]
  · rw [(hd e he).2.1] at hw; cases hw
  · refine List.forall_mem_cons.2 ⟨fun _ k h1 h2 => ?_, fun e he _ k h1 h2 => ?_⟩
    · have h1 : blockOf (ρ.getD vq (.i 0)).toV k := h1
      have h2 : k = (ρ.getD vb (.i 0)).toN := h2
      rw [hq] at h1; rw [hb] at h2
      exact h.ne h1 h2
    · have h1 : blockOf (ρ.getD vq (.i 0)).toV k := h1
      rw [hq] at h1
      exact ((hd e he).2.2 k h2).2 h1
  · intro e he _ k h1 h2
    have h1 : k = (ρ.getD vb (.i 0)).toN := h1
    rw [hb] at h1
    exact ((hd e he).2.2 k h2).1 h1
  · exact apart_ro2 fun e he => (hd e he).2.1
/-- What holds at the end of a writer's call. -/
theorem wrote_of {w w' : World} {b : Nat} {q : Value} {l : List UInt8} {ρ : List V} {hp : List Ent} (hr : Rel ⟨fpW b q, w⟩ ρ hp w') {p' q' : Value} (h : wrS w' b p' q' l) {vq ty : Nat} {ks : List Kd} {r : X} (hm : Ent.row vq ty ks r ∈ hp)
    (hq : (ρ.getD vq (.i 0)).toV = q') : wrote w w' b q l := by
  refine ⟨p', q', h, hr.mod, fun k hk => ?_⟩
  rcases hr.own _ hm rfl k (by show blockOf (ρ.getD vq (.i 0)).toV k; rw [hq]; exact hk) with h1 | h1
  · exact .inl h1
  · rcases List.mem_cons.1 h1 with h2 | h2
    · exact absurd h2 (h.ne hk)
    · exact .inr h2
theorem c_ptext (w : World) (b : Nat) (p q : Value) (l t : List UInt8) (h : wrS w b p q l) (hl : l.length + t.length ≤ 100000000000000) :
    Calls Tryd.prog 132 #[.pointer (some ⟨b, 0, none⟩), .string ⟨t.toArray⟩] w fun e w' => e = .returned (.tuple #[]) ∧ wrote w w' b q (l ++ txtB t) := by
  refine as_called (run_tree2 (ρ := [.n b, .v p, .v q, .r (byW l), .s t]) sxE_ok Tryd.func132 tree_packet_writer_text rfl rfl (rel_w h rfl rfl rfl rfl (by simp)) rfl rfl ?_) rfl
  simp only [Tree.goal, X.P, X.ev, V.toI_i, V.toB_b, V.toS_s, V.toR_r, V.toV_v, V.toN_n, V.toL_l, SV.ev, CV.ev, Sc.ev, List.getD_cons_zero, List.getD_cons_succ, List.getElem?_cons_zero, List.getElem?_cons_succ, List.map_cons, List.map_nil, List.length_cons, List.length_nil, List.cons_append, List.nil_append, Nat.zero_add, Nat.reduceAdd]
  refine ⟨[.s (txtB t)], rfl, fun _ w' _ => c_TextBytes w' t (by omega), ?_⟩
  simp only [Tree.goal, X.P, X.ev, V.toI_i, V.toB_b, V.toS_s, V.toR_r, V.toV_v, V.toN_n, V.toL_l, SV.ev, CV.ev, Sc.ev, List.getD_cons_zero, List.getD_cons_succ, List.getElem?_cons_zero, List.getElem?_cons_succ, List.map_cons, List.map_nil, List.length_cons, List.length_nil, List.cons_append, List.nil_append, Nat.zero_add, Nat.reduceAdd]
  intro w1 hr
  refine (c_pws w1 b p q l (txtB t) ⟨hr.at_ 1 rfl, h.ok, hr.at_ 0 rfl⟩ (by rw [txtB_len]; omega)).mono ?_
  rintro e w2 ⟨rfl, p1, q1, s1, m1, f1⟩
  refine ⟨[.i _, .v .nilIface, .a Asrt.tt, .v p1, .v q1, .r (byW _)], rfl, rfl, m1, List.forall_mem_cons.2 ⟨s1.cells, List.forall_mem_nil _⟩, List.forall_mem_cons.2 ⟨⟨by simp only [Ent.holds, Tree.goal, X.P, X.ev, V.toI_i, V.toB_b, V.toS_s, V.toR_r, V.toV_v, V.toN_n, V.toL_l, SV.ev, CV.ev, Sc.ev, List.getD_cons_zero, List.getD_cons_succ, List.getElem?_cons_zero, List.getElem?_cons_succ, List.map_cons, List.map_nil, List.length_cons, List.length_nil, List.cons_append, List.nil_append, Nat.zero_add, Nat.reduceAdd]; trivial, fun z hz => by simp only [Ent.fp, Tree.goal, X.P, X.ev, V.toI_i, V.toB_b, V.toS_s, V.toR_r, V.toV_v, V.toN_n, V.toL_l, SV.ev, CV.ev, Sc.ev, List.getD_cons_zero, List.getD_cons_succ, List.getElem?_cons_zero, List.getElem?_cons_succ, List.map_cons, List.map_nil, List.length_cons, List.length_nil, List.cons_append, List.nil_append, Nat.zero_add, Nat.reduceAdd] at hz; exact hz.elim⟩, List.forall_mem_cons.2 ⟨⟨s1.own, fun z hz => (f1 z hz).imp id .inr⟩, List.forall_mem_nil _⟩⟩, apart_st rfl apart_one, ?_⟩; (try simp only [Tree.goal, X.P, X.ev, V.toI_i, V.toB_b, V.toS_s, V.toR_r, V.toV_v, V.toN_n, V.toL_l, SV.ev, CV.ev, Sc.ev, List.getD_cons_zero, List.getD_cons_succ, List.getElem?_cons_zero, List.getElem?_cons_succ, List.map_cons, List.map_nil, List.length_cons, List.length_nil, List.cons_append, List.nil_append, Nat.zero_add, Nat.reduceAdd])
  exact fun w' hr => ⟨by trivial, wrote_of hr ⟨hr.at_ 2 rfl, s1.ok, hr.at_ 1 rfl⟩ (List.mem_cons_of_mem _ (List.mem_cons_self ..)) rfl⟩
theorem flat_take (k : Nat) (ns : List Int) (i : Nat) (h : i < ns.length) : ((ns.take (i + 1)).map (numB k)).flatten = ((ns.take i).map (numB k)).flatten ++ numB k (ns.getD i 0) := by
  rw [List.take_add_one, List.getD_eq_getElem?_getD, List.getElem?_eq_getElem h]
  simp only [Option.toList_some, Option.getD_some, List.map_append, List.map_cons, List.map_nil, List.flatten_append, List.flatten_cons, List.flatten_nil, List.append_nil]
theorem flat_lenN (k : Nat) (ns : List Int) : ((ns.map (numB k)).flatten).length = ns.length * k := by
  induction ns with
  | nil => simp
  | cons n ns ih => simp [ih, numB_len, Nat.succ_mul]; omega
theorem c_pput (w : World) (b : Nat) (p q : Value) (l : List UInt8) (k : Nat) (lv : Value) (ns : List Int) (h : wrS w b p q l) (hk : k ≤ 2) (hv : readsI w lv ns) (ha : ∀ k, (ns.map encI).flatten ≠ [] ∧ blockOf lv k → k ≠ b ∧ ¬ blockOf q k)
    (hn : ∀ n ∈ ns, 0 ≤ n ∧ n ≤ 65535) (hl : l.length ≤ 10000000000000) (hl2 : ns.length ≤ 1000000000) :
    Calls Tryd.prog 133 #[.pointer (some ⟨b, 0, none⟩), .int .i64 k, sc1 lv] w fun e w' => e = .returned (.tuple #[]) ∧ wrote w w' b q (l ++ (ns.map (numB k)).flatten) := by
  refine as_called (run_tree2 (ρ := [.n b, .v p, .v q, .r (byW l), .i k, .v lv, .r (ns.map encI)]) sxE_ok Tryd.func133 tree_packet_writer_put rfl rfl
    (rel_w h rfl rfl rfl rfl (List.forall_mem_cons.2 ⟨⟨hv, rfl, ha⟩, List.forall_mem_nil _⟩)) rfl rfl ?_) rfl
  simp only [Tree.goal, X.P, X.ev, V.toI_i, V.toB_b, V.toS_s, V.toR_r, V.toV_v, V.toN_n, V.toL_l, SV.ev, CV.ev, Sc.ev, List.getD_cons_zero, List.getD_cons_succ, List.getElem?_cons_zero, List.getElem?_cons_succ, List.map_cons, List.map_nil, List.length_cons, List.length_nil, List.cons_append, List.nil_append, Nat.zero_add, Nat.reduceAdd]
  refine ⟨fun vs => ∃ (i : Nat) (p' q' : Value), vs = [.i i, .v p', .v q', .r (byW (l ++ ((ns.take i).map (numB k)).flatten))] ∧ i ≤ ns.length ∧ okp p' b, fun vs => ns.length - (vs.getD 0 (.i 0)).toI.toNat, ⟨0, p, q, by simp, by omega, h.ok⟩, ?_⟩
  rintro _ - ⟨i, p', q', rfl, hi, hp'⟩
  simp only [Tree.goal, X.P, X.ev, V.toI_i, V.toB_b, V.toS_s, V.toR_r, V.toV_v, V.toN_n, V.toL_l, SV.ev, CV.ev, Sc.ev, List.getD_cons_zero, List.getD_cons_succ, List.getElem?_cons_zero, List.getElem?_cons_succ, List.map_cons, List.map_nil, List.length_cons, List.length_nil, List.cons_append, List.nil_append, Nat.zero_add, Nat.reduceAdd, List.length_map, Int.toNat_natCast, gI0]
  refine ⟨fun h1 => ⟨by omega, ?_⟩, fun h1 w' hr => ?_⟩
  · have hni : 0 ≤ ns.getD i 0 ∧ ns.getD i 0 ≤ 65535 := by
      rw [List.getD_eq_getElem?_getD, List.getElem?_eq_getElem (by omega)]; exact hn _ (List.getElem_mem _)
    refine ⟨[.s (numB k (ns.getD i 0))], rfl, fun _ w' _ => c_Bytes w' _ k (by omega) hni.1 (by omega), ?_⟩
    simp only [Tree.goal, X.P, X.ev, V.toI_i, V.toB_b, V.toS_s, V.toR_r, V.toV_v, V.toN_n, V.toL_l, SV.ev, CV.ev, Sc.ev, List.getD_cons_zero, List.getD_cons_succ, List.getElem?_cons_zero, List.getElem?_cons_succ, List.map_cons, List.map_nil, List.length_cons, List.length_nil, List.cons_append, List.nil_append, Nat.zero_add, Nat.reduceAdd]
    intro w1 hr
    have hlen : (l ++ ((ns.take i).map (numB k)).flatten).length ≤ 10000000000000 + 1000000000 * 2 := by
      rw [List.length_append, flat_lenN]
      have h1 : (ns.take i).length ≤ 1000000000 := by simp; omega
      have := Nat.mul_le_mul h1 hk
      omega
    refine (c_pws w1 b p' q' _ (numB k (ns.getD i 0)) ⟨hr.at_ 1 rfl, hp', hr.at_ 0 rfl⟩ (by rw [numB_len]; omega)).mono ?_
    rintro e w2 ⟨rfl, p1, q1, s1, m1, f1⟩
    refine ⟨[.i _, .v .nilIface, .a Asrt.tt, .v p1, .v q1, .r (byW _)], rfl, rfl, m1, List.forall_mem_cons.2 ⟨s1.cells, List.forall_mem_nil _⟩, List.forall_mem_cons.2 ⟨⟨by simp only [Ent.holds, Tree.goal, X.P, X.ev, V.toI_i, V.toB_b, V.toS_s, V.toR_r, V.toV_v, V.toN_n, V.toL_l, SV.ev, CV.ev, Sc.ev, List.getD_cons_zero, List.getD_cons_succ, List.getElem?_cons_zero, List.getElem?_cons_succ, List.map_cons, List.map_nil, List.length_cons, List.length_nil, List.cons_append, List.nil_append, Nat.zero_add, Nat.reduceAdd]; trivial, fun z hz => by simp only [Ent.fp, Tree.goal, X.P, X.ev, V.toI_i, V.toB_b, V.toS_s, V.toR_r, V.toV_v, V.toN_n, V.toL_l, SV.ev, CV.ev, Sc.ev, List.getD_cons_zero, List.getD_cons_succ, List.getElem?_cons_zero, List.getElem?_cons_succ, List.map_cons, List.map_nil, List.length_cons, List.length_nil, List.cons_append, List.nil_append, Nat.zero_add, Nat.reduceAdd] at hz; exact hz.elim⟩, List.forall_mem_cons.2 ⟨⟨s1.own, fun z hz => (f1 z hz).imp id .inr⟩, List.forall_mem_nil _⟩⟩, apart_st rfl apart_one, ?_⟩; (try simp only [Tree.goal, X.P, X.ev, V.toI_i, V.toB_b, V.toS_s, V.toR_r, V.toV_v, V.toN_n, V.toL_l, SV.ev, CV.ev, Sc.ev, List.getD_cons_zero, List.getD_cons_succ, List.getElem?_cons_zero, List.getElem?_cons_succ, List.map_cons, List.map_nil, List.length_cons, List.length_nil, List.cons_append, List.nil_append, Nat.zero_add, Nat.reduceAdd])
    refine ⟨by omega, by omega, ⟨i + 1, p1, q1, ?_, by omega, s1.ok⟩, by omega⟩
    rw [flat_take k ns i (by omega), List.append_assoc]; rfl
  · have : i = ns.length := by omega
    subst this
    rw [List.take_length] at hr
    exact ⟨by trivial, wrote_of hr ⟨hr.at_ 1 rfl, hp', hr.at_ 0 rfl⟩ (List.mem_cons_self ..) rfl⟩
end Go.Proofs.YtliedecinehijaaDoor
