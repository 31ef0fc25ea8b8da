/-
  Messages: bytes are read. By an AI agent.
-/
import Derived.Test.YtpcdkcbniokdgaaMb
set_option linter.unusedSimpArgs false
set_option linter.unusedVariables false
namespace Go.Proofs.Ytpcdkcbniokdgaa
open Go.Sx

/-- The reader in block b. -/
def rdC (w : World) (b : Nat) (s : List UInt8) (sh : Bool) : Prop := w.heap[b]? = some (.cells #[.string ⟨s.toArray⟩, .bool sh] 83 (0, 0))
abbrev ptrB (b : Nat) : Value := .pointer (some ⟨b, 0, none⟩)
theorem rel_one {w : World} {ρ : List V} {e : Ent} {b : Nat} (h : e.holds ρ w) (hf : ∀ k, e.fp ρ k → k = b) : Rel ⟨[b], w⟩ ρ [e] w :=
  ⟨Mod.refl _ _, List.forall_mem_cons.2 ⟨h, List.forall_mem_nil _⟩, List.forall_mem_cons.2 ⟨fun _ k hk => .inr (by rw [hf k hk]; exact List.mem_singleton.2 rfl), List.forall_mem_nil _⟩, List.pairwise_singleton _ _⟩

def takeM (n : Int) (s : List UInt8) (sh : Bool) : List UInt8 × List UInt8 × Bool := if (s.length : Int) < n then ([], [], true) else (s.take n.toNat, s.drop n.toNat, sh)
theorem c_take (w : World) (b : Nat) (s : List UInt8) (sh : Bool) (n : Int) (h0 : 0 ≤ n) (hc : rdC w b s sh) : Calls Try.prog 55 #[ptrB b, .int .i64 n] w
    fun e w' => e = .returned (.string ⟨(takeM n s sh).1.toArray⟩) ∧ rdC w' b (takeM n s sh).2.1 (takeM n s sh).2.2 ∧ Mod [b] w w' := by
  refine as_called (run_tree2 (ρ := [.n b, .s s, .b sh, .i n]) sxE_ok Try.func55 tree_message_reader_take rfl rfl (rel_one (b := b) hc (fun k hk => hk)) rfl rfl ?_) rfl
  simp only [Tree.goal, X.P, X.ev, V.toI_i, V.toB_b, V.toS_s, V.toR_r, V.toV_v, V.toN_n, V.toL_l, SV.ev, CV.ev, Sc.ev, List.getD_cons_zero, List.getD_cons_succ, List.getElem?_cons_zero, List.getElem?_cons_succ, List.map_cons, List.map_nil, List.length_cons, List.length_nil, List.cons_append, List.nil_append, Nat.zero_add, Nat.reduceAdd]
  refine ⟨fun h w' hr => ?_, fun h => ⟨h0, by omega, fun w' hr => ?_⟩⟩
  · rw [takeM, if_pos h]
    exact ⟨rfl, hr.at_ 0 rfl, hr.mod⟩
  · rw [takeM, if_neg h]
    have := hr.at_ 0 rfl
    simp only [Ent.holds, Tree.goal, X.P, X.ev, V.toI_i, V.toB_b, V.toS_s, V.toR_r, V.toV_v, V.toN_n, V.toL_l, SV.ev, CV.ev, Sc.ev, List.getD_cons_zero, List.getD_cons_succ, List.getElem?_cons_zero, List.getElem?_cons_succ, List.map_cons, List.map_nil, List.length_cons, List.length_nil, List.cons_append, List.nil_append, Nat.zero_add, Nat.reduceAdd, Int.toNat_natCast, List.take_length] at this
    exact ⟨by simp, this, hr.mod⟩

def numM (k : Nat) (s : List UInt8) (sh : Bool) : Int × List UInt8 × Bool := if s.length < k then (0, [], true) else ((beN (s.take k) 0 : Nat), s.drop k, sh)
theorem numM_bd {k : Nat} (s : List UInt8) (sh : Bool) (h : k ≤ 2) : 0 ≤ (numM k s sh).1 ∧ (numM k s sh).1 < 65536 ∧ (k = 1 → (numM k s sh).1 < 256) := by
  unfold numM
  split
  · simp
  · have h1 := beN_lt (s.take k) 0
    have h2 : pw (s.take k).length ≤ pw 2 := pw_mono (by simp; omega)
    have h3 : pw 2 = 65536 := rfl
    refine ⟨by simp, by simp only; omega, fun h4 => ?_⟩
    subst h4
    have h2 : pw (s.take 1).length ≤ pw 1 := pw_mono (by simp; omega)
    have h3 : pw 1 = 256 := rfl
    simp only; omega
theorem c_number (w : World) (b : Nat) (s : List UInt8) (sh : Bool) (k : Nat) (hk : 1 ≤ k ∧ k ≤ 2) (hs : s.length < 1099511627776) (hc : rdC w b s sh) : Calls Try.prog 54 #[ptrB b, .int .i64 k] w
    fun e w' => e = .returned (.int .i64 (numM k s sh).1) ∧ rdC w' b (numM k s sh).2.1 (numM k s sh).2.2 ∧ Mod [b] w w' := by
  refine as_called (run_tree2 (ρ := [.n b, .s s, .b sh, .i k]) sxE_ok Try.func54 tree_message_reader_number rfl rfl (rel_one (b := b) hc (fun k hk => hk)) rfl rfl ?_) rfl
  simp only [Tree.goal, X.P, X.ev, V.toI_i, V.toB_b, V.toS_s, V.toR_r, V.toV_v, V.toN_n, V.toL_l, SV.ev, CV.ev, Sc.ev, List.getD_cons_zero, List.getD_cons_succ, List.getElem?_cons_zero, List.getElem?_cons_succ, List.map_cons, List.map_nil, List.length_cons, List.length_nil, List.cons_append, List.nil_append, Nat.zero_add, Nat.reduceAdd]
  intro w1 hr
  refine (c_take w1 b s sh k (by omega) (hr.at_ 0 rfl)).mono ?_
  rintro e w2 ⟨rfl, c1, c2⟩
  refine ⟨[.s (takeM k s sh).1, .s (takeM k s sh).2.1, .b (takeM k s sh).2.2], rfl, rfl, c2, List.forall_mem_cons.2 ⟨c1, List.forall_mem_nil _⟩, List.forall_mem_nil _, apart_nil, ?_⟩
  simp only [Tree.goal, X.P, X.ev, V.toI_i, V.toB_b, V.toS_s, V.toR_r, V.toV_v, V.toN_n, V.toL_l, SV.ev, CV.ev, Sc.ev, List.getD_cons_zero, List.getD_cons_succ, List.getElem?_cons_zero, List.getElem?_cons_succ, List.map_cons, List.map_nil, List.length_cons, List.length_nil, List.cons_append, List.nil_append, Nat.zero_add, Nat.reduceAdd]
  have hl : (takeM k s sh).1.length ≤ s.length := by
    unfold takeM; split
    · simp
    · simp; omega
  refine ⟨[.i (getR (takeM k s sh).1 0 k).1, .i (getR (takeM k s sh).1 0 k).2], rfl, fun _ w' _ => c_Get w' _ 0 k (by omega), ?_⟩
  simp only [Tree.goal, X.P, X.ev, V.toI_i, V.toB_b, V.toS_s, V.toR_r, V.toV_v, V.toN_n, V.toL_l, SV.ev, CV.ev, Sc.ev, List.getD_cons_zero, List.getD_cons_succ, List.getElem?_cons_zero, List.getElem?_cons_succ, List.map_cons, List.map_nil, List.length_cons, List.length_nil, List.cons_append, List.nil_append, Nat.zero_add, Nat.reduceAdd]
  intro w3 hr3
  have e1 : (getR (takeM k s sh).1 0 k).1 = (numM k s sh).1 ∧ (takeM k s sh).2 = (numM k s sh).2 := by
    unfold takeM numM
    by_cases h : s.length < k
    · rw [if_pos (by omega), if_pos h, getR_short (by omega) (by simp) (by simp; omega)]
      exact ⟨rfl, rfl⟩
    · rw [if_neg (by omega), if_neg h, getR_ok (by omega) (by simp) (by simp; omega)]
      simp only [Int.toNat_zero, List.drop_zero, Int.toNat_natCast, List.take_take, Nat.min_self, and_self]
  rw [e1.1, ← e1.2]
  exact ⟨rfl, hr3.at_ 0 rfl, hr3.mod⟩

def halfM (n : Int) (s : List UInt8) (sh : Bool) : Int × List UInt8 × Bool :=
  if n = 13 then (13 + (numM 1 s sh).1, (numM 1 s sh).2) else if n = 14 then (269 + (numM 2 s sh).1, (numM 2 s sh).2) else if n = 15 then (15, s, true) else (n, s, sh)
theorem halfM_bd {n : Int} (s : List UInt8) (sh : Bool) (h : 0 ≤ n ∧ n ≤ 15) : 0 ≤ (halfM n s sh).1 ∧ (halfM n s sh).1 < 65805 := by
  have h1 := numM_bd (k := 1) s sh (by omega)
  have h2 := numM_bd (k := 2) s sh (by omega)
  unfold halfM
  split
  · simp only; omega
  · split
    · simp only; omega
    · split <;> simp only <;> omega
theorem c_rhalf (w : World) (b : Nat) (s : List UInt8) (sh : Bool) (n : Int) (hn : 0 ≤ n ∧ n ≤ 15) (hs : s.length < 1099511627776) (hc : rdC w b s sh) : Calls Try.prog 64 #[ptrB b, .int .i64 n] w
    fun e w' => e = .returned (.int .i64 (halfM n s sh).1) ∧ rdC w' b (halfM n s sh).2.1 (halfM n s sh).2.2 ∧ Mod [b] w w' := by
  refine as_called (run_tree2 (ρ := [.n b, .s s, .b sh, .i n]) sxE_ok Try.func64 tree_message_reader_half rfl rfl (rel_one (b := b) hc (fun k hk => hk)) rfl rfl ?_) rfl
  simp only [Tree.goal, X.P, X.ev, V.toI_i, V.toB_b, V.toS_s, V.toR_r, V.toV_v, V.toN_n, V.toL_l, SV.ev, CV.ev, Sc.ev, List.getD_cons_zero, List.getD_cons_succ, List.getElem?_cons_zero, List.getElem?_cons_succ, List.map_cons, List.map_nil, List.length_cons, List.length_nil, List.cons_append, List.nil_append, Nat.zero_add, Nat.reduceAdd]
  refine ⟨fun h w1 hr => ?_, fun h => ⟨fun h2 w1 hr => ?_, fun h2 => ⟨fun h3 w' hr => ?_, fun h3 w' hr => ?_⟩⟩⟩
  · refine (c_number w1 b s sh 1 (by omega) hs (hr.at_ 0 rfl)).mono ?_
    rintro e w2 ⟨rfl, c1, c2⟩
    refine ⟨[.i (numM 1 s sh).1, .s (numM 1 s sh).2.1, .b (numM 1 s sh).2.2], rfl, rfl, c2, List.forall_mem_cons.2 ⟨c1, List.forall_mem_nil _⟩, List.forall_mem_nil _, apart_nil, ?_⟩
    simp only [Tree.goal, X.P, X.ev, V.toI_i, V.toB_b, V.toS_s, V.toR_r, V.toV_v, V.toN_n, V.toL_l, SV.ev, CV.ev, Sc.ev, List.getD_cons_zero, List.getD_cons_succ, List.getElem?_cons_zero, List.getElem?_cons_succ, List.map_cons, List.map_nil, List.length_cons, List.length_nil, List.cons_append, List.nil_append, Nat.zero_add, Nat.reduceAdd]
    have := numM_bd (k := 1) s sh (by omega)
    refine ⟨by omega, by omega, fun w3 hr3 => ?_⟩
    rw [halfM, if_pos h]
    exact ⟨rfl, hr3.at_ 0 rfl, hr3.mod⟩
  · refine (c_number w1 b s sh 2 (by omega) hs (hr.at_ 0 rfl)).mono ?_
    rintro e w2 ⟨rfl, c1, c2⟩
    refine ⟨[.i (numM 2 s sh).1, .s (numM 2 s sh).2.1, .b (numM 2 s sh).2.2], rfl, rfl, c2, List.forall_mem_cons.2 ⟨c1, List.forall_mem_nil _⟩, List.forall_mem_nil _, apart_nil, ?_⟩
    simp only [Tree.goal, X.P, X.ev, V.toI_i, V.toB_b, V.toS_s, V.toR_r, V.toV_v, V.toN_n, V.toL_l, SV.ev, CV.ev, Sc.ev, List.getD_cons_zero, List.getD_cons_succ, List.getElem?_cons_zero, List.getElem?_cons_succ, List.map_cons, List.map_nil, List.length_cons, List.length_nil, List.cons_append, List.nil_append, Nat.zero_add, Nat.reduceAdd]
    have := numM_bd (k := 2) s sh (by omega)
    refine ⟨by omega, by omega, fun w3 hr3 => ?_⟩
    rw [halfM, if_neg h, if_pos h2]
    exact ⟨rfl, hr3.at_ 0 rfl, hr3.mod⟩
  · rw [halfM, if_neg h, if_neg h2, if_pos h3]
    exact ⟨by rw [h3], hr.at_ 0 rfl, hr.mod⟩
  · rw [halfM, if_neg h, if_neg h2, if_neg h3]
    exact ⟨rfl, hr.at_ 0 rfl, hr.mod⟩

/-- The number that four bits and the bytes behind them tell, and what follows. -/
def halfQ (n : Int) (s : List UInt8) : Option (Int × List UInt8) :=
  if n < 13 then some (n, s) else if n = 15 then none
  else if n = 14 then (if s.length < 2 then none else some (269 + (beN (s.take 2) 0 : Nat), s.drop 2))
  else (if s.length < 1 then none else some (13 + (beN (s.take 1) 0 : Nat), s.drop 1))
theorem halfM_Q {n : Int} (hn : n ≤ 15) (s : List UInt8) : match halfQ n s with | some (v, l) => halfM n s false = (v, l, false) | none => (halfM n s false).2.2 = true := by
  unfold halfQ
  by_cases h1 : n < 13
  · rw [if_pos h1]; simp only [halfM]; rw [if_neg (by omega), if_neg (by omega), if_neg (by omega)]
  · rw [if_neg h1]
    by_cases h2 : n = 15
    · rw [if_pos h2]; simp only [halfM]; rw [if_neg (by omega), if_neg (by omega), if_pos h2]
    · rw [if_neg h2]
      by_cases h3 : n = 14
      · rw [if_pos h3]
        by_cases h4 : s.length < 2
        · rw [if_pos h4]; simp only [halfM]; rw [if_neg (by omega), if_pos h3, numM, if_pos h4]
        · rw [if_neg h4]; simp only [halfM]; rw [if_neg (by omega), if_pos h3, numM, if_neg h4]
      · rw [if_neg h3]
        by_cases h4 : s.length < 1
        · rw [if_pos h4]; simp only [halfM]; rw [if_pos (by omega), numM, if_pos h4]
        · rw [if_neg h4]; simp only [halfM]; rw [if_pos (by omega), numM, if_neg h4]
theorem numM_stick (k : Nat) (s : List UInt8) : (numM k s true).2.2 = true := by unfold numM; split <;> rfl
theorem takeM_stick (k : Int) (s : List UInt8) : (takeM k s true).2.2 = true := by unfold takeM; split <;> rfl
theorem halfM_stick (k : Int) (s : List UInt8) : (halfM k s true).2.2 = true := by
  unfold halfM
  split
  · exact numM_stick _ _
  · split
    · exact numM_stick _ _
    · split <;> rfl
theorem numM_len (k : Nat) (s : List UInt8) (sh : Bool) : (numM k s sh).2.1.length ≤ s.length := by unfold numM; split <;> simp
theorem takeM_len (k : Int) (s : List UInt8) (sh : Bool) : (takeM k s sh).2.1.length ≤ s.length ∧ (takeM k s sh).1.length ≤ s.length := by unfold takeM; split <;> simp; omega
theorem halfM_len (k : Int) (s : List UInt8) (sh : Bool) : (halfM k s sh).2.1.length ≤ s.length := by
  unfold halfM
  split
  · exact numM_len _ _ _
  · split
    · exact numM_len _ _ _
    · split <;> simp

/-- An option behind one of a number: its first byte is c. -/
def stepP (was : Int) (c : UInt8) (l : List UInt8) : Option (Opt × List UInt8) :=
  match halfQ ((c.toNat / 16 : Nat) : Int) l with
  | none => none
  | some p => match halfQ ((c.toNat % 16 : Nat) : Int) p.2 with
    | none => none
    | some q => if (q.2.length : Int) < q.1 then none else some ((was + p.1, q.2.take q.1.toNat), q.2.drop q.1.toNat)
/-- With options ahead. -/
def ahead (acc : List Opt) : Option (List Opt × List UInt8) → Option (List Opt × List UInt8)
  | none => none
  | some p => some (acc ++ p.1, p.2)
/-- Options behind one of a number, and what follows them. -/
def optsP : Nat → Int → List UInt8 → Option (List Opt × List UInt8)
  | 0, _, s => if s = [] then some ([], []) else none
  | f + 1, was, s => match s with
    | [] => some ([], [])
    | c :: l => if c = 255 then some ([], c :: l) else match stepP was c l with
      | none => none
      | some p => ahead [p.1] (optsP f p.1.1 p.2)
theorem optsP_nil (f : Nat) (was : Int) : optsP f was [] = some ([], []) := by cases f <;> rfl
theorem optsP_mark (f : Nat) (was : Int) (l : List UInt8) : optsP (f + 1) was (255 :: l) = some ([], 255 :: l) := rfl
theorem optsP_bad {f : Nat} {was : Int} {c : UInt8} {l : List UInt8} (hc : c ≠ 255) (h : stepP was c l = none) : optsP (f + 1) was (c :: l) = none := by
  show (if c = 255 then _ else match stepP was c l with | none => none | some p => ahead [p.1] (optsP f p.1.1 p.2)) = _
  rw [if_neg hc, h]
theorem optsP_step {f : Nat} {was : Int} {c : UInt8} {l : List UInt8} (hc : c ≠ 255) {o : Opt} {r : List UInt8} (h : stepP was c l = some (o, r)) : optsP (f + 1) was (c :: l) = ahead [o] (optsP f o.1 r) := by
  show (if c = 255 then _ else match stepP was c l with | none => none | some p => ahead [p.1] (optsP f p.1.1 p.2)) = _
  rw [if_neg hc, h]
theorem ahead_ahead (a b : List Opt) (x : Option (List Opt × List UInt8)) : ahead a (ahead b x) = ahead (a ++ b) x := by cases x <;> simp [ahead]
theorem ahead_nil (x : Option (List Opt × List UInt8)) : ahead [] x = x := by cases x <;> rfl
theorem shr4b (x : Nat) (h : x < 256) : ((x : Int)).fdiv (2 ^ (Nat.min (Int.toNat 4) IntKind.i64.bits)) = ((x / 16 : Nat) : Int) := by
  have : ∀ x : Fin 256, ((x.val : Int)).fdiv (2 ^ (Nat.min (Int.toNat 4) IntKind.i64.bits)) = ((x.val / 16 : Nat) : Int) := by decide +kernel
  exact this ⟨x, h⟩
theorem shr6b (x : Nat) (h : x < 256) : ((x : Int)).fdiv (2 ^ (Nat.min (Int.toNat 6) IntKind.i64.bits)) = ((x / 64 : Nat) : Int) := by
  have : ∀ x : Fin 256, ((x.val : Int)).fdiv (2 ^ (Nat.min (Int.toNat 6) IntKind.i64.bits)) = ((x.val / 64 : Nat) : Int) := by decide +kernel
  exact this ⟨x, h⟩
theorem and15b (x : Nat) (h : x < 256) : ibits .and .i64 (x : Int) 15 = ((x % 16 : Nat) : Int) := by
  have : ∀ x : Fin 256, ibits .and .i64 (x.val : Int) 15 = ((x.val % 16 : Nat) : Int) := by decide +kernel
  exact this ⟨x, h⟩
theorem and3b (x : Nat) (h : x < 256) : ibits .and .i64 ((x / 16 : Nat) : Int) 3 = ((x / 16 % 4 : Nat) : Int) := by
  have : ∀ x : Fin 256, ibits .and .i64 ((x.val / 16 : Nat) : Int) 3 = ((x.val / 16 % 4 : Nat) : Int) := by decide +kernel
  exact this ⟨x, h⟩
end Go.Proofs.Ytpcdkcbniokdgaa
