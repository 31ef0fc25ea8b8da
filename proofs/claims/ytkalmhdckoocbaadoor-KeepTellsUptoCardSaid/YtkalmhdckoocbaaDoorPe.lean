/-
  What is kept: what the reference puts is what the code puts. By an AI agent.
-/
import Derived.Test.YtkalmhdckoocbaaDoorPd
set_option linter.unusedSimpArgs false
set_option linter.unusedVariables false
namespace Go.Proofs.YtkalmhdckoocbaaDoor
open Go.Sx

def loK (l : List Kp) (n : List UInt8) : List Kp := l.filter fun k => ltB k.1 n
def miK (l : List Kp) (n : List UInt8) : List Kp := l.filter fun k => decide (k.1 = n)
def hiK (l : List Kp) (n : List UInt8) : List Kp := l.filter fun k => ltB n k.1
theorem filt_none {p : Kp → Bool} {l : List Kp} (h : ∀ x ∈ l, p x = false) : l.filter p = [] := by
  rw [List.filter_eq_nil_iff]
  intro x hx; rw [h x hx]; decide
theorem filt_all {p : Kp → Bool} {l : List Kp} (h : ∀ x ∈ l, p x = true) : l.filter p = l := List.filter_eq_self.2 h
theorem three : ∀ (l : List Kp) (n : List UInt8), sortK l → l = loK l n ++ miK l n ++ hiK l n ∧ (miK l n).length ≤ 1
  | [], _, _ => by simp [loK, miK, hiK]
  | k :: r, n, h => by
    obtain ⟨h1, h2⟩ := List.pairwise_cons.1 h
    obtain ⟨e, hm⟩ := three r n h2
    cases hk : ltB k.1 n with
    | true =>
      have a1 : loK (k :: r) n = k :: loK r n := by simp [loK, hk]
      have a2 : miK (k :: r) n = miK r n := by simp [miK, ltB_ne hk]
      have a3 : hiK (k :: r) n = hiK r n := by simp [hiK, ltB_asym hk]
      rw [a1, a2, a3]
      exact ⟨by rw [List.cons_append, List.cons_append, ← e], hm⟩
    | false =>
      have hgt : ∀ x ∈ r, ltB n x.1 = true := fun x hx => by
        rcases ltB_not.1 hk with h3 | h3
        · exact ltB_trans h3 (h1 x hx)
        · rw [h3]; exact h1 x hx
      have b1 : loK r n = [] := filt_none fun x hx => ltB_asym (hgt x hx)
      have b2 : miK r n = [] := filt_none fun x hx => decide_eq_false (fun e => by have := hgt x hx; rw [e, ltB_irr] at this; cases this)
      have b3 : hiK r n = r := filt_all hgt
      have a1 : loK (k :: r) n = [] := by rw [loK, List.filter_cons, hk]; exact b1
      rcases ltB_not.1 hk with h3 | h3
      · have a2 : miK (k :: r) n = [] := by rw [miK, List.filter_cons, decide_eq_false (ltB_ne h3).symm]; exact b2
        have a3 : hiK (k :: r) n = k :: r := by rw [hiK, List.filter_cons, h3, if_pos rfl]; exact congrArg (List.cons k) b3
        rw [a1, a2, a3]; simp
      · have a2 : miK (k :: r) n = [k] := by rw [miK, List.filter_cons, decide_eq_true h3.symm, if_pos rfl]; exact congrArg (List.cons k) b2
        have a3 : hiK (k :: r) n = r := by
          have : ltB n k.1 = false := by rw [← h3]; exact ltB_irr _
          rw [hiK, List.filter_cons, this]; exact b3
        rw [a1, a2, a3]; simp
theorem idx_lo (l : List Kp) (n : List UInt8) : idx l n = (loK l n).length := rfl
theorem take_lo {l : List Kp} {n : List UInt8} (h : sortK l) : l.take (idx l n) = loK l n := by
  have e := (three l n h).1
  rw [idx_lo]
  calc l.take (loK l n).length = (loK l n ++ miK l n ++ hiK l n).take (loK l n).length := by rw [← e]
    _ = loK l n := by rw [List.append_assoc, List.take_left]
theorem drop_lo {l : List Kp} {n : List UInt8} (h : sortK l) : l.drop (idx l n) = miK l n ++ hiK l n := by
  have e := (three l n h).1
  rw [idx_lo]
  calc l.drop (loK l n).length = (loK l n ++ miK l n ++ hiK l n).drop (loK l n).length := by rw [← e]
    _ = miK l n ++ hiK l n := by rw [List.append_assoc, List.drop_left]
theorem at_lo {l : List Kp} {n : List UInt8} (h : sortK l) : l.getD (idx l n) kD = (miK l n ++ hiK l n).getD 0 kD := by
  rw [← drop_lo h]; simp [List.getD_eq_getElem?_getD]
theorem len_lo {l : List Kp} {n : List UInt8} (h : sortK l) : l.length = idx l n + (miK l n).length + (hiK l n).length := by
  have e := congrArg List.length (three l n h).1
  rw [List.length_append, List.length_append] at e
  exact e
/-- The topic is there. -/
theorem has_iff {l : List Kp} {n : List UInt8} (h : sortK l) : (hasK l n = true ∧ ∃ k, miK l n = [k] ∧ k.1 = n) ∨ (hasK l n = false ∧ miK l n = []) := by
  have hl := len_lo (n := n) h
  have ha := at_lo (n := n) h
  have hm := (three l n h).2
  match he : miK l n, hm with
  | [], _ =>
    rw [he] at hl ha
    refine .inr ⟨?_, rfl⟩
    rw [hasK, decide_eq_false]
    rintro ⟨h1, h2⟩
    rw [ha] at h2
    match hb : hiK l n with
    | [] => rw [hb] at hl; simp at hl; omega
    | x :: r =>
      rw [hb] at h2
      have : x ∈ hiK l n := by rw [hb]; exact List.mem_cons_self ..
      have h3 := (List.mem_filter.1 this).2
      have h2 : x.1 = n := h2
      rw [h2, ltB_irr] at h3; cases h3
  | [k], _ =>
    have : k ∈ miK l n := by rw [he]; exact List.mem_cons_self ..
    have hk : k.1 = n := by simpa using (List.mem_filter.1 this).2
    rw [he] at hl ha
    refine .inl ⟨?_, k, rfl, hk⟩
    rw [hasK, decide_eq_true]
    refine ⟨by rw [hl]; simp; omega, ?_⟩
    rw [ha]; exact hk

/-- As the reference reckons: the version .. -/
def verF (n : List UInt8) : Int → List Kp → Int
  | c, [] => c
  | c, k :: r => verF n (if k.1 = n then minV k.2.2 else c) r
theorem verF_eq (n : List UInt8) : ∀ (l : List Kp) (c : Int), verF n c l = (miK l n).foldl (fun _ k => minV k.2.2) c
  | [], _ => rfl
  | k :: r, c => by
    rw [verF, verF_eq n r]
    by_cases h : k.1 = n
    · simp [h, miK]
    · simp [h, miK]
/-- .. and what is there then. -/
def finF (x : Kp) : List Kp → Bool → List Kp → List Kp
  | out, put, [] => if put = true then out else out ++ [x]
  | out, put, k :: r =>
    let o1 := if ¬ put = true ∧ ltB x.1 k.1 = true then out ++ [x] else out
    let p1 := put || ltB x.1 k.1
    finF x (if k.1 = x.1 then o1 else o1 ++ [k]) p1 r
theorem finF_eq (x : Kp) : ∀ (l : List Kp) (out : List Kp) (put : Bool), sortK l → finF x out put l = out ++ loK l x.1 ++ (if put = true then [] else [x]) ++ hiK l x.1
  | [], out, put, _ => by
    cases put <;> simp [finF, loK, hiK]
  | k :: r, out, put, h => by
    obtain ⟨h1, h2⟩ := List.pairwise_cons.1 h
    rw [finF]
    cases hk : ltB k.1 x.1 with
    | true =>
      have g := ltB_asym hk
      have a1 : loK (k :: r) x.1 = k :: loK r x.1 := by simp [loK, hk]
      have a3 : hiK (k :: r) x.1 = hiK r x.1 := by simp [hiK, g]
      simp only [g, Bool.or_false, Bool.false_eq_true, and_false, if_false, if_neg (ltB_ne hk)]
      rw [finF_eq x r _ _ h2, a1, a3]; simp
    | false =>
      have hgt : ∀ y ∈ r, ltB x.1 y.1 = true := fun y hy => by
        rcases ltB_not.1 hk with h3 | h3
        · exact ltB_trans h3 (h1 y hy)
        · rw [h3]; exact h1 y hy
      have b1 : loK r x.1 = [] := filt_none fun y hy => ltB_asym (hgt y hy)
      have b3 : hiK r x.1 = r := filt_all hgt
      have a1 : loK (k :: r) x.1 = [] := by rw [loK, List.filter_cons, hk]; exact b1
      rcases ltB_not.1 hk with h3 | h3
      · have a3 : hiK (k :: r) x.1 = k :: r := by rw [hiK, List.filter_cons, h3, if_pos rfl]; exact congrArg (List.cons k) b3
        simp only [h3, Bool.or_true, if_neg (ltB_ne h3).symm]
        rw [finF_eq x r _ _ h2, a1, a3, b1, b3]
        cases put <;> simp
      · have g : ltB x.1 k.1 = false := by rw [← h3]; exact ltB_irr _
        have a3 : hiK (k :: r) x.1 = r := by rw [hiK, List.filter_cons, g]; exact b3
        simp only [g, Bool.or_false, Bool.false_eq_true, and_false, if_false, if_pos h3.symm]
        rw [finF_eq x r _ _ h2, a1, a3, b1, b3]
/-- What the reference puts. -/
def putO (l : List Kp) (n p : List UInt8) : List Kp × Int :=
  if 200 < (p.length : Int) then ([], 2) else
    if 16 < ((finF (n, p, verF n 1 l) [] (decide (p = [])) l).length : Int) then ([], 2) else (finF (n, p, verF n 1 l) [] (decide (p = [])) l, 0)
theorem put_raw {l : List Kp} {n p : List UInt8} (h : chkK l = 0) : putO l n p = rawK l n p := by
  obtain ⟨k1, k2, k3⟩ := chkK_iff.1 h
  have hl := len_lo (n := n) k3
  unfold putO rawK
  split
  · rfl
  rw [finF_eq _ l [] _ k3, verF_eq]
  simp only [List.nil_append]
  have ha := at_lo (n := n) k3
  have hd := drop_lo (n := n) k3
  have hlo := idx_lo l n
  rcases has_iff (n := n) k3 with ⟨h1, k, h2, h3⟩ | ⟨h1, h2⟩
  · rw [h2] at hl ha hd
    have hd1 : l.drop (idx l n + 1) = hiK l n := by rw [← List.drop_drop, hd]; rfl
    have hlt : idx l n < l.length := by rw [hl]; simp; omega
    have ha' : l.getD (idx l n) kD = k := ha
    simp only [List.length_cons, List.length_nil] at hl
    by_cases hp : p = []
    · rw [if_pos (⟨h1, hp⟩ : hasK l n = true ∧ p = []), take_lo k3, hd1]
      simp only [hp, decide_true, if_true, List.append_nil, List.length_append]
      rw [if_neg (by omega)]
    · rw [if_neg (fun h => hp h.2 : ¬ (hasK l n = true ∧ p = [])), if_pos h1]
      simp only [decide_eq_false hp, Bool.false_eq_true, if_false, h2, List.foldl_cons, List.foldl_nil, List.length_append, List.length_cons, List.length_nil]
      rw [if_neg (by omega), ha', List.set_eq_take_append_cons_drop, if_pos hlt, take_lo k3, hd1, h3]
      simp
  · rw [h2] at hl hd
    rw [h1]
    simp only [Bool.false_eq_true, false_and, if_false, List.length_nil] at hl ⊢
    by_cases hp : p = []
    · rw [if_pos hp]
      simp only [hp, decide_true, if_true, List.append_nil, List.length_append]
      rw [if_neg (by omega)]
      have := (three l n k3).1
      rw [h2, List.append_nil] at this
      rw [← this]
    · rw [if_neg hp]
      simp only [decide_eq_false hp, Bool.false_eq_true, if_false, h2, List.foldl_nil, List.length_append, List.length_cons, List.length_nil]
      by_cases h4 : (l.length : Int) = 16
      · rw [if_pos h4, if_pos (by omega)]
      · rw [if_neg h4, if_neg (by omega), take_lo k3, hd]; simp
theorem finF_len (x : Kp) : ∀ (l : List Kp) (out : List Kp) (put : Bool), (finF x out put l).length ≤ out.length + 2 * l.length + 1
  | [], out, put => by
    rw [finF]
    split <;> simp
  | k :: r, out, put => by
    rw [finF]
    refine Nat.le_trans (finF_len x r _ _) ?_
    simp only [List.length_cons]
    split <;> split <;> simp <;> omega
set_option maxHeartbeats 2000000 in
theorem c_PutOf (w : World) (v : Value) (l : List Kp) (n p : List UInt8) (hv : readsK w v l) (hs : chkK l = 0) (hsm : smallK l) (hn : n.length < 4294967281) : Calls Tryd.prog 54 #[sc1 v, .string ⟨n.toArray⟩, .string ⟨p.toArray⟩] w
    fun e w' => gotK w w' e (rawK l n p).1 (rawK l n p).2 := by
  obtain ⟨k1, k2, k3⟩ := chkK_iff.1 hs
  have hver : ∀ i, i < l.length → 1 ≤ (l.getD i kD).2.2 ∧ (l.getD i kD).2.2 ≤ 16777215 := fun i hi => by
    have hm : l.getD i kD ∈ l := by rw [List.getD_eq_getElem?_getD, List.getElem?_eq_getElem hi]; exact List.getElem_mem hi
    exact (k2 _ hm).2.2.2
  rw [← put_raw hs]
  refine as_called (run_tree2 (ρ := [.v v, .r (l.map encK), .s n, .s p]) sxE_ok Tryd.func54 tree_dragomanref_PutOf rfl rfl (Rel.start2 (by simp [Ent.holds, Ent.wr, hv, X.ev])) rfl rfl ?_) rfl
  simp only [Tree.goal, X.P, X.ev, V.toI_i, V.toB_b, V.toS_s, V.toR_r, V.toV_v, V.toN_n, V.toL_l, SV.ev, CV.ev, Sc.ev, List.getD_cons_zero, List.getD_cons_succ, List.getElem?_cons_zero, List.getElem?_cons_succ, List.map_cons, List.map_nil, List.length_cons, List.length_nil, List.cons_append, List.nil_append, Nat.zero_add, Nat.reduceAdd, List.length_map, Int.toNat_natCast, gK0, gK1, gK2, List.nil_append]
  refine ⟨fun h w' hr => ?_, fun h b => ?_⟩
  · rw [putO, if_pos h]
    exact ⟨_, rfl, readsK_nil _, newK_nil _, hr.mod⟩
  rw [putO, if_neg h]
  refine ⟨fun vs => ∃ (i : Nat) (c : Int), vs = [.i i, .s n, .s p, .i c] ∧ i ≤ l.length ∧ verF n c (l.drop i) = verF n 1 l, fun vs => l.length - (vs.getD 0 (.i 0)).toI.toNat, ⟨0, 1, rfl, by omega, rfl⟩, ?_⟩
  rintro _ - ⟨i, c, rfl, hi, hc⟩
  simp only [Tree.goal, X.P, X.ev, V.toI_i, V.toB_b, V.toS_s, V.toR_r, V.toV_v, V.toN_n, V.toL_l, SV.ev, CV.ev, Sc.ev, List.getD_cons_zero, List.getD_cons_succ, List.getElem?_cons_zero, List.getElem?_cons_succ, List.map_cons, List.map_nil, List.length_cons, List.length_nil, List.cons_append, List.nil_append, Nat.zero_add, Nat.reduceAdd, List.length_map, Int.toNat_natCast, gK0, gK1, gK2, List.nil_append]
  refine ⟨fun h1 => ⟨by omega, ?_⟩, fun h1 => ?_⟩
  · have hv1 := hver i (by omega)
    rw [dropK l i (by omega), verF] at hc
    refine ⟨fun h2 => ⟨by omega, by omega, fun h3 => ⟨by omega, by omega, ⟨i + 1, 16777215, rfl, by omega, ?_⟩, by omega⟩, fun h3 => ⟨by omega, by omega, ⟨i + 1, _, rfl, by omega, ?_⟩, by omega⟩⟩, fun h2 => ⟨by omega, by omega, ⟨i + 1, c, rfl, by omega, ?_⟩, by omega⟩⟩
    · rw [if_pos h2, minV, if_pos h3] at hc; exact hc
    · rw [if_pos h2, minV, if_neg h3] at hc; exact hc
    · rw [if_neg h2] at hc; exact hc
  · have : i = l.length := by omega
    subst this
    rw [List.drop_length, verF] at hc
    subst hc
    obtain ⟨x, hx⟩ : ∃ x : Kp, x = (n, p, verF n 1 l) := ⟨_, rfl⟩
    rw [← hx]
    have hx1 : x.1 = n := by rw [hx]
    have ex : [Value.string ⟨n.toArray⟩, .string ⟨p.toArray⟩, .int .i64 (verF n 1 l)] = encK x := by rw [hx]; rfl
    rw [ex]
    refine ⟨fun vs => ∃ (i : Nat) (u : Value) (out : List Kp) (put : Bool), vs = [.v u, .r (out.map encK), .b put, .i i] ∧ i ≤ l.length ∧ out.length ≤ 2 * i ∧ finF x out put (l.drop i) = finF x [] (decide (p = [])) l, fun vs => l.length - (vs.getD 3 (.i 0)).toI.toNat, ⟨0, _, [], _, rfl, by omega, by simp, rfl⟩, ?_⟩
    rintro _ - ⟨i, u, out, put, rfl, hi, hol, hf⟩
    simp only [Tree.goal, X.P, X.ev, V.toI_i, V.toB_b, V.toS_s, V.toR_r, V.toV_v, V.toN_n, V.toL_l, SV.ev, CV.ev, Sc.ev, List.getD_cons_zero, List.getD_cons_succ, List.getElem?_cons_zero, List.getElem?_cons_succ, List.map_cons, List.map_nil, List.length_cons, List.length_nil, List.cons_append, List.nil_append, Nat.zero_add, Nat.reduceAdd, List.length_map, Int.toNat_natCast, gK0, gK1, gK2, List.nil_append, List.length_append, List.length_cons, List.length_nil]
    refine ⟨fun h2 => ?_, fun h2 => ?_⟩
    · rw [dropK l i (by omega), finF, hx1] at hf
      refine ⟨.inr (by omega), ?_⟩
      refine ⟨[.b (ltB n (l.getD i kD).1)], rfl, fun _ w' _ => c_textLess w' n _ (Nat.lt_trans hn (by decide)), ?_⟩
      simp only [Tree.goal, X.P, X.ev, V.toI_i, V.toB_b, V.toS_s, V.toR_r, V.toV_v, V.toN_n, V.toL_l, SV.ev, CV.ev, Sc.ev, List.getD_cons_zero, List.getD_cons_succ, List.getElem?_cons_zero, List.getElem?_cons_succ, List.map_cons, List.map_nil, List.length_cons, List.length_nil, List.cons_append, List.nil_append, Nat.zero_add, Nat.reduceAdd, List.length_map, Int.toNat_natCast, gK0, gK1, gK2, List.nil_append, List.length_append, List.length_cons, List.length_nil]
      refine ⟨fun h3 v1 => ⟨by omega, fun v2 => ⟨by omega, fun h4 v3 => ⟨by omega, fun v4 => ⟨by omega, by omega, ⟨i + 1, v4, out ++ [x] ++ [l.getD i kD], true, ?_, by omega, ?_, ?_⟩, by omega⟩⟩, fun h4 => ⟨by omega, by omega, ⟨i + 1, v2, out ++ [x], true, ?_, by omega, ?_, ?_⟩, by omega⟩⟩⟩, fun h3 => ⟨by omega, fun h4 v1 => ⟨by omega, fun v2 => ⟨by omega, by omega, ⟨i + 1, v2, out ++ [l.getD i kD], put, ?_, by omega, ?_, ?_⟩, by omega⟩⟩, fun h4 => ⟨by omega, by omega, ⟨i + 1, u, out, put, rfl, by omega, by omega, ?_⟩, by omega⟩⟩⟩
      · simp [encK]
      · simp; omega
      · rw [if_pos h3, if_neg h4, h3.2, Bool.or_true] at hf; exact hf
      · simp [encK]
      · simp; omega
      · rw [if_pos h3, if_pos (Classical.not_not.1 h4), h3.2, Bool.or_true] at hf; exact hf
      · simp [encK]
      · simp; omega
      · have hp : (put || ltB n (l.getD i kD).1) = put := by
          cases put
          · cases hlt : ltB n (l.getD i kD).1
            · rfl
            · exact absurd ⟨by decide, hlt⟩ h3
          · rfl
        simp only [if_neg h3, if_neg h4, hp] at hf; exact hf
      · have hp : (put || ltB n (l.getD i kD).1) = put := by
          cases put
          · cases hlt : ltB n (l.getD i kD).1
            · rfl
            · exact absurd ⟨by decide, hlt⟩ h3
          · rfl
        simp only [if_neg h3, if_pos (Classical.not_not.1 h4), hp] at hf; exact hf
    · have : i = l.length := by omega
      subst this
      rw [List.drop_length, finF] at hf
      refine ⟨fun h3 v1 => ⟨by omega, fun v2 => ⟨fun h4 w' hr => ?_, fun h4 w' hr => ?_⟩⟩, fun h3 => ⟨fun h4 w' hr => ?_, fun h4 w' hr => ?_⟩⟩
      · rw [if_neg h3] at hf
        rw [← hf, if_pos (by simpa using h4)]
        exact ⟨_, rfl, readsK_nil _, newK_nil _, hr.mod⟩
      · rw [if_neg h3] at hf
        rw [← hf, if_neg (by simpa using h4)]
        have h0 := (hr.at_ 0 rfl).reads
        refine ⟨v2, rfl, ?_, hr.fresh 0 rfl, hr.mod⟩
        simp only [Tree.goal, X.P, X.ev, V.toI_i, V.toB_b, V.toS_s, V.toR_r, V.toV_v, V.toN_n, V.toL_l, SV.ev, CV.ev, Sc.ev, List.getD_cons_zero, List.getD_cons_succ, List.getElem?_cons_zero, List.getElem?_cons_succ, List.map_cons, List.map_nil, List.length_cons, List.length_nil, List.cons_append, List.nil_append, Nat.zero_add, Nat.reduceAdd, ex] at h0
        rw [readsK, List.map_append]
        exact h0
      · rw [if_pos (Classical.not_not.1 h3)] at hf
        rw [← hf, if_pos h4]
        exact ⟨_, rfl, readsK_nil _, newK_nil _, hr.mod⟩
      · rw [if_pos (Classical.not_not.1 h3)] at hf
        rw [← hf, if_neg h4]
        exact ⟨u, rfl, (hr.at_ 1 rfl).reads, hr.fresh 1 rfl, hr.mod⟩
end Go.Proofs.YtkalmhdckoocbaaDoor
