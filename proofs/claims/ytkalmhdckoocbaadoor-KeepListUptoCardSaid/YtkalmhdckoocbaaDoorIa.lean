/-
  Rows that are copied: the laws of 'copy' and 'append' for elements of many cells. By an AI agent.
-/
import Derived.Test.YtkalmhdckoocbaaDoorSxP
import Derived.Lib.Overlaps
import Derived.Shelf.Spec.SlicesInsert
import Derived.Lib.AppendZerosOnto
set_option linter.unusedSimpArgs false
set_option linter.unusedVariables false
namespace Go.Sx
open Go

theorem run_copy_rows {P : Program} (w : World) (dT sT ty elem : TypeId) (sz : Nat) (g o dLen dCap : Nat) (a : Addr) (sLen sCap : Nat) (cur : Array Value) (t : TypeId) (cs : List Value) (q : Nat) (hq : min sLen dLen = q)
    (hu : P.underlying dT = some (.slice elem)) (hs : (P.info? elem).map (·.size) = some sz)
    (hg : w.heap[g]? = some (.cells cur t (0, 0))) (hn : cs.length = q * sz)
    (hsrc : ∀ j v, cs[j]? = some v → w.cell? (a.add j) = some v) (hfit : o + cs.length ≤ cur.size) (h1 : ∀ v ∈ cs, v.oneCell' = true) :
    (Builtin.copy_ #[dT, sT] ty #[.slice (some ⟨g, o, none⟩) dLen dCap, .slice (some a) sLen sCap]).run P w =
      .ok (goInt q) (w.setRow g (cur.toList.take o ++ cs ++ cur.toList.drop (o + cs.length)).toArray) := by
  have hq' : Nat.min sLen dLen = q := hq
  have hl := run_loadCells_list (P := P) w a cs hsrc
  have hst := run_storeCells_at P g o t cs 0 cur w hg (by simpa using hfit) h1
  cases hr : P.info? elem with
  | none => simp [hr] at hs
  | some i =>
    have hi : i.size = sz := by simpa [hr] using hs
    simp [Builtin.copy_, run_underlying hu, Builtin.lenOf, Builtin.firstCells, sizeOf, typeInfo, hr, hi, hq', ← hn, hl, hst]
/-- Two copies into one row, the second one ahead of the first. -/
theorem splice2 {α : Type} (cur cs vs : List α) (a b d : Nat) (h1 : a + vs.length = b) (h2 : b + cs.length = d) (h3 : d ≤ cur.length) :
    (cur.take b ++ cs ++ cur.drop (b + cs.length)).take a ++ vs ++ (cur.take b ++ cs ++ cur.drop (b + cs.length)).drop (a + vs.length) = cur.take a ++ vs ++ cs ++ cur.drop d := by
  subst h1 h2
  have e1 : (cur.take (a + vs.length) ++ cs ++ cur.drop (a + vs.length + cs.length)).take a = cur.take a := by
    rw [List.append_assoc, List.take_append_of_le_length (by simp; omega), List.take_take, Nat.min_eq_left (by omega)]
  have e2 : (cur.take (a + vs.length) ++ cs ++ cur.drop (a + vs.length + cs.length)).drop (a + vs.length) = cs ++ cur.drop (a + vs.length + cs.length) := by
    have hl : (cur.take (a + vs.length)).length = a + vs.length := by simp; omega
    rw [List.append_assoc, List.drop_append_of_le_length (by omega), List.drop_eq_nil_of_le (by omega), List.nil_append]
  rw [e1, e2]
  simp
theorem splice3 {α : Type} (hd vs cs rest : List α) (a : Nat) (h : hd.length + vs.length = a) :
    (hd ++ vs ++ rest).take a ++ cs ++ (hd ++ vs ++ rest).drop (a + cs.length) = hd ++ vs ++ cs ++ (hd ++ vs ++ rest).drop (a + cs.length) := by
  subst h
  rw [List.take_append_of_le_length (by simp), List.take_of_length_le (by simp)]
theorem zeroCells_size (z : Array Value) (n : Nat) : (Builtin.zeroCells z n).size = n * z.size := by
  simp [Builtin.zeroCells, Nat.mul_comm]
theorem flatten_takeI {n : Nat} : ∀ {R : List (List Value)} (i : Nat), (∀ r ∈ R, r.length = n) → R.flatten.take (i * n) = (R.take i).flatten
  | [], i, _ => by simp
  | r :: R, 0, _ => by simp
  | r :: R, i + 1, h => by
    have h1 := h r (by simp)
    have ih := flatten_takeI (R := R) i (fun x hx => h x (by simp [hx]))
    rw [List.flatten_cons, List.take_succ_cons, List.flatten_cons, ← ih, List.take_append, List.take_of_length_le (by rw [h1, Nat.succ_mul]; omega)]
    congr 2
    rw [h1, Nat.succ_mul]; omega
theorem flatten_dropI {n : Nat} : ∀ {R : List (List Value)} (i : Nat), (∀ r ∈ R, r.length = n) → R.flatten.drop (i * n) = (R.drop i).flatten
  | [], i, _ => by simp
  | r :: R, 0, _ => by simp
  | r :: R, i + 1, h => by
    have h1 := h r (by simp)
    have ih := flatten_dropI (R := R) i (fun x hx => h x (by simp [hx]))
    rw [List.flatten_cons, List.drop_succ_cons, ← ih, List.drop_append, List.drop_eq_nil_of_le (by rw [h1, Nat.succ_mul]; omega), List.nil_append]
    congr 1
    rw [h1, Nat.succ_mul]; omega
theorem rows_one {ks : List Kd} {R : List (List Value)} (h : ∀ r ∈ R, rowOk ks r) : ∀ x ∈ R.flatten, x.oneCell' = true := by
  intro x hx
  obtain ⟨row, hr, hx⟩ := List.mem_flatten.1 hx
  exact (h row hr).one x hx
theorem grown_refl (w : World) (r : Option Nat) : w.grownBy w r := ⟨rfl, rfl, rfl, Nat.le_refl _, fun _ _ _ => rfl⟩
/-- What a call that changes an owned row givesR back. -/
def givesR (w w' : World) (s v' : Value) (ty : Nat) (ks : List Kd) (R : List (List Value)) : Prop :=
  owns w' v' ty ks R ∧ (∀ k, blockOf v' k → blockOf s k ∨ w.heap.size ≤ k) ∧ w.grownBy w' s.ownBlock
theorem zeroCells_one {z : Array Value} {n : Nat} (hz : 0 < z.size) (h : ∀ v ∈ z.toList, v.oneCell' = true) : ∀ v ∈ (Builtin.zeroCells z n).toList, v.oneCell' = true := by
  intro v hv
  simp only [Builtin.zeroCells, Array.toList_map, List.mem_map] at hv
  obtain ⟨i, -, rfl⟩ := hv
  have hlt : i % z.size < z.size := Nat.mod_lt _ hz
  rw [getElem!_pos z _ hlt]
  exact h _ (Array.getElem_mem_toList hlt)
/-- An append as one step of a region that draws. -/
theorem step_append_runI {P : Program} {ops : Array Oper} {o : Oper} {a : Act} {w : World} {K : Act → World → Prop} {Q : Exit → Act → World → Prop} {E : Prop}
    (hg : o.guard = none) (d x : Operand) (dT sT : TypeId) (hop : o.op = Op.call { callee := Callee.builtin Builtin.append, args := #[d, x], argTypes := #[dT, sT] })
    (v u : Value) (hd : a.eval d = v) (hx : a.eval x = u) {v' : Value} {w' : World} (hr : (Builtin.append_ #[dT, sT] o.type #[v, u]).run P w = .ok v' w') (hK : K (a.put o.dst v') w') :
    if Region.wanted o (yielded ops a.tmps) = true then Oper.wp P o a w K Q else E := by
  have hw : Region.wanted o (yielded ops a.tmps) = true := by simp [Region.wanted, hg]
  rw [if_pos hw]
  unfold Oper.wp
  simp [execOp, hop, resolve, invoke, builtin, hd, hx, hr, Result.andThen]
  exact hK
theorem wpList_clear_runI {P : Program} (w : World) {ops : Array Oper} {rest : List Oper} {o : Oper} {a : Act} {Q : Exit → Act → World → Prop} (hgd : o.guard = none) (d : Operand) (t : TypeId)
    (ho : o.op = .call { callee := .builtin .clear, args := #[d], argTypes := #[t] }) (v : Value) (hd : a.eval d = v) {v' : Value} {w' : World}
    (hr : (Builtin.clear_ #[t] o.type #[v]).run P w = .ok v' w') (h : wpList P ops Q rest (a.put o.dst v') w') : wpList P ops Q (o :: rest) a w :=
  wpList_plain hgd fun _ hK => by
    unfold Oper.wp execOp
    simp only [ho, resolve, invoke, builtin, Sem.run_bind, Sem.run_pure, Result.andThen_ok, List.map_toArray, List.map_cons, List.map_nil, hd, hr]
    exact hK _ _ h
end Go.Sx
