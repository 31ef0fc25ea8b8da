/-
  What a reading of a session tells. By an AI agent.
-/
import Derived.Test.YtkalmhdckoocbaaDoorGs
import Derived.Test.YtkalmhdckoocbaaDoorNa
set_option linter.unusedSimpArgs false
set_option linter.unusedVariables false
namespace Go.Proofs.YtkalmhdckoocbaaDoor
open Go Go.Sx Go.ChangeShapes Go.WideShapes Go.ChangeAt Go.RowKit
section
variable {H : Type} {enc : TypeId × Value → H} {w : World} {sp : Nat → Bool} {B : DataW H → Nat}
def isStruct (P : Program) (t : TypeId) : Bool := match P.underlying t with | some (.struct _) => true | _ => false
theorem open_struct' {P : Program} {r : Reach} {b0 base : Nat} {held : Bool} {t : TypeId} {v : Value} {d : DataW H} {ps : List MemPlace} (ht : isStruct P t = true) (hval : Value.okWide P w r b0 t v) (hd : DataW.Trod enc P w base sp held t v d ps) :
    ∃ (cs : List Value) (n : Nat), v = .agg cs.toArray ∧ DataW.trod enc P w base sp held n t cs = some (d, ps) := by
  unfold isStruct at ht
  split at ht
  · exact open_struct (by assumption) hval hd
  · cases ht
theorem lv_fl (hB : Bulk B) {cs : List Value} {b : Nat} (h : Lv enc Tryd.prog w sp B [(3, .int .i64), (9, .str), (9, .str)] cs b) : ∃ o : Fl, cs = encF o ∧ o.2.1.length + o.2.2.length + 1 ≤ b := by
  cases h with
  | cons c1 h e1 =>
  cases h with
  | cons c2 h e2 =>
  cases h with
  | cons c3 h e3 =>
  cases h
  obtain ⟨p, rfl⟩ := c1.1
  obtain ⟨t, rfl⟩ := c2.1
  obtain ⟨n, rfl⟩ := c3.1
  have q2 := CellRd.str hB Tryd.underlying9 c2
  have q3 := CellRd.str hB Tryd.underlying9 c3
  exact ⟨(p, t, n), rfl, by simp only; omega⟩
theorem rows_F (hB : Bulk B) : ∀ {rows : List (List Value)} {bs : List Nat}, bs.length = rows.length → (∀ (i : Nat) r b, rows[i]? = some r → bs[i]? = some b → Lv enc Tryd.prog w sp B [(3, .int .i64), (9, .str), (9, .str)] r b) →
    ∃ l : List Fl, rows = l.map encF ∧ ∀ x ∈ l, x.2.1.length ≤ bs.sum := by
  intro rows
  induction rows with
  | nil => exact fun _ _ => ⟨[], rfl, by simp⟩
  | cons r rows ih =>
    intro bs hl h
    match bs, hl with
    | b :: bs, hl =>
      obtain ⟨l, e, hb⟩ := ih (bs := bs) (by simpa using hl) (fun i r' b' h1 h2 => h (i + 1) r' b' (by simpa using h1) (by simpa using h2))
      obtain ⟨o, rfl, hob⟩ := lv_fl hB (h 0 r b rfl rfl)
      refine ⟨o :: l, by rw [e]; rfl, ?_⟩
      intro x hx
      rw [List.sum_cons]
      rcases List.mem_cons.1 hx with rfl | hx
      · omega
      · have := hb x hx; omega
theorem lv_ses (hB : Bulk B) (h1 : Tryd.prog.underlying 53 = some (.slice 73)) (h2 : leaves Tryd.prog 8 73 = some [(3, .int .i64), (9, .str), (9, .str)]) (h3 : Tryd.prog.cellsOf 73 = 3) {cs : List Value} {b : Nat}
    (h : Lv enc Tryd.prog w (fun _ => true) B [(9, .str), (4, .bool), (4, .bool), (53, .oth), (53, .oth), (3, .int .i64)] cs b) :
    ∃ (s : Ses) (u v : Value), Value.agg cs.toArray = sesV s u v ∧ readsF w u s.fl ∧ readsF w v s.qu ∧ s.cl.length + s.fl.length + s.qu.length ≤ b ∧ (∀ x ∈ s.fl, x.2.1.length ≤ b) ∧ (∀ x ∈ s.qu, x.2.1.length ≤ b) := by
  cases h with
  | cons c1 h e1 =>
  cases h with
  | cons c2 h e2 =>
  cases h with
  | cons c3 h e3 =>
  cases h with
  | cons c4 h e4 =>
  cases h with
  | cons c5 h e5 =>
  cases h with
  | cons c6 h e6 =>
  cases h
  obtain ⟨k, rfl⟩ := c1.1
  obtain ⟨c, rfl⟩ := c2.1
  obtain ⟨j, rfl⟩ := c3.1
  obtain ⟨p, rfl⟩ := c6.1
  have q1 := CellRd.str hB Tryd.underlying9 c1
  obtain ⟨-, n, d, ps, hx, hb⟩ := c4
  obtain ⟨rows, bs, rd, bl, lv, bk⟩ := slice_rd hB (f := 8) h1 h2 h3 (by decide) hx
  have rl := rows_le hB (by decide) bl lv
  obtain ⟨l, rfl, hs⟩ := rows_F hB bl lv
  obtain ⟨-, n', d', ps', hx', hb'⟩ := c5
  obtain ⟨rows', bs', rd', bl', lv', bk'⟩ := slice_rd hB (f := 8) h1 h2 h3 (by decide) hx'
  have rl' := rows_le hB (by decide) bl' lv'
  obtain ⟨l', rfl, hs'⟩ := rows_F hB bl' lv'
  rw [List.length_map] at rl rl'
  simp only at bk bk'
  exact ⟨⟨k, c, j, l, l', p⟩, _, _, by rw [sesV, rd.sc1, rd'.sc1], rd, rd', by simp only; omega, fun x hx => by have := hs x hx; omega, fun x hx => by have := hs' x hx; omega⟩
end
end Go.Proofs.YtkalmhdckoocbaaDoor
