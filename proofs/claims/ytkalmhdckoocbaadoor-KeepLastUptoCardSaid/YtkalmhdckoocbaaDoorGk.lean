/-
  What a reading of what is kept tells. By an AI agent.
-/
import Derived.Test.YtkalmhdckoocbaaDoorGs
import Derived.Test.YtkalmhdckoocbaaDoorPb
set_option linter.unusedSimpArgs false
set_option linter.unusedVariables false
namespace Go.Proofs.YtkalmhdckoocbaaDoor
open Go Go.Sx Go.ChangeShapes Go.WideShapes Go.ChangeAt Go.RowKit
section
variable {H : Type} {enc : TypeId × Value → H} {w : World} {sp : Nat → Bool} {B : DataW H → Nat}
theorem lv_kept (hB : Bulk B) {cs : List Value} {b : Nat} (h : Lv enc Tryd.prog w sp B [(9, .str), (9, .str), (3, .int .i64)] cs b) : ∃ o : Kp, cs = encK o ∧ o.1.length + o.2.1.length + 1 ≤ b := by
  cases h with
  | cons c1 h e1 =>
  cases h with
  | cons c2 h e2 =>
  cases h with
  | cons c3 h e3 =>
  cases h
  obtain ⟨p, rfl⟩ := c1.1
  obtain ⟨t, rfl⟩ := c2.1
  obtain ⟨n, rfl⟩ := c3.1
  have q1 := CellRd.str hB Tryd.underlying9 c1
  have q2 := CellRd.str hB Tryd.underlying9 c2
  exact ⟨(p, t, n), rfl, by simp only; omega⟩
theorem rows_K (hB : Bulk B) : ∀ {rows : List (List Value)} {bs : List Nat}, bs.length = rows.length → (∀ (i : Nat) r b, rows[i]? = some r → bs[i]? = some b → Lv enc Tryd.prog w sp B [(9, .str), (9, .str), (3, .int .i64)] r b) →
    ∃ l : List Kp, rows = l.map encK ∧ ∀ x ∈ l, x.1.length ≤ bs.sum := by
  intro rows
  induction rows with
  | nil => exact fun _ _ => ⟨[], rfl, by simp⟩
  | cons r rows ih =>
    intro bs hl h
    match bs, hl with
    | b :: bs, hl =>
      obtain ⟨l, e, hb⟩ := ih (bs := bs) (by simpa using hl) (fun i r' b' h1 h2 => h (i + 1) r' b' (by simpa using h1) (by simpa using h2))
      obtain ⟨o, rfl, hob⟩ := lv_kept hB (h 0 r b rfl rfl)
      refine ⟨o :: l, by rw [e]; rfl, ?_⟩
      intro x hx
      rw [List.sum_cons]
      rcases List.mem_cons.1 hx with rfl | hx
      · omega
      · have := hb x hx; omega
end
end Go.Proofs.YtkalmhdckoocbaaDoor
