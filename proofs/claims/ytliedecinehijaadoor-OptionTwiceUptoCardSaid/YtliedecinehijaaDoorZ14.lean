/-
  What a reading of a message tells. By an AI agent.
-/
import Derived.Test.YtliedecinehijaaDoorZ13
import Derived.Test.YtliedecinehijaaDoorZ10
set_option linter.unusedSimpArgs false
set_option linter.unusedVariables false
namespace Go.Proofs.YtliedecinehijaaDoor
open Go Go.Sx Go.ChangeShapes Go.WideShapes Go.ChangeAt Go.RowKit
section
variable {H : Type} {enc : TypeId × Value → H} {w : World} {sp : Nat → Bool} {B : DataW H → Nat}
def isStruct (P : Program) (t : TypeId) : Bool := match P.underlying t with | some (.struct _) => true | _ => false
theorem open_struct' {P : Program} {r : Reach} {b0 base : Nat} {held : Bool} {t : TypeId} {v : Value} {d : DataW H} {ps : List MemPlace} (ht : isStruct P t = true) (hval : Value.okWide P w r b0 t v) (hd : DataW.Trod enc P w base sp held t v d ps) :
    ∃ (cs : List Value) (n : Nat), v = .agg cs.toArray ∧ DataW.trod enc P w base sp held n t cs = some (d, ps) := by
  unfold isStruct at ht
  split at ht
  · exact open_struct (by assumption) hval hd
  · cases ht
theorem rows_O {rows : List (List Value)} (h : ∀ r ∈ rows, rowOk [.int .i64, .str] r) : ∃ os, rows = List.map encO os := by
  induction rows with
  | nil => exact ⟨[], rfl⟩
  | cons r rows ih =>
    obtain ⟨ps, hps⟩ := ih fun r hr => h r (List.mem_cons_of_mem _ hr)
    have h0 := h r (List.mem_cons_self ..)
    match r, h0 with
    | [_, _], ⟨⟨a, rfl⟩, ⟨b, rfl⟩, _⟩ => exact ⟨(a, b) :: ps, by rw [hps]; rfl⟩
theorem lv_opt (hB : Bulk B) {cs : List Value} {b : Nat} (h : Lv enc Tryd.prog w sp B [(3, .int .i64), (9, .str)] cs b) : ∃ o : Opt, cs = encO o ∧ o.2.length + 1 ≤ b := by
  cases h with
  | cons h1 h2 e1 =>
    cases h2 with
    | cons h3 h4 e2 =>
      cases h4
      obtain ⟨n, rfl⟩ := h1.1
      obtain ⟨s, rfl⟩ := h3.1
      have := CellRd.str hB Tryd.underlying9 h3
      exact ⟨(n, s), rfl, by simp only; omega⟩
theorem lv_msg (hB : Bulk B) (h1 : Tryd.prog.underlying 40 = some (.slice 47)) (h2 : leaves Tryd.prog 8 47 = some [(3, .int .i64), (9, .str)]) (h3 : Tryd.prog.cellsOf 47 = 2) {cs : List Value} {b : Nat}
    (h : Lv enc Tryd.prog w (fun _ => true) B [(3, .int .i64), (3, .int .i64), (3, .int .i64), (9, .str), (40, .oth), (9, .str)] cs b) :
    ∃ (m : Msg) (v : Value), Value.agg cs.toArray = mV m (sc1 v) ∧ readsO w v m.opts ∧ m.tok.length + m.opts.length + m.pay.length ≤ b := by
  cases h with
  | cons c1 h e1 =>
  cases h with
  | cons c2 h e2 =>
  cases h with
  | cons c3 h e3 =>
  cases h with
  | cons c4 h e4 =>
  cases h with
  | cons c5 h e5 =>
  cases h with
  | cons c6 h e6 =>
  cases h
  obtain ⟨k, rfl⟩ := c1.1
  obtain ⟨c, rfl⟩ := c2.1
  obtain ⟨j, rfl⟩ := c3.1
  obtain ⟨t, rfl⟩ := c4.1
  obtain ⟨p, rfl⟩ := c6.1
  have q4 := CellRd.str hB Tryd.underlying9 c4
  have q6 := CellRd.str hB Tryd.underlying9 c6
  obtain ⟨-, n, d, ps, hx, hb⟩ := c5
  obtain ⟨rows, bs, rd, bl, lv, bk⟩ := slice_rd hB (f := 8) h1 h2 h3 (by decide) hx
  have rl := rows_le hB (by decide) bl lv
  obtain ⟨os, rfl⟩ := rows_O rd.1
  rw [List.length_map] at rl
  simp only at bk
  exact ⟨⟨k, c, j, t, os, p⟩, _, by rw [rd.sc1]; rfl, rd, by simp only; omega⟩
end
end Go.Proofs.YtliedecinehijaaDoor

/-
  What a reading of a block tells. By an AI agent.
-/
set_option linter.unusedSimpArgs false
set_option linter.unusedVariables false
namespace Go.Proofs.YtliedecinehijaaDoor
open Go Go.Sx Go.ChangeShapes Go.WideShapes Go.ChangeAt Go.RowKit
theorem lv_blk {H : Type} {enc : TypeId × Value → H} {w : World} {sp : Nat → Bool} {B : DataW H → Nat} {cs : List Value} {b : Nat} (h : Lv enc Tryd.prog w sp B [(3, .int .i64), (4, .bool), (3, .int .i64)] cs b) : ∃ x : Bk, Value.agg cs.toArray = bV x := by
  cases h with
  | cons c1 h e1 =>
  cases h with
  | cons c2 h e2 =>
  cases h with
  | cons c3 h e3 =>
  cases h
  obtain ⟨n, rfl⟩ := c1.1
  obtain ⟨m, rfl⟩ := c2.1
  obtain ⟨s, rfl⟩ := c3.1
  exact ⟨(n, m, s), rfl⟩
end Go.Proofs.YtliedecinehijaaDoor
