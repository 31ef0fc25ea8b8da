/-
  What a reading of a packet tells. By an AI agent.
-/
import Derived.Test.YtliedecinehijaaDoorGs
import Derived.Test.YtliedecinehijaaDoorQd
set_option linter.unusedSimpArgs false
set_option linter.unusedVariables false
namespace Go.Proofs.YtliedecinehijaaDoor
open Go Go.Sx Go.ChangeShapes Go.WideShapes Go.ChangeAt Go.RowKit
section
variable {H : Type} {enc : TypeId × Value → H} {w : World} {sp : Nat → Bool} {B : DataW H → Nat}
def isStruct (P : Program) (t : TypeId) : Bool := match P.underlying t with | some (.struct _) => true | _ => false
theorem open_struct' {P : Program} {r : Reach} {b0 base : Nat} {held : Bool} {t : TypeId} {v : Value} {d : DataW H} {ps : List MemPlace} (ht : isStruct P t = true) (hval : Value.okWide P w r b0 t v) (hd : DataW.Trod enc P w base sp held t v d ps) :
    ∃ (cs : List Value) (n : Nat), v = .agg cs.toArray ∧ DataW.trod enc P w base sp held n t cs = some (d, ps) := by
  unfold isStruct at ht
  split at ht
  · exact open_struct (by assumption) hval hd
  · cases ht
theorem lv_ask (hB : Bulk B) {cs : List Value} {b : Nat} (h : Lv enc Tryd.prog w sp B [(9, .str), (3, .int .i64)] cs b) : ∃ o : Ak, cs = encA o ∧ o.1.length + 1 ≤ b := by
  cases h with
  | cons c1 h e1 =>
  cases h with
  | cons c2 h e2 =>
  cases h
  obtain ⟨s, rfl⟩ := c1.1
  obtain ⟨n, rfl⟩ := c2.1
  have q1 := CellRd.str hB Tryd.underlying9 c1
  exact ⟨(s, n), rfl, by simp only; omega⟩
theorem rows_A (hB : Bulk B) : ∀ {rows : List (List Value)} {bs : List Nat}, bs.length = rows.length → (∀ (i : Nat) r b, rows[i]? = some r → bs[i]? = some b → Lv enc Tryd.prog w sp B [(9, .str), (3, .int .i64)] r b) →
    ∃ l : List Ak, rows = l.map encA ∧ ∀ x ∈ l, x.1.length ≤ bs.sum := by
  intro rows
  induction rows with
  | nil => exact fun _ _ => ⟨[], rfl, by simp⟩
  | cons r rows ih =>
    intro bs hl h
    match bs, hl with
    | b :: bs, hl =>
      obtain ⟨l, e, hb⟩ := ih (bs := bs) (by simpa using hl) (fun i r' b' h1 h2 => h (i + 1) r' b' (by simpa using h1) (by simpa using h2))
      obtain ⟨o, rfl, hob⟩ := lv_ask hB (h 0 r b rfl rfl)
      refine ⟨o :: l, by rw [e]; rfl, ?_⟩
      intro x hx
      rw [List.sum_cons]
      rcases List.mem_cons.1 hx with rfl | hx
      · omega
      · have := hb x hx; omega
theorem rows_I {rows : List (List Value)} (h : ∀ r ∈ rows, rowOk [.int .i64] r) : ∃ l, rows = List.map encI l := by
  induction rows with
  | nil => exact ⟨[], rfl⟩
  | cons r rows ih =>
    obtain ⟨ps, hps⟩ := ih fun r hr => h r (List.mem_cons_of_mem _ hr)
    have h0 := h r (List.mem_cons_self ..)
    match r, h0 with
    | [_], ⟨⟨a, rfl⟩, _⟩ => exact ⟨a :: ps, by rw [hps]; rfl⟩
theorem lv_pkt (hB : Bulk B) (h1 : Tryd.prog.underlying 22 = some (.slice 71)) (h2 : leaves Tryd.prog 8 71 = some [(9, .str), (3, .int .i64)]) (h3 : Tryd.prog.cellsOf 71 = 2)
    (i1 : Tryd.prog.underlying 23 = some (.slice 3)) (i2 : leaves Tryd.prog 8 3 = some [(3, .int .i64)]) (i3 : Tryd.prog.cellsOf 3 = 1) {cs : List Value} {b : Nat}
    (h : Lv enc Tryd.prog w (fun _ => true) B [(3, .int .i64), (4, .bool), (4, .bool), (4, .bool), (4, .bool), (3, .int .i64), (3, .int .i64), (3, .int .i64), (3, .int .i64), (9, .str), (9, .str), (9, .str), (22, .oth), (23, .oth)] cs b) :
    ∃ (p : Pkt) (u v : Value), Value.agg cs.toArray = pV p u v ∧ cs = [.int .i64 p.kind, .bool p.dup, .bool p.retain, .bool p.clean, .bool p.session, .int .i64 p.qos, .int .i64 p.id, .int .i64 p.keep, .int .i64 p.code, .string ⟨p.client.toArray⟩, .string ⟨p.topic.toArray⟩, .string ⟨p.payload.toArray⟩, u, v] ∧
      readsA w u p.asks ∧ readsI w v p.codes ∧ p.client.length + p.topic.length + p.payload.length + p.asks.length + p.codes.length ≤ b ∧ ∀ a ∈ p.asks, a.1.length ≤ b := by
  cases h with
  | cons c1 h e1 =>
  cases h with
  | cons c2 h e2 =>
  cases h with
  | cons c3 h e3 =>
  cases h with
  | cons c4 h e4 =>
  cases h with
  | cons c5 h e5 =>
  cases h with
  | cons c6 h e6 =>
  cases h with
  | cons c7 h e7 =>
  cases h with
  | cons c8 h e8 =>
  cases h with
  | cons c9 h e9 =>
  cases h with
  | cons c10 h e10 =>
  cases h with
  | cons c11 h e11 =>
  cases h with
  | cons c12 h e12 =>
  cases h with
  | cons c13 h e13 =>
  cases h with
  | cons c14 h e14 =>
  cases h
  obtain ⟨kd, rfl⟩ := c1.1
  obtain ⟨b1, rfl⟩ := c2.1
  obtain ⟨b2, rfl⟩ := c3.1
  obtain ⟨b3, rfl⟩ := c4.1
  obtain ⟨b4, rfl⟩ := c5.1
  obtain ⟨n1, rfl⟩ := c6.1
  obtain ⟨n2, rfl⟩ := c7.1
  obtain ⟨n3, rfl⟩ := c8.1
  obtain ⟨n4, rfl⟩ := c9.1
  obtain ⟨s1, rfl⟩ := c10.1
  obtain ⟨s2, rfl⟩ := c11.1
  obtain ⟨s3, rfl⟩ := c12.1
  have q1 := CellRd.str hB Tryd.underlying9 c10
  have q2 := CellRd.str hB Tryd.underlying9 c11
  have q3 := CellRd.str hB Tryd.underlying9 c12
  obtain ⟨-, n, d, ps, hx, hb⟩ := c13
  obtain ⟨rows, bs, rd, bl, lv, bk⟩ := slice_rd hB (f := 8) h1 h2 h3 (by decide) hx
  have rl := rows_le hB (by decide) bl lv
  obtain ⟨l, rfl, hs⟩ := rows_A hB bl lv
  obtain ⟨-, n', d', ps', hx', hb'⟩ := c14
  obtain ⟨rows', bs', rd', bl', lv', bk'⟩ := slice_rd hB (f := 8) i1 i2 i3 (by decide) hx'
  have rl' := rows_le hB (by decide) bl' lv'
  obtain ⟨l', rfl⟩ := rows_I rd'.1
  rw [List.length_map] at rl rl'
  simp only at bk bk'
  exact ⟨⟨kd, b1, b2, b3, b4, n1, n2, n3, n4, s1, s2, s3, l, l'⟩, _, _, by rw [pV, rd.sc1, rd'.sc1], rfl, rd, rd', by simp only; omega, fun x hx => by have := hs x hx; omega⟩
end
end Go.Proofs.YtliedecinehijaaDoor
