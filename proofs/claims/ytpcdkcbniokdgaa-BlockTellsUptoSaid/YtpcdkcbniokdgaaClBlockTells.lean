/-
  BlockTells: for every input that holds together at most 1048576 values and letters the law BlockTells returns true, and each argument reads afterwards as it did. No further condition. By an AI agent.
-/
import Derived.Test.YtpcdkcbniokdgaaBe
import Derived.Test.YtpcdkcbniokdgaaGs
set_option linter.unusedSimpArgs false
set_option linter.unusedVariables false
namespace Go.Proofs.Ytpcdkcbniokdgaa.clBlockTells
open Go Go.Sx Go.ChangeShapes Go.WideShapes Go.ChangeAt Go.RowKit
open Go.ChangeMaps (open_string shut_string)

theorem bulkAll_eq {H : Type} : ∀ l : List (DataW H), Rows.uptoBulkAll l = (l.map Rows.uptoBulk).sum
  | [] => by simp [Rows.uptoBulkAll]
  | d :: l => by simp [Rows.uptoBulkAll, bulkAll_eq l]
theorem bulkOK {H : Type} : Bulk (Rows.uptoBulk (H := H)) := by
  refine ⟨fun l => ?_, fun l r => ?_, fun s => ?_, fun d => ?_⟩
  · rw [Rows.uptoBulk, bulkAll_eq]; omega
  · rw [Rows.uptoBulk, bulkAll_eq]; omega
  · rw [Rows.uptoBulk]; omega
  · cases d with
    | lit l => cases l <;> simp [Rows.uptoBulk]
    | _ => simp [Rows.uptoBulk]
theorem own : ownKnob Try.prog.godebug = none := by kernel_rfl
theorem contract (H : Type) (enc : TypeId × Value → H) (W : World) (base : Nat) (args : Array Value) (ds gs : List (DataW H)) (before : List MemPlace)
    (hval : ∀ (j : Nat) t v, Try.f4.params[j]? = some t → args[j]? = some v → Value.okWide Try.prog W .any base t v)
    (hW : DataW.Whole enc Try.prog Try.f4.params.toList Rows.blockTellsSpec.vars false W args.toList ds gs before) (hk : Rows.uptoSmall H (ds ++ gs) = true) :
    Calls Try.prog 4 args W fun e W' => ∃ v, e = .returned v ∧ Rows.blockTellsSpec.post enc Try.prog Try.f4 false true false false W args v W' := by
  have hW' := hW
  obtain ⟨p, q, hA0, hV, rfl, hfz, hnd⟩ := hW
  have hA : DataW.TrodAll enc Try.prog W 0 (fun _ => true) true Try.f4.params.toList args.toList ds p := hA0
  rw [Try.params4] at hA hval
  obtain ⟨v0, vs0, d0, ds0, p0, q0, hargs, rfl, rfl, t0, r0⟩ := trodAll_cons hA
  obtain ⟨v1, vs1, d1, ds1, p1, q1, rfl, rfl, rfl, t1, r1⟩ := trodAll_cons r0
  obtain ⟨v2, vs2, d2, ds2, p2, q2, rfl, rfl, rfl, t2, r2⟩ := trodAll_cons r1
  obtain ⟨v3, vs3, d3, ds3, p3, q3, rfl, rfl, rfl, t3, r3⟩ := trodAll_cons r2
  obtain ⟨v4, vs4, d4, ds4, p4, q4, rfl, rfl, rfl, t4, r4⟩ := trodAll_cons r3
  obtain ⟨rfl, rfl, rfl⟩ := trodAll_nil r4
  obtain rfl : args = #[v0, v1, v2, v3, v4] := by cases args; simp_all
  obtain ⟨rfl, rfl⟩ := trodVars_none hV
  obtain ⟨⟨⟨a0⟩⟩, rfl, rfl, rfl, w0⟩ := open_string Try.underlying9 (hval 0 9 v0 rfl rfl) t0
  obtain ⟨a1, rfl, rfl, rfl, w1⟩ := open_int Try.underlying3 (hval 1 3 v1 rfl rfl) t1
  have h1 : -9223372036854775808 ≤ a1 ∧ a1 ≤ 9223372036854775807 := by simpa [Lit.wf, IntKind.min, IntKind.max, IntKind.signed, IntKind.bits] using w1
  obtain ⟨a2, rfl, rfl, rfl, w2⟩ := open_int Try.underlying3 (hval 2 3 v2 rfl rfl) t2
  have h2 : -9223372036854775808 ≤ a2 ∧ a2 ≤ 9223372036854775807 := by simpa [Lit.wf, IntKind.min, IntKind.max, IntKind.signed, IntKind.bits] using w2
  obtain ⟨n3, u3⟩ := open_slice (by kernel_rfl : Try.prog.underlying 30 = some (.slice 9)) (hval 3 30 v3 rfl rfl) t3
  obtain ⟨rows3, bs3, rd3, bl3, lv3, bk3⟩ := slice_rd bulkOK (f := 8) (by kernel_rfl : Try.prog.underlying 30 = some (.slice 9)) (by kernel_rfl : leaves Try.prog 8 9 = some [(9, .str)]) (by kernel_rfl) (by decide) u3
  replace bk3 : bs3.sum + 1 ≤ Rows.uptoBulk d3 := bk3
  have rl3 := rows_le bulkOK (by decide) bl3 lv3
  obtain ⟨n4, u4⟩ := open_slice (by kernel_rfl : Try.prog.underlying 31 = some (.slice 25)) (hval 4 31 v4 rfl rfl) t4
  obtain ⟨rows4, bs4, rd4, bl4, lv4, bk4⟩ := slice_rd bulkOK (f := 8) (by kernel_rfl : Try.prog.underlying 31 = some (.slice 25)) (by kernel_rfl : leaves Try.prog 8 25 = some [(3, .int .i64), (4, .bool), (3, .int .i64)]) (by kernel_rfl) (by decide) u4
  replace bk4 : bs4.sum + 1 ≤ Rows.uptoBulk d4 := bk4
  have rl4 := rows_le bulkOK (by decide) bl4 lv4
  clear hA0
  have hb := of_decide_eq_true hk
  simp only [List.cons_append, List.nil_append, Rows.uptoBulkAll, Rows.uptoBulk] at hb
  obtain ⟨ps, rfl⟩ := rows_S rd3.1
  obtain ⟨ks, rfl⟩ := rows_B rd4.1
  have hps : ps.flatten.length ≤ bs3.sum := by
    have := sum_le (g := fun r => Value.gS (r.getD 0 undef) |>.length) bl3 (fun i r b hr hb => by
      obtain ⟨s, hs⟩ : ∃ s, r = encS s := by
        rw [List.getElem?_map] at hr
        cases h : ps[i]? with
        | none => rw [h] at hr; cases hr
        | some s => rw [h] at hr; simp at hr; exact ⟨s, hr.symm⟩
      subst hs
      cases lv3 i _ b hr hb with
      | cons h1 h2 h3 => have := CellRd.str bulkOK Try.underlying9 h1; simp [encS, Value.gS]; omega)
    rw [List.length_flatten]
    refine Nat.le_trans (Nat.le_of_eq ?_) this
    rw [List.map_map]
    rfl
  rw [List.length_map] at rl3
  refine (as_called (c_BlockTells W a0 a1 a2 v3 v4 ps ks rd3 rd4 (by omega) (by omega) (by omega)) (by rw [rd3.sc1, rd4.sc1])).mono fun e W' ⟨he, hg⟩ => ?_
  subst he
  exact ⟨_, rfl, law_post [9, 3, 4, 30, 9, 31, 25] hW' rfl (by kernel_rfl) Try.underlying4 (fun _ => ⟨rfl, rfl, rfl⟩) (by kernel_rfl) (by kernel_rfl) (by kernel_rfl) (by kernel_rfl) (by kernel_rfl) (by rw [Try.params4]; kernel_rfl) hg⟩
set_option maxRecDepth 100000 in
theorem lifted (os : Os) (started : os.Started) (H : Type) (enc : TypeId × Value → H) (F : Stop.Interp) :
    ReturnsInHanded {} Try.checked os 4 .any ((Rows.OpenSpec.upto Rows.blockTellsSpec).pre6 enc Try.prog Try.f4 Rows.blockTellsUptoRow.domain false) (((Rows.OpenSpec.upto Rows.blockTellsSpec).at F).post enc Try.prog Try.f4 false true false false) := by
  refine returnsInHanded_of_cond (C := Try.checked) (s := Rows.OpenSpec.upto Rows.blockTellsSpec) (k := Rows.uptoSmall) rfl own started (by kernel_rfl) Try.func4
    (OpenSpec.witness (enc := enc) (C := Try.checked) (s := Rows.OpenSpec.upto Rows.blockTellsSpec) (k := Rows.uptoSmall) rfl false ⟨#[], #[.string ⟨#[]⟩, .int .i64 0, .int .i64 0, .slice none 0 0, .slice none 0 0], []⟩ 8 (by kernel_rfl) (by kernel_rfl) (by kernel_rfl)
      (x := ([.lit (.string []), .lit (.int .i64 0), .lit (.int .i64 0), .nil, .nil], [], [])) (by kernel_rfl) rfl (by kernel_rfl)) ?_
  intro W base args ds gs before hval hW _ hk _
  exact contract H enc W base args ds gs before hval hW hk
theorem over : Rows.blockTellsUptoRow.holds Try.pinned (Rows.OpenSpec.upto Rows.blockTellsSpec) :=
  OpenClaim.holds_of_cond 4 Try.f4 rfl rfl rfl rfl rfl rfl rfl ⟨rfl, rfl, rfl, rfl, rfl⟩ rfl rfl rfl rfl rfl (by kernel_rfl) Try.func4 (by kernel_rfl)
    (of_decide_eq_true (by kernel_rfl)) (by unfold Func.isWrapper; first | (rw [if_pos (by decide +kernel)]; kernel_rfl) | (rw [if_neg (by decide +kernel)]; exact ⟨rfl, rfl⟩))
    (fun os started H enc _ F => lifted os started H enc F)
end Go.Proofs.Ytpcdkcbniokdgaa.clBlockTells
namespace Go.Proofs.Ytpcdkcbniokdgaa
theorem blockTells_proved : Rows.BlockTellsUptoSaid := clBlockTells.over
end Go.Proofs.Ytpcdkcbniokdgaa
