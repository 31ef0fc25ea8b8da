/-
  MessageMore: for every input that holds together at most 1048576 values and letters the law MessageMore returns true, and each argument reads afterwards as it did. No further condition. By an AI agent.
-/
import Derived.Test.YtpcdkcbniokdgaaMi
import Derived.Test.YtpcdkcbniokdgaaGs
import Derived.Test.YtpcdkcbniokdgaaGm
set_option linter.unusedSimpArgs false
set_option linter.unusedVariables false
namespace Go.Proofs.Ytpcdkcbniokdgaa.clMessageMore
open Go Go.Sx Go.ChangeShapes Go.WideShapes Go.ChangeAt Go.RowKit
open Go.ChangeMaps (open_string shut_string)

theorem bulkAll_eq {H : Type} : ∀ l : List (DataW H), Rows.uptoBulkAll l = (l.map Rows.uptoBulk).sum
  | [] => by simp [Rows.uptoBulkAll]
  | d :: l => by simp [Rows.uptoBulkAll, bulkAll_eq l]
theorem bulkOK {H : Type} : Bulk (Rows.uptoBulk (H := H)) := by
  refine ⟨fun l => ?_, fun l r => ?_, fun s => ?_, fun d => ?_⟩
  · rw [Rows.uptoBulk, bulkAll_eq]; omega
  · rw [Rows.uptoBulk, bulkAll_eq]; omega
  · rw [Rows.uptoBulk]; omega
  · cases d with
    | lit l => cases l <;> simp [Rows.uptoBulk]
    | _ => simp [Rows.uptoBulk]
theorem own : ownKnob Try.prog.godebug = none := by kernel_rfl
theorem contract (H : Type) (enc : TypeId × Value → H) (W : World) (base : Nat) (args : Array Value) (ds gs : List (DataW H)) (before : List MemPlace)
    (hval : ∀ (j : Nat) t v, Try.f8.params[j]? = some t → args[j]? = some v → Value.okWide Try.prog W .any base t v)
    (hW : DataW.Whole enc Try.prog Try.f8.params.toList Rows.messageMoreSpec.vars false W args.toList ds gs before) (hk : Rows.uptoSmall H (ds ++ gs) = true) :
    Calls Try.prog 8 args W fun e W' => ∃ v, e = .returned v ∧ Rows.messageMoreSpec.post enc Try.prog Try.f8 false true false false W args v W' := by
  have hW' := hW
  obtain ⟨p, q, hA0, hV, rfl, hfz, hnd⟩ := hW
  have hA : DataW.TrodAll enc Try.prog W 0 (fun _ => true) true Try.f8.params.toList args.toList ds p := hA0
  rw [Try.params8] at hA hval
  obtain ⟨v0, vs0, d0, ds0, p0, q0, hargs, rfl, rfl, t0, r0⟩ := trodAll_cons hA
  obtain ⟨v1, vs1, d1, ds1, p1, q1, rfl, rfl, rfl, t1, r1⟩ := trodAll_cons r0
  obtain ⟨v2, vs2, d2, ds2, p2, q2, rfl, rfl, rfl, t2, r2⟩ := trodAll_cons r1
  obtain ⟨rfl, rfl, rfl⟩ := trodAll_nil r2
  obtain rfl : args = #[v0, v1, v2] := by cases args; simp_all
  obtain ⟨rfl, rfl⟩ := trodVars_none hV
  obtain ⟨cs0, n0, rfl, u0⟩ := open_struct' (by kernel_rfl : isStruct Try.prog 52 = true) (hval 0 52 v0 rfl rfl) t0
  have lv0 := leaves_ok bulkOK 8 (by kernel_rfl : leaves Try.prog 8 52 = some [(3, .int .i64), (3, .int .i64), (3, .int .i64), (9, .str), (50, .oth), (9, .str)]) u0
  replace lv0 : Lv _ _ _ _ _ _ _ (Rows.uptoBulk d0) := lv0
  obtain ⟨⟨⟨a1⟩⟩, rfl, rfl, rfl, w1⟩ := open_string Try.underlying9 (hval 1 9 v1 rfl rfl) t1
  obtain ⟨cs2, n2, rfl, u2⟩ := open_struct' (by kernel_rfl : isStruct Try.prog 54 = true) (hval 2 54 v2 rfl rfl) t2
  have lv2 := leaves_ok bulkOK 8 (by kernel_rfl : leaves Try.prog 8 54 = some [(3, .int .i64), (9, .str)]) u2
  replace lv2 : Lv _ _ _ _ _ _ _ (Rows.uptoBulk d2) := lv2
  clear hA0
  have hb := of_decide_eq_true hk
  simp only [List.cons_append, List.nil_append, Rows.uptoBulkAll, Rows.uptoBulk] at hb
  obtain ⟨m0, v0, e0, rd0, z0⟩ := lv_msg bulkOK (by kernel_rfl) (by kernel_rfl) (by kernel_rfl) lv0
  rw [e0] at hW' ⊢
  obtain ⟨o2, e2, z2⟩ := lv_opt bulkOK lv2
  subst e2
  refine (c_MessageMore W m0 v0 a1 o2 rd0 (by omega) (by omega) (by omega) (by omega)).mono fun e W' ⟨he, hg⟩ => ?_
  subst he
  exact ⟨_, rfl, law_post [9, 3, 4, 52, 50, 54, 54] hW' rfl (by kernel_rfl) Try.underlying4 (fun _ => ⟨rfl, rfl, rfl⟩) (by kernel_rfl) (by kernel_rfl) (by kernel_rfl) (by kernel_rfl) (by kernel_rfl) (by rw [Try.params8]; kernel_rfl) hg⟩
set_option maxRecDepth 100000 in
theorem lifted (os : Os) (started : os.Started) (H : Type) (enc : TypeId × Value → H) (F : Stop.Interp) :
    ReturnsInHanded {} Try.checked os 8 .any ((Rows.OpenSpec.upto Rows.messageMoreSpec).pre6 enc Try.prog Try.f8 Rows.messageMoreUptoRow.domain false) (((Rows.OpenSpec.upto Rows.messageMoreSpec).at F).post enc Try.prog Try.f8 false true false false) := by
  refine returnsInHanded_of_cond (C := Try.checked) (s := Rows.OpenSpec.upto Rows.messageMoreSpec) (k := Rows.uptoSmall) rfl own started (by kernel_rfl) Try.func8
    (OpenSpec.witness (enc := enc) (C := Try.checked) (s := Rows.OpenSpec.upto Rows.messageMoreSpec) (k := Rows.uptoSmall) rfl false ⟨#[], #[.agg #[.int .i64 0, .int .i64 0, .int .i64 0, .string ⟨#[]⟩, .slice none 0 0, .string ⟨#[]⟩], .string ⟨#[]⟩, .agg #[.int .i64 0, .string ⟨#[]⟩]], []⟩ 8 (by kernel_rfl) (by kernel_rfl) (by kernel_rfl)
      (x := ([.agg [.lit (.int .i64 0), .lit (.int .i64 0), .lit (.int .i64 0), .lit (.string []), .nil, .lit (.string [])], .lit (.string []), .agg [.lit (.int .i64 0), .lit (.string [])]], [], [])) (by kernel_rfl) rfl (by kernel_rfl)) ?_
  intro W base args ds gs before hval hW _ hk _
  exact contract H enc W base args ds gs before hval hW hk
theorem over : Rows.messageMoreUptoRow.holds Try.pinned (Rows.OpenSpec.upto Rows.messageMoreSpec) :=
  OpenClaim.holds_of_cond 8 Try.f8 rfl rfl rfl rfl rfl rfl rfl ⟨rfl, rfl, rfl, rfl, rfl⟩ rfl rfl rfl rfl rfl (by kernel_rfl) Try.func8 (by kernel_rfl)
    (of_decide_eq_true (by kernel_rfl)) (by unfold Func.isWrapper; first | (rw [if_pos (by decide +kernel)]; kernel_rfl) | (rw [if_neg (by decide +kernel)]; exact ⟨rfl, rfl⟩))
    (fun os started H enc _ F => lifted os started H enc F)
end Go.Proofs.Ytpcdkcbniokdgaa.clMessageMore
namespace Go.Proofs.Ytpcdkcbniokdgaa
theorem messageMore_proved : Rows.MessageMoreUptoSaid := clMessageMore.over
end Go.Proofs.Ytpcdkcbniokdgaa
