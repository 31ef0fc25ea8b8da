/-
  WantTells: for every input that holds together at most 1048576 values and letters the law WantTells returns true, and each argument reads afterwards as it did. No further condition. By an AI agent.
-/
import Derived.Test.YtliedecinehijaaGreatDoorZ16
import Derived.Deep.DeepHandedRow
import Derived.Lib.LaidTab
import Derived.Test.YtliedecinehijaaGreatDoorCards
import Derived.Test.YtliedecinehijaaGreatDoorTie
set_option linter.unusedSimpArgs false
set_option linter.unusedVariables false
namespace Go.Proofs.YtliedecinehijaaGreatDoor.clWantTells
open Go Go.Sx Go.ChangeShapes Go.WideShapes Go.ChangeAt Go.RowKit
open Go.ChangeMaps (open_string shut_string)

set_option maxRecDepth 100000
theorem bulkAll_eq {H : Type} : ∀ l : List (DataW H), Rows.uptoBulkAll l = (l.map Rows.uptoBulk).sum
  | [] => by simp [Rows.uptoBulkAll]
  | d :: l => by simp [Rows.uptoBulkAll, bulkAll_eq l]
theorem bulkOK {H : Type} : Bulk (Rows.uptoBulk (H := H)) := by
  refine ⟨fun l => ?_, fun l r => ?_, fun s => ?_, fun d => ?_⟩
  · rw [Rows.uptoBulk, bulkAll_eq]; omega
  · rw [Rows.uptoBulk, bulkAll_eq]; omega
  · rw [Rows.uptoBulk]; omega
  · cases d with
    | lit l => cases l <;> simp [Rows.uptoBulk]
    | _ => simp [Rows.uptoBulk]
theorem own : ownKnob Tryz.prog.godebug = none := by kernel_rfl
theorem contract (H : Type) (enc : TypeId × Value → H) (W : World) (base : Nat) (args : Array Value) (ds gs : List (DataW H)) (before : List MemPlace)
    (hval : ∀ (j : Nat) t v, Tryz.f5.params[j]? = some t → args[j]? = some v → Value.okWide Tryz.prog W .any base t v)
    (hW : DataW.Whole enc Tryz.prog Tryz.f5.params.toList Rows.wantTellsSpec.vars false W args.toList ds gs before) (hk : Rows.uptoSmall H (ds ++ gs) = true) :
    Calls Tryz.prog 5 args W fun e W' => ∃ v, e = .returned v ∧ Rows.wantTellsSpec.post enc Tryz.prog Tryz.f5 false true false false W args v W' := by
  have hW' := hW
  obtain ⟨p, q, hA0, hV, rfl, hfz, hnd⟩ := hW
  have hA : DataW.TrodAll enc Tryz.prog W 0 (fun _ => true) true Tryz.f5.params.toList args.toList ds p := hA0
  rw [Tryz.params5] at hA hval
  obtain ⟨v0, vs0, d0, ds0, p0, q0, hargs, rfl, rfl, t0, r0⟩ := trodAll_cons hA
  obtain ⟨v1, vs1, d1, ds1, p1, q1, rfl, rfl, rfl, t1, r1⟩ := trodAll_cons r0
  obtain ⟨v2, vs2, d2, ds2, p2, q2, rfl, rfl, rfl, t2, r2⟩ := trodAll_cons r1
  obtain ⟨v3, vs3, d3, ds3, p3, q3, rfl, rfl, rfl, t3, r3⟩ := trodAll_cons r2
  obtain ⟨rfl, rfl, rfl⟩ := trodAll_nil r3
  obtain rfl : args = #[v0, v1, v2, v3] := by cases args; simp_all
  obtain ⟨rfl, rfl⟩ := trodVars_none hV
  obtain ⟨n0, u0⟩ := open_slice (by kernel_rfl : Tryz.prog.underlying 42 = some (.slice 57)) (hval 0 42 v0 rfl rfl) t0
  obtain ⟨rows0, bs0, rd0, bl0, lv0, bk0⟩ := slice_rd bulkOK (f := 8) (by kernel_rfl : Tryz.prog.underlying 42 = some (.slice 57)) (by kernel_rfl : leaves Tryz.prog 8 57 = some [(9, .str), (9, .str), (3, .int .i64)]) (by kernel_rfl) (by decide) u0
  replace bk0 : bs0.sum + 1 ≤ Rows.uptoBulk d0 := bk0
  have rl0 := rows_le bulkOK (by decide) bl0 lv0
  obtain ⟨⟨⟨a1⟩⟩, rfl, rfl, rfl, w1⟩ := open_string Tryz.underlying9 (hval 1 9 v1 rfl rfl) t1
  obtain ⟨cs2, n2, rfl, u2⟩ := open_struct' (by kernel_rfl : isStruct Tryz.prog 44 = true) (hval 2 44 v2 rfl rfl) t2
  have lv2 := leaves_ok bulkOK 8 (by kernel_rfl : leaves Tryz.prog 8 44 = some [(9, .str), (3, .int .i64)]) u2
  replace lv2 : Lv _ _ _ _ _ _ _ (Rows.uptoBulk d2) := lv2
  obtain ⟨⟨⟨a3⟩⟩, rfl, rfl, rfl, w3⟩ := open_string Tryz.underlying9 (hval 3 9 v3 rfl rfl) t3
  clear hA0
  have hb := of_decide_eq_true hk
  simp only [List.cons_append, List.nil_append, Rows.uptoBulkAll, Rows.uptoBulk] at hb
  obtain ⟨ll, rfl, hsm⟩ := rows_V bulkOK bl0 lv0
  rw [List.length_map] at rl0
  obtain ⟨f2, q2, hf2, lf2⟩ := lv_ask bulkOK lv2
  refine (as_called (c_WantTells W v0 ll a1 f2 q2 a3 rd0 (fun x hx => ⟨Nat.lt_of_le_of_lt (hsm x hx).1 (by omega), Nat.lt_of_le_of_lt (hsm x hx).2 (by omega)⟩) (by omega) (by omega) (by omega) (by omega)) (by rw [rd0.sc1, ← hf2])).mono fun e W' ⟨he, hg⟩ => ?_
  subst he
  exact ⟨_, rfl, law_post [9, 3, 4, 42, 57, 44, 44] hW' rfl (by kernel_rfl) Tryz.underlying4 (fun _ => ⟨rfl, rfl, rfl⟩) (by kernel_rfl) (by kernel_rfl) (by kernel_rfl) (by kernel_rfl) (by kernel_rfl) (by rw [Tryz.params5]; kernel_rfl) hg⟩
noncomputable def lay1 : Obj → Obj
  | .cells _ t frozen => .cells (Go.Pinned.utf8FirstZ.map fun (n : Nat) => Value.int .u8 (n : Int)).toArray t frozen
  | o => o
noncomputable def lay2 : Obj → Obj
  | .cells _ t frozen => .cells (([128, 191, 160, 191, 128, 159, 144, 191, 128, 143] ++ List.replicate 22 0).map fun (n : Nat) => Value.int .u8 (n : Int)).toArray t frozen
  | o => o
noncomputable def laidWorld (os : Os) : World :=
  { World.holding Tryz.prog os ⟨#[], #[], []⟩ with heap := ((World.holding Tryz.prog os ⟨#[], #[], []⟩).heap.modify 1 lay1).modify 2 lay2 }
theorem laid_met (os : Os) : laidMet Tryz.prog Rows.wantTellsUptoRow.laid ((laidWorld os).forCall (fun _ _ => 0) ⟨#[], #[.slice none 0 0, .string ⟨#[]⟩, .agg #[.string ⟨#[]⟩, .int .i64 0], .string ⟨#[]⟩], []⟩).memory :=
  laidMet_of_run' 8 (by kernel_rfl) (by kernel_rfl)
theorem witReads (os : Os) {H : Type} (enc : TypeId × Value → H) : ∃ places, DataW.whole enc Tryz.prog ((laidWorld os).forCall (fun _ _ => 0) ⟨#[], #[.slice none 0 0, .string ⟨#[]⟩, .agg #[.string ⟨#[]⟩, .int .i64 0], .string ⟨#[]⟩], []⟩).memory Tryz.f5.params.toList Rows.wantTellsSpec.vars false (#[.slice none 0 0, .string ⟨#[]⟩, .agg #[.string ⟨#[]⟩, .int .i64 0], .string ⟨#[]⟩] : Array Value).toList 8 = some ([.nil, .lit (.string []), .agg [.lit (.string []), .lit (.int .i64 0)], .lit (.string [])], [], places) :=
  ⟨[], by kernel_rfl⟩
set_option maxRecDepth 100000 in
theorem lifted (os : Os) (started : os.Started) (H : Type) (enc : TypeId × Value → H) (F : Stop.Interp) :
    ReturnsInHanded {} Tryz.checked os 5 .any ((Rows.OpenSpec.upto Rows.wantTellsSpec).preRow enc Tryz.prog Tryz.f5 Rows.wantTellsUptoRow.domain false Rows.wantTellsUptoRow.laid) (((Rows.OpenSpec.upto Rows.wantTellsSpec).at F).post enc Tryz.prog Tryz.f5 false true false false) := by
  obtain ⟨places, hx⟩ := witReads os enc
  refine returnsInHanded_of_row (C := Tryz.checked) (s := Rows.OpenSpec.upto Rows.wantTellsSpec) own started (by kernel_rfl) Tryz.func5
    (witness_row_at (enc := enc) (C := Tryz.checked) false (laidWorld os) #[.slice none 0 0, .string ⟨#[]⟩, .agg #[.string ⟨#[]⟩, .int .i64 0], .string ⟨#[]⟩] rfl (by kernel_rfl) (by kernel_rfl) (by kernel_rfl)
      (OpenSpec.preRow_of_cond 8 hx (by kernel_rfl) (fun k hk => by cases hk; kernel_rfl) (by kernel_rfl) (laid_met os))) ?_
  intro W base args ds gs before hval hW _ hcond _ _ _ _
  exact contract H enc W base args ds gs before hval hW (hcond _ rfl)
theorem over : Rows.WantTellsUptoSaid :=
  OpenClaim.holds_of_cond 5 Tryz.f5 rfl rfl rfl rfl rfl rfl rfl ⟨rfl, rfl, rfl, rfl, rfl⟩ rfl rfl rfl rfl rfl (by kernel_rfl) Tryz.func5 (by kernel_rfl)
    (of_decide_eq_true (by kernel_rfl)) (by unfold Func.isWrapper; first | (rw [if_pos (by decide +kernel)]; kernel_rfl) | (rw [if_neg (by decide +kernel)]; exact ⟨rfl, rfl⟩))
    (fun os started H enc _ F => by rw [OpenClaim.pre_eq_preRow]; exact lifted os started H enc F)
theorem plain (f : FuncId) (fn : Func) (hf : Tryz.pinned.checked.prog.funcNamed Tryz.f5.name = some f) (hfn : Tryz.pinned.checked.prog.funcs[f]? = some fn) :
    false = Tryz.pinned.checked.prog.looks [] ∧ ∀ (j : Nat) t, fn.params[j]? = some t → Tryz.pinned.checked.prog.wantsStandIn t = false := by
  obtain rfl : f = 5 := Option.some.inj ((show Tryz.prog.funcNamed Tryz.f5.name = some 5 by kernel_rfl).symm.trans hf) |>.symm
  obtain rfl : fn = Tryz.f5 := (Option.some.inj (Tryz.func5.symm.trans hfn)).symm
  refine ⟨by kernel_rfl, fun j t ht => ?_⟩
  have hall : (Tryz.f5.params.toList).all (fun t => !Tryz.prog.wantsStandIn t) = true := by rw [Tryz.params5]; kernel_rfl
  have h2 : Tryz.prog.wantsStandIn t = false := by simpa using List.all_eq_true.1 hall t (Array.mem_toList_iff.2 (Array.mem_of_getElem? ht))
  exact h2
theorem card : Rows.WantTellsUptoCardSaid :=
  Claim7.holds_tied_plain_at .later [] _ _ _ _ over (fun _ h => by cases h) (by kernel_rfl) (fun _ h => by cases h) wantTellsUpto_row_tie rfl ⟨rfl, rfl⟩ (by kernel_rfl) rfl plain (by kernel_rfl)
end Go.Proofs.YtliedecinehijaaGreatDoor.clWantTells
namespace Go.Proofs.YtliedecinehijaaGreatDoor
theorem wantTells_proved : Rows.WantTellsUptoCardSaid := clWantTells.card
end Go.Proofs.YtliedecinehijaaGreatDoor
