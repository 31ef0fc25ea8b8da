/-
  FrameMany: for every input that holds together at most 1048576 values and letters the law FrameMany returns true, and each argument reads afterwards as it did. No further condition. By an AI agent.
-/
import Derived.Test.YtliedecinehijaaDoorZ17
import Derived.Deep.DeepHandedRow
import Derived.Lib.LaidTab
import Derived.Test.YtliedecinehijaaDoorCards
import Derived.Test.YtliedecinehijaaDoorTie
set_option linter.unusedSimpArgs false
set_option linter.unusedVariables false
namespace Go.Proofs.YtliedecinehijaaDoor.clFrameMany
open Go Go.Sx Go.ChangeShapes Go.WideShapes Go.ChangeAt Go.RowKit
open Go.ChangeMaps (open_string shut_string)

set_option maxRecDepth 100000
theorem bulkAll_eq {H : Type} : ∀ l : List (DataW H), Rows.uptoBulkAll l = (l.map Rows.uptoBulk).sum
  | [] => by simp [Rows.uptoBulkAll]
  | d :: l => by simp [Rows.uptoBulkAll, bulkAll_eq l]
theorem bulkOK {H : Type} : Bulk (Rows.uptoBulk (H := H)) := by
  refine ⟨fun l => ?_, fun l r => ?_, fun s => ?_, fun d => ?_⟩
  · rw [Rows.uptoBulk, bulkAll_eq]; omega
  · rw [Rows.uptoBulk, bulkAll_eq]; omega
  · rw [Rows.uptoBulk]; omega
  · cases d with
    | lit l => cases l <;> simp [Rows.uptoBulk]
    | _ => simp [Rows.uptoBulk]
theorem own : ownKnob Tryd.prog.godebug = none := by kernel_rfl
theorem contract (H : Type) (enc : TypeId × Value → H) (W : World) (base : Nat) (args : Array Value) (ds gs : List (DataW H)) (before : List MemPlace)
    (hval : ∀ (j : Nat) t v, Tryd.f6.params[j]? = some t → args[j]? = some v → Value.okWide Tryd.prog W .any base t v)
    (hW : DataW.Whole enc Tryd.prog Tryd.f6.params.toList Rows.frameManySpec.vars false W args.toList ds gs before) (hk : Rows.uptoSmall H (ds ++ gs) = true) :
    Calls Tryd.prog 6 args W fun e W' => ∃ v, e = .returned v ∧ Rows.frameManySpec.post enc Tryd.prog Tryd.f6 false true false false W args v W' := by
  have hW' := hW
  obtain ⟨p, q, hA0, hV, rfl, hfz, hnd⟩ := hW
  have hA : DataW.TrodAll enc Tryd.prog W 0 (fun _ => true) true Tryd.f6.params.toList args.toList ds p := hA0
  rw [Tryd.params6] at hA hval
  obtain ⟨v0, vs0, d0, ds0, p0, q0, hargs, rfl, rfl, t0, r0⟩ := trodAll_cons hA
  obtain ⟨rfl, rfl, rfl⟩ := trodAll_nil r0
  obtain rfl : args = #[v0] := by cases args; simp_all
  obtain ⟨rfl, rfl⟩ := trodVars_none hV
  obtain ⟨n0, u0⟩ := open_slice (by kernel_rfl : Tryd.prog.underlying 34 = some (.slice 25)) (hval 0 34 v0 rfl rfl) t0
  obtain ⟨rows0, bs0, rd0, bl0, lv0, bk0⟩ := slice_rd bulkOK (f := 8) (by kernel_rfl : Tryd.prog.underlying 34 = some (.slice 25)) (by kernel_rfl : leaves Tryd.prog 8 25 = some [(3, .int .i64), (4, .bool), (4, .bool), (4, .bool), (4, .bool), (3, .int .i64), (3, .int .i64), (3, .int .i64), (3, .int .i64), (9, .str), (9, .str), (9, .str), (22, .oth), (23, .oth)]) (by kernel_rfl) (by decide) u0
  replace bk0 : bs0.sum + 1 ≤ Rows.uptoBulk d0 := bk0
  have rl0 := rows_le bulkOK (by decide) bl0 lv0
  clear hA0
  have hb := of_decide_eq_true hk
  simp only [List.cons_append, List.nil_append, Rows.uptoBulkAll, Rows.uptoBulk] at hb
  obtain ⟨l, rfl, pl, sm, ln⟩ := rows_X bulkOK (by kernel_rfl) (by kernel_rfl) (by kernel_rfl) (by kernel_rfl) (by kernel_rfl) (by kernel_rfl) bl0 lv0
  refine (as_called (c_FrameMany W v0 l rd0 pl (fun t ht => by obtain ⟨q1, q2⟩ := sm t ht; exact ⟨by omega, by omega, by omega, by omega, by omega, fun a ha => by have := q2 a ha; omega⟩) (by omega)) (by rw [rd0.sc1])).mono fun e W' ⟨he, hg⟩ => ?_
  subst he
  exact ⟨_, rfl, law_post [9, 3, 4, 34, 25, 22, 71, 23] hW' rfl (by kernel_rfl) Tryd.underlying4 (fun _ => ⟨rfl, rfl, rfl⟩) (by kernel_rfl) (by kernel_rfl) (by kernel_rfl) (by kernel_rfl) (by kernel_rfl) (by rw [Tryd.params6]; kernel_rfl) hg⟩
noncomputable def lay1 : Obj → Obj
  | .cells _ t frozen => .cells (Go.Pinned.utf8FirstZ.map fun (n : Nat) => Value.int .u8 (n : Int)).toArray t frozen
  | o => o
noncomputable def lay2 : Obj → Obj
  | .cells _ t frozen => .cells (([128, 191, 160, 191, 128, 159, 144, 191, 128, 143] ++ List.replicate 22 0).map fun (n : Nat) => Value.int .u8 (n : Int)).toArray t frozen
  | o => o
noncomputable def laidWorld (os : Os) : World :=
  { World.holding Tryd.prog os ⟨#[], #[], []⟩ with heap := ((World.holding Tryd.prog os ⟨#[], #[], []⟩).heap.modify 1 lay1).modify 2 lay2 }
theorem laid_met (os : Os) : laidMet Tryd.prog Rows.frameManyUptoRow.laid ((laidWorld os).forCall (fun _ _ => 0) ⟨#[], #[.slice none 0 0], []⟩).memory :=
  laidMet_of_run' 8 (by kernel_rfl) (by kernel_rfl)
theorem witReads (os : Os) {H : Type} (enc : TypeId × Value → H) : ∃ places, DataW.whole enc Tryd.prog ((laidWorld os).forCall (fun _ _ => 0) ⟨#[], #[.slice none 0 0], []⟩).memory Tryd.f6.params.toList Rows.frameManySpec.vars false (#[.slice none 0 0] : Array Value).toList 8 = some ([.nil], [], places) :=
  ⟨[], by kernel_rfl⟩
set_option maxRecDepth 100000 in
theorem lifted (os : Os) (started : os.Started) (H : Type) (enc : TypeId × Value → H) (F : Stop.Interp) :
    ReturnsInHanded {} Tryd.checked os 6 .any ((Rows.OpenSpec.upto Rows.frameManySpec).preRow enc Tryd.prog Tryd.f6 Rows.frameManyUptoRow.domain false Rows.frameManyUptoRow.laid) (((Rows.OpenSpec.upto Rows.frameManySpec).at F).post enc Tryd.prog Tryd.f6 false true false false) := by
  obtain ⟨places, hx⟩ := witReads os enc
  refine returnsInHanded_of_row (C := Tryd.checked) (s := Rows.OpenSpec.upto Rows.frameManySpec) own started (by kernel_rfl) Tryd.func6
    (witness_row_at (enc := enc) (C := Tryd.checked) false (laidWorld os) #[.slice none 0 0] rfl (by kernel_rfl) (by kernel_rfl) (by kernel_rfl)
      (OpenSpec.preRow_of_cond 8 hx (by kernel_rfl) (fun k hk => by cases hk; kernel_rfl) (by kernel_rfl) (laid_met os))) ?_
  intro W base args ds gs before hval hW _ hcond _ _ _ _
  exact contract H enc W base args ds gs before hval hW (hcond _ rfl)
theorem over : Rows.FrameManyUptoSaid :=
  OpenClaim.holds_of_cond 6 Tryd.f6 rfl rfl rfl rfl rfl rfl rfl ⟨rfl, rfl, rfl, rfl, rfl⟩ rfl rfl rfl rfl rfl (by kernel_rfl) Tryd.func6 (by kernel_rfl)
    (of_decide_eq_true (by kernel_rfl)) (by unfold Func.isWrapper; first | (rw [if_pos (by decide +kernel)]; kernel_rfl) | (rw [if_neg (by decide +kernel)]; exact ⟨rfl, rfl⟩))
    (fun os started H enc _ F => by rw [OpenClaim.pre_eq_preRow]; exact lifted os started H enc F)
theorem plain (f : FuncId) (fn : Func) (hf : Tryd.pinned.checked.prog.funcNamed Tryd.f6.name = some f) (hfn : Tryd.pinned.checked.prog.funcs[f]? = some fn) :
    false = Tryd.pinned.checked.prog.looks [] ∧ ∀ (j : Nat) t, fn.params[j]? = some t → Tryd.pinned.checked.prog.wantsStandIn t = false := by
  obtain rfl : f = 6 := Option.some.inj ((show Tryd.prog.funcNamed Tryd.f6.name = some 6 by kernel_rfl).symm.trans hf) |>.symm
  obtain rfl : fn = Tryd.f6 := (Option.some.inj (Tryd.func6.symm.trans hfn)).symm
  refine ⟨by kernel_rfl, fun j t ht => ?_⟩
  have hall : (Tryd.f6.params.toList).all (fun t => !Tryd.prog.wantsStandIn t) = true := by rw [Tryd.params6]; kernel_rfl
  have h2 : Tryd.prog.wantsStandIn t = false := by simpa using List.all_eq_true.1 hall t (Array.mem_toList_iff.2 (Array.mem_of_getElem? ht))
  exact h2
theorem card : Rows.FrameManyUptoCardSaid :=
  Claim7.holds_tied_plain_at .later [] _ _ _ _ over (fun _ h => by cases h) (by kernel_rfl) (fun _ h => by cases h) frameManyUpto_row_tie rfl ⟨rfl, rfl⟩ (by kernel_rfl) rfl plain (by kernel_rfl)
end Go.Proofs.YtliedecinehijaaDoor.clFrameMany
namespace Go.Proofs.YtliedecinehijaaDoor
theorem frameMany_proved : Rows.FrameManyUptoCardSaid := clFrameMany.card
end Go.Proofs.YtliedecinehijaaDoor
