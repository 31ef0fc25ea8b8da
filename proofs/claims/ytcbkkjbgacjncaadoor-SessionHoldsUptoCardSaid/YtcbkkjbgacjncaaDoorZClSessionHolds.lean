/-
  SessionHolds: for every input that holds together at most 1048576 values and letters the law SessionHolds returns true, and each argument reads afterwards as it did. No further condition. By an AI agent.
-/
import Derived.Test.YtcbkkjbgacjncaaDoorZ15
import Derived.Test.YtcbkkjbgacjncaaDoorZ07
import Derived.Deep.DeepHandedRow
import Derived.Lib.LaidTab
import Derived.Test.YtcbkkjbgacjncaaDoorCards
import Derived.Test.YtcbkkjbgacjncaaDoorTie
set_option linter.unusedSimpArgs false
set_option linter.unusedVariables false
namespace Go.Proofs.YtcbkkjbgacjncaaDoor.clSessionHolds
open Go Go.Sx Go.ChangeShapes Go.WideShapes Go.ChangeAt Go.RowKit
open Go.ChangeMaps (open_string shut_string)

set_option maxRecDepth 100000
theorem bulkAll_eq {H : Type} : ∀ l : List (DataW H), Rows.uptoBulkAll l = (l.map Rows.uptoBulk).sum
  | [] => by simp [Rows.uptoBulkAll]
  | d :: l => by simp [Rows.uptoBulkAll, bulkAll_eq l]
theorem bulkOK {H : Type} : Bulk (Rows.uptoBulk (H := H)) := by
  refine ⟨fun l => ?_, fun l r => ?_, fun s => ?_, fun d => ?_⟩
  · rw [Rows.uptoBulk, bulkAll_eq]; omega
  · rw [Rows.uptoBulk, bulkAll_eq]; omega
  · rw [Rows.uptoBulk]; omega
  · cases d with
    | lit l => cases l <;> simp [Rows.uptoBulk]
    | _ => simp [Rows.uptoBulk]
theorem own : ownKnob Tryd.prog.godebug = none := by kernel_rfl
theorem contract (H : Type) (enc : TypeId × Value → H) (W : World) (base : Nat) (args : Array Value) (ds gs : List (DataW H)) (before : List MemPlace)
    (hval : ∀ (j : Nat) t v, Tryd.f4.params[j]? = some t → args[j]? = some v → Value.okWide Tryd.prog W .any base t v)
    (hW : DataW.Whole enc Tryd.prog Tryd.f4.params.toList Rows.sessionHoldsSpec.vars false W args.toList ds gs before) (hk : Rows.uptoSmall H (ds ++ gs) = true) :
    Calls Tryd.prog 4 args W fun e W' => ∃ v, e = .returned v ∧ Rows.sessionHoldsSpec.post enc Tryd.prog Tryd.f4 false true false false W args v W' := by
  have hW' := hW
  obtain ⟨p, q, hA0, hV, rfl, hfz, hnd⟩ := hW
  have hA : DataW.TrodAll enc Tryd.prog W 0 (fun _ => true) true Tryd.f4.params.toList args.toList ds p := hA0
  rw [Tryd.params4] at hA hval
  obtain ⟨v0, vs0, d0, ds0, p0, q0, hargs, rfl, rfl, t0, r0⟩ := trodAll_cons hA
  obtain ⟨v1, vs1, d1, ds1, p1, q1, rfl, rfl, rfl, t1, r1⟩ := trodAll_cons r0
  obtain ⟨v2, vs2, d2, ds2, p2, q2, rfl, rfl, rfl, t2, r2⟩ := trodAll_cons r1
  obtain ⟨v3, vs3, d3, ds3, p3, q3, rfl, rfl, rfl, t3, r3⟩ := trodAll_cons r2
  obtain ⟨rfl, rfl, rfl⟩ := trodAll_nil r3
  obtain rfl : args = #[v0, v1, v2, v3] := by cases args; simp_all
  obtain ⟨rfl, rfl⟩ := trodVars_none hV
  obtain ⟨a0, rfl, rfl, rfl⟩ := open_bool Tryd.underlying4 (hval 0 4 v0 rfl rfl) t0
  obtain ⟨n1, u1⟩ := open_slice (by kernel_rfl : Tryd.prog.underlying 26 = some (.slice 9)) (hval 1 26 v1 rfl rfl) t1
  obtain ⟨rows1, bs1, rd1, bl1, lv1, bk1⟩ := slice_rd bulkOK (f := 8) (by kernel_rfl : Tryd.prog.underlying 26 = some (.slice 9)) (by kernel_rfl : leaves Tryd.prog 8 9 = some [(9, .str)]) (by kernel_rfl) (by decide) u1
  replace bk1 : bs1.sum + 1 ≤ Rows.uptoBulk d1 := bk1
  have rl1 := rows_le bulkOK (by decide) bl1 lv1
  obtain ⟨n2, u2⟩ := open_slice (by kernel_rfl : Tryd.prog.underlying 31 = some (.slice 3)) (hval 2 31 v2 rfl rfl) t2
  obtain ⟨rows2, bs2, rd2, bl2, lv2, bk2⟩ := slice_rd bulkOK (f := 8) (by kernel_rfl : Tryd.prog.underlying 31 = some (.slice 3)) (by kernel_rfl : leaves Tryd.prog 8 3 = some [(3, .int .i64)]) (by kernel_rfl) (by decide) u2
  replace bk2 : bs2.sum + 1 ≤ Rows.uptoBulk d2 := bk2
  have rl2 := rows_le bulkOK (by decide) bl2 lv2
  obtain ⟨a3, rfl, rfl, rfl, w3⟩ := open_int Tryd.underlying3 (hval 3 3 v3 rfl rfl) t3
  have h3 : -9223372036854775808 ≤ a3 ∧ a3 ≤ 9223372036854775807 := by simpa [Lit.wf, IntKind.min, IntKind.max, IntKind.signed, IntKind.bits] using w3
  clear hA0
  have hb := of_decide_eq_true hk
  simp only [List.cons_append, List.nil_append, Rows.uptoBulkAll, Rows.uptoBulk] at hb
  obtain ⟨ps, rfl⟩ := rows_S rd1.1
  obtain ⟨ld, rfl⟩ := rows_I rd2.1
  rw [List.length_map] at rl1 rl2
  refine (as_called (c_SessionHolds W a0 v1 ps v2 ld a3 rd1 rd2 (by omega) (by omega)) (by rw [rd1.sc1, rd2.sc1])).mono fun e W' ⟨he, hg⟩ => ?_
  subst he
  exact ⟨_, rfl, law_post [9, 3, 4, 26, 9, 31, 3] hW' rfl (by kernel_rfl) Tryd.underlying4 (fun _ => ⟨rfl, rfl, rfl⟩) (by kernel_rfl) (by kernel_rfl) (by kernel_rfl) (by kernel_rfl) (by kernel_rfl) (by rw [Tryd.params4]; kernel_rfl) hg⟩
noncomputable def lay1 : Obj → Obj
  | .cells _ t frozen => .cells (Go.Pinned.utf8FirstZ.map fun (n : Nat) => Value.int .u8 (n : Int)).toArray t frozen
  | o => o
noncomputable def lay2 : Obj → Obj
  | .cells _ t frozen => .cells (([128, 191, 160, 191, 128, 159, 144, 191, 128, 143] ++ List.replicate 22 0).map fun (n : Nat) => Value.int .u8 (n : Int)).toArray t frozen
  | o => o
noncomputable def laidWorld (os : Os) : World :=
  { World.holding Tryd.prog os ⟨#[], #[], []⟩ with heap := ((World.holding Tryd.prog os ⟨#[], #[], []⟩).heap.modify 1 lay1).modify 2 lay2 }
theorem laid_met (os : Os) : laidMet Tryd.prog Rows.sessionHoldsUptoRow.laid ((laidWorld os).forCall (fun _ _ => 0) ⟨#[], #[.bool false, .slice none 0 0, .slice none 0 0, .int .i64 0], []⟩).memory :=
  laidMet_of_run' 8 (by kernel_rfl) (by kernel_rfl)
theorem witReads (os : Os) {H : Type} (enc : TypeId × Value → H) : ∃ places, DataW.whole enc Tryd.prog ((laidWorld os).forCall (fun _ _ => 0) ⟨#[], #[.bool false, .slice none 0 0, .slice none 0 0, .int .i64 0], []⟩).memory Tryd.f4.params.toList Rows.sessionHoldsSpec.vars false (#[.bool false, .slice none 0 0, .slice none 0 0, .int .i64 0] : Array Value).toList 8 = some ([.lit (.bool false), .nil, .nil, .lit (.int .i64 0)], [], places) :=
  ⟨[], by kernel_rfl⟩
set_option maxRecDepth 100000 in
theorem lifted (os : Os) (started : os.Started) (H : Type) (enc : TypeId × Value → H) (F : Stop.Interp) :
    ReturnsInHanded {} Tryd.checked os 4 .any ((Rows.OpenSpec.upto Rows.sessionHoldsSpec).preRow enc Tryd.prog Tryd.f4 Rows.sessionHoldsUptoRow.domain false Rows.sessionHoldsUptoRow.laid) (((Rows.OpenSpec.upto Rows.sessionHoldsSpec).at F).post enc Tryd.prog Tryd.f4 false true false false) := by
  obtain ⟨places, hx⟩ := witReads os enc
  refine returnsInHanded_of_row (C := Tryd.checked) (s := Rows.OpenSpec.upto Rows.sessionHoldsSpec) own started (by kernel_rfl) Tryd.func4
    (witness_row_at (enc := enc) (C := Tryd.checked) false (laidWorld os) #[.bool false, .slice none 0 0, .slice none 0 0, .int .i64 0] rfl (by kernel_rfl) (by kernel_rfl) (by kernel_rfl)
      (OpenSpec.preRow_of_cond 8 hx (by kernel_rfl) (fun k hk => by cases hk; kernel_rfl) (by kernel_rfl) (laid_met os))) ?_
  intro W base args ds gs before hval hW _ hcond _ _ _ _
  exact contract H enc W base args ds gs before hval hW (hcond _ rfl)
theorem over : Rows.SessionHoldsUptoSaid :=
  OpenClaim.holds_of_cond 4 Tryd.f4 rfl rfl rfl rfl rfl rfl rfl ⟨rfl, rfl, rfl, rfl, rfl⟩ rfl rfl rfl rfl rfl (by kernel_rfl) Tryd.func4 (by kernel_rfl)
    (of_decide_eq_true (by kernel_rfl)) (by unfold Func.isWrapper; first | (rw [if_pos (by decide +kernel)]; kernel_rfl) | (rw [if_neg (by decide +kernel)]; exact ⟨rfl, rfl⟩))
    (fun os started H enc _ F => by rw [OpenClaim.pre_eq_preRow]; exact lifted os started H enc F)
theorem plain (f : FuncId) (fn : Func) (hf : Tryd.pinned.checked.prog.funcNamed Tryd.f4.name = some f) (hfn : Tryd.pinned.checked.prog.funcs[f]? = some fn) :
    false = Tryd.pinned.checked.prog.looks [] ∧ ∀ (j : Nat) t, fn.params[j]? = some t → Tryd.pinned.checked.prog.wantsStandIn t = false := by
  obtain rfl : f = 4 := Option.some.inj ((show Tryd.prog.funcNamed Tryd.f4.name = some 4 by kernel_rfl).symm.trans hf) |>.symm
  obtain rfl : fn = Tryd.f4 := (Option.some.inj (Tryd.func4.symm.trans hfn)).symm
  refine ⟨by kernel_rfl, fun j t ht => ?_⟩
  have hall : (Tryd.f4.params.toList).all (fun t => !Tryd.prog.wantsStandIn t) = true := by rw [Tryd.params4]; kernel_rfl
  have h2 : Tryd.prog.wantsStandIn t = false := by simpa using List.all_eq_true.1 hall t (Array.mem_toList_iff.2 (Array.mem_of_getElem? ht))
  exact h2
theorem card : Rows.SessionHoldsUptoCardSaid :=
  Claim7.holds_tied_plain_at .later [] _ _ _ _ over (fun _ h => by cases h) (by kernel_rfl) (fun _ h => by cases h) sessionHoldsUpto_row_tie rfl ⟨rfl, rfl⟩ (by kernel_rfl) rfl plain (by kernel_rfl)
end Go.Proofs.YtcbkkjbgacjncaaDoor.clSessionHolds
namespace Go.Proofs.YtcbkkjbgacjncaaDoor
theorem sessionHolds_proved : Rows.SessionHoldsUptoCardSaid := clSessionHolds.card
end Go.Proofs.YtcbkkjbgacjncaaDoor
