/-
  The executor's table for this translation: types, functions that have a body, functions whose slices are the caller's. Written by a program of mine (wip/mkenv.py); the kernel checks it against the program. By an AI agent.
-/
import Derived.Test.YtpcdkcbniokdgaaRows
import Derived.Test.YtpcdkcbniokdgaaSxO
set_option linter.unusedSimpArgs false
set_option linter.unusedVariables false
namespace Go.Proofs.Ytpcdkcbniokdgaa
open Go.Sx
def sxT : Tab := [
  (2, { agg := false, ks := [.int .i64], zs := [.int .i64 (.I 0)], bytes := 8, tag := .int .i64, eqs := false }),
  (3, { agg := false, ks := [.int .i64], zs := [.int .i64 (.I 0)], bytes := 8, tag := .int .i64, eqs := false }),
  (4, { agg := false, ks := [.bool], zs := [.bool (.B false)], bytes := 1, tag := .bool, eqs := false }),
  (5, { agg := false, ks := [.int .u8], zs := [.int .u8 (.I 0)], bytes := 1, tag := .int .u8, eqs := false }),
  (6, { agg := false, ks := [.int .u8], zs := [.int .u8 (.I 0)], bytes := 1, tag := .int .u8, eqs := false }),
  (7, { agg := true, ks := [.int .i64, .int .i64, .bool, .int .u8], zs := [.int .i64 (.I 0), .int .i64 (.I 0), .bool (.B false), .int .u8 (.I 0)], bytes := 24, tag := .strct [(0, 2, 1, false), (1, 3, 1, false), (2, 4, 1, false), (3, 6, 1, false)], eqs := false }),
  (8, { agg := true, ks := [.int .i64, .int .i64, .bool, .int .u8], zs := [.int .i64 (.I 0), .int .i64 (.I 0), .bool (.B false), .int .u8 (.I 0)], bytes := 24, tag := .strct [(0, 2, 1, false), (1, 3, 1, false), (2, 4, 1, false), (3, 6, 1, false)], eqs := false }),
  (9, { agg := false, ks := [.str], zs := [.str (.S [])], bytes := 16, tag := .str, eqs := false }),
  (10, { agg := false, ks := [.str], zs := [.str (.S [])], bytes := 16, tag := .str, eqs := false }),
  (11, { agg := false, ks := [.str], zs := [.str (.S [])], bytes := 16, tag := .str, eqs := false }),
  (12, { agg := false, ks := [.int .u64], zs := [.int .u64 (.I 0)], bytes := 8, tag := .int .u64, eqs := false }),
  (13, { agg := true, ks := [.str, .int .u64], zs := [.str (.S []), .int .u64 (.I 0)], bytes := 24, tag := .strct [(0, 9, 1, false), (1, 12, 1, false)], eqs := false }),
  (14, { agg := true, ks := [.str, .int .u64], zs := [.str (.S []), .int .u64 (.I 0)], bytes := 24, tag := .strct [(0, 9, 1, false), (1, 12, 1, false)], eqs := false }),
  (15, { agg := false, ks := [.oth], zs := [.nilp], bytes := 8, tag := .ptr 96, eqs := false }),
  (16, { agg := false, ks := [.oth], zs := [.nilp], bytes := 8, tag := .ptr 99, eqs := false }),
  (17, { agg := false, ks := [.oth], zs := [.nilp], bytes := 8, tag := .ptr 107, eqs := false }),
  (18, { agg := true, ks := [.oth], zs := [.nilp], bytes := 8, tag := .strct [(0, 17, 1, false)], eqs := false }),
  (19, { agg := true, ks := [.oth], zs := [.nilp], bytes := 8, tag := .strct [(0, 17, 1, false)], eqs := false }),
  (21, { agg := false, ks := [.int .i32], zs := [.int .i32 (.I 0)], bytes := 4, tag := .int .i32, eqs := false }),
  (24, { agg := true, ks := [.int .i64, .bool, .int .i64], zs := [.int .i64 (.I 0), .bool (.B false), .int .i64 (.I 0)], bytes := 24, tag := .strct [(0, 3, 1, false), (1, 4, 1, false), (2, 3, 1, false)], eqs := false }),
  (25, { agg := true, ks := [.int .i64, .bool, .int .i64], zs := [.int .i64 (.I 0), .bool (.B false), .int .i64 (.I 0)], bytes := 24, tag := .strct [(0, 3, 1, false), (1, 4, 1, false), (2, 3, 1, false)], eqs := true }),
  (26, { agg := false, ks := [.int .i64], zs := [.int .i64 (.I 0)], bytes := 8, tag := .int .i64, eqs := false }),
  (30, { agg := false, ks := [.oth], zs := [.nils], bytes := 24, tag := .slice 9, eqs := false }),
  (31, { agg := false, ks := [.oth], zs := [.nils], bytes := 24, tag := .slice 25, eqs := false }),
  (50, { agg := false, ks := [.oth], zs := [.nils], bytes := 24, tag := .slice 54, eqs := false }),
  (51, { agg := true, ks := [.int .i64, .int .i64, .int .i64, .str, .oth, .str], zs := [.int .i64 (.I 0), .int .i64 (.I 0), .int .i64 (.I 0), .str (.S []), .nils, .str (.S [])], bytes := 80, tag := .strct [(0, 3, 1, false), (1, 3, 1, false), (2, 3, 1, false), (3, 9, 1, false), (4, 50, 1, false), (5, 9, 1, false)], eqs := false }),
  (52, { agg := true, ks := [.int .i64, .int .i64, .int .i64, .str, .oth, .str], zs := [.int .i64 (.I 0), .int .i64 (.I 0), .int .i64 (.I 0), .str (.S []), .nils, .str (.S [])], bytes := 80, tag := .strct [(0, 3, 1, false), (1, 3, 1, false), (2, 3, 1, false), (3, 9, 1, false), (4, 50, 1, false), (5, 9, 1, false)], eqs := false }),
  (53, { agg := true, ks := [.int .i64, .str], zs := [.int .i64 (.I 0), .str (.S [])], bytes := 24, tag := .strct [(0, 3, 1, false), (1, 9, 1, false)], eqs := false }),
  (54, { agg := true, ks := [.int .i64, .str], zs := [.int .i64 (.I 0), .str (.S [])], bytes := 24, tag := .strct [(0, 3, 1, false), (1, 9, 1, false)], eqs := true }),
  (64, { agg := false, ks := [.oth], zs := [.nilp], bytes := 8, tag := .ptr 70, eqs := false }),
  (65, { agg := false, ks := [.oth], zs := [.nilp], bytes := 8, tag := .ptr 68, eqs := false }),
  (66, { agg := false, ks := [.oth], zs := [.nils], bytes := 24, tag := .slice 5, eqs := false }),
  (67, { agg := true, ks := [.oth, .oth], zs := [.nilp, .nils], bytes := 32, tag := .strct [(0, 65, 1, false), (1, 66, 1, false)], eqs := false }),
  (68, { agg := true, ks := [.oth, .oth], zs := [.nilp, .nils], bytes := 32, tag := .strct [(0, 65, 1, false), (1, 66, 1, false)], eqs := false }),
  (69, { agg := true, ks := [.oth, .oth, .int .i64, .bool, .int .i64, .int .i64], zs := [.nilp, .nils, .int .i64 (.I 0), .bool (.B false), .int .i64 (.I 0), .int .i64 (.I 0)], bytes := 64, tag := .strct [(0, 68, 2, true), (2, 25, 3, true), (5, 3, 1, false)], eqs := false }),
  (70, { agg := true, ks := [.oth, .oth, .int .i64, .bool, .int .i64, .int .i64], zs := [.nilp, .nils, .int .i64 (.I 0), .bool (.B false), .int .i64 (.I 0), .int .i64 (.I 0)], bytes := 64, tag := .strct [(0, 68, 2, true), (2, 25, 3, true), (5, 3, 1, false)], eqs := false }),
  (79, { agg := false, ks := [.int .u64], zs := [.int .u64 (.I 0)], bytes := 8, tag := .int .u64, eqs := false }),
  (81, { agg := false, ks := [.oth], zs := [.nilp], bytes := 8, tag := .ptr 83, eqs := false }),
  (82, { agg := true, ks := [.str, .bool], zs := [.str (.S []), .bool (.B false)], bytes := 24, tag := .strct [(0, 9, 1, false), (1, 4, 1, false)], eqs := false }),
  (83, { agg := true, ks := [.str, .bool], zs := [.str (.S []), .bool (.B false)], bytes := 24, tag := .strct [(0, 9, 1, false), (1, 4, 1, false)], eqs := true }),
  (90, { agg := false, ks := [.oth], zs := [.nilp], bytes := 8, tag := .ptr 5, eqs := false }),
  (95, { agg := true, ks := [.oth, .oth, .oth, .str], zs := [.nilp, .nilp, .nilp, .str (.S [])], bytes := 40, tag := .strct [(0, 17, 1, false), (1, 17, 1, false), (2, 17, 1, false), (3, 9, 1, false)], eqs := false }),
  (96, { agg := true, ks := [.oth, .oth, .oth, .str], zs := [.nilp, .nilp, .nilp, .str (.S [])], bytes := 40, tag := .strct [(0, 17, 1, false), (1, 17, 1, false), (2, 17, 1, false), (3, 9, 1, false)], eqs := false }),
  (100, { agg := false, ks := [.int .u32], zs := [.int .u32 (.I 0)], bytes := 4, tag := .int .u32, eqs := false }),
  (101, { agg := false, ks := [.int .u8], zs := [.int .u8 (.I 0)], bytes := 1, tag := .int .u8, eqs := false }),
  (102, { agg := false, ks := [.int .u8], zs := [.int .u8 (.I 0)], bytes := 1, tag := .int .u8, eqs := false }),
  (104, { agg := false, ks := [.int .i32], zs := [.int .i32 (.I 0)], bytes := 4, tag := .int .i32, eqs := false }),
  (105, { agg := false, ks := [.int .i32], zs := [.int .i32 (.I 0)], bytes := 4, tag := .int .i32, eqs := false })]
noncomputable def sxE : Env := ⟨sxT, [(0, []), (27, [9, 25, 26]), (32, [9, 26]), (36, [3, 26]), (39, [3, 3, 26]), (42, [9, 3, 26]), (57, [52, 26]), (74, [3, 73]), (85, [3, 9]), (87, [3, 3, 4])], [3, 4, 5, 6, 7, 8, 9, 10, 11, 12, 13, 14, 15, 16, 17, 18, 19, 20, 21, 22, 23, 24, 25, 26, 27, 28, 29, 30, 31, 32, 33, 34, 35, 36, 37, 38, 39, 40, 41, 42, 43, 44, 45, 46, 47, 48, 49, 50, 51, 52, 53, 54, 55, 56, 57, 58, 59, 60, 61, 62, 63, 64, 66], [], [], [45], [(40, Try.f40), (41, Try.f41), (42, Try.f42), (46, Try.f46), (48, Try.f48), (62, Try.f62)]⟩
theorem sxE_check : sxE.check Try.prog = true := by kernel_rfl
theorem sxE_inl : ∀ p ∈ sxE.inl, Try.prog.funcs[p.1]? = some p.2 := List.forall_mem_cons.2 ⟨Try.func40, List.forall_mem_cons.2 ⟨Try.func41, List.forall_mem_cons.2 ⟨Try.func42, List.forall_mem_cons.2 ⟨Try.func46, List.forall_mem_cons.2 ⟨Try.func48, List.forall_mem_cons.2 ⟨Try.func62, List.forall_mem_nil _⟩⟩⟩⟩⟩⟩
theorem sxE_ok : EnvOK Try.prog sxE := Env.ok sxE_check sxE_inl
end Go.Proofs.Ytpcdkcbniokdgaa
