/-
  The executor's table for this translation: types, functions that have a body, functions whose slices are the caller's. Written by a program of mine (wip/mkenv.py); the kernel checks it against the program. By an AI agent.
-/
import Derived.Test.YtcbkkjbgacjncaaDoorRows
import Derived.Test.YtcbkkjbgacjncaaDoorZ05
set_option linter.unusedSimpArgs false
set_option linter.unusedVariables false
namespace Go.Proofs.YtcbkkjbgacjncaaDoor
open Go.Sx
def sxT : Tab := [
  (2, { agg := false, ks := [.int .i64], zs := [.int .i64 (.I 0)], bytes := 8, tag := .int .i64, eqs := false }),
  (3, { agg := false, ks := [.int .i64], zs := [.int .i64 (.I 0)], bytes := 8, tag := .int .i64, eqs := false }),
  (4, { agg := false, ks := [.bool], zs := [.bool (.B false)], bytes := 1, tag := .bool, eqs := false }),
  (5, { agg := false, ks := [.int .u8], zs := [.int .u8 (.I 0)], bytes := 1, tag := .int .u8, eqs := false }),
  (6, { agg := false, ks := [.int .u8], zs := [.int .u8 (.I 0)], bytes := 1, tag := .int .u8, eqs := false }),
  (7, { agg := true, ks := [.int .i64, .int .i64, .bool, .int .u8], zs := [.int .i64 (.I 0), .int .i64 (.I 0), .bool (.B false), .int .u8 (.I 0)], bytes := 24, tag := .strct [(0, 2, 1, false), (1, 3, 1, false), (2, 4, 1, false), (3, 6, 1, false)], eqs := false }),
  (8, { agg := true, ks := [.int .i64, .int .i64, .bool, .int .u8], zs := [.int .i64 (.I 0), .int .i64 (.I 0), .bool (.B false), .int .u8 (.I 0)], bytes := 24, tag := .strct [(0, 2, 1, false), (1, 3, 1, false), (2, 4, 1, false), (3, 6, 1, false)], eqs := false }),
  (9, { agg := false, ks := [.str], zs := [.str (.S [])], bytes := 16, tag := .str, eqs := false }),
  (10, { agg := false, ks := [.str], zs := [.str (.S [])], bytes := 16, tag := .str, eqs := false }),
  (11, { agg := false, ks := [.str], zs := [.str (.S [])], bytes := 16, tag := .str, eqs := false }),
  (12, { agg := false, ks := [.int .u64], zs := [.int .u64 (.I 0)], bytes := 8, tag := .int .u64, eqs := false }),
  (13, { agg := true, ks := [.str, .int .u64], zs := [.str (.S []), .int .u64 (.I 0)], bytes := 24, tag := .strct [(0, 9, 1, false), (1, 12, 1, false)], eqs := false }),
  (14, { agg := true, ks := [.str, .int .u64], zs := [.str (.S []), .int .u64 (.I 0)], bytes := 24, tag := .strct [(0, 9, 1, false), (1, 12, 1, false)], eqs := false }),
  (15, { agg := false, ks := [.oth], zs := [.nilp], bytes := 8, tag := .ptr 100, eqs := false }),
  (16, { agg := false, ks := [.oth], zs := [.nilp], bytes := 8, tag := .ptr 103, eqs := false }),
  (17, { agg := false, ks := [.oth], zs := [.nilp], bytes := 8, tag := .ptr 111, eqs := false }),
  (18, { agg := true, ks := [.oth], zs := [.nilp], bytes := 8, tag := .strct [(0, 17, 1, false)], eqs := false }),
  (19, { agg := true, ks := [.oth], zs := [.nilp], bytes := 8, tag := .strct [(0, 17, 1, false)], eqs := false }),
  (21, { agg := false, ks := [.int .i32], zs := [.int .i32 (.I 0)], bytes := 4, tag := .int .i32, eqs := false }),
  (22, { agg := false, ks := [.int .i64], zs := [.int .i64 (.I 0)], bytes := 8, tag := .int .i64, eqs := false }),
  (26, { agg := false, ks := [.oth], zs := [.nils], bytes := 24, tag := .slice 9, eqs := false }),
  (28, { agg := false, ks := [.oth], zs := [.nils], bytes := 24, tag := .slice 26, eqs := false }),
  (31, { agg := false, ks := [.oth], zs := [.nils], bytes := 24, tag := .slice 3, eqs := false }),
  (32, { agg := false, ks := [.oth], zs := [.nils], bytes := 24, tag := .slice 44, eqs := false }),
  (33, { agg := true, ks := [.str, .bool, .bool, .oth, .oth, .int .i64], zs := [.str (.S []), .bool (.B false), .bool (.B false), .nils, .nils, .int .i64 (.I 0)], bytes := 80, tag := .strct [(0, 9, 1, false), (1, 4, 1, false), (2, 4, 1, false), (3, 32, 1, false), (4, 32, 1, false), (5, 3, 1, false)], eqs := false }),
  (34, { agg := true, ks := [.str, .bool, .bool, .oth, .oth, .int .i64], zs := [.str (.S []), .bool (.B false), .bool (.B false), .nils, .nils, .int .i64 (.I 0)], bytes := 80, tag := .strct [(0, 9, 1, false), (1, 4, 1, false), (2, 4, 1, false), (3, 32, 1, false), (4, 32, 1, false), (5, 3, 1, false)], eqs := false }),
  (38, { agg := false, ks := [.oth], zs := [.nils], bytes := 24, tag := .slice 53, eqs := false }),
  (43, { agg := true, ks := [.int .i64, .str, .str], zs := [.int .i64 (.I 0), .str (.S []), .str (.S [])], bytes := 40, tag := .strct [(0, 3, 1, false), (1, 9, 1, false), (2, 9, 1, false)], eqs := false }),
  (44, { agg := true, ks := [.int .i64, .str, .str], zs := [.int .i64 (.I 0), .str (.S []), .str (.S [])], bytes := 40, tag := .strct [(0, 3, 1, false), (1, 9, 1, false), (2, 9, 1, false)], eqs := true }),
  (51, { agg := false, ks := [.oth], zs := [.nils], bytes := 24, tag := .slice 113, eqs := false }),
  (52, { agg := true, ks := [.int .i64, .bool, .bool, .bool, .bool, .int .i64, .int .i64, .int .i64, .int .i64, .str, .str, .str, .oth, .oth], zs := [.int .i64 (.I 0), .bool (.B false), .bool (.B false), .bool (.B false), .bool (.B false), .int .i64 (.I 0), .int .i64 (.I 0), .int .i64 (.I 0), .int .i64 (.I 0), .str (.S []), .str (.S []), .str (.S []), .nils, .nils], bytes := 144, tag := .strct [(0, 3, 1, false), (1, 4, 1, false), (2, 4, 1, false), (3, 4, 1, false), (4, 4, 1, false), (5, 3, 1, false), (6, 3, 1, false), (7, 3, 1, false), (8, 3, 1, false), (9, 9, 1, false), (10, 9, 1, false), (11, 9, 1, false), (12, 51, 1, false), (13, 31, 1, false)], eqs := false }),
  (53, { agg := true, ks := [.int .i64, .bool, .bool, .bool, .bool, .int .i64, .int .i64, .int .i64, .int .i64, .str, .str, .str, .oth, .oth], zs := [.int .i64 (.I 0), .bool (.B false), .bool (.B false), .bool (.B false), .bool (.B false), .int .i64 (.I 0), .int .i64 (.I 0), .int .i64 (.I 0), .int .i64 (.I 0), .str (.S []), .str (.S []), .str (.S []), .nils, .nils], bytes := 144, tag := .strct [(0, 3, 1, false), (1, 4, 1, false), (2, 4, 1, false), (3, 4, 1, false), (4, 4, 1, false), (5, 3, 1, false), (6, 3, 1, false), (7, 3, 1, false), (8, 3, 1, false), (9, 9, 1, false), (10, 9, 1, false), (11, 9, 1, false), (12, 51, 1, false), (13, 31, 1, false)], eqs := false }),
  (62, { agg := false, ks := [.oth], zs := [.nilp], bytes := 8, tag := .ptr 65, eqs := false }),
  (64, { agg := true, ks := [.str, .bool, .bool, .oth, .oth, .int .i64, .oth], zs := [.str (.S []), .bool (.B false), .bool (.B false), .nils, .nils, .int .i64 (.I 0), .nils], bytes := 104, tag := .strct [(0, 34, 6, true), (6, 38, 1, false)], eqs := false }),
  (65, { agg := true, ks := [.str, .bool, .bool, .oth, .oth, .int .i64, .oth], zs := [.str (.S []), .bool (.B false), .bool (.B false), .nils, .nils, .int .i64 (.I 0), .nils], bytes := 104, tag := .strct [(0, 34, 6, true), (6, 38, 1, false)], eqs := false }),
  (89, { agg := false, ks := [.int .u64], zs := [.int .u64 (.I 0)], bytes := 8, tag := .int .u64, eqs := false }),
  (90, { agg := false, ks := [.oth], zs := [.nilp], bytes := 8, tag := .ptr 79, eqs := false }),
  (92, { agg := true, ks := [.int .u8, .int .u8], zs := [.int .u8 (.I 0), .int .u8 (.I 0)], bytes := 2, tag := .strct [(0, 5, 1, false), (1, 5, 1, false)], eqs := false }),
  (93, { agg := true, ks := [.int .u8, .int .u8], zs := [.int .u8 (.I 0), .int .u8 (.I 0)], bytes := 2, tag := .strct [(0, 5, 1, false), (1, 5, 1, false)], eqs := false }),
  (95, { agg := false, ks := [.int .u32], zs := [.int .u32 (.I 0)], bytes := 4, tag := .int .u32, eqs := false }),
  (99, { agg := true, ks := [.oth, .oth, .oth, .str], zs := [.nilp, .nilp, .nilp, .str (.S [])], bytes := 40, tag := .strct [(0, 17, 1, false), (1, 17, 1, false), (2, 17, 1, false), (3, 9, 1, false)], eqs := false }),
  (100, { agg := true, ks := [.oth, .oth, .oth, .str], zs := [.nilp, .nilp, .nilp, .str (.S [])], bytes := 40, tag := .strct [(0, 17, 1, false), (1, 17, 1, false), (2, 17, 1, false), (3, 9, 1, false)], eqs := false }),
  (104, { agg := false, ks := [.int .u8], zs := [.int .u8 (.I 0)], bytes := 1, tag := .int .u8, eqs := false }),
  (105, { agg := false, ks := [.int .u8], zs := [.int .u8 (.I 0)], bytes := 1, tag := .int .u8, eqs := false }),
  (107, { agg := false, ks := [.oth], zs := [.nilp], bytes := 8, tag := .ptr 5, eqs := false }),
  (108, { agg := false, ks := [.int .i32], zs := [.int .i32 (.I 0)], bytes := 4, tag := .int .i32, eqs := false }),
  (109, { agg := false, ks := [.int .i32], zs := [.int .i32 (.I 0)], bytes := 4, tag := .int .i32, eqs := false }),
  (112, { agg := true, ks := [.str, .int .i64], zs := [.str (.S []), .int .i64 (.I 0)], bytes := 24, tag := .strct [(0, 9, 1, false), (1, 3, 1, false)], eqs := false }),
  (113, { agg := true, ks := [.str, .int .i64], zs := [.str (.S []), .int .i64 (.I 0)], bytes := 24, tag := .strct [(0, 9, 1, false), (1, 3, 1, false)], eqs := true })]
noncomputable def sxE : Env := ⟨sxT, [(0, []), (23, [4, 22]), (35, [34, 22]), (39, [34, 38, 22]), (56, [34, 38]), (80, [79, 4]), (84, [21, 3]), (96, [95, 95])], [3, 4, 5, 6, 7, 8, 9, 10, 11, 12, 13, 14, 15, 16, 17, 18, 19, 20, 21, 22, 23, 24, 25, 26, 27, 28, 29, 30, 31, 32, 33, 34, 35, 36, 37, 38, 39, 40, 41, 42, 43, 44, 45, 46, 47, 48, 49, 50, 51, 52, 53, 54, 55, 56, 57, 58, 59, 61, 62, 63, 64, 66, 67, 68, 70, 91], [49], [], [], [(19, Tryd.f19), (20, Tryd.f20), (21, Tryd.f21), (32, Tryd.f32), (37, Tryd.f37), (39, Tryd.f39), (41, Tryd.f41), (42, Tryd.f42), (45, Tryd.f45), (46, Tryd.f46), (47, Tryd.f47), (48, Tryd.f48), (50, Tryd.f50)], [], []⟩
theorem sxE_check : sxE.check Tryd.prog = true := by kernel_rfl
theorem sxE_inl : ∀ p ∈ sxE.inl, Tryd.prog.funcs[p.1]? = some p.2 := List.forall_mem_cons.2 ⟨Tryd.func19, List.forall_mem_cons.2 ⟨Tryd.func20, List.forall_mem_cons.2 ⟨Tryd.func21, List.forall_mem_cons.2 ⟨Tryd.func32, List.forall_mem_cons.2 ⟨Tryd.func37, List.forall_mem_cons.2 ⟨Tryd.func39, List.forall_mem_cons.2 ⟨Tryd.func41, List.forall_mem_cons.2 ⟨Tryd.func42, List.forall_mem_cons.2 ⟨Tryd.func45, List.forall_mem_cons.2 ⟨Tryd.func46, List.forall_mem_cons.2 ⟨Tryd.func47, List.forall_mem_cons.2 ⟨Tryd.func48, List.forall_mem_cons.2 ⟨Tryd.func50, List.forall_mem_nil _⟩⟩⟩⟩⟩⟩⟩⟩⟩⟩⟩⟩⟩
theorem sxE_ok : EnvOK Tryd.prog sxE := Env.ok sxE_check sxE_inl
end Go.Proofs.YtcbkkjbgacjncaaDoor
