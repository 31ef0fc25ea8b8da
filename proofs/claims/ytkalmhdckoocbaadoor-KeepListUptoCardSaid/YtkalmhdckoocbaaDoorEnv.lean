/-
  The executor's table for this translation: types, functions that have a body, functions whose slices are the caller's. Written by a program of mine (wip/mkenv.py); the kernel checks it against the program. By an AI agent.
-/
import Derived.Test.YtkalmhdckoocbaaDoorRows
import Derived.Test.YtkalmhdckoocbaaDoorSxO
set_option linter.unusedSimpArgs false
set_option linter.unusedVariables false
namespace Go.Proofs.YtkalmhdckoocbaaDoor
open Go.Sx
def sxT : Tab := [
  (2, { agg := false, ks := [.int .i64], zs := [.int .i64 (.I 0)], bytes := 8, tag := .int .i64, eqs := false }),
  (3, { agg := false, ks := [.int .i64], zs := [.int .i64 (.I 0)], bytes := 8, tag := .int .i64, eqs := false }),
  (4, { agg := false, ks := [.bool], zs := [.bool (.B false)], bytes := 1, tag := .bool, eqs := false }),
  (5, { agg := false, ks := [.int .u8], zs := [.int .u8 (.I 0)], bytes := 1, tag := .int .u8, eqs := false }),
  (6, { agg := false, ks := [.int .u8], zs := [.int .u8 (.I 0)], bytes := 1, tag := .int .u8, eqs := false }),
  (7, { agg := true, ks := [.int .i64, .int .i64, .bool, .int .u8], zs := [.int .i64 (.I 0), .int .i64 (.I 0), .bool (.B false), .int .u8 (.I 0)], bytes := 24, tag := .strct [(0, 2, 1, false), (1, 3, 1, false), (2, 4, 1, false), (3, 6, 1, false)], eqs := false }),
  (8, { agg := true, ks := [.int .i64, .int .i64, .bool, .int .u8], zs := [.int .i64 (.I 0), .int .i64 (.I 0), .bool (.B false), .int .u8 (.I 0)], bytes := 24, tag := .strct [(0, 2, 1, false), (1, 3, 1, false), (2, 4, 1, false), (3, 6, 1, false)], eqs := false }),
  (9, { agg := false, ks := [.str], zs := [.str (.S [])], bytes := 16, tag := .str, eqs := false }),
  (10, { agg := false, ks := [.str], zs := [.str (.S [])], bytes := 16, tag := .str, eqs := false }),
  (11, { agg := false, ks := [.str], zs := [.str (.S [])], bytes := 16, tag := .str, eqs := false }),
  (12, { agg := false, ks := [.int .u64], zs := [.int .u64 (.I 0)], bytes := 8, tag := .int .u64, eqs := false }),
  (13, { agg := true, ks := [.str, .int .u64], zs := [.str (.S []), .int .u64 (.I 0)], bytes := 24, tag := .strct [(0, 9, 1, false), (1, 12, 1, false)], eqs := false }),
  (14, { agg := true, ks := [.str, .int .u64], zs := [.str (.S []), .int .u64 (.I 0)], bytes := 24, tag := .strct [(0, 9, 1, false), (1, 12, 1, false)], eqs := false }),
  (15, { agg := false, ks := [.oth], zs := [.nilp], bytes := 8, tag := .ptr 169, eqs := false }),
  (16, { agg := false, ks := [.oth], zs := [.nilp], bytes := 8, tag := .ptr 172, eqs := false }),
  (17, { agg := false, ks := [.oth], zs := [.nilp], bytes := 8, tag := .ptr 180, eqs := false }),
  (18, { agg := true, ks := [.oth], zs := [.nilp], bytes := 8, tag := .strct [(0, 17, 1, false)], eqs := false }),
  (19, { agg := true, ks := [.oth], zs := [.nilp], bytes := 8, tag := .strct [(0, 17, 1, false)], eqs := false }),
  (21, { agg := false, ks := [.int .i32], zs := [.int .i32 (.I 0)], bytes := 4, tag := .int .i32, eqs := false }),
  (23, { agg := false, ks := [.int .i64], zs := [.int .i64 (.I 0)], bytes := 8, tag := .int .i64, eqs := false }),
  (30, { agg := false, ks := [.oth], zs := [.nils], bytes := 24, tag := .slice 9, eqs := false }),
  (32, { agg := false, ks := [.oth], zs := [.nils], bytes := 24, tag := .slice 30, eqs := false }),
  (33, { agg := false, ks := [.oth], zs := [.nils], bytes := 24, tag := .slice 49, eqs := false }),
  (48, { agg := true, ks := [.int .i64, .str, .str, .int .i64], zs := [.int .i64 (.I 0), .str (.S []), .str (.S []), .int .i64 (.I 0)], bytes := 48, tag := .strct [(0, 3, 1, false), (1, 9, 1, false), (2, 9, 1, false), (3, 3, 1, false)], eqs := false }),
  (49, { agg := true, ks := [.int .i64, .str, .str, .int .i64], zs := [.int .i64 (.I 0), .str (.S []), .str (.S []), .int .i64 (.I 0)], bytes := 48, tag := .strct [(0, 3, 1, false), (1, 9, 1, false), (2, 9, 1, false), (3, 3, 1, false)], eqs := true }),
  (53, { agg := false, ks := [.oth], zs := [.nils], bytes := 24, tag := .slice 73, eqs := false }),
  (54, { agg := true, ks := [.str, .bool, .bool, .oth, .oth, .int .i64], zs := [.str (.S []), .bool (.B false), .bool (.B false), .nils, .nils, .int .i64 (.I 0)], bytes := 80, tag := .strct [(0, 9, 1, false), (1, 4, 1, false), (2, 4, 1, false), (3, 53, 1, false), (4, 53, 1, false), (5, 3, 1, false)], eqs := false }),
  (55, { agg := true, ks := [.str, .bool, .bool, .oth, .oth, .int .i64], zs := [.str (.S []), .bool (.B false), .bool (.B false), .nils, .nils, .int .i64 (.I 0)], bytes := 80, tag := .strct [(0, 9, 1, false), (1, 4, 1, false), (2, 4, 1, false), (3, 53, 1, false), (4, 53, 1, false), (5, 3, 1, false)], eqs := false }),
  (56, { agg := false, ks := [.oth], zs := [.nils], bytes := 24, tag := .slice 104, eqs := false }),
  (71, { agg := false, ks := [.oth], zs := [.nils], bytes := 24, tag := .slice 3, eqs := false }),
  (72, { agg := true, ks := [.int .i64, .str, .str], zs := [.int .i64 (.I 0), .str (.S []), .str (.S [])], bytes := 40, tag := .strct [(0, 3, 1, false), (1, 9, 1, false), (2, 9, 1, false)], eqs := false }),
  (73, { agg := true, ks := [.int .i64, .str, .str], zs := [.int .i64 (.I 0), .str (.S []), .str (.S [])], bytes := 40, tag := .strct [(0, 3, 1, false), (1, 9, 1, false), (2, 9, 1, false)], eqs := true }),
  (75, { agg := false, ks := [.oth], zs := [.nils], bytes := 24, tag := .slice 79, eqs := false }),
  (78, { agg := true, ks := [.str, .str, .int .i64], zs := [.str (.S []), .str (.S []), .int .i64 (.I 0)], bytes := 40, tag := .strct [(0, 9, 1, false), (1, 9, 1, false), (2, 3, 1, false)], eqs := false }),
  (79, { agg := true, ks := [.str, .str, .int .i64], zs := [.str (.S []), .str (.S []), .int .i64 (.I 0)], bytes := 40, tag := .strct [(0, 9, 1, false), (1, 9, 1, false), (2, 3, 1, false)], eqs := true }),
  (102, { agg := false, ks := [.oth], zs := [.nils], bytes := 24, tag := .slice 141, eqs := false }),
  (103, { agg := true, ks := [.int .i64, .bool, .bool, .bool, .bool, .int .i64, .int .i64, .int .i64, .int .i64, .str, .str, .str, .oth, .oth], zs := [.int .i64 (.I 0), .bool (.B false), .bool (.B false), .bool (.B false), .bool (.B false), .int .i64 (.I 0), .int .i64 (.I 0), .int .i64 (.I 0), .int .i64 (.I 0), .str (.S []), .str (.S []), .str (.S []), .nils, .nils], bytes := 144, tag := .strct [(0, 3, 1, false), (1, 4, 1, false), (2, 4, 1, false), (3, 4, 1, false), (4, 4, 1, false), (5, 3, 1, false), (6, 3, 1, false), (7, 3, 1, false), (8, 3, 1, false), (9, 9, 1, false), (10, 9, 1, false), (11, 9, 1, false), (12, 102, 1, false), (13, 71, 1, false)], eqs := false }),
  (104, { agg := true, ks := [.int .i64, .bool, .bool, .bool, .bool, .int .i64, .int .i64, .int .i64, .int .i64, .str, .str, .str, .oth, .oth], zs := [.int .i64 (.I 0), .bool (.B false), .bool (.B false), .bool (.B false), .bool (.B false), .int .i64 (.I 0), .int .i64 (.I 0), .int .i64 (.I 0), .int .i64 (.I 0), .str (.S []), .str (.S []), .str (.S []), .nils, .nils], bytes := 144, tag := .strct [(0, 3, 1, false), (1, 4, 1, false), (2, 4, 1, false), (3, 4, 1, false), (4, 4, 1, false), (5, 3, 1, false), (6, 3, 1, false), (7, 3, 1, false), (8, 3, 1, false), (9, 9, 1, false), (10, 9, 1, false), (11, 9, 1, false), (12, 102, 1, false), (13, 71, 1, false)], eqs := false }),
  (117, { agg := false, ks := [.oth], zs := [.nilp], bytes := 8, tag := .ptr 120, eqs := false }),
  (119, { agg := true, ks := [.str, .bool, .bool, .oth, .oth, .int .i64, .oth], zs := [.str (.S []), .bool (.B false), .bool (.B false), .nils, .nils, .int .i64 (.I 0), .nils], bytes := 104, tag := .strct [(0, 55, 6, true), (6, 56, 1, false)], eqs := false }),
  (120, { agg := true, ks := [.str, .bool, .bool, .oth, .oth, .int .i64, .oth], zs := [.str (.S []), .bool (.B false), .bool (.B false), .nils, .nils, .int .i64 (.I 0), .nils], bytes := 104, tag := .strct [(0, 55, 6, true), (6, 56, 1, false)], eqs := false }),
  (140, { agg := true, ks := [.str, .int .i64], zs := [.str (.S []), .int .i64 (.I 0)], bytes := 24, tag := .strct [(0, 9, 1, false), (1, 3, 1, false)], eqs := false }),
  (141, { agg := true, ks := [.str, .int .i64], zs := [.str (.S []), .int .i64 (.I 0)], bytes := 24, tag := .strct [(0, 9, 1, false), (1, 3, 1, false)], eqs := true }),
  (143, { agg := false, ks := [.int .u64], zs := [.int .u64 (.I 0)], bytes := 8, tag := .int .u64, eqs := false }),
  (155, { agg := false, ks := [.oth], zs := [.nilp], bytes := 8, tag := .ptr 147, eqs := false }),
  (161, { agg := true, ks := [.int .u8, .int .u8], zs := [.int .u8 (.I 0), .int .u8 (.I 0)], bytes := 2, tag := .strct [(0, 5, 1, false), (1, 5, 1, false)], eqs := false }),
  (162, { agg := true, ks := [.int .u8, .int .u8], zs := [.int .u8 (.I 0), .int .u8 (.I 0)], bytes := 2, tag := .strct [(0, 5, 1, false), (1, 5, 1, false)], eqs := false }),
  (164, { agg := false, ks := [.int .u32], zs := [.int .u32 (.I 0)], bytes := 4, tag := .int .u32, eqs := false }),
  (168, { agg := true, ks := [.oth, .oth, .oth, .str], zs := [.nilp, .nilp, .nilp, .str (.S [])], bytes := 40, tag := .strct [(0, 17, 1, false), (1, 17, 1, false), (2, 17, 1, false), (3, 9, 1, false)], eqs := false }),
  (169, { agg := true, ks := [.oth, .oth, .oth, .str], zs := [.nilp, .nilp, .nilp, .str (.S [])], bytes := 40, tag := .strct [(0, 17, 1, false), (1, 17, 1, false), (2, 17, 1, false), (3, 9, 1, false)], eqs := false }),
  (173, { agg := false, ks := [.int .u8], zs := [.int .u8 (.I 0)], bytes := 1, tag := .int .u8, eqs := false }),
  (174, { agg := false, ks := [.int .u8], zs := [.int .u8 (.I 0)], bytes := 1, tag := .int .u8, eqs := false }),
  (176, { agg := false, ks := [.oth], zs := [.nilp], bytes := 8, tag := .ptr 5, eqs := false }),
  (177, { agg := false, ks := [.int .i32], zs := [.int .i32 (.I 0)], bytes := 4, tag := .int .i32, eqs := false }),
  (178, { agg := false, ks := [.int .i32], zs := [.int .i32 (.I 0)], bytes := 4, tag := .int .i32, eqs := false })]
noncomputable def sxE : Env := ⟨sxT, [(0, []), (25, [4, 23]), (34, [33, 23]), (37, [33, 33, 23]), (43, [33, 33]), (57, [55, 56, 23]), (61, [55, 23]), (64, [55, 56]), (76, [75, 23]), (80, [79, 23]), (109, [3, 4]), (148, [147, 4]), (157, [21, 3]), (165, [164, 164])], [3, 4, 5, 6, 7, 8, 9, 10, 11, 12, 13, 14, 15, 16, 17, 18, 19, 20, 21, 22, 23, 24, 25, 26, 27, 28, 29, 30, 31, 32, 33, 34, 35, 36, 37, 38, 39, 40, 41, 42, 43, 44, 45, 46, 47, 48, 49, 50, 51, 52, 53, 54, 55, 56, 57, 58, 59, 60, 61, 62, 63, 64, 65, 66, 67, 68, 69, 70, 71, 72, 73, 74, 75, 76, 77, 78, 79, 80, 81, 82, 83, 84, 85, 86, 87, 88, 89, 90, 91, 92, 93, 94, 95, 96, 97, 98, 99, 100, 101, 102, 103, 104, 105, 106, 107, 108, 109, 110, 111, 112, 113, 114, 115, 116, 117, 118, 119, 120, 121, 122, 123, 124, 125, 126, 127, 128, 129, 130, 131, 133, 134, 135, 136, 137, 138, 139, 140, 141, 142, 143, 145, 146, 147, 149, 150, 152, 153, 154, 155, 156, 158, 179], [31, 71, 105, 116, 117, 118, 128], [86, 117, 118], [], [(60, Tryd.f60), (61, Tryd.f61), (62, Tryd.f62), (66, Tryd.f66), (70, Tryd.f70), (73, Tryd.f73), (74, Tryd.f74), (76, Tryd.f76), (77, Tryd.f77), (78, Tryd.f78), (93, Tryd.f93), (104, Tryd.f104), (106, Tryd.f106), (107, Tryd.f107), (108, Tryd.f108), (110, Tryd.f110), (111, Tryd.f111), (112, Tryd.f112), (119, Tryd.f119), (120, Tryd.f120), (122, Tryd.f122), (123, Tryd.f123), (126, Tryd.f126), (127, Tryd.f127), (129, Tryd.f129), (130, Tryd.f130), (131, Tryd.f131), (135, Tryd.f135)]⟩
theorem sxE_check : sxE.check Tryd.prog = true := by kernel_rfl
theorem sxE_inl : ∀ p ∈ sxE.inl, Tryd.prog.funcs[p.1]? = some p.2 := List.forall_mem_cons.2 ⟨Tryd.func60, List.forall_mem_cons.2 ⟨Tryd.func61, List.forall_mem_cons.2 ⟨Tryd.func62, List.forall_mem_cons.2 ⟨Tryd.func66, List.forall_mem_cons.2 ⟨Tryd.func70, List.forall_mem_cons.2 ⟨Tryd.func73, List.forall_mem_cons.2 ⟨Tryd.func74, List.forall_mem_cons.2 ⟨Tryd.func76, List.forall_mem_cons.2 ⟨Tryd.func77, List.forall_mem_cons.2 ⟨Tryd.func78, List.forall_mem_cons.2 ⟨Tryd.func93, List.forall_mem_cons.2 ⟨Tryd.func104, List.forall_mem_cons.2 ⟨Tryd.func106, List.forall_mem_cons.2 ⟨Tryd.func107, List.forall_mem_cons.2 ⟨Tryd.func108, List.forall_mem_cons.2 ⟨Tryd.func110, List.forall_mem_cons.2 ⟨Tryd.func111, List.forall_mem_cons.2 ⟨Tryd.func112, List.forall_mem_cons.2 ⟨Tryd.func119, List.forall_mem_cons.2 ⟨Tryd.func120, List.forall_mem_cons.2 ⟨Tryd.func122, List.forall_mem_cons.2 ⟨Tryd.func123, List.forall_mem_cons.2 ⟨Tryd.func126, List.forall_mem_cons.2 ⟨Tryd.func127, List.forall_mem_cons.2 ⟨Tryd.func129, List.forall_mem_cons.2 ⟨Tryd.func130, List.forall_mem_cons.2 ⟨Tryd.func131, List.forall_mem_cons.2 ⟨Tryd.func135, List.forall_mem_nil _⟩⟩⟩⟩⟩⟩⟩⟩⟩⟩⟩⟩⟩⟩⟩⟩⟩⟩⟩⟩⟩⟩⟩⟩⟩⟩⟩⟩
theorem sxE_ok : EnvOK Tryd.prog sxE := Env.ok sxE_check sxE_inl
end Go.Proofs.YtkalmhdckoocbaaDoor
