/-
  The executor's table for this translation: types, functions that have a body, functions whose slices are the caller's. Written by a program of mine (wip/mkenv.py); the kernel checks it against the program. By an AI agent.
-/
import Derived.Test.YtkhakgbnfapifaaGreatDoorRows
import Derived.Test.YtkhakgbnfapifaaGreatDoorW05
set_option linter.unusedSimpArgs false
set_option linter.unusedVariables false
set_option maxHeartbeats 20000000
namespace Go.Proofs.YtkhakgbnfapifaaGreatDoor
open Go.Sx
def sxT:Tab:=[
 (2,{ agg:=false,ks:=[.int .i64],zs:=[.int .i64 (.I 0)],bytes:=8,tag:=.int .i64,eqs:=false }),
 (3,{ agg:=false,ks:=[.int .i64],zs:=[.int .i64 (.I 0)],bytes:=8,tag:=.int .i64,eqs:=false }),
 (4,{ agg:=false,ks:=[.bool],zs:=[.bool (.B false)],bytes:=1,tag:=.bool,eqs:=false }),
 (5,{ agg:=false,ks:=[.int .u8],zs:=[.int .u8 (.I 0)],bytes:=1,tag:=.int .u8,eqs:=false }),
 (6,{ agg:=false,ks:=[.int .u8],zs:=[.int .u8 (.I 0)],bytes:=1,tag:=.int .u8,eqs:=false }),
 (7,{ agg:=true,ks:=[.int .i64,.int .i64,.bool,.int .u8],zs:=[.int .i64 (.I 0),.int .i64 (.I 0),.bool (.B false),.int .u8 (.I 0)],bytes:=24,tag:=.strct [(0,2,1,false),(1,3,1,false),(2,4,1,false),(3,6,1,false)],eqs:=false }),
 (8,{ agg:=true,ks:=[.int .i64,.int .i64,.bool,.int .u8],zs:=[.int .i64 (.I 0),.int .i64 (.I 0),.bool (.B false),.int .u8 (.I 0)],bytes:=24,tag:=.strct [(0,2,1,false),(1,3,1,false),(2,4,1,false),(3,6,1,false)],eqs:=false }),
 (9,{ agg:=false,ks:=[.str],zs:=[.str (.S [])],bytes:=16,tag:=.str,eqs:=false }),
 (10,{ agg:=false,ks:=[.str],zs:=[.str (.S [])],bytes:=16,tag:=.str,eqs:=false }),
 (11,{ agg:=false,ks:=[.str],zs:=[.str (.S [])],bytes:=16,tag:=.str,eqs:=false }),
 (12,{ agg:=false,ks:=[.int .u64],zs:=[.int .u64 (.I 0)],bytes:=8,tag:=.int .u64,eqs:=false }),
 (13,{ agg:=true,ks:=[.str,.int .u64],zs:=[.str (.S []),.int .u64 (.I 0)],bytes:=24,tag:=.strct [(0,9,1,false),(1,12,1,false)],eqs:=false }),
 (14,{ agg:=true,ks:=[.str,.int .u64],zs:=[.str (.S []),.int .u64 (.I 0)],bytes:=24,tag:=.strct [(0,9,1,false),(1,12,1,false)],eqs:=false }),
 (15,{ agg:=false,ks:=[.oth],zs:=[.nilp],bytes:=8,tag:=.ptr 353,eqs:=false }),
 (16,{ agg:=false,ks:=[.oth],zs:=[.nilp],bytes:=8,tag:=.ptr 356,eqs:=false }),
 (17,{ agg:=false,ks:=[.oth],zs:=[.nilp],bytes:=8,tag:=.ptr 363,eqs:=false }),
 (18,{ agg:=true,ks:=[.oth],zs:=[.nilp],bytes:=8,tag:=.strct [(0,17,1,false)],eqs:=false }),
 (19,{ agg:=true,ks:=[.oth],zs:=[.nilp],bytes:=8,tag:=.strct [(0,17,1,false)],eqs:=false }),
 (21,{ agg:=false,ks:=[.int .i32],zs:=[.int .i32 (.I 0)],bytes:=4,tag:=.int .i32,eqs:=false }),
 (22,{ agg:=false,ks:=[.oth],zs:=[.nils],bytes:=24,tag:=.slice 106,eqs:=false }),
 (23,{ agg:=false,ks:=[.oth],zs:=[.nils],bytes:=24,tag:=.slice 90,eqs:=false }),
 (24,{ agg:=false,ks:=[.oth],zs:=[.nils],bytes:=24,tag:=.slice 63,eqs:=false }),
 (25,{ agg:=false,ks:=[.oth],zs:=[.nils],bytes:=24,tag:=.slice 68,eqs:=false }),
 (26,{ agg:=true,ks:=[.oth,.oth,.oth,.oth,.int .i64],zs:=[.nils,.nils,.nils,.nils,.int .i64 (.I 0)],bytes:=104,tag:=.strct [(0,22,1,false),(1,23,1,false),(2,24,1,false),(3,25,1,false),(4,3,1,false)],eqs:=false }),
 (27,{ agg:=true,ks:=[.oth,.oth,.oth,.oth,.int .i64],zs:=[.nils,.nils,.nils,.nils,.int .i64 (.I 0)],bytes:=104,tag:=.strct [(0,22,1,false),(1,23,1,false),(2,24,1,false),(3,25,1,false),(4,3,1,false)],eqs:=false }),
 (28,{ agg:=false,ks:=[.oth],zs:=[.nils],bytes:=24,tag:=.slice 88,eqs:=false }),
 (29,{ agg:=false,ks:=[.oth],zs:=[.nils],bytes:=24,tag:=.slice 3,eqs:=false }),
 (30,{ agg:=true,ks:=[.int .i64,.bool,.bool,.bool,.bool,.int .i64,.int .i64,.int .i64,.int .i64,.str,.str,.str,.oth,.oth],zs:=[.int .i64 (.I 0),.bool (.B false),.bool (.B false),.bool (.B false),.bool (.B false),.int .i64 (.I 0),.int .i64 (.I 0),.int .i64 (.I 0),.int .i64 (.I 0),.str (.S []),.str (.S []),.str (.S []),.nils,.nils],bytes:=144,tag:=.strct [(0,3,1,false),(1,4,1,false),(2,4,1,false),(3,4,1,false),(4,4,1,false),(5,3,1,false),(6,3,1,false),(7,3,1,false),(8,3,1,false),(9,9,1,false),(10,9,1,false),(11,9,1,false),(12,28,1,false),(13,29,1,false)],eqs:=false }),
 (31,{ agg:=true,ks:=[.int .i64,.bool,.bool,.bool,.bool,.int .i64,.int .i64,.int .i64,.int .i64,.str,.str,.str,.oth,.oth],zs:=[.int .i64 (.I 0),.bool (.B false),.bool (.B false),.bool (.B false),.bool (.B false),.int .i64 (.I 0),.int .i64 (.I 0),.int .i64 (.I 0),.int .i64 (.I 0),.str (.S []),.str (.S []),.str (.S []),.nils,.nils],bytes:=144,tag:=.strct [(0,3,1,false),(1,4,1,false),(2,4,1,false),(3,4,1,false),(4,4,1,false),(5,3,1,false),(6,3,1,false),(7,3,1,false),(8,3,1,false),(9,9,1,false),(10,9,1,false),(11,9,1,false),(12,28,1,false),(13,29,1,false)],eqs:=false }),
 (32,{ agg:=false,ks:=[.oth],zs:=[.nils],bytes:=24,tag:=.slice 57,eqs:=false }),
 (33,{ agg:=false,ks:=[.int .i64],zs:=[.int .i64 (.I 0)],bytes:=8,tag:=.int .i64,eqs:=false }),
 (41,{ agg:=true,ks:=[.oth,.oth,.oth,.oth,.int .i64,.oth],zs:=[.nils,.nils,.nils,.nils,.int .i64 (.I 0),.nils],bytes:=128,tag:=.strct [(0,27,5,true),(5,32,1,false)],eqs:=false }),
 (42,{ agg:=true,ks:=[.oth,.oth,.oth,.oth,.int .i64,.oth],zs:=[.nils,.nils,.nils,.nils,.int .i64 (.I 0),.nils],bytes:=128,tag:=.strct [(0,27,5,true),(5,32,1,false)],eqs:=false }),
 (48,{ agg:=false,ks:=[.oth],zs:=[.nils],bytes:=24,tag:=.slice 127,eqs:=false }),
 (49,{ agg:=true,ks:=[.int .i64,.int .i64,.int .i64,.str,.oth,.str],zs:=[.int .i64 (.I 0),.int .i64 (.I 0),.int .i64 (.I 0),.str (.S []),.nils,.str (.S [])],bytes:=80,tag:=.strct [(0,3,1,false),(1,3,1,false),(2,3,1,false),(3,9,1,false),(4,48,1,false),(5,9,1,false)],eqs:=false }),
 (50,{ agg:=true,ks:=[.int .i64,.int .i64,.int .i64,.str,.oth,.str],zs:=[.int .i64 (.I 0),.int .i64 (.I 0),.int .i64 (.I 0),.str (.S []),.nils,.str (.S [])],bytes:=80,tag:=.strct [(0,3,1,false),(1,3,1,false),(2,3,1,false),(3,9,1,false),(4,48,1,false),(5,9,1,false)],eqs:=false }),
 (56,{ agg:=true,ks:=[.str,.int .i64,.bool,.bool,.bool,.bool,.int .i64,.int .i64,.int .i64,.int .i64,.str,.str,.str,.oth,.oth,.int .i64,.int .i64,.int .i64,.int .i64,.str,.oth,.str],zs:=[.str (.S []),.int .i64 (.I 0),.bool (.B false),.bool (.B false),.bool (.B false),.bool (.B false),.int .i64 (.I 0),.int .i64 (.I 0),.int .i64 (.I 0),.int .i64 (.I 0),.str (.S []),.str (.S []),.str (.S []),.nils,.nils,.int .i64 (.I 0),.int .i64 (.I 0),.int .i64 (.I 0),.int .i64 (.I 0),.str (.S []),.nils,.str (.S [])],bytes:=248,tag:=.strct [(0,9,1,false),(1,31,14,true),(15,3,1,false),(16,50,6,true)],eqs:=false }),
 (57,{ agg:=true,ks:=[.str,.int .i64,.bool,.bool,.bool,.bool,.int .i64,.int .i64,.int .i64,.int .i64,.str,.str,.str,.oth,.oth,.int .i64,.int .i64,.int .i64,.int .i64,.str,.oth,.str],zs:=[.str (.S []),.int .i64 (.I 0),.bool (.B false),.bool (.B false),.bool (.B false),.bool (.B false),.int .i64 (.I 0),.int .i64 (.I 0),.int .i64 (.I 0),.int .i64 (.I 0),.str (.S []),.str (.S []),.str (.S []),.nils,.nils,.int .i64 (.I 0),.int .i64 (.I 0),.int .i64 (.I 0),.int .i64 (.I 0),.str (.S []),.nils,.str (.S [])],bytes:=248,tag:=.strct [(0,9,1,false),(1,31,14,true),(15,3,1,false),(16,50,6,true)],eqs:=false }),
 (61,{ agg:=false,ks:=[.oth],zs:=[.nils],bytes:=24,tag:=.slice 172,eqs:=false }),
 (62,{ agg:=true,ks:=[.str,.bool,.bool,.oth,.oth,.int .i64],zs:=[.str (.S []),.bool (.B false),.bool (.B false),.nils,.nils,.int .i64 (.I 0)],bytes:=80,tag:=.strct [(0,9,1,false),(1,4,1,false),(2,4,1,false),(3,61,1,false),(4,61,1,false),(5,3,1,false)],eqs:=false }),
 (63,{ agg:=true,ks:=[.str,.bool,.bool,.oth,.oth,.int .i64],zs:=[.str (.S []),.bool (.B false),.bool (.B false),.nils,.nils,.int .i64 (.I 0)],bytes:=80,tag:=.strct [(0,9,1,false),(1,4,1,false),(2,4,1,false),(3,61,1,false),(4,61,1,false),(5,3,1,false)],eqs:=false }),
 (64,{ agg:=false,ks:=[.oth],zs:=[.nils],bytes:=24,tag:=.slice 71,eqs:=false }),
 (67,{ agg:=true,ks:=[.int .i64,.str,.str,.int .i64],zs:=[.int .i64 (.I 0),.str (.S []),.str (.S []),.int .i64 (.I 0)],bytes:=48,tag:=.strct [(0,3,1,false),(1,9,1,false),(2,9,1,false),(3,3,1,false)],eqs:=false }),
 (68,{ agg:=true,ks:=[.int .i64,.str,.str,.int .i64],zs:=[.int .i64 (.I 0),.str (.S []),.str (.S []),.int .i64 (.I 0)],bytes:=48,tag:=.strct [(0,3,1,false),(1,9,1,false),(2,9,1,false),(3,3,1,false)],eqs:=true }),
 (70,{ agg:=true,ks:=[.str,.int .i64],zs:=[.str (.S []),.int .i64 (.I 0)],bytes:=24,tag:=.strct [(0,9,1,false),(1,3,1,false)],eqs:=false }),
 (71,{ agg:=true,ks:=[.str,.int .i64],zs:=[.str (.S []),.int .i64 (.I 0)],bytes:=24,tag:=.strct [(0,9,1,false),(1,3,1,false)],eqs:=true }),
 (80,{ agg:=false,ks:=[.oth],zs:=[.nilp],bytes:=8,tag:=.ptr 165,eqs:=false }),
 (87,{ agg:=true,ks:=[.str,.int .i64],zs:=[.str (.S []),.int .i64 (.I 0)],bytes:=24,tag:=.strct [(0,9,1,false),(1,3,1,false)],eqs:=false }),
 (88,{ agg:=true,ks:=[.str,.int .i64],zs:=[.str (.S []),.int .i64 (.I 0)],bytes:=24,tag:=.strct [(0,9,1,false),(1,3,1,false)],eqs:=true }),
 (89,{ agg:=true,ks:=[.str,.str,.int .i64],zs:=[.str (.S []),.str (.S []),.int .i64 (.I 0)],bytes:=40,tag:=.strct [(0,9,1,false),(1,88,2,true)],eqs:=false }),
 (90,{ agg:=true,ks:=[.str,.str,.int .i64],zs:=[.str (.S []),.str (.S []),.int .i64 (.I 0)],bytes:=40,tag:=.strct [(0,9,1,false),(1,88,2,true)],eqs:=true }),
 (95,{ agg:=false,ks:=[.oth],zs:=[.nilp],bytes:=8,tag:=.ptr 42,eqs:=false }),
 (97,{ agg:=false,ks:=[.oth],zs:=[.nils],bytes:=24,tag:=.slice 31,eqs:=false }),
 (105,{ agg:=true,ks:=[.str,.str,.int .i64],zs:=[.str (.S []),.str (.S []),.int .i64 (.I 0)],bytes:=40,tag:=.strct [(0,9,1,false),(1,9,1,false),(2,3,1,false)],eqs:=false }),
 (106,{ agg:=true,ks:=[.str,.str,.int .i64],zs:=[.str (.S []),.str (.S []),.int .i64 (.I 0)],bytes:=40,tag:=.strct [(0,9,1,false),(1,9,1,false),(2,3,1,false)],eqs:=true }),
 (126,{ agg:=true,ks:=[.int .i64,.str],zs:=[.int .i64 (.I 0),.str (.S [])],bytes:=24,tag:=.strct [(0,3,1,false),(1,9,1,false)],eqs:=false }),
 (127,{ agg:=true,ks:=[.int .i64,.str],zs:=[.int .i64 (.I 0),.str (.S [])],bytes:=24,tag:=.strct [(0,3,1,false),(1,9,1,false)],eqs:=true }),
 (149,{ agg:=true,ks:=[.int .i64,.bool,.int .i64],zs:=[.int .i64 (.I 0),.bool (.B false),.int .i64 (.I 0)],bytes:=24,tag:=.strct [(0,3,1,false),(1,4,1,false),(2,3,1,false)],eqs:=false }),
 (150,{ agg:=true,ks:=[.int .i64,.bool,.int .i64],zs:=[.int .i64 (.I 0),.bool (.B false),.int .i64 (.I 0)],bytes:=24,tag:=.strct [(0,3,1,false),(1,4,1,false),(2,3,1,false)],eqs:=true }),
 (155,{ agg:=false,ks:=[.oth],zs:=[.nils],bytes:=24,tag:=.slice 9,eqs:=false }),
 (164,{ agg:=true,ks:=[.oth,.oth,.oth,.oth,.int .i64,.oth],zs:=[.nils,.nils,.nils,.nils,.int .i64 (.I 0),.nils],bytes:=128,tag:=.strct [(0,27,5,true),(5,32,1,false)],eqs:=false }),
 (165,{ agg:=true,ks:=[.oth,.oth,.oth,.oth,.int .i64,.oth],zs:=[.nils,.nils,.nils,.nils,.int .i64 (.I 0),.nils],bytes:=128,tag:=.strct [(0,27,5,true),(5,32,1,false)],eqs:=false }),
 (171,{ agg:=true,ks:=[.int .i64,.str,.str],zs:=[.int .i64 (.I 0),.str (.S []),.str (.S [])],bytes:=40,tag:=.strct [(0,3,1,false),(1,9,1,false),(2,9,1,false)],eqs:=false }),
 (172,{ agg:=true,ks:=[.int .i64,.str,.str],zs:=[.int .i64 (.I 0),.str (.S []),.str (.S [])],bytes:=40,tag:=.strct [(0,3,1,false),(1,9,1,false),(2,9,1,false)],eqs:=true }),
 (184,{ agg:=false,ks:=[.oth],zs:=[.nils],bytes:=24,tag:=.slice 114,eqs:=false }),
 (202,{ agg:=false,ks:=[.oth],zs:=[.nilm],bytes:=8,tag:=.other,eqs:=false }),
 (207,{ agg:=false,ks:=[.int .u64],zs:=[.int .u64 (.I 0)],bytes:=8,tag:=.int .u64,eqs:=false }),
 (217,{ agg:=false,ks:=[.oth],zs:=[.nilp],bytes:=8,tag:=.ptr 219,eqs:=false }),
 (218,{ agg:=true,ks:=[.str,.int .i64,.bool],zs:=[.str (.S []),.int .i64 (.I 0),.bool (.B false)],bytes:=32,tag:=.strct [(0,9,1,false),(1,3,1,false),(2,4,1,false)],eqs:=false }),
 (219,{ agg:=true,ks:=[.str,.int .i64,.bool],zs:=[.str (.S []),.int .i64 (.I 0),.bool (.B false)],bytes:=32,tag:=.strct [(0,9,1,false),(1,3,1,false),(2,4,1,false)],eqs:=true }),
 (221,{ agg:=false,ks:=[.oth],zs:=[.nilp],bytes:=8,tag:=.ptr 31,eqs:=false }),
 (223,{ agg:=false,ks:=[.oth],zs:=[.nilp],bytes:=8,tag:=.ptr 225,eqs:=false }),
 (224,{ agg:=true,ks:=[.str,.bool],zs:=[.str (.S []),.bool (.B false)],bytes:=24,tag:=.strct [(0,9,1,false),(1,4,1,false)],eqs:=false }),
 (225,{ agg:=true,ks:=[.str,.bool],zs:=[.str (.S []),.bool (.B false)],bytes:=24,tag:=.strct [(0,9,1,false),(1,4,1,false)],eqs:=true }),
 (232,{ agg:=false,ks:=[.oth],zs:=[.nilp],bytes:=8,tag:=.ptr 236,eqs:=false }),
 (235,{ agg:=true,ks:=[.str,.bool,.bool,.oth,.oth,.int .i64,.oth],zs:=[.str (.S []),.bool (.B false),.bool (.B false),.nils,.nils,.int .i64 (.I 0),.nils],bytes:=104,tag:=.strct [(0,63,6,true),(6,97,1,false)],eqs:=false }),
 (236,{ agg:=true,ks:=[.str,.bool,.bool,.oth,.oth,.int .i64,.oth],zs:=[.str (.S []),.bool (.B false),.bool (.B false),.nils,.nils,.int .i64 (.I 0),.nils],bytes:=104,tag:=.strct [(0,63,6,true),(6,97,1,false)],eqs:=false }),
 (241,{ agg:=false,ks:=[.oth],zs:=[.nils],bytes:=24,tag:=.slice 5,eqs:=false }),
 (257,{ agg:=false,ks:=[.oth],zs:=[.nilp],bytes:=8,tag:=.ptr 262,eqs:=false }),
 (258,{ agg:=false,ks:=[.oth],zs:=[.nilp],bytes:=8,tag:=.ptr 260,eqs:=false }),
 (259,{ agg:=true,ks:=[.oth,.oth],zs:=[.nilp,.nils],bytes:=32,tag:=.strct [(0,258,1,false),(1,241,1,false)],eqs:=false }),
 (260,{ agg:=true,ks:=[.oth,.oth],zs:=[.nilp,.nils],bytes:=32,tag:=.strct [(0,258,1,false),(1,241,1,false)],eqs:=false }),
 (261,{ agg:=true,ks:=[.oth,.oth],zs:=[.nilp,.nils],bytes:=32,tag:=.strct [(0,260,2,true)],eqs:=false }),
 (262,{ agg:=true,ks:=[.oth,.oth],zs:=[.nilp,.nils],bytes:=32,tag:=.strct [(0,260,2,true)],eqs:=false }),
 (290,{ agg:=false,ks:=[.int .i64],zs:=[.int .i64 (.I 0)],bytes:=8,tag:=.int .i64,eqs:=false }),
 (297,{ agg:=false,ks:=[.int .u32],zs:=[.int .u32 (.I 0)],bytes:=4,tag:=.int .u32,eqs:=false }),
 (299,{ agg:=false,ks:=[.int .u64],zs:=[.int .u64 (.I 0)],bytes:=8,tag:=.int .u64,eqs:=false }),
 (305,{ agg:=false,ks:=[.oth],zs:=[.nilp],bytes:=8,tag:=.ptr 5,eqs:=false }),
 (320,{ agg:=false,ks:=[.int .u64],zs:=[.int .u64 (.I 0)],bytes:=8,tag:=.int .u64,eqs:=false }),
 (324,{ agg:=false,ks:=[.oth],zs:=[.nilp],bytes:=8,tag:=.ptr 3,eqs:=false }),
 (328,{ agg:=false,ks:=[.oth],zs:=[.nilp],bytes:=8,tag:=.ptr 316,eqs:=false }),
 (341,{ agg:=false,ks:=[.oth],zs:=[.nilp],bytes:=8,tag:=.ptr 320,eqs:=false }),
 (349,{ agg:=true,ks:=[.int .u8,.int .u8],zs:=[.int .u8 (.I 0),.int .u8 (.I 0)],bytes:=2,tag:=.strct [(0,5,1,false),(1,5,1,false)],eqs:=false }),
 (350,{ agg:=true,ks:=[.int .u8,.int .u8],zs:=[.int .u8 (.I 0),.int .u8 (.I 0)],bytes:=2,tag:=.strct [(0,5,1,false),(1,5,1,false)],eqs:=false }),
 (352,{ agg:=true,ks:=[.oth,.oth,.oth,.str],zs:=[.nilp,.nilp,.nilp,.str (.S [])],bytes:=40,tag:=.strct [(0,17,1,false),(1,17,1,false),(2,17,1,false),(3,9,1,false)],eqs:=false }),
 (353,{ agg:=true,ks:=[.oth,.oth,.oth,.str],zs:=[.nilp,.nilp,.nilp,.str (.S [])],bytes:=40,tag:=.strct [(0,17,1,false),(1,17,1,false),(2,17,1,false),(3,9,1,false)],eqs:=false }),
 (357,{ agg:=false,ks:=[.int .u8],zs:=[.int .u8 (.I 0)],bytes:=1,tag:=.int .u8,eqs:=false }),
 (358,{ agg:=false,ks:=[.int .u8],zs:=[.int .u8 (.I 0)],bytes:=1,tag:=.int .u8,eqs:=false }),
 (360,{ agg:=false,ks:=[.int .i32],zs:=[.int .i32 (.I 0)],bytes:=4,tag:=.int .i32,eqs:=false }),
 (361,{ agg:=false,ks:=[.int .i32],zs:=[.int .i32 (.I 0)],bytes:=4,tag:=.int .i32,eqs:=false })]
noncomputable def sxE:Env:=⟨sxT,[(0,[]),(34,[27,32,33]),(36,[27,33]),(65,[64,33]),(73,[50,33]),(78,[27,32]),(98,[63,97]),(102,[23,33]),(118,[3,4]),(129,[9,33]),(131,[3,33]),(133,[25,33]),(151,[150,33]),(158,[31,33]),(175,[22,33]),(178,[25,25]),(215,[3,3,33]),(284,[3,283]),(291,[3,290]),(306,[9,3,33]),(308,[3,9]),(317,[316,4]),(331,[21,3]),(342,[3,3]),(345,[297,297])],[3,4,5,6,7,8,9,10,11,12,13,14,15,16,17,18,19,20,21,22,23,24,25,26,27,28,29,30,31,32,33,34,35,36,37,38,39,40,41,42,43,44,45,46,47,48,49,50,51,52,53,54,55,56,57,58,59,60,61,62,63,64,65,66,67,68,69,70,71,72,73,74,75,76,77,78,79,80,81,82,83,84,85,86,87,88,89,90,91,92,93,94,95,96,97,98,99,100,101,102,103,104,105,106,107,108,109,110,111,112,113,114,115,116,117,118,119,120,121,122,123,124,125,126,127,128,129,130,131,132,133,134,135,136,137,138,139,140,141,142,143,144,145,146,147,148,149,150,151,152,153,154,155,156,157,158,159,160,161,162,163,164,165,166,167,168,169,170,171,172,173,174,175,176,177,178,179,180,181,182,183,184,185,186,187,188,189,190,191,192,193,194,195,196,197,198,199,200,201,202,203,204,205,206,207,208,209,210,211,212,213,214,215,216,217,218,219,220,221,222,223,224,225,226,227,228,229,230,231,232,233,234,235,236,237,238,239,240,241,242,243,244,246,247,248,249,250,251,252,253,254,255,256,257,258,259,260,261,262,263,264,265,266,267,268,270,271,272,273,274,275,276,277,278,279,281,282,283,284,285,286,288,289,290,291,292,293,294,295,296,297,298,299,300,301,302,303,304,305,306,307,308,309,310,311,312,313,314,315,316,317,318,320,321,322,323,324,325,326,327,328,329,330,331,332,333,334,335,336,338,339,340,342,343,346,347,348,349,350,351,352,354,355,377],[59,93,126,134,192,205,206,207,209,228,229,234,236,244,268,285,286],[134,147,192,209,236,285,286],[253],[(35,Tryz.f35),(36,Tryz.f36),(38,Tryz.f38),(46,Tryz.f46),(51,Tryz.f51),(55,Tryz.f55),(75,Tryz.f75),(76,Tryz.f76),(77,Tryz.f77),(79,Tryz.f79),(80,Tryz.f80),(84,Tryz.f84),(86,Tryz.f86),(87,Tryz.f87),(89,Tryz.f89),(110,Tryz.f110),(124,Tryz.f124),(156,Tryz.f156),(157,Tryz.f157),(158,Tryz.f158),(159,Tryz.f159),(160,Tryz.f160),(161,Tryz.f161),(163,Tryz.f163),(164,Tryz.f164),(165,Tryz.f165),(168,Tryz.f168),(175,Tryz.f175),(176,Tryz.f176),(177,Tryz.f177),(178,Tryz.f178),(179,Tryz.f179),(180,Tryz.f180),(185,Tryz.f185),(187,Tryz.f187),(188,Tryz.f188),(189,Tryz.f189),(190,Tryz.f190),(191,Tryz.f191),(208,Tryz.f208),(211,Tryz.f211),(212,Tryz.f212),(213,Tryz.f213),(216,Tryz.f216),(217,Tryz.f217),(218,Tryz.f218),(219,Tryz.f219),(220,Tryz.f220),(231,Tryz.f231),(232,Tryz.f232),(235,Tryz.f235),(241,Tryz.f241),(254,Tryz.f254),(259,Tryz.f259),(260,Tryz.f260),(261,Tryz.f261),(266,Tryz.f266),(267,Tryz.f267),(271,Tryz.f271),(272,Tryz.f272),(273,Tryz.f273),(274,Tryz.f274),(275,Tryz.f275),(276,Tryz.f276),(277,Tryz.f277),(284,Tryz.f284),(306,Tryz.f306),(307,Tryz.f307),(310,Tryz.f310),(311,Tryz.f311),(313,Tryz.f313),(314,Tryz.f314),(315,Tryz.f315)],[],[9,10,14,15,19,21,37,39,50,52,53,56,62,87,88,126,127,128,130,131,132,135,170,171,172],[106,90,1042063,1042068]⟩
theorem sxE_check:sxE.check Tryz.prog=true:=by kernel_rfl
theorem sxE_inl:∀p∈sxE.inl,Tryz.prog.funcs[p.1]?=some p.2:=qy2.2 ⟨Tryz.func35,qy2.2 ⟨Tryz.func36,qy2.2 ⟨Tryz.func38,qy2.2 ⟨Tryz.func46,qy2.2 ⟨Tryz.func51,qy2.2 ⟨Tryz.func55,qy2.2 ⟨Tryz.func75,qy2.2 ⟨Tryz.func76,qy2.2 ⟨Tryz.func77,qy2.2 ⟨Tryz.func79,qy2.2 ⟨Tryz.func80,qy2.2 ⟨Tryz.func84,qy2.2 ⟨Tryz.func86,qy2.2 ⟨Tryz.func87,qy2.2 ⟨Tryz.func89,qy2.2 ⟨Tryz.func110,qy2.2 ⟨Tryz.func124,qy2.2 ⟨Tryz.func156,qy2.2 ⟨Tryz.func157,qy2.2 ⟨Tryz.func158,qy2.2 ⟨Tryz.func159,qy2.2 ⟨Tryz.func160,qy2.2 ⟨Tryz.func161,qy2.2 ⟨Tryz.func163,qy2.2 ⟨Tryz.func164,qy2.2 ⟨Tryz.func165,qy2.2 ⟨Tryz.func168,qy2.2 ⟨Tryz.func175,qy2.2 ⟨Tryz.func176,qy2.2 ⟨Tryz.func177,qy2.2 ⟨Tryz.func178,qy2.2 ⟨Tryz.func179,qy2.2 ⟨Tryz.func180,qy2.2 ⟨Tryz.func185,qy2.2 ⟨Tryz.func187,qy2.2 ⟨Tryz.func188,qy2.2 ⟨Tryz.func189,qy2.2 ⟨Tryz.func190,qy2.2 ⟨Tryz.func191,qy2.2 ⟨Tryz.func208,qy2.2 ⟨Tryz.func211,qy2.2 ⟨Tryz.func212,qy2.2 ⟨Tryz.func213,qy2.2 ⟨Tryz.func216,qy2.2 ⟨Tryz.func217,qy2.2 ⟨Tryz.func218,qy2.2 ⟨Tryz.func219,qy2.2 ⟨Tryz.func220,qy2.2 ⟨Tryz.func231,qy2.2 ⟨Tryz.func232,qy2.2 ⟨Tryz.func235,qy2.2 ⟨Tryz.func241,qy2.2 ⟨Tryz.func254,qy2.2 ⟨Tryz.func259,qy2.2 ⟨Tryz.func260,qy2.2 ⟨Tryz.func261,qy2.2 ⟨Tryz.func266,qy2.2 ⟨Tryz.func267,qy2.2 ⟨Tryz.func271,qy2.2 ⟨Tryz.func272,qy2.2 ⟨Tryz.func273,qy2.2 ⟨Tryz.func274,qy2.2 ⟨Tryz.func275,qy2.2 ⟨Tryz.func276,qy2.2 ⟨Tryz.func277,qy2.2 ⟨Tryz.func284,qy2.2 ⟨Tryz.func306,qy2.2 ⟨Tryz.func307,qy2.2 ⟨Tryz.func310,qy2.2 ⟨Tryz.func311,qy2.2 ⟨Tryz.func313,qy2.2 ⟨Tryz.func314,qy2.2 ⟨Tryz.func315,qy5 _⟩⟩⟩⟩⟩⟩⟩⟩⟩⟩⟩⟩⟩⟩⟩⟩⟩⟩⟩⟩⟩⟩⟩⟩⟩⟩⟩⟩⟩⟩⟩⟩⟩⟩⟩⟩⟩⟩⟩⟩⟩⟩⟩⟩⟩⟩⟩⟩⟩⟩⟩⟩⟩⟩⟩⟩⟩⟩⟩⟩⟩⟩⟩⟩⟩⟩⟩⟩⟩⟩⟩⟩⟩
theorem sxE_ok:EnvOK Tryz.prog sxE:=Env.ok sxE_check sxE_inl
abbrev Va (n:Nat):Sc:=.val (.var n)
abbrev Vi (n:Nat):Sc:=.int .i64 (.var n)
abbrev Vs (n:Nat):Sc:=.str (.var n)
abbrev Vb (n:Nat):Sc:=.bool (.var n)
abbrev Vk:Kd:=.int .i64
abbrev Vq (l:List Sc):SV:=.cv (false,l)
abbrev V29:X:=.var 29
abbrev J2:List Kd:=[Vk,.str,.str]
abbrev V31:X:=.var 31
abbrev J4:Ent:=.row 30 172 J2 V31
abbrev V34:X:=.var 34
abbrev J6:List Kd:=[Vk,.bool,.bool,.bool,.bool,Vk,Vk,Vk,Vk,.str,.str,.str,.oth,.oth]
abbrev J7:Ent:=.row 21 172 J2 .nilR
abbrev V25:X:=.var 25
abbrev V26:X:=.var 26
abbrev V27:X:=.var 27
abbrev V28:X:=.var 28
abbrev V30:X:=.var 30
abbrev V32:X:=.var 32
abbrev V33:X:=.var 33
abbrev Jf:Ent:=.cells 20 236 [Vs 25,Vb 26,Vb 27,Va 28,Va 30,Vi 32,Va 33]
abbrev V0:X:=.var 0
abbrev V1:X:=.var 1
abbrev V2:X:=.var 2
abbrev V16:X:=.var 16
abbrev V18:X:=.var 18
abbrev V7:X:=.var 7
abbrev Jm:Ent:=.cells 15 63 [Vs 0,Vb 1,Vb 2,Va 16,Va 18,Vi 7]
abbrev Jn:Ent:=.cells 14 63 [Vs 0,Vb 1,Vb 2,Va 16,Va 18,Vi 7]
abbrev V3:X:=.var 3
abbrev V5:X:=.var 5
abbrev Jq:Ent:=.cells 13 63 [Vs 0,Vb 1,Vb 2,Va 3,Va 5,Vi 7]
abbrev Jr:Ent:=.row 12 31 J6 .nilR
abbrev V24:X:=.var 24
abbrev V4:X:=.var 4
abbrev V6:X:=.var 6
abbrev Jv:List Ent:=[.rd 3 J2 V4,.rd 5 J2 V6]
abbrev Jw:List Ent:=.cells 9 63 [Vs 0,Vb 1,Vb 2,Va 3,Va 5,Vi 7]::Jv
abbrev Jx:List Ent:=.cells 10 3 [Vi 24]::Jw
abbrev V19:X:=.var 19
abbrev Jz:Ent:=.row 18 172 J2 V19
abbrev V17:X:=.var 17
abbrev J11:Ent:=.row 16 172 J2 V17
abbrev N12:X:=.I 0
abbrev J13:Ent:=.cells 11 63 [.str (.S []),.bool (.B false),.bool (.B false),.nils,.nils,.int .i64 N12]
abbrev J14:List Ent:=J7::.cells 20 236 [Vs 0,Vb 1,Vb 2,Va 16,Va 18,Vi 7,.nils]::Jz::J11::Jm::Jn::Jq::Jr::J13::Jx
abbrev V22:X:=.var 22
abbrev N16:X:=.I 1
abbrev V23:X:=.var 23
abbrev N18:X:=.I 9223372036854775807
abbrev N19:X:=.I (-9223372036854775808)
abbrev V35:X:=.var 35
abbrev J1b:Ent:=.row 34 172 J2 V35
abbrev V37:X:=.var 37
abbrev J1d:Ent:=.row 36 172 J2 V37
abbrev V40:X:=.var 40
abbrev J1f:Ent:=.cells 25 172 [.int .i64 (.rI V17 V23 0),.str (.rS V17 V23 1),.str (.rS V17 V23 2)]
abbrev V36:X:=.var 36
abbrev V38:X:=.var 38
abbrev V39:X:=.var 39
abbrev J1j:Ent:=.cells 20 236 [Vs 31,Vb 32,Vb 33,Va 34,Va 36,Vi 38,Va 39]
abbrev J1k:X:=.consS (.S []) .nilL
abbrev J1l:X:=.clrR V28 V26 (.consI .i64 N12 (.consS (.S []) J1k))
abbrev J1m:Ent:=.row 29 172 J2 V30
abbrev J1n:Ent:=.row 31 172 J2 V32
abbrev J1o:Ent:=.cells 20 236 [Vs 26,Vb 27,Vb 28,Va 29,Va 31,Vi 33,Va 34]
abbrev N1p:X:=.I (-1)
abbrev V8:X:=.var 8
abbrev J1r:Ent:=.cells 14 63 [Vs 0,Vb 1,Vb 2,Va 3,Va 5,Vi 7]
abbrev J1s:List Ent:=.cells 15 63 [.str (.S []),.bool (.B false),.bool (.B false),.nils,.nils,.int .i64 N12]::J1r::Jq::Jr::J13::.cells 10 3 [Vi 8]::Jw
abbrev J1t:Tree:=.callM 268 [Vq [Va 3]] J1s [] [] [] [J11] (Vq [Va 16]) 2 (.callM 268 [Vq [Va 5]] (J11::J1s) [] [] [] [Jz] (Vq [Va 18]) 2 (.bindN (.letV .nilS (.loop [N12,N12,V8] (.ite (.lt V23 (.rlen V17)) (.need (.le N12 V23) (.bindN (.ite (.eqI (.rI V17 V23 0) V24) (.ite (.eqI V23 N1p) (.callM 214 [Vq [.ptr 20 0]] (J1f::J14) [20] [16,18] [J1o] [J1m,J1n,.row 34 31 J6 V35] (.tup []) 10 (.ret (.tup [(true,[Vs 26,Vb 27,Vb 28,Va 29,Va 31,Vi 33]),(false,[Va 34])]) (J1m::J1n::.row 34 31 J6 V35::J1f::J7::J1o::Jm::Jn::Jq::Jr::.cells 11 63 [Vs 26,Vb 27,Vb 28,Va 29,Va 31,Vi 33]::Jx))) (.need (.le N19 (.add V23 N16)) (.need (.le (.add V23 N16) N18) (.loop [V23,.add V23 N16,V17,V24] (.ite (.lt V27 (.rlen V28)) (.need (.le N12 V27) (.bindN (.bindN (.ite (.not (.eqI (.rI V28 V27 0) V29)) (.need (.le N12 V26) (.need (.lt V26 (.rlen V28)) (.need (.le N19 (.add V26 N16)) (.need (.le (.add V26 N16) N18) (.need (.le N19 (.add V27 N16)) (.need (.le (.add V27 N16) N18) (.back 1 [.add V26 N16,.add V27 N16,.setR V28 V26 (.consI .i64 (.rI V28 V27 0) (.consS (.rS V28 V27 1) (.consS (.rS V28 V27 2) .nilL))),V29]))))))) (.need (.le N19 (.add V27 N16)) (.need (.le (.add V27 N16) N18) (.back 1 [V26,.add V27 N16,V28,V29]))))))) (.need (.le N12 V26) (.need (.le V26 (.rlen V28)) (.need (.le V26 (.rlen J1l)) (.bindV (.callM 214 [Vq [.ptr 20 0]] (.row 30 172 J2 (.takeR J1l V26)::J1f::J7::.cells 20 236 [Vs 0,Vb 1,Vb 2,Va 30,Va 18,Vi 7,.nils]::Jz::Jm::Jn::Jq::Jr::J13::.cells 10 3 [Vi 29]::Jw) [20] [30,18] [J1j] [J1b,J1d,.row 39 31 J6 V40] (.tup []) 10 (.ret (.tup [(true,[Vs 31,Vb 32,Vb 33,Va 34,Va 36,Vi 38]),(false,[Va 39])]) (J1b::J1d::.row 39 31 J6 V40::J1f::J7::J1j::Jm::Jn::Jq::Jr::.cells 11 63 [Vs 31,Vb 32,Vb 33,Va 34,Va 36,Vi 38]::.cells 10 3 [Vi 29]::Jw)))))))))))) (.need (.le N19 (.add V23 N16)) (.need (.le (.add V23 N16) N18) (.back 0 [V22,.add V23 N16,V24])))))) (.callM 214 [Vq [.ptr 20 0]] J14 [20] [16,18] [Jf] [.row 28 172 J2 V29,J4,.row 33 31 J6 V34] (.tup []) 10 (.ret (.tup [(true,[Vs 25,Vb 26,Vb 27,Va 28,Va 30,Vi 32]),(false,[Va 33])]) (.row 28 172 J2 V29::J4::.row 33 31 J6 V34::J7::Jf::Jm::Jn::Jq::Jr::.cells 11 63 [Vs 25,Vb 26,Vb 27,Va 28,Va 30,Vi 32]::Jx))))))))
abbrev J1u:Tree:=.loop [N12,.rlen V1] (.ite (.lt V3 V4) (.need (.le N19 (.add V3 V4)) (.need (.le (.add V3 V4) N18) (.need (.le N19 (.shr .u64 (.wrap .u64 (.add V3 V4)) N16)) (.need (.le (.shr .u64 (.wrap .u64 (.add V3 V4)) N16) N18) (.need (.le N12 (.shr .u64 (.wrap .u64 (.add V3 V4)) N16)) (.need (.lt (.shr .u64 (.wrap .u64 (.add V3 V4)) N16) (.rlen V1)) (.bindN (.callP (.B true) 162 [Vq [.str (.rS V1 (.shr .u64 (.wrap .u64 (.add V3 V4)) N16) 0)],Vq [Vs 2]] [] (Vq [Vi 6]) 1 (.ite (.lt V6 N12) (.need (.le N19 (.add (.shr .u64 (.wrap .u64 (.add V3 V4)) N16) N16)) (.need (.le (.add (.shr .u64 (.wrap .u64 (.add V3 V4)) N16) N16) N18) (.back 0 [.add (.shr .u64 (.wrap .u64 (.add V3 V4)) N16) N16,V4]))) (.back 0 [V3,.shr .u64 (.wrap .u64 (.add V3 V4)) N16])))))))))) (.ite (.lt V3 (.rlen V1)) (.need (.le N12 V3) (.bindN (.callP (.B true) 162 [Vq [.str (.rS V1 V3 0)],Vq [Vs 2]] [] (Vq [Vi 6]) 1 (.ret (.tup [(false,[Vi 3]),(false,[.bool (.eqI V6 N12)])]) [])))) (.ret (.tup [(false,[Vi 3]),(false,[.bool (.B false)])]) [])))
abbrev V11:X:=.var 11
abbrev V9:X:=.var 9
abbrev J1x:List Kd:=[Vk]
abbrev V10:X:=.var 10
abbrev J1z:List Ent:=[.cells 0 225 [Vs 5,Vb 6]]
abbrev J20:List Ent:=[.cells 0 225 [Vs 1,Vb 2]]
abbrev J21:Tree:=.ret (Vq [Vi 5]) []
abbrev N22:X:=.I 2
abbrev J23:Tree:=.ret (Vq [.int .i64 N22]) []
abbrev N24:X:=.I 8
abbrev N25:X:=.I 3
abbrev J26:Tree:=.ret (Vq [.int .i64 N25]) []
abbrev V20:X:=.var 20
abbrev J28:Ent:=.row 17 172 J2 V18
abbrev J29:Ent:=.cells 16 63 [Vs 0,Vb 1,Vb 2,Va 17,Va 19,Vi 7]
abbrev J2a:Ent:=.cells 15 63 [Vs 0,Vb 1,Vb 2,Va 17,Va 19,Vi 7]
abbrev J2b:Ent:=.row 13 31 J6 .nilR
abbrev J2c:Ent:=.cells 11 63 [Vs 0,Vb 1,Vb 2,Va 3,Va 5,Vi 7]
abbrev J2d:List Ent:=.row 19 172 J2 V20::J28::J29::J2a::J1r::J2b::.cells 12 63 [Vs 0,Vb 1,Vb 2,Va 17,Va 19,Vi 7]::J2c::Jv
abbrev J2e:X:=.consI .i64 N12 (.consS V8 (.consS V9 .nilL))
abbrev J2f:Ent:=.row 22 172 J2 (.snocR .nilR J2e)
abbrev J2g:Ent:=.cells 21 236 [Vs 24,Vb 25,Vb 26,Va 27,Va 29,Vi 31,Va 32]
abbrev J2h:Ent:=.cells 12 63 [.str (.S []),.bool (.B false),.bool (.B false),.nils,.nils,.int .i64 N12]
abbrev J2i:List Ent:=J1r::J2b::J2h::J2c::Jv
abbrev N2j:X:=.I 3518437208883
abbrev N2k:X:=.I 6
abbrev J2l:X:=.consV .nilS (.consV .nilS .nilL)
abbrev J2m:X:=.snocR .nilR (.consI .i64 N25 (.consB (.B false) (.consB (.B false) (.consB (.B false) (.consB (.B false) (.consI .i64 N12 (.consI .i64 N12 (.consI .i64 N12 (.consI .i64 N12 (.consS (.S []) (.consS V8 (.consS V9 J2l))))))))))))
abbrev N2n:X:=.I 977343669134
abbrev J2o:List Ent:=.cells 16 63 [.str (.S []),.bool (.B false),.bool (.B false),.nils,.nils,.int .i64 N12]::.cells 15 63 [Vs 0,Vb 1,Vb 2,Va 3,Va 5,Vi 7]::J2i
abbrev J2p:Tree:=.callM 268 [Vq [Va 3]] J2o [] [] [] [J28] (Vq [Va 17]) 2 (.callM 268 [Vq [Va 5]] (J28::J2o) [] [] [] [.row 19 172 J2 V20] (Vq [Va 19]) 2 (.bindN (.ite (.and (.eqI V10 N12) V1) (.bindV (.letV .nilS (.need (.le (.add (.rlen .nilR) (.rlen J2m)) N2n) (.bindV (.ret (.tup [(true,[Vs 0,Vb 1,Vb 2,Va 17,Va 19,Vi 7]),(false,[Va 24])]) (.row 24 31 J6 J2m::.row 22 31 J6 J2m::.cells 21 236 [Vs 0,Vb 1,Vb 2,Va 17,Va 19,Vi 7,Va 24]::J2d)))))) (.ite (.and (.and (.eqI V10 N16) (.or V1 (.not V2))) (.lt (.rlen V20) N2k)) (.bindV (.need (.le (.add (.rlen V20) (.rlen (.snocR .nilR J2e))) N2j) (.bindV (.callM 214 [Vq [.ptr 21 0]] (.row 23 172 J2 (.snocR V20 J2e)::J2f::.cells 21 236 [Vs 0,Vb 1,Vb 2,Va 17,Va 23,Vi 7,.nils]::J28::J29::J2a::J2i) [21] [17,23] [J2g] [.row 27 172 J2 V28,J1m,.row 32 31 J6 V33] (.tup []) 10 (.ret (.tup [(true,[Vs 24,Vb 25,Vb 26,Va 27,Va 29,Vi 31]),(false,[Va 32])]) (.row 27 172 J2 V28::J1m::.row 32 31 J6 V33::J2f::J2g::J29::J2a::J1r::J2b::.cells 12 63 [Vs 24,Vb 25,Vb 26,Va 27,Va 29,Vi 31]::J2c::Jv)))))) (.ret (.tup [(true,[Vs 0,Vb 1,Vb 2,Va 17,Va 19,Vi 7]),(false,[.nils])]) (.cells 21 236 [Vs 0,Vb 1,Vb 2,Va 17,Va 19,Vi 7,.nils]::J2d))))))
abbrev V12:X:=.var 12
abbrev V14:X:=.var 14
abbrev V13:X:=.var 13
abbrev J2t:List Kd:=[.str,Vk]
abbrev V15:X:=.var 15
abbrev J2v:List Ent:=[.rd 12 J2t V13,.rd 14 J1x V15]
abbrev J2w:List Ent:=.cells 16 31 [Vi 0,Vb 1,Vb 2,Vb 3,Vb 4,Vi 5,Vi 6,Vi 7,Vi 8,Vs 9,Vs 10,Vs 11,Va 12,Va 14]::J2v
abbrev J2x:Tree:=.ret (Vq [.int .i64 N12]) []
abbrev N2y:X:=.I 4
abbrev J2z:Tree:=.ret (Vq [.int .i64 N2y]) []
abbrev J30:Ent:=.cells 8 63 [Vs 0,Vb 1,Vb 2,Va 3,Va 5,Vi 7]
abbrev J31:List Ent:=J30::Jv
abbrev J32:Tree:=.ret (Vq [.int .i64 N16]) []
abbrev J33:List Kd:=[Vk,.str]
abbrev J34:List Ent:=[.rd 4 J33 V5]
abbrev J35:List Ent:=.cells 7 50 [Vi 0,Vi 1,Vi 2,Vs 3,Va 4,Vs 6]::J34
abbrev J36:Ent:=.cells 18 221 [.ptr 4 0]
abbrev J37:Ent:=.cells 17 217 [.ptr 0 0]
abbrev V41:X:=.var 41
abbrev V42:X:=.var 42
abbrev V43:X:=.var 43
abbrev V44:X:=.var 44
abbrev V45:X:=.var 45
abbrev V46:X:=.var 46
abbrev V47:X:=.var 47
abbrev V48:X:=.var 48
abbrev V49:X:=.var 49
abbrev V50:X:=.var 50
abbrev V51:X:=.var 51
abbrev V52:X:=.var 52
abbrev V53:X:=.var 53
abbrev V54:X:=.var 54
abbrev V56:X:=.var 56
abbrev V55:X:=.var 55
abbrev V57:X:=.var 57
abbrev J3p:List Ent:=[.row 54 88 J2t V55,.row 56 3 J1x V57]
abbrev J3q:List Ent:=J36::J37::.cells 0 219 [Vs 39,Vi 40,Vb 41]::.cells 4 31 [Vi 42,Vb 43,Vb 44,Vb 45,Vb 46,Vi 47,Vi 48,Vi 49,Vi 50,Vs 51,Vs 52,Vs 53,Va 54,Va 56]::J3p
abbrev V58:X:=.var 58
abbrev V59:X:=.var 59
abbrev V60:X:=.var 60
abbrev V61:X:=.var 61
abbrev V62:X:=.var 62
abbrev V63:X:=.var 63
abbrev V64:X:=.var 64
abbrev V65:X:=.var 65
abbrev V66:X:=.var 66
abbrev V67:X:=.var 67
abbrev V68:X:=.var 68
abbrev V69:X:=.var 69
abbrev V70:X:=.var 70
abbrev V71:X:=.var 71
abbrev V72:X:=.var 72
abbrev V73:X:=.var 73
abbrev V75:X:=.var 75
abbrev V74:X:=.var 74
abbrev V76:X:=.var 76
abbrev J4a:List Ent:=[.cells 4 31 [Vi 61,Vb 62,Vb 63,Vb 64,Vb 65,Vi 66,Vi 67,Vi 68,Vi 69,Vs 70,Vs 71,Vs 72,Va 73,Va 75],.row 73 88 J2t V74,.row 75 3 J1x V76]
abbrev J4b:List Ent:=J36::J37::.cells 0 219 [Vs 58,Vi 59,Vb 60]::J4a
abbrev V78:X:=.var 78
abbrev V79:X:=.var 79
abbrev V80:X:=.var 80
abbrev V82:X:=.var 82
abbrev V77:X:=.var 77
abbrev N4h:X:=.I 17592186044416
abbrev J4i:Tree:=.bindV (.need (.le (.add (.rlen V76) (.rlen (.snocR .nilR (.consI .i64 V77 .nilL)))) N4h) (.bindV (.back 0 [V78,V79,V80,V61,V62,V63,V64,V65,V66,V67,V68,V69,V70,V71,V72,V73,V74,V82,.snocR V76 (.consI .i64 V77 .nilL)])))
abbrev J4j:Ent:=.cells 0 219 [Vs 78,Vi 79,Vb 80]
abbrev J4k:List X:=[V39,V40,V41,V42,V43,V44,V45,V46,V47,V48,V49,V50,V51,V52,V53,V54,V55,V56,V57]
abbrev V83:X:=.var 83
abbrev J4m:X:=.consI .i64 N12 .nilL
abbrev N4n:X:=.I 5864062014805
abbrev V84:X:=.var 84
abbrev V85:X:=.var 85
abbrev V87:X:=.var 87
abbrev J4r:X:=.consS V77 (.consI .i64 V82 .nilL)
abbrev J4s:Tree:=.loop J4k (.ite (.and (.lt V59 (.len V58)) (.not V60)) (.callM 257 [Vq [.ptr 0 0]] J4b [0] [] [J4j] [] (Vq [Vs 77]) 4 (.bindN (.ite (.eqI V61 N24) (.callM 256 [Vq [.ptr 0 0],Vq [.int .i64 N16]] (.cells 81 88 [Vs 77,.int .i64 N12]::J36::J37::J4j::J4a) [0] [] [.cells 0 219 [Vs 83,Vi 84,Vb 85]] [] (Vq [Vi 82]) 4 (.bindV (.need (.le (.add (.rlen V74) (.rlen (.snocR .nilR J4r))) N4n) (.bindV (.back 0 [V83,V84,V85,V61,V62,V63,V64,V65,V66,V67,V68,V69,V70,V71,V72,V87,.snocR V74 J4r,V75,V76]))))) (.bindV (.need (.le (.add (.rlen V74) (.rlen (.snocR .nilR (.consS V77 J4m)))) N4n) (.bindV (.back 0 [V78,V79,V80,V61,V62,V63,V64,V65,V66,V67,V68,V69,V70,V71,V72,V83,.snocR V74 (.consS V77 J4m),V75,V76]))))))) (.ret (.tup []) J4b))
abbrev J4t:Ent:=.cells 0 219 [Vs 59,Vi 60,Vb 61]
abbrev V21:X:=.var 21
abbrev J4v:List X:=[V29,V30,V31,V32,V33,V34,V35,V36,V37]
abbrev J4w:Tree:=.jump 0 (V19::V20::V21::V22::V23::V24::V25::V26::V27::V28::J4v)
abbrev J4x:Ent:=.cells 0 219 [Vs 19,Vi 20,Vb 21]
abbrev J4y:Ent:=.cells 4 31 [Vi 22,Vb 23,Vb 24,Vb 25,Vb 26,Vi 27,Vi 28,Vi 29,Vi 30,Vs 31,Vs 32,Vs 33,Va 34,Va 36]
abbrev J4z:List Ent:=[.row 34 88 J2t V35,.row 36 3 J1x V37]
abbrev J50:List Ent:=J36::J37::J4x::J4y::J4z
abbrev J51:List X:=[V16,.nilS,.nilR,.nilS,.nilR]
abbrev J52:Ent:=.cells 0 219 [Vs 20,Vi 21,Vb 22]
abbrev J53:List Ent:=[.cells 4 31 [Vi 5,Vb 6,Vb 7,Vb 8,Vb 9,Vi 10,Vi 11,Vi 12,Vi 13,Vs 14,Vs 15,Vs 16,.nils,.nils]]
abbrev J54:List Ent:=.cells 0 219 [Vs 1,Vi 2,Vb 3]::J53
abbrev J55:List Ent:=J36::J37::J54
abbrev J56:Tree:=.ret (Vq [.int .i64 N2k]) []
abbrev J57:Tree:=.need (.le V10 (.rlen V4)) (.bindV (.callP (.B true) 279 [Vq [Va 14],Vq [.int .i64 (.rI V4 V10 0)]] (.rd 14 J2 (.dropR (.takeR V4 V10) N12)::.cells 11 172 [.int .i64 (.rI V4 V10 0),.str (.rS V4 V10 1),.str (.rS V4 V10 2)]::J31) (Vq [Vb 15]) 1 (.ite V15 J56 (.need (.le N19 (.add V10 N16)) (.need (.le (.add V10 N16) N18) (.back 0 [V9,.add V10 N16]))))))
abbrev J58:List X:=[N12,N12]
abbrev J59:Tree:=.ret (.tup [(false,[Vs 13]),(false,[.int .i64 N12])]) []
abbrev J5a:List Kd:=[.str]
abbrev J5b:X:=.consS (.rS V5 V12 1) .nilL
abbrev N5c:X:=.I 11
abbrev J5d:List X:=[.B false,N12]
abbrev J5e:List Ent:=[.rd 2 J5a V3]
abbrev J5f:List Kd:=[.int .u8]
abbrev J5g:Ent:=.cells 20 31 [Vi 4,Vb 5,Vb 6,Vb 7,Vb 8,Vi 9,Vi 10,Vi 11,Vi 12,Vs 13,Vs 14,Vs 15,Va 16,Va 18]
abbrev J5h:Ent:=.cells 0 262 [Va 38,Va 39]
abbrev J5i:Ent:=.rd 16 J2t V17
abbrev J5j:List Ent:=[J5i,.rd 18 J1x V19]
abbrev J5k:List Ent:=.st 30::.row 36 5 J5f V37::J5g::.cells 0 262 [Va 35,Va 36]::J5j
abbrev J5l:Ent:=.cells 38 88 [.str (.rS V17 V34 0),.int .i64 (.rI V17 V34 1)]
abbrev J5m:Ent:=.cells 0 262 [Va 39,Va 40]
abbrev J5n:Ent:=.row 26 5 J5f V27
abbrev J5o:Ent:=.cells 0 262 [Va 25,Va 26]
abbrev J5p:Ent:=.row 22 5 J5f V23
abbrev J5q:Ent:=.cells 0 262 [Va 21,Va 22]
abbrev J5r:Ent:=.cells 0 262 [Va 1,Va 2]
abbrev J5s:List Ent:=J5g::.row 2 5 J5f V3::J5r::J5j
abbrev J5t:List Ent:=[.cells 0 262 [Va 22,Va 23]]
abbrev J5u:X:=.consI .i64 V12 .nilL
abbrev J5v:X:=.consI .i64 N16 .nilL
abbrev J5w:Tree:=.ite V8 (.bindV (.callM 305 [Vq [.ptr 0 0],Vq [.int .i64 N16],Vq [Va 21]] (.row 21 3 J1x (.snocR (.snocR .nilR J5v) J5u)::J5s) [0] [2] J5t [.row 23 5 J5f V24] (.tup []) 3 (.jump 0 [V22,V23,V24]))) (.bindV (.callM 305 [Vq [.ptr 0 0],Vq [.int .i64 N16],Vq [Va 21]] (.row 21 3 J1x (.snocR (.snocR .nilR J4m) J5u)::J5s) [0] [2] J5t [.row 23 5 J5f V24] (.tup []) 3 (.jump 0 [V22,V23,V24])))
abbrev J5x:List Ent:=[.cells 0 262 [Va 32,Va 33]]
abbrev J5y:Ent:=.row 30 5 J5f V31
abbrev J5z:Ent:=.row 28 3 J1x (.snocR .nilR (.consI .i64 V11 .nilL))
abbrev J60:X:=.snocR .nilR (.consI .i64 N2y .nilL)
abbrev J61:Ent:=.row 24 3 J1x (.snocR J60 J4m)
abbrev J62:Ent:=.cells 0 262 [Va 29,Va 30]
abbrev J63:Ent:=.row 24 3 J1x (.snocR J60 (.consI .i64 N22 .nilL))
abbrev J64:Tree:=.ret (.tup [(false,[.int .i64 N12]),(false,[.int .i64 N12]),(false,[.int .i64 N16])]) []
abbrev N65:X:=.I 128
abbrev J66:List Ent:=[.row 9 5 J5f V10,.cells 0 262 [Va 8,Va 9],.rd 5 J1x V6]
abbrev N67:X:=.I 200
abbrev J68:Tree:=.ret (Vq [Vi 17]) []
abbrev J69:X:=.catR .nilR V1
abbrev J6a:List Ent:=[.row 2 172 J2 .nilR,.rd 0 J2 V1]
abbrev J6b:Tree:=.ret (Vq [.bool (.B true)]) []
abbrev J6c:Tree:=.ret (Vq [.bool (.B false)]) []
abbrev J6d:Ent:=.cells 18 236 [Vs 28,Vb 29,Vb 30,Va 31,Va 33,Vi 35,Va 36]
abbrev J6e:Ent:=.cells 13 63 [Vs 0,Vb 1,Vb 2,Va 14,Va 16,Vi 7]
abbrev J6f:Ent:=.cells 12 63 [Vs 0,Vb 1,Vb 2,Va 14,Va 16,Vi 7]
abbrev J6g:Ent:=.row 10 31 J6 .nilR
abbrev J6h:Ent:=.row 23 172 J2 V24
abbrev J6i:Ent:=.row 14 172 J2 V15
abbrev J6j:Ent:=.cells 9 63 [.str (.S []),.bool (.B false),.bool (.B false),.nils,.nils,.int .i64 N12]
abbrev J6k:X:=.consI .i64 N25 (.consB (.B true) (.consB (.B false) (.consB (.B false) (.consB (.B false) (.consI .i64 N16 (.consI .i64 (.rI V15 V19 0) (.consI .i64 N12 (.consI .i64 N12 (.consS (.S []) (.consS (.rS V15 V19 1) (.consS (.rS V15 V19 2) J2l)))))))))))
abbrev J6l:List Ent:=.cells 13 63 [.str (.S []),.bool (.B false),.bool (.B false),.nils,.nils,.int .i64 N12]::.cells 12 63 [Vs 0,Vb 1,Vb 2,Va 3,Va 5,Vi 7]::J2c::J6g::J6j::J31
abbrev J6m:Tree:=.callM 268 [Vq [Va 3]] J6l [] [] [] [J6i] (Vq [Va 14]) 2 (.callM 268 [Vq [Va 5]] (J6i::J6l) [] [] [] [J11] (Vq [Va 16]) 2 (.bindN (.loop [N12,V0,.B true,V2,V16,V17,V7,.nilS,.nilR] (.ite (.lt V19 (.rlen V15)) (.need (.le N12 V19) (.bindN (.bindN (.bindV (.need (.le (.add (.rlen V27) (.rlen (.snocR .nilR J6k))) N2n) (.bindV (.need (.le N19 (.add V19 N16)) (.need (.le (.add V19 N16) N18) (.back 0 [.add V19 N16,V20,V21,V22,V23,V24,V25,V31,.snocR V27 J6k]))))))))) (.callM 214 [Vq [.ptr 18 0]] [.cells 18 236 [Vs 20,Vb 21,Vb 22,Va 14,Va 23,Vi 25,Va 26],J6h,J6i,J6e,J6f,J2c,J6g,J6j,J30,.rd 3 J2 V4,.rd 5 J2 V6,.row 26 31 J6 V27] [18] [14,23,26] [J6d] [J1n,.row 33 172 J2 V34,.row 36 31 J6 V37] (.tup []) 10 (.ret (.tup [(true,[Vs 28,Vb 29,Vb 30,Va 31,Va 33,Vi 35]),(false,[Va 36])]) (J1n::.row 33 172 J2 V34::.row 36 31 J6 V37::J6d::J6e::J6f::J2c::J6g::.cells 9 63 [Vs 28,Vb 29,Vb 30,Va 31,Va 33,Vi 35]::J31)))))))
abbrev J6n:Ent:=.row 13 172 J2 V14
abbrev J6o:Ent:=.cells 10 63 [Vs 0,Vb 1,Vb 2,Va 3,Va 5,Vi 7]
abbrev J6p:List Ent:=J2h::J2c::J6o::J6j::J31
abbrev J6q:Tree:=.callM 268 [Vq [Va 3]] J6p [] [] [] [J6n] (Vq [Va 13]) 2 (.callM 268 [Vq [Va 5]] (J6n::J6p) [] [] [] [.row 15 172 J2 V16] (Vq [Va 15]) 2 (.bindN (.ite V2 (.ret (.cv (true,[Vs 0,.bool (.B false),Vb 2,.nils,.nils,Vi 7])) []) (.ret (.cv (true,[Vs 0,.bool (.B false),Vb 2,Va 13,Va 15,Vi 7])) (.cells 17 236 [Vs 0,.bool (.B false),Vb 2,Va 13,Va 15,Vi 7,.nils]::.row 15 172 J2 V16::J6n::.cells 12 63 [Vs 0,Vb 1,Vb 2,Va 13,Va 15,Vi 7]::.cells 11 63 [Vs 0,Vb 1,Vb 2,Va 13,Va 15,Vi 7]::J6o::.cells 9 63 [Vs 0,.bool (.B false),Vb 2,Va 13,Va 15,Vi 7]::J31)))))
abbrev J6r:List Kd:=[Vk,.str,.str,Vk]
abbrev J6s:Ent:=.row 7 68 J6r V8
abbrev J6t:Ent:=.row 6 68 J6r .nilR
abbrev J6u:List Ent:=[.rd 0 J6r V1]
abbrev J6v:List Ent:=.row 9 68 J6r .nilR::J6s::J6t::.cells 5 9 [Vs 12]::.cells 4 3 [Vi 13]::J6u
abbrev J6w:X:=.consS (.S []) (.consS (.S []) J4m)
abbrev J6x:X:=.clrR V18 V16 (.consI .i64 N12 J6w)
abbrev J6y:Ent:=.cells 15 68 [.int .i64 (.rI V8 V11 0),.str (.rS V8 V11 1),.str (.rS V8 V11 2),.int .i64 (.rI V8 V11 3)]
abbrev J6z:Ent:=.cells 14 68 [.int .i64 (.rI V8 V11 0),.str (.rS V8 V11 1),.str (.rS V8 V11 2),.int .i64 (.rI V8 V11 3)]
abbrev J70:Tree:=.need (.le N19 (.add V5 N16)) (.need (.le (.add V5 N16) N18) (.back 0 [V4,.add V5 N16]))
abbrev J71:Ent:=.row 22 88 J2t V23
abbrev J72:Ent:=.row 24 3 J1x V25
abbrev J73:Ent:=.cells 6 219 [Vs 7,Vi 8,Vb 9]
abbrev J74:Ent:=.cells 5 31 [Vi 10,Vb 11,Vb 12,Vb 13,Vb 14,Vi 15,Vi 16,Vi 17,Vi 18,Vs 19,Vs 20,Vs 21,Va 22,Va 24]
abbrev J75:List Ent:=[.cells 1 31 [.int .i64 N12,.bool (.B false),.bool (.B false),.bool (.B false),.bool (.B false),.int .i64 N12,.int .i64 N12,.int .i64 N12,.int .i64 N12,.str (.S []),.str (.S []),.str (.S []),.nils,.nils]]
abbrev J76:List Ent:=J71::J72::J73::J74::J75
abbrev J77:Tree:=.ret (.tup [(true,[.int .i64 N12,.bool (.B false),.bool (.B false),.bool (.B false),.bool (.B false),.int .i64 N12,.int .i64 N12,.int .i64 N12,.int .i64 N12,.str (.S []),.str (.S []),.str (.S []),.nils,.nils]),(false,[.int .i64 N16])]) []
abbrev J78:Tree:=.callP (.not V9) 119 [Vq [Vi 10]] [] (Vq [Vb 26]) 1 (.callP (.not (.or (.or V9 (.not V26)) (.lt N16 V15))) 194 [.cv (true,[Vi 10,Vb 11,Vb 12,Vb 13,Vb 14,Vi 15,Vi 16,Vi 17,Vi 18,Vs 19,Vs 20,Vs 21,Va 22,Va 24])] J76 (Vq [Vs 27]) 1 (.ite (.or (.or (.or V9 (.not V26)) (.lt N16 V15)) (.not (.eqS V27 V0))) J77 (.callP (.B true) 34 [.cv (true,[Vi 10,Vb 11,Vb 12,Vb 13,Vb 14,Vi 15,Vi 16,Vi 17,Vi 18,Vs 19,Vs 20,Vs 21,Va 22,Va 24])] J76 (Vq [Vi 28]) 1 (.ite (.not (.eqI V28 N12)) (.ret (.tup [(true,[.int .i64 N12,.bool (.B false),.bool (.B false),.bool (.B false),.bool (.B false),.int .i64 N12,.int .i64 N12,.int .i64 N12,.int .i64 N12,.str (.S []),.str (.S []),.str (.S []),.nils,.nils]),(false,[Vi 28])]) []) (.ret (.tup [(true,[Vi 10,Vb 11,Vb 12,Vb 13,Vb 14,Vi 15,Vi 16,Vi 17,Vi 18,Vs 19,Vs 20,Vs 21,Va 22,Va 24]),(false,[.int .i64 N12])]) [J71,J72,J73,J74,.cells 1 31 [Vi 10,Vb 11,Vb 12,Vb 13,Vb 14,Vi 15,Vi 16,Vi 17,Vi 18,Vs 19,Vs 20,Vs 21,Va 22,Va 24]])))))
abbrev J79:Ent:=.cells 6 219 [Vs 0,.int .i64 (.add N16 V3),.bool (.B false)]
abbrev J7a:Tree:=.ret (Vq [.int .i64 (.bits .or .i64 (.shl .i64 V0 N2y) N22)]) []
abbrev J7b:Tree:=.ite V2 (.ret (Vq [.int .i64 (.bits .or .i64 (.shl .i64 V0 N2y) (.bits .or .i64 (.bits .or .i64 N12 (.shl .i64 V5 N16)) N16))]) []) (.ret (Vq [.int .i64 (.bits .or .i64 (.shl .i64 V0 N2y) (.bits .or .i64 (.bits .or .i64 N12 (.shl .i64 V5 N16)) N12))]) [])
abbrev J7c:Tree:=.ite V2 (.ret (Vq [.int .i64 (.bits .or .i64 (.shl .i64 V0 N2y) (.bits .or .i64 (.bits .or .i64 N24 (.shl .i64 V5 N16)) N16))]) []) (.ret (Vq [.int .i64 (.bits .or .i64 (.shl .i64 V0 N2y) (.bits .or .i64 (.bits .or .i64 N24 (.shl .i64 V5 N16)) N12))]) [])
abbrev J7d:Tree:=.ite V1 J7c J7b
abbrev J7e:List Ent:=.cells 17 50 [Vi 9,Vi 10,Vi 11,Vs 12,Va 13,Vs 15]::.rd 13 J33 V14::J34
abbrev J7f:List Ent:=.rd 22 J33 V23::J7e
abbrev J7g:Tree:=.ite (.and (.eqI V25 N12) (.eqS V7 (.S [65,1,1,2,116,96,81,97,1,98]))) (.callM 64 [] J7f [] [] [] [.rd 30 J33 V31] (.cv (true,[Vi 26,Vi 27,Vi 28,Vs 29,Va 30,Vs 32])) 7 (.callP (.B true) 117 [.cv (true,[Vi 9,Vi 10,Vi 11,Vs 12,Va 13,Vs 15]),.cv (true,[Vi 26,Vi 27,Vi 28,Vs 29,Va 30,Vs 32])] (.rd 30 J33 V31::J7f) (Vq [Vb 33]) 1 (.ret (Vq [Vb 33]) []))) J6c
abbrev J7h:List Kd:=[.str,.str,Vk]
abbrev J7i:Ent:=.row 5 106 J7h V6
abbrev J7j:Ent:=.row 4 106 J7h .nilR
abbrev J7k:Ent:=.rd 0 J7h V1
abbrev J7l:List Ent:=[.row 7 106 J7h .nilR,J7i,J7j,.cells 3 9 [Vs 10],J7k]
abbrev J7m:Ent:=.cells 11 106 [.str (.rS V6 V9 0),.str (.rS V6 V9 1),.int .i64 (.rI V6 V9 2)]
abbrev J7n:Tree:=.ret (.tup [(false,[.int .i64 N12]),(false,[.int .i64 (.I 5)])]) []
abbrev N7o:X:=.I 65535
abbrev J7p:Ent:=.cells 14 50 [Vi 0,Vi 1,Vi 2,Vs 3,Va 15,Vs 6]
abbrev J7q:Ent:=.cells 13 50 [Vi 0,Vi 1,Vi 2,Vs 3,Va 15,Vs 6]
abbrev J7r:List Ent:=[.cells 10 50 [Vi 0,Vi 1,Vi 2,Vs 3,Va 4,Vs 6],.rd 4 J33 V5,.rd 8 J5a V9]
abbrev J7s:Ent:=.cells 12 50 [.int .i64 N12,.int .i64 N12,.int .i64 N12,.str (.S []),.nils,.str (.S [])]
abbrev J7t:X:=.consI .i64 V33 (.consS (.rS V9 V40 0) .nilL)
abbrev J7u:Tree:=.jump 0 [N12,N12,N12,N12,N12,N12,N12,N12,N12,N12,V15,V21,V16]
abbrev J7v:X:=.clrR V25 V23 (.consI .i64 N12 J1k)
abbrev J7w:List X:=[V23,.add V24 N16,V25,V26]
abbrev J7x:List Ent:=.row 4 68 J6r .nilR::.row 3 68 J6r .nilR::J6u
abbrev N7y:X:=.I 16777215
abbrev J7z:X:=.setR V11 V10 (.consI .i64 (.rI V11 V10 0) (.consS (.rS V11 V10 1) (.consS (.rS V11 V10 2) (.consI .i64 (.bits .and .i64 (.add (.rI V11 V10 3) N16) N7y) .nilL))))
abbrev J80:X:=.consI .i64 (.rI J7z V10 0) (.consS (.rS J7z V10 1) (.consS (.rS J7z V10 2) (.consI .i64 (.rI J7z V10 3) .nilL)))
abbrev N81:X:=.I 2932031007402
abbrev J82:Ent:=.cells 0 219 [Vs 34,Vi 35,Vb 36]
abbrev J83:Ent:=.cells 0 219 [Vs 30,Vi 31,Vb 32]
abbrev J84:Ent:=.cells 0 219 [Vs 26,Vi 27,Vb 28]
abbrev J85:Ent:=.cells 0 219 [Vs 22,Vi 23,Vb 24]
abbrev J86:Ent:=.cells 0 219 [Vs 18,Vi 19,Vb 20]
abbrev J87:Tree:=.need (.le N19 (.add V3 N16)) (.need (.le (.add V3 N16) N18) (.back 0 [V2,.add V3 N16]))
abbrev J88:X:=.consI .i64 V2 (.consS V3 (.consS V4 (.consI .i64 V5 .nilL)))
abbrev J89:X:=.snocR .nilR J88
abbrev J8a:List Ent:=.row 7 68 J6r .nilR::.cells 6 68 [Vi 2,Vs 3,Vs 4,Vi 5]::J6u
abbrev J8b:List Ent:=.row 11 68 J6r (.snocR V10 J88)::.row 8 68 J6r J89::J8a
abbrev J8c:List Ent:=.row 11 68 J6r (.snocR V9 J88)::.row 10 68 J6r J89::J8a
abbrev J8d:Tree:=.callM 229 [Vq [Va 0],Vq [Vi 2],Vq [Vs 3]] J8a [] [] [] [.row 8 68 J6r V9] (Vq [Va 8]) 2 (.bindV (.need (.le (.add (.rlen V9) (.rlen J89)) N81) (.bindV (.ite (.lt (.I 12) (.rlen (.snocR V9 J88))) (.letV .nilS (.ret (.tup [(false,[Va 12]),(false,[.int .i64 N22])]) (.row 12 68 J6r .nilR::J8c))) (.ret (.tup [(false,[Va 11]),(false,[.int .i64 N12])]) J8c)))))
abbrev J8e:X:=.dropR (.takeR V1 V3) N12
abbrev J8f:Tree:=.ret (Vq [Vb 6]) []
abbrev J8g:List Ent:=[.row 4 172 J2 V5,.row 6 172 J2 V7,.row 9 31 J6 V10,.cells 0 236 [Vs 1,Vb 2,Vb 3,Va 4,Va 6,Vi 8,Va 9]]
abbrev J8h:X:=.consI .i64 N25 (.consB (.B false) (.consB (.B false) (.consB (.B false) (.consB (.B false) (.consI .i64 N16 (.consI .i64 V12 (.consI .i64 N12 (.consI .i64 N12 (.consS (.S []) (.consS (.rS V7 N12 1) (.consS (.rS V7 N12 2) J2l)))))))))))
abbrev J8i:Ent:=.row 18 31 J6 (.snocR .nilR J8h)
abbrev J8j:Ent:=.cells 17 172 [Vi 12,.str (.rS V7 N12 1),.str (.rS V7 N12 2)]
abbrev J8k:X:=.consI .i64 V12 (.consS (.rS V7 N12 1) (.consS (.rS V7 N12 2) .nilL))
abbrev J8l:Ent:=.row 15 172 J2 (.snocR .nilR J8k)
abbrev J8m:Ent:=.cells 11 172 [Vi 12,.str (.rS V7 N12 1),.str (.rS V7 N12 2)]
abbrev J8n:List Ent:=[.row 28 31 J6 V29,J8i,J8j,J6h,J8l,.rd 25 J2 V26,J8m,.rd 6 J2 V7,.cells 0 236 [Vs 20,Vb 21,Vb 22,Va 23,Va 25,Vi 27,Va 28]]
abbrev J8o:X:=.consI .i64 V31 (.consS (.rS V26 N12 1) (.consS (.rS V26 N12 2) .nilL))
abbrev J8p:X:=.consI .i64 N25 (.consB (.B false) (.consB (.B false) (.consB (.B false) (.consB (.B false) (.consI .i64 N16 (.consI .i64 V31 (.consI .i64 N12 (.consI .i64 N12 (.consS (.S []) (.consS (.rS V26 N12 1) (.consS (.rS V26 N12 2) J2l)))))))))))
abbrev J8q:Tree:=.callP (.B true) 203 [.cv (true,[Vi 0,Vb 1,Vb 2,Vb 3,Vb 4,Vi 5,Vi 6,Vi 7,Vi 8,Vs 9,Vs 10,Vs 11,Va 12,Va 14])] J2w (Vq [Vi 17]) 1 J68
abbrev J8r:List Ent:=[J7j,J7k]
abbrev J8s:List Ent:=J7i::J8r
abbrev J8t:X:=.setR V6 V7 (.consS (.rS V6 V7 0) (.consS V3 (.consI .i64 (.rI V6 V7 2) .nilL)))
abbrev J8u:Tree:=.need (.le N19 (.add V19 N16)) (.need (.le (.add V19 N16) N18) (.back 0 [V18,.add V19 N16]))
abbrev N8v:X:=.I 13
abbrev J8w:Tree:=.ret (.cv (true,[Vi 0,Vb 1,Vb 2,Vb 3,Vb 4,Vi 5,.int .i64 N12,Vi 7,Vi 8,Vs 9,Vs 10,Vs 11,.nils,Va 14])) (.cells 17 31 [Vi 0,Vb 1,Vb 2,Vb 3,Vb 4,Vi 5,.int .i64 N12,Vi 7,Vi 8,Vs 9,Vs 10,Vs 11,.nils,Va 14]::.cells 16 31 [Vi 0,Vb 1,Vb 2,Vb 3,Vb 4,Vi 5,.int .i64 N12,Vi 7,Vi 8,Vs 9,Vs 10,Vs 11,.nils,Va 14]::J2v)
abbrev J8x:Tree:=.ret (.cv (true,[Vi 0,Vb 1,Vb 2,Vb 3,Vb 4,Vi 5,.int .i64 N12,Vi 7,Vi 8,Vs 9,Vs 10,Vs 11,Va 12,Va 14])) (.cells 17 31 [Vi 0,Vb 1,Vb 2,Vb 3,Vb 4,Vi 5,.int .i64 N12,Vi 7,Vi 8,Vs 9,Vs 10,Vs 11,Va 12,Va 14]::.cells 16 31 [Vi 0,Vb 1,Vb 2,Vb 3,Vb 4,Vi 5,.int .i64 N12,Vi 7,Vi 8,Vs 9,Vs 10,Vs 11,Va 12,Va 14]::J2v)
abbrev J8y:Ent:=.rd 16 J33 V17
abbrev J8z:Ent:=.cells 9 50 [.int .i64 (.bits .and .i64 (.shr .i64 V3 N2y) N25),Vi 6,Vi 10,Vs 13,Va 16,.str (.S [])]
abbrev J90:Ent:=.cells 2 225 [Vs 18,Vb 19]
abbrev J91:List Ent:=[.cells 1 50 [.int .i64 N12,.int .i64 N12,.int .i64 N12,.str (.S []),.nils,.str (.S [])]]
abbrev J92:Tree:=.ret (.tup [(true,[.int .i64 N12,.int .i64 N12,.int .i64 N12,.str (.S []),.nils,.str (.S [])]),(false,[.int .i64 N16])]) []
abbrev J93:Ent:=.cells 9 50 [.int .i64 (.bits .and .i64 (.shr .i64 V3 N2y) N25),Vi 6,Vi 10,Vs 13,Va 16,Vs 21]
abbrev J94:Ent:=.cells 2 225 [Vs 21,.bool (.or V22 (.eqS V21 (.S [])))]
abbrev J95:Ent:=.cells 2 225 [Vs 14,Vb 15]
abbrev J96:Ent:=.cells 2 225 [Vs 11,Vb 12]
abbrev J97:Ent:=.cells 2 225 [Vs 7,Vb 8]
abbrev J98:Ent:=.cells 2 225 [Vs 4,Vb 5]
abbrev J99:Tree:=.ret (Vq [.int .i64 (.I 7)]) []
abbrev J9a:X:=.dropR (.takeR V1 (.rlen V1)) N16
abbrev J9b:X:=.dropR (.takeR V3 (.rlen V3)) N16
abbrev J9c:X:=.consI .u8 (.wrap .u8 V2) .nilL
abbrev N9d:X:=.I 140737488355328
abbrev J9e:X:=.consI .u8 (.wrap .u8 (.bits .or .i64 (.bits .and .i64 V2 (.I 127)) N65)) .nilL
abbrev J9f:Ent:=.rd 30 J2t V31
abbrev J9g:Ent:=.rd 32 J1x V33
abbrev J9h:List Ent:=J9f::J9g::J2w
abbrev J9i:Tree:=.callP (.B true) 125 [.cv (true,[Vi 0,Vb 1,Vb 2,Vb 3,Vb 4,Vi 5,Vi 6,Vi 7,Vi 8,Vs 9,Vs 10,Vs 11,Va 12,Va 14])] J9h (Vq [Vi 36]) 1 (.ret (Vq [Vi 36]) [])
abbrev J9j:Tree:=.callP (.B true) 125 [.cv (true,[Vi 0,Vb 1,Vb 2,Vb 3,Vb 4,Vi 5,Vi 6,Vi 7,Vi 8,Vs 9,Vs 10,Vs 11,Va 12,Va 14])] J9h (Vq [Vi 37]) 1 (.ret (Vq [Vi 37]) [])
abbrev J9k:Ent:=.cells 9 90 [Vs 2,Vs 3,Vi 4]
abbrev J9l:List Ent:=[.row 6 90 J7h .nilR,.cells 5 90 [Vs 2,Vs 3,Vi 4],J7k]
abbrev J9m:X:=.consS V2 (.consS V3 (.consI .i64 V4 .nilL))
abbrev J9n:List Ent:=J9k::.row 7 90 J7h V8::J9l
abbrev J9o:Ent:=.row 14 90 J7h V15
abbrev J9p:Ent:=.row 5 127 J33 V6
abbrev J9q:Ent:=.row 3 127 J33 .nilR
abbrev J9r:List Ent:=[J9p,J9q,.cells 0 225 [Vs 8,Vb 9]]
abbrev J9s:X:=.consI .i64 (.add V7 V13) (.consS V19 .nilL)
abbrev J9t:List Ent:=[.cells 0 225 [Vs 17,Vb 18]]
abbrev J9u:List Ent:=[.cells 0 225 [Vs 14,Vb 15]]
abbrev J9v:List Ent:=[.cells 0 225 [Vs 11,Vb 12]]
abbrev J9w:List Ent:=[.row 2 127 J33 .nilR,.rd 0 J33 V1]
abbrev J9x:List Ent:=.cells 35 31 [Vi 18,Vb 19,Vb 20,Vb 21,Vb 22,Vi 23,Vi 24,Vi 25,Vi 26,Vs 27,Vs 28,Vs 29,Va 30,Va 32]::J9f::J9g::J2v
abbrev J9y:List Ent:=.rd 48 J2t V49::.rd 50 J1x V51::J9x
abbrev J9z:Tree:=.ite (.and (.eqI V52 N12) (.eqS V16 (.S [50,9,0,3,97,47,98,0,10,104,105]))) (.callM 63 [] J9y [] [] [] [.rd 65 J2t V66,.rd 67 J1x V68] (.cv (true,[Vi 53,Vb 54,Vb 55,Vb 56,Vb 57,Vi 58,Vi 59,Vi 60,Vi 61,Vs 62,Vs 63,Vs 64,Va 65,Va 67])) 16 (.callP (.B true) 24 [.cv (true,[Vi 18,Vb 19,Vb 20,Vb 21,Vb 22,Vi 23,Vi 24,Vi 25,Vi 26,Vs 27,Vs 28,Vs 29,Va 30,Va 32]),.cv (true,[Vi 53,Vb 54,Vb 55,Vb 56,Vb 57,Vi 58,Vi 59,Vi 60,Vi 61,Vs 62,Vs 63,Vs 64,Va 65,Va 67])] (.rd 65 J2t V66::.rd 67 J1x V68::J9y) (Vq [Vb 69]) 1 (.ret (Vq [Vb 69]) []))) J6c
abbrev Ja0:Ent:=.cells 17 262 [Va 24,Va 25]
abbrev Ja1:Ent:=.cells 17 262 [Va 18,Va 19]
abbrev Ja2:List Ent:=.row 19 5 J5f V20::Ja1::J2w
abbrev Ja3:X:=.setR V9 V7 (.consI .u8 (.rI V9 V8 0) .nilL)
abbrev Ja4:X:=.consI .u8 (.wrap .u8 V3) .nilL
abbrev Ja5:Ent:=.st 38
abbrev Ja6:Ent:=.row 45 68 J6r V46
abbrev Ja7:Ent:=.row 34 68 J6r V35
abbrev Ja8:Ent:=.st 20
abbrev Ja9:Ent:=.rd 39 J7h V40
abbrev Jaa:Ent:=.rd 41 J7h V42
abbrev Jab:List Kd:=[.str,.bool,.bool,.oth,.oth,Vk]
abbrev Jac:Ent:=.row 43 63 Jab V44
abbrev Jad:Ent:=.row 27 68 J6r V28
abbrev Jae:List Kd:=[.str,Vk,.bool,.bool,.bool,.bool,Vk,Vk,Vk,Vk,.str,.str,.str,.oth,.oth,Vk,Vk,Vk,Vk,.str,.oth,.str]
abbrev Jaf:Ent:=.row 48 57 Jae V49
abbrev Jag:Ent:=.st 12
abbrev Jah:Ent:=.rd 3 J7h V4
abbrev Jai:Ent:=.row 65 57 Jae V66
abbrev Jaj:Ent:=.cells 51 50 [.int .i64 N16,.int .i64 (.I 69),Vi 47,.str (.rS V35 V37 1),.nils,Vs 14]
abbrev Jak:Ent:=.cells 50 68 [.int .i64 (.rI V35 V37 0),.str (.rS V35 V37 1),.str (.rS V35 V37 2),.int .i64 (.rI V35 V37 3)]
abbrev Jal:X:=.consS (.S []) (.consI .i64 N12 (.consB (.B false) (.consB (.B false) (.consB (.B false) (.consB (.B false) (.consI .i64 N12 (.consI .i64 N12 (.consI .i64 N12 (.consI .i64 N12 (.consS (.S []) (.consS (.S []) (.consS (.S []) (.consV .nilS (.consV .nilS (.consI .i64 (.rI V35 V37 0) (.consI .i64 V56 (.consI .i64 V57 (.consI .i64 V58 (.consS V59 (.consV V60 (.consS V62 .nilL)))))))))))))))))))))
abbrev Nam:X:=.I 567489872400
abbrev Jan:Tree:=.bindV (.callM 111 [.cv (true,[.int .i64 N16,.int .i64 (.I 69),Vi 47,.str (.rS V35 V37 1),.nils,Vs 14]),Vq [.int .i64 N2k],Vq [Va 55]] [.row 55 9 J5a (.snocR .nilR (.consS V54 .nilL)),.cells 53 50 [.int .i64 N12,.int .i64 N12,.int .i64 N12,.str (.S []),.nils,.str (.S [])],.cells 52 50 [.int .i64 N16,.int .i64 (.I 69),Vi 47,.str (.rS V35 V37 1),.nils,Vs 14],Jaj,Jak,Ja5,Ja6,Ja7,Ja8,J5i,Ja9,Jaa,Jac,Jad,Jaf,Jag,.cells 0 165 [Va 39,Va 41,Va 43,Va 45,.int .i64 (.bits .and .i64 (.add V47 N16) N7o),Va 48],Jah] [] [] [] [.rd 60 J33 V61] (.cv (true,[Vi 56,Vi 57,Vi 58,Vs 59,Va 60,Vs 62])) 7 (.bindN (.bindV (.need (.le (.add (.rlen V49) (.rlen (.snocR .nilR Jal))) Nam) (.bindV (.jump 2 [N12,N12,N12,N12,V56,V57,V58,V59,V60,V61,V62,N12,N12,V65,.snocR V49 Jal]))))))
abbrev Jao:Tree:=.bindN (.bindN (.both (.callP (.B true) 243 [Vq [.int .i64 (.rI V35 V37 3)]] [] (Vq [Vs 54]) 1 Jan) (.callP (.B true) 243 [Vq [.int .i64 (.rI V35 V37 3)]] [] (Vq [Vs 54]) 1 (.both Jan Jan))))
abbrev Jap:Ent:=.rd 21 J7h V22
abbrev Jaq:Ent:=.rd 23 J7h V24
abbrev Jar:Ent:=.row 25 63 Jab V26
abbrev Jas:List Ent:=[Jad,.row 30 57 Jae V31,Jag,.cells 0 165 [Va 21,Va 23,Va 25,Va 27,Vi 29,Va 30],Jah]
abbrev Jat:List Ent:=Ja8::J5i::Jap::Jaq::Jar::Jas
abbrev Jau:Tree:=.back 0 [.add V19 N16,V58,V46,V47,V48,V49,V50,V51,V52,V53,V54,V55,V56]
abbrev Jav:Ent:=.rd 46 J7h V47
abbrev Jaw:Ent:=.rd 48 J7h V49
abbrev Jax:Ent:=.row 50 63 Jab V51
abbrev Jay:Ent:=.row 52 68 J6r V53
abbrev Jaz:Ent:=.row 55 57 Jae V56
abbrev Jb0:Ent:=.rd 39 J2 V40
abbrev Jb1:Ent:=.rd 41 J2 V42
abbrev Jb2:Ent:=.rd 44 J6 V45
abbrev Jb3:Ent:=.cells 35 63 [Vs 36,Vb 37,Vb 38,Va 39,Va 41,Vi 43]
abbrev Jb4:Ent:=.cells 32 71 [.str (.rS V17 V19 0),.int .i64 (.rI V17 V19 1)]
abbrev Jb5:Ent:=.cells 0 165 [Va 46,Va 48,Va 50,Va 52,Vi 54,Va 55]
abbrev Jb6:List Ent:=[Jb4,Ja8,J5i,Jap,Jaq,Jag,Jb5,Jah]
abbrev Jb7:List Ent:=[Jav,Jaw,Jax,Jay,Jaz,.st 57]
abbrev Jb8:Ent:=.cells 45 63 [Vs 35,Vb 36,Vb 37,Va 38,Va 40,Vi 42]
abbrev Jb9:Ent:=.rd 38 J2 V39
abbrev Jba:Ent:=.rd 40 J2 V41
abbrev Jbb:Ent:=.rd 43 J6 V44
abbrev Jbc:List X:=[V1,V2,V3,V4,V5,V6,V7,V8,V9,V10,V11]
abbrev Jbd:Ent:=.rd 1 J7h V2
abbrev Jbe:Ent:=.row 5 63 Jab V6
abbrev Jbf:Ent:=.row 10 57 Jae V11
abbrev Jbg:Ent:=.cells 0 165 [Va 1,Va 3,Va 5,Va 7,Vi 9,Va 10]
abbrev Jbh:List Ent:=[Jbd,Jah,Jbe,J6s,Jbf,Jag,Jbg]
abbrev Jbi:Ent:=.cells 31 50 [Vi 21,.int .i64 (.I 69),Vi 23,Vs 24,Va 25,.str (.rS V2 V32 1)]
abbrev Jbj:Ent:=.cells 30 50 [Vi 21,.int .i64 (.I 69),Vi 23,Vs 24,Va 25,.str (.rS V2 V32 1)]
abbrev Jbk:Ent:=.cells 29 50 [Vi 14,Vi 15,Vi 16,Vs 17,Va 18,Vs 20]
abbrev Jbl:List Ent:=[.rd 18 J33 V19,.rd 25 J33 V26]
abbrev Jbm:List Ent:=Jbk::Jbd::Jah::Jbe::J6s::Jbf::Jag::Jbg::Jbl
abbrev Jbn:Ent:=.row 36 68 J6r V37
abbrev Jbo:List Ent:=Jbk::Jbd::Jah::Jbe::J6s::Jbf::Jag::.cells 0 165 [Va 1,Va 3,Va 5,Va 36,Vi 9,Va 10]::Jbl
abbrev Jbp:Ent:=.cells 31 50 [.int .i64 N12,.int .i64 N12,.int .i64 N12,.str (.S []),.nils,.str (.S [])]
abbrev Jbq:List Ent:=Jbp::Jbj::Jbm
abbrev Jbr:Ent:=.row 42 9 J5a (.snocR .nilR (.consS V41 .nilL))
abbrev Jbs:Ent:=.cells 39 50 [Vi 21,.int .i64 (.I 69),Vi 23,Vs 24,Va 25,.str (.rS V2 V32 1)]
abbrev Jbt:Tree:=.bindV (.callM 111 [.cv (true,[Vi 21,.int .i64 (.I 69),Vi 23,Vs 24,Va 25,.str (.rS V2 V32 1)]),Vq [.int .i64 N2k],Vq [Va 42]] (Jbr::.cells 40 50 [.int .i64 N12,.int .i64 N12,.int .i64 N12,.str (.S []),.nils,.str (.S [])]::Jbs::Jbn::Jbp::Jbj::Jbo) [] [] [] [.rd 47 J33 V48] (.cv (true,[Vi 43,Vi 44,Vi 45,Vs 46,Va 47,Vs 49])) 7 (.ret (.cv (true,[Vi 43,Vi 44,Vi 45,Vs 46,Va 47,Vs 49])) (.rd 47 J33 V48::Jbr::.cells 40 50 [Vi 43,Vi 44,Vi 45,Vs 46,Va 47,Vs 49]::Jbs::Jbn::.cells 31 50 [Vi 43,Vi 44,Vi 45,Vs 46,Va 47,Vs 49]::.cells 30 50 [Vi 43,Vi 44,Vi 45,Vs 46,Va 47,Vs 49]::Jbo)))
abbrev Jbu:Tree:=.jump 0 []
abbrev V86:X:=.var 86
abbrev Jbw:Ent:=.rd 85 J7h V86
abbrev V88:X:=.var 88
abbrev V90:X:=.var 90
abbrev V92:X:=.var 92
abbrev Jc0:Ent:=.row 94 57 Jae (.var 95)
abbrev Jc1:Ent:=.rd 73 J7h V74
abbrev Jc2:Ent:=.rd 75 J7h V76
abbrev Jc3:X:=.consS (.S []) (.consS (.S []) (.consS (.S []) J2l))
abbrev Jc4:X:=.consI .i64 N12 (.consI .i64 N12 Jc3)
abbrev Jc5:X:=.consI .i64 N12 (.consI .i64 N12 Jc4)
abbrev Jc6:Ent:=.row 72 31 J6 (.snocR .nilR (.consI .i64 N22 (.consB (.B false) (.consB (.B false) (.consB (.B false) (.consB (.and (.not (.rB V37 V31 2)) (.not V17)) Jc5))))))
abbrev Jc7:Ent:=.cells 71 63 [Vs 61,Vb 62,Vb 63,Va 64,Va 66,Vi 68]
abbrev Jc8:Ent:=.rd 64 J2 V65
abbrev Jc9:Ent:=.rd 66 J2 V67
abbrev Jca:Ent:=.rd 69 J6 V70
abbrev Jcb:Ent:=.rd 50 J7h V56
abbrev Jcc:Ent:=.rd 51 J7h V57
abbrev Jcd:Ent:=.cells 30 31 [Vi 14,Vb 15,Vb 16,Vb 17,Vb 18,Vi 19,Vi 20,Vi 21,Vi 22,Vs 23,Vs 24,Vs 25,Va 26,Va 28]
abbrev V91:X:=.var 91
abbrev V93:X:=.var 93
abbrev Jcg:Ent:=.cells 0 165 [Va 85,Va 87,Va 89,Va 91,Vi 93,Va 94]
abbrev Jch:Ent:=.rd 26 J2t V27
abbrev Jci:Ent:=.rd 28 J1x V29
abbrev Jcj:List Ent:=[Jch,Jci]
abbrev V81:X:=.var 81
abbrev Jcl:Ent:=.cells 0 165 [Va 73,Va 75,Va 77,Va 79,Vi 81,Va 82]
abbrev Jcm:X:=.setR V58 V31 (.consS (.rS V58 V31 0) (.consB (.rB V58 V31 1) (.consB V17 (.consV (.rV V58 V31 3) (.consV (.rV V58 V31 4) (.consI .i64 (.rI V58 V31 5) .nilL))))))
abbrev Jcn:List Ent:=.row 53 68 J6r V59::.row 55 57 Jae V60::Jcd::Jbd::Jah::Jag::.cells 0 165 [Va 50,Va 51,Va 52,Va 53,Vi 54,Va 55]::Jcj
abbrev Jco:Ent:=.rd 38 J7h V39
abbrev Jcp:Ent:=.rd 40 J7h V41
abbrev Jcq:Ent:=.row 42 63 Jab V43
abbrev Jcr:Ent:=.row 44 68 J6r V45
abbrev Jcs:Ent:=.row 47 57 Jae V48
abbrev Jct:List Ent:=[Jco,Jcp,Jcq,Jcr,Jcs,.st 49]
abbrev Jcu:Ent:=.cells 0 165 [Va 38,Va 40,Va 42,Va 44,Vi 46,Va 47]
abbrev Jcv:Ent:=.row 34 63 Jab V35
abbrev Jcw:List Ent:=J6s::Jbf::Jag::Jbg::Jcj
abbrev Jcx:List Ent:=Jcd::Jbd::Jah::Jbe::Jcw
abbrev Jcy:Ent:=.rd 34 J7h V35
abbrev Jcz:Ent:=.rd 36 J7h V37
abbrev Jd0:Ent:=.row 38 63 Jab V39
abbrev Jd1:Ent:=.row 40 68 J6r V41
abbrev Jd2:Ent:=.row 43 57 Jae V44
abbrev Jd3:Ent:=.row 33 31 J6 (.snocR .nilR (.consI .i64 N22 (.consB (.B false) (.consB (.B false) (.consB (.B false) (.consB (.B false) (.consI .i64 N12 (.consI .i64 N12 (.consI .i64 N12 (.consI .i64 N25 Jc3))))))))))
abbrev Jd4:Ent:=.cells 0 165 [Va 34,Va 36,Va 38,Va 40,Vi 42,Va 43]
abbrev Jd5:List Ent:=Jcd::Jbd::Jah::Jag::Jd4::Jcj
abbrev Jd6:List Ent:=[Jcy,Jcz,Jd0,Jd1,Jd2,.st 45]
abbrev Jd7:Tree:=.ret (.tup []) Jcx
abbrev Jd8:Ent:=.rd 19 J2 V20
abbrev Jd9:Ent:=.rd 21 J2 V22
abbrev Jda:List Ent:=[Jd8,Jd9,Jbd,Jah,.row 5 63 Jab V24,J6s,Jbf,Jag,Jbg]
abbrev Jdb:Ent:=.rd 27 J7h V28
abbrev Jdc:Ent:=.rd 29 J7h V30
abbrev Jdd:Ent:=.row 31 63 Jab V32
abbrev Jde:Ent:=.row 33 68 J6r V34
abbrev Jdf:List Ent:=[.cells 0 165 [Va 27,Va 29,Va 31,Va 33,Vi 35,Va 36]]
abbrev Jdg:Tree:=.callM 133 [.cv (true,[.str (.rS V6 V14 0),.bool (.rB V6 V14 1),.bool (.rB V6 V14 2),.val (.rV V6 V14 3),.val (.rV V6 V14 4),.int .i64 (.rI V6 V14 5)])] Jbh [] [] [] [Jd8,Jd9] (.cv (true,[Vs 16,Vb 17,Vb 18,Va 19,Va 21,Vi 23])) 8 (.jump 0 [V16,V17,V18,V19,V20,V21,V22,V23,.setR V6 V14 (.consS V16 (.consB V17 (.consB V18 (.consV V19 (.consV V21 (.consI .i64 V23 .nilL))))))])
abbrev Jdh:List Ent:=[Jbd,Jah,.rd 5 Jab V6,.st 7,.rd 8 J6r V9,.cells 0 27 [Va 1,Va 3,Va 5,Va 8,Vi 10]]
abbrev Jdi:Tree:=.ret (Vq [Vi 11]) Jdh
abbrev Jdj:Ent:=.st 74
abbrev Jdk:X:=.consV .nilS J1k
abbrev Jdl:X:=.consS (.S []) (.consI .i64 N12 (.consB (.B false) (.consB (.B false) (.consB (.B false) (.consB (.B false) (.consI .i64 N12 (.consI .i64 N12 (.consI .i64 N12 (.consI .i64 N12 (.consS (.S []) (.consS (.S []) (.consS (.S []) (.consV .nilS (.consV .nilS (.consI .i64 V13 (.consI .i64 V23 (.consI .i64 (.I 133) (.consI .i64 V24 (.consS V17 Jdk)))))))))))))))))))
abbrev Jdm:Ent:=.row 27 57 Jae (.snocR .nilR Jdl)
abbrev Jdn:Ent:=.cells 26 50 [Vi 23,.int .i64 (.I 133),Vi 24,Vs 17,.nils,.str (.S [])]
abbrev Jdo:Ent:=.cells 21 50 [Vi 14,Vi 15,Vi 16,Vs 17,Va 18,Vs 20]
abbrev Jdp:List Ent:=[.rd 18 J33 V19]
abbrev Jdq:List X:=[V24,V17,.nilS,.S [],V1,V3,V5,V7,V25,V28,.nilR,V2,V4,V6,V8,.snocR V11 Jdl,V31]
abbrev Jdr:Ent:=.row 28 57 Jae (.snocR V11 Jdl)
abbrev Jds:List Ent:=Jdo::Jbd::Jah::Jbe::J6s::Jag::.cells 0 165 [Va 1,Va 3,Va 5,Va 7,Vi 25,Va 28]::Jdp
abbrev Jdt:List Ent:=Jdr::Jdm::Jdn::.cells 22 50 [Vi 23,.int .i64 (.I 133),Vi 24,Vs 17,.nils,.str (.S [])]::Jds
abbrev Jdu:List X:=[V24,V17,.nilS,.S [],V32,V34,V36,V38,V40,V41,.nilR,V33,V35,V37,V39,V42,V44]
abbrev Jdv:Ent:=.rd 32 J7h V33
abbrev Jdw:Ent:=.row 36 63 Jab V37
abbrev Jdx:Ent:=.row 38 68 J6r V39
abbrev Jdy:Ent:=.row 41 57 Jae V42
abbrev Jdz:Ent:=.st 43
abbrev Je0:Ent:=.cells 22 50 [Vi 23,.int .i64 (.I 66),Vi 24,Vs 17,.nils,.str (.S [])]
abbrev Je1:Ent:=.cells 0 165 [Va 32,Va 34,Va 36,Va 38,Vi 40,Va 41]
abbrev Je2:List Ent:=Jdo::Jbd::Jah::Jag::Je1::Jdp
abbrev Je3:List Ent:=[Jdv,Jcy,Jdw,Jdx,Jdy,Jdz]
abbrev Je4:Ent:=.cells 22 50 [Vi 23,.int .i64 N65,Vi 24,Vs 17,.nils,.str (.S [])]
abbrev Je5:List Ent:=Jdr::Jdm::Jdn::Je4::Jds
abbrev Je6:Tree:=.pack Je5 (.jump 0 (N12::N12::N12::N12::N12::N12::N12::N12::N12::N12::N12::N12::N12::N12::N12::N12::N12::N12::N12::N12::N12::N12::N12::N12::N12::V23::N65::Jdq))
abbrev Je7:Ent:=.rd 44 J7h V45
abbrev Je8:Ent:=.row 48 63 Jab V49
abbrev Je9:Ent:=.row 50 68 J6r V51
abbrev Jea:Ent:=.row 53 57 Jae V54
abbrev Jeb:Ent:=.cells 22 50 [Vi 23,.int .i64 (.I 68),Vi 24,Vs 17,.nils,.str (.S [])]
abbrev Jec:Ent:=.cells 0 165 [Va 44,Va 46,Va 48,Va 50,Vi 52,Va 53]
abbrev Jed:List Ent:=[Je7,Jav,Je8,Je9,Jea,.st 55]
abbrev Jee:Ent:=.st 21
abbrev Jef:Ent:=.cells 18 27 [Va 22,Va 24,Va 26,Va 28,Vi 30]
abbrev Jeg:Ent:=.row 28 68 J6r V29
abbrev Jeh:Ent:=.row 24 90 J7h V25
abbrev Jei:Ent:=.row 22 106 J7h V23
abbrev Jej:Ent:=.cells 10 27 [Va 0,Va 2,Va 4,Va 7,Vi 9]
abbrev Jek:Ent:=.rd 2 J7h V3
abbrev Jel:Ent:=.rd 4 Jab V5
abbrev Jem:Ent:=.rd 7 J6r V8
abbrev Jen:Ent:=.row 26 63 Jab V27
abbrev Jeo:List Ent:=[Jej,J7k,Jek,Jel,.st 6,Jem,Jen]
abbrev Jep:Ent:=.rd 36 J2 V37
abbrev Jeq:Ent:=.cells 31 63 [.str (.rS V5 V20 0),.bool (.rB V5 V20 1),.bool (.rB V5 V20 2),.val (.rV V5 V20 3),.val (.rV V5 V20 4),.int .i64 (.rI V5 V20 5)]
abbrev Jer:Ent:=.cells 11 27 [.nils,.nils,.nils,.nils,.int .i64 N12]
abbrev Jes:List Ent:=[Jer,Jej,J7k,Jek,Jel,.st 6,Jem]
abbrev Jet:X:=.consS (.rS V5 V20 0) (.consB (.rB V5 V20 1) (.consB (.rB V5 V20 2) (.consV V34 (.consV V36 (.consI .i64 (.rI V5 V20 5) .nilL)))))
abbrev Jeu:Tree:=.bindV (.need (.le (.add (.rlen V27) (.rlen (.snocR .nilR Jet))) (.I 1759218604441)) (.bindV (.jump 1 [N12,N12,V34,V35,V36,V37,V38,V39,.snocR V27 Jet,.snocR .nilR Jet])))
abbrev Jev:Ent:=.cells 33 63 [.str (.S []),.bool (.B false),.bool (.B false),.nils,.nils,.int .i64 N12]
abbrev Jew:List Ent:=Jev::.cells 32 63 [.str (.rS V5 V20 0),.bool (.rB V5 V20 1),.bool (.rB V5 V20 2),.val (.rV V5 V20 3),.val (.rV V5 V20 4),.int .i64 (.rI V5 V20 5)]::Jeq::Jee::Jef::Jeg::Jeh::Jei::Jer::Jeo
abbrev Jex:Tree:=.callM 268 [Vq [.val (.rV V5 V20 3)]] Jew [] [] [] [J1b] (Vq [Va 34]) 2 (.callM 268 [Vq [.val (.rV V5 V20 4)]] (J1b::Jew) [] [] [] [J1d] (Vq [Va 36]) 2 (.both Jeu Jeu))
abbrev Jey:Tree:=.callM 268 [Vq [.val (.rV V5 V20 3)]] Jew [] [] [] [J1b] (Vq [Va 34]) 2 (.callM 268 [Vq [.val (.rV V5 V20 4)]] (J1b::Jew) [] [] [] [J1d] (Vq [Va 36]) 2 Jeu)
abbrev Jez:List Ent:=.row 12 106 J7h V13::Jes
abbrev Jf0:List Ent:=[.row 17 68 J6r V18]
abbrev Jf1:Ent:=.row 15 90 J7h V16
abbrev Jf2:List Ent:=.cells 12 27 [.nils,.nils,.nils,.nils,.int .i64 N12]::Jes
abbrev Jf3:List Ent:=.cells 14 27 [.nils,.nils,.nils,.nils,.int .i64 N12]::Jez
abbrev Jf4:Ent:=.rd 22 J7h V23
abbrev Jf5:Ent:=.rd 24 J7h V25
abbrev Jf6:Ent:=.rd 16 J7h V17
abbrev Jf7:List Ent:=[Jbd,Jf5,Jen,J6s,.row 29 57 Jae V30,Jag,.cells 0 165 [Va 22,Va 24,Va 26,Va 7,Vi 28,Va 29],Jf6]
abbrev Jf8:List Ent:=.row 31 68 J6r .nilR::Jee::Jf4::.cells 15 9 [Vs 34]::Jf7
abbrev Jf9:X:=.clrR V39 V36 (.consI .i64 N12 J6w)
abbrev Jfa:Ent:=.cells 35 68 [.int .i64 (.rI V8 V33 0),.str (.rS V8 V33 1),.str (.rS V8 V33 2),.int .i64 (.rI V8 V33 3)]
abbrev Jfb:Ent:=.cells 31 68 [.int .i64 (.rI V8 V20 0),.str (.rS V8 V20 1),.str (.rS V8 V20 2),.int .i64 (.rI V8 V20 3)]
abbrev Jfc:Ent:=.cells 15 9 [Vs 13]
abbrev Jfd:X:=.consS (.S []) (.consI .i64 N12 (.consB (.B false) (.consB (.B false) (.consB (.B false) (.consB (.B false) (.consI .i64 N12 (.consI .i64 N12 (.consI .i64 N12 (.consI .i64 N12 (.consS (.S []) (.consS (.S []) (.consS (.S []) (.consV .nilS (.consV .nilS (.consI .i64 (.rI V8 V20 0) (.consI .i64 N16 (.consI .i64 (.I 132) (.consI .i64 V28 (.consS (.rS V8 V20 1) Jdk)))))))))))))))))))
abbrev Jfe:Tree:=.bindN (.bindV (.need (.le (.add (.rlen V30) (.rlen (.snocR .nilR Jfd))) Nam) (.bindV (.jump 1 [N12,N12,V34]))))
abbrev Jff:Tree:=.need (.le N19 (.add V28 N16)) (.need (.le (.add V28 N16) N18) Jfe)
abbrev Jfg:List Ent:=[Jf6,Jfc,Jbd,Jah,Jbe,J6s,Jbf,Jag,.cells 0 165 [Va 16,Va 3,Va 5,Va 7,Vi 9,Va 10]]
abbrev Jfh:Ent:=.rd 30 J7h V31
abbrev Jfi:Ent:=.cells 29 165 [Va 30,Va 32,Va 34,Va 36,Vi 38,Va 39]
abbrev Jfj:Ent:=.rd 19 J7h V20
abbrev Jfk:Ent:=.cells 16 27 [Va 0,Va 2,Va 4,Va 7,Vi 9]
abbrev Jfl:List Ent:=[.cells 12 9 [Vs 10],.cells 11 27 [Va 0,Va 2,Va 4,Va 7,Vi 9],J7k,Jek,Jel,.st 6,Jem]
abbrev Jfm:List Ent:=.cells 13 27 [.nils,.nils,.nils,.nils,.int .i64 N12]::Jfl
abbrev Jfn:List Ent:=.row 18 57 Jae .nilR::.cells 17 27 [.nils,.nils,.nils,.nils,.int .i64 N12]::Jfk::Jfm
abbrev Jfo:Tree:=.bindN (.bindN (.letV .nilS (.callM 126 [.cv (true,[Va 0,Va 2,Va 4,Va 7,Vi 9])] Jfn [] [] [] [Jfj,Jap,.row 23 63 Jab V24,.row 25 68 J6r V26,.st 28] (.cv (true,[Va 19,Va 21,Va 23,Va 25,Vi 27])) 10 (.bindN (.callM 39 [Vq [.ptr 29 0],Vq [Vs 10]] (.cells 29 165 [Va 19,Va 21,Va 23,Va 25,Vi 27,.nils]::Jfj::Jap::.row 23 63 Jab V24::.row 25 68 J6r V26::.st 28::Jfn) [29] [23,25] [Jfi] [Jfh,Jdv,Jcv,Jbn,.row 39 57 Jae V40,.st 41] (.tup []) 12 (.bindN (.ret (.tup [(true,[Va 30,Va 32,Va 34,Va 36,Vi 38]),(false,[.int .i64 N12])]) (.cells 42 27 [Va 30,Va 32,Va 34,Va 36,Vi 38]::Jfh::Jdv::Jcv::Jbn::.row 39 57 Jae V40::.st 41::Jfi::Jfj::Jap::.st 28::.row 18 57 Jae .nilR::.cells 17 27 [Va 30,Va 32,Va 34,Va 36,Vi 38]::Jfk::.cells 13 27 [Va 30,Va 32,Va 34,Va 36,Vi 38]::Jfl))))))))
abbrev Jfp:X:=.snocR .nilR (.consI .i64 N5c (.consB (.B false) (.consB (.B false) (.consB (.B false) (.consB (.B false) (.consI .i64 N12 (.consI .i64 V44 Jc4)))))))
abbrev Jfq:Ent:=.row 35 90 J7h .nilR
abbrev Jfr:Ent:=.row 32 90 J7h .nilR
abbrev Jfs:Ent:=.cells 31 31 [Vi 38,Vb 39,Vb 40,Vb 41,Vb 42,Vi 43,Vi 44,Vi 45,Vi 46,Vs 47,Vs 48,Vs 49,Va 50,Va 52]
abbrev Jft:Ent:=.cells 30 9 [Vs 54]
abbrev Jfu:Ent:=.cells 0 165 [Va 56,Va 58,Va 60,Va 62,Vi 64,Va 65]
abbrev Jfv:List Ent:=[.rd 50 J2t V51,.rd 52 J1x V53]
abbrev Jfw:List Ent:=Jfq::.row 33 90 J7h V34::Jfr::Jfs::Jft::Jbd::Jah::Jbe::J6s::Jbf::Jag::.cells 0 165 [Va 1,Va 33,Va 5,Va 7,Vi 9,Va 10]::Jfv
abbrev Jfx:List X:=[V38,V39,V40,V41,V42,V43,V44,V45,V46,V47,V48,V49,V50,V51,V52,V53,V54]
abbrev Jfy:Tree:=.need (.le N19 (.add V37 N16)) (.need (.le (.add V37 N16) N18) (.back 0 (V36::.add V37 N16::Jfx)))
abbrev Jfz:Ent:=.rd 83 J7h V84
abbrev Jg0:Ent:=.row 82 31 J6 (.snocR .nilR (.consI .i64 N5c (.consB (.B false) (.consB (.B false) (.consB (.B false) (.consB (.B false) (.consI .i64 N12 (.consI .i64 V70 Jc4))))))))
abbrev Jg1:Ent:=.cells 55 90 [Vs 58,Vs 59,Vi 60]
abbrev Jg2:Ent:=.cells 31 31 [Vi 64,Vb 65,Vb 66,Vb 67,Vb 68,Vi 69,Vi 70,Vi 71,Vi 72,Vs 73,Vs 74,Vs 75,Va 76,Va 78]
abbrev Jg3:Ent:=.cells 0 165 [Va 83,Va 85,Va 87,Va 89,Vi 91,Va 92]
abbrev Jg4:List Ent:=[.rd 76 J2t V77,.rd 78 J1x V79]
abbrev Jg5:List X:=[V64,V65,V66,V67,V68,V69,V70,V71,V72,V73,V74,V75,V76,V77,V78,V79,V80]
abbrev Jg6:Tree:=.need (.le N12 V61) (.need (.lt V61 (.rlen V63)) (.need (.le N19 (.add V61 N16)) (.need (.le (.add V61 N16) N18) (.need (.le N19 (.add V62 N16)) (.need (.le (.add V62 N16) N18) (.back 2 (.add V61 N16::.add V62 N16::.setR V63 V61 (.consS (.rS V63 V62 0) (.consS (.rS V63 V62 1) (.consI .i64 (.rI V63 V62 2) .nilL)))::Jg5)))))))
abbrev Jg7:Tree:=.need (.le N19 (.add V62 N16)) (.need (.le (.add V62 N16) N18) (.back 2 (V61::.add V62 N16::V63::Jg5)))
abbrev Jg8:List X:=V37::.add V37 N16::V34::Jfx
abbrev Jg9:Ent:=.cells 0 165 [Va 62,Va 64,Va 66,Va 68,Vi 70,Va 71]
abbrev Jga:Ent:=.row 88 63 Jab (.var 89)
abbrev Jgb:Ent:=.row 93 57 Jae (.var 94)
abbrev Jgc:Ent:=.row 83 31 J6 (.snocR .nilR (.consI .i64 N5c (.consB (.B false) (.consB (.B false) (.consB (.B false) (.consB (.B false) (.consI .i64 N12 (.consI .i64 V71 Jc4))))))))
abbrev Jgd:Ent:=.cells 61 88 [.str (.rS V51 V57 0),.int .i64 (.rI V51 V57 1)]
abbrev Jge:Ent:=.cells 31 31 [Vi 65,Vb 66,Vb 67,Vb 68,Vb 69,Vi 70,Vi 71,Vi 72,Vi 73,Vs 74,Vs 75,Vs 76,Va 77,Va 79]
abbrev Jgf:Ent:=.cells 0 165 [Va 84,Va 86,Va 88,Va 90,Vi 92,Va 93]
abbrev Jgg:List Ent:=[.rd 77 J2t V78,.rd 79 J1x V80]
abbrev Jgh:List X:=[V65,V66,V67,V68,V69,V70,V71,V72,V73,V74,V75,V76,V77,V78,V79,V80,V81]
abbrev Jgi:Tree:=.need (.le N12 V62) (.need (.lt V62 (.rlen V64)) (.need (.le N19 (.add V62 N16)) (.need (.le (.add V62 N16) N18) (.need (.le N19 (.add V63 N16)) (.need (.le (.add V63 N16) N18) (.back 2 (.add V62 N16::.add V63 N16::.setR V64 V62 (.consS (.rS V64 V63 0) (.consS (.rS V64 V63 1) (.consI .i64 (.rI V64 V63 2) .nilL)))::Jgh)))))))
abbrev Jgj:Tree:=.need (.le N19 (.add V63 N16)) (.need (.le (.add V63 N16) N18) (.back 2 (V62::.add V63 N16::V64::Jgh)))
abbrev Jgk:Ent:=.rd 63 J7h V64
abbrev Jgl:Ent:=.rd 65 J7h V66
abbrev Jgm:Ent:=.row 67 63 Jab V68
abbrev Jgn:Ent:=.row 69 68 J6r V70
abbrev Jgo:Ent:=.row 72 57 Jae V73
abbrev Jgp:Ent:=.cells 0 165 [Va 63,Va 65,Va 67,Va 69,Vi 71,Va 72]
abbrev Jgq:List Ent:=[Jgk,Jgl,Jgm,Jgn,Jgo,Jdj]
abbrev Jgr:Ent:=.rd 33 J7h V34
abbrev Jgs:Ent:=.cells 0 165 [Va 33,Va 35,Va 37,Va 39,Vi 41,Va 42]
abbrev Jgt:Tree:=.ret (.tup []) (Jgr::.rd 35 J7h V36::.row 37 63 Jab V38::.row 39 68 J6r V40::.row 42 57 Jae V43::.st 44::Jcd::Jbd::Jah::Jag::Jgs::Jcj)
abbrev Jgu:List Ent:=[Jgr,.rd 35 J7h V36,.row 37 63 Jab V38,.row 39 68 J6r V40,.row 42 57 Jae V43,.st 44]
abbrev Jgv:Ent:=.row 33 31 J6 (.snocR .nilR (.consI .i64 N8v (.consB (.B false) (.consB (.B false) (.consB (.B false) (.consB (.B false) Jc5))))))
abbrev Jgw:Ent:=.cells 43 63 [Vs 33,Vb 34,Vb 35,Va 36,Va 38,Vi 40]
abbrev Jgx:Ent:=.rd 41 J6 V42
abbrev Jgy:List Ent:=Jcd::Jbd::Jah::Jag::Jec::Jcj
abbrev Jgz:Ent:=.row 31 57 Jae .nilR
abbrev Jh0:List Ent:=[.cells 29 31 [Vi 11,Vb 12,Vb 13,Vb 14,Vb 15,Vi 16,Vi 17,Vi 18,Vi 19,Vs 20,Vs 21,Vs 22,Va 23,Va 25],.cells 28 9 [Vs 10],.cells 27 27 [Va 0,Va 2,Va 4,Va 7,Vi 9],J7k,Jek,Jel,.st 6,Jem,.rd 23 J2t V24,.rd 25 J1x V26]
abbrev Jh1:List Ent:=Jgz::.cells 30 27 [.nils,.nils,.nils,.nils,.int .i64 N12]::Jh0
abbrev Jh2:Ent:=.rd 51 J7h V52
abbrev Jh3:Ent:=.cells 48 165 [Va 49,Va 51,Va 53,Va 55,Vi 57,Va 58]
abbrev Jh4:Ent:=.cells 35 27 [Va 0,Va 2,Va 4,Va 7,Vi 9]
abbrev Jh5:List Ent:=.row 37 57 Jae .nilR::.cells 36 27 [.nils,.nils,.nils,.nils,.int .i64 N12]::Jh4::Jh1
abbrev Jh6:Ent:=.cells 47 165 [Va 48,Va 50,Va 52,Va 54,Vi 56,Va 57]
abbrev Jh7:Ent:=.rd 37 J7h V38
abbrev Jh8:Ent:=.cells 34 27 [Va 0,Va 2,Va 4,Va 7,Vi 9]
abbrev Jh9:List Ent:=.row 36 57 Jae .nilR::.cells 35 27 [.nils,.nils,.nils,.nils,.int .i64 N12]::Jh8::Jh1
abbrev Jha:Ent:=.rd 17 J6r V18
abbrev Jhb:List Ent:=[Jf4,Jf5,.rd 26 Jab V27,.st 7,Jha,.cells 0 27 [Va 22,Va 24,Va 26,Va 17,Vi 28]]
abbrev Jhc:List Ent:=.cells 29 68 [.int .i64 (.rI V18 V21 0),.str (.rS V18 V21 1),.str (.rS V18 V21 2),.int .i64 (.rI V18 V21 3)]::Jhb
abbrev Jhd:List Ent:=[.rd 13 J7h V14,Jah,.rd 15 Jab V16,.st 7,Jha,.cells 0 27 [Va 13,Va 3,Va 15,Va 17,Vi 19]]
abbrev Jhe:List Ent:=.cells 20 90 [.str (.rS V4 V12 0),.str (.rS V4 V12 1),.int .i64 (.rI V4 V12 2)]::Jhd
abbrev Jhf:X:=.consS V13 (.consI .i64 (.rI V15 V17 0) (.consB (.rB V15 V17 1) (.consB (.rB V15 V17 2) (.consB (.rB V15 V17 3) (.consB (.rB V15 V17 4) (.consI .i64 (.rI V15 V17 5) (.consI .i64 (.rI V15 V17 6) (.consI .i64 (.rI V15 V17 7) (.consI .i64 (.rI V15 V17 8) (.consS (.rS V15 V17 9) (.consS (.rS V15 V17 10) (.consS (.rS V15 V17 11) (.consV (.rV V15 V17 12) (.consV (.rV V15 V17 13) (.consI .i64 N12 (.consI .i64 N12 (.consI .i64 N12 (.consI .i64 N12 (.consS (.S []) Jdk)))))))))))))))))))
abbrev Jhg:Ent:=.row 62 31 J6 (.snocR .nilR (.consI .i64 V35 (.consB V36 (.consB V37 (.consB V38 (.consB V39 (.consI .i64 V40 (.consI .i64 V41 (.consI .i64 V42 (.consI .i64 V43 (.consS V44 (.consS V45 (.consS V46 (.consV V47 (.consV V49 .nilL)))))))))))))))
abbrev Jhh:Ent:=.st 34
abbrev Jhi:Ent:=.cells 31 31 [Vi 35,Vb 36,Vb 37,Vb 38,Vb 39,Vi 40,Vi 41,Vi 42,Vi 43,Vs 44,Vs 45,Vs 46,Va 47,Va 49]
abbrev Jhj:Ent:=.rd 53 J7h V54
abbrev Jhk:List Ent:=[Jch,Jci,.rd 47 J2t V48,.rd 49 J1x V50]
abbrev Jhl:List Ent:=.st 77::.rd 78 J7h V79::.rd 80 J7h V81::.row 82 63 Jab V83::.row 84 68 J6r V85::.row 87 57 Jae V88::Jdj::Jhg::Jhh::Jhi::Jcd::Jh2::Jhj::Jag::.cells 0 165 [Va 78,Va 80,Va 82,Va 84,Vi 86,Va 87]::Jhk
abbrev Jhm:Ent:=.rd 90 J7h V91
abbrev Jhn:Ent:=.cells 89 88 [.str (.rS V27 V76 0),.int .i64 (.rI V27 V76 1)]
abbrev Jho:Ent:=.rd 95 J7h (.var 96)
abbrev Jhp:List Ent:=[Jch,Jci,.rd 47 J2t V48,.rd 49 J1x V50,.rd 78 J7h V79]
abbrev Jhq:List Ent:=.st 94::Jhm::Jhn::.st 77::Jho::.rd 97 J7h (.var 98)::.row 99 63 Jab (.var 100)::.row 101 68 J6r (.var 102)::.row 104 57 Jae (.var 105)::Jdj::Jhg::Jhh::Jhi::Jcd::Jh2::Jhj::Jag::.cells 0 165 [Va 95,Va 97,Va 99,Va 101,Vi 103,Va 104]::Jhp
abbrev Jhr:Ent:=.row 112 63 Jab (.var 113)
abbrev Jhs:Ent:=.row 114 68 J6r (.var 115)
abbrev Jht:Ent:=.row 117 57 Jae (.var 118)
abbrev Jhu:Ent:=.row 107 31 J6 (.snocR .nilR (.consI .i64 N25 (.consB (.B false) (.consB (.B true) (.consB (.B false) (.consB (.B false) (.consI .i64 N12 (.consI .i64 N12 (.consI .i64 N12 (.consI .i64 N12 (.consS (.S []) (.consS (.rS V91 V93 0) (.consS (.rS V91 V93 1) J2l)))))))))))))
abbrev Jhv:Ent:=.cells 106 106 [.str (.rS V91 V93 0),.str (.rS V91 V93 1),.int .i64 (.rI V91 V93 2)]
abbrev Jhw:Ent:=.cells 0 165 [Va 108,Va 110,Va 112,Va 114,Vi 116,Va 117]
abbrev Jhx:List X:=[V78,V79,V80,V81,V82,V83,V84,V85,V86,V87,V88]
abbrev Jhy:Ent:=.row 55 63 Jab V56
abbrev Jhz:Ent:=.row 57 68 J6r V58
abbrev Ji0:Ent:=.row 60 57 Jae V61
abbrev Ji1:Ent:=.cells 0 165 [Va 51,Va 53,Va 55,Va 57,Vi 59,Va 60]
abbrev Ji2:X:=.snocR V50 (.consI .i64 N65 .nilL)
abbrev Ji3:List X:=[V55,V56,V57,V58,V59,V60,V61]
abbrev Ji4:X:=.snocR .nilR (.consI .i64 N65 .nilL)
abbrev Ji5:Ent:=.cells 62 88 [.str (.rS V27 V33 0),.int .i64 (.rI V27 V33 1)]
abbrev Ji6:Ent:=.cells 31 31 [Vi 35,Vb 36,Vb 37,Vb 38,Vb 39,Vi 40,Vi 41,Vi 42,Vi 43,Vs 44,Vs 45,Vs 46,Va 47,Va 67]
abbrev Ji7:List Ent:=[Jch,Jci,.row 47 88 J2t V48]
abbrev Ji8:X:=.consI .i64 (.rI V27 V33 1) .nilL
abbrev Ji9:Ent:=.row 22 57 Jae .nilR
abbrev Jia:List Ent:=[.cells 20 50 [Vi 11,Vi 12,Vi 13,Vs 14,Va 15,Vs 17],.cells 19 3 [Vi 10],.cells 18 27 [Va 0,Va 2,Va 4,Va 7,Vi 9],J7k,Jek,Jel,.st 6,Jem,.rd 15 J33 V16]
abbrev Jib:List Ent:=Ji9::.cells 21 27 [.nils,.nils,.nils,.nils,.int .i64 N12]::Jia
abbrev Jic:Ent:=.cells 38 165 [Va 28,Va 30,Va 32,Va 34,Vi 36,.nils]
abbrev Jid:Ent:=.rd 28 J7h V29
abbrev Jie:Ent:=.row 32 63 Jab V33
abbrev Jif:Ent:=.row 27 57 Jae .nilR
abbrev Jig:Ent:=.cells 25 27 [Va 0,Va 2,Va 4,Va 7,Vi 9]
abbrev Jih:List Ent:=Jid::Jfh::Jie::Ja7::.st 37::Jif::.cells 26 27 [Va 28,Va 30,Va 32,Va 34,Vi 36]::Jig::Ji9::.cells 21 27 [Va 28,Va 30,Va 32,Va 34,Vi 36]::Jia
abbrev Jii:Ent:=.cells 38 165 [Va 39,Va 41,Va 43,Va 45,Vi 47,Va 48]
abbrev Jij:List Ent:=Jif::.cells 26 27 [.nils,.nils,.nils,.nils,.int .i64 N12]::Jig::Jib
abbrev Jik:X:=.snocR .nilR (.consS (.S []) (.consI .i64 N12 (.consB (.B false) (.consB (.B false) (.consB (.B false) (.consB (.B false) (.consI .i64 N12 (.consI .i64 N12 (.consI .i64 N12 (.consI .i64 N12 (.consS (.S []) (.consS (.S []) (.consS (.S []) (.consV .nilS (.consV .nilS (.consI .i64 V10 (.consI .i64 N25 (.consI .i64 N12 (.consI .i64 V13 (.consS (.S []) Jdk))))))))))))))))))))
abbrev Jil:Ent:=.cells 37 165 [Va 27,Va 29,Va 31,Va 33,Vi 35,.nils]
abbrev Jim:Ent:=.row 26 57 Jae .nilR
abbrev Jin:Ent:=.cells 24 27 [Va 0,Va 2,Va 4,Va 7,Vi 9]
abbrev Jio:List Ent:=Jdb::Jdc::Jdd::Jde::.st 36::Jim::.cells 25 27 [Va 27,Va 29,Va 31,Va 33,Vi 35]::Jin::Ji9::.cells 21 27 [Va 27,Va 29,Va 31,Va 33,Vi 35]::Jia
abbrev Jip:Ent:=.cells 37 165 [Va 38,Va 40,Va 42,Va 44,Vi 46,Va 47]
abbrev Jiq:List Ent:=Jim::.cells 25 27 [.nils,.nils,.nils,.nils,.int .i64 N12]::Jin::Jib
abbrev Jir:Ent:=.cells 0 165 [Va 31,Va 33,Va 35,Va 37,Vi 39,Va 40]
abbrev Jis:List Ent:=Jcd::Jbd::Jah::Jag::Je1::Jcj
abbrev Jit:Ent:=.row 31 31 J6 (.snocR .nilR (.consI .i64 N2y (.consB (.B false) (.consB (.B false) (.consB (.B false) (.consB (.B false) (.consI .i64 N12 (.consI .i64 V20 Jc4))))))))
abbrev Jiu:List Ent:=Jdv::Jcy::Jdw::Jdx::Jdy::Jdz::Jit::Jis
abbrev Jiv:Ent:=.rd 57 J7h V58
abbrev Jiw:Ent:=.rd 59 J7h V60
abbrev Jix:Ent:=.rd 45 J7h V46
abbrev Jiy:Ent:=.rd 47 J7h V48
abbrev Jiz:Ent:=.cells 0 165 [Va 57,Va 59,Va 61,Va 63,Vi 65,Va 66]
abbrev Jj0:Ent:=.cells 0 165 [Va 45,Va 47,Va 49,Va 51,Vi 53,Va 54]
abbrev Jj1:Ent:=.row 15 90 J7h .nilR
abbrev Jj2:List Ent:=[.row 18 90 J7h .nilR,.row 16 90 J7h V17,Jj1,.cells 14 9 [Vs 21],Jbd,Jah,Jbe,J6s,Jbf,Jag,.cells 0 165 [Va 1,Va 16,Va 5,Va 7,Vi 9,Va 10]]
abbrev Jj3:Ent:=.cells 22 90 [.str (.rS V17 V20 0),.str (.rS V17 V20 1),.int .i64 (.rI V17 V20 2)]
abbrev Jj4:Tree:=.need (.le N19 (.add V4 N16)) (.need (.le (.add V4 N16) N18) (.back 0 [V3,.add V4 N16]))
abbrev Jj5:Ent:=.rd 71 J7h V72
abbrev Jj6:List Ent:=[.cells 37 50 [Vi 28,Vi 29,Vi 30,Vs 31,Va 32,Vs 34],.cells 36 31 [Vi 11,Vb 12,Vb 13,Vb 14,Vb 15,Vi 16,Vi 17,Vi 18,Vi 19,Vs 20,Vs 21,Vs 22,Va 23,Va 25],Jh4,J7k,Jek,Jel,.st 6,Jem,.rd 23 J2t V24,.rd 25 J1x V26,.rd 32 J33 V33]
abbrev Jj7:List Ent:=.cells 54 27 [Va 41,Va 43,Va 45,Va 47,Vi 49]::Jaa::.rd 43 J7h V44::.rd 45 Jab V46::.rd 47 J6r V48::.rd 50 Jae V51::.st 53::Jj6
abbrev Jj8:List Ent:=.cells 68 27 [Va 55,Va 57,Va 59,Va 61,Vi 63]::.rd 55 J7h V56::Jiv::.rd 59 Jab V60::.rd 61 J6r V62::.rd 64 Jae V65::.st 67::Jj7
abbrev Jj9:List Ent:=.cells 80 27 [Va 69,Va 71,Va 73,Va 75,Vi 77]::.rd 69 J7h V70::Jj5::.rd 73 Jab V74::.rd 75 J6r V76::.st 79::Jj8
abbrev Jja:List Ent:=[.rd 0 Jae V1,.st 2]
abbrev Jjb:List Ent:=[J7k,Jek,Jel,.rd 6 J6r V7,.st 9]
abbrev Jjc:List Ent:=.rd 22 J2t V23::.rd 24 J1x V25::Jjb
abbrev Jjd:List Ent:=.cells 39 27 [Va 26,Va 28,Va 30,Va 32,Vi 34]::.rd 26 J7h V27::Jid::.rd 30 Jab V31::.rd 32 J6r V33::.rd 35 Jae V36::Ja5::Jjc
abbrev Jje:List Ent:=Jcp::.rd 42 J7h V43::.rd 44 Jab V45::.rd 46 J6r V47::.st 49::Jjd
abbrev Jjf:List Ent:=.cells 70 27 [Va 57,Va 59,Va 61,Va 63,Vi 65]::Jiv::Jiw::.rd 61 Jab V62::.rd 63 J6r V64::.rd 66 Jae V67::.st 69::.rd 54 J33 V55::Jje
abbrev Jjg:List Ent:=Jj5::Jc1::.rd 75 Jab V76::.rd 77 J6r V78::.st 80::Jjf
abbrev Jjh:List Ent:=.cells 92 27 [Va 81,Va 83,Va 85,Va 87,Vi 89]::.rd 81 J7h V82::Jfz::.rd 85 Jab V86::.rd 87 J6r V88::.st 91::Jjg
abbrev Jji:List Ent:=.rd 93 J7h (.var 94)::Jho::.rd 97 Jab (.var 98)::.rd 99 J6r (.var 100)::.st 102::Jjh
abbrev Jjj:Ent:=.rd 11 J2 V12
abbrev Jjk:X:=.snocR .nilR (.consS V5 (.consB V6 (.consB V7 (.consV V8 (.consV V10 J5u)))))
abbrev Jjl:X:=.dropR (.takeR V4 N22) N12
abbrev Jjm:List X:=[.dropR (.takeR V14 N16) N12,Jjk,Jjl]
abbrev Jjn:List Ent:=[.cells 0 27 [.nils,.nils,.nils,.nils,.int .i64 N12]]
abbrev Jjo:List Ent:=Jah::Jbd::Jjn
abbrev Jjp:List Ent:=.rd 8 J2 V9::.rd 10 J2 V11::Jjo
abbrev Jjq:X:=.dropR (.takeR V15 N16) N12
abbrev Jjr:List X:=[V14,V15,V16,Jjq,Jjk,Jjl]
abbrev Jjs:List X:=[V14,V15,V17,Jjq,Jjk,Jjl]
abbrev Jjt:List Ent:=[.rd 14 J6r V15]
abbrev Jju:X:=.dropR (.takeR V16 N16) N12
abbrev Jjv:List X:=[V15,V16,V17,Jju,Jjk,Jjl]
abbrev Jjw:List Ent:=[.rd 15 J6r V16]
abbrev Jjx:X:=.snocR .nilR (.consS V6 (.consB V7 (.consB V8 (.consV V9 (.consV V11 (.consI .i64 V13 .nilL))))))
abbrev Jjy:List Ent:=.rd 9 J2 V10::Jjj::.rd 5 J7h Jjl::Jjo
end Go.Proofs.YtkhakgbnfapifaaGreatDoor