/-
  The executor's table for this translation: types, functions that have a body, functions whose slices are the caller's. Written by a program of mine (wip/mkenv.py); the kernel checks it against the program. By an AI agent.
-/
import Derived.Test.YtkhakgbnfapifaaGreatDoorRows
import Derived.Test.YtkhakgbnfapifaaGreatDoorY05
set_option linter.unusedSimpArgs false
set_option linter.unusedVariables false
set_option maxHeartbeats 20000000
namespace Go.Proofs.YtkhakgbnfapifaaGreatDoor
open Go.Sx
def sxT:Tab:=[
 (2,{ agg:=false,ks:=[.int .i64],zs:=[.int .i64 (.I 0)],bytes:=8,tag:=.int .i64,eqs:=false }),
 (3,{ agg:=false,ks:=[.int .i64],zs:=[.int .i64 (.I 0)],bytes:=8,tag:=.int .i64,eqs:=false }),
 (4,{ agg:=false,ks:=[.bool],zs:=[.bool (.B false)],bytes:=1,tag:=.bool,eqs:=false }),
 (5,{ agg:=false,ks:=[.int .u8],zs:=[.int .u8 (.I 0)],bytes:=1,tag:=.int .u8,eqs:=false }),
 (6,{ agg:=false,ks:=[.int .u8],zs:=[.int .u8 (.I 0)],bytes:=1,tag:=.int .u8,eqs:=false }),
 (7,{ agg:=true,ks:=[.int .i64,.int .i64,.bool,.int .u8],zs:=[.int .i64 (.I 0),.int .i64 (.I 0),.bool (.B false),.int .u8 (.I 0)],bytes:=24,tag:=.strct [(0,2,1,false),(1,3,1,false),(2,4,1,false),(3,6,1,false)],eqs:=false }),
 (8,{ agg:=true,ks:=[.int .i64,.int .i64,.bool,.int .u8],zs:=[.int .i64 (.I 0),.int .i64 (.I 0),.bool (.B false),.int .u8 (.I 0)],bytes:=24,tag:=.strct [(0,2,1,false),(1,3,1,false),(2,4,1,false),(3,6,1,false)],eqs:=false }),
 (9,{ agg:=false,ks:=[.str],zs:=[.str (.S [])],bytes:=16,tag:=.str,eqs:=false }),
 (10,{ agg:=false,ks:=[.str],zs:=[.str (.S [])],bytes:=16,tag:=.str,eqs:=false }),
 (11,{ agg:=false,ks:=[.str],zs:=[.str (.S [])],bytes:=16,tag:=.str,eqs:=false }),
 (12,{ agg:=false,ks:=[.int .u64],zs:=[.int .u64 (.I 0)],bytes:=8,tag:=.int .u64,eqs:=false }),
 (13,{ agg:=true,ks:=[.str,.int .u64],zs:=[.str (.S []),.int .u64 (.I 0)],bytes:=24,tag:=.strct [(0,9,1,false),(1,12,1,false)],eqs:=false }),
 (14,{ agg:=true,ks:=[.str,.int .u64],zs:=[.str (.S []),.int .u64 (.I 0)],bytes:=24,tag:=.strct [(0,9,1,false),(1,12,1,false)],eqs:=false }),
 (15,{ agg:=false,ks:=[.oth],zs:=[.nilp],bytes:=8,tag:=.ptr 353,eqs:=false }),
 (16,{ agg:=false,ks:=[.oth],zs:=[.nilp],bytes:=8,tag:=.ptr 356,eqs:=false }),
 (17,{ agg:=false,ks:=[.oth],zs:=[.nilp],bytes:=8,tag:=.ptr 363,eqs:=false }),
 (18,{ agg:=true,ks:=[.oth],zs:=[.nilp],bytes:=8,tag:=.strct [(0,17,1,false)],eqs:=false }),
 (19,{ agg:=true,ks:=[.oth],zs:=[.nilp],bytes:=8,tag:=.strct [(0,17,1,false)],eqs:=false }),
 (21,{ agg:=false,ks:=[.int .i32],zs:=[.int .i32 (.I 0)],bytes:=4,tag:=.int .i32,eqs:=false }),
 (22,{ agg:=false,ks:=[.oth],zs:=[.nils],bytes:=24,tag:=.slice 106,eqs:=false }),
 (23,{ agg:=false,ks:=[.oth],zs:=[.nils],bytes:=24,tag:=.slice 90,eqs:=false }),
 (24,{ agg:=false,ks:=[.oth],zs:=[.nils],bytes:=24,tag:=.slice 63,eqs:=false }),
 (25,{ agg:=false,ks:=[.oth],zs:=[.nils],bytes:=24,tag:=.slice 68,eqs:=false }),
 (26,{ agg:=true,ks:=[.oth,.oth,.oth,.oth,.int .i64],zs:=[.nils,.nils,.nils,.nils,.int .i64 (.I 0)],bytes:=104,tag:=.strct [(0,22,1,false),(1,23,1,false),(2,24,1,false),(3,25,1,false),(4,3,1,false)],eqs:=false }),
 (27,{ agg:=true,ks:=[.oth,.oth,.oth,.oth,.int .i64],zs:=[.nils,.nils,.nils,.nils,.int .i64 (.I 0)],bytes:=104,tag:=.strct [(0,22,1,false),(1,23,1,false),(2,24,1,false),(3,25,1,false),(4,3,1,false)],eqs:=false }),
 (28,{ agg:=false,ks:=[.oth],zs:=[.nils],bytes:=24,tag:=.slice 88,eqs:=false }),
 (29,{ agg:=false,ks:=[.oth],zs:=[.nils],bytes:=24,tag:=.slice 3,eqs:=false }),
 (30,{ agg:=true,ks:=[.int .i64,.bool,.bool,.bool,.bool,.int .i64,.int .i64,.int .i64,.int .i64,.str,.str,.str,.oth,.oth],zs:=[.int .i64 (.I 0),.bool (.B false),.bool (.B false),.bool (.B false),.bool (.B false),.int .i64 (.I 0),.int .i64 (.I 0),.int .i64 (.I 0),.int .i64 (.I 0),.str (.S []),.str (.S []),.str (.S []),.nils,.nils],bytes:=144,tag:=.strct [(0,3,1,false),(1,4,1,false),(2,4,1,false),(3,4,1,false),(4,4,1,false),(5,3,1,false),(6,3,1,false),(7,3,1,false),(8,3,1,false),(9,9,1,false),(10,9,1,false),(11,9,1,false),(12,28,1,false),(13,29,1,false)],eqs:=false }),
 (31,{ agg:=true,ks:=[.int .i64,.bool,.bool,.bool,.bool,.int .i64,.int .i64,.int .i64,.int .i64,.str,.str,.str,.oth,.oth],zs:=[.int .i64 (.I 0),.bool (.B false),.bool (.B false),.bool (.B false),.bool (.B false),.int .i64 (.I 0),.int .i64 (.I 0),.int .i64 (.I 0),.int .i64 (.I 0),.str (.S []),.str (.S []),.str (.S []),.nils,.nils],bytes:=144,tag:=.strct [(0,3,1,false),(1,4,1,false),(2,4,1,false),(3,4,1,false),(4,4,1,false),(5,3,1,false),(6,3,1,false),(7,3,1,false),(8,3,1,false),(9,9,1,false),(10,9,1,false),(11,9,1,false),(12,28,1,false),(13,29,1,false)],eqs:=false }),
 (32,{ agg:=false,ks:=[.oth],zs:=[.nils],bytes:=24,tag:=.slice 57,eqs:=false }),
 (33,{ agg:=false,ks:=[.int .i64],zs:=[.int .i64 (.I 0)],bytes:=8,tag:=.int .i64,eqs:=false }),
 (41,{ agg:=true,ks:=[.oth,.oth,.oth,.oth,.int .i64,.oth],zs:=[.nils,.nils,.nils,.nils,.int .i64 (.I 0),.nils],bytes:=128,tag:=.strct [(0,27,5,true),(5,32,1,false)],eqs:=false }),
 (42,{ agg:=true,ks:=[.oth,.oth,.oth,.oth,.int .i64,.oth],zs:=[.nils,.nils,.nils,.nils,.int .i64 (.I 0),.nils],bytes:=128,tag:=.strct [(0,27,5,true),(5,32,1,false)],eqs:=false }),
 (48,{ agg:=false,ks:=[.oth],zs:=[.nils],bytes:=24,tag:=.slice 127,eqs:=false }),
 (49,{ agg:=true,ks:=[.int .i64,.int .i64,.int .i64,.str,.oth,.str],zs:=[.int .i64 (.I 0),.int .i64 (.I 0),.int .i64 (.I 0),.str (.S []),.nils,.str (.S [])],bytes:=80,tag:=.strct [(0,3,1,false),(1,3,1,false),(2,3,1,false),(3,9,1,false),(4,48,1,false),(5,9,1,false)],eqs:=false }),
 (50,{ agg:=true,ks:=[.int .i64,.int .i64,.int .i64,.str,.oth,.str],zs:=[.int .i64 (.I 0),.int .i64 (.I 0),.int .i64 (.I 0),.str (.S []),.nils,.str (.S [])],bytes:=80,tag:=.strct [(0,3,1,false),(1,3,1,false),(2,3,1,false),(3,9,1,false),(4,48,1,false),(5,9,1,false)],eqs:=false }),
 (56,{ agg:=true,ks:=[.str,.int .i64,.bool,.bool,.bool,.bool,.int .i64,.int .i64,.int .i64,.int .i64,.str,.str,.str,.oth,.oth,.int .i64,.int .i64,.int .i64,.int .i64,.str,.oth,.str],zs:=[.str (.S []),.int .i64 (.I 0),.bool (.B false),.bool (.B false),.bool (.B false),.bool (.B false),.int .i64 (.I 0),.int .i64 (.I 0),.int .i64 (.I 0),.int .i64 (.I 0),.str (.S []),.str (.S []),.str (.S []),.nils,.nils,.int .i64 (.I 0),.int .i64 (.I 0),.int .i64 (.I 0),.int .i64 (.I 0),.str (.S []),.nils,.str (.S [])],bytes:=248,tag:=.strct [(0,9,1,false),(1,31,14,true),(15,3,1,false),(16,50,6,true)],eqs:=false }),
 (57,{ agg:=true,ks:=[.str,.int .i64,.bool,.bool,.bool,.bool,.int .i64,.int .i64,.int .i64,.int .i64,.str,.str,.str,.oth,.oth,.int .i64,.int .i64,.int .i64,.int .i64,.str,.oth,.str],zs:=[.str (.S []),.int .i64 (.I 0),.bool (.B false),.bool (.B false),.bool (.B false),.bool (.B false),.int .i64 (.I 0),.int .i64 (.I 0),.int .i64 (.I 0),.int .i64 (.I 0),.str (.S []),.str (.S []),.str (.S []),.nils,.nils,.int .i64 (.I 0),.int .i64 (.I 0),.int .i64 (.I 0),.int .i64 (.I 0),.str (.S []),.nils,.str (.S [])],bytes:=248,tag:=.strct [(0,9,1,false),(1,31,14,true),(15,3,1,false),(16,50,6,true)],eqs:=false }),
 (61,{ agg:=false,ks:=[.oth],zs:=[.nils],bytes:=24,tag:=.slice 172,eqs:=false }),
 (62,{ agg:=true,ks:=[.str,.bool,.bool,.oth,.oth,.int .i64],zs:=[.str (.S []),.bool (.B false),.bool (.B false),.nils,.nils,.int .i64 (.I 0)],bytes:=80,tag:=.strct [(0,9,1,false),(1,4,1,false),(2,4,1,false),(3,61,1,false),(4,61,1,false),(5,3,1,false)],eqs:=false }),
 (63,{ agg:=true,ks:=[.str,.bool,.bool,.oth,.oth,.int .i64],zs:=[.str (.S []),.bool (.B false),.bool (.B false),.nils,.nils,.int .i64 (.I 0)],bytes:=80,tag:=.strct [(0,9,1,false),(1,4,1,false),(2,4,1,false),(3,61,1,false),(4,61,1,false),(5,3,1,false)],eqs:=false }),
 (64,{ agg:=false,ks:=[.oth],zs:=[.nils],bytes:=24,tag:=.slice 71,eqs:=false }),
 (67,{ agg:=true,ks:=[.int .i64,.str,.str,.int .i64],zs:=[.int .i64 (.I 0),.str (.S []),.str (.S []),.int .i64 (.I 0)],bytes:=48,tag:=.strct [(0,3,1,false),(1,9,1,false),(2,9,1,false),(3,3,1,false)],eqs:=false }),
 (68,{ agg:=true,ks:=[.int .i64,.str,.str,.int .i64],zs:=[.int .i64 (.I 0),.str (.S []),.str (.S []),.int .i64 (.I 0)],bytes:=48,tag:=.strct [(0,3,1,false),(1,9,1,false),(2,9,1,false),(3,3,1,false)],eqs:=true }),
 (70,{ agg:=true,ks:=[.str,.int .i64],zs:=[.str (.S []),.int .i64 (.I 0)],bytes:=24,tag:=.strct [(0,9,1,false),(1,3,1,false)],eqs:=false }),
 (71,{ agg:=true,ks:=[.str,.int .i64],zs:=[.str (.S []),.int .i64 (.I 0)],bytes:=24,tag:=.strct [(0,9,1,false),(1,3,1,false)],eqs:=true }),
 (80,{ agg:=false,ks:=[.oth],zs:=[.nilp],bytes:=8,tag:=.ptr 165,eqs:=false }),
 (87,{ agg:=true,ks:=[.str,.int .i64],zs:=[.str (.S []),.int .i64 (.I 0)],bytes:=24,tag:=.strct [(0,9,1,false),(1,3,1,false)],eqs:=false }),
 (88,{ agg:=true,ks:=[.str,.int .i64],zs:=[.str (.S []),.int .i64 (.I 0)],bytes:=24,tag:=.strct [(0,9,1,false),(1,3,1,false)],eqs:=true }),
 (89,{ agg:=true,ks:=[.str,.str,.int .i64],zs:=[.str (.S []),.str (.S []),.int .i64 (.I 0)],bytes:=40,tag:=.strct [(0,9,1,false),(1,88,2,true)],eqs:=false }),
 (90,{ agg:=true,ks:=[.str,.str,.int .i64],zs:=[.str (.S []),.str (.S []),.int .i64 (.I 0)],bytes:=40,tag:=.strct [(0,9,1,false),(1,88,2,true)],eqs:=true }),
 (95,{ agg:=false,ks:=[.oth],zs:=[.nilp],bytes:=8,tag:=.ptr 42,eqs:=false }),
 (97,{ agg:=false,ks:=[.oth],zs:=[.nils],bytes:=24,tag:=.slice 31,eqs:=false }),
 (105,{ agg:=true,ks:=[.str,.str,.int .i64],zs:=[.str (.S []),.str (.S []),.int .i64 (.I 0)],bytes:=40,tag:=.strct [(0,9,1,false),(1,9,1,false),(2,3,1,false)],eqs:=false }),
 (106,{ agg:=true,ks:=[.str,.str,.int .i64],zs:=[.str (.S []),.str (.S []),.int .i64 (.I 0)],bytes:=40,tag:=.strct [(0,9,1,false),(1,9,1,false),(2,3,1,false)],eqs:=true }),
 (126,{ agg:=true,ks:=[.int .i64,.str],zs:=[.int .i64 (.I 0),.str (.S [])],bytes:=24,tag:=.strct [(0,3,1,false),(1,9,1,false)],eqs:=false }),
 (127,{ agg:=true,ks:=[.int .i64,.str],zs:=[.int .i64 (.I 0),.str (.S [])],bytes:=24,tag:=.strct [(0,3,1,false),(1,9,1,false)],eqs:=true }),
 (149,{ agg:=true,ks:=[.int .i64,.bool,.int .i64],zs:=[.int .i64 (.I 0),.bool (.B false),.int .i64 (.I 0)],bytes:=24,tag:=.strct [(0,3,1,false),(1,4,1,false),(2,3,1,false)],eqs:=false }),
 (150,{ agg:=true,ks:=[.int .i64,.bool,.int .i64],zs:=[.int .i64 (.I 0),.bool (.B false),.int .i64 (.I 0)],bytes:=24,tag:=.strct [(0,3,1,false),(1,4,1,false),(2,3,1,false)],eqs:=true }),
 (155,{ agg:=false,ks:=[.oth],zs:=[.nils],bytes:=24,tag:=.slice 9,eqs:=false }),
 (164,{ agg:=true,ks:=[.oth,.oth,.oth,.oth,.int .i64,.oth],zs:=[.nils,.nils,.nils,.nils,.int .i64 (.I 0),.nils],bytes:=128,tag:=.strct [(0,27,5,true),(5,32,1,false)],eqs:=false }),
 (165,{ agg:=true,ks:=[.oth,.oth,.oth,.oth,.int .i64,.oth],zs:=[.nils,.nils,.nils,.nils,.int .i64 (.I 0),.nils],bytes:=128,tag:=.strct [(0,27,5,true),(5,32,1,false)],eqs:=false }),
 (171,{ agg:=true,ks:=[.int .i64,.str,.str],zs:=[.int .i64 (.I 0),.str (.S []),.str (.S [])],bytes:=40,tag:=.strct [(0,3,1,false),(1,9,1,false),(2,9,1,false)],eqs:=false }),
 (172,{ agg:=true,ks:=[.int .i64,.str,.str],zs:=[.int .i64 (.I 0),.str (.S []),.str (.S [])],bytes:=40,tag:=.strct [(0,3,1,false),(1,9,1,false),(2,9,1,false)],eqs:=true }),
 (184,{ agg:=false,ks:=[.oth],zs:=[.nils],bytes:=24,tag:=.slice 114,eqs:=false }),
 (202,{ agg:=false,ks:=[.oth],zs:=[.nilm],bytes:=8,tag:=.other,eqs:=false }),
 (207,{ agg:=false,ks:=[.int .u64],zs:=[.int .u64 (.I 0)],bytes:=8,tag:=.int .u64,eqs:=false }),
 (217,{ agg:=false,ks:=[.oth],zs:=[.nilp],bytes:=8,tag:=.ptr 219,eqs:=false }),
 (218,{ agg:=true,ks:=[.str,.int .i64,.bool],zs:=[.str (.S []),.int .i64 (.I 0),.bool (.B false)],bytes:=32,tag:=.strct [(0,9,1,false),(1,3,1,false),(2,4,1,false)],eqs:=false }),
 (219,{ agg:=true,ks:=[.str,.int .i64,.bool],zs:=[.str (.S []),.int .i64 (.I 0),.bool (.B false)],bytes:=32,tag:=.strct [(0,9,1,false),(1,3,1,false),(2,4,1,false)],eqs:=true }),
 (221,{ agg:=false,ks:=[.oth],zs:=[.nilp],bytes:=8,tag:=.ptr 31,eqs:=false }),
 (223,{ agg:=false,ks:=[.oth],zs:=[.nilp],bytes:=8,tag:=.ptr 225,eqs:=false }),
 (224,{ agg:=true,ks:=[.str,.bool],zs:=[.str (.S []),.bool (.B false)],bytes:=24,tag:=.strct [(0,9,1,false),(1,4,1,false)],eqs:=false }),
 (225,{ agg:=true,ks:=[.str,.bool],zs:=[.str (.S []),.bool (.B false)],bytes:=24,tag:=.strct [(0,9,1,false),(1,4,1,false)],eqs:=true }),
 (232,{ agg:=false,ks:=[.oth],zs:=[.nilp],bytes:=8,tag:=.ptr 236,eqs:=false }),
 (235,{ agg:=true,ks:=[.str,.bool,.bool,.oth,.oth,.int .i64,.oth],zs:=[.str (.S []),.bool (.B false),.bool (.B false),.nils,.nils,.int .i64 (.I 0),.nils],bytes:=104,tag:=.strct [(0,63,6,true),(6,97,1,false)],eqs:=false }),
 (236,{ agg:=true,ks:=[.str,.bool,.bool,.oth,.oth,.int .i64,.oth],zs:=[.str (.S []),.bool (.B false),.bool (.B false),.nils,.nils,.int .i64 (.I 0),.nils],bytes:=104,tag:=.strct [(0,63,6,true),(6,97,1,false)],eqs:=false }),
 (241,{ agg:=false,ks:=[.oth],zs:=[.nils],bytes:=24,tag:=.slice 5,eqs:=false }),
 (257,{ agg:=false,ks:=[.oth],zs:=[.nilp],bytes:=8,tag:=.ptr 262,eqs:=false }),
 (258,{ agg:=false,ks:=[.oth],zs:=[.nilp],bytes:=8,tag:=.ptr 260,eqs:=false }),
 (259,{ agg:=true,ks:=[.oth,.oth],zs:=[.nilp,.nils],bytes:=32,tag:=.strct [(0,258,1,false),(1,241,1,false)],eqs:=false }),
 (260,{ agg:=true,ks:=[.oth,.oth],zs:=[.nilp,.nils],bytes:=32,tag:=.strct [(0,258,1,false),(1,241,1,false)],eqs:=false }),
 (261,{ agg:=true,ks:=[.oth,.oth],zs:=[.nilp,.nils],bytes:=32,tag:=.strct [(0,260,2,true)],eqs:=false }),
 (262,{ agg:=true,ks:=[.oth,.oth],zs:=[.nilp,.nils],bytes:=32,tag:=.strct [(0,260,2,true)],eqs:=false }),
 (290,{ agg:=false,ks:=[.int .i64],zs:=[.int .i64 (.I 0)],bytes:=8,tag:=.int .i64,eqs:=false }),
 (297,{ agg:=false,ks:=[.int .u32],zs:=[.int .u32 (.I 0)],bytes:=4,tag:=.int .u32,eqs:=false }),
 (299,{ agg:=false,ks:=[.int .u64],zs:=[.int .u64 (.I 0)],bytes:=8,tag:=.int .u64,eqs:=false }),
 (305,{ agg:=false,ks:=[.oth],zs:=[.nilp],bytes:=8,tag:=.ptr 5,eqs:=false }),
 (320,{ agg:=false,ks:=[.int .u64],zs:=[.int .u64 (.I 0)],bytes:=8,tag:=.int .u64,eqs:=false }),
 (324,{ agg:=false,ks:=[.oth],zs:=[.nilp],bytes:=8,tag:=.ptr 3,eqs:=false }),
 (328,{ agg:=false,ks:=[.oth],zs:=[.nilp],bytes:=8,tag:=.ptr 316,eqs:=false }),
 (341,{ agg:=false,ks:=[.oth],zs:=[.nilp],bytes:=8,tag:=.ptr 320,eqs:=false }),
 (349,{ agg:=true,ks:=[.int .u8,.int .u8],zs:=[.int .u8 (.I 0),.int .u8 (.I 0)],bytes:=2,tag:=.strct [(0,5,1,false),(1,5,1,false)],eqs:=false }),
 (350,{ agg:=true,ks:=[.int .u8,.int .u8],zs:=[.int .u8 (.I 0),.int .u8 (.I 0)],bytes:=2,tag:=.strct [(0,5,1,false),(1,5,1,false)],eqs:=false }),
 (352,{ agg:=true,ks:=[.oth,.oth,.oth,.str],zs:=[.nilp,.nilp,.nilp,.str (.S [])],bytes:=40,tag:=.strct [(0,17,1,false),(1,17,1,false),(2,17,1,false),(3,9,1,false)],eqs:=false }),
 (353,{ agg:=true,ks:=[.oth,.oth,.oth,.str],zs:=[.nilp,.nilp,.nilp,.str (.S [])],bytes:=40,tag:=.strct [(0,17,1,false),(1,17,1,false),(2,17,1,false),(3,9,1,false)],eqs:=false }),
 (357,{ agg:=false,ks:=[.int .u8],zs:=[.int .u8 (.I 0)],bytes:=1,tag:=.int .u8,eqs:=false }),
 (358,{ agg:=false,ks:=[.int .u8],zs:=[.int .u8 (.I 0)],bytes:=1,tag:=.int .u8,eqs:=false }),
 (360,{ agg:=false,ks:=[.int .i32],zs:=[.int .i32 (.I 0)],bytes:=4,tag:=.int .i32,eqs:=false }),
 (361,{ agg:=false,ks:=[.int .i32],zs:=[.int .i32 (.I 0)],bytes:=4,tag:=.int .i32,eqs:=false })]
noncomputable def sxE:Env:=⟨sxT,[(0,[]),(34,[27,32,33]),(36,[27,33]),(65,[64,33]),(73,[50,33]),(78,[27,32]),(98,[63,97]),(102,[23,33]),(118,[3,4]),(129,[9,33]),(131,[3,33]),(133,[25,33]),(151,[150,33]),(158,[31,33]),(175,[22,33]),(178,[25,25]),(215,[3,3,33]),(284,[3,283]),(291,[3,290]),(306,[9,3,33]),(308,[3,9]),(317,[316,4]),(331,[21,3]),(342,[3,3]),(345,[297,297])],[3,4,5,6,7,8,9,10,11,12,13,14,15,16,17,18,19,20,21,22,23,24,25,26,27,28,29,30,31,32,33,34,35,36,37,38,39,40,41,42,43,44,45,46,47,48,49,50,51,52,53,54,55,56,57,58,59,60,61,62,63,64,65,66,67,68,69,70,71,72,73,74,75,76,77,78,79,80,81,82,83,84,85,86,87,88,89,90,91,92,93,94,95,96,97,98,99,100,101,102,103,104,105,106,107,108,109,110,111,112,113,114,115,116,117,118,119,120,121,122,123,124,125,126,127,128,129,130,131,132,133,134,135,136,137,138,139,140,141,142,143,144,145,146,147,148,149,150,151,152,153,154,155,156,157,158,159,160,161,162,163,164,165,166,167,168,169,170,171,172,173,174,175,176,177,178,179,180,181,182,183,184,185,186,187,188,189,190,191,192,193,194,195,196,197,198,199,200,201,202,203,204,205,206,207,208,209,210,211,212,213,214,215,216,217,218,219,220,221,222,223,224,225,226,227,228,229,230,231,232,233,234,235,236,237,238,239,240,241,242,243,244,246,247,248,249,250,251,252,253,254,255,256,257,258,259,260,261,262,263,264,265,266,267,268,270,271,272,273,274,275,276,277,278,279,281,282,283,284,285,286,288,289,290,291,292,293,294,295,296,297,298,299,300,301,302,303,304,305,306,307,308,309,310,311,312,313,314,315,316,317,318,320,321,322,323,324,325,326,327,328,329,330,331,332,333,334,335,336,338,339,340,342,343,346,347,348,349,350,351,352,354,355,377],[59,93,126,134,192,205,206,207,209,228,229,234,236,244,268,285,286],[134,147,192,209,236,285,286],[253],[(35,Tryz.f35),(36,Tryz.f36),(38,Tryz.f38),(46,Tryz.f46),(51,Tryz.f51),(55,Tryz.f55),(75,Tryz.f75),(76,Tryz.f76),(77,Tryz.f77),(79,Tryz.f79),(80,Tryz.f80),(84,Tryz.f84),(86,Tryz.f86),(87,Tryz.f87),(89,Tryz.f89),(110,Tryz.f110),(124,Tryz.f124),(156,Tryz.f156),(157,Tryz.f157),(158,Tryz.f158),(159,Tryz.f159),(160,Tryz.f160),(161,Tryz.f161),(163,Tryz.f163),(164,Tryz.f164),(165,Tryz.f165),(168,Tryz.f168),(175,Tryz.f175),(176,Tryz.f176),(177,Tryz.f177),(178,Tryz.f178),(179,Tryz.f179),(180,Tryz.f180),(185,Tryz.f185),(187,Tryz.f187),(188,Tryz.f188),(189,Tryz.f189),(190,Tryz.f190),(191,Tryz.f191),(208,Tryz.f208),(211,Tryz.f211),(212,Tryz.f212),(213,Tryz.f213),(216,Tryz.f216),(217,Tryz.f217),(218,Tryz.f218),(219,Tryz.f219),(220,Tryz.f220),(231,Tryz.f231),(232,Tryz.f232),(235,Tryz.f235),(241,Tryz.f241),(254,Tryz.f254),(259,Tryz.f259),(260,Tryz.f260),(261,Tryz.f261),(266,Tryz.f266),(267,Tryz.f267),(271,Tryz.f271),(272,Tryz.f272),(273,Tryz.f273),(274,Tryz.f274),(275,Tryz.f275),(276,Tryz.f276),(277,Tryz.f277),(284,Tryz.f284),(306,Tryz.f306),(307,Tryz.f307),(310,Tryz.f310),(311,Tryz.f311),(313,Tryz.f313),(314,Tryz.f314),(315,Tryz.f315)],[],[9,10,14,15,19,21,37,39,50,52,53,56,62,87,88,126,127,128,130,131,132,135,170,171,172],[106,90,1042063,1042068]⟩
theorem sxE_check:sxE.check Tryz.prog=true:=by kernel_rfl
theorem sxE_inl:∀p∈sxE.inl,Tryz.prog.funcs[p.1]?=some p.2:=qy2.2 ⟨Tryz.func35,qy2.2 ⟨Tryz.func36,qy2.2 ⟨Tryz.func38,qy2.2 ⟨Tryz.func46,qy2.2 ⟨Tryz.func51,qy2.2 ⟨Tryz.func55,qy2.2 ⟨Tryz.func75,qy2.2 ⟨Tryz.func76,qy2.2 ⟨Tryz.func77,qy2.2 ⟨Tryz.func79,qy2.2 ⟨Tryz.func80,qy2.2 ⟨Tryz.func84,qy2.2 ⟨Tryz.func86,qy2.2 ⟨Tryz.func87,qy2.2 ⟨Tryz.func89,qy2.2 ⟨Tryz.func110,qy2.2 ⟨Tryz.func124,qy2.2 ⟨Tryz.func156,qy2.2 ⟨Tryz.func157,qy2.2 ⟨Tryz.func158,qy2.2 ⟨Tryz.func159,qy2.2 ⟨Tryz.func160,qy2.2 ⟨Tryz.func161,qy2.2 ⟨Tryz.func163,qy2.2 ⟨Tryz.func164,qy2.2 ⟨Tryz.func165,qy2.2 ⟨Tryz.func168,qy2.2 ⟨Tryz.func175,qy2.2 ⟨Tryz.func176,qy2.2 ⟨Tryz.func177,qy2.2 ⟨Tryz.func178,qy2.2 ⟨Tryz.func179,qy2.2 ⟨Tryz.func180,qy2.2 ⟨Tryz.func185,qy2.2 ⟨Tryz.func187,qy2.2 ⟨Tryz.func188,qy2.2 ⟨Tryz.func189,qy2.2 ⟨Tryz.func190,qy2.2 ⟨Tryz.func191,qy2.2 ⟨Tryz.func208,qy2.2 ⟨Tryz.func211,qy2.2 ⟨Tryz.func212,qy2.2 ⟨Tryz.func213,qy2.2 ⟨Tryz.func216,qy2.2 ⟨Tryz.func217,qy2.2 ⟨Tryz.func218,qy2.2 ⟨Tryz.func219,qy2.2 ⟨Tryz.func220,qy2.2 ⟨Tryz.func231,qy2.2 ⟨Tryz.func232,qy2.2 ⟨Tryz.func235,qy2.2 ⟨Tryz.func241,qy2.2 ⟨Tryz.func254,qy2.2 ⟨Tryz.func259,qy2.2 ⟨Tryz.func260,qy2.2 ⟨Tryz.func261,qy2.2 ⟨Tryz.func266,qy2.2 ⟨Tryz.func267,qy2.2 ⟨Tryz.func271,qy2.2 ⟨Tryz.func272,qy2.2 ⟨Tryz.func273,qy2.2 ⟨Tryz.func274,qy2.2 ⟨Tryz.func275,qy2.2 ⟨Tryz.func276,qy2.2 ⟨Tryz.func277,qy2.2 ⟨Tryz.func284,qy2.2 ⟨Tryz.func306,qy2.2 ⟨Tryz.func307,qy2.2 ⟨Tryz.func310,qy2.2 ⟨Tryz.func311,qy2.2 ⟨Tryz.func313,qy2.2 ⟨Tryz.func314,qy2.2 ⟨Tryz.func315,qy5 _⟩⟩⟩⟩⟩⟩⟩⟩⟩⟩⟩⟩⟩⟩⟩⟩⟩⟩⟩⟩⟩⟩⟩⟩⟩⟩⟩⟩⟩⟩⟩⟩⟩⟩⟩⟩⟩⟩⟩⟩⟩⟩⟩⟩⟩⟩⟩⟩⟩⟩⟩⟩⟩⟩⟩⟩⟩⟩⟩⟩⟩⟩⟩⟩⟩⟩⟩⟩⟩⟩⟩⟩⟩
theorem sxE_ok:EnvOK Tryz.prog sxE:=Env.ok sxE_check sxE_inl
abbrev Va (n:Nat):Sc:=.val (.var n)
abbrev Vi (n:Nat):Sc:=.int .i64 (.var n)
abbrev Vs (n:Nat):Sc:=.str (.var n)
abbrev Vb (n:Nat):Sc:=.bool (.var n)
abbrev Vk:Kd:=.int .i64
abbrev Vq (l:List Sc):SV:=.cv (false,l)
abbrev V29:X:=.var 29
abbrev J2:List Kd:=[Vk,.str,.str]
abbrev V31:X:=.var 31
abbrev J4:Ent:=.row 30 172 J2 V31
abbrev V34:X:=.var 34
abbrev J6:List Kd:=[Vk,.bool,.bool,.bool,.bool,Vk,Vk,Vk,Vk,.str,.str,.str,.oth,.oth]
abbrev J7:Ent:=.row 21 172 J2 .nilR
abbrev V25:X:=.var 25
abbrev V26:X:=.var 26
abbrev V27:X:=.var 27
abbrev V28:X:=.var 28
abbrev V30:X:=.var 30
abbrev V32:X:=.var 32
abbrev V33:X:=.var 33
abbrev Jf:Ent:=.cells 20 236 [Vs 25,Vb 26,Vb 27,Va 28,Va 30,Vi 32,Va 33]
abbrev V0:X:=.var 0
abbrev V1:X:=.var 1
abbrev V2:X:=.var 2
abbrev V16:X:=.var 16
abbrev V18:X:=.var 18
abbrev V7:X:=.var 7
abbrev Jm:Ent:=.cells 15 63 [Vs 0,Vb 1,Vb 2,Va 16,Va 18,Vi 7]
abbrev Jn:Ent:=.cells 14 63 [Vs 0,Vb 1,Vb 2,Va 16,Va 18,Vi 7]
abbrev V3:X:=.var 3
abbrev V5:X:=.var 5
abbrev Jq:Ent:=.cells 13 63 [Vs 0,Vb 1,Vb 2,Va 3,Va 5,Vi 7]
abbrev Jr:Ent:=.row 12 31 J6 .nilR
abbrev V24:X:=.var 24
abbrev V4:X:=.var 4
abbrev V6:X:=.var 6
abbrev Jv:List Ent:=[.rd 3 J2 V4,.rd 5 J2 V6]
abbrev Jw:List Ent:=.cells 9 63 [Vs 0,Vb 1,Vb 2,Va 3,Va 5,Vi 7]::Jv
abbrev Jx:List Ent:=.cells 10 3 [Vi 24]::Jw
abbrev V19:X:=.var 19
abbrev Jz:Ent:=.row 18 172 J2 V19
abbrev V17:X:=.var 17
abbrev J11:Ent:=.row 16 172 J2 V17
abbrev N12:X:=.I 0
abbrev J13:Ent:=.cells 11 63 [.str (.S []),.bool (.B false),.bool (.B false),.nils,.nils,.int .i64 N12]
abbrev J14:List Ent:=J7::.cells 20 236 [Vs 0,Vb 1,Vb 2,Va 16,Va 18,Vi 7,.nils]::Jz::J11::Jm::Jn::Jq::Jr::J13::Jx
abbrev V22:X:=.var 22
abbrev N16:X:=.I 1
abbrev V23:X:=.var 23
abbrev N18:X:=.I 9223372036854775807
abbrev N19:X:=.I (-9223372036854775808)
abbrev V35:X:=.var 35
abbrev J1b:Ent:=.row 34 172 J2 V35
abbrev V37:X:=.var 37
abbrev J1d:Ent:=.row 36 172 J2 V37
abbrev V40:X:=.var 40
abbrev J1f:Ent:=.cells 25 172 [.int .i64 (.rI V17 V23 0),.str (.rS V17 V23 1),.str (.rS V17 V23 2)]
abbrev V36:X:=.var 36
abbrev V38:X:=.var 38
abbrev V39:X:=.var 39
abbrev J1j:Ent:=.cells 20 236 [Vs 31,Vb 32,Vb 33,Va 34,Va 36,Vi 38,Va 39]
abbrev J1k:X:=.consS (.S []) .nilL
abbrev J1l:X:=.clrR V28 V26 (.consI .i64 N12 (.consS (.S []) J1k))
abbrev J1m:Ent:=.row 29 172 J2 V30
abbrev J1n:Ent:=.row 31 172 J2 V32
abbrev J1o:Ent:=.cells 20 236 [Vs 26,Vb 27,Vb 28,Va 29,Va 31,Vi 33,Va 34]
abbrev N1p:X:=.I (-1)
abbrev V8:X:=.var 8
abbrev J1r:Ent:=.cells 14 63 [Vs 0,Vb 1,Vb 2,Va 3,Va 5,Vi 7]
abbrev J1s:List Ent:=.cells 15 63 [.str (.S []),.bool (.B false),.bool (.B false),.nils,.nils,.int .i64 N12]::J1r::Jq::Jr::J13::.cells 10 3 [Vi 8]::Jw
abbrev J1t:Tree:=.callM 268 [Vq [Va 3]] J1s [] [] [] [J11] (Vq [Va 16]) 2 (.callM 268 [Vq [Va 5]] (J11::J1s) [] [] [] [Jz] (Vq [Va 18]) 2 (.bindN (.letV .nilS (.loop [N12,N12,V8] (.ite (.lt V23 (.rlen V17)) (.need (.le N12 V23) (.bindN (.ite (.eqI (.rI V17 V23 0) V24) (.ite (.eqI V23 N1p) (.callM 214 [Vq [.ptr 20 0]] (J1f::J14) [20] [16,18] [J1o] [J1m,J1n,.row 34 31 J6 V35] (.tup []) 10 (.ret (.tup [(true,[Vs 26,Vb 27,Vb 28,Va 29,Va 31,Vi 33]),(false,[Va 34])]) (J1m::J1n::.row 34 31 J6 V35::J1f::J7::J1o::Jm::Jn::Jq::Jr::.cells 11 63 [Vs 26,Vb 27,Vb 28,Va 29,Va 31,Vi 33]::Jx))) (.need (.le N19 (.add V23 N16)) (.need (.le (.add V23 N16) N18) (.loop [V23,.add V23 N16,V17,V24] (.ite (.lt V27 (.rlen V28)) (.need (.le N12 V27) (.bindN (.bindN (.ite (.not (.eqI (.rI V28 V27 0) V29)) (.need (.le N12 V26) (.need (.lt V26 (.rlen V28)) (.need (.le N19 (.add V26 N16)) (.need (.le (.add V26 N16) N18) (.need (.le N19 (.add V27 N16)) (.need (.le (.add V27 N16) N18) (.back 1 [.add V26 N16,.add V27 N16,.setR V28 V26 (.consI .i64 (.rI V28 V27 0) (.consS (.rS V28 V27 1) (.consS (.rS V28 V27 2) .nilL))),V29]))))))) (.need (.le N19 (.add V27 N16)) (.need (.le (.add V27 N16) N18) (.back 1 [V26,.add V27 N16,V28,V29]))))))) (.need (.le N12 V26) (.need (.le V26 (.rlen V28)) (.need (.le V26 (.rlen J1l)) (.bindV (.callM 214 [Vq [.ptr 20 0]] (.row 30 172 J2 (.takeR J1l V26)::J1f::J7::.cells 20 236 [Vs 0,Vb 1,Vb 2,Va 30,Va 18,Vi 7,.nils]::Jz::Jm::Jn::Jq::Jr::J13::.cells 10 3 [Vi 29]::Jw) [20] [30,18] [J1j] [J1b,J1d,.row 39 31 J6 V40] (.tup []) 10 (.ret (.tup [(true,[Vs 31,Vb 32,Vb 33,Va 34,Va 36,Vi 38]),(false,[Va 39])]) (J1b::J1d::.row 39 31 J6 V40::J1f::J7::J1j::Jm::Jn::Jq::Jr::.cells 11 63 [Vs 31,Vb 32,Vb 33,Va 34,Va 36,Vi 38]::.cells 10 3 [Vi 29]::Jw)))))))))))) (.need (.le N19 (.add V23 N16)) (.need (.le (.add V23 N16) N18) (.back 0 [V22,.add V23 N16,V24])))))) (.callM 214 [Vq [.ptr 20 0]] J14 [20] [16,18] [Jf] [.row 28 172 J2 V29,J4,.row 33 31 J6 V34] (.tup []) 10 (.ret (.tup [(true,[Vs 25,Vb 26,Vb 27,Va 28,Va 30,Vi 32]),(false,[Va 33])]) (.row 28 172 J2 V29::J4::.row 33 31 J6 V34::J7::Jf::Jm::Jn::Jq::Jr::.cells 11 63 [Vs 25,Vb 26,Vb 27,Va 28,Va 30,Vi 32]::Jx))))))))
abbrev J1u:Tree:=.loop [N12,.rlen V1] (.ite (.lt V3 V4) (.need (.le N19 (.add V3 V4)) (.need (.le (.add V3 V4) N18) (.need (.le N19 (.shr .u64 (.wrap .u64 (.add V3 V4)) N16)) (.need (.le (.shr .u64 (.wrap .u64 (.add V3 V4)) N16) N18) (.need (.le N12 (.shr .u64 (.wrap .u64 (.add V3 V4)) N16)) (.need (.lt (.shr .u64 (.wrap .u64 (.add V3 V4)) N16) (.rlen V1)) (.bindN (.callP (.B true) 162 [Vq [.str (.rS V1 (.shr .u64 (.wrap .u64 (.add V3 V4)) N16) 0)],Vq [Vs 2]] [] (Vq [Vi 6]) 1 (.ite (.lt V6 N12) (.need (.le N19 (.add (.shr .u64 (.wrap .u64 (.add V3 V4)) N16) N16)) (.need (.le (.add (.shr .u64 (.wrap .u64 (.add V3 V4)) N16) N16) N18) (.back 0 [.add (.shr .u64 (.wrap .u64 (.add V3 V4)) N16) N16,V4]))) (.back 0 [V3,.shr .u64 (.wrap .u64 (.add V3 V4)) N16])))))))))) (.ite (.lt V3 (.rlen V1)) (.need (.le N12 V3) (.bindN (.callP (.B true) 162 [Vq [.str (.rS V1 V3 0)],Vq [Vs 2]] [] (Vq [Vi 6]) 1 (.ret (.tup [(false,[Vi 3]),(false,[.bool (.eqI V6 N12)])]) [])))) (.ret (.tup [(false,[Vi 3]),(false,[.bool (.B false)])]) [])))
abbrev V11:X:=.var 11
abbrev V9:X:=.var 9
abbrev J1x:List Kd:=[Vk]
abbrev V10:X:=.var 10
abbrev J1z:List X:=[N12,N12,V2]
abbrev J20:Tree:=.ret (Vq [Vi 5]) []
abbrev N21:X:=.I 2
abbrev J22:Tree:=.ret (Vq [.int .i64 N21]) []
abbrev N23:X:=.I 8
abbrev N24:X:=.I 3
abbrev J25:Tree:=.ret (Vq [.int .i64 N24]) []
abbrev V20:X:=.var 20
abbrev J27:Ent:=.row 17 172 J2 V18
abbrev J28:Ent:=.cells 16 63 [Vs 0,Vb 1,Vb 2,Va 17,Va 19,Vi 7]
abbrev J29:Ent:=.cells 15 63 [Vs 0,Vb 1,Vb 2,Va 17,Va 19,Vi 7]
abbrev J2a:Ent:=.row 13 31 J6 .nilR
abbrev J2b:Ent:=.cells 11 63 [Vs 0,Vb 1,Vb 2,Va 3,Va 5,Vi 7]
abbrev J2c:List Ent:=.row 19 172 J2 V20::J27::J28::J29::J1r::J2a::.cells 12 63 [Vs 0,Vb 1,Vb 2,Va 17,Va 19,Vi 7]::J2b::Jv
abbrev J2d:X:=.consI .i64 N12 (.consS V8 (.consS V9 .nilL))
abbrev J2e:Ent:=.row 22 172 J2 (.snocR .nilR J2d)
abbrev J2f:Ent:=.cells 21 236 [Vs 24,Vb 25,Vb 26,Va 27,Va 29,Vi 31,Va 32]
abbrev J2g:Ent:=.cells 12 63 [.str (.S []),.bool (.B false),.bool (.B false),.nils,.nils,.int .i64 N12]
abbrev J2h:List Ent:=J1r::J2a::J2g::J2b::Jv
abbrev N2i:X:=.I 3518437208883
abbrev N2j:X:=.I 6
abbrev J2k:X:=.consV .nilS (.consV .nilS .nilL)
abbrev J2l:X:=.snocR .nilR (.consI .i64 N24 (.consB (.B false) (.consB (.B false) (.consB (.B false) (.consB (.B false) (.consI .i64 N12 (.consI .i64 N12 (.consI .i64 N12 (.consI .i64 N12 (.consS (.S []) (.consS V8 (.consS V9 J2k))))))))))))
abbrev N2m:X:=.I 977343669134
abbrev J2n:List Ent:=.cells 16 63 [.str (.S []),.bool (.B false),.bool (.B false),.nils,.nils,.int .i64 N12]::.cells 15 63 [Vs 0,Vb 1,Vb 2,Va 3,Va 5,Vi 7]::J2h
abbrev J2o:Tree:=.callM 268 [Vq [Va 3]] J2n [] [] [] [J27] (Vq [Va 17]) 2 (.callM 268 [Vq [Va 5]] (J27::J2n) [] [] [] [.row 19 172 J2 V20] (Vq [Va 19]) 2 (.bindN (.ite (.and (.eqI V10 N12) V1) (.bindV (.letV .nilS (.need (.le (.add (.rlen .nilR) (.rlen J2l)) N2m) (.bindV (.ret (.tup [(true,[Vs 0,Vb 1,Vb 2,Va 17,Va 19,Vi 7]),(false,[Va 24])]) (.row 24 31 J6 J2l::.row 22 31 J6 J2l::.cells 21 236 [Vs 0,Vb 1,Vb 2,Va 17,Va 19,Vi 7,Va 24]::J2c)))))) (.ite (.and (.and (.eqI V10 N16) (.or V1 (.not V2))) (.lt (.rlen V20) N2j)) (.bindV (.need (.le (.add (.rlen V20) (.rlen (.snocR .nilR J2d))) N2i) (.bindV (.callM 214 [Vq [.ptr 21 0]] (.row 23 172 J2 (.snocR V20 J2d)::J2e::.cells 21 236 [Vs 0,Vb 1,Vb 2,Va 17,Va 23,Vi 7,.nils]::J27::J28::J29::J2h) [21] [17,23] [J2f] [.row 27 172 J2 V28,J1m,.row 32 31 J6 V33] (.tup []) 10 (.ret (.tup [(true,[Vs 24,Vb 25,Vb 26,Va 27,Va 29,Vi 31]),(false,[Va 32])]) (.row 27 172 J2 V28::J1m::.row 32 31 J6 V33::J2e::J2f::J28::J29::J1r::J2a::.cells 12 63 [Vs 24,Vb 25,Vb 26,Va 27,Va 29,Vi 31]::J2b::Jv)))))) (.ret (.tup [(true,[Vs 0,Vb 1,Vb 2,Va 17,Va 19,Vi 7]),(false,[.nils])]) (.cells 21 236 [Vs 0,Vb 1,Vb 2,Va 17,Va 19,Vi 7,.nils]::J2c))))))
abbrev J2p:List Kd:=[.str,.str,Vk]
abbrev J2q:Ent:=.row 10 90 J2p .nilR
abbrev J2r:Ent:=.row 7 90 J2p .nilR
abbrev J2s:Ent:=.row 5 90 J2p .nilR
abbrev J2t:Ent:=.row 4 90 J2p .nilR
abbrev V13:X:=.var 13
abbrev J2v:Ent:=.rd 0 J2p V1
abbrev J2w:List Ent:=[J2v]
abbrev J2x:List Ent:=J2q::.row 8 90 J2p V9::J2r::J2s::J2t::.cells 3 9 [Vs 13]::J2w
abbrev V12:X:=.var 12
abbrev V15:X:=.var 15
abbrev J30:X:=.consI .i64 N12 .nilL
abbrev J31:X:=.consS (.S []) (.consS (.S []) J30)
abbrev J32:Ent:=.cells 14 90 [.str (.rS V9 V12 0),.str (.rS V9 V12 1),.int .i64 (.rI V9 V12 2)]
abbrev J33:List Ent:=J2s::J2t::.cells 3 9 [Vs 2]::J2w
abbrev J34:Tree:=.ret (Vq [.int .i64 N12]) []
abbrev N35:X:=.I 4
abbrev J36:Tree:=.ret (Vq [.int .i64 N35]) []
abbrev J37:Ent:=.cells 8 63 [Vs 0,Vb 1,Vb 2,Va 3,Va 5,Vi 7]
abbrev J38:List Ent:=J37::Jv
abbrev J39:Tree:=.ret (Vq [.int .i64 N16]) []
abbrev J3a:List Kd:=[.str,Vk]
abbrev J3b:List Ent:=.row 3 71 J3a .nilR::J2w
abbrev J3c:Tree:=.ret (Vq [.bool (.B true)]) []
abbrev J3d:Tree:=.need (.le N19 (.add V5 N16)) (.need (.le (.add V5 N16) N18) (.back 0 [V4,.add V5 N16]))
abbrev J3e:Tree:=.ret (Vq [.bool (.B false)]) []
abbrev J3f:List X:=[.B false,N12]
abbrev J3g:Ent:=.row 12 90 J2p .nilR
abbrev J3h:Ent:=.row 9 90 J2p .nilR
abbrev J3i:Ent:=.row 6 90 J2p .nilR
abbrev J3j:List Ent:=J3g::.row 10 90 J2p V11::J3h::J2r::J3i::.cells 5 9 [Vs 15]::.cells 4 9 [Vs 16]::J2w
abbrev V14:X:=.var 14
abbrev J3l:List X:=[V13,.add V14 N16,V15,V16]
abbrev J3m:Ent:=.cells 17 90 [.str (.rS V11 V14 0),.str (.rS V11 V14 1),.int .i64 (.rI V11 V14 2)]
abbrev V21:X:=.var 21
abbrev J3o:List Ent:=J2r::J3i::.cells 5 9 [Vs 3]::.cells 4 9 [Vs 2]::J2w
abbrev J3p:Tree:=.ret (Vq [.int .i64 N2j]) []
abbrev J3q:Tree:=.need (.le V10 (.rlen V4)) (.bindV (.callP (.B true) 279 [Vq [Va 14],Vq [.int .i64 (.rI V4 V10 0)]] (.rd 14 J2 (.dropR (.takeR V4 V10) N12)::.cells 11 172 [.int .i64 (.rI V4 V10 0),.str (.rS V4 V10 1),.str (.rS V4 V10 2)]::J38) (Vq [Vb 15]) 1 (.ite V15 J3p (.need (.le N19 (.add V10 N16)) (.need (.le (.add V10 N16) N18) (.back 0 [V9,.add V10 N16]))))))
abbrev J3r:List X:=[N12,N12]
abbrev J3s:Tree:=.ret (.tup [(false,[Vs 13]),(false,[.int .i64 N12])]) []
abbrev J3t:List Kd:=[.str]
abbrev J3u:List Kd:=[Vk,.str]
abbrev J3v:List Ent:=[.cells 7 50 [Vi 0,Vi 1,Vi 2,Vs 3,Va 4,Vs 6],.rd 4 J3u V5]
abbrev J3w:X:=.consS (.rS V5 V12 1) .nilL
abbrev N3x:X:=.I 11
abbrev J3y:List Ent:=[.rd 2 J3t V3]
abbrev J3z:X:=.consI .i64 N16 .nilL
abbrev J40:Ent:=.rd 20 J2p V21
abbrev J41:Ent:=.rd 10 J2p V11
abbrev J42:Ent:=.rd 2 J2p V3
abbrev J43:List Ent:=.rd 7 J2p V8::.rd 5 J2p V6::J42::J2w
abbrev J44:List Ent:=.rd 15 J2p V16::.rd 12 J2p V13::J41::J43
abbrev N45:X:=.I 200
abbrev J46:Tree:=.ret (Vq [Vi 17]) []
abbrev J47:X:=.catR .nilR V1
abbrev J48:List Ent:=[.row 2 172 J2 .nilR,.rd 0 J2 V1]
abbrev J49:Ent:=.cells 18 236 [Vs 28,Vb 29,Vb 30,Va 31,Va 33,Vi 35,Va 36]
abbrev J4a:Ent:=.cells 13 63 [Vs 0,Vb 1,Vb 2,Va 14,Va 16,Vi 7]
abbrev J4b:Ent:=.cells 12 63 [Vs 0,Vb 1,Vb 2,Va 14,Va 16,Vi 7]
abbrev J4c:Ent:=.row 10 31 J6 .nilR
abbrev J4d:Ent:=.row 23 172 J2 V24
abbrev J4e:Ent:=.row 14 172 J2 V15
abbrev J4f:Ent:=.cells 9 63 [.str (.S []),.bool (.B false),.bool (.B false),.nils,.nils,.int .i64 N12]
abbrev J4g:X:=.consI .i64 N24 (.consB (.B true) (.consB (.B false) (.consB (.B false) (.consB (.B false) (.consI .i64 N16 (.consI .i64 (.rI V15 V19 0) (.consI .i64 N12 (.consI .i64 N12 (.consS (.S []) (.consS (.rS V15 V19 1) (.consS (.rS V15 V19 2) J2k)))))))))))
abbrev J4h:List Ent:=.cells 13 63 [.str (.S []),.bool (.B false),.bool (.B false),.nils,.nils,.int .i64 N12]::.cells 12 63 [Vs 0,Vb 1,Vb 2,Va 3,Va 5,Vi 7]::J2b::J4c::J4f::J38
abbrev J4i:Tree:=.callM 268 [Vq [Va 3]] J4h [] [] [] [J4e] (Vq [Va 14]) 2 (.callM 268 [Vq [Va 5]] (J4e::J4h) [] [] [] [J11] (Vq [Va 16]) 2 (.bindN (.loop [N12,V0,.B true,V2,V16,V17,V7,.nilS,.nilR] (.ite (.lt V19 (.rlen V15)) (.need (.le N12 V19) (.bindN (.bindN (.bindV (.need (.le (.add (.rlen V27) (.rlen (.snocR .nilR J4g))) N2m) (.bindV (.need (.le N19 (.add V19 N16)) (.need (.le (.add V19 N16) N18) (.back 0 [.add V19 N16,V20,V21,V22,V23,V24,V25,V31,.snocR V27 J4g]))))))))) (.callM 214 [Vq [.ptr 18 0]] [.cells 18 236 [Vs 20,Vb 21,Vb 22,Va 14,Va 23,Vi 25,Va 26],J4d,J4e,J4a,J4b,J2b,J4c,J4f,J37,.rd 3 J2 V4,.rd 5 J2 V6,.row 26 31 J6 V27] [18] [14,23,26] [J49] [J1n,.row 33 172 J2 V34,.row 36 31 J6 V37] (.tup []) 10 (.ret (.tup [(true,[Vs 28,Vb 29,Vb 30,Va 31,Va 33,Vi 35]),(false,[Va 36])]) (J1n::.row 33 172 J2 V34::.row 36 31 J6 V37::J49::J4a::J4b::J2b::J4c::.cells 9 63 [Vs 28,Vb 29,Vb 30,Va 31,Va 33,Vi 35]::J38)))))))
abbrev J4j:Ent:=.row 13 172 J2 V14
abbrev J4k:Ent:=.cells 10 63 [Vs 0,Vb 1,Vb 2,Va 3,Va 5,Vi 7]
abbrev J4l:List Ent:=J2g::J2b::J4k::J4f::J38
abbrev J4m:Tree:=.callM 268 [Vq [Va 3]] J4l [] [] [] [J4j] (Vq [Va 13]) 2 (.callM 268 [Vq [Va 5]] (J4j::J4l) [] [] [] [.row 15 172 J2 V16] (Vq [Va 15]) 2 (.bindN (.ite V2 (.ret (.cv (true,[Vs 0,.bool (.B false),Vb 2,.nils,.nils,Vi 7])) []) (.ret (.cv (true,[Vs 0,.bool (.B false),Vb 2,Va 13,Va 15,Vi 7])) (.cells 17 236 [Vs 0,.bool (.B false),Vb 2,Va 13,Va 15,Vi 7,.nils]::.row 15 172 J2 V16::J4j::.cells 12 63 [Vs 0,Vb 1,Vb 2,Va 13,Va 15,Vi 7]::.cells 11 63 [Vs 0,Vb 1,Vb 2,Va 13,Va 15,Vi 7]::J4k::.cells 9 63 [Vs 0,.bool (.B false),Vb 2,Va 13,Va 15,Vi 7]::J38)))))
abbrev J4n:List Kd:=[Vk,.str,.str,Vk]
abbrev J4o:Ent:=.row 7 68 J4n V8
abbrev J4p:Ent:=.row 6 68 J4n .nilR
abbrev J4q:List Ent:=[.rd 0 J4n V1]
abbrev J4r:List Ent:=.row 9 68 J4n .nilR::J4o::J4p::.cells 5 9 [Vs 12]::.cells 4 3 [Vi 13]::J4q
abbrev J4s:X:=.clrR V18 V16 (.consI .i64 N12 J31)
abbrev J4t:Ent:=.cells 15 68 [.int .i64 (.rI V8 V11 0),.str (.rS V8 V11 1),.str (.rS V8 V11 2),.int .i64 (.rI V8 V11 3)]
abbrev J4u:Ent:=.cells 14 68 [.int .i64 (.rI V8 V11 0),.str (.rS V8 V11 1),.str (.rS V8 V11 2),.int .i64 (.rI V8 V11 3)]
abbrev J4v:Ent:=.row 5 106 J2p V6
abbrev J4w:Ent:=.row 4 106 J2p .nilR
abbrev J4x:List Ent:=.row 7 106 J2p .nilR::J4v::J4w::.cells 3 9 [Vs 10]::J2w
abbrev J4y:Ent:=.cells 11 106 [.str (.rS V6 V9 0),.str (.rS V6 V9 1),.int .i64 (.rI V6 V9 2)]
abbrev J4z:Tree:=.ret (.tup [(false,[.int .i64 N12]),(false,[.int .i64 (.I 5)])]) []
abbrev N50:X:=.I 65535
abbrev V42:X:=.var 42
abbrev V41:X:=.var 41
abbrev J53:Ent:=.cells 14 50 [Vi 0,Vi 1,Vi 2,Vs 3,Va 15,Vs 6]
abbrev J54:Ent:=.cells 13 50 [Vi 0,Vi 1,Vi 2,Vs 3,Va 15,Vs 6]
abbrev J55:List Ent:=[.cells 10 50 [Vi 0,Vi 1,Vi 2,Vs 3,Va 4,Vs 6],.rd 4 J3u V5,.rd 8 J3t V9]
abbrev J56:Ent:=.cells 12 50 [.int .i64 N12,.int .i64 N12,.int .i64 N12,.str (.S []),.nils,.str (.S [])]
abbrev J57:X:=.consI .i64 V33 (.consS (.rS V9 V40 0) .nilL)
abbrev J58:Tree:=.jump 0 [N12,N12,N12,N12,N12,N12,N12,N12,N12,N12,V15,V21,V16]
abbrev J59:X:=.clrR V25 V23 (.consI .i64 N12 J1k)
abbrev J5a:List X:=[V23,.add V24 N16,V25,V26]
abbrev J5b:List Ent:=.row 4 68 J4n .nilR::.row 3 68 J4n .nilR::J4q
abbrev N5c:X:=.I 16777215
abbrev J5d:X:=.setR V11 V10 (.consI .i64 (.rI V11 V10 0) (.consS (.rS V11 V10 1) (.consS (.rS V11 V10 2) (.consI .i64 (.bits .and .i64 (.add (.rI V11 V10 3) N16) N5c) .nilL))))
abbrev J5e:X:=.consI .i64 (.rI J5d V10 0) (.consS (.rS J5d V10 1) (.consS (.rS J5d V10 2) (.consI .i64 (.rI J5d V10 3) .nilL)))
abbrev N5f:X:=.I 2932031007402
abbrev J5g:Tree:=.need (.le N19 (.add V3 N16)) (.need (.le (.add V3 N16) N18) (.back 0 [V2,.add V3 N16]))
abbrev J5h:X:=.consI .i64 V2 (.consS V3 (.consS V4 (.consI .i64 V5 .nilL)))
abbrev J5i:X:=.snocR .nilR J5h
abbrev J5j:List Ent:=.row 7 68 J4n .nilR::.cells 6 68 [Vi 2,Vs 3,Vs 4,Vi 5]::J4q
abbrev J5k:List Ent:=.row 11 68 J4n (.snocR V10 J5h)::.row 8 68 J4n J5i::J5j
abbrev J5l:List Ent:=.row 11 68 J4n (.snocR V9 J5h)::.row 10 68 J4n J5i::J5j
abbrev J5m:Tree:=.callM 229 [Vq [Va 0],Vq [Vi 2],Vq [Vs 3]] J5j [] [] [] [.row 8 68 J4n V9] (Vq [Va 8]) 2 (.bindV (.need (.le (.add (.rlen V9) (.rlen J5i)) N5f) (.bindV (.ite (.lt (.I 12) (.rlen (.snocR V9 J5h))) (.letV .nilS (.ret (.tup [(false,[Va 12]),(false,[.int .i64 N21])]) (.row 12 68 J4n .nilR::J5l))) (.ret (.tup [(false,[Va 11]),(false,[.int .i64 N12])]) J5l)))))
abbrev J5n:X:=.dropR (.takeR V1 V3) N12
abbrev J5o:Tree:=.ret (Vq [Vb 6]) []
abbrev J5p:List Ent:=[.row 4 172 J2 V5,.row 6 172 J2 V7,.row 9 31 J6 V10,.cells 0 236 [Vs 1,Vb 2,Vb 3,Va 4,Va 6,Vi 8,Va 9]]
abbrev J5q:X:=.consI .i64 N24 (.consB (.B false) (.consB (.B false) (.consB (.B false) (.consB (.B false) (.consI .i64 N16 (.consI .i64 V12 (.consI .i64 N12 (.consI .i64 N12 (.consS (.S []) (.consS (.rS V7 N12 1) (.consS (.rS V7 N12 2) J2k)))))))))))
abbrev J5r:Ent:=.row 18 31 J6 (.snocR .nilR J5q)
abbrev J5s:Ent:=.cells 17 172 [Vi 12,.str (.rS V7 N12 1),.str (.rS V7 N12 2)]
abbrev J5t:X:=.consI .i64 V12 (.consS (.rS V7 N12 1) (.consS (.rS V7 N12 2) .nilL))
abbrev J5u:Ent:=.row 15 172 J2 (.snocR .nilR J5t)
abbrev J5v:Ent:=.cells 11 172 [Vi 12,.str (.rS V7 N12 1),.str (.rS V7 N12 2)]
abbrev J5w:List Ent:=[.row 28 31 J6 V29,J5r,J5s,J4d,J5u,.rd 25 J2 V26,J5v,.rd 6 J2 V7,.cells 0 236 [Vs 20,Vb 21,Vb 22,Va 23,Va 25,Vi 27,Va 28]]
abbrev J5x:X:=.consI .i64 V31 (.consS (.rS V26 N12 1) (.consS (.rS V26 N12 2) .nilL))
abbrev J5y:X:=.consI .i64 N24 (.consB (.B false) (.consB (.B false) (.consB (.B false) (.consB (.B false) (.consI .i64 N16 (.consI .i64 V31 (.consI .i64 N12 (.consI .i64 N12 (.consS (.S []) (.consS (.rS V26 N12 1) (.consS (.rS V26 N12 2) J2k)))))))))))
abbrev J5z:List Ent:=[.rd 12 J3a V13,.rd 14 J1x V15]
abbrev J60:List Ent:=.cells 16 31 [Vi 0,Vb 1,Vb 2,Vb 3,Vb 4,Vi 5,Vi 6,Vi 7,Vi 8,Vs 9,Vs 10,Vs 11,Va 12,Va 14]::J5z
abbrev J61:Tree:=.callP (.B true) 203 [.cv (true,[Vi 0,Vb 1,Vb 2,Vb 3,Vb 4,Vi 5,Vi 6,Vi 7,Vi 8,Vs 9,Vs 10,Vs 11,Va 12,Va 14])] J60 (Vq [Vi 17]) 1 J46
abbrev J62:List Ent:=J4w::J2w
abbrev J63:List Ent:=J4v::J62
abbrev J64:X:=.setR V6 V7 (.consS (.rS V6 V7 0) (.consS V3 (.consI .i64 (.rI V6 V7 2) .nilL)))
abbrev J65:Tree:=.need (.le N19 (.add V19 N16)) (.need (.le (.add V19 N16) N18) (.back 0 [V18,.add V19 N16]))
abbrev N66:X:=.I 128
abbrev J67:Tree:=.ret (.cv (true,[Vi 0,Vb 1,Vb 2,Vb 3,Vb 4,Vi 5,.int .i64 N12,Vi 7,Vi 8,Vs 9,Vs 10,Vs 11,.nils,Va 14])) (.cells 17 31 [Vi 0,Vb 1,Vb 2,Vb 3,Vb 4,Vi 5,.int .i64 N12,Vi 7,Vi 8,Vs 9,Vs 10,Vs 11,.nils,Va 14]::.cells 16 31 [Vi 0,Vb 1,Vb 2,Vb 3,Vb 4,Vi 5,.int .i64 N12,Vi 7,Vi 8,Vs 9,Vs 10,Vs 11,.nils,Va 14]::J5z)
abbrev J68:Tree:=.ret (.cv (true,[Vi 0,Vb 1,Vb 2,Vb 3,Vb 4,Vi 5,.int .i64 N12,Vi 7,Vi 8,Vs 9,Vs 10,Vs 11,Va 12,Va 14])) (.cells 17 31 [Vi 0,Vb 1,Vb 2,Vb 3,Vb 4,Vi 5,.int .i64 N12,Vi 7,Vi 8,Vs 9,Vs 10,Vs 11,Va 12,Va 14]::.cells 16 31 [Vi 0,Vb 1,Vb 2,Vb 3,Vb 4,Vi 5,.int .i64 N12,Vi 7,Vi 8,Vs 9,Vs 10,Vs 11,Va 12,Va 14]::J5z)
abbrev J69:Tree:=.ret (Vq [.int .i64 (.I 7)]) []
abbrev J6a:X:=.dropR (.takeR V1 (.rlen V1)) N16
abbrev J6b:X:=.dropR (.takeR V3 (.rlen V3)) N16
abbrev J6c:Tree:=.ret (Vq [.int .i64 N1p]) []
abbrev J6d:Tree:=.need (.le N19 (.add V4 N16)) (.need (.le (.add V4 N16) N18) (.back 0 [V3,.add V4 N16]))
abbrev J6e:List Ent:=.rd 30 J3a V31::.rd 32 J1x V33::J60
abbrev J6f:Tree:=.callP (.B true) 125 [.cv (true,[Vi 0,Vb 1,Vb 2,Vb 3,Vb 4,Vi 5,Vi 6,Vi 7,Vi 8,Vs 9,Vs 10,Vs 11,Va 12,Va 14])] J6e (Vq [Vi 36]) 1 (.ret (Vq [Vi 36]) [])
abbrev J6g:Tree:=.callP (.B true) 125 [.cv (true,[Vi 0,Vb 1,Vb 2,Vb 3,Vb 4,Vi 5,Vi 6,Vi 7,Vi 8,Vs 9,Vs 10,Vs 11,Va 12,Va 14])] J6e (Vq [Vi 37]) 1 (.ret (Vq [Vi 37]) [])
abbrev J6h:Ent:=.cells 9 90 [Vs 2,Vs 3,Vi 4]
abbrev J6i:List Ent:=J3i::.cells 5 90 [Vs 2,Vs 3,Vi 4]::J2w
abbrev J6j:X:=.consS V2 (.consS V3 (.consI .i64 V4 .nilL))
abbrev J6k:List Ent:=J6h::.row 7 90 J2p V8::J6i
abbrev J6l:Ent:=.row 14 90 J2p V15
abbrev J6m:List Ent:=[.row 2 127 J3u .nilR,.rd 0 J3u V1]
abbrev J6n:List Ent:=.cells 7 90 [Vs 2,Vs 3,Vi 4]::J3i::.cells 5 88 [Vs 3,Vi 4]::J2w
abbrev J6o:X:=.setR V9 V7 (.consI .u8 (.rI V9 V8 0) .nilL)
abbrev J6p:X:=.consI .u8 (.wrap .u8 V3) .nilL
abbrev J6q:Ent:=.st 38
abbrev V46:X:=.var 46
abbrev J6s:Ent:=.row 45 68 J4n V46
abbrev J6t:Ent:=.row 34 68 J4n V35
abbrev J6u:Ent:=.st 20
abbrev J6v:Ent:=.rd 16 J3a V17
abbrev J6w:Ent:=.rd 39 J2p V40
abbrev J6x:Ent:=.rd 41 J2p V42
abbrev V44:X:=.var 44
abbrev J6z:List Kd:=[.str,.bool,.bool,.oth,.oth,Vk]
abbrev J70:Ent:=.row 43 63 J6z V44
abbrev J71:Ent:=.row 27 68 J4n V28
abbrev V49:X:=.var 49
abbrev J73:List Kd:=[.str,Vk,.bool,.bool,.bool,.bool,Vk,Vk,Vk,Vk,.str,.str,.str,.oth,.oth,Vk,Vk,Vk,Vk,.str,.oth,.str]
abbrev J74:Ent:=.row 48 57 J73 V49
abbrev J75:Ent:=.st 12
abbrev V43:X:=.var 43
abbrev V45:X:=.var 45
abbrev V47:X:=.var 47
abbrev V48:X:=.var 48
abbrev J7a:Ent:=.rd 3 J2p V4
abbrev V67:X:=.var 67
abbrev V65:X:=.var 65
abbrev V66:X:=.var 66
abbrev J7e:Ent:=.row 65 57 J73 V66
abbrev V61:X:=.var 61
abbrev J7g:Ent:=.cells 51 50 [.int .i64 N16,.int .i64 (.I 69),Vi 47,.str (.rS V35 V37 1),.nils,Vs 14]
abbrev J7h:Ent:=.cells 50 68 [.int .i64 (.rI V35 V37 0),.str (.rS V35 V37 1),.str (.rS V35 V37 2),.int .i64 (.rI V35 V37 3)]
abbrev V56:X:=.var 56
abbrev V57:X:=.var 57
abbrev V58:X:=.var 58
abbrev V59:X:=.var 59
abbrev V60:X:=.var 60
abbrev V62:X:=.var 62
abbrev J7o:X:=.consS (.S []) (.consI .i64 N12 (.consB (.B false) (.consB (.B false) (.consB (.B false) (.consB (.B false) (.consI .i64 N12 (.consI .i64 N12 (.consI .i64 N12 (.consI .i64 N12 (.consS (.S []) (.consS (.S []) (.consS (.S []) (.consV .nilS (.consV .nilS (.consI .i64 (.rI V35 V37 0) (.consI .i64 V56 (.consI .i64 V57 (.consI .i64 V58 (.consS V59 (.consV V60 (.consS V62 .nilL)))))))))))))))))))))
abbrev N7p:X:=.I 567489872400
abbrev V54:X:=.var 54
abbrev V55:X:=.var 55
abbrev J7s:Tree:=.bindV (.callM 111 [.cv (true,[.int .i64 N16,.int .i64 (.I 69),Vi 47,.str (.rS V35 V37 1),.nils,Vs 14]),Vq [.int .i64 N2j],Vq [Va 55]] [.row 55 9 J3t (.snocR .nilR (.consS V54 .nilL)),.cells 53 50 [.int .i64 N12,.int .i64 N12,.int .i64 N12,.str (.S []),.nils,.str (.S [])],.cells 52 50 [.int .i64 N16,.int .i64 (.I 69),Vi 47,.str (.rS V35 V37 1),.nils,Vs 14],J7g,J7h,J6q,J6s,J6t,J6u,J6v,J6w,J6x,J70,J71,J74,J75,.cells 0 165 [Va 39,Va 41,Va 43,Va 45,.int .i64 (.bits .and .i64 (.add V47 N16) N50),Va 48],J7a] [] [] [] [.rd 60 J3u V61] (.cv (true,[Vi 56,Vi 57,Vi 58,Vs 59,Va 60,Vs 62])) 7 (.bindN (.bindV (.need (.le (.add (.rlen V49) (.rlen (.snocR .nilR J7o))) N7p) (.bindV (.jump 2 [N12,N12,N12,N12,V56,V57,V58,V59,V60,V61,V62,N12,N12,V65,.snocR V49 J7o]))))))
abbrev J7t:Tree:=.bindN (.bindN (.both (.callP (.B true) 243 [Vq [.int .i64 (.rI V35 V37 3)]] [] (Vq [Vs 54]) 1 J7s) (.callP (.B true) 243 [Vq [.int .i64 (.rI V35 V37 3)]] [] (Vq [Vs 54]) 1 (.both J7s J7s))))
abbrev V51:X:=.var 51
abbrev J7v:Ent:=.rd 21 J2p V22
abbrev J7w:Ent:=.rd 23 J2p V24
abbrev J7x:Ent:=.row 25 63 J6z V26
abbrev J7y:List Ent:=[J71,.row 30 57 J73 V31,J75,.cells 0 165 [Va 21,Va 23,Va 25,Va 27,Vi 29,Va 30],J7a]
abbrev J7z:List Ent:=J6u::J6v::J7v::J7w::J7x::J7y
abbrev V50:X:=.var 50
abbrev V52:X:=.var 52
abbrev V53:X:=.var 53
abbrev J83:Tree:=.back 0 [.add V19 N16,V58,V46,V47,V48,V49,V50,V51,V52,V53,V54,V55,V56]
abbrev J84:Ent:=.rd 46 J2p V47
abbrev J85:Ent:=.rd 48 J2p V49
abbrev J86:Ent:=.row 50 63 J6z V51
abbrev J87:Ent:=.row 52 68 J4n V53
abbrev J88:Ent:=.row 55 57 J73 V56
abbrev J89:Ent:=.rd 39 J2 V40
abbrev J8a:Ent:=.rd 41 J2 V42
abbrev J8b:Ent:=.rd 44 J6 V45
abbrev J8c:Ent:=.cells 35 63 [Vs 36,Vb 37,Vb 38,Va 39,Va 41,Vi 43]
abbrev J8d:Ent:=.cells 32 71 [.str (.rS V17 V19 0),.int .i64 (.rI V17 V19 1)]
abbrev J8e:Ent:=.cells 0 165 [Va 46,Va 48,Va 50,Va 52,Vi 54,Va 55]
abbrev J8f:List Ent:=[J8d,J6u,J6v,J7v,J7w,J75,J8e,J7a]
abbrev J8g:List Ent:=[J84,J85,J86,J87,J88,.st 57]
abbrev J8h:Ent:=.cells 45 63 [Vs 35,Vb 36,Vb 37,Va 38,Va 40,Vi 42]
abbrev J8i:Ent:=.rd 38 J2 V39
abbrev J8j:Ent:=.rd 40 J2 V41
abbrev J8k:Ent:=.rd 43 J6 V44
abbrev J8l:List X:=[V1,V2,V3,V4,V5,V6,V7,V8,V9,V10,V11]
abbrev J8m:Ent:=.rd 1 J2p V2
abbrev J8n:Ent:=.row 5 63 J6z V6
abbrev J8o:Ent:=.row 10 57 J73 V11
abbrev J8p:Ent:=.cells 0 165 [Va 1,Va 3,Va 5,Va 7,Vi 9,Va 10]
abbrev J8q:List Ent:=[J8m,J7a,J8n,J4o,J8o,J75,J8p]
abbrev J8r:Ent:=.cells 31 50 [Vi 21,.int .i64 (.I 69),Vi 23,Vs 24,Va 25,.str (.rS V2 V32 1)]
abbrev J8s:Ent:=.cells 30 50 [Vi 21,.int .i64 (.I 69),Vi 23,Vs 24,Va 25,.str (.rS V2 V32 1)]
abbrev J8t:Ent:=.cells 29 50 [Vi 14,Vi 15,Vi 16,Vs 17,Va 18,Vs 20]
abbrev J8u:List Ent:=[.rd 18 J3u V19,.rd 25 J3u V26]
abbrev J8v:List Ent:=J8t::J8m::J7a::J8n::J4o::J8o::J75::J8p::J8u
abbrev J8w:Ent:=.row 36 68 J4n V37
abbrev J8x:List Ent:=J8t::J8m::J7a::J8n::J4o::J8o::J75::.cells 0 165 [Va 1,Va 3,Va 5,Va 36,Vi 9,Va 10]::J8u
abbrev J8y:Ent:=.cells 31 50 [.int .i64 N12,.int .i64 N12,.int .i64 N12,.str (.S []),.nils,.str (.S [])]
abbrev J8z:List Ent:=J8y::J8s::J8v
abbrev J90:Ent:=.row 42 9 J3t (.snocR .nilR (.consS V41 .nilL))
abbrev J91:Ent:=.cells 39 50 [Vi 21,.int .i64 (.I 69),Vi 23,Vs 24,Va 25,.str (.rS V2 V32 1)]
abbrev J92:Tree:=.bindV (.callM 111 [.cv (true,[Vi 21,.int .i64 (.I 69),Vi 23,Vs 24,Va 25,.str (.rS V2 V32 1)]),Vq [.int .i64 N2j],Vq [Va 42]] (J90::.cells 40 50 [.int .i64 N12,.int .i64 N12,.int .i64 N12,.str (.S []),.nils,.str (.S [])]::J91::J8w::J8y::J8s::J8x) [] [] [] [.rd 47 J3u V48] (.cv (true,[Vi 43,Vi 44,Vi 45,Vs 46,Va 47,Vs 49])) 7 (.ret (.cv (true,[Vi 43,Vi 44,Vi 45,Vs 46,Va 47,Vs 49])) (.rd 47 J3u V48::J90::.cells 40 50 [Vi 43,Vi 44,Vi 45,Vs 46,Va 47,Vs 49]::J91::J8w::.cells 31 50 [Vi 43,Vi 44,Vi 45,Vs 46,Va 47,Vs 49]::.cells 30 50 [Vi 43,Vi 44,Vi 45,Vs 46,Va 47,Vs 49]::J8x)))
abbrev J93:Tree:=.jump 0 []
abbrev V86:X:=.var 86
abbrev J95:Ent:=.rd 85 J2p V86
abbrev V88:X:=.var 88
abbrev V90:X:=.var 90
abbrev V92:X:=.var 92
abbrev J99:Ent:=.row 94 57 J73 (.var 95)
abbrev V74:X:=.var 74
abbrev J9b:Ent:=.rd 73 J2p V74
abbrev V76:X:=.var 76
abbrev J9d:Ent:=.rd 75 J2p V76
abbrev J9e:X:=.consS (.S []) (.consS (.S []) (.consS (.S []) J2k))
abbrev J9f:X:=.consI .i64 N12 (.consI .i64 N12 J9e)
abbrev J9g:X:=.consI .i64 N12 (.consI .i64 N12 J9f)
abbrev J9h:Ent:=.row 72 31 J6 (.snocR .nilR (.consI .i64 N21 (.consB (.B false) (.consB (.B false) (.consB (.B false) (.consB (.and (.not (.rB V37 V31 2)) (.not V17)) J9g))))))
abbrev V63:X:=.var 63
abbrev V64:X:=.var 64
abbrev V68:X:=.var 68
abbrev J9l:Ent:=.cells 71 63 [Vs 61,Vb 62,Vb 63,Va 64,Va 66,Vi 68]
abbrev J9m:Ent:=.rd 64 J2 V65
abbrev J9n:Ent:=.rd 66 J2 V67
abbrev V70:X:=.var 70
abbrev J9p:Ent:=.rd 69 J6 V70
abbrev J9q:Ent:=.rd 50 J2p V56
abbrev J9r:Ent:=.rd 51 J2p V57
abbrev J9s:Ent:=.cells 30 31 [Vi 14,Vb 15,Vb 16,Vb 17,Vb 18,Vi 19,Vi 20,Vi 21,Vi 22,Vs 23,Vs 24,Vs 25,Va 26,Va 28]
abbrev V85:X:=.var 85
abbrev V87:X:=.var 87
abbrev V91:X:=.var 91
abbrev V93:X:=.var 93
abbrev J9x:Ent:=.cells 0 165 [Va 85,Va 87,Va 89,Va 91,Vi 93,Va 94]
abbrev J9y:Ent:=.rd 26 J3a V27
abbrev J9z:Ent:=.rd 28 J1x V29
abbrev Ja0:List Ent:=[J9y,J9z]
abbrev V78:X:=.var 78
abbrev V80:X:=.var 80
abbrev V83:X:=.var 83
abbrev V73:X:=.var 73
abbrev V75:X:=.var 75
abbrev V77:X:=.var 77
abbrev V79:X:=.var 79
abbrev V81:X:=.var 81
abbrev Ja9:Ent:=.cells 0 165 [Va 73,Va 75,Va 77,Va 79,Vi 81,Va 82]
abbrev V69:X:=.var 69
abbrev Jab:X:=.setR V58 V31 (.consS (.rS V58 V31 0) (.consB (.rB V58 V31 1) (.consB V17 (.consV (.rV V58 V31 3) (.consV (.rV V58 V31 4) (.consI .i64 (.rI V58 V31 5) .nilL))))))
abbrev Jac:List Ent:=.row 53 68 J4n V59::.row 55 57 J73 V60::J9s::J8m::J7a::J75::.cells 0 165 [Va 50,Va 51,Va 52,Va 53,Vi 54,Va 55]::Ja0
abbrev V72:X:=.var 72
abbrev Jae:Ent:=.rd 38 J2p V39
abbrev Jaf:Ent:=.rd 40 J2p V41
abbrev Jag:Ent:=.row 42 63 J6z V43
abbrev Jah:Ent:=.row 44 68 J4n V45
abbrev Jai:Ent:=.row 47 57 J73 V48
abbrev Jaj:List Ent:=[Jae,Jaf,Jag,Jah,Jai,.st 49]
abbrev Jak:Ent:=.cells 0 165 [Va 38,Va 40,Va 42,Va 44,Vi 46,Va 47]
abbrev Jal:Ent:=.row 34 63 J6z V35
abbrev Jam:List Ent:=J4o::J8o::J75::J8p::Ja0
abbrev Jan:List Ent:=J9s::J8m::J7a::J8n::Jam
abbrev Jao:Ent:=.rd 34 J2p V35
abbrev Jap:Ent:=.rd 36 J2p V37
abbrev Jaq:Ent:=.row 38 63 J6z V39
abbrev Jar:Ent:=.row 40 68 J4n V41
abbrev Jas:Ent:=.row 43 57 J73 V44
abbrev Jat:Ent:=.row 33 31 J6 (.snocR .nilR (.consI .i64 N21 (.consB (.B false) (.consB (.B false) (.consB (.B false) (.consB (.B false) (.consI .i64 N12 (.consI .i64 N12 (.consI .i64 N12 (.consI .i64 N24 J9e))))))))))
abbrev Jau:Ent:=.cells 0 165 [Va 34,Va 36,Va 38,Va 40,Vi 42,Va 43]
abbrev Jav:List Ent:=J9s::J8m::J7a::J75::Jau::Ja0
abbrev Jaw:List Ent:=[Jao,Jap,Jaq,Jar,Jas,.st 45]
abbrev Jax:Tree:=.ret (.tup []) Jan
abbrev Jay:Ent:=.rd 19 J2 V20
abbrev Jaz:Ent:=.rd 21 J2 V22
abbrev Jb0:List Ent:=[Jay,Jaz,J8m,J7a,.row 5 63 J6z V24,J4o,J8o,J75,J8p]
abbrev Jb1:Ent:=.rd 27 J2p V28
abbrev Jb2:Ent:=.rd 29 J2p V30
abbrev Jb3:Ent:=.row 31 63 J6z V32
abbrev Jb4:Ent:=.row 33 68 J4n V34
abbrev Jb5:List Ent:=[.cells 0 165 [Va 27,Va 29,Va 31,Va 33,Vi 35,Va 36]]
abbrev Jb6:Tree:=.callM 133 [.cv (true,[.str (.rS V6 V14 0),.bool (.rB V6 V14 1),.bool (.rB V6 V14 2),.val (.rV V6 V14 3),.val (.rV V6 V14 4),.int .i64 (.rI V6 V14 5)])] J8q [] [] [] [Jay,Jaz] (.cv (true,[Vs 16,Vb 17,Vb 18,Va 19,Va 21,Vi 23])) 8 (.jump 0 [V16,V17,V18,V19,V20,V21,V22,V23,.setR V6 V14 (.consS V16 (.consB V17 (.consB V18 (.consV V19 (.consV V21 (.consI .i64 V23 .nilL))))))])
abbrev Jb7:List Ent:=[J8m,J7a,.rd 5 J6z V6,.st 7,.rd 8 J4n V9,.cells 0 27 [Va 1,Va 3,Va 5,Va 8,Vi 10]]
abbrev Jb8:Tree:=.ret (Vq [Vi 11]) Jb7
abbrev Jb9:Ent:=.st 74
abbrev V71:X:=.var 71
abbrev Jbb:X:=.consV .nilS J1k
abbrev Jbc:X:=.consS (.S []) (.consI .i64 N12 (.consB (.B false) (.consB (.B false) (.consB (.B false) (.consB (.B false) (.consI .i64 N12 (.consI .i64 N12 (.consI .i64 N12 (.consI .i64 N12 (.consS (.S []) (.consS (.S []) (.consS (.S []) (.consV .nilS (.consV .nilS (.consI .i64 V13 (.consI .i64 V23 (.consI .i64 (.I 133) (.consI .i64 V24 (.consS V17 Jbb)))))))))))))))))))
abbrev Jbd:Ent:=.row 27 57 J73 (.snocR .nilR Jbc)
abbrev Jbe:Ent:=.cells 26 50 [Vi 23,.int .i64 (.I 133),Vi 24,Vs 17,.nils,.str (.S [])]
abbrev Jbf:Ent:=.cells 21 50 [Vi 14,Vi 15,Vi 16,Vs 17,Va 18,Vs 20]
abbrev Jbg:List Ent:=[.rd 18 J3u V19]
abbrev Jbh:List X:=[V24,V17,.nilS,.S [],V1,V3,V5,V7,V25,V28,.nilR,V2,V4,V6,V8,.snocR V11 Jbc,V31]
abbrev Jbi:Ent:=.row 28 57 J73 (.snocR V11 Jbc)
abbrev Jbj:List Ent:=Jbf::J8m::J7a::J8n::J4o::J75::.cells 0 165 [Va 1,Va 3,Va 5,Va 7,Vi 25,Va 28]::Jbg
abbrev Jbk:List Ent:=Jbi::Jbd::Jbe::.cells 22 50 [Vi 23,.int .i64 (.I 133),Vi 24,Vs 17,.nils,.str (.S [])]::Jbj
abbrev Jbl:List X:=[V24,V17,.nilS,.S [],V32,V34,V36,V38,V40,V41,.nilR,V33,V35,V37,V39,V42,V44]
abbrev Jbm:Ent:=.rd 32 J2p V33
abbrev Jbn:Ent:=.row 36 63 J6z V37
abbrev Jbo:Ent:=.row 38 68 J4n V39
abbrev Jbp:Ent:=.row 41 57 J73 V42
abbrev Jbq:Ent:=.st 43
abbrev Jbr:Ent:=.cells 22 50 [Vi 23,.int .i64 (.I 66),Vi 24,Vs 17,.nils,.str (.S [])]
abbrev Jbs:Ent:=.cells 0 165 [Va 32,Va 34,Va 36,Va 38,Vi 40,Va 41]
abbrev Jbt:List Ent:=Jbf::J8m::J7a::J75::Jbs::Jbg
abbrev Jbu:List Ent:=[Jbm,Jao,Jbn,Jbo,Jbp,Jbq]
abbrev Jbv:Ent:=.cells 22 50 [Vi 23,.int .i64 N66,Vi 24,Vs 17,.nils,.str (.S [])]
abbrev Jbw:List Ent:=Jbi::Jbd::Jbe::Jbv::Jbj
abbrev Jbx:Tree:=.pack Jbw (.jump 0 (N12::N12::N12::N12::N12::N12::N12::N12::N12::N12::N12::N12::N12::N12::N12::N12::N12::N12::N12::N12::N12::N12::N12::N12::N12::V23::N66::Jbh))
abbrev Jby:Ent:=.rd 44 J2p V45
abbrev Jbz:Ent:=.row 48 63 J6z V49
abbrev Jc0:Ent:=.row 50 68 J4n V51
abbrev Jc1:Ent:=.row 53 57 J73 V54
abbrev Jc2:Ent:=.cells 22 50 [Vi 23,.int .i64 (.I 68),Vi 24,Vs 17,.nils,.str (.S [])]
abbrev Jc3:Ent:=.cells 0 165 [Va 44,Va 46,Va 48,Va 50,Vi 52,Va 53]
abbrev Jc4:List Ent:=[Jby,J84,Jbz,Jc0,Jc1,.st 55]
abbrev Jc5:Ent:=.st 21
abbrev Jc6:Ent:=.cells 18 27 [Va 22,Va 24,Va 26,Va 28,Vi 30]
abbrev Jc7:Ent:=.row 28 68 J4n V29
abbrev Jc8:Ent:=.row 24 90 J2p V25
abbrev Jc9:Ent:=.row 22 106 J2p V23
abbrev Jca:Ent:=.cells 10 27 [Va 0,Va 2,Va 4,Va 7,Vi 9]
abbrev Jcb:Ent:=.rd 4 J6z V5
abbrev Jcc:Ent:=.rd 7 J4n V8
abbrev Jcd:Ent:=.row 26 63 J6z V27
abbrev Jce:List Ent:=[Jca,J2v,J42,Jcb,.st 6,Jcc,Jcd]
abbrev Jcf:Ent:=.rd 36 J2 V37
abbrev Jcg:Ent:=.cells 31 63 [.str (.rS V5 V20 0),.bool (.rB V5 V20 1),.bool (.rB V5 V20 2),.val (.rV V5 V20 3),.val (.rV V5 V20 4),.int .i64 (.rI V5 V20 5)]
abbrev Jch:Ent:=.cells 11 27 [.nils,.nils,.nils,.nils,.int .i64 N12]
abbrev Jci:List Ent:=[J2v,J42,Jcb,.st 6,Jcc]
abbrev Jcj:List Ent:=Jch::Jca::Jci
abbrev Jck:X:=.consS (.rS V5 V20 0) (.consB (.rB V5 V20 1) (.consB (.rB V5 V20 2) (.consV V34 (.consV V36 (.consI .i64 (.rI V5 V20 5) .nilL)))))
abbrev Jcl:Tree:=.bindV (.need (.le (.add (.rlen V27) (.rlen (.snocR .nilR Jck))) (.I 1759218604441)) (.bindV (.jump 1 [N12,N12,V34,V35,V36,V37,V38,V39,.snocR V27 Jck,.snocR .nilR Jck])))
abbrev Jcm:Ent:=.cells 33 63 [.str (.S []),.bool (.B false),.bool (.B false),.nils,.nils,.int .i64 N12]
abbrev Jcn:List Ent:=Jcm::.cells 32 63 [.str (.rS V5 V20 0),.bool (.rB V5 V20 1),.bool (.rB V5 V20 2),.val (.rV V5 V20 3),.val (.rV V5 V20 4),.int .i64 (.rI V5 V20 5)]::Jcg::Jc5::Jc6::Jc7::Jc8::Jc9::Jch::Jce
abbrev Jco:Tree:=.callM 268 [Vq [.val (.rV V5 V20 3)]] Jcn [] [] [] [J1b] (Vq [Va 34]) 2 (.callM 268 [Vq [.val (.rV V5 V20 4)]] (J1b::Jcn) [] [] [] [J1d] (Vq [Va 36]) 2 (.both Jcl Jcl))
abbrev Jcp:Tree:=.callM 268 [Vq [.val (.rV V5 V20 3)]] Jcn [] [] [] [J1b] (Vq [Va 34]) 2 (.callM 268 [Vq [.val (.rV V5 V20 4)]] (J1b::Jcn) [] [] [] [J1d] (Vq [Va 36]) 2 Jcl)
abbrev Jcq:List Ent:=.row 12 106 J2p V13::Jcj
abbrev Jcr:List Ent:=[.row 17 68 J4n V18]
abbrev Jcs:Ent:=.row 15 90 J2p V16
abbrev Jct:List Ent:=.cells 12 27 [.nils,.nils,.nils,.nils,.int .i64 N12]::Jcj
abbrev Jcu:List Ent:=.cells 14 27 [.nils,.nils,.nils,.nils,.int .i64 N12]::Jcq
abbrev Jcv:Ent:=.rd 22 J2p V23
abbrev Jcw:Ent:=.rd 24 J2p V25
abbrev Jcx:Ent:=.rd 16 J2p V17
abbrev Jcy:List Ent:=[J8m,Jcw,Jcd,J4o,.row 29 57 J73 V30,J75,.cells 0 165 [Va 22,Va 24,Va 26,Va 7,Vi 28,Va 29],Jcx]
abbrev Jcz:List Ent:=.row 31 68 J4n .nilR::Jc5::Jcv::.cells 15 9 [Vs 34]::Jcy
abbrev Jd0:X:=.clrR V39 V36 (.consI .i64 N12 J31)
abbrev Jd1:Ent:=.cells 35 68 [.int .i64 (.rI V8 V33 0),.str (.rS V8 V33 1),.str (.rS V8 V33 2),.int .i64 (.rI V8 V33 3)]
abbrev Jd2:Ent:=.cells 31 68 [.int .i64 (.rI V8 V20 0),.str (.rS V8 V20 1),.str (.rS V8 V20 2),.int .i64 (.rI V8 V20 3)]
abbrev Jd3:Ent:=.cells 15 9 [Vs 13]
abbrev Jd4:X:=.consS (.S []) (.consI .i64 N12 (.consB (.B false) (.consB (.B false) (.consB (.B false) (.consB (.B false) (.consI .i64 N12 (.consI .i64 N12 (.consI .i64 N12 (.consI .i64 N12 (.consS (.S []) (.consS (.S []) (.consS (.S []) (.consV .nilS (.consV .nilS (.consI .i64 (.rI V8 V20 0) (.consI .i64 N16 (.consI .i64 (.I 132) (.consI .i64 V28 (.consS (.rS V8 V20 1) Jbb)))))))))))))))))))
abbrev Jd5:Tree:=.bindN (.bindV (.need (.le (.add (.rlen V30) (.rlen (.snocR .nilR Jd4))) N7p) (.bindV (.jump 1 [N12,N12,V34]))))
abbrev Jd6:Tree:=.need (.le N19 (.add V28 N16)) (.need (.le (.add V28 N16) N18) Jd5)
abbrev Jd7:List Ent:=[Jcx,Jd3,J8m,J7a,J8n,J4o,J8o,J75,.cells 0 165 [Va 16,Va 3,Va 5,Va 7,Vi 9,Va 10]]
abbrev Jd8:Ent:=.rd 30 J2p V31
abbrev Jd9:Ent:=.cells 29 165 [Va 30,Va 32,Va 34,Va 36,Vi 38,Va 39]
abbrev Jda:Ent:=.rd 19 J2p V20
abbrev Jdb:Ent:=.cells 16 27 [Va 0,Va 2,Va 4,Va 7,Vi 9]
abbrev Jdc:List Ent:=.cells 12 9 [Vs 10]::.cells 11 27 [Va 0,Va 2,Va 4,Va 7,Vi 9]::Jci
abbrev Jdd:List Ent:=.cells 13 27 [.nils,.nils,.nils,.nils,.int .i64 N12]::Jdc
abbrev Jde:List Ent:=.row 18 57 J73 .nilR::.cells 17 27 [.nils,.nils,.nils,.nils,.int .i64 N12]::Jdb::Jdd
abbrev Jdf:Tree:=.bindN (.bindN (.letV .nilS (.callM 126 [.cv (true,[Va 0,Va 2,Va 4,Va 7,Vi 9])] Jde [] [] [] [Jda,J7v,.row 23 63 J6z V24,.row 25 68 J4n V26,.st 28] (.cv (true,[Va 19,Va 21,Va 23,Va 25,Vi 27])) 10 (.bindN (.callM 39 [Vq [.ptr 29 0],Vq [Vs 10]] (.cells 29 165 [Va 19,Va 21,Va 23,Va 25,Vi 27,.nils]::Jda::J7v::.row 23 63 J6z V24::.row 25 68 J4n V26::.st 28::Jde) [29] [23,25] [Jd9] [Jd8,Jbm,Jal,J8w,.row 39 57 J73 V40,.st 41] (.tup []) 12 (.bindN (.ret (.tup [(true,[Va 30,Va 32,Va 34,Va 36,Vi 38]),(false,[.int .i64 N12])]) (.cells 42 27 [Va 30,Va 32,Va 34,Va 36,Vi 38]::Jd8::Jbm::Jal::J8w::.row 39 57 J73 V40::.st 41::Jd9::Jda::J7v::.st 28::.row 18 57 J73 .nilR::.cells 17 27 [Va 30,Va 32,Va 34,Va 36,Vi 38]::Jdb::.cells 13 27 [Va 30,Va 32,Va 34,Va 36,Vi 38]::Jdc))))))))
abbrev Jdg:X:=.snocR .nilR (.consI .i64 N3x (.consB (.B false) (.consB (.B false) (.consB (.B false) (.consB (.B false) (.consI .i64 N12 (.consI .i64 V44 J9f)))))))
abbrev Jdh:Ent:=.row 35 90 J2p .nilR
abbrev Jdi:Ent:=.row 32 90 J2p .nilR
abbrev Jdj:Ent:=.cells 31 31 [Vi 38,Vb 39,Vb 40,Vb 41,Vb 42,Vi 43,Vi 44,Vi 45,Vi 46,Vs 47,Vs 48,Vs 49,Va 50,Va 52]
abbrev Jdk:Ent:=.cells 30 9 [Vs 54]
abbrev Jdl:Ent:=.cells 0 165 [Va 56,Va 58,Va 60,Va 62,Vi 64,Va 65]
abbrev Jdm:List Ent:=[.rd 50 J3a V51,.rd 52 J1x V53]
abbrev Jdn:List Ent:=Jdh::.row 33 90 J2p V34::Jdi::Jdj::Jdk::J8m::J7a::J8n::J4o::J8o::J75::.cells 0 165 [Va 1,Va 33,Va 5,Va 7,Vi 9,Va 10]::Jdm
abbrev Jdo:List X:=[V38,V39,V40,V41,V42,V43,V44,V45,V46,V47,V48,V49,V50,V51,V52,V53,V54]
abbrev Jdp:Tree:=.need (.le N19 (.add V37 N16)) (.need (.le (.add V37 N16) N18) (.back 0 (V36::.add V37 N16::Jdo)))
abbrev V84:X:=.var 84
abbrev Jdr:Ent:=.rd 83 J2p V84
abbrev Jds:Ent:=.row 82 31 J6 (.snocR .nilR (.consI .i64 N3x (.consB (.B false) (.consB (.B false) (.consB (.B false) (.consB (.B false) (.consI .i64 N12 (.consI .i64 V70 J9f))))))))
abbrev Jdt:Ent:=.cells 55 90 [Vs 58,Vs 59,Vi 60]
abbrev Jdu:Ent:=.cells 31 31 [Vi 64,Vb 65,Vb 66,Vb 67,Vb 68,Vi 69,Vi 70,Vi 71,Vi 72,Vs 73,Vs 74,Vs 75,Va 76,Va 78]
abbrev Jdv:Ent:=.cells 0 165 [Va 83,Va 85,Va 87,Va 89,Vi 91,Va 92]
abbrev Jdw:List Ent:=[.rd 76 J3a V77,.rd 78 J1x V79]
abbrev Jdx:List X:=[V64,V65,V66,V67,V68,V69,V70,V71,V72,V73,V74,V75,V76,V77,V78,V79,V80]
abbrev Jdy:Tree:=.need (.le N12 V61) (.need (.lt V61 (.rlen V63)) (.need (.le N19 (.add V61 N16)) (.need (.le (.add V61 N16) N18) (.need (.le N19 (.add V62 N16)) (.need (.le (.add V62 N16) N18) (.back 2 (.add V61 N16::.add V62 N16::.setR V63 V61 (.consS (.rS V63 V62 0) (.consS (.rS V63 V62 1) (.consI .i64 (.rI V63 V62 2) .nilL)))::Jdx)))))))
abbrev Jdz:Tree:=.need (.le N19 (.add V62 N16)) (.need (.le (.add V62 N16) N18) (.back 2 (V61::.add V62 N16::V63::Jdx)))
abbrev Je0:List X:=V37::.add V37 N16::V34::Jdo
abbrev Je1:Ent:=.cells 0 165 [Va 62,Va 64,Va 66,Va 68,Vi 70,Va 71]
abbrev Je2:Ent:=.row 88 63 J6z (.var 89)
abbrev Je3:Ent:=.row 93 57 J73 (.var 94)
abbrev Je4:Ent:=.row 83 31 J6 (.snocR .nilR (.consI .i64 N3x (.consB (.B false) (.consB (.B false) (.consB (.B false) (.consB (.B false) (.consI .i64 N12 (.consI .i64 V71 J9f))))))))
abbrev Je5:Ent:=.cells 61 88 [.str (.rS V51 V57 0),.int .i64 (.rI V51 V57 1)]
abbrev Je6:Ent:=.cells 31 31 [Vi 65,Vb 66,Vb 67,Vb 68,Vb 69,Vi 70,Vi 71,Vi 72,Vi 73,Vs 74,Vs 75,Vs 76,Va 77,Va 79]
abbrev Je7:Ent:=.cells 0 165 [Va 84,Va 86,Va 88,Va 90,Vi 92,Va 93]
abbrev Je8:List Ent:=[.rd 77 J3a V78,.rd 79 J1x V80]
abbrev Je9:List X:=[V65,V66,V67,V68,V69,V70,V71,V72,V73,V74,V75,V76,V77,V78,V79,V80,V81]
abbrev Jea:Tree:=.need (.le N12 V62) (.need (.lt V62 (.rlen V64)) (.need (.le N19 (.add V62 N16)) (.need (.le (.add V62 N16) N18) (.need (.le N19 (.add V63 N16)) (.need (.le (.add V63 N16) N18) (.back 2 (.add V62 N16::.add V63 N16::.setR V64 V62 (.consS (.rS V64 V63 0) (.consS (.rS V64 V63 1) (.consI .i64 (.rI V64 V63 2) .nilL)))::Je9)))))))
abbrev Jeb:Tree:=.need (.le N19 (.add V63 N16)) (.need (.le (.add V63 N16) N18) (.back 2 (V62::.add V63 N16::V64::Je9)))
abbrev Jec:Ent:=.rd 63 J2p V64
abbrev Jed:Ent:=.rd 65 J2p V66
abbrev Jee:Ent:=.row 67 63 J6z V68
abbrev Jef:Ent:=.row 69 68 J4n V70
abbrev Jeg:Ent:=.row 72 57 J73 V73
abbrev Jeh:Ent:=.cells 0 165 [Va 63,Va 65,Va 67,Va 69,Vi 71,Va 72]
abbrev Jei:List Ent:=[Jec,Jed,Jee,Jef,Jeg,Jb9]
abbrev Jej:Ent:=.rd 33 J2p V34
abbrev Jek:Ent:=.cells 0 165 [Va 33,Va 35,Va 37,Va 39,Vi 41,Va 42]
abbrev Jel:Tree:=.ret (.tup []) (Jej::.rd 35 J2p V36::.row 37 63 J6z V38::.row 39 68 J4n V40::.row 42 57 J73 V43::.st 44::J9s::J8m::J7a::J75::Jek::Ja0)
abbrev Jem:List Ent:=[Jej,.rd 35 J2p V36,.row 37 63 J6z V38,.row 39 68 J4n V40,.row 42 57 J73 V43,.st 44]
abbrev Jen:Ent:=.row 33 31 J6 (.snocR .nilR (.consI .i64 (.I 13) (.consB (.B false) (.consB (.B false) (.consB (.B false) (.consB (.B false) J9g))))))
abbrev Jeo:Ent:=.cells 43 63 [Vs 33,Vb 34,Vb 35,Va 36,Va 38,Vi 40]
abbrev Jep:Ent:=.rd 41 J6 V42
abbrev Jeq:List Ent:=J9s::J8m::J7a::J75::Jc3::Ja0
abbrev Jer:Ent:=.row 31 57 J73 .nilR
abbrev Jes:List Ent:=[.cells 29 31 [Vi 11,Vb 12,Vb 13,Vb 14,Vb 15,Vi 16,Vi 17,Vi 18,Vi 19,Vs 20,Vs 21,Vs 22,Va 23,Va 25],.cells 28 9 [Vs 10],.cells 27 27 [Va 0,Va 2,Va 4,Va 7,Vi 9],J2v,J42,Jcb,.st 6,Jcc,.rd 23 J3a V24,.rd 25 J1x V26]
abbrev Jet:List Ent:=Jer::.cells 30 27 [.nils,.nils,.nils,.nils,.int .i64 N12]::Jes
abbrev Jeu:Ent:=.rd 51 J2p V52
abbrev Jev:Ent:=.cells 48 165 [Va 49,Va 51,Va 53,Va 55,Vi 57,Va 58]
abbrev Jew:Ent:=.cells 35 27 [Va 0,Va 2,Va 4,Va 7,Vi 9]
abbrev Jex:List Ent:=.row 37 57 J73 .nilR::.cells 36 27 [.nils,.nils,.nils,.nils,.int .i64 N12]::Jew::Jet
abbrev Jey:Ent:=.cells 47 165 [Va 48,Va 50,Va 52,Va 54,Vi 56,Va 57]
abbrev Jez:Ent:=.rd 37 J2p V38
abbrev Jf0:Ent:=.cells 34 27 [Va 0,Va 2,Va 4,Va 7,Vi 9]
abbrev Jf1:List Ent:=.row 36 57 J73 .nilR::.cells 35 27 [.nils,.nils,.nils,.nils,.int .i64 N12]::Jf0::Jet
abbrev Jf2:Ent:=.rd 17 J4n V18
abbrev Jf3:List Ent:=[Jcv,Jcw,.rd 26 J6z V27,.st 7,Jf2,.cells 0 27 [Va 22,Va 24,Va 26,Va 17,Vi 28]]
abbrev Jf4:List Ent:=.cells 29 68 [.int .i64 (.rI V18 V21 0),.str (.rS V18 V21 1),.str (.rS V18 V21 2),.int .i64 (.rI V18 V21 3)]::Jf3
abbrev Jf5:List Ent:=[.rd 13 J2p V14,J7a,.rd 15 J6z V16,.st 7,Jf2,.cells 0 27 [Va 13,Va 3,Va 15,Va 17,Vi 19]]
abbrev Jf6:List Ent:=.cells 20 90 [.str (.rS V4 V12 0),.str (.rS V4 V12 1),.int .i64 (.rI V4 V12 2)]::Jf5
abbrev Jf7:X:=.consS V13 (.consI .i64 (.rI V15 V17 0) (.consB (.rB V15 V17 1) (.consB (.rB V15 V17 2) (.consB (.rB V15 V17 3) (.consB (.rB V15 V17 4) (.consI .i64 (.rI V15 V17 5) (.consI .i64 (.rI V15 V17 6) (.consI .i64 (.rI V15 V17 7) (.consI .i64 (.rI V15 V17 8) (.consS (.rS V15 V17 9) (.consS (.rS V15 V17 10) (.consS (.rS V15 V17 11) (.consV (.rV V15 V17 12) (.consV (.rV V15 V17 13) (.consI .i64 N12 (.consI .i64 N12 (.consI .i64 N12 (.consI .i64 N12 (.consS (.S []) Jbb)))))))))))))))))))
abbrev Jf8:Ent:=.row 62 31 J6 (.snocR .nilR (.consI .i64 V35 (.consB V36 (.consB V37 (.consB V38 (.consB V39 (.consI .i64 V40 (.consI .i64 V41 (.consI .i64 V42 (.consI .i64 V43 (.consS V44 (.consS V45 (.consS V46 (.consV V47 (.consV V49 .nilL)))))))))))))))
abbrev Jf9:Ent:=.st 34
abbrev Jfa:Ent:=.cells 31 31 [Vi 35,Vb 36,Vb 37,Vb 38,Vb 39,Vi 40,Vi 41,Vi 42,Vi 43,Vs 44,Vs 45,Vs 46,Va 47,Va 49]
abbrev Jfb:Ent:=.rd 53 J2p V54
abbrev Jfc:List Ent:=[J9y,J9z,.rd 47 J3a V48,.rd 49 J1x V50]
abbrev Jfd:List Ent:=.st 77::.rd 78 J2p V79::.rd 80 J2p V81::.row 82 63 J6z V83::.row 84 68 J4n V85::.row 87 57 J73 V88::Jb9::Jf8::Jf9::Jfa::J9s::Jeu::Jfb::J75::.cells 0 165 [Va 78,Va 80,Va 82,Va 84,Vi 86,Va 87]::Jfc
abbrev Jfe:Ent:=.rd 90 J2p V91
abbrev Jff:Ent:=.cells 89 88 [.str (.rS V27 V76 0),.int .i64 (.rI V27 V76 1)]
abbrev Jfg:Ent:=.rd 95 J2p (.var 96)
abbrev Jfh:List Ent:=[J9y,J9z,.rd 47 J3a V48,.rd 49 J1x V50,.rd 78 J2p V79]
abbrev Jfi:List Ent:=.st 94::Jfe::Jff::.st 77::Jfg::.rd 97 J2p (.var 98)::.row 99 63 J6z (.var 100)::.row 101 68 J4n (.var 102)::.row 104 57 J73 (.var 105)::Jb9::Jf8::Jf9::Jfa::J9s::Jeu::Jfb::J75::.cells 0 165 [Va 95,Va 97,Va 99,Va 101,Vi 103,Va 104]::Jfh
abbrev Jfj:Ent:=.row 112 63 J6z (.var 113)
abbrev Jfk:Ent:=.row 114 68 J4n (.var 115)
abbrev Jfl:Ent:=.row 117 57 J73 (.var 118)
abbrev Jfm:Ent:=.row 107 31 J6 (.snocR .nilR (.consI .i64 N24 (.consB (.B false) (.consB (.B true) (.consB (.B false) (.consB (.B false) (.consI .i64 N12 (.consI .i64 N12 (.consI .i64 N12 (.consI .i64 N12 (.consS (.S []) (.consS (.rS V91 V93 0) (.consS (.rS V91 V93 1) J2k)))))))))))))
abbrev Jfn:Ent:=.cells 106 106 [.str (.rS V91 V93 0),.str (.rS V91 V93 1),.int .i64 (.rI V91 V93 2)]
abbrev Jfo:Ent:=.cells 0 165 [Va 108,Va 110,Va 112,Va 114,Vi 116,Va 117]
abbrev Jfp:List X:=[V78,V79,V80,V81,.var 82,V83,V84,V85,V86,V87,V88]
abbrev Jfq:Ent:=.row 55 63 J6z V56
abbrev Jfr:Ent:=.row 57 68 J4n V58
abbrev Jfs:Ent:=.row 60 57 J73 V61
abbrev Jft:Ent:=.cells 0 165 [Va 51,Va 53,Va 55,Va 57,Vi 59,Va 60]
abbrev Jfu:X:=.snocR V50 (.consI .i64 N66 .nilL)
abbrev Jfv:List X:=[V55,V56,V57,V58,V59,V60,V61]
abbrev Jfw:X:=.snocR .nilR (.consI .i64 N66 .nilL)
abbrev Jfx:Ent:=.cells 62 88 [.str (.rS V27 V33 0),.int .i64 (.rI V27 V33 1)]
abbrev Jfy:Ent:=.cells 31 31 [Vi 35,Vb 36,Vb 37,Vb 38,Vb 39,Vi 40,Vi 41,Vi 42,Vi 43,Vs 44,Vs 45,Vs 46,Va 47,Va 67]
abbrev Jfz:List Ent:=[J9y,J9z,.row 47 88 J3a V48]
abbrev Jg0:X:=.consI .i64 (.rI V27 V33 1) .nilL
abbrev Jg1:Ent:=.row 22 57 J73 .nilR
abbrev Jg2:List Ent:=[.cells 20 50 [Vi 11,Vi 12,Vi 13,Vs 14,Va 15,Vs 17],.cells 19 3 [Vi 10],.cells 18 27 [Va 0,Va 2,Va 4,Va 7,Vi 9],J2v,J42,Jcb,.st 6,Jcc,.rd 15 J3u V16]
abbrev Jg3:List Ent:=Jg1::.cells 21 27 [.nils,.nils,.nils,.nils,.int .i64 N12]::Jg2
abbrev Jg4:Ent:=.cells 38 165 [Va 28,Va 30,Va 32,Va 34,Vi 36,.nils]
abbrev Jg5:Ent:=.rd 28 J2p V29
abbrev Jg6:Ent:=.row 32 63 J6z V33
abbrev Jg7:Ent:=.row 27 57 J73 .nilR
abbrev Jg8:Ent:=.cells 25 27 [Va 0,Va 2,Va 4,Va 7,Vi 9]
abbrev Jg9:List Ent:=Jg5::Jd8::Jg6::J6t::.st 37::Jg7::.cells 26 27 [Va 28,Va 30,Va 32,Va 34,Vi 36]::Jg8::Jg1::.cells 21 27 [Va 28,Va 30,Va 32,Va 34,Vi 36]::Jg2
abbrev Jga:Ent:=.cells 38 165 [Va 39,Va 41,Va 43,Va 45,Vi 47,Va 48]
abbrev Jgb:List Ent:=Jg7::.cells 26 27 [.nils,.nils,.nils,.nils,.int .i64 N12]::Jg8::Jg3
abbrev Jgc:X:=.snocR .nilR (.consS (.S []) (.consI .i64 N12 (.consB (.B false) (.consB (.B false) (.consB (.B false) (.consB (.B false) (.consI .i64 N12 (.consI .i64 N12 (.consI .i64 N12 (.consI .i64 N12 (.consS (.S []) (.consS (.S []) (.consS (.S []) (.consV .nilS (.consV .nilS (.consI .i64 V10 (.consI .i64 N24 (.consI .i64 N12 (.consI .i64 V13 (.consS (.S []) Jbb))))))))))))))))))))
abbrev Jgd:Ent:=.cells 37 165 [Va 27,Va 29,Va 31,Va 33,Vi 35,.nils]
abbrev Jge:Ent:=.row 26 57 J73 .nilR
abbrev Jgf:Ent:=.cells 24 27 [Va 0,Va 2,Va 4,Va 7,Vi 9]
abbrev Jgg:List Ent:=Jb1::Jb2::Jb3::Jb4::.st 36::Jge::.cells 25 27 [Va 27,Va 29,Va 31,Va 33,Vi 35]::Jgf::Jg1::.cells 21 27 [Va 27,Va 29,Va 31,Va 33,Vi 35]::Jg2
abbrev Jgh:Ent:=.cells 37 165 [Va 38,Va 40,Va 42,Va 44,Vi 46,Va 47]
abbrev Jgi:List Ent:=Jge::.cells 25 27 [.nils,.nils,.nils,.nils,.int .i64 N12]::Jgf::Jg3
abbrev Jgj:Ent:=.cells 0 165 [Va 31,Va 33,Va 35,Va 37,Vi 39,Va 40]
abbrev Jgk:List Ent:=J9s::J8m::J7a::J75::Jbs::Ja0
abbrev Jgl:Ent:=.row 31 31 J6 (.snocR .nilR (.consI .i64 N35 (.consB (.B false) (.consB (.B false) (.consB (.B false) (.consB (.B false) (.consI .i64 N12 (.consI .i64 V20 J9f))))))))
abbrev Jgm:List Ent:=Jbm::Jao::Jbn::Jbo::Jbp::Jbq::Jgl::Jgk
abbrev Jgn:Ent:=.rd 57 J2p V58
abbrev Jgo:Ent:=.rd 59 J2p V60
abbrev Jgp:Ent:=.rd 45 J2p V46
abbrev Jgq:Ent:=.rd 47 J2p V48
abbrev Jgr:Ent:=.cells 0 165 [Va 57,Va 59,Va 61,Va 63,Vi 65,Va 66]
abbrev Jgs:Ent:=.cells 0 165 [Va 45,Va 47,Va 49,Va 51,Vi 53,Va 54]
abbrev Jgt:Ent:=.row 15 90 J2p .nilR
abbrev Jgu:List Ent:=[.row 18 90 J2p .nilR,.row 16 90 J2p V17,Jgt,.cells 14 9 [Vs 21],J8m,J7a,J8n,J4o,J8o,J75,.cells 0 165 [Va 1,Va 16,Va 5,Va 7,Vi 9,Va 10]]
abbrev Jgv:Ent:=.cells 22 90 [.str (.rS V17 V20 0),.str (.rS V17 V20 1),.int .i64 (.rI V17 V20 2)]
abbrev Jgw:List Ent:=[J2v,J42,Jcb,.rd 6 J4n V7,.st 9]
abbrev Jgx:List Ent:=.rd 22 J3a V23::.rd 24 J1x V25::Jgw
abbrev Jgy:List Ent:=.cells 39 27 [Va 26,Va 28,Va 30,Va 32,Vi 34]::.rd 26 J2p V27::Jg5::.rd 30 J6z V31::.rd 32 J4n V33::.rd 35 J73 V36::J6q::Jgx
abbrev Jgz:List Ent:=Jaf::.rd 42 J2p V43::.rd 44 J6z V45::.rd 46 J4n V47::.st 49::Jgy
abbrev Jh0:List Ent:=.cells 70 27 [Va 57,Va 59,Va 61,Va 63,Vi 65]::Jgn::Jgo::.rd 61 J6z V62::.rd 63 J4n V64::.rd 66 J73 V67::.st 69::.rd 54 J3u V55::Jgz
abbrev Jh1:List Ent:=.rd 71 J2p V72::J9b::.rd 75 J6z V76::.rd 77 J4n V78::.st 80::Jh0
abbrev Jh2:List Ent:=.cells 92 27 [Va 81,Va 83,Va 85,Va 87,Vi 89]::.rd 81 J2p (.var 82)::Jdr::.rd 85 J6z V86::.rd 87 J4n V88::.st 91::Jh1
abbrev Jh3:List Ent:=.rd 93 J2p (.var 94)::Jfg::.rd 97 J6z (.var 98)::.rd 99 J4n (.var 100)::.st 102::Jh2
abbrev Jh4:Ent:=.rd 11 J2 V12
abbrev Jh5:X:=.snocR .nilR (.consS V5 (.consB V6 (.consB V7 (.consV V8 (.consV V10 (.consI .i64 V12 .nilL))))))
abbrev Jh6:X:=.dropR (.takeR V4 N21) N12
abbrev Jh7:List X:=[.dropR (.takeR V14 N16) N12,Jh5,Jh6]
abbrev Jh8:List Ent:=[.cells 0 27 [.nils,.nils,.nils,.nils,.int .i64 N12]]
abbrev Jh9:List Ent:=J7a::J8m::Jh8
abbrev Jha:List Ent:=.rd 8 J2 V9::.rd 10 J2 V11::Jh9
abbrev Jhb:X:=.dropR (.takeR V15 N16) N12
abbrev Jhc:List X:=[V14,V15,V16,Jhb,Jh5,Jh6]
abbrev Jhd:List X:=[V14,V15,V17,Jhb,Jh5,Jh6]
abbrev Jhe:List Ent:=[.rd 14 J4n V15]
abbrev Jhf:X:=.dropR (.takeR V16 N16) N12
abbrev Jhg:List X:=[V15,V16,V17,Jhf,Jh5,Jh6]
abbrev Jhh:List Ent:=[.rd 15 J4n V16]
abbrev Jhi:X:=.snocR .nilR (.consS V6 (.consB V7 (.consB V8 (.consV V9 (.consV V11 (.consI .i64 V13 .nilL))))))
abbrev Jhj:List Ent:=.rd 9 J2 V10::Jh4::.rd 5 J2p Jh6::Jh9
abbrev Jhk:List Ent:=.cells 16 31 [.int .i64 N24,.bool (.B false),.bool (.B false),.bool (.B false),.bool (.B false),.int .i64 N12,.int .i64 N12,.int .i64 N12,.int .i64 N12,.str (.S []),Vs 11,Vs 12,.nils,.nils]::.cells 13 27 [Va 0,Va 2,Va 4,Va 7,Vi 9]::Jci
abbrev Jhl:List Ent:=.cells 30 27 [Va 17,Va 19,Va 21,Va 23,Vi 25]::.rd 17 J2p V18::Jda::.rd 21 J6z V22::.rd 23 J4n V24::.rd 26 J73 V27::.st 29::Jhk
abbrev Jhm:Tree:=.ret (Vq [.bool (.eqI (.rlen V27) N12)]) []
end Go.Proofs.YtkhakgbnfapifaaGreatDoor