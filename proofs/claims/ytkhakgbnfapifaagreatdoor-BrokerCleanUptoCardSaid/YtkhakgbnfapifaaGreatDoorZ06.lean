/-
  The executor's table for this translation: types, functions that have a body, functions whose slices are the caller's. Written by a program of mine (wip/mkenv.py); the kernel checks it against the program. By an AI agent.
-/
import Derived.Test.YtkhakgbnfapifaaGreatDoorRows
import Derived.Test.YtkhakgbnfapifaaGreatDoorZ05
set_option linter.unusedSimpArgs false
set_option linter.unusedVariables false
set_option maxHeartbeats 20000000
namespace Go.Proofs.YtkhakgbnfapifaaGreatDoor
open Go.Sx
def sxT:Tab:=[
 (2,{ agg:=false,ks:=[.int .i64],zs:=[.int .i64 (.I 0)],bytes:=8,tag:=.int .i64,eqs:=false }),
 (3,{ agg:=false,ks:=[.int .i64],zs:=[.int .i64 (.I 0)],bytes:=8,tag:=.int .i64,eqs:=false }),
 (4,{ agg:=false,ks:=[.bool],zs:=[.bool (.B false)],bytes:=1,tag:=.bool,eqs:=false }),
 (5,{ agg:=false,ks:=[.int .u8],zs:=[.int .u8 (.I 0)],bytes:=1,tag:=.int .u8,eqs:=false }),
 (6,{ agg:=false,ks:=[.int .u8],zs:=[.int .u8 (.I 0)],bytes:=1,tag:=.int .u8,eqs:=false }),
 (7,{ agg:=true,ks:=[.int .i64,.int .i64,.bool,.int .u8],zs:=[.int .i64 (.I 0),.int .i64 (.I 0),.bool (.B false),.int .u8 (.I 0)],bytes:=24,tag:=.strct [(0,2,1,false),(1,3,1,false),(2,4,1,false),(3,6,1,false)],eqs:=false }),
 (8,{ agg:=true,ks:=[.int .i64,.int .i64,.bool,.int .u8],zs:=[.int .i64 (.I 0),.int .i64 (.I 0),.bool (.B false),.int .u8 (.I 0)],bytes:=24,tag:=.strct [(0,2,1,false),(1,3,1,false),(2,4,1,false),(3,6,1,false)],eqs:=false }),
 (9,{ agg:=false,ks:=[.str],zs:=[.str (.S [])],bytes:=16,tag:=.str,eqs:=false }),
 (10,{ agg:=false,ks:=[.str],zs:=[.str (.S [])],bytes:=16,tag:=.str,eqs:=false }),
 (11,{ agg:=false,ks:=[.str],zs:=[.str (.S [])],bytes:=16,tag:=.str,eqs:=false }),
 (12,{ agg:=false,ks:=[.int .u64],zs:=[.int .u64 (.I 0)],bytes:=8,tag:=.int .u64,eqs:=false }),
 (13,{ agg:=true,ks:=[.str,.int .u64],zs:=[.str (.S []),.int .u64 (.I 0)],bytes:=24,tag:=.strct [(0,9,1,false),(1,12,1,false)],eqs:=false }),
 (14,{ agg:=true,ks:=[.str,.int .u64],zs:=[.str (.S []),.int .u64 (.I 0)],bytes:=24,tag:=.strct [(0,9,1,false),(1,12,1,false)],eqs:=false }),
 (15,{ agg:=false,ks:=[.oth],zs:=[.nilp],bytes:=8,tag:=.ptr 353,eqs:=false }),
 (16,{ agg:=false,ks:=[.oth],zs:=[.nilp],bytes:=8,tag:=.ptr 356,eqs:=false }),
 (17,{ agg:=false,ks:=[.oth],zs:=[.nilp],bytes:=8,tag:=.ptr 363,eqs:=false }),
 (18,{ agg:=true,ks:=[.oth],zs:=[.nilp],bytes:=8,tag:=.strct [(0,17,1,false)],eqs:=false }),
 (19,{ agg:=true,ks:=[.oth],zs:=[.nilp],bytes:=8,tag:=.strct [(0,17,1,false)],eqs:=false }),
 (21,{ agg:=false,ks:=[.int .i32],zs:=[.int .i32 (.I 0)],bytes:=4,tag:=.int .i32,eqs:=false }),
 (22,{ agg:=false,ks:=[.oth],zs:=[.nils],bytes:=24,tag:=.slice 106,eqs:=false }),
 (23,{ agg:=false,ks:=[.oth],zs:=[.nils],bytes:=24,tag:=.slice 90,eqs:=false }),
 (24,{ agg:=false,ks:=[.oth],zs:=[.nils],bytes:=24,tag:=.slice 63,eqs:=false }),
 (25,{ agg:=false,ks:=[.oth],zs:=[.nils],bytes:=24,tag:=.slice 68,eqs:=false }),
 (26,{ agg:=true,ks:=[.oth,.oth,.oth,.oth,.int .i64],zs:=[.nils,.nils,.nils,.nils,.int .i64 (.I 0)],bytes:=104,tag:=.strct [(0,22,1,false),(1,23,1,false),(2,24,1,false),(3,25,1,false),(4,3,1,false)],eqs:=false }),
 (27,{ agg:=true,ks:=[.oth,.oth,.oth,.oth,.int .i64],zs:=[.nils,.nils,.nils,.nils,.int .i64 (.I 0)],bytes:=104,tag:=.strct [(0,22,1,false),(1,23,1,false),(2,24,1,false),(3,25,1,false),(4,3,1,false)],eqs:=false }),
 (28,{ agg:=false,ks:=[.oth],zs:=[.nils],bytes:=24,tag:=.slice 88,eqs:=false }),
 (29,{ agg:=false,ks:=[.oth],zs:=[.nils],bytes:=24,tag:=.slice 3,eqs:=false }),
 (30,{ agg:=true,ks:=[.int .i64,.bool,.bool,.bool,.bool,.int .i64,.int .i64,.int .i64,.int .i64,.str,.str,.str,.oth,.oth],zs:=[.int .i64 (.I 0),.bool (.B false),.bool (.B false),.bool (.B false),.bool (.B false),.int .i64 (.I 0),.int .i64 (.I 0),.int .i64 (.I 0),.int .i64 (.I 0),.str (.S []),.str (.S []),.str (.S []),.nils,.nils],bytes:=144,tag:=.strct [(0,3,1,false),(1,4,1,false),(2,4,1,false),(3,4,1,false),(4,4,1,false),(5,3,1,false),(6,3,1,false),(7,3,1,false),(8,3,1,false),(9,9,1,false),(10,9,1,false),(11,9,1,false),(12,28,1,false),(13,29,1,false)],eqs:=false }),
 (31,{ agg:=true,ks:=[.int .i64,.bool,.bool,.bool,.bool,.int .i64,.int .i64,.int .i64,.int .i64,.str,.str,.str,.oth,.oth],zs:=[.int .i64 (.I 0),.bool (.B false),.bool (.B false),.bool (.B false),.bool (.B false),.int .i64 (.I 0),.int .i64 (.I 0),.int .i64 (.I 0),.int .i64 (.I 0),.str (.S []),.str (.S []),.str (.S []),.nils,.nils],bytes:=144,tag:=.strct [(0,3,1,false),(1,4,1,false),(2,4,1,false),(3,4,1,false),(4,4,1,false),(5,3,1,false),(6,3,1,false),(7,3,1,false),(8,3,1,false),(9,9,1,false),(10,9,1,false),(11,9,1,false),(12,28,1,false),(13,29,1,false)],eqs:=false }),
 (32,{ agg:=false,ks:=[.oth],zs:=[.nils],bytes:=24,tag:=.slice 57,eqs:=false }),
 (33,{ agg:=false,ks:=[.int .i64],zs:=[.int .i64 (.I 0)],bytes:=8,tag:=.int .i64,eqs:=false }),
 (41,{ agg:=true,ks:=[.oth,.oth,.oth,.oth,.int .i64,.oth],zs:=[.nils,.nils,.nils,.nils,.int .i64 (.I 0),.nils],bytes:=128,tag:=.strct [(0,27,5,true),(5,32,1,false)],eqs:=false }),
 (42,{ agg:=true,ks:=[.oth,.oth,.oth,.oth,.int .i64,.oth],zs:=[.nils,.nils,.nils,.nils,.int .i64 (.I 0),.nils],bytes:=128,tag:=.strct [(0,27,5,true),(5,32,1,false)],eqs:=false }),
 (48,{ agg:=false,ks:=[.oth],zs:=[.nils],bytes:=24,tag:=.slice 127,eqs:=false }),
 (49,{ agg:=true,ks:=[.int .i64,.int .i64,.int .i64,.str,.oth,.str],zs:=[.int .i64 (.I 0),.int .i64 (.I 0),.int .i64 (.I 0),.str (.S []),.nils,.str (.S [])],bytes:=80,tag:=.strct [(0,3,1,false),(1,3,1,false),(2,3,1,false),(3,9,1,false),(4,48,1,false),(5,9,1,false)],eqs:=false }),
 (50,{ agg:=true,ks:=[.int .i64,.int .i64,.int .i64,.str,.oth,.str],zs:=[.int .i64 (.I 0),.int .i64 (.I 0),.int .i64 (.I 0),.str (.S []),.nils,.str (.S [])],bytes:=80,tag:=.strct [(0,3,1,false),(1,3,1,false),(2,3,1,false),(3,9,1,false),(4,48,1,false),(5,9,1,false)],eqs:=false }),
 (56,{ agg:=true,ks:=[.str,.int .i64,.bool,.bool,.bool,.bool,.int .i64,.int .i64,.int .i64,.int .i64,.str,.str,.str,.oth,.oth,.int .i64,.int .i64,.int .i64,.int .i64,.str,.oth,.str],zs:=[.str (.S []),.int .i64 (.I 0),.bool (.B false),.bool (.B false),.bool (.B false),.bool (.B false),.int .i64 (.I 0),.int .i64 (.I 0),.int .i64 (.I 0),.int .i64 (.I 0),.str (.S []),.str (.S []),.str (.S []),.nils,.nils,.int .i64 (.I 0),.int .i64 (.I 0),.int .i64 (.I 0),.int .i64 (.I 0),.str (.S []),.nils,.str (.S [])],bytes:=248,tag:=.strct [(0,9,1,false),(1,31,14,true),(15,3,1,false),(16,50,6,true)],eqs:=false }),
 (57,{ agg:=true,ks:=[.str,.int .i64,.bool,.bool,.bool,.bool,.int .i64,.int .i64,.int .i64,.int .i64,.str,.str,.str,.oth,.oth,.int .i64,.int .i64,.int .i64,.int .i64,.str,.oth,.str],zs:=[.str (.S []),.int .i64 (.I 0),.bool (.B false),.bool (.B false),.bool (.B false),.bool (.B false),.int .i64 (.I 0),.int .i64 (.I 0),.int .i64 (.I 0),.int .i64 (.I 0),.str (.S []),.str (.S []),.str (.S []),.nils,.nils,.int .i64 (.I 0),.int .i64 (.I 0),.int .i64 (.I 0),.int .i64 (.I 0),.str (.S []),.nils,.str (.S [])],bytes:=248,tag:=.strct [(0,9,1,false),(1,31,14,true),(15,3,1,false),(16,50,6,true)],eqs:=false }),
 (61,{ agg:=false,ks:=[.oth],zs:=[.nils],bytes:=24,tag:=.slice 172,eqs:=false }),
 (62,{ agg:=true,ks:=[.str,.bool,.bool,.oth,.oth,.int .i64],zs:=[.str (.S []),.bool (.B false),.bool (.B false),.nils,.nils,.int .i64 (.I 0)],bytes:=80,tag:=.strct [(0,9,1,false),(1,4,1,false),(2,4,1,false),(3,61,1,false),(4,61,1,false),(5,3,1,false)],eqs:=false }),
 (63,{ agg:=true,ks:=[.str,.bool,.bool,.oth,.oth,.int .i64],zs:=[.str (.S []),.bool (.B false),.bool (.B false),.nils,.nils,.int .i64 (.I 0)],bytes:=80,tag:=.strct [(0,9,1,false),(1,4,1,false),(2,4,1,false),(3,61,1,false),(4,61,1,false),(5,3,1,false)],eqs:=false }),
 (64,{ agg:=false,ks:=[.oth],zs:=[.nils],bytes:=24,tag:=.slice 71,eqs:=false }),
 (67,{ agg:=true,ks:=[.int .i64,.str,.str,.int .i64],zs:=[.int .i64 (.I 0),.str (.S []),.str (.S []),.int .i64 (.I 0)],bytes:=48,tag:=.strct [(0,3,1,false),(1,9,1,false),(2,9,1,false),(3,3,1,false)],eqs:=false }),
 (68,{ agg:=true,ks:=[.int .i64,.str,.str,.int .i64],zs:=[.int .i64 (.I 0),.str (.S []),.str (.S []),.int .i64 (.I 0)],bytes:=48,tag:=.strct [(0,3,1,false),(1,9,1,false),(2,9,1,false),(3,3,1,false)],eqs:=true }),
 (70,{ agg:=true,ks:=[.str,.int .i64],zs:=[.str (.S []),.int .i64 (.I 0)],bytes:=24,tag:=.strct [(0,9,1,false),(1,3,1,false)],eqs:=false }),
 (71,{ agg:=true,ks:=[.str,.int .i64],zs:=[.str (.S []),.int .i64 (.I 0)],bytes:=24,tag:=.strct [(0,9,1,false),(1,3,1,false)],eqs:=true }),
 (80,{ agg:=false,ks:=[.oth],zs:=[.nilp],bytes:=8,tag:=.ptr 165,eqs:=false }),
 (87,{ agg:=true,ks:=[.str,.int .i64],zs:=[.str (.S []),.int .i64 (.I 0)],bytes:=24,tag:=.strct [(0,9,1,false),(1,3,1,false)],eqs:=false }),
 (88,{ agg:=true,ks:=[.str,.int .i64],zs:=[.str (.S []),.int .i64 (.I 0)],bytes:=24,tag:=.strct [(0,9,1,false),(1,3,1,false)],eqs:=true }),
 (89,{ agg:=true,ks:=[.str,.str,.int .i64],zs:=[.str (.S []),.str (.S []),.int .i64 (.I 0)],bytes:=40,tag:=.strct [(0,9,1,false),(1,88,2,true)],eqs:=false }),
 (90,{ agg:=true,ks:=[.str,.str,.int .i64],zs:=[.str (.S []),.str (.S []),.int .i64 (.I 0)],bytes:=40,tag:=.strct [(0,9,1,false),(1,88,2,true)],eqs:=true }),
 (95,{ agg:=false,ks:=[.oth],zs:=[.nilp],bytes:=8,tag:=.ptr 42,eqs:=false }),
 (97,{ agg:=false,ks:=[.oth],zs:=[.nils],bytes:=24,tag:=.slice 31,eqs:=false }),
 (105,{ agg:=true,ks:=[.str,.str,.int .i64],zs:=[.str (.S []),.str (.S []),.int .i64 (.I 0)],bytes:=40,tag:=.strct [(0,9,1,false),(1,9,1,false),(2,3,1,false)],eqs:=false }),
 (106,{ agg:=true,ks:=[.str,.str,.int .i64],zs:=[.str (.S []),.str (.S []),.int .i64 (.I 0)],bytes:=40,tag:=.strct [(0,9,1,false),(1,9,1,false),(2,3,1,false)],eqs:=true }),
 (126,{ agg:=true,ks:=[.int .i64,.str],zs:=[.int .i64 (.I 0),.str (.S [])],bytes:=24,tag:=.strct [(0,3,1,false),(1,9,1,false)],eqs:=false }),
 (127,{ agg:=true,ks:=[.int .i64,.str],zs:=[.int .i64 (.I 0),.str (.S [])],bytes:=24,tag:=.strct [(0,3,1,false),(1,9,1,false)],eqs:=true }),
 (149,{ agg:=true,ks:=[.int .i64,.bool,.int .i64],zs:=[.int .i64 (.I 0),.bool (.B false),.int .i64 (.I 0)],bytes:=24,tag:=.strct [(0,3,1,false),(1,4,1,false),(2,3,1,false)],eqs:=false }),
 (150,{ agg:=true,ks:=[.int .i64,.bool,.int .i64],zs:=[.int .i64 (.I 0),.bool (.B false),.int .i64 (.I 0)],bytes:=24,tag:=.strct [(0,3,1,false),(1,4,1,false),(2,3,1,false)],eqs:=true }),
 (155,{ agg:=false,ks:=[.oth],zs:=[.nils],bytes:=24,tag:=.slice 9,eqs:=false }),
 (164,{ agg:=true,ks:=[.oth,.oth,.oth,.oth,.int .i64,.oth],zs:=[.nils,.nils,.nils,.nils,.int .i64 (.I 0),.nils],bytes:=128,tag:=.strct [(0,27,5,true),(5,32,1,false)],eqs:=false }),
 (165,{ agg:=true,ks:=[.oth,.oth,.oth,.oth,.int .i64,.oth],zs:=[.nils,.nils,.nils,.nils,.int .i64 (.I 0),.nils],bytes:=128,tag:=.strct [(0,27,5,true),(5,32,1,false)],eqs:=false }),
 (171,{ agg:=true,ks:=[.int .i64,.str,.str],zs:=[.int .i64 (.I 0),.str (.S []),.str (.S [])],bytes:=40,tag:=.strct [(0,3,1,false),(1,9,1,false),(2,9,1,false)],eqs:=false }),
 (172,{ agg:=true,ks:=[.int .i64,.str,.str],zs:=[.int .i64 (.I 0),.str (.S []),.str (.S [])],bytes:=40,tag:=.strct [(0,3,1,false),(1,9,1,false),(2,9,1,false)],eqs:=true }),
 (184,{ agg:=false,ks:=[.oth],zs:=[.nils],bytes:=24,tag:=.slice 114,eqs:=false }),
 (202,{ agg:=false,ks:=[.oth],zs:=[.nilm],bytes:=8,tag:=.other,eqs:=false }),
 (207,{ agg:=false,ks:=[.int .u64],zs:=[.int .u64 (.I 0)],bytes:=8,tag:=.int .u64,eqs:=false }),
 (217,{ agg:=false,ks:=[.oth],zs:=[.nilp],bytes:=8,tag:=.ptr 219,eqs:=false }),
 (218,{ agg:=true,ks:=[.str,.int .i64,.bool],zs:=[.str (.S []),.int .i64 (.I 0),.bool (.B false)],bytes:=32,tag:=.strct [(0,9,1,false),(1,3,1,false),(2,4,1,false)],eqs:=false }),
 (219,{ agg:=true,ks:=[.str,.int .i64,.bool],zs:=[.str (.S []),.int .i64 (.I 0),.bool (.B false)],bytes:=32,tag:=.strct [(0,9,1,false),(1,3,1,false),(2,4,1,false)],eqs:=true }),
 (221,{ agg:=false,ks:=[.oth],zs:=[.nilp],bytes:=8,tag:=.ptr 31,eqs:=false }),
 (223,{ agg:=false,ks:=[.oth],zs:=[.nilp],bytes:=8,tag:=.ptr 225,eqs:=false }),
 (224,{ agg:=true,ks:=[.str,.bool],zs:=[.str (.S []),.bool (.B false)],bytes:=24,tag:=.strct [(0,9,1,false),(1,4,1,false)],eqs:=false }),
 (225,{ agg:=true,ks:=[.str,.bool],zs:=[.str (.S []),.bool (.B false)],bytes:=24,tag:=.strct [(0,9,1,false),(1,4,1,false)],eqs:=true }),
 (232,{ agg:=false,ks:=[.oth],zs:=[.nilp],bytes:=8,tag:=.ptr 236,eqs:=false }),
 (235,{ agg:=true,ks:=[.str,.bool,.bool,.oth,.oth,.int .i64,.oth],zs:=[.str (.S []),.bool (.B false),.bool (.B false),.nils,.nils,.int .i64 (.I 0),.nils],bytes:=104,tag:=.strct [(0,63,6,true),(6,97,1,false)],eqs:=false }),
 (236,{ agg:=true,ks:=[.str,.bool,.bool,.oth,.oth,.int .i64,.oth],zs:=[.str (.S []),.bool (.B false),.bool (.B false),.nils,.nils,.int .i64 (.I 0),.nils],bytes:=104,tag:=.strct [(0,63,6,true),(6,97,1,false)],eqs:=false }),
 (241,{ agg:=false,ks:=[.oth],zs:=[.nils],bytes:=24,tag:=.slice 5,eqs:=false }),
 (257,{ agg:=false,ks:=[.oth],zs:=[.nilp],bytes:=8,tag:=.ptr 262,eqs:=false }),
 (258,{ agg:=false,ks:=[.oth],zs:=[.nilp],bytes:=8,tag:=.ptr 260,eqs:=false }),
 (259,{ agg:=true,ks:=[.oth,.oth],zs:=[.nilp,.nils],bytes:=32,tag:=.strct [(0,258,1,false),(1,241,1,false)],eqs:=false }),
 (260,{ agg:=true,ks:=[.oth,.oth],zs:=[.nilp,.nils],bytes:=32,tag:=.strct [(0,258,1,false),(1,241,1,false)],eqs:=false }),
 (261,{ agg:=true,ks:=[.oth,.oth],zs:=[.nilp,.nils],bytes:=32,tag:=.strct [(0,260,2,true)],eqs:=false }),
 (262,{ agg:=true,ks:=[.oth,.oth],zs:=[.nilp,.nils],bytes:=32,tag:=.strct [(0,260,2,true)],eqs:=false }),
 (290,{ agg:=false,ks:=[.int .i64],zs:=[.int .i64 (.I 0)],bytes:=8,tag:=.int .i64,eqs:=false }),
 (297,{ agg:=false,ks:=[.int .u32],zs:=[.int .u32 (.I 0)],bytes:=4,tag:=.int .u32,eqs:=false }),
 (299,{ agg:=false,ks:=[.int .u64],zs:=[.int .u64 (.I 0)],bytes:=8,tag:=.int .u64,eqs:=false }),
 (305,{ agg:=false,ks:=[.oth],zs:=[.nilp],bytes:=8,tag:=.ptr 5,eqs:=false }),
 (320,{ agg:=false,ks:=[.int .u64],zs:=[.int .u64 (.I 0)],bytes:=8,tag:=.int .u64,eqs:=false }),
 (324,{ agg:=false,ks:=[.oth],zs:=[.nilp],bytes:=8,tag:=.ptr 3,eqs:=false }),
 (328,{ agg:=false,ks:=[.oth],zs:=[.nilp],bytes:=8,tag:=.ptr 316,eqs:=false }),
 (341,{ agg:=false,ks:=[.oth],zs:=[.nilp],bytes:=8,tag:=.ptr 320,eqs:=false }),
 (349,{ agg:=true,ks:=[.int .u8,.int .u8],zs:=[.int .u8 (.I 0),.int .u8 (.I 0)],bytes:=2,tag:=.strct [(0,5,1,false),(1,5,1,false)],eqs:=false }),
 (350,{ agg:=true,ks:=[.int .u8,.int .u8],zs:=[.int .u8 (.I 0),.int .u8 (.I 0)],bytes:=2,tag:=.strct [(0,5,1,false),(1,5,1,false)],eqs:=false }),
 (352,{ agg:=true,ks:=[.oth,.oth,.oth,.str],zs:=[.nilp,.nilp,.nilp,.str (.S [])],bytes:=40,tag:=.strct [(0,17,1,false),(1,17,1,false),(2,17,1,false),(3,9,1,false)],eqs:=false }),
 (353,{ agg:=true,ks:=[.oth,.oth,.oth,.str],zs:=[.nilp,.nilp,.nilp,.str (.S [])],bytes:=40,tag:=.strct [(0,17,1,false),(1,17,1,false),(2,17,1,false),(3,9,1,false)],eqs:=false }),
 (357,{ agg:=false,ks:=[.int .u8],zs:=[.int .u8 (.I 0)],bytes:=1,tag:=.int .u8,eqs:=false }),
 (358,{ agg:=false,ks:=[.int .u8],zs:=[.int .u8 (.I 0)],bytes:=1,tag:=.int .u8,eqs:=false }),
 (360,{ agg:=false,ks:=[.int .i32],zs:=[.int .i32 (.I 0)],bytes:=4,tag:=.int .i32,eqs:=false }),
 (361,{ agg:=false,ks:=[.int .i32],zs:=[.int .i32 (.I 0)],bytes:=4,tag:=.int .i32,eqs:=false })]
noncomputable def sxE:Env:=⟨sxT,[(0,[]),(34,[27,32,33]),(36,[27,33]),(65,[64,33]),(73,[50,33]),(78,[27,32]),(98,[63,97]),(102,[23,33]),(118,[3,4]),(129,[9,33]),(131,[3,33]),(133,[25,33]),(151,[150,33]),(158,[31,33]),(175,[22,33]),(178,[25,25]),(215,[3,3,33]),(284,[3,283]),(291,[3,290]),(306,[9,3,33]),(308,[3,9]),(317,[316,4]),(331,[21,3]),(342,[3,3]),(345,[297,297])],[3,4,5,6,7,8,9,10,11,12,13,14,15,16,17,18,19,20,21,22,23,24,25,26,27,28,29,30,31,32,33,34,35,36,37,38,39,40,41,42,43,44,45,46,47,48,49,50,51,52,53,54,55,56,57,58,59,60,61,62,63,64,65,66,67,68,69,70,71,72,73,74,75,76,77,78,79,80,81,82,83,84,85,86,87,88,89,90,91,92,93,94,95,96,97,98,99,100,101,102,103,104,105,106,107,108,109,110,111,112,113,114,115,116,117,118,119,120,121,122,123,124,125,126,127,128,129,130,131,132,133,134,135,136,137,138,139,140,141,142,143,144,145,146,147,148,149,150,151,152,153,154,155,156,157,158,159,160,161,162,163,164,165,166,167,168,169,170,171,172,173,174,175,176,177,178,179,180,181,182,183,184,185,186,187,188,189,190,191,192,193,194,195,196,197,198,199,200,201,202,203,204,205,206,207,208,209,210,211,212,213,214,215,216,217,218,219,220,221,222,223,224,225,226,227,228,229,230,231,232,233,234,235,236,237,238,239,240,241,242,243,244,246,247,248,249,250,251,252,253,254,255,256,257,258,259,260,261,262,263,264,265,266,267,268,270,271,272,273,274,275,276,277,278,279,281,282,283,284,285,286,288,289,290,291,292,293,294,295,296,297,298,299,300,301,302,303,304,305,306,307,308,309,310,311,312,313,314,315,316,317,318,320,321,322,323,324,325,326,327,328,329,330,331,332,333,334,335,336,338,339,340,342,343,346,347,348,349,350,351,352,354,355,377],[59,93,126,134,192,205,206,207,209,228,229,234,236,244,268,285,286],[134,147,192,209,236,285,286],[253],[(35,Tryz.f35),(36,Tryz.f36),(38,Tryz.f38),(46,Tryz.f46),(51,Tryz.f51),(55,Tryz.f55),(75,Tryz.f75),(76,Tryz.f76),(77,Tryz.f77),(79,Tryz.f79),(80,Tryz.f80),(84,Tryz.f84),(86,Tryz.f86),(87,Tryz.f87),(89,Tryz.f89),(110,Tryz.f110),(124,Tryz.f124),(156,Tryz.f156),(157,Tryz.f157),(158,Tryz.f158),(159,Tryz.f159),(160,Tryz.f160),(161,Tryz.f161),(163,Tryz.f163),(164,Tryz.f164),(165,Tryz.f165),(168,Tryz.f168),(175,Tryz.f175),(176,Tryz.f176),(177,Tryz.f177),(178,Tryz.f178),(179,Tryz.f179),(180,Tryz.f180),(185,Tryz.f185),(187,Tryz.f187),(188,Tryz.f188),(189,Tryz.f189),(190,Tryz.f190),(191,Tryz.f191),(208,Tryz.f208),(211,Tryz.f211),(212,Tryz.f212),(213,Tryz.f213),(216,Tryz.f216),(217,Tryz.f217),(218,Tryz.f218),(219,Tryz.f219),(220,Tryz.f220),(231,Tryz.f231),(232,Tryz.f232),(235,Tryz.f235),(241,Tryz.f241),(254,Tryz.f254),(259,Tryz.f259),(260,Tryz.f260),(261,Tryz.f261),(266,Tryz.f266),(267,Tryz.f267),(271,Tryz.f271),(272,Tryz.f272),(273,Tryz.f273),(274,Tryz.f274),(275,Tryz.f275),(276,Tryz.f276),(277,Tryz.f277),(284,Tryz.f284),(306,Tryz.f306),(307,Tryz.f307),(310,Tryz.f310),(311,Tryz.f311),(313,Tryz.f313),(314,Tryz.f314),(315,Tryz.f315)],[],[9,10,14,15,19,21,37,39,50,52,53,56,62,87,88,126,127,128,130,131,132,135,170,171,172],[106,90,1042063,1042068]⟩
theorem sxE_check:sxE.check Tryz.prog=true:=by kernel_rfl
theorem sxE_inl:∀p∈sxE.inl,Tryz.prog.funcs[p.1]?=some p.2:=qy2.2 ⟨Tryz.func35,qy2.2 ⟨Tryz.func36,qy2.2 ⟨Tryz.func38,qy2.2 ⟨Tryz.func46,qy2.2 ⟨Tryz.func51,qy2.2 ⟨Tryz.func55,qy2.2 ⟨Tryz.func75,qy2.2 ⟨Tryz.func76,qy2.2 ⟨Tryz.func77,qy2.2 ⟨Tryz.func79,qy2.2 ⟨Tryz.func80,qy2.2 ⟨Tryz.func84,qy2.2 ⟨Tryz.func86,qy2.2 ⟨Tryz.func87,qy2.2 ⟨Tryz.func89,qy2.2 ⟨Tryz.func110,qy2.2 ⟨Tryz.func124,qy2.2 ⟨Tryz.func156,qy2.2 ⟨Tryz.func157,qy2.2 ⟨Tryz.func158,qy2.2 ⟨Tryz.func159,qy2.2 ⟨Tryz.func160,qy2.2 ⟨Tryz.func161,qy2.2 ⟨Tryz.func163,qy2.2 ⟨Tryz.func164,qy2.2 ⟨Tryz.func165,qy2.2 ⟨Tryz.func168,qy2.2 ⟨Tryz.func175,qy2.2 ⟨Tryz.func176,qy2.2 ⟨Tryz.func177,qy2.2 ⟨Tryz.func178,qy2.2 ⟨Tryz.func179,qy2.2 ⟨Tryz.func180,qy2.2 ⟨Tryz.func185,qy2.2 ⟨Tryz.func187,qy2.2 ⟨Tryz.func188,qy2.2 ⟨Tryz.func189,qy2.2 ⟨Tryz.func190,qy2.2 ⟨Tryz.func191,qy2.2 ⟨Tryz.func208,qy2.2 ⟨Tryz.func211,qy2.2 ⟨Tryz.func212,qy2.2 ⟨Tryz.func213,qy2.2 ⟨Tryz.func216,qy2.2 ⟨Tryz.func217,qy2.2 ⟨Tryz.func218,qy2.2 ⟨Tryz.func219,qy2.2 ⟨Tryz.func220,qy2.2 ⟨Tryz.func231,qy2.2 ⟨Tryz.func232,qy2.2 ⟨Tryz.func235,qy2.2 ⟨Tryz.func241,qy2.2 ⟨Tryz.func254,qy2.2 ⟨Tryz.func259,qy2.2 ⟨Tryz.func260,qy2.2 ⟨Tryz.func261,qy2.2 ⟨Tryz.func266,qy2.2 ⟨Tryz.func267,qy2.2 ⟨Tryz.func271,qy2.2 ⟨Tryz.func272,qy2.2 ⟨Tryz.func273,qy2.2 ⟨Tryz.func274,qy2.2 ⟨Tryz.func275,qy2.2 ⟨Tryz.func276,qy2.2 ⟨Tryz.func277,qy2.2 ⟨Tryz.func284,qy2.2 ⟨Tryz.func306,qy2.2 ⟨Tryz.func307,qy2.2 ⟨Tryz.func310,qy2.2 ⟨Tryz.func311,qy2.2 ⟨Tryz.func313,qy2.2 ⟨Tryz.func314,qy2.2 ⟨Tryz.func315,qy5 _⟩⟩⟩⟩⟩⟩⟩⟩⟩⟩⟩⟩⟩⟩⟩⟩⟩⟩⟩⟩⟩⟩⟩⟩⟩⟩⟩⟩⟩⟩⟩⟩⟩⟩⟩⟩⟩⟩⟩⟩⟩⟩⟩⟩⟩⟩⟩⟩⟩⟩⟩⟩⟩⟩⟩⟩⟩⟩⟩⟩⟩⟩⟩⟩⟩⟩⟩⟩⟩⟩⟩⟩⟩
theorem sxE_ok:EnvOK Tryz.prog sxE:=Env.ok sxE_check sxE_inl
abbrev Va (n:Nat):Sc:=.val (.var n)
abbrev Vi (n:Nat):Sc:=.int .i64 (.var n)
abbrev Vs (n:Nat):Sc:=.str (.var n)
abbrev Vb (n:Nat):Sc:=.bool (.var n)
abbrev Vk:Kd:=.int .i64
abbrev Vq (l:List Sc):SV:=.cv (false,l)
abbrev V29:X:=.var 29
abbrev J2:List Kd:=[Vk,.str,.str]
abbrev V31:X:=.var 31
abbrev J4:Ent:=.row 30 172 J2 V31
abbrev V34:X:=.var 34
abbrev J6:List Kd:=[Vk,.bool,.bool,.bool,.bool,Vk,Vk,Vk,Vk,.str,.str,.str,.oth,.oth]
abbrev J7:Ent:=.row 21 172 J2 .nilR
abbrev V25:X:=.var 25
abbrev V26:X:=.var 26
abbrev V27:X:=.var 27
abbrev V28:X:=.var 28
abbrev V30:X:=.var 30
abbrev V32:X:=.var 32
abbrev V33:X:=.var 33
abbrev Jf:Ent:=.cells 20 236 [Vs 25,Vb 26,Vb 27,Va 28,Va 30,Vi 32,Va 33]
abbrev V0:X:=.var 0
abbrev V1:X:=.var 1
abbrev V2:X:=.var 2
abbrev V16:X:=.var 16
abbrev V18:X:=.var 18
abbrev V7:X:=.var 7
abbrev Jm:Ent:=.cells 15 63 [Vs 0,Vb 1,Vb 2,Va 16,Va 18,Vi 7]
abbrev Jn:Ent:=.cells 14 63 [Vs 0,Vb 1,Vb 2,Va 16,Va 18,Vi 7]
abbrev V3:X:=.var 3
abbrev V5:X:=.var 5
abbrev Jq:Ent:=.cells 13 63 [Vs 0,Vb 1,Vb 2,Va 3,Va 5,Vi 7]
abbrev Jr:Ent:=.row 12 31 J6 .nilR
abbrev V24:X:=.var 24
abbrev V4:X:=.var 4
abbrev Ju:Ent:=.rd 3 J2 V4
abbrev V6:X:=.var 6
abbrev Jw:Ent:=.rd 5 J2 V6
abbrev Jx:List Ent:=[.cells 9 63 [Vs 0,Vb 1,Vb 2,Va 3,Va 5,Vi 7],Ju,Jw]
abbrev Jy:List Ent:=.cells 10 3 [Vi 24]::Jx
abbrev V19:X:=.var 19
abbrev J10:Ent:=.row 18 172 J2 V19
abbrev V17:X:=.var 17
abbrev J12:Ent:=.row 16 172 J2 V17
abbrev N13:X:=.I 0
abbrev J14:Ent:=.cells 11 63 [.str (.S []),.bool (.B false),.bool (.B false),.nils,.nils,.int .i64 N13]
abbrev J15:List Ent:=J7::.cells 20 236 [Vs 0,Vb 1,Vb 2,Va 16,Va 18,Vi 7,.nils]::J10::J12::Jm::Jn::Jq::Jr::J14::Jy
abbrev V22:X:=.var 22
abbrev N17:X:=.I 1
abbrev V23:X:=.var 23
abbrev N19:X:=.I 9223372036854775807
abbrev N1a:X:=.I (-9223372036854775808)
abbrev V35:X:=.var 35
abbrev J1c:Ent:=.row 34 172 J2 V35
abbrev V37:X:=.var 37
abbrev J1e:Ent:=.row 36 172 J2 V37
abbrev V40:X:=.var 40
abbrev J1g:Ent:=.cells 25 172 [.int .i64 (.rI V17 V23 0),.str (.rS V17 V23 1),.str (.rS V17 V23 2)]
abbrev V36:X:=.var 36
abbrev V38:X:=.var 38
abbrev V39:X:=.var 39
abbrev J1k:Ent:=.cells 20 236 [Vs 31,Vb 32,Vb 33,Va 34,Va 36,Vi 38,Va 39]
abbrev J1l:X:=.consS (.S []) .nilL
abbrev J1m:X:=.clrR V28 V26 (.consI .i64 N13 (.consS (.S []) J1l))
abbrev J1n:Ent:=.row 29 172 J2 V30
abbrev J1o:Ent:=.row 31 172 J2 V32
abbrev J1p:Ent:=.cells 20 236 [Vs 26,Vb 27,Vb 28,Va 29,Va 31,Vi 33,Va 34]
abbrev N1q:X:=.I (-1)
abbrev V8:X:=.var 8
abbrev J1s:Ent:=.cells 14 63 [Vs 0,Vb 1,Vb 2,Va 3,Va 5,Vi 7]
abbrev J1t:List Ent:=.cells 15 63 [.str (.S []),.bool (.B false),.bool (.B false),.nils,.nils,.int .i64 N13]::J1s::Jq::Jr::J14::.cells 10 3 [Vi 8]::Jx
abbrev J1u:Tree:=.callM 268 [Vq [Va 3]] J1t [] [] [] [J12] (Vq [Va 16]) 2 (.callM 268 [Vq [Va 5]] (J12::J1t) [] [] [] [J10] (Vq [Va 18]) 2 (.bindN (.letV .nilS (.loop [N13,N13,V8] (.ite (.lt V23 (.rlen V17)) (.need (.le N13 V23) (.bindN (.ite (.eqI (.rI V17 V23 0) V24) (.ite (.eqI V23 N1q) (.callM 214 [Vq [.ptr 20 0]] (J1g::J15) [20] [16,18] [J1p] [J1n,J1o,.row 34 31 J6 V35] (.tup []) 10 (.ret (.tup [(true,[Vs 26,Vb 27,Vb 28,Va 29,Va 31,Vi 33]),(false,[Va 34])]) (J1n::J1o::.row 34 31 J6 V35::J1g::J7::J1p::Jm::Jn::Jq::Jr::.cells 11 63 [Vs 26,Vb 27,Vb 28,Va 29,Va 31,Vi 33]::Jy))) (.need (.le N1a (.add V23 N17)) (.need (.le (.add V23 N17) N19) (.loop [V23,.add V23 N17,V17,V24] (.ite (.lt V27 (.rlen V28)) (.need (.le N13 V27) (.bindN (.bindN (.ite (.not (.eqI (.rI V28 V27 0) V29)) (.need (.le N13 V26) (.need (.lt V26 (.rlen V28)) (.need (.le N1a (.add V26 N17)) (.need (.le (.add V26 N17) N19) (.need (.le N1a (.add V27 N17)) (.need (.le (.add V27 N17) N19) (.back 1 [.add V26 N17,.add V27 N17,.setR V28 V26 (.consI .i64 (.rI V28 V27 0) (.consS (.rS V28 V27 1) (.consS (.rS V28 V27 2) .nilL))),V29]))))))) (.need (.le N1a (.add V27 N17)) (.need (.le (.add V27 N17) N19) (.back 1 [V26,.add V27 N17,V28,V29]))))))) (.need (.le N13 V26) (.need (.le V26 (.rlen V28)) (.need (.le V26 (.rlen J1m)) (.bindV (.callM 214 [Vq [.ptr 20 0]] (.row 30 172 J2 (.takeR J1m V26)::J1g::J7::.cells 20 236 [Vs 0,Vb 1,Vb 2,Va 30,Va 18,Vi 7,.nils]::J10::Jm::Jn::Jq::Jr::J14::.cells 10 3 [Vi 29]::Jx) [20] [30,18] [J1k] [J1c,J1e,.row 39 31 J6 V40] (.tup []) 10 (.ret (.tup [(true,[Vs 31,Vb 32,Vb 33,Va 34,Va 36,Vi 38]),(false,[Va 39])]) (J1c::J1e::.row 39 31 J6 V40::J1g::J7::J1k::Jm::Jn::Jq::Jr::.cells 11 63 [Vs 31,Vb 32,Vb 33,Va 34,Va 36,Vi 38]::.cells 10 3 [Vi 29]::Jx)))))))))))) (.need (.le N1a (.add V23 N17)) (.need (.le (.add V23 N17) N19) (.back 0 [V22,.add V23 N17,V24])))))) (.callM 214 [Vq [.ptr 20 0]] J15 [20] [16,18] [Jf] [.row 28 172 J2 V29,J4,.row 33 31 J6 V34] (.tup []) 10 (.ret (.tup [(true,[Vs 25,Vb 26,Vb 27,Va 28,Va 30,Vi 32]),(false,[Va 33])]) (.row 28 172 J2 V29::J4::.row 33 31 J6 V34::J7::Jf::Jm::Jn::Jq::Jr::.cells 11 63 [Vs 25,Vb 26,Vb 27,Va 28,Va 30,Vi 32]::Jy))))))))
abbrev J1v:Tree:=.loop [N13,.rlen V1] (.ite (.lt V3 V4) (.need (.le N1a (.add V3 V4)) (.need (.le (.add V3 V4) N19) (.need (.le N1a (.shr .u64 (.wrap .u64 (.add V3 V4)) N17)) (.need (.le (.shr .u64 (.wrap .u64 (.add V3 V4)) N17) N19) (.need (.le N13 (.shr .u64 (.wrap .u64 (.add V3 V4)) N17)) (.need (.lt (.shr .u64 (.wrap .u64 (.add V3 V4)) N17) (.rlen V1)) (.bindN (.callP (.B true) 162 [Vq [.str (.rS V1 (.shr .u64 (.wrap .u64 (.add V3 V4)) N17) 0)],Vq [Vs 2]] [] (Vq [Vi 6]) 1 (.ite (.lt V6 N13) (.need (.le N1a (.add (.shr .u64 (.wrap .u64 (.add V3 V4)) N17) N17)) (.need (.le (.add (.shr .u64 (.wrap .u64 (.add V3 V4)) N17) N17) N19) (.back 0 [.add (.shr .u64 (.wrap .u64 (.add V3 V4)) N17) N17,V4]))) (.back 0 [V3,.shr .u64 (.wrap .u64 (.add V3 V4)) N17])))))))))) (.ite (.lt V3 (.rlen V1)) (.need (.le N13 V3) (.bindN (.callP (.B true) 162 [Vq [.str (.rS V1 V3 0)],Vq [Vs 2]] [] (Vq [Vi 6]) 1 (.ret (.tup [(false,[Vi 3]),(false,[.bool (.eqI V6 N13)])]) [])))) (.ret (.tup [(false,[Vi 3]),(false,[.bool (.B false)])]) [])))
abbrev V11:X:=.var 11
abbrev V9:X:=.var 9
abbrev J1y:List Kd:=[Vk]
abbrev V10:X:=.var 10
abbrev J20:Tree:=.ret (Vq [Vi 5]) []
abbrev N21:X:=.I 2
abbrev J22:Tree:=.ret (Vq [.int .i64 N21]) []
abbrev N23:X:=.I 8
abbrev N24:X:=.I 3
abbrev J25:Tree:=.ret (Vq [.int .i64 N24]) []
abbrev V20:X:=.var 20
abbrev J27:Ent:=.row 17 172 J2 V18
abbrev J28:Ent:=.cells 16 63 [Vs 0,Vb 1,Vb 2,Va 17,Va 19,Vi 7]
abbrev J29:Ent:=.cells 15 63 [Vs 0,Vb 1,Vb 2,Va 17,Va 19,Vi 7]
abbrev J2a:Ent:=.row 13 31 J6 .nilR
abbrev J2b:Ent:=.cells 11 63 [Vs 0,Vb 1,Vb 2,Va 3,Va 5,Vi 7]
abbrev J2c:List Ent:=[.row 19 172 J2 V20,J27,J28,J29,J1s,J2a,.cells 12 63 [Vs 0,Vb 1,Vb 2,Va 17,Va 19,Vi 7],J2b,Ju,Jw]
abbrev J2d:X:=.consI .i64 N13 (.consS V8 (.consS V9 .nilL))
abbrev J2e:Ent:=.row 22 172 J2 (.snocR .nilR J2d)
abbrev J2f:Ent:=.cells 21 236 [Vs 24,Vb 25,Vb 26,Va 27,Va 29,Vi 31,Va 32]
abbrev J2g:Ent:=.cells 12 63 [.str (.S []),.bool (.B false),.bool (.B false),.nils,.nils,.int .i64 N13]
abbrev N2h:X:=.I 3518437208883
abbrev N2i:X:=.I 6
abbrev J2j:X:=.consV .nilS (.consV .nilS .nilL)
abbrev J2k:X:=.snocR .nilR (.consI .i64 N24 (.consB (.B false) (.consB (.B false) (.consB (.B false) (.consB (.B false) (.consI .i64 N13 (.consI .i64 N13 (.consI .i64 N13 (.consI .i64 N13 (.consS (.S []) (.consS V8 (.consS V9 J2j))))))))))))
abbrev N2l:X:=.I 977343669134
abbrev J2m:List Ent:=[.cells 16 63 [.str (.S []),.bool (.B false),.bool (.B false),.nils,.nils,.int .i64 N13],.cells 15 63 [Vs 0,Vb 1,Vb 2,Va 3,Va 5,Vi 7],J1s,J2a,J2g,J2b,Ju,Jw]
abbrev J2n:Tree:=.callM 268 [Vq [Va 3]] J2m [] [] [] [J27] (Vq [Va 17]) 2 (.callM 268 [Vq [Va 5]] (J27::J2m) [] [] [] [.row 19 172 J2 V20] (Vq [Va 19]) 2 (.bindN (.ite (.and (.eqI V10 N13) V1) (.bindV (.letV .nilS (.need (.le (.add (.rlen .nilR) (.rlen J2k)) N2l) (.bindV (.ret (.tup [(true,[Vs 0,Vb 1,Vb 2,Va 17,Va 19,Vi 7]),(false,[Va 24])]) (.row 24 31 J6 J2k::.row 22 31 J6 J2k::.cells 21 236 [Vs 0,Vb 1,Vb 2,Va 17,Va 19,Vi 7,Va 24]::J2c)))))) (.ite (.and (.and (.eqI V10 N17) (.or V1 (.not V2))) (.lt (.rlen V20) N2i)) (.bindV (.need (.le (.add (.rlen V20) (.rlen (.snocR .nilR J2d))) N2h) (.bindV (.callM 214 [Vq [.ptr 21 0]] [.row 23 172 J2 (.snocR V20 J2d),J2e,.cells 21 236 [Vs 0,Vb 1,Vb 2,Va 17,Va 23,Vi 7,.nils],J27,J28,J29,J1s,J2a,J2g,J2b,Ju,Jw] [21] [17,23] [J2f] [.row 27 172 J2 V28,J1n,.row 32 31 J6 V33] (.tup []) 10 (.ret (.tup [(true,[Vs 24,Vb 25,Vb 26,Va 27,Va 29,Vi 31]),(false,[Va 32])]) [.row 27 172 J2 V28,J1n,.row 32 31 J6 V33,J2e,J2f,J28,J29,J1s,J2a,.cells 12 63 [Vs 24,Vb 25,Vb 26,Va 27,Va 29,Vi 31],J2b,Ju,Jw]))))) (.ret (.tup [(true,[Vs 0,Vb 1,Vb 2,Va 17,Va 19,Vi 7]),(false,[.nils])]) (.cells 21 236 [Vs 0,Vb 1,Vb 2,Va 17,Va 19,Vi 7,.nils]::J2c))))))
abbrev J2o:Tree:=.ret (Vq [.int .i64 N13]) []
abbrev N2p:X:=.I 4
abbrev J2q:Tree:=.ret (Vq [.int .i64 N2p]) []
abbrev J2r:Ent:=.cells 8 63 [Vs 0,Vb 1,Vb 2,Va 3,Va 5,Vi 7]
abbrev J2s:List Ent:=[J2r,Ju,Jw]
abbrev J2t:Tree:=.ret (Vq [.int .i64 N17]) []
abbrev V12:X:=.var 12
abbrev V14:X:=.var 14
abbrev J2w:Tree:=.ret (Vq [.int .i64 N2i]) []
abbrev V15:X:=.var 15
abbrev J2y:Tree:=.need (.le V10 (.rlen V4)) (.bindV (.callP (.B true) 279 [Vq [Va 14],Vq [.int .i64 (.rI V4 V10 0)]] (.rd 14 J2 (.dropR (.takeR V4 V10) N13)::.cells 11 172 [.int .i64 (.rI V4 V10 0),.str (.rS V4 V10 1),.str (.rS V4 V10 2)]::J2s) (Vq [Vb 15]) 1 (.ite V15 J2w (.need (.le N1a (.add V10 N17)) (.need (.le (.add V10 N17) N19) (.back 0 [V9,.add V10 N17]))))))
abbrev V13:X:=.var 13
abbrev J30:List X:=[N13,N13]
abbrev J31:Tree:=.ret (.tup [(false,[Vs 13]),(false,[.int .i64 N13])]) []
abbrev J32:List Kd:=[.str]
abbrev J33:List Kd:=[Vk,.str]
abbrev J34:List Ent:=[.cells 7 50 [Vi 0,Vi 1,Vi 2,Vs 3,Va 4,Vs 6],.rd 4 J33 V5]
abbrev J35:X:=.consS (.rS V5 V12 1) .nilL
abbrev N36:X:=.I 11
abbrev J37:List X:=[.B false,N13]
abbrev J38:Tree:=.ret (Vq [.bool (.B true)]) []
abbrev J39:Tree:=.need (.le N1a (.add V5 N17)) (.need (.le (.add V5 N17) N19) (.back 0 [V4,.add V5 N17]))
abbrev J3a:Tree:=.ret (Vq [.bool (.B false)]) []
abbrev J3b:List Ent:=[.rd 2 J32 V3]
abbrev N3c:X:=.I 200
abbrev J3d:Tree:=.ret (Vq [Vi 17]) []
abbrev J3e:X:=.catR .nilR V1
abbrev J3f:List Ent:=[.row 2 172 J2 .nilR,.rd 0 J2 V1]
abbrev J3g:Ent:=.cells 18 236 [Vs 28,Vb 29,Vb 30,Va 31,Va 33,Vi 35,Va 36]
abbrev J3h:Ent:=.cells 13 63 [Vs 0,Vb 1,Vb 2,Va 14,Va 16,Vi 7]
abbrev J3i:Ent:=.cells 12 63 [Vs 0,Vb 1,Vb 2,Va 14,Va 16,Vi 7]
abbrev J3j:Ent:=.row 10 31 J6 .nilR
abbrev V21:X:=.var 21
abbrev J3l:Ent:=.row 23 172 J2 V24
abbrev J3m:Ent:=.row 14 172 J2 V15
abbrev J3n:Ent:=.cells 9 63 [.str (.S []),.bool (.B false),.bool (.B false),.nils,.nils,.int .i64 N13]
abbrev J3o:X:=.consI .i64 N24 (.consB (.B true) (.consB (.B false) (.consB (.B false) (.consB (.B false) (.consI .i64 N17 (.consI .i64 (.rI V15 V19 0) (.consI .i64 N13 (.consI .i64 N13 (.consS (.S []) (.consS (.rS V15 V19 1) (.consS (.rS V15 V19 2) J2j)))))))))))
abbrev J3p:List Ent:=.cells 13 63 [.str (.S []),.bool (.B false),.bool (.B false),.nils,.nils,.int .i64 N13]::.cells 12 63 [Vs 0,Vb 1,Vb 2,Va 3,Va 5,Vi 7]::J2b::J3j::J3n::J2s
abbrev J3q:Tree:=.callM 268 [Vq [Va 3]] J3p [] [] [] [J3m] (Vq [Va 14]) 2 (.callM 268 [Vq [Va 5]] (J3m::J3p) [] [] [] [J12] (Vq [Va 16]) 2 (.bindN (.loop [N13,V0,.B true,V2,V16,V17,V7,.nilS,.nilR] (.ite (.lt V19 (.rlen V15)) (.need (.le N13 V19) (.bindN (.bindN (.bindV (.need (.le (.add (.rlen V27) (.rlen (.snocR .nilR J3o))) N2l) (.bindV (.need (.le N1a (.add V19 N17)) (.need (.le (.add V19 N17) N19) (.back 0 [.add V19 N17,V20,V21,V22,V23,V24,V25,V31,.snocR V27 J3o]))))))))) (.callM 214 [Vq [.ptr 18 0]] [.cells 18 236 [Vs 20,Vb 21,Vb 22,Va 14,Va 23,Vi 25,Va 26],J3l,J3m,J3h,J3i,J2b,J3j,J3n,J2r,Ju,Jw,.row 26 31 J6 V27] [18] [14,23,26] [J3g] [J1o,.row 33 172 J2 V34,.row 36 31 J6 V37] (.tup []) 10 (.ret (.tup [(true,[Vs 28,Vb 29,Vb 30,Va 31,Va 33,Vi 35]),(false,[Va 36])]) (J1o::.row 33 172 J2 V34::.row 36 31 J6 V37::J3g::J3h::J3i::J2b::J3j::.cells 9 63 [Vs 28,Vb 29,Vb 30,Va 31,Va 33,Vi 35]::J2s)))))))
abbrev J3r:Ent:=.row 13 172 J2 V14
abbrev J3s:Ent:=.cells 10 63 [Vs 0,Vb 1,Vb 2,Va 3,Va 5,Vi 7]
abbrev J3t:List Ent:=J2g::J2b::J3s::J3n::J2s
abbrev J3u:Tree:=.callM 268 [Vq [Va 3]] J3t [] [] [] [J3r] (Vq [Va 13]) 2 (.callM 268 [Vq [Va 5]] (J3r::J3t) [] [] [] [.row 15 172 J2 V16] (Vq [Va 15]) 2 (.bindN (.ite V2 (.ret (.cv (true,[Vs 0,.bool (.B false),Vb 2,.nils,.nils,Vi 7])) []) (.ret (.cv (true,[Vs 0,.bool (.B false),Vb 2,Va 13,Va 15,Vi 7])) (.cells 17 236 [Vs 0,.bool (.B false),Vb 2,Va 13,Va 15,Vi 7,.nils]::.row 15 172 J2 V16::J3r::.cells 12 63 [Vs 0,Vb 1,Vb 2,Va 13,Va 15,Vi 7]::.cells 11 63 [Vs 0,Vb 1,Vb 2,Va 13,Va 15,Vi 7]::J3s::.cells 9 63 [Vs 0,.bool (.B false),Vb 2,Va 13,Va 15,Vi 7]::J2s)))))
abbrev J3v:List Kd:=[Vk,.str,.str,Vk]
abbrev J3w:Ent:=.row 7 68 J3v V8
abbrev J3x:Ent:=.row 6 68 J3v .nilR
abbrev J3y:List Ent:=[.rd 0 J3v V1]
abbrev J3z:List Ent:=.row 9 68 J3v .nilR::J3w::J3x::.cells 5 9 [Vs 12]::.cells 4 3 [Vi 13]::J3y
abbrev J40:X:=.consI .i64 N13 .nilL
abbrev J41:X:=.consS (.S []) (.consS (.S []) J40)
abbrev J42:X:=.clrR V18 V16 (.consI .i64 N13 J41)
abbrev J43:Ent:=.cells 15 68 [.int .i64 (.rI V8 V11 0),.str (.rS V8 V11 1),.str (.rS V8 V11 2),.int .i64 (.rI V8 V11 3)]
abbrev J44:Ent:=.cells 14 68 [.int .i64 (.rI V8 V11 0),.str (.rS V8 V11 1),.str (.rS V8 V11 2),.int .i64 (.rI V8 V11 3)]
abbrev J45:List Kd:=[.str,.str,Vk]
abbrev J46:Ent:=.row 5 106 J45 V6
abbrev J47:Ent:=.row 4 106 J45 .nilR
abbrev J48:Ent:=.rd 0 J45 V1
abbrev J49:List Ent:=[.row 7 106 J45 .nilR,J46,J47,.cells 3 9 [Vs 10],J48]
abbrev J4a:Ent:=.cells 11 106 [.str (.rS V6 V9 0),.str (.rS V6 V9 1),.int .i64 (.rI V6 V9 2)]
abbrev J4b:Ent:=.rd 11 J2 V12
abbrev J4c:List Ent:=[.cells 17 63 [Vs 8,Vb 9,Vb 10,Va 11,Va 13,Vi 15],.cells 16 63 [Vs 0,Vb 1,Vb 2,Va 3,Va 5,Vi 7],Ju,Jw,J4b,.rd 13 J2 V14]
abbrev J4d:Tree:=.ret (.tup [(false,[.int .i64 N13]),(false,[.int .i64 (.I 5)])]) []
abbrev N4e:X:=.I 65535
abbrev V42:X:=.var 42
abbrev V41:X:=.var 41
abbrev J4h:Ent:=.cells 14 50 [Vi 0,Vi 1,Vi 2,Vs 3,Va 15,Vs 6]
abbrev J4i:Ent:=.cells 13 50 [Vi 0,Vi 1,Vi 2,Vs 3,Va 15,Vs 6]
abbrev J4j:List Ent:=[.cells 10 50 [Vi 0,Vi 1,Vi 2,Vs 3,Va 4,Vs 6],.rd 4 J33 V5,.rd 8 J32 V9]
abbrev J4k:Ent:=.cells 12 50 [.int .i64 N13,.int .i64 N13,.int .i64 N13,.str (.S []),.nils,.str (.S [])]
abbrev J4l:X:=.consI .i64 V33 (.consS (.rS V9 V40 0) .nilL)
abbrev J4m:Tree:=.jump 0 [N13,N13,N13,N13,N13,N13,N13,N13,N13,N13,V15,V21,V16]
abbrev J4n:X:=.clrR V25 V23 (.consI .i64 N13 J1l)
abbrev J4o:List X:=[V23,.add V24 N17,V25,V26]
abbrev J4p:List Ent:=.row 4 68 J3v .nilR::.row 3 68 J3v .nilR::J3y
abbrev N4q:X:=.I 16777215
abbrev J4r:X:=.setR V11 V10 (.consI .i64 (.rI V11 V10 0) (.consS (.rS V11 V10 1) (.consS (.rS V11 V10 2) (.consI .i64 (.bits .and .i64 (.add (.rI V11 V10 3) N17) N4q) .nilL))))
abbrev J4s:X:=.consI .i64 (.rI J4r V10 0) (.consS (.rS J4r V10 1) (.consS (.rS J4r V10 2) (.consI .i64 (.rI J4r V10 3) .nilL)))
abbrev N4t:X:=.I 2932031007402
abbrev J4u:Tree:=.need (.le N1a (.add V3 N17)) (.need (.le (.add V3 N17) N19) (.back 0 [V2,.add V3 N17]))
abbrev J4v:X:=.consI .i64 N17 .nilL
abbrev J4w:X:=.consI .i64 V2 (.consS V3 (.consS V4 (.consI .i64 V5 .nilL)))
abbrev J4x:X:=.snocR .nilR J4w
abbrev J4y:List Ent:=.row 7 68 J3v .nilR::.cells 6 68 [Vi 2,Vs 3,Vs 4,Vi 5]::J3y
abbrev J4z:List Ent:=.row 11 68 J3v (.snocR V10 J4w)::.row 8 68 J3v J4x::J4y
abbrev J50:List Ent:=.row 11 68 J3v (.snocR V9 J4w)::.row 10 68 J3v J4x::J4y
abbrev J51:Tree:=.callM 229 [Vq [Va 0],Vq [Vi 2],Vq [Vs 3]] J4y [] [] [] [.row 8 68 J3v V9] (Vq [Va 8]) 2 (.bindV (.need (.le (.add (.rlen V9) (.rlen J4x)) N4t) (.bindV (.ite (.lt (.I 12) (.rlen (.snocR V9 J4w))) (.letV .nilS (.ret (.tup [(false,[Va 12]),(false,[.int .i64 N21])]) (.row 12 68 J3v .nilR::J50))) (.ret (.tup [(false,[Va 11]),(false,[.int .i64 N13])]) J50)))))
abbrev J52:X:=.dropR (.takeR V1 V3) N13
abbrev J53:Tree:=.ret (Vq [Vb 6]) []
abbrev J54:List Ent:=[.row 4 172 J2 V5,.row 6 172 J2 V7,.row 9 31 J6 V10,.cells 0 236 [Vs 1,Vb 2,Vb 3,Va 4,Va 6,Vi 8,Va 9]]
abbrev J55:X:=.consI .i64 N24 (.consB (.B false) (.consB (.B false) (.consB (.B false) (.consB (.B false) (.consI .i64 N17 (.consI .i64 V12 (.consI .i64 N13 (.consI .i64 N13 (.consS (.S []) (.consS (.rS V7 N13 1) (.consS (.rS V7 N13 2) J2j)))))))))))
abbrev J56:Ent:=.row 18 31 J6 (.snocR .nilR J55)
abbrev J57:Ent:=.cells 17 172 [Vi 12,.str (.rS V7 N13 1),.str (.rS V7 N13 2)]
abbrev J58:X:=.consI .i64 V12 (.consS (.rS V7 N13 1) (.consS (.rS V7 N13 2) .nilL))
abbrev J59:Ent:=.row 15 172 J2 (.snocR .nilR J58)
abbrev J5a:Ent:=.cells 11 172 [Vi 12,.str (.rS V7 N13 1),.str (.rS V7 N13 2)]
abbrev J5b:List Ent:=[.row 28 31 J6 V29,J56,J57,J3l,J59,.rd 25 J2 V26,J5a,.rd 6 J2 V7,.cells 0 236 [Vs 20,Vb 21,Vb 22,Va 23,Va 25,Vi 27,Va 28]]
abbrev J5c:X:=.consI .i64 V31 (.consS (.rS V26 N13 1) (.consS (.rS V26 N13 2) .nilL))
abbrev J5d:X:=.consI .i64 N24 (.consB (.B false) (.consB (.B false) (.consB (.B false) (.consB (.B false) (.consI .i64 N17 (.consI .i64 V31 (.consI .i64 N13 (.consI .i64 N13 (.consS (.S []) (.consS (.rS V26 N13 1) (.consS (.rS V26 N13 2) J2j)))))))))))
abbrev J5e:List Kd:=[.str,Vk]
abbrev J5f:List Ent:=[.rd 12 J5e V13,.rd 14 J1y V15]
abbrev J5g:List Ent:=.cells 16 31 [Vi 0,Vb 1,Vb 2,Vb 3,Vb 4,Vi 5,Vi 6,Vi 7,Vi 8,Vs 9,Vs 10,Vs 11,Va 12,Va 14]::J5f
abbrev J5h:Tree:=.callP (.B true) 203 [.cv (true,[Vi 0,Vb 1,Vb 2,Vb 3,Vb 4,Vi 5,Vi 6,Vi 7,Vi 8,Vs 9,Vs 10,Vs 11,Va 12,Va 14])] J5g (Vq [Vi 17]) 1 J3d
abbrev J5i:List Ent:=[J47,J48]
abbrev J5j:List Ent:=J46::J5i
abbrev J5k:X:=.setR V6 V7 (.consS (.rS V6 V7 0) (.consS V3 (.consI .i64 (.rI V6 V7 2) .nilL)))
abbrev J5l:Tree:=.need (.le N1a (.add V19 N17)) (.need (.le (.add V19 N17) N19) (.back 0 [V18,.add V19 N17]))
abbrev N5m:X:=.I 128
abbrev J5n:Tree:=.ret (.cv (true,[Vi 0,Vb 1,Vb 2,Vb 3,Vb 4,Vi 5,.int .i64 N13,Vi 7,Vi 8,Vs 9,Vs 10,Vs 11,.nils,Va 14])) (.cells 17 31 [Vi 0,Vb 1,Vb 2,Vb 3,Vb 4,Vi 5,.int .i64 N13,Vi 7,Vi 8,Vs 9,Vs 10,Vs 11,.nils,Va 14]::.cells 16 31 [Vi 0,Vb 1,Vb 2,Vb 3,Vb 4,Vi 5,.int .i64 N13,Vi 7,Vi 8,Vs 9,Vs 10,Vs 11,.nils,Va 14]::J5f)
abbrev J5o:Tree:=.ret (.cv (true,[Vi 0,Vb 1,Vb 2,Vb 3,Vb 4,Vi 5,.int .i64 N13,Vi 7,Vi 8,Vs 9,Vs 10,Vs 11,Va 12,Va 14])) (.cells 17 31 [Vi 0,Vb 1,Vb 2,Vb 3,Vb 4,Vi 5,.int .i64 N13,Vi 7,Vi 8,Vs 9,Vs 10,Vs 11,Va 12,Va 14]::.cells 16 31 [Vi 0,Vb 1,Vb 2,Vb 3,Vb 4,Vi 5,.int .i64 N13,Vi 7,Vi 8,Vs 9,Vs 10,Vs 11,Va 12,Va 14]::J5f)
abbrev J5p:Tree:=.ret (Vq [.int .i64 (.I 7)]) []
abbrev J5q:X:=.dropR (.takeR V1 (.rlen V1)) N17
abbrev J5r:X:=.dropR (.takeR V3 (.rlen V3)) N17
abbrev J5s:List Ent:=.rd 30 J5e V31::.rd 32 J1y V33::J5g
abbrev J5t:Tree:=.callP (.B true) 125 [.cv (true,[Vi 0,Vb 1,Vb 2,Vb 3,Vb 4,Vi 5,Vi 6,Vi 7,Vi 8,Vs 9,Vs 10,Vs 11,Va 12,Va 14])] J5s (Vq [Vi 36]) 1 (.ret (Vq [Vi 36]) [])
abbrev J5u:Tree:=.callP (.B true) 125 [.cv (true,[Vi 0,Vb 1,Vb 2,Vb 3,Vb 4,Vi 5,Vi 6,Vi 7,Vi 8,Vs 9,Vs 10,Vs 11,Va 12,Va 14])] J5s (Vq [Vi 37]) 1 (.ret (Vq [Vi 37]) [])
abbrev J5v:Ent:=.cells 9 90 [Vs 2,Vs 3,Vi 4]
abbrev J5w:List Ent:=[.row 6 90 J45 .nilR,.cells 5 90 [Vs 2,Vs 3,Vi 4],J48]
abbrev J5x:X:=.consS V2 (.consS V3 (.consI .i64 V4 .nilL))
abbrev J5y:List Ent:=J5v::.row 7 90 J45 V8::J5w
abbrev J5z:Ent:=.row 14 90 J45 V15
abbrev J60:List Ent:=[.row 2 127 J33 .nilR,.rd 0 J33 V1]
abbrev J61:X:=.setR V9 V7 (.consI .u8 (.rI V9 V8 0) .nilL)
abbrev J62:X:=.consI .u8 (.wrap .u8 V3) .nilL
abbrev J63:Ent:=.st 38
abbrev V46:X:=.var 46
abbrev J65:Ent:=.row 45 68 J3v V46
abbrev J66:Ent:=.row 34 68 J3v V35
abbrev J67:Ent:=.st 20
abbrev J68:Ent:=.rd 16 J5e V17
abbrev J69:Ent:=.rd 39 J45 V40
abbrev J6a:Ent:=.rd 41 J45 V42
abbrev V44:X:=.var 44
abbrev J6c:List Kd:=[.str,.bool,.bool,.oth,.oth,Vk]
abbrev J6d:Ent:=.row 43 63 J6c V44
abbrev J6e:Ent:=.row 27 68 J3v V28
abbrev V49:X:=.var 49
abbrev J6g:List Kd:=[.str,Vk,.bool,.bool,.bool,.bool,Vk,Vk,Vk,Vk,.str,.str,.str,.oth,.oth,Vk,Vk,Vk,Vk,.str,.oth,.str]
abbrev J6h:Ent:=.row 48 57 J6g V49
abbrev J6i:Ent:=.st 12
abbrev V43:X:=.var 43
abbrev V45:X:=.var 45
abbrev V47:X:=.var 47
abbrev V48:X:=.var 48
abbrev J6n:Ent:=.rd 3 J45 V4
abbrev V67:X:=.var 67
abbrev V65:X:=.var 65
abbrev V66:X:=.var 66
abbrev J6r:Ent:=.row 65 57 J6g V66
abbrev V61:X:=.var 61
abbrev J6t:Ent:=.cells 51 50 [.int .i64 N17,.int .i64 (.I 69),Vi 47,.str (.rS V35 V37 1),.nils,Vs 14]
abbrev J6u:Ent:=.cells 50 68 [.int .i64 (.rI V35 V37 0),.str (.rS V35 V37 1),.str (.rS V35 V37 2),.int .i64 (.rI V35 V37 3)]
abbrev V56:X:=.var 56
abbrev V57:X:=.var 57
abbrev V58:X:=.var 58
abbrev V59:X:=.var 59
abbrev V60:X:=.var 60
abbrev V62:X:=.var 62
abbrev J71:X:=.consS (.S []) (.consI .i64 N13 (.consB (.B false) (.consB (.B false) (.consB (.B false) (.consB (.B false) (.consI .i64 N13 (.consI .i64 N13 (.consI .i64 N13 (.consI .i64 N13 (.consS (.S []) (.consS (.S []) (.consS (.S []) (.consV .nilS (.consV .nilS (.consI .i64 (.rI V35 V37 0) (.consI .i64 V56 (.consI .i64 V57 (.consI .i64 V58 (.consS V59 (.consV V60 (.consS V62 .nilL)))))))))))))))))))))
abbrev N72:X:=.I 567489872400
abbrev V54:X:=.var 54
abbrev V55:X:=.var 55
abbrev J75:Tree:=.bindV (.callM 111 [.cv (true,[.int .i64 N17,.int .i64 (.I 69),Vi 47,.str (.rS V35 V37 1),.nils,Vs 14]),Vq [.int .i64 N2i],Vq [Va 55]] [.row 55 9 J32 (.snocR .nilR (.consS V54 .nilL)),.cells 53 50 [.int .i64 N13,.int .i64 N13,.int .i64 N13,.str (.S []),.nils,.str (.S [])],.cells 52 50 [.int .i64 N17,.int .i64 (.I 69),Vi 47,.str (.rS V35 V37 1),.nils,Vs 14],J6t,J6u,J63,J65,J66,J67,J68,J69,J6a,J6d,J6e,J6h,J6i,.cells 0 165 [Va 39,Va 41,Va 43,Va 45,.int .i64 (.bits .and .i64 (.add V47 N17) N4e),Va 48],J6n] [] [] [] [.rd 60 J33 V61] (.cv (true,[Vi 56,Vi 57,Vi 58,Vs 59,Va 60,Vs 62])) 7 (.bindN (.bindV (.need (.le (.add (.rlen V49) (.rlen (.snocR .nilR J71))) N72) (.bindV (.jump 2 [N13,N13,N13,N13,V56,V57,V58,V59,V60,V61,V62,N13,N13,V65,.snocR V49 J71]))))))
abbrev J76:Tree:=.bindN (.bindN (.both (.callP (.B true) 243 [Vq [.int .i64 (.rI V35 V37 3)]] [] (Vq [Vs 54]) 1 J75) (.callP (.B true) 243 [Vq [.int .i64 (.rI V35 V37 3)]] [] (Vq [Vs 54]) 1 (.both J75 J75))))
abbrev V51:X:=.var 51
abbrev J78:Ent:=.rd 21 J45 V22
abbrev J79:Ent:=.rd 23 J45 V24
abbrev J7a:Ent:=.row 25 63 J6c V26
abbrev J7b:List Ent:=[J6e,.row 30 57 J6g V31,J6i,.cells 0 165 [Va 21,Va 23,Va 25,Va 27,Vi 29,Va 30],J6n]
abbrev J7c:List Ent:=J67::J68::J78::J79::J7a::J7b
abbrev V50:X:=.var 50
abbrev V52:X:=.var 52
abbrev V53:X:=.var 53
abbrev J7g:Tree:=.back 0 [.add V19 N17,V58,V46,V47,V48,V49,V50,V51,V52,V53,V54,V55,V56]
abbrev J7h:Ent:=.rd 46 J45 V47
abbrev J7i:Ent:=.rd 48 J45 V49
abbrev J7j:Ent:=.row 50 63 J6c V51
abbrev J7k:Ent:=.row 52 68 J3v V53
abbrev J7l:Ent:=.row 55 57 J6g V56
abbrev J7m:Ent:=.rd 39 J2 V40
abbrev J7n:Ent:=.rd 41 J2 V42
abbrev J7o:Ent:=.rd 44 J6 V45
abbrev J7p:Ent:=.cells 35 63 [Vs 36,Vb 37,Vb 38,Va 39,Va 41,Vi 43]
abbrev J7q:Ent:=.cells 32 71 [.str (.rS V17 V19 0),.int .i64 (.rI V17 V19 1)]
abbrev J7r:Ent:=.cells 0 165 [Va 46,Va 48,Va 50,Va 52,Vi 54,Va 55]
abbrev J7s:List Ent:=[J7q,J67,J68,J78,J79,J6i,J7r,J6n]
abbrev J7t:List Ent:=[J7h,J7i,J7j,J7k,J7l,.st 57]
abbrev J7u:Ent:=.cells 45 63 [Vs 35,Vb 36,Vb 37,Va 38,Va 40,Vi 42]
abbrev J7v:Ent:=.rd 38 J2 V39
abbrev J7w:Ent:=.rd 40 J2 V41
abbrev J7x:Ent:=.rd 43 J6 V44
abbrev J7y:List X:=[V1,V2,V3,V4,V5,V6,V7,V8,V9,V10,V11]
abbrev J7z:Ent:=.rd 1 J45 V2
abbrev J80:Ent:=.row 5 63 J6c V6
abbrev J81:Ent:=.row 10 57 J6g V11
abbrev J82:Ent:=.cells 0 165 [Va 1,Va 3,Va 5,Va 7,Vi 9,Va 10]
abbrev J83:List Ent:=[J7z,J6n,J80,J3w,J81,J6i,J82]
abbrev J84:Ent:=.cells 31 50 [Vi 21,.int .i64 (.I 69),Vi 23,Vs 24,Va 25,.str (.rS V2 V32 1)]
abbrev J85:Ent:=.cells 30 50 [Vi 21,.int .i64 (.I 69),Vi 23,Vs 24,Va 25,.str (.rS V2 V32 1)]
abbrev J86:Ent:=.cells 29 50 [Vi 14,Vi 15,Vi 16,Vs 17,Va 18,Vs 20]
abbrev J87:List Ent:=[.rd 18 J33 V19,.rd 25 J33 V26]
abbrev J88:List Ent:=J86::J7z::J6n::J80::J3w::J81::J6i::J82::J87
abbrev J89:Ent:=.row 36 68 J3v V37
abbrev J8a:List Ent:=J86::J7z::J6n::J80::J3w::J81::J6i::.cells 0 165 [Va 1,Va 3,Va 5,Va 36,Vi 9,Va 10]::J87
abbrev J8b:Ent:=.cells 31 50 [.int .i64 N13,.int .i64 N13,.int .i64 N13,.str (.S []),.nils,.str (.S [])]
abbrev J8c:List Ent:=J8b::J85::J88
abbrev J8d:Ent:=.row 42 9 J32 (.snocR .nilR (.consS V41 .nilL))
abbrev J8e:Ent:=.cells 39 50 [Vi 21,.int .i64 (.I 69),Vi 23,Vs 24,Va 25,.str (.rS V2 V32 1)]
abbrev J8f:Tree:=.bindV (.callM 111 [.cv (true,[Vi 21,.int .i64 (.I 69),Vi 23,Vs 24,Va 25,.str (.rS V2 V32 1)]),Vq [.int .i64 N2i],Vq [Va 42]] (J8d::.cells 40 50 [.int .i64 N13,.int .i64 N13,.int .i64 N13,.str (.S []),.nils,.str (.S [])]::J8e::J89::J8b::J85::J8a) [] [] [] [.rd 47 J33 V48] (.cv (true,[Vi 43,Vi 44,Vi 45,Vs 46,Va 47,Vs 49])) 7 (.ret (.cv (true,[Vi 43,Vi 44,Vi 45,Vs 46,Va 47,Vs 49])) (.rd 47 J33 V48::J8d::.cells 40 50 [Vi 43,Vi 44,Vi 45,Vs 46,Va 47,Vs 49]::J8e::J89::.cells 31 50 [Vi 43,Vi 44,Vi 45,Vs 46,Va 47,Vs 49]::.cells 30 50 [Vi 43,Vi 44,Vi 45,Vs 46,Va 47,Vs 49]::J8a)))
abbrev J8g:Tree:=.jump 0 []
abbrev V86:X:=.var 86
abbrev J8i:Ent:=.rd 85 J45 V86
abbrev V88:X:=.var 88
abbrev V90:X:=.var 90
abbrev V92:X:=.var 92
abbrev J8m:Ent:=.row 94 57 J6g (.var 95)
abbrev V74:X:=.var 74
abbrev J8o:Ent:=.rd 73 J45 V74
abbrev V76:X:=.var 76
abbrev J8q:Ent:=.rd 75 J45 V76
abbrev J8r:X:=.consS (.S []) (.consS (.S []) (.consS (.S []) J2j))
abbrev J8s:X:=.consI .i64 N13 (.consI .i64 N13 J8r)
abbrev J8t:X:=.consI .i64 N13 (.consI .i64 N13 J8s)
abbrev J8u:Ent:=.row 72 31 J6 (.snocR .nilR (.consI .i64 N21 (.consB (.B false) (.consB (.B false) (.consB (.B false) (.consB (.and (.not (.rB V37 V31 2)) (.not V17)) J8t))))))
abbrev V63:X:=.var 63
abbrev V64:X:=.var 64
abbrev V68:X:=.var 68
abbrev J8y:Ent:=.cells 71 63 [Vs 61,Vb 62,Vb 63,Va 64,Va 66,Vi 68]
abbrev J8z:Ent:=.rd 64 J2 V65
abbrev J90:Ent:=.rd 66 J2 V67
abbrev V70:X:=.var 70
abbrev J92:Ent:=.rd 69 J6 V70
abbrev J93:Ent:=.rd 50 J45 V56
abbrev J94:Ent:=.rd 51 J45 V57
abbrev J95:Ent:=.cells 30 31 [Vi 14,Vb 15,Vb 16,Vb 17,Vb 18,Vi 19,Vi 20,Vi 21,Vi 22,Vs 23,Vs 24,Vs 25,Va 26,Va 28]
abbrev V85:X:=.var 85
abbrev V87:X:=.var 87
abbrev V89:X:=.var 89
abbrev V91:X:=.var 91
abbrev V93:X:=.var 93
abbrev J9b:Ent:=.cells 0 165 [Va 85,Va 87,Va 89,Va 91,Vi 93,Va 94]
abbrev J9c:Ent:=.rd 26 J5e V27
abbrev J9d:Ent:=.rd 28 J1y V29
abbrev J9e:List Ent:=[J9c,J9d]
abbrev V78:X:=.var 78
abbrev V80:X:=.var 80
abbrev V83:X:=.var 83
abbrev V73:X:=.var 73
abbrev V75:X:=.var 75
abbrev V77:X:=.var 77
abbrev V79:X:=.var 79
abbrev V81:X:=.var 81
abbrev V82:X:=.var 82
abbrev J9o:Ent:=.cells 0 165 [Va 73,Va 75,Va 77,Va 79,Vi 81,Va 82]
abbrev V69:X:=.var 69
abbrev J9q:X:=.setR V58 V31 (.consS (.rS V58 V31 0) (.consB (.rB V58 V31 1) (.consB V17 (.consV (.rV V58 V31 3) (.consV (.rV V58 V31 4) (.consI .i64 (.rI V58 V31 5) .nilL))))))
abbrev J9r:List Ent:=.row 53 68 J3v V59::.row 55 57 J6g V60::J95::J7z::J6n::J6i::.cells 0 165 [Va 50,Va 51,Va 52,Va 53,Vi 54,Va 55]::J9e
abbrev V72:X:=.var 72
abbrev J9t:Ent:=.rd 38 J45 V39
abbrev J9u:Ent:=.rd 40 J45 V41
abbrev J9v:Ent:=.row 42 63 J6c V43
abbrev J9w:Ent:=.row 44 68 J3v V45
abbrev J9x:Ent:=.row 47 57 J6g V48
abbrev J9y:List Ent:=[J9t,J9u,J9v,J9w,J9x,.st 49]
abbrev J9z:Ent:=.cells 0 165 [Va 38,Va 40,Va 42,Va 44,Vi 46,Va 47]
abbrev Ja0:Ent:=.row 34 63 J6c V35
abbrev Ja1:List Ent:=J3w::J81::J6i::J82::J9e
abbrev Ja2:List Ent:=J95::J7z::J6n::J80::Ja1
abbrev Ja3:Ent:=.rd 34 J45 V35
abbrev Ja4:Ent:=.rd 36 J45 V37
abbrev Ja5:Ent:=.row 38 63 J6c V39
abbrev Ja6:Ent:=.row 40 68 J3v V41
abbrev Ja7:Ent:=.row 43 57 J6g V44
abbrev Ja8:Ent:=.row 33 31 J6 (.snocR .nilR (.consI .i64 N21 (.consB (.B false) (.consB (.B false) (.consB (.B false) (.consB (.B false) (.consI .i64 N13 (.consI .i64 N13 (.consI .i64 N13 (.consI .i64 N24 J8r))))))))))
abbrev Ja9:Ent:=.cells 0 165 [Va 34,Va 36,Va 38,Va 40,Vi 42,Va 43]
abbrev Jaa:List Ent:=J95::J7z::J6n::J6i::Ja9::J9e
abbrev Jab:List Ent:=[Ja3,Ja4,Ja5,Ja6,Ja7,.st 45]
abbrev Jac:Tree:=.ret (.tup []) Ja2
abbrev Jad:Ent:=.rd 19 J2 V20
abbrev Jae:Ent:=.rd 21 J2 V22
abbrev Jaf:List Ent:=[Jad,Jae,J7z,J6n,.row 5 63 J6c V24,J3w,J81,J6i,J82]
abbrev Jag:Ent:=.rd 27 J45 V28
abbrev Jah:Ent:=.rd 29 J45 V30
abbrev Jai:Ent:=.row 31 63 J6c V32
abbrev Jaj:Ent:=.row 33 68 J3v V34
abbrev Jak:List Ent:=[.cells 0 165 [Va 27,Va 29,Va 31,Va 33,Vi 35,Va 36]]
abbrev Jal:Tree:=.callM 133 [.cv (true,[.str (.rS V6 V14 0),.bool (.rB V6 V14 1),.bool (.rB V6 V14 2),.val (.rV V6 V14 3),.val (.rV V6 V14 4),.int .i64 (.rI V6 V14 5)])] J83 [] [] [] [Jad,Jae] (.cv (true,[Vs 16,Vb 17,Vb 18,Va 19,Va 21,Vi 23])) 8 (.jump 0 [V16,V17,V18,V19,V20,V21,V22,V23,.setR V6 V14 (.consS V16 (.consB V17 (.consB V18 (.consV V19 (.consV V21 (.consI .i64 V23 .nilL))))))])
abbrev Jam:List Ent:=[J7z,J6n,.rd 5 J6c V6,.st 7,.rd 8 J3v V9,.cells 0 27 [Va 1,Va 3,Va 5,Va 8,Vi 10]]
abbrev Jan:Tree:=.ret (Vq [Vi 11]) Jam
abbrev Jao:Ent:=.st 74
abbrev V71:X:=.var 71
abbrev Jaq:X:=.consV .nilS J1l
abbrev Jar:X:=.consS (.S []) (.consI .i64 N13 (.consB (.B false) (.consB (.B false) (.consB (.B false) (.consB (.B false) (.consI .i64 N13 (.consI .i64 N13 (.consI .i64 N13 (.consI .i64 N13 (.consS (.S []) (.consS (.S []) (.consS (.S []) (.consV .nilS (.consV .nilS (.consI .i64 V13 (.consI .i64 V23 (.consI .i64 (.I 133) (.consI .i64 V24 (.consS V17 Jaq)))))))))))))))))))
abbrev Jas:Ent:=.row 27 57 J6g (.snocR .nilR Jar)
abbrev Jat:Ent:=.cells 26 50 [Vi 23,.int .i64 (.I 133),Vi 24,Vs 17,.nils,.str (.S [])]
abbrev Jau:Ent:=.cells 21 50 [Vi 14,Vi 15,Vi 16,Vs 17,Va 18,Vs 20]
abbrev Jav:List Ent:=[.rd 18 J33 V19]
abbrev Jaw:List X:=[V24,V17,.nilS,.S [],V1,V3,V5,V7,V25,V28,.nilR,V2,V4,V6,V8,.snocR V11 Jar,V31]
abbrev Jax:Ent:=.row 28 57 J6g (.snocR V11 Jar)
abbrev Jay:List Ent:=Jau::J7z::J6n::J80::J3w::J6i::.cells 0 165 [Va 1,Va 3,Va 5,Va 7,Vi 25,Va 28]::Jav
abbrev Jaz:List Ent:=Jax::Jas::Jat::.cells 22 50 [Vi 23,.int .i64 (.I 133),Vi 24,Vs 17,.nils,.str (.S [])]::Jay
abbrev Jb0:List X:=[V24,V17,.nilS,.S [],V32,V34,V36,V38,V40,V41,.nilR,V33,V35,V37,V39,V42,V44]
abbrev Jb1:Ent:=.rd 32 J45 V33
abbrev Jb2:Ent:=.row 36 63 J6c V37
abbrev Jb3:Ent:=.row 38 68 J3v V39
abbrev Jb4:Ent:=.row 41 57 J6g V42
abbrev Jb5:Ent:=.st 43
abbrev Jb6:Ent:=.cells 22 50 [Vi 23,.int .i64 (.I 66),Vi 24,Vs 17,.nils,.str (.S [])]
abbrev Jb7:Ent:=.cells 0 165 [Va 32,Va 34,Va 36,Va 38,Vi 40,Va 41]
abbrev Jb8:List Ent:=Jau::J7z::J6n::J6i::Jb7::Jav
abbrev Jb9:List Ent:=[Jb1,Ja3,Jb2,Jb3,Jb4,Jb5]
abbrev Jba:Ent:=.cells 22 50 [Vi 23,.int .i64 N5m,Vi 24,Vs 17,.nils,.str (.S [])]
abbrev Jbb:List Ent:=Jax::Jas::Jat::Jba::Jay
abbrev Jbc:Tree:=.pack Jbb (.jump 0 (N13::N13::N13::N13::N13::N13::N13::N13::N13::N13::N13::N13::N13::N13::N13::N13::N13::N13::N13::N13::N13::N13::N13::N13::N13::V23::N5m::Jaw))
abbrev Jbd:Ent:=.rd 44 J45 V45
abbrev Jbe:Ent:=.row 48 63 J6c V49
abbrev Jbf:Ent:=.row 50 68 J3v V51
abbrev Jbg:Ent:=.row 53 57 J6g V54
abbrev Jbh:Ent:=.cells 22 50 [Vi 23,.int .i64 (.I 68),Vi 24,Vs 17,.nils,.str (.S [])]
abbrev Jbi:Ent:=.cells 0 165 [Va 44,Va 46,Va 48,Va 50,Vi 52,Va 53]
abbrev Jbj:List Ent:=[Jbd,J7h,Jbe,Jbf,Jbg,.st 55]
abbrev Jbk:Ent:=.st 21
abbrev Jbl:Ent:=.cells 18 27 [Va 22,Va 24,Va 26,Va 28,Vi 30]
abbrev Jbm:Ent:=.row 28 68 J3v V29
abbrev Jbn:Ent:=.row 24 90 J45 V25
abbrev Jbo:Ent:=.row 22 106 J45 V23
abbrev Jbp:Ent:=.cells 10 27 [Va 0,Va 2,Va 4,Va 7,Vi 9]
abbrev Jbq:Ent:=.rd 2 J45 V3
abbrev Jbr:Ent:=.rd 4 J6c V5
abbrev Jbs:Ent:=.rd 7 J3v V8
abbrev Jbt:Ent:=.row 26 63 J6c V27
abbrev Jbu:List Ent:=[Jbp,J48,Jbq,Jbr,.st 6,Jbs,Jbt]
abbrev Jbv:Ent:=.rd 36 J2 V37
abbrev Jbw:Ent:=.cells 31 63 [.str (.rS V5 V20 0),.bool (.rB V5 V20 1),.bool (.rB V5 V20 2),.val (.rV V5 V20 3),.val (.rV V5 V20 4),.int .i64 (.rI V5 V20 5)]
abbrev Jbx:Ent:=.cells 11 27 [.nils,.nils,.nils,.nils,.int .i64 N13]
abbrev Jby:List Ent:=[Jbx,Jbp,J48,Jbq,Jbr,.st 6,Jbs]
abbrev Jbz:X:=.consS (.rS V5 V20 0) (.consB (.rB V5 V20 1) (.consB (.rB V5 V20 2) (.consV V34 (.consV V36 (.consI .i64 (.rI V5 V20 5) .nilL)))))
abbrev Jc0:Tree:=.bindV (.need (.le (.add (.rlen V27) (.rlen (.snocR .nilR Jbz))) (.I 1759218604441)) (.bindV (.jump 1 [N13,N13,V34,V35,V36,V37,V38,V39,.snocR V27 Jbz,.snocR .nilR Jbz])))
abbrev Jc1:Ent:=.cells 33 63 [.str (.S []),.bool (.B false),.bool (.B false),.nils,.nils,.int .i64 N13]
abbrev Jc2:List Ent:=Jc1::.cells 32 63 [.str (.rS V5 V20 0),.bool (.rB V5 V20 1),.bool (.rB V5 V20 2),.val (.rV V5 V20 3),.val (.rV V5 V20 4),.int .i64 (.rI V5 V20 5)]::Jbw::Jbk::Jbl::Jbm::Jbn::Jbo::Jbx::Jbu
abbrev Jc3:Tree:=.callM 268 [Vq [.val (.rV V5 V20 3)]] Jc2 [] [] [] [J1c] (Vq [Va 34]) 2 (.callM 268 [Vq [.val (.rV V5 V20 4)]] (J1c::Jc2) [] [] [] [J1e] (Vq [Va 36]) 2 (.both Jc0 Jc0))
abbrev Jc4:Tree:=.callM 268 [Vq [.val (.rV V5 V20 3)]] Jc2 [] [] [] [J1c] (Vq [Va 34]) 2 (.callM 268 [Vq [.val (.rV V5 V20 4)]] (J1c::Jc2) [] [] [] [J1e] (Vq [Va 36]) 2 Jc0)
abbrev Jc5:List Ent:=.row 12 106 J45 V13::Jby
abbrev Jc6:List Ent:=[.row 17 68 J3v V18]
abbrev Jc7:Ent:=.row 15 90 J45 V16
abbrev Jc8:List Ent:=.cells 12 27 [.nils,.nils,.nils,.nils,.int .i64 N13]::Jby
abbrev Jc9:List Ent:=.cells 14 27 [.nils,.nils,.nils,.nils,.int .i64 N13]::Jc5
abbrev Jca:Ent:=.rd 22 J45 V23
abbrev Jcb:Ent:=.rd 24 J45 V25
abbrev Jcc:Ent:=.rd 16 J45 V17
abbrev Jcd:List Ent:=[J7z,Jcb,Jbt,J3w,.row 29 57 J6g V30,J6i,.cells 0 165 [Va 22,Va 24,Va 26,Va 7,Vi 28,Va 29],Jcc]
abbrev Jce:List Ent:=.row 31 68 J3v .nilR::Jbk::Jca::.cells 15 9 [Vs 34]::Jcd
abbrev Jcf:X:=.clrR V39 V36 (.consI .i64 N13 J41)
abbrev Jcg:Ent:=.cells 35 68 [.int .i64 (.rI V8 V33 0),.str (.rS V8 V33 1),.str (.rS V8 V33 2),.int .i64 (.rI V8 V33 3)]
abbrev Jch:Ent:=.cells 31 68 [.int .i64 (.rI V8 V20 0),.str (.rS V8 V20 1),.str (.rS V8 V20 2),.int .i64 (.rI V8 V20 3)]
abbrev Jci:Ent:=.cells 15 9 [Vs 13]
abbrev Jcj:X:=.consS (.S []) (.consI .i64 N13 (.consB (.B false) (.consB (.B false) (.consB (.B false) (.consB (.B false) (.consI .i64 N13 (.consI .i64 N13 (.consI .i64 N13 (.consI .i64 N13 (.consS (.S []) (.consS (.S []) (.consS (.S []) (.consV .nilS (.consV .nilS (.consI .i64 (.rI V8 V20 0) (.consI .i64 N17 (.consI .i64 (.I 132) (.consI .i64 V28 (.consS (.rS V8 V20 1) Jaq)))))))))))))))))))
abbrev Jck:Tree:=.bindN (.bindV (.need (.le (.add (.rlen V30) (.rlen (.snocR .nilR Jcj))) N72) (.bindV (.jump 1 [N13,N13,V34]))))
abbrev Jcl:Tree:=.need (.le N1a (.add V28 N17)) (.need (.le (.add V28 N17) N19) Jck)
abbrev Jcm:List Ent:=[Jcc,Jci,J7z,J6n,J80,J3w,J81,J6i,.cells 0 165 [Va 16,Va 3,Va 5,Va 7,Vi 9,Va 10]]
abbrev Jcn:Ent:=.rd 30 J45 V31
abbrev Jco:Ent:=.cells 29 165 [Va 30,Va 32,Va 34,Va 36,Vi 38,Va 39]
abbrev Jcp:Ent:=.rd 19 J45 V20
abbrev Jcq:Ent:=.cells 16 27 [Va 0,Va 2,Va 4,Va 7,Vi 9]
abbrev Jcr:List Ent:=[.cells 12 9 [Vs 10],.cells 11 27 [Va 0,Va 2,Va 4,Va 7,Vi 9],J48,Jbq,Jbr,.st 6,Jbs]
abbrev Jcs:List Ent:=.cells 13 27 [.nils,.nils,.nils,.nils,.int .i64 N13]::Jcr
abbrev Jct:List Ent:=.row 18 57 J6g .nilR::.cells 17 27 [.nils,.nils,.nils,.nils,.int .i64 N13]::Jcq::Jcs
abbrev Jcu:Tree:=.bindN (.bindN (.letV .nilS (.callM 126 [.cv (true,[Va 0,Va 2,Va 4,Va 7,Vi 9])] Jct [] [] [] [Jcp,J78,.row 23 63 J6c V24,.row 25 68 J3v V26,.st 28] (.cv (true,[Va 19,Va 21,Va 23,Va 25,Vi 27])) 10 (.bindN (.callM 39 [Vq [.ptr 29 0],Vq [Vs 10]] (.cells 29 165 [Va 19,Va 21,Va 23,Va 25,Vi 27,.nils]::Jcp::J78::.row 23 63 J6c V24::.row 25 68 J3v V26::.st 28::Jct) [29] [23,25] [Jco] [Jcn,Jb1,Ja0,J89,.row 39 57 J6g V40,.st 41] (.tup []) 12 (.bindN (.ret (.tup [(true,[Va 30,Va 32,Va 34,Va 36,Vi 38]),(false,[.int .i64 N13])]) (.cells 42 27 [Va 30,Va 32,Va 34,Va 36,Vi 38]::Jcn::Jb1::Ja0::J89::.row 39 57 J6g V40::.st 41::Jco::Jcp::J78::.st 28::.row 18 57 J6g .nilR::.cells 17 27 [Va 30,Va 32,Va 34,Va 36,Vi 38]::Jcq::.cells 13 27 [Va 30,Va 32,Va 34,Va 36,Vi 38]::Jcr))))))))
abbrev Jcv:X:=.snocR .nilR (.consI .i64 N36 (.consB (.B false) (.consB (.B false) (.consB (.B false) (.consB (.B false) (.consI .i64 N13 (.consI .i64 V44 J8s)))))))
abbrev Jcw:Ent:=.row 35 90 J45 .nilR
abbrev Jcx:Ent:=.row 32 90 J45 .nilR
abbrev Jcy:Ent:=.cells 31 31 [Vi 38,Vb 39,Vb 40,Vb 41,Vb 42,Vi 43,Vi 44,Vi 45,Vi 46,Vs 47,Vs 48,Vs 49,Va 50,Va 52]
abbrev Jcz:Ent:=.cells 30 9 [Vs 54]
abbrev Jd0:Ent:=.cells 0 165 [Va 56,Va 58,Va 60,Va 62,Vi 64,Va 65]
abbrev Jd1:List Ent:=[.rd 50 J5e V51,.rd 52 J1y V53]
abbrev Jd2:List Ent:=Jcw::.row 33 90 J45 V34::Jcx::Jcy::Jcz::J7z::J6n::J80::J3w::J81::J6i::.cells 0 165 [Va 1,Va 33,Va 5,Va 7,Vi 9,Va 10]::Jd1
abbrev Jd3:List X:=[V38,V39,V40,V41,V42,V43,V44,V45,V46,V47,V48,V49,V50,V51,V52,V53,V54]
abbrev Jd4:Tree:=.need (.le N1a (.add V37 N17)) (.need (.le (.add V37 N17) N19) (.back 0 (V36::.add V37 N17::Jd3)))
abbrev V84:X:=.var 84
abbrev Jd6:Ent:=.rd 83 J45 V84
abbrev Jd7:Ent:=.row 82 31 J6 (.snocR .nilR (.consI .i64 N36 (.consB (.B false) (.consB (.B false) (.consB (.B false) (.consB (.B false) (.consI .i64 N13 (.consI .i64 V70 J8s))))))))
abbrev Jd8:Ent:=.cells 55 90 [Vs 58,Vs 59,Vi 60]
abbrev Jd9:Ent:=.cells 31 31 [Vi 64,Vb 65,Vb 66,Vb 67,Vb 68,Vi 69,Vi 70,Vi 71,Vi 72,Vs 73,Vs 74,Vs 75,Va 76,Va 78]
abbrev Jda:Ent:=.cells 0 165 [Va 83,Va 85,Va 87,Va 89,Vi 91,Va 92]
abbrev Jdb:List Ent:=[.rd 76 J5e V77,.rd 78 J1y V79]
abbrev Jdc:List X:=[V64,V65,V66,V67,V68,V69,V70,V71,V72,V73,V74,V75,V76,V77,V78,V79,V80]
abbrev Jdd:Tree:=.need (.le N13 V61) (.need (.lt V61 (.rlen V63)) (.need (.le N1a (.add V61 N17)) (.need (.le (.add V61 N17) N19) (.need (.le N1a (.add V62 N17)) (.need (.le (.add V62 N17) N19) (.back 2 (.add V61 N17::.add V62 N17::.setR V63 V61 (.consS (.rS V63 V62 0) (.consS (.rS V63 V62 1) (.consI .i64 (.rI V63 V62 2) .nilL)))::Jdc)))))))
abbrev Jde:Tree:=.need (.le N1a (.add V62 N17)) (.need (.le (.add V62 N17) N19) (.back 2 (V61::.add V62 N17::V63::Jdc)))
abbrev Jdf:List X:=V37::.add V37 N17::V34::Jd3
abbrev Jdg:Ent:=.rd 62 J45 V63
abbrev Jdh:Ent:=.rd 64 J45 V65
abbrev Jdi:Ent:=.cells 0 165 [Va 62,Va 64,Va 66,Va 68,Vi 70,Va 71]
abbrev Jdj:Ent:=.row 93 57 J6g (.var 94)
abbrev Jdk:Ent:=.row 83 31 J6 (.snocR .nilR (.consI .i64 N36 (.consB (.B false) (.consB (.B false) (.consB (.B false) (.consB (.B false) (.consI .i64 N13 (.consI .i64 V71 J8s))))))))
abbrev Jdl:Ent:=.cells 61 88 [.str (.rS V51 V57 0),.int .i64 (.rI V51 V57 1)]
abbrev Jdm:Ent:=.cells 31 31 [Vi 65,Vb 66,Vb 67,Vb 68,Vb 69,Vi 70,Vi 71,Vi 72,Vi 73,Vs 74,Vs 75,Vs 76,Va 77,Va 79]
abbrev Jdn:Ent:=.cells 0 165 [Va 84,Va 86,Va 88,Va 90,Vi 92,Va 93]
abbrev Jdo:List Ent:=[.rd 77 J5e V78,.rd 79 J1y V80]
abbrev Jdp:List X:=[V65,V66,V67,V68,V69,V70,V71,V72,V73,V74,V75,V76,V77,V78,V79,V80,V81]
abbrev Jdq:Tree:=.need (.le N13 V62) (.need (.lt V62 (.rlen V64)) (.need (.le N1a (.add V62 N17)) (.need (.le (.add V62 N17) N19) (.need (.le N1a (.add V63 N17)) (.need (.le (.add V63 N17) N19) (.back 2 (.add V62 N17::.add V63 N17::.setR V64 V62 (.consS (.rS V64 V63 0) (.consS (.rS V64 V63 1) (.consI .i64 (.rI V64 V63 2) .nilL)))::Jdp)))))))
abbrev Jdr:Tree:=.need (.le N1a (.add V63 N17)) (.need (.le (.add V63 N17) N19) (.back 2 (V62::.add V63 N17::V64::Jdp)))
abbrev Jds:Ent:=.rd 63 J45 V64
abbrev Jdt:Ent:=.rd 65 J45 V66
abbrev Jdu:Ent:=.row 67 63 J6c V68
abbrev Jdv:Ent:=.row 69 68 J3v V70
abbrev Jdw:Ent:=.row 72 57 J6g V73
abbrev Jdx:Ent:=.cells 0 165 [Va 63,Va 65,Va 67,Va 69,Vi 71,Va 72]
abbrev Jdy:List Ent:=[Jds,Jdt,Jdu,Jdv,Jdw,Jao]
abbrev Jdz:Ent:=.rd 33 J45 V34
abbrev Je0:Ent:=.cells 0 165 [Va 33,Va 35,Va 37,Va 39,Vi 41,Va 42]
abbrev Je1:Tree:=.ret (.tup []) (Jdz::.rd 35 J45 V36::.row 37 63 J6c V38::.row 39 68 J3v V40::.row 42 57 J6g V43::.st 44::J95::J7z::J6n::J6i::Je0::J9e)
abbrev Je2:List Ent:=[Jdz,.rd 35 J45 V36,.row 37 63 J6c V38,.row 39 68 J3v V40,.row 42 57 J6g V43,.st 44]
abbrev Je3:Ent:=.row 33 31 J6 (.snocR .nilR (.consI .i64 (.I 13) (.consB (.B false) (.consB (.B false) (.consB (.B false) (.consB (.B false) J8t))))))
abbrev Je4:Ent:=.cells 43 63 [Vs 33,Vb 34,Vb 35,Va 36,Va 38,Vi 40]
abbrev Je5:Ent:=.rd 41 J6 V42
abbrev Je6:List Ent:=J95::J7z::J6n::J6i::Jbi::J9e
abbrev Je7:Ent:=.row 31 57 J6g .nilR
abbrev Je8:List Ent:=[.cells 29 31 [Vi 11,Vb 12,Vb 13,Vb 14,Vb 15,Vi 16,Vi 17,Vi 18,Vi 19,Vs 20,Vs 21,Vs 22,Va 23,Va 25],.cells 28 9 [Vs 10],.cells 27 27 [Va 0,Va 2,Va 4,Va 7,Vi 9],J48,Jbq,Jbr,.st 6,Jbs,.rd 23 J5e V24,.rd 25 J1y V26]
abbrev Je9:List Ent:=Je7::.cells 30 27 [.nils,.nils,.nils,.nils,.int .i64 N13]::Je8
abbrev Jea:Ent:=.rd 51 J45 V52
abbrev Jeb:Ent:=.cells 48 165 [Va 49,Va 51,Va 53,Va 55,Vi 57,Va 58]
abbrev Jec:Ent:=.cells 35 27 [Va 0,Va 2,Va 4,Va 7,Vi 9]
abbrev Jed:List Ent:=.row 37 57 J6g .nilR::.cells 36 27 [.nils,.nils,.nils,.nils,.int .i64 N13]::Jec::Je9
abbrev Jee:Ent:=.rd 50 J45 V51
abbrev Jef:Ent:=.cells 47 165 [Va 48,Va 50,Va 52,Va 54,Vi 56,Va 57]
abbrev Jeg:Ent:=.rd 37 J45 V38
abbrev Jeh:Ent:=.cells 34 27 [Va 0,Va 2,Va 4,Va 7,Vi 9]
abbrev Jei:List Ent:=.row 36 57 J6g .nilR::.cells 35 27 [.nils,.nils,.nils,.nils,.int .i64 N13]::Jeh::Je9
abbrev Jej:Ent:=.rd 17 J3v V18
abbrev Jek:List Ent:=[Jca,Jcb,.rd 26 J6c V27,.st 7,Jej,.cells 0 27 [Va 22,Va 24,Va 26,Va 17,Vi 28]]
abbrev Jel:List Ent:=.cells 29 68 [.int .i64 (.rI V18 V21 0),.str (.rS V18 V21 1),.str (.rS V18 V21 2),.int .i64 (.rI V18 V21 3)]::Jek
abbrev Jem:List Ent:=[.rd 13 J45 V14,J6n,.rd 15 J6c V16,.st 7,Jej,.cells 0 27 [Va 13,Va 3,Va 15,Va 17,Vi 19]]
abbrev Jen:List Ent:=.cells 20 90 [.str (.rS V4 V12 0),.str (.rS V4 V12 1),.int .i64 (.rI V4 V12 2)]::Jem
abbrev Jeo:X:=.consS V13 (.consI .i64 (.rI V15 V17 0) (.consB (.rB V15 V17 1) (.consB (.rB V15 V17 2) (.consB (.rB V15 V17 3) (.consB (.rB V15 V17 4) (.consI .i64 (.rI V15 V17 5) (.consI .i64 (.rI V15 V17 6) (.consI .i64 (.rI V15 V17 7) (.consI .i64 (.rI V15 V17 8) (.consS (.rS V15 V17 9) (.consS (.rS V15 V17 10) (.consS (.rS V15 V17 11) (.consV (.rV V15 V17 12) (.consV (.rV V15 V17 13) (.consI .i64 N13 (.consI .i64 N13 (.consI .i64 N13 (.consI .i64 N13 (.consS (.S []) Jaq)))))))))))))))))))
abbrev Jep:Ent:=.row 62 31 J6 (.snocR .nilR (.consI .i64 V35 (.consB V36 (.consB V37 (.consB V38 (.consB V39 (.consI .i64 V40 (.consI .i64 V41 (.consI .i64 V42 (.consI .i64 V43 (.consS V44 (.consS V45 (.consS V46 (.consV V47 (.consV V49 .nilL)))))))))))))))
abbrev Jeq:Ent:=.st 34
abbrev Jer:Ent:=.cells 31 31 [Vi 35,Vb 36,Vb 37,Vb 38,Vb 39,Vi 40,Vi 41,Vi 42,Vi 43,Vs 44,Vs 45,Vs 46,Va 47,Va 49]
abbrev Jes:Ent:=.rd 53 J45 V54
abbrev Jet:List Ent:=[J9c,J9d,.rd 47 J5e V48,.rd 49 J1y V50]
abbrev Jeu:List Ent:=.st 77::.rd 78 J45 V79::.rd 80 J45 V81::.row 82 63 J6c V83::.row 84 68 J3v V85::.row 87 57 J6g V88::Jao::Jep::Jeq::Jer::J95::Jea::Jes::J6i::.cells 0 165 [Va 78,Va 80,Va 82,Va 84,Vi 86,Va 87]::Jet
abbrev Jev:Ent:=.rd 90 J45 V91
abbrev Jew:Ent:=.cells 89 88 [.str (.rS V27 V76 0),.int .i64 (.rI V27 V76 1)]
abbrev Jex:Ent:=.rd 95 J45 (.var 96)
abbrev Jey:List Ent:=[J9c,J9d,.rd 47 J5e V48,.rd 49 J1y V50,.rd 78 J45 V79]
abbrev Jez:List Ent:=.st 94::Jev::Jew::.st 77::Jex::.rd 97 J45 (.var 98)::.row 99 63 J6c (.var 100)::.row 101 68 J3v (.var 102)::.row 104 57 J6g (.var 105)::Jao::Jep::Jeq::Jer::J95::Jea::Jes::J6i::.cells 0 165 [Va 95,Va 97,Va 99,Va 101,Vi 103,Va 104]::Jey
abbrev Jf0:Ent:=.row 112 63 J6c (.var 113)
abbrev Jf1:Ent:=.row 114 68 J3v (.var 115)
abbrev Jf2:Ent:=.row 117 57 J6g (.var 118)
abbrev Jf3:Ent:=.row 107 31 J6 (.snocR .nilR (.consI .i64 N24 (.consB (.B false) (.consB (.B true) (.consB (.B false) (.consB (.B false) (.consI .i64 N13 (.consI .i64 N13 (.consI .i64 N13 (.consI .i64 N13 (.consS (.S []) (.consS (.rS V91 V93 0) (.consS (.rS V91 V93 1) J2j)))))))))))))
abbrev Jf4:Ent:=.cells 106 106 [.str (.rS V91 V93 0),.str (.rS V91 V93 1),.int .i64 (.rI V91 V93 2)]
abbrev Jf5:Ent:=.cells 0 165 [Va 108,Va 110,Va 112,Va 114,Vi 116,Va 117]
abbrev Jf6:List X:=[V78,V79,V80,V81,V82,V83,V84,V85,V86,V87,V88]
abbrev Jf7:Ent:=.row 55 63 J6c V56
abbrev Jf8:Ent:=.row 57 68 J3v V58
abbrev Jf9:Ent:=.row 60 57 J6g V61
abbrev Jfa:Ent:=.cells 0 165 [Va 51,Va 53,Va 55,Va 57,Vi 59,Va 60]
abbrev Jfb:X:=.snocR V50 (.consI .i64 N5m .nilL)
abbrev Jfc:List X:=[V55,V56,V57,V58,V59,V60,V61]
abbrev Jfd:X:=.snocR .nilR (.consI .i64 N5m .nilL)
abbrev Jfe:Ent:=.cells 62 88 [.str (.rS V27 V33 0),.int .i64 (.rI V27 V33 1)]
abbrev Jff:Ent:=.cells 31 31 [Vi 35,Vb 36,Vb 37,Vb 38,Vb 39,Vi 40,Vi 41,Vi 42,Vi 43,Vs 44,Vs 45,Vs 46,Va 47,Va 67]
abbrev Jfg:List Ent:=[J9c,J9d,.row 47 88 J5e V48]
abbrev Jfh:X:=.consI .i64 (.rI V27 V33 1) .nilL
abbrev Jfi:Ent:=.row 22 57 J6g .nilR
abbrev Jfj:List Ent:=[.cells 20 50 [Vi 11,Vi 12,Vi 13,Vs 14,Va 15,Vs 17],.cells 19 3 [Vi 10],.cells 18 27 [Va 0,Va 2,Va 4,Va 7,Vi 9],J48,Jbq,Jbr,.st 6,Jbs,.rd 15 J33 V16]
abbrev Jfk:List Ent:=Jfi::.cells 21 27 [.nils,.nils,.nils,.nils,.int .i64 N13]::Jfj
abbrev Jfl:Ent:=.cells 38 165 [Va 28,Va 30,Va 32,Va 34,Vi 36,.nils]
abbrev Jfm:Ent:=.rd 28 J45 V29
abbrev Jfn:Ent:=.row 32 63 J6c V33
abbrev Jfo:Ent:=.row 27 57 J6g .nilR
abbrev Jfp:Ent:=.cells 25 27 [Va 0,Va 2,Va 4,Va 7,Vi 9]
abbrev Jfq:List Ent:=Jfm::Jcn::Jfn::J66::.st 37::Jfo::.cells 26 27 [Va 28,Va 30,Va 32,Va 34,Vi 36]::Jfp::Jfi::.cells 21 27 [Va 28,Va 30,Va 32,Va 34,Vi 36]::Jfj
abbrev Jfr:Ent:=.cells 38 165 [Va 39,Va 41,Va 43,Va 45,Vi 47,Va 48]
abbrev Jfs:List Ent:=Jfo::.cells 26 27 [.nils,.nils,.nils,.nils,.int .i64 N13]::Jfp::Jfk
abbrev Jft:X:=.snocR .nilR (.consS (.S []) (.consI .i64 N13 (.consB (.B false) (.consB (.B false) (.consB (.B false) (.consB (.B false) (.consI .i64 N13 (.consI .i64 N13 (.consI .i64 N13 (.consI .i64 N13 (.consS (.S []) (.consS (.S []) (.consS (.S []) (.consV .nilS (.consV .nilS (.consI .i64 V10 (.consI .i64 N24 (.consI .i64 N13 (.consI .i64 V13 (.consS (.S []) Jaq))))))))))))))))))))
abbrev Jfu:Ent:=.cells 37 165 [Va 27,Va 29,Va 31,Va 33,Vi 35,.nils]
abbrev Jfv:Ent:=.row 26 57 J6g .nilR
abbrev Jfw:Ent:=.cells 24 27 [Va 0,Va 2,Va 4,Va 7,Vi 9]
abbrev Jfx:List Ent:=Jag::Jah::Jai::Jaj::.st 36::Jfv::.cells 25 27 [Va 27,Va 29,Va 31,Va 33,Vi 35]::Jfw::Jfi::.cells 21 27 [Va 27,Va 29,Va 31,Va 33,Vi 35]::Jfj
abbrev Jfy:Ent:=.cells 37 165 [Va 38,Va 40,Va 42,Va 44,Vi 46,Va 47]
abbrev Jfz:List Ent:=Jfv::.cells 25 27 [.nils,.nils,.nils,.nils,.int .i64 N13]::Jfw::Jfk
abbrev Jg0:Ent:=.cells 0 165 [Va 31,Va 33,Va 35,Va 37,Vi 39,Va 40]
abbrev Jg1:List Ent:=J95::J7z::J6n::J6i::Jb7::J9e
abbrev Jg2:Ent:=.row 31 31 J6 (.snocR .nilR (.consI .i64 N2p (.consB (.B false) (.consB (.B false) (.consB (.B false) (.consB (.B false) (.consI .i64 N13 (.consI .i64 V20 J8s))))))))
abbrev Jg3:List Ent:=Jb1::Ja3::Jb2::Jb3::Jb4::Jb5::Jg2::Jg1
abbrev Jg4:Ent:=.rd 57 J45 V58
abbrev Jg5:Ent:=.rd 59 J45 V60
abbrev Jg6:Ent:=.rd 45 J45 V46
abbrev Jg7:Ent:=.rd 47 J45 V48
abbrev Jg8:Ent:=.cells 0 165 [Va 57,Va 59,Va 61,Va 63,Vi 65,Va 66]
abbrev Jg9:Ent:=.cells 0 165 [Va 45,Va 47,Va 49,Va 51,Vi 53,Va 54]
abbrev Jga:Ent:=.row 15 90 J45 .nilR
abbrev Jgb:List Ent:=[.row 18 90 J45 .nilR,.row 16 90 J45 V17,Jga,.cells 14 9 [Vs 21],J7z,J6n,J80,J3w,J81,J6i,.cells 0 165 [Va 1,Va 16,Va 5,Va 7,Vi 9,Va 10]]
abbrev Jgc:Ent:=.cells 22 90 [.str (.rS V17 V20 0),.str (.rS V17 V20 1),.int .i64 (.rI V17 V20 2)]
abbrev Jgd:Tree:=.need (.le N1a (.add V4 N17)) (.need (.le (.add V4 N17) N19) (.back 0 [V3,.add V4 N17]))
abbrev Jge:List Ent:=[.cells 21 27 [Va 10,Va 12,Va 14,Va 17,Vi 19],.cells 20 27 [Va 0,Va 2,Va 4,Va 7,Vi 9],J48,Jbq,Jbr,.st 6,Jbs,.rd 10 J45 V11,.rd 12 J45 V13,.rd 14 J6c V15,.st 16,Jej]
abbrev Jgf:List Ent:=[J48,Jbq,Jbr,.rd 6 J3v V7,.st 9]
abbrev Jgg:List Ent:=.rd 22 J5e V23::.rd 24 J1y V25::Jgf
abbrev Jgh:List Ent:=.cells 39 27 [Va 26,Va 28,Va 30,Va 32,Vi 34]::.rd 26 J45 V27::Jfm::.rd 30 J6c V31::.rd 32 J3v V33::.rd 35 J6g V36::J63::Jgg
abbrev Jgi:List Ent:=J9u::.rd 42 J45 V43::.rd 44 J6c V45::.rd 46 J3v V47::.st 49::Jgh
abbrev Jgj:List Ent:=.cells 70 27 [Va 57,Va 59,Va 61,Va 63,Vi 65]::Jg4::Jg5::.rd 61 J6c V62::.rd 63 J3v V64::.rd 66 J6g V67::.st 69::.rd 54 J33 V55::Jgi
abbrev Jgk:List Ent:=.rd 71 J45 V72::J8o::.rd 75 J6c V76::.rd 77 J3v V78::.st 80::Jgj
abbrev Jgl:List Ent:=.cells 92 27 [Va 81,Va 83,Va 85,Va 87,Vi 89]::.rd 81 J45 V82::Jd6::.rd 85 J6c V86::.rd 87 J3v V88::.st 91::Jgk
abbrev Jgm:List Ent:=.rd 93 J45 (.var 94)::Jex::.rd 97 J6c (.var 98)::.rd 99 J3v (.var 100)::.st 102::Jgl
abbrev Jgn:X:=.snocR .nilR (.consS V5 (.consB V6 (.consB V7 (.consV V8 (.consV V10 (.consI .i64 V12 .nilL))))))
abbrev Jgo:X:=.dropR (.takeR V4 N21) N13
abbrev Jgp:List X:=[.dropR (.takeR V14 N17) N13,Jgn,Jgo]
abbrev Jgq:List Ent:=[.cells 0 27 [.nils,.nils,.nils,.nils,.int .i64 N13]]
abbrev Jgr:List Ent:=J6n::J7z::Jgq
abbrev Jgs:List Ent:=.rd 8 J2 V9::.rd 10 J2 V11::Jgr
abbrev Jgt:X:=.dropR (.takeR V15 N17) N13
abbrev Jgu:List X:=[V14,V15,V16,Jgt,Jgn,Jgo]
abbrev Jgv:List X:=[V14,V15,V17,Jgt,Jgn,Jgo]
abbrev Jgw:List Ent:=[.rd 14 J3v V15]
abbrev Jgx:X:=.dropR (.takeR V16 N17) N13
abbrev Jgy:List X:=[V15,V16,V17,Jgx,Jgn,Jgo]
abbrev Jgz:List Ent:=[.rd 15 J3v V16]
abbrev Jh0:X:=.snocR .nilR (.consS V6 (.consB V7 (.consB V8 (.consV V9 (.consV V11 (.consI .i64 V13 .nilL))))))
abbrev Jh1:List Ent:=.rd 9 J2 V10::J4b::.rd 5 J45 Jgo::Jgr
abbrev Jh2:Ent:=.rd 77 J45 V78
abbrev Jh3:Ent:=.cells 61 27 [Va 48,Va 50,Va 52,Va 54,Vi 56]
abbrev Jh4:Ent:=.rd 52 J6c V53
abbrev Jh5:Ent:=.rd 54 J3v V55
abbrev Jh6:Ent:=.rd 57 J6g V58
abbrev Jh7:List Ent:=[.cells 30 31 [Vi 13,Vb 14,Vb 15,Vb 16,Vb 17,Vi 18,Vi 19,Vi 20,Vi 21,Vs 22,Vs 23,Vs 24,Va 25,Va 27],.cells 29 27 [Va 0,Va 2,Va 4,Va 7,Vi 9],J48,Jbq,Jbr,.st 6,Jbs,.rd 11 J5e V12,.rd 25 J5e V26,.rd 27 J1y V28]
abbrev Jh8:List Ent:=Jb1::Ja3::.rd 36 J6c V37::.rd 38 J3v V39::.rd 41 J6g V42::.st 44::Jh7
abbrev Jh9:List Ent:=.cells 45 27 [Va 32,Va 34,Va 36,Va 38,Vi 40]::Jh8
abbrev Jha:List Ent:=Jh3::J7i::Jee::Jh4::Jh5::Jh6::.st 60::Jh9
abbrev Jhb:List Ent:=.cells 73 27 [Va 62,Va 64,Va 66,Va 68,Vi 70]::Jdg::Jdh::.rd 66 J6c V67::.rd 68 J3v V69::.st 72::Jha
abbrev Jhc:List Ent:=.rd 62 J1y V63::Jh3::J7i::Jee::Jh4::Jh5::Jh6::.st 60::.cells 45 27 [Va 48,Va 50,Va 52,Va 54,Vi 56]::Jh8
abbrev Jhd:List Ent:=.cells 75 27 [Va 64,Va 66,Va 68,Va 70,Vi 72]::Jdh::.rd 66 J45 V67::.rd 68 J6c V69::.rd 70 J3v V71::Jao::Jhc
end Go.Proofs.YtkhakgbnfapifaaGreatDoor