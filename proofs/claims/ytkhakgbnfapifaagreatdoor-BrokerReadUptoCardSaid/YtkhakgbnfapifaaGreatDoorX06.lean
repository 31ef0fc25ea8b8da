/-
  The executor's table for this translation: types, functions that have a body, functions whose slices are the caller's. Written by a program of mine (wip/mkenv.py); the kernel checks it against the program. By an AI agent.
-/
import Derived.Test.YtkhakgbnfapifaaGreatDoorRows
import Derived.Test.YtkhakgbnfapifaaGreatDoorX05
set_option linter.unusedSimpArgs false
set_option linter.unusedVariables false
set_option maxHeartbeats 20000000
namespace Go.Proofs.YtkhakgbnfapifaaGreatDoor
open Go.Sx
def sxT:Tab:=[
 (2,{ agg:=false,ks:=[.int .i64],zs:=[.int .i64 (.I 0)],bytes:=8,tag:=.int .i64,eqs:=false }),
 (3,{ agg:=false,ks:=[.int .i64],zs:=[.int .i64 (.I 0)],bytes:=8,tag:=.int .i64,eqs:=false }),
 (4,{ agg:=false,ks:=[.bool],zs:=[.bool (.B false)],bytes:=1,tag:=.bool,eqs:=false }),
 (5,{ agg:=false,ks:=[.int .u8],zs:=[.int .u8 (.I 0)],bytes:=1,tag:=.int .u8,eqs:=false }),
 (6,{ agg:=false,ks:=[.int .u8],zs:=[.int .u8 (.I 0)],bytes:=1,tag:=.int .u8,eqs:=false }),
 (7,{ agg:=true,ks:=[.int .i64,.int .i64,.bool,.int .u8],zs:=[.int .i64 (.I 0),.int .i64 (.I 0),.bool (.B false),.int .u8 (.I 0)],bytes:=24,tag:=.strct [(0,2,1,false),(1,3,1,false),(2,4,1,false),(3,6,1,false)],eqs:=false }),
 (8,{ agg:=true,ks:=[.int .i64,.int .i64,.bool,.int .u8],zs:=[.int .i64 (.I 0),.int .i64 (.I 0),.bool (.B false),.int .u8 (.I 0)],bytes:=24,tag:=.strct [(0,2,1,false),(1,3,1,false),(2,4,1,false),(3,6,1,false)],eqs:=false }),
 (9,{ agg:=false,ks:=[.str],zs:=[.str (.S [])],bytes:=16,tag:=.str,eqs:=false }),
 (10,{ agg:=false,ks:=[.str],zs:=[.str (.S [])],bytes:=16,tag:=.str,eqs:=false }),
 (11,{ agg:=false,ks:=[.str],zs:=[.str (.S [])],bytes:=16,tag:=.str,eqs:=false }),
 (12,{ agg:=false,ks:=[.int .u64],zs:=[.int .u64 (.I 0)],bytes:=8,tag:=.int .u64,eqs:=false }),
 (13,{ agg:=true,ks:=[.str,.int .u64],zs:=[.str (.S []),.int .u64 (.I 0)],bytes:=24,tag:=.strct [(0,9,1,false),(1,12,1,false)],eqs:=false }),
 (14,{ agg:=true,ks:=[.str,.int .u64],zs:=[.str (.S []),.int .u64 (.I 0)],bytes:=24,tag:=.strct [(0,9,1,false),(1,12,1,false)],eqs:=false }),
 (15,{ agg:=false,ks:=[.oth],zs:=[.nilp],bytes:=8,tag:=.ptr 353,eqs:=false }),
 (16,{ agg:=false,ks:=[.oth],zs:=[.nilp],bytes:=8,tag:=.ptr 356,eqs:=false }),
 (17,{ agg:=false,ks:=[.oth],zs:=[.nilp],bytes:=8,tag:=.ptr 363,eqs:=false }),
 (18,{ agg:=true,ks:=[.oth],zs:=[.nilp],bytes:=8,tag:=.strct [(0,17,1,false)],eqs:=false }),
 (19,{ agg:=true,ks:=[.oth],zs:=[.nilp],bytes:=8,tag:=.strct [(0,17,1,false)],eqs:=false }),
 (21,{ agg:=false,ks:=[.int .i32],zs:=[.int .i32 (.I 0)],bytes:=4,tag:=.int .i32,eqs:=false }),
 (22,{ agg:=false,ks:=[.oth],zs:=[.nils],bytes:=24,tag:=.slice 106,eqs:=false }),
 (23,{ agg:=false,ks:=[.oth],zs:=[.nils],bytes:=24,tag:=.slice 90,eqs:=false }),
 (24,{ agg:=false,ks:=[.oth],zs:=[.nils],bytes:=24,tag:=.slice 63,eqs:=false }),
 (25,{ agg:=false,ks:=[.oth],zs:=[.nils],bytes:=24,tag:=.slice 68,eqs:=false }),
 (26,{ agg:=true,ks:=[.oth,.oth,.oth,.oth,.int .i64],zs:=[.nils,.nils,.nils,.nils,.int .i64 (.I 0)],bytes:=104,tag:=.strct [(0,22,1,false),(1,23,1,false),(2,24,1,false),(3,25,1,false),(4,3,1,false)],eqs:=false }),
 (27,{ agg:=true,ks:=[.oth,.oth,.oth,.oth,.int .i64],zs:=[.nils,.nils,.nils,.nils,.int .i64 (.I 0)],bytes:=104,tag:=.strct [(0,22,1,false),(1,23,1,false),(2,24,1,false),(3,25,1,false),(4,3,1,false)],eqs:=false }),
 (28,{ agg:=false,ks:=[.oth],zs:=[.nils],bytes:=24,tag:=.slice 88,eqs:=false }),
 (29,{ agg:=false,ks:=[.oth],zs:=[.nils],bytes:=24,tag:=.slice 3,eqs:=false }),
 (30,{ agg:=true,ks:=[.int .i64,.bool,.bool,.bool,.bool,.int .i64,.int .i64,.int .i64,.int .i64,.str,.str,.str,.oth,.oth],zs:=[.int .i64 (.I 0),.bool (.B false),.bool (.B false),.bool (.B false),.bool (.B false),.int .i64 (.I 0),.int .i64 (.I 0),.int .i64 (.I 0),.int .i64 (.I 0),.str (.S []),.str (.S []),.str (.S []),.nils,.nils],bytes:=144,tag:=.strct [(0,3,1,false),(1,4,1,false),(2,4,1,false),(3,4,1,false),(4,4,1,false),(5,3,1,false),(6,3,1,false),(7,3,1,false),(8,3,1,false),(9,9,1,false),(10,9,1,false),(11,9,1,false),(12,28,1,false),(13,29,1,false)],eqs:=false }),
 (31,{ agg:=true,ks:=[.int .i64,.bool,.bool,.bool,.bool,.int .i64,.int .i64,.int .i64,.int .i64,.str,.str,.str,.oth,.oth],zs:=[.int .i64 (.I 0),.bool (.B false),.bool (.B false),.bool (.B false),.bool (.B false),.int .i64 (.I 0),.int .i64 (.I 0),.int .i64 (.I 0),.int .i64 (.I 0),.str (.S []),.str (.S []),.str (.S []),.nils,.nils],bytes:=144,tag:=.strct [(0,3,1,false),(1,4,1,false),(2,4,1,false),(3,4,1,false),(4,4,1,false),(5,3,1,false),(6,3,1,false),(7,3,1,false),(8,3,1,false),(9,9,1,false),(10,9,1,false),(11,9,1,false),(12,28,1,false),(13,29,1,false)],eqs:=false }),
 (32,{ agg:=false,ks:=[.oth],zs:=[.nils],bytes:=24,tag:=.slice 57,eqs:=false }),
 (33,{ agg:=false,ks:=[.int .i64],zs:=[.int .i64 (.I 0)],bytes:=8,tag:=.int .i64,eqs:=false }),
 (41,{ agg:=true,ks:=[.oth,.oth,.oth,.oth,.int .i64,.oth],zs:=[.nils,.nils,.nils,.nils,.int .i64 (.I 0),.nils],bytes:=128,tag:=.strct [(0,27,5,true),(5,32,1,false)],eqs:=false }),
 (42,{ agg:=true,ks:=[.oth,.oth,.oth,.oth,.int .i64,.oth],zs:=[.nils,.nils,.nils,.nils,.int .i64 (.I 0),.nils],bytes:=128,tag:=.strct [(0,27,5,true),(5,32,1,false)],eqs:=false }),
 (48,{ agg:=false,ks:=[.oth],zs:=[.nils],bytes:=24,tag:=.slice 127,eqs:=false }),
 (49,{ agg:=true,ks:=[.int .i64,.int .i64,.int .i64,.str,.oth,.str],zs:=[.int .i64 (.I 0),.int .i64 (.I 0),.int .i64 (.I 0),.str (.S []),.nils,.str (.S [])],bytes:=80,tag:=.strct [(0,3,1,false),(1,3,1,false),(2,3,1,false),(3,9,1,false),(4,48,1,false),(5,9,1,false)],eqs:=false }),
 (50,{ agg:=true,ks:=[.int .i64,.int .i64,.int .i64,.str,.oth,.str],zs:=[.int .i64 (.I 0),.int .i64 (.I 0),.int .i64 (.I 0),.str (.S []),.nils,.str (.S [])],bytes:=80,tag:=.strct [(0,3,1,false),(1,3,1,false),(2,3,1,false),(3,9,1,false),(4,48,1,false),(5,9,1,false)],eqs:=false }),
 (56,{ agg:=true,ks:=[.str,.int .i64,.bool,.bool,.bool,.bool,.int .i64,.int .i64,.int .i64,.int .i64,.str,.str,.str,.oth,.oth,.int .i64,.int .i64,.int .i64,.int .i64,.str,.oth,.str],zs:=[.str (.S []),.int .i64 (.I 0),.bool (.B false),.bool (.B false),.bool (.B false),.bool (.B false),.int .i64 (.I 0),.int .i64 (.I 0),.int .i64 (.I 0),.int .i64 (.I 0),.str (.S []),.str (.S []),.str (.S []),.nils,.nils,.int .i64 (.I 0),.int .i64 (.I 0),.int .i64 (.I 0),.int .i64 (.I 0),.str (.S []),.nils,.str (.S [])],bytes:=248,tag:=.strct [(0,9,1,false),(1,31,14,true),(15,3,1,false),(16,50,6,true)],eqs:=false }),
 (57,{ agg:=true,ks:=[.str,.int .i64,.bool,.bool,.bool,.bool,.int .i64,.int .i64,.int .i64,.int .i64,.str,.str,.str,.oth,.oth,.int .i64,.int .i64,.int .i64,.int .i64,.str,.oth,.str],zs:=[.str (.S []),.int .i64 (.I 0),.bool (.B false),.bool (.B false),.bool (.B false),.bool (.B false),.int .i64 (.I 0),.int .i64 (.I 0),.int .i64 (.I 0),.int .i64 (.I 0),.str (.S []),.str (.S []),.str (.S []),.nils,.nils,.int .i64 (.I 0),.int .i64 (.I 0),.int .i64 (.I 0),.int .i64 (.I 0),.str (.S []),.nils,.str (.S [])],bytes:=248,tag:=.strct [(0,9,1,false),(1,31,14,true),(15,3,1,false),(16,50,6,true)],eqs:=false }),
 (61,{ agg:=false,ks:=[.oth],zs:=[.nils],bytes:=24,tag:=.slice 172,eqs:=false }),
 (62,{ agg:=true,ks:=[.str,.bool,.bool,.oth,.oth,.int .i64],zs:=[.str (.S []),.bool (.B false),.bool (.B false),.nils,.nils,.int .i64 (.I 0)],bytes:=80,tag:=.strct [(0,9,1,false),(1,4,1,false),(2,4,1,false),(3,61,1,false),(4,61,1,false),(5,3,1,false)],eqs:=false }),
 (63,{ agg:=true,ks:=[.str,.bool,.bool,.oth,.oth,.int .i64],zs:=[.str (.S []),.bool (.B false),.bool (.B false),.nils,.nils,.int .i64 (.I 0)],bytes:=80,tag:=.strct [(0,9,1,false),(1,4,1,false),(2,4,1,false),(3,61,1,false),(4,61,1,false),(5,3,1,false)],eqs:=false }),
 (64,{ agg:=false,ks:=[.oth],zs:=[.nils],bytes:=24,tag:=.slice 71,eqs:=false }),
 (67,{ agg:=true,ks:=[.int .i64,.str,.str,.int .i64],zs:=[.int .i64 (.I 0),.str (.S []),.str (.S []),.int .i64 (.I 0)],bytes:=48,tag:=.strct [(0,3,1,false),(1,9,1,false),(2,9,1,false),(3,3,1,false)],eqs:=false }),
 (68,{ agg:=true,ks:=[.int .i64,.str,.str,.int .i64],zs:=[.int .i64 (.I 0),.str (.S []),.str (.S []),.int .i64 (.I 0)],bytes:=48,tag:=.strct [(0,3,1,false),(1,9,1,false),(2,9,1,false),(3,3,1,false)],eqs:=true }),
 (70,{ agg:=true,ks:=[.str,.int .i64],zs:=[.str (.S []),.int .i64 (.I 0)],bytes:=24,tag:=.strct [(0,9,1,false),(1,3,1,false)],eqs:=false }),
 (71,{ agg:=true,ks:=[.str,.int .i64],zs:=[.str (.S []),.int .i64 (.I 0)],bytes:=24,tag:=.strct [(0,9,1,false),(1,3,1,false)],eqs:=true }),
 (80,{ agg:=false,ks:=[.oth],zs:=[.nilp],bytes:=8,tag:=.ptr 165,eqs:=false }),
 (87,{ agg:=true,ks:=[.str,.int .i64],zs:=[.str (.S []),.int .i64 (.I 0)],bytes:=24,tag:=.strct [(0,9,1,false),(1,3,1,false)],eqs:=false }),
 (88,{ agg:=true,ks:=[.str,.int .i64],zs:=[.str (.S []),.int .i64 (.I 0)],bytes:=24,tag:=.strct [(0,9,1,false),(1,3,1,false)],eqs:=true }),
 (89,{ agg:=true,ks:=[.str,.str,.int .i64],zs:=[.str (.S []),.str (.S []),.int .i64 (.I 0)],bytes:=40,tag:=.strct [(0,9,1,false),(1,88,2,true)],eqs:=false }),
 (90,{ agg:=true,ks:=[.str,.str,.int .i64],zs:=[.str (.S []),.str (.S []),.int .i64 (.I 0)],bytes:=40,tag:=.strct [(0,9,1,false),(1,88,2,true)],eqs:=true }),
 (95,{ agg:=false,ks:=[.oth],zs:=[.nilp],bytes:=8,tag:=.ptr 42,eqs:=false }),
 (97,{ agg:=false,ks:=[.oth],zs:=[.nils],bytes:=24,tag:=.slice 31,eqs:=false }),
 (105,{ agg:=true,ks:=[.str,.str,.int .i64],zs:=[.str (.S []),.str (.S []),.int .i64 (.I 0)],bytes:=40,tag:=.strct [(0,9,1,false),(1,9,1,false),(2,3,1,false)],eqs:=false }),
 (106,{ agg:=true,ks:=[.str,.str,.int .i64],zs:=[.str (.S []),.str (.S []),.int .i64 (.I 0)],bytes:=40,tag:=.strct [(0,9,1,false),(1,9,1,false),(2,3,1,false)],eqs:=true }),
 (126,{ agg:=true,ks:=[.int .i64,.str],zs:=[.int .i64 (.I 0),.str (.S [])],bytes:=24,tag:=.strct [(0,3,1,false),(1,9,1,false)],eqs:=false }),
 (127,{ agg:=true,ks:=[.int .i64,.str],zs:=[.int .i64 (.I 0),.str (.S [])],bytes:=24,tag:=.strct [(0,3,1,false),(1,9,1,false)],eqs:=true }),
 (149,{ agg:=true,ks:=[.int .i64,.bool,.int .i64],zs:=[.int .i64 (.I 0),.bool (.B false),.int .i64 (.I 0)],bytes:=24,tag:=.strct [(0,3,1,false),(1,4,1,false),(2,3,1,false)],eqs:=false }),
 (150,{ agg:=true,ks:=[.int .i64,.bool,.int .i64],zs:=[.int .i64 (.I 0),.bool (.B false),.int .i64 (.I 0)],bytes:=24,tag:=.strct [(0,3,1,false),(1,4,1,false),(2,3,1,false)],eqs:=true }),
 (155,{ agg:=false,ks:=[.oth],zs:=[.nils],bytes:=24,tag:=.slice 9,eqs:=false }),
 (164,{ agg:=true,ks:=[.oth,.oth,.oth,.oth,.int .i64,.oth],zs:=[.nils,.nils,.nils,.nils,.int .i64 (.I 0),.nils],bytes:=128,tag:=.strct [(0,27,5,true),(5,32,1,false)],eqs:=false }),
 (165,{ agg:=true,ks:=[.oth,.oth,.oth,.oth,.int .i64,.oth],zs:=[.nils,.nils,.nils,.nils,.int .i64 (.I 0),.nils],bytes:=128,tag:=.strct [(0,27,5,true),(5,32,1,false)],eqs:=false }),
 (171,{ agg:=true,ks:=[.int .i64,.str,.str],zs:=[.int .i64 (.I 0),.str (.S []),.str (.S [])],bytes:=40,tag:=.strct [(0,3,1,false),(1,9,1,false),(2,9,1,false)],eqs:=false }),
 (172,{ agg:=true,ks:=[.int .i64,.str,.str],zs:=[.int .i64 (.I 0),.str (.S []),.str (.S [])],bytes:=40,tag:=.strct [(0,3,1,false),(1,9,1,false),(2,9,1,false)],eqs:=true }),
 (184,{ agg:=false,ks:=[.oth],zs:=[.nils],bytes:=24,tag:=.slice 114,eqs:=false }),
 (202,{ agg:=false,ks:=[.oth],zs:=[.nilm],bytes:=8,tag:=.other,eqs:=false }),
 (207,{ agg:=false,ks:=[.int .u64],zs:=[.int .u64 (.I 0)],bytes:=8,tag:=.int .u64,eqs:=false }),
 (217,{ agg:=false,ks:=[.oth],zs:=[.nilp],bytes:=8,tag:=.ptr 219,eqs:=false }),
 (218,{ agg:=true,ks:=[.str,.int .i64,.bool],zs:=[.str (.S []),.int .i64 (.I 0),.bool (.B false)],bytes:=32,tag:=.strct [(0,9,1,false),(1,3,1,false),(2,4,1,false)],eqs:=false }),
 (219,{ agg:=true,ks:=[.str,.int .i64,.bool],zs:=[.str (.S []),.int .i64 (.I 0),.bool (.B false)],bytes:=32,tag:=.strct [(0,9,1,false),(1,3,1,false),(2,4,1,false)],eqs:=true }),
 (221,{ agg:=false,ks:=[.oth],zs:=[.nilp],bytes:=8,tag:=.ptr 31,eqs:=false }),
 (223,{ agg:=false,ks:=[.oth],zs:=[.nilp],bytes:=8,tag:=.ptr 225,eqs:=false }),
 (224,{ agg:=true,ks:=[.str,.bool],zs:=[.str (.S []),.bool (.B false)],bytes:=24,tag:=.strct [(0,9,1,false),(1,4,1,false)],eqs:=false }),
 (225,{ agg:=true,ks:=[.str,.bool],zs:=[.str (.S []),.bool (.B false)],bytes:=24,tag:=.strct [(0,9,1,false),(1,4,1,false)],eqs:=true }),
 (232,{ agg:=false,ks:=[.oth],zs:=[.nilp],bytes:=8,tag:=.ptr 236,eqs:=false }),
 (235,{ agg:=true,ks:=[.str,.bool,.bool,.oth,.oth,.int .i64,.oth],zs:=[.str (.S []),.bool (.B false),.bool (.B false),.nils,.nils,.int .i64 (.I 0),.nils],bytes:=104,tag:=.strct [(0,63,6,true),(6,97,1,false)],eqs:=false }),
 (236,{ agg:=true,ks:=[.str,.bool,.bool,.oth,.oth,.int .i64,.oth],zs:=[.str (.S []),.bool (.B false),.bool (.B false),.nils,.nils,.int .i64 (.I 0),.nils],bytes:=104,tag:=.strct [(0,63,6,true),(6,97,1,false)],eqs:=false }),
 (241,{ agg:=false,ks:=[.oth],zs:=[.nils],bytes:=24,tag:=.slice 5,eqs:=false }),
 (257,{ agg:=false,ks:=[.oth],zs:=[.nilp],bytes:=8,tag:=.ptr 262,eqs:=false }),
 (258,{ agg:=false,ks:=[.oth],zs:=[.nilp],bytes:=8,tag:=.ptr 260,eqs:=false }),
 (259,{ agg:=true,ks:=[.oth,.oth],zs:=[.nilp,.nils],bytes:=32,tag:=.strct [(0,258,1,false),(1,241,1,false)],eqs:=false }),
 (260,{ agg:=true,ks:=[.oth,.oth],zs:=[.nilp,.nils],bytes:=32,tag:=.strct [(0,258,1,false),(1,241,1,false)],eqs:=false }),
 (261,{ agg:=true,ks:=[.oth,.oth],zs:=[.nilp,.nils],bytes:=32,tag:=.strct [(0,260,2,true)],eqs:=false }),
 (262,{ agg:=true,ks:=[.oth,.oth],zs:=[.nilp,.nils],bytes:=32,tag:=.strct [(0,260,2,true)],eqs:=false }),
 (290,{ agg:=false,ks:=[.int .i64],zs:=[.int .i64 (.I 0)],bytes:=8,tag:=.int .i64,eqs:=false }),
 (297,{ agg:=false,ks:=[.int .u32],zs:=[.int .u32 (.I 0)],bytes:=4,tag:=.int .u32,eqs:=false }),
 (299,{ agg:=false,ks:=[.int .u64],zs:=[.int .u64 (.I 0)],bytes:=8,tag:=.int .u64,eqs:=false }),
 (305,{ agg:=false,ks:=[.oth],zs:=[.nilp],bytes:=8,tag:=.ptr 5,eqs:=false }),
 (320,{ agg:=false,ks:=[.int .u64],zs:=[.int .u64 (.I 0)],bytes:=8,tag:=.int .u64,eqs:=false }),
 (324,{ agg:=false,ks:=[.oth],zs:=[.nilp],bytes:=8,tag:=.ptr 3,eqs:=false }),
 (328,{ agg:=false,ks:=[.oth],zs:=[.nilp],bytes:=8,tag:=.ptr 316,eqs:=false }),
 (341,{ agg:=false,ks:=[.oth],zs:=[.nilp],bytes:=8,tag:=.ptr 320,eqs:=false }),
 (349,{ agg:=true,ks:=[.int .u8,.int .u8],zs:=[.int .u8 (.I 0),.int .u8 (.I 0)],bytes:=2,tag:=.strct [(0,5,1,false),(1,5,1,false)],eqs:=false }),
 (350,{ agg:=true,ks:=[.int .u8,.int .u8],zs:=[.int .u8 (.I 0),.int .u8 (.I 0)],bytes:=2,tag:=.strct [(0,5,1,false),(1,5,1,false)],eqs:=false }),
 (352,{ agg:=true,ks:=[.oth,.oth,.oth,.str],zs:=[.nilp,.nilp,.nilp,.str (.S [])],bytes:=40,tag:=.strct [(0,17,1,false),(1,17,1,false),(2,17,1,false),(3,9,1,false)],eqs:=false }),
 (353,{ agg:=true,ks:=[.oth,.oth,.oth,.str],zs:=[.nilp,.nilp,.nilp,.str (.S [])],bytes:=40,tag:=.strct [(0,17,1,false),(1,17,1,false),(2,17,1,false),(3,9,1,false)],eqs:=false }),
 (357,{ agg:=false,ks:=[.int .u8],zs:=[.int .u8 (.I 0)],bytes:=1,tag:=.int .u8,eqs:=false }),
 (358,{ agg:=false,ks:=[.int .u8],zs:=[.int .u8 (.I 0)],bytes:=1,tag:=.int .u8,eqs:=false }),
 (360,{ agg:=false,ks:=[.int .i32],zs:=[.int .i32 (.I 0)],bytes:=4,tag:=.int .i32,eqs:=false }),
 (361,{ agg:=false,ks:=[.int .i32],zs:=[.int .i32 (.I 0)],bytes:=4,tag:=.int .i32,eqs:=false })]
noncomputable def sxE:Env:=⟨sxT,[(0,[]),(34,[27,32,33]),(36,[27,33]),(65,[64,33]),(73,[50,33]),(78,[27,32]),(98,[63,97]),(102,[23,33]),(118,[3,4]),(129,[9,33]),(131,[3,33]),(133,[25,33]),(151,[150,33]),(158,[31,33]),(175,[22,33]),(178,[25,25]),(215,[3,3,33]),(284,[3,283]),(291,[3,290]),(306,[9,3,33]),(308,[3,9]),(317,[316,4]),(331,[21,3]),(342,[3,3]),(345,[297,297])],[3,4,5,6,7,8,9,10,11,12,13,14,15,16,17,18,19,20,21,22,23,24,25,26,27,28,29,30,31,32,33,34,35,36,37,38,39,40,41,42,43,44,45,46,47,48,49,50,51,52,53,54,55,56,57,58,59,60,61,62,63,64,65,66,67,68,69,70,71,72,73,74,75,76,77,78,79,80,81,82,83,84,85,86,87,88,89,90,91,92,93,94,95,96,97,98,99,100,101,102,103,104,105,106,107,108,109,110,111,112,113,114,115,116,117,118,119,120,121,122,123,124,125,126,127,128,129,130,131,132,133,134,135,136,137,138,139,140,141,142,143,144,145,146,147,148,149,150,151,152,153,154,155,156,157,158,159,160,161,162,163,164,165,166,167,168,169,170,171,172,173,174,175,176,177,178,179,180,181,182,183,184,185,186,187,188,189,190,191,192,193,194,195,196,197,198,199,200,201,202,203,204,205,206,207,208,209,210,211,212,213,214,215,216,217,218,219,220,221,222,223,224,225,226,227,228,229,230,231,232,233,234,235,236,237,238,239,240,241,242,243,244,246,247,248,249,250,251,252,253,254,255,256,257,258,259,260,261,262,263,264,265,266,267,268,270,271,272,273,274,275,276,277,278,279,281,282,283,284,285,286,288,289,290,291,292,293,294,295,296,297,298,299,300,301,302,303,304,305,306,307,308,309,310,311,312,313,314,315,316,317,318,320,321,322,323,324,325,326,327,328,329,330,331,332,333,334,335,336,338,339,340,342,343,346,347,348,349,350,351,352,354,355,377],[59,93,126,134,192,205,206,207,209,228,229,234,236,244,268,285,286],[134,147,192,209,236,285,286],[253],[(35,Tryz.f35),(36,Tryz.f36),(38,Tryz.f38),(46,Tryz.f46),(51,Tryz.f51),(55,Tryz.f55),(75,Tryz.f75),(76,Tryz.f76),(77,Tryz.f77),(79,Tryz.f79),(80,Tryz.f80),(84,Tryz.f84),(86,Tryz.f86),(87,Tryz.f87),(89,Tryz.f89),(110,Tryz.f110),(124,Tryz.f124),(156,Tryz.f156),(157,Tryz.f157),(158,Tryz.f158),(159,Tryz.f159),(160,Tryz.f160),(161,Tryz.f161),(163,Tryz.f163),(164,Tryz.f164),(165,Tryz.f165),(168,Tryz.f168),(175,Tryz.f175),(176,Tryz.f176),(177,Tryz.f177),(178,Tryz.f178),(179,Tryz.f179),(180,Tryz.f180),(185,Tryz.f185),(187,Tryz.f187),(188,Tryz.f188),(189,Tryz.f189),(190,Tryz.f190),(191,Tryz.f191),(208,Tryz.f208),(211,Tryz.f211),(212,Tryz.f212),(213,Tryz.f213),(216,Tryz.f216),(217,Tryz.f217),(218,Tryz.f218),(219,Tryz.f219),(220,Tryz.f220),(231,Tryz.f231),(232,Tryz.f232),(235,Tryz.f235),(241,Tryz.f241),(254,Tryz.f254),(259,Tryz.f259),(260,Tryz.f260),(261,Tryz.f261),(266,Tryz.f266),(267,Tryz.f267),(271,Tryz.f271),(272,Tryz.f272),(273,Tryz.f273),(274,Tryz.f274),(275,Tryz.f275),(276,Tryz.f276),(277,Tryz.f277),(284,Tryz.f284),(306,Tryz.f306),(307,Tryz.f307),(310,Tryz.f310),(311,Tryz.f311),(313,Tryz.f313),(314,Tryz.f314),(315,Tryz.f315)],[],[9,10,14,15,19,21,37,39,50,52,53,56,62,87,88,126,127,128,130,131,132,135,170,171,172],[106,90,1042063,1042068]⟩
theorem sxE_check:sxE.check Tryz.prog=true:=by kernel_rfl
theorem sxE_inl:∀p∈sxE.inl,Tryz.prog.funcs[p.1]?=some p.2:=qy2.2 ⟨Tryz.func35,qy2.2 ⟨Tryz.func36,qy2.2 ⟨Tryz.func38,qy2.2 ⟨Tryz.func46,qy2.2 ⟨Tryz.func51,qy2.2 ⟨Tryz.func55,qy2.2 ⟨Tryz.func75,qy2.2 ⟨Tryz.func76,qy2.2 ⟨Tryz.func77,qy2.2 ⟨Tryz.func79,qy2.2 ⟨Tryz.func80,qy2.2 ⟨Tryz.func84,qy2.2 ⟨Tryz.func86,qy2.2 ⟨Tryz.func87,qy2.2 ⟨Tryz.func89,qy2.2 ⟨Tryz.func110,qy2.2 ⟨Tryz.func124,qy2.2 ⟨Tryz.func156,qy2.2 ⟨Tryz.func157,qy2.2 ⟨Tryz.func158,qy2.2 ⟨Tryz.func159,qy2.2 ⟨Tryz.func160,qy2.2 ⟨Tryz.func161,qy2.2 ⟨Tryz.func163,qy2.2 ⟨Tryz.func164,qy2.2 ⟨Tryz.func165,qy2.2 ⟨Tryz.func168,qy2.2 ⟨Tryz.func175,qy2.2 ⟨Tryz.func176,qy2.2 ⟨Tryz.func177,qy2.2 ⟨Tryz.func178,qy2.2 ⟨Tryz.func179,qy2.2 ⟨Tryz.func180,qy2.2 ⟨Tryz.func185,qy2.2 ⟨Tryz.func187,qy2.2 ⟨Tryz.func188,qy2.2 ⟨Tryz.func189,qy2.2 ⟨Tryz.func190,qy2.2 ⟨Tryz.func191,qy2.2 ⟨Tryz.func208,qy2.2 ⟨Tryz.func211,qy2.2 ⟨Tryz.func212,qy2.2 ⟨Tryz.func213,qy2.2 ⟨Tryz.func216,qy2.2 ⟨Tryz.func217,qy2.2 ⟨Tryz.func218,qy2.2 ⟨Tryz.func219,qy2.2 ⟨Tryz.func220,qy2.2 ⟨Tryz.func231,qy2.2 ⟨Tryz.func232,qy2.2 ⟨Tryz.func235,qy2.2 ⟨Tryz.func241,qy2.2 ⟨Tryz.func254,qy2.2 ⟨Tryz.func259,qy2.2 ⟨Tryz.func260,qy2.2 ⟨Tryz.func261,qy2.2 ⟨Tryz.func266,qy2.2 ⟨Tryz.func267,qy2.2 ⟨Tryz.func271,qy2.2 ⟨Tryz.func272,qy2.2 ⟨Tryz.func273,qy2.2 ⟨Tryz.func274,qy2.2 ⟨Tryz.func275,qy2.2 ⟨Tryz.func276,qy2.2 ⟨Tryz.func277,qy2.2 ⟨Tryz.func284,qy2.2 ⟨Tryz.func306,qy2.2 ⟨Tryz.func307,qy2.2 ⟨Tryz.func310,qy2.2 ⟨Tryz.func311,qy2.2 ⟨Tryz.func313,qy2.2 ⟨Tryz.func314,qy2.2 ⟨Tryz.func315,qy5 _⟩⟩⟩⟩⟩⟩⟩⟩⟩⟩⟩⟩⟩⟩⟩⟩⟩⟩⟩⟩⟩⟩⟩⟩⟩⟩⟩⟩⟩⟩⟩⟩⟩⟩⟩⟩⟩⟩⟩⟩⟩⟩⟩⟩⟩⟩⟩⟩⟩⟩⟩⟩⟩⟩⟩⟩⟩⟩⟩⟩⟩⟩⟩⟩⟩⟩⟩⟩⟩⟩⟩⟩⟩
theorem sxE_ok:EnvOK Tryz.prog sxE:=Env.ok sxE_check sxE_inl
abbrev Va (n:Nat):Sc:=.val (.var n)
abbrev Vi (n:Nat):Sc:=.int .i64 (.var n)
abbrev Vs (n:Nat):Sc:=.str (.var n)
abbrev Vb (n:Nat):Sc:=.bool (.var n)
abbrev Vk:Kd:=.int .i64
abbrev Vq (l:List Sc):SV:=.cv (false,l)
abbrev V29:X:=.var 29
abbrev J2:List Kd:=[Vk,.str,.str]
abbrev V31:X:=.var 31
abbrev J4:Ent:=.row 30 172 J2 V31
abbrev V34:X:=.var 34
abbrev J6:List Kd:=[Vk,.bool,.bool,.bool,.bool,Vk,Vk,Vk,Vk,.str,.str,.str,.oth,.oth]
abbrev J7:Ent:=.row 21 172 J2 .nilR
abbrev V25:X:=.var 25
abbrev V26:X:=.var 26
abbrev V27:X:=.var 27
abbrev V28:X:=.var 28
abbrev V30:X:=.var 30
abbrev V32:X:=.var 32
abbrev V33:X:=.var 33
abbrev Jf:Ent:=.cells 20 236 [Vs 25,Vb 26,Vb 27,Va 28,Va 30,Vi 32,Va 33]
abbrev V0:X:=.var 0
abbrev V1:X:=.var 1
abbrev V2:X:=.var 2
abbrev V16:X:=.var 16
abbrev V18:X:=.var 18
abbrev V7:X:=.var 7
abbrev Jm:Ent:=.cells 15 63 [Vs 0,Vb 1,Vb 2,Va 16,Va 18,Vi 7]
abbrev Jn:Ent:=.cells 14 63 [Vs 0,Vb 1,Vb 2,Va 16,Va 18,Vi 7]
abbrev V3:X:=.var 3
abbrev V5:X:=.var 5
abbrev Jq:Ent:=.cells 13 63 [Vs 0,Vb 1,Vb 2,Va 3,Va 5,Vi 7]
abbrev Jr:Ent:=.row 12 31 J6 .nilR
abbrev V24:X:=.var 24
abbrev V4:X:=.var 4
abbrev Ju:Ent:=.rd 3 J2 V4
abbrev V6:X:=.var 6
abbrev Jw:Ent:=.rd 5 J2 V6
abbrev Jx:List Ent:=[.cells 9 63 [Vs 0,Vb 1,Vb 2,Va 3,Va 5,Vi 7],Ju,Jw]
abbrev Jy:List Ent:=.cells 10 3 [Vi 24]::Jx
abbrev V19:X:=.var 19
abbrev J10:Ent:=.row 18 172 J2 V19
abbrev V17:X:=.var 17
abbrev J12:Ent:=.row 16 172 J2 V17
abbrev N13:X:=.I 0
abbrev J14:Ent:=.cells 11 63 [.str (.S []),.bool (.B false),.bool (.B false),.nils,.nils,.int .i64 N13]
abbrev J15:List Ent:=J7::.cells 20 236 [Vs 0,Vb 1,Vb 2,Va 16,Va 18,Vi 7,.nils]::J10::J12::Jm::Jn::Jq::Jr::J14::Jy
abbrev V22:X:=.var 22
abbrev N17:X:=.I 1
abbrev V23:X:=.var 23
abbrev N19:X:=.I 9223372036854775807
abbrev N1a:X:=.I (-9223372036854775808)
abbrev V35:X:=.var 35
abbrev J1c:Ent:=.row 34 172 J2 V35
abbrev V37:X:=.var 37
abbrev J1e:Ent:=.row 36 172 J2 V37
abbrev V40:X:=.var 40
abbrev J1g:Ent:=.cells 25 172 [.int .i64 (.rI V17 V23 0),.str (.rS V17 V23 1),.str (.rS V17 V23 2)]
abbrev V36:X:=.var 36
abbrev V38:X:=.var 38
abbrev V39:X:=.var 39
abbrev J1k:Ent:=.cells 20 236 [Vs 31,Vb 32,Vb 33,Va 34,Va 36,Vi 38,Va 39]
abbrev J1l:X:=.consS (.S []) .nilL
abbrev J1m:X:=.clrR V28 V26 (.consI .i64 N13 (.consS (.S []) J1l))
abbrev J1n:Ent:=.row 29 172 J2 V30
abbrev J1o:Ent:=.row 31 172 J2 V32
abbrev J1p:Ent:=.cells 20 236 [Vs 26,Vb 27,Vb 28,Va 29,Va 31,Vi 33,Va 34]
abbrev N1q:X:=.I (-1)
abbrev V8:X:=.var 8
abbrev J1s:Ent:=.cells 14 63 [Vs 0,Vb 1,Vb 2,Va 3,Va 5,Vi 7]
abbrev J1t:List Ent:=.cells 15 63 [.str (.S []),.bool (.B false),.bool (.B false),.nils,.nils,.int .i64 N13]::J1s::Jq::Jr::J14::.cells 10 3 [Vi 8]::Jx
abbrev J1u:Tree:=.callM 268 [Vq [Va 3]] J1t [] [] [] [J12] (Vq [Va 16]) 2 (.callM 268 [Vq [Va 5]] (J12::J1t) [] [] [] [J10] (Vq [Va 18]) 2 (.bindN (.letV .nilS (.loop [N13,N13,V8] (.ite (.lt V23 (.rlen V17)) (.need (.le N13 V23) (.bindN (.ite (.eqI (.rI V17 V23 0) V24) (.ite (.eqI V23 N1q) (.callM 214 [Vq [.ptr 20 0]] (J1g::J15) [20] [16,18] [J1p] [J1n,J1o,.row 34 31 J6 V35] (.tup []) 10 (.ret (.tup [(true,[Vs 26,Vb 27,Vb 28,Va 29,Va 31,Vi 33]),(false,[Va 34])]) (J1n::J1o::.row 34 31 J6 V35::J1g::J7::J1p::Jm::Jn::Jq::Jr::.cells 11 63 [Vs 26,Vb 27,Vb 28,Va 29,Va 31,Vi 33]::Jy))) (.need (.le N1a (.add V23 N17)) (.need (.le (.add V23 N17) N19) (.loop [V23,.add V23 N17,V17,V24] (.ite (.lt V27 (.rlen V28)) (.need (.le N13 V27) (.bindN (.bindN (.ite (.not (.eqI (.rI V28 V27 0) V29)) (.need (.le N13 V26) (.need (.lt V26 (.rlen V28)) (.need (.le N1a (.add V26 N17)) (.need (.le (.add V26 N17) N19) (.need (.le N1a (.add V27 N17)) (.need (.le (.add V27 N17) N19) (.back 1 [.add V26 N17,.add V27 N17,.setR V28 V26 (.consI .i64 (.rI V28 V27 0) (.consS (.rS V28 V27 1) (.consS (.rS V28 V27 2) .nilL))),V29]))))))) (.need (.le N1a (.add V27 N17)) (.need (.le (.add V27 N17) N19) (.back 1 [V26,.add V27 N17,V28,V29]))))))) (.need (.le N13 V26) (.need (.le V26 (.rlen V28)) (.need (.le V26 (.rlen J1m)) (.bindV (.callM 214 [Vq [.ptr 20 0]] (.row 30 172 J2 (.takeR J1m V26)::J1g::J7::.cells 20 236 [Vs 0,Vb 1,Vb 2,Va 30,Va 18,Vi 7,.nils]::J10::Jm::Jn::Jq::Jr::J14::.cells 10 3 [Vi 29]::Jx) [20] [30,18] [J1k] [J1c,J1e,.row 39 31 J6 V40] (.tup []) 10 (.ret (.tup [(true,[Vs 31,Vb 32,Vb 33,Va 34,Va 36,Vi 38]),(false,[Va 39])]) (J1c::J1e::.row 39 31 J6 V40::J1g::J7::J1k::Jm::Jn::Jq::Jr::.cells 11 63 [Vs 31,Vb 32,Vb 33,Va 34,Va 36,Vi 38]::.cells 10 3 [Vi 29]::Jx)))))))))))) (.need (.le N1a (.add V23 N17)) (.need (.le (.add V23 N17) N19) (.back 0 [V22,.add V23 N17,V24])))))) (.callM 214 [Vq [.ptr 20 0]] J15 [20] [16,18] [Jf] [.row 28 172 J2 V29,J4,.row 33 31 J6 V34] (.tup []) 10 (.ret (.tup [(true,[Vs 25,Vb 26,Vb 27,Va 28,Va 30,Vi 32]),(false,[Va 33])]) (.row 28 172 J2 V29::J4::.row 33 31 J6 V34::J7::Jf::Jm::Jn::Jq::Jr::.cells 11 63 [Vs 25,Vb 26,Vb 27,Va 28,Va 30,Vi 32]::Jy))))))))
abbrev J1v:Tree:=.loop [N13,.rlen V1] (.ite (.lt V3 V4) (.need (.le N1a (.add V3 V4)) (.need (.le (.add V3 V4) N19) (.need (.le N1a (.shr .u64 (.wrap .u64 (.add V3 V4)) N17)) (.need (.le (.shr .u64 (.wrap .u64 (.add V3 V4)) N17) N19) (.need (.le N13 (.shr .u64 (.wrap .u64 (.add V3 V4)) N17)) (.need (.lt (.shr .u64 (.wrap .u64 (.add V3 V4)) N17) (.rlen V1)) (.bindN (.callP (.B true) 162 [Vq [.str (.rS V1 (.shr .u64 (.wrap .u64 (.add V3 V4)) N17) 0)],Vq [Vs 2]] [] (Vq [Vi 6]) 1 (.ite (.lt V6 N13) (.need (.le N1a (.add (.shr .u64 (.wrap .u64 (.add V3 V4)) N17) N17)) (.need (.le (.add (.shr .u64 (.wrap .u64 (.add V3 V4)) N17) N17) N19) (.back 0 [.add (.shr .u64 (.wrap .u64 (.add V3 V4)) N17) N17,V4]))) (.back 0 [V3,.shr .u64 (.wrap .u64 (.add V3 V4)) N17])))))))))) (.ite (.lt V3 (.rlen V1)) (.need (.le N13 V3) (.bindN (.callP (.B true) 162 [Vq [.str (.rS V1 V3 0)],Vq [Vs 2]] [] (Vq [Vi 6]) 1 (.ret (.tup [(false,[Vi 3]),(false,[.bool (.eqI V6 N13)])]) [])))) (.ret (.tup [(false,[Vi 3]),(false,[.bool (.B false)])]) [])))
abbrev J1w:Tree:=.ret (Vq [.int .i64 N13]) []
abbrev J1x:List X:=[V5,.add V6 N17]
abbrev N1y:X:=.I 6
abbrev J1z:Tree:=.ret (Vq [.int .i64 N1y]) []
abbrev J20:List X:=[N13]
abbrev N21:X:=.I 3
abbrev J22:Tree:=.ret (Vq [.int .i64 N21]) []
abbrev N23:X:=.I 16777215
abbrev J24:Tree:=.ret (Vq [Vi 4]) []
abbrev J25:List X:=N13::J20
abbrev N26:X:=.I 2
abbrev J27:Tree:=.ret (Vq [.int .i64 N26]) []
abbrev V11:X:=.var 11
abbrev V9:X:=.var 9
abbrev J2a:List Kd:=[Vk]
abbrev V10:X:=.var 10
abbrev J2c:Tree:=.ret (Vq [Vi 5]) []
abbrev N2d:X:=.I 8
abbrev J2e:Tree:=.ret (Vq [.bool (.and (.and (.le N17 (.len V0)) (.le (.len V0) (.I 20))) V1)]) []
abbrev V20:X:=.var 20
abbrev J2g:Ent:=.row 17 172 J2 V18
abbrev J2h:Ent:=.cells 16 63 [Vs 0,Vb 1,Vb 2,Va 17,Va 19,Vi 7]
abbrev J2i:Ent:=.cells 15 63 [Vs 0,Vb 1,Vb 2,Va 17,Va 19,Vi 7]
abbrev J2j:Ent:=.row 13 31 J6 .nilR
abbrev J2k:Ent:=.cells 11 63 [Vs 0,Vb 1,Vb 2,Va 3,Va 5,Vi 7]
abbrev J2l:List Ent:=[.row 19 172 J2 V20,J2g,J2h,J2i,J1s,J2j,.cells 12 63 [Vs 0,Vb 1,Vb 2,Va 17,Va 19,Vi 7],J2k,Ju,Jw]
abbrev J2m:X:=.consI .i64 N13 (.consS V8 (.consS V9 .nilL))
abbrev J2n:Ent:=.row 22 172 J2 (.snocR .nilR J2m)
abbrev J2o:Ent:=.cells 21 236 [Vs 24,Vb 25,Vb 26,Va 27,Va 29,Vi 31,Va 32]
abbrev J2p:Ent:=.cells 12 63 [.str (.S []),.bool (.B false),.bool (.B false),.nils,.nils,.int .i64 N13]
abbrev N2q:X:=.I 3518437208883
abbrev J2r:X:=.consV .nilS (.consV .nilS .nilL)
abbrev J2s:X:=.snocR .nilR (.consI .i64 N21 (.consB (.B false) (.consB (.B false) (.consB (.B false) (.consB (.B false) (.consI .i64 N13 (.consI .i64 N13 (.consI .i64 N13 (.consI .i64 N13 (.consS (.S []) (.consS V8 (.consS V9 J2r))))))))))))
abbrev N2t:X:=.I 977343669134
abbrev J2u:List Ent:=[.cells 16 63 [.str (.S []),.bool (.B false),.bool (.B false),.nils,.nils,.int .i64 N13],.cells 15 63 [Vs 0,Vb 1,Vb 2,Va 3,Va 5,Vi 7],J1s,J2j,J2p,J2k,Ju,Jw]
abbrev J2v:Tree:=.callM 268 [Vq [Va 3]] J2u [] [] [] [J2g] (Vq [Va 17]) 2 (.callM 268 [Vq [Va 5]] (J2g::J2u) [] [] [] [.row 19 172 J2 V20] (Vq [Va 19]) 2 (.bindN (.ite (.and (.eqI V10 N13) V1) (.bindV (.letV .nilS (.need (.le (.add (.rlen .nilR) (.rlen J2s)) N2t) (.bindV (.ret (.tup [(true,[Vs 0,Vb 1,Vb 2,Va 17,Va 19,Vi 7]),(false,[Va 24])]) (.row 24 31 J6 J2s::.row 22 31 J6 J2s::.cells 21 236 [Vs 0,Vb 1,Vb 2,Va 17,Va 19,Vi 7,Va 24]::J2l)))))) (.ite (.and (.and (.eqI V10 N17) (.or V1 (.not V2))) (.lt (.rlen V20) N1y)) (.bindV (.need (.le (.add (.rlen V20) (.rlen (.snocR .nilR J2m))) N2q) (.bindV (.callM 214 [Vq [.ptr 21 0]] [.row 23 172 J2 (.snocR V20 J2m),J2n,.cells 21 236 [Vs 0,Vb 1,Vb 2,Va 17,Va 23,Vi 7,.nils],J2g,J2h,J2i,J1s,J2j,J2p,J2k,Ju,Jw] [21] [17,23] [J2o] [.row 27 172 J2 V28,J1n,.row 32 31 J6 V33] (.tup []) 10 (.ret (.tup [(true,[Vs 24,Vb 25,Vb 26,Va 27,Va 29,Vi 31]),(false,[Va 32])]) [.row 27 172 J2 V28,J1n,.row 32 31 J6 V33,J2n,J2o,J2h,J2i,J1s,J2j,.cells 12 63 [Vs 24,Vb 25,Vb 26,Va 27,Va 29,Vi 31],J2k,Ju,Jw]))))) (.ret (.tup [(true,[Vs 0,Vb 1,Vb 2,Va 17,Va 19,Vi 7]),(false,[.nils])]) (.cells 21 236 [Vs 0,Vb 1,Vb 2,Va 17,Va 19,Vi 7,.nils]::J2l))))))
abbrev N2w:X:=.I 4
abbrev J2x:Tree:=.ret (Vq [.int .i64 N2w]) []
abbrev J2y:Ent:=.cells 8 63 [Vs 0,Vb 1,Vb 2,Va 3,Va 5,Vi 7]
abbrev J2z:List Ent:=[J2y,Ju,Jw]
abbrev J30:Tree:=.ret (Vq [.int .i64 N17]) []
abbrev J31:Tree:=.need (.le N1a (.add V3 N17)) (.need (.le (.add V3 N17) N19) (.back 0 [V2,.add V3 N17]))
abbrev J32:List X:=.B false::J20
abbrev V12:X:=.var 12
abbrev V14:X:=.var 14
abbrev J35:Tree:=.ret (Vq [Vi 14]) []
abbrev V15:X:=.var 15
abbrev J37:Tree:=.need (.le V10 (.rlen V4)) (.bindV (.callP (.B true) 279 [Vq [Va 14],Vq [.int .i64 (.rI V4 V10 0)]] (.rd 14 J2 (.dropR (.takeR V4 V10) N13)::.cells 11 172 [.int .i64 (.rI V4 V10 0),.str (.rS V4 V10 1),.str (.rS V4 V10 2)]::J2z) (Vq [Vb 15]) 1 (.ite V15 J1z (.need (.le N1a (.add V10 N17)) (.need (.le (.add V10 N17) N19) (.back 0 [V9,.add V10 N17]))))))
abbrev V13:X:=.var 13
abbrev J39:Tree:=.ret (Vq [Vi 12]) []
abbrev J3a:Tree:=.ret (.tup [(false,[Vs 13]),(false,[.int .i64 N13])]) []
abbrev J3b:List Kd:=[.str]
abbrev J3c:List Kd:=[Vk,.str]
abbrev J3d:List Ent:=[.rd 4 J3c V5]
abbrev J3e:List Ent:=.cells 7 50 [Vi 0,Vi 1,Vi 2,Vs 3,Va 4,Vs 6]::J3d
abbrev J3f:X:=.consS (.rS V5 V12 1) .nilL
abbrev N3g:X:=.I 11
abbrev J3h:List Ent:=[.row 1 9 J3b .nilR]
abbrev J3i:X:=.consS (.sl V0 V5 V6) .nilL
abbrev J3j:Tree:=.ret (Vq [.bool (.B true)]) []
abbrev J3k:Tree:=.need (.le N1a (.add V5 N17)) (.need (.le (.add V5 N17) N19) (.back 0 [V4,.add V5 N17]))
abbrev J3l:Tree:=.ret (Vq [.bool (.B false)]) []
abbrev J3m:List Ent:=[.rd 2 J3b V3]
abbrev N3n:X:=.I 200
abbrev J3o:Tree:=.ret (Vq [Vi 17]) []
abbrev J3p:X:=.catR .nilR V1
abbrev J3q:List Ent:=[.row 2 172 J2 .nilR,.rd 0 J2 V1]
abbrev J3r:Tree:=.need (.le N1a (.add V2 N17)) (.need (.le (.add V2 N17) N19) (.back 0 [V1,.add V2 N17]))
abbrev J3s:Ent:=.cells 18 236 [Vs 28,Vb 29,Vb 30,Va 31,Va 33,Vi 35,Va 36]
abbrev J3t:Ent:=.cells 13 63 [Vs 0,Vb 1,Vb 2,Va 14,Va 16,Vi 7]
abbrev J3u:Ent:=.cells 12 63 [Vs 0,Vb 1,Vb 2,Va 14,Va 16,Vi 7]
abbrev J3v:Ent:=.row 10 31 J6 .nilR
abbrev V21:X:=.var 21
abbrev J3x:Ent:=.row 23 172 J2 V24
abbrev J3y:Ent:=.row 14 172 J2 V15
abbrev J3z:Ent:=.cells 9 63 [.str (.S []),.bool (.B false),.bool (.B false),.nils,.nils,.int .i64 N13]
abbrev J40:X:=.consI .i64 N21 (.consB (.B true) (.consB (.B false) (.consB (.B false) (.consB (.B false) (.consI .i64 N17 (.consI .i64 (.rI V15 V19 0) (.consI .i64 N13 (.consI .i64 N13 (.consS (.S []) (.consS (.rS V15 V19 1) (.consS (.rS V15 V19 2) J2r)))))))))))
abbrev J41:List Ent:=.cells 13 63 [.str (.S []),.bool (.B false),.bool (.B false),.nils,.nils,.int .i64 N13]::.cells 12 63 [Vs 0,Vb 1,Vb 2,Va 3,Va 5,Vi 7]::J2k::J3v::J3z::J2z
abbrev J42:Tree:=.callM 268 [Vq [Va 3]] J41 [] [] [] [J3y] (Vq [Va 14]) 2 (.callM 268 [Vq [Va 5]] (J3y::J41) [] [] [] [J12] (Vq [Va 16]) 2 (.bindN (.loop [N13,V0,.B true,V2,V16,V17,V7,.nilS,.nilR] (.ite (.lt V19 (.rlen V15)) (.need (.le N13 V19) (.bindN (.bindN (.bindV (.need (.le (.add (.rlen V27) (.rlen (.snocR .nilR J40))) N2t) (.bindV (.need (.le N1a (.add V19 N17)) (.need (.le (.add V19 N17) N19) (.back 0 [.add V19 N17,V20,V21,V22,V23,V24,V25,V31,.snocR V27 J40]))))))))) (.callM 214 [Vq [.ptr 18 0]] [.cells 18 236 [Vs 20,Vb 21,Vb 22,Va 14,Va 23,Vi 25,Va 26],J3x,J3y,J3t,J3u,J2k,J3v,J3z,J2y,Ju,Jw,.row 26 31 J6 V27] [18] [14,23,26] [J3s] [J1o,.row 33 172 J2 V34,.row 36 31 J6 V37] (.tup []) 10 (.ret (.tup [(true,[Vs 28,Vb 29,Vb 30,Va 31,Va 33,Vi 35]),(false,[Va 36])]) (J1o::.row 33 172 J2 V34::.row 36 31 J6 V37::J3s::J3t::J3u::J2k::J3v::.cells 9 63 [Vs 28,Vb 29,Vb 30,Va 31,Va 33,Vi 35]::J2z)))))))
abbrev J43:Ent:=.row 13 172 J2 V14
abbrev J44:Ent:=.cells 10 63 [Vs 0,Vb 1,Vb 2,Va 3,Va 5,Vi 7]
abbrev J45:List Ent:=J2p::J2k::J44::J3z::J2z
abbrev J46:Tree:=.callM 268 [Vq [Va 3]] J45 [] [] [] [J43] (Vq [Va 13]) 2 (.callM 268 [Vq [Va 5]] (J43::J45) [] [] [] [.row 15 172 J2 V16] (Vq [Va 15]) 2 (.bindN (.ite V2 (.ret (.cv (true,[Vs 0,.bool (.B false),Vb 2,.nils,.nils,Vi 7])) []) (.ret (.cv (true,[Vs 0,.bool (.B false),Vb 2,Va 13,Va 15,Vi 7])) (.cells 17 236 [Vs 0,.bool (.B false),Vb 2,Va 13,Va 15,Vi 7,.nils]::.row 15 172 J2 V16::J43::.cells 12 63 [Vs 0,Vb 1,Vb 2,Va 13,Va 15,Vi 7]::.cells 11 63 [Vs 0,Vb 1,Vb 2,Va 13,Va 15,Vi 7]::J44::.cells 9 63 [Vs 0,.bool (.B false),Vb 2,Va 13,Va 15,Vi 7]::J2z)))))
abbrev J47:List Kd:=[Vk,.str,.str,Vk]
abbrev J48:Ent:=.row 7 68 J47 V8
abbrev J49:Ent:=.row 6 68 J47 .nilR
abbrev J4a:List Ent:=[.rd 0 J47 V1]
abbrev J4b:List Ent:=.row 9 68 J47 .nilR::J48::J49::.cells 5 9 [Vs 12]::.cells 4 3 [Vi 13]::J4a
abbrev J4c:X:=.consI .i64 N13 .nilL
abbrev J4d:X:=.consS (.S []) (.consS (.S []) J4c)
abbrev J4e:X:=.clrR V18 V16 (.consI .i64 N13 J4d)
abbrev J4f:Ent:=.cells 15 68 [.int .i64 (.rI V8 V11 0),.str (.rS V8 V11 1),.str (.rS V8 V11 2),.int .i64 (.rI V8 V11 3)]
abbrev J4g:Ent:=.cells 14 68 [.int .i64 (.rI V8 V11 0),.str (.rS V8 V11 1),.str (.rS V8 V11 2),.int .i64 (.rI V8 V11 3)]
abbrev J4h:Ent:=.rd 20 J3c V21
abbrev J4i:Ent:=.cells 10 50 [Vi 0,Vi 1,Vi 2,Vs 3,Va 4,Vs 6]
abbrev J4j:List Ent:=.cells 11 150 [Vi 7,Vb 8,Vi 9]::J4i::J3d
abbrev J4k:Ent:=.cells 12 50 [.int .i64 N13,.int .i64 N13,.int .i64 N13,.str (.S []),.nils,.str (.S [])]
abbrev J4l:Tree:=.ite (.and (.lt N13 V3) (.not V5)) J2x J31
abbrev J4m:List Kd:=[.str,.str,Vk]
abbrev J4n:Ent:=.row 5 106 J4m V6
abbrev J4o:Ent:=.row 4 106 J4m .nilR
abbrev J4p:Ent:=.rd 0 J4m V1
abbrev J4q:List Ent:=[.row 7 106 J4m .nilR,J4n,J4o,.cells 3 9 [Vs 10],J4p]
abbrev J4r:Ent:=.cells 11 106 [.str (.rS V6 V9 0),.str (.rS V6 V9 1),.int .i64 (.rI V6 V9 2)]
abbrev J4s:Ent:=.rd 11 J2 V12
abbrev J4t:List Ent:=[.cells 17 63 [Vs 8,Vb 9,Vb 10,Va 11,Va 13,Vi 15],.cells 16 63 [Vs 0,Vb 1,Vb 2,Va 3,Va 5,Vi 7],Ju,Jw,J4s,.rd 13 J2 V14]
abbrev J4u:Tree:=.ret (.tup [(false,[.int .i64 N13]),(false,[.int .i64 (.I 5)])]) []
abbrev N4v:X:=.I 65535
abbrev J4w:Tree:=.need (.le N1a (.add V4 N17)) (.need (.le (.add V4 N17) N19) (.back 0 [V3,.add V4 N17]))
abbrev J4x:Tree:=.loop J25 (.ite (.lt V4 (.rlen V1)) (.need (.le N13 V4) (.ite (.eqS (.rS V1 V4 0) V2) J24 J4w)) (.ret (Vq [.int .i64 N1q]) []))
abbrev V42:X:=.var 42
abbrev V41:X:=.var 41
abbrev J50:Ent:=.cells 14 50 [Vi 0,Vi 1,Vi 2,Vs 3,Va 15,Vs 6]
abbrev J51:Ent:=.cells 13 50 [Vi 0,Vi 1,Vi 2,Vs 3,Va 15,Vs 6]
abbrev J52:List Ent:=[J4i,.rd 4 J3c V5,.rd 8 J3b V9]
abbrev J53:X:=.consI .i64 V33 (.consS (.rS V9 V40 0) .nilL)
abbrev J54:Tree:=.jump 0 [N13,N13,N13,N13,N13,N13,N13,N13,N13,N13,V15,V21,V16]
abbrev J55:X:=.clrR V25 V23 (.consI .i64 N13 J1l)
abbrev J56:List X:=[V23,.add V24 N17,V25,V26]
abbrev J57:Ent:=.cells 14 50 [.int .i64 N13,.int .i64 N13,.int .i64 N13,.str (.S []),.nils,.str (.S [])]
abbrev J58:Ent:=.cells 13 50 [Vi 0,Vi 1,Vi 2,Vs 3,Va 4,Vs 6]
abbrev J59:List Ent:=.row 4 68 J47 .nilR::.row 3 68 J47 .nilR::J4a
abbrev J5a:X:=.setR V11 V10 (.consI .i64 (.rI V11 V10 0) (.consS (.rS V11 V10 1) (.consS (.rS V11 V10 2) (.consI .i64 (.bits .and .i64 (.add (.rI V11 V10 3) N17) N23) .nilL))))
abbrev J5b:X:=.consI .i64 (.rI J5a V10 0) (.consS (.rS J5a V10 1) (.consS (.rS J5a V10 2) (.consI .i64 (.rI J5a V10 3) .nilL)))
abbrev N5c:X:=.I 2932031007402
abbrev J5d:X:=.consI .i64 N17 .nilL
abbrev J5e:X:=.consI .i64 V2 (.consS V3 (.consS V4 (.consI .i64 V5 .nilL)))
abbrev J5f:X:=.snocR .nilR J5e
abbrev J5g:List Ent:=.row 7 68 J47 .nilR::.cells 6 68 [Vi 2,Vs 3,Vs 4,Vi 5]::J4a
abbrev J5h:List Ent:=.row 11 68 J47 (.snocR V10 J5e)::.row 8 68 J47 J5f::J5g
abbrev J5i:List Ent:=.row 11 68 J47 (.snocR V9 J5e)::.row 10 68 J47 J5f::J5g
abbrev J5j:Tree:=.callM 229 [Vq [Va 0],Vq [Vi 2],Vq [Vs 3]] J5g [] [] [] [.row 8 68 J47 V9] (Vq [Va 8]) 2 (.bindV (.need (.le (.add (.rlen V9) (.rlen J5f)) N5c) (.bindV (.ite (.lt (.I 12) (.rlen (.snocR V9 J5e))) (.letV .nilS (.ret (.tup [(false,[Va 12]),(false,[.int .i64 N26])]) (.row 12 68 J47 .nilR::J5i))) (.ret (.tup [(false,[Va 11]),(false,[.int .i64 N13])]) J5i)))))
abbrev J5k:Ent:=.cells 25 50 [Vi 17,Vi 18,Vi 19,Vs 20,Va 21,Vs 23]
abbrev J5l:Ent:=.cells 24 50 [Vi 17,Vi 18,Vi 19,Vs 20,Va 21,Vs 23]
abbrev J5m:Ent:=.rd 21 J3c V22
abbrev J5n:Ent:=.row 16 9 J3b (.snocR .nilR (.consS V15 .nilL))
abbrev J5o:Ent:=.cells 14 50 [Vi 17,Vi 18,Vi 19,Vs 20,Va 21,Vs 23]
abbrev J5p:List Ent:=.cells 9 50 [Vi 0,Vi 1,Vi 2,Vs 3,Va 4,Vs 6]::J3d
abbrev J5q:List Ent:=.cells 10 50 [.int .i64 N13,.int .i64 N13,.int .i64 N13,.str (.S []),.nils,.str (.S [])]::J5p
abbrev J5r:X:=.dropR (.takeR V1 V3) N13
abbrev J5s:Tree:=.ret (Vq [Vb 6]) []
abbrev J5t:List Ent:=[.row 4 172 J2 V5,.row 6 172 J2 V7,.row 9 31 J6 V10,.cells 0 236 [Vs 1,Vb 2,Vb 3,Va 4,Va 6,Vi 8,Va 9]]
abbrev J5u:X:=.consI .i64 N21 (.consB (.B false) (.consB (.B false) (.consB (.B false) (.consB (.B false) (.consI .i64 N17 (.consI .i64 V12 (.consI .i64 N13 (.consI .i64 N13 (.consS (.S []) (.consS (.rS V7 N13 1) (.consS (.rS V7 N13 2) J2r)))))))))))
abbrev J5v:Ent:=.row 18 31 J6 (.snocR .nilR J5u)
abbrev J5w:Ent:=.cells 17 172 [Vi 12,.str (.rS V7 N13 1),.str (.rS V7 N13 2)]
abbrev J5x:X:=.consI .i64 V12 (.consS (.rS V7 N13 1) (.consS (.rS V7 N13 2) .nilL))
abbrev J5y:Ent:=.row 15 172 J2 (.snocR .nilR J5x)
abbrev J5z:Ent:=.cells 11 172 [Vi 12,.str (.rS V7 N13 1),.str (.rS V7 N13 2)]
abbrev J60:List Ent:=[.row 28 31 J6 V29,J5v,J5w,J3x,J5y,.rd 25 J2 V26,J5z,.rd 6 J2 V7,.cells 0 236 [Vs 20,Vb 21,Vb 22,Va 23,Va 25,Vi 27,Va 28]]
abbrev J61:X:=.consI .i64 V31 (.consS (.rS V26 N13 1) (.consS (.rS V26 N13 2) .nilL))
abbrev J62:X:=.consI .i64 N21 (.consB (.B false) (.consB (.B false) (.consB (.B false) (.consB (.B false) (.consI .i64 N17 (.consI .i64 V31 (.consI .i64 N13 (.consI .i64 N13 (.consS (.S []) (.consS (.rS V26 N13 1) (.consS (.rS V26 N13 2) J2r)))))))))))
abbrev J63:List Kd:=[.str,Vk]
abbrev J64:List Ent:=[.rd 12 J63 V13,.rd 14 J2a V15]
abbrev J65:List Ent:=.cells 16 31 [Vi 0,Vb 1,Vb 2,Vb 3,Vb 4,Vi 5,Vi 6,Vi 7,Vi 8,Vs 9,Vs 10,Vs 11,Va 12,Va 14]::J64
abbrev J66:Tree:=.callP (.B true) 203 [.cv (true,[Vi 0,Vb 1,Vb 2,Vb 3,Vb 4,Vi 5,Vi 6,Vi 7,Vi 8,Vs 9,Vs 10,Vs 11,Va 12,Va 14])] J65 (Vq [Vi 17]) 1 J3o
abbrev J67:List Ent:=[J4o,J4p]
abbrev J68:List Ent:=J4n::J67
abbrev J69:X:=.setR V6 V7 (.consS (.rS V6 V7 0) (.consS V3 (.consI .i64 (.rI V6 V7 2) .nilL)))
abbrev J6a:List X:=[.add V13 N17]
abbrev J6b:List X:=[.add V14 N17]
abbrev J6c:Tree:=.need (.le N1a (.add V19 N17)) (.need (.le (.add V19 N17) N19) (.back 0 [V18,.add V19 N17]))
abbrev N6d:X:=.I 128
abbrev J6e:Tree:=.ret (.cv (true,[Vi 0,Vb 1,Vb 2,Vb 3,Vb 4,Vi 5,.int .i64 N13,Vi 7,Vi 8,Vs 9,Vs 10,Vs 11,.nils,Va 14])) (.cells 17 31 [Vi 0,Vb 1,Vb 2,Vb 3,Vb 4,Vi 5,.int .i64 N13,Vi 7,Vi 8,Vs 9,Vs 10,Vs 11,.nils,Va 14]::.cells 16 31 [Vi 0,Vb 1,Vb 2,Vb 3,Vb 4,Vi 5,.int .i64 N13,Vi 7,Vi 8,Vs 9,Vs 10,Vs 11,.nils,Va 14]::J64)
abbrev J6f:Tree:=.ret (.cv (true,[Vi 0,Vb 1,Vb 2,Vb 3,Vb 4,Vi 5,.int .i64 N13,Vi 7,Vi 8,Vs 9,Vs 10,Vs 11,Va 12,Va 14])) (.cells 17 31 [Vi 0,Vb 1,Vb 2,Vb 3,Vb 4,Vi 5,.int .i64 N13,Vi 7,Vi 8,Vs 9,Vs 10,Vs 11,Va 12,Va 14]::.cells 16 31 [Vi 0,Vb 1,Vb 2,Vb 3,Vb 4,Vi 5,.int .i64 N13,Vi 7,Vi 8,Vs 9,Vs 10,Vs 11,Va 12,Va 14]::J64)
abbrev J6g:Tree:=.ret (Vq [.int .i64 (.I 7)]) []
abbrev J6h:X:=.dropR (.takeR V1 (.rlen V1)) N17
abbrev J6i:X:=.dropR (.takeR V3 (.rlen V3)) N17
abbrev J6j:List Ent:=.rd 30 J63 V31::.rd 32 J2a V33::J65
abbrev J6k:Tree:=.callP (.B true) 125 [.cv (true,[Vi 0,Vb 1,Vb 2,Vb 3,Vb 4,Vi 5,Vi 6,Vi 7,Vi 8,Vs 9,Vs 10,Vs 11,Va 12,Va 14])] J6j (Vq [Vi 36]) 1 (.ret (Vq [Vi 36]) [])
abbrev J6l:Tree:=.callP (.B true) 125 [.cv (true,[Vi 0,Vb 1,Vb 2,Vb 3,Vb 4,Vi 5,Vi 6,Vi 7,Vi 8,Vs 9,Vs 10,Vs 11,Va 12,Va 14])] J6j (Vq [Vi 37]) 1 (.ret (Vq [Vi 37]) [])
abbrev J6m:Ent:=.cells 21 50 [Vi 14,Vi 15,Vi 16,Vs 17,Va 18,Vs 20]
abbrev J6n:Ent:=.rd 18 J3c V19
abbrev J6o:Ent:=.rd 12 J3b V13
abbrev J6p:List Ent:=.cells 8 50 [Vi 0,Vi 1,Vi 2,Vs 3,Va 4,Vs 6]::J3d
abbrev J6q:List Ent:=.cells 9 50 [.int .i64 N13,.int .i64 N13,.int .i64 N13,.str (.S []),.nils,.str (.S [])]::J6p
abbrev J6r:Tree:=.callM 112 [Vq [Vs 7]] J6q [] [] [] [J6o] (Vq [Va 12]) 2 (.callM 111 [.cv (true,[Vi 0,Vi 1,Vi 2,Vs 3,Va 4,Vs 6]),Vq [.int .i64 N3g],Vq [Va 12]] (J6o::J6q) [] [] [] [J6n] (.cv (true,[Vi 14,Vi 15,Vi 16,Vs 17,Va 18,Vs 20])) 7 (.bindN (.bindN (.callP (.B true) 85 [.cv (true,[Vi 14,Vi 15,Vi 16,Vs 17,Va 18,Vs 20])] (.cells 22 50 [.int .i64 N13,.int .i64 N13,.int .i64 N13,.str (.S []),.nils,.str (.S [])]::J6m::J6n::J6o::J6q) (Vq [Vi 23]) 1 (.ite (.not (.eqI V23 N13)) (.ret (.tup [(true,[.int .i64 N13,.int .i64 N13,.int .i64 N13,.str (.S []),.nils,.str (.S [])]),(false,[Vi 23])]) []) (.ret (.tup [(true,[Vi 14,Vi 15,Vi 16,Vs 17,Va 18,Vs 20]),(false,[.int .i64 N13])]) (.cells 22 50 [Vi 14,Vi 15,Vi 16,Vs 17,Va 18,Vs 20]::J6m::J6n::J6o::.cells 9 50 [Vi 14,Vi 15,Vi 16,Vs 17,Va 18,Vs 20]::J6p)))))))
abbrev J6s:Ent:=.cells 9 90 [Vs 2,Vs 3,Vi 4]
abbrev J6t:List Ent:=[.row 6 90 J4m .nilR,.cells 5 90 [Vs 2,Vs 3,Vi 4],J4p]
abbrev J6u:X:=.consS V2 (.consS V3 (.consI .i64 V4 .nilL))
abbrev J6v:List Ent:=J6s::.row 7 90 J4m V8::J6t
abbrev J6w:Ent:=.row 14 90 J4m V15
abbrev J6x:List Ent:=[.row 2 127 J3c .nilR,.rd 0 J3c V1]
abbrev V70:X:=.var 70
abbrev V69:X:=.var 69
abbrev V68:X:=.var 68
abbrev V50:X:=.var 50
abbrev V71:X:=.var 71
abbrev V66:X:=.var 66
abbrev V51:X:=.var 51
abbrev V48:X:=.var 48
abbrev V59:X:=.var 59
abbrev V60:X:=.var 60
abbrev V61:X:=.var 61
abbrev V62:X:=.var 62
abbrev V63:X:=.var 63
abbrev V65:X:=.var 65
abbrev V64:X:=.var 64
abbrev V57:X:=.var 57
abbrev V43:X:=.var 43
abbrev V44:X:=.var 44
abbrev V45:X:=.var 45
abbrev V47:X:=.var 47
abbrev V46:X:=.var 46
abbrev J7j:List Ent:=.cells 24 50 [Vi 16,Vi 17,Vi 18,Vs 19,Va 20,Vs 22]::J4h::.rd 13 J3c V14::J3d
abbrev J7k:List Ent:=.rd 29 J3c V30::J7j
abbrev J7l:List Ent:=.cells 49 50 [Vi 41,Vi 42,Vi 43,Vs 44,Va 45,Vs 47]::.rd 45 J3c V46::.rd 38 J3c V39::J7k
abbrev V52:X:=.var 52
abbrev V53:X:=.var 53
abbrev V54:X:=.var 54
abbrev V55:X:=.var 55
abbrev V56:X:=.var 56
abbrev V58:X:=.var 58
abbrev J7s:X:=.setR V9 V7 (.consI .u8 (.rI V9 V8 0) .nilL)
abbrev J7t:X:=.consI .u8 (.wrap .u8 V3) .nilL
abbrev J7u:Ent:=.st 38
abbrev J7v:Ent:=.row 45 68 J47 V46
abbrev J7w:Ent:=.row 34 68 J47 V35
abbrev J7x:Ent:=.st 20
abbrev J7y:Ent:=.rd 16 J63 V17
abbrev J7z:Ent:=.rd 39 J4m V40
abbrev J80:Ent:=.rd 41 J4m V42
abbrev J81:List Kd:=[.str,.bool,.bool,.oth,.oth,Vk]
abbrev J82:Ent:=.row 43 63 J81 V44
abbrev J83:Ent:=.row 27 68 J47 V28
abbrev V49:X:=.var 49
abbrev J85:List Kd:=[.str,Vk,.bool,.bool,.bool,.bool,Vk,Vk,Vk,Vk,.str,.str,.str,.oth,.oth,Vk,Vk,Vk,Vk,.str,.oth,.str]
abbrev J86:Ent:=.row 48 57 J85 V49
abbrev J87:Ent:=.st 12
abbrev J88:Ent:=.rd 3 J4m V4
abbrev V67:X:=.var 67
abbrev J8a:Ent:=.row 65 57 J85 V66
abbrev J8b:Ent:=.cells 51 50 [.int .i64 N17,.int .i64 (.I 69),Vi 47,.str (.rS V35 V37 1),.nils,Vs 14]
abbrev J8c:Ent:=.cells 50 68 [.int .i64 (.rI V35 V37 0),.str (.rS V35 V37 1),.str (.rS V35 V37 2),.int .i64 (.rI V35 V37 3)]
abbrev J8d:X:=.consS (.S []) (.consI .i64 N13 (.consB (.B false) (.consB (.B false) (.consB (.B false) (.consB (.B false) (.consI .i64 N13 (.consI .i64 N13 (.consI .i64 N13 (.consI .i64 N13 (.consS (.S []) (.consS (.S []) (.consS (.S []) (.consV .nilS (.consV .nilS (.consI .i64 (.rI V35 V37 0) (.consI .i64 V56 (.consI .i64 V57 (.consI .i64 V58 (.consS V59 (.consV V60 (.consS V62 .nilL)))))))))))))))))))))
abbrev N8e:X:=.I 567489872400
abbrev J8f:Tree:=.bindV (.callM 111 [.cv (true,[.int .i64 N17,.int .i64 (.I 69),Vi 47,.str (.rS V35 V37 1),.nils,Vs 14]),Vq [.int .i64 N1y],Vq [Va 55]] [.row 55 9 J3b (.snocR .nilR (.consS V54 .nilL)),.cells 53 50 [.int .i64 N13,.int .i64 N13,.int .i64 N13,.str (.S []),.nils,.str (.S [])],.cells 52 50 [.int .i64 N17,.int .i64 (.I 69),Vi 47,.str (.rS V35 V37 1),.nils,Vs 14],J8b,J8c,J7u,J7v,J7w,J7x,J7y,J7z,J80,J82,J83,J86,J87,.cells 0 165 [Va 39,Va 41,Va 43,Va 45,.int .i64 (.bits .and .i64 (.add V47 N17) N4v),Va 48],J88] [] [] [] [.rd 60 J3c V61] (.cv (true,[Vi 56,Vi 57,Vi 58,Vs 59,Va 60,Vs 62])) 7 (.bindN (.bindV (.need (.le (.add (.rlen V49) (.rlen (.snocR .nilR J8d))) N8e) (.bindV (.jump 2 [N13,N13,N13,N13,V56,V57,V58,V59,V60,V61,V62,N13,N13,V65,.snocR V49 J8d]))))))
abbrev J8g:Tree:=.bindN (.bindN (.both (.callP (.B true) 243 [Vq [.int .i64 (.rI V35 V37 3)]] [] (Vq [Vs 54]) 1 J8f) (.callP (.B true) 243 [Vq [.int .i64 (.rI V35 V37 3)]] [] (Vq [Vs 54]) 1 (.both J8f J8f))))
abbrev J8h:Ent:=.rd 21 J4m V22
abbrev J8i:Ent:=.rd 23 J4m V24
abbrev J8j:Ent:=.row 25 63 J81 V26
abbrev J8k:List Ent:=[J83,.row 30 57 J85 V31,J87,.cells 0 165 [Va 21,Va 23,Va 25,Va 27,Vi 29,Va 30],J88]
abbrev J8l:List Ent:=J7x::J7y::J8h::J8i::J8j::J8k
abbrev J8m:Tree:=.back 0 [.add V19 N17,V58,V46,V47,V48,V49,V50,V51,V52,V53,V54,V55,V56]
abbrev J8n:Ent:=.rd 46 J4m V47
abbrev J8o:Ent:=.rd 48 J4m V49
abbrev J8p:Ent:=.row 50 63 J81 V51
abbrev J8q:Ent:=.row 52 68 J47 V53
abbrev J8r:Ent:=.row 55 57 J85 V56
abbrev J8s:Ent:=.rd 39 J2 V40
abbrev J8t:Ent:=.rd 41 J2 V42
abbrev J8u:Ent:=.rd 44 J6 V45
abbrev J8v:Ent:=.cells 35 63 [Vs 36,Vb 37,Vb 38,Va 39,Va 41,Vi 43]
abbrev J8w:Ent:=.cells 32 71 [.str (.rS V17 V19 0),.int .i64 (.rI V17 V19 1)]
abbrev J8x:Ent:=.cells 0 165 [Va 46,Va 48,Va 50,Va 52,Vi 54,Va 55]
abbrev J8y:List Ent:=[J8w,J7x,J7y,J8h,J8i,J87,J8x,J88]
abbrev J8z:List Ent:=[J8n,J8o,J8p,J8q,J8r,.st 57]
abbrev J90:Ent:=.cells 45 63 [Vs 35,Vb 36,Vb 37,Va 38,Va 40,Vi 42]
abbrev J91:Ent:=.rd 38 J2 V39
abbrev J92:Ent:=.rd 40 J2 V41
abbrev J93:Ent:=.rd 43 J6 V44
abbrev J94:List X:=[V1,V2,V3,V4,V5,V6,V7,V8,V9,V10,V11]
abbrev J95:Ent:=.rd 1 J4m V2
abbrev J96:Ent:=.row 5 63 J81 V6
abbrev J97:Ent:=.row 10 57 J85 V11
abbrev J98:Ent:=.cells 0 165 [Va 1,Va 3,Va 5,Va 7,Vi 9,Va 10]
abbrev J99:List Ent:=[J95,J88,J96,J48,J97,J87,J98]
abbrev J9a:Ent:=.cells 31 50 [Vi 21,.int .i64 (.I 69),Vi 23,Vs 24,Va 25,.str (.rS V2 V32 1)]
abbrev J9b:Ent:=.cells 30 50 [Vi 21,.int .i64 (.I 69),Vi 23,Vs 24,Va 25,.str (.rS V2 V32 1)]
abbrev J9c:Ent:=.cells 29 50 [Vi 14,Vi 15,Vi 16,Vs 17,Va 18,Vs 20]
abbrev J9d:List Ent:=[J9c,J95,J88,J96,J48,J97,J87,J98,J6n,.rd 25 J3c V26]
abbrev J9e:Ent:=.row 36 68 J47 V37
abbrev J9f:List Ent:=[J9c,J95,J88,J96,J48,J97,J87,.cells 0 165 [Va 1,Va 3,Va 5,Va 36,Vi 9,Va 10],J6n,.rd 25 J3c V26]
abbrev J9g:Ent:=.cells 31 50 [.int .i64 N13,.int .i64 N13,.int .i64 N13,.str (.S []),.nils,.str (.S [])]
abbrev J9h:List Ent:=J9g::J9b::J9d
abbrev J9i:Ent:=.row 42 9 J3b (.snocR .nilR (.consS V41 .nilL))
abbrev J9j:Ent:=.cells 39 50 [Vi 21,.int .i64 (.I 69),Vi 23,Vs 24,Va 25,.str (.rS V2 V32 1)]
abbrev J9k:Tree:=.bindV (.callM 111 [.cv (true,[Vi 21,.int .i64 (.I 69),Vi 23,Vs 24,Va 25,.str (.rS V2 V32 1)]),Vq [.int .i64 N1y],Vq [Va 42]] (J9i::.cells 40 50 [.int .i64 N13,.int .i64 N13,.int .i64 N13,.str (.S []),.nils,.str (.S [])]::J9j::J9e::J9g::J9b::J9f) [] [] [] [.rd 47 J3c V48] (.cv (true,[Vi 43,Vi 44,Vi 45,Vs 46,Va 47,Vs 49])) 7 (.ret (.cv (true,[Vi 43,Vi 44,Vi 45,Vs 46,Va 47,Vs 49])) (.rd 47 J3c V48::J9i::.cells 40 50 [Vi 43,Vi 44,Vi 45,Vs 46,Va 47,Vs 49]::J9j::J9e::.cells 31 50 [Vi 43,Vi 44,Vi 45,Vs 46,Va 47,Vs 49]::.cells 30 50 [Vi 43,Vi 44,Vi 45,Vs 46,Va 47,Vs 49]::J9f)))
abbrev J9l:Tree:=.jump 0 []
abbrev V86:X:=.var 86
abbrev J9n:Ent:=.rd 85 J4m V86
abbrev V88:X:=.var 88
abbrev V90:X:=.var 90
abbrev V92:X:=.var 92
abbrev J9r:Ent:=.row 94 57 J85 (.var 95)
abbrev V74:X:=.var 74
abbrev J9t:Ent:=.rd 73 J4m V74
abbrev V76:X:=.var 76
abbrev J9v:Ent:=.rd 75 J4m V76
abbrev J9w:X:=.consS (.S []) (.consS (.S []) (.consS (.S []) J2r))
abbrev J9x:X:=.consI .i64 N13 (.consI .i64 N13 J9w)
abbrev J9y:X:=.consI .i64 N13 (.consI .i64 N13 J9x)
abbrev J9z:Ent:=.row 72 31 J6 (.snocR .nilR (.consI .i64 N26 (.consB (.B false) (.consB (.B false) (.consB (.B false) (.consB (.and (.not (.rB V37 V31 2)) (.not V17)) J9y))))))
abbrev Ja0:Ent:=.cells 71 63 [Vs 61,Vb 62,Vb 63,Va 64,Va 66,Vi 68]
abbrev Ja1:Ent:=.rd 64 J2 V65
abbrev Ja2:Ent:=.rd 66 J2 V67
abbrev Ja3:Ent:=.rd 69 J6 V70
abbrev Ja4:Ent:=.rd 50 J4m V56
abbrev Ja5:Ent:=.rd 51 J4m V57
abbrev Ja6:Ent:=.cells 30 31 [Vi 14,Vb 15,Vb 16,Vb 17,Vb 18,Vi 19,Vi 20,Vi 21,Vi 22,Vs 23,Vs 24,Vs 25,Va 26,Va 28]
abbrev V85:X:=.var 85
abbrev V87:X:=.var 87
abbrev V91:X:=.var 91
abbrev V93:X:=.var 93
abbrev Jab:Ent:=.cells 0 165 [Va 85,Va 87,Va 89,Va 91,Vi 93,Va 94]
abbrev Jac:Ent:=.rd 26 J63 V27
abbrev Jad:Ent:=.rd 28 J2a V29
abbrev Jae:List Ent:=[Jac,Jad]
abbrev V78:X:=.var 78
abbrev V80:X:=.var 80
abbrev V83:X:=.var 83
abbrev V73:X:=.var 73
abbrev V75:X:=.var 75
abbrev V77:X:=.var 77
abbrev V79:X:=.var 79
abbrev V81:X:=.var 81
abbrev Jan:Ent:=.cells 0 165 [Va 73,Va 75,Va 77,Va 79,Vi 81,Va 82]
abbrev Jao:X:=.setR V58 V31 (.consS (.rS V58 V31 0) (.consB (.rB V58 V31 1) (.consB V17 (.consV (.rV V58 V31 3) (.consV (.rV V58 V31 4) (.consI .i64 (.rI V58 V31 5) .nilL))))))
abbrev Jap:List Ent:=.row 53 68 J47 V59::.row 55 57 J85 V60::Ja6::J95::J88::J87::.cells 0 165 [Va 50,Va 51,Va 52,Va 53,Vi 54,Va 55]::Jae
abbrev V72:X:=.var 72
abbrev Jar:Ent:=.rd 38 J4m V39
abbrev Jas:Ent:=.rd 40 J4m V41
abbrev Jat:Ent:=.row 42 63 J81 V43
abbrev Jau:Ent:=.row 44 68 J47 V45
abbrev Jav:Ent:=.row 47 57 J85 V48
abbrev Jaw:List Ent:=[Jar,Jas,Jat,Jau,Jav,.st 49]
abbrev Jax:Ent:=.cells 0 165 [Va 38,Va 40,Va 42,Va 44,Vi 46,Va 47]
abbrev Jay:Ent:=.row 34 63 J81 V35
abbrev Jaz:List Ent:=J48::J97::J87::J98::Jae
abbrev Jb0:List Ent:=Ja6::J95::J88::J96::Jaz
abbrev Jb1:Ent:=.rd 34 J4m V35
abbrev Jb2:Ent:=.rd 36 J4m V37
abbrev Jb3:Ent:=.row 38 63 J81 V39
abbrev Jb4:Ent:=.row 40 68 J47 V41
abbrev Jb5:Ent:=.row 43 57 J85 V44
abbrev Jb6:Ent:=.row 33 31 J6 (.snocR .nilR (.consI .i64 N26 (.consB (.B false) (.consB (.B false) (.consB (.B false) (.consB (.B false) (.consI .i64 N13 (.consI .i64 N13 (.consI .i64 N13 (.consI .i64 N21 J9w))))))))))
abbrev Jb7:Ent:=.cells 0 165 [Va 34,Va 36,Va 38,Va 40,Vi 42,Va 43]
abbrev Jb8:List Ent:=Ja6::J95::J88::J87::Jb7::Jae
abbrev Jb9:List Ent:=[Jb1,Jb2,Jb3,Jb4,Jb5,.st 45]
abbrev Jba:Tree:=.ret (.tup []) Jb0
abbrev Jbb:Ent:=.rd 19 J2 V20
abbrev Jbc:Ent:=.rd 21 J2 V22
abbrev Jbd:List Ent:=[Jbb,Jbc,J95,J88,.row 5 63 J81 V24,J48,J97,J87,J98]
abbrev Jbe:Ent:=.rd 27 J4m V28
abbrev Jbf:Ent:=.rd 29 J4m V30
abbrev Jbg:Ent:=.row 31 63 J81 V32
abbrev Jbh:Ent:=.row 33 68 J47 V34
abbrev Jbi:List Ent:=[.cells 0 165 [Va 27,Va 29,Va 31,Va 33,Vi 35,Va 36]]
abbrev Jbj:Tree:=.callM 133 [.cv (true,[.str (.rS V6 V14 0),.bool (.rB V6 V14 1),.bool (.rB V6 V14 2),.val (.rV V6 V14 3),.val (.rV V6 V14 4),.int .i64 (.rI V6 V14 5)])] J99 [] [] [] [Jbb,Jbc] (.cv (true,[Vs 16,Vb 17,Vb 18,Va 19,Va 21,Vi 23])) 8 (.jump 0 [V16,V17,V18,V19,V20,V21,V22,V23,.setR V6 V14 (.consS V16 (.consB V17 (.consB V18 (.consV V19 (.consV V21 (.consI .i64 V23 .nilL))))))])
abbrev Jbk:List Ent:=[J95,J88,.rd 5 J81 V6,.st 7,.rd 8 J47 V9,.cells 0 27 [Va 1,Va 3,Va 5,Va 8,Vi 10]]
abbrev Jbl:Tree:=.ret (Vq [Vi 11]) Jbk
abbrev Jbm:Ent:=.st 74
abbrev Jbn:X:=.consV .nilS J1l
abbrev Jbo:X:=.consS (.S []) (.consI .i64 N13 (.consB (.B false) (.consB (.B false) (.consB (.B false) (.consB (.B false) (.consI .i64 N13 (.consI .i64 N13 (.consI .i64 N13 (.consI .i64 N13 (.consS (.S []) (.consS (.S []) (.consS (.S []) (.consV .nilS (.consV .nilS (.consI .i64 V13 (.consI .i64 V23 (.consI .i64 (.I 133) (.consI .i64 V24 (.consS V17 Jbn)))))))))))))))))))
abbrev Jbp:Ent:=.row 27 57 J85 (.snocR .nilR Jbo)
abbrev Jbq:Ent:=.cells 26 50 [Vi 23,.int .i64 (.I 133),Vi 24,Vs 17,.nils,.str (.S [])]
abbrev Jbr:List X:=[V24,V17,.nilS,.S [],V1,V3,V5,V7,V25,V28,.nilR,V2,V4,V6,V8,.snocR V11 Jbo,V31]
abbrev Jbs:Ent:=.row 28 57 J85 (.snocR V11 Jbo)
abbrev Jbt:List Ent:=[J6m,J95,J88,J96,J48,J87,.cells 0 165 [Va 1,Va 3,Va 5,Va 7,Vi 25,Va 28],J6n]
abbrev Jbu:List Ent:=Jbs::Jbp::Jbq::.cells 22 50 [Vi 23,.int .i64 (.I 133),Vi 24,Vs 17,.nils,.str (.S [])]::Jbt
abbrev Jbv:List X:=[V24,V17,.nilS,.S [],V32,V34,V36,V38,V40,V41,.nilR,V33,V35,V37,V39,V42,V44]
abbrev Jbw:Ent:=.rd 32 J4m V33
abbrev Jbx:Ent:=.row 36 63 J81 V37
abbrev Jby:Ent:=.row 38 68 J47 V39
abbrev Jbz:Ent:=.row 41 57 J85 V42
abbrev Jc0:Ent:=.st 43
abbrev Jc1:Ent:=.cells 22 50 [Vi 23,.int .i64 (.I 66),Vi 24,Vs 17,.nils,.str (.S [])]
abbrev Jc2:Ent:=.cells 0 165 [Va 32,Va 34,Va 36,Va 38,Vi 40,Va 41]
abbrev Jc3:List Ent:=[J6m,J95,J88,J87,Jc2,J6n]
abbrev Jc4:List Ent:=[Jbw,Jb1,Jbx,Jby,Jbz,Jc0]
abbrev Jc5:Ent:=.cells 22 50 [Vi 23,.int .i64 N6d,Vi 24,Vs 17,.nils,.str (.S [])]
abbrev Jc6:List Ent:=Jbs::Jbp::Jbq::Jc5::Jbt
abbrev Jc7:Tree:=.pack Jc6 (.jump 0 (N13::N13::N13::N13::N13::N13::N13::N13::N13::N13::N13::N13::N13::N13::N13::N13::N13::N13::N13::N13::N13::N13::N13::N13::N13::V23::N6d::Jbr))
abbrev Jc8:Ent:=.rd 44 J4m V45
abbrev Jc9:Ent:=.row 48 63 J81 V49
abbrev Jca:Ent:=.row 50 68 J47 V51
abbrev Jcb:Ent:=.row 53 57 J85 V54
abbrev Jcc:Ent:=.st 55
abbrev Jcd:Ent:=.cells 22 50 [Vi 23,.int .i64 (.I 68),Vi 24,Vs 17,.nils,.str (.S [])]
abbrev Jce:Ent:=.cells 0 165 [Va 44,Va 46,Va 48,Va 50,Vi 52,Va 53]
abbrev Jcf:List Ent:=[Jc8,J8n,Jc9,Jca,Jcb,Jcc]
abbrev Jcg:Ent:=.st 21
abbrev Jch:Ent:=.cells 18 27 [Va 22,Va 24,Va 26,Va 28,Vi 30]
abbrev Jci:Ent:=.row 28 68 J47 V29
abbrev Jcj:Ent:=.row 24 90 J4m V25
abbrev Jck:Ent:=.row 22 106 J4m V23
abbrev Jcl:Ent:=.cells 10 27 [Va 0,Va 2,Va 4,Va 7,Vi 9]
abbrev Jcm:Ent:=.rd 2 J4m V3
abbrev Jcn:Ent:=.rd 4 J81 V5
abbrev Jco:Ent:=.rd 7 J47 V8
abbrev Jcp:Ent:=.row 26 63 J81 V27
abbrev Jcq:List Ent:=[Jcl,J4p,Jcm,Jcn,.st 6,Jco,Jcp]
abbrev Jcr:Ent:=.rd 36 J2 V37
abbrev Jcs:Ent:=.cells 31 63 [.str (.rS V5 V20 0),.bool (.rB V5 V20 1),.bool (.rB V5 V20 2),.val (.rV V5 V20 3),.val (.rV V5 V20 4),.int .i64 (.rI V5 V20 5)]
abbrev Jct:Ent:=.cells 11 27 [.nils,.nils,.nils,.nils,.int .i64 N13]
abbrev Jcu:List Ent:=[J4p,Jcm,Jcn,.st 6,Jco]
abbrev Jcv:List Ent:=Jcl::Jcu
abbrev Jcw:X:=.consS (.rS V5 V20 0) (.consB (.rB V5 V20 1) (.consB (.rB V5 V20 2) (.consV V34 (.consV V36 (.consI .i64 (.rI V5 V20 5) .nilL)))))
abbrev Jcx:Tree:=.bindV (.need (.le (.add (.rlen V27) (.rlen (.snocR .nilR Jcw))) (.I 1759218604441)) (.bindV (.jump 1 [N13,N13,V34,V35,V36,V37,V38,V39,.snocR V27 Jcw,.snocR .nilR Jcw])))
abbrev Jcy:Ent:=.cells 33 63 [.str (.S []),.bool (.B false),.bool (.B false),.nils,.nils,.int .i64 N13]
abbrev Jcz:List Ent:=Jcy::.cells 32 63 [.str (.rS V5 V20 0),.bool (.rB V5 V20 1),.bool (.rB V5 V20 2),.val (.rV V5 V20 3),.val (.rV V5 V20 4),.int .i64 (.rI V5 V20 5)]::Jcs::Jcg::Jch::Jci::Jcj::Jck::Jct::Jcq
abbrev Jd0:Tree:=.callM 268 [Vq [.val (.rV V5 V20 3)]] Jcz [] [] [] [J1c] (Vq [Va 34]) 2 (.callM 268 [Vq [.val (.rV V5 V20 4)]] (J1c::Jcz) [] [] [] [J1e] (Vq [Va 36]) 2 (.both Jcx Jcx))
abbrev Jd1:Tree:=.callM 268 [Vq [.val (.rV V5 V20 3)]] Jcz [] [] [] [J1c] (Vq [Va 34]) 2 (.callM 268 [Vq [.val (.rV V5 V20 4)]] (J1c::Jcz) [] [] [] [J1e] (Vq [Va 36]) 2 Jcx)
abbrev Jd2:List Ent:=.row 12 106 J4m V13::Jct::Jcv
abbrev Jd3:List Ent:=[.row 17 68 J47 V18]
abbrev Jd4:Ent:=.row 15 90 J4m V16
abbrev Jd5:List Ent:=.cells 12 27 [.nils,.nils,.nils,.nils,.int .i64 N13]::Jct::Jcv
abbrev Jd6:List Ent:=.cells 14 27 [.nils,.nils,.nils,.nils,.int .i64 N13]::Jd2
abbrev Jd7:Ent:=.rd 22 J4m V23
abbrev Jd8:Ent:=.rd 24 J4m V25
abbrev Jd9:Ent:=.rd 16 J4m V17
abbrev Jda:List Ent:=[J95,Jd8,Jcp,J48,.row 29 57 J85 V30,J87,.cells 0 165 [Va 22,Va 24,Va 26,Va 7,Vi 28,Va 29],Jd9]
abbrev Jdb:List Ent:=.row 31 68 J47 .nilR::Jcg::Jd7::.cells 15 9 [Vs 34]::Jda
abbrev Jdc:X:=.clrR V39 V36 (.consI .i64 N13 J4d)
abbrev Jdd:Ent:=.cells 35 68 [.int .i64 (.rI V8 V33 0),.str (.rS V8 V33 1),.str (.rS V8 V33 2),.int .i64 (.rI V8 V33 3)]
abbrev Jde:Ent:=.cells 31 68 [.int .i64 (.rI V8 V20 0),.str (.rS V8 V20 1),.str (.rS V8 V20 2),.int .i64 (.rI V8 V20 3)]
abbrev Jdf:Ent:=.cells 15 9 [Vs 13]
abbrev Jdg:X:=.consS (.S []) (.consI .i64 N13 (.consB (.B false) (.consB (.B false) (.consB (.B false) (.consB (.B false) (.consI .i64 N13 (.consI .i64 N13 (.consI .i64 N13 (.consI .i64 N13 (.consS (.S []) (.consS (.S []) (.consS (.S []) (.consV .nilS (.consV .nilS (.consI .i64 (.rI V8 V20 0) (.consI .i64 N17 (.consI .i64 (.I 132) (.consI .i64 V28 (.consS (.rS V8 V20 1) Jbn)))))))))))))))))))
abbrev Jdh:Tree:=.bindN (.bindV (.need (.le (.add (.rlen V30) (.rlen (.snocR .nilR Jdg))) N8e) (.bindV (.jump 1 [N13,N13,V34]))))
abbrev Jdi:Tree:=.need (.le N1a (.add V28 N17)) (.need (.le (.add V28 N17) N19) Jdh)
abbrev Jdj:List Ent:=[Jd9,Jdf,J95,J88,J96,J48,J97,J87,.cells 0 165 [Va 16,Va 3,Va 5,Va 7,Vi 9,Va 10]]
abbrev Jdk:Ent:=.rd 30 J4m V31
abbrev Jdl:Ent:=.cells 29 165 [Va 30,Va 32,Va 34,Va 36,Vi 38,Va 39]
abbrev Jdm:Ent:=.rd 19 J4m V20
abbrev Jdn:Ent:=.cells 16 27 [Va 0,Va 2,Va 4,Va 7,Vi 9]
abbrev Jdo:List Ent:=.cells 12 9 [Vs 10]::.cells 11 27 [Va 0,Va 2,Va 4,Va 7,Vi 9]::Jcu
abbrev Jdp:List Ent:=.cells 13 27 [.nils,.nils,.nils,.nils,.int .i64 N13]::Jdo
abbrev Jdq:List Ent:=.row 18 57 J85 .nilR::.cells 17 27 [.nils,.nils,.nils,.nils,.int .i64 N13]::Jdn::Jdp
abbrev Jdr:Tree:=.bindN (.bindN (.letV .nilS (.callM 126 [.cv (true,[Va 0,Va 2,Va 4,Va 7,Vi 9])] Jdq [] [] [] [Jdm,J8h,.row 23 63 J81 V24,.row 25 68 J47 V26,.st 28] (.cv (true,[Va 19,Va 21,Va 23,Va 25,Vi 27])) 10 (.bindN (.callM 39 [Vq [.ptr 29 0],Vq [Vs 10]] (.cells 29 165 [Va 19,Va 21,Va 23,Va 25,Vi 27,.nils]::Jdm::J8h::.row 23 63 J81 V24::.row 25 68 J47 V26::.st 28::Jdq) [29] [23,25] [Jdl] [Jdk,Jbw,Jay,J9e,.row 39 57 J85 V40,.st 41] (.tup []) 12 (.bindN (.ret (.tup [(true,[Va 30,Va 32,Va 34,Va 36,Vi 38]),(false,[.int .i64 N13])]) (.cells 42 27 [Va 30,Va 32,Va 34,Va 36,Vi 38]::Jdk::Jbw::Jay::J9e::.row 39 57 J85 V40::.st 41::Jdl::Jdm::J8h::.st 28::.row 18 57 J85 .nilR::.cells 17 27 [Va 30,Va 32,Va 34,Va 36,Vi 38]::Jdn::.cells 13 27 [Va 30,Va 32,Va 34,Va 36,Vi 38]::Jdo))))))))
abbrev Jds:Ent:=.rd 56 J4m V57
abbrev Jdt:Ent:=.rd 58 J4m V59
abbrev Jdu:X:=.snocR .nilR (.consI .i64 N3g (.consB (.B false) (.consB (.B false) (.consB (.B false) (.consB (.B false) (.consI .i64 N13 (.consI .i64 V44 J9x)))))))
abbrev Jdv:Ent:=.row 35 90 J4m .nilR
abbrev Jdw:Ent:=.row 32 90 J4m .nilR
abbrev Jdx:Ent:=.cells 31 31 [Vi 38,Vb 39,Vb 40,Vb 41,Vb 42,Vi 43,Vi 44,Vi 45,Vi 46,Vs 47,Vs 48,Vs 49,Va 50,Va 52]
abbrev Jdy:Ent:=.cells 30 9 [Vs 54]
abbrev Jdz:Ent:=.cells 0 165 [Va 56,Va 58,Va 60,Va 62,Vi 64,Va 65]
abbrev Je0:List Ent:=[.rd 50 J63 V51,.rd 52 J2a V53]
abbrev Je1:List Ent:=Jdv::.row 33 90 J4m V34::Jdw::Jdx::Jdy::J95::J88::J96::J48::J97::J87::.cells 0 165 [Va 1,Va 33,Va 5,Va 7,Vi 9,Va 10]::Je0
abbrev Je2:List X:=[V38,V39,V40,V41,V42,V43,V44,V45,V46,V47,V48,V49,V50,V51,V52,V53,V54]
abbrev Je3:Tree:=.need (.le N1a (.add V37 N17)) (.need (.le (.add V37 N17) N19) (.back 0 (V36::.add V37 N17::Je2)))
abbrev V84:X:=.var 84
abbrev Je5:Ent:=.rd 83 J4m V84
abbrev Je6:Ent:=.row 82 31 J6 (.snocR .nilR (.consI .i64 N3g (.consB (.B false) (.consB (.B false) (.consB (.B false) (.consB (.B false) (.consI .i64 N13 (.consI .i64 V70 J9x))))))))
abbrev Je7:Ent:=.cells 55 90 [Vs 58,Vs 59,Vi 60]
abbrev Je8:Ent:=.cells 31 31 [Vi 64,Vb 65,Vb 66,Vb 67,Vb 68,Vi 69,Vi 70,Vi 71,Vi 72,Vs 73,Vs 74,Vs 75,Va 76,Va 78]
abbrev Je9:Ent:=.cells 0 165 [Va 83,Va 85,Va 87,Va 89,Vi 91,Va 92]
abbrev Jea:List Ent:=[.rd 76 J63 V77,.rd 78 J2a V79]
abbrev Jeb:List X:=[V64,V65,V66,V67,V68,V69,V70,V71,V72,V73,V74,V75,V76,V77,V78,V79,V80]
abbrev Jec:Tree:=.need (.le N13 V61) (.need (.lt V61 (.rlen V63)) (.need (.le N1a (.add V61 N17)) (.need (.le (.add V61 N17) N19) (.need (.le N1a (.add V62 N17)) (.need (.le (.add V62 N17) N19) (.back 2 (.add V61 N17::.add V62 N17::.setR V63 V61 (.consS (.rS V63 V62 0) (.consS (.rS V63 V62 1) (.consI .i64 (.rI V63 V62 2) .nilL)))::Jeb)))))))
abbrev Jed:Tree:=.need (.le N1a (.add V62 N17)) (.need (.le (.add V62 N17) N19) (.back 2 (V61::.add V62 N17::V63::Jeb)))
abbrev Jee:List X:=V37::.add V37 N17::V34::Je2
abbrev Jef:Ent:=.cells 0 165 [Va 62,Va 64,Va 66,Va 68,Vi 70,Va 71]
abbrev Jeg:Ent:=.row 88 63 J81 (.var 89)
abbrev Jeh:Ent:=.row 93 57 J85 (.var 94)
abbrev Jei:Ent:=.row 83 31 J6 (.snocR .nilR (.consI .i64 N3g (.consB (.B false) (.consB (.B false) (.consB (.B false) (.consB (.B false) (.consI .i64 N13 (.consI .i64 V71 J9x))))))))
abbrev Jej:Ent:=.cells 61 88 [.str (.rS V51 V57 0),.int .i64 (.rI V51 V57 1)]
abbrev Jek:Ent:=.cells 31 31 [Vi 65,Vb 66,Vb 67,Vb 68,Vb 69,Vi 70,Vi 71,Vi 72,Vi 73,Vs 74,Vs 75,Vs 76,Va 77,Va 79]
abbrev Jel:Ent:=.cells 0 165 [Va 84,Va 86,Va 88,Va 90,Vi 92,Va 93]
abbrev Jem:List Ent:=[.rd 77 J63 V78,.rd 79 J2a V80]
abbrev Jen:List X:=[V65,V66,V67,V68,V69,V70,V71,V72,V73,V74,V75,V76,V77,V78,V79,V80,V81]
abbrev Jeo:Tree:=.need (.le N13 V62) (.need (.lt V62 (.rlen V64)) (.need (.le N1a (.add V62 N17)) (.need (.le (.add V62 N17) N19) (.need (.le N1a (.add V63 N17)) (.need (.le (.add V63 N17) N19) (.back 2 (.add V62 N17::.add V63 N17::.setR V64 V62 (.consS (.rS V64 V63 0) (.consS (.rS V64 V63 1) (.consI .i64 (.rI V64 V63 2) .nilL)))::Jen)))))))
abbrev Jep:Tree:=.need (.le N1a (.add V63 N17)) (.need (.le (.add V63 N17) N19) (.back 2 (V62::.add V63 N17::V64::Jen)))
abbrev Jeq:Ent:=.rd 63 J4m V64
abbrev Jer:Ent:=.rd 65 J4m V66
abbrev Jes:Ent:=.row 67 63 J81 V68
abbrev Jet:Ent:=.row 69 68 J47 V70
abbrev Jeu:Ent:=.row 72 57 J85 V73
abbrev Jev:Ent:=.cells 0 165 [Va 63,Va 65,Va 67,Va 69,Vi 71,Va 72]
abbrev Jew:List Ent:=[Jeq,Jer,Jes,Jet,Jeu,Jbm]
abbrev Jex:Ent:=.rd 33 J4m V34
abbrev Jey:Ent:=.cells 0 165 [Va 33,Va 35,Va 37,Va 39,Vi 41,Va 42]
abbrev Jez:Tree:=.ret (.tup []) (Jex::.rd 35 J4m V36::.row 37 63 J81 V38::.row 39 68 J47 V40::.row 42 57 J85 V43::.st 44::Ja6::J95::J88::J87::Jey::Jae)
abbrev Jf0:List Ent:=[Jex,.rd 35 J4m V36,.row 37 63 J81 V38,.row 39 68 J47 V40,.row 42 57 J85 V43,.st 44]
abbrev Jf1:Ent:=.row 33 31 J6 (.snocR .nilR (.consI .i64 (.I 13) (.consB (.B false) (.consB (.B false) (.consB (.B false) (.consB (.B false) J9y))))))
abbrev Jf2:Ent:=.cells 43 63 [Vs 33,Vb 34,Vb 35,Va 36,Va 38,Vi 40]
abbrev Jf3:Ent:=.rd 41 J6 V42
abbrev Jf4:List Ent:=Ja6::J95::J88::J87::Jce::Jae
abbrev Jf5:Ent:=.row 31 57 J85 .nilR
abbrev Jf6:List Ent:=[.cells 29 31 [Vi 11,Vb 12,Vb 13,Vb 14,Vb 15,Vi 16,Vi 17,Vi 18,Vi 19,Vs 20,Vs 21,Vs 22,Va 23,Va 25],.cells 28 9 [Vs 10],.cells 27 27 [Va 0,Va 2,Va 4,Va 7,Vi 9],J4p,Jcm,Jcn,.st 6,Jco,.rd 23 J63 V24,.rd 25 J2a V26]
abbrev Jf7:List Ent:=Jf5::.cells 30 27 [.nils,.nils,.nils,.nils,.int .i64 N13]::Jf6
abbrev Jf8:Ent:=.rd 51 J4m V52
abbrev Jf9:Ent:=.cells 48 165 [Va 49,Va 51,Va 53,Va 55,Vi 57,Va 58]
abbrev Jfa:Ent:=.cells 35 27 [Va 0,Va 2,Va 4,Va 7,Vi 9]
abbrev Jfb:List Ent:=.row 37 57 J85 .nilR::.cells 36 27 [.nils,.nils,.nils,.nils,.int .i64 N13]::Jfa::Jf7
abbrev Jfc:Ent:=.cells 47 165 [Va 48,Va 50,Va 52,Va 54,Vi 56,Va 57]
abbrev Jfd:Ent:=.rd 37 J4m V38
abbrev Jfe:Ent:=.cells 34 27 [Va 0,Va 2,Va 4,Va 7,Vi 9]
abbrev Jff:List Ent:=.row 36 57 J85 .nilR::.cells 35 27 [.nils,.nils,.nils,.nils,.int .i64 N13]::Jfe::Jf7
abbrev Jfg:Ent:=.rd 17 J47 V18
abbrev Jfh:List Ent:=[Jd7,Jd8,.rd 26 J81 V27,.st 7,Jfg,.cells 0 27 [Va 22,Va 24,Va 26,Va 17,Vi 28]]
abbrev Jfi:List Ent:=.cells 29 68 [.int .i64 (.rI V18 V21 0),.str (.rS V18 V21 1),.str (.rS V18 V21 2),.int .i64 (.rI V18 V21 3)]::Jfh
abbrev Jfj:List Ent:=[.rd 13 J4m V14,J88,.rd 15 J81 V16,.st 7,Jfg,.cells 0 27 [Va 13,Va 3,Va 15,Va 17,Vi 19]]
abbrev Jfk:List Ent:=.cells 20 90 [.str (.rS V4 V12 0),.str (.rS V4 V12 1),.int .i64 (.rI V4 V12 2)]::Jfj
abbrev Jfl:X:=.consS V13 (.consI .i64 (.rI V15 V17 0) (.consB (.rB V15 V17 1) (.consB (.rB V15 V17 2) (.consB (.rB V15 V17 3) (.consB (.rB V15 V17 4) (.consI .i64 (.rI V15 V17 5) (.consI .i64 (.rI V15 V17 6) (.consI .i64 (.rI V15 V17 7) (.consI .i64 (.rI V15 V17 8) (.consS (.rS V15 V17 9) (.consS (.rS V15 V17 10) (.consS (.rS V15 V17 11) (.consV (.rV V15 V17 12) (.consV (.rV V15 V17 13) (.consI .i64 N13 (.consI .i64 N13 (.consI .i64 N13 (.consI .i64 N13 (.consS (.S []) Jbn)))))))))))))))))))
abbrev Jfm:Ent:=.row 62 31 J6 (.snocR .nilR (.consI .i64 V35 (.consB V36 (.consB V37 (.consB V38 (.consB V39 (.consI .i64 V40 (.consI .i64 V41 (.consI .i64 V42 (.consI .i64 V43 (.consS V44 (.consS V45 (.consS V46 (.consV V47 (.consV V49 .nilL)))))))))))))))
abbrev Jfn:Ent:=.st 34
abbrev Jfo:Ent:=.cells 31 31 [Vi 35,Vb 36,Vb 37,Vb 38,Vb 39,Vi 40,Vi 41,Vi 42,Vi 43,Vs 44,Vs 45,Vs 46,Va 47,Va 49]
abbrev Jfp:Ent:=.rd 53 J4m V54
abbrev Jfq:List Ent:=[Jac,Jad,.rd 47 J63 V48,.rd 49 J2a V50]
abbrev Jfr:List Ent:=.st 77::.rd 78 J4m V79::.rd 80 J4m V81::.row 82 63 J81 V83::.row 84 68 J47 V85::.row 87 57 J85 V88::Jbm::Jfm::Jfn::Jfo::Ja6::Jf8::Jfp::J87::.cells 0 165 [Va 78,Va 80,Va 82,Va 84,Vi 86,Va 87]::Jfq
abbrev Jfs:Ent:=.rd 90 J4m V91
abbrev Jft:Ent:=.cells 89 88 [.str (.rS V27 V76 0),.int .i64 (.rI V27 V76 1)]
abbrev Jfu:Ent:=.rd 95 J4m (.var 96)
abbrev Jfv:List Ent:=[Jac,Jad,.rd 47 J63 V48,.rd 49 J2a V50,.rd 78 J4m V79]
abbrev Jfw:List Ent:=.st 94::Jfs::Jft::.st 77::Jfu::.rd 97 J4m (.var 98)::.row 99 63 J81 (.var 100)::.row 101 68 J47 (.var 102)::.row 104 57 J85 (.var 105)::Jbm::Jfm::Jfn::Jfo::Ja6::Jf8::Jfp::J87::.cells 0 165 [Va 95,Va 97,Va 99,Va 101,Vi 103,Va 104]::Jfv
abbrev Jfx:Ent:=.row 112 63 J81 (.var 113)
abbrev Jfy:Ent:=.row 114 68 J47 (.var 115)
abbrev Jfz:Ent:=.row 117 57 J85 (.var 118)
abbrev Jg0:Ent:=.row 107 31 J6 (.snocR .nilR (.consI .i64 N21 (.consB (.B false) (.consB (.B true) (.consB (.B false) (.consB (.B false) (.consI .i64 N13 (.consI .i64 N13 (.consI .i64 N13 (.consI .i64 N13 (.consS (.S []) (.consS (.rS V91 V93 0) (.consS (.rS V91 V93 1) J2r)))))))))))))
abbrev Jg1:Ent:=.cells 106 106 [.str (.rS V91 V93 0),.str (.rS V91 V93 1),.int .i64 (.rI V91 V93 2)]
abbrev Jg2:Ent:=.cells 0 165 [Va 108,Va 110,Va 112,Va 114,Vi 116,Va 117]
abbrev Jg3:List X:=[V78,V79,V80,V81,.var 82,V83,V84,V85,V86,V87,V88]
abbrev Jg4:Ent:=.row 55 63 J81 V56
abbrev Jg5:Ent:=.row 57 68 J47 V58
abbrev Jg6:Ent:=.row 60 57 J85 V61
abbrev Jg7:Ent:=.cells 0 165 [Va 51,Va 53,Va 55,Va 57,Vi 59,Va 60]
abbrev Jg8:X:=.snocR V50 (.consI .i64 N6d .nilL)
abbrev Jg9:List X:=[V55,V56,V57,V58,V59,V60,V61]
abbrev Jga:X:=.snocR .nilR (.consI .i64 N6d .nilL)
abbrev Jgb:Ent:=.cells 62 88 [.str (.rS V27 V33 0),.int .i64 (.rI V27 V33 1)]
abbrev Jgc:Ent:=.cells 31 31 [Vi 35,Vb 36,Vb 37,Vb 38,Vb 39,Vi 40,Vi 41,Vi 42,Vi 43,Vs 44,Vs 45,Vs 46,Va 47,Va 67]
abbrev Jgd:List Ent:=[Jac,Jad,.row 47 88 J63 V48]
abbrev Jge:X:=.consI .i64 (.rI V27 V33 1) .nilL
abbrev Jgf:Ent:=.row 22 57 J85 .nilR
abbrev Jgg:List Ent:=[.cells 20 50 [Vi 11,Vi 12,Vi 13,Vs 14,Va 15,Vs 17],.cells 19 3 [Vi 10],.cells 18 27 [Va 0,Va 2,Va 4,Va 7,Vi 9],J4p,Jcm,Jcn,.st 6,Jco,.rd 15 J3c V16]
abbrev Jgh:List Ent:=Jgf::.cells 21 27 [.nils,.nils,.nils,.nils,.int .i64 N13]::Jgg
abbrev Jgi:Ent:=.cells 38 165 [Va 28,Va 30,Va 32,Va 34,Vi 36,.nils]
abbrev Jgj:Ent:=.rd 28 J4m V29
abbrev Jgk:Ent:=.row 32 63 J81 V33
abbrev Jgl:Ent:=.row 27 57 J85 .nilR
abbrev Jgm:Ent:=.cells 25 27 [Va 0,Va 2,Va 4,Va 7,Vi 9]
abbrev Jgn:List Ent:=Jgj::Jdk::Jgk::J7w::.st 37::Jgl::.cells 26 27 [Va 28,Va 30,Va 32,Va 34,Vi 36]::Jgm::Jgf::.cells 21 27 [Va 28,Va 30,Va 32,Va 34,Vi 36]::Jgg
abbrev Jgo:Ent:=.cells 38 165 [Va 39,Va 41,Va 43,Va 45,Vi 47,Va 48]
abbrev Jgp:List Ent:=Jgl::.cells 26 27 [.nils,.nils,.nils,.nils,.int .i64 N13]::Jgm::Jgh
abbrev Jgq:X:=.snocR .nilR (.consS (.S []) (.consI .i64 N13 (.consB (.B false) (.consB (.B false) (.consB (.B false) (.consB (.B false) (.consI .i64 N13 (.consI .i64 N13 (.consI .i64 N13 (.consI .i64 N13 (.consS (.S []) (.consS (.S []) (.consS (.S []) (.consV .nilS (.consV .nilS (.consI .i64 V10 (.consI .i64 N21 (.consI .i64 N13 (.consI .i64 V13 (.consS (.S []) Jbn))))))))))))))))))))
abbrev Jgr:Ent:=.cells 37 165 [Va 27,Va 29,Va 31,Va 33,Vi 35,.nils]
abbrev Jgs:Ent:=.row 26 57 J85 .nilR
abbrev Jgt:Ent:=.cells 24 27 [Va 0,Va 2,Va 4,Va 7,Vi 9]
abbrev Jgu:List Ent:=Jbe::Jbf::Jbg::Jbh::.st 36::Jgs::.cells 25 27 [Va 27,Va 29,Va 31,Va 33,Vi 35]::Jgt::Jgf::.cells 21 27 [Va 27,Va 29,Va 31,Va 33,Vi 35]::Jgg
abbrev Jgv:Ent:=.cells 37 165 [Va 38,Va 40,Va 42,Va 44,Vi 46,Va 47]
abbrev Jgw:List Ent:=Jgs::.cells 25 27 [.nils,.nils,.nils,.nils,.int .i64 N13]::Jgt::Jgh
abbrev Jgx:Ent:=.cells 0 165 [Va 31,Va 33,Va 35,Va 37,Vi 39,Va 40]
abbrev Jgy:List Ent:=Ja6::J95::J88::J87::Jc2::Jae
abbrev Jgz:Ent:=.row 31 31 J6 (.snocR .nilR (.consI .i64 N2w (.consB (.B false) (.consB (.B false) (.consB (.B false) (.consB (.B false) (.consI .i64 N13 (.consI .i64 V20 J9x))))))))
abbrev Jh0:List Ent:=Jbw::Jb1::Jbx::Jby::Jbz::Jc0::Jgz::Jgy
abbrev Jh1:Ent:=.rd 57 J4m V58
abbrev Jh2:Ent:=.rd 59 J4m V60
abbrev Jh3:Ent:=.rd 45 J4m V46
abbrev Jh4:Ent:=.rd 47 J4m V48
abbrev Jh5:Ent:=.cells 0 165 [Va 57,Va 59,Va 61,Va 63,Vi 65,Va 66]
abbrev Jh6:Ent:=.cells 0 165 [Va 45,Va 47,Va 49,Va 51,Vi 53,Va 54]
abbrev Jh7:Ent:=.row 15 90 J4m .nilR
abbrev Jh8:List Ent:=[.row 18 90 J4m .nilR,.row 16 90 J4m V17,Jh7,.cells 14 9 [Vs 21],J95,J88,J96,J48,J97,J87,.cells 0 165 [Va 1,Va 16,Va 5,Va 7,Vi 9,Va 10]]
abbrev Jh9:Ent:=.cells 22 90 [.str (.rS V17 V20 0),.str (.rS V17 V20 1),.int .i64 (.rI V17 V20 2)]
abbrev Jha:List Ent:=[.cells 21 27 [Va 10,Va 12,Va 14,Va 17,Vi 19],.cells 20 27 [Va 0,Va 2,Va 4,Va 7,Vi 9],J4p,Jcm,Jcn,.st 6,Jco,.rd 10 J4m V11,.rd 12 J4m V13,.rd 14 J81 V15,.st 16,Jfg]
abbrev Jhb:List Ent:=[J4p,Jcm,Jcn,.rd 6 J47 V7,.st 9]
abbrev Jhc:List Ent:=.rd 22 J63 V23::.rd 24 J2a V25::Jhb
abbrev Jhd:List Ent:=.cells 39 27 [Va 26,Va 28,Va 30,Va 32,Vi 34]::.rd 26 J4m V27::Jgj::.rd 30 J81 V31::.rd 32 J47 V33::.rd 35 J85 V36::J7u::Jhc
abbrev Jhe:List Ent:=Jas::.rd 42 J4m V43::.rd 44 J81 V45::.rd 46 J47 V47::.st 49::Jhd
abbrev Jhf:List Ent:=.cells 70 27 [Va 57,Va 59,Va 61,Va 63,Vi 65]::Jh1::Jh2::.rd 61 J81 V62::.rd 63 J47 V64::.rd 66 J85 V67::.st 69::.rd 54 J3c V55::Jhe
abbrev Jhg:List Ent:=.rd 71 J4m V72::J9t::.rd 75 J81 V76::.rd 77 J47 V78::.st 80::Jhf
abbrev Jhh:List Ent:=.cells 92 27 [Va 81,Va 83,Va 85,Va 87,Vi 89]::.rd 81 J4m (.var 82)::Je5::.rd 85 J81 V86::.rd 87 J47 V88::.st 91::Jhg
abbrev Jhi:List Ent:=.rd 93 J4m (.var 94)::Jfu::.rd 97 J81 (.var 98)::.rd 99 J47 (.var 100)::.st 102::Jhh
abbrev Jhj:Tree:=.ite (.not (.and (.le N13 V9) (.le V9 N4v))) J22 J1w
abbrev Jhk:Tree:=.ite (.and (.lt V14 (.rlen V5)) (.eqI V13 N13)) (.need (.le N13 V14) (.callP (.B true) 42 [.cv (true,[.str (.rS V5 V14 0),.bool (.rB V5 V14 1),.bool (.rB V5 V14 2),.val (.rV V5 V14 3),.val (.rV V5 V14 4),.int .i64 (.rI V5 V14 5)])] Jcv (Vq [Vi 15]) 1 (.need (.or (.not (.and (.eqI V15 N13) (.lt N13 V14))) (.le N1a (.sub V14 N17))) (.need (.or (.not (.and (.eqI V15 N13) (.lt N13 V14))) (.le (.sub V14 N17) N19)) (.need (.or (.not (.and (.eqI V15 N13) (.lt N13 V14))) (.le N13 (.sub V14 N17))) (.need (.or (.not (.and (.eqI V15 N13) (.lt N13 V14))) (.lt (.sub V14 N17) (.rlen V5))) (.callP (.and (.eqI V15 N13) (.lt N13 V14)) 43 [Vq [.str (.rS V5 (.sub V14 N17) 0)],Vq [.str (.rS V5 V14 0)]] [] (Vq [Vb 16]) 1 (.ite (.and (.and (.eqI V15 N13) (.lt N13 V14)) (.not V16)) (.need (.le N1a (.add V14 N17)) (.need (.le (.add V14 N17) N19) (.back 0 (N2w::J6b)))) (.need (.le N1a (.add V14 N17)) (.need (.le (.add V14 N17) N19) (.back 0 (V15::J6b)))))))))))) (.ite (.eqI V13 N13) (.callP (.B true) 44 [Vq [Va 7]] Jcv (Vq [Vi 15]) 1 (.ite (.not (.eqI V15 N13)) (.ret (Vq [Vi 15]) []) (.loop J25 (.ite (.lt V17 (.rlen V3)) (.need (.le N13 V17) (.callP (.B true) 22 [Vq [Va 4],Vq [.str (.rS V3 V17 0)]] Jcv (Vq [Vi 18]) 1 (.ite (.lt V18 N13) J2x (.need (.le N1a (.add V17 N17)) (.need (.le (.add V17 N17) N19) (.back 1 [V16,.add V17 N17])))))) (.loop (V16::J20) (.ite (.lt V19 (.rlen V8)) (.need (.le N13 V19) (.callP (.B true) 45 [Vq [Va 0],Vq [.str (.rS V8 V19 2)]] Jcv (Vq [Vi 20]) 1 (.ite (.lt V20 N13) J2x (.need (.le N1a (.add V19 N17)) (.need (.le (.add V19 N17) N19) (.back 2 [V18,.add V19 N17])))))) Jhj)))))) (.ret (Vq [Vi 13]) []))
abbrev Jhl:X:=.snocR .nilR (.consS V5 (.consB V6 (.consB V7 (.consV V8 (.consV V10 (.consI .i64 V12 .nilL))))))
abbrev Jhm:X:=.dropR (.takeR V4 N26) N13
abbrev Jhn:List X:=[.dropR (.takeR V14 N17) N13,Jhl,Jhm]
abbrev Jho:List Ent:=[.cells 0 27 [.nils,.nils,.nils,.nils,.int .i64 N13]]
abbrev Jhp:List Ent:=J88::J95::Jho
abbrev Jhq:List Ent:=.rd 8 J2 V9::.rd 10 J2 V11::Jhp
abbrev Jhr:X:=.dropR (.takeR V15 N17) N13
abbrev Jhs:List X:=[V14,V15,V16,Jhr,Jhl,Jhm]
abbrev Jht:List X:=[V14,V15,V17,Jhr,Jhl,Jhm]
abbrev Jhu:List Ent:=[.rd 14 J47 V15]
abbrev Jhv:X:=.dropR (.takeR V16 N17) N13
abbrev Jhw:List X:=[V15,V16,V17,Jhv,Jhl,Jhm]
abbrev Jhx:List Ent:=[.rd 15 J47 V16]
abbrev Jhy:X:=.snocR .nilR (.consS V6 (.consB V7 (.consB V8 (.consV V9 (.consV V11 (.consI .i64 V13 .nilL))))))
abbrev Jhz:List Ent:=.rd 9 J2 V10::J4s::.rd 5 J4m Jhm::Jhp
abbrev Ji0:Tree:=.need (.or (.not (.and (.eqI V81 N13) (.eqI (.rlen V80) N17))) (.lt N13 (.rlen V80))) (.ret (Vq [.bool (.and (.and (.eqI V81 N13) (.eqI (.rlen V80) N17)) (.eqI (.rI V80 N13 17) (.I 132)))]) [])
abbrev Ji1:List Ent:=[.rd 70 J4m V71,.rd 72 J4m V73,.rd 74 J81 V75,.rd 76 J47 V77,.rd 79 J85 V80,.st 82]
abbrev Ji2:Ent:=.cells 69 27 [Va 56,Va 58,Va 60,Va 62,Vi 64]
abbrev Ji3:Ent:=.rd 60 J81 V61
abbrev Ji4:Ent:=.rd 62 J47 V63
abbrev Ji5:Ent:=.rd 65 J85 V66
abbrev Ji6:Ent:=.rd 43 J4m V44
abbrev Ji7:Ent:=.rd 47 J81 V48
abbrev Ji8:Ent:=.rd 49 J47 V50
abbrev Ji9:Ent:=.rd 52 J85 V53
abbrev Jia:List Ent:=.cells 14 27 [Va 0,Va 2,Va 4,Va 7,Vi 9]::Jcu
abbrev Jib:List Ent:=J5k::J5m::Jia
abbrev Jic:List Ent:=.cells 40 27 [Va 27,Va 29,Va 31,Va 33,Vi 35]::Jbe::Jbf::.rd 31 J81 V32::.rd 33 J47 V34::.rd 36 J85 V37::.st 39::Jib
abbrev Jid:List Ent:=.cells 42 50 [Vi 17,.int .i64 N17,Vi 19,Vs 20,Va 21,.str (.S [])]::.cells 41 50 [Vi 17,.int .i64 N2w,Vi 19,Vs 20,Va 21,.str (.S [])]::Jic
abbrev Jie:List Ent:=Ji6::Jh3::Ji7::Ji8::Ji9::Jcc::Jid
abbrev Jif:List Ent:=[Jds,Jdt,Ji3,Ji4,Ji5,.st 68]
abbrev Jig:List Ent:=[Ji6,Jh3,Ji7,Ji8,Ji9,Jcc]
abbrev Jih:List Ent:=.cells 42 50 [Vi 17,.int .i64 N2w,Vi 19,Vs 20,Va 21,.str (.S [])]::.cells 41 50 [Vi 17,.int .i64 N17,Vi 19,Vs 20,Va 21,.str (.S [])]::Jic
abbrev Jii:List Ent:=Ji6::Jh3::Ji7::Ji8::Ji9::Jcc::Jih
end Go.Proofs.YtkhakgbnfapifaaGreatDoor