/-
  The executor's table for this translation: types, functions that have a body, functions whose slices are the caller's. Written by a program of mine (wip/mkenv.py); the kernel checks it against the program. By an AI agent.
-/
import Derived.Test.YtldmdbipjhkaeaaGreatDoorRows
import Derived.Test.YtldmdbipjhkaeaaGreatDoorU05
set_option linter.all false
set_option maxHeartbeats 20000000
namespace Go.Proofs.Y
open Go.Sx
def sxT:Tab:=[
 (2,{ agg:=false,ks:=[.int .i64],zs:=[.int .i64 (.I 0)],bytes:=8,tag:=.int .i64,eqs:=false }),
 (3,{ agg:=false,ks:=[.int .i64],zs:=[.int .i64 (.I 0)],bytes:=8,tag:=.int .i64,eqs:=false }),
 (4,{ agg:=false,ks:=[.bool],zs:=[.bool (.B false)],bytes:=1,tag:=.bool,eqs:=false }),
 (5,{ agg:=false,ks:=[.int .u8],zs:=[.int .u8 (.I 0)],bytes:=1,tag:=.int .u8,eqs:=false }),
 (6,{ agg:=false,ks:=[.int .u8],zs:=[.int .u8 (.I 0)],bytes:=1,tag:=.int .u8,eqs:=false }),
 (7,{ agg:=true,ks:=[.int .i64,.int .i64,.bool,.int .u8],zs:=[.int .i64 (.I 0),.int .i64 (.I 0),.bool (.B false),.int .u8 (.I 0)],bytes:=24,tag:=.strct [(0,2,1,false),(1,3,1,false),(2,4,1,false),(3,6,1,false)],eqs:=false }),
 (8,{ agg:=true,ks:=[.int .i64,.int .i64,.bool,.int .u8],zs:=[.int .i64 (.I 0),.int .i64 (.I 0),.bool (.B false),.int .u8 (.I 0)],bytes:=24,tag:=.strct [(0,2,1,false),(1,3,1,false),(2,4,1,false),(3,6,1,false)],eqs:=false }),
 (9,{ agg:=false,ks:=[.str],zs:=[.str (.S [])],bytes:=16,tag:=.str,eqs:=false }),
 (10,{ agg:=false,ks:=[.str],zs:=[.str (.S [])],bytes:=16,tag:=.str,eqs:=false }),
 (11,{ agg:=false,ks:=[.str],zs:=[.str (.S [])],bytes:=16,tag:=.str,eqs:=false }),
 (12,{ agg:=false,ks:=[.int .u64],zs:=[.int .u64 (.I 0)],bytes:=8,tag:=.int .u64,eqs:=false }),
 (13,{ agg:=true,ks:=[.str,.int .u64],zs:=[.str (.S []),.int .u64 (.I 0)],bytes:=24,tag:=.strct [(0,9,1,false),(1,12,1,false)],eqs:=false }),
 (14,{ agg:=true,ks:=[.str,.int .u64],zs:=[.str (.S []),.int .u64 (.I 0)],bytes:=24,tag:=.strct [(0,9,1,false),(1,12,1,false)],eqs:=false }),
 (15,{ agg:=false,ks:=[.oth],zs:=[.nilp],bytes:=8,tag:=.ptr 299,eqs:=false }),
 (16,{ agg:=false,ks:=[.oth],zs:=[.nilp],bytes:=8,tag:=.ptr 302,eqs:=false }),
 (17,{ agg:=false,ks:=[.oth],zs:=[.nilp],bytes:=8,tag:=.ptr 309,eqs:=false }),
 (18,{ agg:=true,ks:=[.oth],zs:=[.nilp],bytes:=8,tag:=.strct [(0,17,1,false)],eqs:=false }),
 (19,{ agg:=true,ks:=[.oth],zs:=[.nilp],bytes:=8,tag:=.strct [(0,17,1,false)],eqs:=false }),
 (21,{ agg:=false,ks:=[.int .i32],zs:=[.int .i32 (.I 0)],bytes:=4,tag:=.int .i32,eqs:=false }),
 (22,{ agg:=false,ks:=[.oth],zs:=[.nils],bytes:=24,tag:=.slice 89,eqs:=false }),
 (23,{ agg:=false,ks:=[.oth],zs:=[.nils],bytes:=24,tag:=.slice 71,eqs:=false }),
 (24,{ agg:=false,ks:=[.oth],zs:=[.nils],bytes:=24,tag:=.slice 64,eqs:=false }),
 (25,{ agg:=false,ks:=[.oth],zs:=[.nils],bytes:=24,tag:=.slice 74,eqs:=false }),
 (26,{ agg:=true,ks:=[.oth,.oth,.oth,.oth,.int .i64],zs:=[.nils,.nils,.nils,.nils,.int .i64 (.I 0)],bytes:=104,tag:=.strct [(0,22,1,false),(1,23,1,false),(2,24,1,false),(3,25,1,false),(4,3,1,false)],eqs:=false }),
 (27,{ agg:=true,ks:=[.oth,.oth,.oth,.oth,.int .i64],zs:=[.nils,.nils,.nils,.nils,.int .i64 (.I 0)],bytes:=104,tag:=.strct [(0,22,1,false),(1,23,1,false),(2,24,1,false),(3,25,1,false),(4,3,1,false)],eqs:=false }),
 (28,{ agg:=false,ks:=[.oth],zs:=[.nils],bytes:=24,tag:=.slice 69,eqs:=false }),
 (29,{ agg:=false,ks:=[.oth],zs:=[.nils],bytes:=24,tag:=.slice 3,eqs:=false }),
 (30,{ agg:=true,ks:=[.int .i64,.bool,.bool,.bool,.bool,.int .i64,.int .i64,.int .i64,.int .i64,.str,.str,.str,.oth,.oth],zs:=[.int .i64 (.I 0),.bool (.B false),.bool (.B false),.bool (.B false),.bool (.B false),.int .i64 (.I 0),.int .i64 (.I 0),.int .i64 (.I 0),.int .i64 (.I 0),.str (.S []),.str (.S []),.str (.S []),.nils,.nils],bytes:=144,tag:=.strct [(0,3,1,false),(1,4,1,false),(2,4,1,false),(3,4,1,false),(4,4,1,false),(5,3,1,false),(6,3,1,false),(7,3,1,false),(8,3,1,false),(9,9,1,false),(10,9,1,false),(11,9,1,false),(12,28,1,false),(13,29,1,false)],eqs:=false }),
 (31,{ agg:=true,ks:=[.int .i64,.bool,.bool,.bool,.bool,.int .i64,.int .i64,.int .i64,.int .i64,.str,.str,.str,.oth,.oth],zs:=[.int .i64 (.I 0),.bool (.B false),.bool (.B false),.bool (.B false),.bool (.B false),.int .i64 (.I 0),.int .i64 (.I 0),.int .i64 (.I 0),.int .i64 (.I 0),.str (.S []),.str (.S []),.str (.S []),.nils,.nils],bytes:=144,tag:=.strct [(0,3,1,false),(1,4,1,false),(2,4,1,false),(3,4,1,false),(4,4,1,false),(5,3,1,false),(6,3,1,false),(7,3,1,false),(8,3,1,false),(9,9,1,false),(10,9,1,false),(11,9,1,false),(12,28,1,false),(13,29,1,false)],eqs:=false }),
 (32,{ agg:=false,ks:=[.oth],zs:=[.nils],bytes:=24,tag:=.slice 97,eqs:=false }),
 (33,{ agg:=false,ks:=[.int .i64],zs:=[.int .i64 (.I 0)],bytes:=8,tag:=.int .i64,eqs:=false }),
 (41,{ agg:=true,ks:=[.oth,.oth,.oth,.oth,.int .i64,.oth],zs:=[.nils,.nils,.nils,.nils,.int .i64 (.I 0),.nils],bytes:=128,tag:=.strct [(0,27,5,true),(5,32,1,false)],eqs:=false }),
 (42,{ agg:=true,ks:=[.oth,.oth,.oth,.oth,.int .i64,.oth],zs:=[.nils,.nils,.nils,.nils,.int .i64 (.I 0),.nils],bytes:=128,tag:=.strct [(0,27,5,true),(5,32,1,false)],eqs:=false }),
 (48,{ agg:=false,ks:=[.oth],zs:=[.nils],bytes:=24,tag:=.slice 113,eqs:=false }),
 (49,{ agg:=true,ks:=[.int .i64,.int .i64,.int .i64,.str,.oth,.str],zs:=[.int .i64 (.I 0),.int .i64 (.I 0),.int .i64 (.I 0),.str (.S []),.nils,.str (.S [])],bytes:=80,tag:=.strct [(0,3,1,false),(1,3,1,false),(2,3,1,false),(3,9,1,false),(4,48,1,false),(5,9,1,false)],eqs:=false }),
 (50,{ agg:=true,ks:=[.int .i64,.int .i64,.int .i64,.str,.oth,.str],zs:=[.int .i64 (.I 0),.int .i64 (.I 0),.int .i64 (.I 0),.str (.S []),.nils,.str (.S [])],bytes:=80,tag:=.strct [(0,3,1,false),(1,3,1,false),(2,3,1,false),(3,9,1,false),(4,48,1,false),(5,9,1,false)],eqs:=false }),
 (57,{ agg:=false,ks:=[.oth],zs:=[.nilp],bytes:=8,tag:=.ptr 125,eqs:=false }),
 (62,{ agg:=false,ks:=[.oth],zs:=[.nils],bytes:=24,tag:=.slice 132,eqs:=false }),
 (63,{ agg:=true,ks:=[.str,.bool,.bool,.oth,.oth,.int .i64],zs:=[.str (.S []),.bool (.B false),.bool (.B false),.nils,.nils,.int .i64 (.I 0)],bytes:=80,tag:=.strct [(0,9,1,false),(1,4,1,false),(2,4,1,false),(3,62,1,false),(4,62,1,false),(5,3,1,false)],eqs:=false }),
 (64,{ agg:=true,ks:=[.str,.bool,.bool,.oth,.oth,.int .i64],zs:=[.str (.S []),.bool (.B false),.bool (.B false),.nils,.nils,.int .i64 (.I 0)],bytes:=80,tag:=.strct [(0,9,1,false),(1,4,1,false),(2,4,1,false),(3,62,1,false),(4,62,1,false),(5,3,1,false)],eqs:=false }),
 (68,{ agg:=true,ks:=[.str,.int .i64],zs:=[.str (.S []),.int .i64 (.I 0)],bytes:=24,tag:=.strct [(0,9,1,false),(1,3,1,false)],eqs:=false }),
 (69,{ agg:=true,ks:=[.str,.int .i64],zs:=[.str (.S []),.int .i64 (.I 0)],bytes:=24,tag:=.strct [(0,9,1,false),(1,3,1,false)],eqs:=true }),
 (70,{ agg:=true,ks:=[.str,.str,.int .i64],zs:=[.str (.S []),.str (.S []),.int .i64 (.I 0)],bytes:=40,tag:=.strct [(0,9,1,false),(1,69,2,true)],eqs:=false }),
 (71,{ agg:=true,ks:=[.str,.str,.int .i64],zs:=[.str (.S []),.str (.S []),.int .i64 (.I 0)],bytes:=40,tag:=.strct [(0,9,1,false),(1,69,2,true)],eqs:=true }),
 (73,{ agg:=true,ks:=[.int .i64,.str,.str,.int .i64],zs:=[.int .i64 (.I 0),.str (.S []),.str (.S []),.int .i64 (.I 0)],bytes:=48,tag:=.strct [(0,3,1,false),(1,9,1,false),(2,9,1,false),(3,3,1,false)],eqs:=false }),
 (74,{ agg:=true,ks:=[.int .i64,.str,.str,.int .i64],zs:=[.int .i64 (.I 0),.str (.S []),.str (.S []),.int .i64 (.I 0)],bytes:=48,tag:=.strct [(0,3,1,false),(1,9,1,false),(2,9,1,false),(3,3,1,false)],eqs:=true }),
 (78,{ agg:=false,ks:=[.oth],zs:=[.nilp],bytes:=8,tag:=.ptr 42,eqs:=false }),
 (80,{ agg:=false,ks:=[.oth],zs:=[.nils],bytes:=24,tag:=.slice 31,eqs:=false }),
 (88,{ agg:=true,ks:=[.str,.str,.int .i64],zs:=[.str (.S []),.str (.S []),.int .i64 (.I 0)],bytes:=40,tag:=.strct [(0,9,1,false),(1,9,1,false),(2,3,1,false)],eqs:=false }),
 (89,{ agg:=true,ks:=[.str,.str,.int .i64],zs:=[.str (.S []),.str (.S []),.int .i64 (.I 0)],bytes:=40,tag:=.strct [(0,9,1,false),(1,9,1,false),(2,3,1,false)],eqs:=true }),
 (96,{ agg:=true,ks:=[.str,.int .i64,.bool,.bool,.bool,.bool,.int .i64,.int .i64,.int .i64,.int .i64,.str,.str,.str,.oth,.oth,.int .i64,.int .i64,.int .i64,.int .i64,.str,.oth,.str],zs:=[.str (.S []),.int .i64 (.I 0),.bool (.B false),.bool (.B false),.bool (.B false),.bool (.B false),.int .i64 (.I 0),.int .i64 (.I 0),.int .i64 (.I 0),.int .i64 (.I 0),.str (.S []),.str (.S []),.str (.S []),.nils,.nils,.int .i64 (.I 0),.int .i64 (.I 0),.int .i64 (.I 0),.int .i64 (.I 0),.str (.S []),.nils,.str (.S [])],bytes:=248,tag:=.strct [(0,9,1,false),(1,31,14,true),(15,3,1,false),(16,50,6,true)],eqs:=false }),
 (97,{ agg:=true,ks:=[.str,.int .i64,.bool,.bool,.bool,.bool,.int .i64,.int .i64,.int .i64,.int .i64,.str,.str,.str,.oth,.oth,.int .i64,.int .i64,.int .i64,.int .i64,.str,.oth,.str],zs:=[.str (.S []),.int .i64 (.I 0),.bool (.B false),.bool (.B false),.bool (.B false),.bool (.B false),.int .i64 (.I 0),.int .i64 (.I 0),.int .i64 (.I 0),.int .i64 (.I 0),.str (.S []),.str (.S []),.str (.S []),.nils,.nils,.int .i64 (.I 0),.int .i64 (.I 0),.int .i64 (.I 0),.int .i64 (.I 0),.str (.S []),.nils,.str (.S [])],bytes:=248,tag:=.strct [(0,9,1,false),(1,31,14,true),(15,3,1,false),(16,50,6,true)],eqs:=false }),
 (112,{ agg:=true,ks:=[.int .i64,.str],zs:=[.int .i64 (.I 0),.str (.S [])],bytes:=24,tag:=.strct [(0,3,1,false),(1,9,1,false)],eqs:=false }),
 (113,{ agg:=true,ks:=[.int .i64,.str],zs:=[.int .i64 (.I 0),.str (.S [])],bytes:=24,tag:=.strct [(0,3,1,false),(1,9,1,false)],eqs:=true }),
 (124,{ agg:=true,ks:=[.oth,.oth,.oth,.oth,.int .i64,.oth],zs:=[.nils,.nils,.nils,.nils,.int .i64 (.I 0),.nils],bytes:=128,tag:=.strct [(0,27,5,true),(5,32,1,false)],eqs:=false }),
 (125,{ agg:=true,ks:=[.oth,.oth,.oth,.oth,.int .i64,.oth],zs:=[.nils,.nils,.nils,.nils,.int .i64 (.I 0),.nils],bytes:=128,tag:=.strct [(0,27,5,true),(5,32,1,false)],eqs:=false }),
 (131,{ agg:=true,ks:=[.int .i64,.str,.str],zs:=[.int .i64 (.I 0),.str (.S []),.str (.S [])],bytes:=40,tag:=.strct [(0,3,1,false),(1,9,1,false),(2,9,1,false)],eqs:=false }),
 (132,{ agg:=true,ks:=[.int .i64,.str,.str],zs:=[.int .i64 (.I 0),.str (.S []),.str (.S [])],bytes:=40,tag:=.strct [(0,3,1,false),(1,9,1,false),(2,9,1,false)],eqs:=true }),
 (134,{ agg:=false,ks:=[.oth],zs:=[.nils],bytes:=24,tag:=.slice 9,eqs:=false }),
 (139,{ agg:=false,ks:=[.oth],zs:=[.nils],bytes:=24,tag:=.slice 142,eqs:=false }),
 (141,{ agg:=true,ks:=[.str,.int .i64],zs:=[.str (.S []),.int .i64 (.I 0)],bytes:=24,tag:=.strct [(0,9,1,false),(1,3,1,false)],eqs:=false }),
 (142,{ agg:=true,ks:=[.str,.int .i64],zs:=[.str (.S []),.int .i64 (.I 0)],bytes:=24,tag:=.strct [(0,9,1,false),(1,3,1,false)],eqs:=true }),
 (151,{ agg:=false,ks:=[.oth],zs:=[.nils],bytes:=24,tag:=.slice 99,eqs:=false }),
 (176,{ agg:=false,ks:=[.oth],zs:=[.nilp],bytes:=8,tag:=.ptr 180,eqs:=false }),
 (179,{ agg:=true,ks:=[.str,.bool,.bool,.oth,.oth,.int .i64,.oth],zs:=[.str (.S []),.bool (.B false),.bool (.B false),.nils,.nils,.int .i64 (.I 0),.nils],bytes:=104,tag:=.strct [(0,64,6,true),(6,80,1,false)],eqs:=false }),
 (180,{ agg:=true,ks:=[.str,.bool,.bool,.oth,.oth,.int .i64,.oth],zs:=[.str (.S []),.bool (.B false),.bool (.B false),.nils,.nils,.int .i64 (.I 0),.nils],bytes:=104,tag:=.strct [(0,64,6,true),(6,80,1,false)],eqs:=false }),
 (185,{ agg:=false,ks:=[.oth],zs:=[.nils],bytes:=24,tag:=.slice 5,eqs:=false }),
 (190,{ agg:=false,ks:=[.int .u64],zs:=[.int .u64 (.I 0)],bytes:=8,tag:=.int .u64,eqs:=false }),
 (209,{ agg:=false,ks:=[.oth],zs:=[.nilp],bytes:=8,tag:=.ptr 211,eqs:=false }),
 (210,{ agg:=true,ks:=[.oth,.oth],zs:=[.nilp,.nils],bytes:=32,tag:=.strct [(0,209,1,false),(1,185,1,false)],eqs:=false }),
 (211,{ agg:=true,ks:=[.oth,.oth],zs:=[.nilp,.nils],bytes:=32,tag:=.strct [(0,209,1,false),(1,185,1,false)],eqs:=false }),
 (224,{ agg:=false,ks:=[.oth],zs:=[.nilm],bytes:=8,tag:=.other,eqs:=false }),
 (233,{ agg:=false,ks:=[.oth],zs:=[.nilp],bytes:=8,tag:=.ptr 5,eqs:=false }),
 (261,{ agg:=false,ks:=[.oth],zs:=[.nilp],bytes:=8,tag:=.ptr 247,eqs:=false }),
 (264,{ agg:=false,ks:=[.int .i64],zs:=[.int .i64 (.I 0)],bytes:=8,tag:=.int .i64,eqs:=false }),
 (271,{ agg:=false,ks:=[.int .u32],zs:=[.int .u32 (.I 0)],bytes:=4,tag:=.int .u32,eqs:=false }),
 (273,{ agg:=false,ks:=[.int .u64],zs:=[.int .u64 (.I 0)],bytes:=8,tag:=.int .u64,eqs:=false }),
 (283,{ agg:=false,ks:=[.int .u64],zs:=[.int .u64 (.I 0)],bytes:=8,tag:=.int .u64,eqs:=false }),
 (287,{ agg:=false,ks:=[.oth],zs:=[.nilp],bytes:=8,tag:=.ptr 3,eqs:=false }),
 (291,{ agg:=false,ks:=[.oth],zs:=[.nilp],bytes:=8,tag:=.ptr 283,eqs:=false }),
 (295,{ agg:=true,ks:=[.int .u8,.int .u8],zs:=[.int .u8 (.I 0),.int .u8 (.I 0)],bytes:=2,tag:=.strct [(0,5,1,false),(1,5,1,false)],eqs:=false }),
 (296,{ agg:=true,ks:=[.int .u8,.int .u8],zs:=[.int .u8 (.I 0),.int .u8 (.I 0)],bytes:=2,tag:=.strct [(0,5,1,false),(1,5,1,false)],eqs:=false }),
 (298,{ agg:=true,ks:=[.oth,.oth,.oth,.str],zs:=[.nilp,.nilp,.nilp,.str (.S [])],bytes:=40,tag:=.strct [(0,17,1,false),(1,17,1,false),(2,17,1,false),(3,9,1,false)],eqs:=false }),
 (299,{ agg:=true,ks:=[.oth,.oth,.oth,.str],zs:=[.nilp,.nilp,.nilp,.str (.S [])],bytes:=40,tag:=.strct [(0,17,1,false),(1,17,1,false),(2,17,1,false),(3,9,1,false)],eqs:=false }),
 (303,{ agg:=false,ks:=[.int .u8],zs:=[.int .u8 (.I 0)],bytes:=1,tag:=.int .u8,eqs:=false }),
 (304,{ agg:=false,ks:=[.int .u8],zs:=[.int .u8 (.I 0)],bytes:=1,tag:=.int .u8,eqs:=false }),
 (306,{ agg:=false,ks:=[.int .i32],zs:=[.int .i32 (.I 0)],bytes:=4,tag:=.int .i32,eqs:=false }),
 (307,{ agg:=false,ks:=[.int .i32],zs:=[.int .i32 (.I 0)],bytes:=4,tag:=.int .i32,eqs:=false })]
noncomputable def sxE:Env:=⟨sxT,[(0,[]),(34,[27,32,33]),(36,[27,33]),(55,[27,32]),(81,[64,80]),(85,[23,33]),(103,[3,4]),(115,[9,33]),(117,[3,33]),(119,[25,33]),(137,[22,33]),(144,[25,25]),(215,[3,214]),(248,[247,4]),(265,[3,264]),(277,[271,271]),(279,[21,3]),(292,[3,3])],[3,4,5,6,7,8,9,10,11,12,13,14,15,16,17,18,19,20,21,22,23,24,25,26,27,28,29,30,31,32,33,34,35,36,37,38,39,40,41,42,43,44,45,46,47,48,49,50,51,52,53,54,55,56,57,58,59,60,61,62,63,64,65,66,67,68,69,70,71,72,73,74,75,76,77,78,79,80,81,82,83,84,85,86,87,88,89,90,91,92,93,94,95,96,97,98,99,100,101,102,103,104,105,106,107,108,109,110,111,112,113,114,115,116,117,118,119,120,121,122,123,124,125,126,127,128,129,130,131,132,133,134,135,136,137,138,139,140,141,142,143,144,145,146,147,148,149,150,151,152,153,154,155,156,157,158,159,160,161,162,163,164,165,166,167,168,169,170,171,172,173,174,175,176,177,178,179,180,181,182,183,184,185,186,187,188,189,190,192,193,194,195,196,197,198,199,200,201,202,203,204,205,206,208,209,210,211,212,213,214,215,216,217,218,219,220,221,222,223,224,226,227,228,229,230,231,232,233,234,235,236,237,238,239,240,241,242,243,245,246,247,248,249,250,251,252,253,254,255,257,258,261,263,264,265,266,267,268,269,270,271,272,273,274,275,276,277,278,279,280,281,282,283,285,286,287,288,289,290,291,292,293,294,295,297,298,299,321],[45,80,89,97,148,149,150,152,177,179,185,190,197,218,219,241,261],[97,110,152,197,218,219,241],[211],[(20,Tryz.f20),(21,Tryz.f21),(23,Tryz.f23),(32,Tryz.f32),(37,Tryz.f37),(41,Tryz.f41),(61,Tryz.f61),(62,Tryz.f62),(63,Tryz.f63),(65,Tryz.f65),(66,Tryz.f66),(71,Tryz.f71),(73,Tryz.f73),(74,Tryz.f74),(76,Tryz.f76),(87,Tryz.f87),(121,Tryz.f121),(122,Tryz.f122),(123,Tryz.f123),(124,Tryz.f124),(125,Tryz.f125),(126,Tryz.f126),(128,Tryz.f128),(129,Tryz.f129),(130,Tryz.f130),(139,Tryz.f139),(151,Tryz.f151),(154,Tryz.f154),(155,Tryz.f155),(156,Tryz.f156),(160,Tryz.f160),(161,Tryz.f161),(162,Tryz.f162),(163,Tryz.f163),(164,Tryz.f164),(165,Tryz.f165),(166,Tryz.f166),(167,Tryz.f167),(178,Tryz.f178),(181,Tryz.f181),(182,Tryz.f182),(188,Tryz.f188),(189,Tryz.f189),(193,Tryz.f193),(194,Tryz.f194),(195,Tryz.f195),(196,Tryz.f196),(198,Tryz.f198),(199,Tryz.f199),(201,Tryz.f201),(202,Tryz.f202),(212,Tryz.f212),(213,Tryz.f213),(217,Tryz.f217),(222,Tryz.f222),(223,Tryz.f223),(227,Tryz.f227),(231,Tryz.f231),(232,Tryz.f232),(236,Tryz.f236),(237,Tryz.f237),(238,Tryz.f238),(239,Tryz.f239),(240,Tryz.f240),(267,Tryz.f267)],[],[5,6,10,11,15,17,22,24,36,38,39,42,48,74,75,89,90,91,93,94,95,98,141,142,143],[89,71,1042064,1042074]⟩
theorem sxE_check:sxE.check Tryz.prog=true:=by kernel_rfl
theorem sxE_inl:∀p∈sxE.inl,Tryz.prog.funcs[p.1]?=some p.2:=qy2.2 ⟨Tryz.func20,qy2.2 ⟨Tryz.func21,qy2.2 ⟨Tryz.func23,qy2.2 ⟨Tryz.func32,qy2.2 ⟨Tryz.func37,qy2.2 ⟨Tryz.func41,qy2.2 ⟨Tryz.func61,qy2.2 ⟨Tryz.func62,qy2.2 ⟨Tryz.func63,qy2.2 ⟨Tryz.func65,qy2.2 ⟨Tryz.func66,qy2.2 ⟨Tryz.func71,qy2.2 ⟨Tryz.func73,qy2.2 ⟨Tryz.func74,qy2.2 ⟨Tryz.func76,qy2.2 ⟨Tryz.func87,qy2.2 ⟨Tryz.func121,qy2.2 ⟨Tryz.func122,qy2.2 ⟨Tryz.func123,qy2.2 ⟨Tryz.func124,qy2.2 ⟨Tryz.func125,qy2.2 ⟨Tryz.func126,qy2.2 ⟨Tryz.func128,qy2.2 ⟨Tryz.func129,qy2.2 ⟨Tryz.func130,qy2.2 ⟨Tryz.func139,qy2.2 ⟨Tryz.func151,qy2.2 ⟨Tryz.func154,qy2.2 ⟨Tryz.func155,qy2.2 ⟨Tryz.func156,qy2.2 ⟨Tryz.func160,qy2.2 ⟨Tryz.func161,qy2.2 ⟨Tryz.func162,qy2.2 ⟨Tryz.func163,qy2.2 ⟨Tryz.func164,qy2.2 ⟨Tryz.func165,qy2.2 ⟨Tryz.func166,qy2.2 ⟨Tryz.func167,qy2.2 ⟨Tryz.func178,qy2.2 ⟨Tryz.func181,qy2.2 ⟨Tryz.func182,qy2.2 ⟨Tryz.func188,qy2.2 ⟨Tryz.func189,qy2.2 ⟨Tryz.func193,qy2.2 ⟨Tryz.func194,qy2.2 ⟨Tryz.func195,qy2.2 ⟨Tryz.func196,qy2.2 ⟨Tryz.func198,qy2.2 ⟨Tryz.func199,qy2.2 ⟨Tryz.func201,qy2.2 ⟨Tryz.func202,qy2.2 ⟨Tryz.func212,qy2.2 ⟨Tryz.func213,qy2.2 ⟨Tryz.func217,qy2.2 ⟨Tryz.func222,qy2.2 ⟨Tryz.func223,qy2.2 ⟨Tryz.func227,qy2.2 ⟨Tryz.func231,qy2.2 ⟨Tryz.func232,qy2.2 ⟨Tryz.func236,qy2.2 ⟨Tryz.func237,qy2.2 ⟨Tryz.func238,qy2.2 ⟨Tryz.func239,qy2.2 ⟨Tryz.func240,qy2.2 ⟨Tryz.func267,qy5 _⟩⟩⟩⟩⟩⟩⟩⟩⟩⟩⟩⟩⟩⟩⟩⟩⟩⟩⟩⟩⟩⟩⟩⟩⟩⟩⟩⟩⟩⟩⟩⟩⟩⟩⟩⟩⟩⟩⟩⟩⟩⟩⟩⟩⟩⟩⟩⟩⟩⟩⟩⟩⟩⟩⟩⟩⟩⟩⟩⟩⟩⟩⟩⟩⟩
theorem sxE_ok:EnvOK Tryz.prog sxE:=Env.ok sxE_check sxE_inl
abbrev Va(n:Nat):Sc:=.val (.var n)
abbrev Vi(n:Nat):Sc:=.int .i64 (.var n)
abbrev Vs(n:Nat):Sc:=.str (.var n)
abbrev Vb(n:Nat):Sc:=.bool (.var n)
abbrev Vk:Kd:=.int .i64
abbrev Vq(l:List Sc):SV:=.cv (false,l)
abbrev Cc(l:List Sc):SV:=.cv (true,l)
abbrev Xk:=X.consI .i64
abbrev Sh:=Sc.int .i64
abbrev Ts:=Tree.callP (.B true)
abbrev Tt(e:X)(t:Tree):Tree:=.need (.le (.I (-9223372036854775808)) e) (.need (.le e (.I 9223372036854775807)) t)
abbrev Ta:=Tree.need
abbrev Tb:=Tree.ite
abbrev Tc:=Tree.bindN
abbrev Td:=Tree.bindV
abbrev Te:=Tree.callM
abbrev Tf:=Tree.ret
abbrev Th:=Tree.back
abbrev Ti:=Tree.loop
abbrev Tj:=Tree.join
abbrev Tk:=Tree.jump
abbrev Tm:=Tree.both
abbrev Tn:=Tree.pack
abbrev To:=Tree.letV
abbrev Tp:=Tree.bindO
abbrev Tq:=Tree.callP
abbrev Tr:=Tree.openR
abbrev Xa:=X.add
abbrev Xb:=X.le
abbrev Xc:=X.lt
abbrev Xd:=X.rlen
abbrev Xe:=X.not
abbrev Xf:=X.and
abbrev Xg:=X.eqI
abbrev Xh:=X.rS
abbrev Xi:=X.rI
abbrev Xj:=X.snocR
abbrev Xm:=X.consB
abbrev Xn:=X.consS
abbrev Xo:=X.nilR
abbrev Xp:=X.or
abbrev Xq:=X.len
abbrev Xr:=X.rB
abbrev Xs:=X.rV
abbrev Xt:=X.consV
abbrev Xu:=X.nilS
abbrev Xv:=X.takeR
abbrev Xw:=X.dropR
abbrev Xx:=X.catR
abbrev Xy:=X.setR
abbrev Xz:=X.eqS
abbrev X1:=X.nilL
abbrev X2:=X.sub
abbrev X3:=X.I
abbrev X4:=X.B
abbrev X5:=X.S
abbrev X6:=X.var
abbrev X7:=X.mul
abbrev X8:=X.ite
abbrev Ea:=Ent.cells
abbrev Eb:=Ent.row
abbrev Ec:=Ent.rd
abbrev Ed:=Ent.st
abbrev Sa:=Sc.int
abbrev Sb:=Sc.bool
abbrev Sd:=Sc.str
abbrev Se:=Sc.val
abbrev Sf:=Sc.nils
abbrev Sg:=Sc.ptr
abbrev Ca:=SV.cv
abbrev Cb:=SV.tup
abbrev Ka:=Kd.str
abbrev Kb:=Kd.bool
abbrev Kc:=Kd.oth
abbrev Kd0:=Kd.int
abbrev V29:=X6 29
abbrev J2:=[Vk,Ka,Ka]
abbrev V31:=X6 31
abbrev J4:=Eb 30 132 J2 V31
abbrev V34:=X6 34
abbrev J6:=[Vk,Kb,Kb,Kb,Kb,Vk,Vk,Vk,Vk,Ka,Ka,Ka,Kc,Kc]
abbrev J7:=Eb 21 132 J2 Xo
abbrev V25:=X6 25
abbrev V26:=X6 26
abbrev V27:=X6 27
abbrev V28:=X6 28
abbrev V30:=X6 30
abbrev V32:=X6 32
abbrev V33:=X6 33
abbrev Jf:=Ea 20 180 [Vs 25,Vb 26,Vb 27,Va 28,Va 30,Vi 32,Va 33]
abbrev V0:=X6 0
abbrev V1:=X6 1
abbrev V2:=X6 2
abbrev V16:=X6 16
abbrev V18:=X6 18
abbrev V7:=X6 7
abbrev Jm:=Ea 15 64 [Vs 0,Vb 1,Vb 2,Va 16,Va 18,Vi 7]
abbrev Jn:=Ea 14 64 [Vs 0,Vb 1,Vb 2,Va 16,Va 18,Vi 7]
abbrev V3:=X6 3
abbrev V5:=X6 5
abbrev Jq:=Ea 13 64 [Vs 0,Vb 1,Vb 2,Va 3,Va 5,Vi 7]
abbrev Jr:=Eb 12 31 J6 Xo
abbrev V24:=X6 24
abbrev V4:=X6 4
abbrev V6:=X6 6
abbrev Jv:=[Ec 3 J2 V4,Ec 5 J2 V6]
abbrev Jw:=Ea 9 64 [Vs 0,Vb 1,Vb 2,Va 3,Va 5,Vi 7]::Jv
abbrev Jx:=Ea 10 3 [Vi 24]::Jw
abbrev V19:=X6 19
abbrev Jz:=Eb 18 132 J2 V19
abbrev V17:=X6 17
abbrev J11:=Eb 16 132 J2 V17
abbrev N12:=X3 0
abbrev J13:=Ea 11 64 [Sd (X5 []),Sb (X4 false),Sb (X4 false),Sf,Sf,Sh N12]
abbrev J14:=J7::Ea 20 180 [Vs 0,Vb 1,Vb 2,Va 16,Va 18,Vi 7,Sf]::Jz::J11::Jm::Jn::Jq::Jr::J13::Jx
abbrev V22:=X6 22
abbrev N16:=X3 1
abbrev V23:=X6 23
abbrev N18:=X3 9223372036854775807
abbrev N19:=X3 (-9223372036854775808)
abbrev V35:=X6 35
abbrev J1b:=Eb 34 132 J2 V35
abbrev V37:=X6 37
abbrev J1d:=Eb 36 132 J2 V37
abbrev V40:=X6 40
abbrev J1f:=Ea 25 132 [Sh (Xi V17 V23 0),Sd (Xh V17 V23 1),Sd (Xh V17 V23 2)]
abbrev V36:=X6 36
abbrev V38:=X6 38
abbrev V39:=X6 39
abbrev J1j:=Ea 20 180 [Vs 31,Vb 32,Vb 33,Va 34,Va 36,Vi 38,Va 39]
abbrev J1k:=Xn (X5 []) X1
abbrev J1l:X:=.clrR V28 V26 (Xk N12 (Xn (X5 []) J1k))
abbrev J1m:=Eb 29 132 J2 V30
abbrev J1n:=Eb 31 132 J2 V32
abbrev J1o:=Ea 20 180 [Vs 26,Vb 27,Vb 28,Va 29,Va 31,Vi 33,Va 34]
abbrev N1p:=X3 (-1)
abbrev V8:=X6 8
abbrev J1r:=Ea 14 64 [Vs 0,Vb 1,Vb 2,Va 3,Va 5,Vi 7]
abbrev J1s:=Ea 15 64 [Sd (X5 []),Sb (X4 false),Sb (X4 false),Sf,Sf,Sh N12]::J1r::Jq::Jr::J13::Ea 10 3 [Vi 8]::Jw
abbrev J1t:=Te 190 [Vq [Va 3]] J1s [] [] [] [J11] (Vq [Va 16]) 2 (Te 190 [Vq [Va 5]] (J11::J1s) [] [] [] [Jz] (Vq [Va 18]) 2 (Tc (To Xu (Ti [N12,N12,V8] (Tb (Xc V23 (Xd V17)) (Ta (Xb N12 V23) (Tc (Tb (Xg (Xi V17 V23 0) V24) (Tb (Xg V23 N1p) (Te 157 [Vq [Sg 20 0]] (J1f::J14) [20] [16,18] [J1o] [J1m,J1n,Eb 34 31 J6 V35] (Cb []) 10 (Tf (Cb [(true,[Vs 26,Vb 27,Vb 28,Va 29,Va 31,Vi 33]),(false,[Va 34])]) (J1m::J1n::Eb 34 31 J6 V35::J1f::J7::J1o::Jm::Jn::Jq::Jr::Ea 11 64 [Vs 26,Vb 27,Vb 28,Va 29,Va 31,Vi 33]::Jx))) (Tt (Xa V23 N16) (Ti [V23,Xa V23 N16,V17,V24] (Tb (Xc V27 (Xd V28)) (Ta (Xb N12 V27) (Tc (Tc (Tb (Xe (Xg (Xi V28 V27 0) V29)) (Ta (Xb N12 V26) (Ta (Xc V26 (Xd V28)) (Tt (Xa V26 N16) (Tt (Xa V27 N16) (Th 1 [Xa V26 N16,Xa V27 N16,Xy V28 V26 (Xk (Xi V28 V27 0) (Xn (Xh V28 V27 1) (Xn (Xh V28 V27 2) X1))),V29]))))) (Tt (Xa V27 N16) (Th 1 [V26,Xa V27 N16,V28,V29])))))) (Ta (Xb N12 V26) (Ta (Xb V26 (Xd V28)) (Ta (Xb V26 (Xd J1l)) (Td (Te 157 [Vq [Sg 20 0]] (Eb 30 132 J2 (Xv J1l V26)::J1f::J7::Ea 20 180 [Vs 0,Vb 1,Vb 2,Va 30,Va 18,Vi 7,Sf]::Jz::Jm::Jn::Jq::Jr::J13::Ea 10 3 [Vi 29]::Jw) [20] [30,18] [J1j] [J1b,J1d,Eb 39 31 J6 V40] (Cb []) 10 (Tf (Cb [(true,[Vs 31,Vb 32,Vb 33,Va 34,Va 36,Vi 38]),(false,[Va 39])]) (J1b::J1d::Eb 39 31 J6 V40::J1f::J7::J1j::Jm::Jn::Jq::Jr::Ea 11 64 [Vs 31,Vb 32,Vb 33,Va 34,Va 36,Vi 38]::Ea 10 3 [Vi 29]::Jw))))))))))) (Tt (Xa V23 N16) (Th 0 [V22,Xa V23 N16,V24]))))) (Te 157 [Vq [Sg 20 0]] J14 [20] [16,18] [Jf] [Eb 28 132 J2 V29,J4,Eb 33 31 J6 V34] (Cb []) 10 (Tf (Cb [(true,[Vs 25,Vb 26,Vb 27,Va 28,Va 30,Vi 32]),(false,[Va 33])]) (Eb 28 132 J2 V29::J4::Eb 33 31 J6 V34::J7::Jf::Jm::Jn::Jq::Jr::Ea 11 64 [Vs 25,Vb 26,Vb 27,Va 28,Va 30,Vi 32]::Jx))))))))
abbrev J1u:=Tf (Vq [Vb 6]) []
abbrev J1v:=Xw (Xv V1 (Xd V1)) N16
abbrev J1w:=[Ka]
abbrev J1x:=Xw (Xv V3 (Xd V3)) N16
abbrev J1y:=[Ec 2 J1w V3]
abbrev J1z:=Tf (Vq [Sb (X4 false)]) []
abbrev J20:=Tf (Vq [Sb (X4 true)]) []
abbrev J21:=Tf (Vq [Sh N12]) []
abbrev J22:=Tt (Xa V5 N16) (Th 0 [V4,Xa V5 N16])
abbrev J23:=Tf (Vq [Sh N16]) []
abbrev J24:=[N12]
abbrev J25:=N12::J24
abbrev N26:=X3 2
abbrev J27:=Tf (Vq [Sh N26]) []
abbrev N28:=X3 6
abbrev J29:=X4 false::J24
abbrev V11:=X6 11
abbrev V9:=X6 9
abbrev J2c:=[Vk]
abbrev V10:=X6 10
abbrev J2e:=Tt (Xa V2 N16) (Th 0 [V1,Xa V2 N16])
abbrev J2f:=Xk N12 X1
abbrev J2g:=Xk N16 X1
abbrev J2h:=[Ka,Ka,Vk]
abbrev V20:=X6 20
abbrev J2j:=Eb 17 132 J2 V18
abbrev J2k:=Ea 16 64 [Vs 0,Vb 1,Vb 2,Va 17,Va 19,Vi 7]
abbrev J2l:=Ea 15 64 [Vs 0,Vb 1,Vb 2,Va 17,Va 19,Vi 7]
abbrev J2m:=Eb 13 31 J6 Xo
abbrev J2n:=Ea 11 64 [Vs 0,Vb 1,Vb 2,Va 3,Va 5,Vi 7]
abbrev J2o:=Eb 19 132 J2 V20::J2j::J2k::J2l::J1r::J2m::Ea 12 64 [Vs 0,Vb 1,Vb 2,Va 17,Va 19,Vi 7]::J2n::Jv
abbrev J2p:=Xk N12 (Xn V8 (Xn V9 X1))
abbrev J2q:=Eb 22 132 J2 (Xj Xo J2p)
abbrev J2r:=Ea 21 180 [Vs 24,Vb 25,Vb 26,Va 27,Va 29,Vi 31,Va 32]
abbrev J2s:=Ea 12 64 [Sd (X5 []),Sb (X4 false),Sb (X4 false),Sf,Sf,Sh N12]
abbrev J2t:=J1r::J2m::J2s::J2n::Jv
abbrev N2u:=X3 3518437208883
abbrev J2v:=Xt Xu (Xt Xu X1)
abbrev N2w:=X3 3
abbrev J2x:=Xj Xo (Xk N2w (Xm (X4 false) (Xm (X4 false) (Xm (X4 false) (Xm (X4 false) (Xk N12 (Xk N12 (Xk N12 (Xk N12 (Xn (X5 []) (Xn V8 (Xn V9 J2v))))))))))))
abbrev N2y:=X3 977343669134
abbrev J2z:=Ea 16 64 [Sd (X5 []),Sb (X4 false),Sb (X4 false),Sf,Sf,Sh N12]::Ea 15 64 [Vs 0,Vb 1,Vb 2,Va 3,Va 5,Vi 7]::J2t
abbrev J30:=Te 190 [Vq [Va 3]] J2z [] [] [] [J2j] (Vq [Va 17]) 2 (Te 190 [Vq [Va 5]] (J2j::J2z) [] [] [] [Eb 19 132 J2 V20] (Vq [Va 19]) 2 (Tc (Tb (Xf (Xg V10 N12) V1) (Td (To Xu (Ta (Xb (Xa (Xd Xo) (Xd J2x)) N2y) (Td (Tf (Cb [(true,[Vs 0,Vb 1,Vb 2,Va 17,Va 19,Vi 7]),(false,[Va 24])]) (Eb 24 31 J6 J2x::Eb 22 31 J6 J2x::Ea 21 180 [Vs 0,Vb 1,Vb 2,Va 17,Va 19,Vi 7,Va 24]::J2o)))))) (Tb (Xf (Xf (Xg V10 N16) (Xp V1 (Xe V2))) (Xc (Xd V20) N28)) (Td (Ta (Xb (Xa (Xd V20) (Xd (Xj Xo J2p))) N2u) (Td (Te 157 [Vq [Sg 21 0]] (Eb 23 132 J2 (Xj V20 J2p)::J2q::Ea 21 180 [Vs 0,Vb 1,Vb 2,Va 17,Va 23,Vi 7,Sf]::J2j::J2k::J2l::J2t) [21] [17,23] [J2r] [Eb 27 132 J2 V28,J1m,Eb 32 31 J6 V33] (Cb []) 10 (Tf (Cb [(true,[Vs 24,Vb 25,Vb 26,Va 27,Va 29,Vi 31]),(false,[Va 32])]) (Eb 27 132 J2 V28::J1m::Eb 32 31 J6 V33::J2q::J2r::J2k::J2l::J1r::J2m::Ea 12 64 [Vs 24,Vb 25,Vb 26,Va 27,Va 29,Vi 31]::J2n::Jv)))))) (Tf (Cb [(true,[Vs 0,Vb 1,Vb 2,Va 17,Va 19,Vi 7]),(false,[Sf])]) (Ea 21 180 [Vs 0,Vb 1,Vb 2,Va 17,Va 19,Vi 7,Sf]::J2o))))))
abbrev J31:=[Vk,Ka,Ka,Vk]
abbrev J32:=Eb 7 74 J31 V8
abbrev J33:=[Ec 0 J31 V1]
abbrev J34:=Eb 4 74 J31 Xo::Eb 3 74 J31 Xo::J33
abbrev V14:=X6 14
abbrev J36:=Xk (Xi V1 V11 0) (Xn (Xh V1 V11 1) (Xn (Xh V1 V11 2) (Xk (Xi V1 V11 3) X1)))
abbrev J37:=[Xa V11 N16]
abbrev J38:List X:=V9::V10::J37
abbrev N39:=X3 2932031007402
abbrev J3a:=Xk (Xi V1 V11 0) (Xn (Xh V1 V11 1) (Xn (Xh V1 V11 2) (Xk (Xa (Xi V1 V11 3) N16) X1)))
abbrev J3b:=Xk (Xi V1 V11 0) (Xn (Xh V1 V11 1) (Xn (Xh V1 V11 2) J2f))
abbrev N3c:=X3 16777215
abbrev J3d:=Xo::J24
abbrev V15:=X6 15
abbrev V13:=X6 13
abbrev V21:=X6 21
abbrev J3h:=Tt (Xa V3 N16) (Th 0 [V2,Xa V3 N16])
abbrev J3i:=Tf (Vq [Sh N28]) []
abbrev V12:=X6 12
abbrev J3k:=Xw (Xv V1 V3) N12
abbrev J3l:=Tf (Vq [Sh N2w]) []
abbrev J3m:=Tf (Vq [Vi 5]) []
abbrev N3n:=X3 12
abbrev N3o:=X3 4
abbrev J3p:=Tf (Vq [Sh N3o]) []
abbrev N3q:=X3 200
abbrev J3r:=Xx Xo V1
abbrev J3s:=Tf (Vq [Vi 4]) []
abbrev N3t:=X3 8
abbrev J3u:=Ea 18 180 [Vs 28,Vb 29,Vb 30,Va 31,Va 33,Vi 35,Va 36]
abbrev J3v:=Ea 13 64 [Vs 0,Vb 1,Vb 2,Va 14,Va 16,Vi 7]
abbrev J3w:=Ea 12 64 [Vs 0,Vb 1,Vb 2,Va 14,Va 16,Vi 7]
abbrev J3x:=Eb 10 31 J6 Xo
abbrev J3y:=Ea 8 64 [Vs 0,Vb 1,Vb 2,Va 3,Va 5,Vi 7]
abbrev J3z:=J3y::Jv
abbrev J40:=Eb 23 132 J2 V24
abbrev J41:=Eb 14 132 J2 V15
abbrev J42:=Ea 9 64 [Sd (X5 []),Sb (X4 false),Sb (X4 false),Sf,Sf,Sh N12]
abbrev J43:=Xk N2w (Xm (X4 true) (Xm (X4 false) (Xm (X4 false) (Xm (X4 false) (Xk N16 (Xk (Xi V15 V19 0) (Xk N12 (Xk N12 (Xn (X5 []) (Xn (Xh V15 V19 1) (Xn (Xh V15 V19 2) J2v)))))))))))
abbrev J44:=Ea 12 64 [Vs 0,Vb 1,Vb 2,Va 3,Va 5,Vi 7]
abbrev J45:=Ea 13 64 [Sd (X5 []),Sb (X4 false),Sb (X4 false),Sf,Sf,Sh N12]::J44::J2n::J3x::J42::J3z
abbrev J46:=Te 190 [Vq [Va 3]] J45 [] [] [] [J41] (Vq [Va 14]) 2 (Te 190 [Vq [Va 5]] (J41::J45) [] [] [] [J11] (Vq [Va 16]) 2 (Tc (Ti [N12,V0,X4 true,V2,V16,V17,V7,Xu,Xo] (Tb (Xc V19 (Xd V15)) (Ta (Xb N12 V19) (Tc (Tc (Td (Ta (Xb (Xa (Xd V27) (Xd (Xj Xo J43))) N2y) (Td (Tt (Xa V19 N16) (Th 0 [Xa V19 N16,V20,V21,V22,V23,V24,V25,V31,Xj V27 J43])))))))) (Te 157 [Vq [Sg 18 0]] [Ea 18 180 [Vs 20,Vb 21,Vb 22,Va 14,Va 23,Vi 25,Va 26],J40,J41,J3v,J3w,J2n,J3x,J42,J3y,Ec 3 J2 V4,Ec 5 J2 V6,Eb 26 31 J6 V27] [18] [14,23,26] [J3u] [J1n,Eb 33 132 J2 V34,Eb 36 31 J6 V37] (Cb []) 10 (Tf (Cb [(true,[Vs 28,Vb 29,Vb 30,Va 31,Va 33,Vi 35]),(false,[Va 36])]) (J1n::Eb 33 132 J2 V34::Eb 36 31 J6 V37::J3u::J3v::J3w::J2n::J3x::Ea 9 64 [Vs 28,Vb 29,Vb 30,Va 31,Va 33,Vi 35]::J3z)))))))
abbrev J47:=Ea 9 71 [Vs 2,Vs 3,Vi 4]
abbrev J48:=Ec 0 J2h V1
abbrev J49:=[J48]
abbrev J4a:=Eb 6 71 J2h Xo::Ea 5 71 [Vs 2,Vs 3,Vi 4]::J49
abbrev J4b:=Xn V2 (Xn V3 (Xk V4 X1))
abbrev J4c:=J47::Eb 7 71 J2h V8::J4a
abbrev J4d:=Eb 14 71 J2h V15
abbrev N4e:=X3 65535
abbrev J4f:=[Xa V13 N16]
abbrev J4g:=Tf (Vq [Vi 14]) []
abbrev J4h:=[Xa V14 N16]
abbrev J4i:=Tf (Vq [Vi 12]) []
abbrev J4j:=[Vk,Ka]
abbrev J4k:=[Ea 7 50 [Vi 0,Vi 1,Vi 2,Vs 3,Va 4,Vs 6],Ec 4 J4j V5]
abbrev J4l:=Tf (Vq [Sh (X3 7)]) []
abbrev J4m:=Xk (Xi V1 V8 0) (Xn (Xh V1 V8 1) (Xn (Xh V1 V8 2) (Xk (Xi V1 V8 3) X1)))
abbrev J4n:=Tt (Xa V19 N16) (Th 0 [V18,Xa V19 N16])
abbrev N4o:=X3 128
abbrev J4p:=Tf (Vq [Vi 17]) []
abbrev J4q:=Ea 6 89 [Vs 8,Vs 9,Vi 10]
abbrev J4r:=Eb 4 89 J2h Xo
abbrev J4s:=J4r::J49
abbrev J4t:=J4q::Eb 11 89 J2h V12::J4s
abbrev J4u:=Xn V8 (Xn V9 (Xk V10 X1))
abbrev J4v:=Xj V12 J4u
abbrev J4w:=Eb 16 89 J2h J4v::Eb 15 89 J2h (Xj Xo J4u)::J4q::J4s
abbrev J4x:=Xn (Xh V1 V14 0) (Xn (Xh V1 V14 1) (Xk (Xi V1 V14 2) X1))
abbrev J4y:=To Xu (Tf (Cb [(false,[Va 5]),(false,[Sh N26])]) (Eb 5 89 J2h Xo::J4s))
abbrev J4z:=Eb 5 89 J2h V6
abbrev J50:=J4z::J4s
abbrev J51:=Xy V6 V7 (Xn (Xh V6 V7 0) (Xn V3 (Xk (Xi V6 V7 2) X1)))
abbrev J52:=Xk V2 (Xn V3 (Xn V4 J2g))
abbrev J53:=Eb 9 74 J31 (Xj V7 J52)::Eb 8 74 J31 (Xj Xo J52)::Eb 5 74 J31 Xo::J33
abbrev J54:List X:=[V5,Xa V6 N16]
abbrev J55:=Tf (Vq [Sb (Xf (Xf (Xb N16 (Xq V0)) (Xb (Xq V0) (X3 20))) V1)]) []
abbrev J56:=Ec 19 J2 V20
abbrev J57:=Xk N2w (Xm (X4 false) (Xm (X4 false) (Xm (X4 false) (Xm (X4 false) (Xk N16 (Xk V23 (Xk N12 (Xk N12 (Xn (X5 []) (Xn (Xh V20 N12 1) (Xn (Xh V20 N12 2) J2v)))))))))))
abbrev J58:=Xk V23 (Xn (Xh V20 N12 1) (Xn (Xh V20 N12 2) X1))
abbrev J59:=Xw (Xv V20 (Xd V20)) N16
abbrev J5a:=Tp (Ta (Xb (Xa (Xd (Xx Xo V18)) (Xd (Xj Xo J58))) N2u) (Tp (Ta (Xb N16 (Xd V20)) (.bindF 19 (Tp (Ta (Xb (Xa (Xd V13) (Xd (Xj Xo J57))) N2y) (Tp (Th 0 [V31,Xj V13 J57,V14,V15,V16,V28,Xj (Xx Xo V18) J58,V29,J59,Xa V23 N16]))))))))
abbrev J5b:=Tp (Ta (Xb (Xa (Xd Xo) (Xd V18)) N2u) J5a)
abbrev J5c:=Tp (Ta (Xb (Xa (Xd (Xx Xo V18)) (Xd (Xj Xo J58))) N2u) (Tp (Ta (Xb N16 (Xd V20)) (.bindF 19 (Tp (Ta (Xb (Xa (Xd V13) (Xd (Xj Xo J57))) N2y) (Tp (Th 0 [V31,Xj V13 J57,V14,V15,V16,V28,Xj (Xx Xo V18) J58,V29,J59,N16]))))))))
abbrev J5d:=Tp (Ta (Xb (Xa (Xd Xo) (Xd V18)) N2u) J5c)
abbrev J5e:=Eb 13 132 J2 V14
abbrev J5f:=Ea 10 64 [Vs 0,Vb 1,Vb 2,Va 3,Va 5,Vi 7]
abbrev J5g:=J2s::J2n::J5f::J42::J3z
abbrev J5h:=Te 190 [Vq [Va 3]] J5g [] [] [] [J5e] (Vq [Va 13]) 2 (Te 190 [Vq [Va 5]] (J5e::J5g) [] [] [] [Eb 15 132 J2 V16] (Vq [Va 15]) 2 (Tc (Tb V2 (Tf (Cc [Vs 0,Sb (X4 false),Vb 2,Sf,Sf,Vi 7]) []) (Tf (Cc [Vs 0,Sb (X4 false),Vb 2,Va 13,Va 15,Vi 7]) (Ea 17 180 [Vs 0,Sb (X4 false),Vb 2,Va 13,Va 15,Vi 7,Sf]::Eb 15 132 J2 V16::J5e::Ea 12 64 [Vs 0,Vb 1,Vb 2,Va 13,Va 15,Vi 7]::Ea 11 64 [Vs 0,Vb 1,Vb 2,Va 13,Va 15,Vi 7]::J5f::Ea 9 64 [Vs 0,Sb (X4 false),Vb 2,Va 13,Va 15,Vi 7]::J3z)))))
abbrev J5i:=Eb 6 74 J31 Xo
abbrev J5j:=Eb 9 74 J31 Xo::J32::J5i::Ea 5 9 [Vs 12]::Ea 4 3 [Vi 13]::J33
abbrev J5k:=Xn (X5 []) (Xn (X5 []) J2f)
abbrev J5l:X:=.clrR V18 V16 (Xk N12 J5k)
abbrev J5m:=Ea 15 74 [Sh (Xi V8 V11 0),Sd (Xh V8 V11 1),Sd (Xh V8 V11 2),Sh (Xi V8 V11 3)]
abbrev J5n:=Ea 14 74 [Sh (Xi V8 V11 0),Sd (Xh V8 V11 1),Sd (Xh V8 V11 2),Sh (Xi V8 V11 3)]
abbrev J5o:=Ta (Xb V10 (Xd V4)) (Td (Ts 206 [Vq [Va 14],Vq [Sh (Xi V4 V10 0)]] (Ec 14 J2 (Xw (Xv V4 V10) N12)::Ea 11 132 [Sh (Xi V4 V10 0),Sd (Xh V4 V10 1),Sd (Xh V4 V10 2)]::J3z) (Vq [Vb 15]) 1 (Tb V15 J3i (Tt (Xa V10 N16) (Th 0 [V9,Xa V10 N16])))))
abbrev J5p:=Xy V9 V7 (.consI .u8 (Xi V9 V8 0) X1)
abbrev J5q:X:=.consI .u8 (.wrap .u8 V3) X1
abbrev J5r:=[Eb 4 132 J2 V5,Eb 6 132 J2 V7,Eb 9 31 J6 V10,Ea 0 180 [Vs 1,Vb 2,Vb 3,Va 4,Va 6,Vi 8,Va 9]]
abbrev J5s:=Xk N2w (Xm (X4 false) (Xm (X4 false) (Xm (X4 false) (Xm (X4 false) (Xk N16 (Xk V12 (Xk N12 (Xk N12 (Xn (X5 []) (Xn (Xh V7 N12 1) (Xn (Xh V7 N12 2) J2v)))))))))))
abbrev J5t:=Ea 17 132 [Vi 12,Sd (Xh V7 N12 1),Sd (Xh V7 N12 2)]
abbrev J5u:=Xk V12 (Xn (Xh V7 N12 1) (Xn (Xh V7 N12 2) X1))
abbrev J5v:=Eb 15 132 J2 (Xj Xo J5u)
abbrev J5w:=Ea 11 132 [Vi 12,Sd (Xh V7 N12 1),Sd (Xh V7 N12 2)]
abbrev J5x:=[Eb 28 31 J6 V29,Eb 18 31 J6 (Xj Xo J5s),J5t,J40,J5v,Ec 25 J2 V26,J5w,Ec 6 J2 V7,Ea 0 180 [Vs 20,Vb 21,Vb 22,Va 23,Va 25,Vi 27,Va 28]]
abbrev J5y:=Xk V31 (Xn (Xh V26 N12 1) (Xn (Xh V26 N12 2) X1))
abbrev J5z:=Xk N2w (Xm (X4 false) (Xm (X4 false) (Xm (X4 false) (Xm (X4 false) (Xk N16 (Xk V31 (Xk N12 (Xk N12 (Xn (X5 []) (Xn (Xh V26 N12 1) (Xn (Xh V26 N12 2) J2v)))))))))))
abbrev V42:=X6 42
abbrev V41:=X6 41
abbrev J62:=Ea 14 50 [Vi 0,Vi 1,Vi 2,Vs 3,Va 15,Vs 6]
abbrev J63:=Ea 13 50 [Vi 0,Vi 1,Vi 2,Vs 3,Va 15,Vs 6]
abbrev J64:=[Ea 10 50 [Vi 0,Vi 1,Vi 2,Vs 3,Va 4,Vs 6],Ec 4 J4j V5,Ec 8 J1w V9]
abbrev J65:=Ea 12 50 [Sh N12,Sh N12,Sh N12,Sd (X5 []),Sf,Sd (X5 [])]
abbrev J66:=Xk V33 (Xn (Xh V9 V40 0) X1)
abbrev N67:=X3 5864062014805
abbrev J68:=Tk 0 [N12,N12,N12,N12,N12,N12,N12,N12,N12,N12,V15,V21,V16]
abbrev J69:X:=.clrR V25 V23 (Xk N12 J1k)
abbrev J6a:List X:=[V23,Xa V24 N16,V25,V26]
abbrev J6b:=Xy V11 V10 (Xk (Xi V11 V10 0) (Xn (Xh V11 V10 1) (Xn (Xh V11 V10 2) (Xk (.bits .and .i64 (Xa (Xi V11 V10 3) N16) N3c) X1))))
abbrev J6c:=Xk (Xi J6b V10 0) (Xn (Xh J6b V10 1) (Xn (Xh J6b V10 2) (Xk (Xi J6b V10 3) X1)))
abbrev J6d:=[Ka,Vk]
abbrev J6e:=[Xa V7 N16]
abbrev J6f:=Tt (Xa V7 N16) (Th 0 (V5::V6::J6e))
abbrev J6g:=Xj V6 (Xn (Xh V1 V7 0) J2f)
abbrev J6h:=Tb (Xf (Xc N12 V3) (Xe V5)) J3p J3h
abbrev J6i:=Tf (Cb [(false,[Sh N12]),(false,[Sh (X3 5)])]) []
abbrev J6j:=Tf (Cb [(false,[Sh N12]),(false,[Sh N16])]) []
abbrev J6k:=[Eb 1 9 J1w Xo]
abbrev J6l:=[Eb 2 113 J4j Xo,Ec 0 J4j V1]
abbrev N6m:=X3 11
abbrev J6n:=[Ec 12 J6d V13,Ec 14 J2c V15]
abbrev J6o:=Ea 16 31 [Vi 0,Vb 1,Vb 2,Vb 3,Vb 4,Vi 5,Vi 6,Vi 7,Vi 8,Vs 9,Vs 10,Vs 11,Va 12,Va 14]::J6n
abbrev J6p:=Tf (Cc [Vi 0,Vb 1,Vb 2,Vb 3,Vb 4,Vi 5,Sh N12,Vi 7,Vi 8,Vs 9,Vs 10,Vs 11,Sf,Va 14]) (Ea 17 31 [Vi 0,Vb 1,Vb 2,Vb 3,Vb 4,Vi 5,Sh N12,Vi 7,Vi 8,Vs 9,Vs 10,Vs 11,Sf,Va 14]::Ea 16 31 [Vi 0,Vb 1,Vb 2,Vb 3,Vb 4,Vi 5,Sh N12,Vi 7,Vi 8,Vs 9,Vs 10,Vs 11,Sf,Va 14]::J6n)
abbrev J6q:=Tf (Cc [Vi 0,Vb 1,Vb 2,Vb 3,Vb 4,Vi 5,Sh N12,Vi 7,Vi 8,Vs 9,Vs 10,Vs 11,Va 12,Va 14]) (Ea 17 31 [Vi 0,Vb 1,Vb 2,Vb 3,Vb 4,Vi 5,Sh N12,Vi 7,Vi 8,Vs 9,Vs 10,Vs 11,Va 12,Va 14]::Ea 16 31 [Vi 0,Vb 1,Vb 2,Vb 3,Vb 4,Vi 5,Sh N12,Vi 7,Vi 8,Vs 9,Vs 10,Vs 11,Va 12,Va 14]::J6n)
abbrev J6r:=Xk V2 (Xn V3 (Xn V4 (Xk V5 X1)))
abbrev J6s:=Eb 7 74 J31 Xo::Ea 6 74 [Vi 2,Vs 3,Vs 4,Vi 5]::J33
abbrev J6t:=Eb 8 74 J31 (Xj Xo J6r)::J6s
abbrev J6u:=Eb 11 74 J31 (Xj V10 J6r)::J6t
abbrev J6v:=Eb 11 74 J31 (Xj V9 J6r)::Eb 10 74 J31 (Xj Xo J6r)::J6s
abbrev J6w:=Te 179 [Vq [Va 0],Vq [Vi 2],Vq [Vs 3]] J6s [] [] [] [Eb 8 74 J31 V9] (Vq [Va 8]) 2 (Td (Ta (Xb (Xa (Xd V9) (Xd (Xj Xo J6r))) N39) (Td (Tb (Xc N3n (Xd (Xj V9 J6r))) (To Xu (Tf (Cb [(false,[Va 12]),(false,[Sh N26])]) (Eb 12 74 J31 Xo::J6v))) (Tf (Cb [(false,[Va 11]),(false,[Sh N12])]) J6v)))))
abbrev J6x:=Ts 146 [Cc [Vi 0,Vb 1,Vb 2,Vb 3,Vb 4,Vi 5,Vi 6,Vi 7,Vi 8,Vs 9,Vs 10,Vs 11,Va 12,Va 14]] J6o (Vq [Vi 17]) 1 J4p
abbrev J6y:=Tf (Cb [(false,[Sd (X5 [])]),(false,[Sh N16])]) []
abbrev J6z:=Tf (Cb [(false,[Sd (X5 [])]),(false,[Sh (X3 5)])]) []
abbrev J70:=Xa V9 N16::Xc N16 (Xd V13)::J37
abbrev J71:=Xa V9 N16::X4 true::J37
abbrev J72:=Tf (Cb [(false,[Vs 13]),(false,[Sh N12])]) []
abbrev J73:=Tt (Xa V4 N16) (Th 0 [V3,Xa V4 N16])
abbrev J74:=Ti J25 (Tb (Xc V4 (Xd V1)) (Ta (Xb N12 V4) (Tb (Xz (Xh V1 V4 0) V2) J3s J73)) (Tf (Vq [Sh N1p]) []))
abbrev J75:=Ec 30 J6d V31::Ec 32 J2c V33::J6o
abbrev J76:=Ts 88 [Cc [Vi 0,Vb 1,Vb 2,Vb 3,Vb 4,Vi 5,Vi 6,Vi 7,Vi 8,Vs 9,Vs 10,Vs 11,Va 12,Va 14]] J75 (Vq [Vi 36]) 1 (Tf (Vq [Vi 36]) [])
abbrev J77:=Ts 88 [Cc [Vi 0,Vb 1,Vb 2,Vb 3,Vb 4,Vi 5,Vi 6,Vi 7,Vi 8,Vs 9,Vs 10,Vs 11,Va 12,Va 14]] J75 (Vq [Vi 37]) 1 (Tf (Vq [Vi 37]) [])
abbrev J78:=Ec 21 J2 V22
abbrev J79:=Eb 16 132 J2 (Xj Xo J2p)
abbrev J7a:=Ea 11 64 [Vs 0,Vb 1,Vb 2,Va 3,Va 17,Vi 7]::Jv
abbrev J7b:=To Xu (Tf (Cb [(true,[Vs 0,Vb 1,Vb 2,Va 3,Va 5,Vi 7]),(false,[Va 14])]) (Eb 14 31 J6 Xo::J2m::J44::J2n::Jv))
abbrev J7c:=Eb 7 89 J2h Xo::J4z::J4r::Ea 3 9 [Vs 10]::J49
abbrev J7d:=Ea 11 89 [Sd (Xh V6 V9 0),Sd (Xh V6 V9 1),Sh (Xi V6 V9 2)]
abbrev J7e:=Ec 11 J2 V12
abbrev J7f:=[Ea 17 64 [Vs 8,Vb 9,Vb 10,Va 11,Va 13,Vi 15],Ea 16 64 [Vs 0,Vb 1,Vb 2,Va 3,Va 5,Vi 7],Ec 3 J2 V4,Ec 5 J2 V6,J7e,Ec 13 J2 V14]
abbrev J7g:=Ti [N12,Xd V1] (Tb (Xc V3 V4) (Tt (Xa V3 V4) (Tt (.shr .u64 (.wrap .u64 (Xa V3 V4)) N16) (Ta (Xb N12 (.shr .u64 (.wrap .u64 (Xa V3 V4)) N16)) (Ta (Xc (.shr .u64 (.wrap .u64 (Xa V3 V4)) N16) (Xd V1)) (Tc (Ts 127 [Vq [Sd (Xh V1 (.shr .u64 (.wrap .u64 (Xa V3 V4)) N16) 0)],Vq [Vs 2]] [] (Vq [Vi 6]) 1 (Tb (Xc V6 N12) (Tt (Xa (.shr .u64 (.wrap .u64 (Xa V3 V4)) N16) N16) (Th 0 [Xa (.shr .u64 (.wrap .u64 (Xa V3 V4)) N16) N16,V4])) (Th 0 [V3,.shr .u64 (.wrap .u64 (Xa V3 V4)) N16])))))))) (Tb (Xc V3 (Xd V1)) (Ta (Xb N12 V3) (Tc (Ts 127 [Vq [Sd (Xh V1 V3 0)],Vq [Vs 2]] [] (Vq [Vi 6]) 1 (Tf (Cb [(false,[Vi 3]),(false,[Sb (Xg V6 N12)])]) [])))) (Tf (Cb [(false,[Vi 3]),(false,[Sb (X4 false)])]) [])))
abbrev J7h:=Tt (Xa V7 N16) (Th 0 (V6::J6e))
abbrev J7i:=Ed 38
abbrev V46:=X6 46
abbrev J7k:=Eb 45 74 J31 V46
abbrev J7l:=Eb 34 74 J31 V35
abbrev J7m:=Ed 20
abbrev J7n:=Ec 16 J6d V17
abbrev J7o:=Ec 39 J2h V40
abbrev J7p:=Ec 41 J2h V42
abbrev V44:=X6 44
abbrev J7r:=[Ka,Kb,Kb,Kc,Kc,Vk]
abbrev J7s:=Eb 43 64 J7r V44
abbrev J7t:=Eb 27 74 J31 V28
abbrev V49:=X6 49
abbrev J7v:=[Ka,Vk,Kb,Kb,Kb,Kb,Vk,Vk,Vk,Vk,Ka,Ka,Ka,Kc,Kc,Vk,Vk,Vk,Vk,Ka,Kc,Ka]
abbrev J7w:=Eb 48 97 J7v V49
abbrev J7x:=Ed 12
abbrev V43:=X6 43
abbrev V45:=X6 45
abbrev V47:=X6 47
abbrev V48:=X6 48
abbrev J82:=Ec 3 J2h V4
abbrev J83:=[J82]
abbrev V67:=X6 67
abbrev V65:=X6 65
abbrev V66:=X6 66
abbrev J87:=Eb 65 97 J7v V66
abbrev V61:=X6 61
abbrev J89:=Ea 51 50 [Sh N16,Sh (X3 69),Vi 47,Sd (Xh V35 V37 1),Sf,Vs 14]
abbrev J8a:=Ea 50 74 [Sh (Xi V35 V37 0),Sd (Xh V35 V37 1),Sd (Xh V35 V37 2),Sh (Xi V35 V37 3)]
abbrev V56:=X6 56
abbrev V57:=X6 57
abbrev V58:=X6 58
abbrev V59:=X6 59
abbrev V60:=X6 60
abbrev V62:=X6 62
abbrev J8h:=Xn (X5 []) (Xk N12 (Xm (X4 false) (Xm (X4 false) (Xm (X4 false) (Xm (X4 false) (Xk N12 (Xk N12 (Xk N12 (Xk N12 (Xn (X5 []) (Xn (X5 []) (Xn (X5 []) (Xt Xu (Xt Xu (Xk (Xi V35 V37 0) (Xk V56 (Xk V57 (Xk V58 (Xn V59 (Xt V60 (Xn V62 X1)))))))))))))))))))))
abbrev N8i:=X3 567489872400
abbrev V54:=X6 54
abbrev V55:=X6 55
abbrev J8l:=Td (Te 215 [Cc [Sh N16,Sh (X3 69),Vi 47,Sd (Xh V35 V37 1),Sf,Vs 14],Vq [Sh N28],Vq [Va 55]] (Eb 55 9 J1w (Xj Xo (Xn V54 X1))::Ea 53 50 [Sh N12,Sh N12,Sh N12,Sd (X5 []),Sf,Sd (X5 [])]::Ea 52 50 [Sh N16,Sh (X3 69),Vi 47,Sd (Xh V35 V37 1),Sf,Vs 14]::J89::J8a::J7i::J7k::J7l::J7m::J7n::J7o::J7p::J7s::J7t::J7w::J7x::Ea 0 125 [Va 39,Va 41,Va 43,Va 45,Sh (.bits .and .i64 (Xa V47 N16) N4e),Va 48]::J83) [] [] [] [Ec 60 J4j V61] (Cc [Vi 56,Vi 57,Vi 58,Vs 59,Va 60,Vs 62]) 7 (Tc (Td (Ta (Xb (Xa (Xd V49) (Xd (Xj Xo J8h))) N8i) (Td (Tk 2 [N12,N12,N12,N12,V56,V57,V58,V59,V60,V61,V62,N12,N12,V65,Xj V49 J8h]))))))
abbrev J8m:=Tc (Tc (Tm (Ts 216 [Vq [Sh (Xi V35 V37 3)]] [] (Vq [Vs 54]) 1 J8l) (Ts 216 [Vq [Sh (Xi V35 V37 3)]] [] (Vq [Vs 54]) 1 (Tm J8l J8l))))
abbrev V51:=X6 51
abbrev J8o:=[N12,V36,V21,V22,V23,V24,V25,V26,V32,V33,V29,V30,V31]
abbrev J8p:=Ec 21 J2h V22
abbrev J8q:=Ec 23 J2h V24
abbrev J8r:=Eb 25 64 J7r V26
abbrev J8s:=Eb 30 97 J7v V31
abbrev J8t:=J7t::J8s::J7x::Ea 0 125 [Va 21,Va 23,Va 25,Va 27,Vi 29,Va 30]::J83
abbrev J8u:=J7m::J7n::J8p::J8q::J8r::J8t
abbrev V50:=X6 50
abbrev V52:=X6 52
abbrev V53:=X6 53
abbrev J8y:=Th 0 [Xa V19 N16,V58,V46,V47,V48,V49,V50,V51,V52,V53,V54,V55,V56]
abbrev J8z:=Ec 46 J2h V47
abbrev J90:=Ec 48 J2h V49
abbrev J91:=Eb 50 64 J7r V51
abbrev J92:=Eb 52 74 J31 V53
abbrev J93:=Eb 55 97 J7v V56
abbrev J94:=Ec 39 J2 V40
abbrev J95:=Ea 35 64 [Vs 36,Vb 37,Vb 38,Va 39,Va 41,Vi 43]
abbrev J96:=Ea 32 142 [Sd (Xh V17 V19 0),Sh (Xi V17 V19 1)]
abbrev J97:=Ea 0 125 [Va 46,Va 48,Va 50,Va 52,Vi 54,Va 55]
abbrev J98:=J96::J7m::J7n::J8p::J8q::J7x::J97::J83
abbrev J99:=[J8z,J90,J91,J92,J93,Ed 57]
abbrev J9a:=Ea 45 64 [Vs 35,Vb 36,Vb 37,Va 38,Va 40,Vi 42]
abbrev J9b:=Ec 38 J2 V39
abbrev J9c:List X:=[V3,V4,V5,V6,V7,V8,V9,V10,V11]
abbrev J9d:List X:=V1::V2::J9c
abbrev J9e:=Ec 1 J2h V2
abbrev J9f:=Eb 5 64 J7r V6
abbrev J9g:=Eb 10 97 J7v V11
abbrev J9h:=Ea 0 125 [Va 1,Va 3,Va 5,Va 7,Vi 9,Va 10]
abbrev J9i:=[J9e,J82,J9f,J32,J9g,J7x,J9h]
abbrev J9j:=Ea 31 50 [Vi 21,Sh (X3 69),Vi 23,Vs 24,Va 25,Sd (Xh V2 V32 1)]
abbrev J9k:=Ea 30 50 [Vi 21,Sh (X3 69),Vi 23,Vs 24,Va 25,Sd (Xh V2 V32 1)]
abbrev J9l:=Ea 29 50 [Vi 14,Vi 15,Vi 16,Vs 17,Va 18,Vs 20]
abbrev J9m:=[Ec 18 J4j V19,Ec 25 J4j V26]
abbrev J9n:=J9l::J9e::J82::J9f::J32::J9g::J7x::J9h::J9m
abbrev J9o:=Eb 36 74 J31 V37
abbrev J9p:=J9l::J9e::J82::J9f::J32::J9g::J7x::Ea 0 125 [Va 1,Va 3,Va 5,Va 36,Vi 9,Va 10]::J9m
abbrev J9q:=Ea 31 50 [Sh N12,Sh N12,Sh N12,Sd (X5 []),Sf,Sd (X5 [])]
abbrev J9r:=J9q::J9k::J9n
abbrev J9s:=Eb 42 9 J1w (Xj Xo (Xn V41 X1))
abbrev J9t:=Ea 39 50 [Vi 21,Sh (X3 69),Vi 23,Vs 24,Va 25,Sd (Xh V2 V32 1)]
abbrev J9u:=Td (Te 215 [Cc [Vi 21,Sh (X3 69),Vi 23,Vs 24,Va 25,Sd (Xh V2 V32 1)],Vq [Sh N28],Vq [Va 42]] (J9s::Ea 40 50 [Sh N12,Sh N12,Sh N12,Sd (X5 []),Sf,Sd (X5 [])]::J9t::J9o::J9q::J9k::J9p) [] [] [] [Ec 47 J4j V48] (Cc [Vi 43,Vi 44,Vi 45,Vs 46,Va 47,Vs 49]) 7 (Tf (Cc [Vi 43,Vi 44,Vi 45,Vs 46,Va 47,Vs 49]) (Ec 47 J4j V48::J9s::Ea 40 50 [Vi 43,Vi 44,Vi 45,Vs 46,Va 47,Vs 49]::J9t::J9o::Ea 31 50 [Vi 43,Vi 44,Vi 45,Vs 46,Va 47,Vs 49]::Ea 30 50 [Vi 43,Vi 44,Vi 45,Vs 46,Va 47,Vs 49]::J9p)))
abbrev J9v:=Tk 0 []
abbrev V86:=X6 86
abbrev J9x:=Ec 85 J2h V86
abbrev V88:=X6 88
abbrev V90:=X6 90
abbrev V92:=X6 92
abbrev V74:=X6 74
abbrev Ja2:=Ec 73 J2h V74
abbrev V76:=X6 76
abbrev Ja4:=Ec 75 J2h V76
abbrev Ja5:=Xn (X5 []) (Xn (X5 []) (Xn (X5 []) J2v))
abbrev Ja6:=Xk N12 (Xk N12 Ja5)
abbrev Ja7:=Eb 72 31 J6 (Xj Xo (Xk N26 (Xm (X4 false) (Xm (X4 false) (Xm (X4 false) (Xm (Xf (Xe (Xr V37 V31 2)) (Xe V17)) (Xk N12 (Xk N12 Ja6))))))))
abbrev V63:=X6 63
abbrev V64:=X6 64
abbrev V68:=X6 68
abbrev Jab:=Ea 71 64 [Vs 61,Vb 62,Vb 63,Va 64,Va 66,Vi 68]
abbrev Jac:=Ec 64 J2 V65
abbrev Jad:=Ec 66 J2 V67
abbrev V70:=X6 70
abbrev Jaf:=Ec 69 J6 V70
abbrev Jag:=Ec 50 J2h V56
abbrev Jah:=Ec 51 J2h V57
abbrev Jai:=Ea 30 31 [Vi 14,Vb 15,Vb 16,Vb 17,Vb 18,Vi 19,Vi 20,Vi 21,Vi 22,Vs 23,Vs 24,Vs 25,Va 26,Va 28]
abbrev V85:=X6 85
abbrev V87:=X6 87
abbrev V91:=X6 91
abbrev V93:=X6 93
abbrev Jan:=Ea 0 125 [Va 85,Va 87,Va 89,Va 91,Vi 93,Va 94]
abbrev Jao:=Ec 26 J6d V27
abbrev Jap:=Ec 28 J2c V29
abbrev Jaq:=[Jao,Jap]
abbrev V78:=X6 78
abbrev V80:=X6 80
abbrev V83:=X6 83
abbrev V73:=X6 73
abbrev V75:=X6 75
abbrev V77:=X6 77
abbrev V79:=X6 79
abbrev V81:=X6 81
abbrev Jaz:=Ea 0 125 [Va 73,Va 75,Va 77,Va 79,Vi 81,Va 82]
abbrev V69:=X6 69
abbrev Jb1:=Xy V58 V31 (Xn (Xh V58 V31 0) (Xm (Xr V58 V31 1) (Xm V17 (Xt (Xs V58 V31 3) (Xt (Xs V58 V31 4) (Xk (Xi V58 V31 5) X1))))))
abbrev Jb2:=Eb 53 74 J31 V59::Eb 55 97 J7v V60::Jai::J9e::J82::J7x::Ea 0 125 [Va 50,Va 51,Va 52,Va 53,Vi 54,Va 55]::Jaq
abbrev V72:=X6 72
abbrev Jb4:=Ec 38 J2h V39
abbrev Jb5:=Ec 40 J2h V41
abbrev Jb6:=Eb 42 64 J7r V43
abbrev Jb7:=Eb 44 74 J31 V45
abbrev Jb8:=Eb 47 97 J7v V48
abbrev Jb9:=[Jb4,Jb5,Jb6,Jb7,Jb8,Ed 49]
abbrev Jba:=Ea 0 125 [Va 38,Va 40,Va 42,Va 44,Vi 46,Va 47]
abbrev Jbb:=Eb 34 64 J7r V35
abbrev Jbc:=J32::J9g::J7x::J9h::Jaq
abbrev Jbd:=Jai::J9e::J82::J9f::Jbc
abbrev Jbe:=Ec 34 J2h V35
abbrev Jbf:=Ec 36 J2h V37
abbrev Jbg:=Eb 38 64 J7r V39
abbrev Jbh:=Eb 40 74 J31 V41
abbrev Jbi:=Eb 43 97 J7v V44
abbrev Jbj:=Eb 33 31 J6 (Xj Xo (Xk N26 (Xm (X4 false) (Xm (X4 false) (Xm (X4 false) (Xm (X4 false) (Xk N12 (Xk N12 (Xk N12 (Xk N2w Ja5))))))))))
abbrev Jbk:=Ea 0 125 [Va 34,Va 36,Va 38,Va 40,Vi 42,Va 43]
abbrev Jbl:=Jai::J9e::J82::J7x::Jbk::Jaq
abbrev Jbm:=[Jbe,Jbf,Jbg,Jbh,Jbi,Ed 45]
abbrev Jbn:=Tf (Cb []) Jbd
abbrev Jbo:=[J56,J78,J9e,J82,Eb 5 64 J7r V24,J32,J9g,J7x,J9h]
abbrev Jbp:=Ec 27 J2h V28
abbrev Jbq:=Ec 29 J2h V30
abbrev Jbr:=Eb 31 64 J7r V32
abbrev Jbs:=Eb 33 74 J31 V34
abbrev Jbt:=[Ea 0 125 [Va 27,Va 29,Va 31,Va 33,Vi 35,Va 36]]
abbrev Jbu:=Te 96 [Cc [Sd (Xh V6 V14 0),Sb (Xr V6 V14 1),Sb (Xr V6 V14 2),Se (Xs V6 V14 3),Se (Xs V6 V14 4),Sh (Xi V6 V14 5)]] J9i [] [] [] [J56,J78] (Cc [Vs 16,Vb 17,Vb 18,Va 19,Va 21,Vi 23]) 8 (Tk 0 [V16,V17,V18,V19,V20,V21,V22,V23,Xy V6 V14 (Xn V16 (Xm V17 (Xm V18 (Xt V19 (Xt V21 (Xk V23 X1))))))])
abbrev Jbv:=Ec 5 J7r V6
abbrev Jbw:=[J9e,J82,Jbv,Ed 7,Ec 8 J31 V9,Ea 0 27 [Va 1,Va 3,Va 5,Va 8,Vi 10]]
abbrev Jbx:=Tf (Vq [Vi 11]) Jbw
abbrev Jby:=Ed 74
abbrev V71:=X6 71
abbrev Jc0:=Xt Xu J1k
abbrev Jc1:=Xn (X5 []) (Xk N12 (Xm (X4 false) (Xm (X4 false) (Xm (X4 false) (Xm (X4 false) (Xk N12 (Xk N12 (Xk N12 (Xk N12 (Xn (X5 []) (Xn (X5 []) (Xn (X5 []) (Xt Xu (Xt Xu (Xk V13 (Xk V23 (Xk (X3 133) (Xk V24 (Xn V17 Jc0)))))))))))))))))))
abbrev Jc2:=Eb 27 97 J7v (Xj Xo Jc1)
abbrev Jc3:=Ea 26 50 [Vi 23,Sh (X3 133),Vi 24,Vs 17,Sf,Sd (X5 [])]
abbrev Jc4:=Ea 21 50 [Vi 14,Vi 15,Vi 16,Vs 17,Va 18,Vs 20]
abbrev Jc5:=[Ec 18 J4j V19]
abbrev Jc6:List X:=[V24,V17,Xu,X5 [],V1,V3,V5,V7,V25,V28,Xo,V2,V4,V6,V8,Xj V11 Jc1,V31]
abbrev Jc7:=Eb 28 97 J7v (Xj V11 Jc1)
abbrev Jc8:=Ea 22 50 [Vi 23,Sh (X3 133),Vi 24,Vs 17,Sf,Sd (X5 [])]
abbrev Jc9:=Jc4::J9e::J82::J9f::J32::J7x::Ea 0 125 [Va 1,Va 3,Va 5,Va 7,Vi 25,Va 28]::Jc5
abbrev Jca:=Jc7::Jc2::Jc3::Jc8::Jc9
abbrev Jcb:List X:=[V24,V17,Xu,X5 [],V32,V34,V36,V38,V40,V41,Xo,V33,V35,V37,V39,V42,V44]
abbrev Jcc:=Ec 32 J2h V33
abbrev Jcd:=Eb 36 64 J7r V37
abbrev Jce:=Eb 38 74 J31 V39
abbrev Jcf:=Eb 41 97 J7v V42
abbrev Jcg:=Ed 43
abbrev Jch:=Ea 22 50 [Vi 23,Sh (X3 66),Vi 24,Vs 17,Sf,Sd (X5 [])]
abbrev Jci:=Ea 0 125 [Va 32,Va 34,Va 36,Va 38,Vi 40,Va 41]
abbrev Jcj:=Jc4::J9e::J82::J7x::Jci::Jc5
abbrev Jck:=[Jcc,Jbe,Jcd,Jce,Jcf,Jcg]
abbrev Jcl:=Ea 22 50 [Vi 23,Sh N4o,Vi 24,Vs 17,Sf,Sd (X5 [])]
abbrev Jcm:=Jc7::Jc2::Jc3::Jcl::Jc9
abbrev Jcn:=Tn Jcm (Tk 0 (N12::N12::N12::N12::N12::N12::N12::N12::N12::N12::N12::N12::N12::N12::N12::N12::N12::N12::N12::N12::N12::N12::N12::N12::N12::V23::N4o::Jc6))
abbrev Jco:=Ec 44 J2h V45
abbrev Jcp:=Eb 48 64 J7r V49
abbrev Jcq:=Eb 50 74 J31 V51
abbrev Jcr:=Eb 53 97 J7v V54
abbrev Jcs:=Ea 22 50 [Vi 23,Sh (X3 68),Vi 24,Vs 17,Sf,Sd (X5 [])]
abbrev Jct:=Ea 0 125 [Va 44,Va 46,Va 48,Va 50,Vi 52,Va 53]
abbrev Jcu:=[Jco,J8z,Jcp,Jcq,Jcr,Ed 55]
abbrev Jcv:=Ed 21
abbrev Jcw:=Ea 18 27 [Va 22,Va 24,Va 26,Va 28,Vi 30]
abbrev Jcx:=Eb 28 74 J31 V29
abbrev Jcy:=Eb 24 71 J2h V25
abbrev Jcz:=Eb 22 89 J2h V23
abbrev Jd0:=Ea 10 27 [Va 0,Va 2,Va 4,Va 7,Vi 9]
abbrev Jd1:=Ec 2 J2h V3
abbrev Jd2:=Ec 4 J7r V5
abbrev Jd3:=Ec 7 J31 V8
abbrev Jd4:=Eb 26 64 J7r V27
abbrev Jd5:=[Jd0,J48,Jd1,Jd2,Ed 6,Jd3,Jd4]
abbrev Jd6:=Ec 36 J2 V37
abbrev Jd7:=Ea 31 64 [Sd (Xh V5 V20 0),Sb (Xr V5 V20 1),Sb (Xr V5 V20 2),Se (Xs V5 V20 3),Se (Xs V5 V20 4),Sh (Xi V5 V20 5)]
abbrev Jd8:=Ea 11 27 [Sf,Sf,Sf,Sf,Sh N12]
abbrev Jd9:=[Jd0,J48,Jd1,Jd2,Ed 6,Jd3]
abbrev Jda:=Xn (Xh V5 V20 0) (Xm (Xr V5 V20 1) (Xm (Xr V5 V20 2) (Xt V34 (Xt V36 (Xk (Xi V5 V20 5) X1)))))
abbrev Jdb:=Td (Ta (Xb (Xa (Xd V27) (Xd (Xj Xo Jda))) (X3 1759218604441)) (Td (Tk 1 [N12,N12,V34,V35,V36,V37,V38,V39,Xj V27 Jda,Xj Xo Jda])))
abbrev Jdc:=Ea 33 64 [Sd (X5 []),Sb (X4 false),Sb (X4 false),Sf,Sf,Sh N12]
abbrev Jdd:=Jdc::Ea 32 64 [Sd (Xh V5 V20 0),Sb (Xr V5 V20 1),Sb (Xr V5 V20 2),Se (Xs V5 V20 3),Se (Xs V5 V20 4),Sh (Xi V5 V20 5)]::Jd7::Jcv::Jcw::Jcx::Jcy::Jcz::Jd8::Jd5
abbrev Jde:=Te 190 [Vq [Se (Xs V5 V20 3)]] Jdd [] [] [] [J1b] (Vq [Va 34]) 2 (Te 190 [Vq [Se (Xs V5 V20 4)]] (J1b::Jdd) [] [] [] [J1d] (Vq [Va 36]) 2 (Tm Jdb Jdb))
abbrev Jdf:=Te 190 [Vq [Se (Xs V5 V20 3)]] Jdd [] [] [] [J1b] (Vq [Va 34]) 2 (Te 190 [Vq [Se (Xs V5 V20 4)]] (J1b::Jdd) [] [] [] [J1d] (Vq [Va 36]) 2 Jdb)
abbrev Jdg:=Eb 12 89 J2h V13::Jd8::Jd9
abbrev Jdh:=[Eb 17 74 J31 V18]
abbrev Jdi:=Eb 15 71 J2h V16
abbrev Jdj:=Ea 12 27 [Sf,Sf,Sf,Sf,Sh N12]::Jd8::Jd9
abbrev Jdk:=Ea 14 27 [Sf,Sf,Sf,Sf,Sh N12]::Jdg
abbrev Jdl:=Ec 22 J2h V23
abbrev Jdm:=Ec 24 J2h V25
abbrev Jdn:=Eb 29 97 J7v V30
abbrev Jdo:=Ec 16 J2h V17
abbrev Jdp:=[J9e,Jdm,Jd4,J32,Jdn,J7x,Ea 0 125 [Va 22,Va 24,Va 26,Va 7,Vi 28,Va 29],Jdo]
abbrev Jdq:=Eb 31 74 J31 Xo::Jcv::Jdl::Ea 15 9 [Vs 34]::Jdp
abbrev Jdr:X:=.clrR V39 V36 (Xk N12 J5k)
abbrev Jds:=Ea 35 74 [Sh (Xi V8 V33 0),Sd (Xh V8 V33 1),Sd (Xh V8 V33 2),Sh (Xi V8 V33 3)]
abbrev Jdt:List X:=[V22,V23,V24,V25,V26,V27,V28,V29,V30]
abbrev Jdu:=Ea 31 74 [Sh (Xi V8 V20 0),Sd (Xh V8 V20 1),Sd (Xh V8 V20 2),Sh (Xi V8 V20 3)]
abbrev Jdv:=Ea 15 9 [Vs 13]
abbrev Jdw:=Xn (X5 []) (Xk N12 (Xm (X4 false) (Xm (X4 false) (Xm (X4 false) (Xm (X4 false) (Xk N12 (Xk N12 (Xk N12 (Xk N12 (Xn (X5 []) (Xn (X5 []) (Xn (X5 []) (Xt Xu (Xt Xu (Xk (Xi V8 V20 0) (Xk N16 (Xk (X3 132) (Xk V28 (Xn (Xh V8 V20 1) Jc0)))))))))))))))))))
abbrev Jdx:=Tc (Td (Ta (Xb (Xa (Xd V30) (Xd (Xj Xo Jdw))) N8i) (Td (Tk 1 [N12,N12,V34]))))
abbrev Jdy:=Tm (Tt (Xa V28 N16) Jdx) (Tt (Xa V28 N16) Jdx)
abbrev Jdz:=[Jdo,Jdv,J9e,J82,J9f,J32,J9g,J7x,Ea 0 125 [Va 16,Va 3,Va 5,Va 7,Vi 9,Va 10]]
abbrev Je0:=Ec 30 J2h V31
abbrev Je1:=Ea 29 125 [Va 30,Va 32,Va 34,Va 36,Vi 38,Va 39]
abbrev Je2:=Ec 19 J2h V20
abbrev Je3:=Ea 16 27 [Va 0,Va 2,Va 4,Va 7,Vi 9]
abbrev Je4:=[Ea 12 9 [Vs 10],Ea 11 27 [Va 0,Va 2,Va 4,Va 7,Vi 9],J48,Jd1,Jd2,Ed 6,Jd3]
abbrev Je5:=Ea 13 27 [Sf,Sf,Sf,Sf,Sh N12]::Je4
abbrev Je6:=Eb 18 97 J7v Xo::Ea 17 27 [Sf,Sf,Sf,Sf,Sh N12]::Je3::Je5
abbrev Je7:=Tc (Tc (To Xu (Te 89 [Cc [Va 0,Va 2,Va 4,Va 7,Vi 9]] Je6 [] [] [] [Je2,J8p,Eb 23 64 J7r V24,Eb 25 74 J31 V26,Ed 28] (Cc [Va 19,Va 21,Va 23,Va 25,Vi 27]) 10 (Tc (Te 24 [Vq [Sg 29 0],Vq [Vs 10]] (Ea 29 125 [Va 19,Va 21,Va 23,Va 25,Vi 27,Sf]::Je2::J8p::Eb 23 64 J7r V24::Eb 25 74 J31 V26::Ed 28::Je6) [29] [23,25] [Je1] [Je0,Jcc,Jbb,J9o,Eb 39 97 J7v V40,Ed 41] (Cb []) 12 (Tc (Tf (Cb [(true,[Va 30,Va 32,Va 34,Va 36,Vi 38]),(false,[Sh N12])]) (Ea 42 27 [Va 30,Va 32,Va 34,Va 36,Vi 38]::Je0::Jcc::Jbb::J9o::Eb 39 97 J7v V40::Ed 41::Je1::Je2::J8p::Ed 28::Eb 18 97 J7v Xo::Ea 17 27 [Va 30,Va 32,Va 34,Va 36,Vi 38]::Je3::Ea 13 27 [Va 30,Va 32,Va 34,Va 36,Vi 38]::Je4))))))))
abbrev Je8:=Xj Xo (Xk N6m (Xm (X4 false) (Xm (X4 false) (Xm (X4 false) (Xm (X4 false) (Xk N12 (Xk V44 Ja6)))))))
abbrev Je9:=Eb 35 71 J2h Xo
abbrev Jea:=Eb 32 71 J2h Xo
abbrev Jeb:=Ea 31 31 [Vi 38,Vb 39,Vb 40,Vb 41,Vb 42,Vi 43,Vi 44,Vi 45,Vi 46,Vs 47,Vs 48,Vs 49,Va 50,Va 52]
abbrev Jec:=Ea 30 9 [Vs 54]
abbrev Jed:=Ea 0 125 [Va 56,Va 58,Va 60,Va 62,Vi 64,Va 65]
abbrev Jee:=[Ec 50 J6d V51,Ec 52 J2c V53]
abbrev Jef:=Je9::Eb 33 71 J2h V34::Jea::Jeb::Jec::J9e::J82::J9f::J32::J9g::J7x::Ea 0 125 [Va 1,Va 33,Va 5,Va 7,Vi 9,Va 10]::Jee
abbrev Jeg:List X:=[V38,V39,V40,V41,V42,V43,V44,V45,V46,V47,V48,V49,V50,V51,V52,V53,V54]
abbrev Jeh:=Tt (Xa V37 N16) (Th 0 (V36::Xa V37 N16::Jeg))
abbrev V84:=X6 84
abbrev Jej:=Ec 83 J2h V84
abbrev Jek:=Eb 82 31 J6 (Xj Xo (Xk N6m (Xm (X4 false) (Xm (X4 false) (Xm (X4 false) (Xm (X4 false) (Xk N12 (Xk V70 Ja6))))))))
abbrev Jel:=Ea 55 71 [Vs 58,Vs 59,Vi 60]
abbrev Jem:=Ea 31 31 [Vi 64,Vb 65,Vb 66,Vb 67,Vb 68,Vi 69,Vi 70,Vi 71,Vi 72,Vs 73,Vs 74,Vs 75,Va 76,Va 78]
abbrev Jen:=Ea 0 125 [Va 83,Va 85,Va 87,Va 89,Vi 91,Va 92]
abbrev Jeo:=[Ec 76 J6d V77,Ec 78 J2c V79]
abbrev Jep:List X:=[V64,V65,V66,V67,V68,V69,V70,V71,V72,V73,V74,V75,V76,V77,V78,V79,V80]
abbrev Jeq:=Ta (Xb N12 V61) (Ta (Xc V61 (Xd V63)) (Tt (Xa V61 N16) (Tt (Xa V62 N16) (Th 2 (Xa V61 N16::Xa V62 N16::Xy V63 V61 (Xn (Xh V63 V62 0) (Xn (Xh V63 V62 1) (Xk (Xi V63 V62 2) X1)))::Jep)))))
abbrev Jer:=Tt (Xa V62 N16) (Th 2 (V61::Xa V62 N16::V63::Jep))
abbrev Jes:List X:=V37::Xa V37 N16::V34::Jeg
abbrev Jet:=Ea 0 125 [Va 62,Va 64,Va 66,Va 68,Vi 70,Va 71]
abbrev Jeu:=Eb 83 31 J6 (Xj Xo (Xk N6m (Xm (X4 false) (Xm (X4 false) (Xm (X4 false) (Xm (X4 false) (Xk N12 (Xk V71 Ja6))))))))
abbrev Jev:=Ea 61 69 [Sd (Xh V51 V57 0),Sh (Xi V51 V57 1)]
abbrev Jew:=Ea 31 31 [Vi 65,Vb 66,Vb 67,Vb 68,Vb 69,Vi 70,Vi 71,Vi 72,Vi 73,Vs 74,Vs 75,Vs 76,Va 77,Va 79]
abbrev Jex:=Ea 0 125 [Va 84,Va 86,Va 88,Va 90,Vi 92,Va 93]
abbrev Jey:=[Ec 77 J6d V78,Ec 79 J2c V80]
abbrev Jez:List X:=[V65,V66,V67,V68,V69,V70,V71,V72,V73,V74,V75,V76,V77,V78,V79,V80,V81]
abbrev Jf0:=Ta (Xb N12 V62) (Ta (Xc V62 (Xd V64)) (Tt (Xa V62 N16) (Tt (Xa V63 N16) (Th 2 (Xa V62 N16::Xa V63 N16::Xy V64 V62 (Xn (Xh V64 V63 0) (Xn (Xh V64 V63 1) (Xk (Xi V64 V63 2) X1)))::Jez)))))
abbrev Jf1:=Tt (Xa V63 N16) (Th 2 (V62::Xa V63 N16::V64::Jez))
abbrev Jf2:=Ec 63 J2h V64
abbrev Jf3:=Ec 65 J2h V66
abbrev Jf4:=Eb 67 64 J7r V68
abbrev Jf5:=Eb 69 74 J31 V70
abbrev Jf6:=Eb 72 97 J7v V73
abbrev Jf7:=Ea 0 125 [Va 63,Va 65,Va 67,Va 69,Vi 71,Va 72]
abbrev Jf8:=[Jf2,Jf3,Jf4,Jf5,Jf6,Jby]
abbrev Jf9:=Ec 33 J2h V34
abbrev Jfa:=Ea 0 125 [Va 33,Va 35,Va 37,Va 39,Vi 41,Va 42]
abbrev Jfb:=Tf (Cb []) (Jf9::Ec 35 J2h V36::Eb 37 64 J7r V38::Eb 39 74 J31 V40::Eb 42 97 J7v V43::Ed 44::Jai::J9e::J82::J7x::Jfa::Jaq)
abbrev Jfc:=[Jf9,Ec 35 J2h V36,Eb 37 64 J7r V38,Eb 39 74 J31 V40,Eb 42 97 J7v V43,Ed 44]
abbrev Jfd:=Eb 33 31 J6 (Xj Xo (Xk (X3 13) (Xm (X4 false) (Xm (X4 false) (Xm (X4 false) (Xm (X4 false) (Xk N12 (Xk N12 Ja6))))))))
abbrev Jfe:=Ea 43 64 [Vs 33,Vb 34,Vb 35,Va 36,Va 38,Vi 40]
abbrev Jff:=Jai::J9e::J82::J7x::Jct::Jaq
abbrev Jfg:=[Ec 37 J2 V38,J94,Ec 42 J6 V43]
abbrev Jfh:=Eb 31 97 J7v Xo
abbrev Jfi:=[Ea 29 31 [Vi 11,Vb 12,Vb 13,Vb 14,Vb 15,Vi 16,Vi 17,Vi 18,Vi 19,Vs 20,Vs 21,Vs 22,Va 23,Va 25],Ea 28 9 [Vs 10],Ea 27 27 [Va 0,Va 2,Va 4,Va 7,Vi 9],J48,Jd1,Jd2,Ed 6,Jd3,Ec 23 J6d V24,Ec 25 J2c V26]
abbrev Jfj:=Jfh::Ea 30 27 [Sf,Sf,Sf,Sf,Sh N12]::Jfi
abbrev Jfk:=Ec 51 J2h V52
abbrev Jfl:=Ea 48 125 [Va 49,Va 51,Va 53,Va 55,Vi 57,Va 58]
abbrev Jfm:=Ea 35 27 [Va 0,Va 2,Va 4,Va 7,Vi 9]
abbrev Jfn:=Eb 37 97 J7v Xo::Ea 36 27 [Sf,Sf,Sf,Sf,Sh N12]::Jfm::Jfj
abbrev Jfo:=Ec 50 J2h V51
abbrev Jfp:=Eb 57 97 J7v V58
abbrev Jfq:=Ea 47 125 [Va 48,Va 50,Va 52,Va 54,Vi 56,Va 57]
abbrev Jfr:=Ec 37 J2h V38
abbrev Jfs:=Ea 34 27 [Va 0,Va 2,Va 4,Va 7,Vi 9]
abbrev Jft:=Eb 36 97 J7v Xo::Ea 35 27 [Sf,Sf,Sf,Sf,Sh N12]::Jfs::Jfj
abbrev Jfu:=Ec 17 J31 V18
abbrev Jfv:=[Jdl,Jdm,Ec 26 J7r V27,Ed 7,Jfu,Ea 0 27 [Va 22,Va 24,Va 26,Va 17,Vi 28]]
abbrev Jfw:=Ea 29 74 [Sh (Xi V18 V21 0),Sd (Xh V18 V21 1),Sd (Xh V18 V21 2),Sh (Xi V18 V21 3)]::Jfv
abbrev Jfx:=[Ec 13 J2h V14,J82,Ec 15 J7r V16,Ed 7,Jfu,Ea 0 27 [Va 13,Va 3,Va 15,Va 17,Vi 19]]
abbrev Jfy:=Ea 20 71 [Sd (Xh V4 V12 0),Sd (Xh V4 V12 1),Sh (Xi V4 V12 2)]::Jfx
abbrev Jfz:=Ec 20 J2h V21
abbrev Jg0:=Xn (X5 []) Jc0
abbrev Jg1:=Xk N12 (Xk N12 (Xk N12 Jg0))
abbrev Jg2:=Xn V13 (Xk (Xi V15 V17 0) (Xm (Xr V15 V17 1) (Xm (Xr V15 V17 2) (Xm (Xr V15 V17 3) (Xm (Xr V15 V17 4) (Xk (Xi V15 V17 5) (Xk (Xi V15 V17 6) (Xk (Xi V15 V17 7) (Xk (Xi V15 V17 8) (Xn (Xh V15 V17 9) (Xn (Xh V15 V17 10) (Xn (Xh V15 V17 11) (Xt (Xs V15 V17 12) (Xt (Xs V15 V17 13) (Xk N12 Jg1)))))))))))))))
abbrev Jg3:=Eb 62 31 J6 (Xj Xo (Xk V35 (Xm V36 (Xm V37 (Xm V38 (Xm V39 (Xk V40 (Xk V41 (Xk V42 (Xk V43 (Xn V44 (Xn V45 (Xn V46 (Xt V47 (Xt V49 X1)))))))))))))))
abbrev Jg4:=Ed 34
abbrev Jg5:=Ea 31 31 [Vi 35,Vb 36,Vb 37,Vb 38,Vb 39,Vi 40,Vi 41,Vi 42,Vi 43,Vs 44,Vs 45,Vs 46,Va 47,Va 49]
abbrev Jg6:=Ec 53 J2h V54
abbrev Jg7:=[Jao,Jap,Ec 47 J6d V48,Ec 49 J2c V50]
abbrev Jg8:=Ed 77::Ec 78 J2h V79::Ec 80 J2h V81::Eb 82 64 J7r V83::Eb 84 74 J31 V85::Eb 87 97 J7v V88::Jby::Jg3::Jg4::Jg5::Jai::Jfk::Jg6::J7x::Ea 0 125 [Va 78,Va 80,Va 82,Va 84,Vi 86,Va 87]::Jg7
abbrev Jg9:=Ec 90 J2h V91
abbrev Jga:=Ea 89 69 [Sd (Xh V27 V76 0),Sh (Xi V27 V76 1)]
abbrev Jgb:=Ec 95 J2h (X6 96)
abbrev Jgc:=[Jao,Jap,Ec 47 J6d V48,Ec 49 J2c V50,Ec 78 J2h V79]
abbrev Jgd:=Ed 94::Jg9::Jga::Ed 77::Jgb::Ec 97 J2h (X6 98)::Eb 99 64 J7r (X6 100)::Eb 101 74 J31 (X6 102)::Eb 104 97 J7v (X6 105)::Jby::Jg3::Jg4::Jg5::Jai::Jfk::Jg6::J7x::Ea 0 125 [Va 95,Va 97,Va 99,Va 101,Vi 103,Va 104]::Jgc
abbrev Jge:=Eb 107 31 J6 (Xj Xo (Xk N2w (Xm (X4 false) (Xm (X4 true) (Xm (X4 false) (Xm (X4 false) (Xk N12 (Xk N12 (Xk N12 (Xk N12 (Xn (X5 []) (Xn (Xh V91 V93 0) (Xn (Xh V91 V93 1) J2v)))))))))))))
abbrev Jgf:=Ea 106 89 [Sd (Xh V91 V93 0),Sd (Xh V91 V93 1),Sh (Xi V91 V93 2)]
abbrev Jgg:=Ea 0 125 [Va 108,Va 110,Va 112,Va 114,Vi 116,Va 117]
abbrev Jgh:List X:=[V78,V79,V80,V81,X6 82,V83,V84,V85,V86,V87,V88]
abbrev Jgi:=Eb 55 64 J7r V56
abbrev Jgj:=Eb 57 74 J31 V58
abbrev Jgk:=Eb 60 97 J7v V61
abbrev Jgl:=Ea 0 125 [Va 51,Va 53,Va 55,Va 57,Vi 59,Va 60]
abbrev Jgm:List X:=[V55,V56,V57,V58,V59,V60,V61]
abbrev Jgn:=Ea 62 69 [Sd (Xh V27 V33 0),Sh (Xi V27 V33 1)]
abbrev Jgo:=Ea 31 31 [Vi 35,Vb 36,Vb 37,Vb 38,Vb 39,Vi 40,Vi 41,Vi 42,Vi 43,Vs 44,Vs 45,Vs 46,Va 47,Va 67]
abbrev Jgp:=Xj V50 (Xk (Xi V27 V33 1) X1)
abbrev Jgq:=Xj Xo (Xk (Xi V27 V33 1) X1)
abbrev Jgr:=Eb 22 97 J7v Xo
abbrev Jgs:=[Ea 18 27 [Va 0,Va 2,Va 4,Va 7,Vi 9],J48,Jd1,Jd2,Ed 6,Jd3,Ec 15 J4j V16]
abbrev Jgt:=Ea 20 50 [Vi 11,Vi 12,Vi 13,Vs 14,Va 15,Vs 17]::Ea 19 3 [Vi 10]::Jgs
abbrev Jgu:=Jgr::Ea 21 27 [Sf,Sf,Sf,Sf,Sh N12]::Jgt
abbrev Jgv:=Ea 38 125 [Va 28,Va 30,Va 32,Va 34,Vi 36,Sf]
abbrev Jgw:=Ec 28 J2h V29
abbrev Jgx:=Eb 32 64 J7r V33
abbrev Jgy:=Eb 27 97 J7v Xo
abbrev Jgz:=Ea 25 27 [Va 0,Va 2,Va 4,Va 7,Vi 9]
abbrev Jh0:=Jgw::Je0::Jgx::J7l::Ed 37::Jgy::Ea 26 27 [Va 28,Va 30,Va 32,Va 34,Vi 36]::Jgz::Jgr::Ea 21 27 [Va 28,Va 30,Va 32,Va 34,Vi 36]::Jgt
abbrev Jh1:=Ea 38 125 [Va 39,Va 41,Va 43,Va 45,Vi 47,Va 48]
abbrev Jh2:=Jgy::Ea 26 27 [Sf,Sf,Sf,Sf,Sh N12]::Jgz::Jgu
abbrev Jh3:=Xj Xo (Xn (X5 []) (Xk N12 (Xm (X4 false) (Xm (X4 false) (Xm (X4 false) (Xm (X4 false) (Xk N12 (Xk N12 (Xk N12 (Xk N12 (Xn (X5 []) (Xn (X5 []) (Xn (X5 []) (Xt Xu (Xt Xu (Xk V10 (Xk N2w (Xk N12 (Xk V13 Jg0)))))))))))))))))))
abbrev Jh4:=Ea 37 125 [Va 27,Va 29,Va 31,Va 33,Vi 35,Sf]
abbrev Jh5:=Eb 26 97 J7v Xo
abbrev Jh6:=Ea 24 27 [Va 0,Va 2,Va 4,Va 7,Vi 9]
abbrev Jh7:=Jbp::Jbq::Jbr::Jbs::Ed 36::Jh5::Ea 25 27 [Va 27,Va 29,Va 31,Va 33,Vi 35]::Jh6::Jgr::Ea 21 27 [Va 27,Va 29,Va 31,Va 33,Vi 35]::Jgt
abbrev Jh8:=Ea 37 125 [Va 38,Va 40,Va 42,Va 44,Vi 46,Va 47]
abbrev Jh9:=Jh5::Ea 25 27 [Sf,Sf,Sf,Sf,Sh N12]::Jh6::Jgu
abbrev Jha:=Ec 31 J2h V32
abbrev Jhb:=Eb 40 97 J7v V41
abbrev Jhc:=Ea 0 125 [Va 31,Va 33,Va 35,Va 37,Vi 39,Va 40]
abbrev Jhd:=Jai::J9e::J82::J7x::Jci::Jaq
abbrev Jhe:=Eb 31 31 J6 (Xj Xo (Xk N3o (Xm (X4 false) (Xm (X4 false) (Xm (X4 false) (Xm (X4 false) (Xk N12 (Xk V20 Ja6))))))))
abbrev Jhf:=Jcc::Jbe::Jcd::Jce::Jcf::Jcg::Jhe::Jhd
abbrev Jhg:=Ec 57 J2h V58
abbrev Jhh:=Ec 59 J2h V60
abbrev Jhi:=Ec 45 J2h V46
abbrev Jhj:=Ec 47 J2h V48
abbrev Jhk:=Ea 0 125 [Va 57,Va 59,Va 61,Va 63,Vi 65,Va 66]
abbrev Jhl:=Ea 0 125 [Va 45,Va 47,Va 49,Va 51,Vi 53,Va 54]
abbrev Jhm:=Eb 15 71 J2h Xo
abbrev Jhn:=[Eb 18 71 J2h Xo,Eb 16 71 J2h V17,Jhm,Ea 14 9 [Vs 21],J9e,J82,J9f,J32,J9g,J7x,Ea 0 125 [Va 1,Va 16,Va 5,Va 7,Vi 9,Va 10]]
abbrev Jho:=Ea 22 71 [Sd (Xh V17 V20 0),Sd (Xh V17 V20 1),Sh (Xi V17 V20 2)]
abbrev Jhp:=Ec 45 J31 V46
abbrev Jhq:=Ec 34 J31 V35
abbrev Jhr:=Ec 43 J7r V44
abbrev Jhs:=Ec 27 J31 V28
abbrev Jht:=Ec 32 J31 V33
abbrev Jhu:=Xn (X5 []) (Xk N12 (Xm (X4 false) (Xm (X4 false) (Xm (X4 false) (Xm (X4 false) (Xk N12 (Xk N12 (Xk N12 (Xk N12 (Xn (X5 []) (Xn (X5 []) (Xn (X5 []) (Xt Xu (Xt Xu (Xk (Xi V35 V37 0) (Xk N16 (Xk (X3 69) (Xk V47 (Xn (Xh V35 V37 1) (Xt V51 (Xn V14 X1)))))))))))))))))))))
abbrev Jhv:=Ts 109 [Vq [Sh (Xi V35 V37 3)]] [] (Vq [Vs 51]) 1 (Tp (Tk 2 [V51,V52,V50,Xj Xo (Xk N28 (Xn V51 X1))]))
abbrev Jhw:=[Xj Xo (Xk N28 (Xn V50 X1))]
abbrev Jhx:=Ec 25 J7r V26
abbrev Jhy:=J7m::J7n::J8p::J8q::Jhx::Jhs::J8s::J7x::Ea 0 42 [Va 21,Va 23,Va 25,Va 27,Vi 29,Va 30]::J83
abbrev Jhz:=Ea 45 64 [Vs 34,Vb 35,Vb 36,Va 37,Va 39,Vi 41]
abbrev Ji0:=Ea 44 64 [Vs 34,Vb 35,Vb 36,Va 37,Va 39,Vi 41]
abbrev Ji1:=Ea 0 42 [Va 48,Va 50,Va 52,Va 54,Vi 56,Va 57]
abbrev Ji2:=Ea 0 42 [Va 1,Va 3,Va 5,Va 7,Vi 9,Va 10]
abbrev Ji3:=[J9e,J82,Jbv,Jd3,J9g,J7x,Ji2]
abbrev Ji4:=Ec 15 J2h V16
abbrev Ji5:=Ec 24 J7r V25
abbrev Ji6:=Ec 26 J31 V27
abbrev Ji7:=Xn (X5 []) (Xk N12 (Xm (X4 false) (Xm (X4 false) (Xm (X4 false) (Xm (X4 false) (Xk N12 (Xk N12 (Xk N12 (Xk N12 (Xn (X5 []) (Xn (X5 []) (Xn (X5 []) (Xt Xu (Xt Xu (Xk (Xi V27 V21 0) (Xk N16 (Xk (X3 132) (Xk V28 (Xn (Xh V27 V21 1) Jc0)))))))))))))))))))
abbrev Ji8:=Td (Ta (Xb (Xa (Xd V30) (Xd (Xj Xo Ji7))) N8i) (Td (Tt (Xa V21 N16) (Th 0 [V19,V20,Xa V21 N16,V22,V23,V24,V25,V26,V27,.emod (Xa V28 N16) (X3 65536),V33,Xj V30 Ji7]))))
abbrev Ji9:=Xk (Xi V27 V21 0) (Xn (Xh V27 V21 1) (Xn (Xh V27 V21 2) (Xk (Xi V27 V21 3) X1)))
abbrev Jia:=[J48,Jd1,Jd2,Ec 6 J31 V7,Ed 9]
abbrev Jib:=Ec 22 J6d V23::Ec 24 J2c V25::Jia
abbrev Jic:=Ea 39 27 [Va 26,Va 28,Va 30,Va 32,Vi 34]::Ec 26 J2h V27::Jgw::Ec 30 J7r V31::Jht::Ec 35 J7v V36::J7i::Jib
abbrev Jid:=Jb5::Ec 42 J2h V43::Ec 44 J7r V45::Ec 46 J31 V47::Ed 49::Jic
abbrev Jie:=Ea 70 27 [Va 57,Va 59,Va 61,Va 63,Vi 65]::Jhg::Jhh::Ec 61 J7r V62::Ec 63 J31 V64::Ec 66 J7v V67::Ed 69::Ec 54 J4j V55::Jid
abbrev Jif:=Ec 71 J2h V72::Ja2::Ec 75 J7r V76::Ec 77 J31 V78::Ed 80::Jie
abbrev Jig:=Ea 92 27 [Va 81,Va 83,Va 85,Va 87,Vi 89]::Ec 81 J2h (X6 82)::Jej::Ec 85 J7r V86::Ec 87 J31 V88::Ed 91::Jif
abbrev Jih:=Ec 93 J2h (X6 94)::Jgb::Ec 97 J7r (X6 98)::Ec 99 J31 (X6 100)::Ed 102::Jig
abbrev Jii:=[Ea 21 27 [Va 10,Va 12,Va 14,Va 17,Vi 19],Ea 20 27 [Va 0,Va 2,Va 4,Va 7,Vi 9],J48,Jd1,Jd2,Ed 6,Jd3,Ec 10 J2h V11,Ec 12 J2h V13,Ec 14 J7r V15,Ed 16,Jfu]
abbrev Jij:=[Ec 0 J7v V1,Ed 2,Ec 3 J7v V4,Ed 5]
abbrev Jik:=Tb (Xe (Xf (Xb N12 V9) (Xb V9 N4e))) J3l J21
abbrev Jil:=Tb (Xf (Xc V14 (Xd V5)) (Xg V13 N12)) (Ta (Xb N12 V14) (Ts 27 [Cc [Sd (Xh V5 V14 0),Sb (Xr V5 V14 1),Sb (Xr V5 V14 2),Se (Xs V5 V14 3),Se (Xs V5 V14 4),Sh (Xi V5 V14 5)]] Jd9 (Vq [Vi 15]) 1 (Ta (Xp (Xe (Xf (Xg V15 N12) (Xc N12 V14))) (Xb N19 (X2 V14 N16))) (Ta (Xp (Xe (Xf (Xg V15 N12) (Xc N12 V14))) (Xb (X2 V14 N16) N18)) (Ta (Xp (Xe (Xf (Xg V15 N12) (Xc N12 V14))) (Xb N12 (X2 V14 N16))) (Ta (Xp (Xe (Xf (Xg V15 N12) (Xc N12 V14))) (Xc (X2 V14 N16) (Xd V5))) (Tq (Xf (Xg V15 N12) (Xc N12 V14)) 28 [Vq [Sd (Xh V5 (X2 V14 N16) 0)],Vq [Sd (Xh V5 V14 0)]] [] (Vq [Vb 16]) 1 (Tb (Xf (Xf (Xg V15 N12) (Xc N12 V14)) (Xe V16)) (Tt (Xa V14 N16) (Th 0 (N3o::J4h))) (Tt (Xa V14 N16) (Th 0 (V15::J4h))))))))))) (Tb (Xg V13 N12) (Ts 29 [Vq [Va 7]] Jd9 (Vq [Vi 15]) 1 (Tb (Xe (Xg V15 N12)) (Tf (Vq [Vi 15]) []) (Ti J25 (Tb (Xc V17 (Xd V3)) (Ta (Xb N12 V17) (Ts 30 [Vq [Va 4],Vq [Sd (Xh V3 V17 0)]] Jd9 (Vq [Vi 18]) 1 (Tb (Xc V18 N12) J3p (Tt (Xa V17 N16) (Th 1 [V16,Xa V17 N16]))))) (Ti (V16::J24) (Tb (Xc V19 (Xd V8)) (Ta (Xb N12 V19) (Ts 31 [Vq [Va 0],Vq [Sd (Xh V8 V19 2)]] Jd9 (Vq [Vi 20]) 1 (Tb (Xc V20 N12) J3p (Tt (Xa V19 N16) (Th 2 [V18,Xa V19 N16]))))) Jik)))))) (Tf (Vq [Vi 13]) []))
abbrev Jim:=Xj Xo (Xn V5 (Xm V6 (Xm V7 (Xt V8 (Xt V10 (Xk V12 X1))))))
abbrev Jin:=Xw (Xv V4 N26) N12
abbrev Jio:=[Xw (Xv V14 N16) N12,Jim,Jin]
abbrev Jip:=[Ea 0 27 [Sf,Sf,Sf,Sf,Sh N12]]
abbrev Jiq:=J82::J9e::Jip
abbrev Jir:=Ec 8 J2 V9::Ec 10 J2 V11::Jiq
abbrev Jis:=[Xw (Xv V15 N16) N12,Jim,Jin]
abbrev Jit:=[Ec 14 J31 V15]
abbrev Jiu:List X:=[V15,V16,V17,Xw (Xv V16 N16) N12,Jim,Jin]
abbrev Jiv:=[Ec 15 J31 V16]
abbrev Jiw:=Xj Xo (Xn V6 (Xm V7 (Xm V8 (Xt V9 (Xt V11 (Xk V13 X1))))))
abbrev Jix:=[Xw (Xv V15 N16) N12,Jiw,Jin]
abbrev Jiy:=Ec 9 J2 V10::J7e::Ec 5 J2h Jin::Jiq
abbrev Jiz:=[Ec 31 J7v V37,Ec 32 J2h V38,Ec 33 J2h V39,Ec 34 J7r V40,Ec 35 J31 V41,Ea 29 27 [Va 32,Va 33,Va 34,Va 35,Vi 36],Ea 28 27 [Va 0,Va 2,Va 4,Va 7,Vi 9],J48,Jd1,Jd2,Ed 6,Jd3,Ec 10 J7v V11,J7x,Ji4,Ec 17 J2h V18,Ec 19 J7r V20,Jcv,Ec 22 J31 V23,Ec 25 J7v V26,Ed 27]
abbrev Jj0:=Xn (X5 []) (Xk N12 (Xm (X4 false) (Xm (X4 false) (Xm (X4 false) (Xm (X4 false) (Xk N12 (Xk N12 (Xk N12 (Xk N12 (Xn (X5 []) (Xn (X5 []) (Xn (X5 []) (Xt Xu (Xt Xu (Xk V13 Jg1)))))))))))))))
abbrev Jj1:=Eb 26 97 J7v (Xj Xo Jj0)
abbrev Jj2:=Xj V11 Jj0
abbrev Jj3:=[Xu,X5 [],V1,V3,V5,V7,V25,V27,Xo,V2,V4,V6,V8,Jj2,V30]
abbrev Jj4:=Eb 27 97 J7v Jj2
abbrev Jj5:=Jc4::J9e::J82::Jbv::Jd3::J7x::Ea 0 42 [Va 1,Va 3,Va 5,Va 7,Vi 25,Va 27]::Jc5
abbrev Jj6:=Jj4::Jj1::Jc8::Jj5
abbrev Jj7:=[Xu,X5 [],V31,V33,V35,V37,V39,V40,Xo,V32,V34,V36,V38,V41,V43]
abbrev Jj8:=Ec 35 J7r V36
abbrev Jj9:=Ec 37 J31 V38
abbrev Jja:=Ea 0 42 [Va 31,Va 33,Va 35,Va 37,Vi 39,Va 40]
abbrev Jjb:=Jc4::J9e::J82::Jbv::Jd3::J7x::Jja::Jc5
abbrev Jjc:=[Jha,Jf9,Jj8,Jj9,Jhb,Ed 42]
abbrev Jjd:=Tn (Jj4::Jj1::Jcl::Jj5) (Tk 0 (N12::N12::N12::N12::N12::N12::N12::N12::N12::N12::N12::N12::N12::N12::N12::N12::N12::N12::N12::N12::N12::N12::N12::N12::N12::N4o::Jj3))
abbrev Jje:=Ea 0 42 [Va 43,Va 45,Va 47,Va 49,Vi 51,Va 52]
abbrev Jjf:=Ea 22 50 [Vi 23,Sh (X3 69),Vi 24,Vs 17,Va 37,Sd (Xh V2 V30 1)]
abbrev Jjg:=Eb 37 113 J4j V39::Ec 38 J31 V40::Jj4::Jj1::Jjf::Jc4::J9e::J82::Jbv::Jd3::J7x::Ea 0 42 [Va 1,Va 3,Va 5,Va 38,Vi 25,Va 27]::Jc5
abbrev Jjh:=Tk 1 [N12,N12,N12,N12,Xu,V7,Xo,V8]
abbrev Jji:=Jj4::Jj1::Ea 22 50 [Vi 23,Sh (X3 69),Vi 24,Vs 17,Sf,Sd (Xh V2 V30 1)]::Jj5
abbrev Jjj:=Tf (Cb []) (Jc4::J9e::J82::Jbv::Jd3::J9g::J7x::Ji2::Jc5)
abbrev Jjk:=Xn (X5 []) (Xk N12 (Xm (X4 false) (Xm (X4 false) (Xm (X4 false) (Xm (X4 false) (Xk N12 (Xk N12 (Xk N12 (Xk N12 (Xn (X5 []) (Xn (X5 []) (Xn (X5 []) (Xt Xu (Xt Xu (Xk V13 (Xk N2w (Xk N12 (Xk V16 Jg0))))))))))))))))))
abbrev Jjl:=Ea 19 50 [Vi 11,Vi 12,Vi 13,Vs 14,Va 15,Vs 17]::Jgs
abbrev Jjm:=Ea 33 27 [Va 20,Va 22,Va 24,Va 26,Vi 28]::Jfz::Jdl::Ji5::Ji6::Ec 29 J7v V30::Ed 32::Jjl
abbrev Jjn:=Ea 38 42 [Va 0,Va 2,Va 4,Va 7,Vi 9,Sf]::Jjm
abbrev Jjo:=Ea 38 42 [Va 39,Va 41,Va 43,Va 45,Vi 47,Va 48]
