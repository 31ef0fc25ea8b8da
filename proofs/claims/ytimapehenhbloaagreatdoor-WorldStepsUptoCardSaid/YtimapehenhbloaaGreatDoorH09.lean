/- By an AI agent. -/
import Derived.Test.YtimapehenhbloaaGreatDoorRows
import Derived.Test.YtimapehenhbloaaGreatDoorH08
set_option linter.all false
set_option maxHeartbeats 20000000
set_option maxRecDepth 100000
open Bool renaming false→ϐ,true→ϑ
open Go.Proofs.Tryz renaming prog→ϒ
namespace Go.Proofs.Y
open Go.Sx
abbrev Ys(n:Nat):TI:={ agg:=ϐ,ks:=[.oth],zs:=[.nils],bytes:=24,tag:=.slice n }
abbrev Yp(n:Nat):TI:={ agg:=ϐ,ks:=[.oth],zs:=[.nilp],bytes:=8,tag:=.ptr n }
abbrev Yt1:TI:={ agg:=ϐ,ks:=[.int .i64],zs:=[.int .i64 (.I 0)],bytes:=8,tag:=.int .i64 }
abbrev Yt2:TI:={ agg:=ϐ,ks:=[.int .u8],zs:=[.int .u8 (.I 0)],bytes:=1,tag:=.int .u8 }
abbrev Yt3:TI:={ agg:=ϑ,ks:=[.int .i64,.int .i64,.bool,.int .u8],zs:=[.int .i64 (.I 0),.int .i64 (.I 0),.bool (.B ϐ),.int .u8 (.I 0)],bytes:=24,tag:=.strct [(0,2,1,ϐ),(1,3,1,ϐ),(2,4,1,ϐ),(3,6,1,ϐ)] }
abbrev Yt4:TI:={ agg:=ϐ,ks:=[.str],zs:=[.str (.S [])],bytes:=16,tag:=.str }
abbrev Yt5:TI:={ agg:=ϐ,ks:=[.int .u64],zs:=[.int .u64 (.I 0)],bytes:=8,tag:=.int .u64 }
abbrev Yt6:TI:={ agg:=ϑ,ks:=[.str,.int .u64],zs:=[.str (.S []),.int .u64 (.I 0)],bytes:=24,tag:=.strct [(0,9,1,ϐ),(1,12,1,ϐ)] }
abbrev Yt7:TI:={ agg:=ϑ,ks:=[.oth],zs:=[.nilp],bytes:=8,tag:=.strct [(0,17,1,ϐ)] }
abbrev Yt8:TI:={ agg:=ϐ,ks:=[.int .i32],zs:=[.int .i32 (.I 0)],bytes:=4,tag:=.int .i32 }
abbrev Yt9:TI:={ agg:=ϑ,ks:=[.oth,.oth,.oth,.oth,.int .i64],zs:=[.nils,.nils,.nils,.nils,.int .i64 (.I 0)],bytes:=104,tag:=.strct [(0,22,1,ϐ),(1,23,1,ϐ),(2,24,1,ϐ),(3,25,1,ϐ),(4,3,1,ϐ)] }
abbrev Yta:TI:={ agg:=ϑ,ks:=[.oth,.oth,.oth,.oth,.int .i64,.oth],zs:=[.nils,.nils,.nils,.nils,.int .i64 (.I 0),.nils],bytes:=128,tag:=.strct [(0,27,5,ϑ),(5,31,1,ϐ)] }
abbrev Ytb:TI:={ agg:=ϑ,ks:=[.oth,.oth,.oth,.oth,.int .i64,.oth,.oth],zs:=[.nils,.nils,.nils,.nils,.int .i64 (.I 0),.nils,.nils],bytes:=152,tag:=.strct [(0,27,5,ϑ),(5,28,1,ϐ),(6,31,1,ϐ)] }
abbrev Ytc:TI:={ agg:=ϑ,ks:=[.str,.bool,.bool,.oth,.oth,.int .i64],zs:=[.str (.S []),.bool (.B ϐ),.bool (.B ϐ),.nils,.nils,.int .i64 (.I 0)],bytes:=80,tag:=.strct [(0,9,1,ϐ),(1,4,1,ϐ),(2,4,1,ϐ),(3,56,1,ϐ),(4,56,1,ϐ),(5,3,1,ϐ)] }
abbrev Ytd:TI:={ agg:=ϑ,ks:=[.str,.int .i64],zs:=[.str (.S []),.int .i64 (.I 0)],bytes:=24,tag:=.strct [(0,9,1,ϐ),(1,3,1,ϐ)] }
abbrev Yte:TI:={ agg:=ϑ,ks:=[.str,.int .i64],zs:=[.str (.S []),.int .i64 (.I 0)],bytes:=24,tag:=.strct [(0,9,1,ϐ),(1,3,1,ϐ)],eqs:=ϑ }
abbrev Ytf:TI:={ agg:=ϑ,ks:=[.int .i64,.int .i64,.int .i64,.str,.oth,.str],zs:=[.int .i64 (.I 0),.int .i64 (.I 0),.int .i64 (.I 0),.str (.S []),.nils,.str (.S [])],bytes:=80,tag:=.strct [(0,3,1,ϐ),(1,3,1,ϐ),(2,3,1,ϐ),(3,9,1,ϐ),(4,72,1,ϐ),(5,9,1,ϐ)] }
abbrev Ytg:TI:={ agg:=ϑ,ks:=[.int .i64,.bool,.bool,.bool,.bool,.int .i64,.int .i64,.int .i64,.int .i64,.str,.str,.str,.oth,.oth],zs:=[.int .i64 (.I 0),.bool (.B ϐ),.bool (.B ϐ),.bool (.B ϐ),.bool (.B ϐ),.int .i64 (.I 0),.int .i64 (.I 0),.int .i64 (.I 0),.int .i64 (.I 0),.str (.S []),.str (.S []),.str (.S []),.nils,.nils],bytes:=144,tag:=.strct [(0,3,1,ϐ),(1,4,1,ϐ),(2,4,1,ϐ),(3,4,1,ϐ),(4,4,1,ϐ),(5,3,1,ϐ),(6,3,1,ϐ),(7,3,1,ϐ),(8,3,1,ϐ),(9,9,1,ϐ),(10,9,1,ϐ),(11,9,1,ϐ),(12,82,1,ϐ),(13,83,1,ϐ)] }
abbrev Yth:TI:={ agg:=ϑ,ks:=[.str,.int .i64,.bool,.bool,.bool,.bool,.int .i64,.int .i64,.int .i64,.int .i64,.str,.str,.str,.oth,.oth,.int .i64,.int .i64,.int .i64,.int .i64,.str,.oth,.str],zs:=[.str (.S []),.int .i64 (.I 0),.bool (.B ϐ),.bool (.B ϐ),.bool (.B ϐ),.bool (.B ϐ),.int .i64 (.I 0),.int .i64 (.I 0),.int .i64 (.I 0),.int .i64 (.I 0),.str (.S []),.str (.S []),.str (.S []),.nils,.nils,.int .i64 (.I 0),.int .i64 (.I 0),.int .i64 (.I 0),.int .i64 (.I 0),.str (.S []),.nils,.str (.S [])],bytes:=248,tag:=.strct [(0,9,1,ϐ),(1,85,14,ϑ),(15,3,1,ϐ),(16,74,6,ϑ)] }
abbrev Yti:TI:={ agg:=ϑ,ks:=[.str,.int .i64,.bool],zs:=[.str (.S []),.int .i64 (.I 0),.bool (.B ϐ)],bytes:=32,tag:=.strct [(0,9,1,ϐ),(1,3,1,ϐ),(2,4,1,ϐ)] }
abbrev Ytj:TI:={ agg:=ϑ,ks:=[.str,.int .i64,.bool],zs:=[.str (.S []),.int .i64 (.I 0),.bool (.B ϐ)],bytes:=32,tag:=.strct [(0,9,1,ϐ),(1,3,1,ϐ),(2,4,1,ϐ)],eqs:=ϑ }
abbrev Ytk:TI:={ agg:=ϑ,ks:=[.oth,.oth],zs:=[.nilp,.nils],bytes:=32,tag:=.strct [(0,206,1,ϐ),(1,207,1,ϐ)] }
abbrev Ytl:TI:={ agg:=ϑ,ks:=[.oth,.oth],zs:=[.nilp,.nils],bytes:=32,tag:=.strct [(0,209,2,ϑ)] }
abbrev Ytm:TI:={ agg:=ϑ,ks:=[.str,.bool,.bool,.oth,.oth,.int .i64,.oth],zs:=[.str (.S []),.bool (.B ϐ),.bool (.B ϐ),.nils,.nils,.int .i64 (.I 0),.nils],bytes:=104,tag:=.strct [(0,58,6,ϑ),(6,78,1,ϐ)] }
abbrev Ytn:TI:={ agg:=ϑ,ks:=[.int .u8,.int .u8],zs:=[.int .u8 (.I 0),.int .u8 (.I 0)],bytes:=2,tag:=.strct [(0,5,1,ϐ),(1,5,1,ϐ)] }
abbrev Yto:TI:={ agg:=ϑ,ks:=[.oth,.oth,.oth,.str],zs:=[.nilp,.nilp,.nilp,.str (.S [])],bytes:=40,tag:=.strct [(0,17,1,ϐ),(1,17,1,ϐ),(2,17,1,ϐ),(3,9,1,ϐ)] }
def sxT:Tab:=[
 (2,Yt1),
 (3,Yt1),
 (4,{ agg:=ϐ,ks:=[.bool],zs:=[.bool (.B ϐ)],bytes:=1,tag:=.bool }),
 (5,Yt2),
 (6,Yt2),
 (7,Yt3),
 (8,Yt3),
 (9,Yt4),
 (10,Yt4),
 (11,Yt4),
 (12,Yt5),
 (13,Yt6),
 (14,Yt6),
 (15,Yp 364),
 (16,Yp 367),
 (17,Yp 374),
 (18,Yt7),
 (19,Yt7),
 (21,Yt8),
 (22,Ys 111),
 (23,Ys 65),
 (24,Ys 58),
 (25,Ys 68),
 (26,Yt9),
 (27,Yt9),
 (28,Ys 49),
 (29,{ agg:=ϑ,ks:=[.str,.int .i64,.str],zs:=[.str (.S []),.int .i64 (.I 0),.str (.S [])],bytes:=40,tag:=.strct [(0,9,1,ϐ),(1,3,1,ϐ),(2,9,1,ϐ)] }),
 (30,{ agg:=ϑ,ks:=[.str,.int .i64,.str],zs:=[.str (.S []),.int .i64 (.I 0),.str (.S [])],bytes:=40,tag:=.strct [(0,9,1,ϐ),(1,3,1,ϐ),(2,9,1,ϐ)],eqs:=ϑ }),
 (31,Ys 130),
 (32,Yt1),
 (38,Yta),
 (39,Yta),
 (45,Yp 51),
 (48,{ agg:=ϑ,ks:=[.str,.str],zs:=[.str (.S []),.str (.S [])],bytes:=32,tag:=.strct [(0,9,1,ϐ),(1,9,1,ϐ)] }),
 (49,{ agg:=ϑ,ks:=[.str,.str],zs:=[.str (.S []),.str (.S [])],bytes:=32,tag:=.strct [(0,9,1,ϐ),(1,9,1,ϐ)],eqs:=ϑ }),
 (50,Ytb),
 (51,Ytb),
 (56,Ys 122),
 (57,Ytc),
 (58,Ytc),
 (62,Ytd),
 (63,Yte),
 (64,{ agg:=ϑ,ks:=[.str,.str,.int .i64],zs:=[.str (.S []),.str (.S []),.int .i64 (.I 0)],bytes:=40,tag:=.strct [(0,9,1,ϐ),(1,63,2,ϑ)] }),
 (65,{ agg:=ϑ,ks:=[.str,.str,.int .i64],zs:=[.str (.S []),.str (.S []),.int .i64 (.I 0)],bytes:=40,tag:=.strct [(0,9,1,ϐ),(1,63,2,ϑ)],eqs:=ϑ }),
 (67,{ agg:=ϑ,ks:=[.int .i64,.str,.str,.int .i64],zs:=[.int .i64 (.I 0),.str (.S []),.str (.S []),.int .i64 (.I 0)],bytes:=48,tag:=.strct [(0,3,1,ϐ),(1,9,1,ϐ),(2,9,1,ϐ),(3,3,1,ϐ)] }),
 (68,{ agg:=ϑ,ks:=[.int .i64,.str,.str,.int .i64],zs:=[.int .i64 (.I 0),.str (.S []),.str (.S []),.int .i64 (.I 0)],bytes:=48,tag:=.strct [(0,3,1,ϐ),(1,9,1,ϐ),(2,9,1,ϐ),(3,3,1,ϐ)],eqs:=ϑ }),
 (71,Yp 39),
 (72,Ys 127),
 (73,Ytf),
 (74,Ytf),
 (78,Ys 85),
 (82,Ys 63),
 (83,Ys 3),
 (84,Ytg),
 (85,Ytg),
 (91,Ys 31),
 (94,Ys 30),
 (110,{ agg:=ϑ,ks:=[.str,.str,.int .i64],zs:=[.str (.S []),.str (.S []),.int .i64 (.I 0)],bytes:=40,tag:=.strct [(0,9,1,ϐ),(1,9,1,ϐ),(2,3,1,ϐ)] }),
 (111,{ agg:=ϑ,ks:=[.str,.str,.int .i64],zs:=[.str (.S []),.str (.S []),.int .i64 (.I 0)],bytes:=40,tag:=.strct [(0,9,1,ϐ),(1,9,1,ϐ),(2,3,1,ϐ)],eqs:=ϑ }),
 (121,{ agg:=ϑ,ks:=[.int .i64,.str,.str],zs:=[.int .i64 (.I 0),.str (.S []),.str (.S [])],bytes:=40,tag:=.strct [(0,3,1,ϐ),(1,9,1,ϐ),(2,9,1,ϐ)] }),
 (122,{ agg:=ϑ,ks:=[.int .i64,.str,.str],zs:=[.int .i64 (.I 0),.str (.S []),.str (.S [])],bytes:=40,tag:=.strct [(0,3,1,ϐ),(1,9,1,ϐ),(2,9,1,ϐ)],eqs:=ϑ }),
 (126,{ agg:=ϑ,ks:=[.int .i64,.str],zs:=[.int .i64 (.I 0),.str (.S [])],bytes:=24,tag:=.strct [(0,3,1,ϐ),(1,9,1,ϐ)] }),
 (127,{ agg:=ϑ,ks:=[.int .i64,.str],zs:=[.int .i64 (.I 0),.str (.S [])],bytes:=24,tag:=.strct [(0,3,1,ϐ),(1,9,1,ϐ)],eqs:=ϑ }),
 (129,Yth),
 (130,Yth),
 (164,Ys 98),
 (185,Ys 9),
 (190,Ys 193),
 (192,Ytd),
 (193,Yte),
 (198,Yti),
 (199,Ytj),
 (205,Yp 211),
 (206,Yp 209),
 (207,Ys 5),
 (208,Ytk),
 (209,Ytk),
 (210,Ytl),
 (211,Ytl),
 (220,Yt5),
 (221,Yp 223),
 (222,{ agg:=ϑ,ks:=[.str,.bool],zs:=[.str (.S []),.bool (.B ϐ)],bytes:=24,tag:=.strct [(0,9,1,ϐ),(1,4,1,ϐ)] }),
 (223,{ agg:=ϑ,ks:=[.str,.bool],zs:=[.str (.S []),.bool (.B ϐ)],bytes:=24,tag:=.strct [(0,9,1,ϐ),(1,4,1,ϐ)],eqs:=ϑ }),
 (227,Yp 249),
 (235,Yp 199),
 (245,Yp 5),
 (248,Yta),
 (249,Yta),
 (265,Yp 267),
 (266,Yti),
 (267,Ytj),
 (269,Yp 85),
 (271,Yp 275),
 (274,Ytm),
 (275,Ytm),
 (296,{ agg:=ϐ,ks:=[.oth],zs:=[.nilm],bytes:=8,tag:=.other }),
 (312,Yp 285),
 (333,Yt1),
 (340,{ agg:=ϐ,ks:=[.int .u32],zs:=[.int .u32 (.I 0)],bytes:=4,tag:=.int .u32 }),
 (342,Yt5),
 (348,Yt5),
 (352,Yp 3),
 (356,Ytn),
 (357,Ytn),
 (360,Yp 348),
 (363,Yto),
 (364,Yto),
 (368,Yt2),
 (369,Yt2),
 (371,Yt8),
 (372,Yt8)]
noncomputable def sxE:Env:=⟨sxT,[(0,[]),(33,[27,28,31,32]),(75,[74,32]),(79,[78,9,32]),(87,[9,32]),(92,[27,91,32]),(102,[3,4]),(124,[3,3,4]),(133,[3,32]),(135,[25,32]),(139,[3,3,32]),(141,[85,32]),(143,[58,78]),(147,[23,32]),(178,[27,31,32]),(183,[27,32]),(188,[22,32]),(195,[25,25]),(225,[27,31]),(229,[85,3,32]),(236,[9,3,32]),(242,[3,241]),(286,[285,4]),(324,[21,3]),(334,[3,333]),(344,[340,340]),(361,[3,3])],[3,4,5,6,7,8,9,10,11,12,13,14,15,16,17,18,19,20,21,22,23,24,25,26,27,28,29,30,31,32,33,34,35,36,37,38,39,40,41,42,43,44,45,46,47,48,49,50,51,52,53,54,55,56,57,58,59,60,61,62,63,64,65,66,67,68,69,70,71,72,73,74,75,76,77,78,79,80,81,82,83,84,85,86,87,88,89,90,91,92,93,94,95,96,97,98,99,100,101,102,103,104,105,106,107,108,109,110,111,112,113,114,115,116,117,118,119,120,121,122,123,124,125,126,127,128,129,130,131,132,133,134,135,136,137,138,139,140,141,142,143,144,145,146,147,148,149,150,151,152,153,154,155,156,157,158,159,160,161,162,163,164,165,166,167,168,169,170,171,172,173,174,175,176,177,178,179,180,181,182,183,184,185,186,187,188,189,190,191,192,193,194,195,196,197,198,199,200,202,203,204,205,206,207,208,209,210,211,212,213,214,215,216,217,218,219,220,221,223,224,225,226,227,228,229,230,231,232,233,234,235,236,237,238,239,240,241,242,243,244,245,246,247,248,249,250,251,252,253,254,255,256,257,258,259,260,261,262,263,264,266,267,268,269,270,271,272,273,274,275,276,277,278,279,280,281,282,283,284,285,286,287,288,289,290,292,293,294,295,296,297,298,299,300,301,302,303,304,305,306,308,309,310,311,312,313,314,315,317,318,319,320,321,322,324,325,326,327,329,330,332,334,335,336,337,338,339,340,341,342,343,344,345,346,347,348,349,350,351,353,354,355,356,357,358,359,360,361,362,363,364,386],[15,16,58,59,60,76,88,119,174,180,220,239,241,247,250,279,280,296,314,332],[139,174,180,220,250,279,280,296,314],[153],[(25,Tryz.f25),(48,Tryz.f48),(49,Tryz.f49),(50,Tryz.f50),(52,Tryz.f52),(53,Tryz.f53),(57,Tryz.f57),(61,Tryz.f61),(62,Tryz.f62),(63,Tryz.f63),(72,Tryz.f72),(82,Tryz.f82),(84,Tryz.f84),(108,Tryz.f108),(109,Tryz.f109),(110,Tryz.f110),(111,Tryz.f111),(112,Tryz.f112),(113,Tryz.f113),(115,Tryz.f115),(116,Tryz.f116),(117,Tryz.f117),(123,Tryz.f123),(126,Tryz.f126),(146,Tryz.f146),(155,Tryz.f155),(156,Tryz.f156),(157,Tryz.f157),(167,Tryz.f167),(168,Tryz.f168),(169,Tryz.f169),(172,Tryz.f172),(173,Tryz.f173),(175,Tryz.f175),(177,Tryz.f177),(179,Tryz.f179),(193,Tryz.f193),(195,Tryz.f195),(206,Tryz.f206),(226,Tryz.f226),(227,Tryz.f227),(232,Tryz.f232),(233,Tryz.f233),(234,Tryz.f234),(235,Tryz.f235),(240,Tryz.f240),(243,Tryz.f243),(244,Tryz.f244),(252,Tryz.f252),(253,Tryz.f253),(254,Tryz.f254),(258,Tryz.f258),(259,Tryz.f259),(260,Tryz.f260),(261,Tryz.f261),(262,Tryz.f262),(264,Tryz.f264),(271,Tryz.f271),(274,Tryz.f274),(275,Tryz.f275),(278,Tryz.f278),(288,Tryz.f288),(289,Tryz.f289),(290,Tryz.f290),(293,Tryz.f293),(294,Tryz.f294),(295,Tryz.f295),(297,Tryz.f297),(298,Tryz.f298),(299,Tryz.f299),(300,Tryz.f300),(310,Tryz.f310),(311,Tryz.f311),(312,Tryz.f312),(313,Tryz.f313),(325,Tryz.f325)],[],[4,8,15,17,28,29,30,31,34,35,77,78,81,85,121,122,124,125,169,170,176,178,208,209,210,213,214,216,217,218,221],[111,65,1051058,1051068,1039058,1039068]⟩
def sxE_check:sxE.check ϒ=ϑ:=by kernel_rfl
def sxE_inl:∀p∈sxE.inl,Tryz.prog.funcs[p.1]?=some p.2:=qy2.2 ⟨Tryz.func25,qy2.2 ⟨Tryz.func48,qy2.2 ⟨Tryz.func49,qy2.2 ⟨Tryz.func50,qy2.2 ⟨Tryz.func52,qy2.2 ⟨Tryz.func53,qy2.2 ⟨Tryz.func57,qy2.2 ⟨Tryz.func61,qy2.2 ⟨Tryz.func62,qy2.2 ⟨Tryz.func63,qy2.2 ⟨Tryz.func72,qy2.2 ⟨Tryz.func82,qy2.2 ⟨Tryz.func84,qy2.2 ⟨Tryz.func108,qy2.2 ⟨Tryz.func109,qy2.2 ⟨Tryz.func110,qy2.2 ⟨Tryz.func111,qy2.2 ⟨Tryz.func112,qy2.2 ⟨Tryz.func113,qy2.2 ⟨Tryz.func115,qy2.2 ⟨Tryz.func116,qy2.2 ⟨Tryz.func117,qy2.2 ⟨Tryz.func123,qy2.2 ⟨Tryz.func126,qy2.2 ⟨Tryz.func146,qy2.2 ⟨Tryz.func155,qy2.2 ⟨Tryz.func156,qy2.2 ⟨Tryz.func157,qy2.2 ⟨Tryz.func167,qy2.2 ⟨Tryz.func168,qy2.2 ⟨Tryz.func169,qy2.2 ⟨Tryz.func172,qy2.2 ⟨Tryz.func173,qy2.2 ⟨Tryz.func175,qy2.2 ⟨Tryz.func177,qy2.2 ⟨Tryz.func179,qy2.2 ⟨Tryz.func193,qy2.2 ⟨Tryz.func195,qy2.2 ⟨Tryz.func206,qy2.2 ⟨Tryz.func226,qy2.2 ⟨Tryz.func227,qy2.2 ⟨Tryz.func232,qy2.2 ⟨Tryz.func233,qy2.2 ⟨Tryz.func234,qy2.2 ⟨Tryz.func235,qy2.2 ⟨Tryz.func240,qy2.2 ⟨Tryz.func243,qy2.2 ⟨Tryz.func244,qy2.2 ⟨Tryz.func252,qy2.2 ⟨Tryz.func253,qy2.2 ⟨Tryz.func254,qy2.2 ⟨Tryz.func258,qy2.2 ⟨Tryz.func259,qy2.2 ⟨Tryz.func260,qy2.2 ⟨Tryz.func261,qy2.2 ⟨Tryz.func262,qy2.2 ⟨Tryz.func264,qy2.2 ⟨Tryz.func271,qy2.2 ⟨Tryz.func274,qy2.2 ⟨Tryz.func275,qy2.2 ⟨Tryz.func278,qy2.2 ⟨Tryz.func288,qy2.2 ⟨Tryz.func289,qy2.2 ⟨Tryz.func290,qy2.2 ⟨Tryz.func293,qy2.2 ⟨Tryz.func294,qy2.2 ⟨Tryz.func295,qy2.2 ⟨Tryz.func297,qy2.2 ⟨Tryz.func298,qy2.2 ⟨Tryz.func299,qy2.2 ⟨Tryz.func300,qy2.2 ⟨Tryz.func310,qy2.2 ⟨Tryz.func311,qy2.2 ⟨Tryz.func312,qy2.2 ⟨Tryz.func313,qy2.2 ⟨Tryz.func325,qy5 _⟩⟩⟩⟩⟩⟩⟩⟩⟩⟩⟩⟩⟩⟩⟩⟩⟩⟩⟩⟩⟩⟩⟩⟩⟩⟩⟩⟩⟩⟩⟩⟩⟩⟩⟩⟩⟩⟩⟩⟩⟩⟩⟩⟩⟩⟩⟩⟩⟩⟩⟩⟩⟩⟩⟩⟩⟩⟩⟩⟩⟩⟩⟩⟩⟩⟩⟩⟩⟩⟩⟩⟩⟩⟩⟩⟩
def sxE_ok:EnvOK ϒ sxE:=Env.ok sxE_check sxE_inl
abbrev Va(n:Nat):Sc:=.val (.var n)
abbrev Vi(n:Nat):Sc:=.int .i64 (.var n)
abbrev Vs(n:Nat):Sc:=.str (.var n)
abbrev Vb(n:Nat):Sc:=.bool (.var n)
abbrev Vk:Kd:=.int .i64
abbrev Vq(l:List Sc):SV:=.cv (ϐ,l)
abbrev Cc(l:List Sc):SV:=.cv (ϑ,l)
abbrev Xk:=X.consI .i64
abbrev Sh:=Sc.int .i64
abbrev Ts:=Tree.callP (.B ϑ)
abbrev Tt(e:X)(t:Tree):Tree:=.need (.le (.I (-9223372036854775808)) e) (.need (.le e (.I 9223372036854775807)) t)
abbrev Ta:=Tree.need
abbrev Tb:=Tree.ite
abbrev Tc:=Tree.bindN
abbrev Td:=Tree.bindV
abbrev Te:=Tree.callM
abbrev Tf:=Tree.ret
abbrev Th:=Tree.back
abbrev Ti:=Tree.loop
abbrev Tj:=Tree.join
abbrev Tk:=Tree.jump
abbrev Tm:=Tree.both
abbrev Tn:=Tree.pack
abbrev To:=Tree.letV
abbrev Tp:=Tree.bindO
abbrev Tq:=Tree.callP
abbrev Tr:=Tree.openR
abbrev Xa:=X.add
abbrev Xb:=X.le
abbrev Xc:=X.lt
abbrev Xd:=X.rlen
abbrev Xe:=X.not
abbrev Xf:=X.and
abbrev Xg:=X.eqI
abbrev Xh:=X.rS
abbrev Xi:=X.rI
abbrev Xj:=X.snocR
abbrev Xm:=X.consB
abbrev Xn:=X.consS
abbrev Xo:=X.nilR
abbrev Xp:=X.or
abbrev Xq:=X.len
abbrev Xr:=X.rB
abbrev Xs:=X.rV
abbrev Xt:=X.consV
abbrev Xu:=X.nilS
abbrev Xv:=X.takeR
abbrev Xw:=X.dropR
abbrev Xx:=X.catR
abbrev Xy:=X.setR
abbrev Xz:=X.eqS
abbrev X1:=X.nilL
abbrev X2:=X.sub
abbrev X3:=X.I
abbrev X4:=X.B
abbrev X5:=X.S
abbrev X6:=X.var
abbrev X7:=X.mul
abbrev X8:=X.ite
abbrev Ea:=Ent.cells
abbrev Eb:=Ent.row
abbrev Ec:=Ent.rd
abbrev Ed:=Ent.st
abbrev Sa:=Sc.int
abbrev Sb:=Sc.bool
abbrev Sd:=Sc.str
abbrev Se:=Sc.val
abbrev Sf:=Sc.nils
abbrev Sg:=Sc.ptr
abbrev Ca:=SV.cv
abbrev Cb:=SV.tup
abbrev Ka:=Kd.str
abbrev Kb:=Kd.bool
abbrev Kc:=Kd.oth
abbrev Kd0:=Kd.int
abbrev V0:=X6 0
abbrev V1:=X6 1
abbrev V2:=X6 2
abbrev V3:=X6 3
abbrev J5:=[Vk,Ka,Ka,Vk]
abbrev J6:=[Ec 0 J5 V1]
abbrev V4:=X6 4
abbrev V5:=X6 5
abbrev J9:=[Vk,Ka,Ka]
abbrev V7:=X6 7
abbrev V6:=X6 6
abbrev Jc:=[Ec 3 J9 V4,Ec 5 J9 V6]
abbrev V8:=X6 8
abbrev V9:=X6 9
abbrev V10:=X6 10
abbrev V11:=X6 11
abbrev V13:=X6 13
abbrev V15:=X6 15
abbrev V12:=X6 12
abbrev V14:=X6 14
abbrev Jl:=[Vk,Kb,Kb,Kb,Kb,Vk,Vk,Vk,Vk,Ka,Ka,Ka,Kc,Kc]
abbrev Jm:=[Ka,Ka,Vk]
abbrev Jn:=Ec 0 Jm V1
abbrev Jo:=[Jn]
abbrev Jp:=Ec 2 Jm V3
abbrev Jq:=[Ka,Vk]
abbrev Jr:=[Ec 12 Jq V13,Ec 14 [Vk] V15]
abbrev Js:=[Vk,Ka]
abbrev Jt:=[Ec 4 Js V5]
abbrev Ju:=Eb 2 5 [Kd0 .u8] V3
abbrev Jv:=Ea 0 211 [Va 1,Va 2]
abbrev V16:=X6 16
abbrev V18:=X6 18
abbrev V17:=X6 17
abbrev V19:=X6 19
abbrev J10:=[Ka,Kb,Kb,Kc,Kc,Vk]
abbrev J11:=Ec 1 Jm V2
abbrev J12:=Ec 3 Jm V4
abbrev J13:=Eb 5 58 J10 V6
abbrev J14:=Eb 7 68 J5 V8
abbrev J15:=[Ka,Vk,Kb,Kb,Kb,Kb,Vk,Vk,Vk,Vk,Ka,Ka,Ka,Kc,Kc,Vk,Vk,Vk,Vk,Ka,Kc,Ka]
abbrev J16:=Eb 10 130 J15 V11
abbrev J17:=Ed 12
abbrev J18:=Ea 0 249 [Va 1,Va 3,Va 5,Va 7,Vi 9,Va 10]
abbrev J19:=[J11,J12,J13,J14,J16,J17,J18]
abbrev V20:=X6 20
abbrev V23:=X6 23
abbrev V26:=X6 26
abbrev J1d:=[Ec 26 Jq (X6 27),Ec 28 [Vk] (X6 29)]
abbrev J1e:=J11::J12::J13::J14::J16::J17::J18::J1d
abbrev J1f:=Ea 0 267 [Vs 1,Vi 2,Vb 3]
abbrev J1g:=[J1f,Ea 4 85 [Vi 5,Vb 6,Vb 7,Vb 8,Vb 9,Vi 10,Vi 11,Vi 12,Vi 13,Vs 14,Vs 15,Vs 16,Sf,Sf]]
abbrev J1h:=[Ea 0 223 [Vs 1,Vb 2]]
abbrev J1i:=Ec 5 J10 V6
abbrev J1j:=[J11,J12,J1i,Ed 7,Ec 8 J5 V9,Ea 0 27 [Va 1,Va 3,Va 5,Va 8,Vi 10]]
abbrev J1k:=Ec 4 J10 V5
abbrev J1l:=Ec 7 J5 V8
abbrev J1m:=[Jn,Jp,J1k,Ed 6,J1l]
abbrev J1n:=[Ka,Ka]
abbrev J1o:=[Jn,Jp,J1k,Ed 6,J1l,Ec 10 J1n V11]
abbrev J1p:=Ea 0 39 [Va 1,Va 3,Va 5,Va 7,Vi 9,Va 10]
abbrev J1q:=[J11,J12,J1i,J1l,J16,J17,J1p]
abbrev J1r:=J11::J12::J1i::J1l::J16::J17::J1p::J1d
abbrev J1s:=[Ea 0 199 [Vs 1,Vi 2,Vb 3]]
open Go
def Fk(f:FuncId)(n:Nat)(args:List SV)(hp:List Ent)(T:Tree):Prop:=∀(B:Base) (R:Ending->World->Prop) (J:List V) (w:World),Rel B J hp w->T.goal ⟨ϒ,B,R⟩ J []->J.length=n->Calls ϒ f (args.map (SV.ev J)).toArray w R
variable{T:Tree}{n:Nat}{args:List SV}{hp:List Ent}
def Wg{b:Bool}{f:FuncId}{fn:Func}{L:List (Nat×Nat×Nat)}(hf:Tryz.prog.funcs[f]?=some fn)(ht:∀w,viaP w (tidy b n [] (Ziy { sxE with joins:=L } fn n args hp)) T)(hb:fn.body.isSome=ϑ)(hbh:hp.all (Ent.bd n)=ϑ)(hba:args.all (λs=>s.bd n && s.isVal)=ϑ):Fk f n args hp T :=
 λ_ _ _ w hrel h hn=>Zo6 (sxE_ok.joins L) hf rfl hn hb hrel hbh hba (Zu2 (K:=[]) _ hn (λx hx=>ϟ hx List.not_mem_nil) (by rw[viaE (ht w)];exact h))
def Wj{f:FuncId}{fn:Func}(n:Nat)(L:List (Nat×Nat×Nat))(args:List SV)(hp:List Ent)(hf:Tryz.prog.funcs[f]?=some fn)(ht:∀w,viaP w (tidy ϐ n [] (Ziy { sxE with joins:=L } fn n args hp)) T:=by intro _;exact viaA)(hb:fn.body.isSome=ϑ:=by rfl)(hbh:hp.all (Ent.bd n)=ϑ:=by rfl)(hba:args.all (λs=>s.bd n && s.isVal)=ϑ:=by rfl):Fk f n args hp T:=Wg hf ht hb hbh hba
def W3{f:FuncId}{fn:Func}(n:Nat)(L:List (Nat×Nat×Nat))(args:List SV)(hp:List Ent)(hf:Tryz.prog.funcs[f]?=some fn)(ht:∀w,viaP w (tidy ϑ n [] (Ziy { sxE with joins:=L } fn n args hp)) T:=by intro _;exact viaA)(hb:fn.body.isSome=ϑ:=by rfl)(hbh:hp.all (Ent.bd n)=ϑ:=by rfl)(hba:args.all (λs=>s.bd n && s.isVal)=ϑ:=by rfl):Fk f n args hp T:=Wg hf ht hb hbh hba
def W2{f:FuncId}{fn:Func}(n:Nat)(args:List SV)(hp:List Ent)(hf:Tryz.prog.funcs[f]?=some fn)(ht:∀w,viaP w (tidy ϐ n [] (Ziy { sxE with joins:=[] } fn n args hp)) T:=by intro _;exact viaA)(hb:fn.body.isSome=ϑ:=by rfl)(hbh:hp.all (Ent.bd n)=ϑ:=by rfl)(hba:args.all (λs=>s.bd n && s.isVal)=ϑ:=by rfl):Fk f n args hp T:=Wg hf ht hb hbh hba
variable{J:List V}{w:World}
def Wu{f:FuncId}{B:Base}{R:Ending->World->Prop}{as':Array Value}(hF:Fk f n args hp T)(hrel:Rel B J hp w)(h:T.goal ⟨ϒ,B,R⟩ J [])(hn:J.length=n:=by rfl)(he:(args.map (SV.ev J)).toArray=as':=by rfl):Calls ϒ f as' w R:=Zb (hF _ _ _ _ hrel h hn) he
def Wp{f:FuncId}{R:Ending->World->Prop}{as':Array Value}(hF:Fk f n args [] T)(h:T.goal ⟨ϒ,⟨[],w⟩,R⟩ J [])(hn:J.length=n:=by rfl)(he:(args.map (SV.ev J)).toArray=as':=by rfl):Calls ϒ f as' w R:=Wu hF (.start w J) h hn he
def Wr{f:FuncId}{R:Ending->World->Prop}{as':Array Value}(hF:Fk f n args hp T)(h:T.goal ⟨ϒ,⟨[],w⟩,R⟩ J [])(hr:∀e∈hp,e.holds J w/\e.wr=ϐ:=by simp[*,Ent.holds,Ent.wr,X.ev])(hn:J.length=n:=by rfl)(he:(args.map (SV.ev J)).toArray=as':=by rfl):Calls ϒ f as' w R:=Wu hF (.start2 hr) h hn he
