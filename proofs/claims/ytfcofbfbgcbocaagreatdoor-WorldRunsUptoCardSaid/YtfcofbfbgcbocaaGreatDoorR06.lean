/-
  The executor's table for this translation: types, functions that have a body, functions whose slices are the caller's. Written by a program of mine (wip/mkenv.py); the kernel checks it against the program. By an AI agent.
-/
import Derived.Test.YtfcofbfbgcbocaaGreatDoorRows
import Derived.Test.YtfcofbfbgcbocaaGreatDoorR05
set_option linter.all false
set_option maxHeartbeats 20000000
namespace Go.Proofs.Y
open Go.Sx
abbrev Ys(n:Nat):TI:={ agg:=false,ks:=[.oth],zs:=[.nils],bytes:=24,tag:=.slice n }
abbrev Yp(n:Nat):TI:={ agg:=false,ks:=[.oth],zs:=[.nilp],bytes:=8,tag:=.ptr n }
abbrev Yt1:TI:={ agg:=false,ks:=[.int .i64],zs:=[.int .i64 (.I 0)],bytes:=8,tag:=.int .i64 }
abbrev Yt2:TI:={ agg:=false,ks:=[.int .u8],zs:=[.int .u8 (.I 0)],bytes:=1,tag:=.int .u8 }
abbrev Yt3:TI:={ agg:=true,ks:=[.int .i64,.int .i64,.bool,.int .u8],zs:=[.int .i64 (.I 0),.int .i64 (.I 0),.bool (.B false),.int .u8 (.I 0)],bytes:=24,tag:=.strct [(0,2,1,false),(1,3,1,false),(2,4,1,false),(3,6,1,false)] }
abbrev Yt4:TI:={ agg:=false,ks:=[.str],zs:=[.str (.S [])],bytes:=16,tag:=.str }
abbrev Yt5:TI:={ agg:=false,ks:=[.int .u64],zs:=[.int .u64 (.I 0)],bytes:=8,tag:=.int .u64 }
abbrev Yt6:TI:={ agg:=true,ks:=[.str,.int .u64],zs:=[.str (.S []),.int .u64 (.I 0)],bytes:=24,tag:=.strct [(0,9,1,false),(1,12,1,false)] }
abbrev Yt7:TI:={ agg:=true,ks:=[.oth],zs:=[.nilp],bytes:=8,tag:=.strct [(0,17,1,false)] }
abbrev Yt8:TI:={ agg:=false,ks:=[.int .i32],zs:=[.int .i32 (.I 0)],bytes:=4,tag:=.int .i32 }
abbrev Yt9:TI:={ agg:=true,ks:=[.oth,.oth,.oth,.oth,.int .i64],zs:=[.nils,.nils,.nils,.nils,.int .i64 (.I 0)],bytes:=104,tag:=.strct [(0,22,1,false),(1,23,1,false),(2,24,1,false),(3,25,1,false),(4,3,1,false)] }
abbrev Yta:TI:={ agg:=true,ks:=[.int .i64,.int .i64,.int .i64,.str,.oth,.str],zs:=[.int .i64 (.I 0),.int .i64 (.I 0),.int .i64 (.I 0),.str (.S []),.nils,.str (.S [])],bytes:=80,tag:=.strct [(0,3,1,false),(1,3,1,false),(2,3,1,false),(3,9,1,false),(4,36,1,false),(5,9,1,false)] }
abbrev Ytb:TI:={ agg:=true,ks:=[.str,.bool,.bool,.oth,.oth,.int .i64],zs:=[.str (.S []),.bool (.B false),.bool (.B false),.nils,.nils,.int .i64 (.I 0)],bytes:=80,tag:=.strct [(0,9,1,false),(1,4,1,false),(2,4,1,false),(3,48,1,false),(4,48,1,false),(5,3,1,false)] }
abbrev Ytc:TI:={ agg:=true,ks:=[.int .i64,.bool,.bool,.bool,.bool,.int .i64,.int .i64,.int .i64,.int .i64,.str,.str,.str,.oth,.oth],zs:=[.int .i64 (.I 0),.bool (.B false),.bool (.B false),.bool (.B false),.bool (.B false),.int .i64 (.I 0),.int .i64 (.I 0),.int .i64 (.I 0),.int .i64 (.I 0),.str (.S []),.str (.S []),.str (.S []),.nils,.nils],bytes:=144,tag:=.strct [(0,3,1,false),(1,4,1,false),(2,4,1,false),(3,4,1,false),(4,4,1,false),(5,3,1,false),(6,3,1,false),(7,3,1,false),(8,3,1,false),(9,9,1,false),(10,9,1,false),(11,9,1,false),(12,63,1,false),(13,64,1,false)] }
abbrev Ytd:TI:={ agg:=true,ks:=[.oth,.oth,.oth,.oth,.int .i64,.oth,.oth],zs:=[.nils,.nils,.nils,.nils,.int .i64 (.I 0),.nils,.nils],bytes:=152,tag:=.strct [(0,27,5,true),(5,31,1,false),(6,32,1,false)] }
abbrev Yte:TI:={ agg:=true,ks:=[.str,.int .i64],zs:=[.str (.S []),.int .i64 (.I 0)],bytes:=24,tag:=.strct [(0,9,1,false),(1,3,1,false)] }
abbrev Ytf:TI:={ agg:=true,ks:=[.str,.int .i64],zs:=[.str (.S []),.int .i64 (.I 0)],bytes:=24,tag:=.strct [(0,9,1,false),(1,3,1,false)],eqs:=true }
abbrev Ytg:TI:={ agg:=true,ks:=[.str,.int .i64,.bool,.bool,.bool,.bool,.int .i64,.int .i64,.int .i64,.int .i64,.str,.str,.str,.oth,.oth,.int .i64,.int .i64,.int .i64,.int .i64,.str,.oth,.str],zs:=[.str (.S []),.int .i64 (.I 0),.bool (.B false),.bool (.B false),.bool (.B false),.bool (.B false),.int .i64 (.I 0),.int .i64 (.I 0),.int .i64 (.I 0),.int .i64 (.I 0),.str (.S []),.str (.S []),.str (.S []),.nils,.nils,.int .i64 (.I 0),.int .i64 (.I 0),.int .i64 (.I 0),.int .i64 (.I 0),.str (.S []),.nils,.str (.S [])],bytes:=248,tag:=.strct [(0,9,1,false),(1,66,14,true),(15,3,1,false),(16,38,6,true)] }
abbrev Yth:TI:={ agg:=true,ks:=[.oth,.oth],zs:=[.nilp,.nils],bytes:=32,tag:=.strct [(0,157,1,false),(1,158,1,false)] }
abbrev Yti:TI:={ agg:=true,ks:=[.oth,.oth],zs:=[.nilp,.nils],bytes:=32,tag:=.strct [(0,160,2,true)] }
abbrev Ytj:TI:={ agg:=true,ks:=[.oth,.oth,.oth,.oth,.int .i64,.oth],zs:=[.nils,.nils,.nils,.nils,.int .i64 (.I 0),.nils],bytes:=128,tag:=.strct [(0,27,5,true),(5,32,1,false)] }
abbrev Ytk:TI:={ agg:=true,ks:=[.str,.bool,.bool,.oth,.oth,.int .i64,.oth],zs:=[.str (.S []),.bool (.B false),.bool (.B false),.nils,.nils,.int .i64 (.I 0),.nils],bytes:=104,tag:=.strct [(0,50,6,true),(6,42,1,false)] }
abbrev Ytl:TI:={ agg:=true,ks:=[.int .u8,.int .u8],zs:=[.int .u8 (.I 0),.int .u8 (.I 0)],bytes:=2,tag:=.strct [(0,5,1,false),(1,5,1,false)] }
abbrev Ytm:TI:={ agg:=true,ks:=[.oth,.oth,.oth,.str],zs:=[.nilp,.nilp,.nilp,.str (.S [])],bytes:=40,tag:=.strct [(0,17,1,false),(1,17,1,false),(2,17,1,false),(3,9,1,false)] }
def sxT:Tab:=[
 (2,Yt1),
 (3,Yt1),
 (4,{ agg:=false,ks:=[.bool],zs:=[.bool (.B false)],bytes:=1,tag:=.bool }),
 (5,Yt2),
 (6,Yt2),
 (7,Yt3),
 (8,Yt3),
 (9,Yt4),
 (10,Yt4),
 (11,Yt4),
 (12,Yt5),
 (13,Yt6),
 (14,Yt6),
 (15,Yp 356),
 (16,Yp 359),
 (17,Yp 366),
 (18,Yt7),
 (19,Yt7),
 (21,Yt8),
 (22,Ys 95),
 (23,Ys 107),
 (24,Ys 50),
 (25,Ys 97),
 (26,Yt9),
 (27,Yt9),
 (28,{ agg:=true,ks:=[.str,.int .i64,.str],zs:=[.str (.S []),.int .i64 (.I 0),.str (.S [])],bytes:=40,tag:=.strct [(0,9,1,false),(1,3,1,false),(2,9,1,false)] }),
 (29,{ agg:=true,ks:=[.str,.int .i64,.str],zs:=[.str (.S []),.int .i64 (.I 0),.str (.S [])],bytes:=40,tag:=.strct [(0,9,1,false),(1,3,1,false),(2,9,1,false)],eqs:=true }),
 (31,Ys 80),
 (32,Ys 111),
 (33,Yt1),
 (36,Ys 121),
 (37,Yta),
 (38,Yta),
 (42,Ys 66),
 (48,Ys 148),
 (49,Ytb),
 (50,Ytb),
 (53,Ys 29),
 (54,Ys 32),
 (63,Ys 105),
 (64,Ys 3),
 (65,Ytc),
 (66,Ytc),
 (76,Yp 82),
 (79,{ agg:=true,ks:=[.str,.str],zs:=[.str (.S []),.str (.S [])],bytes:=32,tag:=.strct [(0,9,1,false),(1,9,1,false)] }),
 (80,{ agg:=true,ks:=[.str,.str],zs:=[.str (.S []),.str (.S [])],bytes:=32,tag:=.strct [(0,9,1,false),(1,9,1,false)],eqs:=true }),
 (81,Ytd),
 (82,Ytd),
 (84,Yp 86),
 (85,{ agg:=true,ks:=[.str,.bool],zs:=[.str (.S []),.bool (.B false)],bytes:=24,tag:=.strct [(0,9,1,false),(1,4,1,false)] }),
 (86,{ agg:=true,ks:=[.str,.bool],zs:=[.str (.S []),.bool (.B false)],bytes:=24,tag:=.strct [(0,9,1,false),(1,4,1,false)],eqs:=true }),
 (88,Yt5),
 (94,{ agg:=true,ks:=[.str,.str,.int .i64],zs:=[.str (.S []),.str (.S []),.int .i64 (.I 0)],bytes:=40,tag:=.strct [(0,9,1,false),(1,9,1,false),(2,3,1,false)] }),
 (95,{ agg:=true,ks:=[.str,.str,.int .i64],zs:=[.str (.S []),.str (.S []),.int .i64 (.I 0)],bytes:=40,tag:=.strct [(0,9,1,false),(1,9,1,false),(2,3,1,false)],eqs:=true }),
 (96,{ agg:=true,ks:=[.int .i64,.str,.str,.int .i64],zs:=[.int .i64 (.I 0),.str (.S []),.str (.S []),.int .i64 (.I 0)],bytes:=48,tag:=.strct [(0,3,1,false),(1,9,1,false),(2,9,1,false),(3,3,1,false)] }),
 (97,{ agg:=true,ks:=[.int .i64,.str,.str,.int .i64],zs:=[.int .i64 (.I 0),.str (.S []),.str (.S []),.int .i64 (.I 0)],bytes:=48,tag:=.strct [(0,3,1,false),(1,9,1,false),(2,9,1,false),(3,3,1,false)],eqs:=true }),
 (104,Yte),
 (105,Ytf),
 (106,{ agg:=true,ks:=[.str,.str,.int .i64],zs:=[.str (.S []),.str (.S []),.int .i64 (.I 0)],bytes:=40,tag:=.strct [(0,9,1,false),(1,105,2,true)] }),
 (107,{ agg:=true,ks:=[.str,.str,.int .i64],zs:=[.str (.S []),.str (.S []),.int .i64 (.I 0)],bytes:=40,tag:=.strct [(0,9,1,false),(1,105,2,true)],eqs:=true }),
 (110,Ytg),
 (111,Ytg),
 (120,{ agg:=true,ks:=[.int .i64,.str],zs:=[.int .i64 (.I 0),.str (.S [])],bytes:=24,tag:=.strct [(0,3,1,false),(1,9,1,false)] }),
 (121,{ agg:=true,ks:=[.int .i64,.str],zs:=[.int .i64 (.I 0),.str (.S [])],bytes:=24,tag:=.strct [(0,3,1,false),(1,9,1,false)],eqs:=true }),
 (147,{ agg:=true,ks:=[.int .i64,.str,.str],zs:=[.int .i64 (.I 0),.str (.S []),.str (.S [])],bytes:=40,tag:=.strct [(0,3,1,false),(1,9,1,false),(2,9,1,false)] }),
 (148,{ agg:=true,ks:=[.int .i64,.str,.str],zs:=[.int .i64 (.I 0),.str (.S []),.str (.S [])],bytes:=40,tag:=.strct [(0,3,1,false),(1,9,1,false),(2,9,1,false)],eqs:=true }),
 (156,Yp 162),
 (157,Yp 160),
 (158,Ys 5),
 (159,Yth),
 (160,Yth),
 (161,Yti),
 (162,Yti),
 (169,Ys 124),
 (192,Yp 194),
 (193,{ agg:=true,ks:=[.str,.int .i64,.bool],zs:=[.str (.S []),.int .i64 (.I 0),.bool (.B false)],bytes:=32,tag:=.strct [(0,9,1,false),(1,3,1,false),(2,4,1,false)] }),
 (194,{ agg:=true,ks:=[.str,.int .i64,.bool],zs:=[.str (.S []),.int .i64 (.I 0),.bool (.B false)],bytes:=32,tag:=.strct [(0,9,1,false),(1,3,1,false),(2,4,1,false)],eqs:=true }),
 (196,Yp 66),
 (197,Ys 9),
 (207,Yp 5),
 (216,Yp 229),
 (228,Ytj),
 (229,Ytj),
 (255,Ys 258),
 (257,Yte),
 (258,Ytf),
 (264,Yp 268),
 (267,Ytk),
 (268,Ytk),
 (289,{ agg:=false,ks:=[.oth],zs:=[.nilm],bytes:=8,tag:=.other }),
 (304,Yp 278),
 (325,Yt1),
 (332,{ agg:=false,ks:=[.int .u32],zs:=[.int .u32 (.I 0)],bytes:=4,tag:=.int .u32 }),
 (334,Yt5),
 (340,Yt5),
 (344,Yp 3),
 (348,Ytl),
 (349,Ytl),
 (352,Yp 340),
 (355,Ytm),
 (356,Ytm),
 (360,Yt2),
 (361,Yt2),
 (363,Yt8),
 (364,Yt8)]
noncomputable def sxE:Env:=⟨sxT,[(0,[]),(34,[27,31,32,33]),(39,[38,33]),(43,[42,9,33]),(55,[27,54,33]),(61,[9,33]),(92,[66,3,33]),(128,[3,4]),(142,[3,33]),(145,[66,33]),(183,[27,32,33]),(187,[27,33]),(190,[3,3,33]),(204,[3,203]),(208,[3,9]),(214,[27,32]),(232,[50,42]),(238,[9,3,33]),(248,[25,33]),(252,[22,33]),(260,[25,25]),(269,[23,33]),(279,[278,4]),(316,[21,3]),(326,[3,325]),(336,[332,332]),(353,[3,3])],[3,4,5,6,7,8,9,10,11,12,13,14,15,16,17,18,19,20,21,22,23,24,25,26,27,28,29,30,31,32,33,34,35,36,37,38,39,40,41,42,43,44,45,46,47,48,49,50,51,52,53,54,55,56,57,58,59,60,61,62,63,64,65,66,67,68,69,70,71,72,73,74,75,76,77,78,79,80,81,82,83,84,85,86,87,88,89,90,91,92,93,94,95,96,97,98,99,100,101,102,103,104,105,106,107,108,109,110,111,112,113,114,115,116,117,118,119,120,121,122,123,124,125,126,127,128,129,130,131,132,133,134,135,136,137,138,139,140,141,142,143,144,145,146,147,148,149,150,151,152,153,154,155,156,157,158,159,160,161,162,163,164,165,166,167,168,169,170,171,172,173,174,175,176,177,178,179,180,181,183,184,185,186,187,188,189,190,191,192,193,194,195,196,198,199,200,201,203,204,205,206,207,208,209,210,211,212,213,214,215,216,217,218,219,220,221,222,223,224,225,226,227,228,229,230,231,232,233,234,235,236,237,238,239,240,241,242,243,244,245,246,247,248,249,250,252,253,254,255,256,257,258,259,260,261,262,263,264,265,266,268,269,270,271,272,273,274,275,277,278,279,280,281,283,284,285,286,288,289,291,293,294,295,296,297,298,299,300,301,302,303,304,305,306,307,308,309,310,312,313,314,315,316,317,318,319,320,321,322,323,345],[31,32,77,78,79,123,158,164,195,210,212,218,219,246,247,256,274,291],[158,164,195,219,246,247,256,274],[105],[(46,Tryz.f46),(67,Tryz.f67),(68,Tryz.f68),(69,Tryz.f69),(71,Tryz.f71),(72,Tryz.f72),(76,Tryz.f76),(80,Tryz.f80),(81,Tryz.f81),(82,Tryz.f82),(98,Tryz.f98),(112,Tryz.f112),(113,Tryz.f113),(114,Tryz.f114),(115,Tryz.f115),(116,Tryz.f116),(117,Tryz.f117),(119,Tryz.f119),(120,Tryz.f120),(121,Tryz.f121),(125,Tryz.f125),(128,Tryz.f128),(129,Tryz.f129),(140,Tryz.f140),(142,Tryz.f142),(144,Tryz.f144),(145,Tryz.f145),(146,Tryz.f146),(152,Tryz.f152),(153,Tryz.f153),(154,Tryz.f154),(156,Tryz.f156),(157,Tryz.f157),(159,Tryz.f159),(161,Tryz.f161),(163,Tryz.f163),(169,Tryz.f169),(170,Tryz.f170),(171,Tryz.f171),(174,Tryz.f174),(175,Tryz.f175),(183,Tryz.f183),(200,Tryz.f200),(201,Tryz.f201),(205,Tryz.f205),(206,Tryz.f206),(211,Tryz.f211),(214,Tryz.f214),(215,Tryz.f215),(221,Tryz.f221),(222,Tryz.f222),(223,Tryz.f223),(227,Tryz.f227),(228,Tryz.f228),(229,Tryz.f229),(230,Tryz.f230),(231,Tryz.f231),(238,Tryz.f238),(241,Tryz.f241),(242,Tryz.f242),(245,Tryz.f245),(253,Tryz.f253),(254,Tryz.f254),(255,Tryz.f255),(257,Tryz.f257),(258,Tryz.f258),(259,Tryz.f259),(260,Tryz.f260),(270,Tryz.f270),(271,Tryz.f271),(272,Tryz.f272),(273,Tryz.f273),(284,Tryz.f284)],[],[9,12,17,22,31,33,124,126,127,154,155,160,162,185,186,187,188,189,191,192,193,196],[95,107,1082050,1082097]⟩
theorem sxE_check:sxE.check Tryz.prog=true:=by kernel_rfl
theorem sxE_inl:∀p∈sxE.inl,Tryz.prog.funcs[p.1]?=some p.2:=qy2.2 ⟨Tryz.func46,qy2.2 ⟨Tryz.func67,qy2.2 ⟨Tryz.func68,qy2.2 ⟨Tryz.func69,qy2.2 ⟨Tryz.func71,qy2.2 ⟨Tryz.func72,qy2.2 ⟨Tryz.func76,qy2.2 ⟨Tryz.func80,qy2.2 ⟨Tryz.func81,qy2.2 ⟨Tryz.func82,qy2.2 ⟨Tryz.func98,qy2.2 ⟨Tryz.func112,qy2.2 ⟨Tryz.func113,qy2.2 ⟨Tryz.func114,qy2.2 ⟨Tryz.func115,qy2.2 ⟨Tryz.func116,qy2.2 ⟨Tryz.func117,qy2.2 ⟨Tryz.func119,qy2.2 ⟨Tryz.func120,qy2.2 ⟨Tryz.func121,qy2.2 ⟨Tryz.func125,qy2.2 ⟨Tryz.func128,qy2.2 ⟨Tryz.func129,qy2.2 ⟨Tryz.func140,qy2.2 ⟨Tryz.func142,qy2.2 ⟨Tryz.func144,qy2.2 ⟨Tryz.func145,qy2.2 ⟨Tryz.func146,qy2.2 ⟨Tryz.func152,qy2.2 ⟨Tryz.func153,qy2.2 ⟨Tryz.func154,qy2.2 ⟨Tryz.func156,qy2.2 ⟨Tryz.func157,qy2.2 ⟨Tryz.func159,qy2.2 ⟨Tryz.func161,qy2.2 ⟨Tryz.func163,qy2.2 ⟨Tryz.func169,qy2.2 ⟨Tryz.func170,qy2.2 ⟨Tryz.func171,qy2.2 ⟨Tryz.func174,qy2.2 ⟨Tryz.func175,qy2.2 ⟨Tryz.func183,qy2.2 ⟨Tryz.func200,qy2.2 ⟨Tryz.func201,qy2.2 ⟨Tryz.func205,qy2.2 ⟨Tryz.func206,qy2.2 ⟨Tryz.func211,qy2.2 ⟨Tryz.func214,qy2.2 ⟨Tryz.func215,qy2.2 ⟨Tryz.func221,qy2.2 ⟨Tryz.func222,qy2.2 ⟨Tryz.func223,qy2.2 ⟨Tryz.func227,qy2.2 ⟨Tryz.func228,qy2.2 ⟨Tryz.func229,qy2.2 ⟨Tryz.func230,qy2.2 ⟨Tryz.func231,qy2.2 ⟨Tryz.func238,qy2.2 ⟨Tryz.func241,qy2.2 ⟨Tryz.func242,qy2.2 ⟨Tryz.func245,qy2.2 ⟨Tryz.func253,qy2.2 ⟨Tryz.func254,qy2.2 ⟨Tryz.func255,qy2.2 ⟨Tryz.func257,qy2.2 ⟨Tryz.func258,qy2.2 ⟨Tryz.func259,qy2.2 ⟨Tryz.func260,qy2.2 ⟨Tryz.func270,qy2.2 ⟨Tryz.func271,qy2.2 ⟨Tryz.func272,qy2.2 ⟨Tryz.func273,qy2.2 ⟨Tryz.func284,qy5 _⟩⟩⟩⟩⟩⟩⟩⟩⟩⟩⟩⟩⟩⟩⟩⟩⟩⟩⟩⟩⟩⟩⟩⟩⟩⟩⟩⟩⟩⟩⟩⟩⟩⟩⟩⟩⟩⟩⟩⟩⟩⟩⟩⟩⟩⟩⟩⟩⟩⟩⟩⟩⟩⟩⟩⟩⟩⟩⟩⟩⟩⟩⟩⟩⟩⟩⟩⟩⟩⟩⟩⟩⟩
theorem sxE_ok:EnvOK Tryz.prog sxE:=Env.ok sxE_check sxE_inl
abbrev Va(n:Nat):Sc:=.val (.var n)
abbrev Vi(n:Nat):Sc:=.int .i64 (.var n)
abbrev Vs(n:Nat):Sc:=.str (.var n)
abbrev Vb(n:Nat):Sc:=.bool (.var n)
abbrev Vk:Kd:=.int .i64
abbrev Vq(l:List Sc):SV:=.cv (false,l)
abbrev Cc(l:List Sc):SV:=.cv (true,l)
abbrev Xk:=X.consI .i64
abbrev Sh:=Sc.int .i64
abbrev Ts:=Tree.callP (.B true)
abbrev Tt(e:X)(t:Tree):Tree:=.need (.le (.I (-9223372036854775808)) e) (.need (.le e (.I 9223372036854775807)) t)
abbrev Ta:=Tree.need
abbrev Tb:=Tree.ite
abbrev Tc:=Tree.bindN
abbrev Td:=Tree.bindV
abbrev Te:=Tree.callM
abbrev Tf:=Tree.ret
abbrev Th:=Tree.back
abbrev Ti:=Tree.loop
abbrev Tj:=Tree.join
abbrev Tk:=Tree.jump
abbrev Tm:=Tree.both
abbrev Tn:=Tree.pack
abbrev To:=Tree.letV
abbrev Tp:=Tree.bindO
abbrev Tq:=Tree.callP
abbrev Tr:=Tree.openR
abbrev Xa:=X.add
abbrev Xb:=X.le
abbrev Xc:=X.lt
abbrev Xd:=X.rlen
abbrev Xe:=X.not
abbrev Xf:=X.and
abbrev Xg:=X.eqI
abbrev Xh:=X.rS
abbrev Xi:=X.rI
abbrev Xj:=X.snocR
abbrev Xm:=X.consB
abbrev Xn:=X.consS
abbrev Xo:=X.nilR
abbrev Xp:=X.or
abbrev Xq:=X.len
abbrev Xr:=X.rB
abbrev Xs:=X.rV
abbrev Xt:=X.consV
abbrev Xu:=X.nilS
abbrev Xv:=X.takeR
abbrev Xw:=X.dropR
abbrev Xx:=X.catR
abbrev Xy:=X.setR
abbrev Xz:=X.eqS
abbrev X1:=X.nilL
abbrev X2:=X.sub
abbrev X3:=X.I
abbrev X4:=X.B
abbrev X5:=X.S
abbrev X6:=X.var
abbrev X7:=X.mul
abbrev X8:=X.ite
abbrev Ea:=Ent.cells
abbrev Eb:=Ent.row
abbrev Ec:=Ent.rd
abbrev Ed:=Ent.st
abbrev Sa:=Sc.int
abbrev Sb:=Sc.bool
abbrev Sd:=Sc.str
abbrev Se:=Sc.val
abbrev Sf:=Sc.nils
abbrev Sg:=Sc.ptr
abbrev Ca:=SV.cv
abbrev Cb:=SV.tup
abbrev Ka:=Kd.str
abbrev Kb:=Kd.bool
abbrev Kc:=Kd.oth
abbrev Kd0:=Kd.int
abbrev V29:=X6 29
abbrev J2:=[Vk,Ka,Ka]
abbrev V31:=X6 31
abbrev J4:=Eb 30 148 J2 V31
abbrev V34:=X6 34
abbrev J6:=[Vk,Kb,Kb,Kb,Kb,Vk,Vk,Vk,Vk,Ka,Ka,Ka,Kc,Kc]
abbrev J7:=Eb 21 148 J2 Xo
abbrev V25:=X6 25
abbrev V26:=X6 26
abbrev V27:=X6 27
abbrev V28:=X6 28
abbrev V30:=X6 30
abbrev V32:=X6 32
abbrev V33:=X6 33
abbrev Jf:=Ea 20 268 [Vs 25,Vb 26,Vb 27,Va 28,Va 30,Vi 32,Va 33]
abbrev V0:=X6 0
abbrev V1:=X6 1
abbrev V2:=X6 2
abbrev V16:=X6 16
abbrev V18:=X6 18
abbrev V7:=X6 7
abbrev Jm:=Ea 15 50 [Vs 0,Vb 1,Vb 2,Va 16,Va 18,Vi 7]
abbrev Jn:=Ea 14 50 [Vs 0,Vb 1,Vb 2,Va 16,Va 18,Vi 7]
abbrev V3:=X6 3
abbrev V5:=X6 5
abbrev Jq:=Ea 13 50 [Vs 0,Vb 1,Vb 2,Va 3,Va 5,Vi 7]
abbrev Jr:=Eb 12 66 J6 Xo
abbrev V24:=X6 24
abbrev V4:=X6 4
abbrev V6:=X6 6
abbrev Jv:=[Ec 3 J2 V4,Ec 5 J2 V6]
abbrev Jw:=Ea 9 50 [Vs 0,Vb 1,Vb 2,Va 3,Va 5,Vi 7]::Jv
abbrev Jx:=Ea 10 3 [Vi 24]::Jw
abbrev V19:=X6 19
abbrev Jz:=Eb 18 148 J2 V19
abbrev V17:=X6 17
abbrev J11:=Eb 16 148 J2 V17
abbrev N12:=X3 0
abbrev J13:=Ea 11 50 [Sd (X5 []),Sb (X4 false),Sb (X4 false),Sf,Sf,Sh N12]
abbrev J14:=J7::Ea 20 268 [Vs 0,Vb 1,Vb 2,Va 16,Va 18,Vi 7,Sf]::Jz::J11::Jm::Jn::Jq::Jr::J13::Jx
abbrev V22:=X6 22
abbrev N16:=X3 1
abbrev V23:=X6 23
abbrev N18:=X3 9223372036854775807
abbrev N19:=X3 (-9223372036854775808)
abbrev V35:=X6 35
abbrev J1b:=Eb 34 148 J2 V35
abbrev V37:=X6 37
abbrev J1d:=Eb 36 148 J2 V37
abbrev V40:=X6 40
abbrev J1f:=Ea 25 148 [Sh (Xi V17 V23 0),Sd (Xh V17 V23 1),Sd (Xh V17 V23 2)]
abbrev V36:=X6 36
abbrev V38:=X6 38
abbrev V39:=X6 39
abbrev J1j:=Ea 20 268 [Vs 31,Vb 32,Vb 33,Va 34,Va 36,Vi 38,Va 39]
abbrev J1k:=Xn (X5 []) X1
abbrev J1l:X:=.clrR V28 V26 (Xk N12 (Xn (X5 []) J1k))
abbrev J1m:=Eb 29 148 J2 V30
abbrev J1n:=Eb 31 148 J2 V32
abbrev J1o:=Ea 20 268 [Vs 26,Vb 27,Vb 28,Va 29,Va 31,Vi 33,Va 34]
abbrev N1p:=X3 (-1)
abbrev V8:=X6 8
abbrev J1r:=Ea 14 50 [Vs 0,Vb 1,Vb 2,Va 3,Va 5,Vi 7]
abbrev J1s:=Ea 15 50 [Sd (X5 []),Sb (X4 false),Sb (X4 false),Sf,Sf,Sh N12]::J1r::Jq::Jr::J13::Ea 10 3 [Vi 8]::Jw
abbrev J1t:=Te 123 [Vq [Va 3]] J1s [] [] [] [J11] (Vq [Va 16]) 2 (Te 123 [Vq [Va 5]] (J11::J1s) [] [] [] [Jz] (Vq [Va 18]) 2 (Tc (To Xu (Ti [N12,N12,V8] (Tb (Xc V23 (Xd V17)) (Ta (Xb N12 V23) (Tc (Tb (Xg (Xi V17 V23 0) V24) (Tb (Xg V23 N1p) (Te 224 [Vq [Sg 20 0]] (J1f::J14) [20] [16,18] [J1o] [J1m,J1n,Eb 34 66 J6 V35] (Cb []) 10 (Tf (Cb [(true,[Vs 26,Vb 27,Vb 28,Va 29,Va 31,Vi 33]),(false,[Va 34])]) (J1m::J1n::Eb 34 66 J6 V35::J1f::J7::J1o::Jm::Jn::Jq::Jr::Ea 11 50 [Vs 26,Vb 27,Vb 28,Va 29,Va 31,Vi 33]::Jx))) (Tt (Xa V23 N16) (Ti [V23,Xa V23 N16,V17,V24] (Tb (Xc V27 (Xd V28)) (Ta (Xb N12 V27) (Tc (Tc (Tb (Xe (Xg (Xi V28 V27 0) V29)) (Ta (Xb N12 V26) (Ta (Xc V26 (Xd V28)) (Tt (Xa V26 N16) (Tt (Xa V27 N16) (Th 1 [Xa V26 N16,Xa V27 N16,Xy V28 V26 (Xk (Xi V28 V27 0) (Xn (Xh V28 V27 1) (Xn (Xh V28 V27 2) X1))),V29]))))) (Tt (Xa V27 N16) (Th 1 [V26,Xa V27 N16,V28,V29])))))) (Ta (Xb N12 V26) (Ta (Xb V26 (Xd V28)) (Ta (Xb V26 (Xd J1l)) (Td (Te 224 [Vq [Sg 20 0]] (Eb 30 148 J2 (Xv J1l V26)::J1f::J7::Ea 20 268 [Vs 0,Vb 1,Vb 2,Va 30,Va 18,Vi 7,Sf]::Jz::Jm::Jn::Jq::Jr::J13::Ea 10 3 [Vi 29]::Jw) [20] [30,18] [J1j] [J1b,J1d,Eb 39 66 J6 V40] (Cb []) 10 (Tf (Cb [(true,[Vs 31,Vb 32,Vb 33,Va 34,Va 36,Vi 38]),(false,[Va 39])]) (J1b::J1d::Eb 39 66 J6 V40::J1f::J7::J1j::Jm::Jn::Jq::Jr::Ea 11 50 [Vs 31,Vb 32,Vb 33,Va 34,Va 36,Vi 38]::Ea 10 3 [Vi 29]::Jw))))))))))) (Tt (Xa V23 N16) (Th 0 [V22,Xa V23 N16,V24]))))) (Te 224 [Vq [Sg 20 0]] J14 [20] [16,18] [Jf] [Eb 28 148 J2 V29,J4,Eb 33 66 J6 V34] (Cb []) 10 (Tf (Cb [(true,[Vs 25,Vb 26,Vb 27,Va 28,Va 30,Vi 32]),(false,[Va 33])]) (Eb 28 148 J2 V29::J4::Eb 33 66 J6 V34::J7::Jf::Jm::Jn::Jq::Jr::Ea 11 50 [Vs 25,Vb 26,Vb 27,Va 28,Va 30,Vi 32]::Jx))))))))
abbrev V13:=X6 13
abbrev J1v:=Tf (Cb [(false,[Vs 13]),(false,[Sh N12])]) []
abbrev V14:=X6 14
abbrev V11:=X6 11
abbrev V10:=X6 10
abbrev J1z:=[Ka]
abbrev J20:=[Vk,Ka]
abbrev J21:=[Ec 4 J20 V5]
abbrev J22:=Ea 7 38 [Vi 0,Vi 1,Vi 2,Vs 3,Va 4,Vs 6]::J21
abbrev V9:=X6 9
abbrev V12:=X6 12
abbrev V15:=X6 15
abbrev J26:=[N12]
abbrev J27:=X4 false::J26
abbrev J28:=Ti [N12,Xd V1] (Tb (Xc V3 V4) (Tt (Xa V3 V4) (Tt (.shr .u64 (.wrap .u64 (Xa V3 V4)) N16) (Ta (Xb N12 (.shr .u64 (.wrap .u64 (Xa V3 V4)) N16)) (Ta (Xc (.shr .u64 (.wrap .u64 (Xa V3 V4)) N16) (Xd V1)) (Tc (Ts 118 [Vq [Sd (Xh V1 (.shr .u64 (.wrap .u64 (Xa V3 V4)) N16) 0)],Vq [Vs 2]] [] (Vq [Vi 6]) 1 (Tb (Xc V6 N12) (Tt (Xa (.shr .u64 (.wrap .u64 (Xa V3 V4)) N16) N16) (Th 0 [Xa (.shr .u64 (.wrap .u64 (Xa V3 V4)) N16) N16,V4])) (Th 0 [V3,.shr .u64 (.wrap .u64 (Xa V3 V4)) N16])))))))) (Tb (Xc V3 (Xd V1)) (Ta (Xb N12 V3) (Tc (Ts 118 [Vq [Sd (Xh V1 V3 0)],Vq [Vs 2]] [] (Vq [Vi 6]) 1 (Tf (Cb [(false,[Vi 3]),(false,[Sb (Xg V6 N12)])]) [])))) (Tf (Cb [(false,[Vi 3]),(false,[Sb (X4 false)])]) [])))
abbrev J29:=[Ka,Ka,Vk]
abbrev J2a:=Ec 0 J29 V1
abbrev J2b:=[J2a]
abbrev J2c:=Tf (Vq [Sh N12]) []
abbrev J2d:=Tt (Xa V3 N16) (Th 0 [V2,Xa V3 N16])
abbrev N2e:=X3 4
abbrev J2f:=Tf (Vq [Sh N2e]) []
abbrev J2g:=Tf (Vq [Vi 5]) []
abbrev J2h:=N12::J26
abbrev N2i:=X3 2
abbrev J2j:=Tf (Vq [Sh N2i]) []
abbrev J2k:=[Kd0 .u8]
abbrev J2l:=[Vk]
abbrev J2m:=[Eb 9 5 J2k V10,Ea 0 162 [Va 8,Va 9],Ec 5 J2l V6]
abbrev J2n:=Ed 14
abbrev J2o:=Eb 2 5 J2k V3
abbrev J2p:=Ea 0 162 [Va 1,Va 2]
abbrev N2q:=X3 3
abbrev J2r:=Tf (Vq [Sh N2q]) []
abbrev N2s:=X3 65535
abbrev J2t:=Tf (Vq [Sh N16]) []
abbrev J2u:=[Ka,Vk]
abbrev J2v:=[Ec 12 J2u V13,Ec 14 J2l V15]
abbrev J2w:=Xx Xo V1
abbrev J2x:=[Vk,Ka,Ka,Vk]
abbrev J2y:=[Ec 0 J2x V1]
abbrev N2z:=X3 2932031007402
abbrev N30:=X3 3518437208883
abbrev J31:=Tf (Vq [Sb (X4 true)]) []
abbrev J32:=Tt (Xa V2 N16) (Th 0 [V1,Xa V2 N16])
abbrev J33:=Tf (Vq [Sb (X4 false)]) []
abbrev N34:=X3 16777215
abbrev V20:=X6 20
abbrev J36:=Eb 17 148 J2 V18
abbrev J37:=Ea 16 50 [Vs 0,Vb 1,Vb 2,Va 17,Va 19,Vi 7]
abbrev J38:=Ea 15 50 [Vs 0,Vb 1,Vb 2,Va 17,Va 19,Vi 7]
abbrev J39:=Eb 13 66 J6 Xo
abbrev J3a:=Ea 11 50 [Vs 0,Vb 1,Vb 2,Va 3,Va 5,Vi 7]
abbrev J3b:=Eb 19 148 J2 V20::J36::J37::J38::J1r::J39::Ea 12 50 [Vs 0,Vb 1,Vb 2,Va 17,Va 19,Vi 7]::J3a::Jv
abbrev J3c:=Xk N12 (Xn V8 (Xn V9 X1))
abbrev J3d:=Eb 22 148 J2 (Xj Xo J3c)
abbrev J3e:=Ea 21 268 [Vs 24,Vb 25,Vb 26,Va 27,Va 29,Vi 31,Va 32]
abbrev J3f:=Ea 12 50 [Sd (X5 []),Sb (X4 false),Sb (X4 false),Sf,Sf,Sh N12]
abbrev J3g:=J1r::J39::J3f::J3a::Jv
abbrev N3h:=X3 6
abbrev J3i:=Xt Xu (Xt Xu X1)
abbrev J3j:=Xj Xo (Xk N2q (Xm (X4 false) (Xm (X4 false) (Xm (X4 false) (Xm (X4 false) (Xk N12 (Xk N12 (Xk N12 (Xk N12 (Xn (X5 []) (Xn V8 (Xn V9 J3i))))))))))))
abbrev N3k:=X3 977343669134
abbrev J3l:=Ea 16 50 [Sd (X5 []),Sb (X4 false),Sb (X4 false),Sf,Sf,Sh N12]::Ea 15 50 [Vs 0,Vb 1,Vb 2,Va 3,Va 5,Vi 7]::J3g
abbrev J3m:=Te 123 [Vq [Va 3]] J3l [] [] [] [J36] (Vq [Va 17]) 2 (Te 123 [Vq [Va 5]] (J36::J3l) [] [] [] [Eb 19 148 J2 V20] (Vq [Va 19]) 2 (Tc (Tb (Xf (Xg V10 N12) V1) (Td (To Xu (Ta (Xb (Xa (Xd Xo) (Xd J3j)) N3k) (Td (Tf (Cb [(true,[Vs 0,Vb 1,Vb 2,Va 17,Va 19,Vi 7]),(false,[Va 24])]) (Eb 24 66 J6 J3j::Eb 22 66 J6 J3j::Ea 21 268 [Vs 0,Vb 1,Vb 2,Va 17,Va 19,Vi 7,Va 24]::J3b)))))) (Tb (Xf (Xf (Xg V10 N16) (Xp V1 (Xe V2))) (Xc (Xd V20) N3h)) (Td (Ta (Xb (Xa (Xd V20) (Xd (Xj Xo J3c))) N30) (Td (Te 224 [Vq [Sg 21 0]] (Eb 23 148 J2 (Xj V20 J3c)::J3d::Ea 21 268 [Vs 0,Vb 1,Vb 2,Va 17,Va 23,Vi 7,Sf]::J36::J37::J38::J3g) [21] [17,23] [J3e] [Eb 27 148 J2 V28,J1m,Eb 32 66 J6 V33] (Cb []) 10 (Tf (Cb [(true,[Vs 24,Vb 25,Vb 26,Va 27,Va 29,Vi 31]),(false,[Va 32])]) (Eb 27 148 J2 V28::J1m::Eb 32 66 J6 V33::J3d::J3e::J37::J38::J1r::J39::Ea 12 50 [Vs 24,Vb 25,Vb 26,Va 27,Va 29,Vi 31]::J3a::Jv)))))) (Tf (Cb [(true,[Vs 0,Vb 1,Vb 2,Va 17,Va 19,Vi 7]),(false,[Sf])]) (Ea 21 268 [Vs 0,Vb 1,Vb 2,Va 17,Va 19,Vi 7,Sf]::J3b))))))
abbrev J3n:=Eb 5 95 J29 V6
abbrev J3o:=Eb 4 95 J29 Xo
abbrev J3p:=Eb 7 95 J29 Xo::J3n::J3o::Ea 3 9 [Vs 10]::J2b
abbrev J3q:=Xk N12 X1
abbrev J3r:=Xn (X5 []) (Xn (X5 []) J3q)
abbrev J3s:=Ea 11 95 [Sd (Xh V6 V9 0),Sd (Xh V6 V9 1),Sh (Xi V6 V9 2)]
abbrev J3t:=Ec 11 J2 V12
abbrev J3u:=[Ec 3 J2 V4,Ec 5 J2 V6,J3t,Ec 13 J2 V14]
abbrev J3v:=Ea 17 50 [Vs 8,Vb 9,Vb 10,Va 11,Va 13,Vi 15]::Ea 16 50 [Vs 0,Vb 1,Vb 2,Va 3,Va 5,Vi 7]::J3u
abbrev J3w:=Ea 8 50 [Vs 0,Vb 1,Vb 2,Va 3,Va 5,Vi 7]
abbrev J3x:=J3w::Jv
abbrev J3y:=Tf (Cb [(false,[Sh N12]),(false,[Sh (X3 5)])]) []
abbrev J3z:=[Ea 0 86 [Vs 1,Vb 2]]
abbrev N40:=X3 8
abbrev N41:=X3 9
abbrev J42:=Ea 18 196 [Sg 4 0]
abbrev J43:=Ea 17 192 [Sg 0 0]
abbrev V41:=X6 41
abbrev V42:=X6 42
abbrev V43:=X6 43
abbrev V44:=X6 44
abbrev V45:=X6 45
abbrev V46:=X6 46
abbrev V47:=X6 47
abbrev V48:=X6 48
abbrev V49:=X6 49
abbrev V50:=X6 50
abbrev V51:=X6 51
abbrev V52:=X6 52
abbrev V53:=X6 53
abbrev V54:=X6 54
abbrev V56:=X6 56
abbrev V55:=X6 55
abbrev V57:=X6 57
abbrev J4l:=[Eb 54 105 J2u V55,Eb 56 3 J2l V57]
abbrev J4m:=J42::J43::Ea 0 194 [Vs 39,Vi 40,Vb 41]::Ea 4 66 [Vi 42,Vb 43,Vb 44,Vb 45,Vb 46,Vi 47,Vi 48,Vi 49,Vi 50,Vs 51,Vs 52,Vs 53,Va 54,Va 56]::J4l
abbrev V58:=X6 58
abbrev V59:=X6 59
abbrev V60:=X6 60
abbrev V61:=X6 61
abbrev V62:=X6 62
abbrev V63:=X6 63
abbrev V64:=X6 64
abbrev V65:=X6 65
abbrev V66:=X6 66
abbrev V67:=X6 67
abbrev V68:=X6 68
abbrev V69:=X6 69
abbrev V70:=X6 70
abbrev V71:=X6 71
abbrev V72:=X6 72
abbrev V73:=X6 73
abbrev V75:=X6 75
abbrev V74:=X6 74
abbrev V76:=X6 76
abbrev J56:=[Ea 4 66 [Vi 61,Vb 62,Vb 63,Vb 64,Vb 65,Vi 66,Vi 67,Vi 68,Vi 69,Vs 70,Vs 71,Vs 72,Va 73,Va 75],Eb 73 105 J2u V74,Eb 75 3 J2l V76]
abbrev J57:=J42::J43::Ea 0 194 [Vs 58,Vi 59,Vb 60]::J56
abbrev V78:=X6 78
abbrev V79:=X6 79
abbrev V80:=X6 80
abbrev V82:=X6 82
abbrev V77:=X6 77
abbrev N5d:=X3 17592186044416
abbrev J5e:=Td (Ta (Xb (Xa (Xd V76) (Xd (Xj Xo (Xk V77 X1)))) N5d) (Td (Th 0 [V78,V79,V80,V61,V62,V63,V64,V65,V66,V67,V68,V69,V70,V71,V72,V73,V74,V82,Xj V76 (Xk V77 X1)])))
abbrev J5f:=Ea 0 194 [Vs 78,Vi 79,Vb 80]
abbrev J5g:List X:=[V39,V40,V41,V42,V43,V44,V45,V46,V47,V48,V49,V50,V51,V52,V53,V54,V55,V56,V57]
abbrev V83:=X6 83
abbrev N5i:=X3 5864062014805
abbrev V84:=X6 84
abbrev V85:=X6 85
abbrev V87:=X6 87
abbrev J5m:=Ti J5g (Tb (Xf (Xc V59 (Xq V58)) (Xe V60)) (Te 167 [Vq [Sg 0 0]] J57 [0] [] [J5f] [] (Vq [Vs 77]) 4 (Tc (Tb (Xg V61 N40) (Te 166 [Vq [Sg 0 0],Vq [Sh N16]] (Ea 81 105 [Vs 77,Sh N12]::J42::J43::J5f::J56) [0] [] [Ea 0 194 [Vs 83,Vi 84,Vb 85]] [] (Vq [Vi 82]) 4 (Td (Ta (Xb (Xa (Xd V74) (Xd (Xj Xo (Xn V77 (Xk V82 X1))))) N5i) (Td (Th 0 [V83,V84,V85,V61,V62,V63,V64,V65,V66,V67,V68,V69,V70,V71,V72,V87,Xj V74 (Xn V77 (Xk V82 X1)),V75,V76]))))) (Td (Ta (Xb (Xa (Xd V74) (Xd (Xj Xo (Xn V77 J3q)))) N5i) (Td (Th 0 [V78,V79,V80,V61,V62,V63,V64,V65,V66,V67,V68,V69,V70,V71,V72,V83,Xj V74 (Xn V77 J3q),V75,V76]))))))) (Tf (Cb []) J57))
abbrev J5n:=Ea 0 194 [Vs 59,Vi 60,Vb 61]
abbrev V21:=X6 21
abbrev J5p:List X:=[V29,V30,V31,V32,V33,V34,V35,V36,V37]
abbrev J5q:=Tk 0 (V19::V20::V21::V22::V23::V24::V25::V26::V27::V28::J5p)
abbrev J5r:=Ea 0 194 [Vs 19,Vi 20,Vb 21]
abbrev J5s:=Ea 4 66 [Vi 22,Vb 23,Vb 24,Vb 25,Vb 26,Vi 27,Vi 28,Vi 29,Vi 30,Vs 31,Vs 32,Vs 33,Va 34,Va 36]
abbrev J5t:=[Eb 34 105 J2u V35,Eb 36 3 J2l V37]
abbrev J5u:=J42::J43::J5r::J5s::J5t
abbrev J5v:List X:=[V14,V15,V16,Xu,Xo,Xu,Xo]
abbrev J5w:=Ea 0 194 [Vs 20,Vi 21,Vb 22]
abbrev J5x:=Ea 0 194 [Vs 1,Vi 2,Vb 3]
abbrev J5y:=[Ea 4 66 [Vi 5,Vb 6,Vb 7,Vb 8,Vb 9,Vi 10,Vi 11,Vi 12,Vi 13,Vs 14,Vs 15,Vs 16,Sf,Sf]]
abbrev J5z:=J42::J43::J5x::J5y
abbrev J60:=Ea 31 66 [Vi 13,Vb 14,Vb 15,Vb 16,Vb 17,Vi 18,Vi 19,Vi 20,Vi 21,Vs 22,Vs 23,Vs 24,Va 25,Va 27]
abbrev J61:=Ec 25 J2u V26
abbrev J62:=Ec 27 J2l V28
abbrev J63:=Ed 12
abbrev J64:=[J63,Eb 10 66 J6 V11,Eb 5 66 J6 V6]
abbrev J65:=Xk V13 (Xm V14 (Xm V15 (Xm V16 (Xm V17 (Xk V18 (Xk V19 (Xk V20 (Xk V21 (Xn V22 (Xn V23 (Xn V24 (Xt V25 (Xt V27 X1)))))))))))))
abbrev J66:=J3o::J2b
abbrev J67:=Xk N16 X1
abbrev J68:=J3n::J66
abbrev J69:=Xy V6 V7 (Xn (Xh V6 V7 0) (Xn V3 (Xk (Xi V6 V7 2) X1)))
abbrev N6a:=X3 200
abbrev J6b:List X:=[V5,Xa V6 N16]
abbrev J6c:=[Ec 2 J1z V3]
abbrev J6d:=Tf (Vq [Sh N3h]) []
abbrev J6e:=Xw (Xv V1 V3) N12
abbrev J6f:=Tt (Xa V19 N16) (Th 0 [V18,Xa V19 N16])
abbrev J6g:=Tf (Vq [Vi 17]) []
abbrev J6h:=Tf (Vq [Vi 4]) []
abbrev J6i:=[Eb 1 9 J1z Xo]
abbrev J6j:=Tt (Xa V5 N16) (Th 0 [V4,Xa V5 N16])
abbrev J6k:=Tf (Vq [Sb (Xf (Xf (Xb N16 (Xq V0)) (Xb (Xq V0) (X3 20))) V1)]) []
abbrev J6l:=Ea 20 66 [Vi 4,Vb 5,Vb 6,Vb 7,Vb 8,Vi 9,Vi 10,Vi 11,Vi 12,Vs 13,Vs 14,Vs 15,Va 16,Va 18]
abbrev J6m:=Ec 16 J2u V17
abbrev J6n:=[J6m,Ec 18 J2l V19]
abbrev J6o:=Ed 30::Eb 36 5 J2k V37::J6l::Ea 0 162 [Va 35,Va 36]::J6n
abbrev J6p:=Ea 38 105 [Sd (Xh V17 V34 0),Sh (Xi V17 V34 1)]
abbrev J6q:=Eb 26 5 J2k V27
abbrev J6r:=Ea 0 162 [Va 25,Va 26]::J6n
abbrev J6s:=Eb 22 5 J2k V23
abbrev J6t:=Ea 0 162 [Va 21,Va 22]::J6n
abbrev J6u:=J6l::J2o::J2p::J6n
abbrev J6v:=Tb V8 (Td (Te 139 [Vq [Sg 0 0],Vq [Sh N16],Vq [Va 21]] (Eb 21 3 J2l (Xj (Xj Xo J67) (Xk V12 X1))::J6u) [0] [2] [Ea 0 162 [Va 22,Va 23]] [Eb 23 5 J2k V24] (Cb []) 3 (Tk 0 [V22,V23,V24]))) (Td (Te 139 [Vq [Sg 0 0],Vq [Sh N16],Vq [Va 21]] (Eb 21 3 J2l (Xj (Xj Xo J3q) (Xk V12 X1))::J6u) [0] [2] [Ea 0 162 [Va 22,Va 23]] [Eb 23 5 J2k V24] (Cb []) 3 (Tk 0 [V22,V23,V24])))
abbrev J6w:=Eb 30 5 J2k V31
abbrev J6x:=Eb 28 3 J2l (Xj Xo (Xk V11 X1))
abbrev J6y:=Eb 24 3 J2l (Xj (Xj Xo (Xk N2e X1)) J3q)
abbrev J6z:=J6l::Ea 0 162 [Va 29,Va 30]::J6n
abbrev J70:=Eb 24 3 J2l (Xj (Xj Xo (Xk N2e X1)) (Xk N2i X1))
abbrev J71:=Eb 13 148 J2 V14
abbrev J72:=Ea 10 50 [Vs 0,Vb 1,Vb 2,Va 3,Va 5,Vi 7]
abbrev J73:=Ea 9 50 [Sd (X5 []),Sb (X4 false),Sb (X4 false),Sf,Sf,Sh N12]
abbrev J74:=J3f::J3a::J72::J73::J3x
abbrev J75:=Te 123 [Vq [Va 3]] J74 [] [] [] [J71] (Vq [Va 13]) 2 (Te 123 [Vq [Va 5]] (J71::J74) [] [] [] [Eb 15 148 J2 V16] (Vq [Va 15]) 2 (Tc (Tb V2 (Tf (Cc [Vs 0,Sb (X4 false),Vb 2,Sf,Sf,Vi 7]) []) (Tf (Cc [Vs 0,Sb (X4 false),Vb 2,Va 13,Va 15,Vi 7]) (Ea 17 268 [Vs 0,Sb (X4 false),Vb 2,Va 13,Va 15,Vi 7,Sf]::Eb 15 148 J2 V16::J71::Ea 12 50 [Vs 0,Vb 1,Vb 2,Va 13,Va 15,Vi 7]::Ea 11 50 [Vs 0,Vb 1,Vb 2,Va 13,Va 15,Vi 7]::J72::Ea 9 50 [Vs 0,Sb (X4 false),Vb 2,Va 13,Va 15,Vi 7]::J3x)))))
abbrev J76:=Eb 7 97 J2x V8
abbrev J77:=Eb 6 97 J2x Xo
abbrev J78:=Eb 9 97 J2x Xo::J76::J77::Ea 5 9 [Vs 12]::Ea 4 3 [Vi 13]::J2y
abbrev J79:X:=.clrR V18 V16 (Xk N12 J3r)
abbrev J7a:=Ea 15 97 [Sh (Xi V8 V11 0),Sd (Xh V8 V11 1),Sd (Xh V8 V11 2),Sh (Xi V8 V11 3)]
abbrev J7b:=Ea 14 97 [Sh (Xi V8 V11 0),Sd (Xh V8 V11 1),Sd (Xh V8 V11 2),Sh (Xi V8 V11 3)]
abbrev J7c:=Tf (Vq [Vi 14]) []
abbrev J7d:=Tf (Vq [Vi 12]) []
abbrev J7e:=Ta (Xp (Xe (Xc N12 V3)) (Xb N19 (X2 V3 N16))) (Ta (Xp (Xe (Xc N12 V3)) (Xb (X2 V3 N16) N18)) (Ta (Xp (Xe (Xc N12 V3)) (Xb N12 (X2 V3 N16))) (Ta (Xp (Xe (Xc N12 V3)) (Xc (X2 V3 N16) (Xd V1))) (Tb (Xf (Xc N12 V3) (Xp (.less (Xh V1 V3 0) (Xh V1 (X2 V3 N16) 0)) (Xz (Xh V1 V3 0) (Xh V1 (X2 V3 N16) 0)))) J2f J2d))))
abbrev J7f:=Xy V9 V7 (.consI .u8 (Xi V9 V8 0) X1)
abbrev J7g:X:=.consI .u8 (.wrap .u8 V3) X1
abbrev N7h:=X3 140737488355328
abbrev J7i:X:=.consI .u8 (.wrap .u8 V2) X1
abbrev N7j:=X3 128
abbrev J7k:X:=.consI .u8 (.wrap .u8 (.bits .or .i64 (.bits .and .i64 V2 (X3 127)) N7j)) X1
abbrev J7l:=Ea 18 268 [Vs 28,Vb 29,Vb 30,Va 31,Va 33,Vi 35,Va 36]
abbrev J7m:=Ea 13 50 [Vs 0,Vb 1,Vb 2,Va 14,Va 16,Vi 7]
abbrev J7n:=Ea 12 50 [Vs 0,Vb 1,Vb 2,Va 14,Va 16,Vi 7]
abbrev J7o:=Eb 10 66 J6 Xo
abbrev J7p:=Eb 23 148 J2 V24
abbrev J7q:=Eb 14 148 J2 V15
abbrev J7r:=Xk N2q (Xm (X4 true) (Xm (X4 false) (Xm (X4 false) (Xm (X4 false) (Xk N16 (Xk (Xi V15 V19 0) (Xk N12 (Xk N12 (Xn (X5 []) (Xn (Xh V15 V19 1) (Xn (Xh V15 V19 2) J3i)))))))))))
abbrev J7s:=Ea 13 50 [Sd (X5 []),Sb (X4 false),Sb (X4 false),Sf,Sf,Sh N12]::Ea 12 50 [Vs 0,Vb 1,Vb 2,Va 3,Va 5,Vi 7]::J3a::J7o::J73::J3x
abbrev J7t:=Te 123 [Vq [Va 3]] J7s [] [] [] [J7q] (Vq [Va 14]) 2 (Te 123 [Vq [Va 5]] (J7q::J7s) [] [] [] [J11] (Vq [Va 16]) 2 (Tc (Ti [N12,V0,X4 true,V2,V16,V17,V7,Xu,Xo] (Tb (Xc V19 (Xd V15)) (Ta (Xb N12 V19) (Tc (Tc (Td (Ta (Xb (Xa (Xd V27) (Xd (Xj Xo J7r))) N3k) (Td (Tt (Xa V19 N16) (Th 0 [Xa V19 N16,V20,V21,V22,V23,V24,V25,V31,Xj V27 J7r])))))))) (Te 224 [Vq [Sg 18 0]] [Ea 18 268 [Vs 20,Vb 21,Vb 22,Va 14,Va 23,Vi 25,Va 26],J7p,J7q,J7m,J7n,J3a,J7o,J73,J3w,Ec 3 J2 V4,Ec 5 J2 V6,Eb 26 66 J6 V27] [18] [14,23,26] [J7l] [J1n,Eb 33 148 J2 V34,Eb 36 66 J6 V37] (Cb []) 10 (Tf (Cb [(true,[Vs 28,Vb 29,Vb 30,Va 31,Va 33,Vi 35]),(false,[Va 36])]) (J1n::Eb 33 148 J2 V34::Eb 36 66 J6 V37::J7l::J7m::J7n::J3a::J7o::Ea 9 50 [Vs 28,Vb 29,Vb 30,Va 31,Va 33,Vi 35]::J3x)))))))
abbrev J7u:=Ea 14 38 [Vi 0,Vi 1,Vi 2,Vs 3,Va 15,Vs 6]
abbrev J7v:=Ea 13 38 [Vi 0,Vi 1,Vi 2,Vs 3,Va 15,Vs 6]
abbrev J7w:=[Ea 10 38 [Vi 0,Vi 1,Vi 2,Vs 3,Va 4,Vs 6],Ec 4 J20 V5,Ec 8 J1z V9]
abbrev J7x:=Ea 12 38 [Sh N12,Sh N12,Sh N12,Sd (X5 []),Sf,Sd (X5 [])]
abbrev J7y:=Xk V33 (Xn (Xh V9 V40 0) X1)
abbrev J7z:=Tk 0 [N12,N12,N12,N12,N12,N12,N12,N12,N12,N12,V15,V21,V16]
abbrev J80:X:=.clrR V25 V23 (Xk N12 J1k)
abbrev J81:List X:=[V23,Xa V24 N16,V25,V26]
abbrev J82:=Ta (Xb V10 (Xd V4)) (Td (Ts 181 [Vq [Va 14],Vq [Sh (Xi V4 V10 0)]] (Ec 14 J2 (Xw (Xv V4 V10) N12)::Ea 11 148 [Sh (Xi V4 V10 0),Sd (Xh V4 V10 1),Sd (Xh V4 V10 2)]::J3x) (Vq [Vb 15]) 1 (Tb V15 J6d (Tt (Xa V10 N16) (Th 0 [V9,Xa V10 N16])))))
abbrev J83:=Tb (Xf (Xc N12 V3) (Xe V5)) J2f J2d
abbrev J84:=Tf (Vq [Vb 6]) []
abbrev J85:=[Ka,Ka]
abbrev J86:=[Eb 2 80 J85 Xo,Ec 0 J85 V1]
abbrev J87:=Eb 22 105 J2u V23
abbrev J88:=Eb 24 3 J2l V25
abbrev J89:=Ea 6 194 [Vs 7,Vi 8,Vb 9]
abbrev J8a:=Ea 5 66 [Vi 10,Vb 11,Vb 12,Vb 13,Vb 14,Vi 15,Vi 16,Vi 17,Vi 18,Vs 19,Vs 20,Vs 21,Va 22,Va 24]
abbrev J8b:=[Ea 1 66 [Sh N12,Sb (X4 false),Sb (X4 false),Sb (X4 false),Sb (X4 false),Sh N12,Sh N12,Sh N12,Sh N12,Sd (X5 []),Sd (X5 []),Sd (X5 []),Sf,Sf]]
abbrev J8c:=J87::J88::J89::J8a::J8b
abbrev J8d:=Tf (Cb [(true,[Sh N12,Sb (X4 false),Sb (X4 false),Sb (X4 false),Sb (X4 false),Sh N12,Sh N12,Sh N12,Sh N12,Sd (X5 []),Sd (X5 []),Sd (X5 []),Sf,Sf]),(false,[Sh N16])]) []
abbrev J8e:=Tq (Xe V9) 93 [Vq [Vi 10]] [] (Vq [Vb 26]) 1 (Tq (Xe (Xp (Xp V9 (Xe V26)) (Xc N16 V15))) 49 [Cc [Vi 10,Vb 11,Vb 12,Vb 13,Vb 14,Vi 15,Vi 16,Vi 17,Vi 18,Vs 19,Vs 20,Vs 21,Va 22,Va 24]] J8c (Vq [Vs 27]) 1 (Tb (Xp (Xp (Xp V9 (Xe V26)) (Xc N16 V15)) (Xe (Xz V27 V0))) J8d (Ts 48 [Cc [Vi 10,Vb 11,Vb 12,Vb 13,Vb 14,Vi 15,Vi 16,Vi 17,Vi 18,Vs 19,Vs 20,Vs 21,Va 22,Va 24]] J8c (Vq [Vi 28]) 1 (Tb (Xe (Xg V28 N12)) (Tf (Cb [(true,[Sh N12,Sb (X4 false),Sb (X4 false),Sb (X4 false),Sb (X4 false),Sh N12,Sh N12,Sh N12,Sh N12,Sd (X5 []),Sd (X5 []),Sd (X5 []),Sf,Sf]),(false,[Vi 28])]) []) (Tf (Cb [(true,[Vi 10,Vb 11,Vb 12,Vb 13,Vb 14,Vi 15,Vi 16,Vi 17,Vi 18,Vs 19,Vs 20,Vs 21,Va 22,Va 24]),(false,[Sh N12])]) [J87,J88,J89,J8a,Ea 1 66 [Vi 10,Vb 11,Vb 12,Vb 13,Vb 14,Vi 15,Vi 16,Vi 17,Vi 18,Vs 19,Vs 20,Vs 21,Va 22,Va 24]])))))
abbrev J8f:=Ea 6 194 [Vs 0,Sh (Xa N16 V3),Sb (X4 false)]
abbrev J8g:=Xk V2 (Xn V3 (Xn V4 (Xk V5 X1)))
abbrev J8h:=Eb 7 97 J2x Xo::Ea 6 97 [Vi 2,Vs 3,Vs 4,Vi 5]::J2y
abbrev J8i:=Eb 8 97 J2x (Xj Xo J8g)::J8h
abbrev J8j:=Eb 11 97 J2x (Xj V10 J8g)::J8i
abbrev J8k:=Eb 11 97 J2x (Xj V9 J8g)::Eb 10 97 J2x (Xj Xo J8g)::J8h
abbrev J8l:=Te 212 [Vq [Va 0],Vq [Vi 2],Vq [Vs 3]] J8h [] [] [] [Eb 8 97 J2x V9] (Vq [Va 8]) 2 (Td (Ta (Xb (Xa (Xd V9) (Xd (Xj Xo J8g))) N2z) (Td (Tb (Xc (X3 12) (Xd (Xj V9 J8g))) (To Xu (Tf (Cb [(false,[Va 12]),(false,[Sh N2i])]) (Eb 12 97 J2x Xo::J8k))) (Tf (Cb [(false,[Va 11]),(false,[Sh N12])]) J8k)))))
abbrev J8m:=Ea 16 66 [Vi 0,Vb 1,Vb 2,Vb 3,Vb 4,Vi 5,Vi 6,Vi 7,Vi 8,Vs 9,Vs 10,Vs 11,Va 12,Va 14]::J2v
abbrev J8n:=Ts 136 [Cc [Vi 0,Vb 1,Vb 2,Vb 3,Vb 4,Vi 5,Vi 6,Vi 7,Vi 8,Vs 9,Vs 10,Vs 11,Va 12,Va 14]] J8m (Vq [Vi 17]) 1 J6g
abbrev J8o:=Ea 0 194 [Vs 34,Vi 35,Vb 36]
abbrev J8p:=Ea 0 194 [Vs 30,Vi 31,Vb 32]
abbrev J8q:=Ea 0 194 [Vs 26,Vi 27,Vb 28]
abbrev J8r:=Ea 0 194 [Vs 22,Vi 23,Vb 24]
abbrev J8s:=Ea 0 194 [Vs 18,Vi 19,Vb 20]
abbrev J8t:=[Ea 0 86 [Vs 5,Vb 6]]
abbrev J8u:=Tf (Cb [(false,[Sh N12]),(false,[Sh N40])]) []
abbrev J8v:=[Eb 4 148 J2 V5,Eb 6 148 J2 V7,Eb 9 66 J6 V10,Ea 0 268 [Vs 1,Vb 2,Vb 3,Va 4,Va 6,Vi 8,Va 9]]
abbrev J8w:=Xk N2q (Xm (X4 false) (Xm (X4 false) (Xm (X4 false) (Xm (X4 false) (Xk N16 (Xk V12 (Xk N12 (Xk N12 (Xn (X5 []) (Xn (Xh V7 N12 1) (Xn (Xh V7 N12 2) J3i)))))))))))
abbrev J8x:=Ea 17 148 [Vi 12,Sd (Xh V7 N12 1),Sd (Xh V7 N12 2)]
abbrev J8y:=Xk V12 (Xn (Xh V7 N12 1) (Xn (Xh V7 N12 2) X1))
abbrev J8z:=Eb 15 148 J2 (Xj Xo J8y)
abbrev J90:=Ea 11 148 [Vi 12,Sd (Xh V7 N12 1),Sd (Xh V7 N12 2)]
abbrev J91:=[Eb 28 66 J6 V29,Eb 18 66 J6 (Xj Xo J8w),J8x,J7p,J8z,Ec 25 J2 V26,J90,Ec 6 J2 V7,Ea 0 268 [Vs 20,Vb 21,Vb 22,Va 23,Va 25,Vi 27,Va 28]]
abbrev J92:=Xk V31 (Xn (Xh V26 N12 1) (Xn (Xh V26 N12 2) X1))
abbrev J93:=Xk N2q (Xm (X4 false) (Xm (X4 false) (Xm (X4 false) (Xm (X4 false) (Xk N16 (Xk V31 (Xk N12 (Xk N12 (Xn (X5 []) (Xn (Xh V26 N12 1) (Xn (Xh V26 N12 2) J3i)))))))))))
abbrev J94:=Ec 16 J20 V17
abbrev J95:=Ea 9 38 [Sh (.bits .and .i64 (.shr .i64 V3 N2e) N2q),Vi 6,Vi 10,Vs 13,Va 16,Sd (X5 [])]
abbrev J96:=Ea 2 86 [Vs 18,Vb 19]
abbrev J97:=[Ea 1 38 [Sh N12,Sh N12,Sh N12,Sd (X5 []),Sf,Sd (X5 [])]]
abbrev J98:=Tf (Cb [(true,[Sh N12,Sh N12,Sh N12,Sd (X5 []),Sf,Sd (X5 [])]),(false,[Sh N16])]) []
abbrev J99:=Ea 9 38 [Sh (.bits .and .i64 (.shr .i64 V3 N2e) N2q),Vi 6,Vi 10,Vs 13,Va 16,Vs 21]
abbrev J9a:=Ea 2 86 [Vs 21,Sb (Xp V22 (Xz V21 (X5 [])))]
abbrev J9b:=Tf (Vq [Sh (.bits .or .i64 (.shl .i64 V0 N2e) N2i)]) []
abbrev J9c:=Tb V2 (Tf (Vq [Sh (.bits .or .i64 (.shl .i64 V0 N2e) (.bits .or .i64 (.bits .or .i64 N12 (.shl .i64 V5 N16)) N16))]) []) (Tf (Vq [Sh (.bits .or .i64 (.shl .i64 V0 N2e) (.bits .or .i64 (.bits .or .i64 N12 (.shl .i64 V5 N16)) N12))]) [])
abbrev J9d:=Tb V2 (Tf (Vq [Sh (.bits .or .i64 (.shl .i64 V0 N2e) (.bits .or .i64 (.bits .or .i64 N40 (.shl .i64 V5 N16)) N16))]) []) (Tf (Vq [Sh (.bits .or .i64 (.shl .i64 V0 N2e) (.bits .or .i64 (.bits .or .i64 N40 (.shl .i64 V5 N16)) N12))]) [])
abbrev J9e:=Tb V1 J9d J9c
abbrev J9f:=Eb 4 97 J2x Xo::Eb 3 97 J2x Xo::J2y
abbrev J9g:=Xy V11 V10 (Xk (Xi V11 V10 0) (Xn (Xh V11 V10 1) (Xn (Xh V11 V10 2) (Xk (.bits .and .i64 (Xa (Xi V11 V10 3) N16) N34) X1))))
abbrev J9h:=Xk (Xi J9g V10 0) (Xn (Xh J9g V10 1) (Xn (Xh J9g V10 2) (Xk (Xi J9g V10 3) X1)))
abbrev J9i:=Tf (Cb [(false,[Sh N12]),(false,[Sh N12]),(false,[Sh N16])]) []
abbrev J9j:=Ec 2 J29 V3
abbrev J9k:=[Eb 2 121 J20 Xo,Ec 0 J20 V1]
abbrev J9l:=Eb 3 121 J20 Xo
abbrev J9m:=Tf (Cc [Vi 0,Vb 1,Vb 2,Vb 3,Vb 4,Vi 5,Sh N12,Vi 7,Vi 8,Vs 9,Vs 10,Vs 11,Sf,Va 14]) (Ea 17 66 [Vi 0,Vb 1,Vb 2,Vb 3,Vb 4,Vi 5,Sh N12,Vi 7,Vi 8,Vs 9,Vs 10,Vs 11,Sf,Va 14]::Ea 16 66 [Vi 0,Vb 1,Vb 2,Vb 3,Vb 4,Vi 5,Sh N12,Vi 7,Vi 8,Vs 9,Vs 10,Vs 11,Sf,Va 14]::J2v)
abbrev J9n:=Tf (Cc [Vi 0,Vb 1,Vb 2,Vb 3,Vb 4,Vi 5,Sh N12,Vi 7,Vi 8,Vs 9,Vs 10,Vs 11,Va 12,Va 14]) (Ea 17 66 [Vi 0,Vb 1,Vb 2,Vb 3,Vb 4,Vi 5,Sh N12,Vi 7,Vi 8,Vs 9,Vs 10,Vs 11,Va 12,Va 14]::Ea 16 66 [Vi 0,Vb 1,Vb 2,Vb 3,Vb 4,Vi 5,Sh N12,Vi 7,Vi 8,Vs 9,Vs 10,Vs 11,Va 12,Va 14]::J2v)
abbrev J9o:=Ec 30 J2u V31::Ec 32 J2l V33::J8m
abbrev J9p:=Ts 99 [Cc [Vi 0,Vb 1,Vb 2,Vb 3,Vb 4,Vi 5,Vi 6,Vi 7,Vi 8,Vs 9,Vs 10,Vs 11,Va 12,Va 14]] J9o (Vq [Vi 36]) 1 (Tf (Vq [Vi 36]) [])
abbrev J9q:=Ts 99 [Cc [Vi 0,Vb 1,Vb 2,Vb 3,Vb 4,Vi 5,Vi 6,Vi 7,Vi 8,Vs 9,Vs 10,Vs 11,Va 12,Va 14]] J9o (Vq [Vi 37]) 1 (Tf (Vq [Vi 37]) [])
abbrev J9r:=Ea 9 107 [Vs 2,Vs 3,Vi 4]
abbrev J9s:=Eb 6 107 J29 Xo::Ea 5 107 [Vs 2,Vs 3,Vi 4]::J2b
abbrev J9t:=Xn V2 (Xn V3 (Xk V4 X1))
abbrev J9u:=J9r::Eb 7 107 J29 V8::J9s
abbrev J9v:=Eb 14 107 J29 V15
abbrev J9w:=Ea 17 162 [Va 24,Va 25]
abbrev J9x:=Ea 17 162 [Va 18,Va 19]
abbrev J9y:=Eb 19 5 J2k V20::J9x::J8m
abbrev J9z:=Eb 5 121 J20 V6
abbrev Ja0:=[J9z,J9l,Ea 0 86 [Vs 8,Vb 9]]
abbrev Ja1:=Xk (Xa V7 V13) (Xn V19 X1)
abbrev Ja2:=Xw (Xv V1 (Xd V1)) N16
abbrev Ja3:=Xw (Xv V3 (Xd V3)) N16
abbrev Ja4:=Ec 0 J1z V1::J6c
abbrev Ja5:=Tt (Xa V4 N16) (Th 0 [V3,Xa V4 N16])
abbrev Ja6:=Ti J2h (Tb (Xc V4 (Xd V1)) (Ta (Xb N12 V4) (Tb (Xz (Xh V1 V4 0) V2) J6h Ja5)) (Tf (Vq [Sh N1p]) []))
abbrev Ja7:=Ed 38
abbrev Ja8:=Eb 45 97 J2x V46
abbrev Ja9:=Eb 34 97 J2x V35
abbrev Jaa:=Ed 20
abbrev Jab:=Ec 39 J29 V40
abbrev Jac:=Ec 41 J29 V42
abbrev Jad:=[Ka,Kb,Kb,Kc,Kc,Vk]
abbrev Jae:=Eb 43 50 Jad V44
abbrev Jaf:=Eb 27 97 J2x V28
abbrev Jag:=[Ka,Vk,Kb,Kb,Kb,Kb,Vk,Vk,Vk,Vk,Ka,Ka,Ka,Kc,Kc,Vk,Vk,Vk,Vk,Ka,Kc,Ka]
abbrev Jah:=Eb 48 111 Jag V49
abbrev Jai:=Ec 3 J29 V4
abbrev Jaj:=Eb 65 111 Jag V66
abbrev Jak:=Ea 51 38 [Sh N16,Sh (X3 69),Vi 47,Sd (Xh V35 V37 1),Sf,Vs 14]
abbrev Jal:=Ea 50 97 [Sh (Xi V35 V37 0),Sd (Xh V35 V37 1),Sd (Xh V35 V37 2),Sh (Xi V35 V37 3)]
abbrev Jam:=Xn (X5 []) (Xk N12 (Xm (X4 false) (Xm (X4 false) (Xm (X4 false) (Xm (X4 false) (Xk N12 (Xk N12 (Xk N12 (Xk N12 (Xn (X5 []) (Xn (X5 []) (Xn (X5 []) (Xt Xu (Xt Xu (Xk (Xi V35 V37 0) (Xk V56 (Xk V57 (Xk V58 (Xn V59 (Xt V60 (Xn V62 X1)))))))))))))))))))))
abbrev Nan:=X3 567489872400
abbrev Jao:=Td (Te 243 [Cc [Sh N16,Sh (X3 69),Vi 47,Sd (Xh V35 V37 1),Sf,Vs 14],Vq [Sh N3h],Vq [Va 55]] [Eb 55 9 J1z (Xj Xo (Xn V54 X1)),Ea 53 38 [Sh N12,Sh N12,Sh N12,Sd (X5 []),Sf,Sd (X5 [])],Ea 52 38 [Sh N16,Sh (X3 69),Vi 47,Sd (Xh V35 V37 1),Sf,Vs 14],Jak,Jal,Ja7,Ja8,Ja9,Jaa,J6m,Jab,Jac,Jae,Jaf,Jah,J63,Ea 0 229 [Va 39,Va 41,Va 43,Va 45,Sh (.bits .and .i64 (Xa V47 N16) N2s),Va 48],Jai] [] [] [] [Ec 60 J20 V61] (Cc [Vi 56,Vi 57,Vi 58,Vs 59,Va 60,Vs 62]) 7 (Tc (Td (Ta (Xb (Xa (Xd V49) (Xd (Xj Xo Jam))) Nan) (Td (Tk 2 [N12,N12,N12,N12,V56,V57,V58,V59,V60,V61,V62,N12,N12,V65,Xj V49 Jam]))))))
abbrev Jap:=Tc (Tc (Tm (Ts 244 [Vq [Sh (Xi V35 V37 3)]] [] (Vq [Vs 54]) 1 Jao) (Ts 244 [Vq [Sh (Xi V35 V37 3)]] [] (Vq [Vs 54]) 1 (Tm Jao Jao))))
abbrev Jaq:=Ec 21 J29 V22
abbrev Jar:=Ec 23 J29 V24
abbrev Jas:=Eb 25 50 Jad V26
abbrev Jat:=[Jaf,Eb 30 111 Jag V31,J63,Ea 0 229 [Va 21,Va 23,Va 25,Va 27,Vi 29,Va 30],Jai]
abbrev Jau:=Jaa::J6m::Jaq::Jar::Jas::Jat
abbrev Jav:=Th 0 [Xa V19 N16,V58,V46,V47,V48,V49,V50,V51,V52,V53,V54,V55,V56]
abbrev Jaw:=Ec 46 J29 V47
abbrev Jax:=Ec 48 J29 V49
abbrev Jay:=Eb 50 50 Jad V51
abbrev Jaz:=Eb 52 97 J2x V53
abbrev Jb0:=Eb 55 111 Jag V56
abbrev Jb1:=Ec 39 J2 V40
abbrev Jb2:=Ea 35 50 [Vs 36,Vb 37,Vb 38,Va 39,Va 41,Vi 43]
abbrev Jb3:=Ea 32 258 [Sd (Xh V17 V19 0),Sh (Xi V17 V19 1)]
abbrev Jb4:=Ea 0 229 [Va 46,Va 48,Va 50,Va 52,Vi 54,Va 55]
abbrev Jb5:=[Jb3,Jaa,J6m,Jaq,Jar,J63,Jb4,Jai]
abbrev Jb6:=[Jaw,Jax,Jay,Jaz,Jb0,Ed 57]
abbrev Jb7:=Ea 45 50 [Vs 35,Vb 36,Vb 37,Va 38,Va 40,Vi 42]
abbrev Jb8:=Ec 38 J2 V39
abbrev Jb9:List X:=[V1,V2,V3,V4,V5,V6,V7,V8,V9,V10,V11]
abbrev Jba:=Ec 1 J29 V2
abbrev Jbb:=Eb 5 50 Jad V6
abbrev Jbc:=Eb 10 111 Jag V11
abbrev Jbd:=Ea 0 229 [Va 1,Va 3,Va 5,Va 7,Vi 9,Va 10]
abbrev Jbe:=[Jba,Jai,Jbb,J76,Jbc,J63,Jbd]
abbrev Jbf:=Ea 31 38 [Vi 21,Sh (X3 69),Vi 23,Vs 24,Va 25,Sd (Xh V2 V32 1)]
abbrev Jbg:=Ea 30 38 [Vi 21,Sh (X3 69),Vi 23,Vs 24,Va 25,Sd (Xh V2 V32 1)]
abbrev Jbh:=Ea 29 38 [Vi 14,Vi 15,Vi 16,Vs 17,Va 18,Vs 20]
abbrev Jbi:=[Ec 18 J20 V19,Ec 25 J20 V26]
abbrev Jbj:=Jba::Jai::Jbb::J76::Jbc::J63::Jbd::Jbi
abbrev Jbk:=Eb 36 97 J2x V37
abbrev Jbl:=Jbh::Jba::Jai::Jbb::J76::Jbc::J63::Ea 0 229 [Va 1,Va 3,Va 5,Va 36,Vi 9,Va 10]::Jbi
abbrev Jbm:=Ea 31 38 [Sh N12,Sh N12,Sh N12,Sd (X5 []),Sf,Sd (X5 [])]
abbrev Jbn:=Jbm::Jbg::Jbh::Jbj
abbrev Jbo:=Eb 42 9 J1z (Xj Xo (Xn V41 X1))
abbrev Jbp:=Ea 39 38 [Vi 21,Sh (X3 69),Vi 23,Vs 24,Va 25,Sd (Xh V2 V32 1)]
abbrev Jbq:=Td (Te 243 [Cc [Vi 21,Sh (X3 69),Vi 23,Vs 24,Va 25,Sd (Xh V2 V32 1)],Vq [Sh N3h],Vq [Va 42]] (Jbo::Ea 40 38 [Sh N12,Sh N12,Sh N12,Sd (X5 []),Sf,Sd (X5 [])]::Jbp::Jbk::Jbm::Jbg::Jbl) [] [] [] [Ec 47 J20 V48] (Cc [Vi 43,Vi 44,Vi 45,Vs 46,Va 47,Vs 49]) 7 (Tf (Cc [Vi 43,Vi 44,Vi 45,Vs 46,Va 47,Vs 49]) (Ec 47 J20 V48::Jbo::Ea 40 38 [Vi 43,Vi 44,Vi 45,Vs 46,Va 47,Vs 49]::Jbp::Jbk::Ea 31 38 [Vi 43,Vi 44,Vi 45,Vs 46,Va 47,Vs 49]::Ea 30 38 [Vi 43,Vi 44,Vi 45,Vs 46,Va 47,Vs 49]::Jbl)))
abbrev Jbr:=Tk 0 []
abbrev V86:=X6 86
abbrev Jbt:=Ec 85 J29 V86
abbrev V88:=X6 88
abbrev V90:=X6 90
abbrev V92:=X6 92
abbrev Jbx:=Ec 73 J29 V74
abbrev Jby:=Ec 75 J29 V76
abbrev Jbz:=Xn (X5 []) (Xn (X5 []) (Xn (X5 []) J3i))
abbrev Jc0:=Xk N12 (Xk N12 Jbz)
abbrev Jc1:=Eb 72 66 J6 (Xj Xo (Xk N2i (Xm (X4 false) (Xm (X4 false) (Xm (X4 false) (Xm (Xf (Xe (Xr V37 V31 2)) (Xe V17)) (Xk N12 (Xk N12 Jc0))))))))
abbrev Jc2:=Ea 71 50 [Vs 61,Vb 62,Vb 63,Va 64,Va 66,Vi 68]
abbrev Jc3:=Ec 64 J2 V65
abbrev Jc4:=Ec 66 J2 V67
abbrev Jc5:=Ec 69 J6 V70
abbrev Jc6:=Ec 50 J29 V56
abbrev Jc7:=Ec 51 J29 V57
abbrev Jc8:=Ea 30 66 [Vi 14,Vb 15,Vb 16,Vb 17,Vb 18,Vi 19,Vi 20,Vi 21,Vi 22,Vs 23,Vs 24,Vs 25,Va 26,Va 28]
abbrev V91:=X6 91
abbrev V93:=X6 93
abbrev Jcb:=Ea 0 229 [Va 85,Va 87,Va 89,Va 91,Vi 93,Va 94]
abbrev Jcc:=Ec 26 J2u V27
abbrev Jcd:=Ec 28 J2l V29
abbrev Jce:=[Jcc,Jcd]
abbrev V81:=X6 81
abbrev Jcg:=Ea 0 229 [Va 73,Va 75,Va 77,Va 79,Vi 81,Va 82]
abbrev Jch:=Xy V58 V31 (Xn (Xh V58 V31 0) (Xm (Xr V58 V31 1) (Xm V17 (Xt (Xs V58 V31 3) (Xt (Xs V58 V31 4) (Xk (Xi V58 V31 5) X1))))))
abbrev Jci:=Eb 53 97 J2x V59::Eb 55 111 Jag V60::Jc8::Jba::Jai::J63::Ea 0 229 [Va 50,Va 51,Va 52,Va 53,Vi 54,Va 55]::Jce
abbrev Jcj:=Ec 38 J29 V39
abbrev Jck:=Ec 40 J29 V41
abbrev Jcl:=Eb 42 50 Jad V43
abbrev Jcm:=Eb 44 97 J2x V45
abbrev Jcn:=Eb 47 111 Jag V48
abbrev Jco:=[Jcj,Jck,Jcl,Jcm,Jcn,Ed 49]
abbrev Jcp:=Ea 0 229 [Va 38,Va 40,Va 42,Va 44,Vi 46,Va 47]
abbrev Jcq:=Eb 34 50 Jad V35
abbrev Jcr:=J76::Jbc::J63::Jbd::Jce
abbrev Jcs:=Jba::Jai::Jbb::Jcr
abbrev Jct:=Jc8::Jcs
abbrev Jcu:=Ec 34 J29 V35
abbrev Jcv:=Ec 36 J29 V37
abbrev Jcw:=Eb 38 50 Jad V39
abbrev Jcx:=Eb 40 97 J2x V41
abbrev Jcy:=Eb 43 111 Jag V44
abbrev Jcz:=Eb 33 66 J6 (Xj Xo (Xk N2i (Xm (X4 false) (Xm (X4 false) (Xm (X4 false) (Xm (X4 false) (Xk N12 (Xk N12 (Xk N12 (Xk N2q Jbz))))))))))
abbrev Jd0:=Ea 0 229 [Va 34,Va 36,Va 38,Va 40,Vi 42,Va 43]
abbrev Jd1:=Jc8::Jba::Jai::J63::Jd0::Jce
abbrev Jd2:=[Jcu,Jcv,Jcw,Jcx,Jcy,Ed 45]
abbrev Jd3:=Tf (Cb []) Jct
abbrev Jd4:=Ec 19 J2 V20
abbrev Jd5:=Ec 21 J2 V22
abbrev Jd6:=[Jd4,Jd5,Jba,Jai,Eb 5 50 Jad V24,J76,Jbc,J63,Jbd]
abbrev Jd7:=Ec 27 J29 V28
abbrev Jd8:=Ec 29 J29 V30
abbrev Jd9:=Eb 31 50 Jad V32
abbrev Jda:=Eb 33 97 J2x V34
abbrev Jdb:=[Ea 0 229 [Va 27,Va 29,Va 31,Va 33,Vi 35,Va 36]]
abbrev Jdc:=Te 194 [Cc [Sd (Xh V6 V14 0),Sb (Xr V6 V14 1),Sb (Xr V6 V14 2),Se (Xs V6 V14 3),Se (Xs V6 V14 4),Sh (Xi V6 V14 5)]] Jbe [] [] [] [Jd4,Jd5] (Cc [Vs 16,Vb 17,Vb 18,Va 19,Va 21,Vi 23]) 8 (Tk 0 [V16,V17,V18,V19,V20,V21,V22,V23,Xy V6 V14 (Xn V16 (Xm V17 (Xm V18 (Xt V19 (Xt V21 (Xk V23 X1))))))])
abbrev Jdd:=Ec 5 Jad V6
abbrev Jde:=[Jba,Jai,Jdd,Ed 7,Ec 8 J2x V9,Ea 0 27 [Va 1,Va 3,Va 5,Va 8,Vi 10]]
abbrev Jdf:=Tf (Vq [Vi 11]) Jde
abbrev Jdg:=Ed 74
abbrev Jdh:=Xn (X5 []) (Xk N12 (Xm (X4 false) (Xm (X4 false) (Xm (X4 false) (Xm (X4 false) (Xk N12 (Xk N12 (Xk N12 (Xk N12 (Xn (X5 []) (Xn (X5 []) (Xn (X5 []) (Xt Xu (Xt Xu (Xk V13 (Xk V23 (Xk (X3 133) (Xk V24 (Xn V17 (Xt Xu J1k))))))))))))))))))))
abbrev Jdi:=Eb 27 111 Jag (Xj Xo Jdh)
abbrev Jdj:=Ea 26 38 [Vi 23,Sh (X3 133),Vi 24,Vs 17,Sf,Sd (X5 [])]
abbrev Jdk:=Ea 21 38 [Vi 14,Vi 15,Vi 16,Vs 17,Va 18,Vs 20]
abbrev Jdl:=[Ec 18 J20 V19]
abbrev Jdm:List X:=[V24,V17,Xu,X5 [],V1,V3,V5,V7,V25,V28,Xo,V2,V4,V6,V8,Xj V11 Jdh,V31]
abbrev Jdn:=Eb 28 111 Jag (Xj V11 Jdh)
abbrev Jdo:=Jdk::Jba::Jai::Jbb::J76::J63::Ea 0 229 [Va 1,Va 3,Va 5,Va 7,Vi 25,Va 28]::Jdl
abbrev Jdp:=Jdn::Jdi::Jdj::Ea 22 38 [Vi 23,Sh (X3 133),Vi 24,Vs 17,Sf,Sd (X5 [])]::Jdo
abbrev Jdq:List X:=[V24,V17,Xu,X5 [],V32,V34,V36,V38,V40,V41,Xo,V33,V35,V37,V39,V42,V44]
abbrev Jdr:=Ec 32 J29 V33
abbrev Jds:=Eb 36 50 Jad V37
abbrev Jdt:=Eb 38 97 J2x V39
abbrev Jdu:=Eb 41 111 Jag V42
abbrev Jdv:=Ed 43
abbrev Jdw:=Ea 22 38 [Vi 23,Sh (X3 66),Vi 24,Vs 17,Sf,Sd (X5 [])]
abbrev Jdx:=Ea 0 229 [Va 32,Va 34,Va 36,Va 38,Vi 40,Va 41]
abbrev Jdy:=Jdk::Jba::Jai::J63::Jdx::Jdl
abbrev Jdz:=[Jdr,Jcu,Jds,Jdt,Jdu,Jdv]
abbrev Je0:=Ea 22 38 [Vi 23,Sh N7j,Vi 24,Vs 17,Sf,Sd (X5 [])]
abbrev Je1:=Jdn::Jdi::Jdj::Je0::Jdo
abbrev Je2:=Tn Je1 (Tk 0 (N12::N12::N12::N12::N12::N12::N12::N12::N12::N12::N12::N12::N12::N12::N12::N12::N12::N12::N12::N12::N12::N12::N12::N12::N12::V23::N7j::Jdm))
abbrev Je3:=Ec 44 J29 V45
abbrev Je4:=Eb 48 50 Jad V49
abbrev Je5:=Eb 50 97 J2x V51
abbrev Je6:=Eb 53 111 Jag V54
abbrev Je7:=Ea 22 38 [Vi 23,Sh (X3 68),Vi 24,Vs 17,Sf,Sd (X5 [])]
abbrev Je8:=Ea 0 229 [Va 44,Va 46,Va 48,Va 50,Vi 52,Va 53]
abbrev Je9:=[Je3,Jaw,Je4,Je5,Je6,Ed 55]
abbrev Jea:=Ed 21
abbrev Jeb:=Ea 18 27 [Va 22,Va 24,Va 26,Va 28,Vi 30]
abbrev Jec:=Eb 28 97 J2x V29
abbrev Jed:=Eb 24 107 J29 V25
abbrev Jee:=Eb 22 95 J29 V23
abbrev Jef:=Ea 10 27 [Va 0,Va 2,Va 4,Va 7,Vi 9]
abbrev Jeg:=Ec 4 Jad V5
abbrev Jeh:=Ed 6
abbrev Jei:=Ec 7 J2x V8
abbrev Jej:=Eb 26 50 Jad V27
abbrev Jek:=[Jef,J2a,J9j,Jeg,Jeh,Jei,Jej]
abbrev Jel:=Ec 36 J2 V37
abbrev Jem:=Ea 31 50 [Sd (Xh V5 V20 0),Sb (Xr V5 V20 1),Sb (Xr V5 V20 2),Se (Xs V5 V20 3),Se (Xs V5 V20 4),Sh (Xi V5 V20 5)]
abbrev Jen:=Ea 11 27 [Sf,Sf,Sf,Sf,Sh N12]
abbrev Jeo:=[J2a,J9j,Jeg,Jeh,Jei]
abbrev Jep:=Jef::Jeo
abbrev Jeq:=Xn (Xh V5 V20 0) (Xm (Xr V5 V20 1) (Xm (Xr V5 V20 2) (Xt V34 (Xt V36 (Xk (Xi V5 V20 5) X1)))))
abbrev Jer:=Td (Ta (Xb (Xa (Xd V27) (Xd (Xj Xo Jeq))) (X3 1759218604441)) (Td (Tk 1 [N12,N12,V34,V35,V36,V37,V38,V39,Xj V27 Jeq,Xj Xo Jeq])))
abbrev Jes:=Ea 33 50 [Sd (X5 []),Sb (X4 false),Sb (X4 false),Sf,Sf,Sh N12]
abbrev Jet:=Jes::Ea 32 50 [Sd (Xh V5 V20 0),Sb (Xr V5 V20 1),Sb (Xr V5 V20 2),Se (Xs V5 V20 3),Se (Xs V5 V20 4),Sh (Xi V5 V20 5)]::Jem::Jea::Jeb::Jec::Jed::Jee::Jen::Jek
abbrev Jeu:=Te 123 [Vq [Se (Xs V5 V20 3)]] Jet [] [] [] [J1b] (Vq [Va 34]) 2 (Te 123 [Vq [Se (Xs V5 V20 4)]] (J1b::Jet) [] [] [] [J1d] (Vq [Va 36]) 2 (Tm Jer Jer))
abbrev Jev:=Te 123 [Vq [Se (Xs V5 V20 3)]] Jet [] [] [] [J1b] (Vq [Va 34]) 2 (Te 123 [Vq [Se (Xs V5 V20 4)]] (J1b::Jet) [] [] [] [J1d] (Vq [Va 36]) 2 Jer)
abbrev Jew:=Eb 12 95 J29 V13::Jen::Jep
abbrev Jex:=[Eb 17 97 J2x V18]
abbrev Jey:=Eb 15 107 J29 V16
abbrev Jez:=Ea 12 27 [Sf,Sf,Sf,Sf,Sh N12]::Jen::Jep
abbrev Jf0:=Ea 14 27 [Sf,Sf,Sf,Sf,Sh N12]::Jew
abbrev Jf1:=Ec 22 J29 V23
abbrev Jf2:=Ec 24 J29 V25
abbrev Jf3:=Ec 16 J29 V17
abbrev Jf4:=[Jba,Jf2,Jej,J76,Eb 29 111 Jag V30,J63,Ea 0 229 [Va 22,Va 24,Va 26,Va 7,Vi 28,Va 29],Jf3]
abbrev Jf5:=Eb 31 97 J2x Xo::Jea::Jf1::Ea 15 9 [Vs 34]::Jf4
abbrev Jf6:X:=.clrR V39 V36 (Xk N12 J3r)
abbrev Jf7:=Ea 35 97 [Sh (Xi V8 V33 0),Sd (Xh V8 V33 1),Sd (Xh V8 V33 2),Sh (Xi V8 V33 3)]
abbrev Jf8:=Ea 31 97 [Sh (Xi V8 V20 0),Sd (Xh V8 V20 1),Sd (Xh V8 V20 2),Sh (Xi V8 V20 3)]
abbrev Jf9:=Ea 15 9 [Vs 13]
abbrev Jfa:=Xn (X5 []) (Xk N12 (Xm (X4 false) (Xm (X4 false) (Xm (X4 false) (Xm (X4 false) (Xk N12 (Xk N12 (Xk N12 (Xk N12 (Xn (X5 []) (Xn (X5 []) (Xn (X5 []) (Xt Xu (Xt Xu (Xk (Xi V8 V20 0) (Xk N16 (Xk (X3 132) (Xk V28 (Xn (Xh V8 V20 1) (Xt Xu J1k))))))))))))))))))))
abbrev Jfb:=Tc (Td (Ta (Xb (Xa (Xd V30) (Xd (Xj Xo Jfa))) Nan) (Td (Tk 1 [N12,N12,V34]))))
abbrev Jfc:=Tm (Tt (Xa V28 N16) Jfb) (Tt (Xa V28 N16) Jfb)
abbrev Jfd:=[Jf3,Jf9,Jba,Jai,Jbb,J76,Jbc,J63,Ea 0 229 [Va 16,Va 3,Va 5,Va 7,Vi 9,Va 10]]
abbrev Jfe:=Ec 30 J29 V31
abbrev Jff:=Ed 41
abbrev Jfg:=Ea 29 229 [Va 30,Va 32,Va 34,Va 36,Vi 38,Va 39]
abbrev Jfh:=Ec 19 J29 V20
abbrev Jfi:=Ed 28
abbrev Jfj:=Ea 16 27 [Va 0,Va 2,Va 4,Va 7,Vi 9]
abbrev Jfk:=Ea 12 9 [Vs 10]::Ea 11 27 [Va 0,Va 2,Va 4,Va 7,Vi 9]::Jeo
abbrev Jfl:=Ea 17 27 [Sf,Sf,Sf,Sf,Sh N12]
abbrev Jfm:=Ea 13 27 [Sf,Sf,Sf,Sf,Sh N12]
abbrev Jfn:=Eb 18 111 Jag Xo::Jfl::Jfj::Jfm::Jfk
abbrev Jfo:=[Jfh,Jaq,Eb 23 50 Jad V24,Eb 25 97 J2x V26,Jfi]
abbrev Jfp:=Tc (Tc (To Xu (Te 31 [Cc [Va 0,Va 2,Va 4,Va 7,Vi 9]] Jfn [] [] [] Jfo (Cc [Va 19,Va 21,Va 23,Va 25,Vi 27]) 10 (Tc (Te 162 [Vq [Sg 29 0],Vq [Vs 10]] (Ea 29 229 [Va 19,Va 21,Va 23,Va 25,Vi 27,Sf]::Jfh::Jaq::Eb 23 50 Jad V24::Eb 25 97 J2x V26::Jfi::Jfn) [29] [23,25] [Jfg] [Jfe,Jdr,Jcq,Jbk,Eb 39 111 Jag V40,Jff] (Cb []) 12 (Tc (Tf (Cb [(true,[Va 30,Va 32,Va 34,Va 36,Vi 38]),(false,[Sh N12])]) (Ea 42 27 [Va 30,Va 32,Va 34,Va 36,Vi 38]::Jfe::Jdr::Jcq::Jbk::Eb 39 111 Jag V40::Jff::Jfg::Jfh::Jaq::Jfi::Eb 18 111 Jag Xo::Ea 17 27 [Va 30,Va 32,Va 34,Va 36,Vi 38]::Jfj::Ea 13 27 [Va 30,Va 32,Va 34,Va 36,Vi 38]::Jfk))))))))
abbrev Jfq:=Ec 56 J29 V57
abbrev Jfr:=Ec 58 J29 V59
abbrev Jfs:=Xj Xo (Xk (X3 11) (Xm (X4 false) (Xm (X4 false) (Xm (X4 false) (Xm (X4 false) (Xk N12 (Xk V44 Jc0)))))))
abbrev Jft:=Eb 35 107 J29 Xo
abbrev Jfu:=Eb 32 107 J29 Xo
abbrev Jfv:=Ea 31 66 [Vi 38,Vb 39,Vb 40,Vb 41,Vb 42,Vi 43,Vi 44,Vi 45,Vi 46,Vs 47,Vs 48,Vs 49,Va 50,Va 52]
abbrev Jfw:=Ea 30 9 [Vs 54]
abbrev Jfx:=Ea 0 229 [Va 56,Va 58,Va 60,Va 62,Vi 64,Va 65]
abbrev Jfy:=[Ec 50 J2u V51,Ec 52 J2l V53]
abbrev Jfz:=Jft::Eb 33 107 J29 V34::Jfu::Jfv::Jfw::Jba::Jai::Jbb::J76::Jbc::J63::Ea 0 229 [Va 1,Va 33,Va 5,Va 7,Vi 9,Va 10]::Jfy
abbrev Jg0:List X:=[V46,V47,V48,V49,V50,V51,V52,V53,V54]
abbrev Jg1:List X:=V38::V39::V40::V41::V42::V43::V44::V45::Jg0
abbrev Jg2:=Tt (Xa V37 N16) (Th 0 (V36::Xa V37 N16::Jg1))
abbrev Jg3:=Eb 82 66 J6 (Xj Xo (Xk (X3 11) (Xm (X4 false) (Xm (X4 false) (Xm (X4 false) (Xm (X4 false) (Xk N12 (Xk V70 Jc0))))))))
abbrev Jg4:=Ea 55 107 [Vs 58,Vs 59,Vi 60]
abbrev Jg5:=Ea 31 66 [Vi 64,Vb 65,Vb 66,Vb 67,Vb 68,Vi 69,Vi 70,Vi 71,Vi 72,Vs 73,Vs 74,Vs 75,Va 76,Va 78]
abbrev Jg6:=Ea 0 229 [Va 83,Va 85,Va 87,Va 89,Vi 91,Va 92]
abbrev Jg7:=[Ec 76 J2u V77,Ec 78 J2l V79]
abbrev Jg8:List X:=[V64,V65,V66,V67,V68,V69,V70,V71,V72,V73,V74,V75,V76,V77,V78,V79,V80]
abbrev Jg9:=Ta (Xb N12 V61) (Ta (Xc V61 (Xd V63)) (Tt (Xa V61 N16) (Tt (Xa V62 N16) (Th 2 (Xa V61 N16::Xa V62 N16::Xy V63 V61 (Xn (Xh V63 V62 0) (Xn (Xh V63 V62 1) (Xk (Xi V63 V62 2) X1)))::Jg8)))))
abbrev Jga:=Tt (Xa V62 N16) (Th 2 (V61::Xa V62 N16::V63::Jg8))
abbrev Jgb:List X:=V37::Xa V37 N16::V34::Jg1
abbrev Jgc:=Ec 62 J29 V63
abbrev Jgd:=Ec 64 J29 V65
abbrev Jge:=Ea 0 229 [Va 62,Va 64,Va 66,Va 68,Vi 70,Va 71]
abbrev Jgf:=Eb 83 66 J6 (Xj Xo (Xk (X3 11) (Xm (X4 false) (Xm (X4 false) (Xm (X4 false) (Xm (X4 false) (Xk N12 (Xk V71 Jc0))))))))
abbrev Jgg:=Ea 61 105 [Sd (Xh V51 V57 0),Sh (Xi V51 V57 1)]
abbrev Jgh:=Ea 31 66 [Vi 65,Vb 66,Vb 67,Vb 68,Vb 69,Vi 70,Vi 71,Vi 72,Vi 73,Vs 74,Vs 75,Vs 76,Va 77,Va 79]
abbrev Jgi:=Ea 0 229 [Va 84,Va 86,Va 88,Va 90,Vi 92,Va 93]
abbrev Jgj:=[Ec 77 J2u V78,Ec 79 J2l V80]
abbrev Jgk:List X:=[V65,V66,V67,V68,V69,V70,V71,V72,V73,V74,V75,V76,V77,V78,V79,V80,V81]
abbrev Jgl:=Ta (Xb N12 V62) (Ta (Xc V62 (Xd V64)) (Tt (Xa V62 N16) (Tt (Xa V63 N16) (Th 2 (Xa V62 N16::Xa V63 N16::Xy V64 V62 (Xn (Xh V64 V63 0) (Xn (Xh V64 V63 1) (Xk (Xi V64 V63 2) X1)))::Jgk)))))
abbrev Jgm:=Tt (Xa V63 N16) (Th 2 (V62::Xa V63 N16::V64::Jgk))
abbrev Jgn:=Ec 63 J29 V64
abbrev Jgo:=Ec 65 J29 V66
abbrev Jgp:=Eb 67 50 Jad V68
abbrev Jgq:=Eb 69 97 J2x V70
abbrev Jgr:=Eb 72 111 Jag V73
abbrev Jgs:=Ea 0 229 [Va 63,Va 65,Va 67,Va 69,Vi 71,Va 72]
abbrev Jgt:=[Jgn,Jgo,Jgp,Jgq,Jgr,Jdg]
abbrev Jgu:=Ec 33 J29 V34
abbrev Jgv:=Ea 0 229 [Va 33,Va 35,Va 37,Va 39,Vi 41,Va 42]
abbrev Jgw:=Tf (Cb []) (Jgu::Ec 35 J29 V36::Eb 37 50 Jad V38::Eb 39 97 J2x V40::Eb 42 111 Jag V43::Ed 44::Jc8::Jba::Jai::J63::Jgv::Jce)
abbrev Jgx:=[Jgu,Ec 35 J29 V36,Eb 37 50 Jad V38,Eb 39 97 J2x V40,Eb 42 111 Jag V43,Ed 44]
abbrev Jgy:=Eb 33 66 J6 (Xj Xo (Xk (X3 13) (Xm (X4 false) (Xm (X4 false) (Xm (X4 false) (Xm (X4 false) (Xk N12 (Xk N12 Jc0))))))))
abbrev Jgz:=Ea 43 50 [Vs 33,Vb 34,Vb 35,Va 36,Va 38,Vi 40]
abbrev Jh0:=Jc8::Jba::Jai::J63::Je8::Jce
abbrev Jh1:List X:=[V33,V34,V35,V36,V37,V38,V39,V40,V41,V42,V43]
abbrev Jh2:=Eb 31 111 Jag Xo
abbrev Jh3:=[J2a,J9j,Jeg,Jeh,Jei,Ec 23 J2u V24,Ec 25 J2l V26]
abbrev Jh4:=Ea 29 66 [Vi 11,Vb 12,Vb 13,Vb 14,Vb 15,Vi 16,Vi 17,Vi 18,Vi 19,Vs 20,Vs 21,Vs 22,Va 23,Va 25]::Ea 28 9 [Vs 10]::Ea 27 27 [Va 0,Va 2,Va 4,Va 7,Vi 9]::Jh3
abbrev Jh5:=Jh2::Ea 30 27 [Sf,Sf,Sf,Sf,Sh N12]::Jh4
abbrev Jh6:=Ec 49 J29 V50
abbrev Jh7:=Ec 51 J29 V52
abbrev Jh8:=Ea 48 229 [Va 49,Va 51,Va 53,Va 55,Vi 57,Va 58]
abbrev Jh9:=Ea 35 27 [Va 0,Va 2,Va 4,Va 7,Vi 9]
abbrev Jha:=Eb 37 111 Jag Xo::Ea 36 27 [Sf,Sf,Sf,Sf,Sh N12]::Jh9::Jh5
abbrev Jhb:=Ec 50 J29 V51
abbrev Jhc:=Ea 47 229 [Va 48,Va 50,Va 52,Va 54,Vi 56,Va 57]
abbrev Jhd:=Ec 37 J29 V38
abbrev Jhe:=Ea 34 27 [Va 0,Va 2,Va 4,Va 7,Vi 9]
abbrev Jhf:=Eb 36 111 Jag Xo::Ea 35 27 [Sf,Sf,Sf,Sf,Sh N12]::Jhe::Jh5
abbrev Jhg:=Ec 17 J2x V18
abbrev Jhh:=[Jf1,Jf2,Ec 26 Jad V27,Ed 7,Jhg,Ea 0 27 [Va 22,Va 24,Va 26,Va 17,Vi 28]]
abbrev Jhi:=Ea 29 97 [Sh (Xi V18 V21 0),Sd (Xh V18 V21 1),Sd (Xh V18 V21 2),Sh (Xi V18 V21 3)]::Jhh
abbrev Jhj:=Ec 13 J29 V14
abbrev Jhk:=[Jhj,Jai,Ec 15 Jad V16,Ed 7,Jhg,Ea 0 27 [Va 13,Va 3,Va 15,Va 17,Vi 19]]
abbrev Jhl:=Ea 20 107 [Sd (Xh V4 V12 0),Sd (Xh V4 V12 1),Sh (Xi V4 V12 2)]::Jhk
abbrev Jhm:=Ec 18 J29 V19
abbrev Jhn:=Ec 20 J29 V21
abbrev Jho:=Xn (X5 []) (Xt Xu J1k)
abbrev Jhp:=Xn V13 (Xk (Xi V15 V17 0) (Xm (Xr V15 V17 1) (Xm (Xr V15 V17 2) (Xm (Xr V15 V17 3) (Xm (Xr V15 V17 4) (Xk (Xi V15 V17 5) (Xk (Xi V15 V17 6) (Xk (Xi V15 V17 7) (Xk (Xi V15 V17 8) (Xn (Xh V15 V17 9) (Xn (Xh V15 V17 10) (Xn (Xh V15 V17 11) (Xt (Xs V15 V17 12) (Xt (Xs V15 V17 13) (Xk N12 (Xk N12 (Xk N12 (Xk N12 Jho))))))))))))))))))
abbrev Jhq:=Eb 62 66 J6 (Xj Xo (Xk V35 (Xm V36 (Xm V37 (Xm V38 (Xm V39 (Xk V40 (Xk V41 (Xk V42 (Xk V43 (Xn V44 (Xn V45 (Xn V46 (Xt V47 (Xt V49 X1)))))))))))))))
abbrev Jhr:=Ed 34
abbrev Jhs:=Ea 31 66 [Vi 35,Vb 36,Vb 37,Vb 38,Vb 39,Vi 40,Vi 41,Vi 42,Vi 43,Vs 44,Vs 45,Vs 46,Va 47,Va 49]
abbrev Jht:=Ec 53 J29 V54
abbrev Jhu:=[Jcc,Jcd,Ec 47 J2u V48,Ec 49 J2l V50]
abbrev Jhv:=Ed 77::Ec 78 J29 V79::Ec 80 J29 V81::Eb 82 50 Jad V83::Eb 84 97 J2x V85::Eb 87 111 Jag V88::Jdg::Jhq::Jhr::Jhs::Jc8::Jh7::Jht::J63::Ea 0 229 [Va 78,Va 80,Va 82,Va 84,Vi 86,Va 87]::Jhu
abbrev Jhw:=Ec 90 J29 V91
abbrev Jhx:=Ea 89 105 [Sd (Xh V27 V76 0),Sh (Xi V27 V76 1)]
abbrev Jhy:=[Jcc,Jcd,Ec 47 J2u V48,Ec 49 J2l V50,Ec 78 J29 V79]
abbrev Jhz:=Ed 94::Jhw::Jhx::Ed 77::Ec 95 J29 (X6 96)::Ec 97 J29 (X6 98)::Eb 99 50 Jad (X6 100)::Eb 101 97 J2x (X6 102)::Eb 104 111 Jag (X6 105)::Jdg::Jhq::Jhr::Jhs::Jc8::Jh7::Jht::J63::Ea 0 229 [Va 95,Va 97,Va 99,Va 101,Vi 103,Va 104]::Jhy
abbrev Ji0:=Eb 107 66 J6 (Xj Xo (Xk N2q (Xm (X4 false) (Xm (X4 true) (Xm (X4 false) (Xm (X4 false) (Xk N12 (Xk N12 (Xk N12 (Xk N12 (Xn (X5 []) (Xn (Xh V91 V93 0) (Xn (Xh V91 V93 1) J3i)))))))))))))
abbrev Ji1:=Ea 106 95 [Sd (Xh V91 V93 0),Sd (Xh V91 V93 1),Sh (Xi V91 V93 2)]
abbrev Ji2:=Ea 0 229 [Va 108,Va 110,Va 112,Va 114,Vi 116,Va 117]
abbrev Ji3:List X:=[V78,V79,V80,V81,V82,V83,V84,V85,V86,V87,V88]
abbrev Ji4:=Eb 55 50 Jad V56
abbrev Ji5:=Eb 57 97 J2x V58
abbrev Ji6:=Eb 60 111 Jag V61
abbrev Ji7:=Ea 0 229 [Va 51,Va 53,Va 55,Va 57,Vi 59,Va 60]
abbrev Ji8:List X:=[V55,V56,V57,V58,V59,V60,V61]
abbrev Ji9:=Ea 62 105 [Sd (Xh V27 V33 0),Sh (Xi V27 V33 1)]
abbrev Jia:=Ea 31 66 [Vi 35,Vb 36,Vb 37,Vb 38,Vb 39,Vi 40,Vi 41,Vi 42,Vi 43,Vs 44,Vs 45,Vs 46,Va 47,Va 67]
abbrev Jib:=[Jcc,Jcd,Eb 47 105 J2u V48]
abbrev Jic:=Xj V50 (Xk (Xi V27 V33 1) X1)
abbrev Jid:=Xj Xo (Xk (Xi V27 V33 1) X1)
abbrev Jie:=Eb 22 111 Jag Xo
abbrev Jif:=[J2a,J9j,Jeg,Jeh,Jei,Ec 15 J20 V16]
abbrev Jig:=Ea 20 38 [Vi 11,Vi 12,Vi 13,Vs 14,Va 15,Vs 17]::Ea 19 3 [Vi 10]::Ea 18 27 [Va 0,Va 2,Va 4,Va 7,Vi 9]::Jif
abbrev Jih:=Jie::Ea 21 27 [Sf,Sf,Sf,Sf,Sh N12]::Jig
abbrev Jii:=Ea 38 229 [Va 28,Va 30,Va 32,Va 34,Vi 36,Sf]
abbrev Jij:=Ec 28 J29 V29
abbrev Jik:=Eb 32 50 Jad V33
abbrev Jil:=Eb 27 111 Jag Xo
abbrev Jim:=Ea 25 27 [Va 0,Va 2,Va 4,Va 7,Vi 9]
abbrev Jin:=Jij::Jfe::Jik::Ja9::Ed 37::Jil::Ea 26 27 [Va 28,Va 30,Va 32,Va 34,Vi 36]::Jim::Jie::Ea 21 27 [Va 28,Va 30,Va 32,Va 34,Vi 36]::Jig
abbrev Jio:=Ea 38 229 [Va 39,Va 41,Va 43,Va 45,Vi 47,Va 48]
abbrev Jip:=Jil::Ea 26 27 [Sf,Sf,Sf,Sf,Sh N12]::Jim::Jih
abbrev Jiq:=Ea 43 27 [Va 28,Va 30,Va 32,Va 34,Vi 36]
abbrev Jir:=Xj Xo (Xn (X5 []) (Xk N12 (Xm (X4 false) (Xm (X4 false) (Xm (X4 false) (Xm (X4 false) (Xk N12 (Xk N12 (Xk N12 (Xk N12 (Xn (X5 []) (Xn (X5 []) (Xn (X5 []) (Xt Xu (Xt Xu (Xk V10 (Xk N2q (Xk N12 (Xk V13 Jho)))))))))))))))))))
abbrev Jis:=Ea 37 229 [Va 27,Va 29,Va 31,Va 33,Vi 35,Sf]
abbrev Jit:=Ed 36
abbrev Jiu:=Eb 26 111 Jag Xo
abbrev Jiv:=Ea 24 27 [Va 0,Va 2,Va 4,Va 7,Vi 9]
abbrev Jiw:=Jd7::Jd8::Jd9::Jda::Jit::Jiu::Ea 25 27 [Va 27,Va 29,Va 31,Va 33,Vi 35]::Jiv::Jie::Ea 21 27 [Va 27,Va 29,Va 31,Va 33,Vi 35]::Jig
abbrev Jix:=Ea 37 229 [Va 38,Va 40,Va 42,Va 44,Vi 46,Va 47]
abbrev Jiy:=Jiu::Ea 25 27 [Sf,Sf,Sf,Sf,Sh N12]::Jiv::Jih
abbrev Jiz:=Ec 31 J29 V32
abbrev Jj0:=Ea 0 229 [Va 31,Va 33,Va 35,Va 37,Vi 39,Va 40]
abbrev Jj1:=Jc8::Jba::Jai::J63::Jdx::Jce
abbrev Jj2:=Eb 31 66 J6 (Xj Xo (Xk N2e (Xm (X4 false) (Xm (X4 false) (Xm (X4 false) (Xm (X4 false) (Xk N12 (Xk V20 Jc0))))))))
abbrev Jj3:=Jdr::Jcu::Jds::Jdt::Jdu::Jdv::Jj2::Jj1
abbrev Jj4:=Ec 57 J29 V58
abbrev Jj5:=Ec 59 J29 V60
abbrev Jj6:=Ec 45 J29 V46
abbrev Jj7:=Ec 47 J29 V48
abbrev Jj8:=Ea 0 229 [Va 57,Va 59,Va 61,Va 63,Vi 65,Va 66]
abbrev Jj9:=Ea 0 229 [Va 45,Va 47,Va 49,Va 51,Vi 53,Va 54]
abbrev Jja:=Eb 15 107 J29 Xo
abbrev Jjb:=[Eb 18 107 J29 Xo,Eb 16 107 J29 V17,Jja,Ea 14 9 [Vs 21],Jba,Jai,Jbb,J76,Jbc,J63,Ea 0 229 [Va 1,Va 16,Va 5,Va 7,Vi 9,Va 10]]
abbrev Jjc:=Ea 22 107 [Sd (Xh V17 V20 0),Sd (Xh V17 V20 1),Sh (Xi V17 V20 2)]
abbrev Jjd:=Ec 40 Jad V41
abbrev Jje:=Ec 42 J2x V43
abbrev Jjf:=Eb 45 80 J85 V46
abbrev Jjg:=Ea 35 82 [Va 36,Va 38,Va 40,Va 42,Vi 44,Va 45,Va 47]
abbrev Jjh:=Ec 25 J29 V26
abbrev Jji:=[J2a,J9j,Jeg,Jeh,Jei,Ec 10 J85 V11]
abbrev Jjj:=Ea 16 29 [Vs 12,Vi 13,Vs 14]::Ea 15 27 [Va 0,Va 2,Va 4,Va 7,Vi 9]::Jji
abbrev Jjk:=Eb 19 111 Jag Xo::Eb 18 80 J85 Xo::Jfl::Jjj
abbrev Jjl:=Jar::Jjh::Eb 27 50 Jad V28::Eb 29 97 J2x V30::Ed 32::Jjk
abbrev Jjm:=Eb 14 32 [Kc] Xo
abbrev Jjn:=Ea 12 27 [Va 0,Va 2,Va 4,Va 7,Vi 9]
abbrev Jjo:=[Ka,Vk,Ka]
abbrev Jjp:=Ec 10 Jjo V11
abbrev Jjq:=Ec 23 Jad V24
abbrev Jjr:=Ec 25 J2x V26
abbrev Jjs:=[Ec 47 Jag V48,Jfh,Jaq,Jjq,Jjr]
abbrev Jjt:=Jjn::J2a::J9j::Jeg::Jeh::Jei::Jjp::Jjf::Jjs
abbrev Jju:=Ea 49 29 [Sd (Xh V11 V34 0),Sh (Xi V11 V34 1),Sd (Xh V11 V34 2)]
abbrev Jjv:=Ea 29 82 [Va 50,Va 52,Va 54,Va 56,Vi 58,Va 59,Va 61]
abbrev Jjw:=[J2a,J9j,Jeg,Jeh,Jei,Jjp]
abbrev Jjx:=Jjm::Jfm::Jjn::Jjw
abbrev Jjy:=Ec 31 J6 V36
abbrev Jjz:=Ea 18 29 [Vs 15,Vi 16,Vs 17]
abbrev Jk0:=Ec 42 J29 V43
abbrev Jk1:=Ec 46 Jad V47
abbrev Jk2:=Ec 48 J2x V49
abbrev Jk3:=Eb 51 80 J85 V52
abbrev Jk4:=[Ed 75,Ec 66 J29 V71,Ec 67 J29 V72,Ec 68 Jad V73,Ec 69 J2x V74,Jff,Ja7,Jjy,Jk3,Jjz,Jk0,Je3,Jk1,Jk2,Je6,J2n,Ea 0 82 [Va 66,Va 67,Va 68,Va 69,Vi 70,Va 51,Va 53]]
abbrev Jk5:=[Jff,Ja7,Jjy,Jk3,Jjz,Jk0,Je3,Jk1,Jk2,Je6,J2n,Ea 0 82 [Va 42,Va 44,Va 46,Va 48,Vi 50,Va 51,Va 53]]
abbrev Jk6:=Ea 55 66 [Sh (Xi V36 V40 0),Sb (Xr V36 V40 1),Sb (Xr V36 V40 2),Sb (Xr V36 V40 3),Sb (Xr V36 V40 4),Sh (Xi V36 V40 5),Sh (Xi V36 V40 6),Sh (Xi V36 V40 7),Sh (Xi V36 V40 8),Sd (Xh V36 V40 9),Sd (Xh V36 V40 10),Sd (Xh V36 V40 11),Se (Xs V36 V40 12),Se (Xs V36 V40 13)]
abbrev Jk7:=Eb 12 111 Jag V13
abbrev Jk8:=[Eb 24 80 J85 V25,Jjz,Jba,Jai,Jdd,Jei,Jk7,J2n,Ea 0 82 [Va 1,Va 3,Va 5,Va 7,Vi 9,Va 24,Va 12]]
abbrev Jk9:=[Jba,Jai,Jdd,Jei,Eb 10 80 J85 V11,Jk7,J2n,Ea 0 82 [Va 1,Va 3,Va 5,Va 7,Vi 9,Va 10,Va 12]]
abbrev Jka:=Jjz::Jk9
abbrev Jkb:=Ec 32 Jad V33
abbrev Jkc:=Ec 34 J2x V35
abbrev Jkd:=Ea 27 38 [Vi 19,Vi 20,Vi 21,Vs 22,Va 23,Vs 25]
abbrev Jke:=Ec 23 J20 V24
abbrev Jkf:=Ea 28 27 [Sf,Sf,Sf,Sf,Sh N12]
abbrev Jkg:=Jkd::Jke::Jka
abbrev Jkh:=Tb (Xe (Xf (Xb N12 V9) (Xb V9 N2s))) J2r J2c
abbrev Jki:=Tb (Xf (Xc V14 (Xd V5)) (Xg V13 N12)) (Ta (Xb N12 V14) (Ts 42 [Cc [Sd (Xh V5 V14 0),Sb (Xr V5 V14 1),Sb (Xr V5 V14 2),Se (Xs V5 V14 3),Se (Xs V5 V14 4),Sh (Xi V5 V14 5)]] Jep (Vq [Vi 15]) 1 (Ta (Xp (Xe (Xf (Xg V15 N12) (Xc N12 V14))) (Xb N19 (X2 V14 N16))) (Ta (Xp (Xe (Xf (Xg V15 N12) (Xc N12 V14))) (Xb (X2 V14 N16) N18)) (Ta (Xp (Xe (Xf (Xg V15 N12) (Xc N12 V14))) (Xb N12 (X2 V14 N16))) (Ta (Xp (Xe (Xf (Xg V15 N12) (Xc N12 V14))) (Xc (X2 V14 N16) (Xd V5))) (Tq (Xf (Xg V15 N12) (Xc N12 V14)) 43 [Vq [Sd (Xh V5 (X2 V14 N16) 0)],Vq [Sd (Xh V5 V14 0)]] [] (Vq [Vb 16]) 1 (Tb (Xf (Xf (Xg V15 N12) (Xc N12 V14)) (Xe V16)) (Tt (Xa V14 N16) (Th 0 [N2e,Xa V14 N16])) (Tt (Xa V14 N16) (Th 0 [V15,Xa V14 N16])))))))))) (Tb (Xg V13 N12) (Ts 44 [Vq [Va 7]] Jep (Vq [Vi 15]) 1 (Tb (Xe (Xg V15 N12)) (Tf (Vq [Vi 15]) []) (Ti J2h (Tb (Xc V17 (Xd V3)) (Ta (Xb N12 V17) (Ts 15 [Vq [Va 4],Vq [Sd (Xh V3 V17 0)]] Jep (Vq [Vi 18]) 1 (Tb (Xc V18 N12) J2f (Tt (Xa V17 N16) (Th 1 [V16,Xa V17 N16]))))) (Ti (V16::J26) (Tb (Xc V19 (Xd V8)) (Ta (Xb N12 V19) (Ts 45 [Vq [Va 0],Vq [Sd (Xh V8 V19 2)]] Jep (Vq [Vi 20]) 1 (Tb (Xc V20 N12) J2f (Tt (Xa V19 N16) (Th 2 [V18,Xa V19 N16]))))) Jkh)))))) (Tf (Vq [Vi 13]) []))
abbrev Jkj:=[Ec 0 Jag V1,Ed 2,Ec 3 Jag V4,Ed 5]
abbrev Jkk:=Xj Xo (Xn V5 (Xm V6 (Xm V7 (Xt V8 (Xt V10 (Xk V12 X1))))))
abbrev Jkl:=Xw (Xv V4 N2i) N12
abbrev Jkm:=[Xw (Xv V14 N16) N12,Jkk,Jkl]
abbrev Jkn:=[Ea 0 27 [Sf,Sf,Sf,Sf,Sh N12]]
abbrev Jko:=Jai::Jba::Jkn
abbrev Jkp:=Ec 8 J2 V9::Ec 10 J2 V11::Jko
abbrev Jkq:=[Xw (Xv V15 N16) N12,Jkk,Jkl]
abbrev Jkr:=[Ec 14 J2x V15]
abbrev Jks:List X:=[V15,V16,V17,Xw (Xv V16 N16) N12,Jkk,Jkl]
abbrev Jkt:=[Ec 15 J2x V16]
abbrev Jku:=Xj Xo (Xn V6 (Xm V7 (Xm V8 (Xt V9 (Xt V11 (Xk V13 X1))))))
abbrev Jkv:=[Xw (Xv V15 N16) N12,Jku,Jkl]
abbrev Jkw:=Ec 9 J2 V10::J3t::Ec 5 J29 Jkl::Jko
abbrev Jkx:=[J2a,J9j,Jeg,Jeh,Jei,Ec 10 J29 V11,Ec 12 J29 V13,Ec 14 Jad V15,Ed 16,Jhg]
abbrev Jky:=Ea 21 27 [Va 10,Va 12,Va 14,Va 17,Vi 19]::Ea 20 27 [Va 0,Va 2,Va 4,Va 7,Vi 9]::Jkx
abbrev Jkz:=Ec 33 J85 V34
abbrev Jl0:=Ea 26 27 [Va 13,Va 15,Va 17,Va 19,Vi 21]
abbrev Jl1:=Ec 15 J29 V16
abbrev Jl2:=Ec 17 Jad V18
abbrev Jl3:=Ec 19 J2x V20
abbrev Jl4:=Ec 22 [Kc] V23
abbrev Jl5:=[Jhd,Jab,Ec 41 Jad V42,Jeh,Ec 43 J2x V44,Jjp,J2a,J9j,Jeg,Jei]
abbrev Jl6:=Jit::Jkz::Jl0::Jhj::Jl1::Jl2::Jl3::Jl4::Ed 25::Ea 12 27 [Va 37,Va 39,Va 41,Va 43,Vi 45]::Jl5
abbrev Jl7:=Ec 51 Jad V52
abbrev Jl8:=Ec 53 J2x V54
abbrev Jl9:=Ec 56 J85 V57
abbrev Jla:=Ec 58 Jag V59
abbrev Jlb:=Ea 46 27 [Va 47,Va 49,Va 51,Va 53,Vi 55]
abbrev Jlc:=Tf (Vq [Sb (Xe (Xg V24 N12))]) []
abbrev Jld:=Ea 61 27 [Va 46,Va 48,Va 50,Va 52,Vi 54]
abbrev Jle:=Ec 50 Jad V51
abbrev Jlf:=Ec 52 J2x V53
abbrev Jlg:=Ec 55 J85 V56
abbrev Jlh:=Ec 57 Jag V58
abbrev Jli:=Jl0::Jhj::Jl1::Jl2::Jl3::Jl4::Ed 25::Jjn::Jjw
abbrev Jlj:=Xj (Xj Xo (Xn (X5 [97,110,110]) (Xk N12 (Xn (.sl V16 N12 N2e) X1)))) (Xn (X5 [97,110,110]) (Xk N12 (Xn (.sl V16 N2e (Xq V16)) X1)))
abbrev Jlk:=Jhm::Jhn::Ec 22 Jad V23::Ec 24 J2x V25::Ed 27::J2v
abbrev Jll:=Jiq::Jij::Jfe::Jkb::Jkc::Ec 37 J85 V38::Ec 39 Jag V40::Ed 42::Jlk
abbrev Jlm:=Ea 59 27 [Va 44,Va 46,Va 48,Va 50,Vi 52]::Je3::Jaw::Ec 48 Jad V49::Ec 50 J2x V51::Ec 53 J85 V54::Ec 55 Jag V56::Ed 58::Jll
abbrev Jln:=Ec 60 J29 V61::Jgc::Ec 64 Jad V65::Ec 66 J2x V67::Ed 69::Jlm
abbrev Jlo:=Eb 70 29 Jjo Jlj::Jln
abbrev Jlp:=Ea 84 27 [Va 71,Va 73,Va 75,Va 77,Vi 79]::Ec 71 J29 V72::Jbx::Ec 75 Jad V76::Ec 77 J2x V78::Ec 80 [Kc] V81::Ed 83::Jlo
abbrev Jlq:List X:=[V72,V73,V74,V75,V76,V77,V78,V79,V80,V81,V82,V83,V84,V60]
abbrev Jlr:=[Ec 72 J29 V73,Ec 74 J29 V75,Ec 76 Jad V77,Ec 78 J2x V79,Ec 81 [Kc] V82,Ed 84]
abbrev Jls:=Ec 66 Jad V67
abbrev Jlt:=Ec 68 J2x V69
abbrev Jlu:=Ea 60 27 [Sf,Sf,Sf,Sf,Sh N12]::Jlm
abbrev Jlv:=Ec 61 J29 V62
abbrev Jlw:=Ec 65 Jad V66
abbrev Jlx:=Ec 67 J2x V68
abbrev Jly:=Eb 60 29 Jjo Jlj::Jlm
abbrev Jlz:=Ea 61 27 [Sf,Sf,Sf,Sf,Sh N12]::Jly
abbrev Jm0:List X:=[V72,V73,V74,V75,V76,V77,V78,V79,V80,V81,V82,V83,V84,V71]
abbrev Jm1:=Ea 71 27 [Sf,Sf,Sf,Sf,Sh N12]
abbrev Jm2:=Jlv::Jgn::Jlw::Jlx::Ed 70::Jly
abbrev Jm3:List X:=[V71,V72,V73,V74,V75,V76,V77,V78,V79,V80,V81,V82,V83,V84]
abbrev Jm4:=[Ec 71 J29 V72,Jbx,Ec 75 Jad V76,Ec 77 J2x V78,Ec 80 [Kc] V81,Ed 83]
abbrev Jm5:=[Jd8,Jiz,Ec 33 Jad V34,Ec 35 J2x V36,Ec 38 J85 V39,Ec 40 Jag V41,Jdv]
abbrev Jm6:=Ea 18 27 [Sf,Sf,Sf,Sf,Sh N12]::J2v
