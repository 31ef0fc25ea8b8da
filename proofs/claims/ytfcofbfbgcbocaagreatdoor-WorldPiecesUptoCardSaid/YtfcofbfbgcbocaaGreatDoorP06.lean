/-
  The executor's table for this translation: types, functions that have a body, functions whose slices are the caller's. Written by a program of mine (wip/mkenv.py); the kernel checks it against the program. By an AI agent.
-/
import Derived.Test.YtfcofbfbgcbocaaGreatDoorRows
import Derived.Test.YtfcofbfbgcbocaaGreatDoorP05
set_option linter.all false
set_option maxHeartbeats 20000000
namespace Go.Proofs.Y
open Go.Sx
abbrev Ys(n:Nat):TI:={ agg:=false,ks:=[.oth],zs:=[.nils],bytes:=24,tag:=.slice n }
abbrev Yp(n:Nat):TI:={ agg:=false,ks:=[.oth],zs:=[.nilp],bytes:=8,tag:=.ptr n }
abbrev Yt1:TI:={ agg:=false,ks:=[.int .i64],zs:=[.int .i64 (.I 0)],bytes:=8,tag:=.int .i64 }
abbrev Yt2:TI:={ agg:=false,ks:=[.int .u8],zs:=[.int .u8 (.I 0)],bytes:=1,tag:=.int .u8 }
abbrev Yt3:TI:={ agg:=true,ks:=[.int .i64,.int .i64,.bool,.int .u8],zs:=[.int .i64 (.I 0),.int .i64 (.I 0),.bool (.B false),.int .u8 (.I 0)],bytes:=24,tag:=.strct [(0,2,1,false),(1,3,1,false),(2,4,1,false),(3,6,1,false)] }
abbrev Yt4:TI:={ agg:=false,ks:=[.str],zs:=[.str (.S [])],bytes:=16,tag:=.str }
abbrev Yt5:TI:={ agg:=false,ks:=[.int .u64],zs:=[.int .u64 (.I 0)],bytes:=8,tag:=.int .u64 }
abbrev Yt6:TI:={ agg:=true,ks:=[.str,.int .u64],zs:=[.str (.S []),.int .u64 (.I 0)],bytes:=24,tag:=.strct [(0,9,1,false),(1,12,1,false)] }
abbrev Yt7:TI:={ agg:=true,ks:=[.oth],zs:=[.nilp],bytes:=8,tag:=.strct [(0,17,1,false)] }
abbrev Yt8:TI:={ agg:=false,ks:=[.int .i32],zs:=[.int .i32 (.I 0)],bytes:=4,tag:=.int .i32 }
abbrev Yt9:TI:={ agg:=true,ks:=[.oth,.oth,.oth,.oth,.int .i64],zs:=[.nils,.nils,.nils,.nils,.int .i64 (.I 0)],bytes:=104,tag:=.strct [(0,22,1,false),(1,23,1,false),(2,24,1,false),(3,25,1,false),(4,3,1,false)] }
abbrev Yta:TI:={ agg:=true,ks:=[.int .i64,.int .i64,.int .i64,.str,.oth,.str],zs:=[.int .i64 (.I 0),.int .i64 (.I 0),.int .i64 (.I 0),.str (.S []),.nils,.str (.S [])],bytes:=80,tag:=.strct [(0,3,1,false),(1,3,1,false),(2,3,1,false),(3,9,1,false),(4,36,1,false),(5,9,1,false)] }
abbrev Ytb:TI:={ agg:=true,ks:=[.str,.bool,.bool,.oth,.oth,.int .i64],zs:=[.str (.S []),.bool (.B false),.bool (.B false),.nils,.nils,.int .i64 (.I 0)],bytes:=80,tag:=.strct [(0,9,1,false),(1,4,1,false),(2,4,1,false),(3,48,1,false),(4,48,1,false),(5,3,1,false)] }
abbrev Ytc:TI:={ agg:=true,ks:=[.int .i64,.bool,.bool,.bool,.bool,.int .i64,.int .i64,.int .i64,.int .i64,.str,.str,.str,.oth,.oth],zs:=[.int .i64 (.I 0),.bool (.B false),.bool (.B false),.bool (.B false),.bool (.B false),.int .i64 (.I 0),.int .i64 (.I 0),.int .i64 (.I 0),.int .i64 (.I 0),.str (.S []),.str (.S []),.str (.S []),.nils,.nils],bytes:=144,tag:=.strct [(0,3,1,false),(1,4,1,false),(2,4,1,false),(3,4,1,false),(4,4,1,false),(5,3,1,false),(6,3,1,false),(7,3,1,false),(8,3,1,false),(9,9,1,false),(10,9,1,false),(11,9,1,false),(12,63,1,false),(13,64,1,false)] }
abbrev Ytd:TI:={ agg:=true,ks:=[.oth,.oth,.oth,.oth,.int .i64,.oth,.oth],zs:=[.nils,.nils,.nils,.nils,.int .i64 (.I 0),.nils,.nils],bytes:=152,tag:=.strct [(0,27,5,true),(5,31,1,false),(6,32,1,false)] }
abbrev Yte:TI:={ agg:=true,ks:=[.str,.int .i64],zs:=[.str (.S []),.int .i64 (.I 0)],bytes:=24,tag:=.strct [(0,9,1,false),(1,3,1,false)] }
abbrev Ytf:TI:={ agg:=true,ks:=[.str,.int .i64],zs:=[.str (.S []),.int .i64 (.I 0)],bytes:=24,tag:=.strct [(0,9,1,false),(1,3,1,false)],eqs:=true }
abbrev Ytg:TI:={ agg:=true,ks:=[.str,.int .i64,.bool,.bool,.bool,.bool,.int .i64,.int .i64,.int .i64,.int .i64,.str,.str,.str,.oth,.oth,.int .i64,.int .i64,.int .i64,.int .i64,.str,.oth,.str],zs:=[.str (.S []),.int .i64 (.I 0),.bool (.B false),.bool (.B false),.bool (.B false),.bool (.B false),.int .i64 (.I 0),.int .i64 (.I 0),.int .i64 (.I 0),.int .i64 (.I 0),.str (.S []),.str (.S []),.str (.S []),.nils,.nils,.int .i64 (.I 0),.int .i64 (.I 0),.int .i64 (.I 0),.int .i64 (.I 0),.str (.S []),.nils,.str (.S [])],bytes:=248,tag:=.strct [(0,9,1,false),(1,66,14,true),(15,3,1,false),(16,38,6,true)] }
abbrev Yth:TI:={ agg:=true,ks:=[.oth,.oth],zs:=[.nilp,.nils],bytes:=32,tag:=.strct [(0,157,1,false),(1,158,1,false)] }
abbrev Yti:TI:={ agg:=true,ks:=[.oth,.oth],zs:=[.nilp,.nils],bytes:=32,tag:=.strct [(0,160,2,true)] }
abbrev Ytj:TI:={ agg:=true,ks:=[.oth,.oth,.oth,.oth,.int .i64,.oth],zs:=[.nils,.nils,.nils,.nils,.int .i64 (.I 0),.nils],bytes:=128,tag:=.strct [(0,27,5,true),(5,32,1,false)] }
abbrev Ytk:TI:={ agg:=true,ks:=[.str,.bool,.bool,.oth,.oth,.int .i64,.oth],zs:=[.str (.S []),.bool (.B false),.bool (.B false),.nils,.nils,.int .i64 (.I 0),.nils],bytes:=104,tag:=.strct [(0,50,6,true),(6,42,1,false)] }
abbrev Ytl:TI:={ agg:=true,ks:=[.int .u8,.int .u8],zs:=[.int .u8 (.I 0),.int .u8 (.I 0)],bytes:=2,tag:=.strct [(0,5,1,false),(1,5,1,false)] }
abbrev Ytm:TI:={ agg:=true,ks:=[.oth,.oth,.oth,.str],zs:=[.nilp,.nilp,.nilp,.str (.S [])],bytes:=40,tag:=.strct [(0,17,1,false),(1,17,1,false),(2,17,1,false),(3,9,1,false)] }
def sxT:Tab:=[
 (2,Yt1),
 (3,Yt1),
 (4,{ agg:=false,ks:=[.bool],zs:=[.bool (.B false)],bytes:=1,tag:=.bool }),
 (5,Yt2),
 (6,Yt2),
 (7,Yt3),
 (8,Yt3),
 (9,Yt4),
 (10,Yt4),
 (11,Yt4),
 (12,Yt5),
 (13,Yt6),
 (14,Yt6),
 (15,Yp 356),
 (16,Yp 359),
 (17,Yp 366),
 (18,Yt7),
 (19,Yt7),
 (21,Yt8),
 (22,Ys 95),
 (23,Ys 107),
 (24,Ys 50),
 (25,Ys 97),
 (26,Yt9),
 (27,Yt9),
 (28,{ agg:=true,ks:=[.str,.int .i64,.str],zs:=[.str (.S []),.int .i64 (.I 0),.str (.S [])],bytes:=40,tag:=.strct [(0,9,1,false),(1,3,1,false),(2,9,1,false)] }),
 (29,{ agg:=true,ks:=[.str,.int .i64,.str],zs:=[.str (.S []),.int .i64 (.I 0),.str (.S [])],bytes:=40,tag:=.strct [(0,9,1,false),(1,3,1,false),(2,9,1,false)],eqs:=true }),
 (31,Ys 80),
 (32,Ys 111),
 (33,Yt1),
 (36,Ys 121),
 (37,Yta),
 (38,Yta),
 (42,Ys 66),
 (48,Ys 148),
 (49,Ytb),
 (50,Ytb),
 (53,Ys 29),
 (54,Ys 32),
 (63,Ys 105),
 (64,Ys 3),
 (65,Ytc),
 (66,Ytc),
 (76,Yp 82),
 (79,{ agg:=true,ks:=[.str,.str],zs:=[.str (.S []),.str (.S [])],bytes:=32,tag:=.strct [(0,9,1,false),(1,9,1,false)] }),
 (80,{ agg:=true,ks:=[.str,.str],zs:=[.str (.S []),.str (.S [])],bytes:=32,tag:=.strct [(0,9,1,false),(1,9,1,false)],eqs:=true }),
 (81,Ytd),
 (82,Ytd),
 (84,Yp 86),
 (85,{ agg:=true,ks:=[.str,.bool],zs:=[.str (.S []),.bool (.B false)],bytes:=24,tag:=.strct [(0,9,1,false),(1,4,1,false)] }),
 (86,{ agg:=true,ks:=[.str,.bool],zs:=[.str (.S []),.bool (.B false)],bytes:=24,tag:=.strct [(0,9,1,false),(1,4,1,false)],eqs:=true }),
 (88,Yt5),
 (94,{ agg:=true,ks:=[.str,.str,.int .i64],zs:=[.str (.S []),.str (.S []),.int .i64 (.I 0)],bytes:=40,tag:=.strct [(0,9,1,false),(1,9,1,false),(2,3,1,false)] }),
 (95,{ agg:=true,ks:=[.str,.str,.int .i64],zs:=[.str (.S []),.str (.S []),.int .i64 (.I 0)],bytes:=40,tag:=.strct [(0,9,1,false),(1,9,1,false),(2,3,1,false)],eqs:=true }),
 (96,{ agg:=true,ks:=[.int .i64,.str,.str,.int .i64],zs:=[.int .i64 (.I 0),.str (.S []),.str (.S []),.int .i64 (.I 0)],bytes:=48,tag:=.strct [(0,3,1,false),(1,9,1,false),(2,9,1,false),(3,3,1,false)] }),
 (97,{ agg:=true,ks:=[.int .i64,.str,.str,.int .i64],zs:=[.int .i64 (.I 0),.str (.S []),.str (.S []),.int .i64 (.I 0)],bytes:=48,tag:=.strct [(0,3,1,false),(1,9,1,false),(2,9,1,false),(3,3,1,false)],eqs:=true }),
 (104,Yte),
 (105,Ytf),
 (106,{ agg:=true,ks:=[.str,.str,.int .i64],zs:=[.str (.S []),.str (.S []),.int .i64 (.I 0)],bytes:=40,tag:=.strct [(0,9,1,false),(1,105,2,true)] }),
 (107,{ agg:=true,ks:=[.str,.str,.int .i64],zs:=[.str (.S []),.str (.S []),.int .i64 (.I 0)],bytes:=40,tag:=.strct [(0,9,1,false),(1,105,2,true)],eqs:=true }),
 (110,Ytg),
 (111,Ytg),
 (120,{ agg:=true,ks:=[.int .i64,.str],zs:=[.int .i64 (.I 0),.str (.S [])],bytes:=24,tag:=.strct [(0,3,1,false),(1,9,1,false)] }),
 (121,{ agg:=true,ks:=[.int .i64,.str],zs:=[.int .i64 (.I 0),.str (.S [])],bytes:=24,tag:=.strct [(0,3,1,false),(1,9,1,false)],eqs:=true }),
 (147,{ agg:=true,ks:=[.int .i64,.str,.str],zs:=[.int .i64 (.I 0),.str (.S []),.str (.S [])],bytes:=40,tag:=.strct [(0,3,1,false),(1,9,1,false),(2,9,1,false)] }),
 (148,{ agg:=true,ks:=[.int .i64,.str,.str],zs:=[.int .i64 (.I 0),.str (.S []),.str (.S [])],bytes:=40,tag:=.strct [(0,3,1,false),(1,9,1,false),(2,9,1,false)],eqs:=true }),
 (156,Yp 162),
 (157,Yp 160),
 (158,Ys 5),
 (159,Yth),
 (160,Yth),
 (161,Yti),
 (162,Yti),
 (169,Ys 124),
 (192,Yp 194),
 (193,{ agg:=true,ks:=[.str,.int .i64,.bool],zs:=[.str (.S []),.int .i64 (.I 0),.bool (.B false)],bytes:=32,tag:=.strct [(0,9,1,false),(1,3,1,false),(2,4,1,false)] }),
 (194,{ agg:=true,ks:=[.str,.int .i64,.bool],zs:=[.str (.S []),.int .i64 (.I 0),.bool (.B false)],bytes:=32,tag:=.strct [(0,9,1,false),(1,3,1,false),(2,4,1,false)],eqs:=true }),
 (196,Yp 66),
 (197,Ys 9),
 (207,Yp 5),
 (216,Yp 229),
 (228,Ytj),
 (229,Ytj),
 (255,Ys 258),
 (257,Yte),
 (258,Ytf),
 (264,Yp 268),
 (267,Ytk),
 (268,Ytk),
 (289,{ agg:=false,ks:=[.oth],zs:=[.nilm],bytes:=8,tag:=.other }),
 (304,Yp 278),
 (325,Yt1),
 (332,{ agg:=false,ks:=[.int .u32],zs:=[.int .u32 (.I 0)],bytes:=4,tag:=.int .u32 }),
 (334,Yt5),
 (340,Yt5),
 (344,Yp 3),
 (348,Ytl),
 (349,Ytl),
 (352,Yp 340),
 (355,Ytm),
 (356,Ytm),
 (360,Yt2),
 (361,Yt2),
 (363,Yt8),
 (364,Yt8)]
noncomputable def sxE:Env:=⟨sxT,[(0,[]),(34,[27,31,32,33]),(39,[38,33]),(43,[42,9,33]),(55,[27,54,33]),(61,[9,33]),(92,[66,3,33]),(128,[3,4]),(142,[3,33]),(145,[66,33]),(183,[27,32,33]),(187,[27,33]),(190,[3,3,33]),(204,[3,203]),(208,[3,9]),(214,[27,32]),(232,[50,42]),(238,[9,3,33]),(248,[25,33]),(252,[22,33]),(260,[25,25]),(269,[23,33]),(279,[278,4]),(316,[21,3]),(326,[3,325]),(336,[332,332]),(353,[3,3])],[3,4,5,6,7,8,9,10,11,12,13,14,15,16,17,18,19,20,21,22,23,24,25,26,27,28,29,30,31,32,33,34,35,36,37,38,39,40,41,42,43,44,45,46,47,48,49,50,51,52,53,54,55,56,57,58,59,60,61,62,63,64,65,66,67,68,69,70,71,72,73,74,75,76,77,78,79,80,81,82,83,84,85,86,87,88,89,90,91,92,93,94,95,96,97,98,99,100,101,102,103,104,105,106,107,108,109,110,111,112,113,114,115,116,117,118,119,120,121,122,123,124,125,126,127,128,129,130,131,132,133,134,135,136,137,138,139,140,141,142,143,144,145,146,147,148,149,150,151,152,153,154,155,156,157,158,159,160,161,162,163,164,165,166,167,168,169,170,171,172,173,174,175,176,177,178,179,180,181,183,184,185,186,187,188,189,190,191,192,193,194,195,196,198,199,200,201,203,204,205,206,207,208,209,210,211,212,213,214,215,216,217,218,219,220,221,222,223,224,225,226,227,228,229,230,231,232,233,234,235,236,237,238,239,240,241,242,243,244,245,246,247,248,249,250,252,253,254,255,256,257,258,259,260,261,262,263,264,265,266,268,269,270,271,272,273,274,275,277,278,279,280,281,283,284,285,286,288,289,291,293,294,295,296,297,298,299,300,301,302,303,304,305,306,307,308,309,310,312,313,314,315,316,317,318,319,320,321,322,323,345],[31,32,77,78,79,123,158,164,195,210,212,218,219,246,247,256,274,291],[158,164,195,219,246,247,256,274],[105],[(46,Tryz.f46),(67,Tryz.f67),(68,Tryz.f68),(69,Tryz.f69),(71,Tryz.f71),(72,Tryz.f72),(76,Tryz.f76),(80,Tryz.f80),(81,Tryz.f81),(82,Tryz.f82),(98,Tryz.f98),(112,Tryz.f112),(113,Tryz.f113),(114,Tryz.f114),(115,Tryz.f115),(116,Tryz.f116),(117,Tryz.f117),(119,Tryz.f119),(120,Tryz.f120),(121,Tryz.f121),(125,Tryz.f125),(128,Tryz.f128),(129,Tryz.f129),(140,Tryz.f140),(142,Tryz.f142),(144,Tryz.f144),(145,Tryz.f145),(146,Tryz.f146),(152,Tryz.f152),(153,Tryz.f153),(154,Tryz.f154),(156,Tryz.f156),(157,Tryz.f157),(159,Tryz.f159),(161,Tryz.f161),(163,Tryz.f163),(169,Tryz.f169),(170,Tryz.f170),(171,Tryz.f171),(174,Tryz.f174),(175,Tryz.f175),(183,Tryz.f183),(200,Tryz.f200),(201,Tryz.f201),(205,Tryz.f205),(206,Tryz.f206),(211,Tryz.f211),(214,Tryz.f214),(215,Tryz.f215),(221,Tryz.f221),(222,Tryz.f222),(223,Tryz.f223),(227,Tryz.f227),(228,Tryz.f228),(229,Tryz.f229),(230,Tryz.f230),(231,Tryz.f231),(238,Tryz.f238),(241,Tryz.f241),(242,Tryz.f242),(245,Tryz.f245),(253,Tryz.f253),(254,Tryz.f254),(255,Tryz.f255),(257,Tryz.f257),(258,Tryz.f258),(259,Tryz.f259),(260,Tryz.f260),(270,Tryz.f270),(271,Tryz.f271),(272,Tryz.f272),(273,Tryz.f273),(284,Tryz.f284)],[],[9,12,17,22,31,33,124,126,127,154,155,160,162,185,186,187,188,189,191,192,193,196],[95,107,1082050,1082097]⟩
theorem sxE_check:sxE.check Tryz.prog=true:=by kernel_rfl
theorem sxE_inl:∀p∈sxE.inl,Tryz.prog.funcs[p.1]?=some p.2:=qy2.2 ⟨Tryz.func46,qy2.2 ⟨Tryz.func67,qy2.2 ⟨Tryz.func68,qy2.2 ⟨Tryz.func69,qy2.2 ⟨Tryz.func71,qy2.2 ⟨Tryz.func72,qy2.2 ⟨Tryz.func76,qy2.2 ⟨Tryz.func80,qy2.2 ⟨Tryz.func81,qy2.2 ⟨Tryz.func82,qy2.2 ⟨Tryz.func98,qy2.2 ⟨Tryz.func112,qy2.2 ⟨Tryz.func113,qy2.2 ⟨Tryz.func114,qy2.2 ⟨Tryz.func115,qy2.2 ⟨Tryz.func116,qy2.2 ⟨Tryz.func117,qy2.2 ⟨Tryz.func119,qy2.2 ⟨Tryz.func120,qy2.2 ⟨Tryz.func121,qy2.2 ⟨Tryz.func125,qy2.2 ⟨Tryz.func128,qy2.2 ⟨Tryz.func129,qy2.2 ⟨Tryz.func140,qy2.2 ⟨Tryz.func142,qy2.2 ⟨Tryz.func144,qy2.2 ⟨Tryz.func145,qy2.2 ⟨Tryz.func146,qy2.2 ⟨Tryz.func152,qy2.2 ⟨Tryz.func153,qy2.2 ⟨Tryz.func154,qy2.2 ⟨Tryz.func156,qy2.2 ⟨Tryz.func157,qy2.2 ⟨Tryz.func159,qy2.2 ⟨Tryz.func161,qy2.2 ⟨Tryz.func163,qy2.2 ⟨Tryz.func169,qy2.2 ⟨Tryz.func170,qy2.2 ⟨Tryz.func171,qy2.2 ⟨Tryz.func174,qy2.2 ⟨Tryz.func175,qy2.2 ⟨Tryz.func183,qy2.2 ⟨Tryz.func200,qy2.2 ⟨Tryz.func201,qy2.2 ⟨Tryz.func205,qy2.2 ⟨Tryz.func206,qy2.2 ⟨Tryz.func211,qy2.2 ⟨Tryz.func214,qy2.2 ⟨Tryz.func215,qy2.2 ⟨Tryz.func221,qy2.2 ⟨Tryz.func222,qy2.2 ⟨Tryz.func223,qy2.2 ⟨Tryz.func227,qy2.2 ⟨Tryz.func228,qy2.2 ⟨Tryz.func229,qy2.2 ⟨Tryz.func230,qy2.2 ⟨Tryz.func231,qy2.2 ⟨Tryz.func238,qy2.2 ⟨Tryz.func241,qy2.2 ⟨Tryz.func242,qy2.2 ⟨Tryz.func245,qy2.2 ⟨Tryz.func253,qy2.2 ⟨Tryz.func254,qy2.2 ⟨Tryz.func255,qy2.2 ⟨Tryz.func257,qy2.2 ⟨Tryz.func258,qy2.2 ⟨Tryz.func259,qy2.2 ⟨Tryz.func260,qy2.2 ⟨Tryz.func270,qy2.2 ⟨Tryz.func271,qy2.2 ⟨Tryz.func272,qy2.2 ⟨Tryz.func273,qy2.2 ⟨Tryz.func284,qy5 _⟩⟩⟩⟩⟩⟩⟩⟩⟩⟩⟩⟩⟩⟩⟩⟩⟩⟩⟩⟩⟩⟩⟩⟩⟩⟩⟩⟩⟩⟩⟩⟩⟩⟩⟩⟩⟩⟩⟩⟩⟩⟩⟩⟩⟩⟩⟩⟩⟩⟩⟩⟩⟩⟩⟩⟩⟩⟩⟩⟩⟩⟩⟩⟩⟩⟩⟩⟩⟩⟩⟩⟩⟩
theorem sxE_ok:EnvOK Tryz.prog sxE:=Env.ok sxE_check sxE_inl
abbrev Va(n:Nat):Sc:=.val (.var n)
abbrev Vi(n:Nat):Sc:=.int .i64 (.var n)
abbrev Vs(n:Nat):Sc:=.str (.var n)
abbrev Vb(n:Nat):Sc:=.bool (.var n)
abbrev Vk:Kd:=.int .i64
abbrev Vq(l:List Sc):SV:=.cv (false,l)
abbrev Cc(l:List Sc):SV:=.cv (true,l)
abbrev Xk:=X.consI .i64
abbrev Sh:=Sc.int .i64
abbrev Ts:=Tree.callP (.B true)
abbrev Tt(e:X)(t:Tree):Tree:=.need (.le (.I (-9223372036854775808)) e) (.need (.le e (.I 9223372036854775807)) t)
abbrev Ta:=Tree.need
abbrev Tb:=Tree.ite
abbrev Tc:=Tree.bindN
abbrev Td:=Tree.bindV
abbrev Te:=Tree.callM
abbrev Tf:=Tree.ret
abbrev Th:=Tree.back
abbrev Ti:=Tree.loop
abbrev Tj:=Tree.join
abbrev Tk:=Tree.jump
abbrev Tm:=Tree.both
abbrev Tn:=Tree.pack
abbrev To:=Tree.letV
abbrev Tp:=Tree.bindO
abbrev Tq:=Tree.callP
abbrev Tr:=Tree.openR
abbrev Xa:=X.add
abbrev Xb:=X.le
abbrev Xc:=X.lt
abbrev Xd:=X.rlen
abbrev Xe:=X.not
abbrev Xf:=X.and
abbrev Xg:=X.eqI
abbrev Xh:=X.rS
abbrev Xi:=X.rI
abbrev Xj:=X.snocR
abbrev Xm:=X.consB
abbrev Xn:=X.consS
abbrev Xo:=X.nilR
abbrev Xp:=X.or
abbrev Xq:=X.len
abbrev Xr:=X.rB
abbrev Xs:=X.rV
abbrev Xt:=X.consV
abbrev Xu:=X.nilS
abbrev Xv:=X.takeR
abbrev Xw:=X.dropR
abbrev Xx:=X.catR
abbrev Xy:=X.setR
abbrev Xz:=X.eqS
abbrev X1:=X.nilL
abbrev X2:=X.sub
abbrev X3:=X.I
abbrev X4:=X.B
abbrev X5:=X.S
abbrev X6:=X.var
abbrev X7:=X.mul
abbrev X8:=X.ite
abbrev Ea:=Ent.cells
abbrev Eb:=Ent.row
abbrev Ec:=Ent.rd
abbrev Ed:=Ent.st
abbrev Sa:=Sc.int
abbrev Sb:=Sc.bool
abbrev Sd:=Sc.str
abbrev Se:=Sc.val
abbrev Sf:=Sc.nils
abbrev Sg:=Sc.ptr
abbrev Ca:=SV.cv
abbrev Cb:=SV.tup
abbrev Ka:=Kd.str
abbrev Kb:=Kd.bool
abbrev Kc:=Kd.oth
abbrev Kd0:=Kd.int
abbrev V29:=X6 29
abbrev J2:=[Vk,Ka,Ka]
abbrev V31:=X6 31
abbrev J4:=Eb 30 148 J2 V31
abbrev V34:=X6 34
abbrev J6:=[Vk,Kb,Kb,Kb,Kb,Vk,Vk,Vk,Vk,Ka,Ka,Ka,Kc,Kc]
abbrev J7:=Eb 21 148 J2 Xo
abbrev V25:=X6 25
abbrev V26:=X6 26
abbrev V27:=X6 27
abbrev V28:=X6 28
abbrev V30:=X6 30
abbrev V32:=X6 32
abbrev V33:=X6 33
abbrev Jf:=Ea 20 268 [Vs 25,Vb 26,Vb 27,Va 28,Va 30,Vi 32,Va 33]
abbrev V0:=X6 0
abbrev V1:=X6 1
abbrev V2:=X6 2
abbrev V16:=X6 16
abbrev V18:=X6 18
abbrev V7:=X6 7
abbrev Jm:=Ea 15 50 [Vs 0,Vb 1,Vb 2,Va 16,Va 18,Vi 7]
abbrev Jn:=Ea 14 50 [Vs 0,Vb 1,Vb 2,Va 16,Va 18,Vi 7]
abbrev V3:=X6 3
abbrev V5:=X6 5
abbrev Jq:=Ea 13 50 [Vs 0,Vb 1,Vb 2,Va 3,Va 5,Vi 7]
abbrev Jr:=Eb 12 66 J6 Xo
abbrev V24:=X6 24
abbrev V4:=X6 4
abbrev V6:=X6 6
abbrev Jv:=[Ec 3 J2 V4,Ec 5 J2 V6]
abbrev Jw:=Ea 9 50 [Vs 0,Vb 1,Vb 2,Va 3,Va 5,Vi 7]::Jv
abbrev Jx:=Ea 10 3 [Vi 24]::Jw
abbrev V19:=X6 19
abbrev Jz:=Eb 18 148 J2 V19
abbrev V17:=X6 17
abbrev J11:=Eb 16 148 J2 V17
abbrev N12:=X3 0
abbrev J13:=Ea 11 50 [Sd (X5 []),Sb (X4 false),Sb (X4 false),Sf,Sf,Sh N12]
abbrev J14:=J7::Ea 20 268 [Vs 0,Vb 1,Vb 2,Va 16,Va 18,Vi 7,Sf]::Jz::J11::Jm::Jn::Jq::Jr::J13::Jx
abbrev V22:=X6 22
abbrev N16:=X3 1
abbrev V23:=X6 23
abbrev N18:=X3 9223372036854775807
abbrev N19:=X3 (-9223372036854775808)
abbrev V35:=X6 35
abbrev J1b:=Eb 34 148 J2 V35
abbrev V37:=X6 37
abbrev J1d:=Eb 36 148 J2 V37
abbrev V40:=X6 40
abbrev J1f:=Ea 25 148 [Sh (Xi V17 V23 0),Sd (Xh V17 V23 1),Sd (Xh V17 V23 2)]
abbrev V36:=X6 36
abbrev V38:=X6 38
abbrev V39:=X6 39
abbrev J1j:=Ea 20 268 [Vs 31,Vb 32,Vb 33,Va 34,Va 36,Vi 38,Va 39]
abbrev J1k:=Xn (X5 []) X1
abbrev J1l:X:=.clrR V28 V26 (Xk N12 (Xn (X5 []) J1k))
abbrev J1m:=Eb 29 148 J2 V30
abbrev J1n:=Eb 31 148 J2 V32
abbrev J1o:=Ea 20 268 [Vs 26,Vb 27,Vb 28,Va 29,Va 31,Vi 33,Va 34]
abbrev N1p:=X3 (-1)
abbrev V8:=X6 8
abbrev J1r:=Ea 14 50 [Vs 0,Vb 1,Vb 2,Va 3,Va 5,Vi 7]
abbrev J1s:=Ea 15 50 [Sd (X5 []),Sb (X4 false),Sb (X4 false),Sf,Sf,Sh N12]::J1r::Jq::Jr::J13::Ea 10 3 [Vi 8]::Jw
abbrev J1t:=Te 123 [Vq [Va 3]] J1s [] [] [] [J11] (Vq [Va 16]) 2 (Te 123 [Vq [Va 5]] (J11::J1s) [] [] [] [Jz] (Vq [Va 18]) 2 (Tc (To Xu (Ti [N12,N12,V8] (Tb (Xc V23 (Xd V17)) (Ta (Xb N12 V23) (Tc (Tb (Xg (Xi V17 V23 0) V24) (Tb (Xg V23 N1p) (Te 224 [Vq [Sg 20 0]] (J1f::J14) [20] [16,18] [J1o] [J1m,J1n,Eb 34 66 J6 V35] (Cb []) 10 (Tf (Cb [(true,[Vs 26,Vb 27,Vb 28,Va 29,Va 31,Vi 33]),(false,[Va 34])]) (J1m::J1n::Eb 34 66 J6 V35::J1f::J7::J1o::Jm::Jn::Jq::Jr::Ea 11 50 [Vs 26,Vb 27,Vb 28,Va 29,Va 31,Vi 33]::Jx))) (Tt (Xa V23 N16) (Ti [V23,Xa V23 N16,V17,V24] (Tb (Xc V27 (Xd V28)) (Ta (Xb N12 V27) (Tc (Tc (Tb (Xe (Xg (Xi V28 V27 0) V29)) (Ta (Xb N12 V26) (Ta (Xc V26 (Xd V28)) (Tt (Xa V26 N16) (Tt (Xa V27 N16) (Th 1 [Xa V26 N16,Xa V27 N16,Xy V28 V26 (Xk (Xi V28 V27 0) (Xn (Xh V28 V27 1) (Xn (Xh V28 V27 2) X1))),V29]))))) (Tt (Xa V27 N16) (Th 1 [V26,Xa V27 N16,V28,V29])))))) (Ta (Xb N12 V26) (Ta (Xb V26 (Xd V28)) (Ta (Xb V26 (Xd J1l)) (Td (Te 224 [Vq [Sg 20 0]] (Eb 30 148 J2 (Xv J1l V26)::J1f::J7::Ea 20 268 [Vs 0,Vb 1,Vb 2,Va 30,Va 18,Vi 7,Sf]::Jz::Jm::Jn::Jq::Jr::J13::Ea 10 3 [Vi 29]::Jw) [20] [30,18] [J1j] [J1b,J1d,Eb 39 66 J6 V40] (Cb []) 10 (Tf (Cb [(true,[Vs 31,Vb 32,Vb 33,Va 34,Va 36,Vi 38]),(false,[Va 39])]) (J1b::J1d::Eb 39 66 J6 V40::J1f::J7::J1j::Jm::Jn::Jq::Jr::Ea 11 50 [Vs 31,Vb 32,Vb 33,Va 34,Va 36,Vi 38]::Ea 10 3 [Vi 29]::Jw))))))))))) (Tt (Xa V23 N16) (Th 0 [V22,Xa V23 N16,V24]))))) (Te 224 [Vq [Sg 20 0]] J14 [20] [16,18] [Jf] [Eb 28 148 J2 V29,J4,Eb 33 66 J6 V34] (Cb []) 10 (Tf (Cb [(true,[Vs 25,Vb 26,Vb 27,Va 28,Va 30,Vi 32]),(false,[Va 33])]) (Eb 28 148 J2 V29::J4::Eb 33 66 J6 V34::J7::Jf::Jm::Jn::Jq::Jr::Ea 11 50 [Vs 25,Vb 26,Vb 27,Va 28,Va 30,Vi 32]::Jx))))))))
abbrev V13:=X6 13
abbrev J1v:=Tf (Cb [(false,[Vs 13]),(false,[Sh N12])]) []
abbrev V14:=X6 14
abbrev V11:=X6 11
abbrev V10:=X6 10
abbrev J1z:=[Ka]
abbrev J20:=[Vk,Ka]
abbrev J21:=[Ec 4 J20 V5]
abbrev J22:=Ea 7 38 [Vi 0,Vi 1,Vi 2,Vs 3,Va 4,Vs 6]::J21
abbrev V9:=X6 9
abbrev V12:=X6 12
abbrev V15:=X6 15
abbrev J26:=[X4 false,N12]
abbrev J27:=Ti [N12,Xd V1] (Tb (Xc V3 V4) (Tt (Xa V3 V4) (Tt (.shr .u64 (.wrap .u64 (Xa V3 V4)) N16) (Ta (Xb N12 (.shr .u64 (.wrap .u64 (Xa V3 V4)) N16)) (Ta (Xc (.shr .u64 (.wrap .u64 (Xa V3 V4)) N16) (Xd V1)) (Tc (Ts 118 [Vq [Sd (Xh V1 (.shr .u64 (.wrap .u64 (Xa V3 V4)) N16) 0)],Vq [Vs 2]] [] (Vq [Vi 6]) 1 (Tb (Xc V6 N12) (Tt (Xa (.shr .u64 (.wrap .u64 (Xa V3 V4)) N16) N16) (Th 0 [Xa (.shr .u64 (.wrap .u64 (Xa V3 V4)) N16) N16,V4])) (Th 0 [V3,.shr .u64 (.wrap .u64 (Xa V3 V4)) N16])))))))) (Tb (Xc V3 (Xd V1)) (Ta (Xb N12 V3) (Tc (Ts 118 [Vq [Sd (Xh V1 V3 0)],Vq [Vs 2]] [] (Vq [Vi 6]) 1 (Tf (Cb [(false,[Vi 3]),(false,[Sb (Xg V6 N12)])]) [])))) (Tf (Cb [(false,[Vi 3]),(false,[Sb (X4 false)])]) [])))
abbrev J28:=[Ka,Ka,Vk]
abbrev J29:=Ec 0 J28 V1
abbrev J2a:=[J29]
abbrev J2b:=Tf (Vq [Sh N12]) []
abbrev J2c:=Tt (Xa V3 N16) (Th 0 [V2,Xa V3 N16])
abbrev N2d:=X3 4
abbrev J2e:=Tf (Vq [Sh N2d]) []
abbrev J2f:=Tf (Vq [Vi 5]) []
abbrev J2g:=[N12,N12]
abbrev N2h:=X3 2
abbrev J2i:=Tf (Vq [Sh N2h]) []
abbrev J2j:=[Kd0 .u8]
abbrev J2k:=[Vk]
abbrev J2l:=[Eb 9 5 J2j V10,Ea 0 162 [Va 8,Va 9],Ec 5 J2k V6]
abbrev J2m:=Ed 14
abbrev J2n:=Eb 2 5 J2j V3
abbrev J2o:=Ea 0 162 [Va 1,Va 2]
abbrev N2p:=X3 3
abbrev J2q:=Tf (Vq [Sh N2p]) []
abbrev N2r:=X3 65535
abbrev J2s:=Tf (Vq [Sh N16]) []
abbrev J2t:=[Ka,Vk]
abbrev J2u:=[Ec 12 J2t V13,Ec 14 J2k V15]
abbrev J2v:=Xx Xo V1
abbrev J2w:=[Vk,Ka,Ka,Vk]
abbrev J2x:=[Ec 0 J2w V1]
abbrev N2y:=X3 2932031007402
abbrev N2z:=X3 3518437208883
abbrev J30:=Tf (Vq [Sb (X4 true)]) []
abbrev J31:=Tf (Vq [Sb (X4 false)]) []
abbrev N32:=X3 16777215
abbrev V20:=X6 20
abbrev J34:=Eb 17 148 J2 V18
abbrev J35:=Ea 16 50 [Vs 0,Vb 1,Vb 2,Va 17,Va 19,Vi 7]
abbrev J36:=Ea 15 50 [Vs 0,Vb 1,Vb 2,Va 17,Va 19,Vi 7]
abbrev J37:=Eb 13 66 J6 Xo
abbrev J38:=Ea 11 50 [Vs 0,Vb 1,Vb 2,Va 3,Va 5,Vi 7]
abbrev J39:=Eb 19 148 J2 V20::J34::J35::J36::J1r::J37::Ea 12 50 [Vs 0,Vb 1,Vb 2,Va 17,Va 19,Vi 7]::J38::Jv
abbrev J3a:=Xk N12 (Xn V8 (Xn V9 X1))
abbrev J3b:=Eb 22 148 J2 (Xj Xo J3a)
abbrev J3c:=Ea 21 268 [Vs 24,Vb 25,Vb 26,Va 27,Va 29,Vi 31,Va 32]
abbrev J3d:=Ea 12 50 [Sd (X5 []),Sb (X4 false),Sb (X4 false),Sf,Sf,Sh N12]
abbrev J3e:=J1r::J37::J3d::J38::Jv
abbrev N3f:=X3 6
abbrev J3g:=Xt Xu (Xt Xu X1)
abbrev J3h:=Xj Xo (Xk N2p (Xm (X4 false) (Xm (X4 false) (Xm (X4 false) (Xm (X4 false) (Xk N12 (Xk N12 (Xk N12 (Xk N12 (Xn (X5 []) (Xn V8 (Xn V9 J3g))))))))))))
abbrev N3i:=X3 977343669134
abbrev J3j:=Ea 16 50 [Sd (X5 []),Sb (X4 false),Sb (X4 false),Sf,Sf,Sh N12]::Ea 15 50 [Vs 0,Vb 1,Vb 2,Va 3,Va 5,Vi 7]::J3e
abbrev J3k:=Te 123 [Vq [Va 3]] J3j [] [] [] [J34] (Vq [Va 17]) 2 (Te 123 [Vq [Va 5]] (J34::J3j) [] [] [] [Eb 19 148 J2 V20] (Vq [Va 19]) 2 (Tc (Tb (Xf (Xg V10 N12) V1) (Td (To Xu (Ta (Xb (Xa (Xd Xo) (Xd J3h)) N3i) (Td (Tf (Cb [(true,[Vs 0,Vb 1,Vb 2,Va 17,Va 19,Vi 7]),(false,[Va 24])]) (Eb 24 66 J6 J3h::Eb 22 66 J6 J3h::Ea 21 268 [Vs 0,Vb 1,Vb 2,Va 17,Va 19,Vi 7,Va 24]::J39)))))) (Tb (Xf (Xf (Xg V10 N16) (Xp V1 (Xe V2))) (Xc (Xd V20) N3f)) (Td (Ta (Xb (Xa (Xd V20) (Xd (Xj Xo J3a))) N2z) (Td (Te 224 [Vq [Sg 21 0]] (Eb 23 148 J2 (Xj V20 J3a)::J3b::Ea 21 268 [Vs 0,Vb 1,Vb 2,Va 17,Va 23,Vi 7,Sf]::J34::J35::J36::J3e) [21] [17,23] [J3c] [Eb 27 148 J2 V28,J1m,Eb 32 66 J6 V33] (Cb []) 10 (Tf (Cb [(true,[Vs 24,Vb 25,Vb 26,Va 27,Va 29,Vi 31]),(false,[Va 32])]) (Eb 27 148 J2 V28::J1m::Eb 32 66 J6 V33::J3b::J3c::J35::J36::J1r::J37::Ea 12 50 [Vs 24,Vb 25,Vb 26,Va 27,Va 29,Vi 31]::J38::Jv)))))) (Tf (Cb [(true,[Vs 0,Vb 1,Vb 2,Va 17,Va 19,Vi 7]),(false,[Sf])]) (Ea 21 268 [Vs 0,Vb 1,Vb 2,Va 17,Va 19,Vi 7,Sf]::J39))))))
abbrev V56:=X6 56
abbrev V53:=X6 53
abbrev V51:=X6 51
abbrev V50:=X6 50
abbrev V49:=X6 49
abbrev V48:=X6 48
abbrev V47:=X6 47
abbrev V46:=X6 46
abbrev V45:=X6 45
abbrev V44:=X6 44
abbrev V43:=X6 43
abbrev V42:=X6 42
abbrev V41:=X6 41
abbrev V52:=X6 52
abbrev V54:=X6 54
abbrev J40:=Ec 35 J2t V36::Ec 37 J2k V38::Ec 18 J6 V19::Ed 22::J2u
abbrev V55:=X6 55
abbrev V21:=X6 21
abbrev J43:=Eb 5 95 J28 V6
abbrev J44:=Eb 4 95 J28 Xo
abbrev J45:=Eb 7 95 J28 Xo::J43::J44::Ea 3 9 [Vs 10]::J2a
abbrev J46:=Xk N12 X1
abbrev J47:=Xn (X5 []) (Xn (X5 []) J46)
abbrev J48:=Ea 11 95 [Sd (Xh V6 V9 0),Sd (Xh V6 V9 1),Sh (Xi V6 V9 2)]
abbrev J49:=Ec 11 J2 V12
abbrev J4a:=[Ec 3 J2 V4,Ec 5 J2 V6,J49,Ec 13 J2 V14]
abbrev J4b:=Ea 17 50 [Vs 8,Vb 9,Vb 10,Va 11,Va 13,Vi 15]::Ea 16 50 [Vs 0,Vb 1,Vb 2,Va 3,Va 5,Vi 7]::J4a
abbrev J4c:=Ea 8 50 [Vs 0,Vb 1,Vb 2,Va 3,Va 5,Vi 7]
abbrev J4d:=J4c::Jv
abbrev J4e:=Tf (Cb [(false,[Sh N12]),(false,[Sh (X3 5)])]) []
abbrev J4f:=[Ea 0 86 [Vs 1,Vb 2]]
abbrev N4g:=X3 8
abbrev N4h:=X3 9
abbrev J4i:=Ea 18 196 [Sg 4 0]
abbrev J4j:=Ea 17 192 [Sg 0 0]
abbrev V57:=X6 57
abbrev J4l:=[Eb 54 105 J2t V55,Eb 56 3 J2k V57]
abbrev J4m:=J4i::J4j::Ea 0 194 [Vs 39,Vi 40,Vb 41]::Ea 4 66 [Vi 42,Vb 43,Vb 44,Vb 45,Vb 46,Vi 47,Vi 48,Vi 49,Vi 50,Vs 51,Vs 52,Vs 53,Va 54,Va 56]::J4l
abbrev V58:=X6 58
abbrev V59:=X6 59
abbrev V60:=X6 60
abbrev V61:=X6 61
abbrev V62:=X6 62
abbrev V63:=X6 63
abbrev V64:=X6 64
abbrev V65:=X6 65
abbrev V66:=X6 66
abbrev V67:=X6 67
abbrev V68:=X6 68
abbrev V69:=X6 69
abbrev V70:=X6 70
abbrev V71:=X6 71
abbrev V72:=X6 72
abbrev V73:=X6 73
abbrev V75:=X6 75
abbrev V74:=X6 74
abbrev V76:=X6 76
abbrev J56:=[Ea 4 66 [Vi 61,Vb 62,Vb 63,Vb 64,Vb 65,Vi 66,Vi 67,Vi 68,Vi 69,Vs 70,Vs 71,Vs 72,Va 73,Va 75],Eb 73 105 J2t V74,Eb 75 3 J2k V76]
abbrev J57:=J4i::J4j::Ea 0 194 [Vs 58,Vi 59,Vb 60]::J56
abbrev V78:=X6 78
abbrev V79:=X6 79
abbrev V80:=X6 80
abbrev V82:=X6 82
abbrev V77:=X6 77
abbrev N5d:=X3 17592186044416
abbrev J5e:=Td (Ta (Xb (Xa (Xd V76) (Xd (Xj Xo (Xk V77 X1)))) N5d) (Td (Th 0 [V78,V79,V80,V61,V62,V63,V64,V65,V66,V67,V68,V69,V70,V71,V72,V73,V74,V82,Xj V76 (Xk V77 X1)])))
abbrev J5f:=Ea 0 194 [Vs 78,Vi 79,Vb 80]
abbrev J5g:List X:=[V39,V40,V41,V42,V43,V44,V45,V46,V47,V48,V49,V50,V51,V52,V53,V54,V55,V56,V57]
abbrev V83:=X6 83
abbrev N5i:=X3 5864062014805
abbrev V84:=X6 84
abbrev V85:=X6 85
abbrev V87:=X6 87
abbrev J5m:=Ti J5g (Tb (Xf (Xc V59 (Xq V58)) (Xe V60)) (Te 167 [Vq [Sg 0 0]] J57 [0] [] [J5f] [] (Vq [Vs 77]) 4 (Tc (Tb (Xg V61 N4g) (Te 166 [Vq [Sg 0 0],Vq [Sh N16]] (Ea 81 105 [Vs 77,Sh N12]::J4i::J4j::J5f::J56) [0] [] [Ea 0 194 [Vs 83,Vi 84,Vb 85]] [] (Vq [Vi 82]) 4 (Td (Ta (Xb (Xa (Xd V74) (Xd (Xj Xo (Xn V77 (Xk V82 X1))))) N5i) (Td (Th 0 [V83,V84,V85,V61,V62,V63,V64,V65,V66,V67,V68,V69,V70,V71,V72,V87,Xj V74 (Xn V77 (Xk V82 X1)),V75,V76]))))) (Td (Ta (Xb (Xa (Xd V74) (Xd (Xj Xo (Xn V77 J46)))) N5i) (Td (Th 0 [V78,V79,V80,V61,V62,V63,V64,V65,V66,V67,V68,V69,V70,V71,V72,V83,Xj V74 (Xn V77 J46),V75,V76]))))))) (Tf (Cb []) J57))
abbrev J5n:=Ea 0 194 [Vs 59,Vi 60,Vb 61]
abbrev J5o:List X:=[V29,V30,V31,V32,V33,V34,V35,V36,V37]
abbrev J5p:=Tk 0 (V19::V20::V21::V22::V23::V24::V25::V26::V27::V28::J5o)
abbrev J5q:=Ea 0 194 [Vs 19,Vi 20,Vb 21]
abbrev J5r:=Ea 4 66 [Vi 22,Vb 23,Vb 24,Vb 25,Vb 26,Vi 27,Vi 28,Vi 29,Vi 30,Vs 31,Vs 32,Vs 33,Va 34,Va 36]
abbrev J5s:=[Eb 34 105 J2t V35,Eb 36 3 J2k V37]
abbrev J5t:=J4i::J4j::J5q::J5r::J5s
abbrev J5u:List X:=[V14,V15,V16,Xu,Xo,Xu,Xo]
abbrev J5v:=Ea 0 194 [Vs 20,Vi 21,Vb 22]
abbrev J5w:=Ea 0 194 [Vs 1,Vi 2,Vb 3]
abbrev J5x:=[Ea 4 66 [Vi 5,Vb 6,Vb 7,Vb 8,Vb 9,Vi 10,Vi 11,Vi 12,Vi 13,Vs 14,Vs 15,Vs 16,Sf,Sf]]
abbrev J5y:=J4i::J4j::J5w::J5x
abbrev J5z:=Ea 31 66 [Vi 13,Vb 14,Vb 15,Vb 16,Vb 17,Vi 18,Vi 19,Vi 20,Vi 21,Vs 22,Vs 23,Vs 24,Va 25,Va 27]
abbrev J60:=Ec 25 J2t V26
abbrev J61:=Ec 27 J2k V28
abbrev J62:=Ed 12
abbrev J63:=[J62,Eb 10 66 J6 V11,Eb 5 66 J6 V6]
abbrev J64:=Xk V13 (Xm V14 (Xm V15 (Xm V16 (Xm V17 (Xk V18 (Xk V19 (Xk V20 (Xk V21 (Xn V22 (Xn V23 (Xn V24 (Xt V25 (Xt V27 X1)))))))))))))
abbrev J65:=J44::J2a
abbrev J66:=Xk N16 X1
abbrev J67:=J43::J65
abbrev J68:=Xy V6 V7 (Xn (Xh V6 V7 0) (Xn V3 (Xk (Xi V6 V7 2) X1)))
abbrev N69:=X3 200
abbrev J6a:=Tf (Vq [Sh N3f]) []
abbrev J6b:=Xw (Xv V1 V3) N12
abbrev J6c:=Tt (Xa V19 N16) (Th 0 [V18,Xa V19 N16])
abbrev J6d:=Tf (Vq [Vi 17]) []
abbrev J6e:=Tt (Xa V5 N16) (Th 0 [V4,Xa V5 N16])
abbrev J6f:=Ea 20 66 [Vi 4,Vb 5,Vb 6,Vb 7,Vb 8,Vi 9,Vi 10,Vi 11,Vi 12,Vs 13,Vs 14,Vs 15,Va 16,Va 18]
abbrev J6g:=Ec 16 J2t V17
abbrev J6h:=[J6g,Ec 18 J2k V19]
abbrev J6i:=Ed 30::Eb 36 5 J2j V37::J6f::Ea 0 162 [Va 35,Va 36]::J6h
abbrev J6j:=Ea 38 105 [Sd (Xh V17 V34 0),Sh (Xi V17 V34 1)]
abbrev J6k:=Eb 26 5 J2j V27
abbrev J6l:=Ea 0 162 [Va 25,Va 26]::J6h
abbrev J6m:=Eb 22 5 J2j V23
abbrev J6n:=Ea 0 162 [Va 21,Va 22]::J6h
abbrev J6o:=J6f::J2n::J2o::J6h
abbrev J6p:=Tb V8 (Td (Te 139 [Vq [Sg 0 0],Vq [Sh N16],Vq [Va 21]] (Eb 21 3 J2k (Xj (Xj Xo J66) (Xk V12 X1))::J6o) [0] [2] [Ea 0 162 [Va 22,Va 23]] [Eb 23 5 J2j V24] (Cb []) 3 (Tk 0 [V22,V23,V24]))) (Td (Te 139 [Vq [Sg 0 0],Vq [Sh N16],Vq [Va 21]] (Eb 21 3 J2k (Xj (Xj Xo J46) (Xk V12 X1))::J6o) [0] [2] [Ea 0 162 [Va 22,Va 23]] [Eb 23 5 J2j V24] (Cb []) 3 (Tk 0 [V22,V23,V24])))
abbrev J6q:=Eb 30 5 J2j V31
abbrev J6r:=Eb 28 3 J2k (Xj Xo (Xk V11 X1))
abbrev J6s:=Eb 24 3 J2k (Xj (Xj Xo (Xk N2d X1)) J46)
abbrev J6t:=J6f::Ea 0 162 [Va 29,Va 30]::J6h
abbrev J6u:=Eb 24 3 J2k (Xj (Xj Xo (Xk N2d X1)) (Xk N2h X1))
abbrev J6v:=Eb 13 148 J2 V14
abbrev J6w:=Ea 10 50 [Vs 0,Vb 1,Vb 2,Va 3,Va 5,Vi 7]
abbrev J6x:=Ea 9 50 [Sd (X5 []),Sb (X4 false),Sb (X4 false),Sf,Sf,Sh N12]
abbrev J6y:=J3d::J38::J6w::J6x::J4d
abbrev J6z:=Te 123 [Vq [Va 3]] J6y [] [] [] [J6v] (Vq [Va 13]) 2 (Te 123 [Vq [Va 5]] (J6v::J6y) [] [] [] [Eb 15 148 J2 V16] (Vq [Va 15]) 2 (Tc (Tb V2 (Tf (Cc [Vs 0,Sb (X4 false),Vb 2,Sf,Sf,Vi 7]) []) (Tf (Cc [Vs 0,Sb (X4 false),Vb 2,Va 13,Va 15,Vi 7]) (Ea 17 268 [Vs 0,Sb (X4 false),Vb 2,Va 13,Va 15,Vi 7,Sf]::Eb 15 148 J2 V16::J6v::Ea 12 50 [Vs 0,Vb 1,Vb 2,Va 13,Va 15,Vi 7]::Ea 11 50 [Vs 0,Vb 1,Vb 2,Va 13,Va 15,Vi 7]::J6w::Ea 9 50 [Vs 0,Sb (X4 false),Vb 2,Va 13,Va 15,Vi 7]::J4d)))))
abbrev J70:=Eb 7 97 J2w V8
abbrev J71:=Eb 6 97 J2w Xo
abbrev J72:=Eb 9 97 J2w Xo::J70::J71::Ea 5 9 [Vs 12]::Ea 4 3 [Vi 13]::J2x
abbrev J73:X:=.clrR V18 V16 (Xk N12 J47)
abbrev J74:=Ea 15 97 [Sh (Xi V8 V11 0),Sd (Xh V8 V11 1),Sd (Xh V8 V11 2),Sh (Xi V8 V11 3)]
abbrev J75:=Ea 14 97 [Sh (Xi V8 V11 0),Sd (Xh V8 V11 1),Sd (Xh V8 V11 2),Sh (Xi V8 V11 3)]
abbrev J76:=Ta (Xp (Xe (Xc N12 V3)) (Xb N19 (X2 V3 N16))) (Ta (Xp (Xe (Xc N12 V3)) (Xb (X2 V3 N16) N18)) (Ta (Xp (Xe (Xc N12 V3)) (Xb N12 (X2 V3 N16))) (Ta (Xp (Xe (Xc N12 V3)) (Xc (X2 V3 N16) (Xd V1))) (Tb (Xf (Xc N12 V3) (Xp (.less (Xh V1 V3 0) (Xh V1 (X2 V3 N16) 0)) (Xz (Xh V1 V3 0) (Xh V1 (X2 V3 N16) 0)))) J2e J2c))))
abbrev J77:=Xy V9 V7 (.consI .u8 (Xi V9 V8 0) X1)
abbrev J78:X:=.consI .u8 (.wrap .u8 V3) X1
abbrev N79:=X3 140737488355328
abbrev J7a:X:=.consI .u8 (.wrap .u8 V2) X1
abbrev N7b:=X3 128
abbrev J7c:X:=.consI .u8 (.wrap .u8 (.bits .or .i64 (.bits .and .i64 V2 (X3 127)) N7b)) X1
abbrev J7d:=Ea 18 268 [Vs 28,Vb 29,Vb 30,Va 31,Va 33,Vi 35,Va 36]
abbrev J7e:=Ea 13 50 [Vs 0,Vb 1,Vb 2,Va 14,Va 16,Vi 7]
abbrev J7f:=Ea 12 50 [Vs 0,Vb 1,Vb 2,Va 14,Va 16,Vi 7]
abbrev J7g:=Eb 10 66 J6 Xo
abbrev J7h:=Eb 23 148 J2 V24
abbrev J7i:=Eb 14 148 J2 V15
abbrev J7j:=Xk N2p (Xm (X4 true) (Xm (X4 false) (Xm (X4 false) (Xm (X4 false) (Xk N16 (Xk (Xi V15 V19 0) (Xk N12 (Xk N12 (Xn (X5 []) (Xn (Xh V15 V19 1) (Xn (Xh V15 V19 2) J3g)))))))))))
abbrev J7k:=Ea 13 50 [Sd (X5 []),Sb (X4 false),Sb (X4 false),Sf,Sf,Sh N12]::Ea 12 50 [Vs 0,Vb 1,Vb 2,Va 3,Va 5,Vi 7]::J38::J7g::J6x::J4d
abbrev J7l:=Te 123 [Vq [Va 3]] J7k [] [] [] [J7i] (Vq [Va 14]) 2 (Te 123 [Vq [Va 5]] (J7i::J7k) [] [] [] [J11] (Vq [Va 16]) 2 (Tc (Ti [N12,V0,X4 true,V2,V16,V17,V7,Xu,Xo] (Tb (Xc V19 (Xd V15)) (Ta (Xb N12 V19) (Tc (Tc (Td (Ta (Xb (Xa (Xd V27) (Xd (Xj Xo J7j))) N3i) (Td (Tt (Xa V19 N16) (Th 0 [Xa V19 N16,V20,V21,V22,V23,V24,V25,V31,Xj V27 J7j])))))))) (Te 224 [Vq [Sg 18 0]] [Ea 18 268 [Vs 20,Vb 21,Vb 22,Va 14,Va 23,Vi 25,Va 26],J7h,J7i,J7e,J7f,J38,J7g,J6x,J4c,Ec 3 J2 V4,Ec 5 J2 V6,Eb 26 66 J6 V27] [18] [14,23,26] [J7d] [J1n,Eb 33 148 J2 V34,Eb 36 66 J6 V37] (Cb []) 10 (Tf (Cb [(true,[Vs 28,Vb 29,Vb 30,Va 31,Va 33,Vi 35]),(false,[Va 36])]) (J1n::Eb 33 148 J2 V34::Eb 36 66 J6 V37::J7d::J7e::J7f::J38::J7g::Ea 9 50 [Vs 28,Vb 29,Vb 30,Va 31,Va 33,Vi 35]::J4d)))))))
abbrev J7m:=Ea 14 38 [Vi 0,Vi 1,Vi 2,Vs 3,Va 15,Vs 6]
abbrev J7n:=Ea 13 38 [Vi 0,Vi 1,Vi 2,Vs 3,Va 15,Vs 6]
abbrev J7o:=[Ea 10 38 [Vi 0,Vi 1,Vi 2,Vs 3,Va 4,Vs 6],Ec 4 J20 V5,Ec 8 J1z V9]
abbrev J7p:=Ea 12 38 [Sh N12,Sh N12,Sh N12,Sd (X5 []),Sf,Sd (X5 [])]
abbrev J7q:=Xk V33 (Xn (Xh V9 V40 0) X1)
abbrev J7r:=Tk 0 [N12,N12,N12,N12,N12,N12,N12,N12,N12,N12,V15,V21,V16]
abbrev J7s:X:=.clrR V25 V23 (Xk N12 J1k)
abbrev J7t:List X:=[V23,Xa V24 N16,V25,V26]
abbrev J7u:=Ta (Xb V10 (Xd V4)) (Td (Ts 181 [Vq [Va 14],Vq [Sh (Xi V4 V10 0)]] (Ec 14 J2 (Xw (Xv V4 V10) N12)::Ea 11 148 [Sh (Xi V4 V10 0),Sd (Xh V4 V10 1),Sd (Xh V4 V10 2)]::J4d) (Vq [Vb 15]) 1 (Tb V15 J6a (Tt (Xa V10 N16) (Th 0 [V9,Xa V10 N16])))))
abbrev J7v:=Tf (Vq [Vb 6]) []
abbrev J7w:=[Ec 2 J1z V3]
abbrev J7x:=[Ka,Ka]
abbrev J7y:=[Eb 2 80 J7x Xo,Ec 0 J7x V1]
abbrev J7z:=Eb 22 105 J2t V23
abbrev J80:=Eb 24 3 J2k V25
abbrev J81:=Ea 6 194 [Vs 7,Vi 8,Vb 9]
abbrev J82:=Ea 5 66 [Vi 10,Vb 11,Vb 12,Vb 13,Vb 14,Vi 15,Vi 16,Vi 17,Vi 18,Vs 19,Vs 20,Vs 21,Va 22,Va 24]
abbrev J83:=[Ea 1 66 [Sh N12,Sb (X4 false),Sb (X4 false),Sb (X4 false),Sb (X4 false),Sh N12,Sh N12,Sh N12,Sh N12,Sd (X5 []),Sd (X5 []),Sd (X5 []),Sf,Sf]]
abbrev J84:=J7z::J80::J81::J82::J83
abbrev J85:=Tf (Cb [(true,[Sh N12,Sb (X4 false),Sb (X4 false),Sb (X4 false),Sb (X4 false),Sh N12,Sh N12,Sh N12,Sh N12,Sd (X5 []),Sd (X5 []),Sd (X5 []),Sf,Sf]),(false,[Sh N16])]) []
abbrev J86:=Tq (Xe V9) 93 [Vq [Vi 10]] [] (Vq [Vb 26]) 1 (Tq (Xe (Xp (Xp V9 (Xe V26)) (Xc N16 V15))) 49 [Cc [Vi 10,Vb 11,Vb 12,Vb 13,Vb 14,Vi 15,Vi 16,Vi 17,Vi 18,Vs 19,Vs 20,Vs 21,Va 22,Va 24]] J84 (Vq [Vs 27]) 1 (Tb (Xp (Xp (Xp V9 (Xe V26)) (Xc N16 V15)) (Xe (Xz V27 V0))) J85 (Ts 48 [Cc [Vi 10,Vb 11,Vb 12,Vb 13,Vb 14,Vi 15,Vi 16,Vi 17,Vi 18,Vs 19,Vs 20,Vs 21,Va 22,Va 24]] J84 (Vq [Vi 28]) 1 (Tb (Xe (Xg V28 N12)) (Tf (Cb [(true,[Sh N12,Sb (X4 false),Sb (X4 false),Sb (X4 false),Sb (X4 false),Sh N12,Sh N12,Sh N12,Sh N12,Sd (X5 []),Sd (X5 []),Sd (X5 []),Sf,Sf]),(false,[Vi 28])]) []) (Tf (Cb [(true,[Vi 10,Vb 11,Vb 12,Vb 13,Vb 14,Vi 15,Vi 16,Vi 17,Vi 18,Vs 19,Vs 20,Vs 21,Va 22,Va 24]),(false,[Sh N12])]) [J7z,J80,J81,J82,Ea 1 66 [Vi 10,Vb 11,Vb 12,Vb 13,Vb 14,Vi 15,Vi 16,Vi 17,Vi 18,Vs 19,Vs 20,Vs 21,Va 22,Va 24]])))))
abbrev J87:=Ea 6 194 [Vs 0,Sh (Xa N16 V3),Sb (X4 false)]
abbrev J88:=Xk V2 (Xn V3 (Xn V4 (Xk V5 X1)))
abbrev J89:=Eb 7 97 J2w Xo::Ea 6 97 [Vi 2,Vs 3,Vs 4,Vi 5]::J2x
abbrev J8a:=Eb 8 97 J2w (Xj Xo J88)::J89
abbrev J8b:=Eb 11 97 J2w (Xj V10 J88)::J8a
abbrev J8c:=Eb 11 97 J2w (Xj V9 J88)::Eb 10 97 J2w (Xj Xo J88)::J89
abbrev J8d:=Te 212 [Vq [Va 0],Vq [Vi 2],Vq [Vs 3]] J89 [] [] [] [Eb 8 97 J2w V9] (Vq [Va 8]) 2 (Td (Ta (Xb (Xa (Xd V9) (Xd (Xj Xo J88))) N2y) (Td (Tb (Xc (X3 12) (Xd (Xj V9 J88))) (To Xu (Tf (Cb [(false,[Va 12]),(false,[Sh N2h])]) (Eb 12 97 J2w Xo::J8c))) (Tf (Cb [(false,[Va 11]),(false,[Sh N12])]) J8c)))))
abbrev J8e:=Ea 16 66 [Vi 0,Vb 1,Vb 2,Vb 3,Vb 4,Vi 5,Vi 6,Vi 7,Vi 8,Vs 9,Vs 10,Vs 11,Va 12,Va 14]::J2u
abbrev J8f:=Ts 136 [Cc [Vi 0,Vb 1,Vb 2,Vb 3,Vb 4,Vi 5,Vi 6,Vi 7,Vi 8,Vs 9,Vs 10,Vs 11,Va 12,Va 14]] J8e (Vq [Vi 17]) 1 J6d
abbrev J8g:=Ea 0 194 [Vs 34,Vi 35,Vb 36]
abbrev J8h:=Ea 0 194 [Vs 30,Vi 31,Vb 32]
abbrev J8i:=Ea 0 194 [Vs 26,Vi 27,Vb 28]
abbrev J8j:=Ea 0 194 [Vs 22,Vi 23,Vb 24]
abbrev J8k:=Ea 0 194 [Vs 18,Vi 19,Vb 20]
abbrev J8l:=[Ea 0 86 [Vs 5,Vb 6]]
abbrev J8m:=Tf (Cb [(false,[Sh N12]),(false,[Sh N4g])]) []
abbrev J8n:=[Eb 4 148 J2 V5,Eb 6 148 J2 V7,Eb 9 66 J6 V10,Ea 0 268 [Vs 1,Vb 2,Vb 3,Va 4,Va 6,Vi 8,Va 9]]
abbrev J8o:=Xk N2p (Xm (X4 false) (Xm (X4 false) (Xm (X4 false) (Xm (X4 false) (Xk N16 (Xk V12 (Xk N12 (Xk N12 (Xn (X5 []) (Xn (Xh V7 N12 1) (Xn (Xh V7 N12 2) J3g)))))))))))
abbrev J8p:=Ea 17 148 [Vi 12,Sd (Xh V7 N12 1),Sd (Xh V7 N12 2)]
abbrev J8q:=Xk V12 (Xn (Xh V7 N12 1) (Xn (Xh V7 N12 2) X1))
abbrev J8r:=Eb 15 148 J2 (Xj Xo J8q)
abbrev J8s:=Ea 11 148 [Vi 12,Sd (Xh V7 N12 1),Sd (Xh V7 N12 2)]
abbrev J8t:=[Eb 28 66 J6 V29,Eb 18 66 J6 (Xj Xo J8o),J8p,J7h,J8r,Ec 25 J2 V26,J8s,Ec 6 J2 V7,Ea 0 268 [Vs 20,Vb 21,Vb 22,Va 23,Va 25,Vi 27,Va 28]]
abbrev J8u:=Xk V31 (Xn (Xh V26 N12 1) (Xn (Xh V26 N12 2) X1))
abbrev J8v:=Xk N2p (Xm (X4 false) (Xm (X4 false) (Xm (X4 false) (Xm (X4 false) (Xk N16 (Xk V31 (Xk N12 (Xk N12 (Xn (X5 []) (Xn (Xh V26 N12 1) (Xn (Xh V26 N12 2) J3g)))))))))))
abbrev J8w:=Ec 16 J20 V17
abbrev J8x:=Ea 9 38 [Sh (.bits .and .i64 (.shr .i64 V3 N2d) N2p),Vi 6,Vi 10,Vs 13,Va 16,Sd (X5 [])]
abbrev J8y:=Ea 2 86 [Vs 18,Vb 19]
abbrev J8z:=[Ea 1 38 [Sh N12,Sh N12,Sh N12,Sd (X5 []),Sf,Sd (X5 [])]]
abbrev J90:=Tf (Cb [(true,[Sh N12,Sh N12,Sh N12,Sd (X5 []),Sf,Sd (X5 [])]),(false,[Sh N16])]) []
abbrev J91:=Ea 9 38 [Sh (.bits .and .i64 (.shr .i64 V3 N2d) N2p),Vi 6,Vi 10,Vs 13,Va 16,Vs 21]
abbrev J92:=Ea 2 86 [Vs 21,Sb (Xp V22 (Xz V21 (X5 [])))]
abbrev J93:=Tf (Vq [Sh (.bits .or .i64 (.shl .i64 V0 N2d) N2h)]) []
abbrev J94:=Tb V2 (Tf (Vq [Sh (.bits .or .i64 (.shl .i64 V0 N2d) (.bits .or .i64 (.bits .or .i64 N12 (.shl .i64 V5 N16)) N16))]) []) (Tf (Vq [Sh (.bits .or .i64 (.shl .i64 V0 N2d) (.bits .or .i64 (.bits .or .i64 N12 (.shl .i64 V5 N16)) N12))]) [])
abbrev J95:=Tb V2 (Tf (Vq [Sh (.bits .or .i64 (.shl .i64 V0 N2d) (.bits .or .i64 (.bits .or .i64 N4g (.shl .i64 V5 N16)) N16))]) []) (Tf (Vq [Sh (.bits .or .i64 (.shl .i64 V0 N2d) (.bits .or .i64 (.bits .or .i64 N4g (.shl .i64 V5 N16)) N12))]) [])
abbrev J96:=Tb V1 J95 J94
abbrev J97:=Eb 4 97 J2w Xo::Eb 3 97 J2w Xo::J2x
abbrev J98:=Xy V11 V10 (Xk (Xi V11 V10 0) (Xn (Xh V11 V10 1) (Xn (Xh V11 V10 2) (Xk (.bits .and .i64 (Xa (Xi V11 V10 3) N16) N32) X1))))
abbrev J99:=Xk (Xi J98 V10 0) (Xn (Xh J98 V10 1) (Xn (Xh J98 V10 2) (Xk (Xi J98 V10 3) X1)))
abbrev J9a:=Tf (Cb [(false,[Sh N12]),(false,[Sh N12]),(false,[Sh N16])]) []
abbrev J9b:=Ec 2 J28 V3
abbrev J9c:=[Eb 2 121 J20 Xo,Ec 0 J20 V1]
abbrev J9d:=Eb 3 121 J20 Xo
abbrev J9e:=Tf (Cc [Vi 0,Vb 1,Vb 2,Vb 3,Vb 4,Vi 5,Sh N12,Vi 7,Vi 8,Vs 9,Vs 10,Vs 11,Sf,Va 14]) (Ea 17 66 [Vi 0,Vb 1,Vb 2,Vb 3,Vb 4,Vi 5,Sh N12,Vi 7,Vi 8,Vs 9,Vs 10,Vs 11,Sf,Va 14]::Ea 16 66 [Vi 0,Vb 1,Vb 2,Vb 3,Vb 4,Vi 5,Sh N12,Vi 7,Vi 8,Vs 9,Vs 10,Vs 11,Sf,Va 14]::J2u)
abbrev J9f:=Tf (Cc [Vi 0,Vb 1,Vb 2,Vb 3,Vb 4,Vi 5,Sh N12,Vi 7,Vi 8,Vs 9,Vs 10,Vs 11,Va 12,Va 14]) (Ea 17 66 [Vi 0,Vb 1,Vb 2,Vb 3,Vb 4,Vi 5,Sh N12,Vi 7,Vi 8,Vs 9,Vs 10,Vs 11,Va 12,Va 14]::Ea 16 66 [Vi 0,Vb 1,Vb 2,Vb 3,Vb 4,Vi 5,Sh N12,Vi 7,Vi 8,Vs 9,Vs 10,Vs 11,Va 12,Va 14]::J2u)
abbrev J9g:=Ec 30 J2t V31::Ec 32 J2k V33::J8e
abbrev J9h:=Ts 99 [Cc [Vi 0,Vb 1,Vb 2,Vb 3,Vb 4,Vi 5,Vi 6,Vi 7,Vi 8,Vs 9,Vs 10,Vs 11,Va 12,Va 14]] J9g (Vq [Vi 36]) 1 (Tf (Vq [Vi 36]) [])
abbrev J9i:=Ts 99 [Cc [Vi 0,Vb 1,Vb 2,Vb 3,Vb 4,Vi 5,Vi 6,Vi 7,Vi 8,Vs 9,Vs 10,Vs 11,Va 12,Va 14]] J9g (Vq [Vi 37]) 1 (Tf (Vq [Vi 37]) [])
abbrev J9j:=Ea 9 107 [Vs 2,Vs 3,Vi 4]
abbrev J9k:=Eb 6 107 J28 Xo::Ea 5 107 [Vs 2,Vs 3,Vi 4]::J2a
abbrev J9l:=Xn V2 (Xn V3 (Xk V4 X1))
abbrev J9m:=J9j::Eb 7 107 J28 V8::J9k
abbrev J9n:=Eb 14 107 J28 V15
abbrev J9o:=Ea 17 162 [Va 24,Va 25]
abbrev J9p:=Ea 17 162 [Va 18,Va 19]
abbrev J9q:=Eb 19 5 J2j V20::J9p::J8e
abbrev J9r:=Eb 5 121 J20 V6
abbrev J9s:=[J9r,J9d,Ea 0 86 [Vs 8,Vb 9]]
abbrev J9t:=Xk (Xa V7 V13) (Xn V19 X1)
abbrev J9u:=Xw (Xv V1 (Xd V1)) N16
abbrev J9v:=Xw (Xv V3 (Xd V3)) N16
abbrev J9w:=Ec 0 J1z V1::J7w
abbrev J9x:=Ed 38
abbrev J9y:=Eb 45 97 J2w V46
abbrev J9z:=Eb 34 97 J2w V35
abbrev Ja0:=Ed 20
abbrev Ja1:=Ec 39 J28 V40
abbrev Ja2:=Ec 41 J28 V42
abbrev Ja3:=[Ka,Kb,Kb,Kc,Kc,Vk]
abbrev Ja4:=Eb 43 50 Ja3 V44
abbrev Ja5:=Eb 27 97 J2w V28
abbrev Ja6:=[Ka,Vk,Kb,Kb,Kb,Kb,Vk,Vk,Vk,Vk,Ka,Ka,Ka,Kc,Kc,Vk,Vk,Vk,Vk,Ka,Kc,Ka]
abbrev Ja7:=Eb 48 111 Ja6 V49
abbrev Ja8:=Ec 3 J28 V4
abbrev Ja9:=Eb 65 111 Ja6 V66
abbrev Jaa:=Ea 51 38 [Sh N16,Sh (X3 69),Vi 47,Sd (Xh V35 V37 1),Sf,Vs 14]
abbrev Jab:=Ea 50 97 [Sh (Xi V35 V37 0),Sd (Xh V35 V37 1),Sd (Xh V35 V37 2),Sh (Xi V35 V37 3)]
abbrev Jac:=Xn (X5 []) (Xk N12 (Xm (X4 false) (Xm (X4 false) (Xm (X4 false) (Xm (X4 false) (Xk N12 (Xk N12 (Xk N12 (Xk N12 (Xn (X5 []) (Xn (X5 []) (Xn (X5 []) (Xt Xu (Xt Xu (Xk (Xi V35 V37 0) (Xk V56 (Xk V57 (Xk V58 (Xn V59 (Xt V60 (Xn V62 X1)))))))))))))))))))))
abbrev Nad:=X3 567489872400
abbrev Jae:=Td (Te 243 [Cc [Sh N16,Sh (X3 69),Vi 47,Sd (Xh V35 V37 1),Sf,Vs 14],Vq [Sh N3f],Vq [Va 55]] [Eb 55 9 J1z (Xj Xo (Xn V54 X1)),Ea 53 38 [Sh N12,Sh N12,Sh N12,Sd (X5 []),Sf,Sd (X5 [])],Ea 52 38 [Sh N16,Sh (X3 69),Vi 47,Sd (Xh V35 V37 1),Sf,Vs 14],Jaa,Jab,J9x,J9y,J9z,Ja0,J6g,Ja1,Ja2,Ja4,Ja5,Ja7,J62,Ea 0 229 [Va 39,Va 41,Va 43,Va 45,Sh (.bits .and .i64 (Xa V47 N16) N2r),Va 48],Ja8] [] [] [] [Ec 60 J20 V61] (Cc [Vi 56,Vi 57,Vi 58,Vs 59,Va 60,Vs 62]) 7 (Tc (Td (Ta (Xb (Xa (Xd V49) (Xd (Xj Xo Jac))) Nad) (Td (Tk 2 [N12,N12,N12,N12,V56,V57,V58,V59,V60,V61,V62,N12,N12,V65,Xj V49 Jac]))))))
abbrev Jaf:=Tc (Tc (Tm (Ts 244 [Vq [Sh (Xi V35 V37 3)]] [] (Vq [Vs 54]) 1 Jae) (Ts 244 [Vq [Sh (Xi V35 V37 3)]] [] (Vq [Vs 54]) 1 (Tm Jae Jae))))
abbrev Jag:=Ec 21 J28 V22
abbrev Jah:=Ec 23 J28 V24
abbrev Jai:=Eb 25 50 Ja3 V26
abbrev Jaj:=[Ja5,Eb 30 111 Ja6 V31,J62,Ea 0 229 [Va 21,Va 23,Va 25,Va 27,Vi 29,Va 30],Ja8]
abbrev Jak:=Ja0::J6g::Jag::Jah::Jai::Jaj
abbrev Jal:=Th 0 [Xa V19 N16,V58,V46,V47,V48,V49,V50,V51,V52,V53,V54,V55,V56]
abbrev Jam:=Ec 46 J28 V47
abbrev Jan:=Ec 48 J28 V49
abbrev Jao:=Eb 50 50 Ja3 V51
abbrev Jap:=Eb 52 97 J2w V53
abbrev Jaq:=Eb 55 111 Ja6 V56
abbrev Jar:=Ec 39 J2 V40
abbrev Jas:=Ea 35 50 [Vs 36,Vb 37,Vb 38,Va 39,Va 41,Vi 43]
abbrev Jat:=Ea 32 258 [Sd (Xh V17 V19 0),Sh (Xi V17 V19 1)]
abbrev Jau:=Ea 0 229 [Va 46,Va 48,Va 50,Va 52,Vi 54,Va 55]
abbrev Jav:=[Jat,Ja0,J6g,Jag,Jah,J62,Jau,Ja8]
abbrev Jaw:=[Jam,Jan,Jao,Jap,Jaq,Ed 57]
abbrev Jax:=Ea 45 50 [Vs 35,Vb 36,Vb 37,Va 38,Va 40,Vi 42]
abbrev Jay:=Ec 38 J2 V39
abbrev Jaz:List X:=[V1,V2,V3,V4,V5,V6,V7,V8,V9,V10,V11]
abbrev Jb0:=Ec 1 J28 V2
abbrev Jb1:=Eb 5 50 Ja3 V6
abbrev Jb2:=Eb 10 111 Ja6 V11
abbrev Jb3:=Ea 0 229 [Va 1,Va 3,Va 5,Va 7,Vi 9,Va 10]
abbrev Jb4:=[Jb0,Ja8,Jb1,J70,Jb2,J62,Jb3]
abbrev Jb5:=Ea 31 38 [Vi 21,Sh (X3 69),Vi 23,Vs 24,Va 25,Sd (Xh V2 V32 1)]
abbrev Jb6:=Ea 30 38 [Vi 21,Sh (X3 69),Vi 23,Vs 24,Va 25,Sd (Xh V2 V32 1)]
abbrev Jb7:=Ea 29 38 [Vi 14,Vi 15,Vi 16,Vs 17,Va 18,Vs 20]
abbrev Jb8:=[Ec 18 J20 V19,Ec 25 J20 V26]
abbrev Jb9:=Jb0::Ja8::Jb1::J70::Jb2::J62::Jb3::Jb8
abbrev Jba:=Eb 36 97 J2w V37
abbrev Jbb:=Jb7::Jb0::Ja8::Jb1::J70::Jb2::J62::Ea 0 229 [Va 1,Va 3,Va 5,Va 36,Vi 9,Va 10]::Jb8
abbrev Jbc:=Ea 31 38 [Sh N12,Sh N12,Sh N12,Sd (X5 []),Sf,Sd (X5 [])]
abbrev Jbd:=Jbc::Jb6::Jb7::Jb9
abbrev Jbe:=Eb 42 9 J1z (Xj Xo (Xn V41 X1))
abbrev Jbf:=Ea 39 38 [Vi 21,Sh (X3 69),Vi 23,Vs 24,Va 25,Sd (Xh V2 V32 1)]
abbrev Jbg:=Td (Te 243 [Cc [Vi 21,Sh (X3 69),Vi 23,Vs 24,Va 25,Sd (Xh V2 V32 1)],Vq [Sh N3f],Vq [Va 42]] (Jbe::Ea 40 38 [Sh N12,Sh N12,Sh N12,Sd (X5 []),Sf,Sd (X5 [])]::Jbf::Jba::Jbc::Jb6::Jbb) [] [] [] [Ec 47 J20 V48] (Cc [Vi 43,Vi 44,Vi 45,Vs 46,Va 47,Vs 49]) 7 (Tf (Cc [Vi 43,Vi 44,Vi 45,Vs 46,Va 47,Vs 49]) (Ec 47 J20 V48::Jbe::Ea 40 38 [Vi 43,Vi 44,Vi 45,Vs 46,Va 47,Vs 49]::Jbf::Jba::Ea 31 38 [Vi 43,Vi 44,Vi 45,Vs 46,Va 47,Vs 49]::Ea 30 38 [Vi 43,Vi 44,Vi 45,Vs 46,Va 47,Vs 49]::Jbb)))
abbrev Jbh:=Tk 0 []
abbrev V86:=X6 86
abbrev Jbj:=Ec 85 J28 V86
abbrev V88:=X6 88
abbrev V90:=X6 90
abbrev V92:=X6 92
abbrev Jbn:=Ec 73 J28 V74
abbrev Jbo:=Ec 75 J28 V76
abbrev Jbp:=Xn (X5 []) (Xn (X5 []) (Xn (X5 []) J3g))
abbrev Jbq:=Xk N12 (Xk N12 Jbp)
abbrev Jbr:=Eb 72 66 J6 (Xj Xo (Xk N2h (Xm (X4 false) (Xm (X4 false) (Xm (X4 false) (Xm (Xf (Xe (Xr V37 V31 2)) (Xe V17)) (Xk N12 (Xk N12 Jbq))))))))
abbrev Jbs:=Ea 71 50 [Vs 61,Vb 62,Vb 63,Va 64,Va 66,Vi 68]
abbrev Jbt:=Ec 64 J2 V65
abbrev Jbu:=Ec 66 J2 V67
abbrev Jbv:=Ec 69 J6 V70
abbrev Jbw:=Ec 50 J28 V56
abbrev Jbx:=Ec 51 J28 V57
abbrev Jby:=Ea 30 66 [Vi 14,Vb 15,Vb 16,Vb 17,Vb 18,Vi 19,Vi 20,Vi 21,Vi 22,Vs 23,Vs 24,Vs 25,Va 26,Va 28]
abbrev V91:=X6 91
abbrev V93:=X6 93
abbrev Jc1:=Ea 0 229 [Va 85,Va 87,Va 89,Va 91,Vi 93,Va 94]
abbrev Jc2:=Ec 26 J2t V27
abbrev Jc3:=Ec 28 J2k V29
abbrev Jc4:=[Jc2,Jc3]
abbrev V81:=X6 81
abbrev Jc6:=Ea 0 229 [Va 73,Va 75,Va 77,Va 79,Vi 81,Va 82]
abbrev Jc7:=Xy V58 V31 (Xn (Xh V58 V31 0) (Xm (Xr V58 V31 1) (Xm V17 (Xt (Xs V58 V31 3) (Xt (Xs V58 V31 4) (Xk (Xi V58 V31 5) X1))))))
abbrev Jc8:=Eb 53 97 J2w V59::Eb 55 111 Ja6 V60::Jby::Jb0::Ja8::J62::Ea 0 229 [Va 50,Va 51,Va 52,Va 53,Vi 54,Va 55]::Jc4
abbrev Jc9:=Ec 38 J28 V39
abbrev Jca:=Ec 40 J28 V41
abbrev Jcb:=Eb 42 50 Ja3 V43
abbrev Jcc:=Eb 44 97 J2w V45
abbrev Jcd:=Eb 47 111 Ja6 V48
abbrev Jce:=[Jc9,Jca,Jcb,Jcc,Jcd,Ed 49]
abbrev Jcf:=Ea 0 229 [Va 38,Va 40,Va 42,Va 44,Vi 46,Va 47]
abbrev Jcg:=Eb 34 50 Ja3 V35
abbrev Jch:=J70::Jb2::J62::Jb3::Jc4
abbrev Jci:=Jb0::Ja8::Jb1::Jch
abbrev Jcj:=Jby::Jci
abbrev Jck:=Ec 34 J28 V35
abbrev Jcl:=Ec 36 J28 V37
abbrev Jcm:=Eb 38 50 Ja3 V39
abbrev Jcn:=Eb 40 97 J2w V41
abbrev Jco:=Eb 43 111 Ja6 V44
abbrev Jcp:=Eb 33 66 J6 (Xj Xo (Xk N2h (Xm (X4 false) (Xm (X4 false) (Xm (X4 false) (Xm (X4 false) (Xk N12 (Xk N12 (Xk N12 (Xk N2p Jbp))))))))))
abbrev Jcq:=Ea 0 229 [Va 34,Va 36,Va 38,Va 40,Vi 42,Va 43]
abbrev Jcr:=Jby::Jb0::Ja8::J62::Jcq::Jc4
abbrev Jcs:=[Jck,Jcl,Jcm,Jcn,Jco,Ed 45]
abbrev Jct:=Tf (Cb []) Jcj
abbrev Jcu:=Ec 19 J2 V20
abbrev Jcv:=Ec 21 J2 V22
abbrev Jcw:=[Jcu,Jcv,Jb0,Ja8,Eb 5 50 Ja3 V24,J70,Jb2,J62,Jb3]
abbrev Jcx:=Ec 27 J28 V28
abbrev Jcy:=Ec 29 J28 V30
abbrev Jcz:=Eb 31 50 Ja3 V32
abbrev Jd0:=Eb 33 97 J2w V34
abbrev Jd1:=[Ea 0 229 [Va 27,Va 29,Va 31,Va 33,Vi 35,Va 36]]
abbrev Jd2:=Te 194 [Cc [Sd (Xh V6 V14 0),Sb (Xr V6 V14 1),Sb (Xr V6 V14 2),Se (Xs V6 V14 3),Se (Xs V6 V14 4),Sh (Xi V6 V14 5)]] Jb4 [] [] [] [Jcu,Jcv] (Cc [Vs 16,Vb 17,Vb 18,Va 19,Va 21,Vi 23]) 8 (Tk 0 [V16,V17,V18,V19,V20,V21,V22,V23,Xy V6 V14 (Xn V16 (Xm V17 (Xm V18 (Xt V19 (Xt V21 (Xk V23 X1))))))])
abbrev Jd3:=Ec 5 Ja3 V6
abbrev Jd4:=[Jb0,Ja8,Jd3,Ed 7,Ec 8 J2w V9,Ea 0 27 [Va 1,Va 3,Va 5,Va 8,Vi 10]]
abbrev Jd5:=Tf (Vq [Vi 11]) Jd4
abbrev Jd6:=Ed 74
abbrev Jd7:=Xn (X5 []) (Xk N12 (Xm (X4 false) (Xm (X4 false) (Xm (X4 false) (Xm (X4 false) (Xk N12 (Xk N12 (Xk N12 (Xk N12 (Xn (X5 []) (Xn (X5 []) (Xn (X5 []) (Xt Xu (Xt Xu (Xk V13 (Xk V23 (Xk (X3 133) (Xk V24 (Xn V17 (Xt Xu J1k))))))))))))))))))))
abbrev Jd8:=Eb 27 111 Ja6 (Xj Xo Jd7)
abbrev Jd9:=Ea 26 38 [Vi 23,Sh (X3 133),Vi 24,Vs 17,Sf,Sd (X5 [])]
abbrev Jda:=Ea 21 38 [Vi 14,Vi 15,Vi 16,Vs 17,Va 18,Vs 20]
abbrev Jdb:=[Ec 18 J20 V19]
abbrev Jdc:List X:=[V24,V17,Xu,X5 [],V1,V3,V5,V7,V25,V28,Xo,V2,V4,V6,V8,Xj V11 Jd7,V31]
abbrev Jdd:=Eb 28 111 Ja6 (Xj V11 Jd7)
abbrev Jde:=Jda::Jb0::Ja8::Jb1::J70::J62::Ea 0 229 [Va 1,Va 3,Va 5,Va 7,Vi 25,Va 28]::Jdb
abbrev Jdf:=Jdd::Jd8::Jd9::Ea 22 38 [Vi 23,Sh (X3 133),Vi 24,Vs 17,Sf,Sd (X5 [])]::Jde
abbrev Jdg:List X:=[V24,V17,Xu,X5 [],V32,V34,V36,V38,V40,V41,Xo,V33,V35,V37,V39,V42,V44]
abbrev Jdh:=Ec 32 J28 V33
abbrev Jdi:=Eb 36 50 Ja3 V37
abbrev Jdj:=Eb 38 97 J2w V39
abbrev Jdk:=Eb 41 111 Ja6 V42
abbrev Jdl:=Ed 43
abbrev Jdm:=Ea 22 38 [Vi 23,Sh (X3 66),Vi 24,Vs 17,Sf,Sd (X5 [])]
abbrev Jdn:=Ea 0 229 [Va 32,Va 34,Va 36,Va 38,Vi 40,Va 41]
abbrev Jdo:=Jda::Jb0::Ja8::J62::Jdn::Jdb
abbrev Jdp:=[Jdh,Jck,Jdi,Jdj,Jdk,Jdl]
abbrev Jdq:=Ea 22 38 [Vi 23,Sh N7b,Vi 24,Vs 17,Sf,Sd (X5 [])]
abbrev Jdr:=Jdd::Jd8::Jd9::Jdq::Jde
abbrev Jds:=Tn Jdr (Tk 0 (N12::N12::N12::N12::N12::N12::N12::N12::N12::N12::N12::N12::N12::N12::N12::N12::N12::N12::N12::N12::N12::N12::N12::N12::N12::V23::N7b::Jdc))
abbrev Jdt:=Ec 44 J28 V45
abbrev Jdu:=Eb 48 50 Ja3 V49
abbrev Jdv:=Eb 50 97 J2w V51
abbrev Jdw:=Eb 53 111 Ja6 V54
abbrev Jdx:=Ea 22 38 [Vi 23,Sh (X3 68),Vi 24,Vs 17,Sf,Sd (X5 [])]
abbrev Jdy:=Ea 0 229 [Va 44,Va 46,Va 48,Va 50,Vi 52,Va 53]
abbrev Jdz:=[Jdt,Jam,Jdu,Jdv,Jdw,Ed 55]
abbrev Je0:=Ed 21
abbrev Je1:=Ea 18 27 [Va 22,Va 24,Va 26,Va 28,Vi 30]
abbrev Je2:=Eb 28 97 J2w V29
abbrev Je3:=Eb 24 107 J28 V25
abbrev Je4:=Eb 22 95 J28 V23
abbrev Je5:=Ea 10 27 [Va 0,Va 2,Va 4,Va 7,Vi 9]
abbrev Je6:=Ec 4 Ja3 V5
abbrev Je7:=Ed 6
abbrev Je8:=Ec 7 J2w V8
abbrev Je9:=Eb 26 50 Ja3 V27
abbrev Jea:=[Je5,J29,J9b,Je6,Je7,Je8,Je9]
abbrev Jeb:=Ec 36 J2 V37
abbrev Jec:=Ea 31 50 [Sd (Xh V5 V20 0),Sb (Xr V5 V20 1),Sb (Xr V5 V20 2),Se (Xs V5 V20 3),Se (Xs V5 V20 4),Sh (Xi V5 V20 5)]
abbrev Jed:=Ea 11 27 [Sf,Sf,Sf,Sf,Sh N12]
abbrev Jee:=[J29,J9b,Je6,Je7,Je8]
abbrev Jef:=Jed::Je5::Jee
abbrev Jeg:=Xn (Xh V5 V20 0) (Xm (Xr V5 V20 1) (Xm (Xr V5 V20 2) (Xt V34 (Xt V36 (Xk (Xi V5 V20 5) X1)))))
abbrev Jeh:=Td (Ta (Xb (Xa (Xd V27) (Xd (Xj Xo Jeg))) (X3 1759218604441)) (Td (Tk 1 [N12,N12,V34,V35,V36,V37,V38,V39,Xj V27 Jeg,Xj Xo Jeg])))
abbrev Jei:=Ea 33 50 [Sd (X5 []),Sb (X4 false),Sb (X4 false),Sf,Sf,Sh N12]
abbrev Jej:=Jei::Ea 32 50 [Sd (Xh V5 V20 0),Sb (Xr V5 V20 1),Sb (Xr V5 V20 2),Se (Xs V5 V20 3),Se (Xs V5 V20 4),Sh (Xi V5 V20 5)]::Jec::Je0::Je1::Je2::Je3::Je4::Jed::Jea
abbrev Jek:=Te 123 [Vq [Se (Xs V5 V20 3)]] Jej [] [] [] [J1b] (Vq [Va 34]) 2 (Te 123 [Vq [Se (Xs V5 V20 4)]] (J1b::Jej) [] [] [] [J1d] (Vq [Va 36]) 2 (Tm Jeh Jeh))
abbrev Jel:=Te 123 [Vq [Se (Xs V5 V20 3)]] Jej [] [] [] [J1b] (Vq [Va 34]) 2 (Te 123 [Vq [Se (Xs V5 V20 4)]] (J1b::Jej) [] [] [] [J1d] (Vq [Va 36]) 2 Jeh)
abbrev Jem:=Eb 12 95 J28 V13::Jef
abbrev Jen:=[Eb 17 97 J2w V18]
abbrev Jeo:=Eb 15 107 J28 V16
abbrev Jep:=Ea 12 27 [Sf,Sf,Sf,Sf,Sh N12]::Jef
abbrev Jeq:=Ea 14 27 [Sf,Sf,Sf,Sf,Sh N12]::Jem
abbrev Jer:=Ec 22 J28 V23
abbrev Jes:=Ec 24 J28 V25
abbrev Jet:=Ec 16 J28 V17
abbrev Jeu:=[Jb0,Jes,Je9,J70,Eb 29 111 Ja6 V30,J62,Ea 0 229 [Va 22,Va 24,Va 26,Va 7,Vi 28,Va 29],Jet]
abbrev Jev:=Eb 31 97 J2w Xo::Je0::Jer::Ea 15 9 [Vs 34]::Jeu
abbrev Jew:X:=.clrR V39 V36 (Xk N12 J47)
abbrev Jex:=Ea 35 97 [Sh (Xi V8 V33 0),Sd (Xh V8 V33 1),Sd (Xh V8 V33 2),Sh (Xi V8 V33 3)]
abbrev Jey:=Ea 31 97 [Sh (Xi V8 V20 0),Sd (Xh V8 V20 1),Sd (Xh V8 V20 2),Sh (Xi V8 V20 3)]
abbrev Jez:=Ea 15 9 [Vs 13]
abbrev Jf0:=Xn (X5 []) (Xk N12 (Xm (X4 false) (Xm (X4 false) (Xm (X4 false) (Xm (X4 false) (Xk N12 (Xk N12 (Xk N12 (Xk N12 (Xn (X5 []) (Xn (X5 []) (Xn (X5 []) (Xt Xu (Xt Xu (Xk (Xi V8 V20 0) (Xk N16 (Xk (X3 132) (Xk V28 (Xn (Xh V8 V20 1) (Xt Xu J1k))))))))))))))))))))
abbrev Jf1:=Tc (Td (Ta (Xb (Xa (Xd V30) (Xd (Xj Xo Jf0))) Nad) (Td (Tk 1 [N12,N12,V34]))))
abbrev Jf2:=Tm (Tt (Xa V28 N16) Jf1) (Tt (Xa V28 N16) Jf1)
abbrev Jf3:=[Jet,Jez,Jb0,Ja8,Jb1,J70,Jb2,J62,Ea 0 229 [Va 16,Va 3,Va 5,Va 7,Vi 9,Va 10]]
abbrev Jf4:=Ec 30 J28 V31
abbrev Jf5:=Ed 41
abbrev Jf6:=Ea 29 229 [Va 30,Va 32,Va 34,Va 36,Vi 38,Va 39]
abbrev Jf7:=Ec 19 J28 V20
abbrev Jf8:=Ed 28
abbrev Jf9:=Ea 16 27 [Va 0,Va 2,Va 4,Va 7,Vi 9]
abbrev Jfa:=Ea 12 9 [Vs 10]::Ea 11 27 [Va 0,Va 2,Va 4,Va 7,Vi 9]::Jee
abbrev Jfb:=Ea 17 27 [Sf,Sf,Sf,Sf,Sh N12]
abbrev Jfc:=Ea 13 27 [Sf,Sf,Sf,Sf,Sh N12]
abbrev Jfd:=Eb 18 111 Ja6 Xo::Jfb::Jf9::Jfc::Jfa
abbrev Jfe:=[Jf7,Jag,Eb 23 50 Ja3 V24,Eb 25 97 J2w V26,Jf8]
abbrev Jff:=Tc (Tc (To Xu (Te 31 [Cc [Va 0,Va 2,Va 4,Va 7,Vi 9]] Jfd [] [] [] Jfe (Cc [Va 19,Va 21,Va 23,Va 25,Vi 27]) 10 (Tc (Te 162 [Vq [Sg 29 0],Vq [Vs 10]] (Ea 29 229 [Va 19,Va 21,Va 23,Va 25,Vi 27,Sf]::Jf7::Jag::Eb 23 50 Ja3 V24::Eb 25 97 J2w V26::Jf8::Jfd) [29] [23,25] [Jf6] [Jf4,Jdh,Jcg,Jba,Eb 39 111 Ja6 V40,Jf5] (Cb []) 12 (Tc (Tf (Cb [(true,[Va 30,Va 32,Va 34,Va 36,Vi 38]),(false,[Sh N12])]) (Ea 42 27 [Va 30,Va 32,Va 34,Va 36,Vi 38]::Jf4::Jdh::Jcg::Jba::Eb 39 111 Ja6 V40::Jf5::Jf6::Jf7::Jag::Jf8::Eb 18 111 Ja6 Xo::Ea 17 27 [Va 30,Va 32,Va 34,Va 36,Vi 38]::Jf9::Ea 13 27 [Va 30,Va 32,Va 34,Va 36,Vi 38]::Jfa))))))))
abbrev Jfg:=Ec 56 J28 V57
abbrev Jfh:=Ec 58 J28 V59
abbrev Jfi:=Xj Xo (Xk (X3 11) (Xm (X4 false) (Xm (X4 false) (Xm (X4 false) (Xm (X4 false) (Xk N12 (Xk V44 Jbq)))))))
abbrev Jfj:=Eb 35 107 J28 Xo
abbrev Jfk:=Eb 32 107 J28 Xo
abbrev Jfl:=Ea 31 66 [Vi 38,Vb 39,Vb 40,Vb 41,Vb 42,Vi 43,Vi 44,Vi 45,Vi 46,Vs 47,Vs 48,Vs 49,Va 50,Va 52]
abbrev Jfm:=Ea 30 9 [Vs 54]
abbrev Jfn:=Ea 0 229 [Va 56,Va 58,Va 60,Va 62,Vi 64,Va 65]
abbrev Jfo:=[Ec 50 J2t V51,Ec 52 J2k V53]
abbrev Jfp:=Jfj::Eb 33 107 J28 V34::Jfk::Jfl::Jfm::Jb0::Ja8::Jb1::J70::Jb2::J62::Ea 0 229 [Va 1,Va 33,Va 5,Va 7,Vi 9,Va 10]::Jfo
abbrev Jfq:List X:=[V38,V39,V40,V41,V42,V43,V44,V45,V46,V47,V48,V49,V50,V51,V52,V53,V54]
abbrev Jfr:=Tt (Xa V37 N16) (Th 0 (V36::Xa V37 N16::Jfq))
abbrev Jfs:=Eb 82 66 J6 (Xj Xo (Xk (X3 11) (Xm (X4 false) (Xm (X4 false) (Xm (X4 false) (Xm (X4 false) (Xk N12 (Xk V70 Jbq))))))))
abbrev Jft:=Ea 55 107 [Vs 58,Vs 59,Vi 60]
abbrev Jfu:=Ea 31 66 [Vi 64,Vb 65,Vb 66,Vb 67,Vb 68,Vi 69,Vi 70,Vi 71,Vi 72,Vs 73,Vs 74,Vs 75,Va 76,Va 78]
abbrev Jfv:=Ea 0 229 [Va 83,Va 85,Va 87,Va 89,Vi 91,Va 92]
abbrev Jfw:=[Ec 76 J2t V77,Ec 78 J2k V79]
abbrev Jfx:List X:=[V64,V65,V66,V67,V68,V69,V70,V71,V72,V73,V74,V75,V76,V77,V78,V79,V80]
abbrev Jfy:=Ta (Xb N12 V61) (Ta (Xc V61 (Xd V63)) (Tt (Xa V61 N16) (Tt (Xa V62 N16) (Th 2 (Xa V61 N16::Xa V62 N16::Xy V63 V61 (Xn (Xh V63 V62 0) (Xn (Xh V63 V62 1) (Xk (Xi V63 V62 2) X1)))::Jfx)))))
abbrev Jfz:=Tt (Xa V62 N16) (Th 2 (V61::Xa V62 N16::V63::Jfx))
abbrev Jg0:List X:=V37::Xa V37 N16::V34::Jfq
abbrev Jg1:=Ec 62 J28 V63
abbrev Jg2:=Ec 64 J28 V65
abbrev Jg3:=Ea 0 229 [Va 62,Va 64,Va 66,Va 68,Vi 70,Va 71]
abbrev Jg4:=Eb 83 66 J6 (Xj Xo (Xk (X3 11) (Xm (X4 false) (Xm (X4 false) (Xm (X4 false) (Xm (X4 false) (Xk N12 (Xk V71 Jbq))))))))
abbrev Jg5:=Ea 61 105 [Sd (Xh V51 V57 0),Sh (Xi V51 V57 1)]
abbrev Jg6:=Ea 31 66 [Vi 65,Vb 66,Vb 67,Vb 68,Vb 69,Vi 70,Vi 71,Vi 72,Vi 73,Vs 74,Vs 75,Vs 76,Va 77,Va 79]
abbrev Jg7:=Ea 0 229 [Va 84,Va 86,Va 88,Va 90,Vi 92,Va 93]
abbrev Jg8:=[Ec 77 J2t V78,Ec 79 J2k V80]
abbrev Jg9:List X:=[V65,V66,V67,V68,V69,V70,V71,V72,V73,V74,V75,V76,V77,V78,V79,V80,V81]
abbrev Jga:=Ta (Xb N12 V62) (Ta (Xc V62 (Xd V64)) (Tt (Xa V62 N16) (Tt (Xa V63 N16) (Th 2 (Xa V62 N16::Xa V63 N16::Xy V64 V62 (Xn (Xh V64 V63 0) (Xn (Xh V64 V63 1) (Xk (Xi V64 V63 2) X1)))::Jg9)))))
abbrev Jgb:=Tt (Xa V63 N16) (Th 2 (V62::Xa V63 N16::V64::Jg9))
abbrev Jgc:=Ec 63 J28 V64
abbrev Jgd:=Ec 65 J28 V66
abbrev Jge:=Eb 67 50 Ja3 V68
abbrev Jgf:=Eb 69 97 J2w V70
abbrev Jgg:=Eb 72 111 Ja6 V73
abbrev Jgh:=Ea 0 229 [Va 63,Va 65,Va 67,Va 69,Vi 71,Va 72]
abbrev Jgi:=[Jgc,Jgd,Jge,Jgf,Jgg,Jd6]
abbrev Jgj:=Ec 33 J28 V34
abbrev Jgk:=Ea 0 229 [Va 33,Va 35,Va 37,Va 39,Vi 41,Va 42]
abbrev Jgl:=Tf (Cb []) (Jgj::Ec 35 J28 V36::Eb 37 50 Ja3 V38::Eb 39 97 J2w V40::Eb 42 111 Ja6 V43::Ed 44::Jby::Jb0::Ja8::J62::Jgk::Jc4)
abbrev Jgm:=[Jgj,Ec 35 J28 V36,Eb 37 50 Ja3 V38,Eb 39 97 J2w V40,Eb 42 111 Ja6 V43,Ed 44]
abbrev Jgn:=Eb 33 66 J6 (Xj Xo (Xk (X3 13) (Xm (X4 false) (Xm (X4 false) (Xm (X4 false) (Xm (X4 false) (Xk N12 (Xk N12 Jbq))))))))
abbrev Jgo:=Ea 43 50 [Vs 33,Vb 34,Vb 35,Va 36,Va 38,Vi 40]
abbrev Jgp:=Jby::Jb0::Ja8::J62::Jdy::Jc4
abbrev Jgq:List X:=[V33,V34,V35,V36,V37,V38,V39,V40,V41,V42,V43]
abbrev Jgr:=Eb 31 111 Ja6 Xo
abbrev Jgs:=[J29,J9b,Je6,Je7,Je8,Ec 23 J2t V24,Ec 25 J2k V26]
abbrev Jgt:=Ea 29 66 [Vi 11,Vb 12,Vb 13,Vb 14,Vb 15,Vi 16,Vi 17,Vi 18,Vi 19,Vs 20,Vs 21,Vs 22,Va 23,Va 25]::Ea 28 9 [Vs 10]::Ea 27 27 [Va 0,Va 2,Va 4,Va 7,Vi 9]::Jgs
abbrev Jgu:=Jgr::Ea 30 27 [Sf,Sf,Sf,Sf,Sh N12]::Jgt
abbrev Jgv:=Ec 51 J28 V52
abbrev Jgw:=Ea 48 229 [Va 49,Va 51,Va 53,Va 55,Vi 57,Va 58]
abbrev Jgx:=Ea 35 27 [Va 0,Va 2,Va 4,Va 7,Vi 9]
abbrev Jgy:=Ea 36 27 [Sf,Sf,Sf,Sf,Sh N12]
abbrev Jgz:=Eb 37 111 Ja6 Xo::Jgy::Jgx::Jgu
abbrev Jh0:=Ec 50 J28 V51
abbrev Jh1:=Ea 47 229 [Va 48,Va 50,Va 52,Va 54,Vi 56,Va 57]
abbrev Jh2:=Ec 37 J28 V38
abbrev Jh3:=Ea 34 27 [Va 0,Va 2,Va 4,Va 7,Vi 9]
abbrev Jh4:=Eb 36 111 Ja6 Xo::Ea 35 27 [Sf,Sf,Sf,Sf,Sh N12]::Jh3::Jgu
abbrev Jh5:=Ec 26 Ja3 V27
abbrev Jh6:=Ec 17 J2w V18
abbrev Jh7:=[Jer,Jes,Jh5,Ed 7,Jh6,Ea 0 27 [Va 22,Va 24,Va 26,Va 17,Vi 28]]
abbrev Jh8:=Ea 29 97 [Sh (Xi V18 V21 0),Sd (Xh V18 V21 1),Sd (Xh V18 V21 2),Sh (Xi V18 V21 3)]::Jh7
abbrev Jh9:=[Ec 13 J28 V14,Ja8,Ec 15 Ja3 V16,Ed 7,Jh6,Ea 0 27 [Va 13,Va 3,Va 15,Va 17,Vi 19]]
abbrev Jha:=Ea 20 107 [Sd (Xh V4 V12 0),Sd (Xh V4 V12 1),Sh (Xi V4 V12 2)]::Jh9
abbrev Jhb:=Ec 18 J28 V19
abbrev Jhc:=Ec 20 J28 V21
abbrev Jhd:=Xn (X5 []) (Xt Xu J1k)
abbrev Jhe:=Xn V13 (Xk (Xi V15 V17 0) (Xm (Xr V15 V17 1) (Xm (Xr V15 V17 2) (Xm (Xr V15 V17 3) (Xm (Xr V15 V17 4) (Xk (Xi V15 V17 5) (Xk (Xi V15 V17 6) (Xk (Xi V15 V17 7) (Xk (Xi V15 V17 8) (Xn (Xh V15 V17 9) (Xn (Xh V15 V17 10) (Xn (Xh V15 V17 11) (Xt (Xs V15 V17 12) (Xt (Xs V15 V17 13) (Xk N12 (Xk N12 (Xk N12 (Xk N12 Jhd))))))))))))))))))
abbrev Jhf:=Eb 62 66 J6 (Xj Xo (Xk V35 (Xm V36 (Xm V37 (Xm V38 (Xm V39 (Xk V40 (Xk V41 (Xk V42 (Xk V43 (Xn V44 (Xn V45 (Xn V46 (Xt V47 (Xt V49 X1)))))))))))))))
abbrev Jhg:=Ed 34
abbrev Jhh:=Ea 31 66 [Vi 35,Vb 36,Vb 37,Vb 38,Vb 39,Vi 40,Vi 41,Vi 42,Vi 43,Vs 44,Vs 45,Vs 46,Va 47,Va 49]
abbrev Jhi:=Ec 53 J28 V54
abbrev Jhj:=[Jc2,Jc3,Ec 47 J2t V48,Ec 49 J2k V50]
abbrev Jhk:=Ed 77::Ec 78 J28 V79::Ec 80 J28 V81::Eb 82 50 Ja3 V83::Eb 84 97 J2w V85::Eb 87 111 Ja6 V88::Jd6::Jhf::Jhg::Jhh::Jby::Jgv::Jhi::J62::Ea 0 229 [Va 78,Va 80,Va 82,Va 84,Vi 86,Va 87]::Jhj
abbrev Jhl:=Ec 90 J28 V91
abbrev Jhm:=Ea 89 105 [Sd (Xh V27 V76 0),Sh (Xi V27 V76 1)]
abbrev Jhn:=[Jc2,Jc3,Ec 47 J2t V48,Ec 49 J2k V50,Ec 78 J28 V79]
abbrev Jho:=Ed 94::Jhl::Jhm::Ed 77::Ec 95 J28 (X6 96)::Ec 97 J28 (X6 98)::Eb 99 50 Ja3 (X6 100)::Eb 101 97 J2w (X6 102)::Eb 104 111 Ja6 (X6 105)::Jd6::Jhf::Jhg::Jhh::Jby::Jgv::Jhi::J62::Ea 0 229 [Va 95,Va 97,Va 99,Va 101,Vi 103,Va 104]::Jhn
abbrev Jhp:=Eb 107 66 J6 (Xj Xo (Xk N2p (Xm (X4 false) (Xm (X4 true) (Xm (X4 false) (Xm (X4 false) (Xk N12 (Xk N12 (Xk N12 (Xk N12 (Xn (X5 []) (Xn (Xh V91 V93 0) (Xn (Xh V91 V93 1) J3g)))))))))))))
abbrev Jhq:=Ea 106 95 [Sd (Xh V91 V93 0),Sd (Xh V91 V93 1),Sh (Xi V91 V93 2)]
abbrev Jhr:=Ea 0 229 [Va 108,Va 110,Va 112,Va 114,Vi 116,Va 117]
abbrev Jhs:List X:=[V78,V79,V80,V81,V82,V83,V84,V85,V86,V87,V88]
abbrev Jht:=Eb 55 50 Ja3 V56
abbrev Jhu:=Eb 57 97 J2w V58
abbrev Jhv:=Eb 60 111 Ja6 V61
abbrev Jhw:=Ea 0 229 [Va 51,Va 53,Va 55,Va 57,Vi 59,Va 60]
abbrev Jhx:List X:=[V55,V56,V57,V58,V59,V60,V61]
abbrev Jhy:=Ea 62 105 [Sd (Xh V27 V33 0),Sh (Xi V27 V33 1)]
abbrev Jhz:=Ea 31 66 [Vi 35,Vb 36,Vb 37,Vb 38,Vb 39,Vi 40,Vi 41,Vi 42,Vi 43,Vs 44,Vs 45,Vs 46,Va 47,Va 67]
abbrev Ji0:=[Jc2,Jc3,Eb 47 105 J2t V48]
abbrev Ji1:=Xj V50 (Xk (Xi V27 V33 1) X1)
abbrev Ji2:=Xj Xo (Xk (Xi V27 V33 1) X1)
abbrev Ji3:=Eb 22 111 Ja6 Xo
abbrev Ji4:=[J29,J9b,Je6,Je7,Je8,Ec 15 J20 V16]
abbrev Ji5:=Ea 20 38 [Vi 11,Vi 12,Vi 13,Vs 14,Va 15,Vs 17]::Ea 19 3 [Vi 10]::Ea 18 27 [Va 0,Va 2,Va 4,Va 7,Vi 9]::Ji4
abbrev Ji6:=Ji3::Ea 21 27 [Sf,Sf,Sf,Sf,Sh N12]::Ji5
abbrev Ji7:=Ea 38 229 [Va 28,Va 30,Va 32,Va 34,Vi 36,Sf]
abbrev Ji8:=Ec 28 J28 V29
abbrev Ji9:=Eb 32 50 Ja3 V33
abbrev Jia:=Eb 27 111 Ja6 Xo
abbrev Jib:=Ea 25 27 [Va 0,Va 2,Va 4,Va 7,Vi 9]
abbrev Jic:=Ji8::Jf4::Ji9::J9z::Ed 37::Jia::Ea 26 27 [Va 28,Va 30,Va 32,Va 34,Vi 36]::Jib::Ji3::Ea 21 27 [Va 28,Va 30,Va 32,Va 34,Vi 36]::Ji5
abbrev Jid:=Ea 38 229 [Va 39,Va 41,Va 43,Va 45,Vi 47,Va 48]
abbrev Jie:=Jia::Ea 26 27 [Sf,Sf,Sf,Sf,Sh N12]::Jib::Ji6
abbrev Jif:=Ea 43 27 [Va 28,Va 30,Va 32,Va 34,Vi 36]
abbrev Jig:=Xj Xo (Xn (X5 []) (Xk N12 (Xm (X4 false) (Xm (X4 false) (Xm (X4 false) (Xm (X4 false) (Xk N12 (Xk N12 (Xk N12 (Xk N12 (Xn (X5 []) (Xn (X5 []) (Xn (X5 []) (Xt Xu (Xt Xu (Xk V10 (Xk N2p (Xk N12 (Xk V13 Jhd)))))))))))))))))))
abbrev Jih:=Ea 37 229 [Va 27,Va 29,Va 31,Va 33,Vi 35,Sf]
abbrev Jii:=Eb 26 111 Ja6 Xo
abbrev Jij:=Ea 24 27 [Va 0,Va 2,Va 4,Va 7,Vi 9]
abbrev Jik:=Jcx::Jcy::Jcz::Jd0::Ed 36::Jii::Ea 25 27 [Va 27,Va 29,Va 31,Va 33,Vi 35]::Jij::Ji3::Ea 21 27 [Va 27,Va 29,Va 31,Va 33,Vi 35]::Ji5
abbrev Jil:=Ea 37 229 [Va 38,Va 40,Va 42,Va 44,Vi 46,Va 47]
abbrev Jim:=Jii::Ea 25 27 [Sf,Sf,Sf,Sf,Sh N12]::Jij::Ji6
abbrev Jin:=Ec 31 J28 V32
abbrev Jio:=Ea 0 229 [Va 31,Va 33,Va 35,Va 37,Vi 39,Va 40]
abbrev Jip:=Jby::Jb0::Ja8::J62::Jdn::Jc4
abbrev Jiq:=Eb 31 66 J6 (Xj Xo (Xk N2d (Xm (X4 false) (Xm (X4 false) (Xm (X4 false) (Xm (X4 false) (Xk N12 (Xk V20 Jbq))))))))
abbrev Jir:=Jdh::Jck::Jdi::Jdj::Jdk::Jdl::Jiq::Jip
abbrev Jis:=Ec 57 J28 V58
abbrev Jit:=Ec 59 J28 V60
abbrev Jiu:=Ec 45 J28 V46
abbrev Jiv:=Ec 47 J28 V48
abbrev Jiw:=Ea 0 229 [Va 57,Va 59,Va 61,Va 63,Vi 65,Va 66]
abbrev Jix:=Ea 0 229 [Va 45,Va 47,Va 49,Va 51,Vi 53,Va 54]
abbrev Jiy:=Eb 15 107 J28 Xo
abbrev Jiz:=[Eb 18 107 J28 Xo,Eb 16 107 J28 V17,Jiy,Ea 14 9 [Vs 21],Jb0,Ja8,Jb1,J70,Jb2,J62,Ea 0 229 [Va 1,Va 16,Va 5,Va 7,Vi 9,Va 10]]
abbrev Jj0:=Ea 22 107 [Sd (Xh V17 V20 0),Sd (Xh V17 V20 1),Sh (Xi V17 V20 2)]
abbrev Jj1:=Ec 40 Ja3 V41
abbrev Jj2:=Ec 42 J2w V43
abbrev Jj3:=Eb 45 80 J7x V46
abbrev Jj4:=Ea 35 82 [Va 36,Va 38,Va 40,Va 42,Vi 44,Va 45,Va 47]
abbrev Jj5:=Ec 25 J28 V26
abbrev Jj6:=[J29,J9b,Je6,Je7,Je8,Ec 10 J7x V11]
abbrev Jj7:=Ea 16 29 [Vs 12,Vi 13,Vs 14]::Ea 15 27 [Va 0,Va 2,Va 4,Va 7,Vi 9]::Jj6
abbrev Jj8:=Eb 19 111 Ja6 Xo::Eb 18 80 J7x Xo::Jfb::Jj7
abbrev Jj9:=Jah::Jj5::Eb 27 50 Ja3 V28::Eb 29 97 J2w V30::Ed 32::Jj8
abbrev Jja:=[Kc]
abbrev Jjb:=Eb 14 32 Jja Xo
abbrev Jjc:=Ea 12 27 [Va 0,Va 2,Va 4,Va 7,Vi 9]
abbrev Jjd:=[Ka,Vk,Ka]
abbrev Jje:=Ec 10 Jjd V11
abbrev Jjf:=Ec 23 Ja3 V24
abbrev Jjg:=Ec 25 J2w V26
abbrev Jjh:=[Ec 47 Ja6 V48,Jf7,Jag,Jjf,Jjg]
abbrev Jji:=Jjc::J29::J9b::Je6::Je7::Je8::Jje::Jj3::Jjh
abbrev Jjj:=Ea 49 29 [Sd (Xh V11 V34 0),Sh (Xi V11 V34 1),Sd (Xh V11 V34 2)]
abbrev Jjk:=Ea 29 82 [Va 50,Va 52,Va 54,Va 56,Vi 58,Va 59,Va 61]
abbrev Jjl:=[J29,J9b,Je6,Je7,Je8,Jje]
abbrev Jjm:=Jjb::Jfc::Jjc::Jjl
abbrev Jjn:=Ec 31 J6 V36
abbrev Jjo:=Ea 18 29 [Vs 15,Vi 16,Vs 17]
abbrev Jjp:=Ec 42 J28 V43
abbrev Jjq:=Ec 46 Ja3 V47
abbrev Jjr:=Ec 48 J2w V49
abbrev Jjs:=Eb 51 80 J7x V52
abbrev Jjt:=[Ed 75,Ec 66 J28 V71,Ec 67 J28 V72,Ec 68 Ja3 V73,Ec 69 J2w V74,Jf5,J9x,Jjn,Jjs,Jjo,Jjp,Jdt,Jjq,Jjr,Jdw,J2m,Ea 0 82 [Va 66,Va 67,Va 68,Va 69,Vi 70,Va 51,Va 53]]
abbrev Jju:=[Jf5,J9x,Jjn,Jjs,Jjo,Jjp,Jdt,Jjq,Jjr,Jdw,J2m,Ea 0 82 [Va 42,Va 44,Va 46,Va 48,Vi 50,Va 51,Va 53]]
abbrev Jjv:=Ea 55 66 [Sh (Xi V36 V40 0),Sb (Xr V36 V40 1),Sb (Xr V36 V40 2),Sb (Xr V36 V40 3),Sb (Xr V36 V40 4),Sh (Xi V36 V40 5),Sh (Xi V36 V40 6),Sh (Xi V36 V40 7),Sh (Xi V36 V40 8),Sd (Xh V36 V40 9),Sd (Xh V36 V40 10),Sd (Xh V36 V40 11),Se (Xs V36 V40 12),Se (Xs V36 V40 13)]
abbrev Jjw:=Eb 12 111 Ja6 V13
abbrev Jjx:=[Eb 24 80 J7x V25,Jjo,Jb0,Ja8,Jd3,Je8,Jjw,J2m,Ea 0 82 [Va 1,Va 3,Va 5,Va 7,Vi 9,Va 24,Va 12]]
abbrev Jjy:=[Jb0,Ja8,Jd3,Je8,Eb 10 80 J7x V11,Jjw,J2m,Ea 0 82 [Va 1,Va 3,Va 5,Va 7,Vi 9,Va 10,Va 12]]
abbrev Jjz:=Jjo::Jjy
abbrev Jk0:=Ec 32 Ja3 V33
abbrev Jk1:=Ec 34 J2w V35
abbrev Jk2:=Ea 27 38 [Vi 19,Vi 20,Vi 21,Vs 22,Va 23,Vs 25]
abbrev Jk3:=Ec 23 J20 V24
abbrev Jk4:=Ea 28 27 [Sf,Sf,Sf,Sf,Sh N12]
abbrev Jk5:=Jk2::Jk3::Jjz
abbrev Jk6:=[Ec 0 Ja6 V1,Ed 2,Ec 3 Ja6 V4,Ed 5]
abbrev Jk7:=Xj Xo (Xn V5 (Xm V6 (Xm V7 (Xt V8 (Xt V10 (Xk V12 X1))))))
abbrev Jk8:=Xw (Xv V4 N2h) N12
abbrev Jk9:=[Xw (Xv V14 N16) N12,Jk7,Jk8]
abbrev Jka:=[Ea 0 27 [Sf,Sf,Sf,Sf,Sh N12]]
abbrev Jkb:=Ja8::Jb0::Jka
abbrev Jkc:=Ec 8 J2 V9::Ec 10 J2 V11::Jkb
abbrev Jkd:=[Xw (Xv V15 N16) N12,Jk7,Jk8]
abbrev Jke:=[Ec 14 J2w V15]
abbrev Jkf:List X:=[V15,V16,V17,Xw (Xv V16 N16) N12,Jk7,Jk8]
abbrev Jkg:=[Ec 15 J2w V16]
abbrev Jkh:=Xj Xo (Xn V6 (Xm V7 (Xm V8 (Xt V9 (Xt V11 (Xk V13 X1))))))
abbrev Jki:=[Xw (Xv V15 N16) N12,Jkh,Jk8]
abbrev Jkj:=Ec 9 J2 V10::J49::Ec 5 J28 Jk8::Jkb
abbrev Jkk:=[J29,J9b,Je6,Je7,Je8,Ec 10 J28 V11,Ec 12 J28 V13,Ec 14 Ja3 V15,Ed 16,Jh6]
abbrev Jkl:=Ea 21 27 [Va 10,Va 12,Va 14,Va 17,Vi 19]::Ea 20 27 [Va 0,Va 2,Va 4,Va 7,Vi 9]::Jkk
abbrev Jkm:=Xj (Xj Xo (Xn V10 (Xk N12 (Xn (.sl V11 N12 V12) X1)))) (Xn V10 (Xk N12 (Xn (.sl V11 V12 (Xq V11)) X1)))
abbrev Jkn:=Ea 13 27 [Va 0,Va 2,Va 4,Va 7,Vi 9]::Jee
abbrev Jko:=Eb 21 29 Jjd (Xj Xo (Xn V10 (Xk N12 (Xn V11 X1))))::Ec 16 J6 V17::Ja0::Jkn
abbrev Jkp:=Ea 35 27 [Va 22,Va 24,Va 26,Va 28,Vi 30]::Jer::Jes::Jh5::Ec 28 J2w V29::Ec 31 Jja V32::Jhg::Jko
abbrev Jkq:=Eb 36 29 Jjd Jkm::Jkp
abbrev Jkr:=Ea 50 27 [Va 37,Va 39,Va 41,Va 43,Vi 45]::Jh2::Ja1::Ec 41 Ja3 V42::Ec 43 J2w V44::Ec 46 Jja V47::Ed 49::Jkq
abbrev Jks:=[Jc9,Jca,Ec 42 Ja3 V43,Ec 44 J2w V45,Ec 47 Jja V48,Ed 50]
abbrev Jkt:=Xj (Xj Xo (Xn (X5 [97,110,110]) (Xk N12 (Xn (.sl V16 N12 N2d) X1)))) (Xn (X5 [97,110,110]) (Xk N12 (Xn (.sl V16 N2d (Xq V16)) X1)))
abbrev Jku:=Jhb::Jhc::Ec 22 Ja3 V23::Ec 24 J2w V25::Ed 27::J2u
abbrev Jkv:=Jif::Ji8::Jf4::Jk0::Jk1::Ec 37 J7x V38::Ec 39 Ja6 V40::Ed 42::Jku
abbrev Jkw:=Ea 59 27 [Va 44,Va 46,Va 48,Va 50,Vi 52]::Jdt::Jam::Ec 48 Ja3 V49::Ec 50 J2w V51::Ec 53 J7x V54::Ec 55 Ja6 V56::Ed 58::Jkv
abbrev Jkx:=Ec 60 J28 V61::Jg1::Ec 64 Ja3 V65::Ec 66 J2w V67::Ed 69::Jkw
abbrev Jky:=Eb 70 29 Jjd Jkt::Jkx
abbrev Jkz:=Ea 84 27 [Va 71,Va 73,Va 75,Va 77,Vi 79]::Ec 71 J28 V72::Jbn::Ec 75 Ja3 V76::Ec 77 J2w V78::Ec 80 Jja V81::Ed 83::Jky
abbrev Jl0:List X:=[V72,V73,V74,V75,V76,V77,V78,V79,V80,V81,V82,V83,V84,V60]
abbrev Jl1:=[Ec 72 J28 V73,Ec 74 J28 V75,Ec 76 Ja3 V77,Ec 78 J2w V79,Ec 81 Jja V82,Ed 84]
abbrev Jl2:=Ec 66 Ja3 V67
abbrev Jl3:=Ec 68 J2w V69
abbrev Jl4:=Ea 60 27 [Sf,Sf,Sf,Sf,Sh N12]::Jkw
abbrev Jl5:=Ec 61 J28 V62
abbrev Jl6:=Ec 65 Ja3 V66
abbrev Jl7:=Ec 67 J2w V68
abbrev Jl8:=Eb 60 29 Jjd Jkt::Jkw
abbrev Jl9:=Ea 61 27 [Sf,Sf,Sf,Sf,Sh N12]::Jl8
abbrev Jla:List X:=[V72,V73,V74,V75,V76,V77,V78,V79,V80,V81,V82,V83,V84,V71]
abbrev Jlb:=Ea 71 27 [Sf,Sf,Sf,Sf,Sh N12]
abbrev Jlc:=Jl5::Jgc::Jl6::Jl7::Ed 70::Jl8
abbrev Jld:List X:=[V71,V72,V73,V74,V75,V76,V77,V78,V79,V80,V81,V82,V83,V84]
abbrev Jle:=[Ec 71 J28 V72,Jbn,Ec 75 Ja3 V76,Ec 77 J2w V78,Ec 80 Jja V81,Ed 83]
abbrev Jlf:=[Jcy,Jin,Ec 33 Ja3 V34,Ec 35 J2w V36,Ec 38 J7x V39,Ec 40 Ja6 V41,Jdl]
abbrev Jlg:=Ea 18 27 [Sf,Sf,Sf,Sf,Sh N12]::J2u
