/-
  The executor's table for this translation: types, functions that have a body, functions whose slices are the caller's. Written by a program of mine (wip/mkenv.py); the kernel checks it against the program. By an AI agent.
-/
import Derived.Test.YtonpnhfekobmdaaGreatDoorRows
import Derived.Test.YtonpnhfekobmdaaGreatDoorB05
set_option linter.all false
set_option maxHeartbeats 20000000
namespace Go.Proofs.Y
open Go.Sx
abbrev Ys(n:Nat):TI:={ agg:=false,ks:=[.oth],zs:=[.nils],bytes:=24,tag:=.slice n }
abbrev Yp(n:Nat):TI:={ agg:=false,ks:=[.oth],zs:=[.nilp],bytes:=8,tag:=.ptr n }
abbrev Yt1:TI:={ agg:=false,ks:=[.int .i64],zs:=[.int .i64 (.I 0)],bytes:=8,tag:=.int .i64 }
abbrev Yt2:TI:={ agg:=false,ks:=[.int .u8],zs:=[.int .u8 (.I 0)],bytes:=1,tag:=.int .u8 }
abbrev Yt3:TI:={ agg:=true,ks:=[.int .i64,.int .i64,.bool,.int .u8],zs:=[.int .i64 (.I 0),.int .i64 (.I 0),.bool (.B false),.int .u8 (.I 0)],bytes:=24,tag:=.strct [(0,2,1,false),(1,3,1,false),(2,4,1,false),(3,6,1,false)] }
abbrev Yt4:TI:={ agg:=false,ks:=[.str],zs:=[.str (.S [])],bytes:=16,tag:=.str }
abbrev Yt5:TI:={ agg:=false,ks:=[.int .u64],zs:=[.int .u64 (.I 0)],bytes:=8,tag:=.int .u64 }
abbrev Yt6:TI:={ agg:=true,ks:=[.str,.int .u64],zs:=[.str (.S []),.int .u64 (.I 0)],bytes:=24,tag:=.strct [(0,9,1,false),(1,12,1,false)] }
abbrev Yt7:TI:={ agg:=true,ks:=[.oth],zs:=[.nilp],bytes:=8,tag:=.strct [(0,17,1,false)] }
abbrev Yt8:TI:={ agg:=false,ks:=[.int .i32],zs:=[.int .i32 (.I 0)],bytes:=4,tag:=.int .i32 }
abbrev Yt9:TI:={ agg:=true,ks:=[.int .i64,.int .i64,.int .i64,.str,.oth,.str],zs:=[.int .i64 (.I 0),.int .i64 (.I 0),.int .i64 (.I 0),.str (.S []),.nils,.str (.S [])],bytes:=80,tag:=.strct [(0,3,1,false),(1,3,1,false),(2,3,1,false),(3,9,1,false),(4,22,1,false),(5,9,1,false)] }
abbrev Yta:TI:={ agg:=true,ks:=[.int .i64,.bool,.bool,.bool,.bool,.int .i64,.int .i64,.int .i64,.int .i64,.str,.str,.str,.oth,.oth],zs:=[.int .i64 (.I 0),.bool (.B false),.bool (.B false),.bool (.B false),.bool (.B false),.int .i64 (.I 0),.int .i64 (.I 0),.int .i64 (.I 0),.int .i64 (.I 0),.str (.S []),.str (.S []),.str (.S []),.nils,.nils],bytes:=144,tag:=.strct [(0,3,1,false),(1,4,1,false),(2,4,1,false),(3,4,1,false),(4,4,1,false),(5,3,1,false),(6,3,1,false),(7,3,1,false),(8,3,1,false),(9,9,1,false),(10,9,1,false),(11,9,1,false),(12,26,1,false),(13,27,1,false)] }
abbrev Ytb:TI:={ agg:=true,ks:=[.str,.int .i64,.bool],zs:=[.str (.S []),.int .i64 (.I 0),.bool (.B false)],bytes:=32,tag:=.strct [(0,9,1,false),(1,3,1,false),(2,4,1,false)] }
abbrev Ytc:TI:={ agg:=true,ks:=[.str,.int .i64,.bool],zs:=[.str (.S []),.int .i64 (.I 0),.bool (.B false)],bytes:=32,tag:=.strct [(0,9,1,false),(1,3,1,false),(2,4,1,false)],eqs:=true }
abbrev Ytd:TI:={ agg:=true,ks:=[.oth,.oth],zs:=[.nilp,.nils],bytes:=32,tag:=.strct [(0,113,1,false),(1,110,1,false)] }
abbrev Yte:TI:={ agg:=true,ks:=[.oth,.oth],zs:=[.nilp,.nils],bytes:=32,tag:=.strct [(0,115,2,true)] }
abbrev Ytf:TI:={ agg:=true,ks:=[.int .u8,.int .u8],zs:=[.int .u8 (.I 0),.int .u8 (.I 0)],bytes:=2,tag:=.strct [(0,5,1,false),(1,5,1,false)] }
abbrev Ytg:TI:={ agg:=true,ks:=[.oth,.oth,.oth,.str],zs:=[.nilp,.nilp,.nilp,.str (.S [])],bytes:=40,tag:=.strct [(0,17,1,false),(1,17,1,false),(2,17,1,false),(3,9,1,false)] }
def sxT:Tab:=[
 (2,Yt1),
 (3,Yt1),
 (4,{ agg:=false,ks:=[.bool],zs:=[.bool (.B false)],bytes:=1,tag:=.bool }),
 (5,Yt2),
 (6,Yt2),
 (7,Yt3),
 (8,Yt3),
 (9,Yt4),
 (10,Yt4),
 (11,Yt4),
 (12,Yt5),
 (13,Yt6),
 (14,Yt6),
 (15,Yp 182),
 (16,Yp 185),
 (17,Yp 192),
 (18,Yt7),
 (19,Yt7),
 (21,Yt8),
 (22,Ys 74),
 (23,Yt9),
 (24,Yt9),
 (26,Ys 69),
 (27,Ys 3),
 (28,Yta),
 (29,Yta),
 (30,Yt1),
 (35,Ys 29),
 (43,{ agg:=true,ks:=[.int .i64,.bool,.int .i64],zs:=[.int .i64 (.I 0),.bool (.B false),.int .i64 (.I 0)],bytes:=24,tag:=.strct [(0,3,1,false),(1,4,1,false),(2,3,1,false)] }),
 (44,{ agg:=true,ks:=[.int .i64,.bool,.int .i64],zs:=[.int .i64 (.I 0),.bool (.B false),.int .i64 (.I 0)],bytes:=24,tag:=.strct [(0,3,1,false),(1,4,1,false),(2,3,1,false)],eqs:=true }),
 (64,Ytb),
 (65,Ytc),
 (68,{ agg:=true,ks:=[.str,.int .i64],zs:=[.str (.S []),.int .i64 (.I 0)],bytes:=24,tag:=.strct [(0,9,1,false),(1,3,1,false)] }),
 (69,{ agg:=true,ks:=[.str,.int .i64],zs:=[.str (.S []),.int .i64 (.I 0)],bytes:=24,tag:=.strct [(0,9,1,false),(1,3,1,false)],eqs:=true }),
 (73,{ agg:=true,ks:=[.int .i64,.str],zs:=[.int .i64 (.I 0),.str (.S [])],bytes:=24,tag:=.strct [(0,3,1,false),(1,9,1,false)] }),
 (74,{ agg:=true,ks:=[.int .i64,.str],zs:=[.int .i64 (.I 0),.str (.S [])],bytes:=24,tag:=.strct [(0,3,1,false),(1,9,1,false)],eqs:=true }),
 (75,Yt5),
 (76,Yp 78),
 (77,Ytb),
 (78,Ytc),
 (80,Yp 29),
 (82,Yp 84),
 (83,{ agg:=true,ks:=[.str,.bool],zs:=[.str (.S []),.bool (.B false)],bytes:=24,tag:=.strct [(0,9,1,false),(1,4,1,false)] }),
 (84,{ agg:=true,ks:=[.str,.bool],zs:=[.str (.S []),.bool (.B false)],bytes:=24,tag:=.strct [(0,9,1,false),(1,4,1,false)],eqs:=true }),
 (92,Ys 9),
 (100,Yp 65),
 (110,Ys 5),
 (112,Yp 117),
 (113,Yp 115),
 (114,Ytd),
 (115,Ytd),
 (116,Yte),
 (117,Yte),
 (140,Yp 5),
 (160,Yp 156),
 (174,{ agg:=false,ks:=[.int .u32],zs:=[.int .u32 (.I 0)],bytes:=4,tag:=.int .u32 }),
 (178,Ytf),
 (179,Ytf),
 (181,Ytg),
 (182,Ytg),
 (186,Yt2),
 (187,Yt2),
 (189,Yt8),
 (190,Yt8)]
noncomputable def sxE:Env:=⟨sxT,[(0,[]),(31,[29,30]),(33,[24,30]),(36,[35,9,30]),(49,[9,30]),(56,[3,30]),(58,[44,30]),(61,[3,3,30]),(71,[3,3,4]),(87,[29,3,30]),(101,[9,3,30]),(137,[3,136]),(149,[3,9]),(157,[156,4]),(168,[21,3]),(175,[174,174])],[3,4,5,6,7,8,9,10,11,12,13,14,15,16,17,18,19,20,21,22,23,24,25,26,27,28,29,30,31,32,33,34,35,36,37,38,39,40,41,42,43,44,45,46,47,48,49,50,51,52,53,54,55,56,57,58,59,60,61,62,63,64,65,66,67,68,69,70,71,72,73,74,75,76,77,78,79,80,81,82,83,84,85,86,87,88,89,90,91,92,93,94,95,96,97,98,99,100,101,102,103,104,105,106,107,108,109,110,111,112,113,114,115,116,117,118,119,120,122,123,124,125,126,127,128,129,130,131,132,133,134,135,136,137,138,139,140,141,142,143,144,145,146,147,149,150,151,152,153,154,156,157,159,160,162,163,164,166,188],[98,120],[98],[86],[(18,Tryz.f18),(32,Tryz.f32),(48,Tryz.f48),(51,Tryz.f51),(57,Tryz.f57),(73,Tryz.f73),(78,Tryz.f78),(79,Tryz.f79),(80,Tryz.f80),(90,Tryz.f90),(91,Tryz.f91),(92,Tryz.f92),(93,Tryz.f93),(94,Tryz.f94),(95,Tryz.f95),(96,Tryz.f96),(97,Tryz.f97),(108,Tryz.f108),(115,Tryz.f115),(117,Tryz.f117),(129,Tryz.f129),(130,Tryz.f130),(144,Tryz.f144),(145,Tryz.f145)],[],[12],[]⟩
theorem sxE_check:sxE.check Tryz.prog=true:=by kernel_rfl
theorem sxE_inl:∀p∈sxE.inl,Tryz.prog.funcs[p.1]?=some p.2:=qy2.2 ⟨Tryz.func18,qy2.2 ⟨Tryz.func32,qy2.2 ⟨Tryz.func48,qy2.2 ⟨Tryz.func51,qy2.2 ⟨Tryz.func57,qy2.2 ⟨Tryz.func73,qy2.2 ⟨Tryz.func78,qy2.2 ⟨Tryz.func79,qy2.2 ⟨Tryz.func80,qy2.2 ⟨Tryz.func90,qy2.2 ⟨Tryz.func91,qy2.2 ⟨Tryz.func92,qy2.2 ⟨Tryz.func93,qy2.2 ⟨Tryz.func94,qy2.2 ⟨Tryz.func95,qy2.2 ⟨Tryz.func96,qy2.2 ⟨Tryz.func97,qy2.2 ⟨Tryz.func108,qy2.2 ⟨Tryz.func115,qy2.2 ⟨Tryz.func117,qy2.2 ⟨Tryz.func129,qy2.2 ⟨Tryz.func130,qy2.2 ⟨Tryz.func144,qy2.2 ⟨Tryz.func145,qy5 _⟩⟩⟩⟩⟩⟩⟩⟩⟩⟩⟩⟩⟩⟩⟩⟩⟩⟩⟩⟩⟩⟩⟩⟩
theorem sxE_ok:EnvOK Tryz.prog sxE:=Env.ok sxE_check sxE_inl
abbrev Va(n:Nat):Sc:=.val (.var n)
abbrev Vi(n:Nat):Sc:=.int .i64 (.var n)
abbrev Vs(n:Nat):Sc:=.str (.var n)
abbrev Vb(n:Nat):Sc:=.bool (.var n)
abbrev Vk:Kd:=.int .i64
abbrev Vq(l:List Sc):SV:=.cv (false,l)
abbrev Cc(l:List Sc):SV:=.cv (true,l)
abbrev Xk:=X.consI .i64
abbrev Sh:=Sc.int .i64
abbrev Ts:=Tree.callP (.B true)
abbrev Tt(e:X)(t:Tree):Tree:=.need (.le (.I (-9223372036854775808)) e) (.need (.le e (.I 9223372036854775807)) t)
abbrev Ta:=Tree.need
abbrev Tb:=Tree.ite
abbrev Tc:=Tree.bindN
abbrev Td:=Tree.bindV
abbrev Te:=Tree.callM
abbrev Tf:=Tree.ret
abbrev Th:=Tree.back
abbrev Ti:=Tree.loop
abbrev Tj:=Tree.join
abbrev Tk:=Tree.jump
abbrev Tm:=Tree.both
abbrev Tn:=Tree.pack
abbrev To:=Tree.letV
abbrev Tp:=Tree.bindO
abbrev Tq:=Tree.callP
abbrev Tr:=Tree.openR
abbrev Xa:=X.add
abbrev Xb:=X.le
abbrev Xc:=X.lt
abbrev Xd:=X.rlen
abbrev Xe:=X.not
abbrev Xf:=X.and
abbrev Xg:=X.eqI
abbrev Xh:=X.rS
abbrev Xi:=X.rI
abbrev Xj:=X.snocR
abbrev Xm:=X.consB
abbrev Xn:=X.consS
abbrev Xo:=X.nilR
abbrev Xp:=X.or
abbrev Xq:=X.len
abbrev Xr:=X.rB
abbrev Xs:=X.rV
abbrev Xt:=X.consV
abbrev Xu:=X.nilS
abbrev Xv:=X.takeR
abbrev Xw:=X.dropR
abbrev Xx:=X.catR
abbrev Xy:=X.setR
abbrev Xz:=X.eqS
abbrev X1:=X.nilL
abbrev X2:=X.sub
abbrev X3:=X.I
abbrev X4:=X.B
abbrev X5:=X.S
abbrev X6:=X.var
abbrev X7:=X.mul
abbrev X8:=X.ite
abbrev Ea:=Ent.cells
abbrev Eb:=Ent.row
abbrev Ec:=Ent.rd
abbrev Ed:=Ent.st
abbrev Sa:=Sc.int
abbrev Sb:=Sc.bool
abbrev Sd:=Sc.str
abbrev Se:=Sc.val
abbrev Sf:=Sc.nils
abbrev Sg:=Sc.ptr
abbrev Ca:=SV.cv
abbrev Cb:=SV.tup
abbrev Ka:=Kd.str
abbrev Kb:=Kd.bool
abbrev Kc:=Kd.oth
abbrev Kd0:=Kd.int
abbrev V10:=X6 10
abbrev V11:=X6 11
abbrev V12:=X6 12
abbrev J4:=Ea 8 65 [Vs 10,Vi 11,Vb 12]
abbrev V13:=X6 13
abbrev V14:=X6 14
abbrev V15:=X6 15
abbrev V16:=X6 16
abbrev V17:=X6 17
abbrev V18:=X6 18
abbrev V19:=X6 19
abbrev V20:=X6 20
abbrev V21:=X6 21
abbrev V22:=X6 22
abbrev V23:=X6 23
abbrev V24:=X6 24
abbrev V25:=X6 25
abbrev V27:=X6 27
abbrev Jj:=Ea 7 29 [Vi 13,Vb 14,Vb 15,Vb 16,Vb 17,Vi 18,Vi 19,Vi 20,Vi 21,Vs 22,Vs 23,Vs 24,Va 25,Va 27]
abbrev V26:=X6 26
abbrev Jl:=[Ka,Vk]
abbrev V28:=X6 28
abbrev Jn:=[Vk]
abbrev V42:=X6 42
abbrev V44:=X6 44
abbrev Jq:=[Eb 25 69 Jl V26,Eb 27 3 Jn V28,Eb 41 69 Jl V42,Eb 43 3 Jn V44]
abbrev V46:=X6 46
abbrev Ns:=X3 0
abbrev V29:=X6 29
abbrev V30:=X6 30
abbrev V31:=X6 31
abbrev V32:=X6 32
abbrev V33:=X6 33
abbrev V34:=X6 34
abbrev V35:=X6 35
abbrev V36:=X6 36
abbrev V37:=X6 37
abbrev V38:=X6 38
abbrev V39:=X6 39
abbrev V40:=X6 40
abbrev V41:=X6 41
abbrev V43:=X6 43
abbrev J17:=J4::Jj::Ea 1 29 [Vi 29,Vb 30,Vb 31,Vb 32,Vb 33,Vi 34,Vi 35,Vi 36,Vi 37,Vs 38,Vs 39,Vs 40,Va 41,Va 43]::Jq
abbrev N18:=X3 1
abbrev J19:=Tf (Cb [(true,[Sh Ns,Sb (X4 false),Sb (X4 false),Sb (X4 false),Sb (X4 false),Sh Ns,Sh Ns,Sh Ns,Sh Ns,Sd (X5 []),Sd (X5 []),Sd (X5 []),Sf,Sf]),(false,[Sh N18])]) []
abbrev V0:=X6 0
abbrev V45:=X6 45
abbrev V3:=X6 3
abbrev J1d:=[Ns,Ns,X5 [],X5 [],X5 [],Xu,Xo,Xu,Xo]
abbrev J1e:=Ns::X4 false::X4 false::X4 false::X4 false::Ns::Ns::J1d
abbrev J1f:=Xu::Xo::Xu::Xo::J1e
abbrev J1g:=X5 []::X5 []::X5 []::J1f
abbrev J1h:=Xk Ns X1
abbrev N1i:=X3 5864062014805
abbrev J1j:=Ea 8 65 [Vs 34,Vi 35,Vb 36]
abbrev J1k:=Ea 1 29 [Sh Ns,Sb (X4 false),Sb (X4 false),Sb (X4 false),Sb (X4 false),Sh Ns,Sh Ns,Sh Ns,Sh Ns,Sd (X5 []),Sd (X5 []),Sd (X5 []),Sf,Sf]
abbrev J1l:=[Ea 7 29 [Vi 17,Vb 18,Vb 19,Vb 20,Vb 21,Vi 22,Vi 23,Vi 24,Vi 25,Vs 26,Vs 27,Vs 28,Va 29,Va 31],J1k,Eb 29 69 Jl V30,Eb 31 3 Jn V32]
abbrev N1m:=X3 8
abbrev J1n:=Ea 8 65 [Vs 14,Vi 15,Vb 16]
abbrev J1o:=Td (Ta (Xb (Xa (Xd V32) (Xd (Xj Xo (Xk V33 X1)))) (X3 17592186044416)) (Td (Th 1 [V34,V35,V36,V17,V18,V19,V20,V21,V22,V23,V24,V25,V26,V27,V28,V29,V30,V38,Xj V32 (Xk V33 X1)])))
abbrev J1p:=Ea 8 65 [Vs 0,Sh (Xa N18 V3),Sb (X4 false)]
abbrev J1q:=[J1k]
abbrev J1r:=Ea 7 29 [Sh (.ediv (.at_ V0 Ns) (X3 16)),Sb (X4 false),Sb (X4 false),Sb (X4 false),Sb (X4 false),Sh Ns,Sh Ns,Sh Ns,Sh Ns,Sd (X5 []),Sd (X5 []),Sd (X5 []),Sf,Sf]::J1q
abbrev N1s:=X3 2
abbrev V9:=X6 9
abbrev N1u:=X3 11
abbrev N1v:=X3 4
abbrev J1w:=Ns::Ns::X5 []::V9::X5 []::J1f
abbrev N1x:=X3 3
abbrev J1y:=Ea 8 65 [Vs 22,Vi 23,Vb 24]
abbrev J1z:=Ea 8 65 [Vs 18,Vi 19,Vb 20]
abbrev N20:=X3 9223372036854775807
abbrev N21:=X3 (-9223372036854775808)
abbrev V6:=X6 6
abbrev J23:=[X4 false,X4 false]
abbrev V2:=X6 2
abbrev V4:=X6 4
abbrev J26:=Ea 21 24 [Vi 14,Vi 15,Vi 16,Vs 17,Va 18,Vs 20]
abbrev J27:=[Vk,Ka]
abbrev J28:=Ec 18 J27 V19
abbrev J29:=[Ka]
abbrev J2a:=Ec 12 J29 V13
abbrev V1:=X6 1
abbrev V5:=X6 5
abbrev J2d:=[Ec 4 J27 V5]
abbrev J2e:=Ea 8 24 [Vi 0,Vi 1,Vi 2,Vs 3,Va 4,Vs 6]::J2d
abbrev J2f:=Tf (Cb [(true,[Sh Ns,Sh Ns,Sh Ns,Sd (X5 []),Sf,Sd (X5 [])]),(false,[Vi 23])]) []
abbrev J2g:=Ea 9 24 [Sh Ns,Sh Ns,Sh Ns,Sd (X5 []),Sf,Sd (X5 [])]::J2e
abbrev V7:=X6 7
abbrev J2i:=Te 50 [Vq [Vs 7]] J2g [] [] [] [J2a] (Vq [Va 12]) 2 (Te 49 [Cc [Vi 0,Vi 1,Vi 2,Vs 3,Va 4,Vs 6],Vq [Sh N1u],Vq [Va 12]] (J2a::J2g) [] [] [] [J28] (Cc [Vi 14,Vi 15,Vi 16,Vs 17,Va 18,Vs 20]) 7 (Tc (Tc (Ts 26 [Cc [Vi 14,Vi 15,Vi 16,Vs 17,Va 18,Vs 20]] (Ea 22 24 [Sh Ns,Sh Ns,Sh Ns,Sd (X5 []),Sf,Sd (X5 [])]::J26::J28::J2a::J2g) (Vq [Vi 23]) 1 (Tb (Xe (Xg V23 Ns)) J2f (Tf (Cb [(true,[Vi 14,Vi 15,Vi 16,Vs 17,Va 18,Vs 20]),(false,[Sh Ns])]) (Ea 22 24 [Vi 14,Vi 15,Vi 16,Vs 17,Va 18,Vs 20]::J26::J28::J2a::Ea 9 24 [Vi 14,Vi 15,Vi 16,Vs 17,Va 18,Vs 20]::J2e)))))))
abbrev J2j:=Ea 14 24 [Vi 0,Vi 1,Vi 2,Vs 3,Va 15,Vs 6]
abbrev J2k:=Ea 13 24 [Vi 0,Vi 1,Vi 2,Vs 3,Va 15,Vs 6]
abbrev J2l:=Ea 10 24 [Vi 0,Vi 1,Vi 2,Vs 3,Va 4,Vs 6]
abbrev J2m:=[J2l,Ec 4 J27 V5,Ec 8 J29 V9]
abbrev J2n:=Ea 12 24 [Sh Ns,Sh Ns,Sh Ns,Sd (X5 []),Sf,Sd (X5 [])]
abbrev J2o:=Xk V33 (Xn (Xh V9 V40 0) X1)
abbrev N2p:=X3 (-1)
abbrev J2q:=Tk 0 [Ns,Ns,Ns,Ns,Ns,Ns,Ns,Ns,Ns,Ns,V15,V21,V16]
abbrev J2r:X:=.clrR V25 V23 (Xk Ns (Xn (X5 []) X1))
abbrev J2s:=Ea 14 24 [Sh Ns,Sh Ns,Sh Ns,Sd (X5 []),Sf,Sd (X5 [])]
abbrev J2t:=Ea 13 24 [Vi 0,Vi 1,Vi 2,Vs 3,Va 4,Vs 6]
abbrev V8:=X6 8
abbrev J2v:=Ea 24 24 [Vi 17,Vi 18,Vi 19,Vs 20,Va 21,Vs 23]
abbrev J2w:=Ec 21 J27 V22
abbrev J2x:=Eb 16 9 J29 (Xj Xo (Xn V15 X1))
abbrev J2y:=Ea 14 24 [Vi 17,Vi 18,Vi 19,Vs 20,Va 21,Vs 23]
abbrev J2z:=Ea 9 24 [Vi 0,Vi 1,Vi 2,Vs 3,Va 4,Vs 6]::J2d
abbrev J30:=Ea 10 24 [Sh Ns,Sh Ns,Sh Ns,Sd (X5 []),Sf,Sd (X5 [])]::J2z
abbrev J31:=Ea 0 78 [Vs 34,Vi 35,Vb 36]
abbrev J32:=Ea 0 78 [Vs 30,Vi 31,Vb 32]
abbrev J33:=Ea 0 78 [Vs 26,Vi 27,Vb 28]
abbrev J34:=Ea 0 78 [Vs 22,Vi 23,Vb 24]
abbrev J35:=[Ea 4 29 [Vi 5,Vb 6,Vb 7,Vb 8,Vb 9,Vi 10,Vi 11,Vi 12,Vi 13,Vs 14,Vs 15,Vs 16,Sf,Sf]]
abbrev J36:=Ea 0 78 [Vs 18,Vi 19,Vb 20]
abbrev J37:=Ea 0 78 [Vs 1,Vi 2,Vb 3]
abbrev J38:=[Ec 16 Jl V17,Ec 18 Jn V19]
abbrev J39:=Tf (Vq [Sh Ns]) []
abbrev J3a:=Tf (Vq [Sh N18]) []
abbrev J3b:=[X4 false,Ns]
abbrev J3c:=[Ns,Ns]
abbrev J3d:=Tf (Vq [Sh N1s]) []
abbrev J3e:=Tf (Cb [(false,[Sd (X5 [])]),(false,[Sh Ns]),(false,[Sh N1m])]) []
abbrev J3f:=Tf (Cb [(false,[Sd (X5 [])]),(false,[Sh Ns]),(false,[Vi 3])]) []
abbrev J3g:=Tf (Cb [(false,[Sh Ns]),(false,[Sh N1m])]) []
abbrev J3h:=Tf (Cb [(false,[Sh Ns]),(false,[Sh N1x])]) []
abbrev J3i:=Tf (Cb [(false,[Sh Ns]),(false,[Sh (X3 7)])]) []
abbrev J3j:=[Ea 0 84 [Vs 1,Vb 2]]
abbrev J3k:=[Ea 0 84 [Vs 5,Vb 6]]
abbrev N3l:=X3 13
abbrev J3m:=[Eb 1 9 J29 Xo]
abbrev J3n:=Tf (Vq [Sh N1v]) []
abbrev J3o:=Tf (Vq [Sh N1x]) []
abbrev N3p:=X3 65535
abbrev J3q:X:=.consI .u8 (.wrap .u8 V2) X1
abbrev N3r:=X3 140737488355328
abbrev N3s:=X3 128
abbrev J3t:X:=.consI .u8 (.wrap .u8 (.bits .or .i64 (.bits .and .i64 V2 (X3 127)) N3s)) X1
abbrev J3u:=Tf (Vq [Sb (X4 true)]) []
abbrev J3v:=[Ec 12 Jl V13,Ec 14 Jn V15]
abbrev J3w:=Ta (Xb (Xa (Xq V1) (Xq V0)) N20) (Tf (Vq [Sd (.cat V1 V0)]) [])
abbrev J3x:=Ea 18 80 [Sg 4 0]
abbrev J3y:=Ea 17 76 [Sg 0 0]
abbrev V47:=X6 47
abbrev V48:=X6 48
abbrev V49:=X6 49
abbrev V50:=X6 50
abbrev V51:=X6 51
abbrev V52:=X6 52
abbrev V53:=X6 53
abbrev V54:=X6 54
abbrev V56:=X6 56
abbrev V55:=X6 55
abbrev V57:=X6 57
abbrev J4a:=[Eb 54 69 Jl V55,Eb 56 3 Jn V57]
abbrev J4b:=J3x::J3y::Ea 0 78 [Vs 39,Vi 40,Vb 41]::Ea 4 29 [Vi 42,Vb 43,Vb 44,Vb 45,Vb 46,Vi 47,Vi 48,Vi 49,Vi 50,Vs 51,Vs 52,Vs 53,Va 54,Va 56]::J4a
abbrev V58:=X6 58
abbrev V59:=X6 59
abbrev V60:=X6 60
abbrev V61:=X6 61
abbrev V62:=X6 62
abbrev V63:=X6 63
abbrev V64:=X6 64
abbrev V65:=X6 65
abbrev V66:=X6 66
abbrev V67:=X6 67
abbrev V68:=X6 68
abbrev V69:=X6 69
abbrev V70:=X6 70
abbrev V71:=X6 71
abbrev V72:=X6 72
abbrev V74:=X6 74
abbrev V76:=X6 76
abbrev J4t:=[Ea 4 29 [Vi 61,Vb 62,Vb 63,Vb 64,Vb 65,Vi 66,Vi 67,Vi 68,Vi 69,Vs 70,Vs 71,Vs 72,Va 73,Va 75],Eb 73 69 Jl V74,Eb 75 3 Jn V76]
abbrev J4u:=J3x::J3y::Ea 0 78 [Vs 58,Vi 59,Vb 60]::J4t
abbrev V78:=X6 78
abbrev V79:=X6 79
abbrev V80:=X6 80
abbrev V77:=X6 77
abbrev J4z:=Td (Ta (Xb (Xa (Xd V76) (Xd (Xj Xo (Xk V77 X1)))) (X3 17592186044416)) (Td (Th 0 [V78,V79,V80,V61,V62,V63,V64,V65,V66,V67,V68,V69,V70,V71,V72,X6 73,V74,X6 82,Xj V76 (Xk V77 X1)])))
abbrev J50:=Ea 0 78 [Vs 78,Vi 79,Vb 80]
abbrev J51:List X:=[V39,V40,V41,V42,V43,V44,V45,V46,V47,V48,V49,V50,V51,V52,V53,V54,V55,V56,V57]
abbrev J52:=Xn V77 (Xk (X6 82) X1)
abbrev J53:=Ti J51 (Tb (Xf (Xc V59 (Xq V58)) (Xe V60)) (Te 76 [Vq [Sg 0 0]] J4u [0] [] [J50] [] (Vq [Vs 77]) 4 (Tc (Tb (Xg V61 N1m) (Te 75 [Vq [Sg 0 0],Vq [Sh N18]] (Ea 81 69 [Vs 77,Sh Ns]::J3x::J3y::J50::J4t) [0] [] [Ea 0 78 [Vs 83,Vi 84,Vb 85]] [] (Vq [Vi 82]) 4 (Td (Ta (Xb (Xa (Xd V74) (Xd (Xj Xo J52))) N1i) (Td (Th 0 [X6 83,X6 84,X6 85,V61,V62,V63,V64,V65,V66,V67,V68,V69,V70,V71,V72,X6 87,Xj V74 J52,X6 75,V76]))))) (Td (Ta (Xb (Xa (Xd V74) (Xd (Xj Xo (Xn V77 J1h)))) N1i) (Td (Th 0 [V78,V79,V80,V61,V62,V63,V64,V65,V66,V67,V68,V69,V70,V71,V72,X6 83,Xj V74 (Xn V77 J1h),X6 75,V76]))))))) (Tf (Cb []) J4u))
abbrev J54:=Ea 0 78 [Vs 59,Vi 60,Vb 61]
abbrev J55:List X:=[V29,V30,V31,V32,V33,V34,V35,V36,V37]
abbrev J56:=Tk 0 (V19::V20::V21::V22::V23::V24::V25::V26::V27::V28::J55)
abbrev J57:=Ea 0 78 [Vs 19,Vi 20,Vb 21]
abbrev J58:=Ea 4 29 [Vi 22,Vb 23,Vb 24,Vb 25,Vb 26,Vi 27,Vi 28,Vi 29,Vi 30,Vs 31,Vs 32,Vs 33,Va 34,Va 36]
abbrev J59:=[Eb 34 69 Jl V35,Eb 36 3 Jn V37]
abbrev J5a:=J3x::J3y::J57::J58::J59
abbrev J5b:List X:=[V14,V15,V16,Xu,Xo,Xu,Xo]
abbrev J5c:=Ea 0 78 [Vs 20,Vi 21,Vb 22]
abbrev J5d:=J3x::J3y::J37::J35
abbrev J5e:=Ea 16 29 [Vi 0,Vb 1,Vb 2,Vb 3,Vb 4,Vi 5,Vi 6,Vi 7,Vi 8,Vs 9,Vs 10,Vs 11,Va 12,Va 14]::J3v
abbrev J5f:=Ec 30 Jl V31::Ec 32 Jn V33::J5e
abbrev J5g:=Ts 58 [Cc [Vi 0,Vb 1,Vb 2,Vb 3,Vb 4,Vi 5,Vi 6,Vi 7,Vi 8,Vs 9,Vs 10,Vs 11,Va 12,Va 14]] J5f (Vq [Vi 36]) 1 (Tf (Vq [Vi 36]) [])
abbrev J5h:=Ts 58 [Cc [Vi 0,Vb 1,Vb 2,Vb 3,Vb 4,Vi 5,Vi 6,Vi 7,Vi 8,Vs 9,Vs 10,Vs 11,Va 12,Va 14]] J5f (Vq [Vi 37]) 1 (Tf (Vq [Vi 37]) [])
abbrev J5i:=Tf (Vq [Sh (X3 7)]) []
abbrev J5j:=Ec 38 J27 V39
abbrev J5k:=Ec 20 J27 V21
abbrev J5l:=Ec 13 J27 V14::J2d
abbrev J5m:=Ea 24 24 [Vi 16,Vi 17,Vi 18,Vs 19,Va 20,Vs 22]::J5k::J5l
abbrev J5n:=Ec 29 J27 V30::J5m
abbrev J5o:=Ea 49 24 [Vi 41,Vi 42,Vi 43,Vs 44,Va 45,Vs 47]::Ec 45 J27 V46::J5j::J5n
abbrev J5p:=Tf (Vq [Sh (.bits .or .i64 (.shl .i64 V0 N1v) N1s)]) []
abbrev J5q:=Tb V2 (Tf (Vq [Sh (.bits .or .i64 (.shl .i64 V0 N1v) (.bits .or .i64 (.bits .or .i64 Ns (.shl .i64 V5 N18)) N18))]) []) (Tf (Vq [Sh (.bits .or .i64 (.shl .i64 V0 N1v) (.bits .or .i64 (.bits .or .i64 Ns (.shl .i64 V5 N18)) Ns))]) [])
abbrev J5r:=Tb V2 (Tf (Vq [Sh (.bits .or .i64 (.shl .i64 V0 N1v) (.bits .or .i64 (.bits .or .i64 N1m (.shl .i64 V5 N18)) N18))]) []) (Tf (Vq [Sh (.bits .or .i64 (.shl .i64 V0 N1v) (.bits .or .i64 (.bits .or .i64 N1m (.shl .i64 V5 N18)) Ns))]) [])
abbrev J5s:=Tb V1 J5r J5q
abbrev J5t:=Tf (Vq [Sb (X4 false)]) []
abbrev J5u:=[Vk,Kb,Kb,Kb,Kb,Vk,Vk,Vk,Vk,Ka,Ka,Ka,Kc,Kc]
abbrev J5v:=Ec 18 J5u V19::Ed 22::J3v
abbrev J5w:=Ec 35 Jl V36::Ec 37 Jn V38::J5v
abbrev J5x:=Ea 11 44 [Vi 7,Vb 8,Vi 9]::J2l::J2d
abbrev J5y:=Tf (Cb [(false,[Sh Ns]),(false,[Sh Ns]),(false,[Sh N18])]) []
abbrev J5z:=Tf (Cb [(false,[Sh Ns]),(false,[Sh Ns]),(false,[Sh N1m])]) []
abbrev J60:=Tf (Cb [(false,[Sh Ns]),(false,[Sh Ns]),(false,[Sh N1x])]) []
abbrev J61:=[Ec 0 J5u V1,Ed 2,Ec 3 J5u V4,Ed 5]
abbrev J62:=Xy V9 V7 (.consI .u8 (Xi V9 V8 0) X1)
abbrev J63:X:=.consI .u8 (.wrap .u8 V3) X1
abbrev J64:=Ea 7 24 [Vi 0,Vi 1,Vi 2,Vs 3,Va 4,Vs 6]::J2d
abbrev J65:=Tt (Xa V5 N18) (Th 0 [V4,Xa V5 N18])
abbrev J66:=Tf (Cb [(false,[Sd (X5 [])]),(false,[Vi 8])]) []
abbrev J67:=Tf (Vq [Vi 17]) []
abbrev J68:=Tt (Xa V2 N18) (Th 0 [V1,Xa V2 N18])
abbrev J69:=[Kd0 .u8]
abbrev J6a:=Ea 20 29 [Vi 4,Vb 5,Vb 6,Vb 7,Vb 8,Vi 9,Vi 10,Vi 11,Vi 12,Vs 13,Vs 14,Vs 15,Va 16,Va 18]
abbrev J6b:=Ed 30::Eb 36 5 J69 V37::J6a::Ea 0 117 [Va 35,Va 36]::J38
abbrev J6c:=Ea 38 69 [Sd (Xh V17 V34 0),Sh (Xi V17 V34 1)]
abbrev J6d:=Eb 26 5 J69 V27
abbrev J6e:=Ea 0 117 [Va 25,Va 26]::J38
abbrev J6f:=Eb 22 5 J69 V23
abbrev J6g:=Ea 0 117 [Va 21,Va 22]::J38
abbrev J6h:=Eb 2 5 J69 V3
abbrev J6i:=Ea 0 117 [Va 1,Va 2]
abbrev J6j:=J6a::J6h::J6i::J38
abbrev J6k:=Tb V8 (Td (Te 114 [Vq [Sg 0 0],Vq [Sh N18],Vq [Va 21]] (Eb 21 3 Jn (Xj (Xj Xo (Xk N18 X1)) (Xk V12 X1))::J6j) [0] [2] [Ea 0 117 [Va 22,Va 23]] [Eb 23 5 J69 V24] (Cb []) 3 (Tk 0 [V22,V23,V24]))) (Td (Te 114 [Vq [Sg 0 0],Vq [Sh N18],Vq [Va 21]] (Eb 21 3 Jn (Xj (Xj Xo J1h) (Xk V12 X1))::J6j) [0] [2] [Ea 0 117 [Va 22,Va 23]] [Eb 23 5 J69 V24] (Cb []) 3 (Tk 0 [V22,V23,V24])))
abbrev J6l:=Eb 30 5 J69 V31
abbrev J6m:=Eb 28 3 Jn (Xj Xo (Xk V11 X1))
abbrev J6n:=Eb 24 3 Jn (Xj (Xj Xo (Xk N1v X1)) J1h)
abbrev J6o:=J6a::Ea 0 117 [Va 29,Va 30]::J38
abbrev J6p:=Eb 24 3 Jn (Xj (Xj Xo (Xk N1v X1)) (Xk N1s X1))
abbrev J6q:=Ea 2 24 [Vi 6,Vi 7,Vi 8,Vs 9,Va 10,Vs 12]
abbrev J6r:=[Eb 10 74 J27 V11,Eb 17 74 J27 V18]
abbrev J6s:=Tf (Cb [(true,[Sh Ns,Sh Ns,Sh Ns,Sd (X5 []),Sf,Sd (X5 [])]),(false,[Vi 20])]) []
abbrev J6t:=Ea 1 24 [Vi 13,Vi 14,Vi 15,Vs 16,Va 17,Vs 19]::J6r
abbrev J6u:=Xk (Xa V5 V20) (Xn (.sl V0 V24 (Xa V24 V23)) X1)
abbrev J6v:=Td (Ta (Xb (Xa (Xd V11) (Xd (Xj Xo J6u))) N1i) (Td (Th 0 [V3,Xa V24 V23,Xa V5 V20,V6,V7,V8,V9,V27,Xj V11 J6u,V12,V13,V14,V15,V16,V17,V18,V19])))
abbrev J6w:=Tf (Cb [(true,[Sh Ns,Sh Ns,Sh Ns,Sd (X5 []),Sf,Sd (X5 [])]),(false,[Sh N18])]) []
abbrev J6x:=Ea 2 24 [Vi 6,Vi 7,Vi 8,Vs 9,Va 10,Sd (.sl V0 (Xa V4 N18) (Xq V0))]
abbrev J6y:=Ea 35 29 [Vi 18,Vb 19,Vb 20,Vb 21,Vb 22,Vi 23,Vi 24,Vi 25,Vi 26,Vs 27,Vs 28,Vs 29,Va 30,Va 32]::Ec 30 Jl V31::Ec 32 Jn V33::J3v
abbrev J6z:=Ec 48 Jl V49::Ec 50 Jn V51::J6y
abbrev J70:=Tb (Xf (Xg V52 Ns) (Xz V16 (X5 [50,9,0,3,97,47,98,0,10,104,105]))) (Te 22 [] J6z [] [] [] [Ec 65 Jl V66,Ec 67 Jn V68] (Cc [Vi 53,Vb 54,Vb 55,Vb 56,Vb 57,Vi 58,Vi 59,Vi 60,Vi 61,Vs 62,Vs 63,Vs 64,Va 65,Va 67]) 16 (Ts 13 [Cc [Vi 18,Vb 19,Vb 20,Vb 21,Vb 22,Vi 23,Vi 24,Vi 25,Vi 26,Vs 27,Vs 28,Vs 29,Va 30,Va 32],Cc [Vi 53,Vb 54,Vb 55,Vb 56,Vb 57,Vi 58,Vi 59,Vi 60,Vi 61,Vs 62,Vs 63,Vs 64,Va 65,Va 67]] (Ec 65 Jl V66::Ec 67 Jn V68::J6z) (Vq [Vb 69]) 1 (Tf (Vq [Vb 69]) []))) J5t
abbrev J71:=Tk 0 [Ns]
abbrev J72:=Ts 103 [Cc [Vi 0,Vb 1,Vb 2,Vb 3,Vb 4,Vi 5,Vi 6,Vi 7,Vi 8,Vs 9,Vs 10,Vs 11,Va 12,Va 14]] J5e (Vq [Vi 17]) 1 J67
abbrev J73:=Ea 17 117 [Va 24,Va 25]
abbrev J74:=Ea 17 117 [Va 18,Va 19]
abbrev J75:=Eb 19 5 J69 V20::J74::J5e
abbrev J76:=Ts 69 [Vq [Sh (.ediv V0 N3s)]] [] (Vq [Vs 2]) 1 (Ta (Xb (Xa (Xq (.ofR (Xj Xo (.consI .u8 (Xa (.emod V0 N3s) N3s) X1)))) (Xq V2)) N20) (Tf (Vq [Sd (.cat (.ofR (Xj Xo (.consI .u8 (Xa (.emod V0 N3s) N3s) X1))) V2)]) []))
abbrev J77:=Tf (Cb [(false,[Sh Ns]),(false,[Sh (X3 5)])]) []
abbrev J78:=Tt (Xa V19 N18) (Th 0 [V18,Xa V19 N18])
abbrev J79:=Tf (Vq [Sb (Xf (Xf (Xb N18 (Xq V0)) (Xb (Xq V0) (X3 20))) V1)]) []
abbrev J7a:=Eb 22 69 Jl V23
abbrev J7b:=Eb 24 3 Jn V25
abbrev J7c:=Ea 6 78 [Vs 7,Vi 8,Vb 9]
abbrev J7d:=Ea 5 29 [Vi 10,Vb 11,Vb 12,Vb 13,Vb 14,Vi 15,Vi 16,Vi 17,Vi 18,Vs 19,Vs 20,Vs 21,Va 22,Va 24]
abbrev J7e:=J7a::J7b::J7c::J7d::J1q
abbrev J7f:=Tq (Xe V9) 41 [Vq [Vi 10]] [] (Vq [Vb 26]) 1 (Tq (Xe (Xp (Xp V9 (Xe V26)) (Xc N18 V15))) 42 [Cc [Vi 10,Vb 11,Vb 12,Vb 13,Vb 14,Vi 15,Vi 16,Vi 17,Vi 18,Vs 19,Vs 20,Vs 21,Va 22,Va 24]] J7e (Vq [Vs 27]) 1 (Tb (Xp (Xp (Xp V9 (Xe V26)) (Xc N18 V15)) (Xe (Xz V27 V0))) J19 (Ts 23 [Cc [Vi 10,Vb 11,Vb 12,Vb 13,Vb 14,Vi 15,Vi 16,Vi 17,Vi 18,Vs 19,Vs 20,Vs 21,Va 22,Va 24]] J7e (Vq [Vi 28]) 1 (Tb (Xe (Xg V28 Ns)) (Tf (Cb [(true,[Sh Ns,Sb (X4 false),Sb (X4 false),Sb (X4 false),Sb (X4 false),Sh Ns,Sh Ns,Sh Ns,Sh Ns,Sd (X5 []),Sd (X5 []),Sd (X5 []),Sf,Sf]),(false,[Vi 28])]) []) (Tf (Cb [(true,[Vi 10,Vb 11,Vb 12,Vb 13,Vb 14,Vi 15,Vi 16,Vi 17,Vi 18,Vs 19,Vs 20,Vs 21,Va 22,Va 24]),(false,[Sh Ns])]) [J7a,J7b,J7c,J7d,Ea 1 29 [Vi 10,Vb 11,Vb 12,Vb 13,Vb 14,Vi 15,Vi 16,Vi 17,Vi 18,Vs 19,Vs 20,Vs 21,Va 22,Va 24]])))))
abbrev J7g:=Ea 6 78 [Vs 0,Sh (Xa N18 V3),Sb (X4 false)]
abbrev J7h:=Tf (Cc [Vi 0,Vb 1,Vb 2,Vb 3,Vb 4,Vi 5,Sh Ns,Vi 7,Vi 8,Vs 9,Vs 10,Vs 11,Sf,Va 14]) (Ea 17 29 [Vi 0,Vb 1,Vb 2,Vb 3,Vb 4,Vi 5,Sh Ns,Vi 7,Vi 8,Vs 9,Vs 10,Vs 11,Sf,Va 14]::Ea 16 29 [Vi 0,Vb 1,Vb 2,Vb 3,Vb 4,Vi 5,Sh Ns,Vi 7,Vi 8,Vs 9,Vs 10,Vs 11,Sf,Va 14]::J3v)
abbrev J7i:=Tf (Cc [Vi 0,Vb 1,Vb 2,Vb 3,Vb 4,Vi 5,Sh Ns,Vi 7,Vi 8,Vs 9,Vs 10,Vs 11,Va 12,Va 14]) (Ea 17 29 [Vi 0,Vb 1,Vb 2,Vb 3,Vb 4,Vi 5,Sh Ns,Vi 7,Vi 8,Vs 9,Vs 10,Vs 11,Va 12,Va 14]::Ea 16 29 [Vi 0,Vb 1,Vb 2,Vb 3,Vb 4,Vi 5,Sh Ns,Vi 7,Vi 8,Vs 9,Vs 10,Vs 11,Va 12,Va 14]::J3v)
abbrev J7j:=Ta (Xb (Xa (Xq V18) (Xq V20)) N20) (Tt (Xa V19 N18) (Th 1 [.cat V18 V20,Xa V19 N18]))
abbrev J7k:=Tk 0 [Xa (X7 (X3 16) V0) N1s,V18]
abbrev J7l:=Ts 67 [Vq [Vi 6],Vq [Sh N1s]] [] (Vq [Vs 17]) 1 (Tk 0 [X7 (X3 16) V0,V17])
abbrev J7m:=Ec 16 J27 V17
abbrev J7n:=Ea 9 24 [Sh (.bits .and .i64 (.shr .i64 V3 N1v) N1x),Vi 6,Vi 10,Vs 13,Va 16,Sd (X5 [])]
abbrev J7o:=Ea 2 84 [Vs 18,Vb 19]
abbrev J7p:=[Ea 1 24 [Sh Ns,Sh Ns,Sh Ns,Sd (X5 []),Sf,Sd (X5 [])]]
abbrev J7q:=Ea 9 24 [Sh (.bits .and .i64 (.shr .i64 V3 N1v) N1x),Vi 6,Vi 10,Vs 13,Va 16,Vs 21]
abbrev J7r:=Ea 2 84 [Vs 21,Sb (Xp V22 (Xz V21 (X5 [])))]
abbrev J7s:=Ea 31 29 [Vi 13,Vb 14,Vb 15,Vb 16,Vb 17,Vi 18,Vi 19,Vi 20,Vi 21,Vs 22,Vs 23,Vs 24,Va 25,Va 27]
abbrev J7t:=[Ed 12,Eb 10 29 J5u V11,Eb 5 29 J5u V6]
abbrev J7u:=J7s::Ec 25 Jl V26::Ec 27 Jn V28::J7t
abbrev J7v:=Xk V13 (Xm V14 (Xm V15 (Xm V16 (Xm V17 (Xk V18 (Xk V19 (Xk V20 (Xk V21 (Xn V22 (Xn V23 (Xn V24 (Xt V25 (Xt V27 X1)))))))))))))
abbrev J7w:=Ea 17 24 [Vi 9,Vi 10,Vi 11,Vs 12,Va 13,Vs 15]::J5l
abbrev J7x:=Ec 22 J27 V23::J7w
abbrev J7y:=Tb (Xf (Xg V25 Ns) (Xz V7 (X5 [65,1,1,2,116,96,81,97,1,98]))) (Te 25 [] J7x [] [] [] [Ec 30 J27 V31] (Cc [Vi 26,Vi 27,Vi 28,Vs 29,Va 30,Vs 32]) 7 (Ts 14 [Cc [Vi 9,Vi 10,Vi 11,Vs 12,Va 13,Vs 15],Cc [Vi 26,Vi 27,Vi 28,Vs 29,Va 30,Vs 32]] (Ec 30 J27 V31::J7x) (Vq [Vb 33]) 1 (Tf (Vq [Vb 33]) []))) J5t
abbrev J7z:=Eb 5 74 J27 V6
abbrev J80:=Eb 3 74 J27 Xo
abbrev J81:=[J7z,J80,Ea 0 84 [Vs 8,Vb 9]]
abbrev J82:=Xk (Xa V7 V13) (Xn V19 X1)
abbrev J83:=Tf (Cb [(false,[Vs 13]),(false,[Sh Ns])]) []
abbrev J84:=[Eb 9 5 J69 V10,Ea 0 117 [Va 8,Va 9],Ec 5 Jn V6]
abbrev J85:=[Ea 0 65 [Vs 1,Vi 2,Sb (X4 true)]]
abbrev J86:=[Eb 2 74 J27 Xo,Ec 0 J27 V1]
abbrev J87:=Ea 108 24 [Vi 1,Vi 2,Vi 3,Vs 4,Va 15,Vs 7]
abbrev J88:=Ea 107 24 [Vi 1,Vi 2,Vi 3,Vs 4,Va 15,Vs 7]
abbrev J89:=Ea 106 24 [Vi 98,Vi 99,Vi 100,Vs 101,Va 102,Vs 104]
abbrev J8a:=Ea 97 24 [Vi 89,Vi 90,Vi 91,Vs 92,Va 93,Vs 95]
abbrev J8b:=Ea 88 24 [Vi 80,Vi 81,Vi 82,Vs 83,Va 84,Vs 86]
abbrev J8c:=Ea 72 24 [Vi 64,Vi 65,Vi 66,Vs 67,Va 68,Vs 70]
abbrev J8d:=Ea 63 29 [Vi 46,Vb 47,Vb 48,Vb 49,Vb 50,Vi 51,Vi 52,Vi 53,Vi 54,Vs 55,Vs 56,Vs 57,Va 58,Va 60]
abbrev J8e:=Ea 33 29 [Vi 16,Vb 17,Vb 18,Vb 19,Vb 20,Vi 21,Vi 22,Vi 23,Vi 24,Vs 25,Vs 26,Vs 27,Va 28,Va 30]
abbrev J8f:=[Ea 9 24 [Vi 1,Vi 2,Vi 3,Vs 4,Va 5,Vs 7],Ec 5 J27 V6]
abbrev J8g:=Ea 42 24 [Vi 34,Vi 35,Vi 36,Vs 37,Va 38,Vs 40]::J5j::J8e::Ec 28 Jl V29::Ec 30 Jn V31::Eb 15 74 J27 V45::J8f
abbrev J8h:=J8a::J8b::J8c::J8d::J8g
abbrev J8i:=Eb 102 74 J27 (X6 103)
abbrev J8j:=J87::J88::J89::J8i::J8h
abbrev J8k:=Eb 93 74 J27 (X6 94)
abbrev J8l:=J87::J88::J89::J8i::J8a::J8k::J8b::J8c::J8d::J8g
abbrev J8m:=Eb 84 74 J27 (X6 85)
abbrev J8n:=J87::J88::J89::J8i::J8a::J8k::J8b::J8m::J8c::J8d::J8g
abbrev J8o:=Eb 68 74 J27 V69
abbrev J8p:=J87::J88::J89::J8i::J8a::J8k::J8b::J8m::J8c::J8o::J8d::J8g
abbrev J8q:=Eb 73 29 J5u V74
abbrev J8r:=J87::J88::J89::J8i::J8a::J8k::J8b::J8m::J8q::Ed 77::J8c::J8o::J8d::J8g
abbrev J8s:=J8d::Eb 58 69 Jl V59::Eb 60 3 Jn V61::J8g
abbrev J8t:=J8q::Ed 77::J8c::J8o::J8s
abbrev J8u:=J8a::J8k::J8b::J8m::J8t
abbrev J8v:=J87::J88::J89::J8i::J8u
abbrev J8w:=Tc (Tc (Ts 14 [Cc [Vi 1,Vi 2,Vi 3,Vs 4,Va 5,Vs 7],Cc [Vi 1,Vi 2,Vi 3,Vs 4,Va 15,Vs 7]] J8v (Vq [Vb 109]) 1 (Tb (Xe (X6 109)) J5t (Td (.callR 19 [Vq [Va 110]] (Eb 110 29 J5u (Xj Xo (Xk V46 (Xm V47 (Xm V48 (Xm V49 (Xm V50 (Xk V51 (Xk V52 (Xk V53 (Xk V54 (Xn V55 (Xn V56 (Xn V57 (Xt V58 (Xt V60 X1)))))))))))))))::J8v) J8r (.callR 19 [Vq [Va 73]] J8r J8p (.callR 20 [Cc [Vi 64,Vi 65,Vi 66,Vs 67,Va 68,Vs 70]] J8p J8n (.callR 20 [Cc [Vi 80,Vi 81,Vi 82,Vs 83,Va 84,Vs 86]] J8n J8l (.callR 20 [Cc [Vi 89,Vi 90,Vi 91,Vs 92,Va 93,Vs 95]] J8l J8j (.callR 20 [Cc [Vi 98,Vi 99,Vi 100,Vs 101,Va 102,Vs 104]] J8j (J87::J88::J89::J8h) (Tt (Xa V44 N18) (Th 0 [V43,Xa V44 N18,V45]))))))))))))
abbrev J8x:=Eb 15 74 J27 (Xx Xo V6)::J8f
