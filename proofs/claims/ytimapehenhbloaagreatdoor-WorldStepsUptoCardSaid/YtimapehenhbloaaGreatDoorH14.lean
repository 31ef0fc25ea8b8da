/- By an AI agent. -/
import Derived.Test.YtimapehenhbloaaGreatDoorH09
set_option linter.all false
set_option maxHeartbeats 20000000
set_option maxRecDepth 100000
namespace Go.Proofs.Y
open Go.Sx
def Z7a:=Wj 21 [(5,3,6),(6,7,3),(0,19,9),(12,7,3)] [Vq [Sg 0 0],Vq [Vi 13],Cc [Vi 14,Vi 15,Vi 16,Vs 17,Va 18,Vs 20]] [J11,J12,J13,J14,J16,J17,J18,Ec 18 Js V19] Tryz.func170
def Z5x:=Wj 18 [(3,16,4),(5,20,4),(12,20,4),(5,4,5),(12,4,5)] [Vq [Sg 0 0],Vq [Va 13],Cc [Vs 15,Vi 16,Vs 17]] [J11,J12,J1i,J1l,J16,J17,J1p,Ec 13 J1n V14] Tryz.func8
def Z9c:=Wj 17 [(2,2,2),(1,10,6)] [Vq [Sg 0 0],Vq [Sg 4 0]] J1g Tryz.func249
def Zl0:=Wj 15 [(1,3,3),(1,5,3)] [Cc [Va 0,Va 2,Va 4,Va 7,Vi 9],Vq [Va 10],Cc [Vs 12,Vi 13,Vs 14]] J1o Tryz.func4
def Z5i:=Wj 16 [(2,4,2),(4,5,17),(4,7,9),(4,9,14)] [Cc [Vi 0,Vb 1,Vb 2,Vb 3,Vb 4,Vi 5,Vi 6,Vi 7,Vi 8,Vs 9,Vs 10,Vs 11,Va 12,Va 14]] Jr Tryz.func136
def Z9g:=W3 11 [] [Cc [Vs 0,Vb 1,Vb 2,Va 3,Va 5,Vi 7],Vq [Vs 8],Vq [Vs 9],Vq [Vi 10]] Jc Tryz.func131
def Z7b:=W2 17 [Vq [Sg 0 0],Vq [Vs 13],Vq [Va 14]] [J11,J12,J13,J14,J16,J17,J18,Ec 14 Jl V15,Ed 16] Tryz.func216
def Z53:=W2 8 [Cc [Vs 0,Vb 1,Vb 2,Va 3,Va 5,Vi 7]] Jc Tryz.func20
def Zdp:=W2 7 [Cc [Vi 0,Vi 1,Vi 2,Vs 3,Va 4,Vs 6]] Jt Tryz.func207
def Zho:=W2 3 [Vq [Va 0],Vq [Vs 2]] [Ec 0 J10 V1] Tryz.func51
def Zdn:=W2 8 [Cc [Vs 0,Vb 1,Vb 2,Va 3,Va 5,Vi 7]] Jc Tryz.func106
def Z6v:=W2 2 [Vq [Va 0]] [Ec 0 J1n V1] Tryz.func6
def Zam:=W2 2 [Vq [Vs 0],Vq [Vs 1]] [] Tryz.func140
def Z5l:=W2 4 [Vq [Va 0],Vq [Va 2]] [Ec 0 J5 V1,Ec 2 J5 V3] Tryz.func99
def Z99:=W2 5 [Vq [Sg 0 0],Vq [Vs 4]] [Ju,Jv] Tryz.func191
def Z81:=W2 2 [Vq [Vs 0],Vq [Vs 1]] [] Tryz.func21
def Z6w:=W2 3 [Cc [Vs 0,Vi 1,Vs 2]] [] Tryz.func7
def Zdo:=W2 2 [Vq [Vs 0],Vq [Vs 1]] [] Tryz.func230
def Zfm:=W2 1 [Vq [Vi 0]] [] Tryz.func277
def Zb2:=W2 2 [Vq [Vb 0],Vq [Vi 1]] [] Tryz.func184
