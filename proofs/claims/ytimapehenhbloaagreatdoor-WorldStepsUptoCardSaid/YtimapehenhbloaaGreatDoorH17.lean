/- By an AI agent. -/
import Derived.Test.YtimapehenhbloaaGreatDoorH09
set_option linter.all false
set_option maxHeartbeats 20000000
set_option maxRecDepth 100000
namespace Go.Proofs.Y
open Go.Sx
def Z5s:=Wj 30 [(3,3,1),(3,14,1),(3,18,1),(11,0,0)] [Vq [Sg 0 0],Vq [Vs 13],Cc [Vi 14,Vb 15,Vb 16,Vb 17,Vb 18,Vi 19,Vi 20,Vi 21,Vi 22,Vs 23,Vs 24,Vs 25,Va 26,Va 28]] J1e Tryz.func217
def Zkk:=Wj 10 [(0,1,14),(10,1,14),(3,3,1),(9,5,8),(11,0,0)] [Cc [Va 0,Va 2,Va 4,Va 7,Vi 9]] J1m Tryz.func15
def Zhb:=W2 11 [Cc [Vs 0,Vb 1,Vb 2,Va 3,Va 5,Vi 7],Vq [Vs 8],Vq [Vs 9],Vq [Vi 10]] Jc Tryz.func246
def Z9j:=W2 11 [Vq [Sg 0 0]] [Eb 4 122 J9 V5,Eb 6 122 J9 V7,Eb 9 85 Jl V10,Ea 0 275 [Vs 1,Vb 2,Vb 3,Va 4,Va 6,Vi 8,Va 9]] Tryz.func255
def Z73:=W2 1 [Vq [Vs 0]] [] Tryz.func27
def Z8c:=Wj 28 [(5,2,3)] [Cc [Va 0,Va 2,Va 4,Va 7,Vi 9],Vq [Va 10],Vq [Vi 13],Vq [Vi 14],Cc [Va 15,Va 17,Va 19,Va 22,Vi 24],Vq [Va 25]] [Jn,Jp,J1k,Ed 6,J1l,Ec 10 J15 V11,J17,Ec 15 Jm V16,Ec 17 Jm V18,Ec 19 J10 V20,Ed 21,Ec 22 J5 V23,Ec 25 J15 V26,Ed 27] Tryz.func10
def Zfo:=W3 16 [] [Cc [Vi 0,Vb 1,Vb 2,Vb 3,Vb 4,Vi 5,Vi 6,Vi 7,Vi 8,Vs 9,Vs 10,Vs 11,Va 12,Va 14]] Jr Tryz.func92
def Z71:=W2 17 [Vq [Sg 0 0],Vq [Sg 4 0]] J1g Tryz.func284
def Zhg:=W2 2 [Vq [Va 0]] J6 Tryz.func46
def Zfd:=W2 2 [Vq [Vs 0],Vq [Vi 1]] [] Tryz.func321
def Z9l:=W2 8 [Cc [Vi 0,Vi 1,Vi 2,Vs 3,Va 4,Vs 6],Vq [Vi 7]] Jt Tryz.func74
def Zhp:=W2 2 [Vq [Va 0]] [Ec 0 J1n V1] Tryz.func13
def Zd1:=W2 11 [Vq [Sg 0 0]] J1j Tryz.func45
def Zli:=W2 16 [Cc [Vi 0,Vb 1,Vb 2,Vb 3,Vb 4,Vi 5,Vi 6,Vi 7,Vi 8,Vs 9,Vs 10,Vs 11,Va 12,Va 14]] Jr Tryz.func145
def Zcn:=W2 1 [Vq [Vi 0]] [] Tryz.func151
def Z70:=W2 4 [Vq [Sg 0 0],Vq [Vi 3]] J1h Tryz.func163
def Z9m:=W2 3 [Vq [Va 0],Vq [Vs 2]] Jo Tryz.func24
def Zap:=W2 1 [Vq [Vi 0]] [] Tryz.func224
def Zco:=W2 1 [Vq [Vs 0]] [] Tryz.func228
