/- By an AI agent. -/
import Derived.Test.YtimapehenhbloaaGreatDoorH09
set_option linter.all false
set_option maxHeartbeats 20000000
set_option maxRecDepth 100000
namespace Go.Proofs.Y
open Go.Sx
def Zd4:=W2 18 [Cc [Va 0,Va 2,Va 4,Va 7,Vi 9],Vq [Vi 10],Cc [Vi 11,Vi 12,Vi 13,Vs 14,Va 15,Vs 17]] [Jn,Jp,J1k,Ed 6,J1l,Ec 15 Js V16] Tryz.func121
def Zfb:=W2 9 [Cc [Vs 0,Vb 1,Vb 2,Va 3,Va 5,Vi 7],Vq [Vi 8]] Jc Tryz.func215
def Z7h:=W3 16 [(3,2,4),(5,6,2),(3,14,4),(0,16,19),(13,0,0)] [Vq [Sg 0 0],Vq [Vs 13],Vq [Vs 14],Vq [Vi 15]] J1q Tryz.func78
def Z8k:=W2 5 [Vq [Va 0],Cc [Vs 2,Vs 3,Vi 4]] Jo Tryz.func86
def Zha:=Wj 10 [(0,3,5),(1,5,4),(0,2,6)] [Cc [Vi 0,Vi 1,Vi 2,Vs 3,Va 4,Vs 6],Vq [Vi 7],Vq [Va 8]] [Ec 4 Js V5,Ec 8 [Ka] V9] Tryz.func276
def Zhc:=W2 8 [Cc [Vs 0,Vb 1,Vb 2,Va 3,Va 5,Vi 7]] Jc Tryz.func219
def Zdm:=W2 4 [Vq [Va 0],Vq [Vi 2],Vq [Vs 3]] J6 Tryz.func241
def Z76:=W2 2 [Vq [Vs 0],Vq [Vi 1]] [] Tryz.func79
def Z6d:=W2 32 [Cc [Vi 0,Vb 1,Vb 2,Vb 3,Vb 4,Vi 5,Vi 6,Vi 7,Vi 8,Vs 9,Vs 10,Vs 11,Va 12,Va 14],Cc [Vi 16,Vb 17,Vb 18,Vb 19,Vb 20,Vi 21,Vi 22,Vi 23,Vi 24,Vs 25,Vs 26,Vs 27,Va 28,Va 30]] [Ec 12 Jq V13,Ec 14 [Vk] V15,Ec 28 Jq (X6 29),Ec 30 [Vk] (X6 31)] Tryz.func101
def Z72:=W2 2 [Vq [Vs 0],Vq [Vi 1]] [] Tryz.func181
def Zj2:=W2 2 [Vq [Va 0]] Jo Tryz.func40
def Z8i:=W2 4 [Vq [Sg 0 0],Vq [Vi 3]] J1h Tryz.func203
def Zfe:=W2 16 [Cc [Vi 0,Vb 1,Vb 2,Vb 3,Vb 4,Vi 5,Vi 6,Vi 7,Vi 8,Vs 9,Vs 10,Vs 11,Va 12,Va 14]] Jr Tryz.func190
def Zd6:=W2 11 [Vq [Sg 0 0]] J1j Tryz.func43
def Z84:=W2 5 [Vq [Sg 0 0],Vq [Vi 4]] [J1f] Tryz.func285
def Zff:=W2 3 [Vq [Va 0],Vq [Vi 2]] [Ec 0 J9 V1] Tryz.func200
def Zj0:=W2 2 [Vq [Va 0]] [Ec 0 [Vk] V1] Tryz.func159
def Z8j:=W2 0 [] [] Tryz.func96
def Z9d:=W2 4 [Vq [Sg 0 0]] [J1f] Tryz.func287
def Zhf:=W2 1 [Vq [Vi 0]] [] Tryz.func141
