/- By an AI agent. -/
import Derived.Test.YtimapehenhbloaaGreatDoorH09
set_option linter.all false
set_option maxHeartbeats 20000000
set_option maxRecDepth 100000
namespace Go.Proofs.Y
open Go.Sx
def Zbe:=Wj 18 [(0,1,11),(0,0,12),(12,0,12),(3,2,1),(0,4,15),(5,9,13),(12,9,13),(0,2,15)] [Vq [Sg 0 0],Cc [Vs 15,Vi 16,Vs 17]] [J11,J12,J1i,J1l,Eb 10 49 J1n V11,Eb 12 130 J15 V13,Ed 14,Ea 0 51 [Va 1,Va 3,Va 5,Va 7,Vi 9,Va 10,Va 12]] Tryz.func17
def Z59:=Wj 30 [(5,8,11),(0,8,11),(0,12,18),(5,16,2)] [Vq [Sg 0 0],Vq [Vs 13],Cc [Vi 14,Vb 15,Vb 16,Vb 17,Vb 18,Vi 19,Vi 20,Vi 21,Vi 22,Vs 23,Vs 24,Vs 25,Va 26,Va 28]] J1r Tryz.func81
def Za3:=Wj 15 [(3,8,1),(9,11,9)] [Vq [Sg 0 0],Vq [Vs 13],Vq [Vs 14]] J19 Tryz.func209
def Zhn:=W2 11 [Cc [Va 0,Va 2,Va 4,Va 7,Vi 9],Vq [Vs 10]] J1m Tryz.func125
def Z5n:=Wj 16 [(0,2,8),(0,8,37),(2,11,2),(0,33,8),(1,36,4),(1,51,4)] [Cc [Vi 0,Vb 1,Vb 2,Vb 3,Vb 4,Vi 5,Vi 6,Vi 7,Vi 8,Vs 9,Vs 10,Vs 11,Va 12,Va 14]] Jr Tryz.func137
def Z8u:=W2 14 [Vq [Sg 0 0],Vq [Vs 13]] J19 Tryz.func221
def Zd2:=W2 11 [Vq [Sg 0 0]] J1j Tryz.func47
def Zhd:=W2 8 [Cc [Vs 0,Vb 1,Vb 2,Va 3,Va 5,Vi 7]] Jc Tryz.func160
def Zdr:=W2 16 [Cc [Vi 0,Vb 1,Vb 2,Vb 3,Vb 4,Vi 5,Vi 6,Vi 7,Vi 8,Vs 9,Vs 10,Vs 11,Va 12,Va 14]] Jr Tryz.func32
def Zfj:=W2 16 [Cc [Vi 0,Vb 1,Vb 2,Vb 3,Vb 4,Vi 5,Vi 6,Vi 7,Vi 8,Vs 9,Vs 10,Vs 11,Va 12,Va 14]] Jr Tryz.func142
def Zj3:=W2 2 [Vq [Vi 0],Vq [Vi 1]] [] Tryz.func149
def Z98:=W2 3 [Vq [Va 0],Vq [Vs 2]] Jo Tryz.func87
def Zd0:=W2 11 [Vq [Sg 0 0]] J1j Tryz.func39
def Z5m:=W2 4 [Vq [Va 0],Vq [Va 2]] [Ec 0 J9 V1,Ec 2 J9 V3] Tryz.func154
def Z6e:=W2 4 [Vq [Sg 0 0]] J1s Tryz.func134
def Z3c:=W2 2 [Vq [Va 0]] [Ec 0 J9 V1] Tryz.func119
def Z3d:=W2 2 [Vq [Va 0]] [Ec 0 Js V1] Tryz.func332
def Z8h:=W2 4 [Vq [Sg 0 0],Vq [Vi 3]] J1h Tryz.func164
def Zfc:=W2 1 [Vq [Vs 0]] [] Tryz.func196
def Zj8:=W2 1 [Vq [Vi 0]] [] Tryz.func161
