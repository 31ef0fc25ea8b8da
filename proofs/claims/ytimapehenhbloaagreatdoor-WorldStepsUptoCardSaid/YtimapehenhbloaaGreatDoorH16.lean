/- By an AI agent. -/
import Derived.Test.YtimapehenhbloaaGreatDoorH09
set_option linter.all false
set_option maxHeartbeats 20000000
set_option maxRecDepth 100000
namespace Go.Proofs.Y
open Go.Sx
def Z51:=W2 30 [Vq [Sg 0 0],Vq [Vs 13],Cc [Vi 14,Vb 15,Vb 16,Vb 17,Vb 18,Vi 19,Vi 20,Vi 21,Vi 22,Vs 23,Vs 24,Vs 25,Va 26,Va 28]] J1e Tryz.func218
def Z7w:=Wj 1 [(0,5,21),(2,10,2),(1,30,2)] [Vq [Vs 0]] [] Tryz.func80
def Z7c:=W2 30 [Vq [Sg 0 0],Vq [Vs 13],Cc [Vi 14,Vb 15,Vb 16,Vb 17,Vb 18,Vi 19,Vi 20,Vi 21,Vi 22,Vs 23,Vs 24,Vs 25,Va 26,Va 28]] J1e Tryz.func214
def Z7i:=W2 15 [Vq [Sg 0 0],Vq [Vs 13],Vq [Vs 14]] J1q Tryz.func77
def Zlg:=W2 6 [Vq [Va 0],Cc [Vi 2,Vs 3,Vs 4,Vi 5]] J6 Tryz.func239
def Zai:=W2 4 [Vq [Va 0],Vq [Vs 2],Vq [Vs 3]] Jo Tryz.func129
def Zj1:=W2 3 [Vq [Va 0],Vq [Vs 2]] J6 Tryz.func247
def Zfp:=W2 2 [Vq [Vs 0],Vq [Vi 1]] [] Tryz.func248
def Z6f:=W2 2 [Vq [Vs 0],Vq [Vb 1]] [] Tryz.func64
def Z6z:=W2 2 [Vq [Va 0]] Jo Tryz.func18
def Zab:=W2 4 [Vq [Va 0],Vq [Va 2]] [Ec 0 [Ka] V1,Ec 2 [Ka] V3] Tryz.func318
def Zds:=W2 8 [Cc [Vi 0,Vi 1,Vi 2,Vs 3,Va 4,Vs 6],Vq [Vi 7]] Jt Tryz.func238
def Z7x:=W2 1 [Vq [Vs 0]] [] Tryz.func127
def Zcq:=W2 16 [Cc [Vi 0,Vb 1,Vb 2,Vb 3,Vb 4,Vi 5,Vi 6,Vi 7,Vi 8,Vs 9,Vs 10,Vs 11,Va 12,Va 14]] Jr Tryz.func144
def Zcr:=W2 16 [Cc [Vi 0,Vb 1,Vb 2,Vb 3,Vb 4,Vi 5,Vi 6,Vi 7,Vi 8,Vs 9,Vs 10,Vs 11,Va 12,Va 14]] Jr Tryz.func187
def Z8l:=Wj 1 [(4,3,10)] [Vq [Vi 0]] [] Tryz.func133
def Zaj:=W2 16 [Cc [Vi 0,Vb 1,Vb 2,Vb 3,Vb 4,Vi 5,Vi 6,Vi 7,Vi 8,Vs 9,Vs 10,Vs 11,Va 12,Va 14]] Jr Tryz.func186
def Zoa:=W2 3 [Cc [Vs 0,Vs 1,Vi 2]] [] Tryz.func104
def Zcl:=W2 3 [Cc [Vi 0,Vs 1,Vs 2]] [] Tryz.func199
