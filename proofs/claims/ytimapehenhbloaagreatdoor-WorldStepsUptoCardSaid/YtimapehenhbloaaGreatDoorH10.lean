/- By an AI agent. -/
import Derived.Test.YtimapehenhbloaaGreatDoorH09
set_option linter.all false
set_option maxHeartbeats 20000000
set_option maxRecDepth 100000
namespace Go.Proofs.Y
open Go.Sx
def Z5y:=W3 30 [(0,13,17),(5,8,6),(5,10,6),(11,0,0),(3,30,4),(12,8,6),(12,10,6)] [Vq [Sg 0 0],Vq [Vs 13],Cc [Vi 14,Vb 15,Vb 16,Vb 17,Vb 18,Vi 19,Vi 20,Vi 21,Vi 22,Vs 23,Vs 24,Vs 25,Va 26,Va 28]] J1r Tryz.func30
def Z6u:=Wj 15 [(5,4,3),(5,6,3)] [Cc [Va 0,Va 2,Va 4,Va 7,Vi 9],Vq [Va 10],Cc [Vs 12,Vi 13,Vs 14]] J1o Tryz.func3
def Zan:=W3 8 [] [Cc [Vs 0,Vb 1,Vb 2,Va 3,Va 5,Vi 7]] Jc Tryz.func139
def Zcp:=W2 1 [Vq [Vs 0]] [] Tryz.func120
def Zfh:=W2 16 [Cc [Vi 0,Vb 1,Vb 2,Vb 3,Vb 4,Vi 5,Vi 6,Vi 7,Vi 8,Vs 9,Vs 10,Vs 11,Va 12,Va 14]] Jr Tryz.func150
def Z8b:=W2 6 [Vq [Va 0],Vq [Va 3]] [Ec 0 J15 V1,Ed 2,Ec 3 J15 V4,Ed 5] Tryz.func37
def Z7t:=W3 9 [] [Cc [Vs 0,Vb 1,Vb 2,Va 3,Va 5,Vi 7],Vq [Vi 8]] Jc Tryz.func83
def Z5h:=W2 16 [Cc [Vs 0,Vb 1,Vb 2,Va 3,Va 5,Vi 7],Cc [Vs 8,Vb 9,Vb 10,Va 11,Va 13,Vi 15]] [Ec 3 J9 V4,Ec 5 J9 V6,Ec 11 J9 V12,Ec 13 J9 V14] Tryz.func100
def Z9i:=W2 3 [Vq [Vs 0],Vq [Vi 1],Vq [Vi 2]] [] Tryz.func70
def Zj6:=W2 2 [Vq [Va 0]] Jo Tryz.func42
def Z5j:=W2 14 [Cc [Vi 0,Vi 1,Vi 2,Vs 3,Va 4,Vs 6],Cc [Vi 7,Vi 8,Vi 9,Vs 10,Va 11,Vs 13]] [Ec 4 Js V5,Ec 11 Js V12] Tryz.func102
def Zja:=W2 1 [Vq [Vs 0]] [] Tryz.func211
def Z7v:=W2 2 [Vq [Vi 0],Vq [Vi 1]] [] Tryz.func183
def Z3t:=W2 2 [Vq [Va 0]] J6 Tryz.func60
def Z45:=W2 2 [Vq [Va 0]] Jo Tryz.func59
def Z44:=W2 2 [Vq [Va 0]] [Ec 0 J1n V1] Tryz.func16
def Zh9:=W2 1 [Vq [Vs 0]] [] Tryz.func118
def Zdq:=W2 1 [Vq [Vs 0]] [] Tryz.func56
def Zcm:=W2 3 [Vq [Vi 0],Vq [Vi 1],Vq [Vi 2]] [] Tryz.func204
