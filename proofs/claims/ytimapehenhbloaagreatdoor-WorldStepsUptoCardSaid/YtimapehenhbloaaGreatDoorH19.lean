/- By an AI agent. -/
import Derived.Test.YtimapehenhbloaaGreatDoorH09
set_option linter.all false
set_option maxHeartbeats 20000000
set_option maxRecDepth 100000
namespace Go.Proofs.Y
open Go.Sx
def Z89:=Wj 30 [(0,9,17),(0,10,9)] [Vq [Sg 0 0],Vq [Vs 13],Cc [Vi 14,Vb 15,Vb 16,Vb 17,Vb 18,Vi 19,Vi 20,Vi 21,Vi 22,Vs 23,Vs 24,Vs 25,Va 26,Va 28]] J1e Tryz.func176
def Z7g:=Wj 14 [(0,4,23)] [Vq [Sg 0 0],Vq [Vs 13]] J1q Tryz.func31
def Z9e:=Wj 20 [(2,2,2),(1,12,5)] [Vq [Sg 0 0],Cc [Vi 4,Vb 5,Vb 6,Vb 7,Vb 8,Vi 9,Vi 10,Vi 11,Vi 12,Vs 13,Vs 14,Vs 15,Va 16,Va 18]] [Ju,Jv,Ec 16 Jq V17,Ec 18 [Vk] V19] Tryz.func148
def Zlv:=Wj 12 [(1,3,1),(3,13,1),(14,13,1),(13,0,0),(17,13,130)] [Cc [Va 0,Va 2,Va 4,Va 7,Vi 9],Vq [Va 10]] [Jn,Jp,J1k,Ed 6,J1l,Ec 10 [Ka,Vk,Ka] V11] Tryz.func35
def Z9k:=Wj 1 [(3,2,3)] [Vq [Vs 0]] [] Tryz.func29
def Zoc:=W2 5 [Vq [Va 0],Cc [Vs 2,Vs 3,Vi 4]] Jo Tryz.func256
def Zo9:=W2 4 [Vq [Va 0],Vq [Vs 2],Vq [Vs 3]] Jo Tryz.func242
def Zj5:=W2 1 [Vq [Vs 0]] [] Tryz.func171
def Z6a:=W2 3 [Vq [Sg 0 0]] J1h Tryz.func165
def Zdu:=W2 7 [Cc [Vi 0,Vi 1,Vi 2,Vs 3,Va 4,Vs 6]] Jt Tryz.func166
def Zh8:=W2 16 [Cc [Vi 0,Vb 1,Vb 2,Vb 3,Vb 4,Vi 5,Vi 6,Vi 7,Vi 8,Vs 9,Vs 10,Vs 11,Va 12,Va 14]] Jr Tryz.func189
def Z7u:=W2 4 [Vq [Va 0],Vq [Vi 2],Vq [Vs 3]] J6 Tryz.func76
def Z6b:=W2 3 [Vq [Va 0],Vq [Vs 2]] Jo Tryz.func90
def Zc0:=W2 2 [Vq [Va 0]] [Ec 0 Js V1] Tryz.func205
def Z7f:=W2 4 [Vq [Va 0],Vq [Va 2]] [Ec 0 J1n V1,Ec 2 J1n V3] Tryz.func11
def Z46:=W2 2 [Vq [Va 0]] Jo Tryz.func58
def Zlf:=W2 2 [Vq [Vs 0],Vq [Vs 1]] [] Tryz.func281
def Zak:=W2 0 [] [] Tryz.func94
def Z9b:=W2 1 [Vq [Vs 0]] [] Tryz.func182
def Zc1:=W2 0 [] [] Tryz.func33
