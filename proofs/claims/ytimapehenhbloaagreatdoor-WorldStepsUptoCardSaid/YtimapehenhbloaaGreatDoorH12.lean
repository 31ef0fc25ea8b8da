/- By an AI agent. -/
import Derived.Test.YtimapehenhbloaaGreatDoorH09
set_option linter.all false
set_option maxHeartbeats 20000000
set_option maxRecDepth 100000
namespace Go.Proofs.Y
open Go.Sx
def Z6y:=Wj 0 [(0,4,15),(0,5,16),(0,6,17),(16,0,0)] [] [] Tryz.func9
def Z79:=Wj 30 [(5,4,7),(5,9,10),(0,11,11),(0,13,9)] [Vq [Sg 0 0],Vq [Vs 13],Cc [Vi 14,Vb 15,Vb 16,Vb 17,Vb 18,Vi 19,Vi 20,Vi 21,Vi 22,Vs 23,Vs 24,Vs 25,Va 26,Va 28]] J1e Tryz.func213
def Zau:=W3 0 [(0,1,9)] [] [] Tryz.func34
def Zhe:=W2 16 [Cc [Vi 0,Vb 1,Vb 2,Vb 3,Vb 4,Vi 5,Vi 6,Vi 7,Vi 8,Vs 9,Vs 10,Vs 11,Va 12,Va 14]] Jr Tryz.func143
def Zj9:=Wj 2 [(3,3,10)] [Vq [Vs 0],Vq [Vs 1]] [] Tryz.func122
def Z75:=W2 3 [Vq [Va 0],Vq [Vs 2]] Jo Tryz.func130
def Zo8:=W2 3 [Vq [Va 0],Vq [Vs 2]] Jo Tryz.func257
def Z80:=W2 5 [Vq [Va 0],Vq [Vi 2],Vq [Vs 3],Vq [Vs 4]] J6 Tryz.func75
def Zal:=W2 3 [Vq [Vs 0],Vq [Vi 1],Vq [Vi 2]] [] Tryz.func128
def Z55:=W2 2 [Vq [Va 0]] J6 Tryz.func22
def Zfk:=W2 1 [Vq [Vs 0]] [] Tryz.func198
def Zd3:=W2 11 [Vq [Sg 0 0]] J1j Tryz.func41
def Z7y:=W2 4 [Vq [Va 0],Vq [Va 2]] [Jn,Jp] Tryz.func97
def Zhq:=W2 3 [Cc [Vs 0,Vi 1,Vs 2]] [] Tryz.func14
def Z85:=W2 3 [Vq [Vs 0],Cc [Vs 1,Vi 2]] [] Tryz.func65
def Z82:=W2 6 [Cc [Vs 0,Vs 1,Vi 2],Cc [Vs 3,Vs 4,Vi 5]] [] Tryz.func66
def Zlh:=W2 4 [Cc [Vi 0,Vs 1,Vs 2,Vi 3]] [] Tryz.func107
def Zb3:=W2 0 [] [] Tryz.func93
def Zfn:=W2 1 [Vq [Vi 0]] [] Tryz.func225
