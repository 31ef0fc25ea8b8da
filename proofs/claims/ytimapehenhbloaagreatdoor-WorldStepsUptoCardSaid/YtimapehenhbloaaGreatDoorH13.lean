/- By an AI agent. -/
import Derived.Test.YtimapehenhbloaaGreatDoorH09
set_option linter.all false
set_option maxHeartbeats 20000000
set_option maxRecDepth 100000
namespace Go.Proofs.Y
open Go.Sx
def Za1:=Wj 16 [(3,1,1),(3,11,1),(0,13,8),(9,14,8)] [Vq [Sg 0 0],Vq [Vs 13],Vq [Vs 14],Vq [Vi 15]] J19 Tryz.func210
def Zas:=Wj 29 [(0,5,13),(0,8,16),(0,13,14)] [Vq [Sg 0 0],Vq [Vi 13],Cc [Vi 14,Vi 15,Vi 16,Vs 17,Va 18,Vs 20],Cc [Vi 21,Vi 22,Vi 23,Vs 24,Va 25,Vs 27],Vq [Vs 28]] [J11,J12,J13,J14,J16,J17,J18,Ec 18 Js V19,Ec 25 Js V26] Tryz.func208
def Z5w:=W2 10 [Cc [Va 0,Va 2,Va 4,Va 7,Vi 9]] J1m Tryz.func5
def Zdt:=W2 1 [Vq [Vs 0]] [] Tryz.func212
def Za2:=Wj 14 [(0,2,17)] [Vq [Sg 0 0],Vq [Vs 13]] J19 Tryz.func178
def Zfi:=W2 16 [Cc [Vi 0,Vb 1,Vb 2,Vb 3,Vb 4,Vi 5,Vi 6,Vi 7,Vi 8,Vs 9,Vs 10,Vs 11,Va 12,Va 14]] Jr Tryz.func147
def Z9h:=W2 3 [Vq [Va 0],Vq [Vs 2]] J6 Tryz.func132
def Z9f:=W2 7 [Cc [Vi 0,Vi 1,Vi 2,Vs 3,Va 4,Vs 6]] Jt Tryz.func73
def Zc4:=W2 3 [Vq [Va 0]] [Ec 0 J10 V1,Ed 2] Tryz.func44
def Zle:=W2 3 [Vq [Va 0],Vq [Vs 2]] Jo Tryz.func54
def Z6c:=W2 2 [Vq [Va 0]] Jo Tryz.func19
def Z83:=W2 4 [Vq [Va 0],Vq [Vs 2],Vq [Vs 3]] Jo Tryz.func88
def Zd5:=W2 11 [Vq [Sg 0 0]] J1j Tryz.func55
def Ziz:=Wj 6 [(4,1,15)] [Cc [Vs 0,Vs 1,Vi 2],Cc [Vs 3,Vs 4,Vi 5]] [] Tryz.func105
def Z52:=W2 5 [Vq [Sg 0 0],Vq [Vi 4]] J1s Tryz.func135
def Z9a:=W2 4 [Vq [Sg 0 0]] [J1f] Tryz.func286
def Z7e:=W2 3 [Vq [Va 0],Vq [Vs 2]] [Ec 0 J10 V1] Tryz.func23
def Zj7:=W2 2 [Cc [Vs 0,Vi 1]] [] Tryz.func158
def Z5k:=W2 3 [Cc [Vi 0,Vs 1,Vs 2]] [] Tryz.func67
