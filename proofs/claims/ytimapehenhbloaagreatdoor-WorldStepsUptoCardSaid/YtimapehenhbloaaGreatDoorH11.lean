/- By an AI agent. -/
import Derived.Test.YtimapehenhbloaaGreatDoorH09
set_option linter.all false
set_option maxHeartbeats 20000000
set_option maxRecDepth 100000
namespace Go.Proofs.Y
open Go.Sx
def Z5b:=W3 21 [(5,7,6),(6,11,3),(12,11,3),(0,17,13),(0,20,15),(5,20,15),(0,25,14)] [Vq [Sg 0 0],Vq [Vi 13],Cc [Vi 14,Vi 15,Vi 16,Vs 17,Va 18,Vs 20]] [J11,J12,J1i,J1l,J16,J17,J1p,Ec 18 Js V19] Tryz.func28
def Zer:=W2 27 [Cc [Va 0,Va 2,Va 4,Va 7,Vi 9],Vq [Vs 10],Cc [Vi 11,Vb 12,Vb 13,Vb 14,Vb 15,Vi 16,Vi 17,Vi 18,Vi 19,Vs 20,Vs 21,Vs 22,Va 23,Va 25]] [Jn,Jp,J1k,Ed 6,J1l,Ec 23 Jq (X6 24),Ec 25 [Vk] V26] Tryz.func124
def Zfl:=W2 8 [Cc [Vs 0,Vb 1,Vb 2,Va 3,Va 5,Vi 7]] Jc Tryz.func251
def Zfg:=W2 16 [Cc [Vi 0,Vb 1,Vb 2,Vb 3,Vb 4,Vi 5,Vi 6,Vi 7,Vi 8,Vs 9,Vs 10,Vs 11,Va 12,Va 14]] Jr Tryz.func91
def Z6t:=W2 20 [Cc [Va 0,Va 2,Va 4,Va 7,Vi 9],Cc [Va 10,Va 12,Va 14,Va 17,Vi 19]] [Jn,Jp,J1k,Ed 6,J1l,Ec 10 Jm V11,Ec 12 Jm V13,Ec 14 J10 V15,Ed 16,Ec 17 J5 V18] Tryz.func36
def Z97:=W3 8 [] [Cc [Vs 0,Vb 1,Vb 2,Va 3,Va 5,Vi 7]] Jc Tryz.func138
def Z5a:=W2 17 [Vq [Sg 0 0],Vq [Vs 13],Vq [Va 14]] [J11,J12,J1i,J1l,J16,J17,J1p,Ec 14 Jl V15,Ed 16] Tryz.func85
def Z54:=W2 7 [Cc [Vi 0,Vi 1,Vi 2,Vs 3,Va 4,Vs 6]] Jt Tryz.func71
def Zob:=W2 3 [Vq [Vs 0],Vq [Vi 1],Vq [Vi 2]] [] Tryz.func202
def Z4g:=W2 1 [Vq [Vi 0]] [] Tryz.func185
def Zj4:=W2 1 [Vq [Vs 0]] [] Tryz.func103
def Zao:=W2 7 [Vq [Sg 0 0],Vq [Vi 4],Vq [Va 5]] [Ju,Jv,Ec 5 [Vk] V6] Tryz.func192
def Z74:=W2 4 [Vq [Va 0],Vq [Va 2]] [Jn,Jp] Tryz.func98
def Zb0:=W2 8 [Cc [Vs 0,Vb 1,Vb 2,Va 3,Va 5,Vi 7]] Jc Tryz.func89
def Zck:=W2 16 [Cc [Vi 0,Vb 1,Vb 2,Vb 3,Vb 4,Vi 5,Vi 6,Vi 7,Vi 8,Vs 9,Vs 10,Vs 11,Va 12,Va 14]] Jr Tryz.func188
def Z8g:=W2 1 [Vq [Vs 0]] [] Tryz.func69
def Z6g:=W2 3 [Vq [Vi 0],Vq [Vs 1],Vq [Vs 2]] [] Tryz.func68
def Z7z:=W2 1 [Vq [Vs 0]] [] Tryz.func26
def Zb1:=W2 0 [] [] Tryz.func95
