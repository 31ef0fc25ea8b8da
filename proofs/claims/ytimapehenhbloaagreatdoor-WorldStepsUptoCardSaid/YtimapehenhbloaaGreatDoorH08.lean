/-
  Trees as numbers, reckoned by the kernel, and back. Written by a program of mine (wip/tools/gen_e8.py). By an AI agent.
-/
import Derived.Test.YtimapehenhbloaaGreatDoorH07
import Derived.Handy
set_option linter.all false
set_option maxHeartbeats 20000000
set_option maxRecDepth 100000
open List renaming rec→ϐ
namespace Go.Sx
open Go
inductive Cell
 | t (a:Tree)|x (a:X)|v (a:SV)|s (a:Sc)|e (a:Ent)|k (a:Kd)|c (a:CV)|n (a:Nat)
 | le (a:List Ent)|lv (a:List SV)|lx (a:List X)|lc (a:List CV)|ls (a:List Sc)|lk (a:List Kd)|ln (a:List Nat)
def p8(a n:Nat):Nat:=Nat.add (Nat.mul n 256) a
def eNf:Nat->Nat->Nat->Nat
 | 0,_,n=>n
 | f+1,a,n=>if a<100 then p8 (a+116) n else eNf f (a / 100) (p8 (a % 100+116) (p8 115 n))
def eN(a n:Nat):Nat:=cond (Nat.blt a 100) (p8 (a+116) n) (eNf 20 a n)
def kN:IntKind->Nat
 | .i8=>0 | .i16=>1 | .i32=>2 | .i64=>3 | .u8=>4 | .u16=>5 | .u32=>6 | .u64=>7
def kO:Nat->IntKind
 | 0=>.i8|1=>.i16|2=>.i32|3=>.i64|4=>.u8|5=>.u16|6=>.u32|_+7=>.u64
def oN:BinOp->Nat
 | .add=>0 | .sub=>1 | .mul=>2 | .quo=>3 | .rem=>4 | .and=>5 | .or=>6 | .xor=>7 | .shl=>8 | .shr=>9 | .andNot=>10 | .eql=>11 | .neq=>12 | .lss=>13 | .leq=>14 | .gtr=>15 | .geq=>16
def oO:Nat->BinOp
 | 0=>.add|1=>.sub|2=>.mul|3=>.quo|4=>.rem|5=>.and|6=>.or|7=>.xor|8=>.shl|9=>.shr|_+10=>.andNot
noncomputable def eLN(l:List Nat):Nat->Nat:=ϐ (p8 1) (λa _ h n=>h (eN a (p8 2 n))) l
noncomputable def eX(t:X):Nat->Nat:=X.rec (motive:=λ_=>Nat->Nat) (I:=Int.rec (λa n=>eN a (p8 3 n)) (λa n=>eN a (p8 4 n)))
 (B:=λb n=>p8 (cond b 5 6) n)
 (S:=λl n=>eLN (l.map UInt8.toNat) (p8 7 n))
 (var:=λa0 n=>eN a0 (p8 8 n))
 (wrap:=λa0 _ h1 n=>eN (kN a0) (h1 (p8 9 n)))
 (shl:=λa0 _ _ h1 h2 n=>eN (kN a0) (h1 (h2 (p8 10 n))))
 (shr:=λa0 _ _ h1 h2 n=>eN (kN a0) (h1 (h2 (p8 11 n))))
 (bits:=λa0 a1 _ _ h2 h3 n=>eN (oN a0) (eN (kN a1) (h2 (h3 (p8 12 n)))))
 (len:=λ_ h0 n=>h0 (p8 13 n))
 (sl:=λ_ _ _ h0 h1 h2 n=>h0 (h1 (h2 (p8 14 n))))
 (ofR:=λ_ h0 n=>h0 (p8 15 n))
 (not:=λ_ h0 n=>h0 (p8 16 n))
 (ite:=λ_ _ _ h0 h1 h2 n=>h0 (h1 (h2 (p8 17 n))))
 (rlen:=λ_ h0 n=>h0 (p8 18 n))
 (rI:=λ_ _ a2 h0 h1 n=>h0 (h1 (eN a2 (p8 19 n))))
 (rB:=λ_ _ a2 h0 h1 n=>h0 (h1 (eN a2 (p8 20 n))))
 (rS:=λ_ _ a2 h0 h1 n=>h0 (h1 (eN a2 (p8 21 n))))
 (rV:=λ_ _ a2 h0 h1 n=>h0 (h1 (eN a2 (p8 22 n))))
 (rOf:=λ_ h0 n=>h0 (p8 23 n))
 (nilR:=λn=>p8 24 n)
 (nilL:=λn=>p8 25 n)
 (consI:=λa0 _ _ h1 h2 n=>eN (kN a0) (h1 (h2 (p8 26 n))))
 (consB:=λ_ _ h0 h1 n=>h0 (h1 (p8 27 n)))
 (consS:=λ_ _ h0 h1 n=>h0 (h1 (p8 28 n)))
 (consV:=λ_ _ h0 h1 n=>h0 (h1 (p8 29 n)))
 (setR:=λ_ _ _ h0 h1 h2 n=>h0 (h1 (h2 (p8 30 n))))
 (nilS:=λn=>p8 31 n)
 (nilP:=λn=>p8 32 n)
 (ptrX:=λa0 a1 n=>eN a0 (eN a1 (p8 33 n)))
 (isnil:=λ_ h0 n=>h0 (p8 34 n))
 (subS:=λa0 _ _ h1 h2 n=>eN a0 (h1 (h2 (p8 35 n))))
 (clrR:=λ_ _ _ h0 h1 h2 n=>h0 (h1 (h2 (p8 36 n))))
 (add:=λ_ _ h0 h1 n=>h0 (h1 (p8 37 n)))
 (sub:=λ_ _ h0 h1 n=>h0 (h1 (p8 38 n)))
 (mul:=λ_ _ h0 h1 n=>h0 (h1 (p8 39 n)))
 (quo:=λ_ _ h0 h1 n=>h0 (h1 (p8 40 n)))
 (rem:=λ_ _ h0 h1 n=>h0 (h1 (p8 41 n)))
 (min:=λ_ _ h0 h1 n=>h0 (h1 (p8 42 n)))
 (ediv:=λ_ _ h0 h1 n=>h0 (h1 (p8 43 n)))
 (emod:=λ_ _ h0 h1 n=>h0 (h1 (p8 44 n)))
 (at_:=λ_ _ h0 h1 n=>h0 (h1 (p8 45 n)))
 (cat:=λ_ _ h0 h1 n=>h0 (h1 (p8 46 n)))
 (lt:=λ_ _ h0 h1 n=>h0 (h1 (p8 47 n)))
 (le:=λ_ _ h0 h1 n=>h0 (h1 (p8 48 n)))
 (eqI:=λ_ _ h0 h1 n=>h0 (h1 (p8 49 n)))
 (eqB:=λ_ _ h0 h1 n=>h0 (h1 (p8 50 n)))
 (eqS:=λ_ _ h0 h1 n=>h0 (h1 (p8 51 n)))
 (and:=λ_ _ h0 h1 n=>h0 (h1 (p8 52 n)))
 (or:=λ_ _ h0 h1 n=>h0 (h1 (p8 53 n)))
 (less:=λ_ _ h0 h1 n=>h0 (h1 (p8 54 n)))
 (snocR:=λ_ _ h0 h1 n=>h0 (h1 (p8 55 n)))
 (catR:=λ_ _ h0 h1 n=>h0 (h1 (p8 56 n)))
 (takeR:=λ_ _ h0 h1 n=>h0 (h1 (p8 57 n)))
 (dropR:=λ_ _ h0 h1 n=>h0 (h1 (p8 58 n)))
 (rRow:=λ_ _ h0 h1 n=>h0 (h1 (p8 59 n))) t
noncomputable def eS(t:Sc):Nat->Nat:=Sc.rec (motive:=λ_=>Nat->Nat) (int:=λa0 a1 n=>eN (kN a0) (eX a1 (p8 60 n)))
 (bool:=λa0 n=>eX a0 (p8 61 n))
 (str:=λa0 n=>eX a0 (p8 62 n))
 (val:=λa0 n=>eX a0 (p8 63 n))
 (ptr:=λa0 a1 n=>eN a0 (eN a1 (p8 64 n)))
 (eptr:=λa0 a1 a2 a3 n=>eN a0 (eN a1 (eX a2 (eN a3 (p8 65 n)))))
 (nilp:=λn=>p8 66 n)
 (nils:=λn=>p8 67 n)
 (nilm:=λn=>p8 68 n) t
noncomputable def eLS(l:List Sc):Nat->Nat:=ϐ (p8 69) (λa _ h n=>h (eS a (p8 70 n))) l
noncomputable def eC(c:CV)(n:Nat):Nat:=eLS c.2 (p8 (cond c.1 71 72) n)
noncomputable def eLC(l:List CV):Nat->Nat:=ϐ (p8 73) (λa _ h n=>h (eC a (p8 74 n))) l
noncomputable def eV(t:SV):Nat->Nat:=SV.rec (motive:=λ_=>Nat->Nat) (cv:=λa0 n=>eC a0 (p8 75 n))
 (gd:=λa0 a1 n=>eX a0 (eC a1 (p8 76 n)))
 (tup:=λa0 n=>eLC a0 (p8 77 n))
 (fn:=λa0 a1 a2 n=>eN a0 (eLS a1 (eLS a2 (p8 78 n))))
 (dead:=λn=>p8 79 n) t
noncomputable def eLV(l:List SV):Nat->Nat:=ϐ (p8 80) (λa _ h n=>h (eV a (p8 81 n))) l
noncomputable def eK(t:Kd):Nat->Nat:=Kd.rec (motive:=λ_=>Nat->Nat) (int:=λa0 n=>eN (kN a0) (p8 82 n))
 (bool:=λn=>p8 83 n)
 (str:=λn=>p8 84 n)
 (sl:=λa0 n=>eN a0 (p8 85 n))
 (oth:=λn=>p8 86 n) t
noncomputable def eLK(l:List Kd):Nat->Nat:=ϐ (p8 87) (λa _ h n=>h (eK a (p8 88 n))) l
noncomputable def eE(t:Ent):Nat->Nat:=Ent.rec (motive:=λ_=>Nat->Nat) (cells:=λa0 a1 a2 n=>eN a0 (eN a1 (eLS a2 (p8 89 n))))
 (row:=λa0 a1 a2 a3 n=>eN a0 (eN a1 (eLK a2 (eX a3 (p8 90 n)))))
 (rd:=λa0 a1 a2 n=>eN a0 (eLK a1 (eX a2 (p8 91 n))))
 (st:=λa0 n=>eN a0 (p8 92 n)) t
noncomputable def eLE(l:List Ent):Nat->Nat:=ϐ (p8 93) (λa _ h n=>h (eE a (p8 94 n))) l
noncomputable def eLX(l:List X):Nat->Nat:=ϐ (p8 95) (λa _ h n=>h (eX a (p8 96 n))) l
noncomputable def eT(t:Tree):Nat->Nat:=Tree.rec (motive:=λ_=>Nat->Nat) (ret:=λa0 a1 n=>eV a0 (eLE a1 (p8 97 n)))
 (ite:=λa0 _ _ h1 h2 n=>eX a0 (h1 (h2 (p8 98 n))))
 (need:=λa0 _ h1 n=>eX a0 (h1 (p8 99 n)))
 (bindN:=λ_ h0 n=>h0 (p8 100 n))
 (bindV:=λ_ h0 n=>h0 (p8 101 n))
 (bindO:=λ_ h0 n=>h0 (p8 102 n))
 (bindF:=λa0 _ h1 n=>eN a0 (h1 (p8 103 n)))
 (letV:=λa0 _ h1 n=>eX a0 (h1 (p8 104 n)))
 (callP:=λa0 a1 a2 a3 a4 a5 _ h6 n=>eX a0 (eN a1 (eLV a2 (eLE a3 (eV a4 (eN a5 (h6 (p8 105 n))))))))
 (callM:=λa0 a1 a2 a3 a4 a5 a6 a7 a8 _ h9 n=>eN a0 (eLV a1 (eLE a2 (eLN a3 (eLN a4 (eLE a5 (eLE a6 (eV a7 (eN a8 (h9 (p8 106 n)))))))))))
 (callR:=λa0 a1 a2 a3 _ h4 n=>eN a0 (eLV a1 (eLE a2 (eLE a3 (h4 (p8 107 n))))))
 (both:=λ_ _ h0 h1 n=>h0 (h1 (p8 108 n)))
 (openR:=λa0 a1 a2 _ h3 n=>eN a0 (eLK a1 (eLE a2 (h3 (p8 109 n)))))
 (pack:=λa0 _ h1 n=>eLE a0 (h1 (p8 110 n)))
 (loop:=λa0 _ h1 n=>eLX a0 (h1 (p8 111 n)))
 (back:=λa0 a1 n=>eN a0 (eLX a1 (p8 112 n)))
 (join:=λa0 _ _ h1 h2 n=>eN a0 (h1 (h2 (p8 113 n))))
 (jump:=λa0 a1 n=>eN a0 (eLX a1 (p8 114 n)))
 (stuck:=λ_ n=>n)
 (leaf:=λ_ n=>n) t
def b0(f:Nat->List Nat->List Nat):List Cell->List Cell
 | .n a0::.ln a1::v=>.ln (f a0 a1)::v
 | v=>v
def b1(f:Nat->X):List Cell->List Cell
 | .n a0::v=>.x (f a0)::v
 | v=>v
def b2(f:List Nat->X):List Cell->List Cell
 | .ln a0::v=>.x (f a0)::v
 | v=>v
def b3(f:IntKind->X->X):List Cell->List Cell
 | .x a1::.n a0::v=>.x (f (kO a0) a1)::v
 | v=>v
def b4(f:IntKind->X->X->X):List Cell->List Cell
 | .x a2::.x a1::.n a0::v=>.x (f (kO a0) a1 a2)::v
 | v=>v
def b5(f:BinOp->IntKind->X->X->X):List Cell->List Cell
 | .x a3::.x a2::.n a1::.n a0::v=>.x (f (oO a0) (kO a1) a2 a3)::v
 | v=>v
def b6(f:X->X):List Cell->List Cell
 | .x a0::v=>.x (f a0)::v
 | v=>v
def b7(f:X->X->X->X):List Cell->List Cell
 | .x a2::.x a1::.x a0::v=>.x (f a0 a1 a2)::v
 | v=>v
def b8(f:X->X->Nat->X):List Cell->List Cell
 | .n a2::.x a1::.x a0::v=>.x (f a0 a1 a2)::v
 | v=>v
def b9(f:X->X->X):List Cell->List Cell
 | .x a1::.x a0::v=>.x (f a0 a1)::v
 | v=>v
def b10(f:Nat->Nat->X):List Cell->List Cell
 | .n a1::.n a0::v=>.x (f a0 a1)::v
 | v=>v
def b11(f:Nat->X->X->X):List Cell->List Cell
 | .x a2::.x a1::.n a0::v=>.x (f a0 a1 a2)::v
 | v=>v
def b12(f:IntKind->X->Sc):List Cell->List Cell
 | .x a1::.n a0::v=>.s (f (kO a0) a1)::v
 | v=>v
def b13(f:X->Sc):List Cell->List Cell
 | .x a0::v=>.s (f a0)::v
 | v=>v
def b14(f:Nat->Nat->Sc):List Cell->List Cell
 | .n a1::.n a0::v=>.s (f a0 a1)::v
 | v=>v
def b15(f:Nat->Nat->X->Nat->Sc):List Cell->List Cell
 | .n a3::.x a2::.n a1::.n a0::v=>.s (f a0 a1 a2 a3)::v
 | v=>v
def b16(f:Sc->List Sc->List Sc):List Cell->List Cell
 | .s a0::.ls a1::v=>.ls (f a0 a1)::v
 | v=>v
def b17(f:List Sc->CV):List Cell->List Cell
 | .ls a0::v=>.c (f a0)::v
 | v=>v
def b18(f:CV->List CV->List CV):List Cell->List Cell
 | .c a0::.lc a1::v=>.lc (f a0 a1)::v
 | v=>v
def b19(f:CV->SV):List Cell->List Cell
 | .c a0::v=>.v (f a0)::v
 | v=>v
def b20(f:X->CV->SV):List Cell->List Cell
 | .c a1::.x a0::v=>.v (f a0 a1)::v
 | v=>v
def b21(f:List CV->SV):List Cell->List Cell
 | .lc a0::v=>.v (f a0)::v
 | v=>v
def b22(f:Nat->List Sc->List Sc->SV):List Cell->List Cell
 | .ls a2::.ls a1::.n a0::v=>.v (f a0 a1 a2)::v
 | v=>v
def b23(f:SV->List SV->List SV):List Cell->List Cell
 | .v a0::.lv a1::v=>.lv (f a0 a1)::v
 | v=>v
def b24(f:IntKind->Kd):List Cell->List Cell
 | .n a0::v=>.k (f (kO a0))::v
 | v=>v
def b25(f:Nat->Kd):List Cell->List Cell
 | .n a0::v=>.k (f a0)::v
 | v=>v
def b26(f:Kd->List Kd->List Kd):List Cell->List Cell
 | .k a0::.lk a1::v=>.lk (f a0 a1)::v
 | v=>v
def b27(f:Nat->Nat->List Sc->Ent):List Cell->List Cell
 | .ls a2::.n a1::.n a0::v=>.e (f a0 a1 a2)::v
 | v=>v
def b28(f:Nat->Nat->List Kd->X->Ent):List Cell->List Cell
 | .x a3::.lk a2::.n a1::.n a0::v=>.e (f a0 a1 a2 a3)::v
 | v=>v
def b29(f:Nat->List Kd->X->Ent):List Cell->List Cell
 | .x a2::.lk a1::.n a0::v=>.e (f a0 a1 a2)::v
 | v=>v
def b30(f:Nat->Ent):List Cell->List Cell
 | .n a0::v=>.e (f a0)::v
 | v=>v
def b31(f:Ent->List Ent->List Ent):List Cell->List Cell
 | .e a0::.le a1::v=>.le (f a0 a1)::v
 | v=>v
def b32(f:X->List X->List X):List Cell->List Cell
 | .x a0::.lx a1::v=>.lx (f a0 a1)::v
 | v=>v
def b33(f:SV->List Ent->Tree):List Cell->List Cell
 | .le a1::.v a0::v=>.t (f a0 a1)::v
 | v=>v
def b34(f:X->Tree->Tree->Tree):List Cell->List Cell
 | .t a2::.t a1::.x a0::v=>.t (f a0 a1 a2)::v
 | v=>v
def b35(f:X->Tree->Tree):List Cell->List Cell
 | .t a1::.x a0::v=>.t (f a0 a1)::v
 | v=>v
def b36(f:Tree->Tree):List Cell->List Cell
 | .t a0::v=>.t (f a0)::v
 | v=>v
def b37(f:Nat->Tree->Tree):List Cell->List Cell
 | .t a1::.n a0::v=>.t (f a0 a1)::v
 | v=>v
def b38(f:X->Nat->List SV->List Ent->SV->Nat->Tree->Tree):List Cell->List Cell
 | .t a6::.n a5::.v a4::.le a3::.lv a2::.n a1::.x a0::v=>.t (f a0 a1 a2 a3 a4 a5 a6)::v
 | v=>v
def b39(f:Nat->List SV->List Ent->List Nat->List Nat->List Ent->List Ent->SV->Nat->Tree->Tree):List Cell->List Cell
 | .t a9::.n a8::.v a7::.le a6::.le a5::.ln a4::.ln a3::.le a2::.lv a1::.n a0::v=>.t (f a0 a1 a2 a3 a4 a5 a6 a7 a8 a9)::v
 | v=>v
def b40(f:Nat->List SV->List Ent->List Ent->Tree->Tree):List Cell->List Cell
 | .t a4::.le a3::.le a2::.lv a1::.n a0::v=>.t (f a0 a1 a2 a3 a4)::v
 | v=>v
def b41(f:Tree->Tree->Tree):List Cell->List Cell
 | .t a1::.t a0::v=>.t (f a0 a1)::v
 | v=>v
def b42(f:Nat->List Kd->List Ent->Tree->Tree):List Cell->List Cell
 | .t a3::.le a2::.lk a1::.n a0::v=>.t (f a0 a1 a2 a3)::v
 | v=>v
def b43(f:List Ent->Tree->Tree):List Cell->List Cell
 | .t a1::.le a0::v=>.t (f a0 a1)::v
 | v=>v
def b44(f:List X->Tree->Tree):List Cell->List Cell
 | .t a1::.lx a0::v=>.t (f a0 a1)::v
 | v=>v
def b45(f:Nat->List X->Tree):List Cell->List Cell
 | .lx a1::.n a0::v=>.t (f a0 a1)::v
 | v=>v
def b46(f:Nat->Tree->Tree->Tree):List Cell->List Cell
 | .t a2::.t a1::.n a0::v=>.t (f a0 a1 a2)::v
 | v=>v
inductive Stp
 | go (n:Nat) (r:List Nat) (v:List Cell)|fin (t:Tree)
def e0:List Nat->List Cell->Stp
 | l::r,v=>.go l r v
 | [],.t a::_=>.fin a
 | [],_=>.fin (.stuck "")
def c1:List Cell->List Cell
 | .n b::.n a::v=>.n (a*100+b)::v
 | v=>v
def st:Nat->Nat->List Nat->List Cell->Stp
 | 0,_,r,v=>e0 r v
 | 1,n,r,v=>.go n r (.ln []::v)
 | 2,n,r,v=>.go n r (b0 .cons v)
 | 3,n,r,v=>.go n r (b1 (λa=>.I (.ofNat a)) v)
 | 4,n,r,v=>.go n r (b1 (λa=>.I (.negSucc a)) v)
 | 5,n,r,v=>.go n r (.x (.B true)::v)
 | 6,n,r,v=>.go n r (.x (.B false)::v)
 | 7,n,r,v=>.go n r (b2 (λl=>.S (l.map UInt8.ofNat)) v)
 | 8,n,r,v=>.go n r (b1 .var v)
 | 9,n,r,v=>.go n r (b3 .wrap v)
 | 10,n,r,v=>.go n r (b4 .shl v)
 | 11,n,r,v=>.go n r (b4 .shr v)
 | 12,n,r,v=>.go n r (b5 .bits v)
 | 13,n,r,v=>.go n r (b6 .len v)
 | 14,n,r,v=>.go n r (b7 .sl v)
 | 15,n,r,v=>.go n r (b6 .ofR v)
 | 16,n,r,v=>.go n r (b6 .not v)
 | 17,n,r,v=>.go n r (b7 .ite v)
 | 18,n,r,v=>.go n r (b6 .rlen v)
 | 19,n,r,v=>.go n r (b8 .rI v)
 | 20,n,r,v=>.go n r (b8 .rB v)
 | 21,n,r,v=>.go n r (b8 .rS v)
 | 22,n,r,v=>.go n r (b8 .rV v)
 | 23,n,r,v=>.go n r (b6 .rOf v)
 | 24,n,r,v=>.go n r (.x (.nilR)::v)
 | 25,n,r,v=>.go n r (.x (.nilL)::v)
 | 26,n,r,v=>.go n r (b4 .consI v)
 | 27,n,r,v=>.go n r (b9 .consB v)
 | 28,n,r,v=>.go n r (b9 .consS v)
 | 29,n,r,v=>.go n r (b9 .consV v)
 | 30,n,r,v=>.go n r (b7 .setR v)
 | 31,n,r,v=>.go n r (.x (.nilS)::v)
 | 32,n,r,v=>.go n r (.x (.nilP)::v)
 | 33,n,r,v=>.go n r (b10 .ptrX v)
 | 34,n,r,v=>.go n r (b6 .isnil v)
 | 35,n,r,v=>.go n r (b11 .subS v)
 | 36,n,r,v=>.go n r (b7 .clrR v)
 | 37,n,r,v=>.go n r (b9 .add v)
 | 38,n,r,v=>.go n r (b9 .sub v)
 | 39,n,r,v=>.go n r (b9 .mul v)
 | 40,n,r,v=>.go n r (b9 .quo v)
 | 41,n,r,v=>.go n r (b9 .rem v)
 | 42,n,r,v=>.go n r (b9 .min v)
 | 43,n,r,v=>.go n r (b9 .ediv v)
 | 44,n,r,v=>.go n r (b9 .emod v)
 | 45,n,r,v=>.go n r (b9 .at_ v)
 | 46,n,r,v=>.go n r (b9 .cat v)
 | 47,n,r,v=>.go n r (b9 .lt v)
 | 48,n,r,v=>.go n r (b9 .le v)
 | 49,n,r,v=>.go n r (b9 .eqI v)
 | 50,n,r,v=>.go n r (b9 .eqB v)
 | 51,n,r,v=>.go n r (b9 .eqS v)
 | 52,n,r,v=>.go n r (b9 .and v)
 | 53,n,r,v=>.go n r (b9 .or v)
 | 54,n,r,v=>.go n r (b9 .less v)
 | 55,n,r,v=>.go n r (b9 .snocR v)
 | 56,n,r,v=>.go n r (b9 .catR v)
 | 57,n,r,v=>.go n r (b9 .takeR v)
 | 58,n,r,v=>.go n r (b9 .dropR v)
 | 59,n,r,v=>.go n r (b9 .rRow v)
 | 60,n,r,v=>.go n r (b12 .int v)
 | 61,n,r,v=>.go n r (b13 .bool v)
 | 62,n,r,v=>.go n r (b13 .str v)
 | 63,n,r,v=>.go n r (b13 .val v)
 | 64,n,r,v=>.go n r (b14 .ptr v)
 | 65,n,r,v=>.go n r (b15 .eptr v)
 | 66,n,r,v=>.go n r (.s (.nilp)::v)
 | 67,n,r,v=>.go n r (.s (.nils)::v)
 | 68,n,r,v=>.go n r (.s (.nilm)::v)
 | 69,n,r,v=>.go n r (.ls ([])::v)
 | 70,n,r,v=>.go n r (b16 .cons v)
 | 71,n,r,v=>.go n r (b17 (λl=>(true,l)) v)
 | 72,n,r,v=>.go n r (b17 (λl=>(false,l)) v)
 | 73,n,r,v=>.go n r (.lc ([])::v)
 | 74,n,r,v=>.go n r (b18 .cons v)
 | 75,n,r,v=>.go n r (b19 .cv v)
 | 76,n,r,v=>.go n r (b20 .gd v)
 | 77,n,r,v=>.go n r (b21 .tup v)
 | 78,n,r,v=>.go n r (b22 .fn v)
 | 79,n,r,v=>.go n r (.v (.dead)::v)
 | 80,n,r,v=>.go n r (.lv ([])::v)
 | 81,n,r,v=>.go n r (b23 .cons v)
 | 82,n,r,v=>.go n r (b24 .int v)
 | 83,n,r,v=>.go n r (.k (.bool)::v)
 | 84,n,r,v=>.go n r (.k (.str)::v)
 | 85,n,r,v=>.go n r (b25 .sl v)
 | 86,n,r,v=>.go n r (.k (.oth)::v)
 | 87,n,r,v=>.go n r (.lk ([])::v)
 | 88,n,r,v=>.go n r (b26 .cons v)
 | 89,n,r,v=>.go n r (b27 .cells v)
 | 90,n,r,v=>.go n r (b28 .row v)
 | 91,n,r,v=>.go n r (b29 .rd v)
 | 92,n,r,v=>.go n r (b30 .st v)
 | 93,n,r,v=>.go n r (.le ([])::v)
 | 94,n,r,v=>.go n r (b31 .cons v)
 | 95,n,r,v=>.go n r (.lx ([])::v)
 | 96,n,r,v=>.go n r (b32 .cons v)
 | 97,n,r,v=>.go n r (b33 .ret v)
 | 98,n,r,v=>.go n r (b34 .ite v)
 | 99,n,r,v=>.go n r (b35 .need v)
 | 100,n,r,v=>.go n r (b36 .bindN v)
 | 101,n,r,v=>.go n r (b36 .bindV v)
 | 102,n,r,v=>.go n r (b36 .bindO v)
 | 103,n,r,v=>.go n r (b37 .bindF v)
 | 104,n,r,v=>.go n r (b35 .letV v)
 | 105,n,r,v=>.go n r (b38 .callP v)
 | 106,n,r,v=>.go n r (b39 .callM v)
 | 107,n,r,v=>.go n r (b40 .callR v)
 | 108,n,r,v=>.go n r (b41 .both v)
 | 109,n,r,v=>.go n r (b42 .openR v)
 | 110,n,r,v=>.go n r (b43 .pack v)
 | 111,n,r,v=>.go n r (b44 .loop v)
 | 112,n,r,v=>.go n r (b45 .back v)
 | 113,n,r,v=>.go n r (b46 .join v)
 | 114,n,r,v=>.go n r (b45 .jump v)
 | 115,n,r,v=>.go n r (c1 v)
 | a+116,n,r,v=>.go n r (.n a::v)
def run8:Nat->Stp->Tree
 | _,.fin t=>t
 | 0,.go _ _ _=>.stuck ""
 | f+1,.go n r v=>run8 f (st (n % 256) (n / 256) r v)
def sp:Nat->Nat->List Nat
 | 0,_=>[]
 | _+1,0=>[]
 | f+1,m+1=>(m+1) % 2 ^ 256::sp f ((m+1) / 2 ^ 256)
def dec(n:Nat):Tree:=run8 1000000 (.go 0 (sp 5000 n) [])
def nP(c:Nat):Program:={ (default:Program)with types:=#[{ (default:TypeInfo)with desc:=.int .i64,methods:=#[{ (default:Method)with name := "m", path:=#[],func:=some (c,false) }] }] }
variable{w:World}
def viaN{c:Nat}{Q:Nat->Prop}(h:match Sem.run (nP c) (Go.method 1 0 (.int .i64 0) "m") w with | .ok (n,_) _=>Q n|_=>False):Q c:=h
def viaP(w:World)(T T':Tree):Prop:=match Sem.run (nP (eT T 0)) (Go.method 1 0 (.int .i64 0) "m") w with | .ok (n,_) _=>dec n=T/\dec n=T' | _=>False
def viaE{T T':Tree}(h:viaP w T T'):T=T':=by have h':=viaN (w:=w) (Q:=λn=>dec n=T/\dec n=T') h;rw[<- h'.1];exact h'.2
def viaA{T T':Tree}(h:match Sem.run (nP (eT T 0)) (Go.method 1 0 (.int .i64 0) "m") w with | .ok (n,_) _=>dec n=T/\dec n=T' | _=>False:=by go_invoke;exact And.intro (by kernel_rfl) (by dsimp only[dec,sp,run8,st,e0,c1,b0,b1,b2,b3,b4,b5,b6,b7,b8,b9,b10,b11,b12,b13,b14,b15,b16,b17,b18,b19,b20,b21,b22,b23,b24,b25,b26,b27,b28,b29,b30,b31,b32,b33,b34,b35,b36,b37,b38,b39,b40,b41,b42,b43,b44,b45,b46,kO,oO,List.map,Nat.reduceMod,Nat.reduceDiv,Nat.reduceMul,Nat.reduceAdd,Nat.reducePow,Int.reduceOfNat,Int.reduceNegSucc,UInt8.reduceOfNat])):viaP w T T':=h
