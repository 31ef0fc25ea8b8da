/-
  Texts of mine, one behind the other. By an AI agent.
-/
import Derived.Test.YtkhakgbnfapifaaGreatDoorY10
import Derived.Test.YtkhakgbnfapifaaGreatDoorY09
import Derived.Test.YtkhakgbnfapifaaGreatDoorY08
import Derived.Shelf.SlSortCmp.WholeK
import Derived.Sort.OwnSorted
import Derived.Ground.SlsfProg
import Derived.Test.YtkhakgbnfapifaaGreatDoorProg
import Derived.Maps.RangeWalk
import Derived.Maps.OwnOps
import Derived.Sort.KeysCollected
import Derived.WalkKit
import Derived.Test.YtkhakgbnfapifaaGreatDoorY05
set_option linter.unusedSimpArgs false
set_option linter.unusedVariables false
set_option maxHeartbeats 20000000
namespace Go.Proofs.YtkhakgbnfapifaaGreatDoor
open Go.Sx
theorem Z10j (l:List UInt8) (i:Nat):Value.gI (((l.map fun b=>[Value.int .u8 (b.toNat:Int)]).getD i []).getD 0 undef)=((l.getD i 0).toNat:Int):=by simp only[qy1,List.getElem?_map];cases l[i]?<;>rfl
theorem Zy5 (s:List UInt8) (i lo hi:Nat) (h:lo+i<hi):((s.take hi).drop lo).getD i 0=s.getD (lo+i) 0:=by simp only[qy1,List.getElem?_drop,List.getElem?_take,if_pos h]
theorem Z10k (b:UInt8):b.toNat<256:=b.toNat_lt
def beN:List UInt8->Nat->Nat
 | [],n=>n
 | c::l,n=>beN l (256*n+c.toNat)
theorem Zud (l:List UInt8) (c:UInt8) (n:Nat):beN (l++[c]) n=256*beN l n+c.toNat:=by
 induction l generalizing n with
 | nil=>rfl
 | cons d l ih=>simp[beN,ih]
theorem Z10l (l:List UInt8):∀n,beN l n<(n+1)*pw l.length:=by
 induction l with
 | nil=>intro n;simp[beN,pw]
 | cons c l ih =>
  intro n;have h1:=ih (256*n+c.toNat);have h2:=Z10k c;have h3:(256*n+c.toNat+1)*pw l.length<=(256*(n+1))*pw l.length:=Nat.mul_le_mul_right _ (by omega);simp only[beN,List.length_cons,pw];rw[<- Nat.mul_assoc,Nat.mul_comm (n+1) 256];omega
theorem Zcz (l:List UInt8) (m:Nat) (h:m<l.length):l.take (m+1)=l.take m++[l.getD m 0]:=by rw[List.take_add_one,qy1,qy7 h];rfl
theorem Zy6 (n c:Nat) (hn:n<2 ^ 54) (hc:c<256):Zco .or .i64 (IntKind.i64.wrap ((n:Int)*2 ^ (Nat.min (Int.toNat 8) IntKind.i64.bits))) (c:Int)=((256*n+c:Nat):Int):=by
 have e0:IntKind.i64.wrap ((n:Int)*2 ^ (Nat.min (Int.toNat 8) IntKind.i64.bits))=((n*256:Nat):Int):=by have:Nat.min (Int.toNat 8) IntKind.i64.bits=8:=rfl;rw[this,IntKind.wrap_i64];omega
 rw[e0];simp only[Zco]
 show IntKind.i64.wrap (((BitVec.ofInt 64 ((n*256:Nat):Int)) ||| (BitVec.ofInt 64 (c:Int))).toNat:Int)=_
 rw[BitVec.toNat_or,Zgv _ (by omega),Zgv c (by omega)];have e:n*256 ||| c=256*n+c:=by have:=Nat.two_pow_add_eq_or_of_lt (i:=8) (b:=c) (by omega) n;rw[show n*256=2 ^ 8*n by omega,<- this]
 rw[e,Zuc _ (by omega)]
def getR (s:List UInt8) (at_ b:Int):Int×Int :=
 if 1<=b/\b<=4 then
  if 0<=at_/\at_<=s.length then
   if (s.length:Int) - at_<b then (0,8) else (beN ((s.drop at_.toNat).take b.toNat) 0,0)
  else (0,3)
 else (0,7)
theorem Zq3 {s:List UInt8} {at_ b:Int} (h:¬(1<=b/\b<=4)):getR s at_ b=(0,7):=if_neg h
theorem Zmi {s:List UInt8} {at_ b:Int} (h:1<=b/\b<=4) (h1:¬(0<=at_/\at_<=s.length)):getR s at_ b=(0,3):=by rw[getR,if_pos h,if_neg h1]
theorem Zmj {s:List UInt8} {at_ b:Int} (h:1<=b/\b<=4) (h1:0<=at_/\at_<=s.length) (h2:(s.length:Int) - at_<b):getR s at_ b=(0,8):=by rw[getR,if_pos h,if_pos h1,if_pos h2]
theorem Zy7 {s:List UInt8} {at_ b:Int} (h:1<=b/\b<=4) (h1:0<=at_/\at_<=s.length) (h2:¬(s.length:Int) - at_<b):getR s at_ b=(((beN ((s.drop at_.toNat).take b.toNat) 0:Nat):Int),0):=by rw[getR,if_pos h,if_pos h1,if_neg h2]
theorem beN4 (s:List UInt8) (at_ m:Nat) (h:m<=4):beN ((s.drop at_).take m) 0<4294967296:=by have h1:=Z10l ((s.drop at_).take m) 0;have h2:pw ((s.drop at_).take m).length<=pw 4:=Zy2 (by simp;omega);have h3:pw 4=4294967296:=rfl;omega
theorem Zue (s:List UInt8) (a k:Nat) (h:a+k<s.length):beN ((s.drop a).take (k+1)) 0=256*beN ((s.drop a).take k) 0+(s.getD (a+k) 0).toNat:=by rw[Zcz _ _ (by simp;omega),Zud];simp only[qy1,List.getElem?_drop]
theorem Zy8 (w:World) (s:List UInt8) (at_ b:Int) (hs:s.length<4611686018427387904):Calls Tryz.prog 242 #[.string ⟨s.toArray⟩,.int .i64 at_,.int .i64 b] w fun e w'=>e=.returned (.tuple #[.int .i64 (getR s at_ b).1,.int .i64 (getR s at_ b).2])/\Mod [] w w':=by
 refine Z2 (Zb (ρ:=[.s s,.i at_,.i b]) sxE_ok Tryz.func242 Zeo rfl rfl rfl ?_) rfl;simp only[Tree.goal,X.P,X.ev,SV.ev,CV.ev,Sc.ev,qz,QA,QB,QC,QD,QE,QF,QG,QH,QI,QJ,QK,QL,QM,Nat.reduceAdd];refine⟨fun h w' hr=>⟨by rw[Zq3 (by omega)],hr.mod⟩,fun h=>?_⟩;refine⟨fun h1 w' hr=>⟨by rw[Zmi (by omega) h1],hr.mod⟩,fun h1=>?_⟩;refine⟨by omega,by omega,fun h2 w' hr=>⟨by rw[Zmj (by omega) (by omega) h2],hr.mod⟩,fun h2=>?_⟩;obtain⟨a,rfl⟩:∃a:Nat,at_=a:=⟨at_.toNat,by omega⟩
 obtain⟨k,rfl⟩:∃k:Nat,b=k:=⟨b.toNat,by omega⟩
 (repeat refine⟨by omega,?_⟩)
 intro v;refine⟨fun vs=>∃m:Nat,vs=[.i (beN ((s.drop a).take m) 0),.i m]/\m<=k,fun vs=>(k - (vs.getD 1 (.i 0)).toI).toNat,⟨0,by simp[beN],by omega⟩,?_⟩;rintro _ - ⟨m,rfl,hm⟩;have e0:((a:Int)+(k:Int)).toNat=a+k:=by omega
 simp only[Tree.goal,X.P,X.ev,SV.ev,CV.ev,Sc.ev,qz,QA,QB,QC,QD,QE,QF,QG,QH,QI,QJ,QK,QL,QM,Nat.reduceAdd,qy3,List.length_drop,List.length_take,Z10j,qy4,e0];have hb:=beN4 s a m (by omega);refine⟨fun h3=>?_,fun h3 w' hr=>⟨?_,hr.mod⟩⟩
 ·have e2:=Zue s a m (by omega);have hc:=Z10k (s.getD (a+m) 0);rw[Zy5 _ _ _ _ (by omega),Zy6 _ _ (by omega) hc]
  (repeat refine⟨by omega,?_⟩);refine⟨⟨m+1,?_,by omega⟩,by omega⟩
  rw[e2];simp
 ·have:m=k:=by omega
  subst this;rw[Zy7 (by omega) (by omega) h2];simp only[qy4]
def txtB (t:List UInt8):List UInt8:=numB 2 t.length++t
abbrev Ak:=List UInt8×Int
structure Pkt where
 kind:Int
 dup:Bool
 retain:Bool
 clean:Bool
 session:Bool
 qos:Int
 id:Int
 keep:Int
 code:Int
 client:List UInt8
 topic:List UInt8
 payload:List UInt8
 asks:List Ak
 codes:List Int
 deriving DecidableEq
abbrev pD_Q (k:Int):Pkt:=⟨k,false,false,false,false,0,0,0,0,[],[],[],[],[]⟩
def Zmk (k:Int):Bool:=decide ((1<=k/\k<=4)\/(8<=k/\k<=14))
def idB (p:Pkt):Bool:=decide ((p.kind=3/\p.qos=1)\/p.kind=4\/(8<=p.kind/\p.kind<=11))
def cliB (s:List UInt8):Bool:=decide (1<=(s.length:Int)/\(s.length:Int)<=20) && Z2m s
def Z2y (p:Pkt):Pkt :=
 if p.kind=1 then { p with client:=[],clean:=false,keep:=0 }
 else if p.kind=2 then { p with code:=0,session:=false }
 else if p.kind=3 then { p with dup:=false,qos:=0,retain:=false,topic:=[],payload:=[],id:=0 }
 else if p.kind=4\/p.kind=11 then { p with id:=0 }
 else if p.kind=8\/p.kind=10 then { p with id:=0,asks:=[] }
 else if p.kind=9 then { p with id:=0,codes:=[] }
 else p
def Zgw (p:Pkt):Bool:=decide (p=pD_Q p.kind)
def Zin (p:Pkt):Int:=if 20<(p.client.length:Int) then 2 else if cliB p.client=true then (if 0<=p.keep/\p.keep<=65535 then 0 else 3) else 1
def Z6e (p:Pkt):Int:=if 0<=p.code/\p.code<=5 then (if p.session=true/\p.code≠0 then 4 else 0) else 3
def pubE (p:Pkt):Int :=
 if chkT p.topic false=0 then
  if 200<(p.payload.length:Int) then 2
  else if 0<=p.qos/\p.qos<=1 then (if p.qos=0/\(p.dup=true\/p.id≠0) then 1 else 0) else 3
 else chkT p.topic false
def Z5g (n:Nat):Int:=if n=0 then 1 else if 5<(n:Int) then 2 else 0
def askE (a:Ak):Int:=if chkT a.1 true=0 then (if 0<=a.2/\a.2<=1 then 0 else 3) else chkT a.1 true
def Z9v (a:Ak):Int:=if chkT a.1 true=0 then (if a.2=0 then 0 else 1) else chkT a.1 true
def Zgx (k:Int):List Ak->Int
 | []=>0
 | a::l=>if (if k=8 then askE a else Z9v a)=0 then Zgx k l else (if k=8 then askE a else Z9v a)
def Zgy (p:Pkt):Int:=if Z5g p.asks.length=0 then Zgx p.kind p.asks else Z5g p.asks.length
def Zio (c:Int):Bool:=decide (c≠0/\c≠1/\c≠128)
def Zgz (p:Pkt):Int:=if Z5g p.codes.length=0 then (if p.codes.any Zio=true then 3 else 0) else Z5g p.codes.length
def Z37 (p:Pkt):Int :=
 if p.kind=1 then Zin p else if p.kind=2 then Z6e p else if p.kind=3 then pubE p
 else if p.kind=8\/p.kind=10 then Zgy p else if p.kind=9 then Zgz p else 0
def chkP (p:Pkt):Int :=
 if Zmk p.kind=true then
  if Zgw (Z2y p)=true then
   if p.kind=3/\pubE p≠0 then pubE p
   else if idB p=true/\¬(1<=p.id/\p.id<=65535) then 3
   else Z37 p
  else 1
 else 7
def Zw6 (k:Int) (a:Ak):List UInt8:=txtB a.1++(if k=8 then numB 1 a.2 else [])
def bit (b:Bool) (n:Int):Int:=if b=true then n else 0
def Z12g (p:Pkt):List UInt8 :=
 if p.kind=1 then txtB [77,81,84,84]++(numB 1 4++numB 1 (bit p.clean 2))++numB 2 p.keep++txtB p.client
 else if p.kind=2 then numB 1 (bit p.session 1)++numB 1 p.code
 else if p.kind=3 then txtB p.topic
 else []
def Z12h (p:Pkt):List UInt8:=Z12g p++(if idB p=true then numB 2 p.id else [])++p.payload++(p.asks.map (Zw6 p.kind)).flatten++(p.codes.map (numB 1)).flatten
def rdN (s:List UInt8) (k a:Nat) (b:Bool):Int×Nat×Bool:=if a+k<=s.length then ((beN ((s.drop a).take k) 0:Nat),a+k,b) else (0,s.length,true)
def rdT (s:List UInt8) (a:Nat) (b:Bool):List UInt8×Nat×Bool :=
 if a+2<=s.length/\a+2+beN ((s.drop a).take 2) 0<=s.length then ((s.drop (a+2)).take (beN ((s.drop a).take 2) 0),a+2+beN ((s.drop a).take 2) 0,b) else ([],a,true)
def rdA (s:List UInt8) (k:Int) (a:Nat) (b:Bool):Ak×Nat×Bool :=
 if k=8 then (((rdT s a b).1,(rdN s 1 (rdT s a b).2.1 (rdT s a b).2.2).1),(rdN s 1 (rdT s a b).2.1 (rdT s a b).2.2).2) else (((rdT s a b).1,0),(rdT s a b).2)
def Z10m (s:List UInt8) (a:Nat) (b:Bool):Nat:=if b=true then 0 else s.length+1 - a
abbrev RS:=Pkt×Nat×Bool
def Z12i (s:List UInt8) (p:Pkt) (a:Nat) (b:Bool):RS :=
 let t1:=rdT s a b
 let n1:=rdN s 1 t1.2.1 t1.2.2
 let n2:=rdN s 1 n1.2.1 n1.2.2
 let n3:=rdN s 2 n2.2.1 n2.2.2
 let t2:=rdT s n3.2.1 n3.2.2
 ({ p with clean:=decide (n2.1=2),keep:=n3.1,client:=t2.1 },t2.2)
def headD (s:List UInt8) (p:Pkt) (a:Nat) (b:Bool):RS :=
 if p.kind=1 then Z12i s p a b
 else if p.kind=2 then ({ p with session:=decide ((rdN s 1 a b).1=1),code:=(rdN s 1 (rdN s 1 a b).2.1 (rdN s 1 a b).2.2).1 },(rdN s 1 (rdN s 1 a b).2.1 (rdN s 1 a b).2.2).2)
 else if p.kind=3 then ({ p with topic:=(rdT s a b).1 },(rdT s a b).2)
 else (p,a,b)
structure FormP (p:Pkt):Prop where
 kind:Zmk p.kind=true
 bare:Z2y p=pD_Q p.kind
 qos:0<=p.qos/\p.qos<=1
 keep:0<=p.keep/\p.keep<65536
 code:0<=p.code/\p.code<256
 id:0<=p.id/\p.id<65536
 noid:idB p=false->p.id=0
 client:p.client.length<65536
 topic:p.topic.length<65536
 asks:∀a∈p.asks,a.1.length<65536/\0<=a.2/\a.2<256/\(p.kind≠8->a.2=0)
 codes:∀c∈p.codes,0<=c/\c<256
def encA (a:Ak):List Value:=[.string ⟨a.1.toArray⟩,.int .i64 a.2]
def Z1b (n:Int):List Value:=[.int .i64 n]
abbrev aD:Ak:=([],0)
abbrev Z6t (w:World) (v:Value) (l:List Ak):Prop:=reads w v [.str,.int .i64] (l.map encA)
abbrev Z60 (w:World) (v:Value) (l:List Int):Prop:=reads w v [.int .i64] (l.map Z1b)
theorem Zdx (w:World):Z6t w (.slice none 0 0) []:=⟨by simp,none,0,rfl,⟨fun _=>rfl,Nat.le_refl _⟩,fun h=>absurd rfl h⟩
theorem Zml (w:World):Z60 w (.slice none 0 0) []:=⟨by simp,none,0,rfl,⟨fun _=>rfl,Nat.le_refl _⟩,fun h=>absurd rfl h⟩
theorem gA0 (l:List Ak) (i:Nat):Value.gS (((l.map encA).getD i []).getD 0 undef)=(l.getD i aD).1:=by simp only[qy1,List.getElem?_map];cases l[i]?<;>simp[encA,Value.gS,undef]
theorem gA1 (l:List Ak) (i:Nat):Value.gI (((l.map encA).getD i []).getD 1 undef)=(l.getD i aD).2:=by simp only[qy1,List.getElem?_map];cases l[i]?<;>simp[encA,Value.gI,undef]
theorem gI0 (l:List Int) (i:Nat):Value.gI (((l.map Z1b).getD i []).getD 0 undef)=l.getD i 0:=by simp only[qy1,List.getElem?_map];cases l[i]?<;>simp[Z1b,Value.gI,undef]
theorem Z10n (l:List Ak) (i:Nat) (h:i<l.length):l.drop i=l.getD i aD::l.drop (i+1):=by rw[List.drop_eq_getElem_cons h,qy1,qy7 h];rfl
theorem Z12j (l:List Int) (i:Nat) (h:i<l.length):l.drop i=l.getD i 0::l.drop (i+1):=by rw[List.drop_eq_getElem_cons h,qy1,qy7 h];rfl
def pV (p:Pkt) (u v:Value):Value:=.agg #[.int .i64 p.kind,.bool p.dup,.bool p.retain,.bool p.clean,.bool p.session,.int .i64 p.qos,.int .i64 p.id,.int .i64 p.keep,.int .i64 p.code,.string ⟨p.client.toArray⟩,.string ⟨p.topic.toArray⟩,.string ⟨p.payload.toArray⟩,sc1 u,sc1 v]
structure SmallP (p:Pkt):Prop where
 client:p.client.length<1000000000
 topic:p.topic.length<1000000000
 payload:p.payload.length<1000000000
 asks:p.asks.length<1000000000
 codes:p.codes.length<1000000000
 filt:∀a∈p.asks,a.1.length<1000000000
theorem SmallP.at_ {p:Pkt} (h:SmallP p) (i:Nat):(p.asks.getD i aD).1.length<1000000000:=by
 by_cases hi:i<p.asks.length
 ·rw[qy1,qy7 hi];exact h.filt _ (List.getElem_mem hi)
 ·rw[qy1,List.getElem?_eq_none (by omega)];decide
theorem SmallP.bare {p:Pkt} (h:SmallP p):SmallP (Z2y p):=by
 obtain⟨a,b,c,d,e,f⟩:=h;unfold Z2y
 (repeat' split)<;>exact⟨by simp_all,by simp_all,by simp_all,by simp_all,by simp_all,by first|exact f|(intro a ha;simp at ha)⟩
theorem Zy9 (w:World) (n:Int):Calls Tryz.prog 119 #[.int .i64 n] w fun e w'=>e=.returned (.bool (Zmk n))/\Mod [] w w':=by refine Z2 (Zb (ρ:=[.i n]) sxE_ok Tryz.func119 Za1 rfl rfl rfl ?_) rfl;simp only[Tree.goal,X.P,X.ev,SV.ev,CV.ev,Sc.ev,qz,QA,QB,QC,QD,QE,QF,QG,QH,QI,QJ,QK,QL,QM,Nat.reduceAdd];exact⟨fun h w' hr=>⟨by simp[Zmk,h],hr.mod⟩,fun h w' hr=>⟨by simp[Zmk,h],hr.mod⟩⟩
theorem Zh0 (w:World) (s:List UInt8) (hs:s.length<1099511627776):Calls Tryz.prog 33 #[.string ⟨s.toArray⟩] w fun e w'=>e=.returned (.bool (cliB s))/\Mod [] w w':=by refine Z2 (Zb (ρ:=[.s s]) sxE_ok Tryz.func33 Z48 rfl rfl rfl ?_) rfl;simp only[Tree.goal,X.P,X.ev,SV.ev,CV.ev,Sc.ev,qz,QA,QB,QC,QD,QE,QF,QG,QH,QI,QJ,QK,QL,QM,Nat.reduceAdd];refine⟨[.b (Z2m s)],rfl,fun _ w' _=>Zet w' s hs,?_⟩;simp only[Tree.goal,X.P,X.ev,SV.ev,CV.ev,Sc.ev,qz,QA,QB,QC,QD,QE,QF,QG,QH,QI,QJ,QK,QL,QM,Nat.reduceAdd];exact fun w' hr=>⟨by simp[cliB],hr.mod⟩
theorem Zq4 (w:World) (n:Nat):Calls Tryz.prog 264 #[.int .i64 n] w fun e w'=>e=.returned (.int .i64 (Z5g n))/\Mod [] w w':=by
 refine Z2 (Zb (ρ:=[.i n]) sxE_ok Tryz.func264 Z98 rfl rfl rfl ?_) rfl;simp only[Tree.goal,X.P,X.ev,SV.ev,CV.ev,Sc.ev,qz,QA,QB,QC,QD,QE,QF,QG,QH,QI,QJ,QK,QL,QM,Nat.reduceAdd];refine⟨fun h w' hr=>⟨?_,hr.mod⟩,fun h=>⟨fun h1 w' hr=>⟨?_,hr.mod⟩,fun h1 w' hr=>⟨?_,hr.mod⟩⟩⟩
 ·rw[Z5g,if_pos (by omega)]
 ·rw[Z5g,if_neg (by omega),if_pos (by omega)]
 ·rw[Z5g,if_neg (by omega),if_neg (by omega)]
theorem Zw7 (w:World) (a:Ak) (h:a.1.length<1000000000):Calls Tryz.prog 221 #[.agg #[.string ⟨a.1.toArray⟩,.int .i64 a.2]] w fun e w'=>e=.returned (.int .i64 (askE a))/\Mod [] w w':=by
 refine Z2 (Zb (ρ:=[.s a.1,.i a.2]) sxE_ok Tryz.func221 Zbg rfl rfl rfl ?_) rfl;simp only[Tree.goal,X.P,X.ev,SV.ev,CV.ev,Sc.ev,qz,QA,QB,QC,QD,QE,QF,QG,QH,QI,QJ,QK,QL,QM,Nat.reduceAdd];intro b;refine⟨[.i (chkT a.1 true)],rfl,fun _ w' _=>Zkb w' _ (by omega),?_⟩;simp only[Tree.goal,X.P,X.ev,SV.ev,CV.ev,Sc.ev,qz,QA,QB,QC,QD,QE,QF,QG,QH,QI,QJ,QK,QL,QM,Nat.reduceAdd];refine⟨fun h w' hr=>⟨by rw[askE,if_neg h],hr.mod⟩,fun h=>⟨fun h1 w' hr=>⟨?_,hr.mod⟩,fun h1 w' hr=>⟨?_,hr.mod⟩⟩⟩
 ·rw[askE,if_pos (qy9.1 h),if_neg h1]
 ·rw[askE,if_pos (qy9.1 h),if_pos (qy9.1 h1)]
section
variable (w:World) (p:Pkt) (u v:Value) (hu:Z6t w u p.asks) (hv:Z60 w v p.codes) (hs:SmallP p)
include hu hv
theorem Z10o:Calls Tryz.prog 123 #[pV p u v] w fun e w'=>e=.returned (.bool (idB p))/\Mod [] w w':=by
 refine Z2 (Z4 (ρ:=[.i p.kind,.b p.dup,.b p.retain,.b p.clean,.b p.session,.i p.qos,.i p.id,.i p.keep,.i p.code,.s p.client,.s p.topic,.s p.payload,.v u,.r (p.asks.map encA),.v v,.r (p.codes.map Z1b)]) sxE_ok Tryz.func123 Zcu rfl rfl (Rel.start2 (by simp[Ent.holds,Ent.wr,hu,hv,X.ev])) rfl rfl ?_) rfl;simp only[Tree.goal,X.P,X.ev,SV.ev,CV.ev,Sc.ev,qz,QA,QB,QC,QD,QE,QF,QG,QH,QI,QJ,QK,QL,QM,Nat.reduceAdd];intro b;refine⟨fun h w' hr=>⟨?_,hr.mod⟩,fun h=>⟨fun h1 w' hr=>⟨?_,hr.mod⟩,fun h1=>⟨fun h2 w' hr=>⟨?_,hr.mod⟩,fun h2=>⟨fun h3 w' hr=>⟨?_,hr.mod⟩,fun h3=>⟨fun h4 w' hr=>⟨?_,hr.mod⟩,fun h4=>⟨fun h5 w' hr=>⟨?_,hr.mod⟩,fun h5 w' hr=>⟨?_,hr.mod⟩⟩⟩⟩⟩⟩⟩ <;>
  (simp only[idB,Ending.returned.injEq,Value.bool.injEq];first|exact decide_eq_decide.2 (by omega)|(symm;simp only[decide_eq_true_eq,decide_eq_false_iff_not];omega))
theorem Zmm:Calls Tryz.prog 202 #[pV p u v] w fun e w'=>e=.returned (.int .i64 (Z6e p))/\Mod [] w w':=by
 refine Z2 (Z4 (ρ:=[.i p.kind,.b p.dup,.b p.retain,.b p.clean,.b p.session,.i p.qos,.i p.id,.i p.keep,.i p.code,.s p.client,.s p.topic,.s p.payload,.v u,.r (p.asks.map encA),.v v,.r (p.codes.map Z1b)]) sxE_ok Tryz.func202 Z72 rfl rfl (Rel.start2 (by simp[Ent.holds,Ent.wr,hu,hv,X.ev])) rfl rfl ?_) rfl;simp only[Tree.goal,X.P,X.ev,SV.ev,CV.ev,Sc.ev,qz,QA,QB,QC,QD,QE,QF,QG,QH,QI,QJ,QK,QL,QM,Nat.reduceAdd];intro b;refine⟨fun h w' hr=>⟨by rw[Z6e,if_neg h],hr.mod⟩,fun h=>⟨fun h2 w' hr=>⟨?_,hr.mod⟩,fun h2 w' hr=>⟨?_,hr.mod⟩⟩⟩
 ·rw[Z6e,if_pos (qy9.1 h),if_pos h2]
 ·rw[Z6e,if_pos (qy9.1 h),if_neg h2]
include hs
theorem Zuf:Calls Tryz.prog 120 #[pV p u v] w fun e w'=>e=.returned (.bool (Zgw p))/\Mod [] w w':=by
 refine Z2 (Z4 (ρ:=[.i p.kind,.b p.dup,.b p.retain,.b p.clean,.b p.session,.i p.qos,.i p.id,.i p.keep,.i p.code,.s p.client,.s p.topic,.s p.payload,.v u,.r (p.asks.map encA),.v v,.r (p.codes.map Z1b)]) sxE_ok Tryz.func120 Z92 rfl rfl (Rel.start2 (by simp[Ent.holds,Ent.wr,hu,hv,X.ev])) rfl rfl ?_) rfl;have h1:=hs.client;have h2:=hs.topic;have h3:=hs.payload;have h4:=hs.asks;have h5:=hs.codes;simp only[Tree.goal,X.P,X.ev,SV.ev,CV.ev,Sc.ev,qz,QA,QB,QC,QD,QE,QF,QG,QH,QI,QJ,QK,QL,QM,Nat.reduceAdd,qy3,qy11];intro b;refine⟨.inr (by omega),.inr (by omega),.inr (by omega),fun w' hr=>⟨?_,hr.mod⟩⟩;obtain⟨k,d,r,c,se,q,i,ke,co,cl,t,pl,az,cs⟩:=p;simp only[Zgw,Ending.returned.injEq,Value.bool.injEq,Pkt.mk.injEq];have e1:((az.length:Int)+(cs.length:Int)=0)↔az=[]/\cs=[]:=by rw[<- List.length_eq_zero_iff,<- List.length_eq_zero_iff];omega
 rw[Bool.eq_iff_iff];simp only[Bool.and_eq_true,Bool.not_eq_true',decide_eq_true_eq,e1,List.append_eq_nil_iff];constructor<;>(intro h;simp_all)
theorem Zmn:Calls Tryz.prog 201 #[pV p u v] w fun e w'=>e=.returned (.int .i64 (Zin p))/\Mod [] w w':=by
 refine Z2 (Z4 (ρ:=[.i p.kind,.b p.dup,.b p.retain,.b p.clean,.b p.session,.i p.qos,.i p.id,.i p.keep,.i p.code,.s p.client,.s p.topic,.s p.payload,.v u,.r (p.asks.map encA),.v v,.r (p.codes.map Z1b)]) sxE_ok Tryz.func201 Z75 rfl rfl (Rel.start2 (by simp[Ent.holds,Ent.wr,hu,hv,X.ev])) rfl rfl ?_) rfl;have h1:=hs.client;simp only[Tree.goal,X.P,X.ev,SV.ev,CV.ev,Sc.ev,qz,QA,QB,QC,QD,QE,QF,QG,QH,QI,QJ,QK,QL,QM,Nat.reduceAdd];intro b;refine⟨fun h w' hr=>⟨by rw[Zin,if_pos h],hr.mod⟩,fun h=>?_⟩;refine⟨[.b (cliB p.client)],rfl,fun _ w' _=>Zh0 w' _ (by omega),?_⟩;simp only[Tree.goal,X.P,X.ev,SV.ev,CV.ev,Sc.ev,qz,QA,QB,QC,QD,QE,QF,QG,QH,QI,QJ,QK,QL,QM,Nat.reduceAdd];refine⟨fun h2 w' hr=>⟨by rw[Zin,if_neg h,if_neg h2],hr.mod⟩,fun h2=>⟨fun h3 w' hr=>⟨?_,hr.mod⟩,fun h3 w' hr=>⟨?_,hr.mod⟩⟩⟩
 ·rw[Zin,if_neg h,if_pos (qy9.1 h2),if_neg h3]
 ·rw[Zin,if_neg h,if_pos (qy9.1 h2),if_pos (qy9.1 h3)]
theorem Zdy:Calls Tryz.prog 122 #[pV p u v] w fun e w'=>e=.returned (.int .i64 (pubE p))/\Mod [] w w':=by
 refine Z2 (Z4 (ρ:=[.i p.kind,.b p.dup,.b p.retain,.b p.clean,.b p.session,.i p.qos,.i p.id,.i p.keep,.i p.code,.s p.client,.s p.topic,.s p.payload,.v u,.r (p.asks.map encA),.v v,.r (p.codes.map Z1b)]) sxE_ok Tryz.func122 Z71 rfl rfl (Rel.start2 (by simp[Ent.holds,Ent.wr,hu,hv,X.ev])) rfl rfl ?_) rfl;have h1:=hs.topic;simp only[Tree.goal,X.P,X.ev,SV.ev,CV.ev,Sc.ev,qz,QA,QB,QC,QD,QE,QF,QG,QH,QI,QJ,QK,QL,QM,Nat.reduceAdd];intro b;refine⟨[.i (chkT p.topic false)],rfl,fun _ w' _=>Zdk w' _ (by omega),?_⟩;simp only[Tree.goal,X.P,X.ev,SV.ev,CV.ev,Sc.ev,qz,QA,QB,QC,QD,QE,QF,QG,QH,QI,QJ,QK,QL,QM,Nat.reduceAdd];refine⟨fun h w' hr=>⟨by rw[pubE,if_neg h],hr.mod⟩,fun h=>?_⟩;have h:=qy9.1 h;refine⟨fun h2 w' hr=>⟨by rw[pubE,if_pos h,if_pos h2],hr.mod⟩,fun h2=>⟨fun h3 w' hr=>⟨?_,hr.mod⟩,fun h3=>⟨fun h4 w' hr=>⟨?_,hr.mod⟩,fun h4 w' hr=>⟨?_,hr.mod⟩⟩⟩⟩
 ·rw[pubE,if_pos h,if_neg h2,if_neg h3]
 ·rw[pubE,if_pos h,if_neg h2,if_pos (qy9.1 h3),if_pos h4]
 ·rw[pubE,if_pos h,if_neg h2,if_pos (qy9.1 h3),if_neg h4]
theorem Zq5:Calls Tryz.prog 203 #[pV p u v] w fun e w'=>e=.returned (.int .i64 (Zgy p))/\Mod [] w w':=by
 refine Z2 (Z4 (ρ:=[.i p.kind,.b p.dup,.b p.retain,.b p.clean,.b p.session,.i p.qos,.i p.id,.i p.keep,.i p.code,.s p.client,.s p.topic,.s p.payload,.v u,.r (p.asks.map encA),.v v,.r (p.codes.map Z1b)]) sxE_ok Tryz.func203 Za5 rfl rfl (Rel.start2 (by simp[Ent.holds,Ent.wr,hu,hv,X.ev])) rfl rfl ?_) rfl;have h1:=hs.asks;have hf:=hs.at_;simp only[Tree.goal,X.P,X.ev,SV.ev,CV.ev,Sc.ev,qz,QA,QB,QC,QD,QE,QF,QG,QH,QI,QJ,QK,QL,QM,Nat.reduceAdd,qy3];intro b;refine⟨[.i (Z5g p.asks.length)],rfl,fun _ w' _=>Zq4 w' _,?_⟩;simp only[Tree.goal,X.P,X.ev,SV.ev,CV.ev,Sc.ev,qz,QA,QB,QC,QD,QE,QF,QG,QH,QI,QJ,QK,QL,QM,Nat.reduceAdd,qy3];refine⟨fun h w' hr=>⟨by rw[Zgy,if_neg h],hr.mod⟩,fun h=>?_⟩;have h:=qy9.1 h;rw[Zgy,if_pos h];refine⟨fun vs=>∃(i:Nat) (x:V),vs=[x,.i i]/\i<=p.asks.length/\Zgx p.kind (p.asks.drop i)=Zgx p.kind p.asks,fun vs=>p.asks.length - (vs.getD 1 (.i 0)).toI.toNat,⟨0,_,rfl,by omega,rfl⟩,?_⟩;rintro _ - ⟨i,x,rfl,hi,hg⟩;simp only[Tree.goal,X.P,X.ev,SV.ev,CV.ev,Sc.ev,qz,QA,QB,QC,QD,QE,QF,QG,QH,QI,QJ,QK,QL,QM,Nat.reduceAdd,qy3,qy4,gA0,gA1];refine⟨fun h2=>⟨by omega,fun b=>⟨fun hk=>?_,fun hk=>?_⟩⟩,fun h2 w' hr=>⟨?_,hr.mod⟩⟩
 ·rw[Z10n _ _ (by omega),Zgx,if_pos hk]at hg;refine⟨[.i (askE (p.asks.getD i aD))],rfl,fun _ w' _=>Zw7 w' _ (hf i),?_⟩;simp only[Tree.goal,X.P,X.ev,SV.ev,CV.ev,Sc.ev,qz,QA,QB,QC,QD,QE,QF,QG,QH,QI,QJ,QK,QL,QM,Nat.reduceAdd];refine⟨fun h3 w' hr=>⟨by rw[<- hg,if_neg h3],hr.mod⟩,fun h3=>⟨by omega,by omega,⟨i+1,x,rfl,by omega,?_⟩,by omega⟩⟩;rw[<- hg,if_pos (qy9.1 h3)]
 ·rw[Z10n _ _ (by omega),Zgx,if_neg hk]at hg;have:=hf i;refine⟨[.i (chkT (p.asks.getD i aD).1 true)],rfl,fun _ w' _=>Zkb w' _ (by omega),?_⟩;simp only[Tree.goal,X.P,X.ev,SV.ev,CV.ev,Sc.ev,qz,QA,QB,QC,QD,QE,QF,QG,QH,QI,QJ,QK,QL,QM,Nat.reduceAdd,gA1];refine⟨fun h3 w' hr=>⟨?_,hr.mod⟩,fun h3=>⟨fun h4 w' hr=>⟨?_,hr.mod⟩,fun h4=>⟨by omega,by omega,⟨i+1,x,rfl,by omega,?_⟩,by omega⟩⟩⟩
  ·have e:Z9v (p.asks.getD i aD)=chkT (p.asks.getD i aD).1 true:=by rw[Z9v,if_neg h3]
   rw[<- hg,e,if_neg h3]
  ·have e:Z9v (p.asks.getD i aD)=1:=by rw[Z9v,if_pos (qy9.1 h3),if_neg h4]
   rw[<- hg,e];rfl
  ·have e:Z9v (p.asks.getD i aD)=0:=by rw[Z9v,if_pos (qy9.1 h3),if_pos (qy9.1 h4)]
   rw[<- hg,e];rfl
 ·have:i=p.asks.length:=by omega
  subst this;rw[List.drop_length]at hg;rw[<- hg];rfl
theorem Zug:Calls Tryz.prog 204 #[pV p u v] w fun e w'=>e=.returned (.int .i64 (Zgz p))/\Mod [] w w':=by
 refine Z2 (Z4 (ρ:=[.i p.kind,.b p.dup,.b p.retain,.b p.clean,.b p.session,.i p.qos,.i p.id,.i p.keep,.i p.code,.s p.client,.s p.topic,.s p.payload,.v u,.r (p.asks.map encA),.v v,.r (p.codes.map Z1b)]) sxE_ok Tryz.func204 Z97 rfl rfl (Rel.start2 (by simp[Ent.holds,Ent.wr,hu,hv,X.ev])) rfl rfl ?_) rfl;have h1:=hs.codes;simp only[Tree.goal,X.P,X.ev,SV.ev,CV.ev,Sc.ev,qz,QA,QB,QC,QD,QE,QF,QG,QH,QI,QJ,QK,QL,QM,Nat.reduceAdd,qy3];intro b;refine⟨[.i (Z5g p.codes.length)],rfl,fun _ w' _=>Zq4 w' _,?_⟩;simp only[Tree.goal,X.P,X.ev,SV.ev,CV.ev,Sc.ev,qz,QA,QB,QC,QD,QE,QF,QG,QH,QI,QJ,QK,QL,QM,Nat.reduceAdd,qy3];refine⟨fun h w' hr=>⟨by rw[Zgz,if_neg h],hr.mod⟩,fun h=>?_⟩;have h:=qy9.1 h;rw[Zgz,if_pos h];refine⟨fun vs=>∃(i:Nat) (x:V),vs=[x,.i i]/\i<=p.codes.length/\(p.codes.drop i).any Zio=p.codes.any Zio,fun vs=>p.codes.length - (vs.getD 1 (.i 0)).toI.toNat,⟨0,_,rfl,by omega,rfl⟩,?_⟩;rintro _ - ⟨i,x,rfl,hi,hg⟩;simp only[Tree.goal,X.P,X.ev,SV.ev,CV.ev,Sc.ev,qz,QA,QB,QC,QD,QE,QF,QG,QH,QI,QJ,QK,QL,QM,Nat.reduceAdd,qy3,qy4,gI0];refine⟨fun h2=>?_,fun h2=>?_⟩
 ·rw[Z12j _ _ (by omega),List.any_cons]at hg;refine⟨by omega,fun h3 w' hr=>⟨?_,hr.mod⟩,fun h3=>⟨by omega,by omega,⟨i+1,x,rfl,by omega,?_⟩,by omega⟩⟩
  ·have e:Zio (p.codes.getD i 0)=true:=by simp only[Zio,decide_eq_true_eq];exact⟨h3.1.1,h3.1.2,h3.2⟩
   rw[<- hg,e];rfl
  ·have e:Zio (p.codes.getD i 0)=false:=by
    simp only[Zio,decide_eq_false_iff_not];exact fun h4=>h3 ⟨⟨h4.1,h4.2.1⟩,h4.2.2⟩
   rw[<- hg,e];rfl
 ·have:i=p.codes.length:=by omega
  subst this;rw[List.drop_length]at hg;rw[<- hg];exact⟨fun h3=>absurd h3 (by omega),fun h3 w' hr=>⟨rfl,hr.mod⟩⟩
end
end Go.Proofs.YtkhakgbnfapifaaGreatDoor
namespace Go.Proofs.YtkhakgbnfapifaaGreatDoor
open Go.Sx
abbrev wV (x:Wt):Value:=.agg #[.string ⟨x.1.toArray⟩,.string ⟨x.2.1.toArray⟩,.int .i64 x.2.2]
theorem c_Or (w:World) (v:Value) (x y:Int) (hv:reads w v [.int .i64] [[.int .i64 x],[.int .i64 y]]):Calls Tryz.prog 222 #[sc1 v] w fun e w'=>e=.returned (.int .i64 (if x=0 then y else x))/\Mod [] w w':=by
  refine Z2 (Z4 (ρ:=[.v v,.r [[.int .i64 x],[.int .i64 y]]]) sxE_ok Tryz.func222 Zbl rfl rfl (Rel.start2 (by simp[Ent.holds,Ent.wr,hv,X.ev])) rfl rfl ?_) rfl;simp only[Tree.goal,X.P,X.ev,SV.ev,CV.ev,Sc.ev,qz,QA,QB,QC,QD,QE,QF,QG,QH,QI,QJ,QK,QL,QM,Nat.reduceAdd];refine⟨fun vs=>∃(i:Nat) (u:V),vs=[u,.i i]/\i<=2/\(1<=i->x=0)/\(2<=i->y=0),fun vs=>2 - (vs.getD 1 (.i 0)).toI.toNat,⟨0,_,rfl,by omega,fun h=>by omega,fun h=>by omega⟩,?_⟩;rintro _ - ⟨i,u,rfl,hi,h1,h2⟩;have h3:i=0\/i=1\/i=2:=by omega
  rcases h3 with rfl|rfl|rfl
  . simp only[Tree.goal,X.P,X.ev,SV.ev,CV.ev,Sc.ev,qz,QA,QB,QC,QD,QE,QF,QG,QH,QI,QJ,QK,QL,QM,Nat.reduceAdd];refine⟨fun _=>⟨by omega,fun h w' hr=>⟨?_,hr.mod⟩,fun h=>⟨by omega,by omega,⟨1,_,rfl,by omega,fun _=>?_,fun h=>by omega⟩,by simp⟩⟩,fun h=>by simp at h⟩
    . rw[if_neg (show ¬x=0 from h)];rfl
    . exact qy9.1 h
  . have hx:=h1 (Nat.le_refl _);simp only[Tree.goal,X.P,X.ev,SV.ev,CV.ev,Sc.ev,qz,QA,QB,QC,QD,QE,QF,QG,QH,QI,QJ,QK,QL,QM,Nat.reduceAdd];refine⟨fun _=>⟨by omega,fun h w' hr=>⟨?_,hr.mod⟩,fun h=>⟨by omega,by omega,⟨2,_,rfl,by omega,fun _=>hx,fun _=>?_⟩,by simp⟩⟩,fun h=>by simp at h⟩
    . rw[if_pos hx];rfl
    . exact qy9.1 h
  . have hx:=h1 (by omega);have hy:=h2 (by omega);simp only[Tree.goal,X.P,X.ev,SV.ev,CV.ev,Sc.ev,qz,QA,QB,QC,QD,QE,QF,QG,QH,QI,QJ,QK,QL,QM,Nat.reduceAdd];refine⟨fun h=>by simp at h,fun _ w' hr=>⟨?_,hr.mod⟩⟩;rw[if_pos hx,hy]
theorem Zip (w:World) (a b:Wt):Calls Tryz.prog 153 #[wV a,wV b] w fun e w'=>e=.returned (.int .i64 (cmpP (ky a) (ky b)))/\Mod [] w w':=by refine Z2 (Zb (ρ:=[.s a.1,.s a.2.1,.i a.2.2,.s b.1,.s b.2.1,.i b.2.2]) (sxE_ok.joins _) Tryz.func153 Zbd rfl rfl rfl ?_) rfl;simp only[Tree.goal,X.P,X.ev,SV.ev,CV.ev,Sc.ev,qz,QA,QB,QC,QD,QE,QF,QG,QH,QI,QJ,QK,QL,QM,Nat.reduceAdd];intro b1 b2;refine⟨[.i (Z2s a.1 b.1)],rfl,fun _ w' _=>Z55 w' _ _,?_⟩;simp only[Tree.goal,X.P,X.ev,SV.ev,CV.ev,Sc.ev,qz,QA,QB,QC,QD,QE,QF,QG,QH,QI,QJ,QK,QL,QM,Nat.reduceAdd];refine⟨[.i (Z2s a.2.1 b.2.1)],rfl,fun _ w' _=>Z55 w' _ _,?_⟩;simp only[Tree.goal,X.P,X.ev,SV.ev,CV.ev,Sc.ev,qz,QA,QB,QC,QD,QE,QF,QG,QH,QI,QJ,QK,QL,QM,Nat.reduceAdd];intro v;refine⟨[.i (cmpP (ky a) (ky b))],rfl,fun _ w' hr=>c_Or w' v _ _ (hr.at_ 0 rfl).reads,?_⟩;simp only[Tree.goal,X.P,X.ev,SV.ev,CV.ev,Sc.ev,qz,QA,QB,QC,QD,QE,QF,QG,QH,QI,QJ,QK,QL,QM,Nat.reduceAdd];exact fun w' hr=>⟨by trivial,hr.mod⟩
def Z2n (x:Wt):Int:=if cliB x.1=true then askE (x.2.1,x.2.2) else 1
theorem Zq6 (w:World) (x:Wt) (hs:smW x):Calls Tryz.prog 152 #[wV x] w fun e w'=>e=.returned (.int .i64 (Z2n x))/\Mod [] w w':=by have h1:=hs.1;have h2:=hs.2;refine Z2 (Zb (ρ:=[.s x.1,.s x.2.1,.i x.2.2]) sxE_ok Tryz.func152 Zeq rfl rfl rfl ?_) rfl;simp only[Tree.goal,X.P,X.ev,SV.ev,CV.ev,Sc.ev,qz,QA,QB,QC,QD,QE,QF,QG,QH,QI,QJ,QK,QL,QM,Nat.reduceAdd];intro b1;refine⟨[.b (cliB x.1)],rfl,fun _ w' _=>Zh0 w' _ (by omega),?_⟩;simp only[Tree.goal,X.P,X.ev,SV.ev,CV.ev,Sc.ev,qz,QA,QB,QC,QD,QE,QF,QG,QH,QI,QJ,QK,QL,QM,Nat.reduceAdd];refine⟨fun h w' hr=>⟨by rw[Z2n,if_neg h],hr.mod⟩,fun h=>?_⟩;have h:=qy9.1 h;refine⟨[.i (askE (x.2.1,x.2.2))],rfl,fun _ w' _=>Zw7 w' (x.2.1,x.2.2) h2,?_⟩;simp only[Tree.goal,X.P,X.ev,SV.ev,CV.ev,Sc.ev,qz,QA,QB,QC,QD,QE,QF,QG,QH,QI,QJ,QK,QL,QM,Nat.reduceAdd];exact fun w' hr=>⟨by rw[Z2n,if_pos h],hr.mod⟩
def Zd0:Option Ky->List Wt->Int
  | _,[]=>0
  | p,k::l=>if Z2n k≠0 then Z2n k else if (p.any fun t=>!(ltP t (ky k)))=true then 4 else Zd0 (some (ky k)) l
def Ze (l:List Wt):Int:=if 20<(l.length:Int) then 2 else Zd0 none l
def Zq7 (l:List Wt) (i:Nat):Option Ky:=if i=0 then none else some (ky (l.getD (i - 1) wD_V))
theorem Zq8 (l:List Wt) (i:Nat):((Zq7 l i).any fun t=>!(ltP t (ky (l.getD i wD_V))))=true↔(0<(i:Int)/\0<=cmpP (ky (l.getD (i - 1) wD_V)) (ky (l.getD i wD_V))):=by
  unfold Zq7;rw[Zxx];by_cases h:i=0
  . simp[h]
  . rw[if_neg h];simp only[Option.any_some,Bool.not_eq_true'];exact⟨fun h2=>⟨by omega,h2⟩,fun h2=>h2.2⟩
theorem Zmo {l:List Wt} {i:Nat} (h:i<l.length):Zd0 (Zq7 l i) (l.drop i)=if Z2n (l.getD i wD_V)≠0 then Z2n (l.getD i wD_V)
    else if 0<(i:Int)/\0<=cmpP (ky (l.getD (i - 1) wD_V)) (ky (l.getD i wD_V)) then 4 else Zd0 (Zq7 l (i+1)) (l.drop (i+1)):=by
  rw[Zxv l i h,Zd0];simp only[Zq8];rfl
theorem Z3q (w:World) (v:Value) (l:List Wt) (hv:Z1p w v l) (hs:Zs l) (hl:l.length<1000000000):Calls Tryz.prog 69 #[sc1 v] w fun e w'=>e=.returned (.int .i64 (Ze l))/\Mod [] w w':=by
  refine Z2 (Z4 (ρ:=[.v v,.r (l.map Z7)]) sxE_ok Tryz.func69 Zbj rfl rfl (Rel.start2 (by simp[Ent.holds,Ent.wr,hv,X.ev])) rfl rfl ?_) rfl;simp only[Tree.goal,X.P,X.ev,SV.ev,CV.ev,Sc.ev,qz,QA,QB,QC,QD,QE,QF,QG,QH,QI,QJ,QK,QL,QM,Nat.reduceAdd,qy3,qy4,Zv,Zw,Z19];refine⟨fun h w' hr=>⟨by rw[Ze,if_pos h],hr.mod⟩,fun h=>?_⟩;rw[Ze,if_neg h];refine⟨fun vs=>∃(i:Nat) (x:V),vs=[x,.i i]/\i<=l.length/\Zd0 (Zq7 l i) (l.drop i)=Zd0 none l,fun vs=>l.length - (vs.getD 1 (.i 0)).toI.toNat,⟨0,_,rfl,by omega,rfl⟩,?_⟩;rintro _ - ⟨i,x,rfl,hi,hg⟩;simp only[Tree.goal,X.P,X.ev,SV.ev,CV.ev,Sc.ev,qz,QA,QB,QC,QD,QE,QF,QG,QH,QI,QJ,QK,QL,QM,Nat.reduceAdd,qy3,qy4,Zv,Zw,Z19];have hi1:((i:Int) - 1).toNat=i - 1:=by omega
  try rw[hi1]
  refine⟨fun h1=>⟨by omega,fun b=>?_⟩,fun h1 w' hr=>⟨?_,hr.mod⟩⟩
  . rw[Zmo (by omega)]at hg;refine⟨[.i (Z2n (l.getD i wD_V))],rfl,fun _ w' _=>Zq6 w' _ (Zil hs i),?_⟩;simp only[Tree.goal,X.P,X.ev,SV.ev,CV.ev,Sc.ev,qz,QA,QB,QC,QD,QE,QF,QG,QH,QI,QJ,QK,QL,QM,Nat.reduceAdd,qy3,qy4,Zv,Zw,Z19];try rw[hi1]
    refine⟨fun h2 w' hr=>⟨?_,hr.mod⟩,fun h2=>⟨by omega,by omega,by omega,by omega,?_⟩⟩
    . rw[if_pos h2]at hg;rw[<- hg]
    . rw[if_neg h2]at hg;refine⟨[.i (cmpP (ky (l.getD (i - 1) wD_V)) (ky (l.getD i wD_V)))],rfl,fun _ w' _=>Zip w' (l.getD (i - 1) wD_V) (l.getD i wD_V),?_⟩;simp only[Tree.goal,X.P,X.ev,SV.ev,CV.ev,Sc.ev,qz,QA,QB,QC,QD,QE,QF,QG,QH,QI,QJ,QK,QL,QM,Nat.reduceAdd];refine⟨fun h6 w' hr=>⟨?_,hr.mod⟩,fun h6=>⟨by omega,by omega,⟨i+1,x,rfl,by omega,?_⟩,by omega⟩⟩
      . rw[if_pos h6]at hg;rw[<- hg]
      . rw[if_neg h6]at hg;exact hg
  . have:i=l.length:=by omega
    subst this;rw[List.drop_length]at hg;rw[<- hg];rfl
theorem Z8j:∀(l:List Wt) (p:Option Ky),Zd0 p l=0↔(∀k∈l,Z2n k=0)/\Z8h l/\∀t,p=some t->∀k∈l,ltP t (ky k)=true
  | [],p=>by simp[Zd0,Z8h]
  | k::l,p=>by
    rw[Zd0];constructor
    . intro h;split at h
      . exact absurd h (by assumption)
      rename_i h1;split at h
      . exact absurd h (by decide)
      rename_i h5;obtain⟨i1,i2,i3⟩:=(Z8j l (some (ky k))).1 h;refine⟨fun x hx=>?_,List.pairwise_cons.2 ⟨fun x hx=>i3 _ rfl x hx,i2⟩,fun t ht x hx=>?_⟩
      . rcases List.mem_cons.1 hx with rfl|hx
        . exact qy9.1 h1
        . exact i1 x hx
      . subst ht;have h6:ltP t (ky k)=true:=by simpa using h5
        rcases List.mem_cons.1 hx with rfl|hx
        . exact h6
        . exact Z4o h6 (i3 _ rfl x hx)
    . rintro⟨i1,i2,i3⟩;obtain⟨j1,j2⟩:=List.pairwise_cons.1 i2;rw[if_neg (by simpa using i1 k (qy8 ..)),if_neg]
      . exact(Z8j l (some (ky k))).2 ⟨fun x hx=>i1 x (qy10 _ hx),j2,fun t ht x hx=>by cases ht;exact j1 x hx⟩
      . cases p with
        | none=>simp
        | some t=>simpa using i3 t rfl k (qy8 ..)
theorem Zk {l:List Wt}:Ze l=0↔l.length<=20/\(∀k∈l,Z2n k=0)/\Z8h l:=by
  unfold Ze;constructor
  . intro h;split at h
    . exact absurd h (by decide)
    . obtain⟨a,b,-⟩:=(Z8j l none).1 h;exact⟨by omega,a,b⟩
  . rintro⟨a,b,c⟩;rw[if_neg (by omega)];exact(Z8j l none).2 ⟨b,c,fun t ht=>by cases ht⟩
theorem Zq9 {v:Value} (hn:(match v with | .slice none _ _=>true|_=>false)=true) {w:World} {ks:List Kd} {rows:List (List Value)} (h:reads w v ks rows):rows=[]:=by obtain⟨_,a,cap,rfl,_,h2⟩:=h;refine Classical.byContradiction fun hne=>?_;obtain⟨ad,rfl,_⟩:=h2 hne;simp at hn
theorem Z2i (w:World) (v:Value) (l:List Wt) (hv:Z1p w v l) (hl:l.length<1000000000):Calls Tryz.prog 206 #[sc1 v] w fun e w'=>∃v',e=.returned (sc1 v')/\Zbv w' v' l/\(∀k,Z1 v' k->w.heap.size<=k)/\Mod [] w w':=by
  refine Z2 (Z4 (ρ:=[.v v,.r (l.map Z7)]) sxE_ok Tryz.func206 Z2d rfl rfl (Rel.start2 (by simp[Ent.holds,Ent.wr,hv,X.ev])) rfl rfl ?_) rfl;simp only[Tree.goal,X.P,X.ev,SV.ev,CV.ev,Sc.ev,qz,QA,QB,QC,QD,QE,QF,QG,QH,QI,QJ,QK,QL,QM,Nat.reduceAdd,qy3,List.nil_append];refine⟨fun h w' hr=>?_,fun h v1=>⟨by simp only[Int.natCast_zero];omega,fun v2 w' hr=>?_⟩⟩
  . have hn:l=[]:=List.map_eq_nil_iff.1 (Zq9 h hv);subst hn;exact⟨_,rfl,hr.at_ 0 rfl,hr.fresh 0 rfl,hr.mod⟩
  . exact⟨v2,rfl,hr.at_ 0 rfl,hr.fresh 0 rfl,hr.mod⟩
theorem Zw8 (w:World) (s v:Value) (l:List Wt) (x:Wt) (i:Nat) (hs:Zbv w s l) (hv:Zbv w v [x]) (hne:∀k,Z1 s k->Z1 v k->False) (hi:i<=l.length) (hl:l.length<1000000) : Calls Tryz.prog 236 #[sc1 s,.int .i64 i,sc1 v] w fun e w'=>∃v',e=.returned (sc1 v')/\Zbv w' v' (l.take i++[x]++l.drop i)/\(∀k,Z1 v' k->Z1 s k\/w.heap.size<=k)/\Mod s.ownBlock.toList w w':=by rw[hs.reads.sc1,hv.reads.sc1];refine(Zq1 w s v i _ _ hs hv hne (by simpa using hi) (by simp;omega)).mono ?_;rintro e w' ⟨v',rfl,g1,g2,g3⟩;refine⟨v',by rw[g1.reads.sc1],?_,g2,Mod.of_grown g3 fun k hk=>.inl (Option.mem_toList.2 hk)⟩;rw[Zbv,List.map_append,List.map_append,List.map_take,List.map_drop];exact g1
theorem Zam {ρ:List V} {g:List Nat} {i:Nat} (hi:i∈g) {k:Nat} (h:Z1 (ρ.getD i (.i 0)).toV k):k∈Z11 ρ g:=List.mem_flatMap.2 ⟨i,hi,by rw[h];simp⟩
def newW (n:Nat) (u:Value):Prop:=∀k,Z1 u k->n<=k
theorem Z3h (n:Nat):newW n (.slice none 0 0):=fun k hk=>by simp[Z1,Value.ownBlock]at hk
theorem Zqa {n m:Nat} {x:Value} (h:newW m x) (hm:n<=m):newW n x:=fun k hk=>Nat.le_trans hm (h k hk)
theorem Z2j (w:World):Z1p w (.slice none 0 0) []:=⟨by simp,none,0,rfl,⟨fun _=>rfl,Nat.le_refl _⟩,fun h=>absurd rfl h⟩
def Zkn (w w':World) (e:Ending) (r:List Wt) (er:Int):Prop:=∃v',e=.returned (.tuple #[sc1 v',.int .i64 er])/\Z1p w' v' r/\newW w.heap.size v'/\Mod [] w w'
def rawW (l:List Wt) (x:Wt):List Wt×Int :=
  if hasW l (ky x)=true then (l.set (idxW l (ky x)) x,0)
  else if (l.length:Int)=20 then ([],2) else (l.take (idxW l (ky x))++[x]++l.drop (idxW l (ky x)),0)
theorem Z6f (R:List Wt) (m:Nat) (x:Wt):(R.map Z7).set m [.string ⟨x.1.toArray⟩,.string ⟨x.2.1.toArray⟩,.int .i64 x.2.2]=(R.set m x).map Z7:=by rw[List.map_set];rfl
theorem Zw9 (w:World) (v:Value) (l:List Wt) (x:Wt) (hv:Z1p w v l) (hs:Z8h l) (hl:l.length<=20):Calls Tryz.prog 174 #[sc1 v,wV x] w fun e w'=>Zkn w w' e (rawW l x).1 (rawW l x).2:=by
  refine Z2 (Z4 (ρ:=[.v v,.r (l.map Z7),.s x.1,.s x.2.1,.i x.2.2]) sxE_ok Tryz.func174 Zer rfl rfl (Rel.start2 (by simp[Ent.holds,Ent.wr,hv,X.ev])) rfl rfl ?_) rfl;simp only[Tree.goal,X.P,X.ev,SV.ev,CV.ev,Sc.ev,qz,QA,QB,QC,QD,QE,QF,QG,QH,QI,QJ,QK,QL,QM,Nat.reduceAdd,qy3,qy4,Zv,Zw,Z19];intro b1 w1 hr;refine(Z2i w1 v l (by (first|exact hr.at_ 0 rfl|exact hr.at_ 1 rfl|exact hr.at_ 2 rfl|exact hr.at_ 3 rfl|exact hr.at_ 4 rfl|exact hr.at_ 5 rfl|exact hr.at_ 6 rfl|exact hr.at_ 7 rfl|exact hr.at_ 8 rfl)) (by omega)).mono ?_;rintro e w2 ⟨u,rfl,a1,f1,m1⟩;refine⟨[.v u,.r (l.map Z7)],rfl,rfl,m1,qy5 _,qy2.2 ⟨⟨a1,fun k hk=>.inl (f1 k hk)⟩,qy5 _⟩,Z3,?_⟩;clear hr a1 f1 m1;simp only[Tree.goal,X.P,X.ev,SV.ev,CV.ev,Sc.ev,qz,QA,QB,QC,QD,QE,QF,QG,QH,QI,QJ,QK,QL,QM,Nat.reduceAdd,qy3,qy4,Zv,Zw,Z19];intro b3;refine⟨fun vs=>∃(i j:Nat),vs=[.i i,.i j]/\i<=j/\j<=l.length/\(∀k,k<i->ltP (ky (l.getD k wD_V)) (ky x)=true)/\(∀k,j<=k->k<l.length->ltP (ky (l.getD k wD_V)) (ky x)=false),fun vs=>(vs.getD 1 (.i 0)).toI.toNat - (vs.getD 0 (.i 0)).toI.toNat,⟨0,l.length,rfl,by omega,by omega,fun k hk=>by omega,fun k h1 h2=>by omega⟩,?_⟩;rintro _ - ⟨i,j,rfl,hij,hj,hA,hB⟩;simp only[Tree.goal,X.P,X.ev,SV.ev,CV.ev,Sc.ev,qz,QA,QB,QC,QD,QE,QF,QG,QH,QI,QJ,QK,QL,QM,Nat.reduceAdd,qy3,qy4,Zv,Zw,Z19];refine⟨fun h1=>?_,fun h1=>?_⟩
  . rw[Z12e i j (by omega)];obtain⟨h,hh⟩:∃h,h=(i+j) / 2:=⟨_,rfl⟩
    rw[<- hh];have hh1:i<=h/\h<j:=by omega
    simp only[qy4,Zv,Zw,Z19];refine⟨by omega,by omega,by omega,by omega,by omega,by omega,?_⟩;refine⟨[.i (cmpP (ky (l.getD h wD_V)) (ky x))],rfl,fun _ w' _=>Zip w' (l.getD h wD_V) x,?_⟩;simp only[Tree.goal,X.P,X.ev,SV.ev,CV.ev,Sc.ev,qz,QA,QB,QC,QD,QE,QF,QG,QH,QI,QJ,QK,QL,QM,Nat.reduceAdd,qy3,qy4,Zv,Zw,Z19];rw[Zpt];refine⟨fun h2=>⟨by omega,by omega,⟨h+1,j,rfl,by omega,hj,fun k hk=>?_,hB⟩,by omega⟩,fun h2=>⟨⟨i,h,rfl,by omega,by omega,hA,fun k hk1 hk2=>?_⟩,by omega⟩⟩
    . by_cases hkh:k=h
      . rw[hkh];exact h2
      . exact Z4o (Zki hs (i:=k) (j:=h) (by omega) (by omega)) h2
    . have h3:ltP (ky (l.getD h wD_V)) (ky x)=false:=by simpa using h2
      by_cases hkh:k=h
      . rw[hkh];exact h3
      . cases h4:ltP (ky (l.getD k wD_V)) (ky x) with
        | false=>rfl
        | true =>
          have:=Z4o (Zki hs (i:=h) (j:=k) (by omega) hk2) h4;rw[h3]at this;cases this
  . have hie:i=j:=by omega
    subst hie;have e:=Zpv (i:=i) hj hA hB;refine⟨by omega,by omega,fun h2=>?_,fun h2=>?_⟩
    . refine⟨[.i (cmpP (ky (l.getD i wD_V)) (ky x))],rfl,fun _ w' _=>Zip w' (l.getD i wD_V) x,?_⟩;simp only[Tree.goal,X.P,X.ev,SV.ev,CV.ev,Sc.ev,qz,QA,QB,QC,QD,QE,QF,QG,QH,QI,QJ,QK,QL,QM,Nat.reduceAdd,qy3,qy4,Zv,Zw,Z19];rw[Zpu];refine⟨fun h3=>⟨by omega,fun w3 hr=>?_⟩,fun h3=>⟨fun h4 w3 hr=>?_,fun h4 u2 w3 hr=>?_⟩⟩
      . have hh:hasW l (ky x)=true:=by rw[hasW,<- e];exact decide_eq_true ⟨by omega,h3⟩
        rw[rawW,if_pos hh,<- e];refine⟨u,rfl,?_,hr.fresh 1 rfl,hr.mod⟩;have h0:=(hr.at_ 1 rfl).reads;rw[Z1p,<- Z6f];exact h0
      . have hh:¬hasW l (ky x)=true:=by rw[hasW,<- e,decide_eq_true_eq];exact fun h=>h3 h.2
        rw[rawW,if_neg hh,if_pos h4];exact⟨_,rfl,Z2j _,Z3h _,hr.mod⟩
      . have hh:¬hasW l (ky x)=true:=by rw[hasW,<- e,decide_eq_true_eq];exact fun h=>h3 h.2
        rw[rawW,if_neg hh,if_neg h4,<- e];refine(Zw8 w3 u u2 l x i (by (first|exact hr.at_ 0 rfl|exact hr.at_ 1 rfl|exact hr.at_ 2 rfl|exact hr.at_ 3 rfl|exact hr.at_ 4 rfl|exact hr.at_ 5 rfl|exact hr.at_ 6 rfl|exact hr.at_ 7 rfl|exact hr.at_ 8 rfl)) (by (first|exact hr.at_ 0 rfl|exact hr.at_ 1 rfl|exact hr.at_ 2 rfl|exact hr.at_ 3 rfl|exact hr.at_ 4 rfl|exact hr.at_ 5 rfl|exact hr.at_ 6 rfl|exact hr.at_ 7 rfl|exact hr.at_ 8 rfl)) (fun k h5 h6=>hr.sep.disj (i:=2) (j:=0) rfl rfl (by omega) (.inl rfl) (k:=k) h5 h6) (by omega) (by omega)).mono ?_;rintro e w4 ⟨v',rfl,g1,g2,g3⟩;refine⟨[.v v',.r ((l.take i++[x]++l.drop i).map Z7)],rfl,rfl,g3.mono fun k hk=>.inl (by unfold Zr;exact List.mem_append_right _ (Zam (i:=7) (by simp) (Option.mem_toList.1 hk))),qy5 _,qy2.2 ⟨⟨g1,fun k hk=>?_⟩,qy5 _⟩,Z3,?_⟩;(· rcases g2 k hk with h5|h5;(· exact .inr (.inr (Zam (i:=7) (by simp) h5)));(· exact .inl h5));(· intro w5 hr5;exact⟨v',rfl,(hr5.at_ 0 rfl).reads,hr5.fresh 0 rfl,hr5.mod⟩)
    . have hh:¬hasW l (ky x)=true:=by rw[hasW,<- e,decide_eq_true_eq];exact fun h=>h2 (by omega)
      refine⟨fun h4 w3 hr=>?_,fun h4 u2 w3 hr=>?_⟩
      . rw[rawW,if_neg hh,if_pos h4];exact⟨_,rfl,Z2j _,Z3h _,hr.mod⟩
      . rw[rawW,if_neg hh,if_neg h4,<- e];refine(Zw8 w3 u u2 l x i (by (first|exact hr.at_ 0 rfl|exact hr.at_ 1 rfl|exact hr.at_ 2 rfl|exact hr.at_ 3 rfl|exact hr.at_ 4 rfl|exact hr.at_ 5 rfl|exact hr.at_ 6 rfl|exact hr.at_ 7 rfl|exact hr.at_ 8 rfl)) (by (first|exact hr.at_ 0 rfl|exact hr.at_ 1 rfl|exact hr.at_ 2 rfl|exact hr.at_ 3 rfl|exact hr.at_ 4 rfl|exact hr.at_ 5 rfl|exact hr.at_ 6 rfl|exact hr.at_ 7 rfl|exact hr.at_ 8 rfl)) (fun k h5 h6=>hr.sep.disj (i:=2) (j:=0) rfl rfl (by omega) (.inl rfl) (k:=k) h5 h6) (by omega) (by omega)).mono ?_;rintro e w4 ⟨v',rfl,g1,g2,g3⟩;refine⟨[.v v',.r ((l.take i++[x]++l.drop i).map Z7)],rfl,rfl,g3.mono fun k hk=>.inl (by unfold Zr;exact List.mem_append_right _ (Zam (i:=7) (by simp) (Option.mem_toList.1 hk))),qy5 _,qy2.2 ⟨⟨g1,fun k hk=>?_⟩,qy5 _⟩,Z3,?_⟩;(· rcases g2 k hk with h5|h5;(· exact .inr (.inr (Zam (i:=7) (by simp) h5)));(· exact .inl h5));(· intro w5 hr5;exact⟨v',rfl,(hr5.at_ 0 rfl).reads,hr5.fresh 0 rfl,hr5.mod⟩)
def addE (l:List Wt) (x:Wt):Int:=if Ze l=0 then Z2n x else Ze l
def addC (l:List Wt) (x:Wt):List Wt×Int:=if addE l x=0 then rawW l x else ([],addE l x)
theorem Z10p (w:World) (v:Value) (l:List Wt) (x:Wt) (hv:Z1p w v l) (hs:Zs l) (hl:l.length<1000000000) (hx:smW x):Calls Tryz.prog 98 #[sc1 v,.string ⟨x.1.toArray⟩,.agg #[.string ⟨x.2.1.toArray⟩,.int .i64 x.2.2]] w fun e w'=>Zkn w w' e (addC l x).1 (addC l x).2:=by
  refine Z2 (Z4 (ρ:=[.v v,.r (l.map Z7),.s x.1,.s x.2.1,.i x.2.2]) sxE_ok Tryz.func98 Zes rfl rfl (Rel.start2 (by simp[Ent.holds,Ent.wr,hv,X.ev])) rfl rfl ?_) rfl;simp only[Tree.goal,X.P,X.ev,SV.ev,CV.ev,Sc.ev,qz,QA,QB,QC,QD,QE,QF,QG,QH,QI,QJ,QK,QL,QM,Nat.reduceAdd,qy3,qy4,Zv,Zw,Z19];intro b1 b2;refine⟨[.i (Ze l)],rfl,fun _ w' hr=>Z3q w' v l (by (first|exact hr.at_ 0 rfl|exact hr.at_ 1 rfl|exact hr.at_ 2 rfl|exact hr.at_ 3 rfl|exact hr.at_ 4 rfl|exact hr.at_ 5 rfl|exact hr.at_ 6 rfl|exact hr.at_ 7 rfl|exact hr.at_ 8 rfl)) hs hl,?_⟩;simp only[Tree.goal,X.P,X.ev,SV.ev,CV.ev,Sc.ev,qz,QA,QB,QC,QD,QE,QF,QG,QH,QI,QJ,QK,QL,QM,Nat.reduceAdd,qy3,qy4,Zv,Zw,Z19];refine⟨fun h=>?_,fun h w1 hr=>?_⟩
  . refine⟨[.i (Z2n x)],rfl,fun _ w' hr=>Zq6 w' x hx,?_⟩;simp only[Tree.goal,X.P,X.ev,SV.ev,CV.ev,Sc.ev,qz,QA,QB,QC,QD,QE,QF,QG,QH,QI,QJ,QK,QL,QM,Nat.reduceAdd,qy3,qy4,Zv,Zw,Z19];have e:addE l x=Z2n x:=by rw[addE,if_pos h]
    refine⟨fun h1 w1 hr=>?_,fun h1 w1 hr=>?_⟩
    . rw[addC,e,if_neg h1];exact⟨_,rfl,Z2j _,Z3h _,hr.mod⟩
    . have h1:Z2n x=0:=qy9.1 h1;rw[addC,e,if_pos h1];obtain⟨k1,k2,k3⟩:=Zk.1 h;have hc:=Zw9 w1 v l x (by (first|exact hr.at_ 0 rfl|exact hr.at_ 1 rfl|exact hr.at_ 2 rfl|exact hr.at_ 3 rfl|exact hr.at_ 4 rfl|exact hr.at_ 5 rfl|exact hr.at_ 6 rfl|exact hr.at_ 7 rfl|exact hr.at_ 8 rfl)) k3 k1;generalize rawW l x=rr at hc ⊢
      obtain⟨r,er⟩:=rr;refine hc.mono ?_;rintro e w2 ⟨v',rfl,g1,g2,gm⟩;refine⟨[.v v',.r (r.map Z7),.i er],rfl,rfl,gm,qy5 _,qy2.2 ⟨⟨g1,fun k hk=>.inl (g2 k hk.2)⟩,qy5 _⟩,Z3,?_⟩;intro w3 hr3;exact⟨v',rfl,hr3.at_ 0 rfl,Zqa g2 hr.mod.size,hr3.mod⟩
  . have e:addE l x=Ze l:=by rw[addE,if_neg h]
    rw[addC,e,if_neg h];exact⟨_,rfl,Z2j _,Z3h _,hr.mod⟩
theorem Z1y (p:Wt->Bool) (l:List Wt) (i:Nat) (h:i<l.length):(l.take (i+1)).filter p=(l.take i).filter p++(if p (l.getD i wD_V)=true then [l.getD i wD_V] else []):=by
  rw[Zik l i h,List.filter_append];generalize l.getD i wD_V=o
  by_cases h1:p o=true<;>simp[h1]
theorem Z35 {p:Wt->Bool} {l:List Wt} {i:Nat} (h:∀j,j<i->p (l.getD j wD_V)=true):(l.take i).filter p=l.take i:=by rw[List.filter_eq_self];intro x hx;obtain⟨j,hj,rfl⟩:=List.getElem_of_mem hx;simp only[List.length_take]at hj;have:=h j (by omega);rw[List.getElem_take];rwa [qy1,qy7 (by omega)]at this
theorem Z61 {R l:List Wt} {a j:Nat} {p:Wt->Bool} (haj:a<j) (hj:j<l.length) (hR:R.length=l.length) (ht:R.take a=(l.take j).filter p) (hd:R.drop j=l.drop j) (hp:p (l.getD j wD_V)=true) : (R.set a (R.getD j wD_V)).take (a+1)=(l.take (j+1)).filter p:=by
  have hg:R.getD j wD_V=l.getD j wD_V:=by have:=congrArg (fun l=>l[0]?) hd;simp only[List.getElem?_drop,Nat.add_zero]at this;rw[qy1,qy1,this]
  rw[Z1y p l j hj,if_pos hp,<- ht,hg,Zik _ _ (by simp;omega)];congr 1
  . rw[List.take_set_of_le (Nat.le_refl _)]
  . rw[qy1,List.getElem?_set_self (by omega)];rfl
theorem Z1z {R l:List Wt} {j:Nat} (hd:R.drop j=l.drop j):R.drop (j+1)=l.drop (j+1):=by have:=congrArg (fun l=>l.drop 1) hd;simpa [List.drop_drop,Nat.add_comm]using this
theorem Z8k {R l:List Wt} {j:Nat} (hd:R.drop j=l.drop j):R.getD j wD_V=l.getD j wD_V:=by have:=congrArg (fun l=>l[0]?) hd;simp only[List.getElem?_drop,Nat.add_zero]at this;rw[qy1,qy1,this]
def Zd1 (p:Wt->Bool) (l:List Wt):List Wt×Int:=if Ze l=0 then (l.filter p,0) else ([],Ze l)
theorem Zuh (w:World) (v:Value) (l:List Wt) (c:List UInt8) (hv:Z1p w v l) (hs:Zs l) (hl:l.length<1000000000):Calls Tryz.prog 101 #[sc1 v,.string ⟨c.toArray⟩] w fun e w'=>Zkn w w' e (Zd1 (fun w=>decide (¬w.1=c)) l).1 (Zd1 (fun w=>decide (¬w.1=c)) l).2:=by
  refine Z2 (Z4 (ρ:=[.v v,.r (l.map Z7),.s c]) sxE_ok Tryz.func101 Zbe rfl rfl (Rel.start2 (by simp[Ent.holds,Ent.wr,hv,X.ev])) rfl rfl ?_) rfl;simp only[Tree.goal,X.P,X.ev,SV.ev,CV.ev,Sc.ev,qz,QA,QB,QC,QD,QE,QF,QG,QH,QI,QJ,QK,QL,QM,Nat.reduceAdd,qy3,qy4,Zv,Zw,Z19];intro b1;refine⟨[.i (Ze l)],rfl,fun _ w' hr=>Z3q w' v l (by (first|exact hr.at_ 0 rfl|exact hr.at_ 1 rfl|exact hr.at_ 2 rfl|exact hr.at_ 3 rfl|exact hr.at_ 4 rfl|exact hr.at_ 5 rfl|exact hr.at_ 6 rfl|exact hr.at_ 7 rfl|exact hr.at_ 8 rfl)) hs hl,?_⟩;simp only[Tree.goal,X.P,X.ev,SV.ev,CV.ev,Sc.ev,qz,QA,QB,QC,QD,QE,QF,QG,QH,QI,QJ,QK,QL,QM,Nat.reduceAdd,qy3,qy4,Zv,Zw,Z19];refine⟨fun h w1 hr=>?_,fun h=>?_⟩;(· rw[Zd1,if_neg h];exact⟨_,rfl,Z2j _,Z3h _,hr.mod⟩);have h:=qy9.1 h;rw[Zd1,if_pos h];intro w1 hr;refine(Z2i w1 v l (by (first|exact hr.at_ 0 rfl|exact hr.at_ 1 rfl|exact hr.at_ 2 rfl|exact hr.at_ 3 rfl|exact hr.at_ 4 rfl|exact hr.at_ 5 rfl|exact hr.at_ 6 rfl|exact hr.at_ 7 rfl|exact hr.at_ 8 rfl)) (by omega)).mono ?_;rintro e w2 ⟨u,rfl,a1,f1,m1⟩;refine⟨[.v u,.r (l.map Z7)],rfl,rfl,m1,qy5 _,qy2.2 ⟨⟨a1,fun k hk=>.inl (f1 k hk)⟩,qy5 _⟩,Z3,?_⟩;clear hr a1 f1 m1;simp only[Tree.goal,X.P,X.ev,SV.ev,CV.ev,Sc.ev,qz,QA,QB,QC,QD,QE,QF,QG,QH,QI,QJ,QK,QL,QM,Nat.reduceAdd,qy3,qy4,Zv,Zw,Z19];generalize hkp:(fun w:Wt=>decide (¬w.1=c))=kp
  have kp0:∀x:Wt,x.1=c->¬kp x=true:=fun x hx=>by rw[<- hkp];simp[hx]
  have kp1:∀x:Wt,¬x.1=c->kp x=true:=fun x hx=>by rw[<- hkp];simp[hx]
  refine⟨fun vs=>∃(x:V) (i:Nat),vs=[x,.i i,.s c]/\i<=l.length/\∀j,j<i->kp (l.getD j wD_V)=true,fun vs=>(l.length - (vs.getD 1 (.i 0)).toI).toNat,⟨_,0,rfl,by omega,fun j hj=>by omega⟩,?_⟩;rintro _ - ⟨x,i,rfl,hi,hn⟩;simp only[Tree.goal,X.P,X.ev,SV.ev,CV.ev,Sc.ev,qz,QA,QB,QC,QD,QE,QF,QG,QH,QI,QJ,QK,QL,QM,Nat.reduceAdd,qy3,qy4,Zv,Zw,Z19];refine⟨fun h1=>?_,fun h1 w3 hr=>?_⟩
  . (repeat refine⟨by omega,?_⟩)
    intro b7;refine⟨fun h2=>⟨fun h3=>by omega,fun h3=>⟨by omega,by omega,?_⟩⟩,fun h2=>?_⟩
    . refine⟨fun vs=>∃(a j:Nat) (R:List Wt),vs=[.i a,.i j,.r (R.map Z7),.s c]/\a<j/\j<=l.length/\R.length=l.length/\R.take a=(l.take j).filter kp/\R.drop j=l.drop j,fun vs=>(l.length - (vs.getD 1 (.i 0)).toI).toNat,
        ⟨i,i+1,l,rfl,by omega,by omega,rfl,?_,rfl⟩,?_⟩
      . rw[Z1y kp l i (by omega),if_neg (kp0 _ h2),List.append_nil,Z35 hn]
      rintro _ - ⟨a,j,R,rfl,haj,hj,hR,ht,hd⟩;simp only[Tree.goal,X.P,X.ev,SV.ev,CV.ev,Sc.ev,qz,QA,QB,QC,QD,QE,QF,QG,QH,QI,QJ,QK,QL,QM,Nat.reduceAdd,qy3,qy4,Zv,Zw,Z19,hR];refine⟨fun h3=>?_,fun h3=>?_⟩
      . (repeat refine⟨by omega,?_⟩)
        intro b8 b9;have hg:=Z8k hd;refine⟨fun h4=>?_,fun h4=>?_⟩
        . (repeat refine⟨by omega,?_⟩)
          refine⟨⟨a+1,j+1,R.set a (R.getD j wD_V),?_,by omega,by omega,by simpa using hR,Z61 haj (by omega) hR ht hd (kp1 _ (by rw[<- hg];exact h4)),?_⟩,by omega⟩
          . rw[<- Z6f];rfl
          . rw[List.drop_set_of_lt (by omega)];exact Z1z hd
        . (repeat refine⟨by omega,?_⟩)
          refine⟨⟨a,j+1,R,rfl,by omega,by omega,hR,?_,Z1z hd⟩,by omega⟩;rw[Z1y kp l j (by omega),if_neg (kp0 _ (by rw[<- hg];exact qy9.1 h4)),List.append_nil];exact ht
      . (have hje:j=l.length:=by omega);subst hje;rw[List.take_length]at ht;refine⟨by omega,by omega,?_,fun u' w3 hr=>⟨u',rfl,?_,hr.fresh 0 rfl,hr.mod⟩⟩;(· simp only[qy11,List.length_take,List.length_replicate,qy3,hR];omega);(· have h0:=(hr.at_ 0 rfl).reads;simp only[Tree.goal,X.P,X.ev,SV.ev,CV.ev,Sc.ev,qz,QA,QB,QC,QD,QE,QF,QG,QH,QI,QJ,QK,QL,QM,Nat.reduceAdd,qy3,qy4,Zv,Zw,Z19]at h0;rw[List.take_append_of_le_length (by simp;omega),List.take_take,Nat.min_self,<- List.map_take,ht]at h0;exact h0)
    . (repeat refine⟨by omega,?_⟩)
      refine⟨⟨_,i+1,rfl,by omega,fun j hj=>?_⟩,by omega⟩;by_cases hji:j=i
      . subst hji;exact kp1 _ h2
      . exact hn j (by omega)
  . (have hie:i=l.length:=by omega);subst hie;(have e1:=Z35 (p:=kp) (l:=l) (i:=l.length) hn);rw[List.take_length]at e1;rw[e1];exact⟨u,rfl,owns.reads (by (first|exact hr.at_ 0 rfl|exact hr.at_ 1 rfl|exact hr.at_ 2 rfl|exact hr.at_ 3 rfl|exact hr.at_ 4 rfl|exact hr.at_ 5 rfl|exact hr.at_ 6 rfl|exact hr.at_ 7 rfl|exact hr.at_ 8 rfl)),hr.fresh 1 rfl,hr.mod⟩
theorem Zya (w:World) (v:Value) (l:List Wt) (c f:List UInt8) (hv:Z1p w v l) (hs:Zs l) (hl:l.length<1000000000):Calls Tryz.prog 100 #[sc1 v,.string ⟨c.toArray⟩,.string ⟨f.toArray⟩] w fun e w'=>Zkn w w' e (Zd1 (fun w=>decide (¬(w.1=c/\w.2.1=f))) l).1 (Zd1 (fun w=>decide (¬(w.1=c/\w.2.1=f))) l).2:=by
  refine Z2 (Z4 (ρ:=[.v v,.r (l.map Z7),.s c,.s f]) sxE_ok Tryz.func100 Zct rfl rfl (Rel.start2 (by simp[Ent.holds,Ent.wr,hv,X.ev])) rfl rfl ?_) rfl;simp only[Tree.goal,X.P,X.ev,SV.ev,CV.ev,Sc.ev,qz,QA,QB,QC,QD,QE,QF,QG,QH,QI,QJ,QK,QL,QM,Nat.reduceAdd,qy3,qy4,Zv,Zw,Z19];intro b1 b2;refine⟨[.i (Ze l)],rfl,fun _ w' hr=>Z3q w' v l (by (first|exact hr.at_ 0 rfl|exact hr.at_ 1 rfl|exact hr.at_ 2 rfl|exact hr.at_ 3 rfl|exact hr.at_ 4 rfl|exact hr.at_ 5 rfl|exact hr.at_ 6 rfl|exact hr.at_ 7 rfl|exact hr.at_ 8 rfl)) hs hl,?_⟩;simp only[Tree.goal,X.P,X.ev,SV.ev,CV.ev,Sc.ev,qz,QA,QB,QC,QD,QE,QF,QG,QH,QI,QJ,QK,QL,QM,Nat.reduceAdd,qy3,qy4,Zv,Zw,Z19];refine⟨fun h w1 hr=>?_,fun h=>?_⟩;(· rw[Zd1,if_neg h];exact⟨_,rfl,Z2j _,Z3h _,hr.mod⟩);have h:=qy9.1 h;rw[Zd1,if_pos h];intro w1 hr;refine(Z2i w1 v l (by (first|exact hr.at_ 0 rfl|exact hr.at_ 1 rfl|exact hr.at_ 2 rfl|exact hr.at_ 3 rfl|exact hr.at_ 4 rfl|exact hr.at_ 5 rfl|exact hr.at_ 6 rfl|exact hr.at_ 7 rfl|exact hr.at_ 8 rfl)) (by omega)).mono ?_;rintro e w2 ⟨u,rfl,a1,f1,m1⟩;refine⟨[.v u,.r (l.map Z7)],rfl,rfl,m1,qy5 _,qy2.2 ⟨⟨a1,fun k hk=>.inl (f1 k hk)⟩,qy5 _⟩,Z3,?_⟩;clear hr a1 f1 m1;simp only[Tree.goal,X.P,X.ev,SV.ev,CV.ev,Sc.ev,qz,QA,QB,QC,QD,QE,QF,QG,QH,QI,QJ,QK,QL,QM,Nat.reduceAdd,qy3,qy4,Zv,Zw,Z19];generalize hkp:(fun w:Wt=>decide (¬(w.1=c/\w.2.1=f)))=kp
  have kp0:∀x:Wt,x.1=c/\x.2.1=f->¬kp x=true:=fun x hx=>by rw[<- hkp];simp[hx]
  have kp1:∀x:Wt,¬(x.1=c/\x.2.1=f)->kp x=true:=fun x hx=>by rw[<- hkp];exact decide_eq_true hx
  refine⟨fun vs=>∃(x:V) (i:Nat),vs=[x,.i i,.s f,.s c]/\i<=l.length/\∀j,j<i->kp (l.getD j wD_V)=true,fun vs=>(l.length - (vs.getD 1 (.i 0)).toI).toNat,⟨_,0,rfl,by omega,fun j hj=>by omega⟩,?_⟩;rintro _ - ⟨x,i,rfl,hi,hn⟩;simp only[Tree.goal,X.P,X.ev,SV.ev,CV.ev,Sc.ev,qz,QA,QB,QC,QD,QE,QF,QG,QH,QI,QJ,QK,QL,QM,Nat.reduceAdd,qy3,qy4,Zv,Zw,Z19];refine⟨fun h1=>?_,fun h1 w3 hr=>?_⟩
  . (repeat refine⟨by omega,?_⟩)
    intro b7;refine⟨fun h2=>⟨fun h3=>by omega,fun h3=>⟨by omega,by omega,?_⟩⟩,fun h2=>?_⟩
    . refine⟨fun vs=>∃(a j:Nat) (R:List Wt),vs=[.i a,.i j,.r (R.map Z7),.s f,.s c]/\a<j/\j<=l.length/\R.length=l.length/\R.take a=(l.take j).filter kp/\R.drop j=l.drop j,fun vs=>(l.length - (vs.getD 1 (.i 0)).toI).toNat,
        ⟨i,i+1,l,rfl,by omega,by omega,rfl,?_,rfl⟩,?_⟩
      . rw[Z1y kp l i (by omega),if_neg (kp0 _ h2),List.append_nil,Z35 hn]
      rintro _ - ⟨a,j,R,rfl,haj,hj,hR,ht,hd⟩;simp only[Tree.goal,X.P,X.ev,SV.ev,CV.ev,Sc.ev,qz,QA,QB,QC,QD,QE,QF,QG,QH,QI,QJ,QK,QL,QM,Nat.reduceAdd,qy3,qy4,Zv,Zw,Z19,hR];refine⟨fun h3=>?_,fun h3=>?_⟩
      . (repeat refine⟨by omega,?_⟩)
        intro b8 b9;have hg:=Z8k hd;refine⟨fun h4=>?_,fun h4=>?_⟩
        . (repeat refine⟨by omega,?_⟩)
          refine⟨⟨a+1,j+1,R.set a (R.getD j wD_V),?_,by omega,by omega,by simpa using hR,Z61 haj (by omega) hR ht hd (kp1 _ (by rw[<- hg];exact h4)),?_⟩,by omega⟩
          . rw[<- Z6f];rfl
          . rw[List.drop_set_of_lt (by omega)];exact Z1z hd
        . (repeat refine⟨by omega,?_⟩)
          refine⟨⟨a,j+1,R,rfl,by omega,by omega,hR,?_,Z1z hd⟩,by omega⟩;rw[Z1y kp l j (by omega),if_neg (kp0 _ (by rw[<- hg];exact qy9.1 h4)),List.append_nil];exact ht
      . (have hje:j=l.length:=by omega);subst hje;rw[List.take_length]at ht;refine⟨by omega,by omega,?_,fun u' w3 hr=>⟨u',rfl,?_,hr.fresh 0 rfl,hr.mod⟩⟩;(· simp only[qy11,List.length_take,List.length_replicate,qy3,hR];omega);(· have h0:=(hr.at_ 0 rfl).reads;simp only[Tree.goal,X.P,X.ev,SV.ev,CV.ev,Sc.ev,qz,QA,QB,QC,QD,QE,QF,QG,QH,QI,QJ,QK,QL,QM,Nat.reduceAdd,qy3,qy4,Zv,Zw,Z19]at h0;rw[List.take_append_of_le_length (by simp;omega),List.take_take,Nat.min_self,<- List.map_take,ht]at h0;exact h0)
    . (repeat refine⟨by omega,?_⟩)
      refine⟨⟨_,i+1,rfl,by omega,fun j hj=>?_⟩,by omega⟩;by_cases hji:j=i
      . subst hji;exact kp1 _ h2
      . exact hn j (by omega)
  . (have hie:i=l.length:=by omega);subst hie;(have e1:=Z35 (p:=kp) (l:=l) (i:=l.length) hn);rw[List.take_length]at e1;rw[e1];exact⟨u,rfl,owns.reads (by (first|exact hr.at_ 0 rfl|exact hr.at_ 1 rfl|exact hr.at_ 2 rfl|exact hr.at_ 3 rfl|exact hr.at_ 4 rfl|exact hr.at_ 5 rfl|exact hr.at_ 6 rfl|exact hr.at_ 7 rfl|exact hr.at_ 8 rfl)),hr.fresh 1 rfl,hr.mod⟩
theorem Ziq {l:List Wt} {x:Wt} (hs:Z8h l) (h0:(rawW l x).2=0):(rawW l x).1=loW l (ky x)++[x]++hiW l (ky x):=by
  have t1:=Zu6 (n:=ky x) hs;have t2:=Zkj (n:=ky x) hs;unfold rawW at h0 ⊢;rcases Zu7 (n:=ky x) hs with ⟨h1,k,h2,h3⟩|⟨h1,h2⟩
  . rw[if_pos h1];simp only;have hlt:=(of_decide_eq_true h1).1;rw[List.set_eq_take_append_cons_drop,if_pos hlt,t1];have:l.drop (idxW l (ky x)+1)=hiW l (ky x):=by
      rw[<- List.drop_drop,t2,h2];rfl
    rw[this];simp
  . rw[if_neg (by rw[h1];decide)]at h0 ⊢;by_cases h4:(l.length:Int)=20
    . rw[if_pos h4]at h0;exact absurd h0 (by decide)
    . rw[if_neg h4];simp only;rw[t1,t2,h2,List.nil_append]
theorem Zyb {l:List Wt} {x:Wt} (h:Ze l=0) (hx:Z2n x=0) (h0:(rawW l x).2=0):Ze (rawW l x).1=0:=by
  obtain⟨a,b,c⟩:=Zk.1 h;refine Zk.2 ⟨?_,?_,?_⟩
  . unfold rawW at h0 ⊢;by_cases h1:hasW l (ky x)=true
    . rw[if_pos h1];simpa using a
    . rw[if_neg h1]at h0 ⊢;by_cases h4:(l.length:Int)=20
      . rw[if_pos h4]at h0;exact absurd h0 (by decide)
      . rw[if_neg h4];have:=Zxy l (ky x);simp;omega
  . rw[Ziq c h0];intro k hk;rcases qy13.1 hk with hk|hk
    . rcases qy13.1 hk with hk|hk
      . exact b k (List.mem_filter.1 hk).1
      . rw[qy12.1 hk];exact hx
    . exact b k (List.mem_filter.1 hk).1
  . rw[Ziq c h0];have q1:∀k∈loW l (ky x),ltP (ky k) (ky x)=true:=fun k hk=>(List.mem_filter.1 hk).2;have q2:∀k∈hiW l (ky x),ltP (ky x) (ky k)=true:=fun k hk=>(List.mem_filter.1 hk).2;refine List.pairwise_append.2 ⟨List.pairwise_append.2 ⟨c.filter _,List.pairwise_singleton _ _,fun a ha b hb=>?_⟩,c.filter _,fun a ha b hb=>?_⟩
    . rw[qy12.1 hb];exact q1 a ha
    . rcases qy13.1 ha with ha|ha
      . exact Z4o (q1 a ha) (q2 b hb)
      . rw[qy12.1 ha];exact q2 b hb
end Go.Proofs.YtkhakgbnfapifaaGreatDoor
namespace Go.Proofs.YtkhakgbnfapifaaGreatDoor
open Go Go.Sx Go.Sort
section
variable {α:Type} [Inhabited α] {enc:α->List Value} {k:Nat}
theorem Zdz (hk:∀x,(enc x).length=k) (k0:0<k) (ds:List α):(flatK enc k ds.toArray).toList=(ds.map enc).flatten:=by
 apply List.ext_getElem?;intro j;have hlen:((ds.map enc).flatten).length=ds.length*k:=by have:=Za (rows:=ds.map enc) (n:=k) (fun r hr=>by obtain⟨x,-,rfl⟩:=List.mem_map.1 hr;exact hk x);simpa using this
 by_cases hj:j<ds.length*k
 ·have e1:(flatK enc k ds.toArray).toList[j]?=some (enc ds.toArray[j / k]!)[j % k]!:=by
   rw[Array.getElem?_toList,Array.getElem?_eq_getElem (by simpa using hj),<- get_flatK enc k ds.toArray j (by simpa using hj),getElem!_pos _ j (by simpa using hj)]
  have hd:j / k<ds.length:=(Nat.div_lt_iff_lt_mul k0).2 hj;have hm:j % k<k:=Nat.mod_lt _ k0;have e2:=Z6w (rows:=ds.map enc) (n:=k) (fun r hr=>by obtain⟨x,-,rfl⟩:=List.mem_map.1 hr;exact hk x) (i:=j / k) (c:=j % k) hm;rw[show j / k*k+j % k=j by rw[Nat.mul_comm];exact Nat.div_add_mod j k]at e2;rw[e1,e2,List.getElem?_map,qy7 hd];simp only[Option.map_some,Option.bind_some];have e3:ds.toArray[j / k]! = ds[j / k]:=by rw[getElem!_pos _ _ (by simpa using hd)];simp
  rw[e3,qy7 (by rw[hk];exact hm)];congr 1
  rw[getElem!_pos _ _ (by rw[hk];exact hm)]
 ·rw[List.getElem?_eq_none (by simp;omega),List.getElem?_eq_none (by omega)]
theorem Zbw {w:World} {g:Nat} {cur:Array Value} {e:TypeId} (hk:∀x,(enc x).length=k) (k0:0<k) {ds:List α} (hb:w.heap[g]?=some (.cells cur e (0,0))) (ht:cur.toList.take (ds.length*k)=(ds.map enc).flatten) : HoldsK enc k w g 0 ds.toArray:=by
 intro j hj;have hj':j<ds.length*k:=by simpa using hj
 refine⟨?_,by simp[World.frozen?,hb]⟩;have h1:(cur.toList.take (ds.length*k))[j]?=(flatK enc k ds.toArray).toList[j]?:=by rw[ht,Zdz hk k0]
 rw[List.getElem?_take_of_lt hj']at h1;simp only[World.cell?,hb,Nat.zero_add,Option.isSome_none,Bool.false_eq_true,if_false];have e:(flatK enc k ds.toArray)[j]! = (flatK enc k ds.toArray)[j]:=getElem!_pos _ j hj;rw[<- Array.getElem?_toList,h1,Array.getElem?_toList,Array.getElem?_eq_getElem hj,e];rfl
theorem Zh1 {w:World} {g n:Nat} {os:Array Obj} {cur:Array Value} {e:TypeId} {fr:Nat×Nat} (d:Array α) (hb:w.heap[g]?=some (.cells cur e fr)) : (sortWorldK enc k w g 0 n d os).heap[g]?=some (.cells (putCells id 0 (flatK enc k d) cur) e fr):=by have hg:g<w.heap.size:=(Array.getElem?_eq_some_iff.1 hb).1;unfold sortWorldK putRowK;rw[heap_grow_old _ _ (by simpa using hg)];simp[putRow,mapBlock,Sort.ahead,Array.getElem?_modify,hb,onCells]
theorem Zbx {w:World} {g n:Nat} {os:Array Obj} (d:Array α):w.grownBy (sortWorldK enc k w g 0 n d os) (some g):=by unfold sortWorldK putRowK;refine⟨rfl,rfl,rfl,by simp,fun j hj hne=>?_⟩;rw[heap_grow_old _ _ (by simpa using hj)];have:g≠j:=fun e=>hne (by rw[e]);simp[putRow,mapBlock,Sort.ahead,Array.getElem?_modify,this]
theorem Zby {w:World} {base g cap n:Nat} {e:TypeId} {os:Array Obj} {cur:Array Value} {ts:List α} (hk:∀x,(enc x).length=k) (k0:0<k) (hbase:base<=g) (hb:w.heap[g]?=some (.cells cur e (0,0))) (h1:ts.length<=cap) (h2:cap<=maxLen) (h3:cur.size=cap*k) : (sortWorldK enc k w g 0 n ts.toArray os).ownsRow base e k (.slice (some ⟨g,0,none⟩) ts.length cap) ts.length (ts.map enc).flatten:=by
 have hlen:((ts.map enc).flatten).length=ts.length*k:=by have:=Za (rows:=ts.map enc) (n:=k) (fun r hr=>by obtain⟨x,-,rfl⟩:=List.mem_map.1 hr;exact hk x);simpa using this
 have hle:ts.length*k<=cur.size:=by rw[h3];exact Nat.mul_le_mul_right k h1
 refine⟨hlen,.inr ⟨g,cap,_,rfl,hbase,Zh1 _ hb,h1,h2,by simp[putCells,h3],?_⟩⟩;apply List.ext_getElem?;intro j;by_cases hj:j<ts.length*k
 ·rw[List.getElem?_take_of_lt hj,<- Zdz hk k0,Array.getElem?_toList,Array.getElem?_toList];have hj2:j<(flatK enc k ts.toArray).size:=by simpa using hj
  have e:(flatK enc k ts.toArray)[j]! = (flatK enc k ts.toArray)[j]:=getElem!_pos _ j hj2;rw[Array.getElem?_eq_getElem (by simp[putCells];omega),Array.getElem?_eq_getElem hj2,<- e];simp only[putCells,Array.getElem_mapIdx,Nat.zero_add,Nat.sub_zero];rw[if_pos ⟨Nat.zero_le _,hj2⟩];rfl
 ·rw[List.getElem?_take_eq_none (by omega),List.getElem?_eq_none (by omega)]
end
end Go.Proofs.YtkhakgbnfapifaaGreatDoor
namespace Go.Proofs
open Go.Shelf
def Tryz.sortR_ren:Go.Shelf.Ren:=⟨fun|6=>182|15=>240|14=>239|28=>298|29=>299|20=>290|21=>291|22=>292|23=>293|24=>294|25=>295|26=>296|27=>297|46=>326|47=>327|48=>328|49=>329|50=>330|57=>350|n=>n,fun|22=>64|24=>71|25=>204|3=>3|39=>207|0=>0|53=>297|55=>299|4=>4|46=>291|45=>290|50=>118|5=>5|9=>9|66=>320|70=>324|76=>341|77=>342|n=>n,fun|n=>n⟩
theorem Tryz.sortR:Go.Proofs.SlLaysF0.n6 Tryz.prog Tryz.sortR_ren:={
 mixed:=by kernel_rfl
 f6:=⟨Tryz.f182.name,by decide,Tryz.func182.trans (congrArg some (by kernel_rfl))⟩
 f14:=⟨Tryz.f239.name,by decide,Tryz.func239.trans (congrArg some (by kernel_rfl))⟩
 f15:=Tryz.func240.trans (congrArg some (by kernel_rfl))
 f20:=⟨Tryz.f290.name,by decide,Tryz.func290.trans (congrArg some (by kernel_rfl))⟩
 f21:=⟨Tryz.f291.name,by decide,Tryz.func291.trans (congrArg some (by kernel_rfl))⟩
 f22:=⟨Tryz.f292.name,by decide,Tryz.func292.trans (congrArg some (by kernel_rfl))⟩
 f23:=⟨Tryz.f293.name,by decide,Tryz.func293.trans (congrArg some (by kernel_rfl))⟩
 f24:=⟨Tryz.f294.name,by decide,Tryz.func294.trans (congrArg some (by kernel_rfl))⟩
 f25:=⟨Tryz.f295.name,by decide,Tryz.func295.trans (congrArg some (by kernel_rfl))⟩
 f26:=⟨Tryz.f296.name,by decide,Tryz.func296.trans (congrArg some (by kernel_rfl))⟩
 f27:=⟨Tryz.f297.name,by decide,Tryz.func297.trans (congrArg some (by kernel_rfl))⟩
 f28:=Tryz.func298.trans (congrArg some (by kernel_rfl))
 f29:=Tryz.func299.trans (congrArg some (by kernel_rfl))
 f46:=⟨Tryz.f326.name,by decide,Tryz.func326.trans (congrArg some (by kernel_rfl))⟩
 f47:=Tryz.func327.trans (congrArg some (by kernel_rfl))
 f48:=Tryz.func328.trans (congrArg some (by kernel_rfl))
 f49:=⟨Tryz.f329.name,by decide,Tryz.func329.trans (congrArg some (by kernel_rfl))⟩
 f50:=⟨Tryz.f330.name,by decide,Tryz.func330.trans (congrArg some (by kernel_rfl))⟩
 f57:=⟨Tryz.f350.name,by decide,Tryz.func350.trans (congrArg some (by kernel_rfl))⟩
 t0:=Tryz.underlying0
 a0:=Tryz.isAgg0
 z0:=Tryz.sizeOf0
 v0:=Tryz.zeroValue0
 t3:=Tryz.underlying3
 a3:=Tryz.isAgg3
 z3:=Tryz.sizeOf3
 v3:=Tryz.zeroValue3
 t4:=Tryz.underlying4
 a4:=Tryz.isAgg4
 z4:=Tryz.sizeOf4
 v4:=Tryz.zeroValue4
 t5:=Tryz.underlying5
 a5:=Tryz.isAgg5
 z5:=Tryz.sizeOf5
 v5:=Tryz.zeroValue5
 t9:=Tryz.underlying9
 a9:=Tryz.isAgg9
 z9:=Tryz.sizeOf9
 v9:=Tryz.zeroValue9
 t22:=Tryz.underlying64
 a22:=Tryz.isAgg64
 z22:=Tryz.sizeOf64
 v22:=Tryz.zeroValue64
 t25:=Tryz.underlying204
 a25:=Tryz.isAgg204
 z25:=Tryz.sizeOf204
 v25:=Tryz.zeroValue204
 t39:=Tryz.underlying207
 a39:=Tryz.isAgg207
 z39:=Tryz.sizeOf207
 v39:=Tryz.zeroValue207
 t45:=Tryz.underlying290
 a45:=Tryz.isAgg290
 z45:=Tryz.sizeOf290
 v45:=Tryz.zeroValue290
 t46:=Tryz.underlying291
 a46:=Tryz.isAgg291
 z46:=Tryz.sizeOf291
 v46:=Tryz.zeroValue291
 t50:=Tryz.underlying118
 a50:=Tryz.isAgg118
 z50:=Tryz.sizeOf118
 v50:=Tryz.zeroValue118
 t53:=Tryz.underlying297
 a53:=Tryz.isAgg297
 z53:=Tryz.sizeOf297
 v53:=Tryz.zeroValue297
 t55:=Tryz.underlying299
 a55:=Tryz.isAgg299
 z55:=Tryz.sizeOf299
 v55:=Tryz.zeroValue299
 t66:=Tryz.underlying320
 a66:=Tryz.isAgg320
 z66:=Tryz.sizeOf320
 v66:=Tryz.zeroValue320
 t70:=Tryz.underlying324
 a70:=Tryz.isAgg324
 z70:=Tryz.sizeOf324
 v70:=Tryz.zeroValue324
 t76:=Tryz.underlying341
 a76:=Tryz.isAgg341
 z76:=Tryz.sizeOf341
 v76:=Tryz.zeroValue341
 t77:=Tryz.underlying342
 a77:=Tryz.isAgg342
 z77:=Tryz.sizeOf342
 v77:=Tryz.zeroValue342 }
end Go.Proofs
namespace Go.Proofs.YtkhakgbnfapifaaGreatDoor
open Go Go.Sx Go.RowKit Go.Shelf Go.Lib Go.Sort
theorem lawS:Maps.Keyed Tryz.prog 9:=Maps.string_keyed Tryz.underlying9
theorem Z12k (w:World):(zeroValue 3).run Tryz.prog w=.ok (.int .i64 0) w:=by kernel_rfl
def Z6u (n:List UInt8) (l:List Wt) (D:DataW Unit):Prop :=
  Maps.IsMap D/\(∀c,Maps.has D (.string c)=(bst n c none l).isSome)/\∀c q,bst n c none l=some q->∀z,D.atKey (.string c) z=.lit (.int .i64 q)
theorem Zmp (n:List UInt8):Z6u n [] (.map []):=⟨Maps.isMap_empty,fun c=>rfl,fun c q h=>by cases h⟩
theorem Zir {n:List UInt8} {l:List Wt} {D:DataW Unit} {x:Wt} (h:Z6u n l D) (hf:¬forW n x=true):Z6u n (l++[x]) D:=by
  have e:∀c,bst n c none (l++[x])=bst n c none l:=fun c=>by rw[Z8i,if_neg (fun h=>hf h.1)]
  exact⟨h.1,fun c=>by rw[e];exact h.2.1 c,fun c q hq=>by rw[e]at hq;exact h.2.2 c q hq⟩
theorem Zqb {n:List UInt8} {l:List Wt} {D:DataW Unit} (h:Z6u n l D) {c:List UInt8} {q:Int} (hat:D.atKey (.string c) (.lit (.int .i64 0))=.lit (.int .i64 q)):q=(bst n c none l).getD 0:=by
  cases hb:bst n c none l with
  | none =>
    have:=h.2.1 c;rw[hb]at this;rw[Maps.atKey_of_not_has this]at hat;simp only[DataW.lit.injEq,Lit.int.injEq,true_and]at hat;rw[<- hat];rfl
  | some q' =>
    rw[h.2.2 c q' hb]at hat;simp only[DataW.lit.injEq,Lit.int.injEq,true_and]at hat;rw[<- hat];rfl
theorem Zmq {n:List UInt8} {l:List Wt} {D:DataW Unit} {x:Wt} {q:Int} (h:Z6u n l D) (hf:forW n x=true) (hq:q=max ((bst n x.1 none l).getD 0) x.2.2):Z6u n (l++[x]) (D.put (.string x.1) (.lit (.int .i64 q))):=by
  have e0:bst n x.1 none (l++[x])=some q:=by rw[Z8i,if_pos ⟨hf,rfl⟩,hq]
  have e1:∀c,c≠x.1->bst n c none (l++[x])=bst n c none l:=fun c hc=>by rw[Z8i,if_neg (fun h=>hc h.2.symm)]
  refine⟨h.1.put _ _,fun c=>?_,fun c q' hq' z=>?_⟩
  . by_cases hc:c=x.1
    . rw[hc,e0];exact Maps.has_put_same h.1 (show WideAt.IsKeyLit (.string x.1) from trivial) _
    . rw[e1 c hc,Maps.has_put_other (by simpa using hc)];exact h.2.1 c
  . by_cases hc:c=x.1
    . rw[hc,e0]at hq';cases hq';rw[hc];exact Maps.atKey_put_same h.1 (show WideAt.IsKeyLit (.string x.1) from trivial) _ _
    . rw[e1 c hc]at hq';rw[Maps.atKey_put_other (by simpa using hc)];exact h.2.2 c q' hq' z
theorem Zyc {w:World} {a:Addr} {u:Value} (h:w.cell? a=some u):a.block<w.heap.size:=by
  refine Classical.byContradiction fun hn=>?_;have:w.heap[a.block]?=none:=by simp;omega
  simp[World.cell?,this]at h
theorem Z9d {w w':World} {a:Addr} {u:Value} (h:w.cell? a=some u) (hb:Below w.heap.size w w'):w'.cell? a=some u:=by rw[<- h];exact World.cell?_of_block (hb.block _ (Zyc h))
theorem Zmr {w:World} {ad:Addr} {cap:Nat} {l:List Wt} (hv:Z1p w (.slice (some ad) l.length cap) l) {k:Nat} (hk:k<l.length) : w.cell? (ad.add (k*3))=some (.string ⟨(l.getD k wD_V).1.toArray⟩)/\w.cell? ((ad.add (k*3)).add 1)=some (.string ⟨(l.getD k wD_V).2.1.toArray⟩)/\w.cell? ((ad.add (k*3)).add 2)=some (.int .i64 (l.getD k wD_V).2.2):=by
  have hr:(l.map Z7).getD k []=Z7 (l.getD k wD_V):=by rw[qy1,qy1,List.getElem?_map,qy7 hk];rfl
  have key:∀c,c<3->w.cell? ((ad.add (k*3)).add c)=some ((Z7 (l.getD k wD_V)).getD c undef):=fun c hc=>by obtain⟨ad',cap',e,h,-⟩:=hv.get (i:=k) (c:=c) (by rw[qy3];exact hk) hc;simp only[Value.slice.injEq,Option.some.injEq]at e;obtain⟨rfl,-,rfl⟩:=e;rw[hr]at h;rw[Addr.add_add];exact h
  refine⟨?_,key 1 (by decide),key 2 (by decide)⟩;have:=key 0 (by decide);rwa [Addr.add_zero']at this
theorem Zh2 {w w':World} (h:Mod [] w w'):w.grownBy w' none:=⟨h.os,h.tape,h.output,h.size,fun k hk _=>h.block k hk (by simp)⟩
theorem Zbz (w:World) (o:Obj):(w.alloc o).heap[w.heap.size]?=some o:=by show (w.heap.push o)[w.heap.size]?=some o;simp
theorem Zf5 {w:World} {b:Nat} {cs:Array Value} {t:TypeId} (h:w.heap[b]?=some (.cells cs t (0,0))) (j:Nat):w.cell? ⟨b,j,none⟩=cs[j]?:=by simp[World.cell?,h]
theorem Zui {x:Int} (h1:-9223372036854775808<=x) (h2:x<=9223372036854775807):(Lit.int .i64 x).wf=true:=WalkArith.wf_i64 (by omega)
theorem Z10q {c y:Int} (hc:(Lit.int .i64 c).wf=true) (h1:0<=y) (h2:y<=1):(Lit.int .i64 (max c y)).wf=true:=by simp[Lit.wf,IntKind.min,IntKind.max,IntKind.signed,IntKind.bits]at hc;exact Zui (by omega) (by omega)
theorem Zyd:(Tryz.prog.info? 71).map (fun i=>(i.zero,i.size,i.bytes))=some (some (.agg #[.string ⟨#[]⟩,.int .i64 0]),2,24):=by kernel_rfl
theorem Zqc (w:World) (x y:Value) (t:TypeId):∀j u,[x,y][j]?=some u->(w.alloc (.cells #[x,y] t)).cell? ((⟨w.heap.size,0,none⟩:Addr).add j)=some u:=by
  intro j u hj;rw[Addr.add_lit,Zf5 (Zbz w _)]
  match j,hj with
  | 0,hj=>exact hj
  | 1,hj=>exact hj
def Zqd (D:DataW Unit) (left:Lit->Bool) (ss:List Rd):Prop:=Collected D left (ss.map (·.1))/\∀x∈ss,∀z,D.atKey (.string x.1) z=.lit (.int .i64 x.2)
theorem Zis (D:DataW Unit):Zqd D (Maps.has D) []:=⟨Collected.start D,by simp⟩
theorem Zms {D:DataW Unit} {left:Lit->Bool} {ss:List Rd} (h:Zqd D left ss) {c:List UInt8} {q:Int} (hlk:left (.string c)=true) (hat:∀z,D.atKey (.string c) z=.lit (.int .i64 q)):Zqd D (fun z=>left z && !z.sameKey (.string c)) (ss++[(c,q)]):=by
  refine⟨by rw[List.map_append];exact h.1.step hlk hat,fun x hx=>?_⟩;rcases qy13.1 hx with hx|hx
  . exact h.2 x hx
  . rw[qy12.1 hx];exact hat
theorem Zh3 {n:List UInt8} {l:List Wt} {D:DataW Unit} {left:Lit->Bool} {ss ts:List Rd} (hD:Z6u n l D) (h:Zqd D left ss) (hl:∀k,left k=false) (hp:ts.Perm ss) (hs:∀i j,(hij:i<j)->(hj:j<ts.length)->Zd ts[j].1 (ts[i]'(Nat.lt_trans hij hj)).1=false):okY n ts l:=by
  have hnd:(ts.map (·.1)).Nodup:=(hp.map _).nodup_iff.2 h.1.1;refine⟨?_,fun c q=>?_⟩
  . rw[Zim,List.pairwise_iff_getElem];intro i j hi hj hij;rcases Z5z.1 (hs i j hij hj) with h1|h1
    . exact h1
    . rw[List.nodup_iff_pairwise_ne,List.pairwise_iff_getElem]at hnd;have:=hnd i j (by simpa using hi) (by simpa using hj) hij;simp only[List.getElem_map]at this;exact absurd h1 this
  . rw[hp.mem_iff];constructor
    . intro hm;have h1:=h.2 _ hm;have h2:=(h.1.2 c).1 (List.mem_map.2 ⟨_,hm,rfl⟩);have h3:=hD.2.1 c;rw[h2.1]at h3;cases hb:bst n c none l with
      | none=>rw[hb]at h3;cases h3
      | some q' =>
        have h4:=hD.2.2 c q' hb .nil;rw[h1]at h4;simp only[DataW.lit.injEq,Lit.int.injEq,true_and]at h4;rw[h4]
    . intro hb;have h3:=hD.2.1 c;rw[hb]at h3;obtain⟨x,hx,hxc⟩:=List.mem_map.1 ((h.1.2 c).2 ⟨h3,hl _⟩);have h1:=h.2 x hx .nil;have h4:=hD.2.2 c q hb .nil;rw[hxc,h4]at h1;simp only[DataW.lit.injEq,Lit.int.injEq,true_and]at h1;rw[show (c,q)=x from Prod.ext hxc.symm h1];exact hx
def cmpY (x y:Rd):Int:=Z2s x.1 y.1
theorem Z8l (x y:Rd):ltOf cmpY x y=Zd x.1 y.1:=by
  unfold ltOf cmpY;have:=@Z8g x.1 y.1;cases h:Zd x.1 y.1 with
  | true=>exact decide_eq_true (this.2 h)
  | false=>exact decide_eq_false (fun h2=>by rw[this.1 h2]at h;cases h)
theorem swoY:Sort.SWO (ltOf cmpY) where
  irrefl x:=by rw[Z8l];exact Z1a _
  trans x y z h1 h2:=by rw[Z8l]at *;exact Zu h1 h2
  ntrans x y z h1 h2:=by
    rw[Z8l]at *;rcases Z5z.1 h1 with h1|h1<;>rcases Z5z.1 h2 with h2|h2
    . exact Z3p (Zu h2 h1)
    . rw[h2];exact Z3p h1
    . rw[<- h1];exact Z3p h2
    . rw[h2,h1];exact Z1a _
theorem Z12l (x y:Rd) (W:World):Calls Tryz.prog 183 #[.agg (encY x).toArray,.agg (encY y).toArray] W fun e w'=>e=.returned (.int .i64 (cmpY x y))/\∃q os',w'=grow (W.drewN q) os':=by
  have hcon:∀W',Calls Tryz.prog 162 #[.string ⟨x.1.toArray⟩,.string ⟨y.1.toArray⟩] W' fun e w'=>e=.returned (.int .i64 (cmpY x y))/\w'=W':=fun W'=>by refine(Any.strings_Compare Tryz.lays106 ⟨x.1.toArray⟩ ⟨y.1.toArray⟩ W').mono ?_;rintro e w' ⟨rfl,rfl⟩;rw[Zbu];exact⟨rfl,rfl⟩
  simp only[encY];generalize cmpY x y=r at hcon ⊢
  go_enter Tryz.func183,Tryz.ntmps183
  go_wp2_with (go_at_call 162;refine(hcon _).mono ?_;rintro e w' ⟨rfl,rfl⟩)
  go_ret
  exact⟨rfl,0,_,by rw[alloc_eq_grow,alloc_eq_grow,grow_grow];rfl⟩
theorem Zuj (x:Rd):∀v∈encY x,v.oneCell'=true:=by intro v hv;simp only[encY,List.mem_cons,List.not_mem_nil,or_false]at hv;rcases hv with rfl|rfl<;>rfl
set_option maxRecDepth 100000 in
theorem Zye (w:World) (f:Value):Calls Tryz.prog 290 #[.slice none 0 0,.int .i64 0,.int .i64 0,f] w fun e w'=>e=.returned (.tuple #[])/\w'=w:=by
  go_enter Tryz.func290,Tryz.ntmps290
  go_wp2
  refine wp_loop_rounds 1 ?_;rw[rounds_succ];go_wp2
  go_end0
  exact⟨rfl,rfl⟩
set_option maxRecDepth 100000 in
theorem Zyf (w:World) (f:Value) (n:Int):Calls Tryz.prog 239 #[.slice none 0 0,.int .i64 0,.int .i64 0,.int .i64 n,f] w fun e w'=>e=.returned (.tuple #[])/\w'=w:=by
  go_enter Tryz.func239,Tryz.ntmps239
  go_wp2
  refine wp_loop_rounds 1 ?_;rw[rounds_succ];go_wp2_with (go_at_call 290;refine(Zye _ _).mono ?_;rintro e w' ⟨rfl,rfl⟩)
  (try simp only[Exit.inBlock,Exit.then])
  refine bodyPost_ret (results_none rfl _ _ _) rfl ?_;exact⟨rfl,rfl⟩
set_option maxRecDepth 100000 in
theorem Zuk (w:World):Calls Tryz.prog 182 #[.slice none 0 0,.func (.func 183) #[] #[]] w fun e w'=>e=.returned (.tuple #[])/\Mod [] w w':=by
  have hl:∀W,Calls Tryz.prog 240 #[.int .u64 0] W fun e w'=>e=.returned (.int .i64 (Lib.bitLen 0:Nat))/\w'=W:=fun W =>
    Any.bits_Len (SlLaysF0.n15.bits (P:=Tryz.prog) (ρ:=Tryz.sortR_ren) { Tryz.sortR with }) 0 W (by omega) (by omega)
  go_enter Tryz.func182,Tryz.ntmps182
  go_wp2_with (first|(go_at_call 240;refine(hl _).mono ?_;rintro e w' ⟨rfl,rfl⟩)|(go_at_call 239;refine(Zyf _ _ _).mono ?_;rintro e w' ⟨rfl,rfl⟩))
  go_end0
  exact⟨rfl,Mod.refl _ _⟩
theorem size_map {w:World} {P:Program} {k:TypeId} {R:Value->Option (DataW Unit×List MemPlace)} {b n:Nat} {D:DataW Unit} (h:w.ownsMap P k R b n D):Maps.size D<=n:=by obtain⟨es,clock,hb,F,hn,rfl⟩:=h;simpa [Maps.size,length_sorted]using hn
theorem Zul {w:World} {base e k:Nat} {v:Value} {n:Nat} {xs:List Value} (h:w.ownsRow base e k v n xs):w.ownsRow 0 e k v n xs :=
  ⟨h.1,h.2.imp id fun ⟨g,cap,cur,a,b,r⟩=>⟨g,cap,cur,a,Nat.zero_le _,r⟩⟩
theorem Zqe (w:World):Zy0 w (.slice none 0 0) []:=⟨by simp,rfl,.inl ⟨rfl,rfl⟩⟩
theorem Zqf (ts:List Rd):∀r∈ts.map encY,rowOk kY r:=by intro r hr;obtain⟨x,-,rfl⟩:=List.mem_map.1 hr;exact⟨⟨_,rfl⟩,⟨_,rfl⟩,trivial⟩
set_option maxRecDepth 100000 in
theorem Zyg (w:World) (a:Option Addr) (cap:Nat) (l:List Wt) (n:List UInt8) (hv:Z1p w (.slice a l.length cap) l) (hs:Zs l) (hn:n.length<1000000000) (hl:l.length<1000000) (hq:∀x∈l,0<=x.2.2/\x.2.2<=1) : Calls Tryz.prog 104 #[.slice a l.length cap,.string ⟨n.toArray⟩] w fun e w'=>∃v' rs,e=.returned v'/\Zy0 w' v' rs/\newW w.heap.size v'/\okY n rs l/\Mod [] w w':=by
  have hv0:=hv;obtain⟨hrow,a',cap',e1,⟨hc1,hc2⟩,hcells⟩:=hv;simp only[Value.slice.injEq,qy3]at e1;obtain⟨rfl,-,rfl⟩:=e1;have hmm:=@run_makeMap Tryz.prog;go_enter Tryz.func104,Tryz.ntmps104
  go_wp2
  go_loopw [14] (fun i wr=>∃(k:Nat) (D:DataW Unit),k<=l.length/\i=.int .i64 k/\wr.ownsMap Tryz.prog 9 (plainElem Tryz.prog 3) w.heap.size k D/\Z6u n (l.take k) D/\Below w.heap.size w wr)
    (fun i _=>l.length - (intOf i).toNat)
  case atStart=>exact⟨0,_,Nat.zero_le _,rfl,World.ownsMap_made _ _ _ _,Zmp n,(Below.refl _ _).alloc (Nat.le_refl _) _⟩
  case round =>
    obtain⟨k,D,hk,rfl,hown,hD,hnx⟩:=hrel;by_cases hlt:k<l.length
    . obtain⟨ad,rfl,hcell⟩:=hcells (fun e=>by rw[List.map_eq_nil_iff]at e;rw[e]at hlt;exact Nat.not_lt_zero _ hlt);obtain⟨q0,q1,q2⟩:=Zmr hv0 hlt;have h0:=Z9d q0 hnx;have h1:=Z9d q1 hnx;have h2:=Z9d q2 hnx;have hx1:=hs _ (memW l k hlt);have htk:=Zik l k hlt;have hq1:=hq _ (memW l k hlt);generalize l.getD k wD_V=x at h0 h1 h2 hx1 htk hq1
      rw[Addr.add_succ']at h1 h2;clear q0 q1 q2;generalize hA:ad.add (k*3)=A at h0 h1 h2
      have hkey:keyOf Tryz.prog 9 (.string ⟨x.1.toArray⟩)=some (.string x.1):=by have:=WideMaps.keyOf_string_mk Tryz.underlying9 (s:=⟨x.1.toArray⟩) (by have:=hx1.1;simp[ByteArray.size,maxLen];omega);simpa using this
      have hc:=Zxl (wr.alloc (.cells #[.string ⟨x.1.toArray⟩,.string ⟨x.2.1.toArray⟩,.int .i64 x.2.2] 90)) x.2.1 n (by have:=hx1.2;omega) (by omega);go_wp2_with (first
        | (go_at_call 181;refine hc.mono ?_;rintro e w2 ⟨rfl,gm⟩
           have g1:=Zh2 gm;have hown2:=(hown.alloc (.cells #[.string ⟨x.1.toArray⟩,.string ⟨x.2.1.toArray⟩,.int .i64 x.2.2] 90)).kept g1 (by simp);have hnx2:=(hnx.alloc hnx.size (.cells #[.string ⟨x.1.toArray⟩,.string ⟨x.2.1.toArray⟩,.int .i64 x.2.2] 90)).grown g1 (by have:=hnx.size;simp;omega) (fun j hj=>by cases hj);have hbl:=g1.block wr.heap.size (by simp) (by simp);simp only[Zbz]at hbl;have c0:=Zf5 hbl 0;have c1:=Zf5 hbl 1;have c2:=Zf5 hbl 2)
        | (at_lookup;refine wpList_lookup_own_int _ rfl _ _ 202 rfl 9 3 .i64 lawS Tryz.underlying202 Tryz.underlying3 (Z12k _) w.heap.size k _ rfl hown2 _ _ rfl hkey ?_;intro c hat hwc)
        | (at_mapUpdate;refine wpList_mapUpdate_own _ rfl _ _ _ 202 rfl 9 3 lawS Tryz.underlying202 _ w.heap.size k _ rfl hown2 (by unfold maxLen;omega) _ _ _ rfl rfl hkey _ [] (plainElem_int Tryz.underlying3 (Z10q hwc hq1.1 hq1.2)) ?_;intro w3 hown3 hgrow3)
        | go_in)
      . have hf:forW n x=true:=by assumption
        have hg:Z6u n (l.take (k+1)) (D.put (.string x.1) (.lit (.int .i64 (max c x.2.2)))):=by rw[htk];exact Zmq hD hf (by rw[Zqb hD hat])
        have hb3:=hnx2.grown hgrow3 hnx2.size (fun j hj=>by cases hj;exact Nat.le_refl _);go_roundw
        case rel=>exact⟨k+1,_,by omega,by go_num,hown3,hg,hb3⟩
        case measure=>simp[intOf];omega
      . have hf:¬forW n x=true:=by rw[forW];simp_all
        have hg:Z6u n (l.take (k+1)) D:=by rw[htk];exact Zir hD hf
        go_roundw
        case rel=>exact⟨k+1,_,by omega,by go_num,hown2.mono (by omega),hg,hnx2⟩
        case measure=>simp[intOf];omega
    . have hke:k=l.length:=by omega
      subst hke;rw[List.take_length]at hD;go_wp2_with (first
        | (at_range;refine wpList_range_own _ rfl _ 202 rfl 9 3 lawS Tryz.underlying202 _ w.heap.size l.length _ rfl hown ?_;intro w0 hrg0 hg0 hs0)
        | go_in)
      go_frame
      obtain⟨i0,hi,hz0,hz1,hz2⟩:=info_parts Zyd;have hb0:=hnx.grown hg0 hnx.size (fun j hj=>by cases hj);have hr0:w.heap.size<=wr.heap.size:=hnx.size;have hszD:Maps.size D<=l.length:=size_map hown;generalize wr.heap.size=r0 at hrg0 hr0 ⊢
      clear hg0 hs0 hown hnx;go_loopw [8] (fun v wq=>∃(left:Lit->Bool) (cnt:Nat) (ss:List Rd),wq.ranges Tryz.prog 9 (plainElem Tryz.prog 3) w.heap.size r0 l.length D left cnt/\ss.length+cnt<=Maps.size D /\
          wq.ownsRow (w.heap.size+1) 71 2 v ss.length (ss.map encY).flatten/\Zqd D left ss/\Below w.heap.size w wq)
        (fun _ wq=>wq.rangeLeft w.heap.size r0)
      case atStart=>exact⟨_,_,[],hrg0,by simp,⟨rfl,.inl ⟨rfl,rfl⟩⟩,Zis D,hb0⟩
      case round =>
        obtain⟨left,cnt,ss,hrg,hcs,hrow,hC,hnq⟩:=hrel;go_wp2_with (first
          | (at_next;refine wpList_next_ranges _ rfl _ rfl 9 lawS (plainElem Tryz.prog 3) Go.Proofs.encStr (Value.int .i64) (fun key kl hk=>by obtain⟨x,hx,_⟩:=Maps.keyOf_str Tryz.underlying9 hk;exact⟨x,hx⟩) (fun v y hv=>by obtain⟨c,rfl,_⟩:=plainElem_int_inv Tryz.underlying3 hv;exact⟨c,rfl⟩) w.heap.size r0 l.length _ _ _ rfl hrg ?_ ?_)
          | go_in)
        . intro hc00 hl0;rcases hrow.2 with ⟨hnil,hz⟩|⟨g,cap2,cur,hvs,hbase,hb,h1,h2,h3,h4⟩
          . have hss:ss=[]:=List.length_eq_zero_iff.1 hz;subst hss;subst hnil;go_wp2_with (go_at_call 182;refine(Zuk _).mono ?_;rintro e w' ⟨rfl,gm⟩)
            go_ret
            refine⟨.slice none 0 0,[],rfl,Zqe _,Z3h _,Zh3 hD hC hl0 (List.Perm.refl _) (fun i j hij hj=>absurd hj (by simp)),?_⟩;exact Mod.of_below (hnq.grown (Zh2 gm) hnq.size (fun j hj=>by cases hj))
          . subst hvs;have hgl:=(Array.getElem?_eq_some_iff.1 hb).1;have hlen:ss.length<4611686018427387904:=by omega
            have eg:∀args w,(callFunc 183 args).run Tryz.prog w=.ok (.enter 183 args) w:=enters_of Tryz.func183 (by kernel_rfl) rfl;have hc:Calls Tryz.prog 182 #[.slice (some ⟨g,0,none⟩) ss.length cap2,.func (.func 183) #[] #[]] wr _ :=
              AnyQ.slices_SortFunc Tryz.sortR 2 Tryz.isAgg71 Tryz.sizeOf71 encY (fun _=>rfl) Zuj cmpY swoY 183 #[] g 0 cap2 ss.toArray wr eg (fun _ _ _ _ x y=>Z12l x y _) (Zbw (enc:=encY) (k:=2) (ds:=ss) (fun _=>rfl) (by decide) hb h4) hgl hlen
            go_wp2_with (go_at_call 182;refine hc.mono ?_;rintro e w' ⟨rfl,d',nn,os,hp,hso,rfl⟩)
            go_ret
            obtain⟨ts⟩:=d';have hsz:ts.length=ss.length:=hp.1;have hpm:ts.Perm ss:=by
              have:=hp.2.2;simp only[List.size_toArray]at this;rw[<- hsz]at this;have e:ss.take ts.length=ss:=by rw[hsz,List.take_length]
              simpa [e]using this
            refine⟨_,ts,rfl,⟨Zqf ts,Zul (base:=w.heap.size+1) ?_⟩,fun k hk=>?_,Zh3 hD hC hl0 hpm (fun i j hij hj=>?_),?_⟩
            . have:=Zby (w:=wr) (n:=nn) (os:=os) (enc:=encY) (k:=2) (ts:=ts) (fun _=>rfl) (by decide) hbase hb (by omega) h2 h3;rw[qy3,<- hsz];exact this
            . have:g=k:=Option.some.inj hk;omega
            . have:=hso i j (Nat.zero_le _) hij (by show j<ss.length;omega);rw[Z8l,getElem!_pos _ j (by simpa using hj),getElem!_pos _ i (by simp;omega)]at this;exact this
            . exact Mod.of_below (hnq.grown (Zbx _) hnq.size (fun j hj=>by cases hj;exact Nat.le_of_succ_le hbase))
        . intro x c kl yd yp w2 cnt2 hkey hlk hv hat hrg2 hlt2 hg2 hs2 hen;obtain⟨x',ex,rfl,_⟩:=Maps.keyOf_str Tryz.underlying9 hkey;obtain rfl:x=x':=encStr_inj ex;have hrow2:=hrow.kept hg2 (Or.inr (row_ne_iter hrow hrg).symm);clear hs2;obtain⟨c',ec,e2,hwc⟩:=plainElem_int_inv Tryz.underlying3 hv;obtain rfl:c=c':=by simpa using ec
          obtain rfl:yd=.lit (.int .i64 c):=(Prod.mk.inj e2).1;clear hv ec e2;go_wp2_with (first
            | (at_builtin;refine wpList_append_own _ rfl _ _ 64 rfl (w.heap.size+1) 71 i0 (.agg #[.string ⟨#[]⟩,.int .i64 0]) 2 24 Tryz.underlying64 hi hz0 hz1 hz2 rfl (by decide) _ _ _ rfl (hrow2.alloc _) ⟨w2.heap.size,0,none⟩ 1 1 [Go.Proofs.encStr x,.int .i64 c] rfl rfl (Zqc _ _ _ _) (by simp[Value.oneCell',Go.Proofs.encStr]) (by unfold maxLen;omega) (by omega) (by have:=hrg2.owns.lt;simp;omega) ?_;intro v' w3 hown' hg3 hnil3;go_frame)
            | go_in)
          have hrg3:=(hrg2.alloc _).kept hg3 (row_ne_low hrow2 (Nat.lt_succ_self _)) (row_ne_iter hrow2 hrg2);have hb3:=((hnq.grown hg2 hnq.size (fun j hj=>by cases hj;exact hr0)).alloc (by have:=hnq.size;have:=hg2.size;omega) _).grown hg3 (by have:=hnq.size;have:=hg2.size;simp;omega) (fun j hj=>Nat.le_of_succ_le (hrow2.lt j hj).1);go_roundw
          case rel =>
            exact⟨_,cnt2,ss++[(x,c)],hrg3,by simp;omega,by simpa [encY,Go.Proofs.encStr]using hown',Zms hC hlk hat,hb3⟩
          case measure=>rw[hrg3.left_eq,hrg.left_eq];exact hlt2
end Go.Proofs.YtkhakgbnfapifaaGreatDoor
namespace Go.Proofs.YtkhakgbnfapifaaGreatDoor
open Go Go.Sx
theorem Zqg {x:Wt} (h:Z2n x=0):cliB x.1=true/\chkT x.2.1 true=0/\0<=x.2.2/\x.2.2<=1:=by
  unfold Z2n at h;split at h
  . rename_i h1;unfold askE at h;simp only at h;split at h
    . rename_i h2;split at h
      . rename_i h3;exact⟨h1,h2,h3⟩
      . exact absurd h (by decide)
    . rename_i h2;exact absurd h h2
  . exact absurd h (by decide)
theorem Zko {l:List Wt} (h:Ze l=0):∀x∈l,cliB x.1=true/\chkT x.2.1 true=0/\0<=x.2.2/\x.2.2<=1:=fun x hx=>Zqg ((Zk.1 h).2.1 x hx)
theorem c_Of (w:World) (v:Value) (l:List Wt) (n:List UInt8) (hv:Z1p w v l) (hs:Zs l) (hn:n.length<1000000000) (h:Ze l=0):Calls Tryz.prog 104 #[sc1 v,.string ⟨n.toArray⟩] w fun e w'=>∃v',e=.returned (sc1 v')/\Zy0 w' v' (rdOf n l)/\newW w.heap.size v'/\Mod [] w w':=by
  rw[hv.sc1];obtain⟨k1,k2,k3⟩:=Zk.1 h;have hv0:=hv;obtain⟨-,a,cap,rfl,-,-⟩:=hv;rw[qy3]at hv0 ⊢;refine(Zyg w a cap l n hv0 hs hn (by omega) fun x hx=>(Zko h x hx).2.2).mono ?_;rintro e w' ⟨v',rs,rfl,g1,g2,g3,g4⟩;have e1:rs=rdOf n l:=by obtain⟨a1,a2⟩:=Zf4 (n:=n) (Z6d k3);exact Zdw g3.1 a1 fun x=>by rw[show x=(x.1,x.2) from rfl,g3.2,a2]
  subst e1;exact⟨v',by rw[g1.reads.sc1],g1,g2,g4⟩
def Zh4 (l:List Wt) (n:List UInt8):Int:=if Ze l=0 then chkT n false else Ze l
def Zh5 (l:List Wt) (n:List UInt8):List Rd×Int:=if Zh4 l n=0 then (rdOf n l,0) else ([],Zh4 l n)
theorem Ze0 (w:World):Zgt w (.slice none 0 0) []:=⟨by simp,none,0,rfl,⟨fun _=>rfl,Nat.le_refl _⟩,fun h=>absurd rfl h⟩
def gotY (w w':World) (e:Ending) (r:List Rd) (er:Int):Prop:=∃v',e=.returned (.tuple #[sc1 v',.int .i64 er])/\Zgt w' v' r/\newW w.heap.size v'/\Mod [] w w'
theorem Zh6 (w:World) (v:Value) (l:List Wt) (n:List UInt8) (hv:Z1p w v l) (hs:Zs l) (hl:l.length<1000000000) (hn:n.length<1000000000):Calls Tryz.prog 26 #[sc1 v,.string ⟨n.toArray⟩] w fun e w'=>gotY w w' e (Zh5 l n).1 (Zh5 l n).2:=by
  refine Z2 (Z4 (ρ:=[.v v,.r (l.map Z7),.s n]) sxE_ok Tryz.func26 Z90 rfl rfl (Rel.start2 (by simp[Ent.holds,Ent.wr,hv,X.ev])) rfl rfl ?_) rfl;simp only[Tree.goal,X.P,X.ev,SV.ev,CV.ev,Sc.ev,qz,QA,QB,QC,QD,QE,QF,QG,QH,QI,QJ,QK,QL,QM,Nat.reduceAdd,qy3,qy4,Zv,Zw,Z19,gY0,gY1];refine⟨[.i (Ze l)],rfl,fun _ w' hr=>Z3q w' v l (by (have hq:=hr;repeat (first|exact hq.hd|replace hq:=hq.tl))) hs hl,?_⟩;simp only[Tree.goal,X.P,X.ev,SV.ev,CV.ev,Sc.ev,qz,QA,QB,QC,QD,QE,QF,QG,QH,QI,QJ,QK,QL,QM,Nat.reduceAdd,qy3,qy4,Zv,Zw,Z19,gY0,gY1];refine⟨fun h w1 hr=>?_,fun h=>?_⟩
  . have e:Zh4 l n=Ze l:=by rw[Zh4,if_neg h]
    rw[Zh5,e,if_neg h];exact⟨_,rfl,Ze0 _,Z3h _,hr.mod⟩
  have h:=qy9.1 h;have e:Zh4 l n=chkT n false:=by rw[Zh4,if_pos h]
  refine⟨[.i (chkT n false)],rfl,fun _ w' hr=>Zdk w' n (by omega),?_⟩;simp only[Tree.goal,X.P,X.ev,SV.ev,CV.ev,Sc.ev,qz,QA,QB,QC,QD,QE,QF,QG,QH,QI,QJ,QK,QL,QM,Nat.reduceAdd,qy3,qy4,Zv,Zw,Z19,gY0,gY1];refine⟨fun h1 w1 hr=>?_,fun h1 w1 hr=>?_⟩
  . rw[Zh5,e,if_neg h1];exact⟨_,rfl,Ze0 _,Z3h _,hr.mod⟩
  . have h1:=qy9.1 h1;rw[Zh5,e,if_pos h1];refine(c_Of w1 v l n (by (have hq:=hr;repeat (first|exact hq.hd|replace hq:=hq.tl))) hs hn h).mono ?_;rintro e w2 ⟨v',rfl,g1,g2,gm⟩;refine⟨[.v v',.r ((rdOf n l).map encY)],rfl,rfl,gm,qy5 _,qy2.2 ⟨⟨g1.reads,fun k hk=>.inl (g2 k hk.2)⟩,qy5 _⟩,Z3,?_⟩;intro w3 hr3;exact⟨v',rfl,hr3.at_ 0 rfl,Zqa g2 hr.mod.size,hr3.mod⟩
theorem Zyh (w:World) (v:Value) (l:List Rd) (c:List UInt8) (hv:Zgt w v l) (hl:l.length<1000000000):Calls Tryz.prog 27 #[sc1 v,.string ⟨c.toArray⟩] w fun e w'=>e=.returned (.int .i64 (qosY l c))/\Mod [] w w':=by
  refine Z2 (Z4 (ρ:=[.v v,.r (l.map encY),.s c]) sxE_ok Tryz.func27 Z5n rfl rfl (Rel.start2 (by simp[Ent.holds,Ent.wr,hv,X.ev])) rfl rfl ?_) rfl;simp only[Tree.goal,X.P,X.ev,SV.ev,CV.ev,Sc.ev,qz,QA,QB,QC,QD,QE,QF,QG,QH,QI,QJ,QK,QL,QM,Nat.reduceAdd,qy3,qy4,Zv,Zw,Z19,gY0,gY1];refine⟨fun vs=>∃(i:Nat) (x:V),vs=[x,.i i]/\i<=l.length/\qosY (l.drop i) c=qosY l c,fun vs=>l.length - (vs.getD 1 (.i 0)).toI.toNat,⟨0,_,rfl,by omega,rfl⟩,?_⟩;rintro _ - ⟨i,x,rfl,hi,hg⟩;simp only[Tree.goal,X.P,X.ev,SV.ev,CV.ev,Sc.ev,qz,QA,QB,QC,QD,QE,QF,QG,QH,QI,QJ,QK,QL,QM,Nat.reduceAdd,qy3,qy4,Zv,Zw,Z19,gY0,gY1];refine⟨fun h1=>⟨by omega,fun h2 w' hr=>⟨?_,hr.mod⟩,fun h2=>⟨by omega,by omega,⟨i+1,x,rfl,by omega,?_⟩,by omega⟩⟩,fun h1 w' hr=>⟨?_,hr.mod⟩⟩
  . rw[Z10h l i (by omega),qosY,if_pos h2]at hg;rw[<- hg]
  . rw[Z10h l i (by omega),qosY,if_neg h2]at hg;exact hg
  . have:i=l.length:=by omega
    subst this;rw[List.drop_length]at hg;rw[<- hg];rfl
theorem Zf6 (w:World) (u v:Value) (a b:List Rd) (hu:Zgt w u a) (hv:Zgt w v b) (hl:a.length<1000000000):Calls Tryz.prog 102 #[sc1 u,sc1 v] w fun e w'=>e=.returned (.bool (decide (a=b)))/\Mod [] w w':=by
  refine Z2 (Z4 (ρ:=[.v u,.r (a.map encY),.v v,.r (b.map encY)]) sxE_ok Tryz.func102 Z3f rfl rfl (Rel.start2 (by simp[Ent.holds,Ent.wr,hu,hv,X.ev])) rfl rfl ?_) rfl;simp only[Tree.goal,X.P,X.ev,SV.ev,CV.ev,Sc.ev,qz,QA,QB,QC,QD,QE,QF,QG,QH,QI,QJ,QK,QL,QM,Nat.reduceAdd,qy3,qy4,Zv,Zw,Z19,gY0,gY1];refine⟨fun h w' hr=>⟨?_,hr.mod⟩,fun h=>?_⟩
  . rw[decide_eq_false];rintro rfl;exact h rfl
  have h:a.length=b.length:=by omega
  refine⟨fun vs=>∃(i:Nat) (x:V),vs=[x,.i i]/\i<=a.length/\∀j,j<i->a.getD j yD=b.getD j yD,fun vs=>a.length - (vs.getD 1 (.i 0)).toI.toNat,⟨0,_,rfl,by omega,fun j hj=>by omega⟩,?_⟩;rintro _ - ⟨i,x,rfl,hi,hs⟩;simp only[Tree.goal,X.P,X.ev,SV.ev,CV.ev,Sc.ev,qz,QA,QB,QC,QD,QE,QF,QG,QH,QI,QJ,QK,QL,QM,Nat.reduceAdd,qy3,qy4,Zv,Zw,Z19,gY0,gY1];refine⟨fun h1=>⟨by omega,by omega,fun h2 w' hr=>⟨?_,hr.mod⟩,fun h2=>⟨by omega,by omega,⟨i+1,x,rfl,by omega,fun j hj=>?_⟩,by omega⟩⟩,fun h1 w' hr=>⟨?_,hr.mod⟩⟩
  . rw[decide_eq_false];rintro rfl;exact h2 ⟨rfl,rfl⟩
  . by_cases hji:j=i
    . subst hji;have h2:=qy9.1 h2;exact Prod.ext h2.1 h2.2
    . exact hs j (by omega)
  . rw[decide_eq_true];refine List.ext_getElem h fun j hj1 hj2=>?_;have:=hs j (by omega);rwa [qy1,qy1,qy7 hj1,qy7 hj2]at this
def wA:List Wt:=[([97,110,110],[35],0),([97,110,110],[97,47,43],1),([98,111,98],[99],0)]
def wB:List Wt:=[([97,110,110],[35],1),([97,110,110],[97,47,43],1),([98,111,98],[99],0)]
def wC:List Wt:=[([97,110,110],[97,47,43],1),([98,111,98],[99],0)]
def wE:List Wt:=[([98,111,98],[99],0)]
theorem Z12m:addC wA ([97,110,110],[35],1)=(wB,0):=Prod.ext (by decide) (by decide)
theorem Z12n:Zd1 (fun w=>decide (¬(w.1=[97,110,110]/\w.2.1=[35]))) wA=(wC,0):=Prod.ext (by decide) (by decide)
theorem Z12o:Zd1 (fun w=>decide (¬w.1=[97,110,110])) wA=(wE,0):=Prod.ext (by decide) (by decide)
theorem Z12p:Zh5 wA [97,47,98]=([([97,110,110],1)],0):=Prod.ext (by decide) (by decide)
theorem Z12q:Ze wA=0:=by decide
theorem Z9e (w:World):Calls Tryz.prog 99 #[] w fun e w'=>∃v',e=.returned (sc1 v')/\Z1p w' v' wA/\newW w.heap.size v'/\Mod [] w w':=by refine Z2 (Zb (ρ:=[]) sxE_ok Tryz.func99 Z5m rfl rfl rfl ?_) rfl;simp only[Tree.goal,X.P,X.ev,SV.ev,CV.ev,Sc.ev,qz,QA,QB,QC,QD,QE,QF,QG,QH,QI,QJ,QK,QL,QM,Nat.reduceAdd];intro v w' hr;exact⟨v,rfl,(hr.at_ 0 rfl).reads,hr.fresh 0 rfl,hr.mod⟩
theorem Zit (w:World):Calls Tryz.prog 25 #[] w fun e w'=>e=.returned (.bool true)/\Mod [] w w':=by
  refine Z2 (Zb (ρ:=[]) sxE_ok Tryz.func25 Z40 rfl rfl rfl ?_) rfl;simp only[Tree.goal,X.P,X.ev,SV.ev,CV.ev,Sc.ev,qz,QA,QB,QC,QD,QE,QF,QG,QH,QI,QJ,QK,QL,QM,Nat.reduceAdd];intro w1 hr;refine(Z9e w1).mono ?_;rintro e w2 ⟨v',rfl,g1,g2,gm⟩;refine⟨[.v v',.r (wA.map Z7)],rfl,rfl,gm,qy5 _,qy2.2 ⟨⟨g1,fun k hk=>.inl (g2 k hk.2)⟩,qy5 _⟩,Z3,?_⟩;clear hr g1 g2 gm;simp only[Tree.goal,X.P,X.ev,SV.ev,CV.ev,Sc.ev,qz,QA,QB,QC,QD,QE,QF,QG,QH,QI,QJ,QK,QL,QM,Nat.reduceAdd];intro w1 hr;refine(Z10p w1 v' wA ([97,110,110],[35],1) (by (have hq:=hr;repeat (first|exact hq.hd|replace hq:=hq.tl))) (by unfold Zs smW;decide) (by decide) ⟨by decide,by decide⟩).mono ?_;rw[Z12m];rintro e w2 ⟨u1,rfl,g1,g2,gm⟩;refine⟨[.v u1,.r (wB.map Z7),.i 0],rfl,rfl,gm,qy5 _,qy2.2 ⟨⟨g1,fun k hk=>.inl (g2 k hk.2)⟩,qy5 _⟩,Z3,?_⟩;clear hr g1 g2 gm;simp only[Tree.goal,X.P,X.ev,SV.ev,CV.ev,Sc.ev,qz,QA,QB,QC,QD,QE,QF,QG,QH,QI,QJ,QK,QL,QM,Nat.reduceAdd];intro w1 hr;refine(Z9e w1).mono ?_;rintro e w2 ⟨v',rfl,g1,g2,gm⟩;refine⟨[.v v',.r (wA.map Z7)],rfl,rfl,gm,qy5 _,qy2.2 ⟨⟨g1,fun k hk=>.inl (g2 k hk.2)⟩,qy5 _⟩,Z3,?_⟩;clear hr g1 g2 gm;simp only[Tree.goal,X.P,X.ev,SV.ev,CV.ev,Sc.ev,qz,QA,QB,QC,QD,QE,QF,QG,QH,QI,QJ,QK,QL,QM,Nat.reduceAdd];intro w1 hr;refine(Zya w1 v' wA [97,110,110] [35] (by (have hq:=hr;repeat (first|exact hq.hd|replace hq:=hq.tl))) (by unfold Zs smW;decide) (by decide)).mono ?_;rw[Z12n];rintro e w2 ⟨u2,rfl,g1,g2,gm⟩;refine⟨[.v u2,.r (wC.map Z7),.i 0],rfl,rfl,gm,qy5 _,qy2.2 ⟨⟨g1,fun k hk=>.inl (g2 k hk.2)⟩,qy5 _⟩,Z3,?_⟩;clear hr g1 g2 gm;simp only[Tree.goal,X.P,X.ev,SV.ev,CV.ev,Sc.ev,qz,QA,QB,QC,QD,QE,QF,QG,QH,QI,QJ,QK,QL,QM,Nat.reduceAdd];intro w1 hr;refine(Z9e w1).mono ?_;rintro e w2 ⟨v',rfl,g1,g2,gm⟩;refine⟨[.v v',.r (wA.map Z7)],rfl,rfl,gm,qy5 _,qy2.2 ⟨⟨g1,fun k hk=>.inl (g2 k hk.2)⟩,qy5 _⟩,Z3,?_⟩;clear hr g1 g2 gm;simp only[Tree.goal,X.P,X.ev,SV.ev,CV.ev,Sc.ev,qz,QA,QB,QC,QD,QE,QF,QG,QH,QI,QJ,QK,QL,QM,Nat.reduceAdd];intro w1 hr;refine(Zuh w1 v' wA [97,110,110] (by (have hq:=hr;repeat (first|exact hq.hd|replace hq:=hq.tl))) (by unfold Zs smW;decide) (by decide)).mono ?_;rw[Z12o];rintro e w2 ⟨u3,rfl,g1,g2,gm⟩;refine⟨[.v u3,.r (wE.map Z7),.i 0],rfl,rfl,gm,qy5 _,qy2.2 ⟨⟨g1,fun k hk=>.inl (g2 k hk.2)⟩,qy5 _⟩,Z3,?_⟩;clear hr g1 g2 gm;simp only[Tree.goal,X.P,X.ev,SV.ev,CV.ev,Sc.ev,qz,QA,QB,QC,QD,QE,QF,QG,QH,QI,QJ,QK,QL,QM,Nat.reduceAdd];intro w1 hr;refine(Z9e w1).mono ?_;rintro e w2 ⟨v',rfl,g1,g2,gm⟩;refine⟨[.v v',.r (wA.map Z7)],rfl,rfl,gm,qy5 _,qy2.2 ⟨⟨g1,fun k hk=>.inl (g2 k hk.2)⟩,qy5 _⟩,Z3,?_⟩;clear hr g1 g2 gm;simp only[Tree.goal,X.P,X.ev,SV.ev,CV.ev,Sc.ev,qz,QA,QB,QC,QD,QE,QF,QG,QH,QI,QJ,QK,QL,QM,Nat.reduceAdd];intro w1 hr;refine(Zh6 w1 v' wA [97,47,98] (by (have hq:=hr;repeat (first|exact hq.hd|replace hq:=hq.tl))) (by unfold Zs smW;decide) (by decide) (by decide)).mono ?_;rw[Z12p];rintro e w2 ⟨u4,rfl,g1,g2,gm⟩;refine⟨[.v u4,.r ([(([97,110,110],1):Rd)].map encY),.i 0],rfl,rfl,gm,qy5 _,qy2.2 ⟨⟨g1,fun k hk=>.inl (g2 k hk.2)⟩,qy5 _⟩,Z3,?_⟩;clear hr g1 g2 gm;simp only[Tree.goal,X.P,X.ev,SV.ev,CV.ev,Sc.ev,qz,QA,QB,QC,QD,QE,QF,QG,QH,QI,QJ,QK,QL,QM,Nat.reduceAdd];intro w1 hr;refine(Z9e w1).mono ?_;rintro e w2 ⟨v',rfl,g1,g2,gm⟩;refine⟨[.v v',.r (wA.map Z7)],rfl,rfl,gm,qy5 _,qy2.2 ⟨⟨g1,fun k hk=>.inl (g2 k hk.2)⟩,qy5 _⟩,Z3,?_⟩;clear hr g1 g2 gm;simp only[Tree.goal,X.P,X.ev,SV.ev,CV.ev,Sc.ev,qz,QA,QB,QC,QD,QE,QF,QG,QH,QI,QJ,QK,QL,QM,Nat.reduceAdd];refine⟨[.i (Ze wA)],rfl,fun _ w' hr=>Z3q w' v' wA (by (have hq:=hr;repeat (first|exact hq.hd|replace hq:=hq.tl))) (by unfold Zs smW;decide) (by decide),?_⟩;rw[Z12q];simp only[Tree.goal,X.P,X.ev,SV.ev,CV.ev,Sc.ev,qz,QA,QB,QC,QD,QE,QF,QG,QH,QI,QJ,QK,QL,QM,Nat.reduceAdd];refine⟨.inr (by decide),fun h=>?_,fun h=>?_⟩
  . intro v1;refine⟨[.b true],rfl,fun _ w' hr=>?_,?_⟩
    . have:=Zf6 w' u4 v1 [([97,110,110],1)] [([97,110,110],1)] (hr.at_ 2 rfl) (hr.at_ 0 rfl).reads (by decide);exact this
    . simp only[Tree.goal,X.P,X.ev,SV.ev,CV.ev,Sc.ev,qz,QA,QB,QC,QD,QE,QF,QG,QH,QI,QJ,QK,QL,QM,Nat.reduceAdd];exact fun w' hr=>⟨by trivial,hr.mod⟩
  . exact absurd (by decide) h
end Go.Proofs.YtkhakgbnfapifaaGreatDoor
namespace Go.Proofs.YtkhakgbnfapifaaGreatDoor
open Go.Sx
abbrev Opt:=Int×List UInt8
def encO (o:Opt):List Value:=[.int .i64 o.1,.string ⟨o.2.toArray⟩]
abbrev oD:Opt:=(0,[])
theorem Z2e (os:List Opt) (i:Nat):Value.gI (((os.map encO).getD i []).getD 0 undef)=(os.getD i oD).1:=by simp only[qy1,List.getElem?_map];cases os[i]?<;>rfl
theorem Z2f (os:List Opt) (i:Nat):Value.gS (((os.map encO).getD i []).getD 1 undef)=(os.getD i oD).2:=by simp only[qy1,List.getElem?_map];cases os[i]?<;>simp[encO,Value.gS,undef]
theorem Z10r (os:List Opt) (i:Nat) (h:i<os.length):os.drop i=os.getD i oD::os.drop (i+1):=by rw[List.drop_eq_getElem_cons h,qy1,qy7 h];rfl
structure Msg where
 kind:Int
 code:Int
 id:Int
 tok:List UInt8
 opts:List Opt
 pay:List UInt8
abbrev mNil:Msg:=⟨0,0,0,[],[],[]⟩
def mV (m:Msg) (v:Value):Value:=.agg #[.int .i64 m.kind,.int .i64 m.code,.int .i64 m.id,.string ⟨m.tok.toArray⟩,v,.string ⟨m.pay.toArray⟩]
abbrev Z49 (w:World) (v:Value) (os:List Opt):Prop:=reads w v [.int .i64,.str] (os.map encO)
def optE:Int->List Opt->Int
 | _,[]=>0
 | was,o::l=>if 0<=o.1/\o.1<=65535 then (if o.1<was then 4 else if 60<(o.2.length:Int) then 2 else optE o.1 l) else 3
def chk (m:Msg):Int :=
 if 0<=m.kind/\m.kind<=3 then
  if 0<=m.code/\m.code<=255/\0<=m.id/\m.id<=65535 then
   if 8<(m.tok.length:Int)\/12<(m.opts.length:Int)\/200<(m.pay.length:Int) then 2
   else if optE 0 m.opts≠0 then optE 0 m.opts
   else if m.code=0/\(m.tok≠[]\/m.pay≠[]\/m.opts≠[]) then 1 else 0
  else 3
 else 7
theorem Zum {m:Msg} (h:¬(0<=m.kind/\m.kind<=3)):chk m=7:=if_neg h
theorem Zqh {m:Msg} (h:0<=m.kind/\m.kind<=3) (h1:¬(0<=m.code/\m.code<=255/\0<=m.id/\m.id<=65535)):chk m=3:=by rw[chk,if_pos h,if_neg h1]
theorem Zun {m:Msg} (h:0<=m.kind/\m.kind<=3) (h1:0<=m.code/\m.code<=255/\0<=m.id/\m.id<=65535) (h2:8<(m.tok.length:Int)\/12<(m.opts.length:Int)\/200<(m.pay.length:Int)):chk m=2:=by rw[chk,if_pos h,if_pos h1,if_pos h2]
theorem Zuo {m:Msg} (h:0<=m.kind/\m.kind<=3) (h1:0<=m.code/\m.code<=255/\0<=m.id/\m.id<=65535) (h2:¬(8<(m.tok.length:Int)\/12<(m.opts.length:Int)\/200<(m.pay.length:Int))) : chk m=if optE 0 m.opts≠0 then optE 0 m.opts else if m.code=0/\(m.tok≠[]\/m.pay≠[]\/m.opts≠[]) then 1 else 0:=by rw[chk,if_pos h,if_pos h1,if_neg h2]
theorem Zwa {m:Msg}:chk m=0↔(0<=m.kind/\m.kind<=3)/\(0<=m.code/\m.code<=255/\0<=m.id/\m.id<=65535)/\(m.tok.length<=8/\m.opts.length<=12/\m.pay.length<=200)/\optE 0 m.opts=0/\(m.code=0->m.tok=[]/\m.pay=[]/\m.opts=[]):=by
 unfold chk;constructor
 ·intro h;split at h
  ·split at h
   ·split at h
    ·exact absurd h (by decide)
    ·split at h
     ·contradiction
     ·split at h
      ·exact absurd h (by decide)
      ·rename_i h1 h2 h3 h4 h5;exact⟨h1,h2,by omega,qy9.1 h4,fun h6=>⟨Classical.byContradiction fun h7=>h5 ⟨h6,.inl h7⟩,Classical.byContradiction fun h7=>h5 ⟨h6,.inr (.inl h7)⟩,Classical.byContradiction fun h7=>h5 ⟨h6,.inr (.inr h7)⟩⟩⟩
   ·exact absurd h (by decide)
  ·exact absurd h (by decide)
 ·rintro⟨h1,h2,h3,h4,h5⟩;rw[if_pos h1,if_pos h2,if_neg (by omega),if_neg (fun h=>h h4),if_neg];rintro⟨h6,h7⟩;obtain⟨a,b,c⟩:=h5 h6;rcases h7 with h|h|h
  ·exact h a
  ·exact h b
  ·exact h c
theorem Zan (w:World) (n a b:Int):Calls Tryz.prog 166 #[.int .i64 n,.int .i64 a,.int .i64 b] w fun e w'=>e=.returned (.bool (decide (a<=n/\n<=b)))/\Mod [] w w':=by refine Z2 (Zb (ρ:=[.i n,.i a,.i b]) sxE_ok Tryz.func166 Z74 rfl rfl rfl ?_) rfl;simp only[Tree.goal,X.P,X.ev,SV.ev,CV.ev,Sc.ev,qz,QA,QB,QC,QD,QE,QF,QG,QH,QI,QJ,QK,QL,QM,Nat.reduceAdd];exact fun w' hr=>⟨by simp,hr.mod⟩
theorem Zqi (w:World) (v:Value) (os:List Opt) (hv:Z49 w v os) (hl:os.length<1099511627776):Calls Tryz.prog 167 #[sc1 v] w fun e w'=>e=.returned (.int .i64 (optE 0 os))/\Mod [] w w':=by
 refine Z2 (Z4 (ρ:=[.v v,.r (os.map encO)]) sxE_ok Tryz.func167 Z6m rfl rfl (Rel.start2 (by simp[Ent.holds,Ent.wr,hv,X.ev])) rfl rfl ?_) rfl;simp only[Tree.goal,X.P,X.ev,SV.ev,CV.ev,Sc.ev,qz,QA,QB,QC,QD,QE,QF,QG,QH,QI,QJ,QK,QL,QM,Nat.reduceAdd,qy3];refine⟨fun vs=>∃(i:Nat) (x:V) (was:Int),vs=[x,.i was,.i i]/\i<=os.length/\optE was (os.drop i)=optE 0 os,fun vs=>(os.length - (vs.getD 2 (.i 0)).toI).toNat,⟨0,_,0,rfl,by omega,rfl⟩,?_⟩;rintro _ - ⟨i,x,was,rfl,hi,hg⟩;simp only[Tree.goal,X.P,X.ev,SV.ev,CV.ev,Sc.ev,qz,QA,QB,QC,QD,QE,QF,QG,QH,QI,QJ,QK,QL,QM,Nat.reduceAdd,qy3,qy4,Z2e,Z2f];refine⟨fun h1=>?_,fun h1 w' hr=>⟨?_,hr.mod⟩⟩
 ·rw[Z10r os i (by omega)]at hg;generalize os.getD i oD=o at hg ⊢
  (repeat refine⟨by omega,?_⟩)
  intro b;refine⟨[.b (decide (0<=o.1/\o.1<=65535))],rfl,fun _ w' _=>Zan w' _ _ _,?_⟩;simp only[Tree.goal,X.P,X.ev,SV.ev,CV.ev,Sc.ev,qz,QA,QB,QC,QD,QE,QF,QG,QH,QI,QJ,QK,QL,QM,Nat.reduceAdd,decide_eq_true_eq];simp only[optE]at hg;refine⟨fun h2 w' hr=>⟨by rw[<- hg,if_neg h2],hr.mod⟩,fun h2=>?_⟩;rw[if_pos (qy9.1 h2)]at hg;refine⟨fun h3 w' hr=>⟨by rw[<- hg,if_pos h3],hr.mod⟩,fun h3=>?_⟩;rw[if_neg h3]at hg;refine⟨fun h4 w' hr=>⟨by rw[<- hg,if_pos h4],hr.mod⟩,fun h4=>?_⟩;rw[if_neg h4]at hg;exact⟨by omega,by omega,⟨i+1,_,o.1,rfl,by omega,hg⟩,by omega⟩
 ·have:i=os.length:=by omega
  subst this;rw[List.drop_length]at hg;rw[<- hg];rfl
theorem Zyi (w:World) (m:Msg) (v:Value) (hv:Z49 w v m.opts) (hl:m.opts.length<1099511627776) (ht:m.tok.length<1099511627776) (hp:m.pay.length<1099511627776) : Calls Tryz.prog 85 #[mV m (sc1 v)] w fun e w'=>e=.returned (.int .i64 (chk m))/\Mod [] w w':=by
 refine Z2 (Z4 (ρ:=[.i m.kind,.i m.code,.i m.id,.s m.tok,.v v,.r (m.opts.map encO),.s m.pay]) sxE_ok Tryz.func85 Z83 rfl rfl (Rel.start2 (by simp[Ent.holds,Ent.wr,hv,X.ev])) rfl rfl ?_) rfl;simp only[Tree.goal,X.P,X.ev,SV.ev,CV.ev,Sc.ev,qz,QA,QB,QC,QD,QE,QF,QG,QH,QI,QJ,QK,QL,QM,Nat.reduceAdd,qy3];intro b;refine⟨[.b (decide (0<=m.kind/\m.kind<=3))],rfl,fun _ w' _=>Zan w' _ _ _,?_⟩;simp only[Tree.goal,X.P,X.ev,SV.ev,CV.ev,Sc.ev,qz,QA,QB,QC,QD,QE,QF,QG,QH,QI,QJ,QK,QL,QM,Nat.reduceAdd,decide_eq_true_eq,qy3];refine⟨fun h w' hr=>⟨by rw[Zum h],hr.mod⟩,fun h=>?_⟩;replace h:=qy9.1 h;refine⟨[.b (decide (0<=m.code/\m.code<=255))],rfl,fun _ w' _=>Zan w' _ _ _,?_⟩;simp only[Tree.goal,X.P,X.ev,SV.ev,CV.ev,Sc.ev,qz,QA,QB,QC,QD,QE,QF,QG,QH,QI,QJ,QK,QL,QM,Nat.reduceAdd,decide_eq_true_eq,qy3];refine⟨[.b (decide (0<=m.id/\m.id<=65535))],rfl,fun _ w' _=>Zan w' _ _ _,?_⟩;simp only[Tree.goal,X.P,X.ev,SV.ev,CV.ev,Sc.ev,qz,QA,QB,QC,QD,QE,QF,QG,QH,QI,QJ,QK,QL,QM,Nat.reduceAdd,decide_eq_true_eq,qy3];refine⟨fun h1 w' hr=>⟨by rw[Zqh h (by omega)],hr.mod⟩,fun h1=>?_⟩;refine⟨fun h2 w' hr=>⟨by rw[Zun h (by omega) (by omega)],hr.mod⟩,fun h2=>?_⟩;rw[Zuo h (by omega) (by omega)];refine⟨[.i (optE 0 m.opts)],rfl,fun _ w' hr=>Zqi w' v m.opts (hr.at_ 1 rfl) hl,?_⟩;simp only[Tree.goal,X.P,X.ev,SV.ev,CV.ev,Sc.ev,qz,QA,QB,QC,QD,QE,QF,QG,QH,QI,QJ,QK,QL,QM,Nat.reduceAdd,decide_eq_true_eq,qy3];refine⟨fun h3 w' hr=>⟨by rw[if_pos h3],hr.mod⟩,fun h3=>?_⟩;rw[if_neg h3];refine⟨by omega,fun h4 w' hr=>⟨?_,hr.mod⟩,fun h4 w' hr=>⟨?_,hr.mod⟩⟩
 ·rw[if_pos];rcases h4 with ⟨h5,h6⟩|⟨h5,h6⟩
  ·refine⟨h5,?_⟩;simp only[List.append_eq_nil_iff]at h6;by_cases h7:m.tok=[]
   ·exact .inr (.inl fun h8=>h6 ⟨h7,h8⟩)
   ·exact .inl h7
  ·exact⟨h5,.inr (.inr (by intro h8;rw[h8]at h6;simp at h6))⟩
 ·rw[if_neg];rintro⟨h5,h6⟩;apply h4;rcases h6 with h6|h6|h6
  ·exact .inl ⟨h5,fun h=>h6 (List.append_eq_nil_iff.1 h).1⟩
  ·exact .inl ⟨h5,fun h=>h6 (List.append_eq_nil_iff.1 h).2⟩
  ·exact .inr ⟨h5,by have:=List.length_pos_iff.2 h6;omega⟩
def Z4p:List (List UInt8)->List UInt8
 | []=>[]
 | [x]=>x
 | x::y::xs=>x++47::Z4p (y::xs)
theorem Z78 {s:List UInt8} {f:Bool}:chkT s f=0↔s≠[]/\(s.length<=60/\(lev s).length<=6)/\Z2m s=true/\badL f (lev s)=false:=by
 unfold chkT;by_cases h1:s=[]
 ·rw[if_pos h1];simp[h1]
 ·rw[if_neg h1];by_cases h2:60<(s.length:Int)\/6<((lev s).length:Int)
  ·rw[if_pos h2];refine⟨fun h=>absurd h (by decide),fun h=>by omega⟩
  ·rw[if_neg h2];by_cases h3:Z2m s=true
   ·rw[if_pos h3];cases h4:badL f (lev s)
    ·exact⟨fun _=>⟨h1,by omega,h3,rfl⟩,fun _=>rfl⟩
    ·exact⟨fun h=>absurd h (by decide),fun h=>absurd h.2.2.2 (by simp)⟩
   ·rw[if_neg h3];exact⟨fun h=>absurd h (by decide),fun h=>absurd h.2.2.1 h3⟩
def noN (n:Int) (os:List Opt):List Opt:=os.filter fun o=>decide (o.1≠n)
def upTo (n:Int) (os:List Opt):List Opt:=os.takeWhile fun o=>decide (o.1<=n)
def past (n:Int) (os:List Opt):List Opt:=os.dropWhile fun o=>decide (o.1<=n)
def Zyj (os:List Opt) (n:Int) (vs:List (List UInt8)):List Opt:=upTo n (noN n os)++vs.map (fun v=>(n,v))++past n (noN n os)
theorem Z10s {n:Int} {os:List Opt} (h:∀o∈os,o.1≠n):noN n os=os:=by rw[noN,List.filter_eq_self];simpa using h
def Zi (n:Int) (os:List Opt):List (List UInt8):=(os.filter fun o=>decide (o.1=n)).map (·.2)
theorem Zh7 {n:Int} {os:List Opt} (h:∀o∈os,o.1≠n):Zi n os=[]:=by rw[Zi,List.map_eq_nil_iff,List.filter_eq_nil_iff];simpa using h
theorem Zkp (n:Int) (a b:List Opt):Zi n (a++b)=Zi n a++Zi n b:=by simp[Zi]
theorem Zkq {n:Int}:∀{l:List Opt} {k:Nat},k<=l.length->(∀j,j<k->(l.getD j oD).1<=n)->(k<l.length->n<(l.getD k oD).1)->l.take k=upTo n l/\l.drop k=past n l
 | [],k,hk,_,_=>by simp[upTo,past]
 | o::l,0,_,_,h2=>by
  have h:=h2 (by simp);simp only[List.getD_cons_zero]at h;have:¬o.1<=n:=by omega
  simp[upTo,past,List.takeWhile_cons,List.dropWhile_cons,this]
 | o::l,k+1,hk,h1,h2=>by have h:=h1 0 (by omega);simp only[List.getD_cons_zero]at h;obtain⟨e1,e2⟩:=Zkq (n:=n) (l:=l) (k:=k) (by simpa using hk) (fun j hj=>by have:=h1 (j+1) (by omega);simpa using this) (fun hj=>by have:=h2 (by simpa using hj);simpa using this);simp only[upTo,past]at e1 e2 ⊢;simp[List.takeWhile_cons,List.dropWhile_cons,h,e1,e2]
def Ziu (v:List UInt8):Int×Int:=if 3<(v.length:Int) then (0,1) else ((beN v 0:Nat),0)
def Z79 (n:Int) (os:List Opt):Int×Int:=match Zi n os with | []=>(0,5)|v::_=>Ziu v
def Z2t (n:Int):List UInt8:=(numB 3 n).dropWhile fun c=>c == 0
def Z24 (os:List Opt):List UInt8×Int :=
 if Zi 11 os=[] then ([],5)
 else if chkT (Z4p (Zi 11 os)) false=0 then
  (if (Zi 11 os).any (fun v=>v.any fun c=>c == 47)=true then ([],1) else (Z4p (Zi 11 os),0))
 else ([],chkT (Z4p (Zi 11 os)) false)
end Go.Proofs.YtkhakgbnfapifaaGreatDoor
