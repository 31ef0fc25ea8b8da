/-
  Texts of mine, one behind the other. By an AI agent.
-/
import Derived.Test.YtkhakgbnfapifaaGreatDoorW11
import Derived.Test.YtkhakgbnfapifaaGreatDoorW10
import Derived.Test.YtkhakgbnfapifaaGreatDoorW09
import Derived.Shelf.SlSortCmp.WholeK
import Derived.Sort.OwnSorted
import Derived.Ground.SlsfProg
import Derived.Test.YtkhakgbnfapifaaGreatDoorProg
import Derived.Maps.RangeWalk
import Derived.Maps.OwnOps
import Derived.Sort.KeysCollected
import Derived.WalkKit
set_option linter.unusedSimpArgs false
set_option linter.unusedVariables false
set_option maxHeartbeats 20000000
namespace Go.Proofs.YtkhakgbnfapifaaGreatDoor
open Go.Sx
theorem Z121 (l:List UInt8) (i:Nat):Value.gI (((l.map fun b=>[Value.int .u8 (b.toNat:Int)]).getD i []).getD 0 undef)=((l.getD i 0).toNat:Int):=by simp only[qy1,List.getElem?_map];cases l[i]?<;>rfl
theorem Zup (s:List UInt8) (i lo hi:Nat) (h:lo+i<hi):((s.take hi).drop lo).getD i 0=s.getD (lo+i) 0:=by simp only[qy1,List.getElem?_drop,List.getElem?_take,if_pos h]
theorem Zqs (b:UInt8):b.toNat<256:=b.toNat_lt
def beN:List UInt8->Nat->Nat
 | [],n=>n
 | c::l,n=>beN l (256*n+c.toNat)
theorem Zob (l:List UInt8) (c:UInt8) (n:Nat):beN (l++[c]) n=256*beN l n+c.toNat:=by
 induction l generalizing n with
 | nil=>rfl
 | cons d l ih=>simp[beN,ih]
theorem Zuq (l:List UInt8):∀n,beN l n<(n+1)*pw l.length:=by
 induction l with
 | nil=>intro n;simp[beN,pw]
 | cons c l ih =>
  intro n;have h1:=ih (256*n+c.toNat);have h2:=Zqs c;have h3:(256*n+c.toNat+1)*pw l.length<=(256*(n+1))*pw l.length:=Nat.mul_le_mul_right _ (by omega);simp only[beN,List.length_cons,pw];rw[<- Nat.mul_assoc,Nat.mul_comm (n+1) 256];omega
theorem Zfc (l:List UInt8) (m:Nat) (h:m<l.length):l.take (m+1)=l.take m++[l.getD m 0]:=by rw[List.take_add_one,qy1,qy7 h];rfl
theorem Z147 (n c:Nat) (hn:n<2 ^ 54) (hc:c<256):Z14 .or .i64 (IntKind.i64.wrap ((n:Int)*2 ^ (Nat.min (Int.toNat 8) IntKind.i64.bits))) (c:Int)=((256*n+c:Nat):Int):=by
 have e0:IntKind.i64.wrap ((n:Int)*2 ^ (Nat.min (Int.toNat 8) IntKind.i64.bits))=((n*256:Nat):Int):=by have:Nat.min (Int.toNat 8) IntKind.i64.bits=8:=rfl;rw[this,IntKind.wrap_i64];omega
 rw[e0];simp only[Z14]
 show IntKind.i64.wrap (((BitVec.ofInt 64 ((n*256:Nat):Int)) ||| (BitVec.ofInt 64 (c:Int))).toNat:Int)=_
 rw[BitVec.toNat_or,Z3l _ (by omega),Z3l c (by omega)];have e:n*256 ||| c=256*n+c:=by have:=Nat.two_pow_add_eq_or_of_lt (i:=8) (b:=c) (by omega) n;rw[show n*256=2 ^ 8*n by omega,<- this]
 rw[e,Za9 _ (by omega)]
def getR (s:List UInt8) (at_ b:Int):Int×Int :=
 if 1<=b/\b<=4 then
  if 0<=at_/\at_<=s.length then
   if (s.length:Int) - at_<b then (0,8) else (beN ((s.drop at_.toNat).take b.toNat) 0,0)
  else (0,3)
 else (0,7)
theorem Zur {s:List UInt8} {at_ b:Int} (h:¬(1<=b/\b<=4)):getR s at_ b=(0,7):=if_neg h
theorem Zqt {s:List UInt8} {at_ b:Int} (h:1<=b/\b<=4) (h1:¬(0<=at_/\at_<=s.length)):getR s at_ b=(0,3):=by rw[getR,if_pos h,if_neg h1]
theorem Z7q {s:List UInt8} {at_ b:Int} (h:1<=b/\b<=4) (h1:0<=at_/\at_<=s.length) (h2:(s.length:Int) - at_<b):getR s at_ b=(0,8):=by rw[getR,if_pos h,if_pos h1,if_pos h2]
theorem Zhv {s:List UInt8} {at_ b:Int} (h:1<=b/\b<=4) (h1:0<=at_/\at_<=s.length) (h2:¬(s.length:Int) - at_<b):getR s at_ b=(((beN ((s.drop at_.toNat).take b.toNat) 0:Nat):Int),0):=by rw[getR,if_pos h,if_pos h1,if_neg h2]
theorem beN4 (s:List UInt8) (at_ m:Nat) (h:m<=4):beN ((s.drop at_).take m) 0<4294967296:=by have h1:=Zuq ((s.drop at_).take m) 0;have h2:pw ((s.drop at_).take m).length<=pw 4:=Zhu (by simp;omega);have h3:pw 4=4294967296:=rfl;omega
theorem Z148 (s:List UInt8) (at_ b:Int):0<=(getR s at_ b).1/\(getR s at_ b).1<4294967296:=by
 unfold getR;split
 ·split
  ·split
   ·decide
   ·have:=beN4 s at_.toNat b.toNat (by omega)
    show 0<=((beN ((s.drop at_.toNat).take b.toNat) 0:Nat):Int)/\((beN ((s.drop at_.toNat).take b.toNat) 0:Nat):Int)<4294967296
    omega
  ·decide
 ·decide
theorem Zzx (s:List UInt8) (a k:Nat) (h:a+k<s.length):beN ((s.drop a).take (k+1)) 0=256*beN ((s.drop a).take k) 0+(s.getD (a+k) 0).toNat:=by rw[Zfc _ _ (by simp;omega),Zob];simp only[qy1,List.getElem?_drop]
theorem Zhw (w:World) (s:List UInt8) (at_ b:Int) (hs:s.length<4611686018427387904):Calls Tryz.prog 242 #[.string ⟨s.toArray⟩,.int .i64 at_,.int .i64 b] w fun e w'=>e=.returned (.tuple #[.int .i64 (getR s at_ b).1,.int .i64 (getR s at_ b).2])/\Mod [] w w':=by
 refine Z1 (Z7 (ρ:=[.s s,.i at_,.i b]) sxE_ok Tryz.func242 Zhf rfl rfl rfl ?_) rfl;simp only[Tree.goal,X.P,X.ev,SV.ev,CV.ev,Sc.ev,qz,QA,QC,QD,QH,QJ,QK,QL,QM,Nat.reduceAdd];refine⟨fun h w' hr=>⟨by rw[Zur (by omega)],hr.mod⟩,fun h=>?_⟩;refine⟨fun h1 w' hr=>⟨by rw[Zqt (by omega) h1],hr.mod⟩,fun h1=>?_⟩;refine⟨by omega,by omega,fun h2 w' hr=>⟨by rw[Z7q (by omega) (by omega) h2],hr.mod⟩,fun h2=>?_⟩;obtain⟨a,rfl⟩:∃a:Nat,at_=a:=⟨at_.toNat,by omega⟩
 obtain⟨k,rfl⟩:∃k:Nat,b=k:=⟨b.toNat,by omega⟩
 (repeat refine⟨by omega,?_⟩)
 intro v;refine⟨fun vs=>∃m:Nat,vs=[.i (beN ((s.drop a).take m) 0),.i m]/\m<=k,fun vs=>(k - (vs.getD 1 (.i 0)).toI).toNat,⟨0,by simp[beN],by omega⟩,?_⟩;rintro _ - ⟨m,rfl,hm⟩;have e0:((a:Int)+(k:Int)).toNat=a+k:=by omega
 simp only[qz,QA,qy3,List.length_drop,List.length_take,Z121,qy4,e0];have hb:=beN4 s a m (by omega);refine⟨fun h3=>?_,fun h3 w' hr=>⟨?_,hr.mod⟩⟩
 ·have e2:=Zzx s a m (by omega);have hc:=Zqs (s.getD (a+m) 0);rw[Zup _ _ _ _ (by omega),Z147 _ _ (by omega) hc]
  (repeat refine⟨by omega,?_⟩);refine⟨⟨m+1,?_,by omega⟩,by omega⟩
  rw[e2];simp
 ·have:m=k:=by omega
  subst this;rw[Zhv (by omega) (by omega) h2];simp only[qy4]
def p7:Nat->Nat
 | 0=>1
 | k+1=>128*p7 k
theorem Zhx {a b:Nat} (h:a<=b):p7 a<=p7 b:=by
 induction h with
 | refl=>exact Nat.le_refl _
 | step _ ih=>simp only[p7];omega
theorem Zus (a:Nat):1<=p7 a:=Zhx (Nat.zero_le a)
def glF:Nat->Nat->Nat->List UInt8->Int×Int×Int
 | 0,_,_,_=>(0,0,1)
 | _+1,_,_,[]=>(0,0,8)
 | f+1,i,n,c::l=>if c.toNat<128 then (if c.toNat=0/\0<i then (0,0,1) else (((n+c.toNat % 128*p7 i:Nat):Int),((i+1:Nat):Int),0)) else glF f (i+1) (n+c.toNat % 128*p7 i) l
def getL (s:List UInt8) (at_:Int):Int×Int×Int:=if 0<=at_/\at_<=s.length then glF 4 0 0 (s.drop at_.toNat) else (0,0,3)
theorem Zqu {s:List UInt8} {at_:Int} (h:¬(0<=at_/\at_<=s.length)):getL s at_=(0,0,3):=if_neg h
theorem Zut (s:List UInt8) (k:Nat) (h:k<s.length):s.drop k=s.getD k 0::s.drop (k+1):=by rw[List.drop_eq_getElem_cons h,qy1,qy7 h];rfl
theorem Z149 {s:List UInt8} {a f i n:Nat} (h:s.length<=a):glF (f+1) i n (s.drop a)=(0,0,8):=by rw[List.drop_eq_nil_of_le h];rfl
theorem Zzy {s:List UInt8} {a f i n:Nat} (h:a<s.length):glF (f+1) i n (s.drop a) = if (s.getD a 0).toNat<128 then (if (s.getD a 0).toNat=0/\0<i then (0,0,1) else (((n+(s.getD a 0).toNat % 128*p7 i:Nat):Int),((i+1:Nat):Int),0)) else glF f (i+1) (n+(s.getD a 0).toNat % 128*p7 i) (s.drop (a+1)):=by rw[Zut s a h];rfl
theorem Zuu:∀(f i n:Nat) (l:List UInt8),n<p7 i->0<=(glF f i n l).1/\(glF f i n l).1<p7 (f+i)/\0<=(glF f i n l).2.1/\(glF f i n l).2.1<=f+i/\(glF f i n l).2.1<=i+l.length
 | 0,i,n,l,h=>by have:=Zus (0+i);simp only[glF];omega
 | f+1,i,n,[],h=>by have:=Zus (f+1+i);simp only[glF];omega
 | f+1,i,n,c::l,h=>by
  have hp:=Zus (f+1+i);have hm:n+c.toNat % 128*p7 i<p7 (i+1):=by have:c.toNat % 128*p7 i<=127*p7 i:=Nat.mul_le_mul_right _ (by omega);simp only[p7];omega
  have hm2:p7 (i+1)<=p7 (f+1+i):=Zhx (by omega);simp only[glF];split
  ·split
   ·simp only[List.length_cons];omega
   ·simp only[List.length_cons];omega
  ·have:=Zuu f (i+1) _ l hm;have e:f+(i+1)=f+1+i:=by omega
   rw[e]at this;simp only[List.length_cons];omega
theorem Z14a (s:List UInt8) (at_:Int):0<=(getL s at_).1/\(getL s at_).1<268435456/\0<=(getL s at_).2.1/\(getL s at_).2.1<=4/\(getL s at_).2.1<=s.length:=by
 unfold getL;split
 ·have h:=Zuu 4 0 0 (s.drop at_.toNat) (by decide);have e:p7 (4+0)=268435456:=rfl;rw[e,List.length_drop]at h;omega
 ·simp only;omega
theorem Z14b (x:Nat) (h:x<256):Z14 .and .u8 (x:Int) 127=(x % 128:Nat):=by
 have:∀x:Fin 256,Z14 .and .u8 (x.val:Int) 127=(x.val % 128:Nat):=by decide +kernel
 exact this ⟨x,h⟩
theorem Z14c (x:Nat) (h:x<256):Z14 .and .u8 (x:Int) 128=if x<128 then 0 else 128:=by
 have:∀x:Fin 256,Z14 .and .u8 (x.val:Int) 128=if x.val<128 then 0 else 128:=by decide +kernel
 exact this ⟨x,h⟩
theorem Z14d (n c m:Nat) (hm:m<=3) (hn:n<p7 m) (hc:c<128):Z14 .or .i64 (n:Int) (IntKind.i64.wrap ((c:Int)*2 ^ (Nat.min ((7:Int)*(m:Int)).toNat IntKind.i64.bits)))=((n+c*p7 m:Nat):Int):=by
 have hp:p7 m=2 ^ (7*m):=by
  have:∀k,p7 k=2 ^ (7*k):=fun k=>by
   induction k with
   | zero=>rfl
   | succ k ih=>rw[p7,ih,Nat.mul_succ,Nat.pow_add];omega
  exact this m
 have hpm:=Zhx hm;have hp3:p7 3=2097152:=rfl;have q1:c*p7 m<=127*p7 m:=Nat.mul_le_mul_right _ (by omega);have e0:IntKind.i64.wrap ((c:Int)*2 ^ (Nat.min ((7:Int)*(m:Int)).toNat IntKind.i64.bits))=((c*p7 m:Nat):Int):=by
  have:Nat.min ((7:Int)*(m:Int)).toNat IntKind.i64.bits=7*m:=by
   have e:((7:Int)*(m:Int)).toNat=7*m:=by omega
   rw[e];exact Nat.min_eq_left (by show 7*m<=64;omega)
  rw[this];have e2:(c:Int)*2 ^ (7*m)=((c*p7 m:Nat):Int):=by rw[hp];simp
  rw[e2,Za9 _ (by omega)]
 rw[e0];simp only[Z14]
 show IntKind.i64.wrap (((BitVec.ofInt 64 (n:Int)) ||| (BitVec.ofInt 64 ((c*p7 m:Nat):Int))).toNat:Int)=_
 rw[BitVec.toNat_or,Z3l _ (by omega),Z3l _ (by omega)];have e:n ||| c*p7 m=n+c*p7 m:=by have:=Nat.two_pow_add_eq_or_of_lt (i:=7*m) (b:=n) (by rw[<- hp];exact hn) c;rw[hp,Nat.mul_comm c,Nat.or_comm,<- this,Nat.add_comm]
 rw[e,Za9 _ (by omega)]
theorem Zuv (w:World) (s:List UInt8) (at_:Int) (hs:s.length<4611686018427387904):Calls Tryz.prog 195 #[.string ⟨s.toArray⟩,.int .i64 at_] w fun e w'=>e=.returned (.tuple #[.int .i64 (getL s at_).1,.int .i64 (getL s at_).2.1,.int .i64 (getL s at_).2.2])/\Mod [] w w':=by
 refine Z1 (Z7 (ρ:=[.s s,.i at_]) sxE_ok Tryz.func195 Zb2 rfl rfl rfl ?_) rfl;simp only[Tree.goal,X.P,X.ev,SV.ev,CV.ev,Sc.ev,qz,QA,QC,QD,QH,QJ,QK,QL,QM,Nat.reduceAdd];refine⟨fun h w' hr=>⟨by rw[Zqu h],hr.mod⟩,fun h=>?_⟩;obtain⟨a,rfl⟩:∃a:Nat,at_=a:=⟨at_.toNat,by omega⟩
 have e0:getL s a=glF 4 0 0 (s.drop a):=by rw[getL,if_pos (by omega),qy4]
 rw[e0];obtain⟨k,hk,hka⟩:∃k:Nat,(if (a:Int)+4<(s.length:Int) then (a:Int)+4 else (s.length:Int))=((a+k:Nat):Int)/\(k=4/\a+4<s.length\/k<=4/\a+k=s.length):=by
  by_cases h4:(a:Int)+4<s.length
  ·exact⟨4,by rw[if_pos h4];omega,by omega⟩
  ·exact⟨s.length - a,by rw[if_neg h4];omega,by omega⟩
 rw[hk]
 (repeat refine⟨by omega,?_⟩)
 intro v;refine⟨fun vs=>∃(m n:Nat) (x y z:V),vs=[x,y,z,.i n,.i m]/\m<=k/\n<p7 m/\glF (4 - m) m n (s.drop (a+m))=glF 4 0 0 (s.drop a),fun vs=>(k - (vs.getD 4 (.i 0)).toI).toNat,⟨0,0,_,_,_,rfl,by omega,by decide,rfl⟩,?_⟩;rintro _ - ⟨m,n,x,y,z,rfl,hm,hn,hg⟩;simp only[qz,QA,qy3,List.length_drop,List.length_take,Z121,qy4];have hp:=Zhx (show m<=4 by omega);have hp4:p7 4=268435456:=rfl;refine⟨fun h3=>?_,fun h3=>?_⟩
 ·obtain⟨g,hgm⟩:∃g,4 - m=g+1:=⟨3 - m,by omega⟩
  rw[hgm,Zzy (by omega)]at hg;rw[Zup _ _ _ _ (by omega)];have hc:=Zqs (s.getD (a+m) 0);generalize hcc:(s.getD (a+m) 0).toNat=c at hg hc ⊢
  rw[Z14b c hc,Z14c c hc];rw[Z14d n (c % 128) m (by omega) hn (by omega)];have q1:c % 128*p7 m<=127*p7 m:=Nat.mul_le_mul_right _ (by omega)
  (repeat refine⟨by omega,?_⟩)
  refine⟨fun h5=>?_,fun h5=>?_⟩
  ·have h5:¬c<128:=fun h=>h5 (by rw[if_pos h]);rw[if_neg h5]at hg;refine⟨by omega,by omega,⟨m+1,n+c % 128*p7 m,x,y,z,rfl,by omega,by simp only[p7];omega,?_⟩,by omega⟩;rw[<- hg,show 4 - (m+1)=g by omega];rfl
  ·have h5:c<128:=by
    rcases Nat.lt_or_ge c 128 with h|h
    ·exact h
    ·exact absurd (by rw[if_neg (by omega)];decide) h5
   rw[if_pos h5]at hg;refine⟨fun h6 w' hr=>⟨?_,hr.mod⟩,fun h6=>⟨by omega,by omega,fun w' hr=>⟨?_,hr.mod⟩⟩⟩
   ·rw[if_pos (by omega)]at hg;rw[<- hg]
   ·rw[if_neg (by omega)]at hg;rw[<- hg];rfl
 ·have:m=k:=by omega
  subst this;refine⟨by omega,by omega,fun h4 w' hr=>⟨?_,hr.mod⟩,fun h4 w' hr=>⟨?_,hr.mod⟩⟩
  ·obtain⟨g,hgm⟩:∃g,4 - m=g+1:=⟨3 - m,by omega⟩
   rw[hgm,Z149 (by omega)]at hg;rw[<- hg]
  ·have:m=4:=by omega
   subst this;rw[<- hg];rfl
theorem Zb (k:Nat) (n:Int):(numB k n).length=k:=by simp[numB]
def txtB (t:List UInt8):List UInt8:=numB 2 t.length++t
theorem Zm1 (w:World) (t:List UInt8) (ht:t.length<4611686018427387904):Calls Tryz.prog 338 #[.string ⟨t.toArray⟩] w fun e w'=>e=.returned (.string ⟨(txtB t).toArray⟩)/\Mod [] w w':=by refine Z1 (Z7 (ρ:=[.s t]) sxE_ok Tryz.func338 Z8p rfl rfl rfl ?_) rfl;simp only[Tree.goal,X.P,X.ev,SV.ev,CV.ev,Sc.ev,qz,QA,QC,QL,QM];refine⟨[.s (numB 2 t.length)],rfl,fun _ w' _=>Z57 w' t.length 2 (by omega) (by omega) (by omega),?_⟩;simp only[qz,QC];exact⟨by rw[Zb];omega,fun w' hr=>⟨rfl,hr.mod⟩⟩
def getT (s:List UInt8) (at_:Int):List UInt8×Int×Int :=
 if (getR s at_ 2).2=0 then
  if (s.length:Int) - at_ - 2<(getR s at_ 2).1 then ([],0,8) else ((s.take (at_+2+(getR s at_ 2).1).toNat).drop (at_+2).toNat,(getR s at_ 2).1+2,0)
 else ([],0,(getR s at_ 2).2)
theorem Zuw {s:List UInt8} {at_ b:Int} (h:(getR s at_ b).2=0):(1<=b/\b<=4)/\(0<=at_/\at_<=s.length)/\¬(s.length:Int) - at_<b:=by
 unfold getR at h;split at h
 ·split at h
  ·split at h
   ·simp at h
   ·exact⟨‹_›,‹_›,‹_›⟩
  ·simp at h
 ·simp at h
theorem Zux (w:World) (s:List UInt8) (at_:Int) (hs:s.length<4611686018427387904):Calls Tryz.prog 308 #[.string ⟨s.toArray⟩,.int .i64 at_] w fun e w'=>e=.returned (.tuple #[.string ⟨(getT s at_).1.toArray⟩,.int .i64 (getT s at_).2.1,.int .i64 (getT s at_).2.2])/\Mod [] w w':=by refine Z1 (Z7 (ρ:=[.s s,.i at_]) sxE_ok Tryz.func308 Zb3 rfl rfl rfl ?_) rfl;simp only[Tree.goal,X.P,X.ev,SV.ev,CV.ev,Sc.ev,qz,QA,QC,QL,QM];have CALLEE:=Zhw;refine⟨[.i (getR s at_ 2).1,.i (getR s at_ 2).2],rfl,fun _ w' _=>CALLEE w' s at_ 2 hs,?_⟩;have hb:=Z148 s at_ 2;have hz:=@Zuw s at_ 2;simp only[qz,QA];refine⟨fun h w' hr=>⟨by rw[getT,if_neg h],hr.mod⟩,fun h=>?_⟩;have h0:=Decidable.not_not.1 h;have h1:=hz h0;(repeat refine⟨by omega,?_⟩);refine⟨fun h2 w' hr=>⟨by rw[getT,if_pos h0,if_pos h2],hr.mod⟩,fun h2=>?_⟩;(repeat refine⟨by omega,?_⟩);refine fun w' hr=>⟨?_,hr.mod⟩;rw[getT,if_pos h0,if_neg h2]
theorem Zoc (k n:Nat):numB k (n:Int)=(List.range k).map fun j=>UInt8.ofNat (n / pw (k - 1 - j) % 256):=by refine List.map_congr_left fun j _=>?_;congr 1
theorem Zuy (k n:Nat):numB (k+1) (n:Int)=numB k ((n / 256:Nat):Int)++[UInt8.ofNat (n % 256)]:=by
 rw[Zoc,Zoc,List.range_succ,List.map_append];congr 1
 ·refine List.map_congr_left fun j hj=>?_;have hj:j<k:=by simpa using hj
  have e:k+1 - 1 - j=(k - 1 - j)+1:=by omega
  rw[e]
  show UInt8.ofNat (n / (256*pw (k - 1 - j)) % 256)=UInt8.ofNat (n / 256 / pw (k - 1 - j) % 256)
  rw[Nat.div_div_eq_div_mul]
 ·have e:k+1 - 1 - k=0:=by omega
  rw[List.map_cons,List.map_nil,e];simp[pw]
theorem Zhy:∀(k n:Nat),n<pw k->beN (numB k n) 0=n
 | 0,n,h=>by
  have h:n<1:=h;have:n=0:=by omega
  subst this;rfl
 | k+1,n,h=>by
  have h:n<256*pw k:=h;have ih:=Zhy k (n / 256) (by omega);rw[Zuy,Zob,ih];have:(UInt8.ofNat (n % 256)).toNat=n % 256:=by simp
  omega
theorem Zod (b:List UInt8):∀(g f i n x:Nat),x<p7 (g+1)->g<f->(i=0\/0<x)->glF f i n (lngB g x++b)=(((n+x*p7 i:Nat):Int),((i+(lngB g x).length:Nat):Int),0)
 | 0,f+1,i,n,x,hx,hf,hi=>by
  have hx:x<128:=hx;have e:(UInt8.ofNat x).toNat=x:=by simp;omega
  show glF (f+1) i n ([UInt8.ofNat x]++b)=_
  simp only[List.cons_append,List.nil_append,glF,e,lngB,List.length_cons,List.length_nil];rw[if_pos hx,if_neg (by omega),Nat.mod_eq_of_lt hx]
 | g+1,f+1,i,n,x,hx,hf,hi=>by
  by_cases h:x<128
  ·have e:(UInt8.ofNat x).toNat=x:=by simp;omega
   rw[Zgd _ _ h];simp only[List.cons_append,List.nil_append,glF,e,List.length_cons,List.length_nil];rw[if_pos h,if_neg (by omega),Nat.mod_eq_of_lt h]
  ·have hx:x<128*p7 (g+1):=hx;have e:(UInt8.ofNat (x % 128+128)).toNat=x % 128+128:=by simp;omega
   have e2:lngB (g+1) x=UInt8.ofNat (x % 128+128)::lngB g (x / 128):=by rw[lngB,if_neg h]
   rw[e2];simp only[List.cons_append,glF,e,List.length_cons];rw[if_neg (by omega),Zod b g f (i+1) _ (x / 128) (by omega) (by omega) (by omega)];have e3:(x % 128+128) % 128=x % 128:=by omega
   have e4:x % 128*p7 i+x / 128*(128*p7 i)=x*p7 i:=by rw[<- Nat.mul_assoc,<- Nat.add_mul];congr 1;omega
   rw[e3];refine Prod.ext ?_ (Prod.ext ?_ rfl)
   ·show ((n+x % 128*p7 i+x / 128*p7 (i+1):Nat):Int)=_
    rw[p7,Nat.add_assoc,e4]
   ·show ((i+1+(lngB g (x / 128)).length:Nat):Int)=_
    congr 1;omega
abbrev Ak:=List UInt8×Int
structure Pkt where
  kind:Int
  dup:Bool
  retain:Bool
  clean:Bool
  session:Bool
  qos:Int
  id:Int
  keep:Int
  code:Int
  client:List UInt8
  topic:List UInt8
  payload:List UInt8
  asks:List Ak
  codes:List Int
  deriving DecidableEq
abbrev pD_Q (k:Int):Pkt:=⟨k,false,false,false,false,0,0,0,0,[],[],[],[],[]⟩
def Z58 (k:Int):Bool:=decide ((1<=k/\k<=4)\/(8<=k/\k<=14))
def idB (p:Pkt):Bool:=decide ((p.kind=3/\p.qos=1)\/p.kind=4\/(8<=p.kind/\p.kind<=11))
def cliB (s:List UInt8):Bool:=decide (1<=(s.length:Int)/\(s.length:Int)<=20) && Z2w s
def Z1r (p:Pkt):Pkt :=
  if p.kind=1 then { p with client:=[],clean:=false,keep:=0 }
  else if p.kind=2 then { p with code:=0,session:=false }
  else if p.kind=3 then { p with dup:=false,qos:=0,retain:=false,topic:=[],payload:=[],id:=0 }
  else if p.kind=4\/p.kind=11 then { p with id:=0 }
  else if p.kind=8\/p.kind=10 then { p with id:=0,asks:=[] }
  else if p.kind=9 then { p with id:=0,codes:=[] }
  else p
def Z89 (p:Pkt):Bool:=decide (p=pD_Q p.kind)
def Zjz (p:Pkt):Int:=if 20<(p.client.length:Int) then 2 else if cliB p.client=true then (if 0<=p.keep/\p.keep<=65535 then 0 else 3) else 1
def Z6a (p:Pkt):Int:=if 0<=p.code/\p.code<=5 then (if p.session=true/\p.code≠0 then 4 else 0) else 3
def pubE (p:Pkt):Int :=
  if chkT p.topic false=0 then
    if 200<(p.payload.length:Int) then 2
    else if 0<=p.qos/\p.qos<=1 then (if p.qos=0/\(p.dup=true\/p.id≠0) then 1 else 0) else 3
  else chkT p.topic false
def Z3p (n:Nat):Int:=if n=0 then 1 else if 5<(n:Int) then 2 else 0
def askE (a:Ak):Int:=if chkT a.1 true=0 then (if 0<=a.2/\a.2<=1 then 0 else 3) else chkT a.1 true
def Z8a (a:Ak):Int:=if chkT a.1 true=0 then (if a.2=0 then 0 else 1) else chkT a.1 true
def Zfd (k:Int):List Ak->Int
  | []=>0
  | a::l=>if (if k=8 then askE a else Z8a a)=0 then Zfd k l else (if k=8 then askE a else Z8a a)
def Zhz (p:Pkt):Int:=if Z3p p.asks.length=0 then Zfd p.kind p.asks else Z3p p.asks.length
def Zfe (c:Int):Bool:=decide (c≠0/\c≠1/\c≠128)
def Zby (p:Pkt):Int:=if Z3p p.codes.length=0 then (if p.codes.any Zfe=true then 3 else 0) else Z3p p.codes.length
def Z21 (p:Pkt):Int :=
  if p.kind=1 then Zjz p else if p.kind=2 then Z6a p else if p.kind=3 then pubE p
  else if p.kind=8\/p.kind=10 then Zhz p else if p.kind=9 then Zby p else 0
def chkP (p:Pkt):Int :=
  if Z58 p.kind=true then
    if Z89 (Z1r p)=true then
      if p.kind=3/\pubE p≠0 then pubE p
      else if idB p=true/\¬(1<=p.id/\p.id<=65535) then 3
      else Z21 p
    else 1
  else 7
def Z1j (k:Int) (a:Ak):List UInt8:=txtB a.1++(if k=8 then numB 1 a.2 else [])
def bit (b:Bool) (n:Int):Int:=if b=true then n else 0
def Z3x (p:Pkt):List UInt8 :=
  if p.kind=1 then txtB [77,81,84,84]++(numB 1 4++numB 1 (bit p.clean 2))++numB 2 p.keep++txtB p.client
  else if p.kind=2 then numB 1 (bit p.session 1)++numB 1 p.code
  else if p.kind=3 then txtB p.topic
  else []
def Z28 (p:Pkt):List UInt8:=Z3x p++(if idB p=true then numB 2 p.id else [])++p.payload++(p.asks.map (Z1j p.kind)).flatten++(p.codes.map (numB 1)).flatten
def Z1o (p:Pkt):Int :=
  16*p.kind+(if p.kind=3 then bit p.dup 8+2*p.qos+bit p.retain 1 else if p.kind=8\/p.kind=10 then 2 else 0)
def Z1b (p:Pkt):List UInt8:=numB 1 (Z1o p)++lngB 3 (Z28 p).length++Z28 p
def rdN (s:List UInt8) (k a:Nat) (b:Bool):Int×Nat×Bool:=if a+k<=s.length then ((beN ((s.drop a).take k) 0:Nat),a+k,b) else (0,s.length,true)
def rdT (s:List UInt8) (a:Nat) (b:Bool):List UInt8×Nat×Bool :=
  if a+2<=s.length/\a+2+beN ((s.drop a).take 2) 0<=s.length then ((s.drop (a+2)).take (beN ((s.drop a).take 2) 0),a+2+beN ((s.drop a).take 2) 0,b) else ([],a,true)
def rdA (s:List UInt8) (k:Int) (a:Nat) (b:Bool):Ak×Nat×Bool :=
  if k=8 then (((rdT s a b).1,(rdN s 1 (rdT s a b).2.1 (rdT s a b).2.2).1),(rdN s 1 (rdT s a b).2.1 (rdT s a b).2.2).2) else (((rdT s a b).1,0),(rdT s a b).2)
def rdAs (s:List UInt8) (k:Int):Nat->Nat->Bool->List Ak->List Ak×Nat×Bool
  | 0,a,b,l=>(l,a,b)
  | f+1,a,b,l=>if a<s.length/\b=false then rdAs s k f (rdA s k a b).2.1 (rdA s k a b).2.2 (l++[(rdA s k a b).1]) else (l,a,b)
def rdCs (s:List UInt8):Nat->Nat->Bool->List Int->List Int×Nat×Bool
  | 0,a,b,l=>(l,a,b)
  | f+1,a,b,l=>if a<s.length/\b=false then rdCs s f (rdN s 1 a b).2.1 (rdN s 1 a b).2.2 (l++[(rdN s 1 a b).1]) else (l,a,b)
def Zr (s:List UInt8) (a:Nat) (b:Bool):Nat:=if b=true then 0 else s.length+1 - a
abbrev RS:=Pkt×Nat×Bool
def Zff (s:List UInt8) (p:Pkt) (a:Nat) (b:Bool):RS :=
  let t1:=rdT s a b
  let n1:=rdN s 1 t1.2.1 t1.2.2
  let n2:=rdN s 1 n1.2.1 n1.2.2
  let n3:=rdN s 2 n2.2.1 n2.2.2
  let t2:=rdT s n3.2.1 n3.2.2
  ({ p with clean:=decide (n2.1=2),keep:=n3.1,client:=t2.1 },t2.2)
def headD (s:List UInt8) (p:Pkt) (a:Nat) (b:Bool):RS :=
  if p.kind=1 then Zff s p a b
  else if p.kind=2 then ({ p with session:=decide ((rdN s 1 a b).1=1),code:=(rdN s 1 (rdN s 1 a b).2.1 (rdN s 1 a b).2.2).1 },(rdN s 1 (rdN s 1 a b).2.1 (rdN s 1 a b).2.2).2)
  else if p.kind=3 then ({ p with topic:=(rdT s a b).1 },(rdT s a b).2)
  else (p,a,b)
def idD (s:List UInt8) (q:RS):RS:=if idB q.1=true then ({ q.1 with id:=(rdN s 2 q.2.1 q.2.2).1 },(rdN s 2 q.2.1 q.2.2).2) else q
def Z6w (s:List UInt8) (q:RS):RS :=
  if q.1.kind=3 then ({ q.1 with payload:=s.drop q.2.1 },s.length,q.2.2)
  else if q.1.kind=8\/q.1.kind=10 then ({ q.1 with asks:=(rdAs s q.1.kind (Zr s q.2.1 q.2.2) q.2.1 q.2.2 q.1.asks).1 },(rdAs s q.1.kind (Zr s q.2.1 q.2.2) q.2.1 q.2.2 q.1.asks).2)
  else if q.1.kind=9 then ({ q.1 with codes:=(rdCs s (Zr s q.2.1 q.2.2) q.2.1 q.2.2 q.1.codes).1 },(rdCs s (Zr s q.2.1 q.2.2) q.2.1 q.2.2 q.1.codes).2)
  else q
def Ze0 (s:List UInt8) (p:Pkt) (a:Nat) (b:Bool):RS:=Z6w s (idD s (headD s p a b))
def begP (c:Nat):Pkt:=if c / 16=3 then { pD_Q 3 with dup:=decide (c / 8 % 2=1),qos:=c / 2 % 4,retain:=decide (c % 2=1) } else pD_Q ((c / 16:Nat):Int)
def Z82 (s:List UInt8):RS:=Ze0 s (begP (s.getD 0 0).toNat) (1+(getL s 1).2.1).toNat false
def decD (s:List UInt8):Pkt×Int :=
  if s=[]\/(getL s 1).2.2≠0 then (pD_Q 0,1)
  else if (Z82 s).2.2=true\/Z58 (Z82 s).1.kind=false\/1<(Z82 s).1.qos\/Z1b (Z82 s).1≠s then (pD_Q 0,1)
  else if chkP (Z82 s).1=0 then ((Z82 s).1,0) else (pD_Q 0,chkP (Z82 s).1)
theorem Zi0 (p:Pkt):Z1r p=pD_Q p.kind↔(p.kind≠1->p.client=[]/\p.clean=false/\p.keep=0)/\(p.kind≠2->p.session=false/\p.code=0) /\ (p.kind≠3->p.dup=false/\p.retain=false/\p.qos=0/\p.topic=[]/\p.payload=[])/\(¬((3<=p.kind/\p.kind<=4)\/(8<=p.kind/\p.kind<=11))->p.id=0) /\ (p.kind≠8/\p.kind≠10->p.asks=[])/\(p.kind≠9->p.codes=[]):=by
 obtain⟨k,d,r,c,s,q,i,ke,co,cl,t,pl,a,cs⟩:=p;unfold Z1r;simp only;by_cases h1:k=1
 ·subst h1;simp only[if_true,Pkt.mk.injEq];simp;grind
 rw[if_neg h1];by_cases h2:k=2
 ·subst h2;simp only[if_true,Pkt.mk.injEq];simp;grind
 rw[if_neg h2];by_cases h3:k=3
 ·subst h3;simp only[if_true,Pkt.mk.injEq];simp;grind
 rw[if_neg h3];by_cases h4:k=4\/k=11
 ·rw[if_pos h4];rcases h4 with rfl|rfl<;>simp only[Pkt.mk.injEq]<;>simp<;>grind
 rw[if_neg h4];by_cases h5:k=8\/k=10
 ·rw[if_pos h5];rcases h5 with rfl|rfl<;>simp only[Pkt.mk.injEq]<;>simp<;>grind
 rw[if_neg h5];by_cases h6:k=9
 ·subst h6;simp only[if_true,Pkt.mk.injEq];simp;grind
 rw[if_neg h6];have h7:¬((3<=k/\k<=4)\/(8<=k/\k<=11)):=by omega
 have h8:k≠8/\k≠10:=by omega
 simp only[Pkt.mk.injEq,h7,h8,ne_eq,h1,h2,h3,h6,not_false_eq_true,true_implies,true_and,and_true];grind
structure FormP (p:Pkt):Prop where
 kind:Z58 p.kind=true
 bare:Z1r p=pD_Q p.kind
 qos:0<=p.qos/\p.qos<=1
 keep:0<=p.keep/\p.keep<65536
 code:0<=p.code/\p.code<256
 id:0<=p.id/\p.id<65536
 noid:idB p=false->p.id=0
 client:p.client.length<65536
 topic:p.topic.length<65536
 asks:∀a∈p.asks,a.1.length<65536/\0<=a.2/\a.2<256/\(p.kind≠8->a.2=0)
 codes:∀c∈p.codes,0<=c/\c<256
theorem Z179 {s t:List UInt8} {k a n:Nat} (b:Bool) (h:s.drop a=numB k n++t) (ha:a<=s.length) (hn:n<pw k):rdN s k a b=((n:Int),a+k,b)/\s.drop (a+k)=t/\a+k<=s.length:=by
 have hl:s.length - a=k+t.length:=by rw[<- List.length_drop,h,qy11,Zb]
 have e:(s.drop a).take k=numB k n:=by rw[h];exact List.take_left' (Zb k n)
 refine⟨?_,?_,by omega⟩
 ·rw[rdN,if_pos (by omega),e,Zhy k n hn]
 ·rw[<- List.drop_drop,h];exact List.drop_left' (Zb k n)
theorem Z6b {s t:List UInt8} {k a:Nat} {n:Int} (b:Bool) (h:s.drop a=numB k n++t) (ha:a<=s.length) (h0:0<=n) (hn:n<pw k):rdN s k a b=(n,a+k,b)/\s.drop (a+k)=t/\a+k<=s.length:=by
 obtain⟨m,rfl⟩:∃m:Nat,n=m:=⟨n.toNat,by omega⟩
 exact Z179 b h ha (by omega)
theorem Zge {s t x:List UInt8} {a:Nat} (b:Bool) (h:s.drop a=txtB x++t) (ha:a<=s.length) (hx:x.length<65536):rdT s a b=(x,a+2+x.length,b)/\s.drop (a+2+x.length)=t/\a+2+x.length<=s.length:=by
 have hh:s.drop a=numB 2 (x.length:Nat)++(x++t):=by rw[h,txtB,List.append_assoc]
 have hl:s.length - a=2+(x.length+t.length):=by rw[<- List.length_drop,hh,qy11,Zb,qy11]
 have e:(s.drop a).take 2=numB 2 (x.length:Nat):=by rw[hh];exact List.take_left' (Zb 2 _)
 have e1:beN ((s.drop a).take 2) 0=x.length:=by rw[e];exact Zhy 2 _ hx
 have e2:s.drop (a+2)=x++t:=by rw[<- List.drop_drop,hh];exact List.drop_left' (Zb 2 _)
 refine⟨?_,?_,by omega⟩
 ·rw[rdT,e1,if_pos (by omega),e2,List.take_left]
 ·rw[<- List.drop_drop,e2,List.drop_left]
theorem Z17a {s t:List UInt8} {k:Int} {a:Nat} {x:Ak} (b:Bool) (h:s.drop a=Z1j k x++t) (ha:a<=s.length) (hx:x.1.length<65536/\0<=x.2/\x.2<256/\(k≠8->x.2=0)) : ∃a',rdA s k a b=(x,a',b)/\s.drop a'=t/\a'<=s.length/\a+2<=a':=by
 by_cases hk:k=8
 ·have h':s.drop a=txtB x.1++(numB 1 x.2++t):=by rw[h,Z1j,if_pos hk,List.append_assoc]
  obtain⟨q1,q2,q3⟩:=Zge b h' ha hx.1;obtain⟨r1,r2,r3⟩:=Z6b b q2 q3 hx.2.1 (by show x.2<256;omega);refine⟨_,?_,r2,r3,by omega⟩;rw[rdA,if_pos hk,q1];simp only[r1]
 ·have h':s.drop a=txtB x.1++t:=by rw[h,Z1j,if_neg hk,List.append_nil]
  obtain⟨q1,q2,q3⟩:=Zge b h' ha hx.1;refine⟨_,?_,q2,q3,by omega⟩;rw[rdA,if_neg hk,q1];have:=hx.2.2.2 hk;simp only[Prod.mk.injEq,and_true];exact Prod.ext rfl this.symm
theorem Zuz {s:List UInt8} {k:Int}:∀(xs l:List Ak) (f a:Nat),s.drop a=(xs.map (Z1j k)).flatten->a<=s.length->(∀x∈xs,x.1.length<65536/\0<=x.2/\x.2<256/\(k≠8->x.2=0))->s.length+1 - a<=f -> rdAs s k f a false l=(l++xs,s.length,false)
 | [],l,f,a,h,ha,_,hf=>by
  obtain⟨g,rfl⟩:∃g,f=g+1:=⟨f - 1,by omega⟩
  have:s.length - a=0:=by rw[<- List.length_drop,h];rfl
  rw[rdAs,if_neg (by omega),List.append_nil];have:a=s.length:=by omega
  rw[this]
 | x::xs,l,f,a,h,ha,hx,hf=>by
  obtain⟨g,rfl⟩:∃g,f=g+1:=⟨f - 1,by omega⟩
  rw[List.map_cons,List.flatten_cons]at h;obtain⟨a',h1,h2,h3,h4⟩:=Z17a false h ha (hx x (qy8 ..));rw[rdAs,if_pos ⟨by omega,rfl⟩,h1];simp only;rw[Zuz xs _ g a' h2 h3 (fun y hy=>hx y (qy10 _ hy)) (by omega)];simp
theorem Zv0 {s:List UInt8}:∀(xs l:List Int) (f a:Nat),s.drop a=(xs.map (numB 1)).flatten->a<=s.length->(∀x∈xs,0<=x/\x<256)->s.length+1 - a<=f -> rdCs s f a false l=(l++xs,s.length,false)
 | [],l,f,a,h,ha,_,hf=>by
  obtain⟨g,rfl⟩:∃g,f=g+1:=⟨f - 1,by omega⟩
  have:s.length - a=0:=by rw[<- List.length_drop,h];rfl
  rw[rdCs,if_neg (by omega),List.append_nil];have:a=s.length:=by omega
  rw[this]
 | x::xs,l,f,a,h,ha,hx,hf=>by
  obtain⟨g,rfl⟩:∃g,f=g+1:=⟨f - 1,by omega⟩
  rw[List.map_cons,List.flatten_cons]at h;have hx0:=hx x (qy8 ..);obtain⟨h1,h2,h3⟩:=Z6b false h ha hx0.1 (by show x<256;omega);rw[rdCs,if_pos ⟨by omega,rfl⟩,h1];simp only;rw[Zv0 xs _ g (a+1) h2 h3 (fun y hy=>hx y (qy10 _ hy)) (by omega)];simp
theorem Zqv {p:Pkt} (h:FormP p):begP (UInt8.ofNat (Z1o p % 256).toNat).toNat={ pD_Q p.kind with dup:=p.dup,qos:=p.qos,retain:=p.retain }:=by
 have hb:=(Zi0 p).1 h.bare;have hk:=h.kind;have hq:=h.qos;simp only[Z58,decide_eq_true_eq]at hk;have hf:0<=Z1o p/\Z1o p<256/\Z1o p / 16=p.kind:=by
  unfold Z1o bit;split
  ·split<;>split<;>omega
  ·split<;>omega
 have e1:(UInt8.ofNat (Z1o p % 256).toNat).toNat=(Z1o p).toNat:=by simp;omega
 rw[e1,begP];have e2:(((Z1o p).toNat / 16:Nat):Int)=p.kind:=by omega
 by_cases h3:p.kind=3
 ·rw[if_pos (by omega)];have hv:Z1o p=48+(bit p.dup 8+2*p.qos+bit p.retain 1):=by rw[Z1o,if_pos h3,h3];rfl
  unfold bit at hv;rw[h3];simp only[Pkt.mk.injEq,and_true,true_and];refine⟨?_,?_,?_⟩
  ·cases hd:p.dup<;>cases hr:p.retain<;>simp[hd,hr]at hv ⊢<;>omega
  ·cases hd:p.dup<;>cases hr:p.retain<;>simp[hd,hr]at hv ⊢<;>omega
  ·cases hd:p.dup<;>cases hr:p.retain<;>simp[hd,hr]at hv ⊢<;>omega
 ·rw[if_neg (by omega),e2];obtain⟨b1,b2,b3,-,-⟩:=hb.2.2.1 h3;rw[b1,b2,b3]
theorem Z14e {p:Pkt} (h:FormP p) {s:List UInt8} {a:Nat} (hs:s.drop a=Z28 p) (ha:a<=s.length) : Ze0 s { pD_Q p.kind with dup:=p.dup,qos:=p.qos,retain:=p.retain } a false=(p,s.length,false):=by
 have hb:=(Zi0 p).1 h.bare;have hk:=h.kind;have hno:=h.noid;have hask:=h.asks;have hcod:=h.codes;have hkeep:=h.keep;have hcode:=h.code;have hid:=h.id;have hcl:=h.client;have htp:=h.topic;have hqos:=h.qos;obtain⟨k,d,r,c,se,q,i,ke,co,cl,t,pl,az,cs⟩:=p;simp only[Z58,decide_eq_true_eq]at hk;simp only at hb hno hask hcod hkeep hcode hid hcl htp hqos hs ⊢;obtain⟨b1,b2,b3,b4,b5,b6⟩:=hb;have hend:∀{x:Nat},s.drop x=[]->x<=s.length->x=s.length:=fun {x} hx hx2=>by
  have:s.length - x=0:=by rw[<- List.length_drop,hx];rfl
  omega
 by_cases k1:k=1
 ·subst k1;obtain⟨rfl,rfl⟩:=b2 (by omega);obtain⟨rfl,rfl,rfl,rfl,rfl⟩:=b3 (by omega);obtain rfl:=b4 (by omega);obtain rfl:=b5 (by omega);obtain rfl:=b6 (by omega);have e:s.drop a=txtB [77,81,84,84]++(numB 1 4++(numB 1 (bit c 2)++(numB 2 ke++(txtB cl++[])))):=by
   rw[hs];simp[Z28,Z3x,idB]
  obtain⟨q1,q2,q3⟩:=Zge false e ha (by decide);obtain⟨r1,r2,r3⟩:=Z6b false q2 q3 (by omega) (by decide);obtain⟨s1,s2,s3⟩:=Z6b false r2 r3 (by unfold bit;split<;>omega) (by show bit c 2<256;unfold bit;split<;>omega);obtain⟨t1,t2,t3⟩:=Z6b false s2 s3 hkeep.1 (by show ke<65536;omega);obtain⟨u1,u2,u3⟩:=Zge false t2 t3 hcl;have hx:=hend u2 u3;have hbit:decide (bit c 2=2)=c:=by cases c<;>rfl
  simp only[Ze0,headD,if_true,Zff,q1,r1,s1,t1,u1,idD,idB,Z6w,hbit,hx];rfl
 by_cases k2:k=2
 ·subst k2;obtain⟨rfl,rfl,rfl⟩:=b1 (by omega);obtain⟨rfl,rfl,rfl,rfl,rfl⟩:=b3 (by omega);obtain rfl:=b4 (by omega);obtain rfl:=b5 (by omega);obtain rfl:=b6 (by omega);have e:s.drop a=numB 1 (bit se 1)++(numB 1 co++[]):=by
   rw[hs];simp[Z28,Z3x,idB]
  obtain⟨r1,r2,r3⟩:=Z6b false e ha (by unfold bit;split<;>omega) (by show bit se 1<256;unfold bit;split<;>omega);obtain⟨s1,s2,s3⟩:=Z6b false r2 r3 hcode.1 (by show co<256;omega);have hx:=hend s2 s3;have hbit:decide (bit se 1=1)=se:=by cases se<;>rfl
  simp only[Ze0,headD,if_true,r1,s1,idD,idB,Z6w,hbit,hx];rfl
 by_cases k3:k=3
 ·subst k3;obtain⟨rfl,rfl,rfl⟩:=b1 (by omega);obtain⟨rfl,rfl⟩:=b2 (by omega);obtain rfl:=b5 (by omega);obtain rfl:=b6 (by omega);by_cases hq:q=1
  ·subst hq;have e:s.drop a=txtB t++(numB 2 i++pl):=by
    rw[hs];simp[Z28,Z3x,idB]
   obtain⟨q1,q2,q3⟩:=Zge false e ha htp;obtain⟨r1,r2,r3⟩:=Z6b false q2 q3 hid.1 (by show i<65536;omega);have hd:headD s ⟨3,d,r,false,false,1,0,0,0,[],[],[],[],[]⟩ a false=(⟨3,d,r,false,false,1,0,0,0,[],t,[],[],[]⟩,a+2+t.length,false):=by simp only[headD,q1];rfl
   have hi2:idD s (⟨3,d,r,false,false,1,0,0,0,[],t,[],[],[]⟩,a+2+t.length,false)=(⟨3,d,r,false,false,1,i,0,0,[],t,[],[],[]⟩,a+2+t.length+2,false):=by simp only[idD,r1];rfl
   rw[Ze0,hd,hi2];simp only[Z6w,if_true,r2]
  ·have hq0:q=0:=by omega
   subst hq0;obtain rfl:=hno (by simp[idB]);have e:s.drop a=txtB t++pl:=by rw[hs];simp[Z28,Z3x,idB]
   obtain⟨q1,q2,q3⟩:=Zge false e ha htp;have hd:headD s ⟨3,d,r,false,false,0,0,0,0,[],[],[],[],[]⟩ a false=(⟨3,d,r,false,false,0,0,0,0,[],t,[],[],[]⟩,a+2+t.length,false):=by simp only[headD,q1];rfl
   have hi2:idD s (⟨3,d,r,false,false,0,0,0,0,[],t,[],[],[]⟩,a+2+t.length,false)=(⟨3,d,r,false,false,0,0,0,0,[],t,[],[],[]⟩,a+2+t.length,false):=rfl;rw[Ze0,hd,hi2];simp only[Z6w,if_true,q2]
 obtain⟨rfl,rfl,rfl⟩:=b1 k1;obtain⟨rfl,rfl⟩:=b2 k2;obtain⟨rfl,rfl,rfl,rfl,rfl⟩:=b3 k3;have hh:∀x:Pkt,x.kind=k->headD s x a false=(x,a,false):=fun x hx=>by unfold headD;rw[hx,if_neg k1,if_neg k2,if_neg k3]
 rw[Ze0,hh _ rfl];have hhB:∀x:Pkt,x.kind=k->Z3x x=[]:=fun x hx=>by unfold Z3x;rw[hx,if_neg k1,if_neg k2,if_neg k3]
 rw[Z28,hhB _ rfl]at hs;by_cases k4:k=4\/(8<=k/\k<=11)
 ·have hidb:∀x:Pkt,x.kind=k->idB x=true:=fun x hx=>by
   simp only[idB,hx,decide_eq_true_eq];omega
  rw[if_pos (hidb _ rfl)]at hs;have e:s.drop a=numB 2 i++((az.map (Z1j k)).flatten++(cs.map (numB 1)).flatten):=by rw[hs];simp
  obtain⟨r1,r2,r3⟩:=Z6b false e ha hid.1 (by show i<65536;omega);have hi2:idD s (⟨k,false,false,false,false,0,0,0,0,[],[],[],[],[]⟩,a,false)=(⟨k,false,false,false,false,0,i,0,0,[],[],[],[],[]⟩,a+2,false):=by unfold idD;rw[if_pos (hidb _ rfl)];simp only[r1]
  rw[hi2,Z6w];simp only;rw[if_neg k3];by_cases k5:k=8\/k=10
  ·obtain rfl:=b6 (by omega);rw[if_pos k5,Zuz az [] (Zr s (a+2) false) (a+2) (by rw[r2];simp) r3 hask (by rw[Zr,if_neg (by simp)];omega)];simp
  ·obtain rfl:=b5 (by omega);rw[if_neg k5];by_cases k6:k=9
   ·rw[if_pos k6,Zv0 cs [] (Zr s (a+2) false) (a+2) (by rw[r2];simp) r3 hcod (by rw[Zr,if_neg (by simp)];omega)];simp
   ·obtain rfl:=b6 k6;rw[if_neg k6,hend (by rw[r2];rfl) r3]
 ·have hidb:∀x:Pkt,x.kind=k->idB x=false:=fun x hx=>by
   simp only[idB,hx,decide_eq_false_iff_not];omega
  obtain rfl:=b4 (by omega);obtain rfl:=b5 (by omega);obtain rfl:=b6 (by omega);have e:s.drop a=[]:=by rw[hs,hidb _ rfl];simp
  have hi2:idD s (⟨k,false,false,false,false,0,0,0,0,[],[],[],[],[]⟩,a,false)=(⟨k,false,false,false,false,0,0,0,0,[],[],[],[],[]⟩,a,false):=by unfold idD;rw[if_neg (by rw[hidb _ rfl];simp)]
  rw[hi2,Z6w];simp only;rw[if_neg k3,if_neg (by omega),if_neg (by omega),hend e ha]
theorem Zgf {p:Pkt} (hl:(Z28 p).length<268435456) (t:List UInt8):getL (Z1b p++t) 1=((((Z28 p).length:Nat):Int),(((lngB 3 (Z28 p).length).length:Nat):Int),0):=by
 have e:(Z1b p++t).drop 1=lngB 3 (Z28 p).length++(Z28 p++t):=by rw[Z1b,List.append_assoc,List.append_assoc,List.drop_left' (Zb 1 _)]
 have hlen:1<=(Z1b p++t).length:=by simp[Z1b,Zb]
 rw[getL,if_pos (by omega)];have e1:(1:Int).toNat=1:=rfl;rw[e1,e,Zod _ 3 4 0 0 _ (by show (Z28 p).length<268435456;exact hl) (by omega) (.inl rfl)];simp[p7]
theorem Zv1 (p:Pkt):(Z1b p).getD 0 0=UInt8.ofNat (Z1o p % 256).toNat:=by
 have:numB 1 (Z1o p)=[UInt8.ofNat (Z1o p % 256).toNat]:=by simp[numB,pw,List.range_succ]
 rw[Z1b,this];rfl
theorem Zqw {p:Pkt} (h:FormP p) (hl:(Z28 p).length<268435456):Z82 (Z1b p)=(p,(Z1b p).length,false):=by
 have hg:=Zgf hl [];rw[List.append_nil]at hg;rw[Z82,hg,Zv1,Zqv h];have e:(1+(((lngB 3 (Z28 p).length).length:Nat):Int)).toNat=1+(lngB 3 (Z28 p).length).length:=by omega
 simp only[e];refine Z14e h ?_ (by simp[Z1b,Zb]);rw[Z1b];exact List.drop_left' (by rw[qy11,Zb])
theorem Zoe {s:List UInt8} {f:Bool} (h:chkT s f=0):s.length<=60:=by
 unfold chkT at h;split at h
 ·simp at h
 ·split at h
  ·simp at h
  ·omega
theorem Zqx (p:Pkt):(Z1r p).kind=p.kind:=by unfold Z1r;(repeat' split)<;>rfl
theorem Zv2 (p:Pkt):Z89 (Z1r p)=true↔Z1r p=pD_Q p.kind:=by simp only[Z89,decide_eq_true_eq,Zqx]
theorem Zgg {k:Int}:∀{l:List Ak},Zfd k l=0->∀a∈l,chkT a.1 true=0/\0<=a.2/\a.2<=1/\(k≠8->a.2=0)
 | [],_,a,ha=>by simp at ha
 | x::l,h,a,ha=>by
  unfold Zfd at h;generalize hX:(if k=8 then askE x else Z8a x)=X at h
  by_cases h0:X=0
  ·rw[if_pos h0]at h;rw[h0]at hX;rcases List.mem_cons.1 ha with rfl|ha
   ·by_cases hk:k=8
    ·rw[if_pos hk,askE]at hX;split at hX
     ·split at hX
      ·exact⟨‹_›,by omega,by omega,fun hh=>absurd hk hh⟩
      ·simp at hX
     ·exact absurd hX ‹_›
    ·rw[if_neg hk,Z8a]at hX;split at hX
     ·split at hX
      ·exact⟨‹_›,by omega,by omega,fun _=>‹_›⟩
      ·simp at hX
     ·exact absurd hX ‹_›
   ·exact Zgg h a ha
  ·rw[if_neg h0]at h;exact absurd h h0
theorem Zof {n:Nat} (h:Z3p n=0):1<=n/\n<=5:=by
 unfold Z3p at h;split at h
 ·simp at h
 ·split at h
  ·simp at h
  ·omega
theorem Zm2 {α:Type} (f:α->List UInt8) (m:Nat):∀l:List α,(∀a∈l,(f a).length<=m)->(l.map f).flatten.length<=l.length*m
 | [],_=>by simp
 | a::l,h=>by have h1:=Zm2 f m l fun x hx=>h x (qy10 _ hx);have h2:=h a (qy8 ..);simp only[List.map_cons,List.flatten_cons,qy11,List.length_cons,Nat.add_mul,Nat.one_mul];omega
theorem Z1v (t:List UInt8):(txtB t).length=t.length+2:=by rw[txtB,qy11,Zb];omega
theorem Zi1 {p:Pkt} (h:chkP p=0):FormP p/\(Z28 p).length<=1000:=by
 unfold chkP at h;split at h;rotate_left
 ·simp at h
 rename_i hk;split at h;rotate_left
 ·simp at h
 rename_i he;split at h
 ·rename_i h3;exact absurd h h3.2
 rename_i hp3;split at h
 ·simp at h
 rename_i hid;have hbare:=(Zv2 p).1 he;have hb:=(Zi0 p).1 hbare;have hk':=hk;simp only[Z58,decide_eq_true_eq]at hk';obtain⟨b1,b2,b3,b4,b5,b6⟩:=hb;have h1:p.client.length<=20/\0<=p.keep/\p.keep<65536:=by
  by_cases k:p.kind=1
  ·rw[Z21,if_pos k,Zjz]at h;split at h
   ·simp at h
   ·split at h
    ·split at h
     ·omega
     ·simp at h
    ·simp at h
  ·obtain⟨e1,e2,e3⟩:=b1 k;rw[e1,e3];simp
 have h2:0<=p.code/\p.code<256:=by
  by_cases k:p.kind=2
  ·rw[Z21,if_neg (by omega),if_pos k,Z6a]at h;split at h
   ·omega
   ·simp at h
  ·obtain⟨e1,e2⟩:=b2 k;omega
 have h3:p.topic.length<=60/\p.payload.length<=200/\0<=p.qos/\p.qos<=1/\(p.kind=3->p.qos=0->p.id=0):=by
  by_cases k:p.kind=3
  ·rw[Z21,if_neg (by omega),if_neg (by omega),if_pos k,pubE]at h;split at h
   ·have:=Zoe ‹_›;split at h
    ·simp at h
    ·split at h
     ·split at h
      ·simp at h
      ·rename_i hn;refine⟨this,by omega,by omega,by omega,fun _ hq=>?_⟩;exact Classical.byContradiction fun hi=>hn ⟨hq,.inr hi⟩
     ·simp at h
   ·exact absurd h ‹_›
  ·obtain⟨e1,e2,e3,e4,e5⟩:=b3 k;rw[e3,e4,e5];simp[k]
 have h4:p.asks.length<=5/\∀a∈p.asks,a.1.length<=60/\0<=a.2/\a.2<256/\(p.kind≠8->a.2=0):=by
  by_cases k:p.kind=8\/p.kind=10
  ·rw[Z21,if_neg (by omega),if_neg (by omega),if_neg (by omega),if_pos k,Zhz]at h;split at h
   ·have hc:=Zof ‹_›;refine⟨hc.2,fun a ha=>?_⟩;obtain⟨a1,a2,a3,a4⟩:=Zgg h a ha;exact⟨Zoe a1,a2,by omega,a4⟩
   ·exact absurd h ‹_›
  ·have e:=b5 (by omega);rw[e];simp
 have h5:p.codes.length<=5/\∀c∈p.codes,0<=c/\c<256:=by
  by_cases k:p.kind=9
  ·rw[Z21,if_neg (by omega),if_neg (by omega),if_neg (by omega),if_neg (by omega),if_pos k,Zby]at h;split at h
   ·have hc:=Zof ‹_›;refine⟨hc.2,fun c hcm=>?_⟩;split at h
    ·simp at h
    ·rename_i hn;have:Zfe c=false:=by
      cases hcb:Zfe c
      ·rfl
      ·exact absurd (List.any_eq_true.2 ⟨c,hcm,hcb⟩) hn
     simp only[Zfe,decide_eq_false_iff_not]at this;omega
   ·exact absurd h ‹_›
  ·have e:=b6 k;rw[e];simp
 have hid2:(0<=p.id/\p.id<65536)/\(idB p=false->p.id=0):=by
  by_cases hi:idB p=true
  ·have:1<=p.id/\p.id<=65535:=Classical.byContradiction fun hn=>hid ⟨hi,hn⟩;exact⟨by omega,fun hf=>by rw[hi]at hf;simp at hf⟩
  ·have h0:p.id=0:=by
    by_cases k:p.kind=3
    ·refine h3.2.2.2.2 k ?_;have:¬p.qos=1:=fun hq=>hi (by simp[idB,k,hq]);omega
    ·refine b4 fun hk2=>hi ?_;simp only[idB,decide_eq_true_eq];omega
   rw[h0];simp
 refine⟨⟨hk,hbare,h3.2.2.1 |> fun a=>⟨a,h3.2.2.2.1⟩,h1.2,h2,hid2.1,hid2.2,by omega,by omega,fun a ha=>?_,h5.2⟩,?_⟩
 ·obtain⟨a1,a2⟩:=h4.2 a ha;exact⟨by omega,a2⟩
 ·have e1:(Z3x p).length<=64:=by
   unfold Z3x;split
   ·simp only[qy11,Z1v,Zb,List.length_cons,List.length_nil];omega
   ·split
    ·simp only[qy11,Zb];omega
    ·split
     ·rw[Z1v];omega
     ·simp
  have e2:(if idB p=true then numB 2 p.id else []).length<=2:=by
   split
   ·rw[Zb];omega
   ·simp
  have e3:=Zm2 (Z1j p.kind) 63 p.asks fun a ha=>by
   have:=(h4.2 a ha).1;unfold Z1j;rw[qy11,Z1v];split
   ·rw[Zb];omega
   ·simp;omega
  have e4:=Zm2 (numB 1) 1 p.codes fun c _=>by rw[Zb];omega
  have e5:p.asks.length*63<=5*63:=Nat.mul_le_mul_right _ h4.1;unfold Z28;simp only[qy11];omega
theorem Zv3 (p:Pkt):Z1b p≠[]:=fun h=>by
 have:(Z1b p).length=0:=by rw[h];rfl
 rw[Z1b]at this;simp[Zb]at this
theorem Zv4 {p:Pkt} (h:chkP p=0):decD (Z1b p)=(p,0):=by obtain⟨hf,hl⟩:=Zi1 h;have hg:=Zgf (p:=p) (by omega) [];rw[List.append_nil]at hg;have hr:=Zqw hf (by omega);have hq:=hf.qos;rw[decD,if_neg (by rw[hg];simp[Zv3]),hr,if_neg,if_pos h];simp only[hf.kind];simp;omega
def encA (a:Ak):List Value:=[.string ⟨a.1.toArray⟩,.int .i64 a.2]
def Zg (n:Int):List Value:=[.int .i64 n]
abbrev aD:Ak:=([],0)
abbrev Z36 (w:World) (v:Value) (l:List Ak):Prop:=reads w v [.str,.int .i64] (l.map encA)
abbrev Z2h (w:World) (v:Value) (l:List Int):Prop:=reads w v [.int .i64] (l.map Zg)
theorem Z29 (w:World):Z36 w (.slice none 0 0) []:=⟨by simp,none,0,rfl,⟨fun _=>rfl,Nat.le_refl _⟩,fun h=>absurd rfl h⟩
theorem Z2t (w:World):Z2h w (.slice none 0 0) []:=⟨by simp,none,0,rfl,⟨fun _=>rfl,Nat.le_refl _⟩,fun h=>absurd rfl h⟩
theorem gA0 (l:List Ak) (i:Nat):Value.gS (((l.map encA).getD i []).getD 0 undef)=(l.getD i aD).1:=by simp only[qy1,List.getElem?_map];cases l[i]?<;>simp[encA,Value.gS,undef]
theorem gA1 (l:List Ak) (i:Nat):Value.gI (((l.map encA).getD i []).getD 1 undef)=(l.getD i aD).2:=by simp only[qy1,List.getElem?_map];cases l[i]?<;>simp[encA,Value.gI,undef]
theorem gI0 (l:List Int) (i:Nat):Value.gI (((l.map Zg).getD i []).getD 0 undef)=l.getD i 0:=by simp only[qy1,List.getElem?_map];cases l[i]?<;>simp[Zg,Value.gI,undef]
theorem Z17b (l:List Ak) (i:Nat) (h:i<l.length):l.drop i=l.getD i aD::l.drop (i+1):=by rw[List.drop_eq_getElem_cons h,qy1,qy7 h];rfl
theorem Z19e (l:List Int) (i:Nat) (h:i<l.length):l.drop i=l.getD i 0::l.drop (i+1):=by rw[List.drop_eq_getElem_cons h,qy1,qy7 h];rfl
def pV (p:Pkt) (u v:Value):Value:=.agg #[.int .i64 p.kind,.bool p.dup,.bool p.retain,.bool p.clean,.bool p.session,.int .i64 p.qos,.int .i64 p.id,.int .i64 p.keep,.int .i64 p.code,.string ⟨p.client.toArray⟩,.string ⟨p.topic.toArray⟩,.string ⟨p.payload.toArray⟩,sc1 u,sc1 v]
structure SmallP (p:Pkt):Prop where
 client:p.client.length<1000000000
 topic:p.topic.length<1000000000
 payload:p.payload.length<1000000000
 asks:p.asks.length<1000000000
 codes:p.codes.length<1000000000
 filt:∀a∈p.asks,a.1.length<1000000000
theorem SmallP.at_ {p:Pkt} (h:SmallP p) (i:Nat):(p.asks.getD i aD).1.length<1000000000:=by
 by_cases hi:i<p.asks.length
 ·rw[qy1,qy7 hi];exact h.filt _ (List.getElem_mem hi)
 ·rw[qy1,List.getElem?_eq_none (by omega)];decide
theorem SmallP.bare {p:Pkt} (h:SmallP p):SmallP (Z1r p):=by
 obtain⟨a,b,c,d,e,f⟩:=h;unfold Z1r
 (repeat' split)<;>exact⟨by simp_all,by simp_all,by simp_all,by simp_all,by simp_all,by first|exact f|(intro a ha;simp at ha)⟩
theorem Zm3 (w:World) (n:Int):Calls Tryz.prog 119 #[.int .i64 n] w fun e w'=>e=.returned (.bool (Z58 n))/\Mod [] w w':=by refine Z1 (Z7 (ρ:=[.i n]) sxE_ok Tryz.func119 Zc8 rfl rfl rfl ?_) rfl;simp only[Tree.goal,X.P,X.ev,SV.ev,CV.ev,Sc.ev,qz,QA,QB];exact⟨fun h w' hr=>⟨by simp[Z58,h],hr.mod⟩,fun h w' hr=>⟨by simp[Z58,h],hr.mod⟩⟩
theorem Zk0 (w:World) (s:List UInt8) (hs:s.length<1099511627776):Calls Tryz.prog 33 #[.string ⟨s.toArray⟩] w fun e w'=>e=.returned (.bool (cliB s))/\Mod [] w w':=by refine Z1 (Z7 (ρ:=[.s s]) sxE_ok Tryz.func33 Z4y rfl rfl rfl ?_) rfl;simp only[Tree.goal,X.P,X.ev,SV.ev,CV.ev,Sc.ev,qz,QA,QB,QC,QL,QM];refine⟨[.b (Z2w s)],rfl,fun _ w' _=>Zhj w' s hs,?_⟩;simp only[qz,QB];exact fun w' hr=>⟨by simp[cliB],hr.mod⟩
theorem Zv5 (w:World) (n:Nat):Calls Tryz.prog 264 #[.int .i64 n] w fun e w'=>e=.returned (.int .i64 (Z3p n))/\Mod [] w w':=by
 refine Z1 (Z7 (ρ:=[.i n]) sxE_ok Tryz.func264 Zba rfl rfl rfl ?_) rfl;simp only[Tree.goal,X.P,X.ev,SV.ev,CV.ev,Sc.ev,qz,QA];refine⟨fun h w' hr=>⟨?_,hr.mod⟩,fun h=>⟨fun h1 w' hr=>⟨?_,hr.mod⟩,fun h1 w' hr=>⟨?_,hr.mod⟩⟩⟩
 ·rw[Z3p,if_pos (by omega)]
 ·rw[Z3p,if_neg (by omega),if_pos (by omega)]
 ·rw[Z3p,if_neg (by omega),if_neg (by omega)]
theorem Z122 (w:World) (a:Ak) (h:a.1.length<1000000000):Calls Tryz.prog 221 #[.agg #[.string ⟨a.1.toArray⟩,.int .i64 a.2]] w fun e w'=>e=.returned (.int .i64 (askE a))/\Mod [] w w':=by
 refine Z1 (Z7 (ρ:=[.s a.1,.i a.2]) sxE_ok Tryz.func221 Zdj rfl rfl rfl ?_) rfl;simp only[Tree.goal,X.P,X.ev,SV.ev,CV.ev,Sc.ev,qz,QA,QC,QL,QM];intro b;refine⟨[.i (chkT a.1 true)],rfl,fun _ w' _=>Zny w' _ (by omega),?_⟩;simp only[qz,QA];refine⟨fun h w' hr=>⟨by rw[askE,if_neg h],hr.mod⟩,fun h=>⟨fun h1 w' hr=>⟨?_,hr.mod⟩,fun h1 w' hr=>⟨?_,hr.mod⟩⟩⟩
 ·rw[askE,if_pos (qy9.1 h),if_neg h1]
 ·rw[askE,if_pos (qy9.1 h),if_pos (qy9.1 h1)]
section
variable (w:World) (p:Pkt) (u v:Value) (hu:Z36 w u p.asks) (hv:Z2h w v p.codes) (hs:SmallP p)
include hu hv
theorem Zzz:Calls Tryz.prog 123 #[pV p u v] w fun e w'=>e=.returned (.bool (idB p))/\Mod [] w w':=by
 refine Z1 (Z4 (ρ:=[.i p.kind,.b p.dup,.b p.retain,.b p.clean,.b p.session,.i p.qos,.i p.id,.i p.keep,.i p.code,.s p.client,.s p.topic,.s p.payload,.v u,.r (p.asks.map encA),.v v,.r (p.codes.map Zg)]) sxE_ok Tryz.func123 Zf6 rfl rfl (Rel.start2 (by simp[Ent.holds,Ent.wr,hu,hv,X.ev])) rfl rfl ?_) rfl;simp only[Tree.goal,X.P,X.ev,SV.ev,CV.ev,Sc.ev,qz,QA,QB,QL,QM];intro b;refine⟨fun h w' hr=>⟨?_,hr.mod⟩,fun h=>⟨fun h1 w' hr=>⟨?_,hr.mod⟩,fun h1=>⟨fun h2 w' hr=>⟨?_,hr.mod⟩,fun h2=>⟨fun h3 w' hr=>⟨?_,hr.mod⟩,fun h3=>⟨fun h4 w' hr=>⟨?_,hr.mod⟩,fun h4=>⟨fun h5 w' hr=>⟨?_,hr.mod⟩,fun h5 w' hr=>⟨?_,hr.mod⟩⟩⟩⟩⟩⟩⟩ <;>
  (simp only[idB,Ending.returned.injEq,Value.bool.injEq];first|exact decide_eq_decide.2 (by omega)|(symm;simp only[decide_eq_true_eq,decide_eq_false_iff_not];omega))
theorem Zqy:Calls Tryz.prog 202 #[pV p u v] w fun e w'=>e=.returned (.int .i64 (Z6a p))/\Mod [] w w':=by
 refine Z1 (Z4 (ρ:=[.i p.kind,.b p.dup,.b p.retain,.b p.clean,.b p.session,.i p.qos,.i p.id,.i p.keep,.i p.code,.s p.client,.s p.topic,.s p.payload,.v u,.r (p.asks.map encA),.v v,.r (p.codes.map Zg)]) sxE_ok Tryz.func202 Z8l rfl rfl (Rel.start2 (by simp[Ent.holds,Ent.wr,hu,hv,X.ev])) rfl rfl ?_) rfl;simp only[Tree.goal,X.P,X.ev,SV.ev,CV.ev,Sc.ev,qz,QA,QB,QL,QM];intro b;refine⟨fun h w' hr=>⟨by rw[Z6a,if_neg h],hr.mod⟩,fun h=>⟨fun h2 w' hr=>⟨?_,hr.mod⟩,fun h2 w' hr=>⟨?_,hr.mod⟩⟩⟩
 ·rw[Z6a,if_pos (qy9.1 h),if_pos h2]
 ·rw[Z6a,if_pos (qy9.1 h),if_neg h2]
include hs
theorem Z100:Calls Tryz.prog 120 #[pV p u v] w fun e w'=>e=.returned (.bool (Z89 p))/\Mod [] w w':=by
 refine Z1 (Z4 (ρ:=[.i p.kind,.b p.dup,.b p.retain,.b p.clean,.b p.session,.i p.qos,.i p.id,.i p.keep,.i p.code,.s p.client,.s p.topic,.s p.payload,.v u,.r (p.asks.map encA),.v v,.r (p.codes.map Zg)]) sxE_ok Tryz.func120 Zb0 rfl rfl (Rel.start2 (by simp[Ent.holds,Ent.wr,hu,hv,X.ev])) rfl rfl ?_) rfl;have h1:=hs.client;have h2:=hs.topic;have h3:=hs.payload;have h4:=hs.asks;have h5:=hs.codes;simp only[Tree.goal,X.P,X.ev,SV.ev,CV.ev,Sc.ev,qz,QA,QB,QC,QD,QL,QM,qy3,qy11];intro b;refine⟨.inr (by omega),.inr (by omega),.inr (by omega),fun w' hr=>⟨?_,hr.mod⟩⟩;obtain⟨k,d,r,c,se,q,i,ke,co,cl,t,pl,az,cs⟩:=p;simp only[Z89,Ending.returned.injEq,Value.bool.injEq,Pkt.mk.injEq];have e1:((az.length:Int)+(cs.length:Int)=0)↔az=[]/\cs=[]:=by rw[<- List.length_eq_zero_iff,<- List.length_eq_zero_iff];omega
 rw[Bool.eq_iff_iff];simp only[Bool.and_eq_true,Bool.not_eq_true',decide_eq_true_eq,e1,List.append_eq_nil_iff];constructor<;>(intro h;simp_all)
theorem Zqz:Calls Tryz.prog 201 #[pV p u v] w fun e w'=>e=.returned (.int .i64 (Zjz p))/\Mod [] w w':=by
 refine Z1 (Z4 (ρ:=[.i p.kind,.b p.dup,.b p.retain,.b p.clean,.b p.session,.i p.qos,.i p.id,.i p.keep,.i p.code,.s p.client,.s p.topic,.s p.payload,.v u,.r (p.asks.map encA),.v v,.r (p.codes.map Zg)]) sxE_ok Tryz.func201 Z8o rfl rfl (Rel.start2 (by simp[Ent.holds,Ent.wr,hu,hv,X.ev])) rfl rfl ?_) rfl;have h1:=hs.client;simp only[Tree.goal,X.P,X.ev,SV.ev,CV.ev,Sc.ev,qz,QA,QC,QL,QM];intro b;refine⟨fun h w' hr=>⟨by rw[Zjz,if_pos h],hr.mod⟩,fun h=>?_⟩;refine⟨[.b (cliB p.client)],rfl,fun _ w' _=>Zk0 w' _ (by omega),?_⟩;simp only[qz,QB];refine⟨fun h2 w' hr=>⟨by rw[Zjz,if_neg h,if_neg h2],hr.mod⟩,fun h2=>⟨fun h3 w' hr=>⟨?_,hr.mod⟩,fun h3 w' hr=>⟨?_,hr.mod⟩⟩⟩
 ·rw[Zjz,if_neg h,if_pos (qy9.1 h2),if_neg h3]
 ·rw[Zjz,if_neg h,if_pos (qy9.1 h2),if_pos (qy9.1 h3)]
theorem Zgh:Calls Tryz.prog 122 #[pV p u v] w fun e w'=>e=.returned (.int .i64 (pubE p))/\Mod [] w w':=by
 refine Z1 (Z4 (ρ:=[.i p.kind,.b p.dup,.b p.retain,.b p.clean,.b p.session,.i p.qos,.i p.id,.i p.keep,.i p.code,.s p.client,.s p.topic,.s p.payload,.v u,.r (p.asks.map encA),.v v,.r (p.codes.map Zg)]) sxE_ok Tryz.func122 Z8k rfl rfl (Rel.start2 (by simp[Ent.holds,Ent.wr,hu,hv,X.ev])) rfl rfl ?_) rfl;have h1:=hs.topic;simp only[Tree.goal,X.P,X.ev,SV.ev,CV.ev,Sc.ev,qz,QA,QB,QC,QL,QM];intro b;refine⟨[.i (chkT p.topic false)],rfl,fun _ w' _=>Zjk w' _ (by omega),?_⟩;simp only[qz,QA];refine⟨fun h w' hr=>⟨by rw[pubE,if_neg h],hr.mod⟩,fun h=>?_⟩;have h:=qy9.1 h;refine⟨fun h2 w' hr=>⟨by rw[pubE,if_pos h,if_pos h2],hr.mod⟩,fun h2=>⟨fun h3 w' hr=>⟨?_,hr.mod⟩,fun h3=>⟨fun h4 w' hr=>⟨?_,hr.mod⟩,fun h4 w' hr=>⟨?_,hr.mod⟩⟩⟩⟩
 ·rw[pubE,if_pos h,if_neg h2,if_neg h3]
 ·rw[pubE,if_pos h,if_neg h2,if_pos (qy9.1 h3),if_pos h4]
 ·rw[pubE,if_pos h,if_neg h2,if_pos (qy9.1 h3),if_neg h4]
theorem Zv6:Calls Tryz.prog 203 #[pV p u v] w fun e w'=>e=.returned (.int .i64 (Zhz p))/\Mod [] w w':=by
 refine Z1 (Z4 (ρ:=[.i p.kind,.b p.dup,.b p.retain,.b p.clean,.b p.session,.i p.qos,.i p.id,.i p.keep,.i p.code,.s p.client,.s p.topic,.s p.payload,.v u,.r (p.asks.map encA),.v v,.r (p.codes.map Zg)]) sxE_ok Tryz.func203 Zcc rfl rfl (Rel.start2 (by simp[Ent.holds,Ent.wr,hu,hv,X.ev])) rfl rfl ?_) rfl;have h1:=hs.asks;have hf:=hs.at_;simp only[Tree.goal,X.P,X.ev,SV.ev,CV.ev,Sc.ev,qz,QA,QC,QD,QH,QJ,QK,QL,QM,Nat.reduceAdd,qy3];intro b;refine⟨[.i (Z3p p.asks.length)],rfl,fun _ w' _=>Zv5 w' _,?_⟩;simp only[qz,QA,QL,QM];refine⟨fun h w' hr=>⟨by rw[Zhz,if_neg h],hr.mod⟩,fun h=>?_⟩;have h:=qy9.1 h;rw[Zhz,if_pos h];refine⟨fun vs=>∃(i:Nat) (x:V),vs=[x,.i i]/\i<=p.asks.length/\Zfd p.kind (p.asks.drop i)=Zfd p.kind p.asks,fun vs=>p.asks.length - (vs.getD 1 (.i 0)).toI.toNat,⟨0,_,rfl,by omega,rfl⟩,?_⟩;rintro _ - ⟨i,x,rfl,hi,hg⟩;simp only[qz,QA,QL,QM,qy4,gA0,gA1];refine⟨fun h2=>⟨by omega,fun b=>⟨fun hk=>?_,fun hk=>?_⟩⟩,fun h2 w' hr=>⟨?_,hr.mod⟩⟩
 ·rw[Z17b _ _ (by omega),Zfd,if_pos hk]at hg;refine⟨[.i (askE (p.asks.getD i aD))],rfl,fun _ w' _=>Z122 w' _ (hf i),?_⟩;simp only[qz,QA];refine⟨fun h3 w' hr=>⟨by rw[<- hg,if_neg h3],hr.mod⟩,fun h3=>⟨by omega,by omega,⟨i+1,x,rfl,by omega,?_⟩,by omega⟩⟩;rw[<- hg,if_pos (qy9.1 h3)]
 ·rw[Z17b _ _ (by omega),Zfd,if_neg hk]at hg;have:=hf i;refine⟨[.i (chkT (p.asks.getD i aD).1 true)],rfl,fun _ w' _=>Zny w' _ (by omega),?_⟩;simp only[qz,QA];refine⟨fun h3 w' hr=>⟨?_,hr.mod⟩,fun h3=>⟨fun h4 w' hr=>⟨?_,hr.mod⟩,fun h4=>⟨by omega,by omega,⟨i+1,x,rfl,by omega,?_⟩,by omega⟩⟩⟩
  ·have e:Z8a (p.asks.getD i aD)=chkT (p.asks.getD i aD).1 true:=by rw[Z8a,if_neg h3]
   rw[<- hg,e,if_neg h3]
  ·have e:Z8a (p.asks.getD i aD)=1:=by rw[Z8a,if_pos (qy9.1 h3),if_neg h4]
   rw[<- hg,e];rfl
  ·have e:Z8a (p.asks.getD i aD)=0:=by rw[Z8a,if_pos (qy9.1 h3),if_pos (qy9.1 h4)]
   rw[<- hg,e];rfl
 ·have:i=p.asks.length:=by omega
  subst this;rw[List.drop_length]at hg;rw[<- hg];rfl
theorem Z101:Calls Tryz.prog 204 #[pV p u v] w fun e w'=>e=.returned (.int .i64 (Zby p))/\Mod [] w w':=by
 refine Z1 (Z4 (ρ:=[.i p.kind,.b p.dup,.b p.retain,.b p.clean,.b p.session,.i p.qos,.i p.id,.i p.keep,.i p.code,.s p.client,.s p.topic,.s p.payload,.v u,.r (p.asks.map encA),.v v,.r (p.codes.map Zg)]) sxE_ok Tryz.func204 Zb8 rfl rfl (Rel.start2 (by simp[Ent.holds,Ent.wr,hu,hv,X.ev])) rfl rfl ?_) rfl;have h1:=hs.codes;simp only[Tree.goal,X.P,X.ev,SV.ev,CV.ev,Sc.ev,qz,QA,QD,QH,QJ,QK,QL,QM,Nat.reduceAdd,qy3];intro b;refine⟨[.i (Z3p p.codes.length)],rfl,fun _ w' _=>Zv5 w' _,?_⟩;simp only[qz,QA,QL,QM];refine⟨fun h w' hr=>⟨by rw[Zby,if_neg h],hr.mod⟩,fun h=>?_⟩;have h:=qy9.1 h;rw[Zby,if_pos h];refine⟨fun vs=>∃(i:Nat) (x:V),vs=[x,.i i]/\i<=p.codes.length/\(p.codes.drop i).any Zfe=p.codes.any Zfe,fun vs=>p.codes.length - (vs.getD 1 (.i 0)).toI.toNat,⟨0,_,rfl,by omega,rfl⟩,?_⟩;rintro _ - ⟨i,x,rfl,hi,hg⟩;simp only[qz,QA,qy4,gI0];refine⟨fun h2=>?_,fun h2=>?_⟩
 ·rw[Z19e _ _ (by omega),List.any_cons]at hg;refine⟨by omega,fun h3 w' hr=>⟨?_,hr.mod⟩,fun h3=>⟨by omega,by omega,⟨i+1,x,rfl,by omega,?_⟩,by omega⟩⟩
  ·have e:Zfe (p.codes.getD i 0)=true:=by simp only[Zfe,decide_eq_true_eq];exact⟨h3.1.1,h3.1.2,h3.2⟩
   rw[<- hg,e];rfl
  ·have e:Zfe (p.codes.getD i 0)=false:=by
    simp only[Zfe,decide_eq_false_iff_not];exact fun h4=>h3 ⟨⟨h4.1,h4.2.1⟩,h4.2.2⟩
   rw[<- hg,e];rfl
 ·have:i=p.codes.length:=by omega
  subst this;rw[List.drop_length]at hg;rw[<- hg];exact⟨fun h3=>absurd h3 (by omega),fun h3 w' hr=>⟨rfl,hr.mod⟩⟩
end
end Go.Proofs.YtkhakgbnfapifaaGreatDoor
namespace Go.Proofs.YtkhakgbnfapifaaGreatDoor
open Go.Sx
abbrev wV (x:Wt):Value:=.agg #[.string ⟨x.1.toArray⟩,.string ⟨x.2.1.toArray⟩,.int .i64 x.2.2]
theorem c_Or (w:World) (v:Value) (x y:Int) (hv:reads w v [.int .i64] [[.int .i64 x],[.int .i64 y]]):Calls Tryz.prog 222 #[sc1 v] w fun e w'=>e=.returned (.int .i64 (if x=0 then y else x))/\Mod [] w w':=by
  refine Z1 (Z4 (ρ:=[.v v,.r [[.int .i64 x],[.int .i64 y]]]) sxE_ok Tryz.func222 Zdo rfl rfl (Rel.start2 (by simp[Ent.holds,Ent.wr,hv,X.ev])) rfl rfl ?_) rfl;simp only[Tree.goal,X.P,X.ev,SV.ev,CV.ev,Sc.ev,qz,QA,QD,QH,QJ,QK,QL,QM,Nat.reduceAdd];refine⟨fun vs=>∃(i:Nat) (u:V),vs=[u,.i i]/\i<=2/\(1<=i->x=0)/\(2<=i->y=0),fun vs=>2 - (vs.getD 1 (.i 0)).toI.toNat,⟨0,_,rfl,by omega,fun h=>by omega,fun h=>by omega⟩,?_⟩;rintro _ - ⟨i,u,rfl,hi,h1,h2⟩;have h3:i=0\/i=1\/i=2:=by omega
  rcases h3 with rfl|rfl|rfl
  . simp only[qz,QA];refine⟨fun _=>⟨by omega,fun h w' hr=>⟨?_,hr.mod⟩,fun h=>⟨by omega,by omega,⟨1,_,rfl,by omega,fun _=>?_,fun h=>by omega⟩,by simp⟩⟩,fun h=>by simp at h⟩
    . rw[if_neg (show ¬x=0 from h)];rfl
    . exact qy9.1 h
  . have hx:=h1 (Nat.le_refl _);simp only[qz,QA];refine⟨fun _=>⟨by omega,fun h w' hr=>⟨?_,hr.mod⟩,fun h=>⟨by omega,by omega,⟨2,_,rfl,by omega,fun _=>hx,fun _=>?_⟩,by simp⟩⟩,fun h=>by simp at h⟩
    . rw[if_pos hx];rfl
    . exact qy9.1 h
  . have hx:=h1 (by omega);have hy:=h2 (by omega);simp only[qz,QA];refine⟨fun h=>by simp at h,fun _ w' hr=>⟨?_,hr.mod⟩⟩;rw[if_pos hx,hy]
theorem Zm4 (w:World) (a b:Wt):Calls Tryz.prog 153 #[wV a,wV b] w fun e w'=>e=.returned (.int .i64 (cmpP (ky a) (ky b)))/\Mod [] w w':=by refine Z1 (Z7 (ρ:=[.s a.1,.s a.2.1,.i a.2.2,.s b.1,.s b.2.1,.i b.2.2]) (sxE_ok.joins _) Tryz.func153 Zdh rfl rfl rfl ?_) rfl;simp only[Tree.goal,X.P,X.ev,SV.ev,CV.ev,Sc.ev,qz,QC,QL,QM];intro b1 b2;refine⟨[.i (Z35 a.1 b.1)],rfl,fun _ w' _=>Z69 w' _ _,?_⟩;simp only[qz,QL,QM];refine⟨[.i (Z35 a.2.1 b.2.1)],rfl,fun _ w' _=>Z69 w' _ _,?_⟩;simp only[qz,QE,QL,QM];intro v;refine⟨[.i (cmpP (ky a) (ky b))],rfl,fun _ w' hr=>c_Or w' v _ _ (hr.at_ 0 rfl).reads,?_⟩;simp only[qz,QA];exact fun w' hr=>⟨by trivial,hr.mod⟩
def Z4g (x:Wt):Int:=if cliB x.1=true then askE (x.2.1,x.2.2) else 1
theorem Z14f (w:World) (x:Wt) (hs:smW x):Calls Tryz.prog 152 #[wV x] w fun e w'=>e=.returned (.int .i64 (Z4g x))/\Mod [] w w':=by have h1:=hs.1;have h2:=hs.2;refine Z1 (Z7 (ρ:=[.s x.1,.s x.2.1,.i x.2.2]) sxE_ok Tryz.func152 Zhh rfl rfl rfl ?_) rfl;simp only[Tree.goal,X.P,X.ev,SV.ev,CV.ev,Sc.ev,qz,QA,QC,QL,QM];intro b1;refine⟨[.b (cliB x.1)],rfl,fun _ w' _=>Zk0 w' _ (by omega),?_⟩;simp only[qz,QB,QL,QM];refine⟨fun h w' hr=>⟨by rw[Z4g,if_neg h],hr.mod⟩,fun h=>?_⟩;have h:=qy9.1 h;refine⟨[.i (askE (x.2.1,x.2.2))],rfl,fun _ w' _=>Z122 w' (x.2.1,x.2.2) h2,?_⟩;simp only[qz,QA];exact fun w' hr=>⟨by rw[Z4g,if_pos h],hr.mod⟩
def Zfg:Option Ky->List Wt->Int
  | _,[]=>0
  | p,k::l=>if Z4g k≠0 then Z4g k else if (p.any fun t=>!(ltP t (ky k)))=true then 4 else Zfg (some (ky k)) l
def Z12 (l:List Wt):Int:=if 20<(l.length:Int) then 2 else Zfg none l
def Zv7 (l:List Wt) (i:Nat):Option Ky:=if i=0 then none else some (ky (l.getD (i - 1) wD_V))
theorem Zv8 (l:List Wt) (i:Nat):((Zv7 l i).any fun t=>!(ltP t (ky (l.getD i wD_V))))=true↔(0<(i:Int)/\0<=cmpP (ky (l.getD (i - 1) wD_V)) (ky (l.getD i wD_V))):=by
  unfold Zv7;rw[Z142];by_cases h:i=0
  . simp[h]
  . rw[if_neg h];simp only[Option.any_some,Bool.not_eq_true'];exact⟨fun h2=>⟨by omega,h2⟩,fun h2=>h2.2⟩
theorem Zr0 {l:List Wt} {i:Nat} (h:i<l.length):Zfg (Zv7 l i) (l.drop i)=if Z4g (l.getD i wD_V)≠0 then Z4g (l.getD i wD_V)
    else if 0<(i:Int)/\0<=cmpP (ky (l.getD (i - 1) wD_V)) (ky (l.getD i wD_V)) then 4 else Zfg (Zv7 l (i+1)) (l.drop (i+1)):=by
  rw[Z140 l i h,Zfg];simp only[Zv8];rfl
theorem Zr1 (w:World) (v:Value) (l:List Wt) (hv:Z3i w v l) (hs:Z2z l) (hl:l.length<1000000000):Calls Tryz.prog 69 #[sc1 v] w fun e w'=>e=.returned (.int .i64 (Z12 l))/\Mod [] w w':=by
  refine Z1 (Z4 (ρ:=[.v v,.r (l.map Zc)]) sxE_ok Tryz.func69 Zdm rfl rfl (Rel.start2 (by simp[Ent.holds,Ent.wr,hv,X.ev])) rfl rfl ?_) rfl;simp only[Tree.goal,X.P,X.ev,SV.ev,CV.ev,Sc.ev,qz,QA,QC,QD,QH,QJ,QK,QL,QM,Nat.reduceAdd,qy3,Z2x,Z2y,Z5m];refine⟨fun h w' hr=>⟨by rw[Z12,if_pos h],hr.mod⟩,fun h=>?_⟩;rw[Z12,if_neg h];refine⟨fun vs=>∃(i:Nat) (x:V),vs=[x,.i i]/\i<=l.length/\Zfg (Zv7 l i) (l.drop i)=Zfg none l,fun vs=>l.length - (vs.getD 1 (.i 0)).toI.toNat,⟨0,_,rfl,by omega,rfl⟩,?_⟩;rintro _ - ⟨i,x,rfl,hi,hg⟩;simp only[qz,QA,QL,QM,qy4];have hi1:((i:Int) - 1).toNat=i - 1:=by omega
  try rw[hi1]
  refine⟨fun h1=>⟨by omega,fun b=>?_⟩,fun h1 w' hr=>⟨?_,hr.mod⟩⟩
  . rw[Zr0 (by omega)]at hg;refine⟨[.i (Z4g (l.getD i wD_V))],rfl,fun _ w' _=>Z14f w' _ (Zly hs i),?_⟩;simp only[qz,QA,QL,QM];try rw[hi1]
    refine⟨fun h2 w' hr=>⟨?_,hr.mod⟩,fun h2=>⟨by omega,by omega,by omega,by omega,?_⟩⟩
    . rw[if_pos h2]at hg;rw[<- hg]
    . rw[if_neg h2]at hg;refine⟨[.i (cmpP (ky (l.getD (i - 1) wD_V)) (ky (l.getD i wD_V)))],rfl,fun _ w' _=>Zm4 w' (l.getD (i - 1) wD_V) (l.getD i wD_V),?_⟩;simp only[qz,QA];refine⟨fun h6 w' hr=>⟨?_,hr.mod⟩,fun h6=>⟨by omega,by omega,⟨i+1,x,rfl,by omega,?_⟩,by omega⟩⟩
      . rw[if_pos h6]at hg;rw[<- hg]
      . rw[if_neg h6]at hg;exact hg
  . have:i=l.length:=by omega
    subst this;rw[List.drop_length]at hg;rw[<- hg];rfl
theorem Zaa:∀(l:List Wt) (p:Option Ky),Zfg p l=0↔(∀k∈l,Z4g k=0)/\Za7 l/\∀t,p=some t->∀k∈l,ltP t (ky k)=true
  | [],p=>by simp[Zfg,Za7]
  | k::l,p=>by
    rw[Zfg];constructor
    . intro h;split at h
      . exact absurd h (by assumption)
      rename_i h1;split at h
      . exact absurd h (by decide)
      rename_i h5;obtain⟨i1,i2,i3⟩:=(Zaa l (some (ky k))).1 h;refine⟨fun x hx=>?_,List.pairwise_cons.2 ⟨fun x hx=>i3 _ rfl x hx,i2⟩,fun t ht x hx=>?_⟩
      . rcases List.mem_cons.1 hx with rfl|hx
        . exact qy9.1 h1
        . exact i1 x hx
      . subst ht;have h6:ltP t (ky k)=true:=by simpa using h5
        rcases List.mem_cons.1 hx with rfl|hx
        . exact h6
        . exact Z5n h6 (i3 _ rfl x hx)
    . rintro⟨i1,i2,i3⟩;obtain⟨j1,j2⟩:=List.pairwise_cons.1 i2;rw[if_neg (by simpa using i1 k (qy8 ..)),if_neg]
      . exact(Zaa l (some (ky k))).2 ⟨fun x hx=>i1 x (qy10 _ hx),j2,fun t ht x hx=>by cases ht;exact j1 x hx⟩
      . cases p with
        | none=>simp
        | some t=>simpa using i3 t rfl k (qy8 ..)
theorem Z16 {l:List Wt}:Z12 l=0↔l.length<=20/\(∀k∈l,Z4g k=0)/\Za7 l:=by
  unfold Z12;constructor
  . intro h;split at h
    . exact absurd h (by decide)
    . obtain⟨a,b,-⟩:=(Zaa l none).1 h;exact⟨by omega,a,b⟩
  . rintro⟨a,b,c⟩;rw[if_neg (by omega)];exact(Zaa l none).2 ⟨b,c,fun t ht=>by cases ht⟩
theorem Zv9 {v:Value} (hn:(match v with | .slice none _ _=>true|_=>false)=true) {w:World} {ks:List Kd} {rows:List (List Value)} (h:reads w v ks rows):rows=[]:=by obtain⟨_,a,cap,rfl,_,h2⟩:=h;refine Classical.byContradiction fun hne=>?_;obtain⟨ad,rfl,_⟩:=h2 hne;simp at hn
theorem Z47 (w:World) (v:Value) (l:List Wt) (hv:Z3i w v l) (hl:l.length<1000000000):Calls Tryz.prog 206 #[sc1 v] w fun e w'=>∃v',e=.returned (sc1 v')/\Zdy w' v' l/\(∀k,Z2 v' k->w.heap.size<=k)/\Mod [] w w':=by
  refine Z1 (Z4 (ρ:=[.v v,.r (l.map Zc)]) sxE_ok Tryz.func206 Z2p rfl rfl (Rel.start2 (by simp[Ent.holds,Ent.wr,hv,X.ev])) rfl rfl ?_) rfl;simp only[Tree.goal,X.P,X.ev,SV.ev,CV.ev,Sc.ev,qz,QA,QB,QD,QE,QK,QL,QM,qy3];refine⟨fun h w' hr=>?_,fun h v1=>⟨by simp only[Int.natCast_zero];omega,fun v2 w' hr=>?_⟩⟩
  . have hn:l=[]:=List.map_eq_nil_iff.1 (Zv9 h hv);subst hn;exact⟨_,rfl,hr.at_ 0 rfl,hr.fresh 0 rfl,hr.mod⟩
  . exact⟨v2,rfl,hr.at_ 0 rfl,hr.fresh 0 rfl,hr.mod⟩
theorem Z123 (w:World) (s v:Value) (l:List Wt) (x:Wt) (i:Nat) (hs:Zdy w s l) (hv:Zdy w v [x]) (hne:∀k,Z2 s k->Z2 v k->False) (hi:i<=l.length) (hl:l.length<1000000) : Calls Tryz.prog 236 #[sc1 s,.int .i64 i,sc1 v] w fun e w'=>∃v',e=.returned (sc1 v')/\Zdy w' v' (l.take i++[x]++l.drop i)/\(∀k,Z2 v' k->Z2 s k\/w.heap.size<=k)/\Mod s.ownBlock.toList w w':=by rw[hs.reads.sc1,hv.reads.sc1];refine(Zun w s v i _ _ hs hv hne (by simpa using hi) (by simp;omega)).mono ?_;rintro e w' ⟨v',rfl,g1,g2,g3⟩;refine⟨v',by rw[g1.reads.sc1],?_,g2,Mod.of_grown g3 fun k hk=>.inl (Option.mem_toList.2 hk)⟩;rw[Zdy,List.map_append,List.map_append,List.map_take,List.map_drop];exact g1
theorem Zcs {ρ:List V} {g:List Nat} {i:Nat} (hi:i∈g) {k:Nat} (h:Z2 (ρ.getD i (.i 0)).toV k):k∈Z10 ρ g:=List.mem_flatMap.2 ⟨i,hi,by rw[h];simp⟩
def newW (n:Nat) (u:Value):Prop:=∀k,Z2 u k->n<=k
theorem Zi2 (n:Nat):newW n (.slice none 0 0):=fun k hk=>by simp[Z2,Value.ownBlock]at hk
theorem Zbz (w:World):Z3i w (.slice none 0 0) []:=⟨by simp,none,0,rfl,⟨fun _=>rfl,Nat.le_refl _⟩,fun h=>absurd rfl h⟩
def Z17c (w w':World) (e:Ending) (r:List Wt) (er:Int):Prop:=∃v',e=.returned (.tuple #[sc1 v',.int .i64 er])/\Z3i w' v' r/\newW w.heap.size v'/\Mod [] w w'
def rawW (l:List Wt) (x:Wt):List Wt×Int :=
  if hasW l (ky x)=true then (l.set (idxW l (ky x)) x,0)
  else if (l.length:Int)=20 then ([],2) else (l.take (idxW l (ky x))++[x]++l.drop (idxW l (ky x)),0)
theorem Zct (R:List Wt) (m:Nat) (x:Wt):(R.map Zc).set m [.string ⟨x.1.toArray⟩,.string ⟨x.2.1.toArray⟩,.int .i64 x.2.2]=(R.set m x).map Zc:=by rw[List.map_set];rfl
theorem Z17d (w:World) (v:Value) (l:List Wt) (x:Wt) (hv:Z3i w v l) (hs:Za7 l) (hl:l.length<=20):Calls Tryz.prog 174 #[sc1 v,wV x] w fun e w'=>Z17c w w' e (rawW l x).1 (rawW l x).2:=by
  refine Z1 (Z4 (ρ:=[.v v,.r (l.map Zc),.s x.1,.s x.2.1,.i x.2.2]) sxE_ok Tryz.func174 Zhi rfl rfl (Rel.start2 (by simp[Ent.holds,Ent.wr,hv,X.ev])) rfl rfl ?_) rfl;simp only[Tree.goal,X.P,X.ev,SV.ev,CV.ev,Sc.ev,qz,QA,QC,QE,QH,QJ,QK,QL,QM,Nat.reduceAdd];intro b1 w1 hr;refine(Z47 w1 v l (by (first|exact hr.at_ 0 rfl|exact hr.at_ 1 rfl|exact hr.at_ 2 rfl|exact hr.at_ 3 rfl|exact hr.at_ 4 rfl|exact hr.at_ 5 rfl|exact hr.at_ 6 rfl|exact hr.at_ 7 rfl|exact hr.at_ 8 rfl)) (by omega)).mono ?_;rintro e w2 ⟨u,rfl,a1,f1,m1⟩;refine⟨[.v u,.r (l.map Zc)],rfl,rfl,m1,qy5 _,qy2.2 ⟨⟨a1,fun k hk=>.inl (f1 k hk)⟩,qy5 _⟩,Z3,?_⟩;clear hr a1 f1 m1;simp only[qz,QD,QE,QL,QM,qy3,Z2x,Z2y,Z5m];intro b3;refine⟨fun vs=>∃(i j:Nat),vs=[.i i,.i j]/\i<=j/\j<=l.length/\(∀k,k<i->ltP (ky (l.getD k wD_V)) (ky x)=true)/\(∀k,j<=k->k<l.length->ltP (ky (l.getD k wD_V)) (ky x)=false),fun vs=>(vs.getD 1 (.i 0)).toI.toNat - (vs.getD 0 (.i 0)).toI.toNat,⟨0,l.length,rfl,by omega,by omega,fun k hk=>by omega,fun k h1 h2=>by omega⟩,?_⟩;rintro _ - ⟨i,j,rfl,hij,hj,hA,hB⟩;simp only[qz,QA,QE,QL,QM,qy4];refine⟨fun h1=>?_,fun h1=>?_⟩
  . rw[Z19b i j (by omega)];obtain⟨h,hh⟩:∃h,h=(i+j) / 2:=⟨_,rfl⟩
    rw[<- hh];have hh1:i<=h/\h<j:=by omega
    simp only[qy4];refine⟨by omega,by omega,by omega,by omega,by omega,by omega,?_⟩;refine⟨[.i (cmpP (ky (l.getD h wD_V)) (ky x))],rfl,fun _ w' _=>Zm4 w' (l.getD h wD_V) x,?_⟩;simp only[qz,QA];rw[Zue];refine⟨fun h2=>⟨by omega,by omega,⟨h+1,j,rfl,by omega,hj,fun k hk=>?_,hB⟩,by omega⟩,fun h2=>⟨⟨i,h,rfl,by omega,by omega,hA,fun k hk1 hk2=>?_⟩,by omega⟩⟩
    . by_cases hkh:k=h
      . rw[hkh];exact h2
      . exact Z5n (Zo5 hs (i:=k) (j:=h) (by omega) (by omega)) h2
    . have h3:ltP (ky (l.getD h wD_V)) (ky x)=false:=by simpa using h2
      by_cases hkh:k=h
      . rw[hkh];exact h3
      . cases h4:ltP (ky (l.getD k wD_V)) (ky x) with
        | false=>rfl
        | true =>
          have:=Z5n (Zo5 hs (i:=h) (j:=k) (by omega) hk2) h4;rw[h3]at this;cases this
  . have hie:i=j:=by omega
    subst hie;have e:=Zug (i:=i) hj hA hB;refine⟨by omega,by omega,fun h2=>?_,fun h2=>?_⟩
    . refine⟨[.i (cmpP (ky (l.getD i wD_V)) (ky x))],rfl,fun _ w' _=>Zm4 w' (l.getD i wD_V) x,?_⟩;simp only[qz,QA,QE,QL,QM];rw[Zuf];refine⟨fun h3=>⟨by omega,fun w3 hr=>?_⟩,fun h3=>⟨fun h4 w3 hr=>?_,fun h4 u2 w3 hr=>?_⟩⟩
      . have hh:hasW l (ky x)=true:=by rw[hasW,<- e];exact decide_eq_true ⟨by omega,h3⟩
        rw[rawW,if_pos hh,<- e];refine⟨u,rfl,?_,hr.fresh 1 rfl,hr.mod⟩;have h0:=(hr.at_ 1 rfl).reads;rw[Z3i,<- Zct];exact h0
      . have hh:¬hasW l (ky x)=true:=by rw[hasW,<- e,decide_eq_true_eq];exact fun h=>h3 h.2
        rw[rawW,if_neg hh,if_pos h4];exact⟨_,rfl,Zbz _,Zi2 _,hr.mod⟩
      . have hh:¬hasW l (ky x)=true:=by rw[hasW,<- e,decide_eq_true_eq];exact fun h=>h3 h.2
        rw[rawW,if_neg hh,if_neg h4,<- e];refine(Z123 w3 u u2 l x i (by (first|exact hr.at_ 0 rfl|exact hr.at_ 1 rfl|exact hr.at_ 2 rfl|exact hr.at_ 3 rfl|exact hr.at_ 4 rfl|exact hr.at_ 5 rfl|exact hr.at_ 6 rfl|exact hr.at_ 7 rfl|exact hr.at_ 8 rfl)) (by (first|exact hr.at_ 0 rfl|exact hr.at_ 1 rfl|exact hr.at_ 2 rfl|exact hr.at_ 3 rfl|exact hr.at_ 4 rfl|exact hr.at_ 5 rfl|exact hr.at_ 6 rfl|exact hr.at_ 7 rfl|exact hr.at_ 8 rfl)) (fun k h5 h6=>hr.sep.disj (i:=2) (j:=0) rfl rfl (by omega) (.inl rfl) (k:=k) h5 h6) (by omega) (by omega)).mono ?_;rintro e w4 ⟨v',rfl,g1,g2,g3⟩;refine⟨[.v v',.r ((l.take i++[x]++l.drop i).map Zc)],rfl,rfl,g3.mono fun k hk=>.inl (by unfold Zu;exact List.mem_append_right _ (Zcs (i:=7) (by simp) (Option.mem_toList.1 hk))),qy5 _,qy2.2 ⟨⟨g1,fun k hk=>?_⟩,qy5 _⟩,Z3,?_⟩;(· rcases g2 k hk with h5|h5;(· exact .inr (.inr (Zcs (i:=7) (by simp) h5)));(· exact .inl h5));(· intro w5 hr5;exact⟨v',rfl,(hr5.at_ 0 rfl).reads,hr5.fresh 0 rfl,hr5.mod⟩)
    . have hh:¬hasW l (ky x)=true:=by rw[hasW,<- e,decide_eq_true_eq];exact fun h=>h2 (by omega)
      refine⟨fun h4 w3 hr=>?_,fun h4 u2 w3 hr=>?_⟩
      . rw[rawW,if_neg hh,if_pos h4];exact⟨_,rfl,Zbz _,Zi2 _,hr.mod⟩
      . rw[rawW,if_neg hh,if_neg h4,<- e];refine(Z123 w3 u u2 l x i (by (first|exact hr.at_ 0 rfl|exact hr.at_ 1 rfl|exact hr.at_ 2 rfl|exact hr.at_ 3 rfl|exact hr.at_ 4 rfl|exact hr.at_ 5 rfl|exact hr.at_ 6 rfl|exact hr.at_ 7 rfl|exact hr.at_ 8 rfl)) (by (first|exact hr.at_ 0 rfl|exact hr.at_ 1 rfl|exact hr.at_ 2 rfl|exact hr.at_ 3 rfl|exact hr.at_ 4 rfl|exact hr.at_ 5 rfl|exact hr.at_ 6 rfl|exact hr.at_ 7 rfl|exact hr.at_ 8 rfl)) (fun k h5 h6=>hr.sep.disj (i:=2) (j:=0) rfl rfl (by omega) (.inl rfl) (k:=k) h5 h6) (by omega) (by omega)).mono ?_;rintro e w4 ⟨v',rfl,g1,g2,g3⟩;refine⟨[.v v',.r ((l.take i++[x]++l.drop i).map Zc)],rfl,rfl,g3.mono fun k hk=>.inl (by unfold Zu;exact List.mem_append_right _ (Zcs (i:=7) (by simp) (Option.mem_toList.1 hk))),qy5 _,qy2.2 ⟨⟨g1,fun k hk=>?_⟩,qy5 _⟩,Z3,?_⟩;(· rcases g2 k hk with h5|h5;(· exact .inr (.inr (Zcs (i:=7) (by simp) h5)));(· exact .inl h5));(· intro w5 hr5;exact⟨v',rfl,(hr5.at_ 0 rfl).reads,hr5.fresh 0 rfl,hr5.mod⟩)
theorem Z5o (p:Wt->Bool) (l:List Wt) (i:Nat) (h:i<l.length):(l.take (i+1)).filter p=(l.take i).filter p++(if p (l.getD i wD_V)=true then [l.getD i wD_V] else []):=by
  rw[Zlx l i h,List.filter_append];generalize l.getD i wD_V=o
  by_cases h1:p o=true<;>simp[h1]
theorem Zab {p:Wt->Bool} {l:List Wt} {i:Nat} (h:∀j,j<i->p (l.getD j wD_V)=true):(l.take i).filter p=l.take i:=by rw[List.filter_eq_self];intro x hx;obtain⟨j,hj,rfl⟩:=List.getElem_of_mem hx;simp only[List.length_take]at hj;have:=h j (by omega);rw[List.getElem_take];rwa [qy1,qy7 (by omega)]at this
theorem Ze1 {R l:List Wt} {a j:Nat} {p:Wt->Bool} (haj:a<j) (hj:j<l.length) (hR:R.length=l.length) (ht:R.take a=(l.take j).filter p) (hd:R.drop j=l.drop j) (hp:p (l.getD j wD_V)=true) : (R.set a (R.getD j wD_V)).take (a+1)=(l.take (j+1)).filter p:=by
  have hg:R.getD j wD_V=l.getD j wD_V:=by have:=congrArg (fun l=>l[0]?) hd;simp only[List.getElem?_drop,Nat.add_zero]at this;rw[qy1,qy1,this]
  rw[Z5o p l j hj,if_pos hp,<- ht,hg,Zlx _ _ (by simp;omega)];congr 1
  . rw[List.take_set_of_le (Nat.le_refl _)]
  . rw[qy1,List.getElem?_set_self (by omega)];rfl
theorem Z5p {R l:List Wt} {j:Nat} (hd:R.drop j=l.drop j):R.drop (j+1)=l.drop (j+1):=by have:=congrArg (fun l=>l.drop 1) hd;simpa [List.drop_drop,Nat.add_comm]using this
theorem Zk1 {R l:List Wt} {j:Nat} (hd:R.drop j=l.drop j):R.getD j wD_V=l.getD j wD_V:=by have:=congrArg (fun l=>l[0]?) hd;simp only[List.getElem?_drop,Nat.add_zero]at this;rw[qy1,qy1,this]
theorem Zm5 {l:List Wt} {x:Wt} (hs:Za7 l) (h0:(rawW l x).2=0):(rawW l x).1=loW l (ky x)++[x]++hiW l (ky x):=by
  have t1:=Zzr (n:=ky x) hs;have t2:=Zo6 (n:=ky x) hs;unfold rawW at h0 ⊢;rcases Zzs (n:=ky x) hs with ⟨h1,k,h2,h3⟩|⟨h1,h2⟩
  . rw[if_pos h1];simp only;have hlt:=(of_decide_eq_true h1).1;rw[List.set_eq_take_append_cons_drop,if_pos hlt,t1];have:l.drop (idxW l (ky x)+1)=hiW l (ky x):=by
      rw[<- List.drop_drop,t2,h2];rfl
    rw[this];simp
  . rw[if_neg (by rw[h1];decide)]at h0 ⊢;by_cases h4:(l.length:Int)=20
    . rw[if_pos h4]at h0;exact absurd h0 (by decide)
    . rw[if_neg h4];simp only;rw[t1,t2,h2,List.nil_append]
theorem Z14g {l:List Wt} {x:Wt} (h:Z12 l=0) (hx:Z4g x=0) (h0:(rawW l x).2=0):Z12 (rawW l x).1=0:=by
  obtain⟨a,b,c⟩:=Z16.1 h;refine Z16.2 ⟨?_,?_,?_⟩
  . unfold rawW at h0 ⊢;by_cases h1:hasW l (ky x)=true
    . rw[if_pos h1];simpa using a
    . rw[if_neg h1]at h0 ⊢;by_cases h4:(l.length:Int)=20
      . rw[if_pos h4]at h0;exact absurd h0 (by decide)
      . rw[if_neg h4];have:=Z143 l (ky x);simp;omega
  . rw[Zm5 c h0];intro k hk;rcases qy13.1 hk with hk|hk
    . rcases qy13.1 hk with hk|hk
      . exact b k (List.mem_filter.1 hk).1
      . rw[qy12.1 hk];exact hx
    . exact b k (List.mem_filter.1 hk).1
  . rw[Zm5 c h0];have q1:∀k∈loW l (ky x),ltP (ky k) (ky x)=true:=fun k hk=>(List.mem_filter.1 hk).2;have q2:∀k∈hiW l (ky x),ltP (ky x) (ky k)=true:=fun k hk=>(List.mem_filter.1 hk).2;refine List.pairwise_append.2 ⟨List.pairwise_append.2 ⟨c.filter _,List.pairwise_singleton _ _,fun a ha b hb=>?_⟩,c.filter _,fun a ha b hb=>?_⟩
    . rw[qy12.1 hb];exact q1 a ha
    . rcases qy13.1 ha with ha|ha
      . exact Z5n (q1 a ha) (q2 b hb)
      . rw[qy12.1 ha];exact q2 b hb
end Go.Proofs.YtkhakgbnfapifaaGreatDoor
namespace Go.Proofs.YtkhakgbnfapifaaGreatDoor
open Go Go.Sx Go.Sort
section
variable {α:Type} [Inhabited α] {enc:α->List Value} {k:Nat}
theorem Zgi (hk:∀x,(enc x).length=k) (k0:0<k) (ds:List α):(flatK enc k ds.toArray).toList=(ds.map enc).flatten:=by
 apply List.ext_getElem?;intro j;have hlen:((ds.map enc).flatten).length=ds.length*k:=by have:=Za (rows:=ds.map enc) (n:=k) (fun r hr=>by obtain⟨x,-,rfl⟩:=List.mem_map.1 hr;exact hk x);simpa using this
 by_cases hj:j<ds.length*k
 ·have e1:(flatK enc k ds.toArray).toList[j]?=some (enc ds.toArray[j / k]!)[j % k]!:=by
   rw[Array.getElem?_toList,Array.getElem?_eq_getElem (by simpa using hj),<- get_flatK enc k ds.toArray j (by simpa using hj),getElem!_pos _ j (by simpa using hj)]
  have hd:j / k<ds.length:=(Nat.div_lt_iff_lt_mul k0).2 hj;have hm:j % k<k:=Nat.mod_lt _ k0;have e2:=Z8e (rows:=ds.map enc) (n:=k) (fun r hr=>by obtain⟨x,-,rfl⟩:=List.mem_map.1 hr;exact hk x) (i:=j / k) (c:=j % k) hm;rw[show j / k*k+j % k=j by rw[Nat.mul_comm];exact Nat.div_add_mod j k]at e2;rw[e1,e2,List.getElem?_map,qy7 hd];simp only[Option.map_some,Option.bind_some];have e3:ds.toArray[j / k]! = ds[j / k]:=by rw[getElem!_pos _ _ (by simpa using hd)];simp
  rw[e3,qy7 (by rw[hk];exact hm)];congr 1
  rw[getElem!_pos _ _ (by rw[hk];exact hm)]
 ·rw[List.getElem?_eq_none (by simp;omega),List.getElem?_eq_none (by omega)]
theorem Ze2 {w:World} {g:Nat} {cur:Array Value} {e:TypeId} (hk:∀x,(enc x).length=k) (k0:0<k) {ds:List α} (hb:w.heap[g]?=some (.cells cur e (0,0))) (ht:cur.toList.take (ds.length*k)=(ds.map enc).flatten) : HoldsK enc k w g 0 ds.toArray:=by
 intro j hj;have hj':j<ds.length*k:=by simpa using hj
 refine⟨?_,by simp[World.frozen?,hb]⟩;have h1:(cur.toList.take (ds.length*k))[j]?=(flatK enc k ds.toArray).toList[j]?:=by rw[ht,Zgi hk k0]
 rw[List.getElem?_take_of_lt hj']at h1;simp only[World.cell?,hb,Nat.zero_add,Option.isSome_none,Bool.false_eq_true,if_false];have e:(flatK enc k ds.toArray)[j]! = (flatK enc k ds.toArray)[j]:=getElem!_pos _ j hj;rw[<- Array.getElem?_toList,h1,Array.getElem?_toList,Array.getElem?_eq_getElem hj,e];rfl
theorem Zk2 {w:World} {g n:Nat} {os:Array Obj} {cur:Array Value} {e:TypeId} {fr:Nat×Nat} (d:Array α) (hb:w.heap[g]?=some (.cells cur e fr)) : (sortWorldK enc k w g 0 n d os).heap[g]?=some (.cells (putCells id 0 (flatK enc k d) cur) e fr):=by have hg:g<w.heap.size:=(Array.getElem?_eq_some_iff.1 hb).1;unfold sortWorldK putRowK;rw[heap_grow_old _ _ (by simpa using hg)];simp[putRow,mapBlock,Sort.ahead,Array.getElem?_modify,hb,onCells]
theorem Ze3 {w:World} {g n:Nat} {os:Array Obj} (d:Array α):w.grownBy (sortWorldK enc k w g 0 n d os) (some g):=by unfold sortWorldK putRowK;refine⟨rfl,rfl,rfl,by simp,fun j hj hne=>?_⟩;rw[heap_grow_old _ _ (by simpa using hj)];have:g≠j:=fun e=>hne (by rw[e]);simp[putRow,mapBlock,Sort.ahead,Array.getElem?_modify,this]
theorem Ze4 {w:World} {base g cap n:Nat} {e:TypeId} {os:Array Obj} {cur:Array Value} {ts:List α} (hk:∀x,(enc x).length=k) (k0:0<k) (hbase:base<=g) (hb:w.heap[g]?=some (.cells cur e (0,0))) (h1:ts.length<=cap) (h2:cap<=maxLen) (h3:cur.size=cap*k) : (sortWorldK enc k w g 0 n ts.toArray os).ownsRow base e k (.slice (some ⟨g,0,none⟩) ts.length cap) ts.length (ts.map enc).flatten:=by
 have hlen:((ts.map enc).flatten).length=ts.length*k:=by have:=Za (rows:=ts.map enc) (n:=k) (fun r hr=>by obtain⟨x,-,rfl⟩:=List.mem_map.1 hr;exact hk x);simpa using this
 have hle:ts.length*k<=cur.size:=by rw[h3];exact Nat.mul_le_mul_right k h1
 refine⟨hlen,.inr ⟨g,cap,_,rfl,hbase,Zk2 _ hb,h1,h2,by simp[putCells,h3],?_⟩⟩;apply List.ext_getElem?;intro j;by_cases hj:j<ts.length*k
 ·rw[List.getElem?_take_of_lt hj,<- Zgi hk k0,Array.getElem?_toList,Array.getElem?_toList];have hj2:j<(flatK enc k ts.toArray).size:=by simpa using hj
  have e:(flatK enc k ts.toArray)[j]! = (flatK enc k ts.toArray)[j]:=getElem!_pos _ j hj2;rw[Array.getElem?_eq_getElem (by simp[putCells];omega),Array.getElem?_eq_getElem hj2,<- e];simp only[putCells,Array.getElem_mapIdx,Nat.zero_add,Nat.sub_zero];rw[if_pos ⟨Nat.zero_le _,hj2⟩];rfl
 ·rw[List.getElem?_take_eq_none (by omega),List.getElem?_eq_none (by omega)]
end
end Go.Proofs.YtkhakgbnfapifaaGreatDoor
namespace Go.Proofs
open Go.Shelf
def Tryz.sortR_ren:Go.Shelf.Ren:=⟨fun|6=>182|15=>240|14=>239|28=>298|29=>299|20=>290|21=>291|22=>292|23=>293|24=>294|25=>295|26=>296|27=>297|46=>326|47=>327|48=>328|49=>329|50=>330|57=>350|n=>n,fun|22=>64|24=>71|25=>204|3=>3|39=>207|0=>0|53=>297|55=>299|4=>4|46=>291|45=>290|50=>118|5=>5|9=>9|66=>320|70=>324|76=>341|77=>342|n=>n,fun|n=>n⟩
theorem Tryz.sortR:Go.Proofs.SlLaysF0.n6 Tryz.prog Tryz.sortR_ren:={
 mixed:=by kernel_rfl
 f6:=⟨Tryz.f182.name,by decide,Tryz.func182.trans (congrArg some (by kernel_rfl))⟩
 f14:=⟨Tryz.f239.name,by decide,Tryz.func239.trans (congrArg some (by kernel_rfl))⟩
 f15:=Tryz.func240.trans (congrArg some (by kernel_rfl))
 f20:=⟨Tryz.f290.name,by decide,Tryz.func290.trans (congrArg some (by kernel_rfl))⟩
 f21:=⟨Tryz.f291.name,by decide,Tryz.func291.trans (congrArg some (by kernel_rfl))⟩
 f22:=⟨Tryz.f292.name,by decide,Tryz.func292.trans (congrArg some (by kernel_rfl))⟩
 f23:=⟨Tryz.f293.name,by decide,Tryz.func293.trans (congrArg some (by kernel_rfl))⟩
 f24:=⟨Tryz.f294.name,by decide,Tryz.func294.trans (congrArg some (by kernel_rfl))⟩
 f25:=⟨Tryz.f295.name,by decide,Tryz.func295.trans (congrArg some (by kernel_rfl))⟩
 f26:=⟨Tryz.f296.name,by decide,Tryz.func296.trans (congrArg some (by kernel_rfl))⟩
 f27:=⟨Tryz.f297.name,by decide,Tryz.func297.trans (congrArg some (by kernel_rfl))⟩
 f28:=Tryz.func298.trans (congrArg some (by kernel_rfl))
 f29:=Tryz.func299.trans (congrArg some (by kernel_rfl))
 f46:=⟨Tryz.f326.name,by decide,Tryz.func326.trans (congrArg some (by kernel_rfl))⟩
 f47:=Tryz.func327.trans (congrArg some (by kernel_rfl))
 f48:=Tryz.func328.trans (congrArg some (by kernel_rfl))
 f49:=⟨Tryz.f329.name,by decide,Tryz.func329.trans (congrArg some (by kernel_rfl))⟩
 f50:=⟨Tryz.f330.name,by decide,Tryz.func330.trans (congrArg some (by kernel_rfl))⟩
 f57:=⟨Tryz.f350.name,by decide,Tryz.func350.trans (congrArg some (by kernel_rfl))⟩
 t0:=Tryz.underlying0
 a0:=Tryz.isAgg0
 z0:=Tryz.sizeOf0
 v0:=Tryz.zeroValue0
 t3:=Tryz.underlying3
 a3:=Tryz.isAgg3
 z3:=Tryz.sizeOf3
 v3:=Tryz.zeroValue3
 t4:=Tryz.underlying4
 a4:=Tryz.isAgg4
 z4:=Tryz.sizeOf4
 v4:=Tryz.zeroValue4
 t5:=Tryz.underlying5
 a5:=Tryz.isAgg5
 z5:=Tryz.sizeOf5
 v5:=Tryz.zeroValue5
 t9:=Tryz.underlying9
 a9:=Tryz.isAgg9
 z9:=Tryz.sizeOf9
 v9:=Tryz.zeroValue9
 t22:=Tryz.underlying64
 a22:=Tryz.isAgg64
 z22:=Tryz.sizeOf64
 v22:=Tryz.zeroValue64
 t25:=Tryz.underlying204
 a25:=Tryz.isAgg204
 z25:=Tryz.sizeOf204
 v25:=Tryz.zeroValue204
 t39:=Tryz.underlying207
 a39:=Tryz.isAgg207
 z39:=Tryz.sizeOf207
 v39:=Tryz.zeroValue207
 t45:=Tryz.underlying290
 a45:=Tryz.isAgg290
 z45:=Tryz.sizeOf290
 v45:=Tryz.zeroValue290
 t46:=Tryz.underlying291
 a46:=Tryz.isAgg291
 z46:=Tryz.sizeOf291
 v46:=Tryz.zeroValue291
 t50:=Tryz.underlying118
 a50:=Tryz.isAgg118
 z50:=Tryz.sizeOf118
 v50:=Tryz.zeroValue118
 t53:=Tryz.underlying297
 a53:=Tryz.isAgg297
 z53:=Tryz.sizeOf297
 v53:=Tryz.zeroValue297
 t55:=Tryz.underlying299
 a55:=Tryz.isAgg299
 z55:=Tryz.sizeOf299
 v55:=Tryz.zeroValue299
 t66:=Tryz.underlying320
 a66:=Tryz.isAgg320
 z66:=Tryz.sizeOf320
 v66:=Tryz.zeroValue320
 t70:=Tryz.underlying324
 a70:=Tryz.isAgg324
 z70:=Tryz.sizeOf324
 v70:=Tryz.zeroValue324
 t76:=Tryz.underlying341
 a76:=Tryz.isAgg341
 z76:=Tryz.sizeOf341
 v76:=Tryz.zeroValue341
 t77:=Tryz.underlying342
 a77:=Tryz.isAgg342
 z77:=Tryz.sizeOf342
 v77:=Tryz.zeroValue342 }
end Go.Proofs
namespace Go.Proofs.YtkhakgbnfapifaaGreatDoor
open Go Go.Sx Go.RowKit Go.Shelf Go.Lib Go.Sort
theorem lawS:Maps.Keyed Tryz.prog 9:=Maps.string_keyed Tryz.underlying9
theorem Z19f (w:World):(zeroValue 3).run Tryz.prog w=.ok (.int .i64 0) w:=by kernel_rfl
def Z8b (n:List UInt8) (l:List Wt) (D:DataW Unit):Prop :=
  Maps.IsMap D/\(∀c,Maps.has D (.string c)=(bst n c none l).isSome)/\∀c q,bst n c none l=some q->∀z,D.atKey (.string c) z=.lit (.int .i64 q)
theorem Zr2 (n:List UInt8):Z8b n [] (.map []):=⟨Maps.isMap_empty,fun c=>rfl,fun c q h=>by cases h⟩
theorem Zm6 {n:List UInt8} {l:List Wt} {D:DataW Unit} {x:Wt} (h:Z8b n l D) (hf:¬forW n x=true):Z8b n (l++[x]) D:=by
  have e:∀c,bst n c none (l++[x])=bst n c none l:=fun c=>by rw[Za8,if_neg (fun h=>hf h.1)]
  exact⟨h.1,fun c=>by rw[e];exact h.2.1 c,fun c q hq=>by rw[e]at hq;exact h.2.2 c q hq⟩
theorem Zva {n:List UInt8} {l:List Wt} {D:DataW Unit} (h:Z8b n l D) {c:List UInt8} {q:Int} (hat:D.atKey (.string c) (.lit (.int .i64 0))=.lit (.int .i64 q)):q=(bst n c none l).getD 0:=by
  cases hb:bst n c none l with
  | none =>
    have:=h.2.1 c;rw[hb]at this;rw[Maps.atKey_of_not_has this]at hat;simp only[DataW.lit.injEq,Lit.int.injEq,true_and]at hat;rw[<- hat];rfl
  | some q' =>
    rw[h.2.2 c q' hb]at hat;simp only[DataW.lit.injEq,Lit.int.injEq,true_and]at hat;rw[<- hat];rfl
theorem Zr3 {n:List UInt8} {l:List Wt} {D:DataW Unit} {x:Wt} {q:Int} (h:Z8b n l D) (hf:forW n x=true) (hq:q=max ((bst n x.1 none l).getD 0) x.2.2):Z8b n (l++[x]) (D.put (.string x.1) (.lit (.int .i64 q))):=by
  have e0:bst n x.1 none (l++[x])=some q:=by rw[Za8,if_pos ⟨hf,rfl⟩,hq]
  have e1:∀c,c≠x.1->bst n c none (l++[x])=bst n c none l:=fun c hc=>by rw[Za8,if_neg (fun h=>hc h.2.symm)]
  refine⟨h.1.put _ _,fun c=>?_,fun c q' hq' z=>?_⟩
  . by_cases hc:c=x.1
    . rw[hc,e0];exact Maps.has_put_same h.1 (show WideAt.IsKeyLit (.string x.1) from trivial) _
    . rw[e1 c hc,Maps.has_put_other (by simpa using hc)];exact h.2.1 c
  . by_cases hc:c=x.1
    . rw[hc,e0]at hq';cases hq';rw[hc];exact Maps.atKey_put_same h.1 (show WideAt.IsKeyLit (.string x.1) from trivial) _ _
    . rw[e1 c hc]at hq';rw[Maps.atKey_put_other (by simpa using hc)];exact h.2.2 c q' hq' z
theorem Z14h {w:World} {a:Addr} {u:Value} (h:w.cell? a=some u):a.block<w.heap.size:=by
  refine Classical.byContradiction fun hn=>?_;have:w.heap[a.block]?=none:=by simp;omega
  simp[World.cell?,this]at h
theorem Zbg {w w':World} {a:Addr} {u:Value} (h:w.cell? a=some u) (hb:Below w.heap.size w w'):w'.cell? a=some u:=by rw[<- h];exact World.cell?_of_block (hb.block _ (Z14h h))
theorem Zr4 {w:World} {ad:Addr} {cap:Nat} {l:List Wt} (hv:Z3i w (.slice (some ad) l.length cap) l) {k:Nat} (hk:k<l.length) : w.cell? (ad.add (k*3))=some (.string ⟨(l.getD k wD_V).1.toArray⟩)/\w.cell? ((ad.add (k*3)).add 1)=some (.string ⟨(l.getD k wD_V).2.1.toArray⟩)/\w.cell? ((ad.add (k*3)).add 2)=some (.int .i64 (l.getD k wD_V).2.2):=by
  have hr:(l.map Zc).getD k []=Zc (l.getD k wD_V):=by rw[qy1,qy1,List.getElem?_map,qy7 hk];rfl
  have key:∀c,c<3->w.cell? ((ad.add (k*3)).add c)=some ((Zc (l.getD k wD_V)).getD c undef):=fun c hc=>by obtain⟨ad',cap',e,h,-⟩:=hv.get (i:=k) (c:=c) (by rw[qy3];exact hk) hc;simp only[Value.slice.injEq,Option.some.injEq]at e;obtain⟨rfl,-,rfl⟩:=e;rw[hr]at h;rw[Addr.add_add];exact h
  refine⟨?_,key 1 (by decide),key 2 (by decide)⟩;have:=key 0 (by decide);rwa [Addr.add_zero']at this
theorem Zk3 {w w':World} (h:Mod [] w w'):w.grownBy w' none:=⟨h.os,h.tape,h.output,h.size,fun k hk _=>h.block k hk (by simp)⟩
theorem Ze5 (w:World) (o:Obj):(w.alloc o).heap[w.heap.size]?=some o:=by show (w.heap.push o)[w.heap.size]?=some o;simp
theorem Zi3 {w:World} {b:Nat} {cs:Array Value} {t:TypeId} (h:w.heap[b]?=some (.cells cs t (0,0))) (j:Nat):w.cell? ⟨b,j,none⟩=cs[j]?:=by simp[World.cell?,h]
theorem Z102 {x:Int} (h1:-9223372036854775808<=x) (h2:x<=9223372036854775807):(Lit.int .i64 x).wf=true:=WalkArith.wf_i64 (by omega)
theorem Z17e {c y:Int} (hc:(Lit.int .i64 c).wf=true) (h1:0<=y) (h2:y<=1):(Lit.int .i64 (max c y)).wf=true:=by simp[Lit.wf,IntKind.min,IntKind.max,IntKind.signed,IntKind.bits]at hc;exact Z102 (by omega) (by omega)
theorem Z14i:(Tryz.prog.info? 71).map (fun i=>(i.zero,i.size,i.bytes))=some (some (.agg #[.string ⟨#[]⟩,.int .i64 0]),2,24):=by kernel_rfl
theorem Zvb (w:World) (x y:Value) (t:TypeId):∀j u,[x,y][j]?=some u->(w.alloc (.cells #[x,y] t)).cell? ((⟨w.heap.size,0,none⟩:Addr).add j)=some u:=by
  intro j u hj;rw[Addr.add_lit,Zi3 (Ze5 w _)]
  match j,hj with
  | 0,hj=>exact hj
  | 1,hj=>exact hj
def Zvc (D:DataW Unit) (left:Lit->Bool) (ss:List Rd):Prop:=Collected D left (ss.map (·.1))/\∀x∈ss,∀z,D.atKey (.string x.1) z=.lit (.int .i64 x.2)
theorem Zm7 (D:DataW Unit):Zvc D (Maps.has D) []:=⟨Collected.start D,by simp⟩
theorem Zr5 {D:DataW Unit} {left:Lit->Bool} {ss:List Rd} (h:Zvc D left ss) {c:List UInt8} {q:Int} (hlk:left (.string c)=true) (hat:∀z,D.atKey (.string c) z=.lit (.int .i64 q)):Zvc D (fun z=>left z && !z.sameKey (.string c)) (ss++[(c,q)]):=by
  refine⟨by rw[List.map_append];exact h.1.step hlk hat,fun x hx=>?_⟩;rcases qy13.1 hx with hx|hx
  . exact h.2 x hx
  . rw[qy12.1 hx];exact hat
theorem Zk4 {n:List UInt8} {l:List Wt} {D:DataW Unit} {left:Lit->Bool} {ss ts:List Rd} (hD:Z8b n l D) (h:Zvc D left ss) (hl:∀k,left k=false) (hp:ts.Perm ss) (hs:∀i j,(hij:i<j)->(hj:j<ts.length)->Zf ts[j].1 (ts[i]'(Nat.lt_trans hij hj)).1=false):okY n ts l:=by
  have hnd:(ts.map (·.1)).Nodup:=(hp.map _).nodup_iff.2 h.1.1;refine⟨?_,fun c q=>?_⟩
  . rw[Zuj,List.pairwise_iff_getElem];intro i j hi hj hij;rcases Z78.1 (hs i j hij hj) with h1|h1
    . exact h1
    . rw[List.nodup_iff_pairwise_ne,List.pairwise_iff_getElem]at hnd;have:=hnd i j (by simpa using hi) (by simpa using hj) hij;simp only[List.getElem_map]at this;exact absurd h1 this
  . rw[hp.mem_iff];constructor
    . intro hm;have h1:=h.2 _ hm;have h2:=(h.1.2 c).1 (List.mem_map.2 ⟨_,hm,rfl⟩);have h3:=hD.2.1 c;rw[h2.1]at h3;cases hb:bst n c none l with
      | none=>rw[hb]at h3;cases h3
      | some q' =>
        have h4:=hD.2.2 c q' hb .nil;rw[h1]at h4;simp only[DataW.lit.injEq,Lit.int.injEq,true_and]at h4;rw[h4]
    . intro hb;have h3:=hD.2.1 c;rw[hb]at h3;obtain⟨x,hx,hxc⟩:=List.mem_map.1 ((h.1.2 c).2 ⟨h3,hl _⟩);have h1:=h.2 x hx .nil;have h4:=hD.2.2 c q hb .nil;rw[hxc,h4]at h1;simp only[DataW.lit.injEq,Lit.int.injEq,true_and]at h1;rw[show (c,q)=x from Prod.ext hxc.symm h1];exact hx
def cmpY (x y:Rd):Int:=Z35 x.1 y.1
theorem Zac (x y:Rd):ltOf cmpY x y=Zf x.1 y.1:=by
  unfold ltOf cmpY;have:=@Za6 x.1 y.1;cases h:Zf x.1 y.1 with
  | true=>exact decide_eq_true (this.2 h)
  | false=>exact decide_eq_false (fun h2=>by rw[this.1 h2]at h;cases h)
theorem swoY:Sort.SWO (ltOf cmpY) where
  irrefl x:=by rw[Zac];exact Z20 _
  trans x y z h1 h2:=by rw[Zac]at *;exact Zx h1 h2
  ntrans x y z h1 h2:=by
    rw[Zac]at *;rcases Z78.1 h1 with h1|h1<;>rcases Z78.1 h2 with h2|h2
    . exact Z5l (Zx h2 h1)
    . rw[h2];exact Z5l h1
    . rw[<- h1];exact Z5l h2
    . rw[h2,h1];exact Z20 _
theorem Z19g (x y:Rd) (W:World):Calls Tryz.prog 183 #[.agg (encY x).toArray,.agg (encY y).toArray] W fun e w'=>e=.returned (.int .i64 (cmpY x y))/\∃q os',w'=grow (W.drewN q) os':=by
  have hcon:∀W',Calls Tryz.prog 162 #[.string ⟨x.1.toArray⟩,.string ⟨y.1.toArray⟩] W' fun e w'=>e=.returned (.int .i64 (cmpY x y))/\w'=W':=fun W'=>by refine(Any.strings_Compare Tryz.lays106 ⟨x.1.toArray⟩ ⟨y.1.toArray⟩ W').mono ?_;rintro e w' ⟨rfl,rfl⟩;rw[Zdx];exact⟨rfl,rfl⟩
  simp only[encY];generalize cmpY x y=r at hcon ⊢
  go_enter Tryz.func183,Tryz.ntmps183
  go_wp2_with (go_at_call 162;refine(hcon _).mono ?_;rintro e w' ⟨rfl,rfl⟩)
  go_ret
  exact⟨rfl,0,_,by rw[alloc_eq_grow,alloc_eq_grow,grow_grow];rfl⟩
theorem Z103 (x:Rd):∀v∈encY x,v.oneCell'=true:=by intro v hv;simp only[encY,List.mem_cons,List.not_mem_nil,or_false]at hv;rcases hv with rfl|rfl<;>rfl
set_option maxRecDepth 100000 in
theorem Z14j (w:World) (f:Value):Calls Tryz.prog 290 #[.slice none 0 0,.int .i64 0,.int .i64 0,f] w fun e w'=>e=.returned (.tuple #[])/\w'=w:=by
  go_enter Tryz.func290,Tryz.ntmps290
  go_wp2
  refine wp_loop_rounds 1 ?_;rw[rounds_succ];go_wp2
  go_end0
  exact⟨rfl,rfl⟩
set_option maxRecDepth 100000 in
theorem Z14k (w:World) (f:Value) (n:Int):Calls Tryz.prog 239 #[.slice none 0 0,.int .i64 0,.int .i64 0,.int .i64 n,f] w fun e w'=>e=.returned (.tuple #[])/\w'=w:=by
  go_enter Tryz.func239,Tryz.ntmps239
  go_wp2
  refine wp_loop_rounds 1 ?_;rw[rounds_succ];go_wp2_with (go_at_call 290;refine(Z14j _ _).mono ?_;rintro e w' ⟨rfl,rfl⟩)
  (try simp only[Exit.inBlock,Exit.then])
  refine bodyPost_ret (results_none rfl _ _ _) rfl ?_;exact⟨rfl,rfl⟩
set_option maxRecDepth 100000 in
theorem Z104 (w:World):Calls Tryz.prog 182 #[.slice none 0 0,.func (.func 183) #[] #[]] w fun e w'=>e=.returned (.tuple #[])/\Mod [] w w':=by
  have hl:∀W,Calls Tryz.prog 240 #[.int .u64 0] W fun e w'=>e=.returned (.int .i64 (Lib.bitLen 0:Nat))/\w'=W:=fun W =>
    Any.bits_Len (SlLaysF0.n15.bits (P:=Tryz.prog) (ρ:=Tryz.sortR_ren) { Tryz.sortR with }) 0 W (by omega) (by omega)
  go_enter Tryz.func182,Tryz.ntmps182
  go_wp2_with (first|(go_at_call 240;refine(hl _).mono ?_;rintro e w' ⟨rfl,rfl⟩)|(go_at_call 239;refine(Z14k _ _ _).mono ?_;rintro e w' ⟨rfl,rfl⟩))
  go_end0
  exact⟨rfl,Mod.refl _ _⟩
theorem size_map {w:World} {P:Program} {k:TypeId} {R:Value->Option (DataW Unit×List MemPlace)} {b n:Nat} {D:DataW Unit} (h:w.ownsMap P k R b n D):Maps.size D<=n:=by obtain⟨es,clock,hb,F,hn,rfl⟩:=h;simpa [Maps.size,length_sorted]using hn
theorem Z105 {w:World} {base e k:Nat} {v:Value} {n:Nat} {xs:List Value} (h:w.ownsRow base e k v n xs):w.ownsRow 0 e k v n xs :=
  ⟨h.1,h.2.imp id fun ⟨g,cap,cur,a,b,r⟩=>⟨g,cap,cur,a,Nat.zero_le _,r⟩⟩
theorem Zvd (w:World):Z145 w (.slice none 0 0) []:=⟨by simp,rfl,.inl ⟨rfl,rfl⟩⟩
theorem Zve (ts:List Rd):∀r∈ts.map encY,rowOk kY r:=by intro r hr;obtain⟨x,-,rfl⟩:=List.mem_map.1 hr;exact⟨⟨_,rfl⟩,⟨_,rfl⟩,trivial⟩
set_option maxRecDepth 100000 in
theorem Z14l (w:World) (a:Option Addr) (cap:Nat) (l:List Wt) (n:List UInt8) (hv:Z3i w (.slice a l.length cap) l) (hs:Z2z l) (hn:n.length<1000000000) (hl:l.length<1000000) (hq:∀x∈l,0<=x.2.2/\x.2.2<=1) : Calls Tryz.prog 104 #[.slice a l.length cap,.string ⟨n.toArray⟩] w fun e w'=>∃v' rs,e=.returned v'/\Z145 w' v' rs/\newW w.heap.size v'/\okY n rs l/\Mod [] w w':=by
  have hv0:=hv;obtain⟨hrow,a',cap',e1,⟨hc1,hc2⟩,hcells⟩:=hv;simp only[Value.slice.injEq,qy3]at e1;obtain⟨rfl,-,rfl⟩:=e1;have hmm:=@run_makeMap Tryz.prog;go_enter Tryz.func104,Tryz.ntmps104
  go_wp2
  go_loopw [14] (fun i wr=>∃(k:Nat) (D:DataW Unit),k<=l.length/\i=.int .i64 k/\wr.ownsMap Tryz.prog 9 (plainElem Tryz.prog 3) w.heap.size k D/\Z8b n (l.take k) D/\Below w.heap.size w wr)
    (fun i _=>l.length - (intOf i).toNat)
  case atStart=>exact⟨0,_,Nat.zero_le _,rfl,World.ownsMap_made _ _ _ _,Zr2 n,(Below.refl _ _).alloc (Nat.le_refl _) _⟩
  case round =>
    obtain⟨k,D,hk,rfl,hown,hD,hnx⟩:=hrel;by_cases hlt:k<l.length
    . obtain⟨ad,rfl,hcell⟩:=hcells (fun e=>by rw[List.map_eq_nil_iff]at e;rw[e]at hlt;exact Nat.not_lt_zero _ hlt);obtain⟨q0,q1,q2⟩:=Zr4 hv0 hlt;have h0:=Zbg q0 hnx;have h1:=Zbg q1 hnx;have h2:=Zbg q2 hnx;have hx1:=hs _ (memW l k hlt);have htk:=Zlx l k hlt;have hq1:=hq _ (memW l k hlt);generalize l.getD k wD_V=x at h0 h1 h2 hx1 htk hq1
      rw[Addr.add_succ']at h1 h2;clear q0 q1 q2;generalize hA:ad.add (k*3)=A at h0 h1 h2
      have hkey:keyOf Tryz.prog 9 (.string ⟨x.1.toArray⟩)=some (.string x.1):=by have:=WideMaps.keyOf_string_mk Tryz.underlying9 (s:=⟨x.1.toArray⟩) (by have:=hx1.1;simp[ByteArray.size,maxLen];omega);simpa using this
      have hc:=Z13q (wr.alloc (.cells #[.string ⟨x.1.toArray⟩,.string ⟨x.2.1.toArray⟩,.int .i64 x.2.2] 90)) x.2.1 n (by have:=hx1.2;omega) (by omega);go_wp2_with (first
        | (go_at_call 181;refine hc.mono ?_;rintro e w2 ⟨rfl,gm⟩
           have g1:=Zk3 gm;have hown2:=(hown.alloc (.cells #[.string ⟨x.1.toArray⟩,.string ⟨x.2.1.toArray⟩,.int .i64 x.2.2] 90)).kept g1 (by simp);have hnx2:=(hnx.alloc hnx.size (.cells #[.string ⟨x.1.toArray⟩,.string ⟨x.2.1.toArray⟩,.int .i64 x.2.2] 90)).grown g1 (by have:=hnx.size;simp;omega) (fun j hj=>by cases hj);have hbl:=g1.block wr.heap.size (by simp) (by simp);simp only[Ze5]at hbl;have c0:=Zi3 hbl 0;have c1:=Zi3 hbl 1;have c2:=Zi3 hbl 2)
        | (at_lookup;refine wpList_lookup_own_int _ rfl _ _ 202 rfl 9 3 .i64 lawS Tryz.underlying202 Tryz.underlying3 (Z19f _) w.heap.size k _ rfl hown2 _ _ rfl hkey ?_;intro c hat hwc)
        | (at_mapUpdate;refine wpList_mapUpdate_own _ rfl _ _ _ 202 rfl 9 3 lawS Tryz.underlying202 _ w.heap.size k _ rfl hown2 (by unfold maxLen;omega) _ _ _ rfl rfl hkey _ [] (plainElem_int Tryz.underlying3 (Z17e hwc hq1.1 hq1.2)) ?_;intro w3 hown3 hgrow3)
        | go_in)
      . have hf:forW n x=true:=by assumption
        have hg:Z8b n (l.take (k+1)) (D.put (.string x.1) (.lit (.int .i64 (max c x.2.2)))):=by rw[htk];exact Zr3 hD hf (by rw[Zva hD hat])
        have hb3:=hnx2.grown hgrow3 hnx2.size (fun j hj=>by cases hj;exact Nat.le_refl _);go_roundw
        case rel=>exact⟨k+1,_,by omega,by go_num,hown3,hg,hb3⟩
        case measure=>simp[intOf];omega
      . have hf:¬forW n x=true:=by rw[forW];simp_all
        have hg:Z8b n (l.take (k+1)) D:=by rw[htk];exact Zm6 hD hf
        go_roundw
        case rel=>exact⟨k+1,_,by omega,by go_num,hown2.mono (by omega),hg,hnx2⟩
        case measure=>simp[intOf];omega
    . have hke:k=l.length:=by omega
      subst hke;rw[List.take_length]at hD;go_wp2_with (first
        | (at_range;refine wpList_range_own _ rfl _ 202 rfl 9 3 lawS Tryz.underlying202 _ w.heap.size l.length _ rfl hown ?_;intro w0 hrg0 hg0 hs0)
        | go_in)
      go_frame
      obtain⟨i0,hi,hz0,hz1,hz2⟩:=info_parts Z14i;have hb0:=hnx.grown hg0 hnx.size (fun j hj=>by cases hj);have hr0:w.heap.size<=wr.heap.size:=hnx.size;have hszD:Maps.size D<=l.length:=size_map hown;generalize wr.heap.size=r0 at hrg0 hr0 ⊢
      clear hg0 hs0 hown hnx;go_loopw [8] (fun v wq=>∃(left:Lit->Bool) (cnt:Nat) (ss:List Rd),wq.ranges Tryz.prog 9 (plainElem Tryz.prog 3) w.heap.size r0 l.length D left cnt/\ss.length+cnt<=Maps.size D /\
          wq.ownsRow (w.heap.size+1) 71 2 v ss.length (ss.map encY).flatten/\Zvc D left ss/\Below w.heap.size w wq)
        (fun _ wq=>wq.rangeLeft w.heap.size r0)
      case atStart=>exact⟨_,_,[],hrg0,by simp,⟨rfl,.inl ⟨rfl,rfl⟩⟩,Zm7 D,hb0⟩
      case round =>
        obtain⟨left,cnt,ss,hrg,hcs,hrow,hC,hnq⟩:=hrel;go_wp2_with (first
          | (at_next;refine wpList_next_ranges _ rfl _ rfl 9 lawS (plainElem Tryz.prog 3) Go.Proofs.encStr (Value.int .i64) (fun key kl hk=>by obtain⟨x,hx,_⟩:=Maps.keyOf_str Tryz.underlying9 hk;exact⟨x,hx⟩) (fun v y hv=>by obtain⟨c,rfl,_⟩:=plainElem_int_inv Tryz.underlying3 hv;exact⟨c,rfl⟩) w.heap.size r0 l.length _ _ _ rfl hrg ?_ ?_)
          | go_in)
        . intro hc00 hl0;rcases hrow.2 with ⟨hnil,hz⟩|⟨g,cap2,cur,hvs,hbase,hb,h1,h2,h3,h4⟩
          . have hss:ss=[]:=List.length_eq_zero_iff.1 hz;subst hss;subst hnil;go_wp2_with (go_at_call 182;refine(Z104 _).mono ?_;rintro e w' ⟨rfl,gm⟩)
            go_ret
            refine⟨.slice none 0 0,[],rfl,Zvd _,Zi2 _,Zk4 hD hC hl0 (List.Perm.refl _) (fun i j hij hj=>absurd hj (by simp)),?_⟩;exact Mod.of_below (hnq.grown (Zk3 gm) hnq.size (fun j hj=>by cases hj))
          . subst hvs;have hgl:=(Array.getElem?_eq_some_iff.1 hb).1;have hlen:ss.length<4611686018427387904:=by omega
            have eg:∀args w,(callFunc 183 args).run Tryz.prog w=.ok (.enter 183 args) w:=enters_of Tryz.func183 (by kernel_rfl) rfl;have hc:Calls Tryz.prog 182 #[.slice (some ⟨g,0,none⟩) ss.length cap2,.func (.func 183) #[] #[]] wr _ :=
              AnyQ.slices_SortFunc Tryz.sortR 2 Tryz.isAgg71 Tryz.sizeOf71 encY (fun _=>rfl) Z103 cmpY swoY 183 #[] g 0 cap2 ss.toArray wr eg (fun _ _ _ _ x y=>Z19g x y _) (Ze2 (enc:=encY) (k:=2) (ds:=ss) (fun _=>rfl) (by decide) hb h4) hgl hlen
            go_wp2_with (go_at_call 182;refine hc.mono ?_;rintro e w' ⟨rfl,d',nn,os,hp,hso,rfl⟩)
            go_ret
            obtain⟨ts⟩:=d';have hsz:ts.length=ss.length:=hp.1;have hpm:ts.Perm ss:=by
              have:=hp.2.2;simp only[List.size_toArray]at this;rw[<- hsz]at this;have e:ss.take ts.length=ss:=by rw[hsz,List.take_length]
              simpa [e]using this
            refine⟨_,ts,rfl,⟨Zve ts,Z105 (base:=w.heap.size+1) ?_⟩,fun k hk=>?_,Zk4 hD hC hl0 hpm (fun i j hij hj=>?_),?_⟩
            . have:=Ze4 (w:=wr) (n:=nn) (os:=os) (enc:=encY) (k:=2) (ts:=ts) (fun _=>rfl) (by decide) hbase hb (by omega) h2 h3;rw[qy3,<- hsz];exact this
            . have:g=k:=Option.some.inj hk;omega
            . have:=hso i j (Nat.zero_le _) hij (by show j<ss.length;omega);rw[Zac,getElem!_pos _ j (by simpa using hj),getElem!_pos _ i (by simp;omega)]at this;exact this
            . exact Mod.of_below (hnq.grown (Ze3 _) hnq.size (fun j hj=>by cases hj;exact Nat.le_of_succ_le hbase))
        . intro x c kl yd yp w2 cnt2 hkey hlk hv hat hrg2 hlt2 hg2 hs2 hen;obtain⟨x',ex,rfl,_⟩:=Maps.keyOf_str Tryz.underlying9 hkey;obtain rfl:x=x':=encStr_inj ex;have hrow2:=hrow.kept hg2 (Or.inr (row_ne_iter hrow hrg).symm);clear hs2;obtain⟨c',ec,e2,hwc⟩:=plainElem_int_inv Tryz.underlying3 hv;obtain rfl:c=c':=by simpa using ec
          obtain rfl:yd=.lit (.int .i64 c):=(Prod.mk.inj e2).1;clear hv ec e2;go_wp2_with (first
            | (at_builtin;refine wpList_append_own _ rfl _ _ 64 rfl (w.heap.size+1) 71 i0 (.agg #[.string ⟨#[]⟩,.int .i64 0]) 2 24 Tryz.underlying64 hi hz0 hz1 hz2 rfl (by decide) _ _ _ rfl (hrow2.alloc _) ⟨w2.heap.size,0,none⟩ 1 1 [Go.Proofs.encStr x,.int .i64 c] rfl rfl (Zvb _ _ _ _) (by simp[Value.oneCell',Go.Proofs.encStr]) (by unfold maxLen;omega) (by omega) (by have:=hrg2.owns.lt;simp;omega) ?_;intro v' w3 hown' hg3 hnil3;go_frame)
            | go_in)
          have hrg3:=(hrg2.alloc _).kept hg3 (row_ne_low hrow2 (Nat.lt_succ_self _)) (row_ne_iter hrow2 hrg2);have hb3:=((hnq.grown hg2 hnq.size (fun j hj=>by cases hj;exact hr0)).alloc (by have:=hnq.size;have:=hg2.size;omega) _).grown hg3 (by have:=hnq.size;have:=hg2.size;simp;omega) (fun j hj=>Nat.le_of_succ_le (hrow2.lt j hj).1);go_roundw
          case rel =>
            exact⟨_,cnt2,ss++[(x,c)],hrg3,by simp;omega,by simpa [encY,Go.Proofs.encStr]using hown',Zr5 hC hlk hat,hb3⟩
          case measure=>rw[hrg3.left_eq,hrg.left_eq];exact hlt2
end Go.Proofs.YtkhakgbnfapifaaGreatDoor
namespace Go.Proofs.YtkhakgbnfapifaaGreatDoor
open Go Go.Sx
theorem Z17f {x:Wt} (h:Z4g x=0):cliB x.1=true/\chkT x.2.1 true=0/\0<=x.2.2/\x.2.2<=1:=by
 unfold Z4g at h;split at h
 ·rename_i h1;unfold askE at h;simp only at h;split at h
  ·rename_i h2;split at h
   ·rename_i h3;exact⟨h1,h2,h3⟩
   ·exact absurd h (by decide)
  ·rename_i h2;exact absurd h h2
 ·exact absurd h (by decide)
theorem Zog {l:List Wt} (h:Z12 l=0):∀x∈l,cliB x.1=true/\chkT x.2.1 true=0/\0<=x.2.2/\x.2.2<=1:=fun x hx=>Z17f ((Z16.1 h).2.1 x hx)
theorem c_Of (w:World) (v:Value) (l:List Wt) (n:List UInt8) (hv:Z3i w v l) (hs:Z2z l) (hn:n.length<1000000000) (h:Z12 l=0):Calls Tryz.prog 104 #[sc1 v,.string ⟨n.toArray⟩] w fun e w'=>∃v',e=.returned (sc1 v')/\Z145 w' v' (rdOf n l)/\newW w.heap.size v'/\Mod [] w w':=by
 rw[hv.sc1];obtain⟨k1,k2,k3⟩:=Z16.1 h;have hv0:=hv;obtain⟨-,a,cap,rfl,-,-⟩:=hv;rw[qy3]at hv0 ⊢;refine(Z14l w a cap l n hv0 hs hn (by omega) fun x hx=>(Zog h x hx).2.2).mono ?_;rintro e w' ⟨v',rs,rfl,g1,g2,g3,g4⟩;have e1:rs=rdOf n l:=by obtain⟨a1,a2⟩:=Zuk (n:=n) (Zgc k3);exact Zgb g3.1 a1 fun x=>by rw[show x=(x.1,x.2) from rfl,g3.2,a2]
 subst e1;exact⟨v',by rw[g1.reads.sc1],g1,g2,g4⟩
def wA:List Wt:=[([97,110,110],[35],0),([97,110,110],[97,47,43],1),([98,111,98],[99],0)]
theorem Z14m (w:World):Calls Tryz.prog 99 #[] w fun e w'=>∃v',e=.returned (sc1 v')/\Z3i w' v' wA/\newW w.heap.size v'/\Mod [] w w':=by refine Z1 (Z7 (ρ:=[]) sxE_ok Tryz.func99 Z6u rfl rfl rfl ?_) rfl;simp only[Tree.goal,X.ev,SV.ev,CV.ev,Sc.ev,qz,QE,QL,QM];intro v w' hr;exact⟨v,rfl,(hr.at_ 0 rfl).reads,hr.fresh 0 rfl,hr.mod⟩
end Go.Proofs.YtkhakgbnfapifaaGreatDoor
