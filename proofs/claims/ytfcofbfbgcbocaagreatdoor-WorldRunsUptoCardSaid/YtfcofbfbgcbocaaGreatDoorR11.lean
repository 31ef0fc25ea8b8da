/- By an AI agent. -/
import Derived.Test.YtfcofbfbgcbocaaGreatDoorR10
import Derived.Shelf.SlSortCmp.WholeK
import Derived.Sort.OwnSorted
import Derived.Ground.SlsfProg
import Derived.Maps.RangeWalk
import Derived.Maps.OwnOps
import Derived.Sort.KeysCollected
set_option linter.all false
set_option maxHeartbeats 20000000
namespace Go.Proofs.Y
open Go.Sx
theorem Z173(l:List UInt8)(i:Nat):Value.gI (((l.map λb=>[Value.int .u8 (b.toNat:Int)]).getD i []).getD 0 undef)=((l.getD i 0).toNat:Int):=by simp only[qy1,List.getElem?_map];cases l[i]?<;>rfl
theorem Zz6(s:List UInt8)(i lo hi:Nat)(h:lo+i<hi):((s.take hi).drop lo).getD i 0=s.getD (lo+i) 0:=by simp only[qy1,List.getElem?_drop,List.getElem?_take,if_pos h]
theorem Zv5(b:UInt8):b.toNat<256:=b.toNat_lt
def beN:List UInt8->Nat->Nat
 | [],n=>n
 | c::l,n=>beN l (256*n+c.toNat)
theorem Z14o(l:List UInt8)(c:UInt8)(n:Nat):beN (l++[c]) n=256*beN l n+c.toNat:=by
 induction l generalizing n with
 | nil=>rfl
 | cons d l ih=>simp[beN,ih]
theorem Zz7(l:List UInt8):∀n,beN l n<(n+1)*pw l.length:=by
 induction l with
 | nil=>intro n;simp[beN,pw]
 | cons c l ih =>
  intro n;have h1:=ih (256*n+c.toNat);have h2:=Zv5 c;have h3:(256*n+c.toNat+1)*pw l.length<=(256*(n+1))*pw l.length:=Nat.mul_le_mul_right _ (by omega);simp only[beN,List.length_cons,pw];rw[<- Nat.mul_assoc,Nat.mul_comm (n+1) 256];omega
theorem Zhr(l:List UInt8)(m:Nat)(h:m<l.length):l.take (m+1)=l.take m++[l.getD m 0]:=by rw[List.take_add_one,qy1,qy7 h];rfl
theorem Z19c(n c:Nat)(hn:n<2 ^ 54)(hc:c<256):Z1v .or .i64 (IntKind.i64.wrap ((n:Int)*2 ^ (Nat.min (Int.toNat 8) IntKind.i64.bits))) (c:Int)=((256*n+c:Nat):Int):=by
 have e0:IntKind.i64.wrap ((n:Int)*2 ^ (Nat.min (Int.toNat 8) IntKind.i64.bits))=((n*256:Nat):Int):=by have:Nat.min (Int.toNat 8) IntKind.i64.bits=8:=rfl;rw[this,IntKind.wrap_i64];omega
 rw[e0];simp only[Z1v]
 show IntKind.i64.wrap (((BitVec.ofInt 64 ((n*256:Nat):Int)) ||| (BitVec.ofInt 64 (c:Int))).toNat:Int)=_
 rw[BitVec.toNat_or,Z40 _ (by omega),Z40 c (by omega)];have e:n*256 ||| c=256*n+c:=by have:=Nat.two_pow_add_eq_or_of_lt (i:=8) (b:=c) (by omega) n;rw[show n*256=2 ^ 8*n by omega,<- this]
 rw[e,Zbk _ (by omega)]
def getR(s:List UInt8)(at_ b:Int):Int×Int :=
 if 1<=b/\b<=4 then
  if 0<=at_/\at_<=s.length then
   if(s.length:Int) - at_<b then(0,8)else(beN ((s.drop at_.toNat).take b.toNat) 0,0)
  else(0,3)
 else(0,7)
theorem Zz8{s:List UInt8}{at_ b:Int}(h:¬(1<=b/\b<=4)):getR s at_ b=(0,7):=if_neg h
theorem Zv6{s:List UInt8}{at_ b:Int}(h:1<=b/\b<=4)(h1:¬(0<=at_/\at_<=s.length)):getR s at_ b=(0,3):=by rw[getR,if_pos h,if_neg h1]
theorem Z91{s:List UInt8}{at_ b:Int}(h:1<=b/\b<=4)(h1:0<=at_/\at_<=s.length)(h2:(s.length:Int) - at_<b):getR s at_ b=(0,8):=by rw[getR,if_pos h,if_pos h1,if_pos h2]
theorem Zkn{s:List UInt8}{at_ b:Int}(h:1<=b/\b<=4)(h1:0<=at_/\at_<=s.length)(h2:¬(s.length:Int) - at_<b):getR s at_ b=(((beN ((s.drop at_.toNat).take b.toNat) 0:Nat):Int),0):=by rw[getR,if_pos h,if_pos h1,if_neg h2]
theorem beN4(s:List UInt8)(at_ m:Nat)(h:m<=4):beN ((s.drop at_).take m) 0<4294967296:=by have h1:=Zz7 ((s.drop at_).take m) 0;have h2:pw ((s.drop at_).take m).length<=pw 4:=Zkl (by simp;omega);have h3:pw 4=4294967296:=rfl;omega
theorem Z19d(s:List UInt8)(at_ b:Int):0<=(getR s at_ b).1/\(getR s at_ b).1<4294967296:=by
 unfold getR;split
 ·split
  ·split
   ·decide
   ·have:=beN4 s at_.toNat b.toNat (by omega)
    show 0<=((beN ((s.drop at_.toNat).take b.toNat) 0:Nat):Int)/\((beN ((s.drop at_.toNat).take b.toNat) 0:Nat):Int)<4294967296
    omega
  ·decide
 ·decide
theorem Z14p(s:List UInt8)(a k:Nat)(h:a+k<s.length):beN ((s.drop a).take (k+1)) 0=256*beN ((s.drop a).take k) 0+(s.getD (a+k) 0).toNat:=by rw[Zhr _ _ (by simp;omega),Z14o];simp only[qy1,List.getElem?_drop]
theorem Zko(w:World)(s:List UInt8)(at_ b:Int)(hs:s.length<4611686018427387904):Calls Tryz.prog 83 #[.string ⟨s.toArray⟩,.int .i64 at_,.int .i64 b] w λe w'=>e=.returned (.tuple #[.int .i64 (getR s at_ b).1,.int .i64 (getR s at_ b).2])/\Mod [] w w':=by
 refine Z1 (Z7 (J:=[.s s,.i at_,.i b]) sxE_ok Tryz.func83 Zk1 rfl rfl rfl ?_) rfl;simp only[QQ,Nat.reduceAdd];refine⟨λh w' hr=>⟨by rw[Zz8 (by omega)],hr.mod⟩,λh=>?_⟩;refine⟨λh1 w' hr=>⟨by rw[Zv6 (by omega) h1],hr.mod⟩,λh1=>?_⟩;refine⟨by omega,by omega,λh2 w' hr=>⟨by rw[Z91 (by omega) (by omega) h2],hr.mod⟩,λh2=>?_⟩;obtain⟨a,rfl⟩:∃a:Nat,at_=a:=⟨at_.toNat,by omega⟩
 obtain⟨k,rfl⟩:∃k:Nat,b=k:=⟨b.toNat,by omega⟩
 (repeat refine⟨by omega,?_⟩)
 intro v;refine⟨λvs=>∃m:Nat,vs=[.i (beN ((s.drop a).take m) 0),.i m]/\m<=k,λvs=>(k - (vs.getD 1 (.i 0)).toI).toNat,⟨0,by simp[beN],by omega⟩,?_⟩;rintro _ - ⟨m,rfl,hm⟩;have e0:((a:Int)+(k:Int)).toNat=a+k:=by omega
 simp only[QQ,Nat.reduceAdd,qy3,List.length_drop,List.length_take,Z173,qy4,e0];have hb:=beN4 s a m (by omega);refine⟨λh3=>?_,λh3 w' hr=>⟨?_,hr.mod⟩⟩
 ·have e2:=Z14p s a m (by omega);have hc:=Zv5 (s.getD (a+m) 0);rw[Zz6 _ _ _ _ (by omega),Z19c _ _ (by omega) hc]
  (repeat refine⟨by omega,?_⟩);refine⟨⟨m+1,?_,by omega⟩,by omega⟩
  rw[e2];simp
 ·have:m=k:=by omega
  subst this;rw[Zkn (by omega) (by omega) h2];simp only[qy4]
def p7:Nat->Nat
 | 0=>1
 | k+1=>128*p7 k
theorem Zkp{a b:Nat}(h:a<=b):p7 a<=p7 b:=by
 induction h with
 | refl=>exact Nat.le_refl _
 | step _ ih=>simp only[p7];omega
theorem Zz9(a:Nat):1<=p7 a:=Zkp (Nat.zero_le a)
def glF:Nat->Nat->Nat->List UInt8->Int×Int×Int
 | 0,_,_,_=>(0,0,1)
 | _+1,_,_,[]=>(0,0,8)
 | f+1,i,n,c::l=>if c.toNat<128 then(if c.toNat=0/\0<i then(0,0,1)else(((n+c.toNat % 128*p7 i:Nat):Int),((i+1:Nat):Int),0))else glF f (i+1) (n+c.toNat % 128*p7 i) l
def getL(s:List UInt8)(at_:Int):Int×Int×Int:=if 0<=at_/\at_<=s.length then glF 4 0 0 (s.drop at_.toNat)else(0,0,3)
theorem Zv7{s:List UInt8}{at_:Int}(h:¬(0<=at_/\at_<=s.length)):getL s at_=(0,0,3):=if_neg h
theorem Zza(s:List UInt8)(k:Nat)(h:k<s.length):s.drop k=s.getD k 0::s.drop (k+1):=by rw[List.drop_eq_getElem_cons h,qy1,qy7 h];rfl
theorem Z19e{s:List UInt8}{a f i n:Nat}(h:s.length<=a):glF (f+1) i n (s.drop a)=(0,0,8):=by rw[List.drop_eq_nil_of_le h];rfl
theorem Z14q{s:List UInt8}{a f i n:Nat}(h:a<s.length):glF (f+1) i n (s.drop a) = if(s.getD a 0).toNat<128 then(if(s.getD a 0).toNat=0/\0<i then(0,0,1)else(((n+(s.getD a 0).toNat % 128*p7 i:Nat):Int),((i+1:Nat):Int),0))else glF f (i+1) (n+(s.getD a 0).toNat % 128*p7 i) (s.drop (a+1)):=by rw[Zza s a h];rfl
theorem Zzb:∀(f i n:Nat) (l:List UInt8),n<p7 i->0<=(glF f i n l).1/\(glF f i n l).1<p7 (f+i)/\0<=(glF f i n l).2.1/\(glF f i n l).2.1<=f+i/\(glF f i n l).2.1<=i+l.length
 | 0,i,n,l,h=>by have:=Zz9 (0+i);simp only[glF];omega
 | f+1,i,n,[],h=>by have:=Zz9 (f+1+i);simp only[glF];omega
 | f+1,i,n,c::l,h=>by
  have hp:=Zz9 (f+1+i);have hm:n+c.toNat % 128*p7 i<p7 (i+1):=by have:c.toNat % 128*p7 i<=127*p7 i:=Nat.mul_le_mul_right _ (by omega);simp only[p7];omega
  have hm2:p7 (i+1)<=p7 (f+1+i):=Zkp (by omega);simp only[glF];split
  ·split
   ·simp only[List.length_cons];omega
   ·simp only[List.length_cons];omega
  ·have:=Zzb f (i+1) _ l hm;have e:f+(i+1)=f+1+i:=by omega
   rw[e]at this;simp only[List.length_cons];omega
theorem Zpn(s:List UInt8)(at_:Int):0<=(getL s at_).1/\(getL s at_).1<268435456/\0<=(getL s at_).2.1/\(getL s at_).2.1<=4/\(getL s at_).2.1<=s.length:=by
 unfold getL;split
 ·have h:=Zzb 4 0 0 (s.drop at_.toNat) (by decide);have e:p7 (4+0)=268435456:=rfl;rw[e,List.length_drop]at h;omega
 ·simp only;omega
theorem Z19f(x:Nat)(h:x<256):Z1v .and .u8 (x:Int) 127=(x % 128:Nat):=by
 have:∀x:Fin 256,Z1v .and .u8 (x.val:Int) 127=(x.val % 128:Nat):=by decide +kernel
 exact this ⟨x,h⟩
theorem Z19g(x:Nat)(h:x<256):Z1v .and .u8 (x:Int) 128=if x<128 then 0 else 128:=by
 have:∀x:Fin 256,Z1v .and .u8 (x.val:Int) 128=if x.val<128 then 0 else 128:=by decide +kernel
 exact this ⟨x,h⟩
theorem Z19h(n c m:Nat)(hm:m<=3)(hn:n<p7 m)(hc:c<128):Z1v .or .i64 (n:Int) (IntKind.i64.wrap ((c:Int)*2 ^ (Nat.min ((7:Int)*(m:Int)).toNat IntKind.i64.bits)))=((n+c*p7 m:Nat):Int):=by
 have hp:p7 m=2 ^ (7*m):=by
  have:∀k,p7 k=2 ^ (7*k):=λk=>by
   induction k with
   | zero=>rfl
   | succ k ih=>rw[p7,ih,Nat.mul_succ,Nat.pow_add];omega
  exact this m
 have hpm:=Zkp hm;have hp3:p7 3=2097152:=rfl;have q1:c*p7 m<=127*p7 m:=Nat.mul_le_mul_right _ (by omega);have e0:IntKind.i64.wrap ((c:Int)*2 ^ (Nat.min ((7:Int)*(m:Int)).toNat IntKind.i64.bits))=((c*p7 m:Nat):Int):=by
  have:Nat.min ((7:Int)*(m:Int)).toNat IntKind.i64.bits=7*m:=by
   have e:((7:Int)*(m:Int)).toNat=7*m:=by omega
   rw[e];exact Nat.min_eq_left (by show 7*m<=64;omega)
  rw[this];have e2:(c:Int)*2 ^ (7*m)=((c*p7 m:Nat):Int):=by rw[hp];simp
  rw[e2,Zbk _ (by omega)]
 rw[e0];simp only[Z1v]
 show IntKind.i64.wrap (((BitVec.ofInt 64 (n:Int)) ||| (BitVec.ofInt 64 ((c*p7 m:Nat):Int))).toNat:Int)=_
 rw[BitVec.toNat_or,Z40 _ (by omega),Z40 _ (by omega)];have e:n ||| c*p7 m=n+c*p7 m:=by have:=Nat.two_pow_add_eq_or_of_lt (i:=7*m) (b:=n) (by rw[<- hp];exact hn) c;rw[hp,Nat.mul_comm c,Nat.or_comm,<- this,Nat.add_comm]
 rw[e,Zbk _ (by omega)]
theorem Zn2(w:World)(s:List UInt8)(at_:Int)(hs:s.length<4611686018427387904):Calls Tryz.prog 130 #[.string ⟨s.toArray⟩,.int .i64 at_] w λe w'=>e=.returned (.tuple #[.int .i64 (getL s at_).1,.int .i64 (getL s at_).2.1,.int .i64 (getL s at_).2.2])/\Mod [] w w':=by
 refine Z1 (Z7 (J:=[.s s,.i at_]) sxE_ok Tryz.func130 Zcm rfl rfl rfl ?_) rfl;simp only[QQ,Nat.reduceAdd];refine⟨λh w' hr=>⟨by rw[Zv7 h],hr.mod⟩,λh=>?_⟩;obtain⟨a,rfl⟩:∃a:Nat,at_=a:=⟨at_.toNat,by omega⟩
 have e0:getL s a=glF 4 0 0 (s.drop a):=by rw[getL,if_pos (by omega),qy4]
 rw[e0];obtain⟨k,hk,hka⟩:∃k:Nat,(if(a:Int)+4<(s.length:Int)then(a:Int)+4 else(s.length:Int))=((a+k:Nat):Int)/\(k=4/\a+4<s.length\/k<=4/\a+k=s.length):=by
  by_cases h4:(a:Int)+4<s.length
  ·exact⟨4,by rw[if_pos h4];omega,by omega⟩
  ·exact⟨s.length - a,by rw[if_neg h4];omega,by omega⟩
 rw[hk]
 (repeat refine⟨by omega,?_⟩)
 intro v;refine⟨λvs=>∃(m n:Nat) (x y z:V),vs=[x,y,z,.i n,.i m]/\m<=k/\n<p7 m/\glF (4 - m) m n (s.drop (a+m))=glF 4 0 0 (s.drop a),λvs=>(k - (vs.getD 4 (.i 0)).toI).toNat,⟨0,0,_,_,_,rfl,by omega,by decide,rfl⟩,?_⟩;rintro _ - ⟨m,n,x,y,z,rfl,hm,hn,hg⟩;simp only[QQ,Nat.reduceAdd,qy3,List.length_drop,List.length_take,Z173,qy4];have hp:=Zkp (show m<=4 by omega);have hp4:p7 4=268435456:=rfl;refine⟨λh3=>?_,λh3=>?_⟩
 ·obtain⟨g,hgm⟩:∃g,4 - m=g+1:=⟨3 - m,by omega⟩
  rw[hgm,Z14q (by omega)]at hg;rw[Zz6 _ _ _ _ (by omega)];have hc:=Zv5 (s.getD (a+m) 0);generalize hcc:(s.getD (a+m) 0).toNat=c at hg hc⊢
  rw[Z19f c hc,Z19g c hc];rw[Z19h n (c % 128) m (by omega) hn (by omega)];have q1:c % 128*p7 m<=127*p7 m:=Nat.mul_le_mul_right _ (by omega)
  (repeat refine⟨by omega,?_⟩)
  refine⟨λh5=>?_,λh5=>?_⟩
  ·have h5:¬c<128:=λh=>h5 (by rw[if_pos h]);rw[if_neg h5]at hg;refine⟨by omega,by omega,⟨m+1,n+c % 128*p7 m,x,y,z,rfl,by omega,by simp only[p7];omega,?_⟩,by omega⟩;rw[<- hg,show 4 - (m+1)=g by omega];rfl
  ·have h5:c<128:=by
    rcases Nat.lt_or_ge c 128 with h|h
    ·exact h
    ·exact absurd (by rw[if_neg (by omega)];decide) h5
   rw[if_pos h5]at hg;refine⟨λh6 w' hr=>⟨?_,hr.mod⟩,λh6=>⟨by omega,by omega,λw' hr=>⟨?_,hr.mod⟩⟩⟩
   ·rw[if_pos (by omega)]at hg;rw[<- hg]
   ·rw[if_neg (by omega)]at hg;rw[<- hg];rfl
 ·have:m=k:=by omega
  subst this;refine⟨by omega,by omega,λh4 w' hr=>⟨?_,hr.mod⟩,λh4 w' hr=>⟨?_,hr.mod⟩⟩
  ·obtain⟨g,hgm⟩:∃g,4 - m=g+1:=⟨3 - m,by omega⟩
   rw[hgm,Z19e (by omega)]at hg;rw[<- hg]
  ·have:m=4:=by omega
   subst this;rw[<- hg];rfl
theorem Zw(k:Nat)(n:Int):(numB k n).length=k:=by simp[numB]
def txtB(t:List UInt8):List UInt8:=numB 2 t.length++t
theorem Zpo(w:World)(t:List UInt8)(ht:t.length<4611686018427387904):Calls Tryz.prog 176 #[.string ⟨t.toArray⟩] w λe w'=>e=.returned (.string ⟨(txtB t).toArray⟩)/\Mod [] w w':=by refine Z1 (Z7 (J:=[.s t]) sxE_ok Tryz.func176 Z9w rfl rfl rfl ?_) rfl;simp only[QQ,Nat.reduceAdd];refine⟨[.s (numB 2 t.length)],rfl,λ_ w' _=>Zkm w' t.length 2 (by omega) (by omega) (by omega),?_⟩;simp only[QQ,Nat.reduceAdd];exact⟨by rw[Zw];omega,λw' hr=>⟨rfl,hr.mod⟩⟩
def getT(s:List UInt8)(at_:Int):List UInt8×Int×Int :=
 if(getR s at_ 2).2=0 then
  if(s.length:Int) - at_ - 2<(getR s at_ 2).1 then([],0,8)else((s.take (at_+2+(getR s at_ 2).1).toNat).drop (at_+2).toNat,(getR s at_ 2).1+2,0)
 else([],0,(getR s at_ 2).2)
theorem Zzc{s:List UInt8}{at_ b:Int}(h:(getR s at_ b).2=0):(1<=b/\b<=4)/\(0<=at_/\at_<=s.length)/\¬(s.length:Int) - at_<b:=by
 unfold getR at h;split at h
 ·split at h
  ·split at h
   ·simp at h
   ·exact⟨‹_›,‹_›,‹_›⟩
  ·simp at h
 ·simp at h
theorem Zzd(w:World)(s:List UInt8)(at_:Int)(hs:s.length<4611686018427387904):Calls Tryz.prog 199 #[.string ⟨s.toArray⟩,.int .i64 at_] w λe w'=>e=.returned (.tuple #[.string ⟨(getT s at_).1.toArray⟩,.int .i64 (getT s at_).2.1,.int .i64 (getT s at_).2.2])/\Mod [] w w':=by refine Z1 (Z7 (J:=[.s s,.i at_]) sxE_ok Tryz.func199 Zce rfl rfl rfl ?_) rfl;simp only[QQ,Nat.reduceAdd];have CALLEE:=Zko;refine⟨[.i (getR s at_ 2).1,.i (getR s at_ 2).2],rfl,λ_ w' _=>CALLEE w' s at_ 2 hs,?_⟩;have hb:=Z19d s at_ 2;have hz:=@Zzc s at_ 2;simp only[QQ,Nat.reduceAdd];refine⟨λh w' hr=>⟨by rw[getT,if_neg h],hr.mod⟩,λh=>?_⟩;have h0:=Decidable.not_not.1 h;have h1:=hz h0;(repeat refine⟨by omega,?_⟩);refine⟨λh2 w' hr=>⟨by rw[getT,if_pos h0,if_pos h2],hr.mod⟩,λh2=>?_⟩;(repeat refine⟨by omega,?_⟩);refine λw' hr=>⟨?_,hr.mod⟩;rw[getT,if_pos h0,if_neg h2]
abbrev Ak:=List UInt8×Int
structure Pkt where
 kind:Int
 dup:Bool
 retain:Bool
 clean:Bool
 session:Bool
 qos:Int
 id:Int
 keep:Int
 code:Int
 client:List UInt8
 topic:List UInt8
 payload:List UInt8
 asks:List Ak
 codes:List Int
 deriving DecidableEq
abbrev pD_Q(k:Int):Pkt:=⟨k,false,false,false,false,0,0,0,0,[],[],[],[],[]⟩
def Z7d(k:Int):Bool:=decide ((1<=k/\k<=4)\/(8<=k/\k<=14))
def idB(p:Pkt):Bool:=decide ((p.kind=3/\p.qos=1)\/p.kind=4\/(8<=p.kind/\p.kind<=11))
def cliB(s:List UInt8):Bool:=decide (1<=(s.length:Int)/\(s.length:Int)<=20) && Z25 s
def Z24(p:Pkt):Pkt :=
 if p.kind=1 then { p with client:=[],clean:=false,keep:=0 }
 else if p.kind=2 then { p with code:=0,session:=false }
 else if p.kind=3 then { p with dup:=false,qos:=0,retain:=false,topic:=[],payload:=[],id:=0 }
 else if p.kind=4\/p.kind=11 then { p with id:=0 }
 else if p.kind=8\/p.kind=10 then { p with id:=0,asks:=[] }
 else if p.kind=9 then { p with id:=0,codes:=[] }
 else p
def Z9i(p:Pkt):Bool:=decide (p=pD_Q p.kind)
def Zkq(p:Pkt):Int:=if 20<(p.client.length:Int)then 2 else if cliB p.client=true then(if 0<=p.keep/\p.keep<=65535 then 0 else 3)else 1
def Z5s(p:Pkt):Int:=if 0<=p.code/\p.code<=5 then(if p.session=true/\p.code≠0 then 4 else 0)else 3
def pubE(p:Pkt):Int :=
 if chkT p.topic false=0 then
  if 200<(p.payload.length:Int)then 2
  else if 0<=p.qos/\p.qos<=1 then(if p.qos=0/\(p.dup=true\/p.id≠0)then 1 else 0)else 3
 else chkT p.topic false
def Z3e(n:Nat):Int:=if n=0 then 1 else if 5<(n:Int)then 2 else 0
def askE(a:Ak):Int:=if chkT a.1 true=0 then(if 0<=a.2/\a.2<=1 then 0 else 3)else chkT a.1 true
def Z5t(a:Ak):Int:=if chkT a.1 true=0 then(if a.2=0 then 0 else 1)else chkT a.1 true
def Zbl(k:Int):List Ak->Int
 | []=>0
 | a::l=>if(if k=8 then askE a else Z5t a)=0 then Zbl k l else(if k=8 then askE a else Z5t a)
def Zhs(p:Pkt):Int:=if Z3e p.asks.length=0 then Zbl p.kind p.asks else Z3e p.asks.length
def Zht(c:Int):Bool:=decide (c≠0/\c≠1/\c≠128)
def Zbm(p:Pkt):Int:=if Z3e p.codes.length=0 then(if p.codes.any Zht=true then 3 else 0)else Z3e p.codes.length
def Z27(p:Pkt):Int :=
 if p.kind=1 then Zkq p else if p.kind=2 then Z5s p else if p.kind=3 then pubE p
 else if p.kind=8\/p.kind=10 then Zhs p else if p.kind=9 then Zbm p else 0
def chkP(p:Pkt):Int :=
 if Z7d p.kind=true then
  if Z9i (Z24 p)=true then
   if p.kind=3/\pubE p≠0 then pubE p
   else if idB p=true/\¬(1<=p.id/\p.id<=65535)then 3
   else Z27 p
  else 1
 else 7
def Z2v(k:Int)(a:Ak):List UInt8:=txtB a.1++(if k=8 then numB 1 a.2 else[])
def bit(b:Bool)(n:Int):Int:=if b=true then n else 0
def Z8a(p:Pkt):List UInt8 :=
 if p.kind=1 then txtB [77,81,84,84]++(numB 1 4++numB 1 (bit p.clean 2))++numB 2 p.keep++txtB p.client
 else if p.kind=2 then numB 1 (bit p.session 1)++numB 1 p.code
 else if p.kind=3 then txtB p.topic
 else[]
def Z7e(p:Pkt):List UInt8:=Z8a p++(if idB p=true then numB 2 p.id else[])++p.payload++(p.asks.map (Z2v p.kind)).flatten++(p.codes.map (numB 1)).flatten
def Z81(p:Pkt):Int :=
 16*p.kind+(if p.kind=3 then bit p.dup 8+2*p.qos+bit p.retain 1 else if p.kind=8\/p.kind=10 then 2 else 0)
def Z6j(p:Pkt):List UInt8:=numB 1 (Z81 p)++lngB 3 (Z7e p).length++Z7e p
def rdN(s:List UInt8)(k a:Nat)(b:Bool):Int×Nat×Bool:=if a+k<=s.length then((beN ((s.drop a).take k) 0:Nat),a+k,b)else(0,s.length,true)
def rdT(s:List UInt8)(a:Nat)(b:Bool):List UInt8×Nat×Bool :=
 if a+2<=s.length/\a+2+beN ((s.drop a).take 2) 0<=s.length then((s.drop (a+2)).take (beN ((s.drop a).take 2) 0),a+2+beN ((s.drop a).take 2) 0,b)else([],a,true)
def Z1b(s:List UInt8)(k:Int)(a:Nat)(b:Bool):Ak×Nat×Bool :=
 if k=8 then(((rdT s a b).1,(rdN s 1 (rdT s a b).2.1 (rdT s a b).2.2).1),(rdN s 1 (rdT s a b).2.1 (rdT s a b).2.2).2)else(((rdT s a b).1,0),(rdT s a b).2)
def rdAs(s:List UInt8)(k:Int):Nat->Nat->Bool->List Ak->List Ak×Nat×Bool
 | 0,a,b,l=>(l,a,b)
 | f+1,a,b,l=>if a<s.length/\b=false then rdAs s k f (Z1b s k a b).2.1 (Z1b s k a b).2.2 (l++[(Z1b s k a b).1])else(l,a,b)
def rdCs(s:List UInt8):Nat->Nat->Bool->List Int->List Int×Nat×Bool
 | 0,a,b,l=>(l,a,b)
 | f+1,a,b,l=>if a<s.length/\b=false then rdCs s f (rdN s 1 a b).2.1 (rdN s 1 a b).2.2 (l++[(rdN s 1 a b).1])else(l,a,b)
def Z15(s:List UInt8)(a:Nat)(b:Bool):Nat:=if b=true then 0 else s.length+1 - a
abbrev RS:=Pkt×Nat×Bool
def Zkr(s:List UInt8)(p:Pkt)(a:Nat)(b:Bool):RS :=
 let t1:=rdT s a b
 let n1:=rdN s 1 t1.2.1 t1.2.2
 let n2:=rdN s 1 n1.2.1 n1.2.2
 let n3:=rdN s 2 n2.2.1 n2.2.2
 let t2:=rdT s n3.2.1 n3.2.2
 ({ p with clean:=decide (n2.1=2),keep:=n3.1,client:=t2.1 },t2.2)
def headD(s:List UInt8)(p:Pkt)(a:Nat)(b:Bool):RS :=
 if p.kind=1 then Zkr s p a b
 else if p.kind=2 then({ p with session:=decide ((rdN s 1 a b).1=1),code:=(rdN s 1 (rdN s 1 a b).2.1 (rdN s 1 a b).2.2).1 },(rdN s 1 (rdN s 1 a b).2.1 (rdN s 1 a b).2.2).2)
 else if p.kind=3 then({ p with topic:=(rdT s a b).1 },(rdT s a b).2)
 else(p,a,b)
def idD(s:List UInt8)(q:RS):RS:=if idB q.1=true then({ q.1 with id:=(rdN s 2 q.2.1 q.2.2).1 },(rdN s 2 q.2.1 q.2.2).2)else q
def Ze3(s:List UInt8)(q:RS):RS :=
 if q.1.kind=3 then({ q.1 with payload:=s.drop q.2.1 },s.length,q.2.2)
 else if q.1.kind=8\/q.1.kind=10 then({ q.1 with asks:=(rdAs s q.1.kind (Z15 s q.2.1 q.2.2) q.2.1 q.2.2 q.1.asks).1 },(rdAs s q.1.kind (Z15 s q.2.1 q.2.2) q.2.1 q.2.2 q.1.asks).2)
 else if q.1.kind=9 then({ q.1 with codes:=(rdCs s (Z15 s q.2.1 q.2.2) q.2.1 q.2.2 q.1.codes).1 },(rdCs s (Z15 s q.2.1 q.2.2) q.2.1 q.2.2 q.1.codes).2)
 else q
def Zze(s:List UInt8)(p:Pkt)(a:Nat)(b:Bool):RS:=Ze3 s (idD s (headD s p a b))
def begP(c:Nat):Pkt:=if c / 16=3 then { pD_Q 3 with dup:=decide (c / 8 % 2=1),qos:=c / 2 % 4,retain:=decide (c % 2=1) }else pD_Q ((c / 16:Nat):Int)
def Za2(s:List UInt8):RS:=Zze s (begP (s.getD 0 0).toNat) (1+(getL s 1).2.1).toNat false
def decD(s:List UInt8):Pkt×Int :=
 if s=[]\/(getL s 1).2.2≠0 then(pD_Q 0,1)
 else if(Za2 s).2.2=true\/Z7d (Za2 s).1.kind=false\/1<(Za2 s).1.qos\/Z6j (Za2 s).1≠s then(pD_Q 0,1)
 else if chkP (Za2 s).1=0 then((Za2 s).1,0)else(pD_Q 0,chkP (Za2 s).1)
theorem Z14r(p:Pkt):Z24 p=pD_Q p.kind↔(p.kind≠1->p.client=[]/\p.clean=false/\p.keep=0)/\(p.kind≠2->p.session=false/\p.code=0) /\ (p.kind≠3->p.dup=false/\p.retain=false/\p.qos=0/\p.topic=[]/\p.payload=[])/\(¬((3<=p.kind/\p.kind<=4)\/(8<=p.kind/\p.kind<=11))->p.id=0) /\ (p.kind≠8/\p.kind≠10->p.asks=[])/\(p.kind≠9->p.codes=[]):=by
 obtain⟨k,d,r,c,s,q,i,ke,co,cl,t,pl,a,cs⟩:=p;unfold Z24;simp only;by_cases h1:k=1
 ·subst h1;simp only[if_true,Pkt.mk.injEq];simp;grind
 rw[if_neg h1];by_cases h2:k=2
 ·subst h2;simp only[if_true,Pkt.mk.injEq];simp;grind
 rw[if_neg h2];by_cases h3:k=3
 ·subst h3;simp only[if_true,Pkt.mk.injEq];simp;grind
 rw[if_neg h3];by_cases h4:k=4\/k=11
 ·rw[if_pos h4];rcases h4 with rfl|rfl<;>simp only[Pkt.mk.injEq]<;>simp<;>grind
 rw[if_neg h4];by_cases h5:k=8\/k=10
 ·rw[if_pos h5];rcases h5 with rfl|rfl<;>simp only[Pkt.mk.injEq]<;>simp<;>grind
 rw[if_neg h5];by_cases h6:k=9
 ·subst h6;simp only[if_true,Pkt.mk.injEq];simp;grind
 rw[if_neg h6];have h7:¬((3<=k/\k<=4)\/(8<=k/\k<=11)):=by omega
 have h8:k≠8/\k≠10:=by omega
 simp only[Pkt.mk.injEq,h7,h8,ne_eq,h1,h2,h3,h6,not_false_eq_true,true_implies,true_and,and_true];grind
structure FormP(p:Pkt):Prop where
 kind:Z7d p.kind=true
 bare:Z24 p=pD_Q p.kind
 qos:0<=p.qos/\p.qos<=1
 keep:0<=p.keep/\p.keep<65536
 code:0<=p.code/\p.code<256
 id:0<=p.id/\p.id<65536
 noid:idB p=false->p.id=0
 client:p.client.length<65536
 topic:p.topic.length<65536
 asks:∀a∈p.asks,a.1.length<65536/\0<=a.2/\a.2<256/\(p.kind≠8->a.2=0)
 codes:∀c∈p.codes,0<=c/\c<256
theorem Zs9{s:List UInt8}{f:Bool}(h:chkT s f=0):s.length<=60:=by
 unfold chkT at h;split at h
 ·simp at h
 ·split at h
  ·simp at h
  ·omega
theorem Zv8(p:Pkt):(Z24 p).kind=p.kind:=by unfold Z24;(repeat' split)<;>rfl
theorem Zzf(p:Pkt):Z9i (Z24 p)=true↔Z24 p=pD_Q p.kind:=by simp only[Z9i,decide_eq_true_eq,Zv8]
theorem Zit{k:Int}:∀{l:List Ak},Zbl k l=0->∀a∈l,chkT a.1 true=0/\0<=a.2/\a.2<=1/\(k≠8->a.2=0)
 | [],_,a,ha=>by simp at ha
 | x::l,h,a,ha=>by
  unfold Zbl at h;generalize hX:(if k=8 then askE x else Z5t x)=X at h
  by_cases h0:X=0
  ·rw[if_pos h0]at h;rw[h0]at hX;rcases List.mem_cons.1 ha with rfl|ha
   ·by_cases hk:k=8
    ·rw[if_pos hk,askE]at hX;split at hX
     ·split at hX
      ·exact⟨‹_›,by omega,by omega,λhh=>absurd hk hh⟩
      ·simp at hX
     ·exact absurd hX ‹_›
    ·rw[if_neg hk,Z5t]at hX;split at hX
     ·split at hX
      ·exact⟨‹_›,by omega,by omega,λ_=>‹_›⟩
      ·simp at hX
     ·exact absurd hX ‹_›
   ·exact Zit h a ha
  ·rw[if_neg h0]at h;exact absurd h h0
theorem Zsa{n:Nat}(h:Z3e n=0):1<=n/\n<=5:=by
 unfold Z3e at h;split at h
 ·simp at h
 ·split at h
  ·simp at h
  ·omega
theorem Zpp{α:Type}(f:α->List UInt8)(m:Nat):∀l:List α,(∀a∈l,(f a).length<=m)->(l.map f).flatten.length<=l.length*m
 | [],_=>by simp
 | a::l,h=>by have h1:=Zpp f m l λx hx=>h x (qy10 _ hx);have h2:=h a (qy8 ..);simp only[List.map_cons,List.flatten_cons,qy11,List.length_cons,Nat.add_mul,Nat.one_mul];omega
theorem Z28(t:List UInt8):(txtB t).length=t.length+2:=by rw[txtB,qy11,Zw];omega
theorem Zsb{p:Pkt}(h:chkP p=0):FormP p/\(Z7e p).length<=1000:=by
 unfold chkP at h;split at h;rotate_left
 ·simp at h
 rename_i hk;split at h;rotate_left
 ·simp at h
 rename_i he;split at h
 ·rename_i h3;exact absurd h h3.2
 rename_i hp3;split at h
 ·simp at h
 rename_i hid;have hbare:=(Zzf p).1 he;have hb:=(Z14r p).1 hbare;have hk':=hk;simp only[Z7d,decide_eq_true_eq]at hk';obtain⟨b1,b2,b3,b4,b5,b6⟩:=hb;have h1:p.client.length<=20/\0<=p.keep/\p.keep<65536:=by
  by_cases k:p.kind=1
  ·rw[Z27,if_pos k,Zkq]at h;split at h
   ·simp at h
   ·split at h
    ·split at h
     ·omega
     ·simp at h
    ·simp at h
  ·obtain⟨e1,e2,e3⟩:=b1 k;rw[e1,e3];simp
 have h2:0<=p.code/\p.code<256:=by
  by_cases k:p.kind=2
  ·rw[Z27,if_neg (by omega),if_pos k,Z5s]at h;split at h
   ·omega
   ·simp at h
  ·obtain⟨e1,e2⟩:=b2 k;omega
 have h3:p.topic.length<=60/\p.payload.length<=200/\0<=p.qos/\p.qos<=1/\(p.kind=3->p.qos=0->p.id=0):=by
  by_cases k:p.kind=3
  ·rw[Z27,if_neg (by omega),if_neg (by omega),if_pos k,pubE]at h;split at h
   ·have:=Zs9 ‹_›;split at h
    ·simp at h
    ·split at h
     ·split at h
      ·simp at h
      ·rename_i hn;refine⟨this,by omega,by omega,by omega,λ_ hq=>?_⟩;exact Classical.byContradiction λhi=>hn ⟨hq,.inr hi⟩
     ·simp at h
   ·exact absurd h ‹_›
  ·obtain⟨e1,e2,e3,e4,e5⟩:=b3 k;rw[e3,e4,e5];simp[k]
 have h4:p.asks.length<=5/\∀a∈p.asks,a.1.length<=60/\0<=a.2/\a.2<256/\(p.kind≠8->a.2=0):=by
  by_cases k:p.kind=8\/p.kind=10
  ·rw[Z27,if_neg (by omega),if_neg (by omega),if_neg (by omega),if_pos k,Zhs]at h;split at h
   ·have hc:=Zsa ‹_›;refine⟨hc.2,λa ha=>?_⟩;obtain⟨a1,a2,a3,a4⟩:=Zit h a ha;exact⟨Zs9 a1,a2,by omega,a4⟩
   ·exact absurd h ‹_›
  ·have e:=b5 (by omega);rw[e];simp
 have h5:p.codes.length<=5/\∀c∈p.codes,0<=c/\c<256:=by
  by_cases k:p.kind=9
  ·rw[Z27,if_neg (by omega),if_neg (by omega),if_neg (by omega),if_neg (by omega),if_pos k,Zbm]at h;split at h
   ·have hc:=Zsa ‹_›;refine⟨hc.2,λc hcm=>?_⟩;split at h
    ·simp at h
    ·rename_i hn;have:Zht c=false:=by
      cases hcb:Zht c
      ·rfl
      ·exact absurd (List.any_eq_true.2 ⟨c,hcm,hcb⟩) hn
     simp only[Zht,decide_eq_false_iff_not]at this;omega
   ·exact absurd h ‹_›
  ·have e:=b6 k;rw[e];simp
 have hid2:(0<=p.id/\p.id<65536)/\(idB p=false->p.id=0):=by
  by_cases hi:idB p=true
  ·have:1<=p.id/\p.id<=65535:=Classical.byContradiction λhn=>hid ⟨hi,hn⟩;exact⟨by omega,λhf=>by rw[hi]at hf;simp at hf⟩
  ·have h0:p.id=0:=by
    by_cases k:p.kind=3
    ·refine h3.2.2.2.2 k ?_;have:¬p.qos=1:=λhq=>hi (by simp[idB,k,hq]);omega
    ·refine b4 λhk2=>hi ?_;simp only[idB,decide_eq_true_eq];omega
   rw[h0];simp
 refine⟨⟨hk,hbare,h3.2.2.1 |> λa=>⟨a,h3.2.2.2.1⟩,h1.2,h2,hid2.1,hid2.2,by omega,by omega,λa ha=>?_,h5.2⟩,?_⟩
 ·obtain⟨a1,a2⟩:=h4.2 a ha;exact⟨by omega,a2⟩
 ·have e1:(Z8a p).length<=64:=by
   unfold Z8a;split
   ·simp only[qy11,Z28,Zw,List.length_cons,List.length_nil];omega
   ·split
    ·simp only[qy11,Zw];omega
    ·split
     ·rw[Z28];omega
     ·simp
  have e2:(if idB p=true then numB 2 p.id else[]).length<=2:=by
   split
   ·rw[Zw];omega
   ·simp
  have e3:=Zpp (Z2v p.kind) 63 p.asks λa ha=>by
   have:=(h4.2 a ha).1;unfold Z2v;rw[qy11,Z28];split
   ·rw[Zw];omega
   ·simp;omega
  have e4:=Zpp (numB 1) 1 p.codes λc _=>by rw[Zw];omega
  have e5:p.asks.length*63<=5*63:=Nat.mul_le_mul_right _ h4.1;unfold Z7e;simp only[qy11];omega
def encA(a:Ak):List Value:=[.string ⟨a.1.toArray⟩,.int .i64 a.2]
def Zh(n:Int):List Value:=[.int .i64 n]
abbrev aD:Ak:=([],0)
abbrev Z3i(w:World)(v:Value)(l:List Ak):Prop:=reads w v [.str,.int .i64] (l.map encA)
abbrev Z2w(w:World)(v:Value)(l:List Int):Prop:=reads w v [.int .i64] (l.map Zh)
theorem Z92(w:World):Z3i w (.slice none 0 0) []:=⟨by simp,none,0,rfl,⟨λ_=>rfl,Nat.le_refl _⟩,λh=>absurd rfl h⟩
theorem Zcw(w:World):Z2w w (.slice none 0 0) []:=⟨by simp,none,0,rfl,⟨λ_=>rfl,Nat.le_refl _⟩,λh=>absurd rfl h⟩
theorem gA0(l:List Ak)(i:Nat):Value.gS (((l.map encA).getD i []).getD 0 undef)=(l.getD i aD).1:=by simp only[qy1,List.getElem?_map];cases l[i]?<;>simp[encA,Value.gS,undef]
theorem gA1(l:List Ak)(i:Nat):Value.gI (((l.map encA).getD i []).getD 1 undef)=(l.getD i aD).2:=by simp only[qy1,List.getElem?_map];cases l[i]?<;>simp[encA,Value.gI,undef]
theorem gI0(l:List Int)(i:Nat):Value.gI (((l.map Zh).getD i []).getD 0 undef)=l.getD i 0:=by simp only[qy1,List.getElem?_map];cases l[i]?<;>simp[Zh,Value.gI,undef]
theorem Z1cv(l:List Ak)(i:Nat)(h:i<l.length):l.drop i=l.getD i aD::l.drop (i+1):=by rw[List.drop_eq_getElem_cons h,qy1,qy7 h];rfl
theorem Z1f5(l:List Int)(i:Nat)(h:i<l.length):l.drop i=l.getD i 0::l.drop (i+1):=by rw[List.drop_eq_getElem_cons h,qy1,qy7 h];rfl
def pV(p:Pkt)(u v:Value):Value:=.agg #[.int .i64 p.kind,.bool p.dup,.bool p.retain,.bool p.clean,.bool p.session,.int .i64 p.qos,.int .i64 p.id,.int .i64 p.keep,.int .i64 p.code,.string ⟨p.client.toArray⟩,.string ⟨p.topic.toArray⟩,.string ⟨p.payload.toArray⟩,sc1 u,sc1 v]
structure SmallP(p:Pkt):Prop where
 client:p.client.length<1000000000
 topic:p.topic.length<1000000000
 payload:p.payload.length<1000000000
 asks:p.asks.length<1000000000
 codes:p.codes.length<1000000000
 filt:∀a∈p.asks,a.1.length<1000000000
theorem SmallP.at_{p:Pkt}(h:SmallP p)(i:Nat):(p.asks.getD i aD).1.length<1000000000:=by
 by_cases hi:i<p.asks.length
 ·rw[qy1,qy7 hi];exact h.filt _ (List.getElem_mem hi)
 ·rw[qy1,List.getElem?_eq_none (by omega)];decide
theorem SmallP.bare{p:Pkt}(h:SmallP p):SmallP (Z24 p):=by
 obtain⟨a,b,c,d,e,f⟩:=h;unfold Z24
 (repeat' split)<;>exact⟨by simp_all,by simp_all,by simp_all,by simp_all,by simp_all,by first|exact f|(intro a ha;simp at ha)⟩
theorem Zpq(w:World)(n:Int):Calls Tryz.prog 93 #[.int .i64 n] w λe w'=>e=.returned (.bool (Z7d n))/\Mod [] w w':=by refine Z1 (Z7 (J:=[.i n]) sxE_ok Tryz.func93 Zdx rfl rfl rfl ?_) rfl;simp only[QQ,Nat.reduceAdd];exact⟨λh w' hr=>⟨by simp[Z7d,h],hr.mod⟩,λh w' hr=>⟨by simp[Z7d,h],hr.mod⟩⟩
theorem Zn3(w:World)(s:List UInt8)(hs:s.length<1099511627776):Calls Tryz.prog 75 #[.string ⟨s.toArray⟩] w λe w'=>e=.returned (.bool (cliB s))/\Mod [] w w':=by refine Z1 (Z7 (J:=[.s s]) sxE_ok Tryz.func75 Z5p rfl rfl rfl ?_) rfl;simp only[QQ,Nat.reduceAdd];refine⟨[.b (Z25 s)],rfl,λ_ w' _=>Zk4 w' s hs,?_⟩;simp only[QQ,Nat.reduceAdd];exact λw' hr=>⟨by simp[cliB],hr.mod⟩
theorem Zzg(w:World)(n:Nat):Calls Tryz.prog 172 #[.int .i64 n] w λe w'=>e=.returned (.int .i64 (Z3e n))/\Mod [] w w':=by
 refine Z1 (Z7 (J:=[.i n]) sxE_ok Tryz.func172 Zcd rfl rfl rfl ?_) rfl;simp only[QQ,Nat.reduceAdd];refine⟨λh w' hr=>⟨?_,hr.mod⟩,λh=>⟨λh1 w' hr=>⟨?_,hr.mod⟩,λh1 w' hr=>⟨?_,hr.mod⟩⟩⟩
 ·rw[Z3e,if_pos (by omega)]
 ·rw[Z3e,if_neg (by omega),if_pos (by omega)]
 ·rw[Z3e,if_neg (by omega),if_neg (by omega)]
theorem Z174(w:World)(a:Ak)(h:a.1.length<1000000000):Calls Tryz.prog 147 #[.agg #[.string ⟨a.1.toArray⟩,.int .i64 a.2]] w λe w'=>e=.returned (.int .i64 (askE a))/\Mod [] w w':=by
 refine Z1 (Z7 (J:=[.s a.1,.i a.2]) sxE_ok Tryz.func147 Zfk rfl rfl rfl ?_) rfl;simp only[QQ,Nat.reduceAdd];intro b;refine⟨[.i (chkT a.1 true)],rfl,λ_ w' _=>Zrw w' _ (by omega),?_⟩;simp only[QQ,Nat.reduceAdd];refine⟨λh w' hr=>⟨by rw[askE,if_neg h],hr.mod⟩,λh=>⟨λh1 w' hr=>⟨?_,hr.mod⟩,λh1 w' hr=>⟨?_,hr.mod⟩⟩⟩
 ·rw[askE,if_pos (qy9.1 h),if_neg h1]
 ·rw[askE,if_pos (qy9.1 h),if_pos (qy9.1 h1)]
section
variable (w:World) (p:Pkt) (u v:Value) (hu:Z3i w u p.asks) (hv:Z2w w v p.codes) (hs:SmallP p)
include hu hv
theorem Z14s:Calls Tryz.prog 97 #[pV p u v] w λe w'=>e=.returned (.bool (idB p))/\Mod [] w w':=by
 refine Z1 (Z3 (J:=[.i p.kind,.b p.dup,.b p.retain,.b p.clean,.b p.session,.i p.qos,.i p.id,.i p.keep,.i p.code,.s p.client,.s p.topic,.s p.payload,.v u,.r (p.asks.map encA),.v v,.r (p.codes.map Zh)]) sxE_ok Tryz.func97 Zho rfl rfl (Rel.start2 (by simp[Ent.holds,Ent.wr,hu,hv,X.ev])) rfl rfl ?_) rfl;simp only[QQ,Nat.reduceAdd];intro b;refine⟨λh w' hr=>⟨?_,hr.mod⟩,λh=>⟨λh1 w' hr=>⟨?_,hr.mod⟩,λh1=>⟨λh2 w' hr=>⟨?_,hr.mod⟩,λh2=>⟨λh3 w' hr=>⟨?_,hr.mod⟩,λh3=>⟨λh4 w' hr=>⟨?_,hr.mod⟩,λh4=>⟨λh5 w' hr=>⟨?_,hr.mod⟩,λh5 w' hr=>⟨?_,hr.mod⟩⟩⟩⟩⟩⟩⟩ <;>
  (simp only[idB,Ending.returned.injEq,Value.bool.injEq];first|exact decide_eq_decide.2 (by omega)|(symm;simp only[decide_eq_true_eq,decide_eq_false_iff_not];omega))
theorem Zv9:Calls Tryz.prog 135 #[pV p u v] w λe w'=>e=.returned (.int .i64 (Z5s p))/\Mod [] w w':=by
 refine Z1 (Z3 (J:=[.i p.kind,.b p.dup,.b p.retain,.b p.clean,.b p.session,.i p.qos,.i p.id,.i p.keep,.i p.code,.s p.client,.s p.topic,.s p.payload,.v u,.r (p.asks.map encA),.v v,.r (p.codes.map Zh)]) sxE_ok Tryz.func135 Z9v rfl rfl (Rel.start2 (by simp[Ent.holds,Ent.wr,hu,hv,X.ev])) rfl rfl ?_) rfl;simp only[QQ,Nat.reduceAdd];intro b;refine⟨λh w' hr=>⟨by rw[Z5s,if_neg h],hr.mod⟩,λh=>⟨λh2 w' hr=>⟨?_,hr.mod⟩,λh2 w' hr=>⟨?_,hr.mod⟩⟩⟩
 ·rw[Z5s,if_pos (qy9.1 h),if_pos h2]
 ·rw[Z5s,if_pos (qy9.1 h),if_neg h2]
include hs
theorem Z14t:Calls Tryz.prog 94 #[pV p u v] w λe w'=>e=.returned (.bool (Z9i p))/\Mod [] w w':=by
 refine Z1 (Z3 (J:=[.i p.kind,.b p.dup,.b p.retain,.b p.clean,.b p.session,.i p.qos,.i p.id,.i p.keep,.i p.code,.s p.client,.s p.topic,.s p.payload,.v u,.r (p.asks.map encA),.v v,.r (p.codes.map Zh)]) sxE_ok Tryz.func94 Zcj rfl rfl (Rel.start2 (by simp[Ent.holds,Ent.wr,hu,hv,X.ev])) rfl rfl ?_) rfl;have h1:=hs.client;have h2:=hs.topic;have h3:=hs.payload;have h4:=hs.asks;have h5:=hs.codes;simp only[QQ,Nat.reduceAdd,qy3,qy11];intro b;refine⟨.inr (by omega),.inr (by omega),.inr (by omega),λw' hr=>⟨?_,hr.mod⟩⟩;obtain⟨k,d,r,c,se,q,i,ke,co,cl,t,pl,az,cs⟩:=p;simp only[Z9i,Ending.returned.injEq,Value.bool.injEq,Pkt.mk.injEq];have e1:((az.length:Int)+(cs.length:Int)=0)↔az=[]/\cs=[]:=by rw[<- List.length_eq_zero_iff,<- List.length_eq_zero_iff];omega
 rw[Bool.eq_iff_iff];simp only[Bool.and_eq_true,Bool.not_eq_true',decide_eq_true_eq,e1,List.append_eq_nil_iff];constructor<;>(intro h;simp_all)
theorem Zva:Calls Tryz.prog 134 #[pV p u v] w λe w'=>e=.returned (.int .i64 (Zkq p))/\Mod [] w w':=by
 refine Z1 (Z3 (J:=[.i p.kind,.b p.dup,.b p.retain,.b p.clean,.b p.session,.i p.qos,.i p.id,.i p.keep,.i p.code,.s p.client,.s p.topic,.s p.payload,.v u,.r (p.asks.map encA),.v v,.r (p.codes.map Zh)]) sxE_ok Tryz.func134 Z9r rfl rfl (Rel.start2 (by simp[Ent.holds,Ent.wr,hu,hv,X.ev])) rfl rfl ?_) rfl;have h1:=hs.client;simp only[QQ,Nat.reduceAdd];intro b;refine⟨λh w' hr=>⟨by rw[Zkq,if_pos h],hr.mod⟩,λh=>?_⟩;refine⟨[.b (cliB p.client)],rfl,λ_ w' _=>Zn3 w' _ (by omega),?_⟩;simp only[QQ,Nat.reduceAdd];refine⟨λh2 w' hr=>⟨by rw[Zkq,if_neg h,if_neg h2],hr.mod⟩,λh2=>⟨λh3 w' hr=>⟨?_,hr.mod⟩,λh3 w' hr=>⟨?_,hr.mod⟩⟩⟩
 ·rw[Zkq,if_neg h,if_pos (qy9.1 h2),if_neg h3]
 ·rw[Zkq,if_neg h,if_pos (qy9.1 h2),if_pos (qy9.1 h3)]
theorem Ziu:Calls Tryz.prog 96 #[pV p u v] w λe w'=>e=.returned (.int .i64 (pubE p))/\Mod [] w w':=by
 refine Z1 (Z3 (J:=[.i p.kind,.b p.dup,.b p.retain,.b p.clean,.b p.session,.i p.qos,.i p.id,.i p.keep,.i p.code,.s p.client,.s p.topic,.s p.payload,.v u,.r (p.asks.map encA),.v v,.r (p.codes.map Zh)]) sxE_ok Tryz.func96 Z9t rfl rfl (Rel.start2 (by simp[Ent.holds,Ent.wr,hu,hv,X.ev])) rfl rfl ?_) rfl;have h1:=hs.topic;simp only[QQ,Nat.reduceAdd];intro b;refine⟨[.i (chkT p.topic false)],rfl,λ_ w' _=>Zmn w' _ (by omega),?_⟩;simp only[QQ,Nat.reduceAdd];refine⟨λh w' hr=>⟨by rw[pubE,if_neg h],hr.mod⟩,λh=>?_⟩;have h:=qy9.1 h;refine⟨λh2 w' hr=>⟨by rw[pubE,if_pos h,if_pos h2],hr.mod⟩,λh2=>⟨λh3 w' hr=>⟨?_,hr.mod⟩,λh3=>⟨λh4 w' hr=>⟨?_,hr.mod⟩,λh4 w' hr=>⟨?_,hr.mod⟩⟩⟩⟩
 ·rw[pubE,if_pos h,if_neg h2,if_neg h3]
 ·rw[pubE,if_pos h,if_neg h2,if_pos (qy9.1 h3),if_pos h4]
 ·rw[pubE,if_pos h,if_neg h2,if_pos (qy9.1 h3),if_neg h4]
theorem Zzh:Calls Tryz.prog 136 #[pV p u v] w λe w'=>e=.returned (.int .i64 (Zhs p))/\Mod [] w w':=by
 refine Z1 (Z3 (J:=[.i p.kind,.b p.dup,.b p.retain,.b p.clean,.b p.session,.i p.qos,.i p.id,.i p.keep,.i p.code,.s p.client,.s p.topic,.s p.payload,.v u,.r (p.asks.map encA),.v v,.r (p.codes.map Zh)]) sxE_ok Tryz.func136 Zdv rfl rfl (Rel.start2 (by simp[Ent.holds,Ent.wr,hu,hv,X.ev])) rfl rfl ?_) rfl;have h1:=hs.asks;have hf:=hs.at_;simp only[QQ,Nat.reduceAdd,qy3];intro b;refine⟨[.i (Z3e p.asks.length)],rfl,λ_ w' _=>Zzg w' _,?_⟩;simp only[QQ,Nat.reduceAdd,qy3];refine⟨λh w' hr=>⟨by rw[Zhs,if_neg h],hr.mod⟩,λh=>?_⟩;have h:=qy9.1 h;rw[Zhs,if_pos h];refine⟨λvs=>∃(i:Nat) (x:V),vs=[x,.i i]/\i<=p.asks.length/\Zbl p.kind (p.asks.drop i)=Zbl p.kind p.asks,λvs=>p.asks.length - (vs.getD 1 (.i 0)).toI.toNat,⟨0,_,rfl,by omega,rfl⟩,?_⟩;rintro _ - ⟨i,x,rfl,hi,hg⟩;simp only[QQ,Nat.reduceAdd,qy3,qy4,gA0,gA1];refine⟨λh2=>⟨by omega,λb=>⟨λhk=>?_,λhk=>?_⟩⟩,λh2 w' hr=>⟨?_,hr.mod⟩⟩
 ·rw[Z1cv _ _ (by omega),Zbl,if_pos hk]at hg;refine⟨[.i (askE (p.asks.getD i aD))],rfl,λ_ w' _=>Z174 w' _ (hf i),?_⟩;simp only[QQ,Nat.reduceAdd];refine⟨λh3 w' hr=>⟨by rw[<- hg,if_neg h3],hr.mod⟩,λh3=>⟨by omega,by omega,⟨i+1,x,rfl,by omega,?_⟩,by omega⟩⟩;rw[<- hg,if_pos (qy9.1 h3)]
 ·rw[Z1cv _ _ (by omega),Zbl,if_neg hk]at hg;have:=hf i;refine⟨[.i (chkT (p.asks.getD i aD).1 true)],rfl,λ_ w' _=>Zrw w' _ (by omega),?_⟩;simp only[QQ,Nat.reduceAdd,gA1];refine⟨λh3 w' hr=>⟨?_,hr.mod⟩,λh3=>⟨λh4 w' hr=>⟨?_,hr.mod⟩,λh4=>⟨by omega,by omega,⟨i+1,x,rfl,by omega,?_⟩,by omega⟩⟩⟩
  ·have e:Z5t (p.asks.getD i aD)=chkT (p.asks.getD i aD).1 true:=by rw[Z5t,if_neg h3]
   rw[<- hg,e,if_neg h3]
  ·have e:Z5t (p.asks.getD i aD)=1:=by rw[Z5t,if_pos (qy9.1 h3),if_neg h4]
   rw[<- hg,e];rfl
  ·have e:Z5t (p.asks.getD i aD)=0:=by rw[Z5t,if_pos (qy9.1 h3),if_pos (qy9.1 h4)]
   rw[<- hg,e];rfl
 ·have:i=p.asks.length:=by omega
  subst this;rw[List.drop_length]at hg;rw[<- hg];rfl
theorem Z14u:Calls Tryz.prog 137 #[pV p u v] w λe w'=>e=.returned (.int .i64 (Zbm p))/\Mod [] w w':=by
 refine Z1 (Z3 (J:=[.i p.kind,.b p.dup,.b p.retain,.b p.clean,.b p.session,.i p.qos,.i p.id,.i p.keep,.i p.code,.s p.client,.s p.topic,.s p.payload,.v u,.r (p.asks.map encA),.v v,.r (p.codes.map Zh)]) sxE_ok Tryz.func137 Zcn rfl rfl (Rel.start2 (by simp[Ent.holds,Ent.wr,hu,hv,X.ev])) rfl rfl ?_) rfl;have h1:=hs.codes;simp only[QQ,Nat.reduceAdd,qy3];intro b;refine⟨[.i (Z3e p.codes.length)],rfl,λ_ w' _=>Zzg w' _,?_⟩;simp only[QQ,Nat.reduceAdd,qy3];refine⟨λh w' hr=>⟨by rw[Zbm,if_neg h],hr.mod⟩,λh=>?_⟩;have h:=qy9.1 h;rw[Zbm,if_pos h];refine⟨λvs=>∃(i:Nat) (x:V),vs=[x,.i i]/\i<=p.codes.length/\(p.codes.drop i).any Zht=p.codes.any Zht,λvs=>p.codes.length - (vs.getD 1 (.i 0)).toI.toNat,⟨0,_,rfl,by omega,rfl⟩,?_⟩;rintro _ - ⟨i,x,rfl,hi,hg⟩;simp only[QQ,Nat.reduceAdd,qy3,qy4,gI0];refine⟨λh2=>?_,λh2=>?_⟩
 ·rw[Z1f5 _ _ (by omega),List.any_cons]at hg;refine⟨by omega,λh3 w' hr=>⟨?_,hr.mod⟩,λh3=>⟨by omega,by omega,⟨i+1,x,rfl,by omega,?_⟩,by omega⟩⟩
  ·have e:Zht (p.codes.getD i 0)=true:=by simp only[Zht,decide_eq_true_eq];exact⟨h3.1.1,h3.1.2,h3.2⟩
   rw[<- hg,e];rfl
  ·have e:Zht (p.codes.getD i 0)=false:=by
    simp only[Zht,decide_eq_false_iff_not];exact λh4=>h3 ⟨⟨h4.1,h4.2.1⟩,h4.2.2⟩
   rw[<- hg,e];rfl
 ·have:i=p.codes.length:=by omega
  subst this;rw[List.drop_length]at hg;rw[<- hg];exact⟨λh3=>absurd h3 (by omega),λh3 w' hr=>⟨rfl,hr.mod⟩⟩
end
end Go.Proofs.Y
namespace Go.Proofs.Y
open Go.Sx
abbrev wV(x:Wt):Value:=.agg #[.string ⟨x.1.toArray⟩,.string ⟨x.2.1.toArray⟩,.int .i64 x.2.2]
theorem c_Or(w:World)(v:Value)(x y:Int)(hv:reads w v [.int .i64] [[.int .i64 x],[.int .i64 y]]):Calls Tryz.prog 148 #[sc1 v] w λe w'=>e=.returned (.int .i64 (if x=0 then y else x))/\Mod [] w w':=by
 refine Z1 (Z3 (J:=[.v v,.r [[.int .i64 x],[.int .i64 y]]]) sxE_ok Tryz.func148 Zfh rfl rfl (Rel.start2 (by simp[Ent.holds,Ent.wr,hv,X.ev])) rfl rfl ?_) rfl;simp only[QQ,Nat.reduceAdd];refine⟨λvs=>∃(i:Nat) (u:V),vs=[u,.i i]/\i<=2/\(1<=i->x=0)/\(2<=i->y=0),λvs=>2 - (vs.getD 1 (.i 0)).toI.toNat,⟨0,_,rfl,by omega,λh=>by omega,λh=>by omega⟩,?_⟩;rintro _ - ⟨i,u,rfl,hi,h1,h2⟩;have h3:i=0\/i=1\/i=2:=by omega
 rcases h3 with rfl|rfl|rfl
 ·simp only[QQ,Nat.reduceAdd];refine⟨λ_=>⟨by omega,λh w' hr=>⟨?_,hr.mod⟩,λh=>⟨by omega,by omega,⟨1,_,rfl,by omega,λ_=>?_,λh=>by omega⟩,by simp⟩⟩,λh=>by simp at h⟩
  ·rw[if_neg (show ¬x=0 from h)];rfl
  ·exact qy9.1 h
 ·have hx:=h1 (Nat.le_refl _);simp only[QQ,Nat.reduceAdd];refine⟨λ_=>⟨by omega,λh w' hr=>⟨?_,hr.mod⟩,λh=>⟨by omega,by omega,⟨2,_,rfl,by omega,λ_=>hx,λ_=>?_⟩,by simp⟩⟩,λh=>by simp at h⟩
  ·rw[if_pos hx];rfl
  ·exact qy9.1 h
 ·have hx:=h1 (by omega);have hy:=h2 (by omega);simp only[QQ,Nat.reduceAdd];refine⟨λh=>by simp at h,λ_ w' hr=>⟨?_,hr.mod⟩⟩;rw[if_pos hx,hy]
theorem Zpr(w:World)(a b:Wt):Calls Tryz.prog 109 #[wV a,wV b] w λe w'=>e=.returned (.int .i64 (cmpP (ky a) (ky b)))/\Mod [] w w':=by refine Z1 (Z7 (J:=[.s a.1,.s a.2.1,.i a.2.2,.s b.1,.s b.2.1,.i b.2.2]) (sxE_ok.joins _) Tryz.func109 Zff rfl rfl rfl ?_) rfl;simp only[QQ,Nat.reduceAdd];intro b1 b2;refine⟨[.i (Z2d a.1 b.1)],rfl,λ_ w' _=>Z2e w' _ _,?_⟩;simp only[QQ,Nat.reduceAdd];refine⟨[.i (Z2d a.2.1 b.2.1)],rfl,λ_ w' _=>Z2e w' _ _,?_⟩;simp only[QQ,Nat.reduceAdd];intro v;refine⟨[.i (cmpP (ky a) (ky b))],rfl,λ_ w' hr=>c_Or w' v _ _ (hr.at_ 0 rfl).reads,?_⟩;simp only[QQ,Nat.reduceAdd];exact λw' hr=>⟨by trivial,hr.mod⟩
def Z38(x:Wt):Int:=if cliB x.1=true then askE (x.2.1,x.2.2)else 1
theorem Z19i(w:World)(x:Wt)(hs:smW x):Calls Tryz.prog 108 #[wV x] w λe w'=>e=.returned (.int .i64 (Z38 x))/\Mod [] w w':=by have h1:=hs.1;have h2:=hs.2;refine Z1 (Z7 (J:=[.s x.1,.s x.2.1,.i x.2.2]) sxE_ok Tryz.func108 Zk2 rfl rfl rfl ?_) rfl;simp only[QQ,Nat.reduceAdd];intro b1;refine⟨[.b (cliB x.1)],rfl,λ_ w' _=>Zn3 w' _ (by omega),?_⟩;simp only[QQ,Nat.reduceAdd];refine⟨λh w' hr=>⟨by rw[Z38,if_neg h],hr.mod⟩,λh=>?_⟩;have h:=qy9.1 h;refine⟨[.i (askE (x.2.1,x.2.2))],rfl,λ_ w' _=>Z174 w' (x.2.1,x.2.2) h2,?_⟩;simp only[QQ,Nat.reduceAdd];exact λw' hr=>⟨by rw[Z38,if_pos h],hr.mod⟩
def Ze4:Option Ky->List Wt->Int
 | _,[]=>0
 | p,k::l=>if Z38 k≠0 then Z38 k else if(p.any λt=>!(ltP t (ky k)))=true then 4 else Ze4 (some (ky k)) l
def Zi(l:List Wt):Int:=if 20<(l.length:Int)then 2 else Ze4 none l
def Zvb(l:List Wt)(i:Nat):Option Ky:=if i=0 then none else some (ky (l.getD (i - 1) wD_V))
theorem Zzi(l:List Wt)(i:Nat):((Zvb l i).any λt=>!(ltP t (ky (l.getD i wD_V))))=true↔(0<(i:Int)/\0<=cmpP (ky (l.getD (i - 1) wD_V)) (ky (l.getD i wD_V))):=by
 unfold Zvb;rw[Zyw];by_cases h:i=0
 ·simp[h]
 ·rw[if_neg h];simp only[Option.any_some,Bool.not_eq_true'];exact⟨λh2=>⟨by omega,h2⟩,λh2=>h2.2⟩
theorem Ziv{l:List Wt}{i:Nat}(h:i<l.length):Ze4 (Zvb l i) (l.drop i)=if Z38 (l.getD i wD_V)≠0 then Z38 (l.getD i wD_V)
  else if 0<(i:Int)/\0<=cmpP (ky (l.getD (i - 1) wD_V)) (ky (l.getD i wD_V))then 4 else Ze4 (Zvb l (i+1)) (l.drop (i+1)):=by
 rw[Z196 l i h,Ze4];simp only[Zzi];rfl
theorem Zvc(w:World)(v:Value)(l:List Wt)(hv:Z2g w v l)(hs:Z30 l)(hl:l.length<1000000000):Calls Tryz.prog 61 #[sc1 v] w λe w'=>e=.returned (.int .i64 (Zi l))/\Mod [] w w':=by
 refine Z1 (Z3 (J:=[.v v,.r (l.map Zb)]) sxE_ok Tryz.func61 Zfe rfl rfl (Rel.start2 (by simp[Ent.holds,Ent.wr,hv,X.ev])) rfl rfl ?_) rfl;simp only[QQ,Nat.reduceAdd,qy3,qy4,Z23,Z2f,Z45];refine⟨λh w' hr=>⟨by rw[Zi,if_pos h],hr.mod⟩,λh=>?_⟩;rw[Zi,if_neg h];refine⟨λvs=>∃(i:Nat) (x:V),vs=[x,.i i]/\i<=l.length/\Ze4 (Zvb l i) (l.drop i)=Ze4 none l,λvs=>l.length - (vs.getD 1 (.i 0)).toI.toNat,⟨0,_,rfl,by omega,rfl⟩,?_⟩;rintro _ - ⟨i,x,rfl,hi,hg⟩;simp only[QQ,Nat.reduceAdd,qy3,qy4,Z23,Z2f,Z45];have hi1:((i:Int) - 1).toNat=i - 1:=by omega
 try rw[hi1]
 refine⟨λh1=>⟨by omega,λb=>?_⟩,λh1 w' hr=>⟨?_,hr.mod⟩⟩
 ·rw[Ziv (by omega)]at hg;refine⟨[.i (Z38 (l.getD i wD_V))],rfl,λ_ w' _=>Z19i w' _ (Za0 hs i),?_⟩;simp only[QQ,Nat.reduceAdd,qy3,qy4,Z23,Z2f,Z45];try rw[hi1]
  refine⟨λh2 w' hr=>⟨?_,hr.mod⟩,λh2=>⟨by omega,by omega,by omega,by omega,?_⟩⟩
  ·rw[if_pos h2]at hg;rw[<- hg]
  ·rw[if_neg h2]at hg;refine⟨[.i (cmpP (ky (l.getD (i - 1) wD_V)) (ky (l.getD i wD_V)))],rfl,λ_ w' _=>Zpr w' (l.getD (i - 1) wD_V) (l.getD i wD_V),?_⟩;simp only[QQ,Nat.reduceAdd];refine⟨λh6 w' hr=>⟨?_,hr.mod⟩,λh6=>⟨by omega,by omega,⟨i+1,x,rfl,by omega,?_⟩,by omega⟩⟩
   ·rw[if_pos h6]at hg;rw[<- hg]
   ·rw[if_neg h6]at hg;exact hg
 ·have:i=l.length:=by omega
  subst this;rw[List.drop_length]at hg;rw[<- hg];rfl
theorem Zbn:∀(l:List Wt) (p:Option Ky),Ze4 p l=0↔(∀k∈l,Z38 k=0)/\Zbi l/\∀t,p=some t->∀k∈l,ltP t (ky k)=true
 | [],p=>by simp[Ze4,Zbi]
 | k::l,p=>by
  rw[Ze4];constructor
  ·intro h;split at h
   ·exact absurd h (by assumption)
   rename_i h1;split at h
   ·exact absurd h (by decide)
   rename_i h5;obtain⟨i1,i2,i3⟩:=(Zbn l (some (ky k))).1 h;refine⟨λx hx=>?_,List.pairwise_cons.2 ⟨λx hx=>i3 _ rfl x hx,i2⟩,λt ht x hx=>?_⟩
   ·rcases List.mem_cons.1 hx with rfl|hx
    ·exact qy9.1 h1
    ·exact i1 x hx
   ·subst ht;have h6:ltP t (ky k)=true:=by simpa using h5
    rcases List.mem_cons.1 hx with rfl|hx
    ·exact h6
    ·exact Z6i h6 (i3 _ rfl x hx)
  ·rintro⟨i1,i2,i3⟩;obtain⟨j1,j2⟩:=List.pairwise_cons.1 i2;rw[if_neg (by simpa using i1 k (qy8 ..)),if_neg]
   ·exact(Zbn l (some (ky k))).2 ⟨λx hx=>i1 x (qy10 _ hx),j2,λt ht x hx=>by cases ht;exact j1 x hx⟩
   ·cases p with
    | none=>simp
    | some t=>simpa using i3 t rfl k (qy8 ..)
theorem Z1i{l:List Wt}:Zi l=0↔l.length<=20/\(∀k∈l,Z38 k=0)/\Zbi l:=by
 unfold Zi;constructor
 ·intro h;split at h
  ·exact absurd h (by decide)
  ·obtain⟨a,b,-⟩:=(Zbn l none).1 h;exact⟨by omega,a,b⟩
 ·rintro⟨a,b,c⟩;rw[if_neg (by omega)];exact(Zbn l none).2 ⟨b,c,λt ht=>by cases ht⟩
theorem Zzj{v:Value}(hn:(match v with | .slice none _ _=>true|_=>false)=true){w:World}{ks:List Kd}{rows:List (List Value)}(h:reads w v ks rows):rows=[]:=by obtain⟨_,a,cap,rfl,_,h2⟩:=h;refine Classical.byContradiction λhne=>?_;obtain⟨ad,rfl,_⟩:=h2 hne;simp at hn
theorem Z4r(w:World)(v:Value)(l:List Wt)(hv:Z2g w v l)(hl:l.length<1000000000):Calls Tryz.prog 78 #[sc1 v] w λe w'=>∃v',e=.returned (sc1 v')/\Zg2 w' v' l/\(∀k,Z2 v' k->w.heap.size<=k)/\Mod [] w w':=by
 refine Z1 (Z3 (J:=[.v v,.r (l.map Zb)]) sxE_ok Tryz.func78 Z35 rfl rfl (Rel.start2 (by simp[Ent.holds,Ent.wr,hv,X.ev])) rfl rfl ?_) rfl;simp only[QQ,Nat.reduceAdd,qy3,List.nil_append];refine⟨λh w' hr=>?_,λh v1=>⟨by simp only[Int.natCast_zero];omega,λv2 w' hr=>?_⟩⟩
 ·have hn:l=[]:=List.map_eq_nil_iff.1 (Zzj h hv);subst hn;exact⟨_,rfl,hr.at_ 0 rfl,hr.fresh 0 rfl,hr.mod⟩
 ·exact⟨v2,rfl,hr.at_ 0 rfl,hr.fresh 0 rfl,hr.mod⟩
theorem Z175(w:World)(s v:Value)(l:List Wt)(x:Wt)(i:Nat)(hs:Zg2 w s l)(hv:Zg2 w v [x])(hne:∀k,Z2 s k->Z2 v k->False)(hi:i<=l.length)(hl:l.length<1000000) : Calls Tryz.prog 256 #[sc1 s,.int .i64 i,sc1 v] w λe w'=>∃v',e=.returned (sc1 v')/\Zg2 w' v' (l.take i++[x]++l.drop i)/\(∀k,Z2 v' k->Z2 s k\/w.heap.size<=k)/\Mod s.ownBlock.toList w w':=by rw[hs.reads.sc1,hv.reads.sc1];refine(Zz4 w s v i _ _ hs hv hne (by simpa using hi) (by simp;omega)).mono ?_;rintro e w' ⟨v',rfl,g1,g2,g3⟩;refine⟨v',by rw[g1.reads.sc1],?_,g2,Mod.of_grown g3 λk hk=>.inl (Option.mem_toList.2 hk)⟩;rw[Zg2,List.map_append,List.map_append,List.map_take,List.map_drop];exact g1
theorem Zen{J:List V}{g:List Nat}{i:Nat}(hi:i∈g){k:Nat}(h:Z2 (J.getD i (.i 0)).toV k):k∈Zt J g:=List.mem_flatMap.2 ⟨i,hi,by rw[h];simp⟩
def newW(n:Nat)(u:Value):Prop:=∀k,Z2 u k->n<=k
theorem Zks(n:Nat):newW n (.slice none 0 0):=λk hk=>by simp[Z2,Value.ownBlock]at hk
theorem Zdk(w:World):Z2g w (.slice none 0 0) []:=⟨by simp,none,0,rfl,⟨λ_=>rfl,Nat.le_refl _⟩,λh=>absurd rfl h⟩
def Z1cw(w w':World)(e:Ending)(r:List Wt)(er:Int):Prop:=∃v',e=.returned (.tuple #[sc1 v',.int .i64 er])/\Z2g w' v' r/\newW w.heap.size v'/\Mod [] w w'
def rawW(l:List Wt)(x:Wt):List Wt×Int :=
 if hasW l (ky x)=true then(l.set (idxW l (ky x)) x,0)
 else if(l.length:Int)=20 then([],2)else(l.take (idxW l (ky x))++[x]++l.drop (idxW l (ky x)),0)
theorem Zeo(R:List Wt)(m:Nat)(x:Wt):(R.map Zb).set m [.string ⟨x.1.toArray⟩,.string ⟨x.2.1.toArray⟩,.int .i64 x.2.2]=(R.set m x).map Zb:=by rw[List.map_set];rfl
theorem Z1cx(w:World)(v:Value)(l:List Wt)(x:Wt)(hv:Z2g w v l)(hs:Zbi l)(hl:l.length<=20):Calls Tryz.prog 225 #[sc1 v,wV x] w λe w'=>Z1cw w w' e (rawW l x).1 (rawW l x).2:=by
  refine Z1 (Z3 (J:=[.v v,.r (l.map Zb),.s x.1,.s x.2.1,.i x.2.2]) sxE_ok Tryz.func225 Zk3 rfl rfl (Rel.start2 (by simp[Ent.holds,Ent.wr,hv,X.ev])) rfl rfl ?_) rfl;simp only[QQ,Nat.reduceAdd,qy3,qy4,Z23,Z2f,Z45];intro b1 w1 hr;refine(Z4r w1 v l (by(first|exact hr.at_ 0 rfl|exact hr.at_ 1 rfl|exact hr.at_ 2 rfl|exact hr.at_ 3 rfl|exact hr.at_ 4 rfl|exact hr.at_ 5 rfl|exact hr.at_ 6 rfl|exact hr.at_ 7 rfl|exact hr.at_ 8 rfl)) (by omega)).mono ?_;rintro e w2 ⟨u,rfl,a1,f1,m1⟩;refine⟨[.v u,.r (l.map Zb)],rfl,rfl,m1,qy5 _,qy2.2 ⟨⟨a1,λk hk=>.inl (f1 k hk)⟩,qy5 _⟩,Z5,?_⟩;clear hr a1 f1 m1;simp only[QQ,Nat.reduceAdd,qy3,qy4,Z23,Z2f,Z45];intro b3;refine⟨λvs=>∃(i j:Nat),vs=[.i i,.i j]/\i<=j/\j<=l.length/\(∀k,k<i->ltP (ky (l.getD k wD_V)) (ky x)=true)/\(∀k,j<=k->k<l.length->ltP (ky (l.getD k wD_V)) (ky x)=false),λvs=>(vs.getD 1 (.i 0)).toI.toNat - (vs.getD 0 (.i 0)).toI.toNat,⟨0,l.length,rfl,by omega,by omega,λk hk=>by omega,λk h1 h2=>by omega⟩,?_⟩;rintro _ - ⟨i,j,rfl,hij,hj,hA,hB⟩;simp only[QQ,Nat.reduceAdd,qy3,qy4,Z23,Z2f,Z45];refine⟨λh1=>?_,λh1=>?_⟩
  . rw[Z1f2 i j (by omega)];obtain⟨h,hh⟩:∃h,h=(i+j) / 2:=⟨_,rfl⟩
    rw[<- hh];have hh1:i<=h/\h<j:=by omega
    simp only[qy4,Z23,Z2f,Z45];refine⟨by omega,by omega,by omega,by omega,by omega,by omega,?_⟩;refine⟨[.i (cmpP (ky (l.getD h wD_V)) (ky x))],rfl,λ_ w' _=>Zpr w' (l.getD h wD_V) x,?_⟩;simp only[QQ,Nat.reduceAdd,qy3,qy4,Z23,Z2f,Z45];rw[Zyu];refine⟨λh2=>⟨by omega,by omega,⟨h+1,j,rfl,by omega,hj,λk hk=>?_,hB⟩,by omega⟩,λh2=>⟨⟨i,h,rfl,by omega,by omega,hA,λk hk1 hk2=>?_⟩,by omega⟩⟩
    . by_cases hkh:k=h
      . rw[hkh];exact h2
      . exact Z6i (Zs3 hs (i:=k) (j:=h) (by omega) (by omega)) h2
    . have h3:ltP (ky (l.getD h wD_V)) (ky x)=false:=by simpa using h2
      by_cases hkh:k=h
      . rw[hkh];exact h3
      . cases h4:ltP (ky (l.getD k wD_V)) (ky x)with
        | false=>rfl
        | true =>
          have:=Z6i (Zs3 hs (i:=h) (j:=k) (by omega) hk2) h4;rw[h3]at this;cases this
  . have hie:i=j:=by omega
    subst hie;have e:=Zyx (i:=i) hj hA hB;refine⟨by omega,by omega,λh2=>?_,λh2=>?_⟩
    . refine⟨[.i (cmpP (ky (l.getD i wD_V)) (ky x))],rfl,λ_ w' _=>Zpr w' (l.getD i wD_V) x,?_⟩;simp only[QQ,Nat.reduceAdd,qy3,qy4,Z23,Z2f,Z45];rw[Zyv];refine⟨λh3=>⟨by omega,λw3 hr=>?_⟩,λh3=>⟨λh4 w3 hr=>?_,λh4 u2 w3 hr=>?_⟩⟩
      . have hh:hasW l (ky x)=true:=by rw[hasW,<- e];exact decide_eq_true ⟨by omega,h3⟩
        rw[rawW,if_pos hh,<- e];refine⟨u,rfl,?_,hr.fresh 1 rfl,hr.mod⟩;have h0:=(hr.at_ 1 rfl).reads;rw[Z2g,<- Zeo];exact h0
      . have hh:¬hasW l (ky x)=true:=by rw[hasW,<- e,decide_eq_true_eq];exact λh=>h3 h.2
        rw[rawW,if_neg hh,if_pos h4];exact⟨_,rfl,Zdk _,Zks _,hr.mod⟩
      . have hh:¬hasW l (ky x)=true:=by rw[hasW,<- e,decide_eq_true_eq];exact λh=>h3 h.2
        rw[rawW,if_neg hh,if_neg h4,<- e];refine(Z175 w3 u u2 l x i (by(first|exact hr.at_ 0 rfl|exact hr.at_ 1 rfl|exact hr.at_ 2 rfl|exact hr.at_ 3 rfl|exact hr.at_ 4 rfl|exact hr.at_ 5 rfl|exact hr.at_ 6 rfl|exact hr.at_ 7 rfl|exact hr.at_ 8 rfl)) (by(first|exact hr.at_ 0 rfl|exact hr.at_ 1 rfl|exact hr.at_ 2 rfl|exact hr.at_ 3 rfl|exact hr.at_ 4 rfl|exact hr.at_ 5 rfl|exact hr.at_ 6 rfl|exact hr.at_ 7 rfl|exact hr.at_ 8 rfl)) (λk h5 h6=>hr.sep.disj (i:=2) (j:=0) rfl rfl (by omega) (.inl rfl) (k:=k) h5 h6) (by omega) (by omega)).mono ?_;rintro e w4 ⟨v',rfl,g1,g2,g3⟩;refine⟨[.v v',.r ((l.take i++[x]++l.drop i).map Zb)],rfl,rfl,g3.mono λk hk=>.inl (by unfold Zm;exact List.mem_append_right _ (Zen (i:=7) (by simp) (Option.mem_toList.1 hk))),qy5 _,qy2.2 ⟨⟨g1,λk hk=>?_⟩,qy5 _⟩,Z5,?_⟩;(· rcases g2 k hk with h5|h5;(· exact .inr (.inr (Zen (i:=7) (by simp) h5)));(· exact .inl h5));(· intro w5 hr5;exact⟨v',rfl,(hr5.at_ 0 rfl).reads,hr5.fresh 0 rfl,hr5.mod⟩)
    . have hh:¬hasW l (ky x)=true:=by rw[hasW,<- e,decide_eq_true_eq];exact λh=>h2 (by omega)
      refine⟨λh4 w3 hr=>?_,λh4 u2 w3 hr=>?_⟩
      . rw[rawW,if_neg hh,if_pos h4];exact⟨_,rfl,Zdk _,Zks _,hr.mod⟩
      . rw[rawW,if_neg hh,if_neg h4,<- e];refine(Z175 w3 u u2 l x i (by(first|exact hr.at_ 0 rfl|exact hr.at_ 1 rfl|exact hr.at_ 2 rfl|exact hr.at_ 3 rfl|exact hr.at_ 4 rfl|exact hr.at_ 5 rfl|exact hr.at_ 6 rfl|exact hr.at_ 7 rfl|exact hr.at_ 8 rfl)) (by(first|exact hr.at_ 0 rfl|exact hr.at_ 1 rfl|exact hr.at_ 2 rfl|exact hr.at_ 3 rfl|exact hr.at_ 4 rfl|exact hr.at_ 5 rfl|exact hr.at_ 6 rfl|exact hr.at_ 7 rfl|exact hr.at_ 8 rfl)) (λk h5 h6=>hr.sep.disj (i:=2) (j:=0) rfl rfl (by omega) (.inl rfl) (k:=k) h5 h6) (by omega) (by omega)).mono ?_;rintro e w4 ⟨v',rfl,g1,g2,g3⟩;refine⟨[.v v',.r ((l.take i++[x]++l.drop i).map Zb)],rfl,rfl,g3.mono λk hk=>.inl (by unfold Zm;exact List.mem_append_right _ (Zen (i:=7) (by simp) (Option.mem_toList.1 hk))),qy5 _,qy2.2 ⟨⟨g1,λk hk=>?_⟩,qy5 _⟩,Z5,?_⟩;(· rcases g2 k hk with h5|h5;(· exact .inr (.inr (Zen (i:=7) (by simp) h5)));(· exact .inl h5));(· intro w5 hr5;exact⟨v',rfl,(hr5.at_ 0 rfl).reads,hr5.fresh 0 rfl,hr5.mod⟩)
theorem Z6k(p:Wt->Bool)(l:List Wt)(i:Nat)(h:i<l.length):(l.take (i+1)).filter p=(l.take i).filter p++(if p (l.getD i wD_V)=true then[l.getD i wD_V]else[]):=by
 rw[Zpk l i h,List.filter_append];generalize l.getD i wD_V=o
 by_cases h1:p o=true<;>simp[h1]
theorem Zbo{p:Wt->Bool}{l:List Wt}{i:Nat}(h:∀j,j<i->p (l.getD j wD_V)=true):(l.take i).filter p=l.take i:=by rw[List.filter_eq_self];intro x hx;obtain⟨j,hj,rfl⟩:=List.getElem_of_mem hx;simp only[List.length_take]at hj;have:=h j (by omega);rw[List.getElem_take];rwa [qy1,qy7 (by omega)]at this
theorem Zg4{R l:List Wt}{a j:Nat}{p:Wt->Bool}(haj:a<j)(hj:j<l.length)(hR:R.length=l.length)(ht:R.take a=(l.take j).filter p)(hd:R.drop j=l.drop j)(hp:p (l.getD j wD_V)=true) : (R.set a (R.getD j wD_V)).take (a+1)=(l.take (j+1)).filter p:=by
 have hg:R.getD j wD_V=l.getD j wD_V:=by have:=congrArg (λl=>l[0]?) hd;simp only[List.getElem?_drop,Nat.add_zero]at this;rw[qy1,qy1,this]
 rw[Z6k p l j hj,if_pos hp,<- ht,hg,Zpk _ _ (by simp;omega)];congr 1
 ·rw[List.take_set_of_le (Nat.le_refl _)]
 ·rw[qy1,List.getElem?_set_self (by omega)];rfl
theorem Z6l{R l:List Wt}{j:Nat}(hd:R.drop j=l.drop j):R.drop (j+1)=l.drop (j+1):=by have:=congrArg (λl=>l.drop 1) hd;simpa[List.drop_drop,Nat.add_comm]using this
theorem Zn4{R l:List Wt}{j:Nat}(hd:R.drop j=l.drop j):R.getD j wD_V=l.getD j wD_V:=by have:=congrArg (λl=>l[0]?) hd;simp only[List.getElem?_drop,Nat.add_zero]at this;rw[qy1,qy1,this]
theorem Zps{l:List Wt}{x:Wt}(hs:Zbi l)(h0:(rawW l x).2=0):(rawW l x).1=loW l (ky x)++[x]++hiW l (ky x):=by
 have t1:=Z14i (n:=ky x) hs;have t2:=Zs4 (n:=ky x) hs;unfold rawW at h0⊢;rcases Z14j (n:=ky x) hs with⟨h1,k,h2,h3⟩|⟨h1,h2⟩
 ·rw[if_pos h1];simp only;have hlt:=(of_decide_eq_true h1).1;rw[List.set_eq_take_append_cons_drop,if_pos hlt,t1];have:l.drop (idxW l (ky x)+1)=hiW l (ky x):=by
   rw[<- List.drop_drop,t2,h2];rfl
  rw[this];simp
 ·rw[if_neg (by rw[h1];decide)]at h0⊢;by_cases h4:(l.length:Int)=20
  ·rw[if_pos h4]at h0;exact absurd h0 (by decide)
  ·rw[if_neg h4];simp only;rw[t1,t2,h2,List.nil_append]
theorem Z19j{l:List Wt}{x:Wt}(h:Zi l=0)(hx:Z38 x=0)(h0:(rawW l x).2=0):Zi (rawW l x).1=0:=by
 obtain⟨a,b,c⟩:=Z1i.1 h;refine Z1i.2 ⟨?_,?_,?_⟩
 ·unfold rawW at h0⊢;by_cases h1:hasW l (ky x)=true
  ·rw[if_pos h1];simpa using a
  ·rw[if_neg h1]at h0⊢;by_cases h4:(l.length:Int)=20
   ·rw[if_pos h4]at h0;exact absurd h0 (by decide)
   ·rw[if_neg h4];have:=Z198 l (ky x);simp;omega
 ·rw[Zps c h0];intro k hk;rcases qy13.1 hk with hk|hk
  ·rcases qy13.1 hk with hk|hk
   ·exact b k (List.mem_filter.1 hk).1
   ·rw[qy12.1 hk];exact hx
  ·exact b k (List.mem_filter.1 hk).1
 ·rw[Zps c h0];have q1:∀k∈loW l (ky x),ltP (ky k) (ky x)=true:=λk hk=>(List.mem_filter.1 hk).2;have q2:∀k∈hiW l (ky x),ltP (ky x) (ky k)=true:=λk hk=>(List.mem_filter.1 hk).2;refine List.pairwise_append.2 ⟨List.pairwise_append.2 ⟨c.filter _,List.pairwise_singleton _ _,λa ha b hb=>?_⟩,c.filter _,λa ha b hb=>?_⟩
  ·rw[qy12.1 hb];exact q1 a ha
  ·rcases qy13.1 ha with ha|ha
   ·exact Z6i (q1 a ha) (q2 b hb)
   ·rw[qy12.1 ha];exact q2 b hb
open Go Go.Sort
section
variable {α:Type} [Inhabited α] {enc:α->List Value} {k:Nat}
theorem Ziw(hk:∀x,(enc x).length=k)(k0:0<k)(ds:List α):(flatK enc k ds.toArray).toList=(ds.map enc).flatten:=by
 apply List.ext_getElem?;intro j;have hlen:((ds.map enc).flatten).length=ds.length*k:=by have:=Zf (rows:=ds.map enc) (n:=k) (λr hr=>by obtain⟨x,-,rfl⟩:=List.mem_map.1 hr;exact hk x);simpa using this
 by_cases hj:j<ds.length*k
 ·have e1:(flatK enc k ds.toArray).toList[j]?=some (enc ds.toArray[j / k]!)[j % k]!:=by
   rw[Array.getElem?_toList,Array.getElem?_eq_getElem (by simpa using hj),<- get_flatK enc k ds.toArray j (by simpa using hj),getElem!_pos _ j (by simpa using hj)]
  have hd:j / k<ds.length:=(Nat.div_lt_iff_lt_mul k0).2 hj;have hm:j % k<k:=Nat.mod_lt _ k0;have e2:=Z9m (rows:=ds.map enc) (n:=k) (λr hr=>by obtain⟨x,-,rfl⟩:=List.mem_map.1 hr;exact hk x) (i:=j / k) (c:=j % k) hm;rw[show j / k*k+j % k=j by rw[Nat.mul_comm];exact Nat.div_add_mod j k]at e2;rw[e1,e2,List.getElem?_map,qy7 hd];simp only[Option.map_some,Option.bind_some];have e3:ds.toArray[j / k]! = ds[j / k]:=by rw[getElem!_pos _ _ (by simpa using hd)];simp
  rw[e3,qy7 (by rw[hk];exact hm)];congr 1
  rw[getElem!_pos _ _ (by rw[hk];exact hm)]
 ·rw[List.getElem?_eq_none (by simp;omega),List.getElem?_eq_none (by omega)]
theorem Zg5{w:World}{g:Nat}{cur:Array Value}{e:TypeId}(hk:∀x,(enc x).length=k)(k0:0<k){ds:List α}(hb:w.heap[g]?=some (.cells cur e (0,0)))(ht:cur.toList.take (ds.length*k)=(ds.map enc).flatten) : HoldsK enc k w g 0 ds.toArray:=by
 intro j hj;have hj':j<ds.length*k:=by simpa using hj
 refine⟨?_,by simp[World.frozen?,hb]⟩;have h1:(cur.toList.take (ds.length*k))[j]?=(flatK enc k ds.toArray).toList[j]?:=by rw[ht,Ziw hk k0]
 rw[List.getElem?_take_of_lt hj']at h1;simp only[World.cell?,hb,Nat.zero_add,Option.isSome_none,Bool.false_eq_true,if_false];have e:(flatK enc k ds.toArray)[j]! = (flatK enc k ds.toArray)[j]:=getElem!_pos _ j hj;rw[<- Array.getElem?_toList,h1,Array.getElem?_toList,Array.getElem?_eq_getElem hj,e];rfl
theorem Zn5{w:World}{g n:Nat}{os:Array Obj}{cur:Array Value}{e:TypeId}{fr:Nat×Nat}(d:Array α)(hb:w.heap[g]?=some (.cells cur e fr)) : (sortWorldK enc k w g 0 n d os).heap[g]?=some (.cells (putCells id 0 (flatK enc k d) cur) e fr):=by have hg:g<w.heap.size:=(Array.getElem?_eq_some_iff.1 hb).1;unfold sortWorldK putRowK;rw[heap_grow_old _ _ (by simpa using hg)];simp[putRow,mapBlock,Sort.ahead,Array.getElem?_modify,hb,onCells]
theorem Zg6{w:World}{g n:Nat}{os:Array Obj}(d:Array α):w.grownBy (sortWorldK enc k w g 0 n d os) (some g):=by unfold sortWorldK putRowK;refine⟨rfl,rfl,rfl,by simp,λj hj hne=>?_⟩;rw[heap_grow_old _ _ (by simpa using hj)];have:g≠j:=λe=>hne (by rw[e]);simp[putRow,mapBlock,Sort.ahead,Array.getElem?_modify,this]
theorem Zg7{w:World}{base g cap n:Nat}{e:TypeId}{os:Array Obj}{cur:Array Value}{ts:List α}(hk:∀x,(enc x).length=k)(k0:0<k)(hbase:base<=g)(hb:w.heap[g]?=some (.cells cur e (0,0))) (h1:ts.length<=cap) (h2:cap<=maxLen) (h3:cur.size=cap*k) : (sortWorldK enc k w g 0 n ts.toArray os).ownsRow base e k (.slice (some ⟨g,0,none⟩) ts.length cap) ts.length (ts.map enc).flatten:=by
 have hlen:((ts.map enc).flatten).length=ts.length*k:=by have:=Zf (rows:=ts.map enc) (n:=k) (λr hr=>by obtain⟨x,-,rfl⟩:=List.mem_map.1 hr;exact hk x);simpa using this
 have hle:ts.length*k<=cur.size:=by rw[h3];exact Nat.mul_le_mul_right k h1
 refine⟨hlen,.inr ⟨g,cap,_,rfl,hbase,Zn5 _ hb,h1,h2,by simp[putCells,h3],?_⟩⟩;apply List.ext_getElem?;intro j;by_cases hj:j<ts.length*k
 ·rw[List.getElem?_take_of_lt hj,<- Ziw hk k0,Array.getElem?_toList,Array.getElem?_toList];have hj2:j<(flatK enc k ts.toArray).size:=by simpa using hj
  have e:(flatK enc k ts.toArray)[j]! = (flatK enc k ts.toArray)[j]:=getElem!_pos _ j hj2;rw[Array.getElem?_eq_getElem (by simp[putCells];omega),Array.getElem?_eq_getElem hj2,<- e];simp only[putCells,Array.getElem_mapIdx,Nat.zero_add,Nat.sub_zero];rw[if_pos ⟨Nat.zero_le _,hj2⟩];rfl
 ·rw[List.getElem?_take_eq_none (by omega),List.getElem?_eq_none (by omega)]
end
end Go.Proofs.Y
namespace Go.Proofs
open Go.Shelf
def Tryz.sortR_ren:Go.Shelf.Ren:=⟨fun|6=>249|15=>280|14=>279|28=>306|29=>307|20=>298|21=>299|22=>300|23=>301|24=>302|25=>303|26=>304|27=>305|46=>316|47=>317|48=>318|49=>319|50=>320|57=>323|n=>n,fun|22=>255|24=>258|25=>291|3=>3|39=>88|0=>0|53=>332|55=>334|4=>4|46=>326|45=>325|50=>128|5=>5|9=>9|66=>340|70=>344|76=>352|77=>353|n=>n,fun|n=>n⟩
theorem Tryz.sortR:Go.Proofs.SlLaysF0.n6 Tryz.prog Tryz.sortR_ren:={
 mixed:=by kernel_rfl
 f6:=⟨Tryz.f249.name,by decide,qF Tryz.func249 (by kernel_rfl)⟩
 f14:=⟨Tryz.f279.name,by decide,qF Tryz.func279 (by kernel_rfl)⟩
 f15:=qF Tryz.func280 (by kernel_rfl)
 f20:=⟨Tryz.f298.name,by decide,qF Tryz.func298 (by kernel_rfl)⟩
 f21:=⟨Tryz.f299.name,by decide,qF Tryz.func299 (by kernel_rfl)⟩
 f22:=⟨Tryz.f300.name,by decide,qF Tryz.func300 (by kernel_rfl)⟩
 f23:=⟨Tryz.f301.name,by decide,qF Tryz.func301 (by kernel_rfl)⟩
 f24:=⟨Tryz.f302.name,by decide,qF Tryz.func302 (by kernel_rfl)⟩
 f25:=⟨Tryz.f303.name,by decide,qF Tryz.func303 (by kernel_rfl)⟩
 f26:=⟨Tryz.f304.name,by decide,qF Tryz.func304 (by kernel_rfl)⟩
 f27:=⟨Tryz.f305.name,by decide,qF Tryz.func305 (by kernel_rfl)⟩
 f28:=qF Tryz.func306 (by kernel_rfl)
 f29:=qF Tryz.func307 (by kernel_rfl)
 f46:=⟨Tryz.f316.name,by decide,qF Tryz.func316 (by kernel_rfl)⟩
 f47:=qF Tryz.func317 (by kernel_rfl)
 f48:=qF Tryz.func318 (by kernel_rfl)
 f49:=⟨Tryz.f319.name,by decide,qF Tryz.func319 (by kernel_rfl)⟩
 f50:=⟨Tryz.f320.name,by decide,qF Tryz.func320 (by kernel_rfl)⟩
 f57:=⟨Tryz.f323.name,by decide,qF Tryz.func323 (by kernel_rfl)⟩
 t0:=Tryz.underlying0
 a0:=Tryz.isAgg0
 z0:=Tryz.sizeOf0
 v0:=Tryz.zeroValue0
 t3:=Tryz.underlying3
 a3:=Tryz.isAgg3
 z3:=Tryz.sizeOf3
 v3:=Tryz.zeroValue3
 t4:=Tryz.underlying4
 a4:=Tryz.isAgg4
 z4:=Tryz.sizeOf4
 v4:=Tryz.zeroValue4
 t5:=Tryz.underlying5
 a5:=Tryz.isAgg5
 z5:=Tryz.sizeOf5
 v5:=Tryz.zeroValue5
 t9:=Tryz.underlying9
 a9:=Tryz.isAgg9
 z9:=Tryz.sizeOf9
 v9:=Tryz.zeroValue9
 t22:=Tryz.underlying255
 a22:=Tryz.isAgg255
 z22:=Tryz.sizeOf255
 v22:=Tryz.zeroValue255
 t25:=Tryz.underlying291
 a25:=Tryz.isAgg291
 z25:=Tryz.sizeOf291
 v25:=Tryz.zeroValue291
 t39:=Tryz.underlying88
 a39:=Tryz.isAgg88
 z39:=Tryz.sizeOf88
 v39:=Tryz.zeroValue88
 t45:=Tryz.underlying325
 a45:=Tryz.isAgg325
 z45:=Tryz.sizeOf325
 v45:=Tryz.zeroValue325
 t46:=Tryz.underlying326
 a46:=Tryz.isAgg326
 z46:=Tryz.sizeOf326
 v46:=Tryz.zeroValue326
 t50:=Tryz.underlying128
 a50:=Tryz.isAgg128
 z50:=Tryz.sizeOf128
 v50:=Tryz.zeroValue128
 t53:=Tryz.underlying332
 a53:=Tryz.isAgg332
 z53:=Tryz.sizeOf332
 v53:=Tryz.zeroValue332
 t55:=Tryz.underlying334
 a55:=Tryz.isAgg334
 z55:=Tryz.sizeOf334
 v55:=Tryz.zeroValue334
 t66:=Tryz.underlying340
 a66:=Tryz.isAgg340
 z66:=Tryz.sizeOf340
 v66:=Tryz.zeroValue340
 t70:=Tryz.underlying344
 a70:=Tryz.isAgg344
 z70:=Tryz.sizeOf344
 v70:=Tryz.zeroValue344
 t76:=Tryz.underlying352
 a76:=Tryz.isAgg352
 z76:=Tryz.sizeOf352
 v76:=Tryz.zeroValue352
 t77:=Tryz.underlying353
 a77:=Tryz.isAgg353
 z77:=Tryz.sizeOf353
 v77:=Tryz.zeroValue353 }
end Go.Proofs
namespace Go.Proofs.Y
open Go Go.Sx Go.RowKit Go.Shelf Go.Lib Go.Sort
theorem lawS:Maps.Keyed Tryz.prog 9:=Maps.string_keyed Tryz.underlying9
theorem Z1f6(w:World):(zeroValue 3).run Tryz.prog w=.ok (.int .i64 0) w:=by kernel_rfl
def Z9j(n:List UInt8)(l:List Wt)(D:DataW Unit):Prop :=
 Maps.IsMap D/\(∀c,Maps.has D (.string c)=(bst n c none l).isSome)/\∀c q,bst n c none l=some q->∀z,D.atKey (.string c) z=.lit (.int .i64 q)
theorem Zvd(n:List UInt8):Z9j n [] (.map []):=⟨Maps.isMap_empty,λc=>rfl,λc q h=>by cases h⟩
theorem Zpt{n:List UInt8}{l:List Wt}{D:DataW Unit}{x:Wt}(h:Z9j n l D)(hf:¬forW n x=true):Z9j n (l++[x]) D:=by
 have e:∀c,bst n c none (l++[x])=bst n c none l:=λc=>by rw[Zbj,if_neg (λh=>hf h.1)]
 exact⟨h.1,λc=>by rw[e];exact h.2.1 c,λc q hq=>by rw[e]at hq;exact h.2.2 c q hq⟩
theorem Zzk{n:List UInt8}{l:List Wt}{D:DataW Unit}(h:Z9j n l D){c:List UInt8}{q:Int}(hat:D.atKey (.string c) (.lit (.int .i64 0))=.lit (.int .i64 q)):q=(bst n c none l).getD 0:=by
 cases hb:bst n c none l with
 | none =>
  have:=h.2.1 c;rw[hb]at this;rw[Maps.atKey_of_not_has this]at hat;simp only[DataW.lit.injEq,Lit.int.injEq,true_and]at hat;rw[<- hat];rfl
 | some q' =>
  rw[h.2.2 c q' hb]at hat;simp only[DataW.lit.injEq,Lit.int.injEq,true_and]at hat;rw[<- hat];rfl
theorem Zve{n:List UInt8}{l:List Wt}{D:DataW Unit}{x:Wt}{q:Int}(h:Z9j n l D)(hf:forW n x=true)(hq:q=max ((bst n x.1 none l).getD 0) x.2.2):Z9j n (l++[x]) (D.put (.string x.1) (.lit (.int .i64 q))):=by
 have e0:bst n x.1 none (l++[x])=some q:=by rw[Zbj,if_pos ⟨hf,rfl⟩,hq]
 have e1:∀c,c≠x.1->bst n c none (l++[x])=bst n c none l:=λc hc=>by rw[Zbj,if_neg (λh=>hc h.2.symm)]
 refine⟨h.1.put _ _,λc=>?_,λc q' hq' z=>?_⟩
 ·by_cases hc:c=x.1
  ·rw[hc,e0];exact Maps.has_put_same h.1 (show WideAt.IsKeyLit (.string x.1) from trivial) _
  ·rw[e1 c hc,Maps.has_put_other (by simpa using hc)];exact h.2.1 c
 ·by_cases hc:c=x.1
  ·rw[hc,e0]at hq';cases hq';rw[hc];exact Maps.atKey_put_same h.1 (show WideAt.IsKeyLit (.string x.1) from trivial) _ _
  ·rw[e1 c hc]at hq';rw[Maps.atKey_put_other (by simpa using hc)];exact h.2.2 c q' hq' z
theorem Z19k{w:World}{a:Addr}{u:Value}(h:w.cell? a=some u):a.block<w.heap.size:=by
 refine Classical.byContradiction λhn=>?_;have:w.heap[a.block]?=none:=by simp;omega
 simp[World.cell?,this]at h
theorem Zcx{w w':World}{a:Addr}{u:Value}(h:w.cell? a=some u)(hb:Below w.heap.size w w'):w'.cell? a=some u:=by rw[<- h];exact World.cell?_of_block (hb.block _ (Z19k h))
theorem Zvf{w:World}{ad:Addr}{cap:Nat}{l:List Wt}(hv:Z2g w (.slice (some ad) l.length cap) l){k:Nat}(hk:k<l.length) : w.cell? (ad.add (k*3))=some (.string ⟨(l.getD k wD_V).1.toArray⟩)/\w.cell? ((ad.add (k*3)).add 1)=some (.string ⟨(l.getD k wD_V).2.1.toArray⟩)/\w.cell? ((ad.add (k*3)).add 2)=some (.int .i64 (l.getD k wD_V).2.2):=by
 have hr:(l.map Zb).getD k []=Zb (l.getD k wD_V):=by rw[qy1,qy1,List.getElem?_map,qy7 hk];rfl
 have key:∀c,c<3->w.cell? ((ad.add (k*3)).add c)=some ((Zb (l.getD k wD_V)).getD c undef):=λc hc=>by obtain⟨ad',cap',e,h,-⟩:=hv.get (i:=k) (c:=c) (by rw[qy3];exact hk) hc;simp only[Value.slice.injEq,Option.some.injEq]at e;obtain⟨rfl,-,rfl⟩:=e;rw[hr]at h;rw[Addr.add_add];exact h
 refine⟨?_,key 1 (by decide),key 2 (by decide)⟩;have:=key 0 (by decide);rwa [Addr.add_zero']at this
theorem Zn6{w w':World}(h:Mod [] w w'):w.grownBy w' none:=⟨h.os,h.tape,h.output,h.size,λk hk _=>h.block k hk (by simp)⟩
theorem Zg8(w:World)(o:Obj):(w.alloc o).heap[w.heap.size]?=some o:=by show(w.heap.push o)[w.heap.size]?=some o;simp
theorem Zkt{w:World}{b:Nat}{cs:Array Value}{t:TypeId}(h:w.heap[b]?=some (.cells cs t (0,0)))(j:Nat):w.cell? ⟨b,j,none⟩=cs[j]?:=by simp[World.cell?,h]
theorem Z14v{x:Int}(h1:-9223372036854775808<=x)(h2:x<=9223372036854775807):(Lit.int .i64 x).wf=true:=WalkArith.wf_i64 (by omega)
theorem Z1cy{c y:Int}(hc:(Lit.int .i64 c).wf=true)(h1:0<=y)(h2:y<=1):(Lit.int .i64 (max c y)).wf=true:=by simp[Lit.wf,IntKind.min,IntKind.max,IntKind.signed,IntKind.bits]at hc;exact Z14v (by omega) (by omega)
theorem Z19l:(Tryz.prog.info? 258).map (λi=>(i.zero,i.size,i.bytes))=some (some (.agg #[.string ⟨#[]⟩,.int .i64 0]),2,24):=by kernel_rfl
theorem Zzl(w:World)(x y:Value)(t:TypeId):∀j u,[x,y][j]?=some u->(w.alloc (.cells #[x,y] t)).cell? ((⟨w.heap.size,0,none⟩:Addr).add j)=some u:=by
 intro j u hj;rw[Addr.add_lit,Zkt (Zg8 w _)]
 match j,hj with
 | 0,hj=>exact hj
 | 1,hj=>exact hj
def Zzm(D:DataW Unit)(left:Lit->Bool)(ss:List Rd):Prop:=Collected D left (ss.map (·.1))/\∀x∈ss,∀z,D.atKey (.string x.1) z=.lit (.int .i64 x.2)
theorem Zpu(D:DataW Unit):Zzm D (Maps.has D) []:=⟨Collected.start D,by simp⟩
theorem Zvg{D:DataW Unit}{left:Lit->Bool}{ss:List Rd}(h:Zzm D left ss){c:List UInt8}{q:Int}(hlk:left (.string c)=true)(hat:∀z,D.atKey (.string c) z=.lit (.int .i64 q)):Zzm D (λz=>left z && !z.sameKey (.string c)) (ss++[(c,q)]):=by
 refine⟨by rw[List.map_append];exact h.1.step hlk hat,λx hx=>?_⟩;rcases qy13.1 hx with hx|hx
 ·exact h.2 x hx
 ·rw[qy12.1 hx];exact hat
theorem Zn7{n:List UInt8}{l:List Wt}{D:DataW Unit}{left:Lit->Bool}{ss ts:List Rd}(hD:Z9j n l D)(h:Zzm D left ss)(hl:∀k,left k=false)(hp:ts.Perm ss)(hs:∀i j,(hij:i<j)->(hj:j<ts.length)->Za ts[j].1 (ts[i]'(Nat.lt_trans hij hj)).1=false):okY n ts l:=by
 have hnd:(ts.map (·.1)).Nodup:=(hp.map _).nodup_iff.2 h.1.1;refine⟨?_,λc q=>?_⟩
 ·rw[Zz0,List.pairwise_iff_getElem];intro i j hi hj hij;rcases Z3z.1 (hs i j hij hj)with h1|h1
  ·exact h1
  ·rw[List.nodup_iff_pairwise_ne,List.pairwise_iff_getElem]at hnd;have:=hnd i j (by simpa using hi) (by simpa using hj) hij;simp only[List.getElem_map]at this;exact absurd h1 this
 ·rw[hp.mem_iff];constructor
  ·intro hm;have h1:=h.2 _ hm;have h2:=(h.1.2 c).1 (List.mem_map.2 ⟨_,hm,rfl⟩);have h3:=hD.2.1 c;rw[h2.1]at h3;cases hb:bst n c none l with
   | none=>rw[hb]at h3;cases h3
   | some q' =>
    have h4:=hD.2.2 c q' hb .nil;rw[h1]at h4;simp only[DataW.lit.injEq,Lit.int.injEq,true_and]at h4;rw[h4]
  ·intro hb;have h3:=hD.2.1 c;rw[hb]at h3;obtain⟨x,hx,hxc⟩:=List.mem_map.1 ((h.1.2 c).2 ⟨h3,hl _⟩);have h1:=h.2 x hx .nil;have h4:=hD.2.2 c q hb .nil;rw[hxc,h4]at h1;simp only[DataW.lit.injEq,Lit.int.injEq,true_and]at h1;rw[show(c,q)=x from Prod.ext hxc.symm h1];exact hx
def cmpY(x y:Rd):Int:=Z2d x.1 y.1
theorem Zbp(x y:Rd):ltOf cmpY x y=Za x.1 y.1:=by
 unfold ltOf cmpY;have:=@Z6h x.1 y.1;cases h:Za x.1 y.1 with
 | true=>exact decide_eq_true (this.2 h)
 | false=>exact decide_eq_false (λh2=>by rw[this.1 h2]at h;cases h)
theorem swoY:Sort.SWO (ltOf cmpY) where
 irrefl x:=by rw[Zbp];exact Z14 _
 trans x y z h1 h2:=by rw[Zbp]at *;exact Zk h1 h2
 ntrans x y z h1 h2:=by
  rw[Zbp]at *;rcases Z3z.1 h1 with h1|h1<;>rcases Z3z.1 h2 with h2|h2
  ·exact Z4q (Zk h2 h1)
  ·rw[h2];exact Z4q h1
  ·rw[<- h1];exact Z4q h2
  ·rw[h2,h1];exact Z14 _
theorem Z1f7(x y:Rd)(W:World):Calls Tryz.prog 250 #[.agg (encY x).toArray,.agg (encY y).toArray] W λe w'=>e=.returned (.int .i64 (cmpY x y))/\∃q os',w'=grow (W.drewN q) os':=by
 have hcon:∀W',Calls Tryz.prog 118 #[.string ⟨x.1.toArray⟩,.string ⟨y.1.toArray⟩] W' λe w'=>e=.returned (.int .i64 (cmpY x y))/\w'=W':=λW'=>by refine(Any.strings_Compare Tryz.lays106 ⟨x.1.toArray⟩ ⟨y.1.toArray⟩ W').mono ?_;rintro e w' ⟨rfl,rfl⟩;rw[Zg1];exact⟨rfl,rfl⟩
 simp only[encY];generalize cmpY x y=r at hcon⊢
 go_enter Tryz.func250,Tryz.ntmps250
 go_wp2_with (go_at_call 118;refine(hcon _).mono ?_;rintro e w' ⟨rfl,rfl⟩)
 go_ret
 exact⟨rfl,0,_,by rw[alloc_eq_grow,alloc_eq_grow,grow_grow];rfl⟩
theorem Z14w(x:Rd):∀v∈encY x,v.oneCell'=true:=by intro v hv;simp only[encY,List.mem_cons,List.not_mem_nil,or_false]at hv;rcases hv with rfl|rfl<;>rfl
set_option maxRecDepth 100000 in
theorem Z19m(w:World)(f:Value):Calls Tryz.prog 298 #[.slice none 0 0,.int .i64 0,.int .i64 0,f] w λe w'=>e=.returned (.tuple #[])/\w'=w:=by
 go_enter Tryz.func298,Tryz.ntmps298
 go_wp2
 refine wp_loop_rounds 1 ?_;rw[rounds_succ];go_wp2
 go_end0
 exact⟨rfl,rfl⟩
set_option maxRecDepth 100000 in
theorem Z19n(w:World)(f:Value)(n:Int):Calls Tryz.prog 279 #[.slice none 0 0,.int .i64 0,.int .i64 0,.int .i64 n,f] w λe w'=>e=.returned (.tuple #[])/\w'=w:=by
 go_enter Tryz.func279,Tryz.ntmps279
 go_wp2
 refine wp_loop_rounds 1 ?_;rw[rounds_succ];go_wp2_with (go_at_call 298;refine(Z19m _ _).mono ?_;rintro e w' ⟨rfl,rfl⟩)
 (try simp only[Exit.inBlock,Exit.then])
 refine bodyPost_ret (results_none rfl _ _ _) rfl ?_;exact⟨rfl,rfl⟩
set_option maxRecDepth 100000 in
theorem Z14x(w:World):Calls Tryz.prog 249 #[.slice none 0 0,.func (.func 250) #[] #[]] w λe w'=>e=.returned (.tuple #[])/\Mod [] w w':=by
 have hl:∀W,Calls Tryz.prog 280 #[.int .u64 0] W λe w'=>e=.returned (.int .i64 (Lib.bitLen 0:Nat))/\w'=W:=λW =>
  Any.bits_Len (SlLaysF0.n15.bits (P:=Tryz.prog) (ρ:=Tryz.sortR_ren) { Tryz.sortR with }) 0 W (by omega) (by omega)
 go_enter Tryz.func249,Tryz.ntmps249
 go_wp2_with (first|(go_at_call 280;refine(hl _).mono ?_;rintro e w' ⟨rfl,rfl⟩)|(go_at_call 279;refine(Z19n _ _ _).mono ?_;rintro e w' ⟨rfl,rfl⟩))
 go_end0
 exact⟨rfl,Mod.refl _ _⟩
theorem size_map{w:World}{P:Program}{k:TypeId}{R:Value->Option (DataW Unit×List MemPlace)}{b n:Nat}{D:DataW Unit}(h:w.ownsMap P k R b n D):Maps.size D<=n:=by obtain⟨es,clock,hb,F,hn,rfl⟩:=h;simpa[Maps.size,length_sorted]using hn
theorem Z14y{w:World}{base e k:Nat}{v:Value}{n:Nat}{xs:List Value}(h:w.ownsRow base e k v n xs):w.ownsRow 0 e k v n xs :=
 ⟨h.1,h.2.imp id λ⟨g,cap,cur,a,b,r⟩=>⟨g,cap,cur,a,Nat.zero_le _,r⟩⟩
theorem Zzn(w:World):Z19a w (.slice none 0 0) []:=⟨by simp,rfl,.inl ⟨rfl,rfl⟩⟩
theorem Zzo(ts:List Rd):∀r∈ts.map encY,rowOk kY r:=by intro r hr;obtain⟨x,-,rfl⟩:=List.mem_map.1 hr;exact⟨⟨_,rfl⟩,⟨_,rfl⟩,trivial⟩
set_option maxRecDepth 100000 in
theorem Z19o(w:World)(a:Option Addr)(cap:Nat)(l:List Wt)(n:List UInt8)(hv:Z2g w (.slice a l.length cap) l)(hs:Z30 l)(hn:n.length<1000000000)(hl:l.length<1000000)(hq:∀x∈l,0<=x.2.2/\x.2.2<=1) : Calls Tryz.prog 216 #[.slice a l.length cap,.string ⟨n.toArray⟩] w λe w'=>∃v' rs,e=.returned v'/\Z19a w' v' rs/\newW w.heap.size v'/\okY n rs l/\Mod [] w w':=by
  have hv0:=hv;obtain⟨hrow,a',cap',e1,⟨hc1,hc2⟩,hcells⟩:=hv;simp only[Value.slice.injEq,qy3]at e1;obtain⟨rfl,-,rfl⟩:=e1;have hmm:=@run_makeMap Tryz.prog;go_enter Tryz.func216,Tryz.ntmps216
  go_wp2
  go_loopw [14] (λi wr=>∃(k:Nat) (D:DataW Unit),k<=l.length/\i=.int .i64 k/\wr.ownsMap Tryz.prog 9 (plainElem Tryz.prog 3) w.heap.size k D/\Z9j n (l.take k) D/\Below w.heap.size w wr)
    (λi _=>l.length - (intOf i).toNat)
  case atStart=>exact⟨0,_,Nat.zero_le _,rfl,World.ownsMap_made _ _ _ _,Zvd n,(Below.refl _ _).alloc (Nat.le_refl _) _⟩
  case round =>
    obtain⟨k,D,hk,rfl,hown,hD,hnx⟩:=hrel;by_cases hlt:k<l.length
    . obtain⟨ad,rfl,hcell⟩:=hcells (λe=>by rw[List.map_eq_nil_iff]at e;rw[e]at hlt;exact Nat.not_lt_zero _ hlt);obtain⟨q0,q1,q2⟩:=Zvf hv0 hlt;have h0:=Zcx q0 hnx;have h1:=Zcx q1 hnx;have h2:=Zcx q2 hnx;have hx1:=hs _ (memW l k hlt);have htk:=Zpk l k hlt;have hq1:=hq _ (memW l k hlt);generalize l.getD k wD_V=x at h0 h1 h2 hx1 htk hq1
      rw[Addr.add_succ']at h1 h2;clear q0 q1 q2;generalize hA:ad.add (k*3)=A at h0 h1 h2
      have hkey:keyOf Tryz.prog 9 (.string ⟨x.1.toArray⟩)=some (.string x.1):=by have:=WideMaps.keyOf_string_mk Tryz.underlying9 (s:=⟨x.1.toArray⟩) (by have:=hx1.1;simp[ByteArray.size,maxLen];omega);simpa using this
      have hc:=Z18u (wr.alloc (.cells #[.string ⟨x.1.toArray⟩,.string ⟨x.2.1.toArray⟩,.int .i64 x.2.2] 107)) x.2.1 n (by have:=hx1.2;omega) (by omega);go_wp2_with (first
        | (go_at_call 248;refine hc.mono ?_;rintro e w2 ⟨rfl,gm⟩
           have g1:=Zn6 gm;have hown2:=(hown.alloc (.cells #[.string ⟨x.1.toArray⟩,.string ⟨x.2.1.toArray⟩,.int .i64 x.2.2] 107)).kept g1 (by simp);have hnx2:=(hnx.alloc hnx.size (.cells #[.string ⟨x.1.toArray⟩,.string ⟨x.2.1.toArray⟩,.int .i64 x.2.2] 107)).grown g1 (by have:=hnx.size;simp;omega) (λj hj=>by cases hj);have hbl:=g1.block wr.heap.size (by simp) (by simp);simp only[Zg8]at hbl;have c0:=Zkt hbl 0;have c1:=Zkt hbl 1;have c2:=Zkt hbl 2)
        | (at_lookup;refine wpList_lookup_own_int _ rfl _ _ 289 rfl 9 3 .i64 lawS Tryz.underlying289 Tryz.underlying3 (Z1f6 _) w.heap.size k _ rfl hown2 _ _ rfl hkey ?_;intro c hat hwc)
        | (at_mapUpdate;refine wpList_mapUpdate_own _ rfl _ _ _ 289 rfl 9 3 lawS Tryz.underlying289 _ w.heap.size k _ rfl hown2 (by unfold maxLen;omega) _ _ _ rfl rfl hkey _ [] (plainElem_int Tryz.underlying3 (Z1cy hwc hq1.1 hq1.2)) ?_;intro w3 hown3 hgrow3)
        | go_in)
      . have hf:forW n x=true:=by assumption
        have hg:Z9j n (l.take (k+1)) (D.put (.string x.1) (.lit (.int .i64 (max c x.2.2)))):=by rw[htk];exact Zve hD hf (by rw[Zzk hD hat])
        have hb3:=hnx2.grown hgrow3 hnx2.size (λj hj=>by cases hj;exact Nat.le_refl _);go_roundw
        case rel=>exact⟨k+1,_,by omega,by go_num,hown3,hg,hb3⟩
        case measure=>simp[intOf];omega
      . have hf:¬forW n x=true:=by rw[forW];simp_all
        have hg:Z9j n (l.take (k+1)) D:=by rw[htk];exact Zpt hD hf
        go_roundw
        case rel=>exact⟨k+1,_,by omega,by go_num,hown2.mono (by omega),hg,hnx2⟩
        case measure=>simp[intOf];omega
    . have hke:k=l.length:=by omega
      subst hke;rw[List.take_length]at hD;go_wp2_with (first
        | (at_range;refine wpList_range_own _ rfl _ 289 rfl 9 3 lawS Tryz.underlying289 _ w.heap.size l.length _ rfl hown ?_;intro w0 hrg0 hg0 hs0)
        | go_in)
      go_frame
      obtain⟨i0,hi,hz0,hz1,hz2⟩:=info_parts Z19l;have hb0:=hnx.grown hg0 hnx.size (λj hj=>by cases hj);have hr0:w.heap.size<=wr.heap.size:=hnx.size;have hszD:Maps.size D<=l.length:=size_map hown;generalize wr.heap.size=r0 at hrg0 hr0⊢
      clear hg0 hs0 hown hnx;go_loopw [8] (λv wq=>∃(left:Lit->Bool) (cnt:Nat) (ss:List Rd),wq.ranges Tryz.prog 9 (plainElem Tryz.prog 3) w.heap.size r0 l.length D left cnt/\ss.length+cnt<=Maps.size D /\
          wq.ownsRow (w.heap.size+1) 258 2 v ss.length (ss.map encY).flatten/\Zzm D left ss/\Below w.heap.size w wq)
        (λ_ wq=>wq.rangeLeft w.heap.size r0)
      case atStart=>exact⟨_,_,[],hrg0,by simp,⟨rfl,.inl ⟨rfl,rfl⟩⟩,Zpu D,hb0⟩
      case round =>
        obtain⟨left,cnt,ss,hrg,hcs,hrow,hC,hnq⟩:=hrel;go_wp2_with (first
          | (at_next;refine wpList_next_ranges _ rfl _ rfl 9 lawS (plainElem Tryz.prog 3) Go.Proofs.encStr (Value.int .i64) (λkey kl hk=>by obtain⟨x,hx,_⟩:=Maps.keyOf_str Tryz.underlying9 hk;exact⟨x,hx⟩) (λv y hv=>by obtain⟨c,rfl,_⟩:=plainElem_int_inv Tryz.underlying3 hv;exact⟨c,rfl⟩) w.heap.size r0 l.length _ _ _ rfl hrg ?_ ?_)
          | go_in)
        . intro hc00 hl0;rcases hrow.2 with⟨hnil,hz⟩|⟨g,cap2,cur,hvs,hbase,hb,h1,h2,h3,h4⟩
          . have hss:ss=[]:=List.length_eq_zero_iff.1 hz;subst hss;subst hnil;go_wp2_with (go_at_call 249;refine(Z14x _).mono ?_;rintro e w' ⟨rfl,gm⟩)
            go_ret
            refine⟨.slice none 0 0,[],rfl,Zzn _,Zks _,Zn7 hD hC hl0 (List.Perm.refl _) (λi j hij hj=>absurd hj (by simp)),?_⟩;exact Mod.of_below (hnq.grown (Zn6 gm) hnq.size (λj hj=>by cases hj))
          . subst hvs;have hgl:=(Array.getElem?_eq_some_iff.1 hb).1;have hlen:ss.length<4611686018427387904:=by omega
            have eg:∀args w,(callFunc 250 args).run Tryz.prog w=.ok (.enter 250 args) w:=enters_of Tryz.func250 (by kernel_rfl) rfl;have hc:Calls Tryz.prog 249 #[.slice (some ⟨g,0,none⟩) ss.length cap2,.func (.func 250) #[] #[]] wr _ :=
              AnyQ.slices_SortFunc Tryz.sortR 2 Tryz.isAgg258 Tryz.sizeOf258 encY (λ_=>rfl) Z14w cmpY swoY 250 #[] g 0 cap2 ss.toArray wr eg (λ_ _ _ _ x y=>Z1f7 x y _) (Zg5 (enc:=encY) (k:=2) (ds:=ss) (λ_=>rfl) (by decide) hb h4) hgl hlen
            go_wp2_with (go_at_call 249;refine hc.mono ?_;rintro e w' ⟨rfl,d',nn,os,hp,hso,rfl⟩)
            go_ret
            obtain⟨ts⟩:=d';have hsz:ts.length=ss.length:=hp.1;have hpm:ts.Perm ss:=by
              have:=hp.2.2;simp only[List.size_toArray]at this;rw[<- hsz]at this;have e:ss.take ts.length=ss:=by rw[hsz,List.take_length]
              simpa[e]using this
            refine⟨_,ts,rfl,⟨Zzo ts,Z14y (base:=w.heap.size+1) ?_⟩,λk hk=>?_,Zn7 hD hC hl0 hpm (λi j hij hj=>?_),?_⟩
            . have:=Zg7 (w:=wr) (n:=nn) (os:=os) (enc:=encY) (k:=2) (ts:=ts) (λ_=>rfl) (by decide) hbase hb (by omega) h2 h3;rw[qy3,<- hsz];exact this
            . have:g=k:=Option.some.inj hk;omega
            . have:=hso i j (Nat.zero_le _) hij (by show j<ss.length;omega);rw[Zbp,getElem!_pos _ j (by simpa using hj),getElem!_pos _ i (by simp;omega)]at this;exact this
            . exact Mod.of_below (hnq.grown (Zg6 _) hnq.size (λj hj=>by cases hj;exact Nat.le_of_succ_le hbase))
        . intro x c kl yd yp w2 cnt2 hkey hlk hv hat hrg2 hlt2 hg2 hs2 hen;obtain⟨x',ex,rfl,_⟩:=Maps.keyOf_str Tryz.underlying9 hkey;obtain rfl:x=x':=encStr_inj ex;have hrow2:=hrow.kept hg2 (Or.inr (row_ne_iter hrow hrg).symm);clear hs2;obtain⟨c',ec,e2,hwc⟩:=plainElem_int_inv Tryz.underlying3 hv;obtain rfl:c=c':=by simpa using ec
          obtain rfl:yd=.lit (.int .i64 c):=(Prod.mk.inj e2).1;clear hv ec e2;go_wp2_with (first
            | (at_builtin;refine wpList_append_own _ rfl _ _ 255 rfl (w.heap.size+1) 258 i0 (.agg #[.string ⟨#[]⟩,.int .i64 0]) 2 24 Tryz.underlying255 hi hz0 hz1 hz2 rfl (by decide) _ _ _ rfl (hrow2.alloc _) ⟨w2.heap.size,0,none⟩ 1 1 [Go.Proofs.encStr x,.int .i64 c] rfl rfl (Zzl _ _ _ _) (by simp[Value.oneCell',Go.Proofs.encStr]) (by unfold maxLen;omega) (by omega) (by have:=hrg2.owns.lt;simp;omega) ?_;intro v' w3 hown' hg3 hnil3;go_frame)
            | go_in)
          have hrg3:=(hrg2.alloc _).kept hg3 (row_ne_low hrow2 (Nat.lt_succ_self _)) (row_ne_iter hrow2 hrg2);have hb3:=((hnq.grown hg2 hnq.size (λj hj=>by cases hj;exact hr0)).alloc (by have:=hnq.size;have:=hg2.size;omega) _).grown hg3 (by have:=hnq.size;have:=hg2.size;simp;omega) (λj hj=>Nat.le_of_succ_le (hrow2.lt j hj).1);go_roundw
          case rel =>
            exact⟨_,cnt2,ss++[(x,c)],hrg3,by simp;omega,by simpa[encY,Go.Proofs.encStr]using hown',Zvg hC hlk hat,hb3⟩
          case measure=>rw[hrg3.left_eq,hrg.left_eq];exact hlt2
end Go.Proofs.Y
namespace Go.Proofs.Y
open Go Go.Sx
theorem Z1cz{x:Wt}(h:Z38 x=0):cliB x.1=true/\chkT x.2.1 true=0/\0<=x.2.2/\x.2.2<=1:=by
 unfold Z38 at h;split at h
 ·rename_i h1;unfold askE at h;simp only at h;split at h
  ·rename_i h2;split at h
   ·rename_i h3;exact⟨h1,h2,h3⟩
   ·exact absurd h (by decide)
  ·rename_i h2;exact absurd h h2
 ·exact absurd h (by decide)
theorem Zsc{l:List Wt}(h:Zi l=0):∀x∈l,cliB x.1=true/\chkT x.2.1 true=0/\0<=x.2.2/\x.2.2<=1:=λx hx=>Z1cz ((Z1i.1 h).2.1 x hx)
theorem c_Of(w:World)(v:Value)(l:List Wt)(n:List UInt8)(hv:Z2g w v l)(hs:Z30 l)(hn:n.length<1000000000)(h:Zi l=0):Calls Tryz.prog 216 #[sc1 v,.string ⟨n.toArray⟩] w λe w'=>∃v',e=.returned (sc1 v')/\Z19a w' v' (rdOf n l)/\newW w.heap.size v'/\Mod [] w w':=by
 rw[hv.sc1];obtain⟨k1,k2,k3⟩:=Z1i.1 h;have hv0:=hv;obtain⟨-,a,cap,rfl,-,-⟩:=hv;rw[qy3]at hv0⊢;refine(Z19o w a cap l n hv0 hs hn (by omega) λx hx=>(Zsc h x hx).2.2).mono ?_;rintro e w' ⟨v',rs,rfl,g1,g2,g3,g4⟩;have e1:rs=rdOf n l:=by obtain⟨a1,a2⟩:=Zz1 (n:=n) (Zis k3);exact Zir g3.1 a1 λx=>by rw[show x=(x.1,x.2) from rfl,g3.2,a2]
 subst e1;exact⟨v',by rw[g1.reads.sc1],g1,g2,g4⟩
def wA:List Wt:=[([97,110,110],[35],0),([97,110,110],[97,47,43],1),([98,111,98],[99],0)]
theorem Z19p(w:World):Calls Tryz.prog 51 #[] w λe w'=>∃v',e=.returned (sc1 v')/\Z2g w' v' wA/\newW w.heap.size v'/\Mod [] w w':=by refine Z1 (Z7 (J:=[]) sxE_ok Tryz.func51 Z88 rfl rfl rfl ?_) rfl;simp only[QQ,Nat.reduceAdd];intro v w' hr;exact⟨v,rfl,(hr.at_ 0 rfl).reads,hr.fresh 0 rfl,hr.mod⟩
end Go.Proofs.Y
namespace Go.Proofs.Y
open Go.Sx
abbrev Opt:=Int×List UInt8
def encO(o:Opt):List Value:=[.int .i64 o.1,.string ⟨o.2.toArray⟩]
abbrev oD:Opt:=(0,[])
theorem Z2o(os:List Opt)(i:Nat):Value.gI (((os.map encO).getD i []).getD 0 undef)=(os.getD i oD).1:=by simp only[qy1,List.getElem?_map];cases os[i]?<;>rfl
theorem Z2p(os:List Opt)(i:Nat):Value.gS (((os.map encO).getD i []).getD 1 undef)=(os.getD i oD).2:=by simp only[qy1,List.getElem?_map];cases os[i]?<;>simp[encO,Value.gS,undef]
theorem Z1d0(os:List Opt)(i:Nat)(h:i<os.length):os.drop i=os.getD i oD::os.drop (i+1):=by rw[List.drop_eq_getElem_cons h,qy1,qy7 h];rfl
structure Msg where
 kind:Int
 code:Int
 id:Int
 tok:List UInt8
 opts:List Opt
 pay:List UInt8
abbrev mNil:Msg:=⟨0,0,0,[],[],[]⟩
def mV(m:Msg)(v:Value):Value:=.agg #[.int .i64 m.kind,.int .i64 m.code,.int .i64 m.id,.string ⟨m.tok.toArray⟩,v,.string ⟨m.pay.toArray⟩]
abbrev Z3j(w:World)(v:Value)(os:List Opt):Prop:=reads w v [.int .i64,.str] (os.map encO)
def optE:Int->List Opt->Int
 | _,[]=>0
 | was,o::l=>if 0<=o.1/\o.1<=65535 then(if o.1<was then 4 else if 60<(o.2.length:Int)then 2 else optE o.1 l)else 3
def chk(m:Msg):Int :=
 if 0<=m.kind/\m.kind<=3 then
  if 0<=m.code/\m.code<=255/\0<=m.id/\m.id<=65535 then
   if 8<(m.tok.length:Int)\/12<(m.opts.length:Int)\/200<(m.pay.length:Int)then 2
   else if optE 0 m.opts≠0 then optE 0 m.opts
   else if m.code=0/\(m.tok≠[]\/m.pay≠[]\/m.opts≠[])then 1 else 0
  else 3
 else 7
theorem Z14z{m:Msg}(h:¬(0<=m.kind/\m.kind<=3)):chk m=7:=if_neg h
theorem Zzp{m:Msg}(h:0<=m.kind/\m.kind<=3)(h1:¬(0<=m.code/\m.code<=255/\0<=m.id/\m.id<=65535)):chk m=3:=by rw[chk,if_pos h,if_neg h1]
theorem Z150{m:Msg}(h:0<=m.kind/\m.kind<=3)(h1:0<=m.code/\m.code<=255/\0<=m.id/\m.id<=65535)(h2:8<(m.tok.length:Int)\/12<(m.opts.length:Int)\/200<(m.pay.length:Int)):chk m=2:=by rw[chk,if_pos h,if_pos h1,if_pos h2]
theorem Z151{m:Msg}(h:0<=m.kind/\m.kind<=3)(h1:0<=m.code/\m.code<=255/\0<=m.id/\m.id<=65535)(h2:¬(8<(m.tok.length:Int)\/12<(m.opts.length:Int)\/200<(m.pay.length:Int))) : chk m=if optE 0 m.opts≠0 then optE 0 m.opts else if m.code=0/\(m.tok≠[]\/m.pay≠[]\/m.opts≠[])then 1 else 0:=by rw[chk,if_pos h,if_pos h1,if_neg h2]
theorem Z9k{m:Msg}:chk m=0↔(0<=m.kind/\m.kind<=3)/\(0<=m.code/\m.code<=255/\0<=m.id/\m.id<=65535)/\(m.tok.length<=8/\m.opts.length<=12/\m.pay.length<=200)/\optE 0 m.opts=0/\(m.code=0->m.tok=[]/\m.pay=[]/\m.opts=[]):=by
 unfold chk;constructor
 ·intro h;split at h
  ·split at h
   ·split at h
    ·exact absurd h (by decide)
    ·split at h
     ·contradiction
     ·split at h
      ·exact absurd h (by decide)
      ·rename_i h1 h2 h3 h4 h5;exact⟨h1,h2,by omega,qy9.1 h4,λh6=>⟨Classical.byContradiction λh7=>h5 ⟨h6,.inl h7⟩,Classical.byContradiction λh7=>h5 ⟨h6,.inr (.inl h7)⟩,Classical.byContradiction λh7=>h5 ⟨h6,.inr (.inr h7)⟩⟩⟩
   ·exact absurd h (by decide)
  ·exact absurd h (by decide)
 ·rintro⟨h1,h2,h3,h4,h5⟩;rw[if_pos h1,if_pos h2,if_neg (by omega),if_neg (λh=>h h4),if_neg];rintro⟨h6,h7⟩;obtain⟨a,b,c⟩:=h5 h6;rcases h7 with h|h|h
  ·exact h a
  ·exact h b
  ·exact h c
theorem Zep(w:World)(n a b:Int):Calls Tryz.prog 55 #[.int .i64 n,.int .i64 a,.int .i64 b] w λe w'=>e=.returned (.bool (decide (a<=n/\n<=b)))/\Mod [] w w':=by refine Z1 (Z7 (J:=[.i n,.i a,.i b]) sxE_ok Tryz.func55 Z9s rfl rfl rfl ?_) rfl;simp only[QQ,Nat.reduceAdd];exact λw' hr=>⟨by simp,hr.mod⟩
theorem Zzq(w:World)(v:Value)(os:List Opt)(hv:Z3j w v os)(hl:os.length<1099511627776):Calls Tryz.prog 56 #[sc1 v] w λe w'=>e=.returned (.int .i64 (optE 0 os))/\Mod [] w w':=by
 refine Z1 (Z3 (J:=[.v v,.r (os.map encO)]) sxE_ok Tryz.func56 Z9a rfl rfl (Rel.start2 (by simp[Ent.holds,Ent.wr,hv,X.ev])) rfl rfl ?_) rfl;simp only[QQ,Nat.reduceAdd,qy3];refine⟨λvs=>∃(i:Nat) (x:V) (was:Int),vs=[x,.i was,.i i]/\i<=os.length/\optE was (os.drop i)=optE 0 os,λvs=>(os.length - (vs.getD 2 (.i 0)).toI).toNat,⟨0,_,0,rfl,by omega,rfl⟩,?_⟩;rintro _ - ⟨i,x,was,rfl,hi,hg⟩;simp only[QQ,Nat.reduceAdd,qy3,qy4,Z2o,Z2p];refine⟨λh1=>?_,λh1 w' hr=>⟨?_,hr.mod⟩⟩
 ·rw[Z1d0 os i (by omega)]at hg;generalize os.getD i oD=o at hg⊢
  (repeat refine⟨by omega,?_⟩)
  intro b;refine⟨[.b (decide (0<=o.1/\o.1<=65535))],rfl,λ_ w' _=>Zep w' _ _ _,?_⟩;simp only[QQ,Nat.reduceAdd,decide_eq_true_eq];simp only[optE]at hg;refine⟨λh2 w' hr=>⟨by rw[<- hg,if_neg h2],hr.mod⟩,λh2=>?_⟩;rw[if_pos (qy9.1 h2)]at hg;refine⟨λh3 w' hr=>⟨by rw[<- hg,if_pos h3],hr.mod⟩,λh3=>?_⟩;rw[if_neg h3]at hg;refine⟨λh4 w' hr=>⟨by rw[<- hg,if_pos h4],hr.mod⟩,λh4=>?_⟩;rw[if_neg h4]at hg;exact⟨by omega,by omega,⟨i+1,_,o.1,rfl,by omega,hg⟩,by omega⟩
 ·have:i=os.length:=by omega
  subst this;rw[List.drop_length]at hg;rw[<- hg];rfl
theorem Zpv(w:World)(m:Msg)(v:Value)(hv:Z3j w v m.opts)(hl:m.opts.length<1099511627776)(ht:m.tok.length<1099511627776)(hp:m.pay.length<1099511627776) : Calls Tryz.prog 26 #[mV m (sc1 v)] w λe w'=>e=.returned (.int .i64 (chk m))/\Mod [] w w':=by
 refine Z1 (Z3 (J:=[.i m.kind,.i m.code,.i m.id,.s m.tok,.v v,.r (m.opts.map encO),.s m.pay]) sxE_ok Tryz.func26 Zb0 rfl rfl (Rel.start2 (by simp[Ent.holds,Ent.wr,hv,X.ev])) rfl rfl ?_) rfl;simp only[QQ,Nat.reduceAdd,qy3];intro b;refine⟨[.b (decide (0<=m.kind/\m.kind<=3))],rfl,λ_ w' _=>Zep w' _ _ _,?_⟩;simp only[QQ,Nat.reduceAdd,decide_eq_true_eq,qy3];refine⟨λh w' hr=>⟨by rw[Z14z h],hr.mod⟩,λh=>?_⟩;replace h:=qy9.1 h;refine⟨[.b (decide (0<=m.code/\m.code<=255))],rfl,λ_ w' _=>Zep w' _ _ _,?_⟩;simp only[QQ,Nat.reduceAdd,decide_eq_true_eq,qy3];refine⟨[.b (decide (0<=m.id/\m.id<=65535))],rfl,λ_ w' _=>Zep w' _ _ _,?_⟩;simp only[QQ,Nat.reduceAdd,decide_eq_true_eq,qy3];refine⟨λh1 w' hr=>⟨by rw[Zzp h (by omega)],hr.mod⟩,λh1=>?_⟩;refine⟨λh2 w' hr=>⟨by rw[Z150 h (by omega) (by omega)],hr.mod⟩,λh2=>?_⟩;rw[Z151 h (by omega) (by omega)];refine⟨[.i (optE 0 m.opts)],rfl,λ_ w' hr=>Zzq w' v m.opts (hr.at_ 1 rfl) hl,?_⟩;simp only[QQ,Nat.reduceAdd,decide_eq_true_eq,qy3];refine⟨λh3 w' hr=>⟨by rw[if_pos h3],hr.mod⟩,λh3=>?_⟩;rw[if_neg h3];refine⟨by omega,λh4 w' hr=>⟨?_,hr.mod⟩,λh4 w' hr=>⟨?_,hr.mod⟩⟩
 ·rw[if_pos];rcases h4 with⟨h5,h6⟩|⟨h5,h6⟩
  ·refine⟨h5,?_⟩;simp only[List.append_eq_nil_iff]at h6;by_cases h7:m.tok=[]
   ·exact .inr (.inl λh8=>h6 ⟨h7,h8⟩)
   ·exact .inl h7
  ·exact⟨h5,.inr (.inr (by intro h8;rw[h8]at h6;simp at h6))⟩
 ·rw[if_neg];rintro⟨h5,h6⟩;apply h4;rcases h6 with h6|h6|h6
  ·exact .inl ⟨h5,λh=>h6 (List.append_eq_nil_iff.1 h).1⟩
  ·exact .inl ⟨h5,λh=>h6 (List.append_eq_nil_iff.1 h).2⟩
  ·exact .inr ⟨h5,by have:=List.length_pos_iff.2 h6;omega⟩
def Z6m:List (List UInt8)->List UInt8
 | []=>[]
 | [x]=>x
 | x::y::xs=>x++47::Z6m (y::xs)
theorem Za3{s:List UInt8}{f:Bool}:chkT s f=0↔s≠[]/\(s.length<=60/\(lev s).length<=6)/\Z25 s=true/\badL f (lev s)=false:=by
 unfold chkT;by_cases h1:s=[]
 ·rw[if_pos h1];simp[h1]
 ·rw[if_neg h1];by_cases h2:60<(s.length:Int)\/6<((lev s).length:Int)
  ·rw[if_pos h2];refine⟨λh=>absurd h (by decide),λh=>by omega⟩
  ·rw[if_neg h2];by_cases h3:Z25 s=true
   ·rw[if_pos h3];cases h4:badL f (lev s)
    ·exact⟨λ_=>⟨h1,by omega,h3,rfl⟩,λ_=>rfl⟩
    ·exact⟨λh=>absurd h (by decide),λh=>absurd h.2.2.2 (by simp)⟩
   ·rw[if_neg h3];exact⟨λh=>absurd h (by decide),λh=>absurd h.2.2.1 h3⟩
def noN(n:Int)(os:List Opt):List Opt:=os.filter λo=>decide (o.1≠n)
def upTo(n:Int)(os:List Opt):List Opt:=os.takeWhile λo=>decide (o.1<=n)
def past(n:Int)(os:List Opt):List Opt:=os.dropWhile λo=>decide (o.1<=n)
def Z152(os:List Opt)(n:Int)(vs:List (List UInt8)):List Opt:=upTo n (noN n os)++vs.map (λv=>(n,v))++past n (noN n os)
theorem Z1d1{n:Int}{os:List Opt}(h:∀o∈os,o.1≠n):noN n os=os:=by rw[noN,List.filter_eq_self];simpa using h
def Zn(n:Int)(os:List Opt):List (List UInt8):=(os.filter λo=>decide (o.1=n)).map (·.2)
theorem Zn8{n:Int}{os:List Opt}(h:∀o∈os,o.1≠n):Zn n os=[]:=by rw[Zn,List.map_eq_nil_iff,List.filter_eq_nil_iff];simpa using h
theorem Zsd(n:Int)(a b:List Opt):Zn n (a++b)=Zn n a++Zn n b:=by simp[Zn]
theorem Zse{n:Int}:∀{l:List Opt} {k:Nat},k<=l.length->(∀j,j<k->(l.getD j oD).1<=n)->(k<l.length->n<(l.getD k oD).1)->l.take k=upTo n l/\l.drop k=past n l
 | [],k,hk,_,_=>by simp[upTo,past]
 | o::l,0,_,_,h2=>by
  have h:=h2 (by simp);simp only[List.getD_cons_zero]at h;have:¬o.1<=n:=by omega
  simp[upTo,past,List.takeWhile_cons,List.dropWhile_cons,this]
 | o::l,k+1,hk,h1,h2=>by have h:=h1 0 (by omega);simp only[List.getD_cons_zero]at h;obtain⟨e1,e2⟩:=Zse (n:=n) (l:=l) (k:=k) (by simpa using hk) (λj hj=>by have:=h1 (j+1) (by omega);simpa using this) (λhj=>by have:=h2 (by simpa using hj);simpa using this);simp only[upTo,past]at e1 e2⊢;simp[List.takeWhile_cons,List.dropWhile_cons,h,e1,e2]
def Zpw(v:List UInt8):Int×Int:=if 3<(v.length:Int)then(0,1)else((beN v 0:Nat),0)
def Z7f(n:Int)(os:List Opt):Int×Int:=match Zn n os with | []=>(0,5)|v::_=>Zpw v
def Z2k(n:Int):List UInt8:=(numB 3 n).dropWhile λc=>c == 0
def Z1f(os:List Opt):List UInt8×Int :=
 if Zn 11 os=[]then([],5)
 else if chkT (Z6m (Zn 11 os)) false=0 then
  (if(Zn 11 os).any (λv=>v.any λc=>c == 47)=true then([],1)else(Z6m (Zn 11 os),0))
 else([],chkT (Z6m (Zn 11 os)) false)
open Go Go.Shelf Go.RowKit Go.Lib
set_option maxRecDepth 100000 in
theorem Zzr:Zcs Tryz.prog 274:=by
 intro w b n c i vb vc hi hc hb;go_enter Tryz.func274,Tryz.ntmps274
 go_wp2
 all_goals (go_ret;exact⟨rfl,rfl⟩)
set_option maxRecDepth 100000 in
theorem Z153:Zim Tryz.prog 274 36:=by
 intro w b n c vb m vc hm hc hb v' w' hrun;have hz1:¬((m:Int)=0):=by omega
 go_enter Tryz.func274,Tryz.ntmps274
 go_wp2_with (at_builtin;refine Lib.wpList_append_run _ rfl _ _ _ _ rfl _ _ rfl rfl _ _ (hrun _) ?_)
 all_goals (go_ret;exact⟨rfl,rfl⟩)
set_option maxRecDepth 100000 in
theorem Zvh:Z90 Tryz.prog 274 292 36 2:=by
 intro w g n c i vb m vc cur1 cur2 hi hm hroom hc63 hov hcp1 hcp2;obtain⟨hz1,hz2,hw1,hw2,hb1,hin,htn,htn2,hb3,-⟩:=insN hi hm (by omega);have hb2:¬(c=i+m):=by omega
 have hb4:¬(c=i):=by omega
 have mixed:Tryz.prog.follows Departure.mixedOrders=true:=by kernel_rfl
 go_enter Tryz.func274,Tryz.ntmps274
 go_wp2_with (simp only[hov])
 go_region_law_o (refine step_copy_runI rfl _ _ 36 36 rfl _ _ (by simp[Act.eval,Act.put]) (by simp[Act.eval,Act.put]) (hcp1 _ _ _) ?_)
 go_wp2_with (at_builtin;refine wpList_copy_runI _ rfl _ _ 36 36 rfl _ _ rfl rfl (hcp2 _ rfl _ _) ?_)
 go_ret
 first|exact⟨rfl,rfl⟩|exact⟨rfl,by rw[setRow_setRow]⟩
set_option maxRecDepth 100000 in
theorem Zzs:Zct Tryz.prog 274 121 36 3 2:=by
  intro w g n c i vb m vc G ROW cur2 cur3 hi hm hnc hroom hGn hG63 hrz hcpA hcpB Q hfin;obtain⟨hz1,hz2,hw1,-,hb1,hin,htn,-,-,hb3⟩:=insN hi hm (by omega);have hz3:(c:Int)<(n:Int)+(m:Int):=by omega
  have hGi:¬(G=i):=by omega
  have hGim:¬(G=i+m):=by omega
  have hci:¬(c=i):=by omega
  have mixed:Tryz.prog.follows Departure.mixedOrders=true:=by kernel_rfl
  have hE1:((w.alloc (.cells ROW 121)).drew).heap=(w.drew.alloc (.cells ROW 121)).heap:=rfl;have hF1:(((w.alloc (.cells ROW 121)).drew.setRow w.heap.size cur2).drew).heap=((w.drew.alloc (.cells ROW 121)).setRow w.heap.size cur2).heap:=rfl;go_enter Tryz.func274,Tryz.ntmps274
  go_wp2_with (first
    | (at_builtin;refine Lib.wpList_append_run _ rfl _ _ _ _ rfl _ _ rfl rfl _ _ (hrz _) ?_)
    | (at_builtin;refine wpList_copy_runI _ rfl _ _ 36 36 rfl _ _ rfl rfl (hcpA _ hE1 _ _) ?_)
    | (at_builtin;refine wpList_copy_runI _ rfl _ _ 36 36 rfl _ _ rfl rfl (hcpB _ hF1 _ _ _) ?_))
  go_region_law_o (refine step_copy_runI rfl _ _ 36 36 rfl (.slice (some ⟨w.heap.size,(i+m)*2,none⟩) (n+m - (i+m)) (G - (i+m))) (.slice (some ⟨g,i*2,none⟩) (n - i) (c - i)) (by simp[Act.eval,Act.put]) (by simp[Act.eval,Act.put]) (hcpB _ hF1 3 (G - (i+m)) (c - i)) ?_)
  go_wp2
  exact hfin _ rfl rfl rfl rfl
theorem Zzt(w:World)(s v:Value)(i:Nat)(R V:List (List Value))(hs:owns w s 121 [.int .i64,.str] R)(hv:owns w v 121 [.int .i64,.str] V)(hne:∀k,Z2 s k->Z2 v k->False)(hi:i<=R.length)(hb:(R.length+V.length)*24<=140737488355328) : Calls Tryz.prog 274 #[s,.int .i64 i,v] w λe w'=>∃v',e=.returned v'/\Z9h w w' s v' 121 [.int .i64,.str] (R.take i++V++R.drop i) :=
 Zg0 (K:=2) Tryz.underlying36 Tryz.underlying3 (by kernel_rfl) rfl (by decide) (by decide) (λargs w=>run_callFunc_extern Tryz.func292 (by kernel_rfl) (by kernel_rfl) (by kernel_rfl) (e:=Extern.SlicesOverlaps.overlaps #[36,36] #[4]) (by kernel_rfl) args w) Zzr Z153 Zvh Zzs w s v i R V hs hv hne hi hb
theorem Zzu{was:Int}{o:Opt}{l:List Opt}:optE was (o::l)=0↔(0<=o.1/\o.1<=65535)/\was<=o.1/\o.2.length<=60/\optE o.1 l=0:=by
 simp only[optE];constructor
 ·intro h;split at h
  ·split at h
   ·exact absurd h (by decide)
   ·split at h
    ·exact absurd h (by decide)
    ·exact⟨by assumption,by omega,by omega,h⟩
  ·exact absurd h (by decide)
 ·rintro⟨h1,h2,h3,h4⟩;rw[if_pos h1,if_neg (by omega),if_neg (by omega),h4]
theorem Z19q(os:List Opt)(i:Nat)(h:i<os.length):os.take (i+1)=os.take i++[os.getD i oD]:=by rw[List.take_add_one,qy1,qy7 h];rfl
