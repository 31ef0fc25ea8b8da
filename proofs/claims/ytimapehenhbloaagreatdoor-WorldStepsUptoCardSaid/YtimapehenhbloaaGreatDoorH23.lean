/- By an AI agent. -/
import Derived.Test.YtimapehenhbloaaGreatDoorH22
import Derived.Shelf.SlSortCmp.WholeK
import Derived.Sort.OwnSorted
import Derived.Ground.SlsfProg
set_option linter.all false
set_option maxHeartbeats 20000000
set_option maxRecDepth 100000
open Nat renaming reduceAdd→ra
open Go.Proofs.Tryz renaming prog→ϐ
open Nat renaming mul_le_mul_right→ϑ,two_pow_add_eq_or_of_lt→ϣ,le_refl→ϥ,mul_comm→ϸ,min→Ϲ,mod_eq_of_lt→δ,mul_assoc→ζ,add_comm→θ,add_zero→ν,zero_add→ξ,zero_le→π,add_mul→υ
open List renaming length_cons→ϒ,getElem?_eq_none→ϗ,getElem?_map→Ϙ,getElem?_drop→Ϝ,nil_append→Ϟ,mem_filter→Ϡ,drop_eq_getElem_cons→Ϥ,getElem?_take_of_lt→ϧ,length_drop→Ϩ,length_take→ϩ,cons_append→Ϫ,length_eq_zero_iff→ϫ,drop_length→Ϭ,map_append→ϭ,length_nil→Ϯ,mem_append_right→ϯ,pairwise_append→ϱ,map_congr_left→ϲ,mem_cons→ϳ,pairwise_cons→Ϸ,append_assoc→Ϻ,ext_getElem?→β,mem_map→γ,map_cons→η
open Array renaming getElem?_toList→ϓ,getElem?_eq_getElem→ϔ,getElem?_modify→ϰ
open Bool renaming true→ϕ,false→Ϛ,not_eq_true'→ϻ
open Go renaming World→ϖ,Calls→ϙ,Value→Ϣ
open Option renaming mem_toList→Ϧ,some→ε,none→μ
namespace Go.Proofs.Y
open Go.Sx
variable(l:By)
def Z1c0(i:Nat):Value.gI (((l.map λb=>[Value.int .u8 (b.toNat:Int)]).getD i []).getD 0 undef)=((l.getD i 0).toNat:Int):=by simp only[qy1,Ϙ];cases l[i]?<;>rfl
variable(s:By)
def Z13n(i lo hi:Nat)(h:lo+i<hi):((s.take hi).drop lo).getD i 0=s.getD (lo+i) 0:=by simp only[qy1,Ϝ,List.getElem?_take,ϝ h]
def beN:By->Nat->Nat
 | [],n=>n
 | c::l,n=>beN l (256*n+c.toNat)
def Zoy(c:UInt8)(n:Nat):beN (l++[c]) n=256*beN l n+c.toNat:=by
 induction l generalizing n with
 | nil=>rfl
 | cons d l ih=>simp[beN,ih]
def Zwu:∀n,beN l n<(n+1)*pw l.length:=by
 induction l with
 | nil=>intro n;simp[beN,pw]
 | cons c l ih =>
  intro n;have h1:=ih (256*n+c.toNat);have h2:=Z5c c;have h3:(256*n+c.toNat+1)*pw l.length<=(256*(n+1))*pw l.length:=ϑ _ O;simp only[beN,ϒ,pw];rw[<- ζ,ϸ (n+1) 256];omega
def Zlk(m:Nat)(h:m<l.length):l.take (m+1)=l.take m++[l.getD m 0]:=by rw[List.take_add_one,qy1,qy7 h];rfl
def Z1e9(n c:Nat)(hn:n<2 ^ 54)(hc:c<256):Z2l .or .i64 (IntKind.i64.wrap ((n:Int)*2 ^ (Ϲ (Int.toNat 8) IntKind.i64.bits))) (c:Int)=((256*n+c:Nat):Int):=by
 have e0:IntKind.i64.wrap ((n)*2 ^ (Ϲ (Int.toNat 8) IntKind.i64.bits))=((n*256)):=by have:Ϲ (Int.toNat 8) IntKind.i64.bits=8:=rfl;rw[this,IntKind.wrap_i64];omega
 rw[e0];show IntKind.i64.wrap (((BitVec.ofInt 64 ((n*256:Nat):Int)) ||| (BitVec.ofInt 64 (c:Int))).toNat:Int)=_
 rw[BitVec.toNat_or,Z4z _ O,Z4z c O];have e:n*256 ||| c=256*n+c:=by have:=ϣ (i:=8) O n;rw[show n*256=2 ^ 8*n by omega,<- this]
 rw[e,Zeb _ O]
def getR(at_ b:Int):Int×Int :=
 if 1<=b/\b<=4 then
  if 0<=at_/\at_<=s.length then
   if(s.length:Int) - at_<b then(0,8)else(beN ((s.drop at_.toNat).take b.toNat) 0,0)
  else(0,3)
 else(0,7)
variable{b:Int}
def Zrj{s:By}{at_:Int}(h:¬(1<=b/\b<=4)):getR s at_ b=(0,7):=ϛ h
def Zmp{s:By}{at_:Int}(h:1<=b/\b<=4)(h1:¬(0<=at_/\at_<=s.length)):getR s at_ b=(0,3):=by rw[getR,ϝ h,ϛ h1]
def Z3k{s:By}{at_:Int}(h:1<=b/\b<=4)(h1:0<=at_/\at_<=s.length)(h2:(s.length:Int) - at_<b):getR s at_ b=(0,8):=by rw[getR,ϝ h,ϝ h1,ϝ h2]
def Z9v{s:By}{at_:Int}(h:1<=b/\b<=4)(h1:0<=at_/\at_<=s.length)(h2:¬(s.length:Int) - at_<b):getR s at_ b=(((beN ((s.drop at_.toNat).take b.toNat) 0:Nat):Int),0):=by rw[getR,ϝ h,ϝ h1,ϛ h2]
def beN4(at_ m:Nat)(h:m<=4):beN ((s.drop at_).take m) 0<4294967296:=by have h1:=Zwu ((s.drop at_).take m) 0;have h2:pw ((s.drop at_).take m).length<=pw 4:=Zb6 O3;have h3:pw 4=4294967296:=rfl;omega
def Zfy(at_ b:Int):0<=(getR s at_ b).1/\(getR s at_ b).1<4294967296:=by
 unfold getR;split
 ·split
  ·split
   ·decide
   have:=beN4 s at_.toNat b.toNat O;omega
  decide
 decide
def Zwv(a k:Nat)(h:a+k<s.length):beN ((s.drop a).take (k+1)) 0=256*beN ((s.drop a).take k) 0+(s.getD (a+k) 0).toNat:=by rw[Zlk _ _ O3,Zoy];simp only[qy1,Ϝ]
def Zoz(w:ϖ)(s:By)(at_ b:Int)(hs:s.length<4611686018427387904):ϙ ϐ 128 #[.string ⟨s.toArray⟩,.int .i64 at_,.int .i64 b] w λe w'=>e=.returned (.tuple #[.int .i64 (getR s at_ b).1,.int .i64 (getR s at_ b).2])/\Mod [] w w':=by
 refine Wp (J:=[.s s,.i at_,.i b]) Zal ?_;simp only[QR];refine⟨λh w' hr=>⟨by rw[Zrj h],hr.mod⟩,λh=>?_⟩;refine⟨λh1 w' hr=>⟨by rw[Zmp O h1],hr.mod⟩,λh1=>?_⟩;refine⟨O,O,λh2 w' hr=>⟨by rw[Z3k O O h2],hr.mod⟩,λh2=>?_⟩;obtain⟨a,rfl⟩:∃a:Nat,at_=a:=⟨at_.toNat,O⟩
 obtain⟨k,rfl⟩:∃k:Nat,b=k:=⟨b.toNat,O⟩
 refine⟨λvs=>∃m:Nat,vs=[.i (beN ((s.drop a).take m) 0),.i m]/\m<=k,λvs=>(k - (vs.getD 1 (.i 0)).toI).toNat,⟨0,by simp[beN],O⟩,?_⟩;rintro _ - ⟨m,rfl,hm⟩;simp only[QR,ra];have hb:=beN4 s a m O;refine⟨λh3=>?_,λh3 w' hr=>⟨?_,hr.mod⟩⟩
 ·have e1:((a)+(m:Int)).toNat=a+m:=O;have e2:=Zwv s a m O;rw[e1];have hc:=Z5c (s.getD (a+m) 0)
  (repeat refine⟨O,?_⟩);refine⟨⟨m+1,?_,O⟩,O⟩
  rw[e2];simp
 have:m=k:=O;subst this;rw[Z9v O O h2];simp only[qy4]
def Zp0(w:ϖ)(s:By)(at_ b:Int)(hs:s.length<4611686018427387904):ϙ ϐ 202 #[.string ⟨s.toArray⟩,.int .i64 at_,.int .i64 b] w λe w'=>e=.returned (.tuple #[.int .i64 (getR s at_ b).1,.int .i64 (getR s at_ b).2])/\Mod [] w w':=by
 refine Wp (J:=[.s s,.i at_,.i b]) Zob ?_;simp only[QR];refine⟨λh w' hr=>⟨by rw[Zrj O],hr.mod⟩,λh=>?_⟩;refine⟨λh1 w' hr=>⟨by rw[Zmp O h1],hr.mod⟩,λh1=>?_⟩;refine⟨O,O,λh2 w' hr=>⟨by rw[Z3k O O h2],hr.mod⟩,λh2=>?_⟩;obtain⟨a,rfl⟩:∃a:Nat,at_=a:=⟨at_.toNat,O⟩
 obtain⟨k,rfl⟩:∃k:Nat,b=k:=⟨b.toNat,O⟩
 (repeat refine⟨O,?_⟩)
 intro v;refine⟨λvs=>∃m:Nat,vs=[.i (beN ((s.drop a).take m) 0),.i m]/\m<=k,λvs=>(k - (vs.getD 1 (.i 0)).toI).toNat,⟨0,by simp[beN],O⟩,?_⟩;rintro _ - ⟨m,rfl,hm⟩;have e0:((a)+(k:Int)).toNat=a+k:=O;simp only[QR,ra,Ϩ,ϩ,Z1c0,e0];have hb:=beN4 s a m O;refine⟨λh3=>?_,λh3 w' hr=>⟨?_,hr.mod⟩⟩
 ·have e2:=Zwv s a m O;have hc:=Z5c (s.getD (a+m) 0);rw[Z13n _ _ _ _ O,Z1e9 _ _ O hc]
  (repeat refine⟨O,?_⟩);refine⟨⟨m+1,?_,O⟩,O⟩
  rw[e2];simp
 have:m=k:=O;subst this;rw[Z9v O O h2];simp only[qy4]
def p7:Nat->Nat
 | 0=>1
 | k+1=>128*p7 k
variable{a:Nat}
def Zjp{b:Nat}(h:a<=b):p7 a<=p7 b:=by
 induction h with
 | refl=>exact ϥ _
 | step _ ih=>simp only[p7];omega
def Z13o(a:Nat):1<=p7 a:=Zjp (π a)
def glF:Nat->Nat->Nat->By->Int×Int×Int
 | 0,_,_,_=>(0,0,1)
 | _+1,_,_,[]=>(0,0,8)
 | f+1,i,n,c::l=>if c.toNat<128 then(if c.toNat=0/\0<i then(0,0,1)else(((n+c.toNat % 128*p7 i:Nat):Int),((i+1:Nat):Int),0))else glF f (i+1) (n+c.toNat % 128*p7 i) l
def getL(at_:Int):Int×Int×Int:=if 0<=at_/\at_<=s.length then glF 4 0 0 (s.drop at_.toNat)else(0,0,3)
def Zmq{s:By}{at_:Int}(h:¬(0<=at_/\at_<=s.length)):getL s at_=(0,0,3):=ϛ h
variable{i n:Nat}
def Z13p{s:By}{f:Nat}(h:s.length<=a):glF (f+1) i n (s.drop a)=(0,0,8):=by rw[List.drop_eq_nil_of_le h];rfl
def Zww{s:By}{f:Nat}(h:a<s.length):glF (f+1) i n (s.drop a) = if(s.getD a 0).toNat<128 then(if(s.getD a 0).toNat=0/\0<i then(0,0,1)else(((n+(s.getD a 0).toNat % 128*p7 i:Nat):Int),((i+1:Nat):Int),0))else glF f (i+1) (n+(s.getD a 0).toNat % 128*p7 i) (s.drop (a+1)):=by rw[Z8m s a h];rfl
def Z13q:∀(f i n:Nat) (l:By),n<p7 i->0<=(glF f i n l).1/\(glF f i n l).1<p7 (f+i)/\0<=(glF f i n l).2.1/\(glF f i n l).2.1<=f+i/\(glF f i n l).2.1<=i+l.length
 | 0,i,n,l,h=>by have:=Z13o (0+i);simp only[glF];omega
 | f+1,i,n,[],h=>by have:=Z13o (f+1+i);simp only[glF];omega
 | f+1,i,n,c::l,h=>by
  have hp:=Z13o (f+1+i);have hm:n+c.toNat % 128*p7 i<p7 (i+1):=by have:c.toNat % 128*p7 i<=127*p7 i:=ϑ _ O;simp only[p7];omega
  have hm2:p7 (i+1)<=p7 (f+1+i):=Zjp O;simp only[glF];split
  ·split
   ·simp only[ϒ];omega
   simp only[ϒ];omega
  have:=Z13q f (i+1) _ l hm;have e:f+(i+1)=f+1+i:=O;rw[e]at this;simp only[ϒ];omega
def Zjq(at_:Int):0<=(getL s at_).1/\(getL s at_).1<268435456/\0<=(getL s at_).2.1/\(getL s at_).2.1<=4/\(getL s at_).2.1<=s.length:=by
 unfold getL;split
 ·have h:=Z13q 4 0 0 (s.drop at_.toNat) U;have e:p7 (4+0)=268435456:=rfl;rw[e,Ϩ]at h;omega
 simp only;omega
def Zjr(w:ϖ)(s:By)(at_:Int)(hs:s.length<4611686018427387904):ϙ ϐ 79 #[.string ⟨s.toArray⟩,.int .i64 at_] w λe w'=>e=.returned (.tuple #[.int .i64 (getL s at_).1,.int .i64 (getL s at_).2.1,.int .i64 (getL s at_).2.2])/\Mod [] w w':=by
 refine Wp (J:=[.s s,.i at_]) Z76 ?_;simp only[QR,ra];refine⟨λh w' hr=>⟨by rw[Zmq h],hr.mod⟩,λh=>?_⟩;obtain⟨a,rfl⟩:∃a:Nat,at_=a:=⟨at_.toNat,O⟩
 have e0:getL s a=glF 4 0 0 (s.drop a):=by rw[getL,ϝ O,qy4]
 rw[e0];refine⟨λvs=>∃(m n:Nat) (x y z:V),vs=[x,y,z,.i n,.i (p7 m),.i m]/\m<=4/\n<p7 m/\glF (4 - m) m n (s.drop (a+m))=glF 4 0 0 (s.drop a),λvs=>(4 - (vs.getD 5 (.i 0)).toI).toNat,⟨0,0,_,_,_,rfl,O,U,rfl⟩,?_⟩;rintro _ - ⟨m,n,x,y,z,rfl,hm,hn,hg⟩;simp only[QR,ra];have hp:=Zjp hm;have hp4:p7 4=268435456:=rfl;refine⟨λh3=>?_,λh3 w' hr=>⟨?_,hr.mod⟩⟩
 ·obtain⟨g,hgm⟩:∃g,4 - m=g+1:=⟨3 - m,O⟩
  rw[hgm]at hg;refine⟨O,O,λh4 w' hr=>⟨by rw[<- hg,Z13p O],hr.mod⟩,λh4=>?_⟩;rw[Zww O]at hg;have e1:((a)+(m:Int)).toNat=a+m:=O;rw[e1];have hc:=Z5c (s.getD (a+m) 0);generalize hcc:(s.getD (a+m) 0).toNat=c at hg hc⊢;have q1:c % 128*p7 m<=127*p7 m:=ϑ _ O;have q2:((c) % 128)*(p7 m)=((c % 128*p7 m:Nat):Int):=O1;rw[q2]
  (repeat refine⟨O,?_⟩)
  refine⟨λh5=>?_,λh5=>?_⟩
  ·rw[ϝ O]at hg;exact⟨λh6 w' hr=>⟨by rw[ϝ O]at hg;rw[<- hg],hr.mod⟩,λh6=>⟨O,O,λw' hr=>⟨by rw[ϛ O]at hg;rw[<- hg];rfl,hr.mod⟩⟩⟩
  rw[ϛ O]at hg;exact⟨O,O,⟨m+1,n+c % 128*p7 m,x,y,z,by simp[p7],O,by simp only[p7];omega,by rw[<- hg,show 4 - (m+1)=g by omega];rfl⟩,O⟩
 have:m=4:=O;subst this;rw[<- hg];rfl
def Z1ea(x:Nat)(h:x<256):Z2l .and .u8 (x:Int) 127=(x % 128:Nat):=by have:∀x:Fin 256,Z2l .and .u8 (x.val) 127=(x.val % 128):=O9;exact this ⟨x,h⟩
def Z1eb(x:Nat)(h:x<256):Z2l .and .u8 (x:Int) 128=if x<128 then 0 else 128:=by
 have:∀x:Fin 256,Z2l .and .u8 (x.val) 128=if x.val<128 then 0 else 128:=O9
 exact this ⟨x,h⟩
def Z1ec(n c m:Nat)(hm:m<=3)(hn:n<p7 m)(hc:c<128):Z2l .or .i64 (n:Int) (IntKind.i64.wrap ((c:Int)*2 ^ (Ϲ ((7:Int)*(m:Int)).toNat IntKind.i64.bits)))=((n+c*p7 m:Nat):Int):=by
 have hp:p7 m=2 ^ (7*m):=by
  have:∀k,p7 k=2 ^ (7*k):=λk=>by
   induction k with
   | zero=>rfl
   | succ k ih=>rw[p7,ih,Nat.mul_succ,Nat.pow_add];omega
  exact this m
 have hpm:=Zjp hm;have hp3:p7 3=2097152:=rfl;have q1:c*p7 m<=127*p7 m:=ϑ _ O;have e0:IntKind.i64.wrap ((c)*2 ^ (Ϲ ((7:Int)*(m)).toNat IntKind.i64.bits))=((c*p7 m:Nat)):=by
  have:Ϲ ((7:Int)*(m)).toNat IntKind.i64.bits=7*m:=by have e:((7:Int)*(m)).toNat=7*m:=O;rw[e];exact Nat.min_eq_left (by show 7*m<=64;omega)
  rw[this];have e2:(c)*2 ^ (7*m)=((c*p7 m:Nat):Int):=by rw[hp];simp
  rw[e2,Zeb _ O]
 rw[e0];simp only[Z2l]
 show IntKind.i64.wrap (((BitVec.ofInt 64 (n:Int)) ||| (BitVec.ofInt 64 ((c*p7 m:Nat):Int))).toNat:Int)=_
 rw[BitVec.toNat_or,Z4z _ O,Z4z _ O];have e:n ||| c*p7 m=n+c*p7 m:=by have:=ϣ (by rw[<- hp];exact hn) c;rw[hp,ϸ c,Nat.or_comm,<- this,θ]
 rw[e,Zeb _ O]
def Zrk(w:ϖ)(s:By)(at_:Int)(hs:s.length<4611686018427387904):ϙ ϐ 248 #[.string ⟨s.toArray⟩,.int .i64 at_] w λe w'=>e=.returned (.tuple #[.int .i64 (getL s at_).1,.int .i64 (getL s at_).2.1,.int .i64 (getL s at_).2.2])/\Mod [] w w':=by
 refine Wp (J:=[.s s,.i at_]) Zfp ?_;simp only[QR,ra];refine⟨λh w' hr=>⟨by rw[Zmq h],hr.mod⟩,λh=>?_⟩;obtain⟨a,rfl⟩:∃a:Nat,at_=a:=⟨at_.toNat,O⟩
 have e0:getL s a=glF 4 0 0 (s.drop a):=by rw[getL,ϝ O,qy4]
 rw[e0];obtain⟨k,hk,hka⟩:∃k:Nat,(if(a)+4<(s.length:Int)then(a:Int)+4 else(s.length))=((a+k))/\(k=4/\a+4<s.length\/k<=4/\a+k=s.length):=by
  by_cases h4:(a:Int)+4<s.length
  ·exact⟨4,by rw[ϝ h4];omega,O⟩
  exact⟨s.length - a,by rw[ϛ h4];omega,O⟩
 rw[hk]
 (repeat refine⟨O,?_⟩)
 intro v;refine⟨λvs=>∃(m n:Nat) (x y z:V),vs=[x,y,z,.i n,.i m]/\m<=k/\n<p7 m/\glF (4 - m) m n (s.drop (a+m))=glF 4 0 0 (s.drop a),λvs=>(k - (vs.getD 4 (.i 0)).toI).toNat,⟨0,0,_,_,_,rfl,O,U,rfl⟩,?_⟩;rintro _ - ⟨m,n,x,y,z,rfl,hm,hn,hg⟩;simp only[QR,ra,Ϩ,ϩ,Z1c0];have hp:=Zjp (show m<=4 by omega);have hp4:p7 4=268435456:=rfl;refine⟨λh3=>?_,λh3=>?_⟩
 ·obtain⟨g,hgm⟩:∃g,4 - m=g+1:=⟨3 - m,O⟩
  rw[hgm,Zww O]at hg;rw[Z13n _ _ _ _ O];have hc:=Z5c (s.getD (a+m) 0);generalize hcc:(s.getD (a+m) 0).toNat=c at hg hc⊢;rw[Z1ea c hc,Z1eb c hc];rw[Z1ec n (c % 128) m O hn O];have q1:c % 128*p7 m<=127*p7 m:=ϑ _ O
  (repeat refine⟨O,?_⟩)
  refine⟨λh5=>(by have h5:¬c<128:=λh=>h5 (by rw[ϝ h]);rw[ϛ h5]at hg;refine⟨O,by omega,⟨m+1,n+c % 128*p7 m,x,y,z,rfl,by omega,by simp only[p7];omega,?_⟩,by omega⟩;rw[<- hg,show 4 - (m+1)=g by omega];rfl),λh5=>?_⟩;have h5:c<128:=by
   rcases Nat.lt_or_ge c 128 with h|h
   ·exact h
   exact ϟ (by rw[ϛ (by omega)];decide) h5
  rw[ϝ h5]at hg;exact⟨λh6 w' hr=>⟨by rw[ϝ (by omega)]at hg;rw[<- hg],hr.mod⟩,λh6=>⟨by omega,by omega,λw' hr=>⟨by rw[ϛ (by omega)]at hg;rw[<- hg];rfl,hr.mod⟩⟩⟩
 have:m=k:=by omega
 subst this;refine⟨by omega,by omega,λh4 w' hr=>⟨?_,hr.mod⟩,λh4 w' hr=>⟨?_,hr.mod⟩⟩
 ·obtain⟨g,hgm⟩:∃g,4 - m=g+1:=⟨3 - m,by omega⟩
  rw[hgm,Z13p (by omega)]at hg;rw[<- hg]
 have:m=4:=by omega
 subst this;rw[<- hg];rfl
def Zc(k:Nat)(n:Int):(numB k n).length=k:=by simp[numB]
def txtB(t:By):By:=numB 2 t.length++t
def Zec(w:ϖ)(t:By)(ht:t.length<4611686018427387904):ϙ ϐ 182 #[.string ⟨t.toArray⟩] w λe w'=>e=.returned (.string ⟨(txtB t).toArray⟩)/\Mod [] w w':=by refine Wp (J:=[.s t]) Z9b ?_;simp only[QR];refine⟨[.s (numB 2 t.length)],rfl,λ_ w' _=>Z1b w' t.length 2 O O O,?_⟩;simp only[QR];exact⟨by rw[Zc];omega,λw' hr=>⟨rfl,hr.mod⟩⟩
def Zud(w:ϖ)(t:By)(ht:t.length<4611686018427387904):ϙ ϐ 228 #[.string ⟨t.toArray⟩] w λe w'=>e=.returned (.string ⟨(txtB t).toArray⟩)/\Mod [] w w':=by refine Wp (J:=[.s t]) Zco ?_;simp only[QR];refine⟨[.s (numB 2 t.length)],rfl,λ_ w' _=>Zox w' t.length 2 O O O,?_⟩;simp only[QR];exact⟨by rw[Zc];omega,λw' hr=>⟨rfl,hr.mod⟩⟩
def getT(at_:Int):By×Int×Int :=
 if(getR s at_ 2).2=0 then
  if(s.length:Int) - at_ - 2<(getR s at_ 2).1 then([],0,8)else((s.take (at_+2+(getR s at_ 2).1).toNat).drop (at_+2).toNat,(getR s at_ 2).1+2,0)
 else([],0,(getR s at_ 2).2)
def Zrl{s:By}{at_ b:Int}(h:(getR s at_ b).2=0):(1<=b/\b<=4)/\(0<=at_/\at_<=s.length)/\¬(s.length:Int) - at_<b:=by
 unfold getR at h;split at h
 ·split at h
  ·split at h
   ·simp at h
   exact⟨‹_›,‹_›,‹_›⟩
  simp at h
 simp at h
def Zue(w:ϖ)(s:By)(at_:Int)(hs:s.length<4611686018427387904):ϙ ϐ 181 #[.string ⟨s.toArray⟩,.int .i64 at_] w λe w'=>e=.returned (.tuple #[.string ⟨(getT s at_).1.toArray⟩,.int .i64 (getT s at_).2.1,.int .i64 (getT s at_).2.2])/\Mod [] w w':=by refine Wp (J:=[.s s,.i at_]) Z72 ?_;simp only[QR];have CALLEE:=Zoz;refine⟨[.i (getR s at_ 2).1,.i (getR s at_ 2).2],rfl,λ_ w' _=>CALLEE w' s at_ 2 hs,?_⟩;have hb:=Zfy s at_ 2;have hz:=@Zrl s at_ 2;simp only[QR];refine⟨λh w' hr=>⟨by rw[getT,ϛ h],hr.mod⟩,λh=>?_⟩;have h0:=Decidable.not_not.1 h;have h1:=hz h0;(repeat refine⟨O,?_⟩);refine⟨λh2 w' hr=>⟨by rw[getT,ϝ h0,ϝ h2],hr.mod⟩,λh2=>?_⟩;(repeat refine⟨O,?_⟩);refine λw' hr=>⟨?_,hr.mod⟩;rw[getT,ϝ h0,ϛ h2];rw[h0]
def Z13r(w:ϖ)(s:By)(at_:Int)(hs:s.length<4611686018427387904):ϙ ϐ 321 #[.string ⟨s.toArray⟩,.int .i64 at_] w λe w'=>e=.returned (.tuple #[.string ⟨(getT s at_).1.toArray⟩,.int .i64 (getT s at_).2.1,.int .i64 (getT s at_).2.2])/\Mod [] w w':=by refine Wp (J:=[.s s,.i at_]) Zfd ?_;simp only[QR];have CALLEE:=Zp0;refine⟨[.i (getR s at_ 2).1,.i (getR s at_ 2).2],rfl,λ_ w' _=>CALLEE w' s at_ 2 hs,?_⟩;have hb:=Zfy s at_ 2;have hz:=@Zrl s at_ 2;simp only[QR];refine⟨λh w' hr=>⟨by rw[getT,ϛ h],hr.mod⟩,λh=>?_⟩;have h0:=Decidable.not_not.1 h;have h1:=hz h0;(repeat refine⟨O,?_⟩);refine⟨λh2 w' hr=>⟨by rw[getT,ϝ h0,ϝ h2],hr.mod⟩,λh2=>?_⟩;(repeat refine⟨O,?_⟩);refine λw' hr=>⟨?_,hr.mod⟩;rw[getT,ϝ h0,ϛ h2]
def Zwx(k n:Nat):numB k (n:Int)=(List.range k).map λj=>UInt8.ofNat (n / pw (k - 1 - j) % 256):=by refine ϲ λj _=>?_;congr 1
def Zrm(k n:Nat):numB (k+1) (n:Int)=numB k ((n / 256:Nat):Int)++[UInt8.ofNat (n % 256)]:=by
 rw[Zwx,Zwx,List.range_succ,ϭ];congr 1
 ·refine ϲ λj hj=>?_;have hj:j<k:=by simpa using hj
  have e:k+1 - 1 - j=(k - 1 - j)+1:=O;rw[e]
  show UInt8.ofNat (n / (256*pw (k - 1 - j)) % 256)=UInt8.ofNat (n / 256 / pw (k - 1 - j) % 256)
  rw[Nat.div_div_eq_div_mul]
 have e:k+1 - 1 - k=0:=O;rw[η,List.map_nil,e];simp[pw]
def Zwy:∀(k n:Nat),n<pw k->beN (numB k n) 0=n
 | 0,n,h=>by have h:n<1:=h;have:n=0:=O;subst this;rfl
 | k+1,n,h=>by have h:n<256*pw k:=h;have ih:=Zwy k (n / 256) O;rw[Zrm,Zoy,ih];have:(UInt8.ofNat (n % 256)).toNat=n % 256:=O1;omega
def Zwz(b:By):∀(g f i n x:Nat),x<p7 (g+1)->g<f->(i=0\/0<x)->glF f i n (lngB g x++b)=(((n+x*p7 i:Nat):Int),((i+(lngB g x).length:Nat):Int),0)
 | 0,f+1,i,n,x,hx,hf,hi=>by have hx:x<128:=hx;have e:(UInt8.ofNat x).toNat=x:=O3;simp only[Ϫ,Ϟ,glF,e,lngB,ϒ,Ϯ];rw[ϝ hx,ϛ O,δ hx]
 | g+1,f+1,i,n,x,hx,hf,hi=>by
  by_cases h:x<128
  ·have e:(UInt8.ofNat x).toNat=x:=O3;rw[Zfx _ _ h];simp only[Ϫ,Ϟ,glF,e,ϒ,Ϯ];rw[ϝ h,ϛ O,δ h]
  have hx:x<128*p7 (g+1):=hx;have e:(UInt8.ofNat (x % 128+128)).toNat=x % 128+128:=O3;have e2:lngB (g+1) x=UInt8.ofNat (x % 128+128)::lngB g (x / 128):=by rw[lngB,ϛ h]
  rw[e2];simp only[Ϫ,glF,e,ϒ];rw[ϛ O,Zwz b g f (i+1) _ (x / 128) O O O];have e3:(x % 128+128) % 128=x % 128:=O;have e4:x % 128*p7 i+x / 128*(128*p7 i)=x*p7 i:=by rw[<- ζ,<- υ];congr 1;omega
  rw[e3];refine Prod.ext ?_ (Prod.ext ?_ rfl)
  ·show((n+x % 128*p7 i+x / 128*p7 (i+1):Nat):Int)=_
   rw[p7,Nat.add_assoc,e4]
  show((i+1+(lngB g (x / 128)).length:Nat):Int)=_
  congr 1;omega
structure Pkt where
 kind:Int
 dup:Bool
 retain:Bool
 clean:Bool
 session:Bool
 qos:Int
 id:Int
 keep:Int
 code:Int
 client:List UInt8
 topic:List UInt8
 payload:List UInt8
 asks:List Rd
 codes:List Int
 deriving DecidableEq
abbrev pD_Q(k:Int):Pkt:=⟨k,Ϛ,Ϛ,Ϛ,Ϛ,0,0,0,0,[],[],[],[],[]⟩
def Z3i(k:Int):Bool:=decide ((1<=k/\k<=4)\/(8<=k/\k<=14))
def idB(p:Pkt):Bool:=decide ((p.kind=3/\p.qos=1)\/p.kind=4\/(8<=p.kind/\p.kind<=11))
def Z1l(p:Pkt):Pkt :=
 if p.kind=1 then { p with client:=[],clean:=Ϛ,keep:=0 }
 else if p.kind=2 then { p with code:=0,session:=Ϛ }
 else if p.kind=3 then { p with dup:=Ϛ,qos:=0,retain:=Ϛ,topic:=[],payload:=[],id:=0 }
 else if p.kind=4\/p.kind=11 then { p with id:=0 }
 else if p.kind=8\/p.kind=10 then { p with id:=0,asks:=[] }
 else if p.kind=9 then { p with id:=0,codes:=[] }
 else p
def Z7l(p:Pkt):Bool:=decide (p=pD_Q p.kind)
def Zjs(p:Pkt):Int:=if 20<(p.client.length:Int)then 2 else if Z9 p.client=ϕ then(if 0<=p.keep/\p.keep<=65535 then 0 else 3)else 1
def Z4v(p:Pkt):Int:=if 0<=p.code/\p.code<=5 then(if p.session=ϕ/\p.code≠0 then 4 else 0)else 3
def pubE(p:Pkt):Int :=
 if chkT p.topic Ϛ=0 then
  if 200<(p.payload.length:Int)then 2
  else if 0<=p.qos/\p.qos<=1 then(if p.qos=0/\(p.dup=ϕ\/p.id≠0)then 1 else 0)else 3
 else chkT p.topic Ϛ
def Zo(n:Nat):Int:=if n=0 then 1 else if 5<(n:Int)then 2 else 0
def askE(a:Rd):Int:=if chkT a.1 ϕ=0 then(if 0<=a.2/\a.2<=1 then 0 else 3)else chkT a.1 ϕ
def Z4n(a:Rd):Int:=if chkT a.1 ϕ=0 then(if a.2=0 then 0 else 1)else chkT a.1 ϕ
def Z3v(k:Int):List Rd->Int
 | []=>0
 | a::l=>if(if k=8 then askE a else Z4n a)=0 then Z3v k l else(if k=8 then askE a else Z4n a)
def Zjt(p:Pkt):Int:=if Zo p.asks.length=0 then Z3v p.kind p.asks else Zo p.asks.length
def Z9w(c:Int):Bool:=decide (c≠0/\c≠1/\c≠128)
def Zc9(p:Pkt):Int:=if Zo p.codes.length=0 then(if p.codes.any Z9w=ϕ then 3 else 0)else Zo p.codes.length
def Z2b(p:Pkt):Int :=
 if p.kind=1 then Zjs p else if p.kind=2 then Z4v p else if p.kind=3 then pubE p
 else if p.kind=8\/p.kind=10 then Zjt p else if p.kind=9 then Zc9 p else 0
def chkP(p:Pkt):Int :=
 if Z3i p.kind=ϕ then
  if Z7l (Z1l p)=ϕ then
   if p.kind=3/\pubE p≠0 then pubE p
   else if idB p=ϕ/\¬(1<=p.id/\p.id<=65535)then 3
   else Z2b p
  else 1
 else 7
def Z21(k:Int)(a:Rd):By:=txtB a.1++(if k=8 then numB 1 a.2 else[])
def bit(b:Bool)(n:Int):Int:=if b=ϕ then n else 0
def Z56(p:Pkt):By :=
 if p.kind=1 then txtB [77,81,84,84]++(numB 1 4++numB 1 (bit p.clean 2))++numB 2 p.keep++txtB p.client
 else if p.kind=2 then numB 1 (bit p.session 1)++numB 1 p.code
 else if p.kind=3 then txtB p.topic
 else[]
def Z20(p:Pkt):By:=Z56 p++(if idB p=ϕ then numB 2 p.id else[])++p.payload++(p.asks.map (Z21 p.kind)).flatten++(p.codes.map (numB 1)).flatten
def Z1x(p:Pkt):Int :=
 16*p.kind+(if p.kind=3 then bit p.dup 8+2*p.qos+bit p.retain 1 else if p.kind=8\/p.kind=10 then 2 else 0)
def Z2e(p:Pkt):By:=numB 1 (Z1x p)++lngB 3 (Z20 p).length++Z20 p
def rdN(k a:Nat)(b:Bool):Int×Nat×Bool:=if a+k<=s.length then((beN ((s.drop a).take k) 0:Nat),a+k,b)else(0,s.length,ϕ)
def rdT(a:Nat)(b:Bool):By×Nat×Bool :=
 if a+2<=s.length/\a+2+beN ((s.drop a).take 2) 0<=s.length then((s.drop (a+2)).take (beN ((s.drop a).take 2) 0),a+2+beN ((s.drop a).take 2) 0,b)else([],a,ϕ)
def Z1e(k:Int)(a:Nat)(b:Bool):Rd×Nat×Bool :=
 if k=8 then(((rdT s a b).1,(rdN s 1 (rdT s a b).2.1 (rdT s a b).2.2).1),(rdN s 1 (rdT s a b).2.1 (rdT s a b).2.2).2)else(((rdT s a b).1,0),(rdT s a b).2)
def rdAs(s:By)(k:Int):Nat->Nat->Bool->List Rd->List Rd×Nat×Bool
 | 0,a,b,l=>(l,a,b)
 | f+1,a,b,l=>if a<s.length/\b=Ϛ then rdAs s k f (Z1e s k a b).2.1 (Z1e s k a b).2.2 (l++[(Z1e s k a b).1])else(l,a,b)
def rdCs(s:By):Nat->Nat->Bool->List Int->List Int×Nat×Bool
 | 0,a,b,l=>(l,a,b)
 | f+1,a,b,l=>if a<s.length/\b=Ϛ then rdCs s f (rdN s 1 a b).2.1 (rdN s 1 a b).2.2 (l++[(rdN s 1 a b).1])else(l,a,b)
def Zw(a:Nat)(b:Bool):Nat:=if b=ϕ then 0 else s.length+1 - a
abbrev RS:=Pkt×Nat×Bool
def Zcx(p:Pkt)(a:Nat)(b:Bool):RS :=
 let t1:=rdT s a b
 let n1:=rdN s 1 t1.2.1 t1.2.2
 let n2:=rdN s 1 n1.2.1 n1.2.2
 let n3:=rdN s 2 n2.2.1 n2.2.2
 let t2:=rdT s n3.2.1 n3.2.2
 ({ p with clean:=decide (n2.1=2),keep:=n3.1,client:=t2.1 },t2.2)
def headD(p:Pkt)(a:Nat)(b:Bool):RS :=
 if p.kind=1 then Zcx s p a b
 else if p.kind=2 then({ p with session:=decide ((rdN s 1 a b).1=1),code:=(rdN s 1 (rdN s 1 a b).2.1 (rdN s 1 a b).2.2).1 },(rdN s 1 (rdN s 1 a b).2.1 (rdN s 1 a b).2.2).2)
 else if p.kind=3 then({ p with topic:=(rdT s a b).1 },(rdT s a b).2)
 else(p,a,b)
def idD(q:RS):RS:=if idB q.1=ϕ then({ q.1 with id:=(rdN s 2 q.2.1 q.2.2).1 },(rdN s 2 q.2.1 q.2.2).2)else q
def Z38(q:RS):RS :=
 if q.1.kind=3 then({ q.1 with payload:=s.drop q.2.1 },s.length,q.2.2)
 else if q.1.kind=8\/q.1.kind=10 then({ q.1 with asks:=(rdAs s q.1.kind (Zw s q.2.1 q.2.2) q.2.1 q.2.2 q.1.asks).1 },(rdAs s q.1.kind (Zw s q.2.1 q.2.2) q.2.1 q.2.2 q.1.asks).2)
 else if q.1.kind=9 then({ q.1 with codes:=(rdCs s (Zw s q.2.1 q.2.2) q.2.1 q.2.2 q.1.codes).1 },(rdCs s (Zw s q.2.1 q.2.2) q.2.1 q.2.2 q.1.codes).2)
 else q
def Zhj(p:Pkt)(a:Nat)(b:Bool):RS:=Z38 s (idD s (headD s p a b))
def begP(c:Nat):Pkt:=if c / 16=3 then { pD_Q 3 with dup:=decide (c / 8 % 2=1),qos:=c / 2 % 4,retain:=decide (c % 2=1) }else pD_Q ((c / 16:Nat):Int)
def Z1a:RS:=Zhj s (begP (s.getD 0 0).toNat) (1+(getL s 1).2.1).toNat Ϛ
def decD:Pkt×Int :=
 if s=[]\/(getL s 1).2.2≠0 then(pD_Q 0,1)
 else if(Z1a s).2.2=ϕ\/Z3i (Z1a s).1.kind=Ϛ\/1<(Z1a s).1.qos\/Z2e (Z1a s).1≠s then(pD_Q 0,1)
 else if chkP (Z1a s).1=0 then((Z1a s).1,0)else(pD_Q 0,chkP (Z1a s).1)
def Z2s(p:Pkt):Z1l p=pD_Q p.kind↔(p.kind≠1->p.client=[]/\p.clean=Ϛ/\p.keep=0)/\(p.kind≠2->p.session=Ϛ/\p.code=0) /\ (p.kind≠3->p.dup=Ϛ/\p.retain=Ϛ/\p.qos=0/\p.topic=[]/\p.payload=[])/\(¬((3<=p.kind/\p.kind<=4)\/(8<=p.kind/\p.kind<=11))->p.id=0) /\ (p.kind≠8/\p.kind≠10->p.asks=[])/\(p.kind≠9->p.codes=[]):=by
 obtain⟨k,d,r,c,s,q,i,ke,co,cl,t,pl,a,cs⟩:=p;unfold Z1l;by_cases h1:k=1
 ·simp only;simp;grind
 rw[ϛ h1];by_cases h2:k=2
 ·simp only;simp;grind
 rw[ϛ h2];by_cases h3:k=3
 ·simp only;simp;grind
 rw[ϛ h3];by_cases h4:k=4\/k=11
 ·rw[ϝ h4];rcases h4 with rfl|rfl<;>simp only[Pkt.mk.injEq]<;>simp<;>grind
 rw[ϛ h4];by_cases h5:k=8\/k=10
 ·rw[ϝ h5];rcases h5 with rfl|rfl<;>simp only[Pkt.mk.injEq]<;>simp<;>grind
 rw[ϛ h5];by_cases h6:k=9
 ·simp only;simp;grind
 rw[ϛ h6];have h7:¬((3<=k/\k<=4)\/(8<=k/\k<=11)):=O;have h8:k≠8/\k≠10:=O;simp only;grind
structure FormP(p:Pkt):Prop where
 kind:Z3i p.kind=ϕ
 bare:Z1l p=pD_Q p.kind
 qos:0<=p.qos/\p.qos<=1
 keep:0<=p.keep/\p.keep<65536
 code:0<=p.code/\p.code<256
 id:0<=p.id/\p.id<65536
 noid:idB p=Ϛ->p.id=0
 client:p.client.length<65536
 topic:p.topic.length<65536
 asks:∀a∈p.asks,a.1.length<65536/\0<=a.2/\a.2<256/\(p.kind≠8->a.2=0)
 codes:∀c∈p.codes,0<=c/\c<256
def Zzs{p:Pkt}(hl:(Z20 p).length<268435456)(t:By):getL (Z2e p++t) 1=((((Z20 p).length:Nat):Int),(((lngB 3 (Z20 p).length).length:Nat):Int),0):=by
 have e:(Z2e p++t).drop 1=lngB 3 (Z20 p).length++(Z20 p++t):=by rw[Z2e,Ϻ,Ϻ,List.drop_left' (Zc 1 _)]
 have hlen:1<=(Z2e p++t).length:=by simp[Z2e,Zc]
 rw[getL,ϝ O];have e1:(1:Int).toNat=1:=rfl;rw[e1,e,Zwz _ 3 4 0 0 _ (by show(Z20 p).length<268435456;exact hl) O (.inl rfl)];simp[p7]
def Zx0{s:By}{f:Bool}(h:chkT s f=0):s.length<=60:=by
 unfold chkT at h;split at h
 ·simp at h
 split at h
 ·simp at h
 omega
def Zzt(p:Pkt):(Z1l p).kind=p.kind:=by unfold Z1l;(repeat' split)<;>rfl
def Zed(p:Pkt):Z7l (Z1l p)=ϕ↔Z1l p=pD_Q p.kind:=by simp only[Z7l,ϡ,Zzt]
def Zmr{k:Int}:∀{l:List Rd},Z3v k l=0->∀a∈l,chkT a.1 ϕ=0/\0<=a.2/\a.2<=1/\(k≠8->a.2=0)
 | [],_,a,ha=>by simp at ha
 | x::l,h,a,ha=>by
  unfold Z3v at h;generalize hX:(if k=8 then askE x else Z4n x)=X at h;by_cases h0:X=0
  ·rw[ϝ h0]at h;rw[h0]at hX;rcases ϳ.1 ha with rfl|ha
   ·by_cases hk:k=8
    ·rw[ϝ hk,askE]at hX;split at hX
     ·split at hX
      ·exact⟨‹_›,O,O,ϟ hk⟩
      simp at hX
     exact ϟ hX ‹_›
    rw[ϛ hk,Z4n]at hX;split at hX
    ·split at hX
     ·exact⟨‹_›,O,O,λ_=>‹_›⟩
     simp at hX
    exact ϟ hX ‹_›
   exact Zmr h a ha
  rw[ϛ h0]at h;exact ϟ h h0
def Zx1(h:Zo n=0):1<=n/\n<=5:=by
 unfold Zo at h;split at h
 ·simp at h
 split at h
 ·simp at h
 omega
def Zuf{α:Type}(f:α->By)(m:Nat):∀l:List α,(∀a∈l,(f a).length<=m)->(l.map f).flatten.length<=l.length*m
 | [],_=>O1
 | a::l,h=>by have h1:=Zuf f m l λx hx=>h x (qy10 _ hx);have h2:=h a (qy8 ..);simp only[η,List.flatten_cons,qy11,ϒ,υ];omega
def Z12(t:By):(txtB t).length=t.length+2:=by rw[txtB,qy11,Zc];omega
def Zx2{p:Pkt}(h:chkP p=0):FormP p/\(Z20 p).length<=1000:=by
 unfold chkP at h;split at h;rotate_left
 ·simp at h
 rename_i hk;split at h;rotate_left
 ·simp at h
 rename_i he;split at h
 ·rename_i h3;exact ϟ h h3.2
 rename_i hp3;split at h
 ·simp at h
 rename_i hid;have hbare:=(Zed p).1 he;have hb:=(Z2s p).1 hbare;have hk':=hk;simp only[Z3i]at hk';obtain⟨b1,b2,b3,b4,b5,b6⟩:=hb;have h1:p.client.length<=20/\0<=p.keep/\p.keep<65536:=by
  by_cases k:p.kind=1
  ·rw[Z2b,ϝ k,Zjs]at h;split at h
   ·simp at h
   split at h
   ·split at h
    ·omega
    simp at h
   simp at h
  obtain⟨e1,e2,e3⟩:=b1 k;rw[e1,e3];simp
 have h2:0<=p.code/\p.code<256:=by
  by_cases k:p.kind=2
  ·rw[Z2b,ϛ O,ϝ k,Z4v]at h;split at h
   ·omega
   simp at h
  obtain⟨e1,e2⟩:=b2 k;omega
 have h3:p.topic.length<=60/\p.payload.length<=200/\0<=p.qos/\p.qos<=1/\(p.kind=3->p.qos=0->p.id=0):=by
  by_cases k:p.kind=3
  ·rw[Z2b,ϛ O,ϛ O,ϝ k,pubE]at h;split at h
   ·have:=Zx0 ‹_›;split at h
    ·simp at h
    split at h
    ·split at h
     ·simp at h
     rename_i hn;refine⟨this,O,O,O,λ_ hq=>?_⟩;exact Classical.byContradiction λhi=>hn ⟨hq,.inr hi⟩
    simp at h
   exact ϟ h ‹_›
  obtain⟨e1,e2,e3,e4,e5⟩:=b3 k;rw[e3,e4,e5];simp[k]
 have h4:p.asks.length<=5/\∀a∈p.asks,a.1.length<=60/\0<=a.2/\a.2<256/\(p.kind≠8->a.2=0):=by
  by_cases k:p.kind=8\/p.kind=10
  ·rw[Z2b,ϛ O,ϛ O,ϛ O,ϝ k,Zjt]at h;split at h
   ·have hc:=Zx1 ‹_›;refine⟨hc.2,λa ha=>?_⟩;obtain⟨a1,a2,a3,a4⟩:=Zmr h a ha;exact⟨Zx0 a1,a2,O,a4⟩
   exact ϟ h ‹_›
  have e:=b5 O;rw[e];simp
 have h5:p.codes.length<=5/\∀c∈p.codes,0<=c/\c<256:=by
  by_cases k:p.kind=9
  ·rw[Z2b,ϛ O,ϛ O,ϛ O,ϛ O,ϝ k,Zc9]at h;split at h
   ·have hc:=Zx1 ‹_›;refine⟨hc.2,λc hcm=>?_⟩;split at h
    ·simp at h
    rename_i hn;have:Z9w c=Ϛ:=by
     cases hcb:Z9w c
     ·rfl
     exact ϟ (List.any_eq_true.2 ⟨c,hcm,hcb⟩) hn
    simp only[Z9w,decide_eq_false_iff_not]at this;omega
   exact ϟ h ‹_›
  have e:=b6 k;rw[e];simp
 have hid2:(0<=p.id/\p.id<65536)/\(idB p=Ϛ->p.id=0):=by
  by_cases hi:idB p=ϕ
  ·have:=Classical.byContradiction λhn=>hid ⟨hi,hn⟩;exact⟨O,λhf=>by rw[hi]at hf;simp at hf⟩
  have h0:p.id=0:=by
   by_cases k:p.kind=3
   ·refine h3.2.2.2.2 k ?_;have:¬p.qos=1:=λhq=>hi (by simp[idB,k,hq]);omega
   refine b4 λhk2=>hi ?_;simp only[idB,ϡ];omega
  rw[h0];simp
 refine⟨⟨hk,hbare,h3.2.2.1 |> λa=>⟨a,h3.2.2.2.1⟩,h1.2,h2,hid2.1,hid2.2,O,O,λa ha=>(by obtain⟨a1,a2⟩:=h4.2 a ha;exact⟨O,a2⟩),h5.2⟩,?_⟩;have e1:(Z56 p).length<=64:=by
  unfold Z56;split
  ·simp only[qy11,Z12,Zc,ϒ,Ϯ];omega
  split
  ·simp only[qy11,Zc];omega
  split
  ·rw[Z12];omega
  simp
 have e2:(if idB p=ϕ then numB 2 p.id else[]).length<=2:=by
  split
  ·rw[Zc];omega
  simp
 have e3:=Zuf (Z21 p.kind) 63 p.asks λa ha=>by
  have:=(h4.2 a ha).1;unfold Z21;rw[qy11,Z12];split
  ·rw[Zc];omega
  simp;omega
 have e4:=Zuf (numB 1) 1 p.codes λc _=>by rw[Zc];omega
 have e5:p.asks.length*63<=5*63:=ϑ _ h4.1;unfold Z20;simp only[qy11];omega
def encA(a:Rd):List Ϣ:=[.string ⟨a.1.toArray⟩,.int .i64 a.2]
def Zg(n:Int):List Ϣ:=[.int .i64 n]
abbrev Z4h(w:ϖ)(v:Ϣ)(l:List Rd):Prop:=reads w v [.str,.int .i64] (l.map encA)
abbrev Z3p(w:ϖ)(v:Ϣ)(l:List Int):Prop:=reads w v [.int .i64] (l.map Zg)
def Zbn(w:ϖ):Z4h w (.slice μ 0 0) []:=⟨O1,μ,0,rfl,⟨λ_=>rfl,ϥ _⟩,ϟ rfl⟩
def Zfz(w:ϖ):Z3p w (.slice μ 0 0) []:=⟨O1,μ,0,rfl,⟨λ_=>rfl,ϥ _⟩,ϟ rfl⟩
def gA0(l:List Rd)(i:Nat):Value.gS (((l.map encA).getD i []).getD 0 undef)=(l.getD i yD).1:=by simp only[qy1,Ϙ];cases l[i]?<;>simp[encA,Value.gS,undef]
def gA1(l:List Rd)(i:Nat):Value.gI (((l.map encA).getD i []).getD 1 undef)=(l.getD i yD).2:=by simp only[qy1,Ϙ];cases l[i]?<;>simp[encA,Value.gI,undef]
def gI0(l:List Int)(i:Nat):Value.gI (((l.map Zg).getD i []).getD 0 undef)=l.getD i 0:=by simp only[qy1,Ϙ];cases l[i]?<;>simp[Zg,Value.gI,undef]
def Z1ed(l:List Rd)(i:Nat)(h:i<l.length):l.drop i=l.getD i yD::l.drop (i+1):=by rw[Ϥ h,qy1,qy7 h];rfl
def Z1ee(l:List Int)(i:Nat)(h:i<l.length):l.drop i=l.getD i 0::l.drop (i+1):=by rw[Ϥ h,qy1,qy7 h];rfl
def pV(p:Pkt)(u v:Ϣ):Ϣ:=.agg #[.int .i64 p.kind,.bool p.dup,.bool p.retain,.bool p.clean,.bool p.session,.int .i64 p.qos,.int .i64 p.id,.int .i64 p.keep,.int .i64 p.code,.string ⟨p.client.toArray⟩,.string ⟨p.topic.toArray⟩,.string ⟨p.payload.toArray⟩,sc1 u,sc1 v]
structure SmallP(p:Pkt):Prop where
 client:p.client.length<1000000000
 topic:p.topic.length<1000000000
 payload:p.payload.length<1000000000
 asks:p.asks.length<1000000000
 codes:p.codes.length<1000000000
 filt:∀a∈p.asks,a.1.length<1000000000
def SmallP.at_{p:Pkt}(h:SmallP p)(i:Nat):(p.asks.getD i yD).1.length<1000000000:=by
 by_cases hi:i<p.asks.length
 ·rw[qy1,qy7 hi];exact h.filt _ (List.getElem_mem hi)
 rw[qy1,ϗ O];decide
def SmallP.bare{p:Pkt}(h:SmallP p):SmallP (Z1l p):=by
 obtain⟨a,b,c,d,e,f⟩:=h;unfold Z1l
 (repeat' split)<;>exact⟨by simp_all,by simp_all,by simp_all,by simp_all,by simp_all,by first|exact f|(intro a ha;simp at ha)⟩
def Zug(w:ϖ)(n:Int):ϙ ϐ 141 #[.int .i64 n] w λe w'=>e=.returned (.bool (Z3i n))/\Mod [] w w':=by refine Wp (J:=[.i n]) Zhf ?_;simp only[QR];exact⟨λh w' hr=>⟨by simp[Z3i,h],hr.mod⟩,λh w' hr=>⟨by simp[Z3i,h],hr.mod⟩⟩
def Z13s(w:ϖ)(n:Nat):ϙ ϐ 225 #[.int .i64 n] w λe w'=>e=.returned (.int .i64 (Zo n))/\Mod [] w w':=by refine Wp (J:=[.i n]) Zfn ?_;simp only[QR];exact⟨λh w' hr=>⟨by rw[Zo,ϝ O],hr.mod⟩,λh=>⟨λh1 w' hr=>⟨by rw[Zo,ϛ O,ϝ O],hr.mod⟩,λh1 w' hr=>⟨by rw[Zo,ϛ O,ϛ O],hr.mod⟩⟩⟩
def Z1c1(w:ϖ)(a:Rd)(h:a.1.length<1000000000):ϙ ϐ 158 #[.agg #[.string ⟨a.1.toArray⟩,.int .i64 a.2]] w λe w'=>e=.returned (.int .i64 (askE a))/\Mod [] w w':=by refine Wp (J:=[.s a.1,.i a.2]) Zj7 ?_;simp only[QR];intro b;refine⟨[.i (chkT a.1 ϕ)],rfl,λ_ w' _=>Zwj w' _ O,?_⟩;simp only[QR];exact⟨λh w' hr=>⟨by rw[askE,ϛ h],hr.mod⟩,λh=>⟨λh1 w' hr=>⟨by rw[askE,ϝ (qy9.1 h),ϛ h1],hr.mod⟩,λh1 w' hr=>⟨by rw[askE,ϝ (qy9.1 h),ϝ (qy9.1 h1)],hr.mod⟩⟩⟩
section
variable (w:ϖ) (p:Pkt) (u v:Ϣ) (hu:Z4h w u p.asks) (hv:Z3p w v p.codes) (hs:SmallP p)
include hu hv
def Z19b:ϙ ϐ 145 #[pV p u v] w λe w'=>e=.returned (.bool (idB p))/\Mod [] w w':=by
 refine Wr (J:=[.i p.kind,.b p.dup,.b p.retain,.b p.clean,.b p.session,.i p.qos,.i p.id,.i p.keep,.i p.code,.s p.client,.s p.topic,.s p.payload,.v u,.r (p.asks.map encA),.v v,.r (p.codes.map Zg)]) Zli ?_;simp only[QR,ra];intro b;refine⟨λh w' hr=>⟨?_,hr.mod⟩,λh=>⟨λh1 w' hr=>⟨?_,hr.mod⟩,λh1=>⟨λh2 w' hr=>⟨?_,hr.mod⟩,λh2=>⟨λh3 w' hr=>⟨?_,hr.mod⟩,λh3=>⟨λh4 w' hr=>⟨?_,hr.mod⟩,λh4=>⟨λh5 w' hr=>⟨?_,hr.mod⟩,λh5 w' hr=>⟨?_,hr.mod⟩⟩⟩⟩⟩⟩⟩ <;>
  (simp only[idB,Ending.returned.injEq,Value.bool.injEq];first|exact decide_eq_decide.2 O|(symm;simp only[ϡ,decide_eq_false_iff_not];omega))
def Zzu:ϙ ϐ 188 #[pV p u v] w λe w'=>e=.returned (.int .i64 (Z4v p))/\Mod [] w w':=by refine Wr (J:=[.i p.kind,.b p.dup,.b p.retain,.b p.clean,.b p.session,.i p.qos,.i p.id,.i p.keep,.i p.code,.s p.client,.s p.topic,.s p.payload,.v u,.r (p.asks.map encA),.v v,.r (p.codes.map Zg)]) Zck ?_;simp only[QR,ra];intro b;exact⟨λh w' hr=>⟨by rw[Z4v,ϛ h],hr.mod⟩,λh=>⟨λh2 w' hr=>⟨by rw[Z4v,ϝ (qy9.1 h),ϝ h2],hr.mod⟩,λh2 w' hr=>⟨by rw[Z4v,ϝ (qy9.1 h),ϛ h2],hr.mod⟩⟩⟩
include hs
def Z19c:ϙ ϐ 142 #[pV p u v] w λe w'=>e=.returned (.bool (Z7l p))/\Mod [] w w':=by
 refine Wu (J:=[.i p.kind,.b p.dup,.b p.retain,.b p.clean,.b p.session,.i p.qos,.i p.id,.i p.keep,.i p.code,.s p.client,.s p.topic,.s p.payload,.v u,.r (p.asks.map encA),.v v,.r (p.codes.map Zg)]) Zfj (Rel.start2 (by simp[Ent.holds,Ent.wr,hu,hv,X.ev])) ?_;have h1:=hs.client;have h2:=hs.topic;have h3:=hs.payload;have h4:=hs.asks;have h5:=hs.codes;simp only[QR,ra,qy11];intro b;refine⟨.inr O,.inr O,.inr O,λw' hr=>⟨?_,hr.mod⟩⟩;obtain⟨k,d,r,c,se,q,i,ke,co,cl,t,pl,az,cs⟩:=p;simp only[Z7l,Ending.returned.injEq,Value.bool.injEq,Pkt.mk.injEq];have e1:((az.length)+(cs.length:Int)=0)↔az=[]/\cs=[]:=by rw[<- ϫ,<- ϫ];omega
 rw[Bool.eq_iff_iff];simp only[Bool.and_eq_true,ϻ,ϡ,e1,List.append_eq_nil_iff];constructor<;>(intro h;simp_all)
def Zzv:ϙ ϐ 187 #[pV p u v] w λe w'=>e=.returned (.int .i64 (Zjs p))/\Mod [] w w':=by refine Wu (J:=[.i p.kind,.b p.dup,.b p.retain,.b p.clean,.b p.session,.i p.qos,.i p.id,.i p.keep,.i p.code,.s p.client,.s p.topic,.s p.payload,.v u,.r (p.asks.map encA),.v v,.r (p.codes.map Zg)]) Zcr (Rel.start2 (by simp[Ent.holds,Ent.wr,hu,hv,X.ev])) ?_;have h1:=hs.client;simp only[QR,ra];intro b;refine⟨λh w' hr=>⟨by rw[Zjs,ϝ h],hr.mod⟩,λh=>?_⟩;refine⟨[.b (Z9 p.client)],rfl,λ_ w' _=>Z9o w' _ O,?_⟩;simp only[QR,ra];exact⟨λh2 w' hr=>⟨by rw[Zjs,ϛ h,ϛ h2],hr.mod⟩,λh2=>⟨λh3 w' hr=>⟨by rw[Zjs,ϛ h,ϝ (qy9.1 h2),ϛ h3],hr.mod⟩,λh3 w' hr=>⟨by rw[Zjs,ϛ h,ϝ (qy9.1 h2),ϝ (qy9.1 h3)],hr.mod⟩⟩⟩
def Zms:ϙ ϐ 144 #[pV p u v] w λe w'=>e=.returned (.int .i64 (pubE p))/\Mod [] w w':=by refine Wu (J:=[.i p.kind,.b p.dup,.b p.retain,.b p.clean,.b p.session,.i p.qos,.i p.id,.i p.keep,.i p.code,.s p.client,.s p.topic,.s p.payload,.v u,.r (p.asks.map encA),.v v,.r (p.codes.map Zg)]) Zcq (Rel.start2 (by simp[Ent.holds,Ent.wr,hu,hv,X.ev])) ?_;have h1:=hs.topic;simp only[QR,ra];intro b;refine⟨[.i (chkT p.topic Ϛ)],rfl,λ_ w' _=>Zr6 w' _ O,?_⟩;simp only[QR,ra];refine⟨λh w' hr=>⟨by rw[pubE,ϛ h],hr.mod⟩,λh=>?_⟩;have h:=qy9.1 h;exact⟨λh2 w' hr=>⟨by rw[pubE,ϝ h,ϝ h2],hr.mod⟩,λh2=>⟨λh3 w' hr=>⟨by rw[pubE,ϝ h,ϛ h2,ϛ h3],hr.mod⟩,λh3=>⟨λh4 w' hr=>⟨by rw[pubE,ϝ h,ϛ h2,ϝ (qy9.1 h3),ϝ h4],hr.mod⟩,λh4 w' hr=>⟨by rw[pubE,ϝ h,ϛ h2,ϝ (qy9.1 h3),ϛ h4],hr.mod⟩⟩⟩⟩
def Z13t:ϙ ϐ 189 #[pV p u v] w λe w'=>e=.returned (.int .i64 (Zjt p))/\Mod [] w w':=by
 refine Wu (J:=[.i p.kind,.b p.dup,.b p.retain,.b p.clean,.b p.session,.i p.qos,.i p.id,.i p.keep,.i p.code,.s p.client,.s p.topic,.s p.payload,.v u,.r (p.asks.map encA),.v v,.r (p.codes.map Zg)]) Zh8 (Rel.start2 (by simp[Ent.holds,Ent.wr,hu,hv,X.ev])) ?_;have h1:=hs.asks;have hf:=hs.at_;simp only[QR,ra];intro b;refine⟨[.i (Zo p.asks.length)],rfl,λ_ w' _=>Z13s w' _,?_⟩;simp only[QR,ra];refine⟨λh w' hr=>⟨by rw[Zjt,ϛ h],hr.mod⟩,λh=>?_⟩;have h:=qy9.1 h;rw[Zjt,ϝ h];refine⟨λvs=>∃(i:Nat) (x:V),vs=[x,.i i]/\i<=p.asks.length/\Z3v p.kind (p.asks.drop i)=Z3v p.kind p.asks,λvs=>p.asks.length - (vs.getD 1 (.i 0)).toI.toNat,⟨0,_,rfl,O,rfl⟩,?_⟩;rintro _ - ⟨i,x,rfl,hi,hg⟩;simp only[QR,ra,gA0,gA1];refine⟨λh2=>⟨O,λb=>⟨λhk=>(by rw[Z1ed _ _ O,Z3v,ϝ hk]at hg;refine⟨[.i (askE (p.asks.getD i yD))],rfl,λ_ w' _=>Z1c1 w' _ (hf i),?_⟩;simp only[QR,ra];refine⟨λh3 w' hr=>⟨by rw[<- hg,ϛ h3],hr.mod⟩,λh3=>⟨O,O,⟨i+1,x,rfl,O,?_⟩,O⟩⟩;rw[<- hg,ϝ (qy9.1 h3)]),λhk=>?_⟩⟩,λh2 w' hr=>⟨?_,hr.mod⟩⟩
 ·rw[Z1ed _ _ O,Z3v,ϛ hk]at hg;have:=hf i;refine⟨[.i (chkT (p.asks.getD i yD).1 ϕ)],rfl,λ_ w' _=>Zwj w' _ O,?_⟩;simp only[QR,ra,gA1];refine⟨λh3 w' hr=>⟨?_,hr.mod⟩,λh3=>⟨λh4 w' hr=>⟨?_,hr.mod⟩,λh4=>⟨O,O,⟨i+1,x,rfl,O,?_⟩,O⟩⟩⟩
  ·have e:Z4n (p.asks.getD i yD)=chkT (p.asks.getD i yD).1 ϕ:=by rw[Z4n,ϛ h3]
   rw[<- hg,e,ϛ h3]
  ·have e:Z4n (p.asks.getD i yD)=1:=by rw[Z4n,ϝ (qy9.1 h3),ϛ h4]
   rw[<- hg,e];rfl
  ·have e:Z4n (p.asks.getD i yD)=0:=by rw[Z4n,ϝ (qy9.1 h3),ϝ (qy9.1 h4)]
   rw[<- hg,e];rfl
 ·have:i=p.asks.length:=O;subst this;rw[Ϭ]at hg;rw[<- hg];rfl
def Z19d:ϙ ϐ 190 #[pV p u v] w λe w'=>e=.returned (.int .i64 (Zc9 p))/\Mod [] w w':=by
 refine Wu (J:=[.i p.kind,.b p.dup,.b p.retain,.b p.clean,.b p.session,.i p.qos,.i p.id,.i p.keep,.i p.code,.s p.client,.s p.topic,.s p.payload,.v u,.r (p.asks.map encA),.v v,.r (p.codes.map Zg)]) Zfe (Rel.start2 (by simp[Ent.holds,Ent.wr,hu,hv,X.ev])) ?_;have h1:=hs.codes;simp only[QR,ra];intro b;refine⟨[.i (Zo p.codes.length)],rfl,λ_ w' _=>Z13s w' _,?_⟩;simp only[QR,ra];refine⟨λh w' hr=>⟨by rw[Zc9,ϛ h],hr.mod⟩,λh=>?_⟩;have h:=qy9.1 h;rw[Zc9,ϝ h];refine⟨λvs=>∃(i:Nat) (x:V),vs=[x,.i i]/\i<=p.codes.length/\(p.codes.drop i).any Z9w=p.codes.any Z9w,λvs=>p.codes.length - (vs.getD 1 (.i 0)).toI.toNat,⟨0,_,rfl,O,rfl⟩,?_⟩;rintro _ - ⟨i,x,rfl,hi,hg⟩;simp only[QR,ra,gI0];refine⟨λh2=>?_,λh2=>?_⟩
 ·rw[Z1ee _ _ O,List.any_cons]at hg;refine⟨O,λh3 w' hr=>⟨?_,hr.mod⟩,λh3=>⟨O,O,⟨i+1,x,rfl,O,?_⟩,O⟩⟩
  ·have e:Z9w (p.codes.getD i 0)=ϕ:=by simp only[Z9w,ϡ];exact⟨h3.1.1,h3.1.2,h3.2⟩
   rw[<- hg,e];rfl
  ·have e:Z9w (p.codes.getD i 0)=Ϛ:=by
    simp only[Z9w,decide_eq_false_iff_not];exact λh4=>h3 ⟨⟨h4.1,h4.2.1⟩,h4.2.2⟩
   rw[<- hg,e];rfl
 ·have:i=p.codes.length:=O;subst this;rw[Ϭ]at hg;rw[<- hg];exact⟨λh3=>ϟ h3 O,λh3 w' hr=>⟨rfl,hr.mod⟩⟩
end
abbrev wV(x:Kp):Ϣ:=.agg #[.string ⟨x.1.toArray⟩,.string ⟨x.2.1.toArray⟩,.int .i64 x.2.2]
def c_Or(w:ϖ)(v:Ϣ)(x y:Int)(hv:reads w v [.int .i64] [[.int .i64 x],[.int .i64 y]]):ϙ ϐ 159 #[sc1 v] w λe w'=>e=.returned (.int .i64 (if x=0 then y else x))/\Mod [] w w':=by
 refine Wr (J:=[.v v,.r [[.int .i64 x],[.int .i64 y]]]) Zj0 ?_;simp only[QR,ra];refine⟨λvs=>∃(i:Nat) (u:V),vs=[u,.i i]/\i<=2/\(1<=i->x=0)/\(2<=i->y=0),λvs=>2 - (vs.getD 1 (.i 0)).toI.toNat,⟨0,_,rfl,O,λh=>O,λh=>O⟩,?_⟩;rintro _ - ⟨i,u,rfl,hi,h1,h2⟩;have h3:i=0\/i=1\/i=2:=O;rcases h3 with rfl|rfl|rfl
 ·simp only[QR,ra];exact⟨λ_=>⟨O,λh w' hr=>⟨by rw[ϛ (show ¬x=0 from h)];rfl,hr.mod⟩,λh=>⟨O,O,⟨1,_,rfl,O,λ_=>qy9.1 h,λh=>O⟩,O1⟩⟩,λh=>by simp at h⟩
 ·have hx:=h1 (ϥ _);simp only[QR,ra];exact⟨λ_=>⟨O,λh w' hr=>⟨by rw[ϝ hx];rfl,hr.mod⟩,λh=>⟨O,O,⟨2,_,rfl,O,λ_=>hx,λ_=>qy9.1 h⟩,O1⟩⟩,λh=>by simp at h⟩
 have hx:=h1 O;have hy:=h2 O;simp only[QR,ra];refine⟨λh=>by simp at h,λ_ w' hr=>⟨?_,hr.mod⟩⟩;rw[ϝ hx,hy]
def Zuh(w:ϖ)(a b:Kp):ϙ ϐ 105 #[wV a,wV b] w λe w'=>e=.returned (.int .i64 (cmpP (ky a) (ky b)))/\Mod [] w w':=by refine Wp (J:=[.s a.1,.s a.2.1,.i a.2.2,.s b.1,.s b.2.1,.i b.2.2]) Ziz ?_;simp only[QR];intro b1 b2;refine⟨[.i (Z2x a.1 b.1)],rfl,λ_ w' _=>Z29 w' _ _,?_⟩;simp only[QR];refine⟨[.i (Z2x a.2.1 b.2.1)],rfl,λ_ w' _=>Z29 w' _ _,?_⟩;simp only[QR,ra];intro v;refine⟨[.i (cmpP (ky a) (ky b))],rfl,λ_ w' hr=>c_Or w' v _ _ (hr.at_ 0 rfl).reads,?_⟩;simp only[QR,ra];exact λw' hr=>⟨O6,hr.mod⟩
def Z4b(x:Kp):Int:=if Z9 x.1=ϕ then askE (x.2.1,x.2.2)else 1
def Z1ef(w:ϖ)(x:Kp)(hs:smW x):ϙ ϐ 104 #[wV x] w λe w'=>e=.returned (.int .i64 (Z4b x))/\Mod [] w w':=by have h1:=hs.1;have h2:=hs.2;refine Wp (J:=[.s x.1,.s x.2.1,.i x.2.2]) Zoa ?_;simp only[QR];intro b1;refine⟨[.b (Z9 x.1)],rfl,λ_ w' _=>Z9o w' _ O,?_⟩;simp only[QR];refine⟨λh w' hr=>⟨by rw[Z4b,ϛ h],hr.mod⟩,λh=>?_⟩;have h:=qy9.1 h;refine⟨[.i (askE (x.2.1,x.2.2))],rfl,λ_ w' _=>Z1c1 w' (x.2.1,x.2.2) h2,?_⟩;simp only[QR];exact λw' hr=>⟨by rw[Z4b,ϝ h],hr.mod⟩
def Zhk:Option Ky->List Kp->Int
 | _,[]=>0
 | p,k::l=>if Z4b k≠0 then Z4b k else if(p.any λt=>!(ltP t (ky k)))=ϕ then 4 else Zhk (ε (ky k)) l
def Zl(l:List Kp):Int:=if 20<(l.length:Int)then 2 else Zhk μ l
def Zzw(l:List Kp)(i:Nat):Option Ky:=if i=0 then μ else ε (ky (l.getD (i - 1) kD))
def Z13u(l:List Kp)(i:Nat):((Zzw l i).any λt=>!(ltP t (ky (l.getD i kD))))=ϕ↔(0<(i:Int)/\0<=cmpP (ky (l.getD (i - 1) kD)) (ky (l.getD i kD))):=by
 unfold Zzw;rw[Z13c];by_cases h:i=0
 ·simp[h]
 rw[ϛ h];simp only[Option.any_some,ϻ];exact⟨λh2=>⟨O,h2⟩,λh2=>h2.2⟩
def Zmt{l:List Kp}(h:i<l.length):Zhk (Zzw l i) (l.drop i)=if Z4b (l.getD i kD)≠0 then Z4b (l.getD i kD)
  else if 0<(i:Int)/\0<=cmpP (ky (l.getD (i - 1) kD)) (ky (l.getD i kD))then 4 else Zhk (Zzw l (i+1)) (l.drop (i+1)):=by
 rw[Zrh l i h,Zhk];simp only[Z13u];rfl
def Zzx(w:ϖ)(v:Ϣ)(l:List Kp)(hv:Z1r w v l)(hs:Z2d l)(hl:l.length<1000000000):ϙ ϐ 42 #[sc1 v] w λe w'=>e=.returned (.int .i64 (Zl l))/\Mod [] w w':=by
 refine Wr (J:=[.v v,.r (l.map encK)]) Zj6 ?_;simp only[QR,ra,gK0,gK1,gK2];refine⟨λh w' hr=>⟨by rw[Zl,ϝ h],hr.mod⟩,λh=>?_⟩;rw[Zl,ϛ h];refine⟨λvs=>∃(i:Nat) (x:V),vs=[x,.i i]/\i<=l.length/\Zhk (Zzw l i) (l.drop i)=Zhk μ l,λvs=>l.length - (vs.getD 1 (.i 0)).toI.toNat,⟨0,_,rfl,O,rfl⟩,?_⟩;rintro _ - ⟨i,x,rfl,hi,hg⟩;simp only[QR,ra,gK0,gK1,gK2];have hi1:((i:Int) - 1).toNat=i - 1:=O;try rw[hi1]
 refine⟨λh1=>⟨O,λb=>?_⟩,λh1 w' hr=>⟨?_,hr.mod⟩⟩
 ·rw[Zmt O]at hg;refine⟨[.i (Z4b (l.getD i kD))],rfl,λ_ w' _=>Z1ef w' _ (Z9t hs i),?_⟩;simp only[QR,ra,gK0,gK1,gK2];try rw[hi1]
  refine⟨λh2 w' hr=>⟨by rw[ϝ h2]at hg;rw[<- hg],hr.mod⟩,λh2=>⟨O,O,O,O,?_⟩⟩;rw[ϛ h2]at hg;refine⟨[.i (cmpP (ky (l.getD (i - 1) kD)) (ky (l.getD i kD)))],rfl,λ_ w' _=>Zuh w' (l.getD (i - 1) kD) (l.getD i kD),?_⟩;simp only[QR,ra];exact⟨λh6 w' hr=>⟨by rw[ϝ h6]at hg;rw[<- hg],hr.mod⟩,λh6=>⟨O,O,⟨i+1,x,rfl,O,by rw[ϛ h6]at hg;exact hg⟩,O⟩⟩
 have:i=l.length:=O;subst this;rw[Ϭ]at hg;rw[<- hg];rfl
def Zee:∀(l:List Kp) (p:Option Ky),Zhk p l=0↔(∀k∈l,Z4b k=0)/\Z9u l/\∀t,p=ε t->∀k∈l,ltP t (ky k)=ϕ
 | [],p=>by simp[Zhk,Z9u]
 | k::l,p=>by
  rw[Zhk];constructor
  ·intro h;split at h
   ·exact ϟ h O5
   rename_i h1;split at h
   ·exact ϟ h U
   rename_i h5;obtain⟨i1,i2,i3⟩:=(Zee l (ε (ky k))).1 h;refine⟨λx hx=>?_,Ϸ.2 ⟨i3 _ rfl,i2⟩,λt ht x hx=>?_⟩
   ·rcases ϳ.1 hx with rfl|hx
    ·exact qy9.1 h1
    exact i1 x hx
   subst ht;have h6:ltP t (ky k)=ϕ:=by simpa using h5
   rcases ϳ.1 hx with rfl|hx
   ·exact h6
   exact Z6l h6 (i3 _ rfl x hx)
  rintro⟨i1,i2,i3⟩;obtain⟨j1,j2⟩:=Ϸ.1 i2;rw[ϛ (by simpa using i1 k (qy8 ..)),ϛ]
  ·exact(Zee l (ε (ky k))).2 ⟨λx hx=>i1 x (qy10 _ hx),j2,λt ht x hx=>by cases ht;exact j1 x hx⟩
  cases p with
  | none=>simp
  | some t=>simpa using i3 t rfl k (qy8 ..)
def Z1v{l:List Kp}:Zl l=0↔l.length<=20/\(∀k∈l,Z4b k=0)/\Z9u l:=by
 unfold Zl;constructor
 ·intro h;split at h
  ·exact ϟ h U
  obtain⟨a,b,-⟩:=(Zee l μ).1 h;exact⟨O,a,b⟩
 rintro⟨a,b,c⟩;rw[ϛ O];exact(Zee l μ).2 ⟨b,c,λt ht=>by cases ht⟩
def Z63(w:ϖ)(v:Ϣ)(l:List Kp)(hv:Z1r w v l)(hl:l.length<1000000000):ϙ ϐ 59 #[sc1 v] w λe w'=>∃v',e=.returned (sc1 v')/\Zcv w' v' l/\(∀k,Z1 v' k->w.heap.size<=k)/\Mod [] w w':=by refine Wr (J:=[.v v,.r (l.map encK)]) Z45 ?_;simp only[QR,ra,Ϟ];exact⟨λh w' hr=>(by have hn:=List.map_eq_nil_iff.1 (Z61 h hv);subst hn;exact⟨_,rfl,hr.at_ 0 rfl,hr.fresh 0 rfl,hr.mod⟩),λh v1=>⟨O,λv2 w' hr=>⟨v2,rfl,hr.at_ 0 rfl,hr.fresh 0 rfl,hr.mod⟩⟩⟩
def Z1c2(w:ϖ)(s v:Ϣ)(l:List Kp)(x:Kp)(i:Nat)(hs:Zcv w s l)(hv:Zcv w v [x])(hne:∀k,Z1 s k->Z1 v k->False)(hi:i<=l.length)(hl:l.length<1000000): ϙ ϐ 296 #[sc1 s,.int .i64 i,sc1 v] w λe w'=>∃v',e=.returned (sc1 v')/\Zcv w' v' (l.take i++[x]++l.drop i)/\(∀k,Z1 v' k->Z1 s k\/w.heap.size<=k)/\Mod s.ownBlock.toList w w':=by rw[hs.reads.sc1,hv.reads.sc1];refine(Z13l w s v i _ _ hs hv hne (by simpa using hi) O3).mono ?_;rintro e w' ⟨v',rfl,g1,g2,g3⟩;refine⟨v',by rw[g1.reads.sc1],?_,g2,Mod.of_grown g3 λk hk=>.inl (Ϧ.2 hk)⟩;rw[Zcv,ϭ,ϭ,List.map_take,List.map_drop];exact g1
def rawW(l:List Kp)(x:Kp):List Kp×Int :=
 if hasW l (ky x)=ϕ then(l.set (idxW l (ky x)) x,0)
 else if(l.length:Int)=20 then([],2)else(l.take (idxW l (ky x))++[x]++l.drop (idxW l (ky x)),0)
def Z1hn(w:ϖ)(v:Ϣ)(l:List Kp)(x:Kp)(hv:Z1r w v l)(hs:Z9u l)(hl:l.length<=20):ϙ ϐ 256 #[sc1 v,wV x] w λe w'=>gotK w w' e (rawW l x).1 (rawW l x).2:=by
  refine Wr (J:=[.v v,.r (l.map encK),.s x.1,.s x.2.1,.i x.2.2]) Zoc ?_;simp only[QR,ra,gK0,gK1,gK2];intro b1 w1 hr;refine(Z63 w1 v l (by(first|exact hr.at_ 0 rfl|exact hr.at_ 1 rfl|exact hr.at_ 2 rfl|exact hr.at_ 3 rfl|exact hr.at_ 4 rfl|exact hr.at_ 5 rfl|exact hr.at_ 6 rfl|exact hr.at_ 7 rfl|exact hr.at_ 8 rfl)) O).mono ?_;rintro e w2 ⟨u,rfl,a1,f1,m1⟩;refine⟨[.v u,.r (l.map encK)],rfl,rfl,m1,qy5 _,qy2.2 ⟨⟨a1,λk hk=>.inl (f1 k hk)⟩,qy5 _⟩,Z2,?_⟩;clear hr a1 f1 m1;simp only[QR,ra,gK0,gK1,gK2];intro b3;refine⟨λvs=>∃(i j:Nat),vs=[.i i,.i j]/\i<=j/\j<=l.length/\(∀k,k<i->ltP (ky (l.getD k kD)) (ky x)=ϕ)/\(∀k,j<=k->k<l.length->ltP (ky (l.getD k kD)) (ky x)=Ϛ),λvs=>(vs.getD 1 (.i 0)).toI.toNat - (vs.getD 0 (.i 0)).toI.toNat,⟨0,l.length,rfl,O,O,λk hk=>O,λk h1 h2=>O⟩,?_⟩;rintro _ - ⟨i,j,rfl,hij,hj,hA,hB⟩;simp only[QR,ra,gK0,gK1,gK2];refine⟨λh1=>?_,λh1=>?_⟩
  . rw[Z1jw i j O];obtain⟨h,hh⟩:∃h,h=(i+j) / 2:=⟨_,rfl⟩
    rw[<- hh];have hh1:i<=h/\h<j:=O;simp only[qy4,gK0,gK1,gK2];refine⟨O,O,O,O,O,O,?_⟩;refine⟨[.i (cmpP (ky (l.getD h kD)) (ky x))],rfl,λ_ w' _=>Zuh w' (l.getD h kD) x,?_⟩;simp only[QR,ra,gK0,gK1,gK2];rw[Z13a];refine⟨λh2=>⟨O,O,⟨h+1,j,rfl,O,hj,λk hk=>?_,hB⟩,O⟩,λh2=>⟨⟨i,h,rfl,O,O,hA,λk hk1 hk2=>?_⟩,O⟩⟩
    . by_cases hkh:k=h
      . rw[hkh];exact h2
      exact Z6l (Zou hs O O) h2
    have h3:ltP (ky (l.getD h kD)) (ky x)=Ϛ:=by simpa using h2
    by_cases hkh:k=h
    . rw[hkh];exact h3
    cases h4:ltP (ky (l.getD k kD)) (ky x)with
    | false=>rfl
    | true =>
      have:=Z6l (Zou hs (i:=h) O hk2) h4;rw[h3]at this;cases this
  have hie:i=j:=O;subst hie;have e:=Z13d hj hA hB;refine⟨O,O,λh2=>?_,λh2=>?_⟩
  . refine⟨[.i (cmpP (ky (l.getD i kD)) (ky x))],rfl,λ_ w' _=>Zuh w' (l.getD i kD) x,?_⟩;simp only[QR,ra,gK0,gK1,gK2];rw[Z13b];refine⟨λh3=>⟨O,λw3 hr=>?_⟩,λh3=>⟨λh4 w3 hr=>?_,λh4 u2 w3 hr=>?_⟩⟩
    . have hh:hasW l (ky x)=ϕ:=by rw[hasW,<- e];exact decide_eq_true ⟨O,h3⟩
      rw[rawW,ϝ hh,<- e];refine⟨u,rfl,?_,hr.fresh 1 rfl,hr.mod⟩;have h0:=(hr.at_ 1 rfl).reads;rw[Z1r,<- Z1u];exact h0
    . have hh:¬hasW l (ky x)=ϕ:=by rw[hasW,<- e,ϡ];exact λh=>h3 h.2
      rw[rawW,ϛ hh,ϝ h4];exact⟨_,rfl,Z2z _,Z2r _,hr.mod⟩
    have hh:¬hasW l (ky x)=ϕ:=by rw[hasW,<- e,ϡ];exact λh=>h3 h.2
    rw[rawW,ϛ hh,ϛ h4,<- e];refine(Z1c2 w3 u u2 l x i (by(first|exact hr.at_ 0 rfl|exact hr.at_ 1 rfl|exact hr.at_ 2 rfl|exact hr.at_ 3 rfl|exact hr.at_ 4 rfl|exact hr.at_ 5 rfl|exact hr.at_ 6 rfl|exact hr.at_ 7 rfl|exact hr.at_ 8 rfl)) (by(first|exact hr.at_ 0 rfl|exact hr.at_ 1 rfl|exact hr.at_ 2 rfl|exact hr.at_ 3 rfl|exact hr.at_ 4 rfl|exact hr.at_ 5 rfl|exact hr.at_ 6 rfl|exact hr.at_ 7 rfl|exact hr.at_ 8 rfl)) (λk h5 h6=>hr.sep.disj (i:=2) (j:=0) rfl rfl O (.inl rfl) (k:=k) h5 h6) O O).mono ?_;rintro e w4 ⟨v',rfl,g1,g2,g3⟩;refine⟨[.v v',.r ((l.take i++[x]++l.drop i).map encK)],rfl,rfl,g3.mono λk hk=>.inl (by unfold Zn;exact ϯ _ (Z14 (i:=7) O1 (Ϧ.1 hk))),qy5 _,qy2.2 ⟨⟨g1,λk hk=>?_⟩,qy5 _⟩,Z2,?_⟩;(· rcases g2 k hk with h5|h5;(· exact .inr (.inr (Z14 (i:=7) O1 h5)));(· exact .inl h5));(· intro w5 hr5;exact⟨v',rfl,(hr5.at_ 0 rfl).reads,hr5.fresh 0 rfl,hr5.mod⟩)
  have hh:¬hasW l (ky x)=ϕ:=by rw[hasW,<- e,ϡ];exact λh=>h2 O
  refine⟨λh4 w3 hr=>(by rw[rawW,ϛ hh,ϝ h4];exact⟨_,rfl,Z2z _,Z2r _,hr.mod⟩),λh4 u2 w3 hr=>by rw[rawW,ϛ hh,ϛ h4,<- e];refine(Z1c2 w3 u u2 l x i (by(first|exact hr.at_ 0 rfl|exact hr.at_ 1 rfl|exact hr.at_ 2 rfl|exact hr.at_ 3 rfl|exact hr.at_ 4 rfl|exact hr.at_ 5 rfl|exact hr.at_ 6 rfl|exact hr.at_ 7 rfl|exact hr.at_ 8 rfl)) (by(first|exact hr.at_ 0 rfl|exact hr.at_ 1 rfl|exact hr.at_ 2 rfl|exact hr.at_ 3 rfl|exact hr.at_ 4 rfl|exact hr.at_ 5 rfl|exact hr.at_ 6 rfl|exact hr.at_ 7 rfl|exact hr.at_ 8 rfl)) (λk h5 h6=>hr.sep.disj (i:=2) (j:=0) rfl rfl O (.inl rfl) (k:=k) h5 h6) O O).mono ?_;rintro e w4 ⟨v',rfl,g1,g2,g3⟩;refine⟨[.v v',.r ((l.take i++[x]++l.drop i).map encK)],rfl,rfl,g3.mono λk hk=>.inl (by unfold Zn;exact ϯ _ (Z14 (i:=7) O1 (Ϧ.1 hk))),qy5 _,qy2.2 ⟨⟨g1,λk hk=>?_⟩,qy5 _⟩,Z2,?_⟩;(· rcases g2 k hk with h5|h5;(· exact .inr (.inr (Z14 (i:=7) O1 h5)));(· exact .inl h5));(· intro w5 hr5;exact⟨v',rfl,(hr5.at_ 0 rfl).reads,hr5.fresh 0 rfl,hr5.mod⟩)⟩
def Z3l(p:Kp->Bool)(l:List Kp)(i:Nat)(h:i<l.length):(l.take (i+1)).filter p=(l.take i).filter p++(if p (l.getD i kD)=ϕ then[l.getD i kD]else[]):=by rw[Zri l i h,List.filter_append];generalize l.getD i kD=o;by_cases h1:p o=ϕ<;>simp[h1]
def Zef{p:Kp->Bool}{l:List Kp}(h:∀j,j<i->p (l.getD j kD)=ϕ):(l.take i).filter p=l.take i:=by rw[List.filter_eq_self];intro x hx;obtain⟨j,hj,rfl⟩:=List.getElem_of_mem hx;simp only[ϩ]at hj;have:=h j O;rw[List.getElem_take];rwa [qy1,qy7 O]at this
variable{j:Nat}
def Zju{R l:List Kp}{p:Kp->Bool}(haj:a<j)(hj:j<l.length)(hR:R.length=l.length)(ht:R.take a=(l.take j).filter p)(hd:R.drop j=l.drop j)(hp:p (l.getD j kD)=ϕ): (R.set a (R.getD j kD)).take (a+1)=(l.take (j+1)).filter p:=by
 have hg:R.getD j kD=l.getD j kD:=by have:=congrArg (λl=>l[0]?) hd;simp only[Ϝ,ν]at this;rw[qy1,qy1,this]
 rw[Z3l p l j hj,ϝ hp,<- ht,hg,Zri _ _ O3];congr 1
 ·rw[List.take_set_of_le (ϥ _)]
 rw[qy1,List.getElem?_set_self O];rfl
def Z8s{R l:List Kp}(hd:R.drop j=l.drop j):R.drop (j+1)=l.drop (j+1):=by have:=congrArg (λl=>l.drop 1) hd;simpa[θ]using this
def Zrn{R l:List Kp}(hd:R.drop j=l.drop j):R.getD j kD=l.getD j kD:=by have:=congrArg (λl=>l[0]?) hd;simp only[Ϝ,ν]at this;rw[qy1,qy1,this]
def Zp1{l:List Kp}{x:Kp}(hs:Z9u l)(h0:(rawW l x).2=0):(rawW l x).1=loW l (ky x)++[x]++hiW l (ky x):=by
 have t1:=Z194 (n:=ky x) hs;have t2:=Zwr (n:=ky x) hs;unfold rawW at h0⊢;rcases Zws hs with⟨h1,k,h2,h3⟩|⟨h1,h2⟩
 ·rw[ϝ h1];have hlt:=(of_decide_eq_true h1).1;rw[List.set_eq_take_append_cons_drop,ϝ hlt,t1];have:l.drop (idxW l (ky x)+1)=hiW l (ky x):=by
   rw[<- List.drop_drop,t2,h2];rfl
  rw[this];simp
 rw[ϛ (by rw[h1];decide)]at h0⊢;by_cases h4:(l.length:Int)=20
 ·rw[ϝ h4]at h0;exact ϟ h0 U
 rw[ϛ h4];rw[t1,t2,h2,Ϟ]
def Z1eg{l:List Kp}{x:Kp}(h:Zl l=0)(hx:Z4b x=0)(h0:(rawW l x).2=0):Zl (rawW l x).1=0:=by
 obtain⟨a,b,c⟩:=Z1v.1 h;refine Z1v.2 ⟨?_,?_,?_⟩
 ·unfold rawW at h0⊢;by_cases h1:hasW l (ky x)=ϕ
  ·rw[ϝ h1];simpa using a
  rw[ϛ h1]at h0⊢;by_cases h4:(l.length:Int)=20
  ·rw[ϝ h4]at h0;exact ϟ h0 U
  rw[ϛ h4];have:=Z13e l (ky x);simp;omega
 ·rw[Zp1 c h0];intro k hk;rcases qy13.1 hk with hk|hk
  ·rcases qy13.1 hk with hk|hk
   ·exact b k (Ϡ.1 hk).1
   rw[qy12.1 hk];exact hx
  exact b k (Ϡ.1 hk).1
 rw[Zp1 c h0];have q1:∀k∈loW l (ky x),ltP (ky k) (ky x)=ϕ:=λk hk=>(Ϡ.1 hk).2;have q2:∀k∈hiW l (ky x),ltP (ky x) (ky k)=ϕ:=λk hk=>(Ϡ.1 hk).2;refine ϱ.2 ⟨ϱ.2 ⟨c.filter _,List.pairwise_singleton _ _,λa ha b hb=>by rw[qy12.1 hb];exact q1 a ha⟩,c.filter _,λa ha b hb=>?_⟩;rcases qy13.1 ha with ha|ha
 ·exact Z6l (q1 a ha) (q2 b hb)
 rw[qy12.1 ha];exact q2 b hb
open Go Go.Sort
section
variable {α:Type} [Inhabited α] {enc:α->List Ϣ} {k:Nat}
def Zmu(hk:∀x,(enc x).length=k)(k0:0<k)(ds:List α):(flatK enc k ds.toArray).toList=(ds.map enc).flatten:=by
 apply β;intro j;have hlen:((ds.map enc).flatten).length=ds.length*k:=by have:=Zk (rows:=ds.map enc) (λr hr=>by obtain⟨x,-,rfl⟩:=γ.1 hr;exact hk x);simpa using this
 by_cases hj:j<ds.length*k
 ·have e1:(flatK enc k ds.toArray).toList[j]?=ε (enc ds.toArray[j / k]!)[j % k]!:=by
   rw[ϓ,ϔ (by simpa using hj),<- get_flatK enc k ds.toArray j (by simpa using hj),getElem!_pos _ j (by simpa using hj)]
  have hd:=(Nat.div_lt_iff_lt_mul k0).2 hj;have hm:j % k<k:=Nat.mod_lt _ k0;have e2:=Zcf (rows:=ds.map enc) (λr hr=>by obtain⟨x,-,rfl⟩:=γ.1 hr;exact hk x) (i:=j / k) hm;rw[show j / k*k+j % k=j by rw[ϸ];exact Nat.div_add_mod j k]at e2;rw[e1,e2,Ϙ,qy7 hd];simp only[Option.map_some,Option.bind_some];have e3:ds.toArray[j / k]! = ds[j / k]:=by rw[getElem!_pos _ _ (by simpa using hd)];simp
  rw[e3,qy7 (by rw[hk];exact hm)];congr 1;rw[getElem!_pos _ _ (by rw[hk];exact hm)]
 rw[ϗ O3,ϗ O]
variable{g:Nat}{e:TypeId}
def Zjv{w:ϖ}{cur:Array Ϣ}(hk:∀x,(enc x).length=k)(k0:0<k){ds:List α}(hb:w.heap[g]?=ε (.cells cur e (0,0)))(ht:cur.toList.take (ds.length*k)=(ds.map enc).flatten): HoldsK enc k w g 0 ds.toArray:=by
 intro j hj;have hj':j<ds.length*k:=by simpa using hj
 refine⟨?_,by simp[World.frozen?,hb]⟩;have h1:(cur.toList.take (ds.length*k))[j]?=(flatK enc k ds.toArray).toList[j]?:=by rw[ht,Zmu hk k0]
 rw[ϧ hj']at h1;simp only[World.cell?,hb,ξ,Option.isSome_none,Bool.false_eq_true,if_false];have e:(flatK enc k ds.toArray)[j]! = (flatK enc k ds.toArray)[j]:=getElem!_pos _ j hj;rw[<- ϓ,h1,ϓ,ϔ hj,e];rfl
def Zro{w:ϖ}{os:Array Obj}{cur:Array Ϣ}{fr:Nat×Nat}(d:Array α)(hb:w.heap[g]?=ε (.cells cur e fr)): (sortWorldK enc k w g 0 n d os).heap[g]?=ε (.cells (putCells id 0 (flatK enc k d) cur) e fr):=by have hg:=(Array.getElem?_eq_some_iff.1 hb).1;unfold sortWorldK putRowK;rw[heap_grow_old _ _ (by simpa using hg)];simp[putRow,mapBlock,ϰ,hb,onCells]
def Zjw{w:ϖ}{os:Array Obj}(d:Array α):w.grownBy (sortWorldK enc k w g 0 n d os) (ε g):=by unfold sortWorldK putRowK;refine⟨rfl,rfl,rfl,O1,λj hj hne=>?_⟩;rw[heap_grow_old _ _ (by simpa using hj)];have:g≠j:=λe=>hne (by rw[e]);simp[putRow,mapBlock,ϰ,this]
def Zjx{w:ϖ}{base cap:Nat}{os:Array Obj}{cur:Array Ϣ}{ts:List α}(hk:∀x,(enc x).length=k)(k0:0<k)(hbase:base<=g)(hb:w.heap[g]?=ε (.cells cur e (0,0)))(h1:ts.length<=cap)(h2:cap<=maxLen)(h3:cur.size=cap*k): (sortWorldK enc k w g 0 n ts.toArray os).ownsRow base e k (.slice (ε ⟨g,0,μ⟩) ts.length cap) ts.length (ts.map enc).flatten:=by
 have hlen:((ts.map enc).flatten).length=ts.length*k:=by have:=Zk (rows:=ts.map enc) (λr hr=>by obtain⟨x,-,rfl⟩:=γ.1 hr;exact hk x);simpa using this
 have hle:ts.length*k<=cur.size:=by rw[h3];exact ϑ k h1
 refine⟨hlen,.inr ⟨g,cap,_,rfl,hbase,Zro _ hb,h1,h2,by simp[putCells,h3],?_⟩⟩;apply β;intro j;by_cases hj:j<ts.length*k
 ·rw[ϧ hj,<- Zmu hk k0,ϓ,ϓ];have hj2:j<(flatK enc k ts.toArray).size:=by simpa using hj
  have e:(flatK enc k ts.toArray)[j]! = (flatK enc k ts.toArray)[j]:=getElem!_pos _ j hj2;rw[ϔ (by simp[putCells];omega),ϔ hj2,<- e];simp only[putCells,Array.getElem_mapIdx,ξ,Nat.sub_zero];rw[ϝ ⟨π _,hj2⟩];rfl
 rw[List.getElem?_take_eq_none O,ϗ O]
end
end Go.Proofs.Y
namespace Go.Proofs
open Go.Shelf
def Tryz.sortR_ren:Go.Shelf.Ren:=⟨fun|6=>282|15=>320|14=>319|28=>347|29=>348|20=>339|21=>340|22=>341|23=>342|24=>343|25=>344|26=>345|27=>346|46=>357|47=>358|48=>359|49=>360|50=>361|57=>364|n=>n,fun|22=>190|24=>193|25=>298|3=>3|39=>220|0=>0|53=>340|55=>342|4=>4|46=>334|45=>333|50=>102|5=>5|9=>9|66=>348|70=>352|76=>360|77=>361|n=>n,fun|n=>n⟩
def Tryz.sortR:Go.Proofs.SlLaysF0.n6 ϐ Tryz.sortR_ren:={
 mixed:=O2
 f6:=⟨Tryz.f282.name,U,qF Tryz.func282 O2⟩
 f14:=⟨Tryz.f319.name,U,qF Tryz.func319 O2⟩
 f15:=qF Tryz.func320 O2
 f20:=⟨Tryz.f339.name,U,qF Tryz.func339 O2⟩
 f21:=⟨Tryz.f340.name,U,qF Tryz.func340 O2⟩
 f22:=⟨Tryz.f341.name,U,qF Tryz.func341 O2⟩
 f23:=⟨Tryz.f342.name,U,qF Tryz.func342 O2⟩
 f24:=⟨Tryz.f343.name,U,qF Tryz.func343 O2⟩
 f25:=⟨Tryz.f344.name,U,qF Tryz.func344 O2⟩
 f26:=⟨Tryz.f345.name,U,qF Tryz.func345 O2⟩
 f27:=⟨Tryz.f346.name,U,qF Tryz.func346 O2⟩
 f28:=qF Tryz.func347 O2
 f29:=qF Tryz.func348 O2
 f46:=⟨Tryz.f357.name,U,qF Tryz.func357 O2⟩
 f47:=qF Tryz.func358 O2
 f48:=qF Tryz.func359 O2
 f49:=⟨Tryz.f360.name,U,qF Tryz.func360 O2⟩
 f50:=⟨Tryz.f361.name,U,qF Tryz.func361 O2⟩
 f57:=⟨Tryz.f364.name,U,qF Tryz.func364 O2⟩
 t0:=Tryz.underlying0
 a0:=Tryz.isAgg0
 z0:=Tryz.sizeOf0
 v0:=Tryz.zeroValue0
 t3:=Tryz.underlying3
 a3:=Tryz.isAgg3
 z3:=Tryz.sizeOf3
 v3:=Tryz.zeroValue3
 t4:=Tryz.underlying4
 a4:=Tryz.isAgg4
 z4:=Tryz.sizeOf4
 v4:=Tryz.zeroValue4
 t5:=Tryz.underlying5
 a5:=Tryz.isAgg5
 z5:=Tryz.sizeOf5
 v5:=Tryz.zeroValue5
 t9:=Tryz.underlying9
 a9:=Tryz.isAgg9
 z9:=Tryz.sizeOf9
 v9:=Tryz.zeroValue9
 t22:=Tryz.underlying190
 a22:=Tryz.isAgg190
 z22:=Tryz.sizeOf190
 v22:=Tryz.zeroValue190
 t25:=Tryz.underlying298
 a25:=Tryz.isAgg298
 z25:=Tryz.sizeOf298
 v25:=Tryz.zeroValue298
 t39:=Tryz.underlying220
 a39:=Tryz.isAgg220
 z39:=Tryz.sizeOf220
 v39:=Tryz.zeroValue220
 t45:=Tryz.underlying333
 a45:=Tryz.isAgg333
 z45:=Tryz.sizeOf333
 v45:=Tryz.zeroValue333
 t46:=Tryz.underlying334
 a46:=Tryz.isAgg334
 z46:=Tryz.sizeOf334
 v46:=Tryz.zeroValue334
 t50:=Tryz.underlying102
 a50:=Tryz.isAgg102
 z50:=Tryz.sizeOf102
 v50:=Tryz.zeroValue102
 t53:=Tryz.underlying340
 a53:=Tryz.isAgg340
 z53:=Tryz.sizeOf340
 v53:=Tryz.zeroValue340
 t55:=Tryz.underlying342
 a55:=Tryz.isAgg342
 z55:=Tryz.sizeOf342
 v55:=Tryz.zeroValue342
 t66:=Tryz.underlying348
 a66:=Tryz.isAgg348
 z66:=Tryz.sizeOf348
 v66:=Tryz.zeroValue348
 t70:=Tryz.underlying352
 a70:=Tryz.isAgg352
 z70:=Tryz.sizeOf352
 v70:=Tryz.zeroValue352
 t76:=Tryz.underlying360
 a76:=Tryz.isAgg360
 z76:=Tryz.sizeOf360
 v76:=Tryz.zeroValue360
 t77:=Tryz.underlying361
 a77:=Tryz.isAgg361
 z77:=Tryz.sizeOf361
 v77:=Tryz.zeroValue361 }
