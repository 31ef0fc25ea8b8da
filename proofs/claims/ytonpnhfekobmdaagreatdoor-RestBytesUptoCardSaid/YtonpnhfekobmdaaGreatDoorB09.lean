/- By an AI agent. -/
import Derived.Test.YtonpnhfekobmdaaGreatDoorB08
import Derived.Shelf.Small.Strs
import Derived.Shelf.Strings.Search3
import Derived.Shelf.Strings.Count
import Derived.Shelf.Strings.Split
import Derived.Shelf.Strings.IndexAnyAll
import Derived.Test.YtonpnhfekobmdaaGreatDoorProg
set_option linter.all false
set_option maxHeartbeats 20000000
namespace Go.Proofs.Y
open Go.Sx
def pw:Nat->Nat
 | 0=>1
 | k+1=>256*pw k
theorem Z87{a b:Nat}(h:a<=b):pw a<=pw b:=by
 induction h with
 | refl=>exact Nat.le_refl _
 | step _ ih=>simp only[pw];omega
theorem Zs1(w:World)(n:Nat)(hn:n<=7):Calls Tryz.prog 109 #[.int .i64 n] w λe w'=>e=.returned (.int .i64 (pw n))/\Mod [] w w':=by
 refine Z1 (Z4 (J:=[.i n]) sxE_ok Tryz.func109 Z56 rfl rfl rfl ?_) rfl;simp only[QQ,Nat.reduceAdd];refine⟨λvs=>∃k:Nat,vs=[.i (pw k),.i k]/\k<=n,λvs=>(n - (vs.getD 1 (.i 0)).toI).toNat,⟨0,rfl,by omega⟩,?_⟩;rintro _ - ⟨k,rfl,hk⟩;simp only[QQ,Nat.reduceAdd];refine⟨λh=>?_,λh=>?_⟩
 ·have h6:pw k<=pw 6:=Z87 (by omega);have h6:pw k<=281474976710656:=h6;refine⟨by omega,by omega,by omega,by omega,⟨k+1,?_,by omega⟩,by omega⟩;simp[pw]
 ·intro w' hr;have:k=n:=by omega
  subst this;exact⟨rfl,hr.mod⟩
def numB(k:Nat)(n:Int):List UInt8:=(List.range k).map λj=>UInt8.ofNat (n / pw (k - 1 - j) % 256).toNat
theorem Zqo(k:Nat):1<=pw k:=Z87 (Nat.zero_le k)
theorem Zs(w:World)(n:Int)(k:Nat)(hk:k<=8)(h0:0<=n)(h1:n<=9223372036854775807) : Calls Tryz.prog 67 #[.int .i64 n,.int .i64 k] w λe w'=>e=.returned (.string ⟨(numB k n).toArray⟩)/\Mod [] w w':=by
 refine Z1 (Z4 (J:=[.i n,.i k]) sxE_ok Tryz.func67 Z3v rfl rfl rfl ?_) rfl;simp only[QQ,Nat.reduceAdd];refine⟨by omega,by omega,λvs=>∃m:Nat,vs=[.s ((List.range m).map λj=>UInt8.ofNat (n / pw (k - 1 - j) % 256).toNat),.i (k - 1 - m)]/\m<=k,λvs=>((vs.getD 1 (.i 0)).toI+1).toNat,⟨0,by simp,by omega⟩,?_⟩;rintro _ - ⟨m,rfl,hm⟩;simp only[QQ,Nat.reduceAdd];refine⟨λh=>?_,λh=>?_⟩
 ·obtain⟨i,hi⟩:∃i:Nat,(k:Int) - 1 - m=i:=⟨k - 1 - m,by omega⟩
  rw[hi];have hp:=Zqo i;have hq:0<=n / (pw i:Int):=Int.ediv_nonneg h0 (by omega);refine⟨[.i (pw i)],rfl,λ_ w' _=>Zs1 w' i (by omega),?_⟩;simp only[QQ,Nat.reduceAdd];refine⟨h0,h1,by omega,hq,λv=>⟨by simp;omega,by omega,by omega,⟨m+1,?_,by omega⟩,by omega⟩⟩;have e1:k - 1 - m=i:=by omega
  simp only[List.range_succ,List.map_append,List.map_cons,List.map_nil,List.cons.injEq,V.s.injEq,V.i.injEq,and_true,e1];exact⟨rfl,by omega⟩
 ·intro w' hr;have:m=k:=by omega
  subst this;exact⟨rfl,hr.mod⟩
theorem Zg3(n:Int)(s:Nat)(hs:s<64):n.fdiv (2 ^ (Nat.min s IntKind.i64.bits))=n / (2 ^ s:Nat):=by have:Nat.min s IntKind.i64.bits=s:=Nat.min_eq_left (by show s<=64;omega);rw[this,Int.fdiv_eq_ediv_of_nonneg _ (by exact Int.pow_nonneg (by omega))];simp
theorem Z5f(n:Int):IntKind.u8.wrap n=n % 256:=IntKind.wrap_u8 n
theorem Zto(N m:Nat):((N:Int) / (pw m:Int)) / 256=(N:Int) / (pw (m+1):Int):=by
 have h:(N / pw m) / 256=N / pw (m+1):=by rw[Nat.div_div_eq_div_mul,Nat.mul_comm];rfl
 rw[<- Int.natCast_ediv,<- Int.natCast_ediv,<- h];rfl
theorem Z3y(w:World)(n:Int)(k:Nat)(hk:k<=8)(h0:0<=n)(h1:n<=9223372036854775807) : Calls Tryz.prog 82 #[.int .i64 n,.int .i64 k] w λe w'=>e=.returned (.string ⟨(numB k n).toArray⟩)/\Mod [] w w':=by
 refine Z1 (Z4 (J:=[.i n,.i k]) sxE_ok Tryz.func82 Za4 rfl rfl rfl ?_) rfl;simp only[QQ,Nat.reduceAdd];refine⟨λvs=>∃(m:Nat) (v:Value),vs=[.i (n / pw m),.v v,.r ((List.range m).map λj=>[.int .u8 (n / pw j % 256)]),.i m]/\m<=k,λvs=>(k - (vs.getD 3 (.i 0)).toI).toNat,⟨0,.slice none 0 0,by simp[pw],by omega⟩,?_⟩;rintro _ - ⟨m,v,rfl,hm⟩;simp only[QQ,Nat.reduceAdd];refine⟨λh=>?_,λh=>?_⟩
 ·intro v1;refine⟨by simp;omega,λv2=>⟨by omega,by omega,⟨m+1,v2,?_,by omega⟩,by omega⟩⟩;have e1:(n / pw m) / 256=n / pw (m+1):=by
   obtain⟨N,rfl⟩:=Int.eq_ofNat_of_zero_le h0;exact Zto N m
  have e2:Int.toNat 8=8:=rfl;simp only[List.range_succ,List.map_append,List.map_cons,List.map_nil,List.cons.injEq,V.i.injEq,V.v.injEq,V.r.injEq,and_true,Z5f,e2,Zg3 _ 8 (by omega),Nat.reducePow,true_and];exact⟨e1,by omega⟩
 ·have hmk:m=k:=by omega
  subst hmk;have hl:((List.range m).map λj=>[Value.int .u8 (n / pw j % 256)]).length=m:=by simp
  refine⟨by omega,by omega,λvs=>∃(i:Nat) (h:Nat->Int),vs=[.i i,.i ((m:Int) - 1 - i),.r ((List.range m).map λx=>[.int .u8 (h x)])]/\2*i<=m+1/\∀x,x<m->h x=if x<i\/m - 1<x+i then n / pw (m - 1 - x) % 256 else n / pw x % 256,
   λvs=>((vs.getD 1 (.i 0)).toI+1 - (vs.getD 0 (.i 0)).toI).toNat,⟨0,λx=>n / pw x % 256,by simp,by omega,λx hx=>by rw[if_neg (by omega)]⟩,?_⟩
  rintro _ - ⟨i,h,rfl,hi,hh⟩;simp only[QQ,Nat.reduceAdd];refine⟨λhc=>?_,λhc=>?_⟩
  ·obtain⟨j,hj⟩:∃j:Nat,(m:Int) - 1 - i=j:=⟨m - 1 - i,by omega⟩
   rw[hj]at hc⊢;have hjm:j<m:=by omega
   have him:i<m:=by omega
   have hget:∀x:Nat,x<m->((List.range m).map λx=>[Value.int .u8 (h x)]).getD x []=[Value.int .u8 (h x)]:=λx hx=>by simp[qy1,List.getElem?_map,List.getElem?_range hx]
   have q1:((j:Nat):Int)<(m:Int):=by omega
   have q2:((i:Nat):Int)<(m:Int):=by omega
   have q3:(0:Int)<=(i:Int):=by omega
   have q4:(0:Int)<=(j:Int):=by omega
   have q5:(-9223372036854775808:Int)<=(i:Int)+1:=by omega
   have q6:(i:Int)+1<=9223372036854775807:=by omega
   have q7:(-9223372036854775808:Int)<=(j:Int) - 1:=by omega
   have q8:(j:Int) - 1<=9223372036854775807:=by omega
   simp only[List.length_set,qy3,List.length_range,qy4,q1,q2,q3,q4,q5,q6,q7,q8,true_and,and_self,hget i him,hget j hjm,List.getD_cons_zero,Value.gI];have hset:(((List.range m).map λx=>[Value.int .u8 (h x)]).set i [Value.int .u8 (h j)]).set j [Value.int .u8 (h i)]=(List.range m).map λx=>[Value.int .u8 (if x=j then h i else if x=i then h j else h x)]:=by
    apply List.ext_getElem?;intro x;simp only[List.getElem?_set,List.getElem?_map,List.length_set,qy3,List.length_range];by_cases hx:x<m
    ·rw[List.getElem?_range hx];by_cases h1:j=x
     ·subst h1;simp[hx]
     ·by_cases h2:i=x
      ·subst h2;simp[hx,h1,Ne.symm h1]
      ·simp[h1,h2,Ne.symm h1,Ne.symm h2]
    ·rw[List.getElem?_eq_none (by simp;omega)];have h1:¬j=x:=by omega
     have h2:¬i=x:=by omega
     simp[h1,h2]
   refine⟨⟨i+1,λx=>if x=j then h i else if x=i then h j else h x,?_,by omega,?_⟩,by omega⟩
   ·rw[hset];simp only[List.cons.injEq,V.i.injEq,and_true,true_and];omega
   ·intro x hx;have a1:=hh i him;have a2:=hh j hjm;rw[if_neg (by omega)]at a1 a2
    show(if x=j then h i else if x=i then h j else h x)=_
    by_cases h1:x=j
    ·subst h1;rw[if_pos rfl,if_pos (by omega),a1];congr 3;congr 2;omega
    ·rw[if_neg h1];by_cases h2:x=i
     ·subst h2;rw[if_pos rfl,if_pos (by omega),a2];congr 3;congr 2;omega
     ·rw[if_neg h2,hh x hx];by_cases h3:x<i\/m - 1<x+i
      ·rw[if_pos h3,if_pos (by omega)]
      ·rw[if_neg h3,if_neg (by omega)]
  ·intro w' hr;refine⟨?_,hr.mod⟩;congr 3
   simp only[numB,List.map_map];refine congrArg List.toArray (List.map_congr_left λx hx=>?_);have hx:x<m:=by simpa using hx
   simp only[Function.comp,List.getD_cons_zero,Value.gI,hh x hx];by_cases h3:x<i\/m - 1<x+i
   ·rw[if_pos h3]
   ·rw[if_neg h3];have:m - 1 - x=x:=by omega
    rw[this]
theorem Z2c(x:Nat)(h:x<2 ^ 63):(BitVec.ofInt 64 (x:Int)).toNat=x:=by simp[BitVec.toNat_ofInt];omega
theorem Z79(x:Nat)(h:x<2 ^ 63):IntKind.i64.wrap (x:Int)=x:=by rw[IntKind.wrap_i64];omega
theorem Ztp(x:Nat)(h:x<2 ^ 63):Zw .and .i64 (x:Int) 127=(x % 128:Nat):=by
 have h127:(127:Int)=((127:Nat):Int):=rfl;simp only[Zw,h127]
 show IntKind.i64.wrap (((BitVec.ofInt 64 (x:Int)) &&& (BitVec.ofInt 64 ((127:Nat):Int))).toNat:Int)=_
 rw[BitVec.toNat_and,Z2c x h,Z2c 127 (by omega)];have e:x &&& 127=x % 128:=Nat.and_two_pow_sub_one_eq_mod x 7;rw[e,Z79 _ (by omega)]
theorem Zul(x:Nat)(h:x<128):Zw .or .i64 (x:Int) 128=(x+128:Nat):=by
 have h128:(128:Int)=((128:Nat):Int):=rfl;simp only[Zw,h128]
 show IntKind.i64.wrap (((BitVec.ofInt 64 (x:Int)) ||| (BitVec.ofInt 64 ((128:Nat):Int))).toNat:Int)=_
 rw[BitVec.toNat_or,Z2c x (by omega),Z2c 128 (by omega)];have e:x ||| 128=x+128:=by have:=Nat.two_pow_add_eq_or_of_lt (i:=7) (b:=x) (by omega) 1;rw[Nat.or_comm];simp only[Nat.mul_one]at this;rw[show(128:Nat)=2 ^ 7 from rfl,<- this];omega
 rw[e,Z79 _ (by omega)]
def pL:Nat->Nat
 | 0=>128
 | f+1=>128*pL f
def lngB:Nat->Nat->List UInt8
 | 0,n=>[UInt8.ofNat n]
 | f+1,n=>if n<128 then[UInt8.ofNat n]else UInt8.ofNat (n % 128+128)::lngB f (n / 128)
theorem Z88(f n:Nat)(h:n<128):lngB f n=[UInt8.ofNat n]:=by cases f<;>simp[lngB,h]
theorem Z9c:∀f n,(lngB f n).length<=f+1
 | 0,n=>by simp[lngB]
 | f+1,n=>by have:=Z9c f (n / 128);simp only[lngB];split<;>simp<;>omega
theorem Zm0{a b:Nat}(h:a<=b):pL a<=pL b:=by
 induction h with
 | refl=>exact Nat.le_refl _
 | step _ ih=>simp only[pL];omega
def rowB(r:List Value):UInt8:=UInt8.ofNat (Value.gI (r.getD 0 undef)).toNat
theorem Zp6:∀(f:Nat) (w:World) (n:Nat),f<=7->n<pL f->Calls Tryz.prog 69 #[.int .i64 n] w λe w'=>e=.returned (.string ⟨(lngB f n).toArray⟩)/\Mod [] w w':=by
 intro f;induction f with
 | zero =>
  intro w n hf hn;have hn:n<128:=hn;refine Z1 (Z4 (J:=[.i n]) sxE_ok Tryz.func69 Z23 rfl rfl rfl ?_) rfl;simp only[QQ,Nat.reduceAdd];refine⟨λh v w' hr=>⟨?_,hr.mod⟩,λh=>by omega⟩;have e:((n:Int) % 256).toNat=n:=by omega
  simp only[lngB,Value.gI,Z5f,e]
 | succ f ih =>
  intro w n hf hn;have hn:n<128*pL f:=hn;have hp:pL f<=128 ^ 7:=by
   have:∀a b,a<=b->pL a<=pL b:=by
    intro a b h;induction h with
    | refl=>exact Nat.le_refl _
    | step _ ih=>simp only[pL];omega
   exact this f 6 (by omega)
  have hp:pL f<=562949953421312:=hp;refine Z1 (Z4 (J:=[.i n]) sxE_ok Tryz.func69 Z23 rfl rfl rfl ?_) rfl;have hl:=Z9c f (n / 128);have hcall:∀w',Calls Tryz.prog 69 #[.int .i64 ((n:Int) / 128)] w' λe w1=>e=.returned (.string ⟨(lngB f (n / 128)).toArray⟩)/\Mod [] w' w1:=λw'=>ih w' (n / 128) (by omega) (by omega);have hd:¬n<128->UInt8.ofNat ((n:Int) % 128+128).toNat::lngB f (n / 128)=lngB (f+1) n:=λh=>by
   have e:((n:Int) % 128+128).toNat=n % 128+128:=by omega
   simp only[lngB,if_neg h,e]
  simp only[QQ,Nat.reduceAdd];refine⟨λh v w' hr=>⟨?_,hr.mod⟩,λh=>?_⟩
  ·have e:((n:Int) % 256).toNat=n:=by omega
   rw[Z88 _ _ (by omega)];simp only[Value.gI,Z5f,e]
  ·(repeat refine⟨by omega,?_⟩);refine⟨λv=>⟨⟨[.s (lngB f (n / 128))],rfl,λ_ w' _=>hcall w',?_⟩,[.s (lngB f (n / 128))],rfl,λ_ w' _=>hcall w',?_⟩,[.s (lngB f (n / 128))],rfl,λ_ w' _=>hcall w',?_⟩
   ·simp only[QQ,Nat.reduceAdd,Value.gI];refine⟨by omega,λw' hr=>⟨?_,hr.mod⟩⟩;rw[hd (by omega)]
   ·simp only[QQ,Nat.reduceAdd,Value.gI];refine⟨by omega,λw' hr=>⟨?_,hr.mod⟩⟩;rw[hd (by omega)]
   ·simp only[QQ,Nat.reduceAdd,Value.gI];refine λv=>⟨by omega,λw' hr=>⟨?_,hr.mod⟩⟩
    rw[hd (by omega)]
theorem Zg4(w:World)(F n:Nat)(hF:F<=7)(hn:n<pL F):Calls Tryz.prog 84 #[.int .i64 n] w λe w'=>e=.returned (.string ⟨(lngB F n).toArray⟩)/\Mod [] w w':=by
 refine Z1 (Z4 (J:=[.i n]) sxE_ok Tryz.func84 Z6c rfl rfl rfl ?_) rfl;simp only[QQ,Nat.reduceAdd];have hp:pL F<=72057594037927936:=Zm0 (show F<=7 from hF);refine⟨λvs=>∃(x f:Nat) (v:Value) (rows:List (List Value)),vs=[.i x,.v v,.r rows]/\x<pL f/\f<=F/\rows.length+f=F/\rows.map rowB++lngB f x=lngB F n,λvs=>((vs.getD 0 (.i 0)).toI).toNat,⟨n,F,_,[],rfl,hn,Nat.le_refl _,by simp,by simp⟩,?_⟩;rintro _ - ⟨x,f,v,rows,rfl,hx,hf,hrl,hrows⟩;have hpf:pL f<=72057594037927936:=Zm0 (show f<=7 by omega);simp only[QQ,Nat.reduceAdd];refine⟨λh v1=>?_,λh v1=>?_⟩
 ·cases f with
  | zero=>have:x<128:=hx;omega
  | succ f =>
   have hx:x<128*pL f:=hx;have e1:(x:Int).fdiv (2 ^ (Nat.min (Int.toNat 7) IntKind.i64.bits))=(x / 128:Nat):=by rw[Zg3 _ _ (by decide)];rfl
   simp only[e1];refine⟨by simp;omega,λv2=>⟨⟨x / 128,f,v2,_,rfl,by omega,by omega,?_,?_⟩,by omega⟩⟩
   ·simp;omega
   ·rw[List.map_append,List.append_assoc,<- hrows];congr 1
    simp only[List.map_cons,List.map_nil,rowB,List.getD_cons_zero,Value.gI,Ztp x (by omega),Zul (x % 128) (by omega),Z5f];have e:(((x % 128+128:Nat):Int) % 256).toNat=x % 128+128:=by omega
    rw[e];simp only[lngB,if_neg (show ¬x<128 by omega),List.cons_append,List.nil_append]
 ·refine⟨by simp;omega,λv2 w' hr=>⟨?_,hr.mod⟩⟩;rw[<- hrows,Z88 _ _ (by omega)];have e:((x:Int) % 256).toNat=x:=by omega
  simp only[List.map_append,List.map_cons,List.map_nil,List.getD_cons_zero,Value.gI,Z5f,e];rfl
theorem Zqp(l:List UInt8)(i:Nat):Value.gI (((l.map λb=>[Value.int .u8 (b.toNat:Int)]).getD i []).getD 0 undef)=((l.getD i 0).toNat:Int):=by simp only[qy1,List.getElem?_map];cases l[i]?<;>rfl
theorem Zm1(s:List UInt8)(i lo hi:Nat)(h:lo+i<hi):((s.take hi).drop lo).getD i 0=s.getD (lo+i) 0:=by simp only[qy1,List.getElem?_drop,List.getElem?_take,if_pos h]
theorem Z60(b:UInt8):b.toNat<256:=b.toNat_lt
def beN:List UInt8->Nat->Nat
 | [],n=>n
 | c::l,n=>beN l (256*n+c.toNat)
theorem Zhl(l:List UInt8)(c:UInt8)(n:Nat):beN (l++[c]) n=256*beN l n+c.toNat:=by
 induction l generalizing n with
 | nil=>rfl
 | cons d l ih=>simp[beN,ih]
theorem Zhm(l:List UInt8):∀n,beN l n<(n+1)*pw l.length:=by
 induction l with
 | nil=>intro n;simp[beN,pw]
 | cons c l ih =>
  intro n;have h1:=ih (256*n+c.toNat);have h2:=Z60 c;have h3:(256*n+c.toNat+1)*pw l.length<=(256*(n+1))*pw l.length:=Nat.mul_le_mul_right _ (by omega);simp only[beN,List.length_cons,pw];rw[<- Nat.mul_assoc,Nat.mul_comm (n+1) 256];omega
theorem Zb9(l:List UInt8)(m:Nat)(h:m<l.length):l.take (m+1)=l.take m++[l.getD m 0]:=by rw[List.take_add_one,qy1,qy7 h];rfl
theorem Zs2(n c:Nat)(hn:n<2 ^ 54)(hc:c<256):Zw .or .i64 (IntKind.i64.wrap ((n:Int)*2 ^ (Nat.min (Int.toNat 8) IntKind.i64.bits))) (c:Int)=((256*n+c:Nat):Int):=by
 have e0:IntKind.i64.wrap ((n:Int)*2 ^ (Nat.min (Int.toNat 8) IntKind.i64.bits))=((n*256:Nat):Int):=by have:Nat.min (Int.toNat 8) IntKind.i64.bits=8:=rfl;rw[this,IntKind.wrap_i64];omega
 rw[e0];simp only[Zw]
 show IntKind.i64.wrap (((BitVec.ofInt 64 ((n*256:Nat):Int)) ||| (BitVec.ofInt 64 (c:Int))).toNat:Int)=_
 rw[BitVec.toNat_or,Z2c _ (by omega),Z2c c (by omega)];have e:n*256 ||| c=256*n+c:=by have:=Nat.two_pow_add_eq_or_of_lt (i:=8) (b:=c) (by omega) n;rw[show n*256=2 ^ 8*n by omega,<- this]
 rw[e,Z79 _ (by omega)]
def getR(s:List UInt8)(at_ b:Int):Int×Int :=
 if 1<=b/\b<=4 then
  if 0<=at_/\at_<=s.length then
   if(s.length:Int) - at_<b then(0,8)else(beN ((s.drop at_.toNat).take b.toNat) 0,0)
  else(0,3)
 else(0,7)
theorem Zeb{s:List UInt8}{at_ b:Int}(h:¬(1<=b/\b<=4)):getR s at_ b=(0,7):=if_neg h
theorem Zbs{s:List UInt8}{at_ b:Int}(h:1<=b/\b<=4)(h1:¬(0<=at_/\at_<=s.length)):getR s at_ b=(0,3):=by rw[getR,if_pos h,if_neg h1]
theorem Z1m{s:List UInt8}{at_ b:Int}(h:1<=b/\b<=4)(h1:0<=at_/\at_<=s.length)(h2:(s.length:Int) - at_<b):getR s at_ b=(0,8):=by rw[getR,if_pos h,if_pos h1,if_pos h2]
theorem Z4r{s:List UInt8}{at_ b:Int}(h:1<=b/\b<=4)(h1:0<=at_/\at_<=s.length)(h2:¬(s.length:Int) - at_<b):getR s at_ b=(((beN ((s.drop at_.toNat).take b.toNat) 0:Nat):Int),0):=by rw[getR,if_pos h,if_pos h1,if_neg h2]
theorem beN4(s:List UInt8)(at_ m:Nat)(h:m<=4):beN ((s.drop at_).take m) 0<4294967296:=by have h1:=Zhm ((s.drop at_).take m) 0;have h2:pw ((s.drop at_).take m).length<=pw 4:=Z87 (by simp;omega);have h3:pw 4=4294967296:=rfl;omega
theorem Z89(s:List UInt8)(at_ b:Int):0<=(getR s at_ b).1/\(getR s at_ b).1<4294967296:=by
 unfold getR;split
 ·split
  ·split
   ·decide
   ·have:=beN4 s at_.toNat b.toNat (by omega)
    show 0<=((beN ((s.drop at_.toNat).take b.toNat) 0:Nat):Int)/\((beN ((s.drop at_.toNat).take b.toNat) 0:Nat):Int)<4294967296
    omega
  ·decide
 ·decide
theorem Zhn(s:List UInt8)(a k:Nat)(h:a+k<s.length):beN ((s.drop a).take (k+1)) 0=256*beN ((s.drop a).take k) 0+(s.getD (a+k) 0).toNat:=by rw[Zb9 _ _ (by simp;omega),Zhl];simp only[qy1,List.getElem?_drop]
theorem Zcr(w:World)(s:List UInt8)(at_ b:Int)(hs:s.length<4611686018427387904):Calls Tryz.prog 65 #[.string ⟨s.toArray⟩,.int .i64 at_,.int .i64 b] w λe w'=>e=.returned (.tuple #[.int .i64 (getR s at_ b).1,.int .i64 (getR s at_ b).2])/\Mod [] w w':=by
 refine Z1 (Z4 (J:=[.s s,.i at_,.i b]) sxE_ok Tryz.func65 Z55 rfl rfl rfl ?_) rfl;simp only[QQ,Nat.reduceAdd];refine⟨λh w' hr=>⟨by rw[Zeb h],hr.mod⟩,λh=>?_⟩;refine⟨λh1 w' hr=>⟨by rw[Zbs (by omega) h1],hr.mod⟩,λh1=>?_⟩;refine⟨by omega,by omega,λh2 w' hr=>⟨by rw[Z1m (by omega) (by omega) h2],hr.mod⟩,λh2=>?_⟩;obtain⟨a,rfl⟩:∃a:Nat,at_=a:=⟨at_.toNat,by omega⟩
 obtain⟨k,rfl⟩:∃k:Nat,b=k:=⟨b.toNat,by omega⟩
 refine⟨λvs=>∃m:Nat,vs=[.i (beN ((s.drop a).take m) 0),.i m]/\m<=k,λvs=>(k - (vs.getD 1 (.i 0)).toI).toNat,⟨0,by simp[beN],by omega⟩,?_⟩;rintro _ - ⟨m,rfl,hm⟩;simp only[QQ,Nat.reduceAdd];have hb:=beN4 s a m (by omega);refine⟨λh3=>?_,λh3 w' hr=>⟨?_,hr.mod⟩⟩
 ·have e1:((a:Int)+(m:Int)).toNat=a+m:=by omega
  have e2:=Zhn s a m (by omega);rw[e1];have hc:=Z60 (s.getD (a+m) 0)
  (repeat refine⟨by omega,?_⟩);refine⟨⟨m+1,?_,by omega⟩,by omega⟩
  rw[e2];simp
 ·have:m=k:=by omega
  subst this;rw[Z4r (by omega) (by omega) h2];simp only[qy4]
theorem Zcs(w:World)(s:List UInt8)(at_ b:Int)(hs:s.length<4611686018427387904):Calls Tryz.prog 87 #[.string ⟨s.toArray⟩,.int .i64 at_,.int .i64 b] w λe w'=>e=.returned (.tuple #[.int .i64 (getR s at_ b).1,.int .i64 (getR s at_ b).2])/\Mod [] w w':=by
 refine Z1 (Z4 (J:=[.s s,.i at_,.i b]) sxE_ok Tryz.func87 Zcq rfl rfl rfl ?_) rfl;simp only[QQ,Nat.reduceAdd];refine⟨λh w' hr=>⟨by rw[Zeb (by omega)],hr.mod⟩,λh=>?_⟩;refine⟨λh1 w' hr=>⟨by rw[Zbs (by omega) h1],hr.mod⟩,λh1=>?_⟩;refine⟨by omega,by omega,λh2 w' hr=>⟨by rw[Z1m (by omega) (by omega) h2],hr.mod⟩,λh2=>?_⟩;obtain⟨a,rfl⟩:∃a:Nat,at_=a:=⟨at_.toNat,by omega⟩
 obtain⟨k,rfl⟩:∃k:Nat,b=k:=⟨b.toNat,by omega⟩
 (repeat refine⟨by omega,?_⟩)
 intro v;refine⟨λvs=>∃m:Nat,vs=[.i (beN ((s.drop a).take m) 0),.i m]/\m<=k,λvs=>(k - (vs.getD 1 (.i 0)).toI).toNat,⟨0,by simp[beN],by omega⟩,?_⟩;rintro _ - ⟨m,rfl,hm⟩;have e0:((a:Int)+(k:Int)).toNat=a+k:=by omega
 simp only[QQ,Nat.reduceAdd,qy3,List.length_drop,List.length_take,Zqp,qy4,e0];have hb:=beN4 s a m (by omega);refine⟨λh3=>?_,λh3 w' hr=>⟨?_,hr.mod⟩⟩
 ·have e2:=Zhn s a m (by omega);have hc:=Z60 (s.getD (a+m) 0);rw[Zm1 _ _ _ _ (by omega),Zs2 _ _ (by omega) hc]
  (repeat refine⟨by omega,?_⟩);refine⟨⟨m+1,?_,by omega⟩,by omega⟩
  rw[e2];simp
 ·have:m=k:=by omega
  subst this;rw[Z4r (by omega) (by omega) h2];simp only[qy4]
def p7:Nat->Nat
 | 0=>1
 | k+1=>128*p7 k
theorem Za9{a b:Nat}(h:a<=b):p7 a<=p7 b:=by
 induction h with
 | refl=>exact Nat.le_refl _
 | step _ ih=>simp only[p7];omega
theorem Zm2(a:Nat):1<=p7 a:=Za9 (Nat.zero_le a)
def glF:Nat->Nat->Nat->List UInt8->Int×Int×Int
 | 0,_,_,_=>(0,0,1)
 | _+1,_,_,[]=>(0,0,8)
 | f+1,i,n,c::l=>if c.toNat<128 then(if c.toNat=0/\0<i then(0,0,1)else(((n+c.toNat % 128*p7 i:Nat):Int),((i+1:Nat):Int),0))else glF f (i+1) (n+c.toNat % 128*p7 i) l
def getL(s:List UInt8)(at_:Int):Int×Int×Int:=if 0<=at_/\at_<=s.length then glF 4 0 0 (s.drop at_.toNat)else(0,0,3)
theorem Zbt{s:List UInt8}{at_:Int}(h:¬(0<=at_/\at_<=s.length)):getL s at_=(0,0,3):=if_neg h
theorem Zaa(s:List UInt8)(k:Nat)(h:k<s.length):s.drop k=s.getD k 0::s.drop (k+1):=by rw[List.drop_eq_getElem_cons h,qy1,qy7 h];rfl
theorem Zm3{s:List UInt8}{a f i n:Nat}(h:s.length<=a):glF (f+1) i n (s.drop a)=(0,0,8):=by rw[List.drop_eq_nil_of_le h];rfl
theorem Zho{s:List UInt8}{a f i n:Nat}(h:a<s.length):glF (f+1) i n (s.drop a) = if(s.getD a 0).toNat<128 then(if(s.getD a 0).toNat=0/\0<i then(0,0,1)else(((n+(s.getD a 0).toNat % 128*p7 i:Nat):Int),((i+1:Nat):Int),0))else glF f (i+1) (n+(s.getD a 0).toNat % 128*p7 i) (s.drop (a+1)):=by rw[Zaa s a h];rfl
theorem Zm4:∀(f i n:Nat) (l:List UInt8),n<p7 i->0<=(glF f i n l).1/\(glF f i n l).1<p7 (f+i)/\0<=(glF f i n l).2.1/\(glF f i n l).2.1<=f+i/\(glF f i n l).2.1<=i+l.length
 | 0,i,n,l,h=>by have:=Zm2 (0+i);simp only[glF];omega
 | f+1,i,n,[],h=>by have:=Zm2 (f+1+i);simp only[glF];omega
 | f+1,i,n,c::l,h=>by
  have hp:=Zm2 (f+1+i);have hm:n+c.toNat % 128*p7 i<p7 (i+1):=by have:c.toNat % 128*p7 i<=127*p7 i:=Nat.mul_le_mul_right _ (by omega);simp only[p7];omega
  have hm2:p7 (i+1)<=p7 (f+1+i):=Za9 (by omega);simp only[glF];split
  ·split
   ·simp only[List.length_cons];omega
   ·simp only[List.length_cons];omega
  ·have:=Zm4 f (i+1) _ l hm;have e:f+(i+1)=f+1+i:=by omega
   rw[e]at this;simp only[List.length_cons];omega
theorem Zab(s:List UInt8)(at_:Int):0<=(getL s at_).1/\(getL s at_).1<268435456/\0<=(getL s at_).2.1/\(getL s at_).2.1<=4/\(getL s at_).2.1<=s.length:=by
 unfold getL;split
 ·have h:=Zm4 4 0 0 (s.drop at_.toNat) (by decide);have e:p7 (4+0)=268435456:=rfl;rw[e,List.length_drop]at h;omega
 ·simp only;omega
theorem Zg5(w:World)(s:List UInt8)(at_:Int)(hs:s.length<4611686018427387904):Calls Tryz.prog 31 #[.string ⟨s.toArray⟩,.int .i64 at_] w λe w'=>e=.returned (.tuple #[.int .i64 (getL s at_).1,.int .i64 (getL s at_).2.1,.int .i64 (getL s at_).2.2])/\Mod [] w w':=by
 refine Z1 (Z4 (J:=[.s s,.i at_]) sxE_ok Tryz.func31 Z3g rfl rfl rfl ?_) rfl;simp only[QQ,Nat.reduceAdd];refine⟨λh w' hr=>⟨by rw[Zbt h],hr.mod⟩,λh=>?_⟩;obtain⟨a,rfl⟩:∃a:Nat,at_=a:=⟨at_.toNat,by omega⟩
 have e0:getL s a=glF 4 0 0 (s.drop a):=by rw[getL,if_pos (by omega),qy4]
 rw[e0];refine⟨λvs=>∃(m n:Nat) (x y z:V),vs=[x,y,z,.i n,.i (p7 m),.i m]/\m<=4/\n<p7 m/\glF (4 - m) m n (s.drop (a+m))=glF 4 0 0 (s.drop a),λvs=>(4 - (vs.getD 5 (.i 0)).toI).toNat,⟨0,0,_,_,_,rfl,by omega,by decide,rfl⟩,?_⟩;rintro _ - ⟨m,n,x,y,z,rfl,hm,hn,hg⟩;simp only[QQ,Nat.reduceAdd];have hp:=Za9 hm;have hp4:p7 4=268435456:=rfl;refine⟨λh3=>?_,λh3 w' hr=>⟨?_,hr.mod⟩⟩
 ·obtain⟨g,hgm⟩:∃g,4 - m=g+1:=⟨3 - m,by omega⟩
  rw[hgm]at hg;refine⟨by omega,by omega,λh4 w' hr=>⟨?_,hr.mod⟩,λh4=>?_⟩
  ·rw[<- hg,Zm3 (by omega)]
  ·rw[Zho (by omega)]at hg;have e1:((a:Int)+(m:Int)).toNat=a+m:=by omega
   rw[e1];have hc:=Z60 (s.getD (a+m) 0);generalize hcc:(s.getD (a+m) 0).toNat=c at hg hc⊢
   have q1:c % 128*p7 m<=127*p7 m:=Nat.mul_le_mul_right _ (by omega);have q2:((c:Int) % 128)*(p7 m:Int)=((c % 128*p7 m:Nat):Int):=by simp
   rw[q2]
   (repeat refine⟨by omega,?_⟩)
   refine⟨λh5=>?_,λh5=>?_⟩
   ·rw[if_pos (by omega)]at hg;refine⟨λh6 w' hr=>⟨?_,hr.mod⟩,λh6=>⟨by omega,by omega,λw' hr=>⟨?_,hr.mod⟩⟩⟩
    ·rw[if_pos (by omega)]at hg;rw[<- hg]
    ·rw[if_neg (by omega)]at hg;rw[<- hg];rfl
   ·rw[if_neg (by omega)]at hg;refine⟨by omega,by omega,⟨m+1,n+c % 128*p7 m,x,y,z,?_,by omega,by simp only[p7];omega,?_⟩,by omega⟩
    ·simp[p7]
    ·rw[<- hg,show 4 - (m+1)=g by omega];rfl
 ·have:m=4:=by omega
  subst this;rw[<- hg];rfl
theorem Zs3(x:Nat)(h:x<256):Zw .and .u8 (x:Int) 127=(x % 128:Nat):=by
 have:∀x:Fin 256,Zw .and .u8 (x.val:Int) 127=(x.val % 128:Nat):=by decide +kernel
 exact this ⟨x,h⟩
theorem Zs4(x:Nat)(h:x<256):Zw .and .u8 (x:Int) 128=if x<128 then 0 else 128:=by
 have:∀x:Fin 256,Zw .and .u8 (x.val:Int) 128=if x.val<128 then 0 else 128:=by decide +kernel
 exact this ⟨x,h⟩
theorem Zs5(n c m:Nat)(hm:m<=3)(hn:n<p7 m)(hc:c<128):Zw .or .i64 (n:Int) (IntKind.i64.wrap ((c:Int)*2 ^ (Nat.min ((7:Int)*(m:Int)).toNat IntKind.i64.bits)))=((n+c*p7 m:Nat):Int):=by
 have hp:p7 m=2 ^ (7*m):=by
  have:∀k,p7 k=2 ^ (7*k):=λk=>by
   induction k with
   | zero=>rfl
   | succ k ih=>rw[p7,ih,Nat.mul_succ,Nat.pow_add];omega
  exact this m
 have hpm:=Za9 hm;have hp3:p7 3=2097152:=rfl;have q1:c*p7 m<=127*p7 m:=Nat.mul_le_mul_right _ (by omega);have e0:IntKind.i64.wrap ((c:Int)*2 ^ (Nat.min ((7:Int)*(m:Int)).toNat IntKind.i64.bits))=((c*p7 m:Nat):Int):=by
  have:Nat.min ((7:Int)*(m:Int)).toNat IntKind.i64.bits=7*m:=by
   have e:((7:Int)*(m:Int)).toNat=7*m:=by omega
   rw[e];exact Nat.min_eq_left (by show 7*m<=64;omega)
  rw[this];have e2:(c:Int)*2 ^ (7*m)=((c*p7 m:Nat):Int):=by rw[hp];simp
  rw[e2,Z79 _ (by omega)]
 rw[e0];simp only[Zw]
 show IntKind.i64.wrap (((BitVec.ofInt 64 (n:Int)) ||| (BitVec.ofInt 64 ((c*p7 m:Nat):Int))).toNat:Int)=_
 rw[BitVec.toNat_or,Z2c _ (by omega),Z2c _ (by omega)];have e:n ||| c*p7 m=n+c*p7 m:=by have:=Nat.two_pow_add_eq_or_of_lt (i:=7*m) (b:=n) (by rw[<- hp];exact hn) c;rw[hp,Nat.mul_comm c,Nat.or_comm,<- this,Nat.add_comm]
 rw[e,Z79 _ (by omega)]
theorem Zac(w:World)(s:List UInt8)(at_:Int)(hs:s.length<4611686018427387904):Calls Tryz.prog 39 #[.string ⟨s.toArray⟩,.int .i64 at_] w λe w'=>e=.returned (.tuple #[.int .i64 (getL s at_).1,.int .i64 (getL s at_).2.1,.int .i64 (getL s at_).2.2])/\Mod [] w w':=by
 refine Z1 (Z4 (J:=[.s s,.i at_]) sxE_ok Tryz.func39 Z83 rfl rfl rfl ?_) rfl;simp only[QQ,Nat.reduceAdd];refine⟨λh w' hr=>⟨by rw[Zbt h],hr.mod⟩,λh=>?_⟩;obtain⟨a,rfl⟩:∃a:Nat,at_=a:=⟨at_.toNat,by omega⟩
 have e0:getL s a=glF 4 0 0 (s.drop a):=by rw[getL,if_pos (by omega),qy4]
 rw[e0];obtain⟨k,hk,hka⟩:∃k:Nat,(if(a:Int)+4<(s.length:Int)then(a:Int)+4 else(s.length:Int))=((a+k:Nat):Int)/\(k=4/\a+4<s.length\/k<=4/\a+k=s.length):=by
  by_cases h4:(a:Int)+4<s.length
  ·exact⟨4,by rw[if_pos h4];omega,by omega⟩
  ·exact⟨s.length - a,by rw[if_neg h4];omega,by omega⟩
 rw[hk]
 (repeat refine⟨by omega,?_⟩)
 intro v;refine⟨λvs=>∃(m n:Nat) (x y z:V),vs=[x,y,z,.i n,.i m]/\m<=k/\n<p7 m/\glF (4 - m) m n (s.drop (a+m))=glF 4 0 0 (s.drop a),λvs=>(k - (vs.getD 4 (.i 0)).toI).toNat,⟨0,0,_,_,_,rfl,by omega,by decide,rfl⟩,?_⟩;rintro _ - ⟨m,n,x,y,z,rfl,hm,hn,hg⟩;simp only[QQ,Nat.reduceAdd,qy3,List.length_drop,List.length_take,Zqp,qy4];have hp:=Za9 (show m<=4 by omega);have hp4:p7 4=268435456:=rfl;refine⟨λh3=>?_,λh3=>?_⟩
 ·obtain⟨g,hgm⟩:∃g,4 - m=g+1:=⟨3 - m,by omega⟩
  rw[hgm,Zho (by omega)]at hg;rw[Zm1 _ _ _ _ (by omega)];have hc:=Z60 (s.getD (a+m) 0);generalize hcc:(s.getD (a+m) 0).toNat=c at hg hc⊢
  rw[Zs3 c hc,Zs4 c hc];rw[Zs5 n (c % 128) m (by omega) hn (by omega)];have q1:c % 128*p7 m<=127*p7 m:=Nat.mul_le_mul_right _ (by omega)
  (repeat refine⟨by omega,?_⟩)
  refine⟨λh5=>?_,λh5=>?_⟩
  ·have h5:¬c<128:=λh=>h5 (by rw[if_pos h]);rw[if_neg h5]at hg;refine⟨by omega,by omega,⟨m+1,n+c % 128*p7 m,x,y,z,rfl,by omega,by simp only[p7];omega,?_⟩,by omega⟩;rw[<- hg,show 4 - (m+1)=g by omega];rfl
  ·have h5:c<128:=by
    rcases Nat.lt_or_ge c 128 with h|h
    ·exact h
    ·exact absurd (by rw[if_neg (by omega)];decide) h5
   rw[if_pos h5]at hg;refine⟨λh6 w' hr=>⟨?_,hr.mod⟩,λh6=>⟨by omega,by omega,λw' hr=>⟨?_,hr.mod⟩⟩⟩
   ·rw[if_pos (by omega)]at hg;rw[<- hg]
   ·rw[if_neg (by omega)]at hg;rw[<- hg];rfl
 ·have:m=k:=by omega
  subst this;refine⟨by omega,by omega,λh4 w' hr=>⟨?_,hr.mod⟩,λh4 w' hr=>⟨?_,hr.mod⟩⟩
  ·obtain⟨g,hgm⟩:∃g,4 - m=g+1:=⟨3 - m,by omega⟩
   rw[hgm,Zm3 (by omega)]at hg;rw[<- hg]
  ·have:m=4:=by omega
   subst this;rw[<- hg];rfl
theorem Z8(k:Nat)(n:Int):(numB k n).length=k:=by simp[numB]
def txtB(t:List UInt8):List UInt8:=numB 2 t.length++t
theorem Z7a(w:World)(t:List UInt8)(ht:t.length<4611686018427387904):Calls Tryz.prog 66 #[.string ⟨t.toArray⟩] w λe w'=>e=.returned (.string ⟨(txtB t).toArray⟩)/\Mod [] w w':=by refine Z1 (Z4 (J:=[.s t]) sxE_ok Tryz.func66 Z4l rfl rfl rfl ?_) rfl;simp only[QQ,Nat.reduceAdd];refine⟨[.s (numB 2 t.length)],rfl,λ_ w' _=>Zs w' t.length 2 (by omega) (by omega) (by omega),?_⟩;simp only[QQ,Nat.reduceAdd];exact⟨by rw[Z8];omega,λw' hr=>⟨rfl,hr.mod⟩⟩
theorem Zg6(w:World)(t:List UInt8)(ht:t.length<4611686018427387904):Calls Tryz.prog 134 #[.string ⟨t.toArray⟩] w λe w'=>e=.returned (.string ⟨(txtB t).toArray⟩)/\Mod [] w w':=by refine Z1 (Z4 (J:=[.s t]) sxE_ok Tryz.func134 Z6j rfl rfl rfl ?_) rfl;simp only[QQ,Nat.reduceAdd];refine⟨[.s (numB 2 t.length)],rfl,λ_ w' _=>Z3y w' t.length 2 (by omega) (by omega) (by omega),?_⟩;simp only[QQ,Nat.reduceAdd];exact⟨by rw[Z8];omega,λw' hr=>⟨rfl,hr.mod⟩⟩
def getT(s:List UInt8)(at_:Int):List UInt8×Int×Int :=
 if(getR s at_ 2).2=0 then
  if(s.length:Int) - at_ - 2<(getR s at_ 2).1 then([],0,8)else((s.take (at_+2+(getR s at_ 2).1).toNat).drop (at_+2).toNat,(getR s at_ 2).1+2,0)
 else([],0,(getR s at_ 2).2)
theorem Zec{s:List UInt8}{at_ b:Int}(h:(getR s at_ b).2=0):(1<=b/\b<=4)/\(0<=at_/\at_<=s.length)/\¬(s.length:Int) - at_<b:=by
 unfold getR at h;split at h
 ·split at h
  ·split at h
   ·simp at h
   ·exact⟨‹_›,‹_›,‹_›⟩
  ·simp at h
 ·simp at h
theorem Zg7(w:World)(s:List UInt8)(at_:Int)(hs:s.length<4611686018427387904):Calls Tryz.prog 64 #[.string ⟨s.toArray⟩,.int .i64 at_] w λe w'=>e=.returned (.tuple #[.string ⟨(getT s at_).1.toArray⟩,.int .i64 (getT s at_).2.1,.int .i64 (getT s at_).2.2])/\Mod [] w w':=by refine Z1 (Z4 (J:=[.s s,.i at_]) sxE_ok Tryz.func64 Z3f rfl rfl rfl ?_) rfl;simp only[QQ,Nat.reduceAdd];have CALLEE:=Zcr;refine⟨[.i (getR s at_ 2).1,.i (getR s at_ 2).2],rfl,λ_ w' _=>CALLEE w' s at_ 2 hs,?_⟩;have hb:=Z89 s at_ 2;have hz:=@Zec s at_ 2;simp only[QQ,Nat.reduceAdd];refine⟨λh w' hr=>⟨by rw[getT,if_neg h],hr.mod⟩,λh=>?_⟩;have h0:=Decidable.not_not.1 h;have h1:=hz h0;(repeat refine⟨by omega,?_⟩);refine⟨λh2 w' hr=>⟨by rw[getT,if_pos h0,if_pos h2],hr.mod⟩,λh2=>?_⟩;(repeat refine⟨by omega,?_⟩);refine λw' hr=>⟨?_,hr.mod⟩;rw[getT,if_pos h0,if_neg h2];rw[h0]
theorem Zm5(w:World)(s:List UInt8)(at_:Int)(hs:s.length<4611686018427387904):Calls Tryz.prog 112 #[.string ⟨s.toArray⟩,.int .i64 at_] w λe w'=>e=.returned (.tuple #[.string ⟨(getT s at_).1.toArray⟩,.int .i64 (getT s at_).2.1,.int .i64 (getT s at_).2.2])/\Mod [] w w':=by refine Z1 (Z4 (J:=[.s s,.i at_]) sxE_ok Tryz.func112 Z7s rfl rfl rfl ?_) rfl;simp only[QQ,Nat.reduceAdd];have CALLEE:=Zcs;refine⟨[.i (getR s at_ 2).1,.i (getR s at_ 2).2],rfl,λ_ w' _=>CALLEE w' s at_ 2 hs,?_⟩;have hb:=Z89 s at_ 2;have hz:=@Zec s at_ 2;simp only[QQ,Nat.reduceAdd];refine⟨λh w' hr=>⟨by rw[getT,if_neg h],hr.mod⟩,λh=>?_⟩;have h0:=Decidable.not_not.1 h;have h1:=hz h0;(repeat refine⟨by omega,?_⟩);refine⟨λh2 w' hr=>⟨by rw[getT,if_pos h0,if_pos h2],hr.mod⟩,λh2=>?_⟩;(repeat refine⟨by omega,?_⟩);refine λw' hr=>⟨?_,hr.mod⟩;rw[getT,if_pos h0,if_neg h2]
theorem Zhp(k n:Nat):numB k (n:Int)=(List.range k).map λj=>UInt8.ofNat (n / pw (k - 1 - j) % 256):=by refine List.map_congr_left λj _=>?_;congr 1
theorem Zm6(k n:Nat):numB (k+1) (n:Int)=numB k ((n / 256:Nat):Int)++[UInt8.ofNat (n % 256)]:=by
 rw[Zhp,Zhp,List.range_succ,List.map_append];congr 1
 ·refine List.map_congr_left λj hj=>?_;have hj:j<k:=by simpa using hj
  have e:k+1 - 1 - j=(k - 1 - j)+1:=by omega
  rw[e]
  show UInt8.ofNat (n / (256*pw (k - 1 - j)) % 256)=UInt8.ofNat (n / 256 / pw (k - 1 - j) % 256)
  rw[Nat.div_div_eq_div_mul]
 ·have e:k+1 - 1 - k=0:=by omega
  rw[List.map_cons,List.map_nil,e];simp[pw]
theorem Zct:∀(k n:Nat),n<pw k->beN (numB k n) 0=n
 | 0,n,h=>by
  have h:n<1:=h;have:n=0:=by omega
  subst this;rfl
 | k+1,n,h=>by
  have h:n<256*pw k:=h;have ih:=Zct k (n / 256) (by omega);rw[Zm6,Zhl,ih];have:(UInt8.ofNat (n % 256)).toNat=n % 256:=by simp
  omega
theorem Zhq(b:List UInt8):∀(g f i n x:Nat),x<p7 (g+1)->g<f->(i=0\/0<x)->glF f i n (lngB g x++b)=(((n+x*p7 i:Nat):Int),((i+(lngB g x).length:Nat):Int),0)
 | 0,f+1,i,n,x,hx,hf,hi=>by
  have hx:x<128:=hx;have e:(UInt8.ofNat x).toNat=x:=by simp;omega
  show glF (f+1) i n ([UInt8.ofNat x]++b)=_
  simp only[List.cons_append,List.nil_append,glF,e,lngB,List.length_cons,List.length_nil];rw[if_pos hx,if_neg (by omega),Nat.mod_eq_of_lt hx]
 | g+1,f+1,i,n,x,hx,hf,hi=>by
  by_cases h:x<128
  ·have e:(UInt8.ofNat x).toNat=x:=by simp;omega
   rw[Z88 _ _ h];simp only[List.cons_append,List.nil_append,glF,e,List.length_cons,List.length_nil];rw[if_pos h,if_neg (by omega),Nat.mod_eq_of_lt h]
  ·have hx:x<128*p7 (g+1):=hx;have e:(UInt8.ofNat (x % 128+128)).toNat=x % 128+128:=by simp;omega
   have e2:lngB (g+1) x=UInt8.ofNat (x % 128+128)::lngB g (x / 128):=by rw[lngB,if_neg h]
   rw[e2];simp only[List.cons_append,glF,e,List.length_cons];rw[if_neg (by omega),Zhq b g f (i+1) _ (x / 128) (by omega) (by omega) (by omega)];have e3:(x % 128+128) % 128=x % 128:=by omega
   have e4:x % 128*p7 i+x / 128*(128*p7 i)=x*p7 i:=by rw[<- Nat.mul_assoc,<- Nat.add_mul];congr 1;omega
   rw[e3];refine Prod.ext ?_ (Prod.ext ?_ rfl)
   ·show((n+x % 128*p7 i+x / 128*p7 (i+1):Nat):Int)=_
    rw[p7,Nat.add_assoc,e4]
   ·show((i+1+(lngB g (x / 128)).length:Nat):Int)=_
    congr 1;omega
end Go.Proofs.Y
namespace Go.Proofs
open Go.Shelf
def Tryz.lays221_ren:Go.Shelf.Ren:=⟨fun|221=>123|268=>138|138=>139|143=>132|195=>153|197=>154|218=>155|219=>146|260=>164|217=>157|225=>158|224=>159|267=>160|266=>165|314=>166|n=>n,fun|9=>9|3=>3|31=>92|4=>4|0=>0|105=>168|21=>21|5=>5|46=>75|119=>177|139=>180|138=>179|146=>175|51=>174|n=>n,fun|1=>0|3=>1|4=>2|n=>n⟩
theorem Tryz.lays221:Go.Proofs.Lays.n221 Tryz.prog Tryz.lays221_ren:={
 mixed:=by kernel_rfl
 f138:=qF Tryz.func139 (by kernel_rfl)
 f143:=qF Tryz.func132 (by kernel_rfl)
 f195:=qF Tryz.func153 (by kernel_rfl)
 f197:=qF Tryz.func154 (by kernel_rfl)
 f217:=qF Tryz.func157 (by kernel_rfl)
 f218:=qF Tryz.func155 (by kernel_rfl)
 f219:=qF Tryz.func146 (by kernel_rfl)
 f221:=qF Tryz.func123 (by kernel_rfl)
 f224:=qF Tryz.func159 (by kernel_rfl)
 f225:=qF Tryz.func158 (by kernel_rfl)
 f260:=qF Tryz.func164 (by kernel_rfl)
 f266:=qF Tryz.func165 (by kernel_rfl)
 f267:=qF Tryz.func160 (by kernel_rfl)
 f268:=qF Tryz.func138 (by kernel_rfl)
 f314:=qF Tryz.func166 (by kernel_rfl)
 t0:=Tryz.underlying0
 a0:=Tryz.isAgg0
 z0:=Tryz.sizeOf0
 v0:=Tryz.zeroValue0
 t3:=Tryz.underlying3
 a3:=Tryz.isAgg3
 z3:=Tryz.sizeOf3
 v3:=Tryz.zeroValue3
 t4:=Tryz.underlying4
 a4:=Tryz.isAgg4
 z4:=Tryz.sizeOf4
 v4:=Tryz.zeroValue4
 t5:=Tryz.underlying5
 a5:=Tryz.isAgg5
 z5:=Tryz.sizeOf5
 v5:=Tryz.zeroValue5
 t9:=Tryz.underlying9
 a9:=Tryz.isAgg9
 z9:=Tryz.sizeOf9
 v9:=Tryz.zeroValue9
 t21:=Tryz.underlying21
 a21:=Tryz.isAgg21
 z21:=Tryz.sizeOf21
 v21:=Tryz.zeroValue21
 t31:=Tryz.underlying92
 a31:=Tryz.isAgg92
 z31:=Tryz.sizeOf92
 v31:=Tryz.zeroValue92
 t46:=Tryz.underlying75
 a46:=Tryz.isAgg75
 z46:=Tryz.sizeOf75
 v46:=Tryz.zeroValue75
 t51:=Tryz.underlying174
 a51:=Tryz.isAgg174
 z51:=Tryz.sizeOf174
 v51:=Tryz.zeroValue174
 t105:=Tryz.underlying168
 a105:=Tryz.isAgg168
 z105:=Tryz.sizeOf168
 v105:=Tryz.zeroValue168
 t119:=Tryz.underlying177
 a119:=Tryz.isAgg177
 z119:=Tryz.sizeOf177
 t138:=Tryz.underlying179
 a138:=Tryz.isAgg179
 z138:=Tryz.sizeOf179
 v138:=Tryz.zeroValue179
 t139:=Tryz.underlying180
 a139:=Tryz.isAgg180
 z139:=Tryz.sizeOf180
 v139:=Tryz.zeroValue180
 t146:=Tryz.underlying175
 a146:=Tryz.isAgg175
 z146:=Tryz.sizeOf175
 v146:=Tryz.zeroValue175
 g1:=by kernel_rfl
 g3:=by kernel_rfl
 g4:=by kernel_rfl }
def Tryz.lays150_ren:Go.Shelf.Ren:=⟨fun|150=>119|153=>136|152=>149|226=>150|227=>141|228=>151|137=>162|119=>163|224=>159|225=>158|217=>157|266=>165|n=>n,fun|9=>9|4=>4|3=>3|5=>5|21=>21|117=>157|116=>156|0=>0|46=>75|124=>160|n=>n,fun|n=>n⟩
theorem Tryz.lays150:Go.Proofs.Lays.n150 Tryz.prog Tryz.lays150_ren:={
 mixed:=by kernel_rfl
 f119:=qF Tryz.func163 (by kernel_rfl)
 f137:=qF Tryz.func162 (by kernel_rfl)
 f150:=qF Tryz.func119 (by kernel_rfl)
 f152:=qF Tryz.func149 (by kernel_rfl)
 f153:=qF Tryz.func136 (by kernel_rfl)
 f217:=qF Tryz.func157 (by kernel_rfl)
 f224:=qF Tryz.func159 (by kernel_rfl)
 f225:=qF Tryz.func158 (by kernel_rfl)
 f226:=qF Tryz.func150 (by kernel_rfl)
 f227:=qF Tryz.func141 (by kernel_rfl)
 f228:=qF Tryz.func151 (by kernel_rfl)
 f266:=qF Tryz.func165 (by kernel_rfl)
 t0:=Tryz.underlying0
 a0:=Tryz.isAgg0
 z0:=Tryz.sizeOf0
 v0:=Tryz.zeroValue0
 t3:=Tryz.underlying3
 a3:=Tryz.isAgg3
 z3:=Tryz.sizeOf3
 v3:=Tryz.zeroValue3
 t4:=Tryz.underlying4
 a4:=Tryz.isAgg4
 z4:=Tryz.sizeOf4
 v4:=Tryz.zeroValue4
 t5:=Tryz.underlying5
 a5:=Tryz.isAgg5
 z5:=Tryz.sizeOf5
 v5:=Tryz.zeroValue5
 t9:=Tryz.underlying9
 a9:=Tryz.isAgg9
 z9:=Tryz.sizeOf9
 v9:=Tryz.zeroValue9
 t21:=Tryz.underlying21
 a21:=Tryz.isAgg21
 z21:=Tryz.sizeOf21
 v21:=Tryz.zeroValue21
 t46:=Tryz.underlying75
 a46:=Tryz.isAgg75
 z46:=Tryz.sizeOf75
 v46:=Tryz.zeroValue75
 t116:=Tryz.underlying156
 a116:=Tryz.isAgg156
 z116:=Tryz.sizeOf156
 t117:=Tryz.underlying157
 a117:=Tryz.isAgg157
 z117:=Tryz.sizeOf157
 v117:=Tryz.zeroValue157
 t124:=Tryz.underlying160
 a124:=Tryz.isAgg160
 z124:=Tryz.sizeOf160
 v124:=Tryz.zeroValue160 }
end Go.Proofs
namespace Go.Proofs.Y
open Go.Sx
def Z1s(s:List UInt8):List Value:=[.string ⟨s.toArray⟩]
theorem Z9(ps:List (List UInt8))(i:Nat):Value.gS (((ps.map Z1s).getD i []).getD 0 undef)=ps.getD i []:=by simp only[qy1,List.getElem?_map];cases ps[i]?<;>simp[Z1s,Value.gS,undef]
abbrev Zbu(w:World)(v:Value)(ps:List (List UInt8)):Prop:=reads w v [.str] (ps.map Z1s)
def Zhr(n:Nat)(v:Value)(ps:List (List UInt8)):Prop:=∀k,(ps.map Z1s).flatten≠[]/\Z3 v k->n<=k
theorem Zg8(ps:List (List UInt8))(i:Nat)(h:i<ps.length):ps.drop i=ps.getD i []::ps.drop (i+1):=by rw[List.drop_eq_getElem_cons h,qy1,qy7 h];rfl
theorem Zbv(s:List UInt8)(k:Nat)(h:k<s.length):s.drop k=s.getD k 0::s.drop (k+1):=by rw[List.drop_eq_getElem_cons h,qy1,qy7 h];rfl
def lev:List UInt8->List (List UInt8)
 | []=>[[]]
 | c::l=>if c=47 then[]::lev l else match lev l with | []=>[[c]] | x::xs=>(c::x)::xs
def glue(p:List UInt8):List (List UInt8)->List (List UInt8)
 | []=>[]
 | x::xs=>(p++x)::xs
theorem Zhs(l:List (List UInt8)):glue [] l=l:=by cases l<;>rfl
theorem Zht(s:List UInt8):∃x xs,lev s=x::xs:=by
 cases s with
 | nil=>exact⟨[],[],rfl⟩
 | cons c l =>
  simp only[lev];split
  ·exact⟨_,_,rfl⟩
  ·split<;>exact⟨_,_,rfl⟩
theorem Z5g(l:List UInt8):lev (47::l)=[]::lev l:=by simp[lev]
theorem Z48{c:UInt8}(l:List UInt8)(h:c≠47):lev (c::l)=glue [c] (lev l):=by obtain⟨x,xs,e⟩:=Zht l;simp[lev,if_neg h,e,glue]
theorem Zm7(p q:List UInt8)(l:List (List UInt8)):glue p (glue q l)=glue (p++q) l:=by cases l<;>simp[glue]
theorem Zjh(w:World)(s:List UInt8)(hs:s.length<1099511627776):Calls Tryz.prog 111 #[.string ⟨s.toArray⟩] w λe w'=>∃v,e=.returned (sc1 v)/\Zbu w' v (lev s)/\Zhr w.heap.size v (lev s)/\Mod [] w w':=by
 refine Z1 (Z4 (J:=[.s s]) sxE_ok Tryz.func111 Z3u rfl rfl rfl ?_) rfl;simp only[QQ,Nat.reduceAdd];refine⟨λvs=>∃(v:Value) (acc:List (List UInt8)) (a i:Nat),vs=[.v v,.r (acc.map Z1s),.i a,.i i]/\acc.length<=i /\
   (i<=s.length/\a<=i/\acc++glue ((s.take i).drop a) (lev (s.drop i))=lev s\/i=s.length+1/\acc=lev s),λvs=>s.length+1 - (vs.getD 3 (.i 0)).toI.toNat,⟨_,[],0,0,rfl,by simp,.inl ⟨by omega,by omega,by simp[Zhs]⟩⟩,?_⟩
 rintro _ - ⟨v,acc,a,i,rfl,hal,hinv⟩;simp only[QQ,Nat.reduceAdd,qy3,qy4];refine⟨λh1=>?_,λh1 w' hr=>?_⟩
 ·obtain⟨hi,ha,hg⟩:=hinv.resolve_right λh=>by omega
  refine⟨.inr (by omega),by omega,λh2=>?_,λh2=>?_⟩
  ·(repeat refine⟨by omega,?_⟩)
   intro v1;refine⟨by omega,λv2=>⟨by omega,by omega,⟨v2,acc++[(s.take i).drop a],i+1,i+1,by simp[Z1s],by simp;omega,?_⟩,by omega⟩⟩;by_cases h3:i=s.length
   ·subst h3;rw[List.drop_length]at hg;exact .inr ⟨rfl,by rw[<- hg];simp[lev,glue]⟩
   ·refine .inl ⟨by omega,by omega,?_⟩;have h4:s.getD i 0=47:=by
     have:(s.getD i 0).toNat=47:=by
      rcases h2 with h2|h2
      ·omega
      ·omega
     exact UInt8.toNat_inj.1 this
    rw[Zbv s i (by omega),h4,Z5g]at hg;have hz:glue ((s.take (i+1)).drop (i+1)) (lev (s.drop (i+1)))=lev (s.drop (i+1)):=by rw[List.drop_of_length_le (by simp;omega),Zhs]
    rw[hz,<- hg];simp[glue]
  ·refine⟨by omega,by omega,⟨v,acc,a,i+1,rfl,by omega,.inl ⟨by omega,by omega,?_⟩⟩,by omega⟩;have h4:s.getD i 0≠47:=λh=>h2 (.inr (by rw[h];rfl));rw[Zbv s i (by omega),Z48 _ h4,Zm7]at hg;rw[<- hg];congr 2
   rw[List.take_add_one,List.drop_append_of_le_length (by simp;omega),qy1];rw[qy7 (by omega)];rfl
 ·obtain⟨hi,hg⟩:=hinv.resolve_left λh=>by omega
  subst hg;refine⟨v,rfl,owns.reads (hr.at_ 0 rfl),λk hk=>?_,hr.mod⟩;rcases hr.own _ (qy8 ..) rfl k hk.2 with h|h
  ·exact h
  ·simp at h
theorem Zhu:∀{s:List UInt8},Lib.indexByte s 47=-1->lev s=[s]:=by
 intro s;induction s with
 | nil=>intro _;rfl
 | cons c l ih =>
  intro h;unfold Lib.indexByte at h;split at h
  ·exact absurd h (by decide)
  ·rename_i hc;have hc:c≠47:=by simpa using hc
   split at h
   ·rename_i h2;rw[Z48 _ hc,ih (by simpa using h2)];rfl
   ·have:=Lib.indexByte_ge l 47;omega
theorem Zm8:∀{s:List UInt8} {i:Nat},Lib.indexByte s 47=i->lev s=s.take i::lev (s.drop (i+1))/\s.count 47=(s.drop (i+1)).count 47+1:=by
 intro s;induction s with
 | nil=>intro i h;unfold Lib.indexByte at h;omega
 | cons c l ih =>
  intro i h;unfold Lib.indexByte at h;split at h
  ·rename_i hc;have hc:c=47:=by simpa using hc
   have:i=0:=by omega
   subst this hc;rw[Z5g];simp
  ·rename_i hc;have hc:c≠47:=by simpa using hc
   split at h
   ·omega
   ·rename_i h2;have h3:=Lib.indexByte_ge l 47;have h2:¬Lib.indexByte l 47=-1:=by simpa using h2
    obtain⟨j,hj⟩:∃j:Nat,Lib.indexByte l 47=j:=⟨(Lib.indexByte l 47).toNat,by omega⟩
    have hij:i=j+1:=by omega
    subst hij;obtain⟨e1,e2⟩:=ih hj;rw[Z48 _ hc,e1];refine⟨by simp[glue],?_⟩;rw[List.count_cons_of_ne hc,e2];simp
theorem Zji:∀(k:Nat) (s:List UInt8),s.count 47=k->Lib.splitK [47] 0 k s=lev s:=by
 intro k;induction k with
 | zero =>
  intro s h;unfold Lib.splitK;refine(Zhu ?_).symm;rcases Int.lt_or_le (Lib.indexByte s 47) 0 with h1|h1
  ·have:=Lib.indexByte_ge s 47;omega
  ·obtain⟨i,hi⟩:∃i:Nat,Lib.indexByte s 47=i:=⟨(Lib.indexByte s 47).toNat,by omega⟩
   have:=(Zm8 hi).2;omega
 | succ k ih =>
  intro s h;unfold Lib.splitK;rw[Lib.index_one];by_cases h1:Lib.indexByte s 47=-1
  ·rw[if_pos (by simpa using h1),Zhu h1]
  ·rw[if_neg (by simpa using h1)];obtain⟨i,hi⟩:∃i:Nat,Lib.indexByte s 47=i:=⟨(Lib.indexByte s 47).toNat,by have h5:=Lib.indexByte_ge s 47;have h6:¬Lib.indexByte s 47=-1:=h1;omega⟩
   obtain⟨e1,e2⟩:=Zm8 hi;rw[hi,e1,<- ih (s.drop (i+1)) (by omega)];simp
theorem Zjj(w:World)(s:List UInt8)(hs:s.length<4294967281):Calls Tryz.prog 123 #[.string ⟨s.toArray⟩,.string ⟨#[47]⟩,.int .i64 0,.int .i64 (-1)] w λe w'=>∃v,e=.returned (sc1 v)/\Zbu w' v (lev s)/\Zhr w.heap.size v (lev s)/\Mod [] w w':=by
 have hsz:(⟨s.toArray⟩:ByteArray).size=s.length:=rfl;have hcount:Lib.countB ⟨s.toArray⟩ ⟨#[47]⟩=s.count 47:=Lib.count_one 47 s;have hc1:s.count 47<=s.length:=List.count_le_length;have c:=Any.strings_genSplit_core Tryz.lays221 (by kernel_rfl) ⟨s.toArray⟩ ⟨#[47]⟩ 0 (-1) (s.count 47+1) w (by rw[hsz];exact hs) (by decide) (Nat.zero_le _)
  (λx c hx=>(Any.strings_Index_one { Tryz.lays221 with } x 47 _).mono λe w' ⟨h1,h2⟩=>⟨by rw[h1];show _=Ending.returned (Value.int .i64 (Lib.index x.data.toList [47]));rw[Lib.index_one],h2⟩)
  ((Any.strings_Count_one { Tryz.lays221 with } ⟨s.toArray⟩ 47 w).mono λe w' ⟨h1,h2⟩=>⟨by rw[h1,hcount];rfl,h2⟩) (by decide) (by decide) (by rw[if_pos (by decide),hcount,hsz];omega)
 refine(Z1 c rfl).mono ?_;rintro e w' ⟨rfl,rfl⟩;rw[Nat.add_sub_cancel];have hdata:=Lib.splitB_data ⟨#[47]⟩ 0 (s.count 47) ⟨s.toArray⟩;have hlev:(Lib.splitB ⟨#[47]⟩ 0 (s.count 47) ⟨s.toArray⟩).map (·.data.toList)=lev s:=hdata.trans (Zji _ s rfl);have hlen:=Lib.splitB_all ⟨#[47]⟩ (by decide) 0 (s.count 47) ⟨s.toArray⟩ hcount;generalize Lib.splitB ⟨#[47]⟩ 0 (s.count 47) ⟨s.toArray⟩=pcs at hlev hlen
 rw[hlen];have hll:(lev s).length=s.count 47+1:=by rw[<- hlev,qy3,hlen]
 have hfull:Lib.cellsOf pcs (s.count 47+1)=(pcs.map Value.string).toArray:=by rw[<- hlen];exact Lib.cellsOf_full _
 have hrow:(lev s).map Z1s=pcs.map λb=>[Value.string b]:=by rw[<- hlev,List.map_map];refine List.map_congr_left λb _=>?_;obtain⟨⟨l⟩⟩:=b;rfl
 have hfl:(pcs.map λb=>[Value.string b]).flatten=pcs.map Value.string:=by clear hlev hlen hfull hrow;induction pcs<;>simp_all
 refine⟨.slice (some ⟨w.heap.size,0,none⟩) (s.count 47+1) (s.count 47+1),rfl,⟨?_,some ⟨w.heap.size,0,none⟩,s.count 47+1,by rw[qy3,hll],⟨(λh=>by cases h),by rw[qy3,hll];exact Nat.le_refl _⟩,λ_=>⟨_,rfl,λj u hj=>?_⟩⟩,λk hk=>?_,Mod.alloc [] w _⟩
 ·intro r hr;obtain⟨x,-,rfl⟩:=List.mem_map.1 hr;exact⟨⟨_,rfl⟩,trivial⟩
 ·rw[hrow,hfl]at hj;rw[Zbf,Nat.zero_add,hfull];exact(World.cell?_alloc_new ..).trans (by simpa using hj)
 ·have h:=hk.2;simp only[Z3,Value.ownBlock,Option.some.injEq]at h;omega
theorem Zs6(w:World)(s:List UInt8)(hs:s.length<4294967281):Calls Tryz.prog 99 #[.string ⟨s.toArray⟩,.string ⟨#[47]⟩] w λe w'=>∃v,e=.returned (sc1 v)/\Zbu w' v (lev s)/\Zhr w.heap.size v (lev s)/\Mod [] w w':=by refine Z1 (Z4 (J:=[.s s,.s [47]]) sxE_ok Tryz.func99 Z78 rfl rfl rfl ?_) rfl;simp only[QQ,Nat.reduceAdd];intro w1 hr;refine(Zjj w1 s hs).mono ?_;rintro e w2 ⟨v1,rfl,r1,f1,m1⟩;have hsz:=hr.mod.size;refine⟨[.v v1,.r ((lev s).map Z1s)],rfl,rfl,m1,qy5 _,qy2.2 ⟨⟨r1,λk hk=>.inl (f1 k hk)⟩,qy5 _⟩,Z6,?_⟩;simp only[QQ,Nat.reduceAdd];exact λw' hr=>⟨v1,rfl,hr.at_ 0 rfl,λk hk=>Nat.le_trans hsz (f1 k hk),hr.mod⟩
theorem Z9d(w:World)(s:List UInt8)(hs:s.length<4294967281):Calls Tryz.prog 50 #[.string ⟨s.toArray⟩] w λe w'=>∃v,e=.returned (sc1 v)/\Zbu w' v (lev s)/\Zhr w.heap.size v (lev s)/\Mod [] w w':=by refine Z1 (Z4 (J:=[.s s]) sxE_ok Tryz.func50 Z7t rfl rfl rfl ?_) rfl;simp only[QQ,Nat.reduceAdd];intro w1 hr;refine(Zs6 w1 s hs).mono ?_;rintro e w2 ⟨v1,rfl,r1,f1,m1⟩;have hsz:=hr.mod.size;refine⟨[.v v1,.r ((lev s).map Z1s)],rfl,rfl,m1,qy5 _,qy2.2 ⟨⟨r1,λk hk=>.inl (f1 k hk)⟩,qy5 _⟩,Z6,?_⟩;simp only[QQ,Nat.reduceAdd];exact λw' hr=>⟨v1,rfl,hr.at_ 0 rfl,λk hk=>Nat.le_trans hsz (f1 k hk),hr.mod⟩
def Z1t(s:List UInt8):Bool:=s.all λb=>decide (33<=b.toNat/\b.toNat<=126)
theorem Zbw(s:List UInt8)(i:Nat)(h:i<s.length):Z1t (s.take (i+1))=(Z1t (s.take i) && decide (33<=(s.getD i 0).toNat/\(s.getD i 0).toNat<=126)):=by rw[List.take_add_one,qy1,qy7 h];simp only[Z1t,List.all_append,Option.toList_some,List.all_cons,List.all_nil,Bool.and_true,Option.getD_some]
theorem Zed{s:List UInt8}{i:Nat}(h:i<s.length)(h1:¬(33<=(s.getD i 0).toNat/\(s.getD i 0).toNat<=126)):Z1t s=false:=by rw[<- Bool.not_eq_true];intro h2;rw[Z1t,List.all_eq_true]at h2;have:=h2 (s.getD i 0) (by rw[qy1,qy7 h];exact List.getElem_mem h);exact h1 (of_decide_eq_true this)
theorem Zee(w:World)(s:List UInt8)(hs:s.length<1099511627776):Calls Tryz.prog 110 #[.string ⟨s.toArray⟩] w λe w'=>e=.returned (.bool (Z1t s))/\Mod [] w w':=by
 refine Z1 (Z4 (J:=[.s s]) sxE_ok Tryz.func110 Z47 rfl rfl rfl ?_) rfl;simp only[QQ,Nat.reduceAdd];refine⟨λvs=>∃(x:V) (i:Nat),vs=[x,.i i]/\i<=s.length/\Z1t (s.take i)=true,λvs=>s.length - (vs.getD 1 (.i 0)).toI.toNat,⟨_,0,rfl,by omega,rfl⟩,?_⟩;rintro _ - ⟨x,i,rfl,hi,hp⟩;simp only[QQ,Nat.reduceAdd,qy4];refine⟨λh1=>⟨by omega,λh2 w' hr=>⟨by rw[Zed (i:=i) (by omega) (by omega)],hr.mod⟩,λh2=>⟨by omega,by omega,⟨x,i+1,rfl,by omega,?_⟩,by omega⟩⟩,λh1 w' hr=>⟨?_,hr.mod⟩⟩
 ·rw[Zbw _ _ (by omega),hp,Bool.true_and,decide_eq_true_eq];omega
 ·have:i=s.length:=by omega
  subst this;rw[List.take_length]at hp;rw[hp]
theorem Zg9(w:World)(s:List UInt8)(hs:s.length<1099511627776):Calls Tryz.prog 118 #[.string ⟨s.toArray⟩] w λe w'=>e=.returned (.bool (Z1t s))/\Mod [] w w':=by
 refine Z1 (Z4 (J:=[.s s]) sxE_ok Tryz.func118 Z8z rfl rfl rfl ?_) rfl;simp only[QQ,Nat.reduceAdd];refine⟨λvs=>∃(x:V) (i:Nat),vs=[x,.i i]/\i<=s.length/\Z1t (s.take i)=true,λvs=>s.length - (vs.getD 1 (.i 0)).toI.toNat,⟨_,0,rfl,by omega,rfl⟩,?_⟩;rintro _ - ⟨x,i,rfl,hi,hp⟩;simp only[QQ,Nat.reduceAdd,qy4];refine⟨λh1=>⟨by omega,λh2 w' hr=>⟨by rw[Zed (i:=i) (by omega) (by omega)],hr.mod⟩,λh2=>⟨by omega,by omega,⟨x,i+1,rfl,by omega,?_⟩,by omega⟩⟩,λh1 w' hr=>⟨?_,hr.mod⟩⟩
 ·rw[Zbw _ _ (by omega),hp,Bool.true_and,decide_eq_true_eq];omega
 ·have:i=s.length:=by omega
  subst this;rw[List.take_length]at hp;rw[hp]
def wild(x:List UInt8):Bool:=x.any λb=>b == 43 || b == 35
theorem Zp7:∀x:List UInt8,Lib.containsAny x [43,35]=wild x:=by
 intro x;induction x with
 | nil=>rfl
 | cons b l ih =>
  have hg:=Lib.indexAny_ge [43,35] l;unfold Lib.containsAny at ih⊢;unfold Lib.indexAny;simp only[wild,List.any_cons];by_cases h:b=43\/b=35
  ·have h1:([43,35]:List UInt8).contains b=true:=by rcases h with h|h<;>subst h<;>decide
   have h2:(b == 43 || b == 35)=true:=by rcases h with h|h<;>subst h<;>decide
   rw[if_pos h1,h2]<;>rfl
  ·have h1:¬([43,35]:List UInt8).contains b=true:=by simp;exact⟨λh2=>h (.inl h2),λh2=>h (.inr h2)⟩
   have h2:(b == 43 || b == 35)=false:=by simp;exact⟨λh2=>h (.inl h2),λh2=>h (.inr h2)⟩
   rw[if_neg h1,h2,Bool.false_or];change _=wild l;rw[<- ih];by_cases h3:Lib.indexAny l [43,35]=-1
   ·rw[if_pos (by simpa using h3),h3]<;>rfl
   ·rw[if_neg (by simpa using h3)];exact decide_eq_decide.2 (by omega)
theorem Z7b(w:World)(x:List UInt8)(hs:x.length<4294967281)(ha:∀b∈x,b.toNat<128):Calls Tryz.prog 119 #[.string ⟨x.toArray⟩,.string ⟨#[43,35]⟩] w λe w'=>e=.returned (.bool (wild x))/\Mod [] w w':=by
 refine(Z1 (Any.strings_ContainsAny_laid Tryz.lays150 (by kernel_rfl) ⟨x.toArray⟩ ⟨#[43,35]⟩ w hs (by decide) (λj b hb=>ha b (qy6 hb)) (λj b hb=>?_)) rfl).mono ?_
 ·have:b∈([43,35]:List UInt8):=qy6 hb;simp at this;rcases this with rfl|rfl<;>decide
 ·rintro e w' ⟨h1,h2⟩;refine⟨?_,Mod.of_below h2⟩;rw[h1];exact congrArg (λb=>Ending.returned (Value.bool b)) (Zp7 x)
def badL(filter:Bool):List (List UInt8)->Bool
 | []=>false
 | x::r=>(wild x && (!filter || (!decide (x=[43]) && (!decide (x=[35]) || !decide (r=[]))))) || badL filter r
def chkT(s:List UInt8)(filter:Bool):Int :=
 if s=[]then 1 else if 60<(s.length:Int)\/6<((lev s).length:Int)then 2 else if Z1t s=true then(if badL filter (lev s)=true then 1 else 0)else 1
theorem Zcu{f:Bool}:chkT [] f=1:=rfl
theorem Zad{s:List UInt8}{f:Bool}(h:¬s=[])(h1:60<(s.length:Int)\/6<((lev s).length:Int)):chkT s f=2:=by rw[chkT,if_neg h,if_pos h1]
theorem Z8a{s:List UInt8}{f:Bool}(h:¬s=[])(h1:¬(60<(s.length:Int)\/6<((lev s).length:Int)))(h2:¬Z1t s=true):chkT s f=1:=by rw[chkT,if_neg h,if_neg h1,if_neg h2]
theorem Zcv{s:List UInt8}{f:Bool}(h:¬s=[])(h1:¬(60<(s.length:Int)\/6<((lev s).length:Int)))(h2:Z1t s=true):chkT s f=if badL f (lev s)=true then 1 else 0:=by rw[chkT,if_neg h,if_neg h1,if_pos h2]
theorem Zs7:∀{s x:List UInt8},x∈lev s->∀b∈x,b∈s:=by
 intro s;induction s with
 | nil=>intro x hx b hb;simp[lev]at hx;subst hx;simp at hb
 | cons c l ih =>
  intro x hx b hb;by_cases hc:c=47
  ·subst hc;rw[Z5g]at hx;rcases List.mem_cons.1 hx with rfl|hx
   ·simp at hb
   ·exact qy10 _ (ih hx b hb)
  ·obtain⟨y,ys,e⟩:=Zht l;rw[Z48 _ hc,e]at hx;rcases List.mem_cons.1 hx with rfl|hx
   ·rcases qy13.1 hb with hb|hb
    ·simp at hb;subst hb;simp
    ·exact qy10 _ (ih (by rw[e];exact qy8 ..) b hb)
   ·exact qy10 _ (ih (by rw[e];exact qy10 _ hx) b hb)
theorem Z9e{ps:List (List UInt8)}{i:Nat}(h:i<ps.length):ps.getD i []∈ps:=by rw[qy1,qy7 h];exact List.getElem_mem h
theorem Zef{s:List UInt8}(hp:Z1t s=true){i:Nat}(h:i<(lev s).length):∀b∈(lev s).getD i [],b.toNat<128:=λb hb=>by have h1:=Zs7 (Z9e h) b hb;have:=of_decide_eq_true (List.all_eq_true.1 hp b h1);omega
theorem Zcw{s x:List UInt8}(hx:x∈lev s):x.length<=s.length:=by
 induction s generalizing x with
 | nil=>simp[lev]at hx;subst hx;simp
 | cons c l ih =>
  by_cases hc:c=47
  ·subst hc;rw[Z5g]at hx;rcases List.mem_cons.1 hx with rfl|hx
   ·simp
   ·have:=ih hx;simp;omega
  ·obtain⟨y,ys,e⟩:=Zht l;rw[Z48 _ hc,e]at hx;rcases List.mem_cons.1 hx with rfl|hx
   ·have:=ih (x:=y) (by rw[e];exact qy8 ..);simp;omega
   ·have:=ih (x:=x) (by rw[e];exact qy10 _ hx);simp;omega
theorem Zae(s:List UInt8):(lev s).length<=s.length+1:=by
 induction s with
 | nil=>simp[lev]
 | cons c l ih =>
  by_cases hc:c=47
  ·subst hc;rw[Z5g];simp;omega
  ·obtain⟨y,ys,e⟩:=Zht l;rw[Z48 _ hc,e];rw[e]at ih;simp[glue]at *;omega
theorem Zhv(w:World)(s:List UInt8)(hs:s.length<4294967281):Calls Tryz.prog 47 #[.string ⟨s.toArray⟩] w λe w'=>e=.returned (.int .i64 (chkT s false))/\Mod [] w w':=by
 refine Z1 (Z4 (J:=[.s s]) sxE_ok Tryz.func47 Za5 rfl rfl rfl ?_) rfl;simp only[QQ,Nat.reduceAdd];intro w1 hr;refine(Z9d w1 s (by omega)).mono ?_;rintro e w2 ⟨v1,rfl,r1,f1,m1⟩;refine⟨[.v v1,.r ((lev s).map Z1s)],rfl,rfl,m1,qy5 _,qy2.2 ⟨⟨r1,λk hk=>.inl (f1 k hk)⟩,qy5 _⟩,Z6,?_⟩;simp only[QQ,Nat.reduceAdd,qy3];have hlc:=Zae s;refine⟨λh w' hr=>⟨by rw[h,Zcu],hr.mod⟩,λh=>⟨λh1 w' hr=>⟨by rw[Zad h h1],hr.mod⟩,λh1=>?_⟩⟩;refine⟨[.b (Z1t s)],rfl,λ_ w' _=>Zg9 w' s (by omega),?_⟩;simp only[QQ,Nat.reduceAdd];refine⟨λh2 w' hr=>⟨by rw[Z8a h h1 h2],hr.mod⟩,λh2=>?_⟩;(have h2:=qy9.1 h2);rw[Zcv h h1 h2];refine⟨λvs=>∃(x:V) (i:Nat),vs=[x,.i i]/\i<=(lev s).length/\badL false ((lev s).drop i)=badL false (lev s),λvs=>(lev s).length - (vs.getD 1 (.i 0)).toI.toNat,⟨_,0,rfl,by omega,rfl⟩,?_⟩;rintro _ - ⟨x,i,rfl,hi,hg⟩;simp only[QQ,Nat.reduceAdd,qy4,qy3,Z9];refine⟨λh3=>?_,λh3 w' hr=>⟨?_,hr.mod⟩⟩
 ·rw[Zg8 _ i (by omega)]at hg;have hsz:=Zcw (Z9e (ps:=lev s) (i:=i) (by omega));have has:=Zef h2 (i:=i) (by omega);generalize (lev s).getD i []=y at hg hsz has⊢
  (repeat refine⟨by omega,?_⟩)
  refine⟨[.b (wild y)],rfl,λ_ w' _=>Z7b w' y (by omega) has,?_⟩;simp only[QQ,Nat.reduceAdd];simp only[badL,Bool.not_false,Bool.true_or,Bool.and_true]at hg;refine⟨λh4 w' hr=>⟨by rw[<- hg,h4];rfl,hr.mod⟩,λh4=>⟨by omega,by omega,⟨x,i+1,rfl,by omega,?_⟩,by omega⟩⟩;rw[<- hg,(Bool.not_eq_true _).mp h4];simp
 ·have:i=(lev s).length:=by omega
  subst this;rw[List.drop_length]at hg;rw[<- hg];rfl
theorem Zhw(w:World)(s:List UInt8)(hs:s.length<4294967281):Calls Tryz.prog 128 #[.string ⟨s.toArray⟩] w λe w'=>e=.returned (.int .i64 (chkT s true))/\Mod [] w w':=by
 refine Z1 (Z4 (J:=[.s s]) sxE_ok Tryz.func128 Z84 rfl rfl rfl ?_) rfl;simp only[QQ,Nat.reduceAdd];intro w1 hr;refine(Z9d w1 s (by omega)).mono ?_;rintro e w2 ⟨v1,rfl,r1,f1,m1⟩;refine⟨[.v v1,.r ((lev s).map Z1s)],rfl,rfl,m1,qy5 _,qy2.2 ⟨⟨r1,λk hk=>.inl (f1 k hk)⟩,qy5 _⟩,Z6,?_⟩;simp only[QQ,Nat.reduceAdd,qy3];have hlc:=Zae s;refine⟨λh w' hr=>⟨by rw[h,Zcu],hr.mod⟩,λh=>⟨λh1 w' hr=>⟨by rw[Zad h h1],hr.mod⟩,λh1=>?_⟩⟩;refine⟨[.b (Z1t s)],rfl,λ_ w' _=>Zg9 w' s (by omega),?_⟩;simp only[QQ,Nat.reduceAdd];refine⟨λh2 w' hr=>⟨by rw[Z8a h h1 h2],hr.mod⟩,λh2=>?_⟩;(have h2:=qy9.1 h2);rw[Zcv h h1 h2];refine⟨λvs=>∃(x:V) (i:Nat),vs=[x,.i i]/\i<=(lev s).length/\badL true ((lev s).drop i)=badL true (lev s),λvs=>(lev s).length - (vs.getD 1 (.i 0)).toI.toNat,⟨_,0,rfl,by omega,rfl⟩,?_⟩;rintro _ - ⟨x,i,rfl,hi,hg⟩;simp only[QQ,Nat.reduceAdd,qy4,qy3,Z9];refine⟨λh3=>?_,λh3 w' hr=>⟨?_,hr.mod⟩⟩
 ·rw[Zg8 _ i (by omega)]at hg;have hsz:=Zcw (Z9e (ps:=lev s) (i:=i) (by omega));have has:=Zef h2 (i:=i) (by omega);have hlast:(lev s).drop (i+1)=[]↔(i:Int)=((lev s).length:Int) - 1:=by rw[List.drop_eq_nil_iff];omega
  generalize (lev s).getD i []=y at hg hsz has⊢
  (repeat refine⟨by omega,?_⟩)
  refine⟨[.b (wild y)],rfl,λ_ w' _=>Z7b w' y (by omega) has,?_⟩;simp only[QQ,Nat.reduceAdd];have key:(¬((¬wild y=true\/y=[43])\/y=[35]/\(i:Int)=((lev s).length:Int) - 1))↔(wild y && (!true || (!decide (y=[43]) && (!decide (y=[35]) || !decide ((lev s).drop (i+1)=[])))))=true:=by rw[<- hlast];cases wild y<;>by_cases q1:y=[43]<;>by_cases q2:y=[35]<;>by_cases q3:(lev s).drop (i+1)=[]<;>simp[q1,q2,q3]
  simp only[badL]at hg;refine⟨λh4 w' hr=>⟨by rw[<- hg,key.1 h4];rfl,hr.mod⟩,λh4=>⟨by omega,by omega,⟨x,i+1,rfl,by omega,?_⟩,by omega⟩⟩;have h5:=(Bool.not_eq_true _).mp (λh=>h4 (key.2 h));rw[<- hg,h5];simp
 ·have:i=(lev s).length:=by omega
  subst this;rw[List.drop_length]at hg;rw[<- hg];rfl
theorem Zm9(x:List UInt8)(k:Nat)(h:k<x.length):wild (x.take (k+1))=(wild (x.take k) || (decide ((x.getD k 0).toNat=43) || decide ((x.getD k 0).toNat=35))):=by
 rw[List.take_add_one,qy1,qy7 h];simp only[wild,List.any_append,Option.toList_some,List.any_cons,List.any_nil,Bool.or_false,Option.getD_some];have e1:(x[k] == 43)=decide (x[k].toNat=43):=by rw[Bool.eq_iff_iff];simp only[beq_iff_eq,decide_eq_true_eq];exact⟨λh=>by rw[h];rfl,λh=>UInt8.toNat_inj.1 h⟩
 have e2:(x[k] == 35)=decide (x[k].toNat=35):=by rw[Bool.eq_iff_iff];simp only[beq_iff_eq,decide_eq_true_eq];exact⟨λh=>by rw[h];rfl,λh=>UInt8.toNat_inj.1 h⟩
 rw[e1,e2]
theorem Z8s(w:World)(s:List UInt8)(f:Bool)(hs:s.length<4294967281):Calls Tryz.prog 71 #[.string ⟨s.toArray⟩,.bool f] w λe w'=>e=.returned (.int .i64 (chkT s f))/\Mod [] w w':=by
 refine Z1 (Z4 (J:=[.s s,.b f]) sxE_ok Tryz.func71 Z33 rfl rfl rfl ?_) rfl;simp only[QQ,Nat.reduceAdd];intro w1 hr;refine(Zjh w1 s (by omega)).mono ?_;rintro e w2 ⟨v1,rfl,r1,f1,m1⟩;refine⟨[.v v1,.r ((lev s).map Z1s)],rfl,rfl,m1,qy5 _,qy2.2 ⟨⟨r1,λk hk=>.inl (f1 k hk)⟩,qy5 _⟩,Z6,?_⟩;simp only[QQ,Nat.reduceAdd,qy3];have hlc:=Zae s;refine⟨λh w' hr=>⟨by rw[h,Zcu],hr.mod⟩,λh=>⟨λh1 w' hr=>⟨by rw[Zad h h1],hr.mod⟩,λh1=>?_⟩⟩;refine⟨[.b (Z1t s)],rfl,λ_ w' _=>Zee w' s (by omega),?_⟩;simp only[QQ,Nat.reduceAdd];refine⟨λh2 w' hr=>⟨by rw[Z8a h h1 h2],hr.mod⟩,λh2=>?_⟩;have h2:=qy9.1 h2;rw[Zcv h h1 h2];refine⟨λvs=>∃(x:V) (i:Nat),vs=[x,.i i]/\i<=(lev s).length/\badL f ((lev s).drop i)=badL f (lev s),λvs=>(lev s).length - (vs.getD 1 (.i 0)).toI.toNat,⟨_,0,rfl,by omega,rfl⟩,?_⟩;rintro _ - ⟨x,i,rfl,hi,hg⟩;simp only[QQ,Nat.reduceAdd,qy4,qy3,Z9];refine⟨λh3=>?_,λh3 w' hr=>⟨?_,hr.mod⟩⟩
 ·rw[Zg8 _ i (by omega)]at hg;have hsz:=Zcw (Z9e (ps:=lev s) (i:=i) (by omega));have hlast:(lev s).drop (i+1)=[]↔¬((i:Int)<((lev s).length:Int) - 1):=by rw[List.drop_eq_nil_iff];omega
  generalize (lev s).getD i []=y at hg hsz⊢
  refine⟨λvs=>∃(k:Nat),vs=[.b (wild (y.take k)),.i k]/\k<=y.length,λvs=>y.length - (vs.getD 1 (.i 0)).toI.toNat,⟨0,rfl,by omega⟩,?_⟩;rintro _ - ⟨k,rfl,hk⟩;simp only[QQ,Nat.reduceAdd,qy4,qy3,Z9];refine⟨by omega,λh4=>?_,λh4=>?_⟩
  ·refine⟨.inr (by omega),.inr (by omega),by omega,by omega,⟨k+1,?_,by omega⟩,by omega⟩;rw[Zm9 y k (by omega)];simp only[List.cons.injEq,V.b.injEq,and_true];refine⟨?_,by simp⟩;rw[Bool.or_assoc];congr 2
   ·exact decide_eq_decide.2 (by omega)
   ·exact decide_eq_decide.2 (by omega)
  ·have:k=y.length:=by omega
   subst this;rw[List.take_length];have key:(wild y=true/\(¬f=true\/¬y=[43]/\(¬y=[35]\/(i:Int)<((lev s).length:Int) - 1)))↔(wild y && (!f || (!decide (y=[43]) && (!decide (y=[35]) || !decide ((lev s).drop (i+1)=[])))))=true:=by
    by_cases q3:(i:Int)<((lev s).length:Int) - 1
    ·have q4:¬(lev s).drop (i+1)=[]:=λh=>hlast.1 h q3;cases wild y<;>cases f<;>by_cases q1:y=[43]<;>by_cases q2:y=[35]<;>simp[q1,q2,q3,q4]
    ·have q4:(lev s).drop (i+1)=[]:=hlast.2 q3;cases wild y<;>cases f<;>by_cases q1:y=[43]<;>by_cases q2:y=[35]<;>simp[q1,q2,q3,q4]
   simp only[badL]at hg;refine⟨.inr (by omega),.inr (by omega),λh5 w' hr=>⟨by rw[<- hg,key.1 h5];rfl,hr.mod⟩,λh5=>⟨by omega,by omega,⟨x,i+1,rfl,by omega,?_⟩,by omega⟩⟩;have h6:=(Bool.not_eq_true _).mp (λh=>h5 (key.2 h));rw[<- hg,h6];simp
 ·have:i=(lev s).length:=by omega
  subst this;rw[List.drop_length]at hg;rw[<- hg];rfl
abbrev Ak:=List UInt8×Int
structure Pkt where
 kind:Int
 dup:Bool
 retain:Bool
 clean:Bool
 session:Bool
 qos:Int
 id:Int
 keep:Int
 code:Int
 client:List UInt8
 topic:List UInt8
 payload:List UInt8
 asks:List Ak
 codes:List Int
 deriving DecidableEq
abbrev pD_Q(k:Int):Pkt:=⟨k,false,false,false,false,0,0,0,0,[],[],[],[],[]⟩
def Z1h(k:Int):Bool:=decide ((1<=k/\k<=4)\/(8<=k/\k<=14))
def idB(p:Pkt):Bool:=decide ((p.kind=3/\p.qos=1)\/p.kind=4\/(8<=p.kind/\p.kind<=11))
def cliB(s:List UInt8):Bool:=decide (1<=(s.length:Int)/\(s.length:Int)<=20) && Z1t s
def Z15(p:Pkt):Pkt :=
 if p.kind=1 then { p with client:=[],clean:=false,keep:=0 }
 else if p.kind=2 then { p with code:=0,session:=false }
 else if p.kind=3 then { p with dup:=false,qos:=0,retain:=false,topic:=[],payload:=[],id:=0 }
 else if p.kind=4\/p.kind=11 then { p with id:=0 }
 else if p.kind=8\/p.kind=10 then { p with id:=0,asks:=[] }
 else if p.kind=9 then { p with id:=0,codes:=[] }
 else p
def Z65(p:Pkt):Bool:=decide (p=pD_Q p.kind)
def Zba(p:Pkt):Int:=if 20<(p.client.length:Int)then 2 else if cliB p.client=true then(if 0<=p.keep/\p.keep<=65535 then 0 else 3)else 1
def Z2p(p:Pkt):Int:=if 0<=p.code/\p.code<=5 then(if p.session=true/\p.code≠0 then 4 else 0)else 3
def pubE(p:Pkt):Int :=
 if chkT p.topic false=0 then
  if 200<(p.payload.length:Int)then 2
  else if 0<=p.qos/\p.qos<=1 then(if p.qos=0/\(p.dup=true\/p.id≠0)then 1 else 0)else 3
 else chkT p.topic false
def Zk(n:Nat):Int:=if n=0 then 1 else if 5<(n:Int)then 2 else 0
def askE(a:Ak):Int:=if chkT a.1 true=0 then(if 0<=a.2/\a.2<=1 then 0 else 3)else chkT a.1 true
def Z3n(a:Ak):Int:=if chkT a.1 true=0 then(if a.2=0 then 0 else 1)else chkT a.1 true
def Z2a(k:Int):List Ak->Int
 | []=>0
 | a::l=>if(if k=8 then askE a else Z3n a)=0 then Z2a k l else(if k=8 then askE a else Z3n a)
def Zeg(p:Pkt):Int:=if Zk p.asks.length=0 then Z2a p.kind p.asks else Zk p.asks.length
def Z4s(c:Int):Bool:=decide (c≠0/\c≠1/\c≠128)
def Zaf(p:Pkt):Int:=if Zk p.codes.length=0 then(if p.codes.any Z4s=true then 3 else 0)else Zk p.codes.length
def Z1p(p:Pkt):Int :=
 if p.kind=1 then Zba p else if p.kind=2 then Z2p p else if p.kind=3 then pubE p
 else if p.kind=8\/p.kind=10 then Zeg p else if p.kind=9 then Zaf p else 0
def chkP(p:Pkt):Int :=
 if Z1h p.kind=true then
  if Z65 (Z15 p)=true then
   if p.kind=3/\pubE p≠0 then pubE p
   else if idB p=true/\¬(1<=p.id/\p.id<=65535)then 3
   else Z1p p
  else 1
 else 7
def Z10(k:Int)(a:Ak):List UInt8:=txtB a.1++(if k=8 then numB 1 a.2 else[])
def bit(b:Bool)(n:Int):Int:=if b=true then n else 0
def Z1y(p:Pkt):List UInt8 :=
 if p.kind=1 then txtB [77,81,84,84]++(numB 1 4++numB 1 (bit p.clean 2))++numB 2 p.keep++txtB p.client
 else if p.kind=2 then numB 1 (bit p.session 1)++numB 1 p.code
 else if p.kind=3 then txtB p.topic
 else[]
def Zu(p:Pkt):List UInt8:=Z1y p++(if idB p=true then numB 2 p.id else[])++p.payload++(p.asks.map (Z10 p.kind)).flatten++(p.codes.map (numB 1)).flatten
def Zh(p:Pkt):Int :=
 16*p.kind+(if p.kind=3 then bit p.dup 8+2*p.qos+bit p.retain 1 else if p.kind=8\/p.kind=10 then 2 else 0)
def Zi(p:Pkt):List UInt8:=numB 1 (Zh p)++lngB 3 (Zu p).length++Zu p
def rdN(s:List UInt8)(k a:Nat)(b:Bool):Int×Nat×Bool:=if a+k<=s.length then((beN ((s.drop a).take k) 0:Nat),a+k,b)else(0,s.length,true)
def rdT(s:List UInt8)(a:Nat)(b:Bool):List UInt8×Nat×Bool :=
 if a+2<=s.length/\a+2+beN ((s.drop a).take 2) 0<=s.length then((s.drop (a+2)).take (beN ((s.drop a).take 2) 0),a+2+beN ((s.drop a).take 2) 0,b)else([],a,true)
def Zr(s:List UInt8)(k:Int)(a:Nat)(b:Bool):Ak×Nat×Bool :=
 if k=8 then(((rdT s a b).1,(rdN s 1 (rdT s a b).2.1 (rdT s a b).2.2).1),(rdN s 1 (rdT s a b).2.1 (rdT s a b).2.2).2)else(((rdT s a b).1,0),(rdT s a b).2)
def rdAs(s:List UInt8)(k:Int):Nat->Nat->Bool->List Ak->List Ak×Nat×Bool
 | 0,a,b,l=>(l,a,b)
 | f+1,a,b,l=>if a<s.length/\b=false then rdAs s k f (Zr s k a b).2.1 (Zr s k a b).2.2 (l++[(Zr s k a b).1])else(l,a,b)
def rdCs(s:List UInt8):Nat->Nat->Bool->List Int->List Int×Nat×Bool
 | 0,a,b,l=>(l,a,b)
 | f+1,a,b,l=>if a<s.length/\b=false then rdCs s f (rdN s 1 a b).2.1 (rdN s 1 a b).2.2 (l++[(rdN s 1 a b).1])else(l,a,b)
def Zf(s:List UInt8)(a:Nat)(b:Bool):Nat:=if b=true then 0 else s.length+1 - a
abbrev RS:=Pkt×Nat×Bool
def Z61(s:List UInt8)(p:Pkt)(a:Nat)(b:Bool):RS :=
 let t1:=rdT s a b
 let n1:=rdN s 1 t1.2.1 t1.2.2
 let n2:=rdN s 1 n1.2.1 n1.2.2
 let n3:=rdN s 2 n2.2.1 n2.2.2
 let t2:=rdT s n3.2.1 n3.2.2
 ({ p with clean:=decide (n2.1=2),keep:=n3.1,client:=t2.1 },t2.2)
def headD(s:List UInt8)(p:Pkt)(a:Nat)(b:Bool):RS :=
 if p.kind=1 then Z61 s p a b
 else if p.kind=2 then({ p with session:=decide ((rdN s 1 a b).1=1),code:=(rdN s 1 (rdN s 1 a b).2.1 (rdN s 1 a b).2.2).1 },(rdN s 1 (rdN s 1 a b).2.1 (rdN s 1 a b).2.2).2)
 else if p.kind=3 then({ p with topic:=(rdT s a b).1 },(rdT s a b).2)
 else(p,a,b)
def idD(s:List UInt8)(q:RS):RS:=if idB q.1=true then({ q.1 with id:=(rdN s 2 q.2.1 q.2.2).1 },(rdN s 2 q.2.1 q.2.2).2)else q
def Z1c(s:List UInt8)(q:RS):RS :=
 if q.1.kind=3 then({ q.1 with payload:=s.drop q.2.1 },s.length,q.2.2)
 else if q.1.kind=8\/q.1.kind=10 then({ q.1 with asks:=(rdAs s q.1.kind (Zf s q.2.1 q.2.2) q.2.1 q.2.2 q.1.asks).1 },(rdAs s q.1.kind (Zf s q.2.1 q.2.2) q.2.1 q.2.2 q.1.asks).2)
 else if q.1.kind=9 then({ q.1 with codes:=(rdCs s (Zf s q.2.1 q.2.2) q.2.1 q.2.2 q.1.codes).1 },(rdCs s (Zf s q.2.1 q.2.2) q.2.1 q.2.2 q.1.codes).2)
 else q
def Z4t(s:List UInt8)(p:Pkt)(a:Nat)(b:Bool):RS:=Z1c s (idD s (headD s p a b))
def begP(c:Nat):Pkt:=if c / 16=3 then { pD_Q 3 with dup:=decide (c / 8 % 2=1),qos:=c / 2 % 4,retain:=decide (c % 2=1) }else pD_Q ((c / 16:Nat):Int)
def Zo(s:List UInt8):RS:=Z4t s (begP (s.getD 0 0).toNat) (1+(getL s 1).2.1).toNat false
def decD(s:List UInt8):Pkt×Int :=
 if s=[]\/(getL s 1).2.2≠0 then(pD_Q 0,1)
 else if(Zo s).2.2=true\/Z1h (Zo s).1.kind=false\/1<(Zo s).1.qos\/Zi (Zo s).1≠s then(pD_Q 0,1)
 else if chkP (Zo s).1=0 then((Zo s).1,0)else(pD_Q 0,chkP (Zo s).1)
theorem Z1a(p:Pkt):Z15 p=pD_Q p.kind↔(p.kind≠1->p.client=[]/\p.clean=false/\p.keep=0)/\(p.kind≠2->p.session=false/\p.code=0) /\ (p.kind≠3->p.dup=false/\p.retain=false/\p.qos=0/\p.topic=[]/\p.payload=[])/\(¬((3<=p.kind/\p.kind<=4)\/(8<=p.kind/\p.kind<=11))->p.id=0) /\ (p.kind≠8/\p.kind≠10->p.asks=[])/\(p.kind≠9->p.codes=[]):=by
 obtain⟨k,d,r,c,s,q,i,ke,co,cl,t,pl,a,cs⟩:=p;unfold Z15;simp only;by_cases h1:k=1
 ·subst h1;simp only[if_true,Pkt.mk.injEq];simp;grind
 rw[if_neg h1];by_cases h2:k=2
 ·subst h2;simp only[if_true,Pkt.mk.injEq];simp;grind
 rw[if_neg h2];by_cases h3:k=3
 ·subst h3;simp only[if_true,Pkt.mk.injEq];simp;grind
 rw[if_neg h3];by_cases h4:k=4\/k=11
 ·rw[if_pos h4];rcases h4 with rfl|rfl<;>simp only[Pkt.mk.injEq]<;>simp<;>grind
 rw[if_neg h4];by_cases h5:k=8\/k=10
 ·rw[if_pos h5];rcases h5 with rfl|rfl<;>simp only[Pkt.mk.injEq]<;>simp<;>grind
 rw[if_neg h5];by_cases h6:k=9
 ·subst h6;simp only[if_true,Pkt.mk.injEq];simp;grind
 rw[if_neg h6];have h7:¬((3<=k/\k<=4)\/(8<=k/\k<=11)):=by omega
 have h8:k≠8/\k≠10:=by omega
 simp only[Pkt.mk.injEq,h7,h8,ne_eq,h1,h2,h3,h6,not_false_eq_true,true_implies,true_and,and_true];grind
structure FormP(p:Pkt):Prop where
 kind:Z1h p.kind=true
 bare:Z15 p=pD_Q p.kind
 qos:0<=p.qos/\p.qos<=1
 keep:0<=p.keep/\p.keep<65536
 code:0<=p.code/\p.code<256
 id:0<=p.id/\p.id<65536
 noid:idB p=false->p.id=0
 client:p.client.length<65536
 topic:p.topic.length<65536
 asks:∀a∈p.asks,a.1.length<65536/\0<=a.2/\a.2<256/\(p.kind≠8->a.2=0)
 codes:∀c∈p.codes,0<=c/\c<256
theorem Ztq{s t:List UInt8}{k a n:Nat}(b:Bool)(h:s.drop a=numB k n++t)(ha:a<=s.length)(hn:n<pw k):rdN s k a b=((n:Int),a+k,b)/\s.drop (a+k)=t/\a+k<=s.length:=by
 have hl:s.length - a=k+t.length:=by rw[<- List.length_drop,h,qy11,Z8]
 have e:(s.drop a).take k=numB k n:=by rw[h];exact List.take_left' (Z8 k n)
 refine⟨?_,?_,by omega⟩
 ·rw[rdN,if_pos (by omega),e,Zct k n hn]
 ·rw[<- List.drop_drop,h];exact List.drop_left' (Z8 k n)
theorem Z4u{s t:List UInt8}{k a:Nat}{n:Int}(b:Bool)(h:s.drop a=numB k n++t)(ha:a<=s.length)(h0:0<=n)(hn:n<pw k):rdN s k a b=(n,a+k,b)/\s.drop (a+k)=t/\a+k<=s.length:=by
 obtain⟨m,rfl⟩:∃m:Nat,n=m:=⟨n.toNat,by omega⟩
 exact Ztq b h ha (by omega)
theorem Zbx{s t x:List UInt8}{a:Nat}(b:Bool)(h:s.drop a=txtB x++t)(ha:a<=s.length)(hx:x.length<65536):rdT s a b=(x,a+2+x.length,b)/\s.drop (a+2+x.length)=t/\a+2+x.length<=s.length:=by
 have hh:s.drop a=numB 2 (x.length:Nat)++(x++t):=by rw[h,txtB,List.append_assoc]
 have hl:s.length - a=2+(x.length+t.length):=by rw[<- List.length_drop,hh,qy11,Z8,qy11]
 have e:(s.drop a).take 2=numB 2 (x.length:Nat):=by rw[hh];exact List.take_left' (Z8 2 _)
 have e1:beN ((s.drop a).take 2) 0=x.length:=by rw[e];exact Zct 2 _ hx
 have e2:s.drop (a+2)=x++t:=by rw[<- List.drop_drop,hh];exact List.drop_left' (Z8 2 _)
 refine⟨?_,?_,by omega⟩
 ·rw[rdT,e1,if_pos (by omega),e2,List.take_left]
 ·rw[<- List.drop_drop,e2,List.drop_left]
theorem Ztr{s t:List UInt8}{k:Int}{a:Nat}{x:Ak}(b:Bool)(h:s.drop a=Z10 k x++t)(ha:a<=s.length)(hx:x.1.length<65536/\0<=x.2/\x.2<256/\(k≠8->x.2=0)) : ∃a',Zr s k a b=(x,a',b)/\s.drop a'=t/\a'<=s.length/\a+2<=a':=by
 by_cases hk:k=8
 ·have h':s.drop a=txtB x.1++(numB 1 x.2++t):=by rw[h,Z10,if_pos hk,List.append_assoc]
  obtain⟨q1,q2,q3⟩:=Zbx b h' ha hx.1;obtain⟨r1,r2,r3⟩:=Z4u b q2 q3 hx.2.1 (by show x.2<256;omega);refine⟨_,?_,r2,r3,by omega⟩;rw[Zr,if_pos hk,q1];simp only[r1]
 ·have h':s.drop a=txtB x.1++t:=by rw[h,Z10,if_neg hk,List.append_nil]
  obtain⟨q1,q2,q3⟩:=Zbx b h' ha hx.1;refine⟨_,?_,q2,q3,by omega⟩;rw[Zr,if_neg hk,q1];have:=hx.2.2.2 hk;simp only[Prod.mk.injEq,and_true];exact Prod.ext rfl this.symm
theorem Zma{s:List UInt8}{k:Int}:∀(xs l:List Ak) (f a:Nat),s.drop a=(xs.map (Z10 k)).flatten->a<=s.length->(∀x∈xs,x.1.length<65536/\0<=x.2/\x.2<256/\(k≠8->x.2=0))->s.length+1 - a<=f -> rdAs s k f a false l=(l++xs,s.length,false)
 | [],l,f,a,h,ha,_,hf=>by
  obtain⟨g,rfl⟩:∃g,f=g+1:=⟨f - 1,by omega⟩
  have:s.length - a=0:=by rw[<- List.length_drop,h];rfl
  rw[rdAs,if_neg (by omega),List.append_nil];have:a=s.length:=by omega
  rw[this]
 | x::xs,l,f,a,h,ha,hx,hf=>by
  obtain⟨g,rfl⟩:∃g,f=g+1:=⟨f - 1,by omega⟩
  rw[List.map_cons,List.flatten_cons]at h;obtain⟨a',h1,h2,h3,h4⟩:=Ztr false h ha (hx x (qy8 ..));rw[rdAs,if_pos ⟨by omega,rfl⟩,h1];simp only;rw[Zma xs _ g a' h2 h3 (λy hy=>hx y (qy10 _ hy)) (by omega)];simp
theorem Zmb{s:List UInt8}:∀(xs l:List Int) (f a:Nat),s.drop a=(xs.map (numB 1)).flatten->a<=s.length->(∀x∈xs,0<=x/\x<256)->s.length+1 - a<=f -> rdCs s f a false l=(l++xs,s.length,false)
 | [],l,f,a,h,ha,_,hf=>by
  obtain⟨g,rfl⟩:∃g,f=g+1:=⟨f - 1,by omega⟩
  have:s.length - a=0:=by rw[<- List.length_drop,h];rfl
  rw[rdCs,if_neg (by omega),List.append_nil];have:a=s.length:=by omega
  rw[this]
 | x::xs,l,f,a,h,ha,hx,hf=>by
  obtain⟨g,rfl⟩:∃g,f=g+1:=⟨f - 1,by omega⟩
  rw[List.map_cons,List.flatten_cons]at h;have hx0:=hx x (qy8 ..);obtain⟨h1,h2,h3⟩:=Z4u false h ha hx0.1 (by show x<256;omega);rw[rdCs,if_pos ⟨by omega,rfl⟩,h1];simp only;rw[Zmb xs _ g (a+1) h2 h3 (λy hy=>hx y (qy10 _ hy)) (by omega)];simp
theorem Zjk{p:Pkt}(h:FormP p):begP (UInt8.ofNat (Zh p % 256).toNat).toNat={ pD_Q p.kind with dup:=p.dup,qos:=p.qos,retain:=p.retain }:=by
 have hb:=(Z1a p).1 h.bare;have hk:=h.kind;have hq:=h.qos;simp only[Z1h,decide_eq_true_eq]at hk;have hf:0<=Zh p/\Zh p<256/\Zh p / 16=p.kind:=by
  unfold Zh bit;split
  ·split<;>split<;>omega
  ·split<;>omega
 have e1:(UInt8.ofNat (Zh p % 256).toNat).toNat=(Zh p).toNat:=by simp;omega
 rw[e1,begP];have e2:(((Zh p).toNat / 16:Nat):Int)=p.kind:=by omega
 by_cases h3:p.kind=3
 ·rw[if_pos (by omega)];have hv:Zh p=48+(bit p.dup 8+2*p.qos+bit p.retain 1):=by rw[Zh,if_pos h3,h3];rfl
  unfold bit at hv;rw[h3];simp only[Pkt.mk.injEq,and_true,true_and];refine⟨?_,?_,?_⟩
  ·cases hd:p.dup<;>cases hr:p.retain<;>simp[hd,hr]at hv⊢<;>omega
  ·cases hd:p.dup<;>cases hr:p.retain<;>simp[hd,hr]at hv⊢<;>omega
  ·cases hd:p.dup<;>cases hr:p.retain<;>simp[hd,hr]at hv⊢<;>omega
 ·rw[if_neg (by omega),e2];obtain⟨b1,b2,b3,-,-⟩:=hb.2.2.1 h3;rw[b1,b2,b3]
theorem Zs8{p:Pkt}(h:FormP p){s:List UInt8}{a:Nat}(hs:s.drop a=Zu p)(ha:a<=s.length) : Z4t s { pD_Q p.kind with dup:=p.dup,qos:=p.qos,retain:=p.retain } a false=(p,s.length,false):=by
 have hb:=(Z1a p).1 h.bare;have hk:=h.kind;have hno:=h.noid;have hask:=h.asks;have hcod:=h.codes;have hkeep:=h.keep;have hcode:=h.code;have hid:=h.id;have hcl:=h.client;have htp:=h.topic;have hqos:=h.qos;obtain⟨k,d,r,c,se,q,i,ke,co,cl,t,pl,az,cs⟩:=p;simp only[Z1h,decide_eq_true_eq]at hk;simp only at hb hno hask hcod hkeep hcode hid hcl htp hqos hs⊢;obtain⟨b1,b2,b3,b4,b5,b6⟩:=hb;have hend:∀{x:Nat},s.drop x=[]->x<=s.length->x=s.length:=λ{x} hx hx2=>by
  have:s.length - x=0:=by rw[<- List.length_drop,hx];rfl
  omega
 by_cases k1:k=1
 ·subst k1;obtain⟨rfl,rfl⟩:=b2 (by omega);obtain⟨rfl,rfl,rfl,rfl,rfl⟩:=b3 (by omega);obtain rfl:=b4 (by omega);obtain rfl:=b5 (by omega);obtain rfl:=b6 (by omega);have e:s.drop a=txtB [77,81,84,84]++(numB 1 4++(numB 1 (bit c 2)++(numB 2 ke++(txtB cl++[])))):=by
   rw[hs];simp[Zu,Z1y,idB]
  obtain⟨q1,q2,q3⟩:=Zbx false e ha (by decide);obtain⟨r1,r2,r3⟩:=Z4u false q2 q3 (by omega) (by decide);obtain⟨s1,s2,s3⟩:=Z4u false r2 r3 (by unfold bit;split<;>omega) (by show bit c 2<256;unfold bit;split<;>omega);obtain⟨t1,t2,t3⟩:=Z4u false s2 s3 hkeep.1 (by show ke<65536;omega);obtain⟨u1,u2,u3⟩:=Zbx false t2 t3 hcl;have hx:=hend u2 u3;have hbit:decide (bit c 2=2)=c:=by cases c<;>rfl
  simp only[Z4t,headD,if_true,Z61,q1,r1,s1,t1,u1,idD,idB,Z1c,hbit,hx];rfl
 by_cases k2:k=2
 ·subst k2;obtain⟨rfl,rfl,rfl⟩:=b1 (by omega);obtain⟨rfl,rfl,rfl,rfl,rfl⟩:=b3 (by omega);obtain rfl:=b4 (by omega);obtain rfl:=b5 (by omega);obtain rfl:=b6 (by omega);have e:s.drop a=numB 1 (bit se 1)++(numB 1 co++[]):=by
   rw[hs];simp[Zu,Z1y,idB]
  obtain⟨r1,r2,r3⟩:=Z4u false e ha (by unfold bit;split<;>omega) (by show bit se 1<256;unfold bit;split<;>omega);obtain⟨s1,s2,s3⟩:=Z4u false r2 r3 hcode.1 (by show co<256;omega);have hx:=hend s2 s3;have hbit:decide (bit se 1=1)=se:=by cases se<;>rfl
  simp only[Z4t,headD,if_true,r1,s1,idD,idB,Z1c,hbit,hx];rfl
 by_cases k3:k=3
 ·subst k3;obtain⟨rfl,rfl,rfl⟩:=b1 (by omega);obtain⟨rfl,rfl⟩:=b2 (by omega);obtain rfl:=b5 (by omega);obtain rfl:=b6 (by omega);by_cases hq:q=1
  ·subst hq;have e:s.drop a=txtB t++(numB 2 i++pl):=by
    rw[hs];simp[Zu,Z1y,idB]
   obtain⟨q1,q2,q3⟩:=Zbx false e ha htp;obtain⟨r1,r2,r3⟩:=Z4u false q2 q3 hid.1 (by show i<65536;omega);have hd:headD s ⟨3,d,r,false,false,1,0,0,0,[],[],[],[],[]⟩ a false=(⟨3,d,r,false,false,1,0,0,0,[],t,[],[],[]⟩,a+2+t.length,false):=by simp only[headD,q1];rfl
   have hi2:idD s (⟨3,d,r,false,false,1,0,0,0,[],t,[],[],[]⟩,a+2+t.length,false)=(⟨3,d,r,false,false,1,i,0,0,[],t,[],[],[]⟩,a+2+t.length+2,false):=by simp only[idD,r1];rfl
   rw[Z4t,hd,hi2];simp only[Z1c,if_true,r2]
  ·have hq0:q=0:=by omega
   subst hq0;obtain rfl:=hno (by simp[idB]);have e:s.drop a=txtB t++pl:=by rw[hs];simp[Zu,Z1y,idB]
   obtain⟨q1,q2,q3⟩:=Zbx false e ha htp;have hd:headD s ⟨3,d,r,false,false,0,0,0,0,[],[],[],[],[]⟩ a false=(⟨3,d,r,false,false,0,0,0,0,[],t,[],[],[]⟩,a+2+t.length,false):=by simp only[headD,q1];rfl
   have hi2:idD s (⟨3,d,r,false,false,0,0,0,0,[],t,[],[],[]⟩,a+2+t.length,false)=(⟨3,d,r,false,false,0,0,0,0,[],t,[],[],[]⟩,a+2+t.length,false):=rfl;rw[Z4t,hd,hi2];simp only[Z1c,if_true,q2]
 obtain⟨rfl,rfl,rfl⟩:=b1 k1;obtain⟨rfl,rfl⟩:=b2 k2;obtain⟨rfl,rfl,rfl,rfl,rfl⟩:=b3 k3;have hh:∀x:Pkt,x.kind=k->headD s x a false=(x,a,false):=λx hx=>by unfold headD;rw[hx,if_neg k1,if_neg k2,if_neg k3]
 rw[Z4t,hh _ rfl];have hhB:∀x:Pkt,x.kind=k->Z1y x=[]:=λx hx=>by unfold Z1y;rw[hx,if_neg k1,if_neg k2,if_neg k3]
 rw[Zu,hhB _ rfl]at hs;by_cases k4:k=4\/(8<=k/\k<=11)
 ·have hidb:∀x:Pkt,x.kind=k->idB x=true:=λx hx=>by
   simp only[idB,hx,decide_eq_true_eq];omega
  rw[if_pos (hidb _ rfl)]at hs;have e:s.drop a=numB 2 i++((az.map (Z10 k)).flatten++(cs.map (numB 1)).flatten):=by rw[hs];simp
  obtain⟨r1,r2,r3⟩:=Z4u false e ha hid.1 (by show i<65536;omega);have hi2:idD s (⟨k,false,false,false,false,0,0,0,0,[],[],[],[],[]⟩,a,false)=(⟨k,false,false,false,false,0,i,0,0,[],[],[],[],[]⟩,a+2,false):=by unfold idD;rw[if_pos (hidb _ rfl)];simp only[r1]
  rw[hi2,Z1c];simp only;rw[if_neg k3];by_cases k5:k=8\/k=10
  ·obtain rfl:=b6 (by omega);rw[if_pos k5,Zma az [] (Zf s (a+2) false) (a+2) (by rw[r2];simp) r3 hask (by rw[Zf,if_neg (by simp)];omega)];simp
  ·obtain rfl:=b5 (by omega);rw[if_neg k5];by_cases k6:k=9
   ·rw[if_pos k6,Zmb cs [] (Zf s (a+2) false) (a+2) (by rw[r2];simp) r3 hcod (by rw[Zf,if_neg (by simp)];omega)];simp
   ·obtain rfl:=b6 k6;rw[if_neg k6,hend (by rw[r2];rfl) r3]
 ·have hidb:∀x:Pkt,x.kind=k->idB x=false:=λx hx=>by
   simp only[idB,hx,decide_eq_false_iff_not];omega
  obtain rfl:=b4 (by omega);obtain rfl:=b5 (by omega);obtain rfl:=b6 (by omega);have e:s.drop a=[]:=by rw[hs,hidb _ rfl];simp
  have hi2:idD s (⟨k,false,false,false,false,0,0,0,0,[],[],[],[],[]⟩,a,false)=(⟨k,false,false,false,false,0,0,0,0,[],[],[],[],[]⟩,a,false):=by unfold idD;rw[if_neg (by rw[hidb _ rfl];simp)]
  rw[hi2,Z1c];simp only;rw[if_neg k3,if_neg (by omega),if_neg (by omega),hend e ha]
theorem Z8b{p:Pkt}(hl:(Zu p).length<268435456)(t:List UInt8):getL (Zi p++t) 1=((((Zu p).length:Nat):Int),(((lngB 3 (Zu p).length).length:Nat):Int),0):=by
 have e:(Zi p++t).drop 1=lngB 3 (Zu p).length++(Zu p++t):=by rw[Zi,List.append_assoc,List.append_assoc,List.drop_left' (Z8 1 _)]
 have hlen:1<=(Zi p++t).length:=by simp[Zi,Z8]
 rw[getL,if_pos (by omega)];have e1:(1:Int).toNat=1:=rfl;rw[e1,e,Zhq _ 3 4 0 0 _ (by show(Zu p).length<268435456;exact hl) (by omega) (.inl rfl)];simp[p7]
theorem Zmc(p:Pkt):(Zi p).getD 0 0=UInt8.ofNat (Zh p % 256).toNat:=by
 have:numB 1 (Zh p)=[UInt8.ofNat (Zh p % 256).toNat]:=by simp[numB,pw,List.range_succ]
 rw[Zi,this];rfl
theorem Zjl{p:Pkt}(h:FormP p)(hl:(Zu p).length<268435456):Zo (Zi p)=(p,(Zi p).length,false):=by
 have hg:=Z8b hl [];rw[List.append_nil]at hg;rw[Zo,hg,Zmc,Zjk h];have e:(1+(((lngB 3 (Zu p).length).length:Nat):Int)).toNat=1+(lngB 3 (Zu p).length).length:=by omega
 simp only[e];refine Zs8 h ?_ (by simp[Zi,Z8]);rw[Zi];exact List.drop_left' (by rw[qy11,Z8])
theorem Zhx{s:List UInt8}{f:Bool}(h:chkT s f=0):s.length<=60:=by
 unfold chkT at h;split at h
 ·simp at h
 ·split at h
  ·simp at h
  ·omega
theorem Zjm(p:Pkt):(Z15 p).kind=p.kind:=by unfold Z15;(repeat' split)<;>rfl
theorem Z7c(p:Pkt):Z65 (Z15 p)=true↔Z15 p=pD_Q p.kind:=by simp only[Z65,decide_eq_true_eq,Zjm]
theorem Zby{k:Int}:∀{l:List Ak},Z2a k l=0->∀a∈l,chkT a.1 true=0/\0<=a.2/\a.2<=1/\(k≠8->a.2=0)
 | [],_,a,ha=>by simp at ha
 | x::l,h,a,ha=>by
  unfold Z2a at h;generalize hX:(if k=8 then askE x else Z3n x)=X at h
  by_cases h0:X=0
  ·rw[if_pos h0]at h;rw[h0]at hX;rcases List.mem_cons.1 ha with rfl|ha
   ·by_cases hk:k=8
    ·rw[if_pos hk,askE]at hX;split at hX
     ·split at hX
      ·exact⟨‹_›,by omega,by omega,λhh=>absurd hk hh⟩
      ·simp at hX
     ·exact absurd hX ‹_›
    ·rw[if_neg hk,Z3n]at hX;split at hX
     ·split at hX
      ·exact⟨‹_›,by omega,by omega,λ_=>‹_›⟩
      ·simp at hX
     ·exact absurd hX ‹_›
   ·exact Zby h a ha
  ·rw[if_neg h0]at h;exact absurd h h0
theorem Zhy{n:Nat}(h:Zk n=0):1<=n/\n<=5:=by
 unfold Zk at h;split at h
 ·simp at h
 ·split at h
  ·simp at h
  ·omega
theorem Zga{α:Type}(f:α->List UInt8)(m:Nat):∀l:List α,(∀a∈l,(f a).length<=m)->(l.map f).flatten.length<=l.length*m
 | [],_=>by simp
 | a::l,h=>by have h1:=Zga f m l λx hx=>h x (qy10 _ hx);have h2:=h a (qy8 ..);simp only[List.map_cons,List.flatten_cons,qy11,List.length_cons,Nat.add_mul,Nat.one_mul];omega
theorem Zn(t:List UInt8):(txtB t).length=t.length+2:=by rw[txtB,qy11,Z8];omega
theorem Zhz{p:Pkt}(h:chkP p=0):FormP p/\(Zu p).length<=1000:=by
 unfold chkP at h;split at h;rotate_left
 ·simp at h
 rename_i hk;split at h;rotate_left
 ·simp at h
 rename_i he;split at h
 ·rename_i h3;exact absurd h h3.2
 rename_i hp3;split at h
 ·simp at h
 rename_i hid;have hbare:=(Z7c p).1 he;have hb:=(Z1a p).1 hbare;have hk':=hk;simp only[Z1h,decide_eq_true_eq]at hk';obtain⟨b1,b2,b3,b4,b5,b6⟩:=hb;have h1:p.client.length<=20/\0<=p.keep/\p.keep<65536:=by
  by_cases k:p.kind=1
  ·rw[Z1p,if_pos k,Zba]at h;split at h
   ·simp at h
   ·split at h
    ·split at h
     ·omega
     ·simp at h
    ·simp at h
  ·obtain⟨e1,e2,e3⟩:=b1 k;rw[e1,e3];simp
 have h2:0<=p.code/\p.code<256:=by
  by_cases k:p.kind=2
  ·rw[Z1p,if_neg (by omega),if_pos k,Z2p]at h;split at h
   ·omega
   ·simp at h
  ·obtain⟨e1,e2⟩:=b2 k;omega
 have h3:p.topic.length<=60/\p.payload.length<=200/\0<=p.qos/\p.qos<=1/\(p.kind=3->p.qos=0->p.id=0):=by
  by_cases k:p.kind=3
  ·rw[Z1p,if_neg (by omega),if_neg (by omega),if_pos k,pubE]at h;split at h
   ·have:=Zhx ‹_›;split at h
    ·simp at h
    ·split at h
     ·split at h
      ·simp at h
      ·rename_i hn;refine⟨this,by omega,by omega,by omega,λ_ hq=>?_⟩;exact Classical.byContradiction λhi=>hn ⟨hq,.inr hi⟩
     ·simp at h
   ·exact absurd h ‹_›
  ·obtain⟨e1,e2,e3,e4,e5⟩:=b3 k;rw[e3,e4,e5];simp[k]
 have h4:p.asks.length<=5/\∀a∈p.asks,a.1.length<=60/\0<=a.2/\a.2<256/\(p.kind≠8->a.2=0):=by
  by_cases k:p.kind=8\/p.kind=10
  ·rw[Z1p,if_neg (by omega),if_neg (by omega),if_neg (by omega),if_pos k,Zeg]at h;split at h
   ·have hc:=Zhy ‹_›;refine⟨hc.2,λa ha=>?_⟩;obtain⟨a1,a2,a3,a4⟩:=Zby h a ha;exact⟨Zhx a1,a2,by omega,a4⟩
   ·exact absurd h ‹_›
  ·have e:=b5 (by omega);rw[e];simp
 have h5:p.codes.length<=5/\∀c∈p.codes,0<=c/\c<256:=by
  by_cases k:p.kind=9
  ·rw[Z1p,if_neg (by omega),if_neg (by omega),if_neg (by omega),if_neg (by omega),if_pos k,Zaf]at h;split at h
   ·have hc:=Zhy ‹_›;refine⟨hc.2,λc hcm=>?_⟩;split at h
    ·simp at h
    ·rename_i hn;have:Z4s c=false:=by
      cases hcb:Z4s c
      ·rfl
      ·exact absurd (List.any_eq_true.2 ⟨c,hcm,hcb⟩) hn
     simp only[Z4s,decide_eq_false_iff_not]at this;omega
   ·exact absurd h ‹_›
  ·have e:=b6 k;rw[e];simp
 have hid2:(0<=p.id/\p.id<65536)/\(idB p=false->p.id=0):=by
  by_cases hi:idB p=true
  ·have:1<=p.id/\p.id<=65535:=Classical.byContradiction λhn=>hid ⟨hi,hn⟩;exact⟨by omega,λhf=>by rw[hi]at hf;simp at hf⟩
  ·have h0:p.id=0:=by
    by_cases k:p.kind=3
    ·refine h3.2.2.2.2 k ?_;have:¬p.qos=1:=λhq=>hi (by simp[idB,k,hq]);omega
    ·refine b4 λhk2=>hi ?_;simp only[idB,decide_eq_true_eq];omega
   rw[h0];simp
 refine⟨⟨hk,hbare,h3.2.2.1 |> λa=>⟨a,h3.2.2.2.1⟩,h1.2,h2,hid2.1,hid2.2,by omega,by omega,λa ha=>?_,h5.2⟩,?_⟩
 ·obtain⟨a1,a2⟩:=h4.2 a ha;exact⟨by omega,a2⟩
 ·have e1:(Z1y p).length<=64:=by
   unfold Z1y;split
   ·simp only[qy11,Zn,Z8,List.length_cons,List.length_nil];omega
   ·split
    ·simp only[qy11,Z8];omega
    ·split
     ·rw[Zn];omega
     ·simp
  have e2:(if idB p=true then numB 2 p.id else[]).length<=2:=by
   split
   ·rw[Z8];omega
   ·simp
  have e3:=Zga (Z10 p.kind) 63 p.asks λa ha=>by
   have:=(h4.2 a ha).1;unfold Z10;rw[qy11,Zn];split
   ·rw[Z8];omega
   ·simp;omega
  have e4:=Zga (numB 1) 1 p.codes λc _=>by rw[Z8];omega
  have e5:p.asks.length*63<=5*63:=Nat.mul_le_mul_right _ h4.1;unfold Zu;simp only[qy11];omega
theorem Zmd(p:Pkt):Zi p≠[]:=λh=>by
 have:(Zi p).length=0:=by rw[h];rfl
 rw[Zi]at this;simp[Z8]at this
theorem Zme{p:Pkt}(h:chkP p=0):decD (Zi p)=(p,0):=by obtain⟨hf,hl⟩:=Zhz h;have hg:=Z8b (p:=p) (by omega) [];rw[List.append_nil]at hg;have hr:=Zjl hf (by omega);have hq:=hf.qos;rw[decD,if_neg (by rw[hg];simp[Zmd]),hr,if_neg,if_pos h];simp only[hf.kind];simp;omega
def encA(a:Ak):List Value:=[.string ⟨a.1.toArray⟩,.int .i64 a.2]
def Za(n:Int):List Value:=[.int .i64 n]
abbrev aD:Ak:=([],0)
abbrev Z38(w:World)(v:Value)(l:List Ak):Prop:=reads w v [.str,.int .i64] (l.map encA)
abbrev Z2d(w:World)(v:Value)(l:List Int):Prop:=reads w v [.int .i64] (l.map Za)
theorem Zt(w:World):Z38 w (.slice none 0 0) []:=⟨by simp,none,0,rfl,⟨λ_=>rfl,Nat.le_refl _⟩,λh=>absurd rfl h⟩
theorem Zx(w:World):Z2d w (.slice none 0 0) []:=⟨by simp,none,0,rfl,⟨λ_=>rfl,Nat.le_refl _⟩,λh=>absurd rfl h⟩
theorem gA0(l:List Ak)(i:Nat):Value.gS (((l.map encA).getD i []).getD 0 undef)=(l.getD i aD).1:=by simp only[qy1,List.getElem?_map];cases l[i]?<;>simp[encA,Value.gS,undef]
theorem gA1(l:List Ak)(i:Nat):Value.gI (((l.map encA).getD i []).getD 1 undef)=(l.getD i aD).2:=by simp only[qy1,List.getElem?_map];cases l[i]?<;>simp[encA,Value.gI,undef]
theorem gI0(l:List Int)(i:Nat):Value.gI (((l.map Za).getD i []).getD 0 undef)=l.getD i 0:=by simp only[qy1,List.getElem?_map];cases l[i]?<;>simp[Za,Value.gI,undef]
theorem Zs9(l:List Ak)(i:Nat)(h:i<l.length):l.drop i=l.getD i aD::l.drop (i+1):=by rw[List.drop_eq_getElem_cons h,qy1,qy7 h];rfl
theorem Zsa(l:List Int)(i:Nat)(h:i<l.length):l.drop i=l.getD i 0::l.drop (i+1):=by rw[List.drop_eq_getElem_cons h,qy1,qy7 h];rfl
def pV(p:Pkt)(u v:Value):Value:=.agg #[.int .i64 p.kind,.bool p.dup,.bool p.retain,.bool p.clean,.bool p.session,.int .i64 p.qos,.int .i64 p.id,.int .i64 p.keep,.int .i64 p.code,.string ⟨p.client.toArray⟩,.string ⟨p.topic.toArray⟩,.string ⟨p.payload.toArray⟩,sc1 u,sc1 v]
structure SmallP(p:Pkt):Prop where
 client:p.client.length<1000000000
 topic:p.topic.length<1000000000
 payload:p.payload.length<1000000000
 asks:p.asks.length<1000000000
 codes:p.codes.length<1000000000
 filt:∀a∈p.asks,a.1.length<1000000000
theorem SmallP.at_{p:Pkt}(h:SmallP p)(i:Nat):(p.asks.getD i aD).1.length<1000000000:=by
 by_cases hi:i<p.asks.length
 ·rw[qy1,qy7 hi];exact h.filt _ (List.getElem_mem hi)
 ·rw[qy1,List.getElem?_eq_none (by omega)];decide
theorem SmallP.bare{p:Pkt}(h:SmallP p):SmallP (Z15 p):=by
 obtain⟨a,b,c,d,e,f⟩:=h;unfold Z15
 (repeat' split)<;>exact⟨by simp_all,by simp_all,by simp_all,by simp_all,by simp_all,by first|exact f|(intro a ha;simp at ha)⟩
theorem Zag(w:World)(n:Int):Calls Tryz.prog 41 #[.int .i64 n] w λe w'=>e=.returned (.bool (Z1h n))/\Mod [] w w':=by refine Z1 (Z4 (J:=[.i n]) sxE_ok Tryz.func41 Z90 rfl rfl rfl ?_) rfl;simp only[QQ,Nat.reduceAdd];exact⟨λh w' hr=>⟨by simp[Z1h,h],hr.mod⟩,λh w' hr=>⟨by simp[Z1h,h],hr.mod⟩⟩
theorem Zmf(w:World)(s:List UInt8)(hs:s.length<1099511627776):Calls Tryz.prog 125 #[.string ⟨s.toArray⟩] w λe w'=>e=.returned (.bool (cliB s))/\Mod [] w w':=by refine Z1 (Z4 (J:=[.s s]) sxE_ok Tryz.func125 Z75 rfl rfl rfl ?_) rfl;simp only[QQ,Nat.reduceAdd];refine⟨[.b (Z1t s)],rfl,λ_ w' _=>Zg9 w' s hs,?_⟩;simp only[QQ,Nat.reduceAdd];exact λw' hr=>⟨by simp[cliB],hr.mod⟩
theorem Zmg(w:World)(n:Nat):Calls Tryz.prog 126 #[.int .i64 n] w λe w'=>e=.returned (.int .i64 (Zk n))/\Mod [] w w':=by
 refine Z1 (Z4 (J:=[.i n]) sxE_ok Tryz.func126 Z86 rfl rfl rfl ?_) rfl;simp only[QQ,Nat.reduceAdd];refine⟨λh w' hr=>⟨?_,hr.mod⟩,λh=>⟨λh1 w' hr=>⟨?_,hr.mod⟩,λh1 w' hr=>⟨?_,hr.mod⟩⟩⟩
 ·rw[Zk,if_pos (by omega)]
 ·rw[Zk,if_neg (by omega),if_pos (by omega)]
 ·rw[Zk,if_neg (by omega),if_neg (by omega)]
theorem Zts(w:World)(a:Ak)(h:a.1.length<1000000000):Calls Tryz.prog 127 #[.agg #[.string ⟨a.1.toArray⟩,.int .i64 a.2]] w λe w'=>e=.returned (.int .i64 (askE a))/\Mod [] w w':=by
 refine Z1 (Z4 (J:=[.s a.1,.i a.2]) sxE_ok Tryz.func127 Za6 rfl rfl rfl ?_) rfl;simp only[QQ,Nat.reduceAdd];intro b;refine⟨[.i (chkT a.1 true)],rfl,λ_ w' _=>Zhw w' _ (by omega),?_⟩;simp only[QQ,Nat.reduceAdd];refine⟨λh w' hr=>⟨by rw[askE,if_neg h],hr.mod⟩,λh=>⟨λh1 w' hr=>⟨?_,hr.mod⟩,λh1 w' hr=>⟨?_,hr.mod⟩⟩⟩
 ·rw[askE,if_pos (qy9.1 h),if_neg h1]
 ·rw[askE,if_pos (qy9.1 h),if_pos (qy9.1 h1)]
section
variable (w:World) (p:Pkt) (u v:Value) (hu:Z38 w u p.asks) (hv:Z2d w v p.codes) (hs:SmallP p)
include hu hv
theorem Zp8:Calls Tryz.prog 56 #[pV p u v] w λe w'=>e=.returned (.bool (idB p))/\Mod [] w w':=by
 refine Z1 (Z5 (J:=[.i p.kind,.b p.dup,.b p.retain,.b p.clean,.b p.session,.i p.qos,.i p.id,.i p.keep,.i p.code,.s p.client,.s p.topic,.s p.payload,.v u,.r (p.asks.map encA),.v v,.r (p.codes.map Za)]) sxE_ok Tryz.func56 Zb8 rfl rfl (Rel.start2 (by simp[Ent.holds,Ent.wr,hu,hv,X.ev])) rfl rfl ?_) rfl;simp only[QQ,Nat.reduceAdd];intro b;refine⟨λh w' hr=>⟨?_,hr.mod⟩,λh=>⟨λh1 w' hr=>⟨?_,hr.mod⟩,λh1=>⟨λh2 w' hr=>⟨?_,hr.mod⟩,λh2=>⟨λh3 w' hr=>⟨?_,hr.mod⟩,λh3=>⟨λh4 w' hr=>⟨?_,hr.mod⟩,λh4=>⟨λh5 w' hr=>⟨?_,hr.mod⟩,λh5 w' hr=>⟨?_,hr.mod⟩⟩⟩⟩⟩⟩⟩ <;>
  (simp only[idB,Ending.returned.injEq,Value.bool.injEq];first|exact decide_eq_decide.2 (by omega)|(symm;simp only[decide_eq_true_eq,decide_eq_false_iff_not];omega))
theorem Zjn:Calls Tryz.prog 102 #[pV p u v] w λe w'=>e=.returned (.int .i64 (Z2p p))/\Mod [] w w':=by
 refine Z1 (Z5 (J:=[.i p.kind,.b p.dup,.b p.retain,.b p.clean,.b p.session,.i p.qos,.i p.id,.i p.keep,.i p.code,.s p.client,.s p.topic,.s p.payload,.v u,.r (p.asks.map encA),.v v,.r (p.codes.map Za)]) sxE_ok Tryz.func102 Z6i rfl rfl (Rel.start2 (by simp[Ent.holds,Ent.wr,hu,hv,X.ev])) rfl rfl ?_) rfl;simp only[QQ,Nat.reduceAdd];intro b;refine⟨λh w' hr=>⟨by rw[Z2p,if_neg h],hr.mod⟩,λh=>⟨λh2 w' hr=>⟨?_,hr.mod⟩,λh2 w' hr=>⟨?_,hr.mod⟩⟩⟩
 ·rw[Z2p,if_pos (qy9.1 h),if_pos h2]
 ·rw[Z2p,if_pos (qy9.1 h),if_neg h2]
include hs
theorem Zp9:Calls Tryz.prog 53 #[pV p u v] w λe w'=>e=.returned (.bool (Z65 p))/\Mod [] w w':=by
 refine Z1 (Z5 (J:=[.i p.kind,.b p.dup,.b p.retain,.b p.clean,.b p.session,.i p.qos,.i p.id,.i p.keep,.i p.code,.s p.client,.s p.topic,.s p.payload,.v u,.r (p.asks.map encA),.v v,.r (p.codes.map Za)]) sxE_ok Tryz.func53 Z7x rfl rfl (Rel.start2 (by simp[Ent.holds,Ent.wr,hu,hv,X.ev])) rfl rfl ?_) rfl;have h1:=hs.client;have h2:=hs.topic;have h3:=hs.payload;have h4:=hs.asks;have h5:=hs.codes;simp only[QQ,Nat.reduceAdd,qy3,qy11];intro b;refine⟨.inr (by omega),.inr (by omega),.inr (by omega),λw' hr=>⟨?_,hr.mod⟩⟩;obtain⟨k,d,r,c,se,q,i,ke,co,cl,t,pl,az,cs⟩:=p;simp only[Z65,Ending.returned.injEq,Value.bool.injEq,Pkt.mk.injEq];have e1:((az.length:Int)+(cs.length:Int)=0)↔az=[]/\cs=[]:=by rw[<- List.length_eq_zero_iff,<- List.length_eq_zero_iff];omega
 rw[Bool.eq_iff_iff];simp only[Bool.and_eq_true,Bool.not_eq_true',decide_eq_true_eq,e1,List.append_eq_nil_iff];constructor<;>(intro h;simp_all)
theorem Zjo:Calls Tryz.prog 101 #[pV p u v] w λe w'=>e=.returned (.int .i64 (Zba p))/\Mod [] w w':=by
 refine Z1 (Z5 (J:=[.i p.kind,.b p.dup,.b p.retain,.b p.clean,.b p.session,.i p.qos,.i p.id,.i p.keep,.i p.code,.s p.client,.s p.topic,.s p.payload,.v u,.r (p.asks.map encA),.v v,.r (p.codes.map Za)]) sxE_ok Tryz.func101 Z6e rfl rfl (Rel.start2 (by simp[Ent.holds,Ent.wr,hu,hv,X.ev])) rfl rfl ?_) rfl;have h1:=hs.client;simp only[QQ,Nat.reduceAdd];intro b;refine⟨λh w' hr=>⟨by rw[Zba,if_pos h],hr.mod⟩,λh=>?_⟩;refine⟨[.b (cliB p.client)],rfl,λ_ w' _=>Zmf w' _ (by omega),?_⟩;simp only[QQ,Nat.reduceAdd];refine⟨λh2 w' hr=>⟨by rw[Zba,if_neg h,if_neg h2],hr.mod⟩,λh2=>⟨λh3 w' hr=>⟨?_,hr.mod⟩,λh3 w' hr=>⟨?_,hr.mod⟩⟩⟩
 ·rw[Zba,if_neg h,if_pos (qy9.1 h2),if_neg h3]
 ·rw[Zba,if_neg h,if_pos (qy9.1 h2),if_pos (qy9.1 h3)]
theorem Zbz:Calls Tryz.prog 55 #[pV p u v] w λe w'=>e=.returned (.int .i64 (pubE p))/\Mod [] w w':=by
 refine Z1 (Z5 (J:=[.i p.kind,.b p.dup,.b p.retain,.b p.clean,.b p.session,.i p.qos,.i p.id,.i p.keep,.i p.code,.s p.client,.s p.topic,.s p.payload,.v u,.r (p.asks.map encA),.v v,.r (p.codes.map Za)]) sxE_ok Tryz.func55 Z6d rfl rfl (Rel.start2 (by simp[Ent.holds,Ent.wr,hu,hv,X.ev])) rfl rfl ?_) rfl;have h1:=hs.topic;simp only[QQ,Nat.reduceAdd];intro b;refine⟨[.i (chkT p.topic false)],rfl,λ_ w' _=>Zhv w' _ (by omega),?_⟩;simp only[QQ,Nat.reduceAdd];refine⟨λh w' hr=>⟨by rw[pubE,if_neg h],hr.mod⟩,λh=>?_⟩;have h:=qy9.1 h;refine⟨λh2 w' hr=>⟨by rw[pubE,if_pos h,if_pos h2],hr.mod⟩,λh2=>⟨λh3 w' hr=>⟨?_,hr.mod⟩,λh3=>⟨λh4 w' hr=>⟨?_,hr.mod⟩,λh4 w' hr=>⟨?_,hr.mod⟩⟩⟩⟩
 ·rw[pubE,if_pos h,if_neg h2,if_neg h3]
 ·rw[pubE,if_pos h,if_neg h2,if_pos (qy9.1 h3),if_pos h4]
 ·rw[pubE,if_pos h,if_neg h2,if_pos (qy9.1 h3),if_neg h4]
theorem Zmh:Calls Tryz.prog 103 #[pV p u v] w λe w'=>e=.returned (.int .i64 (Zeg p))/\Mod [] w w':=by
 refine Z1 (Z5 (J:=[.i p.kind,.b p.dup,.b p.retain,.b p.clean,.b p.session,.i p.qos,.i p.id,.i p.keep,.i p.code,.s p.client,.s p.topic,.s p.payload,.v u,.r (p.asks.map encA),.v v,.r (p.codes.map Za)]) sxE_ok Tryz.func103 Z92 rfl rfl (Rel.start2 (by simp[Ent.holds,Ent.wr,hu,hv,X.ev])) rfl rfl ?_) rfl;have h1:=hs.asks;have hf:=hs.at_;simp only[QQ,Nat.reduceAdd,qy3];intro b;refine⟨[.i (Zk p.asks.length)],rfl,λ_ w' _=>Zmg w' _,?_⟩;simp only[QQ,Nat.reduceAdd,qy3];refine⟨λh w' hr=>⟨by rw[Zeg,if_neg h],hr.mod⟩,λh=>?_⟩;have h:=qy9.1 h;rw[Zeg,if_pos h];refine⟨λvs=>∃(i:Nat) (x:V),vs=[x,.i i]/\i<=p.asks.length/\Z2a p.kind (p.asks.drop i)=Z2a p.kind p.asks,λvs=>p.asks.length - (vs.getD 1 (.i 0)).toI.toNat,⟨0,_,rfl,by omega,rfl⟩,?_⟩;rintro _ - ⟨i,x,rfl,hi,hg⟩;simp only[QQ,Nat.reduceAdd,qy3,qy4,gA0,gA1];refine⟨λh2=>⟨by omega,λb=>⟨λhk=>?_,λhk=>?_⟩⟩,λh2 w' hr=>⟨?_,hr.mod⟩⟩
 ·rw[Zs9 _ _ (by omega),Z2a,if_pos hk]at hg;refine⟨[.i (askE (p.asks.getD i aD))],rfl,λ_ w' _=>Zts w' _ (hf i),?_⟩;simp only[QQ,Nat.reduceAdd];refine⟨λh3 w' hr=>⟨by rw[<- hg,if_neg h3],hr.mod⟩,λh3=>⟨by omega,by omega,⟨i+1,x,rfl,by omega,?_⟩,by omega⟩⟩;rw[<- hg,if_pos (qy9.1 h3)]
 ·rw[Zs9 _ _ (by omega),Z2a,if_neg hk]at hg;have:=hf i;refine⟨[.i (chkT (p.asks.getD i aD).1 true)],rfl,λ_ w' _=>Zhw w' _ (by omega),?_⟩;simp only[QQ,Nat.reduceAdd,gA1];refine⟨λh3 w' hr=>⟨?_,hr.mod⟩,λh3=>⟨λh4 w' hr=>⟨?_,hr.mod⟩,λh4=>⟨by omega,by omega,⟨i+1,x,rfl,by omega,?_⟩,by omega⟩⟩⟩
  ·have e:Z3n (p.asks.getD i aD)=chkT (p.asks.getD i aD).1 true:=by rw[Z3n,if_neg h3]
   rw[<- hg,e,if_neg h3]
  ·have e:Z3n (p.asks.getD i aD)=1:=by rw[Z3n,if_pos (qy9.1 h3),if_neg h4]
   rw[<- hg,e];rfl
  ·have e:Z3n (p.asks.getD i aD)=0:=by rw[Z3n,if_pos (qy9.1 h3),if_pos (qy9.1 h4)]
   rw[<- hg,e];rfl
 ·have:i=p.asks.length:=by omega
  subst this;rw[List.drop_length]at hg;rw[<- hg];rfl
theorem Zpa:Calls Tryz.prog 104 #[pV p u v] w λe w'=>e=.returned (.int .i64 (Zaf p))/\Mod [] w w':=by
 refine Z1 (Z5 (J:=[.i p.kind,.b p.dup,.b p.retain,.b p.clean,.b p.session,.i p.qos,.i p.id,.i p.keep,.i p.code,.s p.client,.s p.topic,.s p.payload,.v u,.r (p.asks.map encA),.v v,.r (p.codes.map Za)]) sxE_ok Tryz.func104 Z82 rfl rfl (Rel.start2 (by simp[Ent.holds,Ent.wr,hu,hv,X.ev])) rfl rfl ?_) rfl;have h1:=hs.codes;simp only[QQ,Nat.reduceAdd,qy3];intro b;refine⟨[.i (Zk p.codes.length)],rfl,λ_ w' _=>Zmg w' _,?_⟩;simp only[QQ,Nat.reduceAdd,qy3];refine⟨λh w' hr=>⟨by rw[Zaf,if_neg h],hr.mod⟩,λh=>?_⟩;have h:=qy9.1 h;rw[Zaf,if_pos h];refine⟨λvs=>∃(i:Nat) (x:V),vs=[x,.i i]/\i<=p.codes.length/\(p.codes.drop i).any Z4s=p.codes.any Z4s,λvs=>p.codes.length - (vs.getD 1 (.i 0)).toI.toNat,⟨0,_,rfl,by omega,rfl⟩,?_⟩;rintro _ - ⟨i,x,rfl,hi,hg⟩;simp only[QQ,Nat.reduceAdd,qy3,qy4,gI0];refine⟨λh2=>?_,λh2=>?_⟩
 ·rw[Zsa _ _ (by omega),List.any_cons]at hg;refine⟨by omega,λh3 w' hr=>⟨?_,hr.mod⟩,λh3=>⟨by omega,by omega,⟨i+1,x,rfl,by omega,?_⟩,by omega⟩⟩
  ·have e:Z4s (p.codes.getD i 0)=true:=by simp only[Z4s,decide_eq_true_eq];exact⟨h3.1.1,h3.1.2,h3.2⟩
   rw[<- hg,e];rfl
  ·have e:Z4s (p.codes.getD i 0)=false:=by
    simp only[Z4s,decide_eq_false_iff_not];exact λh4=>h3 ⟨⟨h4.1,h4.2.1⟩,h4.2.2⟩
   rw[<- hg,e];rfl
 ·have:i=p.codes.length:=by omega
  subst this;rw[List.drop_length]at hg;rw[<- hg];exact⟨λh3=>absurd h3 (by omega),λh3 w' hr=>⟨rfl,hr.mod⟩⟩
end
end Go.Proofs.Y
namespace Go.Proofs.Y
open Go.Sx
theorem Zp{J:List V}{es:List Ent}(h:∀e∈es,e.wr=false):Zv J es:=by refine List.pairwise_iff_forall_sublist.2 λ{a b} hs hw=>?_;have h1:=h a (hs.subset (by simp));have h2:=h b (hs.subset (by simp));rw[h1,h2]at hw;simp at hw
section
variable (w:World) (p:Pkt) (u v:Value) (hu:Z38 w u p.asks) (hv:Z2d w v p.codes) (hs:SmallP p)
include hu hv
theorem Zsb:Calls Tryz.prog 54 #[pV p u v] w λe w'=>∃x y,e=.returned (pV (Z15 p) x y)/\Z38 w' x (Z15 p).asks/\Z2d w' y (Z15 p).codes /\ (x=u/\(Z15 p).asks=p.asks\/(Z15 p).asks=[])/\(y=v/\(Z15 p).codes=p.codes\/(Z15 p).codes=[])/\Mod [] w w':=by
 refine Z1 (Z5 (J:=[.i p.kind,.b p.dup,.b p.retain,.b p.clean,.b p.session,.i p.qos,.i p.id,.i p.keep,.i p.code,.s p.client,.s p.topic,.s p.payload,.v u,.r (p.asks.map encA),.v v,.r (p.codes.map Za)]) sxE_ok Tryz.func54 Z91 rfl rfl (Rel.start2 (by simp[Ent.holds,Ent.wr,hu,hv,X.ev])) rfl rfl ?_) rfl;simp only[QQ,Nat.reduceAdd];intro b1 b2;have g4:∀q:Pkt,q.kind=p.kind->p.kind≠1->p.kind≠2->p.kind≠3->(p.kind=4\/p.kind=11)->Z15 p={ p with id:=0 }:=λq _ h1 h2 h3 h=>by rw[Z15,if_neg h1,if_neg h2,if_neg h3,if_pos h]
 have g8:p.kind≠1->p.kind≠2->p.kind≠3->¬(p.kind=4\/p.kind=11)->(p.kind=8\/p.kind=10)->Z15 p={ p with id:=0,asks:=[] }:=λh1 h2 h3 h4 h=>by rw[Z15,if_neg h1,if_neg h2,if_neg h3,if_neg h4,if_pos h]
 refine⟨λh1 w' hr=>?_,λh1=>⟨λh2 w' hr=>?_,λh2=>⟨λh3 w' hr=>?_,λh3=>⟨λh4 w' hr=>?_,λh4=>⟨λh5 w' hr=>?_,λh5=>⟨λh6 w' hr=>?_,λh6=>⟨λh7 w' hr=>?_,λh7=>⟨λh8 w' hr=>?_,λh8 w' hr=>?_⟩⟩⟩⟩⟩⟩⟩⟩
 ·have e:Z15 p={ p with client:=[],clean:=false,keep:=0 }:=by rw[Z15,if_pos h1]
  rw[e];exact⟨u,v,rfl,hr.at_ 2 rfl,hr.at_ 3 rfl,.inl ⟨rfl,rfl⟩,.inl ⟨rfl,rfl⟩,hr.mod⟩
 ·have e:Z15 p={ p with code:=0,session:=false }:=by rw[Z15,if_neg h1,if_pos h2]
  rw[e];exact⟨u,v,rfl,hr.at_ 2 rfl,hr.at_ 3 rfl,.inl ⟨rfl,rfl⟩,.inl ⟨rfl,rfl⟩,hr.mod⟩
 ·have e:Z15 p={ p with dup:=false,qos:=0,retain:=false,topic:=[],payload:=[],id:=0 }:=by rw[Z15,if_neg h1,if_neg h2,if_pos h3]
  rw[e];exact⟨u,v,rfl,hr.at_ 2 rfl,hr.at_ 3 rfl,.inl ⟨rfl,rfl⟩,.inl ⟨rfl,rfl⟩,hr.mod⟩
 ·rw[g4 p rfl h1 h2 h3 (.inl h4)];exact⟨u,v,rfl,hr.at_ 2 rfl,hr.at_ 3 rfl,.inl ⟨rfl,rfl⟩,.inl ⟨rfl,rfl⟩,hr.mod⟩
 ·rw[g4 p rfl h1 h2 h3 (.inr h5)];exact⟨u,v,rfl,hr.at_ 2 rfl,hr.at_ 3 rfl,.inl ⟨rfl,rfl⟩,.inl ⟨rfl,rfl⟩,hr.mod⟩
 ·rw[g8 h1 h2 h3 (by omega) (.inl h6)];exact⟨.slice none 0 0,v,rfl,Zt _,hr.at_ 3 rfl,.inr rfl,.inl ⟨rfl,rfl⟩,hr.mod⟩
 ·rw[g8 h1 h2 h3 (by omega) (.inr h7)];exact⟨.slice none 0 0,v,rfl,Zt _,hr.at_ 3 rfl,.inr rfl,.inl ⟨rfl,rfl⟩,hr.mod⟩
 ·have e:Z15 p={ p with id:=0,codes:=[] }:=by rw[Z15,if_neg h1,if_neg h2,if_neg h3,if_neg (by omega),if_neg (by omega),if_pos h8]
  rw[e];exact⟨u,.slice none 0 0,rfl,hr.at_ 2 rfl,Zx _,.inl ⟨rfl,rfl⟩,.inr rfl,hr.mod⟩
 ·have e:Z15 p=p:=by rw[Z15,if_neg h1,if_neg h2,if_neg h3,if_neg (by omega),if_neg (by omega),if_neg h8]
  rw[e];exact⟨u,v,rfl,hr.at_ 2 rfl,hr.at_ 3 rfl,.inl ⟨rfl,rfl⟩,.inl ⟨rfl,rfl⟩,hr.mod⟩
include hs
theorem Z9f:Calls Tryz.prog 58 #[pV p u v] w λe w'=>e=.returned (.int .i64 (Z1p p))/\Mod [] w w':=by
 refine Z1 (Z5 (J:=[.i p.kind,.b p.dup,.b p.retain,.b p.clean,.b p.session,.i p.qos,.i p.id,.i p.keep,.i p.code,.s p.client,.s p.topic,.s p.payload,.v u,.r (p.asks.map encA),.v v,.r (p.codes.map Za)]) sxE_ok Tryz.func58 Z80 rfl rfl (Rel.start2 (by simp[Ent.holds,Ent.wr,hu,hv,X.ev])) rfl rfl ?_) rfl;simp only[QQ,Nat.reduceAdd];intro b;refine⟨λh1=>?_,λh1=>⟨λh2=>?_,λh2=>⟨λh3=>?_,λh3=>⟨λh4=>?_,λh4=>⟨λh5=>?_,λh5=>⟨λh6=>?_,λh6 w' hr=>⟨?_,hr.mod⟩⟩⟩⟩⟩⟩⟩
 ·refine⟨[.i (Zba p)],rfl,λ_ w' hr=>Zjo w' p u v (hr.at_ 1 rfl) (hr.at_ 2 rfl) hs,?_⟩;simp only[QQ,Nat.reduceAdd];exact λw' hr=>⟨by rw[Z1p,if_pos h1],hr.mod⟩
 ·refine⟨[.i (Z2p p)],rfl,λ_ w' hr=>Zjn w' p u v (hr.at_ 1 rfl) (hr.at_ 2 rfl),?_⟩;simp only[QQ,Nat.reduceAdd];exact λw' hr=>⟨by rw[Z1p,if_neg h1,if_pos h2],hr.mod⟩
 ·refine⟨[.i (pubE p)],rfl,λ_ w' hr=>Zbz w' p u v (hr.at_ 1 rfl) (hr.at_ 2 rfl) hs,?_⟩;simp only[QQ,Nat.reduceAdd];exact λw' hr=>⟨by rw[Z1p,if_neg h1,if_neg h2,if_pos h3],hr.mod⟩
 ·refine⟨[.i (Zeg p)],rfl,λ_ w' hr=>Zmh w' p u v (hr.at_ 1 rfl) (hr.at_ 2 rfl) hs,?_⟩;simp only[QQ,Nat.reduceAdd];exact λw' hr=>⟨by rw[Z1p,if_neg h1,if_neg h2,if_neg h3,if_pos (.inl h4)],hr.mod⟩
 ·refine⟨[.i (Zeg p)],rfl,λ_ w' hr=>Zmh w' p u v (hr.at_ 1 rfl) (hr.at_ 2 rfl) hs,?_⟩;simp only[QQ,Nat.reduceAdd];exact λw' hr=>⟨by rw[Z1p,if_neg h1,if_neg h2,if_neg h3,if_pos (.inr h5)],hr.mod⟩
 ·refine⟨[.i (Zaf p)],rfl,λ_ w' hr=>Zpa w' p u v (hr.at_ 1 rfl) (hr.at_ 2 rfl) hs,?_⟩;simp only[QQ,Nat.reduceAdd];exact λw' hr=>⟨by rw[Z1p,if_neg h1,if_neg h2,if_neg h3,if_neg (by omega),if_pos h6],hr.mod⟩
 ·rw[Z1p,if_neg h1,if_neg h2,if_neg h3,if_neg (by omega),if_neg h6]
theorem Z5r:Calls Tryz.prog 23 #[pV p u v] w λe w'=>e=.returned (.int .i64 (chkP p))/\Mod [] w w':=by
 refine Z1 (Z5 (J:=[.i p.kind,.b p.dup,.b p.retain,.b p.clean,.b p.session,.i p.qos,.i p.id,.i p.keep,.i p.code,.s p.client,.s p.topic,.s p.payload,.v u,.r (p.asks.map encA),.v v,.r (p.codes.map Za)]) sxE_ok Tryz.func23 Z7v rfl rfl (Rel.start2 (by simp[Ent.holds,Ent.wr,hu,hv,X.ev])) rfl rfl ?_) rfl;simp only[QQ,Nat.reduceAdd];intro b;refine⟨[.b (Z1h p.kind)],rfl,λ_ w' _=>Zag w' _,?_⟩;simp only[QQ,Nat.reduceAdd];refine⟨λh w' hr=>⟨by rw[chkP,if_neg h],hr.mod⟩,λh=>?_⟩;have h:=qy9.1 h;rw[chkP,if_pos h];intro w1 hr;refine(Zsb w1 p u v (hr.at_ 1 rfl) (hr.at_ 2 rfl)).mono ?_;rintro e w2 ⟨x,y,rfl,rx,ry,ex,ey,m2⟩;generalize hq:Z15 p=q at rx ry ex ey⊢
 have hsq:SmallP q:=by rw[<- hq];exact hs.bare
 refine⟨[.i q.kind,.b q.dup,.b q.retain,.b q.clean,.b q.session,.i q.qos,.i q.id,.i q.keep,.i q.code,.s q.client,.s q.topic,.s q.payload,.v x,.r (q.asks.map encA),.v y,.r (q.codes.map Za)],rfl,rfl,m2,qy5 _,qy2.2 ⟨⟨rx,λk hk=>.inr (.inl ⟨rfl,?_⟩)⟩,qy2.2 ⟨⟨ry,λk hk=>.inr (.inl ⟨rfl,?_⟩)⟩,qy5 _⟩⟩,Zp (by simp[Ent.wr]),?_⟩
 ·rcases ex with⟨rfl,e1⟩|e1
  ·refine⟨_,qy10 _ (qy8 ..),rfl,?_⟩;simp only[Ent.fp,QQ,Nat.reduceAdd]at hk⊢;rw[e1]at hk;exact hk
  ·simp only[Ent.fp,QQ,Nat.reduceAdd,e1]at hk;exact absurd rfl hk.1
 ·rcases ey with⟨rfl,e1⟩|e1
  ·refine⟨_,qy10 _ (qy10 _ (qy8 ..)),rfl,?_⟩;simp only[Ent.fp,QQ,Nat.reduceAdd]at hk⊢;rw[e1]at hk;exact hk
  ·simp only[Ent.fp,QQ,Nat.reduceAdd,e1]at hk;exact absurd rfl hk.1
 simp only[QQ,Nat.reduceAdd];refine⟨[.b (Z65 q)],rfl,λ_ w' hr=>Zp9 w' q x y (hr.at_ 0 rfl) (hr.at_ 1 rfl) hsq,?_⟩;simp only[QQ,Nat.reduceAdd];refine⟨λh w' hr=>⟨by rw[if_neg h],hr.mod⟩,λh=>?_⟩;have h:=qy9.1 h;rw[if_pos h];refine⟨λh1=>?_,λh1=>?_⟩
 ·refine⟨[.i (pubE p)],rfl,λ_ w' hr=>Zbz w' p u v (hr.at_ 3 rfl) (hr.at_ 4 rfl) hs,?_⟩;simp only[QQ,Nat.reduceAdd];refine⟨λh2 w' hr=>⟨by rw[if_pos ⟨h1,h2⟩],hr.mod⟩,λh2=>?_⟩;have hn:¬(p.kind=3/\pubE p≠0):=λhh=>h2 hh.2;refine⟨[.b (idB p)],rfl,λ_ w' hr=>Zp8 w' p u v (hr.at_ 3 rfl) (hr.at_ 4 rfl),?_⟩;simp only[QQ,Nat.reduceAdd];refine⟨λh3=>⟨λh4 w' hr=>⟨?_,hr.mod⟩,λh4=>?_⟩,λh3=>?_⟩;(· rw[if_neg (by assumption),if_pos ⟨h3,h4⟩]);(· rw[if_neg (by assumption),if_neg (λhh=>h4 hh.2)];refine⟨[.i (Z1p p)],rfl,λ_ w' hr=>Z9f w' p u v (hr.at_ 3 rfl) (hr.at_ 4 rfl) hs,?_⟩;simp only[QQ,Nat.reduceAdd];exact λw' hr=>⟨by trivial,hr.mod⟩);(· rw[if_neg (by assumption),if_neg (λhh=>h3 hh.1)];refine⟨[.i (Z1p p)],rfl,λ_ w' hr=>Z9f w' p u v (hr.at_ 3 rfl) (hr.at_ 4 rfl) hs,?_⟩;simp only[QQ,Nat.reduceAdd];exact λw' hr=>⟨by trivial,hr.mod⟩)
 ·have hn:¬(p.kind=3/\pubE p≠0):=λhh=>h1 hh.1;refine⟨[.b (idB p)],rfl,λ_ w' hr=>Zp8 w' p u v (hr.at_ 3 rfl) (hr.at_ 4 rfl),?_⟩;simp only[QQ,Nat.reduceAdd];refine⟨λh3=>⟨λh4 w' hr=>⟨?_,hr.mod⟩,λh4=>?_⟩,λh3=>?_⟩;(· rw[if_neg (by assumption),if_pos ⟨h3,h4⟩]);(· rw[if_neg (by assumption),if_neg (λhh=>h4 hh.2)];refine⟨[.i (Z1p p)],rfl,λ_ w' hr=>Z9f w' p u v (hr.at_ 3 rfl) (hr.at_ 4 rfl) hs,?_⟩;simp only[QQ,Nat.reduceAdd];exact λw' hr=>⟨by trivial,hr.mod⟩);(· rw[if_neg (by assumption),if_neg (λhh=>h3 hh.1)];refine⟨[.i (Z1p p)],rfl,λ_ w' hr=>Z9f w' p u v (hr.at_ 3 rfl) (hr.at_ 4 rfl) hs,?_⟩;simp only[QQ,Nat.reduceAdd];exact λw' hr=>⟨by trivial,hr.mod⟩)
end
