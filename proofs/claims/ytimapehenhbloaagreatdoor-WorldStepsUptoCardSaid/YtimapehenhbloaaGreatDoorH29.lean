/- By an AI agent. -/
import Derived.Test.YtimapehenhbloaaGreatDoorH28
set_option linter.all false
set_option maxHeartbeats 20000000
set_option maxRecDepth 100000
open Nat renaming reduceAdd→ra
open List renaming length_cons→ϐ,length_nil→ϑ,not_mem_nil→ϒ,length_drop→ϕ,pairwise_singleton→Ϙ,pairwise_cons→Ϛ,length_take→Ϣ,mem_cons→ϣ,append_nil→Ϩ,flatMap_append→ϩ,flatMap_cons→Ϫ,flatMap_nil→ϫ,take_length→Ϭ
open Nat renaming reduceAdd→ϓ,le_refl→ϖ,le_trans→ϧ,zero_le→ϭ,min→Ϯ
open Bool renaming false→ϔ,true→Ϝ
open Go.Proofs.Tryz renaming prog→ϗ
open Go renaming World→ϙ,Value→Ϥ,Calls→Ϧ
open Option renaming none→Ϟ,some→Ϡ
open Int renaming toNat→ϥ
namespace Go.Proofs.Y
open Go.Sx
def Z2o(s:By)(k a:Nat)(b:Bool)(ha:a<=s.length):0<=(rdN s k a b).1/\(rdN s k a b).1<pw k/\a<=(rdN s k a b).2.1/\(rdN s k a b).2.1<=s.length /\ (b=Ϝ->(rdN s k a b).2.2=Ϝ)/\((rdN s k a b).2.2=ϔ->b=ϔ/\(rdN s k a b).2.1=a+k):=by
 have hp:=Z1bz k;unfold rdN;split
 ·have:=Zwu ((s.drop a).take k) 0;have e:((s.drop a).take k).length=k:=O3
  rw[e]at this;refine⟨O,O,O4,O,λh=>h,λh=>⟨h,rfl⟩⟩
 ·exact⟨O,O,ha,ϖ _,λ_=>rfl,λh=>by cases h⟩
def Z7p(s:By)(a:Nat)(b:Bool)(ha:a<=s.length):a<=(rdT s a b).2.1/\(rdT s a b).2.1<=s.length/\(rdT s a b).1.length<=(rdT s a b).2.1 - a /\ (b=Ϝ->(rdT s a b).2.2=Ϝ)/\((rdT s a b).2.2=ϔ->b=ϔ/\(rdT s a b).2.1=a+2+(rdT s a b).1.length):=by
 unfold rdT;split
 ·refine⟨O4,O4,O3,λh=>h,λh=>⟨h,O3⟩⟩
 ·exact⟨ϖ _,ha,O1,λ_=>rfl,λh=>by cases h⟩
def Zxy(s:By)(k:Int)(a:Nat)(b:Bool)(ha:a<=s.length):a<=(Z1e s k a b).2.1/\(Z1e s k a b).2.1<=s.length/\(Z1e s k a b).1.1.length<=s.length/\0<=(Z1e s k a b).1.2/\(Z1e s k a b).1.2<256 /\ (Z21 k (Z1e s k a b).1).length+a<=(Z1e s k a b).2.1+3/\((Z1e s k a b).2.2=ϔ->b=ϔ/\(Z21 k (Z1e s k a b).1).length+a=(Z1e s k a b).2.1/\a+2<=(Z1e s k a b).2.1):=by
 obtain⟨t1,t2,t3,t4,t5⟩:=Z7p s a b ha;by_cases hk:k=8
 ·obtain⟨n1,n2,n3,n4,n5,n6⟩:=Z2o s 1 (rdT s a b).2.1 (rdT s a b).2.2 t2;have n2:=n2;have hl:∀(x:By) (n:Int),(Z21 k (x,n)).length=x.length+3:=λx n=>by simp[Z21,hk,Z12,Zc]
  rw[Z1e,ϝ hk];simp only[hl];refine⟨O,n4,O,n1,n2,?_,λh=>?_⟩
  ·by_cases hs:(rdT s a b).2.2=Ϝ
   ·omega
   ·have:=t5 (by simpa using hs);omega
  ·obtain⟨h1,h2⟩:=n6 h;obtain⟨h3,h4⟩:=t5 h1;exact⟨h3,O,O⟩
 ·have hl:∀(x:By) (n:Int),(Z21 k (x,n)).length=x.length+2:=λx n=>by simp[Z21,hk,Z12]
  rw[Z1e,ϛ hk];simp only[hl];refine⟨t1,t2,O,O,O,O,λh=>?_⟩;obtain⟨h3,h4⟩:=t5 h;exact⟨h3,O,O⟩
def Z6q{s:By}{a a':Nat}{b b':Bool}(h:a<s.length)(hb:b=ϔ)(hs:b'=ϔ->a+1<=a'):Zw s a' b'<Zw s a b:=by
 subst hb;unfold Zw;cases b' with
 | true=>simp;omega
 | false=>have:=hs rfl;simp;omega
def Zxz{s:By}{k:Int}{a:Nat}{b:Bool}(h:a<s.length)(hb:b=ϔ):Zw s (Z1e s k a b).2.1 (Z1e s k a b).2.2<Zw s a b :=
 Z6q h hb λh2=>by have:=((Zxy s k a b O).2.2.2.2.2.2 h2).2.2;omega
def Zy0{s:By}{a:Nat}{b:Bool}(h:a<s.length)(hb:b=ϔ):Zw s (rdN s 1 a b).2.1 (rdN s 1 a b).2.2<Zw s a b :=
 Z6q h hb λh2=>by have:=((Z2o s 1 a b O).2.2.2.2.2 h2).2;omega
def Za4{s:By}{a:Nat}{b:Bool}(h:Zw s a b=0):¬(a<s.length/\b=ϔ):=by
 unfold Zw at h;split at h
 ·rename_i hb;exact λhh=>by rw[hb]at hh;cases hh.2
 ·omega
def Zsk{s:By}{k:Int}:∀(f g a:Nat) (b:Bool) (l:List Rd),Zw s a b<=f->Zw s a b<=g->rdAs s k f a b l=rdAs s k g a b l
 | 0,0,a,b,l,_,_=>rfl
 | 0,g+1,a,b,l,h,_=>by rw[rdAs,rdAs,ϛ (Za4 O)]
 | f+1,0,a,b,l,_,h=>by rw[rdAs,rdAs,ϛ (Za4 O)]
 | f+1,g+1,a,b,l,h1,h2=>by
  rw[rdAs,rdAs];split
  ·rename_i h;have:=Zxz (k:=k) h.1 h.2;exact Zsk f g _ _ _ O O
  ·rfl
def Zsl{s:By}:∀(f g a:Nat) (b:Bool) (l:List Int),Zw s a b<=f->Zw s a b<=g->rdCs s f a b l=rdCs s g a b l
 | 0,0,a,b,l,_,_=>rfl
 | 0,g+1,a,b,l,h,_=>by rw[rdCs,rdCs,ϛ (Za4 O)]
 | f+1,0,a,b,l,_,h=>by rw[rdCs,rdCs,ϛ (Za4 O)]
 | f+1,g+1,a,b,l,h1,h2=>by
  rw[rdCs,rdCs];split
  ·rename_i h;have:=Zy0 h.1 h.2;exact Zsl f g _ _ _ O O
  ·rfl
def Zkr{s:By}{k:Int}{a:Nat}{b:Bool}{l:List Rd}(h:a<s.length/\b=ϔ): rdAs s k (Zw s a b) a b l=rdAs s k (Zw s (Z1e s k a b).2.1 (Z1e s k a b).2.2) (Z1e s k a b).2.1 (Z1e s k a b).2.2 (l++[(Z1e s k a b).1]):=by
 have h1:=Zxz (k:=k) h.1 h.2;obtain⟨f,hf⟩:∃f,Zw s a b=f+1:=⟨Zw s a b - 1,O⟩
 rw[hf,rdAs,ϝ h];exact Zsk _ _ _ _ _ O (ϖ _)
def Zks{s:By}{a:Nat}{b:Bool}{l:List Int}(h:a<s.length/\b=ϔ): rdCs s (Zw s a b) a b l=rdCs s (Zw s (rdN s 1 a b).2.1 (rdN s 1 a b).2.2) (rdN s 1 a b).2.1 (rdN s 1 a b).2.2 (l++[(rdN s 1 a b).1]):=by
 have h1:=Zy0 h.1 h.2;obtain⟨f,hf⟩:∃f,Zw s a b=f+1:=⟨Zw s a b - 1,O⟩
 rw[hf,rdCs,ϝ h];exact Zsl _ _ _ _ _ O (ϖ _)
variable{f:Nat}
def Zie{s:By}{k:Int}{a:Nat}{b:Bool}{l:List Rd}(h:¬(a<s.length/\b=ϔ)):rdAs s k f a b l=(l,a,b):=by
 cases f with
 | zero=>rfl
 | succ f=>rw[rdAs,ϛ h]
def Zpp{s:By}{a:Nat}{b:Bool}{l:List Int}(h:¬(a<s.length/\b=ϔ)):rdCs s f a b l=(l,a,b):=by
 cases f with
 | zero=>rfl
 | succ f=>rw[rdCs,ϛ h]
abbrev totA(k:Int)(l:List Rd):Nat:=(l.map (Z21 k)).flatten.length
variable(k:Int)
def Zsm(l:List Rd)(x:Rd):totA k (l++[x])=totA k l+(Z21 k x).length:=O1
def Z15g{s:By}{k:Int}:∀(f a:Nat) (b:Bool) (l:List Rd),a<=s.length->a<=(rdAs s k f a b l).2.1/\(rdAs s k f a b l).2.1<=s.length /\ (∀x∈(rdAs s k f a b l).1,x∈l\/(x.1.length<=s.length/\0<=x.2/\x.2<256))/\totA k (rdAs s k f a b l).1+a<=totA k l+(rdAs s k f a b l).2.1+3
 | 0,a,b,l,h=>⟨ϖ _,h,λx hx=>.inl hx,by simp only[rdAs];omega⟩
 | f+1,a,b,l,h=>by
  rw[rdAs];split
  ·obtain⟨h1,h2,h3,h4,h5,h6,h7⟩:=Zxy s k a b h;by_cases hb:(Z1e s k a b).2.2=Ϝ
   ·rw[Zie (by rw[hb];simp)];refine⟨h1,h2,λx hx=>?_,?_⟩
    ·rcases qy13.1 hx with hx|hx
     ·exact .inl hx
     ·rw[qy12.1 hx];exact .inr ⟨h3,h4,h5⟩
    ·simp only[Zsm];omega
   ·have h7:=h7 (by simpa using hb);obtain⟨i1,i2,i3,i4⟩:=Z15g f (Z1e s k a b).2.1 (Z1e s k a b).2.2 (l++[(Z1e s k a b).1]) h2;refine⟨O,i2,λx hx=>?_,?_⟩
    ·rcases i3 x hx with hx|hx
     ·rcases qy13.1 hx with hx|hx
      ·exact .inl hx
      ·rw[qy12.1 hx];exact .inr ⟨h3,h4,h5⟩
     ·exact .inr hx
    ·rw[Zsm]at i4;omega
  ·exact⟨ϖ _,h,λx hx=>.inl hx,O4⟩
def Z15h{s:By}:∀(f a:Nat) (b:Bool) (l:List Int),a<=s.length->a<=(rdCs s f a b l).2.1/\(rdCs s f a b l).2.1<=s.length /\ (∀x∈(rdCs s f a b l).1,x∈l\/(0<=x/\x<256))/\(rdCs s f a b l).1.length+a<=l.length+(rdCs s f a b l).2.1+1
 | 0,a,b,l,h=>⟨ϖ _,h,λx hx=>.inl hx,by simp only[rdCs];omega⟩
 | f+1,a,b,l,h=>by
  rw[rdCs];split
  ·obtain⟨h1,h2,h3,h4,h5,h6⟩:=Z2o s 1 a b h;have h2:=h2;by_cases hb:(rdN s 1 a b).2.2=Ϝ
   ·rw[Zpp (by rw[hb];simp)];refine⟨h3,h4,λx hx=>?_,?_⟩
    ·rcases qy13.1 hx with hx|hx
     ·exact .inl hx
     ·rw[qy12.1 hx];exact .inr ⟨h1,h2⟩
    ·simp only[qy11,ϐ,ϑ];omega
   ·have h7:=(h6 (by simpa using hb)).2;obtain⟨i1,i2,i3,i4⟩:=Z15h f (rdN s 1 a b).2.1 (rdN s 1 a b).2.2 (l++[(rdN s 1 a b).1]) h4;refine⟨O,i2,λx hx=>?_,?_⟩
    ·rcases i3 x hx with hx|hx
     ·rcases qy13.1 hx with hx|hx
      ·exact .inl hx
      ·rw[qy12.1 hx];exact .inr ⟨h1,h2⟩
     ·exact .inr hx
    ·simp only[qy11,ϐ,ϑ]at i4;omega
  ·exact⟨ϖ _,h,λx hx=>.inl hx,O4⟩
structure BdP(s:List UInt8)(p:Pkt):Prop where
 kind:0<=p.kind/\p.kind<=15
 qos:0<=p.qos/\p.qos<=3
 id:0<=p.id/\p.id<=65535
 keep:0<=p.keep/\p.keep<=65535
 code:0<=p.code/\p.code<=65535
 asks:∀a∈p.asks,a.1.length<=s.length/\0<=a.2/\a.2<256
 codes:∀c∈p.codes,0<=c/\c<256
 client:p.client.length<=s.length
 topic:p.topic.length<=s.length
 payload:p.payload.length<=s.length
 total:totA p.kind p.asks<=s.length+3
 ncodes:p.codes.length<=s.length+1
def Zkt(k:Int):∀l:List Rd,l.length<=totA k l
 | []=>O1
 | x::l=>by
  have:=Zkt k l;have h2:2<=(Z21 k x).length:=by unfold Z21;rw[qy11,Z12];omega
  simp only[totA,List.map_cons,List.flatten_cons,qy11,ϐ]at *;omega
def BdP.small{s:By}{p:Pkt}(h:BdP s p)(hs:s.length<=60000000):SmallP p:=by have h1:=h.client;have h2:=h.topic;have h3:=h.payload;have h4:=h.total;have h5:=h.ncodes;have h6:=Zkt p.kind p.asks;exact⟨O,O,O,O,O,λa ha=>by have:=(h.asks a ha).1;omega⟩
def BdP.byte{s:By}{p:Pkt}(h:BdP s p)(hs:s.length<=60000000):ByteP p:=by
 refine⟨h.kind,h.qos,h.id,h.keep,h.code,λa ha=>by have:=h.asks a ha;omega,λc hc=>by have:=h.codes c hc;omega,h.small hs,?_⟩;have h1:=h.client;have h2:=h.topic;have h3:=h.payload;have h4:=h.total;have h5:=h.ncodes;have e1:(Z56 p).length<=s.length+64:=by
  unfold Z56;split
  ·simp only[qy11,Z12,Zc,ϐ,ϑ];omega
  ·split
   ·simp only[qy11,Zc];omega
   ·split
    ·rw[Z12];omega
    ·simp
 have e2:(if idB p=Ϝ then numB 2 p.id else[]).length<=2:=by
  split
  ·rw[Zc];omega
  ·simp
 have e4:=Zk4 1 p.codes;unfold Z20;simp only[qy11];unfold totA at h4;omega
def Z15i(s:By)(c:Nat)(hc:c<256):BdP s (begP c):=by
 unfold begP;split
 ·exact⟨O1,O3,O1,O1,O1,O1,O1,O1,O1,O1,O1,O1⟩
 ·exact⟨O3,O1,O1,O1,O1,O1,O1,O1,O1,O1,O1,O1⟩
def pw2:pw 2=65536:=rfl
def pw1:pw 1=256:=rfl
def Zy1{s:By}{p:Pkt}{a:Nat}{b:Bool}(h:BdP s p)(ha:a<=s.length):BdP s (headD s p a b).1/\(headD s p a b).2.1<=s.length/\(headD s p a b).1.asks=p.asks/\(headD s p a b).1.codes=p.codes:=by
 obtain⟨h1,h2,h3,h4,h5,h6,h7,h8,h9,h10,h11,h12⟩:=h;unfold headD;split
 ·rename_i hk;have t1:=Z7p s a b ha;have n1:=Z2o s 1 (rdT s a b).2.1 (rdT s a b).2.2 t1.2.1;have n2:=Z2o s 1 (rdN s 1 (rdT s a b).2.1 (rdT s a b).2.2).2.1 (rdN s 1 (rdT s a b).2.1 (rdT s a b).2.2).2.2 n1.2.2.2.1;unfold Zcx;simp only;generalize rdN s 1 (rdN s 1 (rdT s a b).2.1 (rdT s a b).2.2).2.1 (rdN s 1 (rdT s a b).2.1 (rdT s a b).2.2).2.2=x at n2⊢
  have n3:=Z2o s 2 x.2.1 x.2.2 n2.2.2.2.1;generalize rdN s 2 x.2.1 x.2.2=y at n3⊢
  have t2:=Z7p s y.2.1 y.2.2 n3.2.2.2.1;rw[pw2]at n3;exact⟨⟨h1,h2,h3,O4,h5,h6,h7,O4,h9,h10,h11,h12⟩,t2.2.1,trivial,trivial⟩
 ·split
  ·have n1:=Z2o s 1 a b ha;have n2:=Z2o s 1 (rdN s 1 a b).2.1 (rdN s 1 a b).2.2 n1.2.2.2.1;rw[pw1]at n2;exact⟨⟨h1,h2,h3,h4,O4,h6,h7,h8,h9,h10,h11,h12⟩,n2.2.2.2.1,rfl,rfl⟩
  ·split
   ·have t1:=Z7p s a b ha;exact⟨⟨h1,h2,h3,h4,h5,h6,h7,h8,O4,h10,h11,h12⟩,t1.2.1,rfl,rfl⟩
   ·exact⟨⟨h1,h2,h3,h4,h5,h6,h7,h8,h9,h10,h11,h12⟩,ha,rfl,rfl⟩
def Z1cg{s:By}{q:RS}(h:BdP s q.1)(ha:q.2.1<=s.length):BdP s (idD s q).1/\(idD s q).2.1<=s.length/\(idD s q).1.asks=q.1.asks/\(idD s q).1.codes=q.1.codes:=by
 obtain⟨h1,h2,h3,h4,h5,h6,h7,h8,h9,h10,h11,h12⟩:=h;unfold idD;split
 ·have n1:=Z2o s 2 q.2.1 q.2.2 ha;rw[pw2]at n1;exact⟨⟨h1,h2,O4,h4,h5,h6,h7,h8,h9,h10,h11,h12⟩,n1.2.2.2.1,rfl,rfl⟩
 ·exact⟨⟨h1,h2,h3,h4,h5,h6,h7,h8,h9,h10,h11,h12⟩,ha,rfl,rfl⟩
def Z1ak{s:By}{q:RS}(h:BdP s q.1)(ha:q.2.1<=s.length)(e1:q.1.asks=[])(e2:q.1.codes=[]):BdP s (Z38 s q).1/\(Z38 s q).2.1<=s.length:=by
 obtain⟨h1,h2,h3,h4,h5,h6,h7,h8,h9,h10,h11,h12⟩:=h;unfold Z38;split
 ·exact⟨⟨h1,h2,h3,h4,h5,h6,h7,h8,h9,O1,h11,h12⟩,ϖ _⟩
 ·split
  ·obtain⟨i1,i2,i3,i4⟩:=Z15g (Zw s q.2.1 q.2.2) q.2.1 q.2.2 q.1.asks ha;rw[e1]at i3 i4⊢;refine⟨⟨h1,h2,h3,h4,h5,λx hx=>?_,h7,h8,h9,h10,?_,h12⟩,?_⟩
   ·rcases i3 x hx with hx|hx
    ·cases hx
    ·exact hx
   ·simp only;rw[e1]at i2;have e0:totA q.1.kind []=0:=rfl;rw[e0]at i4;omega
   ·rw[e1]at i2;exact i2
  ·split
   ·obtain⟨i1,i2,i3,i4⟩:=Z15h (Zw s q.2.1 q.2.2) q.2.1 q.2.2 q.1.codes ha;rw[e2]at i3 i4⊢;refine⟨⟨h1,h2,h3,h4,h5,h6,λx hx=>?_,h8,h9,h10,h11,?_⟩,?_⟩
    ·rcases i3 x hx with hx|hx
     ·cases hx
     ·exact hx
    ·rw[e2]at i2;simp only[ϑ]at i4⊢;omega
    ·rw[e2]at i2;exact i2
   ·exact⟨⟨h1,h2,h3,h4,h5,h6,h7,h8,h9,h10,h11,h12⟩,ha⟩
def Zv0{s:By}{a:Nat}(h:(getL s a).2.2=0):a<=s.length/\(a+(getL s a).2.1).toNat<=s.length/\0<=(getL s a).2.1:=by
 unfold getL at h⊢;split at h
 ·rename_i h0;rw[ϝ h0];have:=Z13q 4 0 0 (s.drop (a:Int).toNat) U;rw[ϕ]at this;omega
 ·simp at h
def Zpq{s:By}(h:(getL s 1).2.2=0):BdP s (Z1a s).1/\(Z1a s).2.1<=s.length:=by
 have h1:=Zv0 h;have h2:(1+(getL s 1).2.1).toNat<=s.length:=h1.2.1;unfold Z1a Zhj;obtain⟨a1,a2,a3,a4⟩:=Zy1 (Z15i s (s.getD 0 0).toNat (Z5c _)) h2;obtain⟨b1,b2,b3,b4⟩:=Z1cg a1 a2;have e:(begP (s.getD 0 0).toNat).asks=[]/\(begP (s.getD 0 0).toNat).codes=[]:=by unfold begP;split<;>exact⟨rfl,rfl⟩
 exact Z1ak b1 b2 (by rw[b3,a3,e.1]) (by rw[b4,a4,e.2])
def rdV(s:By)(a:Nat)(sh:Bool):List Ϥ:=[.string ⟨s.toArray⟩,.int .i64 a,.bool sh]
abbrev rdAt(w:ϙ)(b:Nat)(s:By)(a:Nat)(sh:Bool):Prop:=w.heap[b]?=Ϡ (.cells (rdV s a sh).toArray 267 (0,0))
def pC(p:Pkt)(u v:Ϥ):List Ϥ:=[.int .i64 p.kind,.bool p.dup,.bool p.retain,.bool p.clean,.bool p.session,.int .i64 p.qos,.int .i64 p.id,.int .i64 p.keep,.int .i64 p.code,.string ⟨p.client.toArray⟩,.string ⟨p.topic.toArray⟩,.string ⟨p.payload.toArray⟩,Go.Sx.sc1 u,Go.Sx.sc1 v]
abbrev pAt(w:ϙ)(b:Nat)(p:Pkt)(u v:Ϥ):Prop:=w.heap[b]?=Ϡ (.cells (pC p u v).toArray 85 (0,0))
variable{J:List V}
def Zsn{w:ϙ}{hp:List Ent}{fp:List Nat}(hh:∀e∈hp,e.holds J w)(ho:∀e∈hp,e.wr=Ϝ->∀k,e.fp J k->k∈fp)(hs:Zt J hp):Rel ⟨fp,w⟩ J hp w :=
 ⟨Mod.refl _ _,hh,λe he hw k hk=>.inr (ho e he hw k hk),hs⟩
section
variable (w:ϙ) (b:Nat) (s:List UInt8) (a:Nat) (sh:Bool) (h:rdAt w b s a sh) (ha:a<=s.length) (hs:s.length<1000000000)
include h
def Z1k7{k:V}:Rel ⟨[b],w⟩ [.n b,.s s,.i a,.b sh,k] [.cells 0 267 [.str (.var 1),.int .i64 (.var 2),.bool (.var 3)]] w :=
 Zsn (qy2.2 ⟨h,qy5 _⟩) (qy2.2 ⟨λ_ k hk=>by simp only[Ent.fp]at hk;simp[hk],qy5 _⟩) Z2
def Z1ch:Rel ⟨[b],w⟩ [.n b,.s s,.i a,.b sh] [.cells 0 267 [.str (.var 1),.int .i64 (.var 2),.bool (.var 3)]] w :=
 Zsn (qy2.2 ⟨h,qy5 _⟩) (qy2.2 ⟨λ_ k hk=>by simp only[Ent.fp]at hk;simp[hk],qy5 _⟩) Z2
include ha
def Z1fx:Ϧ ϗ 287 #[.pointer (Ϡ ⟨b,0,Ϟ⟩)] w λe w'=>e=.returned (.string ⟨(s.drop a).toArray⟩)/\rdAt w' b s s.length sh/\Mod [b] w w':=by refine Wu Z9d (Z1ch w b s a sh h) ?_;simp only[QQ];refine⟨by omega,by omega,λw' hr=>⟨by simp,hr.at_ 0 rfl,hr.mod⟩⟩
include hs
def Z40(k:Nat)(hk:1<=k/\k<=4):Ϧ ϗ 285 #[.pointer (Ϡ ⟨b,0,Ϟ⟩),.int .i64 k] w λe w'=>e=.returned (.int .i64 (rdN s k a sh).1)/\rdAt w' b s (rdN s k a sh).2.1 (rdN s k a sh).2.2/\Mod [b] w w':=by
 refine Wu (J:=[.n b,.s s,.i a,.b sh,.i k]) Z84 (Z1k7 w b s a sh h) ?_;simp only[QQ,ϓ];refine⟨[.i (getR s a k).1,.i (getR s a k).2],rfl,λ_ w' _=>Zp0 w' s a k (by omega),?_⟩;simp only[QQ,ϓ];refine⟨by omega,by omega,λw' hr=>?_⟩;have hc:=hr.at_ 0 rfl;simp only[Ent.holds,QQ,ϓ]at hc;by_cases hh:a+k<=s.length
 ·have e1:getR s a k=(((beN ((s.drop a).take k) 0:Nat):Int),0):=by
   have:=Z9v (s:=s) (at_:=a) (b:=k) (by omega) (by omega) (by omega);simpa using this
  have e2:rdN s k a sh=(((beN ((s.drop a).take k) 0:Nat):Int),a+k,sh):=by rw[rdN,ϝ hh]
  rw[e1]at hc⊢;rw[e2];refine⟨rfl,?_,hr.mod⟩;have e3:(if(a:Int)+(k:Int)<(s.length:Int)then(a:Int)+(k:Int)else(s.length:Int))=((a+k:Nat):Int):=by split<;>omega
  rw[e3]at hc;rw[rdAt,hc];simp[rdV]
 ·have e1:getR s a k=(0,8):=Z3k (by omega) (by omega) (by omega);have e2:rdN s k a sh=(0,s.length,Ϝ):=by rw[rdN,ϛ hh]
  rw[e1]at hc⊢;rw[e2];refine⟨rfl,?_,hr.mod⟩;have e3:(if(a:Int)+(k:Int)<(s.length:Int)then(a:Int)+(k:Int)else(s.length:Int))=((s.length:Nat):Int):=by split<;>omega
  rw[e3]at hc;rw[rdAt,hc];simp[rdV]
def Zku:Ϧ ϗ 286 #[.pointer (Ϡ ⟨b,0,Ϟ⟩)] w λe w'=>e=.returned (.string ⟨(rdT s a sh).1.toArray⟩)/\rdAt w' b s (rdT s a sh).2.1 (rdT s a sh).2.2/\Mod [b] w w':=by
 refine Wu Z9a (Z1ch w b s a sh h) ?_;simp only[QQ,ϓ];refine⟨[.s (getT s a).1,.i (getT s a).2.1,.i (getT s a).2.2],rfl,λ_ w' _=>Z13r w' s a (by omega),?_⟩;simp only[QQ,ϓ];have key:((a:Int)+(getT s a).2.1=((rdT s a sh).2.1:Nat))/\(getT s a).1=(rdT s a sh).1/\(sh || !decide ((getT s a).2.2=0))=(rdT s a sh).2.2:=by
  by_cases h2:a+2<=s.length
  ·have e1:getR s a 2=(((beN ((s.drop a).take 2) 0:Nat):Int),0):=by
    have:=Z9v (s:=s) (at_:=a) (b:=2) (by omega) (by omega) (by omega);simpa using this
   rw[getT,e1,ϝ rfl,rdT];simp only;by_cases h3:a+2+beN ((s.drop a).take 2) 0<=s.length
   ·rw[ϛ (by omega),ϝ ⟨h2,h3⟩];refine⟨by simp only;omega,?_,by simp⟩;have e3:((a:Int)+2+((beN ((s.drop a).take 2) 0:Nat):Int)).toNat=a+2+beN ((s.drop a).take 2) 0:=by omega
    have e4:((a:Int)+2).toNat=a+2:=by omega
    simp only[e3,e4];rw[List.drop_take];congr 1
    omega
   ·rw[ϝ (by omega),ϛ (by omega)];exact⟨by simp,rfl,by simp⟩
  ·have e1:getR s a 2=(0,8):=Z3k (by omega) (by omega) (by omega);rw[getT,e1,ϛ (by simp),rdT,ϛ (by omega)];exact⟨by simp,rfl,by simp⟩
 obtain⟨k1,k2,k3⟩:=key;have kb:=Z7p s a sh ha;rw[k1];refine⟨by omega,by omega,λw' hr=>?_⟩;have hc:=hr.at_ 0 rfl;simp only[Ent.holds,QQ,ϓ]at hc;rw[k1,k3]at hc;exact⟨by rw[k2],hc,hr.mod⟩
end
abbrev nilV:Ϥ:=.slice Ϟ 0 0
def Zy2(w:ϙ)(ty:Nat)(ks:List Kd):owns w nilV ty ks []:=⟨O1,World.ownsRow_nil _ _ _ _⟩
section
variable (w:ϙ) (b c:Nat) (s:List UInt8) (a:Nat) (sh:Bool) (p:Pkt) (h:rdAt w b s a sh) (hp:pAt w c p nilV nilV) (hbc:b≠c) (ha:a<=s.length) (hs:s.length<1000000000)
include h hp hbc
def Z1ci:Rel ⟨[b,c],w⟩ [.n b,.s s,.i a,.b sh,.n c,.i p.kind,.b p.dup,.b p.retain,.b p.clean,.b p.session,.i p.qos,.i p.id,.i p.keep,.i p.code,.s p.client,.s p.topic,.s p.payload] [.cells 0 267 [.str (.var 1),.int .i64 (.var 2),.bool (.var 3)],.cells 4 85 [.int .i64 (.var 5),.bool (.var 6),.bool (.var 7),.bool (.var 8),.bool (.var 9),.int .i64 (.var 10),.int .i64 (.var 11),.int .i64 (.var 12),.int .i64 (.var 13),.str (.var 14),.str (.var 15),.str (.var 16),.nils,.nils]] w:=by
 refine Zsn (qy2.2 ⟨h,qy2.2 ⟨hp,qy5 _⟩⟩) (qy2.2 ⟨λ_ k hk=>?_,qy2.2 ⟨λ_ k hk=>?_,qy5 _⟩⟩) (Ϛ.2 ⟨λe he _ k h1 h2=>?_,Ϙ _ _⟩)
 ·simp only[Ent.fp]at hk;simp[hk]
 ·simp only[Ent.fp,QQ,ϓ]at hk;simp[hk]
 ·rw[qy12]at he;subst he;simp only[Ent.fp,QQ,ϓ]at h1 h2;exact hbc (h1.symm.trans h2)
include ha hs
def Z10g:Ϧ ϗ 284 #[.pointer (Ϡ ⟨b,0,Ϟ⟩),.pointer (Ϡ ⟨c,0,Ϟ⟩)] w λe w'=>e=.returned (.tuple #[])/\rdAt w' b s (Zcx s p a sh).2.1 (Zcx s p a sh).2.2/\pAt w' c (Zcx s p a sh).1 nilV nilV/\Mod [b,c] w w':=by refine Wu Z71 (Z1ci w b c s a sh p h hp hbc) ?_;simp only[QQ];have t1:=Z7p s a sh ha;intro w1 hr;refine(Zku w1 b s a sh (hr.at_ 0 rfl) ha hs).mono ?_;rintro e w2 ⟨rfl,h1,m1⟩;refine⟨[.s _,.s s,.i (_),.b _],rfl,rfl,m1,qy2.2 ⟨h1,qy5 _⟩,(λx hx=>ϟ hx ϒ),Z8,?_⟩;(try simp only);have n1:=Z2o s 1 (rdT s a sh).2.1 (rdT s a sh).2.2 t1.2.1;intro w1 hr;refine(Z40 w1 b s _ _ (hr.at_ 0 rfl) t1.2.1 hs 1 (by omega)).mono ?_;rintro e w2 ⟨rfl,h1,m1⟩;refine⟨[.i _,.s s,.i (_),.b _],rfl,rfl,m1,qy2.2 ⟨h1,qy5 _⟩,(λx hx=>ϟ hx ϒ),Z8,?_⟩;(try simp only);have n2:=Z2o s 1 _ (rdN s 1 (rdT s a sh).2.1 (rdT s a sh).2.2).2.2 n1.2.2.2.1;intro w1 hr;refine(Z40 w1 b s _ _ (hr.at_ 0 rfl) n1.2.2.2.1 hs 1 (by omega)).mono ?_;rintro e w2 ⟨rfl,h1,m1⟩;refine⟨[.i _,.s s,.i (_),.b _],rfl,rfl,m1,qy2.2 ⟨h1,qy5 _⟩,(λx hx=>ϟ hx ϒ),Z8,?_⟩;(try simp only);have n3:=Z2o s 2 _ (rdN s 1 (rdN s 1 (rdT s a sh).2.1 (rdT s a sh).2.2).2.1 (rdN s 1 (rdT s a sh).2.1 (rdT s a sh).2.2).2.2).2.2 n2.2.2.2.1;intro w1 hr;refine(Z40 w1 b s _ _ (hr.at_ 0 rfl) n2.2.2.2.1 hs 2 (by omega)).mono ?_;rintro e w2 ⟨rfl,h1,m1⟩;refine⟨[.i _,.s s,.i (_),.b _],rfl,rfl,m1,qy2.2 ⟨h1,qy5 _⟩,(λx hx=>ϟ hx ϒ),Z8,?_⟩;(try simp only);intro w1 hr;refine(Zku w1 b s _ _ (hr.at_ 0 rfl) n3.2.2.2.1 hs).mono ?_;rintro e w2 ⟨rfl,h1,m1⟩;refine⟨[.s _,.s s,.i (_),.b _],rfl,rfl,m1,qy2.2 ⟨h1,qy5 _⟩,(λx hx=>ϟ hx ϒ),Z8,?_⟩;(try simp only);exact λw' hr=>⟨by trivial,hr.at_ 0 rfl,hr.at_ 1 rfl,hr.mod⟩
end
def Zy3(w w':ϙ)(b c:Nat)(s:By)(r:RS):Prop:=rdAt w' b s r.2.1 r.2.2/\Mod [b,c] w w'/\∃x y,pAt w' c r.1 x y/\owns w' x 63 [.str,.int .i64] (r.1.asks.map encA)/\owns w' y 3 [.int .i64] (r.1.codes.map Zg) /\
 (∀k,Z1 x k->w.heap.size<=k)/\(∀k,Z1 y k->w.heap.size<=k)/\∀k,Z1 x k->Z1 y k->False
variable{w':ϙ}
def Zkv{w:ϙ}{b c:Nat}{s:By}{r:RS}{hp:List Ent}{x y:Ϥ}(hr:Rel ⟨[b,c],w⟩ J hp w')(h0:rdAt w' b s r.2.1 r.2.2)(h1:pAt w' c r.1 x y)(o1:owns w' x 63 [.str,.int .i64] (r.1.asks.map encA))(o2:owns w' y 3 [.int .i64] (r.1.codes.map Zg)){vx tx vy ty vb tb vc tc:Nat}{kx ky:List Kd}{rx ry:X}{cb cc:List Sc}(e2:hp[2]?=Ϡ (.cells vb tb cb))(e3:hp[3]?=Ϡ (.cells vc tc cc))(e4:hp[4]?=Ϡ (.row vx tx kx rx))(e5:hp[5]?=Ϡ (.row vy ty ky ry))(q2:(J.getD vb (.i 0)).toN=b)(q3:(J.getD vc (.i 0)).toN=c)(q4:(J.getD vx (.i 0)).toV=x)(q5:(J.getD vy (.i 0)).toV=y):Zy3 w w' b c s r:=by
 subst q2 q3 q4 q5;refine⟨h0,hr.mod,_,_,h1,o1,o2,λk hk=>?_,λk hk=>?_,λk hk hk'=>Zt.disj hr.sep e4 e5 U (.inl rfl) hk hk'⟩
 ·rcases hr.own _ (qy6 e4) rfl k hk with h|h
  ·exact h
  ·rcases ϣ.1 h with h|h
   ·exact(Zt.disj hr.sep e4 e2 U (.inl rfl) hk h).elim
   ·rw[qy12]at h;exact(Zt.disj hr.sep e4 e3 U (.inl rfl) hk h).elim
 ·rcases hr.own _ (qy6 e5) rfl k hk with h|h
  ·exact h
  ·rcases ϣ.1 h with h|h
   ·exact(Zt.disj hr.sep e5 e2 U (.inl rfl) hk h).elim
   ·rw[qy12]at h;exact(Zt.disj hr.sep e5 e3 U (.inl rfl) hk h).elim
def Z1i7(s:By)(q:RS):List V->Prop:=λvs=>∃x y,vs=[.s s,.i q.2.1,.b q.2.2,.i q.1.kind,.b q.1.dup,.b q.1.retain,.b q.1.clean,.b q.1.session,.i q.1.qos,.i q.1.id,.i q.1.keep,.i q.1.code,.s q.1.client,.s q.1.topic,.s q.1.payload,.v x,.r (q.1.asks.map encA),.v y,.r (q.1.codes.map Zg)]
def Z1i8(s:By)(q:RS):List V->Prop:=λvs=>∃(l:List Rd) (a:Nat) (b:Bool) (x y:Ϥ),vs=[.s s,.i a,.b b,.i q.1.kind,.b q.1.dup,.b q.1.retain,.b q.1.clean,.b q.1.session,.i q.1.qos,.i q.1.id,.i q.1.keep,.i q.1.code,.s q.1.client,.s q.1.topic,.s q.1.payload,.v x,.r (l.map encA),.v y,.r (q.1.codes.map Zg)]/\a<=s.length /\
 (b=ϔ->l.length<=a)/\rdAs s q.1.kind (Zw s a b) a b l=rdAs s q.1.kind (Zw s q.2.1 q.2.2) q.2.1 q.2.2 q.1.asks
def Z1i9(s:By)(q:RS):List V->Prop:=λvs=>∃(l:List Int) (a:Nat) (b:Bool) (x y:Ϥ),vs=[.s s,.i a,.b b,.i q.1.kind,.b q.1.dup,.b q.1.retain,.b q.1.clean,.b q.1.session,.i q.1.qos,.i q.1.id,.i q.1.keep,.i q.1.code,.s q.1.client,.s q.1.topic,.s q.1.payload,.v x,.r (q.1.asks.map encA),.v y,.r (l.map Zg)]/\a<=s.length /\
 (b=ϔ->l.length<=a)/\rdCs s (Zw s a b) a b l=rdCs s (Zw s q.2.1 q.2.2) q.2.1 q.2.2 q.1.codes
def Z1al(s:By)(vs:List V):Nat:=Zw s (vs.getD 1 (.i 0)).toI.toNat (vs.getD 2 (.i 0)).toB
section
variable (w:ϙ) (b c:Nat) (s:List UInt8) (a:Nat) (sh:Bool) (p:Pkt) (h:rdAt w b s a sh) (hp:pAt w c p nilV nilV) (hbc:b≠c) (ha:a<=s.length) (hs:s.length<1000000000) (pz:p.asks=[]/\p.codes=[]) (hB:BdP s p)
include h hp hbc ha hs pz hB
def Z15j:Ϧ ϗ 249 #[.pointer (Ϡ ⟨b,0,Ϟ⟩),.pointer (Ϡ ⟨c,0,Ϟ⟩)] w λe w'=>e=.returned (.tuple #[])/\Zy3 w w' b c s (Zhj s p a sh):=by
  refine Wu Z9c (Z1ci w b c s a sh p h hp hbc) ?_;simp only[QR,ra];intro b1 b2;refine⟨Z1i7 s (headD s p a sh),⟨λh1=>?_,λh1=>⟨λh2=>?_,λh2=>⟨λh3=>?_,λh3=>?_⟩⟩⟩,?_⟩
  . intro w1 hr;refine(Z10g w1 b c s a sh p (hr.at_ 2 rfl) (hr.at_ 3 rfl) hbc ha hs).mono ?_;rintro e w2 ⟨rfl,g1,g2,m1⟩;have hq:headD s p a sh=Zcx s p a sh:=by rw[headD,ϝ h1]
    rw[hq];have za:(Zcx s p a sh).1.asks=[]:=pz.1;have zc:(Zcx s p a sh).1.codes=[]:=pz.2;generalize Zcx s p a sh=q at g1 g2 za zc⊢
    refine⟨[.s s,.i q.2.1,.b q.2.2,.i q.1.kind,.b q.1.dup,.b q.1.retain,.b q.1.clean,.b q.1.session,.i q.1.qos,.i q.1.id,.i q.1.keep,.i q.1.code,.s q.1.client,.s q.1.topic,.s q.1.payload,.v nilV,.r [],.v nilV,.r []],rfl,rfl,m1,qy2.2 ⟨g1,qy2.2 ⟨g2,qy5 _⟩⟩,
      qy2.2 ⟨⟨Zy2 _ _ _,λz hz=>by cases hz⟩,qy2.2 ⟨⟨Zy2 _ _ _,λz hz=>by cases hz⟩,qy5 _⟩⟩,Ϛ.2 ⟨λe he _ k hk _=>(by cases hk),Ϙ _ _⟩,?_⟩
    simp only[QR,ra];exact⟨nilV,nilV,by rw[za,zc];rfl⟩
  . have n1:=Z2o s 1 a sh ha;intro w1 hr;refine(Z40 w1 b s a sh (hr.at_ 2 rfl) ha hs 1 O).mono ?_;rintro e w2 ⟨rfl,h1,m1⟩;refine⟨[.i _,.s s,.i (_:Nat),.b _],rfl,rfl,m1,qy2.2 ⟨h1,qy5 _⟩,(λx hx=>ϟ hx ϒ),Z8,?_⟩;(try simp only[QR,ra]);clear m1 h1 hr;intro w1 hr;refine(Z40 w1 b s _ _ (hr.at_ 2 rfl) n1.2.2.2.1 hs 1 O).mono ?_;rintro e w2 ⟨rfl,h1,m1⟩;refine⟨[.i _,.s s,.i (_:Nat),.b _],rfl,rfl,m1,qy2.2 ⟨h1,qy5 _⟩,(λx hx=>ϟ hx ϒ),Z8,?_⟩;(try simp only[QR,ra]);rw[headD,ϛ (show ¬p.kind=1 by assumption),ϝ h2];exact⟨nilV,nilV,by simp only[pz.1,pz.2];rfl⟩
  . intro w1 hr;refine(Zku w1 b s a sh (hr.at_ 2 rfl) ha hs).mono ?_;rintro e w2 ⟨rfl,h1,m1⟩;refine⟨[.s _,.s s,.i (_:Nat),.b _],rfl,rfl,m1,qy2.2 ⟨h1,qy5 _⟩,(λx hx=>ϟ hx ϒ),Z8,?_⟩;(try simp only[QR,ra]);rw[headD,ϛ (show ¬p.kind=1 by assumption),ϛ (show ¬p.kind=2 by assumption),ϝ h3];exact⟨nilV,nilV,by simp only[pz.1,pz.2];rfl⟩
  . rw[headD,ϛ (show ¬p.kind=1 by assumption),ϛ (show ¬p.kind=2 by assumption),ϛ (show ¬p.kind=3 by assumption)];exact⟨nilV,nilV,by simp only[pz.1,pz.2];rfl⟩
  obtain⟨d1,d2,d3,d4⟩:=Zy1 hB ha;rw[Zhj];rw[pz.1]at d3;rw[pz.2]at d4;generalize headD s p a sh=q at d1 d2 d3 d4⊢
  rintro _ - ⟨x1,y1,rfl⟩;simp only[QR,ra];refine⟨[.b (idB q.1)],rfl,λ_ w' hr=>Z19b w' q.1 x1 y1 (owns.reads (hr.at_ 4 rfl)) (owns.reads (hr.at_ 5 rfl)),?_⟩;simp only[QR,ra];refine⟨Z1i7 s (idD s q),⟨λh1=>?_,λh1=>?_⟩,?_⟩
  . intro w1 hr;refine(Z40 w1 b s _ _ (hr.at_ 2 rfl) d2 hs 2 (by omega)).mono ?_;have h1':=h1;rintro e w2 ⟨rfl,h1,m1⟩;refine⟨[.i _,.s s,.i (_:Nat),.b _],rfl,rfl,m1,qy2.2 ⟨h1,qy5 _⟩,(λx hx=>ϟ hx ϒ),Z8,?_⟩;(try simp only[QR,ra]);rw[idD,ϝ h1'];exact⟨x1,y1,rfl⟩
  . rw[idD,ϛ h1];exact⟨x1,y1,rfl⟩
  obtain⟨f1,hqa,f3,f4⟩:=Z1cg d1 d2;have hqz:(idD s q).1.asks=[]/\(idD s q).1.codes=[]:=⟨by rw[f3,d3],by rw[f4,d4]⟩
  generalize idD s q=q at f1 hqa hqz⊢
  rintro _ - ⟨x2,y2,rfl⟩;simp only[QR,ra];refine⟨λk3=>?_,λk3=>⟨λk8=>?_,λk8=>⟨λk10=>?_,λk10=>⟨λk9=>?_,λk9 w' hr=>?_⟩⟩⟩⟩
  . intro w1 hr;refine(Z1fx w1 b s _ _ (hr.at_ 2 rfl) hqa).mono ?_;rintro e w2 ⟨rfl,h1,m1⟩;refine⟨[.s _,.s s,.i (_:Nat),.b _],rfl,rfl,m1,qy2.2 ⟨h1,qy5 _⟩,(λx hx=>ϟ hx ϒ),Z8,?_⟩;(try simp only[QR,ra]);intro w' hr;rw[Z38,ϝ k3];exact⟨by trivial,Zkv hr (hr.at_ 2 rfl) (hr.at_ 3 rfl) (hr.at_ 4 rfl) (hr.at_ 5 rfl) rfl rfl rfl rfl rfl rfl rfl rfl⟩
  . refine⟨Z1i8 s q,Z1al s,⟨q.1.asks,q.2.1,q.2.2,x2,y2,rfl,hqa,λ_=>by rw[hqz.1];simp,rfl⟩,?_⟩;rintro _ - ⟨l,a',b',x3,y3,rfl,ha',hl',hg⟩;simp only[QR,ra];refine⟨λhc=>?_,λhc w' hr=>?_⟩;(· have hc':a'<s.length/\b'=ϔ:=⟨by have:=hc.1;omega,by simpa using hc.2⟩;have hll:=hl' hc'.2;have hA:=Zxy s q.1.kind a' b' ha';have hT:=Z7p s a' b' ha';have hst:=Zkr (k:=q.1.kind) (l:=l) hc';have hlt:=Zxz (k:=q.1.kind) hc'.1 hc'.2;intro w1 hr;refine(Zku w1 b s a' b' (hr.at_ 2 rfl) ha' hs).mono ?_;rintro e w2 ⟨rfl,h1,m1⟩;refine⟨[.s _,.s s,.i (_:Nat),.b _],rfl,rfl,m1,qy2.2 ⟨h1,qy5 _⟩,(λx hx=>ϟ hx ϒ),Z8,?_⟩;(try simp only[QR,ra]);clear m1 h1 hr;intro ba;refine⟨λhk=>?_,λhk=>?_⟩;(· have e8:Z1e s q.1.kind a' b'=(((rdT s a' b').1,(rdN s 1 (rdT s a' b').2.1 (rdT s a' b').2.2).1),(rdN s 1 (rdT s a' b').2.1 (rdT s a' b').2.2).2):=by { rw[Z1e,ϝ hk] };intro w1 hr;refine(Z40 w1 b s _ _ (hr.at_ 3 rfl) hT.2.1 hs 1 (by omega)).mono ?_;rintro e w2 ⟨rfl,h1,m1⟩;refine⟨[.i _,.s s,.i (_:Nat),.b _],rfl,rfl,m1,qy2.2 ⟨h1,qy5 _⟩,(λx hx=>ϟ hx ϒ),Z8,?_⟩;(try simp only[QR,ra]);clear m1 h1 hr;intro z1;refine⟨by(try simp only[qy3,ϑ,ϐ]);omega,λz2=>⟨⟨l++[(Z1e s q.1.kind a' b').1],(Z1e s q.1.kind a' b').2.1,(Z1e s q.1.kind a' b').2.2,z2,y3,by rw[e8];simp[encA],hA.2.1,λh0=>?_,by rw[<- hst];exact hg⟩,by rw[e8]at hlt;exact hlt⟩⟩;have:=(hA.2.2.2.2.2.2 h0).2.2;simp only[qy11,ϐ,ϑ];omega);(· have e8:Z1e s q.1.kind a' b'=(((rdT s a' b').1,0),(rdT s a' b').2):=by { rw[Z1e,ϛ hk] };intro z1;refine⟨by(try simp only[qy3,ϑ,ϐ]);omega,λz2=>⟨⟨l++[(Z1e s q.1.kind a' b').1],(Z1e s q.1.kind a' b').2.1,(Z1e s q.1.kind a' b').2.2,z2,y3,by rw[e8];simp[encA],hA.2.1,λh0=>?_,by rw[<- hst];exact hg⟩,by rw[e8]at hlt;exact hlt⟩⟩;have:=(hA.2.2.2.2.2.2 h0).2.2;simp only[qy11,ϐ,ϑ];omega));(· have hc':¬(a'<s.length/\b'=ϔ):=λhh=>hc ⟨by have:=hh.1;omega,by simp[hh.2]⟩;rw[Zie hc']at hg;have hrr:Z38 s q=({ q.1 with asks:=l },a',b'):=by { unfold Z38;rw[ϛ k3,ϝ (by omega),<- hg] };rw[hrr];exact⟨by trivial,Zkv hr (hr.at_ 2 rfl) (hr.at_ 3 rfl) (hr.at_ 4 rfl) (hr.at_ 5 rfl) rfl rfl rfl rfl rfl rfl rfl rfl⟩)
  . refine⟨Z1i8 s q,Z1al s,⟨q.1.asks,q.2.1,q.2.2,x2,y2,rfl,hqa,λ_=>by rw[hqz.1];simp,rfl⟩,?_⟩;rintro _ - ⟨l,a',b',x3,y3,rfl,ha',hl',hg⟩;simp only[QR,ra];refine⟨λhc=>?_,λhc w' hr=>?_⟩;(· have hc':a'<s.length/\b'=ϔ:=⟨by have:=hc.1;omega,by simpa using hc.2⟩;have hll:=hl' hc'.2;have hA:=Zxy s q.1.kind a' b' ha';have hT:=Z7p s a' b' ha';have hst:=Zkr (k:=q.1.kind) (l:=l) hc';have hlt:=Zxz (k:=q.1.kind) hc'.1 hc'.2;intro w1 hr;refine(Zku w1 b s a' b' (hr.at_ 2 rfl) ha' hs).mono ?_;rintro e w2 ⟨rfl,h1,m1⟩;refine⟨[.s _,.s s,.i (_:Nat),.b _],rfl,rfl,m1,qy2.2 ⟨h1,qy5 _⟩,(λx hx=>ϟ hx ϒ),Z8,?_⟩;(try simp only[QR,ra]);clear m1 h1 hr;intro ba;refine⟨λhk=>?_,λhk=>?_⟩;(· have e8:Z1e s q.1.kind a' b'=(((rdT s a' b').1,(rdN s 1 (rdT s a' b').2.1 (rdT s a' b').2.2).1),(rdN s 1 (rdT s a' b').2.1 (rdT s a' b').2.2).2):=by { rw[Z1e,ϝ hk] };intro w1 hr;refine(Z40 w1 b s _ _ (hr.at_ 3 rfl) hT.2.1 hs 1 (by omega)).mono ?_;rintro e w2 ⟨rfl,h1,m1⟩;refine⟨[.i _,.s s,.i (_:Nat),.b _],rfl,rfl,m1,qy2.2 ⟨h1,qy5 _⟩,(λx hx=>ϟ hx ϒ),Z8,?_⟩;(try simp only[QR,ra]);clear m1 h1 hr;intro z1;refine⟨by(try simp only[qy3,ϑ,ϐ]);omega,λz2=>⟨⟨l++[(Z1e s q.1.kind a' b').1],(Z1e s q.1.kind a' b').2.1,(Z1e s q.1.kind a' b').2.2,z2,y3,by rw[e8];simp[encA],hA.2.1,λh0=>?_,by rw[<- hst];exact hg⟩,by rw[e8]at hlt;exact hlt⟩⟩;have:=(hA.2.2.2.2.2.2 h0).2.2;simp only[qy11,ϐ,ϑ];omega);(· have e8:Z1e s q.1.kind a' b'=(((rdT s a' b').1,0),(rdT s a' b').2):=by { rw[Z1e,ϛ hk] };intro z1;refine⟨by(try simp only[qy3,ϑ,ϐ]);omega,λz2=>⟨⟨l++[(Z1e s q.1.kind a' b').1],(Z1e s q.1.kind a' b').2.1,(Z1e s q.1.kind a' b').2.2,z2,y3,by rw[e8];simp[encA],hA.2.1,λh0=>?_,by rw[<- hst];exact hg⟩,by rw[e8]at hlt;exact hlt⟩⟩;have:=(hA.2.2.2.2.2.2 h0).2.2;simp only[qy11,ϐ,ϑ];omega));(· have hc':¬(a'<s.length/\b'=ϔ):=λhh=>hc ⟨by have:=hh.1;omega,by simp[hh.2]⟩;rw[Zie hc']at hg;have hrr:Z38 s q=({ q.1 with asks:=l },a',b'):=by { unfold Z38;rw[ϛ k3,ϝ (by omega),<- hg] };rw[hrr];exact⟨by trivial,Zkv hr (hr.at_ 2 rfl) (hr.at_ 3 rfl) (hr.at_ 4 rfl) (hr.at_ 5 rfl) rfl rfl rfl rfl rfl rfl rfl rfl⟩)
  . refine⟨Z1i9 s q,Z1al s,⟨q.1.codes,q.2.1,q.2.2,x2,y2,rfl,hqa,λ_=>by rw[hqz.2];simp,rfl⟩,?_⟩;rintro _ - ⟨l,a',b',x3,y3,rfl,ha',hl',hg⟩;simp only[QR,ra];refine⟨λhc=>⟨?_,?_⟩,λhc w' hr=>?_⟩;(· have hc':a'<s.length/\b'=ϔ:=⟨by have:=hc.1;omega,by simpa using hc.2⟩;have hll:=hl' hc'.2;have hA:=Z2o s 1 a' b' ha';have hst:=Zks (l:=l) hc';have hlt:=Zy0 hc'.1 hc'.2;intro w1 hr;refine(Z40 w1 b s a' b' (hr.at_ 2 rfl) ha' hs 1 (by omega)).mono ?_;rintro e w2 ⟨rfl,h1,m1⟩;refine⟨[.i _,.s s,.i (_:Nat),.b _],rfl,rfl,m1,qy2.2 ⟨h1,qy5 _⟩,(λx hx=>ϟ hx ϒ),Z8,?_⟩;(try simp only[QR,ra]);clear m1 h1 hr;intro z1;refine⟨by(try simp only[qy3,ϑ,ϐ]);omega,λz2=>⟨⟨l++[(rdN s 1 a' b').1],(rdN s 1 a' b').2.1,(rdN s 1 a' b').2.2,x3,z2,by simp[Zg],hA.2.2.2.1,λh0=>?_,by rw[<- hst];exact hg⟩,hlt⟩⟩;have:=(hA.2.2.2.2.2 h0).2;simp only[qy11,ϐ,ϑ];omega);(· have hc':a'<s.length/\b'=ϔ:=⟨by have:=hc.1;omega,by simpa using hc.2⟩;have hll:=hl' hc'.2;have hA:=Z2o s 1 a' b' ha';have hst:=Zks (l:=l) hc';have hlt:=Zy0 hc'.1 hc'.2;intro w1 hr;refine(Z40 w1 b s a' b' (hr.at_ 2 rfl) ha' hs 1 (by omega)).mono ?_;rintro e w2 ⟨rfl,h1,m1⟩;refine⟨[.i _,.s s,.i (_:Nat),.b _],rfl,rfl,m1,qy2.2 ⟨h1,qy5 _⟩,(λx hx=>ϟ hx ϒ),Z8,?_⟩;(try simp only[QR,ra]);clear m1 h1 hr;refine⟨?_,?_⟩;(· intro z1;refine⟨by(try simp only[qy3,ϑ,ϐ]);omega,λz2=>⟨⟨l++[(rdN s 1 a' b').1],(rdN s 1 a' b').2.1,(rdN s 1 a' b').2.2,x3,z2,by simp[Zg],hA.2.2.2.1,λh0=>?_,by rw[<- hst];exact hg⟩,hlt⟩⟩;have:=(hA.2.2.2.2.2 h0).2;simp only[qy11,ϐ,ϑ];omega);(· intro z1;refine⟨by(try simp only[qy3,ϑ,ϐ]);omega,λz2=>⟨⟨l++[(rdN s 1 a' b').1],(rdN s 1 a' b').2.1,(rdN s 1 a' b').2.2,x3,z2,by simp[Zg],hA.2.2.2.1,λh0=>?_,by rw[<- hst];exact hg⟩,hlt⟩⟩;have:=(hA.2.2.2.2.2 h0).2;simp only[qy11,ϐ,ϑ];omega));(· have hc':¬(a'<s.length/\b'=ϔ):=λhh=>hc ⟨by have:=hh.1;omega,by simp[hh.2]⟩;rw[Zpp hc']at hg;have hrr:Z38 s q=({ q.1 with codes:=l },a',b'):=by { unfold Z38;rw[ϛ k3,ϛ (by omega),ϝ k9,<- hg] };rw[hrr];exact⟨by trivial,Zkv hr (hr.at_ 2 rfl) (hr.at_ 3 rfl) (hr.at_ 4 rfl) (hr.at_ 5 rfl) rfl rfl rfl rfl rfl rfl rfl rfl⟩)
  . rw[Z38,ϛ k3,ϛ (by omega),ϛ k9];exact⟨by trivial,Zkv hr (hr.at_ 2 rfl) (hr.at_ 3 rfl) (hr.at_ 4 rfl) (hr.at_ 5 rfl) rfl rfl rfl rfl rfl rfl rfl rfl⟩
end
def Z1am(c k:Nat)(hk:k<64):((c:Nat):Int).fdiv (2 ^ (Ϯ k IntKind.i64.bits))=((c / 2 ^ k:Nat):Int):=by rw[Zub _ k hk,Int.natCast_ediv]
def Z1ia(c:Nat)(h:c<256):(!decide (Z2l .and .i64 (c:Int) 8=0))=decide (c / 8 % 2=1):=by
 have:∀x:Fin 256,(!decide (Z2l .and .i64 ((x.val)) 8=0))=decide (x.val / 8 % 2=1):=O9
 exact this ⟨c,h⟩
def Z1ib(c:Nat)(h:c<256):(!decide (Z2l .and .i64 (c:Int) 1=0))=decide (c % 2=1):=by
 have:∀x:Fin 256,(!decide (Z2l .and .i64 ((x.val)) 1=0))=decide (x.val % 2=1):=O9
 exact this ⟨c,h⟩
def Z1ic(c:Nat)(h:c<256):Z2l .and .i64 ((c / 2 ^ 1:Nat):Int) 3=((c / 2 % 4:Nat):Int):=by
 have:∀x:Fin 256,Z2l .and .i64 ((x.val / 2 ^ 1)) 3=((x.val / 2 % 4)):=O9
 exact this ⟨c,h⟩
def Zpr(w w':ϙ)(p:Pkt)(x y:Ϥ):Prop:=Mod [] w w'/\Z4h w' x p.asks/\Z3p w' y p.codes/\(∀k,Z1 x k->w.heap.size<=k)/\(∀k,Z1 y k->w.heap.size<=k)
def Z1y{w:ϙ}(h:Mod [] w w')(k:Int):Zpr w w' (pD_Q k) nilV nilV:=⟨h,Zbn _,Zfz _,λk hk=>(by cases hk),λk hk=>(by cases hk)⟩
def Z15k(w:ϙ)(s:By)(hs:s.length<=60000000):Ϧ ϗ 212 #[.string ⟨s.toArray⟩] w λe w'=>∃x y,e=.returned (.tuple #[pV (decD s).1 x y,.int .i64 (decD s).2])/\Zpr w w' (decD s).1 x y:=by
 refine Wp (J:=[.s s]) Zdt ?_;simp only[QR,ra];intro b1;refine⟨[.i (getL s 1).1,.i (getL s 1).2.1,.i (getL s 1).2.2],rfl,λ_ w' _=>Zrk w' s 1 O,?_⟩;simp only[QR,ra];have hgb:=Zjq s 1;refine⟨λh w' hr=>?_,λh=>?_⟩
 ·refine⟨nilV,nilV,?_⟩;rw[decD,ϝ h];exact⟨rfl,Z1y hr.mod 0⟩
 have hL:=h;have hl0:(getL s 1).2.2=0:=qy9.1 λhh=>h (.inr hh);have hbd:=(Zpq hl0).1;have hat:=Zv0 hl0;have hln:(1+(getL s 1).2.1).toNat<=s.length:=hat.2.1;have hz:ϥ 0=0:=rfl;have h4:(ϥ 4)=4:=rfl;have h1:(ϥ 1)=1:=rfl;simp only[hz,h4,h1];have hc:=Z5c (s.getD 0 0);generalize hcc:(s.getD 0 0).toNat=c at hc⊢
 have hrd:Zhj s (begP c) (1+(getL s 1).2.1).toNat ϔ=Z1a s:=by rw[Z1a,hcc]
 have hbg:=Z15i s c hc;have hbz:(begP c).asks=[]/\(begP c).codes=[]:=by unfold begP;split<;>exact⟨rfl,rfl⟩
 have hat1:(1+(getL s 1).2.1)=((1+(getL s 1).2.1).toNat:Nat):=O
 refine⟨by have:=hat.1;omega,λb5=>?_⟩;rw[Z1am c 4 O];have e16:c / 2 ^ 4=c / 16:=rfl;rw[e16];refine⟨λh3=>⟨O,O,λb6=>?_⟩,λh3=>⟨O,O,λb6=>?_⟩⟩
 ·have eb:begP c={ pD_Q 3 with dup:=decide (c / 8 % 2=1),qos:=((c / 2 % 4:Nat):Int),retain:=decide (c % 2=1) }:=by rw[begP,ϝ O];rfl
  intro w1 hr;have q1:rdAt w1 b6 s (1+(getL s 1).2.1).toNat ϔ:=by have:=hr.at_ 0 rfl;simp only[Ent.holds,QQ,ϓ]at this;rw[hat1]at this;exact this
  have q2:pAt w1 b5 (begP c) nilV nilV:=by have:=hr.at_ 1 rfl;simp only[Ent.holds,QQ,ϓ,hz,h4,h1]at this;rw[hcc,Z1am c 4 O,Z1am c 1 O,Z1ia c hc,Z1ib c hc,Z1ic c hc,e16,h3]at this;rw[eb];exact this
  refine(Z15j w1 b6 b5 s _ ϔ (begP c) q1 q2 (λe=>Zt.disj hr.sep (i:=0) (j:=1) rfl rfl U (.inl rfl) (k:=b6) (by simp only[Ent.fp,QQ,ϓ]) (by simp only[Ent.fp,QQ,ϓ];exact e)) hln O hbz hbg).mono ?_;rintro e w2 ⟨rfl,g1,m1,x,y,g2,o1,o2,fx,fy,fxy⟩;rw[hrd]at g1 g2 o1 o2;(generalize hr0:Z1a s=r at g1 g2 o1 o2 hbd⊢);refine⟨[.s s,.i r.2.1,.b r.2.2,.i r.1.kind,.b r.1.dup,.b r.1.retain,.b r.1.clean,.b r.1.session,.i r.1.qos,.i r.1.id,.i r.1.keep,.i r.1.code,.s r.1.client,.s r.1.topic,.s r.1.payload,.v x,.r (r.1.asks.map encA),.v y,.r (r.1.codes.map Zg)],rfl,rfl,m1,qy2.2 ⟨g1,qy2.2 ⟨g2,qy5 _⟩⟩,qy2.2 ⟨⟨o1,λk hk=>.inl (fx k hk)⟩,qy2.2 ⟨⟨o2,λk hk=>.inl (fy k hk)⟩,qy5 _⟩⟩,Ϛ.2 ⟨λe he _ k hk hk'=>by { rw[qy12]at he;subst he;exact fxy k hk hk' },Ϙ _ _⟩,?_⟩;simp only[QR,ra];refine⟨[.b (Z3i r.1.kind)],rfl,λ_ w' _=>Zug w' _,?_⟩;simp only[QR,ra];refine⟨[.s (Z2e r.1)],rfl,λ_ w' hr=>Zpo w' r.1 x y (owns.reads (hr.at_ 0 rfl)) (owns.reads (hr.at_ 1 rfl)) (hbd.byte hs),?_⟩;simp only[QR,ra];refine⟨λh w' hr=>?_,λh=>?_⟩;(· have hn:r.2.2=Ϝ\/Z3i r.1.kind=ϔ\/1<r.1.qos\/Z2e r.1≠s:=h.elim (λh=>h.elim (λh=>h.elim .inl (λh=>.inr (.inl (by simpa using h)))) (λh=>.inr (.inr (.inl h)))) (λh=>.inr (.inr (.inr h)));refine⟨nilV,nilV,?_⟩;rw[decD,ϛ hL,hr0,ϝ hn];exact⟨rfl,Z1y hr.mod 0⟩);have hn:¬(r.2.2=Ϝ\/Z3i r.1.kind=ϔ\/1<r.1.qos\/Z2e r.1≠s):=(λhh=>hh.elim (λa=>h (.inl (.inl (.inl a)))) (λhh=>hh.elim (λa=>h (.inl (.inl (.inr (by simp[a]))))) (λhh=>hh.elim (λa=>h (.inl (.inr a))) (λa=>h (.inr a)))));refine⟨[.i (chkP r.1)],rfl,λ_ w' hr=>Zi7 w' r.1 x y (owns.reads (hr.at_ 0 rfl)) (owns.reads (hr.at_ 1 rfl)) (hbd.small hs),?_⟩;simp only[QR,ra];refine⟨λh2 w' hr=>?_,λh2 w' hr=>?_⟩;(· refine⟨nilV,nilV,?_⟩;rw[decD,ϛ hL,hr0,ϛ hn,ϛ h2];exact⟨rfl,Z1y hr.mod 0⟩);(· refine⟨x,y,?_⟩;rw[decD,ϛ hL,hr0,ϛ hn,ϝ (qy9.1 h2)];exact⟨rfl,hr.mod,owns.reads (hr.at_ 0 rfl),owns.reads (hr.at_ 1 rfl),λk hk=>(hr.own _ (qy6 (i:=0) rfl) rfl k hk).resolve_right O1,λk hk=>(hr.own _ (qy6 (i:=1) rfl) rfl k hk).resolve_right O1⟩)
 ·have eb:begP c=pD_Q ((c / 16:Nat):Int):=by rw[begP,ϛ O]
  intro w1 hr;have q1:rdAt w1 b6 s (1+(getL s 1).2.1).toNat ϔ:=by have:=hr.at_ 0 rfl;simp only[Ent.holds,QQ,ϓ]at this;rw[hat1]at this;exact this
  have q2:pAt w1 b5 (begP c) nilV nilV:=by have:=hr.at_ 1 rfl;simp only[Ent.holds,QQ,ϓ,hz,h4,h1]at this;rw[hcc,Z1am c 4 O,e16]at this;rw[eb];exact this
  refine(Z15j w1 b6 b5 s _ ϔ (begP c) q1 q2 (λe=>Zt.disj hr.sep (i:=0) (j:=1) rfl rfl U (.inl rfl) (k:=b6) (by simp only[Ent.fp,QQ,ϓ]) (by simp only[Ent.fp,QQ,ϓ];exact e)) hln O hbz hbg).mono ?_;rintro e w2 ⟨rfl,g1,m1,x,y,g2,o1,o2,fx,fy,fxy⟩;rw[hrd]at g1 g2 o1 o2;(generalize hr0:Z1a s=r at g1 g2 o1 o2 hbd⊢);refine⟨[.s s,.i r.2.1,.b r.2.2,.i r.1.kind,.b r.1.dup,.b r.1.retain,.b r.1.clean,.b r.1.session,.i r.1.qos,.i r.1.id,.i r.1.keep,.i r.1.code,.s r.1.client,.s r.1.topic,.s r.1.payload,.v x,.r (r.1.asks.map encA),.v y,.r (r.1.codes.map Zg)],rfl,rfl,m1,qy2.2 ⟨g1,qy2.2 ⟨g2,qy5 _⟩⟩,qy2.2 ⟨⟨o1,λk hk=>.inl (fx k hk)⟩,qy2.2 ⟨⟨o2,λk hk=>.inl (fy k hk)⟩,qy5 _⟩⟩,Ϛ.2 ⟨λe he _ k hk hk'=>by { rw[qy12]at he;subst he;exact fxy k hk hk' },Ϙ _ _⟩,?_⟩;simp only[QR,ra];refine⟨[.b (Z3i r.1.kind)],rfl,λ_ w' _=>Zug w' _,?_⟩;simp only[QR,ra];refine⟨[.s (Z2e r.1)],rfl,λ_ w' hr=>Zpo w' r.1 x y (owns.reads (hr.at_ 0 rfl)) (owns.reads (hr.at_ 1 rfl)) (hbd.byte hs),?_⟩;simp only[QR,ra];refine⟨λh w' hr=>?_,λh=>?_⟩;(· have hn:r.2.2=Ϝ\/Z3i r.1.kind=ϔ\/1<r.1.qos\/Z2e r.1≠s:=h.elim (λh=>h.elim (λh=>h.elim .inl (λh=>.inr (.inl (by simpa using h)))) (λh=>.inr (.inr (.inl h)))) (λh=>.inr (.inr (.inr h)));refine⟨nilV,nilV,?_⟩;rw[decD,ϛ hL,hr0,ϝ hn];exact⟨rfl,Z1y hr.mod 0⟩);have hn:¬(r.2.2=Ϝ\/Z3i r.1.kind=ϔ\/1<r.1.qos\/Z2e r.1≠s):=(λhh=>hh.elim (λa=>h (.inl (.inl (.inl a)))) (λhh=>hh.elim (λa=>h (.inl (.inl (.inr (by simp[a]))))) (λhh=>hh.elim (λa=>h (.inl (.inr a))) (λa=>h (.inr a)))));refine⟨[.i (chkP r.1)],rfl,λ_ w' hr=>Zi7 w' r.1 x y (owns.reads (hr.at_ 0 rfl)) (owns.reads (hr.at_ 1 rfl)) (hbd.small hs),?_⟩;simp only[QR,ra];refine⟨λh2 w' hr=>?_,λh2 w' hr=>?_⟩;(· refine⟨nilV,nilV,?_⟩;rw[decD,ϛ hL,hr0,ϛ hn,ϛ h2];exact⟨rfl,Z1y hr.mod 0⟩);(· refine⟨x,y,?_⟩;rw[decD,ϛ hL,hr0,ϛ hn,ϝ (qy9.1 h2)];exact⟨rfl,hr.mod,owns.reads (hr.at_ 0 rfl),owns.reads (hr.at_ 1 rfl),λk hk=>(hr.own _ (qy6 (i:=0) rfl) rfl k hk).resolve_right O1,λk hk=>(hr.own _ (qy6 (i:=1) rfl) rfl k hk).resolve_right O1⟩)
def pubP:Pkt:=⟨3,ϔ,ϔ,ϔ,ϔ,1,10,0,0,[],[97,47,98],[104,105],[],[]⟩
def Zv1:chkP pubP=0:=O9
def Z10h:Z2e pubP=[50,9,0,3,97,47,98,0,10,104,105]:=O9
def Z10i:SmallP pubP:=⟨U,U,U,U,U,U⟩
def Z1k8(w:ϙ):Ϧ ϗ 33 #[] w λe w'=>e=.returned (pV pubP nilV nilV)/\Mod [] w w':=by refine Wp (J:=[]) Zc1 ?_;simp only[QR];exact λb w' hr=>⟨rfl,hr.mod⟩
section
variable (w:ϙ) (p q:Pkt) (u v x y:Ϥ)
end
abbrev xD:Z39:=(pD_Q 0,nilV,nilV)
def Z8w(t:Z39):List Ϥ:=[.int .i64 t.1.kind,.bool t.1.dup,.bool t.1.retain,.bool t.1.clean,.bool t.1.session,.int .i64 t.1.qos,.int .i64 t.1.id,.int .i64 t.1.keep,.int .i64 t.1.code,.string ⟨t.1.client.toArray⟩,.string ⟨t.1.topic.toArray⟩,.string ⟨t.1.payload.toArray⟩,t.2.1,t.2.2]
abbrev Z1id(w:ϙ)(v:Ϥ)(l:List Z39):Prop:=reads w v kP (l.map Z8w)
def Zy4(w:ϙ):(Za []).holds w:=λt ht=>by cases ht
def Zev(k:Nat):¬(Za []).fp k:=λ⟨t,ht,_⟩=>by cases ht
def Zso{l:List Z39}{t:Z39}{w:ϙ}(h:(Za l).holds w)(h1:Z4h w t.2.1 t.1.asks)(h2:Z3p w t.2.2 t.1.codes):(Za (l++[t])).holds w:=by
 intro x hx;rw[ϩ,qy13]at hx;rcases hx with hx|hx
 ·exact h x hx
 ·simp only[Ϫ,ϫ,Ϩ,Zkp,ϣ,ϒ,or_false]at hx;rcases hx with rfl|rfl
  ·exact h1
  ·exact h2
def Zew{l:List Z39}{t:Z39}{k:Nat}(h:(Za (l++[t])).fp k):(Za l).fp k\/((t.1.asks.map encA).flatten≠[]/\Z1 t.2.1 k)\/((t.1.codes.map Zg).flatten≠[]/\Z1 t.2.2 k):=by
 obtain⟨x,hx,hk⟩:=h;rw[ϩ,qy13]at hx;rcases hx with hx|hx
 ·exact .inl ⟨x,hx,hk⟩
 ·simp only[Ϫ,ϫ,Ϩ,Zkp,ϣ,ϒ,or_false]at hx;rcases hx with rfl|rfl
  ·exact .inr (.inl hk)
  ·exact .inr (.inr hk)
variable{i:Nat}
def Z1cj{l:List Z39}(h:i<l.length):(l.map Z8w).getD i []=Z8w (l.getD i xD):=by rw[qy1,qy1,List.getElem?_map,qy7 h];rfl
def Z2c(s:By):Int×Int :=
 if s=[]then(0,8)
 else if(getL s 1).2.2≠0 then(0,(getL s 1).2.2)
 else if 600<1+(getL s 1).2.1+(getL s 1).1 then(0,2)
 else if(s.length:Int)<1+(getL s 1).2.1+(getL s 1).1 then(0,8)
 else(1+(getL s 1).2.1+(getL s 1).1,0)
def Z1w(s:By):Pkt×Int×Int :=
 if(Z2c s).2≠0 then(pD_Q 0,0,(Z2c s).2)else((decD (s.take (Z2c s).1.toNat)).1,(Z2c s).1,(decD (s.take (Z2c s).1.toNat)).2)
def Z8a:Nat->By->List Pkt->List Pkt×By×Int
 | 0,s,out=>(out,s,0)
 | f+1,s,out =>
  if(Z1w s).2.2=0 then Z8a f (s.drop (Z1w s).2.1.toNat) (out++[(Z1w s).1])
  else if(Z1w s).2.2=8 then(out,s,0)else(out,[],(Z1w s).2.2)
def feed(s:By):List Pkt×By×Int:=Z8a (s.length+1) s []
def Zy5{s:By}(h:(Z2c s).2=0):s≠[]/\(getL s 1).2.2=0/\(Z2c s).1=1+(getL s 1).2.1+(getL s 1).1/\1<=(Z2c s).1/\(Z2c s).1<=s.length/\(Z2c s).1<=600:=by
 have hb:=Zjq s 1;unfold Z2c at h⊢;split at h
 ·simp at h
 ·rename_i h0;rw[ϛ h0];split at h
  ·rename_i h1;exact ϟ h h1
  ·rename_i h1;rw[ϛ h1];split at h
   ·simp at h
   ·rename_i h2;rw[ϛ h2];split at h
    ·simp at h
    ·rename_i h3;rw[ϛ h3];exact⟨h0,O,rfl,O,O,O⟩
def Zy6{s:By}(h:(Z1w s).2.2=0):(Z2c s).2=0/\(Z1w s).2.1=(Z2c s).1/\(Z1w s).1=(decD (s.take (Z2c s).1.toNat)).1/\(decD (s.take (Z2c s).1.toNat)).2=0:=by
 unfold Z1w at h⊢;split at h
 ·rename_i h0;exact ϟ h h0
 ·rename_i h0;rw[ϛ h0];exact⟨O,rfl,rfl,h⟩
def Zex{s:By}(h:(Z1w s).2.2=0):1<=(Z1w s).2.1/\(Z1w s).2.1<=s.length:=by obtain⟨h1,h2,-,-⟩:=Zy6 h;have:=Zy5 h1;omega
def Znd:∀(f g:Nat) (s:By) (out:List Pkt),s.length<f->s.length<g->Z8a f s out=Z8a g s out
 | 0,_,s,_,h,_=>O
 | _+1,0,s,_,_,h=>O
 | f+1,g+1,s,out,h1,h2=>by
  rw[Z8a,Z8a];split
  ·rename_i h;have hb:=Zex h;exact Znd f g _ _ (by rw[ϕ];omega) (by rw[ϕ];omega)
  ·rfl
def Zge{s:By}{out:List Pkt}(h:(Z1w s).2.2=0):Z8a (s.length+1) s out=Z8a ((s.drop (Z1w s).2.1.toNat).length+1) (s.drop (Z1w s).2.1.toNat) (out++[(Z1w s).1]):=by have hb:=Zex h;rw[Z8a,ϝ h];exact Znd _ _ _ _ (by rw[ϕ];omega) O
def Z1ie(w:ϙ)(s:By)(hs:s.length<4611686018427387904):Ϧ ϗ 211 #[.string ⟨s.toArray⟩] w λe w'=>e=.returned (.tuple #[.int .i64 (Z2c s).1,.int .i64 (Z2c s).2])/\Mod [] w w':=by refine Wp (J:=[.s s]) Zja ?_;have hb:=Zjq s 1;simp only[QR];refine⟨λh w' hr=>⟨by rw[Z2c,ϝ h],hr.mod⟩,λh=>?_⟩;rw[Z2c,ϛ h];refine⟨[.i (getL s 1).1,.i (getL s 1).2.1,.i (getL s 1).2.2],rfl,λ_ w' _=>Zrk w' s 1 O,?_⟩;simp only[QR];refine⟨O,O,O,O,λh1 w' hr=>⟨by rw[ϝ h1],hr.mod⟩,λh1=>?_⟩;rw[ϛ h1];refine⟨λh2 w' hr=>⟨by rw[ϝ h2],hr.mod⟩,λh2=>?_⟩;rw[ϛ h2];exact⟨λh3 w' hr=>⟨by rw[ϝ h3],hr.mod⟩,λh3 w' hr=>⟨by rw[ϛ h3],hr.mod⟩⟩
def Z1if(w:ϙ)(s:By)(hs:s.length<=60000000):Ϧ ϗ 171 #[.string ⟨s.toArray⟩] w λe w'=>∃x y,e=.returned (.tuple #[pV (Z1w s).1 x y,.int .i64 (Z1w s).2.1,.int .i64 (Z1w s).2.2])/\Zpr w w' (Z1w s).1 x y:=by
 refine Wp (J:=[.s s]) Zj5 ?_;simp only[QR];intro b1;refine⟨[.i (Z2c s).1,.i (Z2c s).2],rfl,λ_ w' _=>Z1ie w' s O,?_⟩;simp only[QR];refine⟨λh w' hr=>⟨nilV,nilV,?_⟩,λh=>?_⟩
 ·rw[Z1w,ϝ h];exact⟨rfl,Z1y hr.mod 0⟩
 have hz:=Zy5 (qy9.1 h);rw[Z1w,ϛ h];refine⟨O,O,?_⟩;have hlt:(s.take (Z2c s).1.toNat).length<=60000000:=by rw[Ϣ];omega
 intro w1 hr;refine(Z15k w1 (s.take (Z2c s).1.toNat) hlt).mono ?_;generalize decD (s.take (Z2c s).1.toNat)=r
 obtain⟨q,er⟩:=r;rintro e w2 ⟨x,y,rfl,m,rx,ry,fx,fy⟩;refine⟨[.i q.kind,.b q.dup,.b q.retain,.b q.clean,.b q.session,.i q.qos,.i q.id,.i q.keep,.i q.code,.s q.client,.s q.topic,.s q.payload,.v x,.r (q.asks.map encA),.v y,.r (q.codes.map Zg),.i er],rfl,rfl,m,qy5 _,qy2.2 ⟨⟨rx,λk hk=>.inl (fx k hk.2)⟩,qy2.2 ⟨⟨ry,λk hk=>.inl (fy k hk.2)⟩,qy5 _⟩⟩,Z50 (by simp[Ent.wr]),?_⟩;simp only[QR,ra];have hw:=hr.mod.size;intro b2;exact λw' hr=>⟨x,y,rfl,hr.mod,hr.at_ 1 rfl,hr.at_ 2 rfl,λk hk=>ϧ hw (fx k hk),λk hk=>ϧ hw (fy k hk)⟩
def Zy7(w w':ϙ)(x:Ϥ)(l:List Z39):Prop:=Mod [] w w'/\Z1id w' x l/\(Za l).holds w'/\(∀k,Z1 x k->w.heap.size<=k)/\∀k,(Za l).fp k->w.heap.size<=k
def Z1ck(w:ϙ)(r s:By)(hs:r.length+s.length<=60000000):Ϧ ϗ 122 #[.string ⟨r.toArray⟩,.string ⟨s.toArray⟩] w λe w'=>∃(x:Ϥ) (l:List Z39),e=.returned (.tuple #[sc1 x,.string ⟨(feed (r++s)).2.1.toArray⟩,.int .i64 (feed (r++s)).2.2])/\l.map (·.1)=(feed (r++s)).1/\Zy7 w w' x l:=by
 refine Wu (J:=[.s r,.s s]) Zj9 (Rel.start w _) ?_;simp only[QR,ra];refine⟨O,?_⟩;refine⟨Za [],λw _=>Zy4 w,λk hk=>ϟ hk (Zev k),?_⟩;refine⟨λvs=>∃(l:List Z39) (s':By) (x:Ϥ),vs=[.v nilV,.r [],.s [],.i 0,.s s',.v x,.r (l.map Z8w),.a (Za l)]/\Z8a (s'.length+1) s' (l.map (·.1))=feed (r++s)/\l.length+s'.length<=(r++s).length/\∀k,(Za l).fp k->w.heap.size<=k,
  λvs=>(vs.getD 4 (.i 0)).toS.length,⟨[],r++s,nilV,rfl,rfl,O1,λk hk=>ϟ hk (Zev k)⟩,?_⟩
 rintro _ - ⟨l,s',x,rfl,hf,hlen,hfr⟩;rw[qy11]at hlen;simp only[QQ,ϓ];intro w1 hr;refine(Z1if w1 s' O).mono ?_;have hstep:=@Zge s' (l.map (·.1));have hbd:=@Zex s';have hend:(Z1w s').2.2≠0->feed (r++s)=if(Z1w s').2.2=8 then(l.map (·.1),s',0)else(l.map (·.1),[],(Z1w s').2.2):=λh=>by rw[<- hf,Z8a,ϛ h]
 generalize Z1w s'=t at hstep hbd hend
 obtain⟨q,n,er⟩:=t;rintro e w2 ⟨px,py,rfl,m,rx,ry,fx,fy⟩;refine⟨[.i q.kind,.b q.dup,.b q.retain,.b q.clean,.b q.session,.i q.qos,.i q.id,.i q.keep,.i q.code,.s q.client,.s q.topic,.s q.payload,.v px,.r (q.asks.map encA),.v py,.r (q.codes.map Zg),.i n,.i er],rfl,rfl,m,qy5 _,qy2.2 ⟨⟨rx,λk hk=>.inl (fx k hk.2)⟩,qy2.2 ⟨⟨ry,λk hk=>.inl (fy k hk.2)⟩,qy5 _⟩⟩,Z50 (by simp[Ent.wr]),?_⟩;have hw:=hr.mod.size;simp only[QQ,ϓ];intro b1;refine⟨λh0=>?_,λh0=>⟨λh8 w' hr=>?_,λh8 w' hr=>?_⟩⟩
 ·have hb:=hbd h0;simp only at hb;intro z1;refine⟨by simp only[qy3,ϑ,qy11,ϐ];omega,λz2=>⟨O,O,?_⟩⟩;refine⟨Za (l++[(q,px,py)]),λw' hr=>Zso (hr.at_ 5 rfl) (hr.at_ 3 rfl) (hr.at_ 4 rfl),λk hk=>?_,⟨l++[(q,px,py)],s'.drop n.toNat,z2,?_,?_,?_,λk hk=>?_⟩,?_⟩
  ·rcases Zew hk with h|h|h
   ·exact(qE 5 rfl rfl h)
   ·exact(qE 3 rfl rfl h)
   ·exact(qE 4 rfl rfl h)
  ·rw[rx.sc1,ry.sc1];simp[Z8w]
  ·rw[List.map_append];rw[<- hf];exact(hstep h0).symm
  ·rw[qy11,ϕ,qy11,ϐ,ϑ];omega
  ·rcases Zew hk with h|h|h
   ·exact hfr k h
   ·exact ϧ hw (fx k h.2)
   ·exact ϧ hw (fy k h.2)
  ·show(List.drop n.toNat (List.take (s'.length:Int).toNat s')).length<s'.length
   rw[qy4,Ϭ,ϕ];omega
 ·rw[hend h0,ϝ h8];have o:=hr.at_ 4 rfl;refine⟨x,l,rfl,rfl,hr.mod,owns.reads o,hr.at_ 3 rfl,λk hk=>(hr.own _ (qy6 (i:=4) rfl) rfl k hk).resolve_right O1,hfr⟩
 ·rw[hend h0,ϛ h8];have o:=hr.at_ 4 rfl;refine⟨x,l,rfl,rfl,hr.mod,owns.reads o,hr.at_ 3 rfl,λk hk=>(hr.own _ (qy6 (i:=4) rfl) rfl k hk).resolve_right O1,hfr⟩
def Z15l{s:By}{f:Bool}:0<=chkT s f/\chkT s f<=2:=by unfold chkT;(repeat' split)<;>omega
def Zsp(n:Nat):0<=Zo n/\Zo n<=2:=by unfold Zo;(repeat' split)<;>omega
def Zy8(k:Int):∀l:List Rd,0<=Z3v k l/\Z3v k l<=7
 | []=>by simp[Z3v]
 | a::l=>by
  have h1:=@Z15l a.1 Ϝ;have h2:=Zy8 k l;have h3:0<=(if k=8 then askE a else Z4n a)/\(if k=8 then askE a else Z4n a)<=7:=by unfold askE Z4n;(repeat' split)<;>omega
  rw[Z3v];generalize (if k=8 then askE a else Z4n a)=x at h3⊢
  split
  ·exact h2
  ·exact h3
def Z1fy(p:Pkt):0<=chkP p/\chkP p<=7:=by
 have h1:=@Z15l p.topic ϔ;have h2:=Zy8 p.kind p.asks;have h3:=Zsp p.asks.length;have h4:=Zsp p.codes.length;unfold chkP Z2b pubE Zjs Z4v Zjt Zc9
 (repeat' split)<;>omega
def Z15m(s:By):0<=(decD s).2/\(decD s).2<=7:=by
 have:=Z1fy (Z1a s).1;unfold decD
 (repeat' split)<;>simp only<;>omega
def Zv2{s:By}:(Z1w s).2.2=8↔(Z2c s).2=8:=by
 unfold Z1w;split
 ·exact Iff.rfl
 ·rename_i h;have:=Z15m (s.take (Z2c s).1.toNat);simp only;constructor<;>intro h2<;>omega
def Zkw:∀(f:Nat) (s:By) (out:List Pkt),Z8a f s out=(out++(Z8a f s []).1,(Z8a f s []).2)
 | 0,s,out=>by simp[Z8a]
 | f+1,s,out=>by
  rw[Z8a,Z8a];split
  ·rw[Zkw f _ (out++_),Zkw f _ ([]++_)];simp
  ·split<;>simp
def Z15n{s:By}(h:(Z1w s).2.2=0):feed s=((Z1w s).1::(feed (s.drop (Z1w s).2.1.toNat)).1,(feed (s.drop (Z1w s).2.1.toNat)).2):=by rw[feed,Zge h,Zkw];rfl
def Z10j{s:By}(h:(Z1w s).2.2=8):feed s=([],s,0):=by rw[feed,Z8a,ϛ (by rw[h];decide),ϝ h]
def Z1an{s:By}(h:(Z1w s).2.2≠0)(h8:(Z1w s).2.2≠8):feed s=([],[],(Z1w s).2.2):=by rw[feed,Z8a,ϛ h,ϛ h8]
def Z1ao{s:By}(h:(decD s).2=0):chkP (decD s).1=0:=by
 unfold decD at h⊢;split at h
 ·exact ϟ h U
 rename_i h1;rw[ϛ h1];split at h
 ·exact ϟ h U
 rename_i h2;rw[ϛ h2];split at h
 ·rename_i h3;rw[ϝ h3];exact h3
 ·rename_i h3;exact ϟ h h3
def Zne:∀(k:Nat) (s:By),s.length<=k->(∀p∈(feed s).1,chkP p=0)/\(feed s).1.length<=s.length/\(¬(feed s).2.2=0->(feed s).2.1=[])/\((feed s).2.2=0->(Z1w (feed s).2.1).2.2=8)
 | k,s,hk=>by
  by_cases h0:(Z1w s).2.2=0
  ·have hb:=Zex h0;obtain⟨k',rfl⟩:∃k',k=k'+1:=⟨k - 1,O⟩
   obtain⟨i1,i2,i3,i4⟩:=Zne k' (s.drop (Z1w s).2.1.toNat) (by rw[ϕ];omega);rw[ϕ]at i2;rw[Z15n h0];refine⟨λp hp=>?_,by simp only[ϐ];omega,i3,i4⟩;rcases ϣ.1 hp with rfl|hp
   ·obtain⟨-,-,h3,h4⟩:=Zy6 h0;rw[h3];exact Z1ao h4
   ·exact i1 p hp
  ·by_cases h8:(Z1w s).2.2=8
   ·rw[Z10j h8];exact⟨λp hp=>(by cases hp),ϭ _,ϟ rfl,λ_=>h8⟩
   ·rw[Z1an h0 h8];exact⟨λp hp=>(by cases hp),ϭ _,λ_=>rfl,λh=>ϟ h h0⟩
def Zsq:∀(f i n:Nat) (l:By),(glF f i n l).2.2=8->l.length<f
 | 0,i,n,l,h=>by simp[glF]at h
 | f+1,i,n,l,h=>by
  cases l with
  | nil=>simp
  | cons c l =>
   rw[glF]at h;split at h
   ·split at h<;>exact ϟ h O1
   ·have:=Zsq f _ _ l (by simpa using h);simp only[ϐ];omega
def Z1ap{s:By}(h:(Z1w s).2.2=8):s.length<=600:=by
 have h1:=Zv2.1 h;unfold Z2c at h1;split at h1
 ·rename_i h2;rw[h2];simp
 ·split at h1
  ·rename_i h3;have h4:=h1;unfold getL at h4;split at h4
   ·have:=Zsq _ _ _ _ h4;rw[ϕ]at this;omega
   ·exact ϟ h4 U
  ·split at h1
   ·exact ϟ h1 U
   ·split at h1
    ·omega
    ·exact ϟ h1 O1
def Zps(s:By):(∀p∈(feed s).1,chkP p=0)/\(feed s).2.1.length<=600/\(feed s).1.length<=s.length:=by
 obtain⟨h1,h2,h3,h4⟩:=Zne s.length s (ϖ _);refine⟨h1,?_,h2⟩;by_cases h:(feed s).2.2=0
 ·exact Z1ap (h4 h)
 ·rw[h3 h];simp
def rdC(w:ϙ)(b:Nat)(s:By)(sh:Bool):Prop:=w.heap[b]?=Ϡ (.cells #[.string ⟨s.toArray⟩,.bool sh] 223 (0,0))
abbrev ptrB(b:Nat):Ϥ:=.pointer (Ϡ ⟨b,0,Ϟ⟩)
def Zpt{w:ϙ}{e:Ent}{b:Nat}(h:e.holds J w)(hf:∀k,e.fp J k->k=b):Rel ⟨[b],w⟩ J [e] w :=
 ⟨Mod.refl _ _,qy2.2 ⟨h,qy5 _⟩,qy2.2 ⟨λ_ k hk=>.inr (by rw[hf k hk];exact qy12.2 rfl),qy5 _⟩,Ϙ _ _⟩
variable(n:Int)
def Z4m(s:By)(sh:Bool):By×By×Bool:=if(s.length:Int)<n then([],[],Ϝ)else(s.take n.toNat,s.drop n.toNat,sh)
def Zy9(w:ϙ)(b:Nat)(s:By)(sh:Bool)(n:Int)(h0:0<=n)(hc:rdC w b s sh):Ϧ ϗ 164 #[ptrB b,.int .i64 n] w λe w'=>e=.returned (.string ⟨(Z4m n s sh).1.toArray⟩)/\rdC w' b (Z4m n s sh).2.1 (Z4m n s sh).2.2/\Mod [b] w w':=by
 refine Wu (J:=[.n b,.s s,.b sh,.i n]) Z8h (Zpt hc (λk hk=>hk)) ?_;simp only[QR];refine⟨λh w' hr=>?_,λh=>⟨h0,O,λw' hr=>?_⟩⟩
 ·rw[Z4m,ϝ h];exact⟨rfl,hr.at_ 0 rfl,hr.mod⟩
 ·rw[Z4m,ϛ h];have:=hr.at_ 0 rfl;simp only[Ent.holds,QQ,ϓ,qy4,Ϭ]at this;exact⟨O1,this,hr.mod⟩
def numM(k:Nat)(s:By)(sh:Bool):Int×By×Bool:=if s.length<k then(0,[],Ϝ)else((beN (s.take k) 0:Nat),s.drop k,sh)
def Zkx{k:Nat}(s:By)(sh:Bool)(h:k<=2):0<=(numM k s sh).1/\(numM k s sh).1<65536/\(k=1->(numM k s sh).1<256):=by
 unfold numM;split
 ·simp
 ·have h1:=Zwu (s.take k) 0;have h2:pw (s.take k).length<=pw 2:=Zb6 O3;have h3:pw 2=65536:=rfl;refine⟨O1,O,λh4=>?_⟩;subst h4;have h2:pw (s.take 1).length<=pw 1:=Zb6 O3;have h3:pw 1=256:=rfl;omega
def Zbu(w:ϙ)(b:Nat)(s:By)(sh:Bool)(k:Nat)(hk:1<=k/\k<=2)(hs:s.length<1099511627776)(hc:rdC w b s sh):Ϧ ϗ 163 #[ptrB b,.int .i64 k] w λe w'=>e=.returned (.int .i64 (numM k s sh).1)/\rdC w' b (numM k s sh).2.1 (numM k s sh).2.2/\Mod [b] w w':=by
 refine Wu (J:=[.n b,.s s,.b sh,.i k]) Z70 (Zpt hc (λk hk=>hk)) ?_;simp only[QR];intro w1 hr;refine(Zy9 w1 b s sh k O (hr.at_ 0 rfl)).mono ?_;rintro e w2 ⟨rfl,c1,c2⟩;refine⟨[.s (Z4m k s sh).1,.s (Z4m k s sh).2.1,.b (Z4m k s sh).2.2],rfl,rfl,c2,qy2.2 ⟨c1,qy5 _⟩,qy5 _,Z8,?_⟩;simp only[QR,ra];have hl:(Z4m k s sh).1.length<=s.length:=by
  unfold Z4m;split
  ·simp
  ·simp;omega
 refine⟨[.i (getR (Z4m k s sh).1 0 k).1,.i (getR (Z4m k s sh).1 0 k).2],rfl,λ_ w' _=>Zp0 w' _ 0 k O,?_⟩;simp only[QR,ra];intro w3 hr3;have e1:(getR (Z4m k s sh).1 0 k).1=(numM k s sh).1/\(Z4m k s sh).2=(numM k s sh).2:=by
  unfold Z4m numM;by_cases h:s.length<k
  ·rw[ϝ O,ϝ h,Z3k O O1 O3];exact⟨rfl,rfl⟩
  ·rw[ϛ O,ϛ h,Z9v O O1 O3];simp only[Int.toNat_zero,List.drop_zero,qy4,List.take_take,Nat.min_self,and_self]
 rw[e1.1,<- e1.2];exact⟨rfl,hr3.at_ 0 rfl,hr3.mod⟩
def Z5u(s:By)(sh:Bool):Int×By×Bool :=
 if n=13 then(13+(numM 1 s sh).1,(numM 1 s sh).2)else if n=14 then(269+(numM 2 s sh).1,(numM 2 s sh).2)else if n=15 then(15,s,Ϝ)else(n,s,sh)
def Zpu{n:Int}(s:By)(sh:Bool)(h:0<=n/\n<=15):0<=(Z5u n s sh).1/\(Z5u n s sh).1<65805:=by
 have h1:=Zkx (k:=1) s sh O;have h2:=Zkx (k:=2) s sh O;unfold Z5u;split
 ·omega
 ·split
  ·omega
  ·split<;>simp only<;>omega
def Z15o(w:ϙ)(b:Nat)(s:By)(sh:Bool)(n:Int)(hn:0<=n/\n<=15)(hs:s.length<1099511627776)(hc:rdC w b s sh):Ϧ ϗ 203 #[ptrB b,.int .i64 n] w λe w'=>e=.returned (.int .i64 (Z5u n s sh).1)/\rdC w' b (Z5u n s sh).2.1 (Z5u n s sh).2.2/\Mod [b] w w':=by
 refine Wu (J:=[.n b,.s s,.b sh,.i n]) Z8i (Zpt hc (λk hk=>hk)) ?_;simp only[QR];refine⟨λh w1 hr=>?_,λh=>⟨λh2 w1 hr=>?_,λh2=>⟨λh3 w' hr=>?_,λh3 w' hr=>?_⟩⟩⟩
 ·refine(Zbu w1 b s sh 1 O hs (hr.at_ 0 rfl)).mono ?_;rintro e w2 ⟨rfl,c1,c2⟩;refine⟨[.i (numM 1 s sh).1,.s (numM 1 s sh).2.1,.b (numM 1 s sh).2.2],rfl,rfl,c2,qy2.2 ⟨c1,qy5 _⟩,qy5 _,Z8,?_⟩;simp only[QR,ra];have:=Zkx (k:=1) s sh O;refine⟨O,O,λw3 hr3=>?_⟩;rw[Z5u,ϝ h];exact⟨rfl,hr3.at_ 0 rfl,hr3.mod⟩
 ·refine(Zbu w1 b s sh 2 O hs (hr.at_ 0 rfl)).mono ?_;rintro e w2 ⟨rfl,c1,c2⟩;refine⟨[.i (numM 2 s sh).1,.s (numM 2 s sh).2.1,.b (numM 2 s sh).2.2],rfl,rfl,c2,qy2.2 ⟨c1,qy5 _⟩,qy5 _,Z8,?_⟩;simp only[QR,ra];have:=Zkx (k:=2) s sh O;refine⟨O,O,λw3 hr3=>?_⟩;rw[Z5u,ϛ h,ϝ h2];exact⟨rfl,hr3.at_ 0 rfl,hr3.mod⟩
 ·rw[Z5u,ϛ h,ϛ h2,ϝ h3];exact⟨by rw[h3],hr.at_ 0 rfl,hr.mod⟩
 ·rw[Z5u,ϛ h,ϛ h2,ϛ h3];exact⟨rfl,hr.at_ 0 rfl,hr.mod⟩
def Za5(s:By):Option (Int×By) :=
 if n<13 then Ϡ (n,s)else if n=15 then Ϟ
 else if n=14 then(if s.length<2 then Ϟ else Ϡ (269+(beN (s.take 2) 0:Nat),s.drop 2))
 else(if s.length<1 then Ϟ else Ϡ (13+(beN (s.take 1) 0:Nat),s.drop 1))
def Zpv{n:Int}(hn:n<=15)(s:By):match Za5 n s with|some (v,l)=>Z5u n s ϔ=(v,l,ϔ)|none=>(Z5u n s ϔ).2.2=Ϝ:=by
 unfold Za5;by_cases h1:n<13
 ·rw[ϝ h1];simp only[Z5u];rw[ϛ O,ϛ O,ϛ O]
 ·rw[ϛ h1];by_cases h2:n=15
  ·rw[ϝ h2];simp only[Z5u];rw[ϛ O,ϛ O,ϝ h2]
  ·rw[ϛ h2];by_cases h3:n=14
   ·rw[ϝ h3];by_cases h4:s.length<2
    ·rw[ϝ h4];simp only[Z5u];rw[ϛ O,ϝ h3,numM,ϝ h4]
    ·rw[ϛ h4];simp only[Z5u];rw[ϛ O,ϝ h3,numM,ϛ h4]
   ·rw[ϛ h3];by_cases h4:s.length<1
    ·rw[ϝ h4];simp only[Z5u];rw[ϝ O,numM,ϝ h4]
    ·rw[ϛ h4];simp only[Z5u];rw[ϝ O,numM,ϛ h4]
def Znf(k:Nat)(s:By):(numM k s Ϝ).2.2=Ϝ:=by unfold numM;split<;>rfl
def Za6(s:By):(Z4m k s Ϝ).2.2=Ϝ:=by unfold Z4m;split<;>rfl
def Zv3(s:By):(Z5u k s Ϝ).2.2=Ϝ:=by
 unfold Z5u;split
 ·exact Znf _ _
 ·split
  ·exact Znf _ _
  ·split<;>rfl
def Zey(k:Nat)(s:By)(sh:Bool):(numM k s sh).2.1.length<=s.length:=by unfold numM;split<;>simp
def Zsr(s:By)(sh:Bool):(Z4m k s sh).2.1.length<=s.length/\(Z4m k s sh).1.length<=s.length:=by unfold Z4m;split<;>simp;omega
def Zez(s:By)(sh:Bool):(Z5u k s sh).2.1.length<=s.length:=by
 unfold Z5u;split
 ·exact Zey _ _ _
 ·split
  ·exact Zey _ _ _
  ·split<;>simp
def Z7d(was:Int)(c:UInt8)(l:By):Option (Opt×By) :=
 match Za5 ((c.toNat / 16:Nat):Int) l with
 | none=>Ϟ
 | some p=>match Za5 ((c.toNat % 16:Nat):Int) p.2 with
  | none=>Ϟ
  | some q=>if(q.2.length:Int)<q.1 then Ϟ else Ϡ ((was+p.1,q.2.take q.1.toNat),q.2.drop q.1.toNat)
def ahead(acc:List Opt):Option (List Opt×By)->Option (List Opt×By)
 | none=>Ϟ
 | some p=>Ϡ (acc++p.1,p.2)
def Z8x:Nat->Int->By->Option (List Opt×By)
 | 0,_,s=>if s=[]then Ϡ ([],[])else Ϟ
 | f+1,was,s=>match s with
  | []=>Ϡ ([],[])
  | c::l=>if c=255 then Ϡ ([],c::l)else match Z7d was c l with
   | none=>Ϟ
   | some p=>ahead [p.1] (Z8x f p.1.1 p.2)
def Zss(f:Nat)(was:Int):Z8x f was []=Ϡ ([],[]):=by cases f<;>rfl
def Zng(f:Nat)(was:Int)(l:By):Z8x (f+1) was (255::l)=Ϡ ([],255::l):=rfl
variable{was:Int}{l:By}
def Zf0{c:UInt8}(hc:c≠255)(h:Z7d was c l=Ϟ):Z8x (f+1) was (c::l)=Ϟ:=by
 show(if c=255 then _ else match Z7d was c l with|none=>Ϟ|some p=>ahead [p.1] (Z8x f p.1.1 p.2))=_
 rw[ϛ hc,h]
variable{r:By}
def Znh{c:UInt8}(hc:c≠255){o:Opt}(h:Z7d was c l=Ϡ (o,r)):Z8x (f+1) was (c::l)=ahead [o] (Z8x f o.1 r):=by
 show(if c=255 then _ else match Z7d was c l with|none=>Ϟ|some p=>ahead [p.1] (Z8x f p.1.1 p.2))=_
 rw[ϛ hc,h]
def Zky(a b:List Opt)(x:Option (List Opt×By)):ahead a (ahead b x)=ahead (a++b) x:=by cases x<;>simp[ahead]
def Zst(x:Option (List Opt×By)):ahead [] x=x:=by cases x<;>rfl
def Z1ig(x:Nat)(h:x<256):((x:Int)).fdiv (2 ^ (Ϯ (ϥ 4) IntKind.i64.bits))=((x / 16:Nat):Int):=by
 have:∀x:Fin 256,((x.val:Int)).fdiv (2 ^ (Ϯ (ϥ 4) IntKind.i64.bits))=((x.val / 16)):=O9
 exact this ⟨x,h⟩
def Z1k9(x:Nat)(h:x<256):((x:Int)).fdiv (2 ^ (Ϯ (ϥ 6) IntKind.i64.bits))=((x / 64:Nat):Int):=by
 have:∀x:Fin 256,((x.val:Int)).fdiv (2 ^ (Ϯ (ϥ 6) IntKind.i64.bits))=((x.val / 64)):=O9
 exact this ⟨x,h⟩
def Z1cl(x:Nat)(h:x<256):Z2l .and .i64 (x:Int) 15=((x % 16:Nat):Int):=by
 have:∀x:Fin 256,Z2l .and .i64 (x.val) 15=((x.val % 16)):=O9
 exact this ⟨x,h⟩
def Z1ka(x:Nat)(h:x<256):Z2l .and .i64 ((x / 16:Nat):Int) 3=((x / 16 % 4:Nat):Int):=by
 have:∀x:Fin 256,Z2l .and .i64 ((x.val / 16)) 3=((x.val / 16 % 4)):=O9
 exact this ⟨x,h⟩
def Zsu(w:ϙ):Z3q w (.slice Ϟ 0 0) []:=⟨O1,Ϟ,0,rfl,⟨λ_=>rfl,ϖ _⟩,ϟ rfl⟩
def Zya(c:UInt8)(l:By):numM 1 (c::l) ϔ=((c.toNat:Int),l,ϔ):=by simp[numM,beN]
def Zv4(w:ϙ)(b:Nat)(s:By)(sh:Bool)(hs:s.length<1099511627776)(hsh:sh=Ϝ->s=[])(hc:rdC w b s sh):Ϧ ϗ 165 #[ptrB b] w λe w'=>∃v os s' sh',e=.returned (sc1 v)/\owns w' v 127 [.int .i64,.str] (os.map encO)/\(∀k,Z1 v k->w.heap.size<=k)/\rdC w' b s' sh'/\Mod [b] w w'/\os.length+s'.length<=s.length /\ (sh'=Ϝ/\(if sh then Ϟ else Z8x s.length 0 s)=Ϟ\/sh'=ϔ/\(if sh then Ϟ else Z8x s.length 0 s)=Ϡ (os,s')):=by
 refine Wu (J:=[.n b,.s s,.b sh]) Z6a (Zpt hc (λk hk=>hk)) ?_;generalize hT:(if sh then Ϟ else Z8x s.length 0 s)=T
 simp only[QR,ra];refine⟨λvs=>∃(v:Ϥ) (acc:List Opt) (was:Int) (s':By) (sh':Bool),vs=[.v v,.r (acc.map encO),.i was,.s s',.b sh']/\0<=was/\was<=70000*acc.length/\acc.length+s'.length<=s.length /\
   (sh'=Ϝ/\T=Ϟ\/sh'=ϔ/\∃f,s'.length<=f/\ahead acc (Z8x f was s')=T),λvs=>(vs.getD 3 (.i 0)).toS.length,⟨_,[],0,s,sh,rfl,O,O1,O1,?_⟩,?_⟩
 ·cases sh with
  | true=>exact .inl ⟨rfl,hT.symm⟩
  | false=>exact .inr ⟨rfl,s.length,ϖ _,by rw[Zst];exact hT⟩
 rintro _ - ⟨v,acc,was,s',sh',rfl,hw0,hw1,hal,hinv⟩;simp only[QR,ra];refine⟨?_,λh=>?_,λh=>?_⟩
 ·rcases s' with _|⟨c,l⟩
  ·exact .inl λh=>h.1 rfl
  ·exact .inr (by simp only[ϐ];omega)
 ·obtain⟨⟨h1,h2⟩,h3⟩:=h;obtain⟨hs0,f,hf,hT'⟩:=hinv.resolve_left λh=>h2 h.1;subst hs0;rcases s' with _|⟨c,l⟩
  ·exact ϟ rfl h1
  have hc255:c≠255:=λh=>h3 (by rw[h];rfl);obtain⟨g,rfl⟩:∃g,f=g+1:=⟨f - 1,by simp at hf;omega⟩
  simp only[ϐ]at hf hal;have hcb:=Z5c c;intro w1 hr;refine(Zbu w1 b (c::l) ϔ 1 O O3 (hr.at_ 2 rfl)).mono ?_;rintro e w2 ⟨rfl,c1,c2⟩;rw[Zya]at c1;refine⟨[.i c.toNat,.s l,.b ϔ],rfl,by rw[Zya];rfl,c2,qy2.2 ⟨c1,qy5 _⟩,qy5 _,Z8,?_⟩;simp only[QR,ra];rw[Z1ig _ hcb];intro w3 hr3;refine(Z15o w3 b l ϔ _ O O (hr3.at_ 2 rfl)).mono ?_;rintro e w4 ⟨rfl,c3,c4⟩;have b1:=Zpu (n:=((c.toNat / 16:Nat):Int)) l ϔ O;have l1:=Zez ((c.toNat / 16:Nat):Int) l ϔ;have q1:=Zpv (n:=((c.toNat / 16:Nat):Int)) O l;generalize Z5u ((c.toNat / 16:Nat):Int) l ϔ=H1 at c3 b1 l1 q1⊢
  refine⟨[.i H1.1,.s H1.2.1,.b H1.2.2],rfl,rfl,c4,qy2.2 ⟨c3,qy5 _⟩,qy5 _,Z8,?_⟩;simp only[QR,ra];rw[Z1cl _ hcb];refine⟨O,O,?_⟩;intro w5 hr5;refine(Z15o w5 b H1.2.1 H1.2.2 _ O O (hr5.at_ 2 rfl)).mono ?_;rintro e w6 ⟨rfl,c5,c6⟩;have b2:=Zpu (n:=((c.toNat % 16:Nat):Int)) H1.2.1 H1.2.2 O;have l2:=Zez ((c.toNat % 16:Nat):Int) H1.2.1 H1.2.2;have q2:=Zpv (n:=((c.toNat % 16:Nat):Int)) O H1.2.1;have t2:=Zv3 ((c.toNat % 16:Nat):Int) H1.2.1;generalize hH2:Z5u ((c.toNat % 16:Nat):Int) H1.2.1 H1.2.2=H2 at c5 b2 l2⊢
  refine⟨[.i H2.1,.s H2.2.1,.b H2.2.2],rfl,rfl,c6,qy2.2 ⟨c5,qy5 _⟩,qy5 _,Z8,?_⟩;simp only[QR,ra];intro w7 hr7;refine(Zy9 w7 b H2.2.1 H2.2.2 H2.1 O (hr7.at_ 2 rfl)).mono ?_;rintro e w8 ⟨rfl,c7,c8⟩;have l3:=Zsr H2.1 H2.2.1 H2.2.2;have t3:=Za6 H2.1 H2.2.1;generalize hT4:Z4m H2.1 H2.2.1 H2.2.2=T4 at c7 l3⊢
  refine⟨[.s T4.1,.s T4.2.1,.b T4.2.2],rfl,rfl,c8,qy2.2 ⟨c7,qy5 _⟩,qy5 _,Z8,?_⟩;simp only[QR,ra];intro v1;refine⟨O,λv2=>⟨⟨v2,acc++[(was+H1.1,T4.1)],was+H1.1,T4.2.1,T4.2.2,by simp[encO],O,O3,O3,?_⟩,O⟩⟩;have key:match Z7d was c l with|none=>T4.2.2=Ϝ|some p=>T4.2.2=ϔ/\(was+H1.1,T4.1)=p.1/\T4.2.1=p.2:=by
   unfold Z7d;cases hq1:Za5 ((c.toNat / 16:Nat):Int) l with
   | none =>
    rw[hq1]at q1;simp only at q1⊢;rw[<- hT4,<- hH2,q1,t2];exact Za6 _ _
   | some p =>
    obtain⟨more,r1⟩:=p;rw[hq1]at q1;simp only at q1⊢;rw[q1]at hH2 q2 l1;simp only at hH2 q2 l1;cases hq2:Za5 ((c.toNat % 16:Nat):Int) r1 with
    | none =>
     rw[hq2]at q2;simp only at q2⊢;rw[<- hT4,<- hH2,q2];exact Za6 _ _
    | some p =>
     obtain⟨long,r2⟩:=p;rw[hq2]at q2;simp only at q2⊢;rw[q2]at hH2;rw[<- hT4,<- hH2,q1];simp only[Z4m];by_cases hlo:(r2.length:Int)<long
     ·rw[ϝ hlo,ϝ hlo]
     ·rw[ϛ hlo,ϛ hlo];exact⟨rfl,rfl,rfl⟩
  cases hst:Z7d was c l with
  | none =>
   rw[hst]at key;rw[Zf0 hc255 hst]at hT';exact .inl ⟨key,hT'.symm⟩
  | some p =>
   obtain⟨o,r⟩:=p;rw[hst]at key;obtain⟨k1,k2,k3⟩:=key;simp only at k2 k3;rw[Znh hc255 hst,Zky]at hT';have ho:was+H1.1=o.1:=by rw[<- k2]
   refine .inr ⟨k1,g,O,?_⟩;rw[k2,k3,ho,hT']
 ·intro w1 hr;have hr0:=hr.at_ 0 rfl;have hr2:=hr.at_ 2 rfl;refine⟨v,acc,s',sh',rfl,hr0,λk hk=>?_,hr2,hr.mod,hal,?_⟩
  ·rcases hr.own _ (qy8 ..) rfl k hk with h4|h4
   ·exact h4
   ·have h5:k=b:=by simpa using h4
    exact ϟ h5 (λh5=>(Ϛ.1 hr.sep).1 _ (qy10 _ (qy8 ..)) (.inl rfl) k hk (by simp only[Ent.fp,QQ,ϓ];exact h5))
  ·rcases hinv with h4|⟨h4,f,hf,h5⟩
   ·exact .inl h4
   ·refine .inr ⟨h4,?_⟩;rcases s' with _|⟨c,l⟩
    ·rw[<- h5,Zss];simp[ahead]
    ·have h6:c=255:=by
      refine Classical.byContradiction λh7=>h ⟨⟨O1,by simp[h4]⟩,?_⟩;intro h8;apply h7;simpa using h8
     obtain⟨g,rfl⟩:∃g,f=g+1:=⟨f - 1,by simp at hf;omega⟩
     subst h6;rw[<- h5,Zng];simp[ahead]
def Z10k(w:ϙ)(b:Nat)(s:By)(sh:Bool)(hs:s.length<1099511627776)(hsh:sh=Ϝ->s=[])(hc:rdC w b s sh):Ϧ ϗ 165 #[ptrB b] w λe w'=>∃v os s' sh',e=.returned (sc1 v)/\Z3q w' v os/\Zk1 w.heap.size v os/\rdC w' b s' sh'/\Mod [b] w w'/\os.length+s'.length<=s.length /\ (sh'=Ϝ/\(if sh then Ϟ else Z8x s.length 0 s)=Ϟ\/sh'=ϔ/\(if sh then Ϟ else Z8x s.length 0 s)=Ϡ (os,s')) :=
 (Zv4 w b s sh hs hsh hc).mono λe w' ⟨v,os,s',sh',h1,h2,h3,h4⟩=>⟨v,os,s',sh',h1,h2.reads,λk hk=>h3 k hk.2,h4⟩
def chkd(m:Msg):Msg×Int:=if chk m=0 then(m,0)else(mNil,chk m)
def finM(m:Msg):By->Msg×Int
 | []=>chkd m
 | _::p=>if p=[]then(mNil,1)else chkd { m with pay:=p }
def dec(s:By):Msg×Int :=
 if s.length<4 then(mNil,1)else
 if ¬((s.getD 0 0).toNat / 64=1)\/8<(s.getD 0 0).toNat % 16\/s.length<4+(s.getD 0 0).toNat % 16 then(mNil,1)else
 match Z8x (s.drop (4+(s.getD 0 0).toNat % 16)).length 0 (s.drop (4+(s.getD 0 0).toNat % 16))with
 | none=>(mNil,1)
 | some (os,r)=>finM ⟨((s.getD 0 0).toNat / 16 % 4:Nat),(s.getD 1 0).toNat,((256*(s.getD 2 0).toNat+(s.getD 3 0).toNat:Nat)),(s.drop 4).take ((s.getD 0 0).toNat % 16),os,[]⟩ r
def Z15p(w w':ϙ)(e:Ending)(r:Msg×Int):Prop:=∃v,e=.returned (.tuple #[mV r.1 (sc1 v),.int .i64 r.2])/\Z3q w' v r.1.opts/\Zk1 w.heap.size v r.1.opts/\Mod [] w w'
def Z24{w:ϙ}(h:Mod [] w w'):Z15p w w' (.returned (.tuple #[mV mNil (.slice Ϟ 0 0),.int .i64 n])) (mNil,n) :=
 ⟨.slice Ϟ 0 0,rfl,Zsu w',Z104 _ _,h⟩
def Z1fz(s:By):let r1:=numM 1 s ϔ;let r2:=numM 1 r1.2.1 r1.2.2;let r3:=numM 2 r2.2.1 r2.2.2
  (s.length<4/\r3.2.1=[]/\r3.2.2=Ϝ\/4<=s.length/\r1.1=(s.getD 0 0).toNat/\r2.1=(s.getD 1 0).toNat/\r3.1=((256*(s.getD 2 0).toNat+(s.getD 3 0).toNat:Nat))/\r3.2.1=s.drop 4/\r3.2.2=ϔ):=by
 rcases s with _|⟨a,_|⟨b,_|⟨c,_|⟨d,l⟩⟩⟩⟩
 ·left;simp[numM]
 ·left;simp[numM]
 ·left;simp[numM]
 ·left;simp[numM]
 ·right;have e:¬(l.length+1+1<2):=O
  simp[numM,beN,e]
variable{m:Msg}
def Zpw(h:chk m=0):chkd m=(m,0):=ϝ h
def Zpx(h:¬chk m=0):chkd m=(mNil,chk m):=ϛ h
def Zf1{s:By}(h:4<=s.length)(h1:(¬((s.getD 0 0).toNat / 64=1)\/8<(s.getD 0 0).toNat % 16\/s.length<4+(s.getD 0 0).toNat % 16)\/Z8x (s.drop (4+(s.getD 0 0).toNat % 16)).length 0 (s.drop (4+(s.getD 0 0).toNat % 16))=Ϟ):dec s=(mNil,1):=by
 unfold dec;rw[ϛ O];rcases h1 with h1|h1
 ·rw[ϝ h1]
 ·split
  ·rfl
  ·rw[h1]
def Zyb{s:By}(h:4<=s.length)(h1:¬(¬((s.getD 0 0).toNat / 64=1)\/8<(s.getD 0 0).toNat % 16\/s.length<4+(s.getD 0 0).toNat % 16)){os:List Opt}(h2:Z8x (s.drop (4+(s.getD 0 0).toNat % 16)).length 0 (s.drop (4+(s.getD 0 0).toNat % 16))=Ϡ (os,r)): dec s=finM ⟨((s.getD 0 0).toNat / 16 % 4:Nat),(s.getD 1 0).toNat,((256*(s.getD 2 0).toNat+(s.getD 3 0).toNat:Nat)),(s.drop 4).take ((s.getD 0 0).toNat % 16),os,[]⟩ r:=by unfold dec;rw[ϛ O,ϛ h1,h2]
def Z15q{c:UInt8}{o:Opt}(h:Z7d was c l=Ϡ (o,r)):o.2.length+r.length<=l.length/\was<=o.1/\o.1<=was+65805:=by
 have hcb:=Z5c c;unfold Z7d at h;have p1:=Zpv (n:=((c.toNat / 16:Nat):Int)) O l;have q1:=Zez ((c.toNat / 16:Nat)) l ϔ;have b1:=Zpu (n:=((c.toNat / 16:Nat):Int)) l ϔ O;cases hq1:Za5 ((c.toNat / 16:Nat):Int) l with
 | none=>rw[hq1]at h;cases h
 | some p =>
  rw[hq1]at h p1;simp only at h p1;rw[p1]at q1 b1;have p2:=Zpv (n:=((c.toNat % 16:Nat):Int)) O p.2;have q2:=Zez ((c.toNat % 16:Nat):Int) p.2 ϔ;cases hq2:Za5 ((c.toNat % 16:Nat):Int) p.2 with
  | none=>rw[hq2]at h;cases h
  | some q =>
   rw[hq2]at h p2;simp only at h p2;rw[p2]at q2;split at h
   ·cases h
   ·simp only[Option.some.injEq,Prod.mk.injEq]at h;obtain⟨rfl,rfl⟩:=h;simp only[Ϣ,ϕ]at *;omega
def Z15r(h:(chkd m).2=0):chk (chkd m).1=0:=by
 unfold chkd at h⊢;split at h
 ·rename_i h1;rw[ϝ h1];exact h1
 ·rename_i h1;exact ϟ h h1
def Z1g0(h:(finM m l).2=0):chk (finM m l).1=0:=by
 cases l with
 | nil=>exact Z15r h
 | cons c p =>
  rw[finM]at h⊢;split at h
  ·exact ϟ h U
  ·rename_i h1;rw[ϛ h1];exact Z15r h
def Zf2{s:By}(h:(dec s).2=0):chk (dec s).1=0:=by
 unfold dec at h⊢;split at h
 ·exact ϟ h U
 rename_i h1;rw[ϛ h1];split at h
 ·exact ϟ h U
 rename_i h2;rw[ϛ h2];split at h
 ·exact ϟ h U
 ·rename_i os r h3;exact Z1g0 h
open Go
abbrev Z5v(e:Evt)(x:Tel×List Ky):Tel×List Ky:=Zar feed dec e x
def Z1g1{f:Tel->Tel}(h:Outs f)(t:Tel):f t={ f { t with out:=[] }with out:=t.out++(f { t with out:=[] }).out }:=by obtain⟨g,r,h1⟩:=h t;have a:=h1 [];have b:=h1 t.out;rw[List.nil_append]at a;rw[b,a]
def Zpy(m:Msg):Outs (Z3n n m):=λt=>by obtain⟨g,r,b,h⟩:=Zxx n m (Z2a m t.next) { t with next:=if m.kind=1 then nx_Z t.next else t.next };refine⟨g,toP n b::r,λo=>?_⟩;have h1:=h (o++[toP n (Z2a m t.next)]);rw[Z3n];rw[h1];simp
def Zpz(m:Msg):Outs (Zu n m):=λt=>by
 by_cases h1:m.code=0/\m.kind=0
 ·exact⟨t,[toP n ⟨3,0,m.id,[],[],[]⟩],λo=>by rw[Zu,ϝ h1]⟩
 by_cases h2:¬m.code=0/\m.kind<=1
 ·obtain⟨g,r,h⟩:=Zpy n m t;exact⟨g,r,λo=>by rw[Zu,ϛ h1,ϝ h2,h]⟩
 ·exact⟨t,[],λo=>by rw[Zu,ϛ h1,ϛ h2,Ϩ]⟩
def Zgf(c:By)(l:List Pkt)(t:Tel):Tel:=l.foldl (λt p=>Zx c p t) t
def Zni{c:By}{l:List Pkt}(h:i<l.length)(d:Pkt)(t:Tel):Zgf c (l.take (i+1)) t=Zx c (l.getD i d) (Zgf c (l.take i) t):=by rw[Zgf,List.take_add_one,qy7 h,qy1,qy7 h];simp only[List.foldl_append];rfl
def Zq0(l:List Ky)(c:By):(takW l c).2.length<=l.length:=by
 unfold takW;split
 ·simp only[qy11,Ϣ,ϕ];omega
 ·exact ϖ _
def Z15s(l:List Ky)(c s:By):(Zc3 l c s).length<=l.length+1:=by
 unfold Zc3;split
 ·omega
 ·simp only[qy11,Ϣ,ϕ,ϐ,ϑ];omega
def Zsv{fd:By->List Pkt×By×Int}{dm:By->Msg×Int}(e:Evt)(x:Tel×List Ky):(Zar fd dm e x).2.length<=x.2.length+1:=by
 unfold Zar;split
 ·unfold Zpf;split<;>exact Nat.le_succ _
 ·have h1:=Zq0 x.2 e.client;have h2:=Z15s (takW x.2 e.client).2 e.client (fd ((takW x.2 e.client).1++e.bytes)).2.1
  show(Zc3 _ _ _).length<=_
  omega
def Z1aq{e:Evt}(he:Z47 e=0){x:Tel×List Ky}(h:BOk x.1)(hr:ROk x.2): BOk (Z5v e x).1/\ROk (Z5v e x).2/\(Z5v e x).1.out.length<=x.1.out.length+200*(e.bytes.length+601)/\(Z27 x.1.out->Z27 (Z5v e x).1.out) :=
 Zxs (Zps) (λs=>Zf2) he h hr
def invR(l:List Ky)(n:By)(i j:Nat):Prop:=i<=j/\j<=l.length/\(∀k,k<i->Z5 (l.getD k rstD).1 n=Ϝ)/\∀k,j<=k->k<l.length->Z5 (l.getD k rstD).1 n=ϔ
def Z1cm(l:List Ky)(n:By):invR l n 0 l.length:=⟨ϭ _,ϖ _,λk hk=>ϟ hk (Nat.not_lt_zero _),λk h1 h2=>ϟ h2 (Nat.not_lt.2 h1)⟩
def Z15t{l:List Ky}{n:By}{j h:Nat}(hs:sortR l)(hv:invR l n i j)(hj:h<j)(h2:Z5 (l.getD h rstD).1 n=Ϝ):invR l n (h+1) j:=by
 obtain⟨h0,h1,hA,hB⟩:=hv;refine⟨hj,h1,λk hk=>?_,hB⟩;by_cases hkh:k=h
 ·rw[hkh];exact h2
 ·exact Zf (Zpn hs O O) h2
def Z15u{l:List Ky}{n:By}{j h:Nat}(hs:sortR l)(hv:invR l n i j)(hi:i<=h)(hj:h<j)(h2:¬Z5 (l.getD h rstD).1 n=Ϝ):invR l n i h:=by
 obtain⟨h0,h1,hA,hB⟩:=hv;have h3:Z5 (l.getD h rstD).1 n=ϔ:=by simpa using h2
 refine⟨hi,O,hA,λk hk1 hk2=>?_⟩;by_cases hkh:k=h
 ·rw[hkh];exact h3
 ·cases h4:Z5 (l.getD k rstD).1 n with
  | false=>rfl
  | true =>
   have:=Zf (Zpn hs (i:=h) O hk2) h4;rw[h3]at this;cases this
def Zyc{l:List Ky}{n:By}(hv:invR l n i i):i=idxR l n:=Zsg hv.2.1 hv.2.2.1 hv.2.2.2
