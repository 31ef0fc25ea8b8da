/-
  Texts of mine, one behind the other. By an AI agent.
-/
import Derived.Test.YtkhakgbnfapifaaGreatDoorW19
import Derived.Test.YtkhakgbnfapifaaGreatDoorW20
import Derived.Test.YtkhakgbnfapifaaGreatDoorW11
import Derived.Test.YtkhakgbnfapifaaGreatDoorW21
import Derived.Test.YtkhakgbnfapifaaGreatDoorW09
import Derived.Test.YtkhakgbnfapifaaGreatDoorW10
import Derived.Test.YtkhakgbnfapifaaGreatDoorW17
import Derived.Test.YtkhakgbnfapifaaGreatDoorW13
set_option linter.unusedSimpArgs false
set_option linter.unusedVariables false
set_option maxHeartbeats 20000000
namespace Go.Proofs.YtkhakgbnfapifaaGreatDoor
open Go Go.Sx
theorem Zin {α:Type} (f:α->List UInt8):∀l:List α,(∀a,1<=(f a).length)->l.length<=(l.map f).flatten.length
  | [],_=>by simp
  | a::l,h=>by have h1:=Zin f l h;have h2:=h a;simp only[List.map_cons,List.flatten_cons,qy11,List.length_cons];omega
theorem Zrs {p:Pkt} (h:chkP p=0):SmallP p:=by obtain⟨hf,hl⟩:=Zi1 h;simp only[Z28,qy11]at hl;have h1:=Zin (numB 1) p.codes (fun a=>by rw[Zb];exact Nat.le_refl _);have h2:=Zin (Z1j p.kind) p.asks (fun a=>by unfold Z1j txtB;split<;>simp[Zb]<;>omega);exact⟨by have:=hf.client;omega,by have:=hf.topic;omega,by omega,by omega,by omega,fun a ha=>by have:=(hf.asks a ha).1;omega⟩
def Z188 (l:List SntX):Prop:=∀t∈l,SmallP t.1.pk/\t.1.msg.opts.length<1099511627776
theorem Zxc {l:List SntX} (h:Z1t (l.map (·.1))):Z188 l:=fun t ht=>by
  rcases h t.1 (List.mem_map_of_mem ht) with ⟨-,h1,h2⟩|⟨-,h1,h2,-⟩
  . have:=(Z79.1 h1).2.2.1;exact⟨by rw[h2];exact⟨by decide,by decide,by decide,by decide,by decide,fun a ha=>by cases ha⟩,by omega⟩
  . exact⟨Zrs h1,by rw[h2];decide⟩
theorem Z19p (l:List SntX) (i:Nat):(l.map (·.1)).getD i sntD.1=(l.getD i sntD).1:=by rw[qy1,qy1,List.getElem?_map];cases l[i]?<;>rfl
theorem Zeu (w:World) (x:Value) (a:List SntX) (sx:List SesX) (hx:reads w x kSn (a.map Z33)) (nx_Z:(Z6 sx a).holds w) (hs:Z1t (a.map (·.1))) (hl:a.length<1000000000) : Calls Tryz.prog 32 #[sc1 x] w fun e w'=>e=.returned (.bool true)/\Mod [] w w':=by
  refine Z1 (Z4 (ρ:=[.v x,.r (a.map Z33),.a (Z6 sx a)]) sxE_ok Tryz.func32 Z4w rfl rfl
    (Rel.start2 (qy2.2 ⟨⟨hx,rfl⟩,qy2.2 ⟨⟨nx_Z,rfl⟩,qy5 _⟩⟩)) rfl rfl ?_) rfl
  simp only[Tree.goal,X.P,X.ev,SV.ev,CV.ev,Sc.ev,qz,QA,QB,QC,QD,QE,QH,QJ,QK,QL,QM,Nat.reduceAdd,qy3];refine⟨fun vs=>∃(i:Nat) (u:V),vs=[u,.i i]/\i<=a.length,fun vs=>a.length - (vs.getD 1 (.i 0)).toI.toNat,⟨0,_,rfl,by omega⟩,?_⟩;rintro _ - ⟨i,u,rfl,hi⟩;simp only[qz,QA,QL,QM,qy4];refine⟨fun h6=>⟨by omega,?_⟩,fun h6 w' hr=>⟨by trivial,hr.mod⟩⟩;have hi1:i<a.length:=by omega
  have r1:=Zwv hi1;have m1:=Z17v hi1;have hsm:=Zxc hs _ m1;have hok:=hs _ (List.mem_map_of_mem m1);simp only[r1,Z33,List.getD_cons_zero,List.getD_cons_succ,Value.gI,Value.gB,Value.gS,Z32];generalize ga:a.getD i sntD=ta at *
  obtain⟨⟨ac,ap,an,am⟩,a1,a2,a3⟩:=ta;simp only[Zx6]at hok hsm ⊢;refine⟨fun h7=>?_,fun h7=>?_⟩
  . rcases hok with ⟨-,k1,k2⟩|⟨k1,-⟩
    . have k3:=(Z79.1 k1).2.2.1;refine⟨[.i (chk am)],rfl,fun _ w' hr=>?_,?_⟩
      . have n1:=Z7s (hr.at_ 1 rfl:(Z6 sx a).holds w') m1;exact Z1 (Zbh w' am a3 n1.2.2 hsm.2 (by omega) (by omega)) rfl
      simp only[qz,QA,QL,QM];refine⟨[.b (decide (ap=pD_Q 0))],rfl,fun _ w' hr=>?_,?_⟩
      . have n1:=Z7s (hr.at_ 1 rfl:(Z6 sx a).holds w') m1;exact Z1 (Z8d w' ap (pD_Q 0) a1 a2 (.slice none 0 0) (.slice none 0 0) n1.1 n1.2.1 (Z8 w' _) (Z8 w' _) hsm.1) rfl
      simp only[qz,QB,decide_eq_true_eq];exact⟨fun h8=>absurd h8 (by rintro(h8|h8);exact h8 k1;exact h8 k2),fun h8=>⟨by omega,by omega,⟨i+1,u,rfl,by omega⟩,by omega⟩⟩
    . exact absurd h7 k1
  . rcases hok with ⟨k1,-⟩|⟨-,k1,k2,k3⟩
    . exact absurd k1 h7
    . refine⟨[.i (chkP ap)],rfl,fun _ w' hr=>?_,?_⟩
      . have n1:=Z7s (hr.at_ 1 rfl:(Z6 sx a).holds w') m1;exact Z1 (Z7r w' ap a1 a2 n1.1 n1.2.1 hsm.1) rfl
      simp only[qz,QA,QL,QM];refine⟨[.b true],rfl,fun _ w' hr=>?_,?_⟩
      . have n1:=Z7s (hr.at_ 1 rfl:(Z6 sx a).holds w') m1;refine(Z1 (Zae w' am mNil a3 (.slice none 0 0) n1.2.2 (Z8 w' _) hsm.2) rfl).mono ?_;rintro e w1 ⟨rfl,h9⟩;exact⟨by rw[k2];rfl,h9⟩
      simp only[qz,QB];exact⟨fun h8=>absurd h8 (by rintro((h8|h8)|h8);exact h8 k1;exact h8 trivial;exact h8 k3),fun h8=>⟨by omega,by omega,⟨i+1,u,rfl,by omega⟩,by omega⟩⟩
end Go.Proofs.YtkhakgbnfapifaaGreatDoor
namespace Go.Proofs.YtkhakgbnfapifaaGreatDoor
open Go.Sx
theorem Z4l (s:List UInt8) (k a:Nat) (b:Bool) (ha:a<=s.length):0<=(rdN s k a b).1/\(rdN s k a b).1<pw k/\a<=(rdN s k a b).2.1/\(rdN s k a b).2.1<=s.length /\ (b=true->(rdN s k a b).2.2=true)/\((rdN s k a b).2.2=false->b=false/\(rdN s k a b).2.1=a+k):=by
 have hp:=Z176 k;unfold rdN;split
 ·have:=Zuq ((s.drop a).take k) 0;have e:((s.drop a).take k).length=k:=by simp;omega
  rw[e]at this;refine⟨by simp only;omega,by simp only;omega,by simp only;omega,by simp only;omega,fun h=>h,fun h=>⟨h,rfl⟩⟩
 ·exact⟨by simp only;omega,by simp only;omega,ha,Nat.le_refl _,fun _=>rfl,fun h=>by cases h⟩
theorem Zc2 (s:List UInt8) (a:Nat) (b:Bool) (ha:a<=s.length):a<=(rdT s a b).2.1/\(rdT s a b).2.1<=s.length/\(rdT s a b).1.length<=(rdT s a b).2.1 - a /\ (b=true->(rdT s a b).2.2=true)/\((rdT s a b).2.2=false->b=false/\(rdT s a b).2.1=a+2+(rdT s a b).1.length):=by
 unfold rdT;split
 ·refine⟨by simp only;omega,by simp only;omega,by simp;omega,fun h=>h,fun h=>⟨h,by simp;omega⟩⟩
 ·exact⟨Nat.le_refl _,ha,by simp,fun _=>rfl,fun h=>by cases h⟩
theorem Zph (s:List UInt8) (k:Int) (a:Nat) (b:Bool) (ha:a<=s.length):a<=(rdA s k a b).2.1/\(rdA s k a b).2.1<=s.length/\(rdA s k a b).1.1.length<=s.length/\0<=(rdA s k a b).1.2/\(rdA s k a b).1.2<256 /\ (Z1j k (rdA s k a b).1).length+a<=(rdA s k a b).2.1+3/\((rdA s k a b).2.2=false->b=false/\(Z1j k (rdA s k a b).1).length+a=(rdA s k a b).2.1/\a+2<=(rdA s k a b).2.1):=by
 obtain⟨t1,t2,t3,t4,t5⟩:=Zc2 s a b ha;by_cases hk:k=8
 ·obtain⟨n1,n2,n3,n4,n5,n6⟩:=Z4l s 1 (rdT s a b).2.1 (rdT s a b).2.2 t2;have n2:(rdN s 1 (rdT s a b).2.1 (rdT s a b).2.2).1<256:=n2;have hl:∀(x:List UInt8) (n:Int),(Z1j k (x,n)).length=x.length+3:=fun x n=>by simp[Z1j,hk,Z1v,Zb]
  rw[rdA,if_pos hk];simp only[hl];refine⟨by omega,n4,by omega,n1,n2,?_,fun h=>?_⟩
  ·by_cases hs:(rdT s a b).2.2=true
   ·omega
   ·have:=t5 (by simpa using hs);omega
  ·obtain⟨h1,h2⟩:=n6 h;obtain⟨h3,h4⟩:=t5 h1;exact⟨h3,by omega,by omega⟩
 ·have hl:∀(x:List UInt8) (n:Int),(Z1j k (x,n)).length=x.length+2:=fun x n=>by simp[Z1j,hk,Z1v]
  rw[rdA,if_neg hk];simp only[hl];refine⟨t1,t2,by omega,by omega,by omega,by omega,fun h=>?_⟩;obtain⟨h3,h4⟩:=t5 h;exact⟨h3,by omega,by omega⟩
theorem Zkt {s:List UInt8} {a a':Nat} {b b':Bool} (h:a<s.length) (hb:b=false) (hs:b'=false->a+1<=a'):Zr s a' b'<Zr s a b:=by
 subst hb;unfold Zr;cases b' with
 | true=>simp;omega
 | false=>have:=hs rfl;simp;omega
theorem Zpi {s:List UInt8} {k:Int} {a:Nat} {b:Bool} (h:a<s.length) (hb:b=false):Zr s (rdA s k a b).2.1 (rdA s k a b).2.2<Zr s a b :=
 Zkt h hb fun h2=>by have:=((Zph s k a b (by omega)).2.2.2.2.2.2 h2).2.2;omega
theorem Zpj {s:List UInt8} {a:Nat} {b:Bool} (h:a<s.length) (hb:b=false):Zr s (rdN s 1 a b).2.1 (rdN s 1 a b).2.2<Zr s a b :=
 Zkt h hb fun h2=>by have:=((Z4l s 1 a b (by omega)).2.2.2.2.2 h2).2;omega
theorem Z6i {s:List UInt8} {a:Nat} {b:Bool} (h:Zr s a b=0):¬(a<s.length/\b=false):=by
 unfold Zr at h;split at h
 ·rename_i hb;exact fun hh=>by rw[hb]at hh;cases hh.2
 ·omega
theorem Zku {s:List UInt8} {k:Int}:∀(f g a:Nat) (b:Bool) (l:List Ak),Zr s a b<=f->Zr s a b<=g->rdAs s k f a b l=rdAs s k g a b l
 | 0,0,a,b,l,_,_=>rfl
 | 0,g+1,a,b,l,h,_=>by rw[rdAs,rdAs,if_neg (Z6i (by omega))]
 | f+1,0,a,b,l,_,h=>by rw[rdAs,rdAs,if_neg (Z6i (by omega))]
 | f+1,g+1,a,b,l,h1,h2=>by
  rw[rdAs,rdAs];split
  ·rename_i h;have:=Zpi (k:=k) h.1 h.2;exact Zku f g _ _ _ (by omega) (by omega)
  ·rfl
theorem Zkv {s:List UInt8}:∀(f g a:Nat) (b:Bool) (l:List Int),Zr s a b<=f->Zr s a b<=g->rdCs s f a b l=rdCs s g a b l
 | 0,0,a,b,l,_,_=>rfl
 | 0,g+1,a,b,l,h,_=>by rw[rdCs,rdCs,if_neg (Z6i (by omega))]
 | f+1,0,a,b,l,_,h=>by rw[rdCs,rdCs,if_neg (Z6i (by omega))]
 | f+1,g+1,a,b,l,h1,h2=>by
  rw[rdCs,rdCs];split
  ·rename_i h;have:=Zpj h.1 h.2;exact Zkv f g _ _ _ (by omega) (by omega)
  ·rfl
theorem Zkw {s:List UInt8} {k:Int} {a:Nat} {b:Bool} {l:List Ak} (h:a<s.length/\b=false) : rdAs s k (Zr s a b) a b l=rdAs s k (Zr s (rdA s k a b).2.1 (rdA s k a b).2.2) (rdA s k a b).2.1 (rdA s k a b).2.2 (l++[(rdA s k a b).1]):=by
 have h1:=Zpi (k:=k) h.1 h.2;obtain⟨f,hf⟩:∃f,Zr s a b=f+1:=⟨Zr s a b - 1,by omega⟩
 rw[hf,rdAs,if_pos h];exact Zku _ _ _ _ _ (by omega) (Nat.le_refl _)
theorem Zkx {s:List UInt8} {a:Nat} {b:Bool} {l:List Int} (h:a<s.length/\b=false) : rdCs s (Zr s a b) a b l=rdCs s (Zr s (rdN s 1 a b).2.1 (rdN s 1 a b).2.2) (rdN s 1 a b).2.1 (rdN s 1 a b).2.2 (l++[(rdN s 1 a b).1]):=by
 have h1:=Zpj h.1 h.2;obtain⟨f,hf⟩:∃f,Zr s a b=f+1:=⟨Zr s a b - 1,by omega⟩
 rw[hf,rdCs,if_pos h];exact Zkv _ _ _ _ _ (by omega) (Nat.le_refl _)
theorem Zio {s:List UInt8} {k:Int} {f a:Nat} {b:Bool} {l:List Ak} (h:¬(a<s.length/\b=false)):rdAs s k f a b l=(l,a,b):=by
 cases f with
 | zero=>rfl
 | succ f=>rw[rdAs,if_neg h]
theorem Zpk {s:List UInt8} {f a:Nat} {b:Bool} {l:List Int} (h:¬(a<s.length/\b=false)):rdCs s f a b l=(l,a,b):=by
 cases f with
 | zero=>rfl
 | succ f=>rw[rdCs,if_neg h]
abbrev totA (k:Int) (l:List Ak):Nat:=(l.map (Z1j k)).flatten.length
theorem Zky (k:Int) (l:List Ak) (x:Ak):totA k (l++[x])=totA k l+(Z1j k x).length:=by simp[totA]
theorem Zxd {s:List UInt8} {k:Int}:∀(f a:Nat) (b:Bool) (l:List Ak),a<=s.length->a<=(rdAs s k f a b l).2.1/\(rdAs s k f a b l).2.1<=s.length /\ (∀x∈(rdAs s k f a b l).1,x∈l\/(x.1.length<=s.length/\0<=x.2/\x.2<256))/\totA k (rdAs s k f a b l).1+a<=totA k l+(rdAs s k f a b l).2.1+3
 | 0,a,b,l,h=>⟨Nat.le_refl _,h,fun x hx=>.inl hx,by simp only[rdAs];omega⟩
 | f+1,a,b,l,h=>by
  rw[rdAs];split
  ·obtain⟨h1,h2,h3,h4,h5,h6,h7⟩:=Zph s k a b h;by_cases hb:(rdA s k a b).2.2=true
   ·rw[Zio (by rw[hb];simp)];refine⟨h1,h2,fun x hx=>?_,?_⟩
    ·rcases qy13.1 hx with hx|hx
     ·exact .inl hx
     ·rw[qy12.1 hx];exact .inr ⟨h3,h4,h5⟩
    ·simp only[Zky];omega
   ·have h7:=h7 (by simpa using hb);obtain⟨i1,i2,i3,i4⟩:=Zxd f (rdA s k a b).2.1 (rdA s k a b).2.2 (l++[(rdA s k a b).1]) h2;refine⟨by omega,i2,fun x hx=>?_,?_⟩
    ·rcases i3 x hx with hx|hx
     ·rcases qy13.1 hx with hx|hx
      ·exact .inl hx
      ·rw[qy12.1 hx];exact .inr ⟨h3,h4,h5⟩
     ·exact .inr hx
    ·rw[Zky]at i4;omega
  ·exact⟨Nat.le_refl _,h,fun x hx=>.inl hx,by simp only;omega⟩
theorem Zxe {s:List UInt8}:∀(f a:Nat) (b:Bool) (l:List Int),a<=s.length->a<=(rdCs s f a b l).2.1/\(rdCs s f a b l).2.1<=s.length /\ (∀x∈(rdCs s f a b l).1,x∈l\/(0<=x/\x<256))/\(rdCs s f a b l).1.length+a<=l.length+(rdCs s f a b l).2.1+1
 | 0,a,b,l,h=>⟨Nat.le_refl _,h,fun x hx=>.inl hx,by simp only[rdCs];omega⟩
 | f+1,a,b,l,h=>by
  rw[rdCs];split
  ·obtain⟨h1,h2,h3,h4,h5,h6⟩:=Z4l s 1 a b h;have h2:(rdN s 1 a b).1<256:=h2;by_cases hb:(rdN s 1 a b).2.2=true
   ·rw[Zpk (by rw[hb];simp)];refine⟨h3,h4,fun x hx=>?_,?_⟩
    ·rcases qy13.1 hx with hx|hx
     ·exact .inl hx
     ·rw[qy12.1 hx];exact .inr ⟨h1,h2⟩
    ·simp only[qy11,List.length_cons,List.length_nil];omega
   ·have h7:=(h6 (by simpa using hb)).2;obtain⟨i1,i2,i3,i4⟩:=Zxe f (rdN s 1 a b).2.1 (rdN s 1 a b).2.2 (l++[(rdN s 1 a b).1]) h4;refine⟨by omega,i2,fun x hx=>?_,?_⟩
    ·rcases i3 x hx with hx|hx
     ·rcases qy13.1 hx with hx|hx
      ·exact .inl hx
      ·rw[qy12.1 hx];exact .inr ⟨h1,h2⟩
     ·exact .inr hx
    ·simp only[qy11,List.length_cons,List.length_nil]at i4;omega
  ·exact⟨Nat.le_refl _,h,fun x hx=>.inl hx,by simp only;omega⟩
structure BdP (s:List UInt8) (p:Pkt):Prop where
 kind:0<=p.kind/\p.kind<=15
 qos:0<=p.qos/\p.qos<=3
 id:0<=p.id/\p.id<=65535
 keep:0<=p.keep/\p.keep<=65535
 code:0<=p.code/\p.code<=65535
 asks:∀a∈p.asks,a.1.length<=s.length/\0<=a.2/\a.2<256
 codes:∀c∈p.codes,0<=c/\c<256
 client:p.client.length<=s.length
 topic:p.topic.length<=s.length
 payload:p.payload.length<=s.length
 total:totA p.kind p.asks<=s.length+3
 ncodes:p.codes.length<=s.length+1
theorem Zev (k:Int):∀l:List Ak,l.length<=totA k l
 | []=>by simp
 | x::l=>by
  have:=Zev k l;have h2:2<=(Z1j k x).length:=by unfold Z1j;rw[qy11,Z1v];omega
  simp only[totA,List.map_cons,List.flatten_cons,qy11,List.length_cons]at *;omega
theorem BdP.small {s:List UInt8} {p:Pkt} (h:BdP s p) (hs:s.length<=60000000):SmallP p:=by have h1:=h.client;have h2:=h.topic;have h3:=h.payload;have h4:=h.total;have h5:=h.ncodes;have h6:=Zev p.kind p.asks;exact⟨by omega,by omega,by omega,by omega,by omega,fun a ha=>by have:=(h.asks a ha).1;omega⟩
theorem BdP.byte {s:List UInt8} {p:Pkt} (h:BdP s p) (hs:s.length<=60000000):ByteP p:=by
 refine⟨h.kind,h.qos,h.id,h.keep,h.code,fun a ha=>by have:=h.asks a ha;omega,fun c hc=>by have:=h.codes c hc;omega,h.small hs,?_⟩;have h1:=h.client;have h2:=h.topic;have h3:=h.payload;have h4:=h.total;have h5:=h.ncodes;have e1:(Z3x p).length<=s.length+64:=by
  unfold Z3x;split
  ·simp only[qy11,Z1v,Zb,List.length_cons,List.length_nil];omega
  ·split
   ·simp only[qy11,Zb];omega
   ·split
    ·rw[Z1v];omega
    ·simp
 have e2:(if idB p=true then numB 2 p.id else []).length<=2:=by
  split
  ·rw[Zb];omega
  ·simp
 have e4:=Zk8 1 p.codes;unfold Z28;simp only[qy11];unfold totA at h4;omega
theorem Zxf (s:List UInt8) (c:Nat) (hc:c<256):BdP s (begP c):=by
 unfold begP;split
 ·exact⟨by simp,by simp;omega,by simp,by simp,by simp,by simp,by simp,by simp,by simp,by simp,by simp,by simp⟩
 ·exact⟨by simp;omega,by simp,by simp,by simp,by simp,by simp,by simp,by simp,by simp,by simp,by simp,by simp⟩
theorem pw2:pw 2=65536:=rfl
theorem pw1:pw 1=256:=rfl
theorem Zpl {s:List UInt8} {p:Pkt} {a:Nat} {b:Bool} (h:BdP s p) (ha:a<=s.length):BdP s (headD s p a b).1/\(headD s p a b).2.1<=s.length/\(headD s p a b).1.asks=p.asks/\(headD s p a b).1.codes=p.codes:=by
 obtain⟨h1,h2,h3,h4,h5,h6,h7,h8,h9,h10,h11,h12⟩:=h;unfold headD;split
 ·rename_i hk;have t1:=Zc2 s a b ha;have n1:=Z4l s 1 (rdT s a b).2.1 (rdT s a b).2.2 t1.2.1;have n2:=Z4l s 1 (rdN s 1 (rdT s a b).2.1 (rdT s a b).2.2).2.1 (rdN s 1 (rdT s a b).2.1 (rdT s a b).2.2).2.2 n1.2.2.2.1;unfold Zff;simp only;generalize rdN s 1 (rdN s 1 (rdT s a b).2.1 (rdT s a b).2.2).2.1 (rdN s 1 (rdT s a b).2.1 (rdT s a b).2.2).2.2=x at n2 ⊢
  have n3:=Z4l s 2 x.2.1 x.2.2 n2.2.2.2.1;generalize rdN s 2 x.2.1 x.2.2=y at n3 ⊢
  have t2:=Zc2 s y.2.1 y.2.2 n3.2.2.2.1;rw[pw2]at n3;exact⟨⟨h1,h2,h3,by simp only;omega,h5,h6,h7,by simp only;omega,h9,h10,h11,h12⟩,t2.2.1,trivial,trivial⟩
 ·split
  ·have n1:=Z4l s 1 a b ha;have n2:=Z4l s 1 (rdN s 1 a b).2.1 (rdN s 1 a b).2.2 n1.2.2.2.1;rw[pw1]at n2;exact⟨⟨h1,h2,h3,h4,by simp only;omega,h6,h7,h8,h9,h10,h11,h12⟩,n2.2.2.2.1,rfl,rfl⟩
  ·split
   ·have t1:=Zc2 s a b ha;exact⟨⟨h1,h2,h3,h4,h5,h6,h7,h8,by simp only;omega,h10,h11,h12⟩,t1.2.1,rfl,rfl⟩
   ·exact⟨⟨h1,h2,h3,h4,h5,h6,h7,h8,h9,h10,h11,h12⟩,ha,rfl,rfl⟩
theorem Z12h {s:List UInt8} {q:RS} (h:BdP s q.1) (ha:q.2.1<=s.length):BdP s (idD s q).1/\(idD s q).2.1<=s.length/\(idD s q).1.asks=q.1.asks/\(idD s q).1.codes=q.1.codes:=by
 obtain⟨h1,h2,h3,h4,h5,h6,h7,h8,h9,h10,h11,h12⟩:=h;unfold idD;split
 ·have n1:=Z4l s 2 q.2.1 q.2.2 ha;rw[pw2]at n1;exact⟨⟨h1,h2,by simp only;omega,h4,h5,h6,h7,h8,h9,h10,h11,h12⟩,n1.2.2.2.1,rfl,rfl⟩
 ·exact⟨⟨h1,h2,h3,h4,h5,h6,h7,h8,h9,h10,h11,h12⟩,ha,rfl,rfl⟩
theorem Z11e {s:List UInt8} {q:RS} (h:BdP s q.1) (ha:q.2.1<=s.length) (e1:q.1.asks=[]) (e2:q.1.codes=[]):BdP s (Z6w s q).1/\(Z6w s q).2.1<=s.length:=by
 obtain⟨h1,h2,h3,h4,h5,h6,h7,h8,h9,h10,h11,h12⟩:=h;unfold Z6w;split
 ·exact⟨⟨h1,h2,h3,h4,h5,h6,h7,h8,h9,by simp,h11,h12⟩,Nat.le_refl _⟩
 ·split
  ·obtain⟨i1,i2,i3,i4⟩:=Zxd (s:=s) (k:=q.1.kind) (Zr s q.2.1 q.2.2) q.2.1 q.2.2 q.1.asks ha;rw[e1]at i3 i4 ⊢;refine⟨⟨h1,h2,h3,h4,h5,fun x hx=>?_,h7,h8,h9,h10,?_,h12⟩,?_⟩
   ·rcases i3 x hx with hx|hx
    ·cases hx
    ·exact hx
   ·simp only;rw[e1]at i2;have e0:totA q.1.kind []=0:=rfl;rw[e0]at i4;omega
   ·rw[e1]at i2;exact i2
  ·split
   ·obtain⟨i1,i2,i3,i4⟩:=Zxe (s:=s) (Zr s q.2.1 q.2.2) q.2.1 q.2.2 q.1.codes ha;rw[e2]at i3 i4 ⊢;refine⟨⟨h1,h2,h3,h4,h5,h6,fun x hx=>?_,h8,h9,h10,h11,?_⟩,?_⟩
    ·rcases i3 x hx with hx|hx
     ·cases hx
     ·exact hx
    ·rw[e2]at i2;simp only[List.length_nil]at i4 ⊢;omega
    ·rw[e2]at i2;exact i2
   ·exact⟨⟨h1,h2,h3,h4,h5,h6,h7,h8,h9,h10,h11,h12⟩,ha⟩
theorem Zxg {s:List UInt8} {a:Nat} (h:(getL s a).2.2=0):a<=s.length/\(a+(getL s a).2.1).toNat<=s.length/\0<=(getL s a).2.1:=by
 unfold getL at h ⊢;split at h
 ·rename_i h0;rw[if_pos h0];have:=Zuu 4 0 0 (s.drop (a:Int).toNat) (by decide);rw[List.length_drop]at this;omega
 ·simp at h
theorem Z11f {s:List UInt8} (h:(getL s 1).2.2=0):BdP s (Z82 s).1/\(Z82 s).2.1<=s.length:=by
 have h1:=Zxg (a:=1) h;have h2:(1+(getL s 1).2.1).toNat<=s.length:=h1.2.1;unfold Z82 Ze0;obtain⟨a1,a2,a3,a4⟩:=Zpl (b:=false) (Zxf s (s.getD 0 0).toNat (Zqs _)) h2;obtain⟨b1,b2,b3,b4⟩:=Z12h a1 a2;have e:(begP (s.getD 0 0).toNat).asks=[]/\(begP (s.getD 0 0).toNat).codes=[]:=by unfold begP;split<;>exact⟨rfl,rfl⟩
 exact Z11e b1 b2 (by rw[b3,a3,e.1]) (by rw[b4,a4,e.2])
def rdV (s:List UInt8) (a:Nat) (sh:Bool):List Value:=[.string ⟨s.toArray⟩,.int .i64 a,.bool sh]
abbrev rdAt (w:World) (b:Nat) (s:List UInt8) (a:Nat) (sh:Bool):Prop:=w.heap[b]?=some (.cells (rdV s a sh).toArray 219 (0,0))
def pC (p:Pkt) (u v:Value):List Value:=[.int .i64 p.kind,.bool p.dup,.bool p.retain,.bool p.clean,.bool p.session,.int .i64 p.qos,.int .i64 p.id,.int .i64 p.keep,.int .i64 p.code,.string ⟨p.client.toArray⟩,.string ⟨p.topic.toArray⟩,.string ⟨p.payload.toArray⟩,Go.Sx.sc1 u,Go.Sx.sc1 v]
abbrev pAt (w:World) (b:Nat) (p:Pkt) (u v:Value):Prop:=w.heap[b]?=some (.cells (pC p u v).toArray 31 (0,0))
theorem Zxh {w:World} {ρ:List V} {hp:List Ent} {fp:List Nat} (hh:∀e∈hp,e.holds ρ w) (ho:∀e∈hp,e.wr=true->∀k,e.fp ρ k->k∈fp) (hs:Zn ρ hp):Rel ⟨fp,w⟩ ρ hp w :=
 ⟨Mod.refl _ _,hh,fun e he hw k hk=>.inr (ho e he hw k hk),hs⟩
section
variable (w:World) (b:Nat) (s:List UInt8) (a:Nat) (sh:Bool) (h:rdAt w b s a sh) (ha:a<=s.length) (hs:s.length<1000000000)
include h
theorem Z19q {k:V}:Rel ⟨[b],w⟩ [.n b,.s s,.i a,.b sh,k] [.cells 0 219 [.str (.var 1),.int .i64 (.var 2),.bool (.var 3)]] w :=
 Zxh (qy2.2 ⟨h,qy5 _⟩) (qy2.2 ⟨fun _ k hk=>by simp only[Ent.fp,qz,QF]at hk;simp[hk],qy5 _⟩) Z3
theorem Z12i:Rel ⟨[b],w⟩ [.n b,.s s,.i a,.b sh] [.cells 0 219 [.str (.var 1),.int .i64 (.var 2),.bool (.var 3)]] w :=
 Zxh (qy2.2 ⟨h,qy5 _⟩) (qy2.2 ⟨fun _ k hk=>by simp only[Ent.fp,qz,QF]at hk;simp[hk],qy5 _⟩) Z3
include ha
theorem Z160:Calls Tryz.prog 258 #[.pointer (some ⟨b,0,none⟩)] w fun e w'=>e=.returned (.string ⟨(s.drop a).toArray⟩)/\rdAt w' b s s.length sh/\Mod [b] w w':=by refine Z1 (Z4 (ρ:=[.n b,.s s,.i a,.b sh]) sxE_ok Tryz.func258 Z63 rfl rfl (Z12i w b s a sh h) rfl rfl ?_) rfl;simp only[Tree.goal,X.P,X.ev,SV.ev,CV.ev,Sc.ev,qz,QA,QC];refine⟨by omega,by omega,fun w' hr=>⟨by simp,hr.at_ 0 rfl,hr.mod⟩⟩
include hs
theorem Z2j (k:Nat) (hk:1<=k/\k<=4):Calls Tryz.prog 256 #[.pointer (some ⟨b,0,none⟩),.int .i64 k] w fun e w'=>e=.returned (.int .i64 (rdN s k a sh).1)/\rdAt w' b s (rdN s k a sh).2.1 (rdN s k a sh).2.2/\Mod [b] w w':=by
 refine Z1 (Z4 (ρ:=[.n b,.s s,.i a,.b sh,.i k]) sxE_ok Tryz.func256 Z56 rfl rfl (Z19q w b s a sh h) rfl rfl ?_) rfl;simp only[Tree.goal,X.P,X.ev,SV.ev,CV.ev,Sc.ev,qz,QA,QC,QL,QM];refine⟨[.i (getR s a k).1,.i (getR s a k).2],rfl,fun _ w' _=>Zhw w' s a k (by omega),?_⟩;simp only[qz,QA];refine⟨by omega,by omega,fun w' hr=>?_⟩;have hc:=hr.at_ 0 rfl;simp only[Ent.holds,X.ev,Sc.ev,qz,QA,QB,QC,QF]at hc;by_cases hh:a+k<=s.length
 ·have e1:getR s a k=(((beN ((s.drop a).take k) 0:Nat):Int),0):=by
   have:=Zhv (s:=s) (at_:=a) (b:=k) (by omega) (by omega) (by omega);simpa using this
  have e2:rdN s k a sh=(((beN ((s.drop a).take k) 0:Nat):Int),a+k,sh):=by rw[rdN,if_pos hh]
  rw[e1]at hc ⊢;rw[e2];refine⟨rfl,?_,hr.mod⟩;have e3:(if (a:Int)+(k:Int)<(s.length:Int) then (a:Int)+(k:Int) else (s.length:Int))=((a+k:Nat):Int):=by split<;>omega
  rw[e3]at hc;rw[rdAt,hc];simp[rdV]
 ·have e1:getR s a k=(0,8):=Z7q (by omega) (by omega) (by omega);have e2:rdN s k a sh=(0,s.length,true):=by rw[rdN,if_neg hh]
  rw[e1]at hc ⊢;rw[e2];refine⟨rfl,?_,hr.mod⟩;have e3:(if (a:Int)+(k:Int)<(s.length:Int) then (a:Int)+(k:Int) else (s.length:Int))=((s.length:Nat):Int):=by split<;>omega
  rw[e3]at hc;rw[rdAt,hc];simp[rdV]
theorem Zew:Calls Tryz.prog 257 #[.pointer (some ⟨b,0,none⟩)] w fun e w'=>e=.returned (.string ⟨(rdT s a sh).1.toArray⟩)/\rdAt w' b s (rdT s a sh).2.1 (rdT s a sh).2.2/\Mod [b] w w':=by
 refine Z1 (Z4 (ρ:=[.n b,.s s,.i a,.b sh]) sxE_ok Tryz.func257 Z66 rfl rfl (Z12i w b s a sh h) rfl rfl ?_) rfl;simp only[Tree.goal,X.P,X.ev,SV.ev,CV.ev,Sc.ev,qz,QA,QC,QL,QM];refine⟨[.s (getT s a).1,.i (getT s a).2.1,.i (getT s a).2.2],rfl,fun _ w' _=>Zux w' s a (by omega),?_⟩;simp only[qz,QA,QC];have key:((a:Int)+(getT s a).2.1=((rdT s a sh).2.1:Nat))/\(getT s a).1=(rdT s a sh).1/\(sh || !decide ((getT s a).2.2=0))=(rdT s a sh).2.2:=by
  by_cases h2:a+2<=s.length
  ·have e1:getR s a 2=(((beN ((s.drop a).take 2) 0:Nat):Int),0):=by
    have:=Zhv (s:=s) (at_:=a) (b:=2) (by omega) (by omega) (by omega);simpa using this
   rw[getT,e1,if_pos rfl,rdT];simp only;by_cases h3:a+2+beN ((s.drop a).take 2) 0<=s.length
   ·rw[if_neg (by omega),if_pos ⟨h2,h3⟩];refine⟨by simp only;omega,?_,by simp⟩;have e3:((a:Int)+2+((beN ((s.drop a).take 2) 0:Nat):Int)).toNat=a+2+beN ((s.drop a).take 2) 0:=by omega
    have e4:((a:Int)+2).toNat=a+2:=by omega
    simp only[e3,e4];rw[List.drop_take];congr 1
    omega
   ·rw[if_pos (by omega),if_neg (by omega)];exact⟨by simp,rfl,by simp⟩
  ·have e1:getR s a 2=(0,8):=Z7q (by omega) (by omega) (by omega);rw[getT,e1,if_neg (by simp),rdT,if_neg (by omega)];exact⟨by simp,rfl,by simp⟩
 obtain⟨k1,k2,k3⟩:=key;have kb:=Zc2 s a sh ha;rw[k1];refine⟨by omega,by omega,fun w' hr=>?_⟩;have hc:=hr.at_ 0 rfl;simp only[Ent.holds,X.ev,Sc.ev,qz,QA,QB,QC,QF]at hc;rw[k1,k3]at hc;exact⟨by rw[k2],hc,hr.mod⟩
end
end Go.Proofs.YtkhakgbnfapifaaGreatDoor
namespace Go.Proofs.YtkhakgbnfapifaaGreatDoor
open Go.Sx
abbrev nilV:Value:=.slice none 0 0
theorem Zpm (w:World) (ty:Nat) (ks:List Kd):owns w nilV ty ks []:=⟨by simp,World.ownsRow_nil _ _ _ _⟩
section
variable (w:World) (b c:Nat) (s:List UInt8) (a:Nat) (sh:Bool) (p:Pkt) (h:rdAt w b s a sh) (hp:pAt w c p nilV nilV) (hbc:b≠c) (ha:a<=s.length) (hs:s.length<1000000000)
include h hp hbc
theorem Z12j:Rel ⟨[b,c],w⟩ [.n b,.s s,.i a,.b sh,.n c,.i p.kind,.b p.dup,.b p.retain,.b p.clean,.b p.session,.i p.qos,.i p.id,.i p.keep,.i p.code,.s p.client,.s p.topic,.s p.payload] [.cells 0 219 [.str (.var 1),.int .i64 (.var 2),.bool (.var 3)],.cells 4 31 [.int .i64 (.var 5),.bool (.var 6),.bool (.var 7),.bool (.var 8),.bool (.var 9),.int .i64 (.var 10),.int .i64 (.var 11),.int .i64 (.var 12),.int .i64 (.var 13),.str (.var 14),.str (.var 15),.str (.var 16),.nils,.nils]] w:=by
  refine Zxh (qy2.2 ⟨h,qy2.2 ⟨hp,qy5 _⟩⟩) (qy2.2 ⟨fun _ k hk=>?_,qy2.2 ⟨fun _ k hk=>?_,qy5 _⟩⟩) (List.pairwise_cons.2 ⟨fun e he _ k h1 h2=>?_,List.pairwise_singleton _ _⟩)
  . simp only[Ent.fp,qz,QF]at hk;simp[hk]
  . simp only[Ent.fp,qz,QF]at hk;simp[hk]
  . rw[qy12]at he;subst he;simp only[Ent.fp,qz,QF]at h1 h2;exact hbc (h1.symm.trans h2)
include ha hs
theorem Zrt:Calls Tryz.prog 255 #[.pointer (some ⟨b,0,none⟩),.pointer (some ⟨c,0,none⟩)] w fun e w'=>e=.returned (.tuple #[])/\rdAt w' b s (Zff s p a sh).2.1 (Zff s p a sh).2.2/\pAt w' c (Zff s p a sh).1 nilV nilV/\Mod [b,c] w w':=by refine Z1 (Z4 (ρ:=[.n b,.s s,.i a,.b sh,.n c,.i p.kind,.b p.dup,.b p.retain,.b p.clean,.b p.session,.i p.qos,.i p.id,.i p.keep,.i p.code,.s p.client,.s p.topic,.s p.payload]) sxE_ok Tryz.func255 Z4o rfl rfl (Z12j w b c s a sh p h hp hbc) rfl rfl ?_) rfl;simp only[Tree.goal,X.ev,SV.ev,CV.ev,Sc.ev,qz,QA,QF,QL,QM];have t1:=Zc2 s a sh ha;intro w1 hr;refine(Zew w1 b s a sh (hr.at_ 0 rfl) ha hs).mono ?_;rintro e w2 ⟨rfl,h1,m1⟩;refine⟨[.s _,.s s,.i (_:Nat),.b _],rfl,rfl,m1,qy2.2 ⟨h1,qy5 _⟩,(fun x hx=>absurd hx List.not_mem_nil),Zd,?_⟩;(try simp only[qz,QL,QM]);have n1:=Z4l s 1 (rdT s a sh).2.1 (rdT s a sh).2.2 t1.2.1;clear m1 h1 hr;intro w1 hr;refine(Z2j w1 b s _ _ (hr.at_ 0 rfl) t1.2.1 hs 1 (by omega)).mono ?_;rintro e w2 ⟨rfl,h1,m1⟩;refine⟨[.i _,.s s,.i (_:Nat),.b _],rfl,rfl,m1,qy2.2 ⟨h1,qy5 _⟩,(fun x hx=>absurd hx List.not_mem_nil),Zd,?_⟩;(try simp only[X.ev,qz,QB,QL,QM]);have n2:=Z4l s 1 _ (rdN s 1 (rdT s a sh).2.1 (rdT s a sh).2.2).2.2 n1.2.2.2.1;clear m1 h1 hr;intro w1 hr;refine(Z2j w1 b s _ _ (hr.at_ 0 rfl) n1.2.2.2.1 hs 1 (by omega)).mono ?_;rintro e w2 ⟨rfl,h1,m1⟩;refine⟨[.i _,.s s,.i (_:Nat),.b _],rfl,rfl,m1,qy2.2 ⟨h1,qy5 _⟩,(fun x hx=>absurd hx List.not_mem_nil),Zd,?_⟩;(try simp only[X.ev,qz,QB,QL,QM]);have n3:=Z4l s 2 _ (rdN s 1 (rdN s 1 (rdT s a sh).2.1 (rdT s a sh).2.2).2.1 (rdN s 1 (rdT s a sh).2.1 (rdT s a sh).2.2).2.2).2.2 n2.2.2.2.1;clear m1 h1 hr;intro w1 hr;refine(Z2j w1 b s _ _ (hr.at_ 0 rfl) n2.2.2.2.1 hs 2 (by omega)).mono ?_;rintro e w2 ⟨rfl,h1,m1⟩;refine⟨[.i _,.s s,.i (_:Nat),.b _],rfl,rfl,m1,qy2.2 ⟨h1,qy5 _⟩,(fun x hx=>absurd hx List.not_mem_nil),Zd,?_⟩;(try simp only[X.ev,qz,QB,QL,QM]);clear m1 h1 hr;intro w1 hr;refine(Zew w1 b s _ _ (hr.at_ 0 rfl) n3.2.2.2.1 hs).mono ?_;rintro e w2 ⟨rfl,h1,m1⟩;refine⟨[.s _,.s s,.i (_:Nat),.b _],rfl,rfl,m1,qy2.2 ⟨h1,qy5 _⟩,(fun x hx=>absurd hx List.not_mem_nil),Zd,?_⟩;(try simp only[X.ev,qz,QB]);clear m1 h1 hr;exact fun w' hr=>⟨by trivial,hr.at_ 0 rfl,hr.at_ 1 rfl,hr.mod⟩
end
def Zpn (w w':World) (b c:Nat) (s:List UInt8) (r:RS):Prop:=rdAt w' b s r.2.1 r.2.2/\Mod [b,c] w w'/\∃x y,pAt w' c r.1 x y/\owns w' x 88 [.str,.int .i64] (r.1.asks.map encA)/\owns w' y 3 [.int .i64] (r.1.codes.map Zg) /\
  (∀k,Z2 x k->w.heap.size<=k)/\(∀k,Z2 y k->w.heap.size<=k)/\∀k,Z2 x k->Z2 y k->False
theorem Zex {w w':World} {b c:Nat} {s:List UInt8} {r:RS} {ρ:List V} {hp:List Ent} {x y:Value} (hr:Rel ⟨[b,c],w⟩ ρ hp w') (h0:rdAt w' b s r.2.1 r.2.2) (h1:pAt w' c r.1 x y) (o1:owns w' x 88 [.str,.int .i64] (r.1.asks.map encA)) (o2:owns w' y 3 [.int .i64] (r.1.codes.map Zg)) {vx tx vy ty vb tb vc tc:Nat} {kx ky:List Kd} {rx ry:X} {cb cc:List Sc} (e2:hp[2]?=some (.cells vb tb cb)) (e3:hp[3]?=some (.cells vc tc cc)) (e4:hp[4]?=some (.row vx tx kx rx)) (e5:hp[5]?=some (.row vy ty ky ry)) (q2:(ρ.getD vb (.i 0)).toN=b) (q3:(ρ.getD vc (.i 0)).toN=c) (q4:(ρ.getD vx (.i 0)).toV=x) (q5:(ρ.getD vy (.i 0)).toV=y):Zpn w w' b c s r:=by
  subst q2 q3 q4 q5;refine⟨h0,hr.mod,_,_,h1,o1,o2,fun k hk=>?_,fun k hk=>?_,fun k hk hk'=>Zn.disj hr.sep e4 e5 (by decide) (.inl rfl) hk hk'⟩
  . rcases hr.own _ (qy6 e4) rfl k hk with h|h
    . exact h
    . rcases List.mem_cons.1 h with h|h
      . exact(Zn.disj hr.sep e4 e2 (by decide) (.inl rfl) hk h).elim
      . rw[qy12]at h;exact(Zn.disj hr.sep e4 e3 (by decide) (.inl rfl) hk h).elim
  . rcases hr.own _ (qy6 e5) rfl k hk with h|h
    . exact h
    . rcases List.mem_cons.1 h with h|h
      . exact(Zn.disj hr.sep e5 e2 (by decide) (.inl rfl) hk h).elim
      . rw[qy12]at h;exact(Zn.disj hr.sep e5 e3 (by decide) (.inl rfl) hk h).elim
def Z189 (s:List UInt8) (q:RS):List V->Prop:=fun vs=>∃x y,vs=[.s s,.i q.2.1,.b q.2.2,.i q.1.kind,.b q.1.dup,.b q.1.retain,.b q.1.clean,.b q.1.session,.i q.1.qos,.i q.1.id,.i q.1.keep,.i q.1.code,.s q.1.client,.s q.1.topic,.s q.1.payload,.v x,.r (q.1.asks.map encA),.v y,.r (q.1.codes.map Zg)]
def Z18a (s:List UInt8) (q:RS):List V->Prop:=fun vs=>∃(l:List Ak) (a:Nat) (b:Bool) (x y:Value),vs=[.s s,.i a,.b b,.i q.1.kind,.b q.1.dup,.b q.1.retain,.b q.1.clean,.b q.1.session,.i q.1.qos,.i q.1.id,.i q.1.keep,.i q.1.code,.s q.1.client,.s q.1.topic,.s q.1.payload,.v x,.r (l.map encA),.v y,.r (q.1.codes.map Zg)]/\a<=s.length /\
  (b=false->l.length<=a)/\rdAs s q.1.kind (Zr s a b) a b l=rdAs s q.1.kind (Zr s q.2.1 q.2.2) q.2.1 q.2.2 q.1.asks
def Z18b (s:List UInt8) (q:RS):List V->Prop:=fun vs=>∃(l:List Int) (a:Nat) (b:Bool) (x y:Value),vs=[.s s,.i a,.b b,.i q.1.kind,.b q.1.dup,.b q.1.retain,.b q.1.clean,.b q.1.session,.i q.1.qos,.i q.1.id,.i q.1.keep,.i q.1.code,.s q.1.client,.s q.1.topic,.s q.1.payload,.v x,.r (q.1.asks.map encA),.v y,.r (l.map Zg)]/\a<=s.length /\
  (b=false->l.length<=a)/\rdCs s (Zr s a b) a b l=rdCs s (Zr s q.2.1 q.2.2) q.2.1 q.2.2 q.1.codes
def Z161 (s:List UInt8) (vs:List V):Nat:=Zr s (vs.getD 1 (.i 0)).toI.toNat (vs.getD 2 (.i 0)).toB
section
variable (w:World) (b c:Nat) (s:List UInt8) (a:Nat) (sh:Bool) (p:Pkt) (h:rdAt w b s a sh) (hp:pAt w c p nilV nilV) (hbc:b≠c) (ha:a<=s.length) (hs:s.length<1000000000) (pz:p.asks=[]/\p.codes=[]) (hB:BdP s p)
include h hp hbc ha hs pz hB
theorem Zxi:Calls Tryz.prog 196 #[.pointer (some ⟨b,0,none⟩),.pointer (some ⟨c,0,none⟩)] w fun e w'=>e=.returned (.tuple #[])/\Zpn w w' b c s (Ze0 s p a sh):=by
  refine Z1 (Z4 (ρ:=[.n b,.s s,.i a,.b sh,.n c,.i p.kind,.b p.dup,.b p.retain,.b p.clean,.b p.session,.i p.qos,.i p.id,.i p.keep,.i p.code,.s p.client,.s p.topic,.s p.payload]) (sxE_ok.joins _) Tryz.func196 Z61 rfl rfl (Z12j w b c s a sh p h hp hbc) rfl rfl ?_) rfl;simp only[Tree.goal,X.P,X.ev,SV.ev,CV.ev,Sc.ev,qz,QA,QD,QF,QG,QH,QJ,QK,QL,QM,Nat.reduceAdd];intro b1 b2;refine⟨Z189 s (headD s p a sh),⟨fun h1=>?_,fun h1=>⟨fun h2=>?_,fun h2=>⟨fun h3=>?_,fun h3=>?_⟩⟩⟩,?_⟩
  . intro w1 hr;refine(Zrt w1 b c s a sh p (hr.at_ 2 rfl) (hr.at_ 3 rfl) hbc ha hs).mono ?_;rintro e w2 ⟨rfl,g1,g2,m1⟩;have hq:headD s p a sh=Zff s p a sh:=by rw[headD,if_pos h1]
    rw[hq];have za:(Zff s p a sh).1.asks=[]:=pz.1;have zc:(Zff s p a sh).1.codes=[]:=pz.2;generalize Zff s p a sh=q at g1 g2 za zc ⊢
    refine⟨[.s s,.i q.2.1,.b q.2.2,.i q.1.kind,.b q.1.dup,.b q.1.retain,.b q.1.clean,.b q.1.session,.i q.1.qos,.i q.1.id,.i q.1.keep,.i q.1.code,.s q.1.client,.s q.1.topic,.s q.1.payload,.v nilV,.r [],.v nilV,.r []],rfl,rfl,m1,qy2.2 ⟨g1,qy2.2 ⟨g2,qy5 _⟩⟩,
      qy2.2 ⟨⟨Zpm _ _ _,fun z hz=>by cases hz⟩,qy2.2 ⟨⟨Zpm _ _ _,fun z hz=>by cases hz⟩,qy5 _⟩⟩,List.pairwise_cons.2 ⟨fun e he _ k hk _=>(by cases hk),List.pairwise_singleton _ _⟩,?_⟩
    simp only[qz];exact⟨nilV,nilV,by rw[za,zc];rfl⟩
  . have n1:=Z4l s 1 a sh ha;intro w1 hr;refine(Z2j w1 b s a sh (hr.at_ 2 rfl) ha hs 1 (by omega)).mono ?_;rintro e w2 ⟨rfl,h1,m1⟩;refine⟨[.i _,.s s,.i (_:Nat),.b _],rfl,rfl,m1,qy2.2 ⟨h1,qy5 _⟩,(fun x hx=>absurd hx List.not_mem_nil),Zd,?_⟩;(try simp only[qz,QA,QL,QM]);clear m1 h1 hr;intro w1 hr;refine(Z2j w1 b s _ _ (hr.at_ 2 rfl) n1.2.2.2.1 hs 1 (by omega)).mono ?_;rintro e w2 ⟨rfl,h1,m1⟩;refine⟨[.i _,.s s,.i (_:Nat),.b _],rfl,rfl,m1,qy2.2 ⟨h1,qy5 _⟩,(fun x hx=>absurd hx List.not_mem_nil),Zd,?_⟩;(try simp only[X.ev,qz,QB]);rw[headD,if_neg (show ¬p.kind=1 by assumption),if_pos h2];exact⟨nilV,nilV,by simp only[pz.1,pz.2];rfl⟩
  . intro w1 hr;refine(Zew w1 b s a sh (hr.at_ 2 rfl) ha hs).mono ?_;rintro e w2 ⟨rfl,h1,m1⟩;refine⟨[.s _,.s s,.i (_:Nat),.b _],rfl,rfl,m1,qy2.2 ⟨h1,qy5 _⟩,(fun x hx=>absurd hx List.not_mem_nil),Zd,?_⟩;(try simp only[qz]);rw[headD,if_neg (show ¬p.kind=1 by assumption),if_neg (show ¬p.kind=2 by assumption),if_pos h3];exact⟨nilV,nilV,by simp only[pz.1,pz.2];rfl⟩
  . rw[headD,if_neg (show ¬p.kind=1 by assumption),if_neg (show ¬p.kind=2 by assumption),if_neg (show ¬p.kind=3 by assumption)];exact⟨nilV,nilV,by simp only[pz.1,pz.2];rfl⟩
  obtain⟨d1,d2,d3,d4⟩:=Zpl (b:=sh) hB ha;rw[Ze0];rw[pz.1]at d3;rw[pz.2]at d4;generalize headD s p a sh=q at d1 d2 d3 d4 ⊢
  rintro _ - ⟨x1,y1,rfl⟩;simp only[qz,QA,QB,QC,QE,QL,QM];refine⟨[.b (idB q.1)],rfl,fun _ w' hr=>Zzz w' q.1 x1 y1 (owns.reads (hr.at_ 4 rfl)) (owns.reads (hr.at_ 5 rfl)),?_⟩;simp only[qz,QB,QL,QM];refine⟨Z189 s (idD s q),⟨fun h1=>?_,fun h1=>?_⟩,?_⟩
  . intro w1 hr;refine(Z2j w1 b s _ _ (hr.at_ 2 rfl) d2 hs 2 (by omega)).mono ?_;have h1':=h1;rintro e w2 ⟨rfl,h1,m1⟩;refine⟨[.i _,.s s,.i (_:Nat),.b _],rfl,rfl,m1,qy2.2 ⟨h1,qy5 _⟩,(fun x hx=>absurd hx List.not_mem_nil),Zd,?_⟩;(try simp only[X.ev,qz,QB]);rw[idD,if_pos h1'];exact⟨x1,y1,rfl⟩
  . rw[idD,if_neg h1];exact⟨x1,y1,rfl⟩
  obtain⟨f1,hqa,f3,f4⟩:=Z12h d1 d2;have hqz:(idD s q).1.asks=[]/\(idD s q).1.codes=[]:=⟨by rw[f3,d3],by rw[f4,d4]⟩
  generalize idD s q=q at f1 hqa hqz ⊢
  rintro _ - ⟨x2,y2,rfl⟩;simp only[qz,QA,QL,QM];refine⟨fun k3=>?_,fun k3=>⟨fun k8=>?_,fun k8=>⟨fun k10=>?_,fun k10=>⟨fun k9=>?_,fun k9 w' hr=>?_⟩⟩⟩⟩
  . intro w1 hr;refine(Z160 w1 b s _ _ (hr.at_ 2 rfl) hqa).mono ?_;rintro e w2 ⟨rfl,h1,m1⟩;refine⟨[.s _,.s s,.i (_:Nat),.b _],rfl,rfl,m1,qy2.2 ⟨h1,qy5 _⟩,(fun x hx=>absurd hx List.not_mem_nil),Zd,?_⟩;(try simp only[Tree.goal,X.P,X.ev,SV.ev,CV.ev,Sc.ev,qz,QA,QB,QC,QD,QE,QF,QG,QH,QI,QJ,QK,QL,QM,Nat.reduceAdd]);intro w' hr;rw[Z6w,if_pos k3];exact⟨by trivial,Zex hr (hr.at_ 2 rfl) (hr.at_ 3 rfl) (hr.at_ 4 rfl) (hr.at_ 5 rfl) rfl rfl rfl rfl rfl rfl rfl rfl⟩
  . refine⟨Z18a s q,Z161 s,⟨q.1.asks,q.2.1,q.2.2,x2,y2,rfl,hqa,fun _=>by rw[hqz.1];simp,rfl⟩,?_⟩;rintro _ - ⟨l,a',b',x3,y3,rfl,ha',hl',hg⟩;simp only[qz,QA,QB,QC,QD,QL,QM,qy3];refine⟨fun hc=>?_,fun hc w' hr=>?_⟩;(· have hc':a'<s.length/\b'=false:=⟨by have:=hc.1;omega,by simpa using hc.2⟩;have hll:=hl' hc'.2;have hA:=Zph s q.1.kind a' b' ha';have hT:=Zc2 s a' b' ha';have hst:=Zkw (k:=q.1.kind) (l:=l) hc';have hlt:=Zpi (k:=q.1.kind) hc'.1 hc'.2;intro w1 hr;refine(Zew w1 b s a' b' (hr.at_ 2 rfl) ha' hs).mono ?_;rintro e w2 ⟨rfl,h1,m1⟩;refine⟨[.s _,.s s,.i (_:Nat),.b _],rfl,rfl,m1,qy2.2 ⟨h1,qy5 _⟩,(fun x hx=>absurd hx List.not_mem_nil),Zd,?_⟩;(try simp only[qz,QC,QL,QM]);clear m1 h1 hr;intro ba;refine⟨fun hk=>?_,fun hk=>?_⟩;(· have e8:rdA s q.1.kind a' b'=(((rdT s a' b').1,(rdN s 1 (rdT s a' b').2.1 (rdT s a' b').2.2).1),(rdN s 1 (rdT s a' b').2.1 (rdT s a' b').2.2).2):=by { rw[rdA,if_pos hk] };intro w1 hr;refine(Z2j w1 b s _ _ (hr.at_ 3 rfl) hT.2.1 hs 1 (by omega)).mono ?_;rintro e w2 ⟨rfl,h1,m1⟩;refine⟨[.i _,.s s,.i (_:Nat),.b _],rfl,rfl,m1,qy2.2 ⟨h1,qy5 _⟩,(fun x hx=>absurd hx List.not_mem_nil),Zd,?_⟩;(try simp only[X.ev,qz,QA,QB,QL,QM]);clear m1 h1 hr;intro z1;refine⟨by (try simp only[qy3,List.length_nil,List.length_cons]);omega,fun z2=>⟨⟨l++[(rdA s q.1.kind a' b').1],(rdA s q.1.kind a' b').2.1,(rdA s q.1.kind a' b').2.2,z2,y3,by rw[e8];simp[encA],hA.2.1,fun h0=>?_,by rw[<- hst];exact hg⟩,by rw[e8]at hlt;exact hlt⟩⟩;have:=(hA.2.2.2.2.2.2 h0).2.2;simp only[qy11,List.length_cons,List.length_nil];omega);(· have e8:rdA s q.1.kind a' b'=(((rdT s a' b').1,0),(rdT s a' b').2):=by { rw[rdA,if_neg hk] };intro z1;refine⟨by (try simp only[qy3,List.length_nil,List.length_cons]);omega,fun z2=>⟨⟨l++[(rdA s q.1.kind a' b').1],(rdA s q.1.kind a' b').2.1,(rdA s q.1.kind a' b').2.2,z2,y3,by rw[e8];simp[encA],hA.2.1,fun h0=>?_,by rw[<- hst];exact hg⟩,by rw[e8]at hlt;exact hlt⟩⟩;have:=(hA.2.2.2.2.2.2 h0).2.2;simp only[qy11,List.length_cons,List.length_nil];omega));(· have hc':¬(a'<s.length/\b'=false):=fun hh=>hc ⟨by have:=hh.1;omega,by simp[hh.2]⟩;rw[Zio hc']at hg;have hrr:Z6w s q=({ q.1 with asks:=l },a',b'):=by { unfold Z6w;rw[if_neg k3,if_pos (by omega),<- hg] };rw[hrr];exact⟨by trivial,Zex hr (hr.at_ 2 rfl) (hr.at_ 3 rfl) (hr.at_ 4 rfl) (hr.at_ 5 rfl) rfl rfl rfl rfl rfl rfl rfl rfl⟩)
  . refine⟨Z18a s q,Z161 s,⟨q.1.asks,q.2.1,q.2.2,x2,y2,rfl,hqa,fun _=>by rw[hqz.1];simp,rfl⟩,?_⟩;rintro _ - ⟨l,a',b',x3,y3,rfl,ha',hl',hg⟩;simp only[qz,QA,QB,QC,QD,QL,QM,qy3];refine⟨fun hc=>?_,fun hc w' hr=>?_⟩;(· have hc':a'<s.length/\b'=false:=⟨by have:=hc.1;omega,by simpa using hc.2⟩;have hll:=hl' hc'.2;have hA:=Zph s q.1.kind a' b' ha';have hT:=Zc2 s a' b' ha';have hst:=Zkw (k:=q.1.kind) (l:=l) hc';have hlt:=Zpi (k:=q.1.kind) hc'.1 hc'.2;intro w1 hr;refine(Zew w1 b s a' b' (hr.at_ 2 rfl) ha' hs).mono ?_;rintro e w2 ⟨rfl,h1,m1⟩;refine⟨[.s _,.s s,.i (_:Nat),.b _],rfl,rfl,m1,qy2.2 ⟨h1,qy5 _⟩,(fun x hx=>absurd hx List.not_mem_nil),Zd,?_⟩;(try simp only[qz,QC,QL,QM]);clear m1 h1 hr;intro ba;refine⟨fun hk=>?_,fun hk=>?_⟩;(· have e8:rdA s q.1.kind a' b'=(((rdT s a' b').1,(rdN s 1 (rdT s a' b').2.1 (rdT s a' b').2.2).1),(rdN s 1 (rdT s a' b').2.1 (rdT s a' b').2.2).2):=by { rw[rdA,if_pos hk] };intro w1 hr;refine(Z2j w1 b s _ _ (hr.at_ 3 rfl) hT.2.1 hs 1 (by omega)).mono ?_;rintro e w2 ⟨rfl,h1,m1⟩;refine⟨[.i _,.s s,.i (_:Nat),.b _],rfl,rfl,m1,qy2.2 ⟨h1,qy5 _⟩,(fun x hx=>absurd hx List.not_mem_nil),Zd,?_⟩;(try simp only[X.ev,qz,QA,QB,QL,QM]);clear m1 h1 hr;intro z1;refine⟨by (try simp only[qy3,List.length_nil,List.length_cons]);omega,fun z2=>⟨⟨l++[(rdA s q.1.kind a' b').1],(rdA s q.1.kind a' b').2.1,(rdA s q.1.kind a' b').2.2,z2,y3,by rw[e8];simp[encA],hA.2.1,fun h0=>?_,by rw[<- hst];exact hg⟩,by rw[e8]at hlt;exact hlt⟩⟩;have:=(hA.2.2.2.2.2.2 h0).2.2;simp only[qy11,List.length_cons,List.length_nil];omega);(· have e8:rdA s q.1.kind a' b'=(((rdT s a' b').1,0),(rdT s a' b').2):=by { rw[rdA,if_neg hk] };intro z1;refine⟨by (try simp only[qy3,List.length_nil,List.length_cons]);omega,fun z2=>⟨⟨l++[(rdA s q.1.kind a' b').1],(rdA s q.1.kind a' b').2.1,(rdA s q.1.kind a' b').2.2,z2,y3,by rw[e8];simp[encA],hA.2.1,fun h0=>?_,by rw[<- hst];exact hg⟩,by rw[e8]at hlt;exact hlt⟩⟩;have:=(hA.2.2.2.2.2.2 h0).2.2;simp only[qy11,List.length_cons,List.length_nil];omega));(· have hc':¬(a'<s.length/\b'=false):=fun hh=>hc ⟨by have:=hh.1;omega,by simp[hh.2]⟩;rw[Zio hc']at hg;have hrr:Z6w s q=({ q.1 with asks:=l },a',b'):=by { unfold Z6w;rw[if_neg k3,if_pos (by omega),<- hg] };rw[hrr];exact⟨by trivial,Zex hr (hr.at_ 2 rfl) (hr.at_ 3 rfl) (hr.at_ 4 rfl) (hr.at_ 5 rfl) rfl rfl rfl rfl rfl rfl rfl rfl⟩)
  . refine⟨Z18b s q,Z161 s,⟨q.1.codes,q.2.1,q.2.2,x2,y2,rfl,hqa,fun _=>by rw[hqz.2];simp,rfl⟩,?_⟩;rintro _ - ⟨l,a',b',x3,y3,rfl,ha',hl',hg⟩;simp only[qz,QA,QB,QC,QD,QL,QM,qy3];refine⟨fun hc=>⟨?_,?_⟩,fun hc w' hr=>?_⟩;(· have hc':a'<s.length/\b'=false:=⟨by have:=hc.1;omega,by simpa using hc.2⟩;have hll:=hl' hc'.2;have hA:=Z4l s 1 a' b' ha';have hst:=Zkx (l:=l) hc';have hlt:=Zpj hc'.1 hc'.2;intro w1 hr;refine(Z2j w1 b s a' b' (hr.at_ 2 rfl) ha' hs 1 (by omega)).mono ?_;rintro e w2 ⟨rfl,h1,m1⟩;refine⟨[.i _,.s s,.i (_:Nat),.b _],rfl,rfl,m1,qy2.2 ⟨h1,qy5 _⟩,(fun x hx=>absurd hx List.not_mem_nil),Zd,?_⟩;(try simp only[qz,QA,QL,QM]);clear m1 h1 hr;intro z1;refine⟨by (try simp only[qy3,List.length_nil,List.length_cons]);omega,fun z2=>⟨⟨l++[(rdN s 1 a' b').1],(rdN s 1 a' b').2.1,(rdN s 1 a' b').2.2,x3,z2,by simp[Zg],hA.2.2.2.1,fun h0=>?_,by rw[<- hst];exact hg⟩,hlt⟩⟩;have:=(hA.2.2.2.2.2 h0).2;simp only[qy11,List.length_cons,List.length_nil];omega);(· have hc':a'<s.length/\b'=false:=⟨by have:=hc.1;omega,by simpa using hc.2⟩;have hll:=hl' hc'.2;have hA:=Z4l s 1 a' b' ha';have hst:=Zkx (l:=l) hc';have hlt:=Zpj hc'.1 hc'.2;intro w1 hr;refine(Z2j w1 b s a' b' (hr.at_ 2 rfl) ha' hs 1 (by omega)).mono ?_;rintro e w2 ⟨rfl,h1,m1⟩;refine⟨[.i _,.s s,.i (_:Nat),.b _],rfl,rfl,m1,qy2.2 ⟨h1,qy5 _⟩,(fun x hx=>absurd hx List.not_mem_nil),Zd,?_⟩;(try simp only[qz,QA,QL,QM]);clear m1 h1 hr;refine⟨?_,?_⟩;(· intro z1;refine⟨by (try simp only[qy3,List.length_nil,List.length_cons]);omega,fun z2=>⟨⟨l++[(rdN s 1 a' b').1],(rdN s 1 a' b').2.1,(rdN s 1 a' b').2.2,x3,z2,by simp[Zg],hA.2.2.2.1,fun h0=>?_,by rw[<- hst];exact hg⟩,hlt⟩⟩;have:=(hA.2.2.2.2.2 h0).2;simp only[qy11,List.length_cons,List.length_nil];omega);(· intro z1;refine⟨by (try simp only[qy3,List.length_nil,List.length_cons]);omega,fun z2=>⟨⟨l++[(rdN s 1 a' b').1],(rdN s 1 a' b').2.1,(rdN s 1 a' b').2.2,x3,z2,by simp[Zg],hA.2.2.2.1,fun h0=>?_,by rw[<- hst];exact hg⟩,hlt⟩⟩;have:=(hA.2.2.2.2.2 h0).2;simp only[qy11,List.length_cons,List.length_nil];omega));(· have hc':¬(a'<s.length/\b'=false):=fun hh=>hc ⟨by have:=hh.1;omega,by simp[hh.2]⟩;rw[Zpk hc']at hg;have hrr:Z6w s q=({ q.1 with codes:=l },a',b'):=by { unfold Z6w;rw[if_neg k3,if_neg (by omega),if_pos k9,<- hg] };rw[hrr];exact⟨by trivial,Zex hr (hr.at_ 2 rfl) (hr.at_ 3 rfl) (hr.at_ 4 rfl) (hr.at_ 5 rfl) rfl rfl rfl rfl rfl rfl rfl rfl⟩)
  . rw[Z6w,if_neg k3,if_neg (by omega),if_neg k9];exact⟨by trivial,Zex hr (hr.at_ 2 rfl) (hr.at_ 3 rfl) (hr.at_ 4 rfl) (hr.at_ 5 rfl) rfl rfl rfl rfl rfl rfl rfl rfl⟩
end
end Go.Proofs.YtkhakgbnfapifaaGreatDoor
namespace Go.Proofs.YtkhakgbnfapifaaGreatDoor
open Go.Sx
theorem Z11g (c k:Nat) (hk:k<64):((c:Nat):Int).fdiv (2 ^ (Nat.min k IntKind.i64.bits))=((c / 2 ^ k:Nat):Int):=by rw[Zlz _ k hk,Int.natCast_ediv]
theorem Z18c (c:Nat) (h:c<256):(!decide (Z14 .and .i64 (c:Int) 8=0))=decide (c / 8 % 2=1):=by
 have:∀x:Fin 256,(!decide (Z14 .and .i64 ((x.val:Nat):Int) 8=0))=decide (x.val / 8 % 2=1):=by decide +kernel
 exact this ⟨c,h⟩
theorem Z18d (c:Nat) (h:c<256):(!decide (Z14 .and .i64 (c:Int) 1=0))=decide (c % 2=1):=by
 have:∀x:Fin 256,(!decide (Z14 .and .i64 ((x.val:Nat):Int) 1=0))=decide (x.val % 2=1):=by decide +kernel
 exact this ⟨c,h⟩
theorem Z18e (c:Nat) (h:c<256):Z14 .and .i64 ((c / 2 ^ 1:Nat):Int) 3=((c / 2 % 4:Nat):Int):=by
 have:∀x:Fin 256,Z14 .and .i64 ((x.val / 2 ^ 1:Nat):Int) 3=((x.val / 2 % 4:Nat):Int):=by decide +kernel
 exact this ⟨c,h⟩
def Zxj (w w':World) (p:Pkt) (x y:Value):Prop:=Mod [] w w'/\Z36 w' x p.asks/\Z2h w' y p.codes/\(∀k,Z2 x k->w.heap.size<=k)/\(∀k,Z2 y k->w.heap.size<=k)
theorem Z4m {w w':World} (h:Mod [] w w') (k:Int):Zxj w w' (pD_Q k) nilV nilV:=⟨h,Z29 _,Z2t _,fun k hk=>(by cases hk),fun k hk=>(by cases hk)⟩
theorem Zxk (w:World) (s:List UInt8) (hs:s.length<=60000000):Calls Tryz.prog 114 #[.string ⟨s.toArray⟩] w fun e w'=>∃x y,e=.returned (.tuple #[pV (decD s).1 x y,.int .i64 (decD s).2])/\Zxj w w' (decD s).1 x y:=by
 refine Z1 (Z7 (ρ:=[.s s]) sxE_ok Tryz.func114 Z9r rfl rfl rfl ?_) rfl;simp only[Tree.goal,X.P,X.ev,SV.ev,CV.ev,Sc.ev,qz,QA,QB,QC,QL,QM];intro b1;refine⟨[.i (getL s 1).1,.i (getL s 1).2.1,.i (getL s 1).2.2],rfl,fun _ w' _=>Zuv w' s 1 (by omega),?_⟩;simp only[qz,QA,QF,QL,QM];have hgb:=Z14a s 1;refine⟨fun h w' hr=>?_,fun h=>?_⟩
 ·refine⟨nilV,nilV,?_⟩;rw[decD,if_pos h];exact⟨rfl,Z4m hr.mod 0⟩
 have hL:=h;have hl0:(getL s 1).2.2=0:=qy9.1 fun hh=>h (.inr hh);have hbd:=(Z11f hl0).1;have hat:=Zxg (a:=1) hl0;have hln:(1+(getL s 1).2.1).toNat<=s.length:=hat.2.1;have hz:Int.toNat 0=0:=rfl;have h4:(Int.toNat 4)=4:=rfl;have h1:(Int.toNat 1)=1:=rfl;simp only[hz,h4];have hc:=Zqs (s.getD 0 0);generalize hcc:(s.getD 0 0).toNat=c at hc ⊢
 have hrd:Ze0 s (begP c) (1+(getL s 1).2.1).toNat false=Z82 s:=by rw[Z82,hcc]
 have hbg:=Zxf s c hc;have hbz:(begP c).asks=[]/\(begP c).codes=[]:=by unfold begP;split<;>exact⟨rfl,rfl⟩
 have hat1:(1+(getL s 1).2.1)=((1+(getL s 1).2.1).toNat:Nat):=by omega
 refine⟨by have:=hat.1;omega,fun b5=>?_⟩;rw[Z11g c 4 (by omega)];have e16:c / 2 ^ 4=c / 16:=rfl;rw[e16];refine⟨fun h3=>⟨by omega,by omega,fun b6=>?_⟩,fun h3=>⟨by omega,by omega,fun b6=>?_⟩⟩
 ·have eb:begP c={ pD_Q 3 with dup:=decide (c / 8 % 2=1),qos:=((c / 2 % 4:Nat):Int),retain:=decide (c % 2=1) }:=by rw[begP,if_pos (by omega)];rfl
  intro w1 hr;have q1:rdAt w1 b6 s (1+(getL s 1).2.1).toNat false:=by have:=hr.at_ 0 rfl;simp only[Ent.holds,X.ev,Sc.ev,qz,QA,QB,QC,QF]at this;rw[hat1]at this;exact this
  have q2:pAt w1 b5 (begP c) nilV nilV:=by have:=hr.at_ 1 rfl;simp only[Ent.holds,X.ev,Sc.ev,qz,QA,QB,QC,QF,hz,h4,h1]at this;rw[hcc,Z11g c 4 (by omega),Z11g c 1 (by omega),Z18c c hc,Z18d c hc,Z18e c hc,e16,h3]at this;rw[eb];exact this
  refine(Zxi w1 b6 b5 s _ false (begP c) q1 q2 (fun e=>Zn.disj hr.sep (i:=0) (j:=1) rfl rfl (by decide) (.inl rfl) (k:=b6) (by simp only[Ent.fp,qz,QF]) (by simp only[Ent.fp,qz,QF];exact e)) hln (by omega) hbz hbg).mono ?_;rintro e w2 ⟨rfl,g1,m1,x,y,g2,o1,o2,fx,fy,fxy⟩;rw[hrd]at g1 g2 o1 o2;(generalize hr0:Z82 s=r at g1 g2 o1 o2 hbd ⊢);refine⟨[.s s,.i r.2.1,.b r.2.2,.i r.1.kind,.b r.1.dup,.b r.1.retain,.b r.1.clean,.b r.1.session,.i r.1.qos,.i r.1.id,.i r.1.keep,.i r.1.code,.s r.1.client,.s r.1.topic,.s r.1.payload,.v x,.r (r.1.asks.map encA),.v y,.r (r.1.codes.map Zg)],rfl,rfl,m1,qy2.2 ⟨g1,qy2.2 ⟨g2,qy5 _⟩⟩,qy2.2 ⟨⟨o1,fun k hk=>.inl (fx k hk)⟩,qy2.2 ⟨⟨o2,fun k hk=>.inl (fy k hk)⟩,qy5 _⟩⟩,List.pairwise_cons.2 ⟨fun e he _ k hk hk'=>by { rw[qy12]at he;subst he;exact fxy k hk hk' },List.pairwise_singleton _ _⟩,?_⟩;simp only[qz,QA,QB,QC,QE,QL,QM];refine⟨[.b (Z58 r.1.kind)],rfl,fun _ w' _=>Zm3 w' _,?_⟩;simp only[qz,QB,QL,QM];refine⟨[.s (Z1b r.1)],rfl,fun _ w' hr=>Zim w' r.1 x y (owns.reads (hr.at_ 0 rfl)) (owns.reads (hr.at_ 1 rfl)) (hbd.byte hs),?_⟩;simp only[qz,QC,QL,QM];refine⟨fun h w' hr=>?_,fun h=>?_⟩;(· have hn:r.2.2=true\/Z58 r.1.kind=false\/1<r.1.qos\/Z1b r.1≠s:=h.elim (fun h=>h.elim (fun h=>h.elim .inl (fun h=>.inr (.inl (by simpa using h)))) (fun h=>.inr (.inr (.inl h)))) (fun h=>.inr (.inr (.inr h)));refine⟨nilV,nilV,?_⟩;rw[decD,if_neg hL,hr0,if_pos hn];exact⟨rfl,Z4m hr.mod 0⟩);have hn:¬(r.2.2=true\/Z58 r.1.kind=false\/1<r.1.qos\/Z1b r.1≠s):=(fun hh=>hh.elim (fun a=>h (.inl (.inl (.inl a)))) (fun hh=>hh.elim (fun a=>h (.inl (.inl (.inr (by simp[a]))))) (fun hh=>hh.elim (fun a=>h (.inl (.inr a))) (fun a=>h (.inr a)))));refine⟨[.i (chkP r.1)],rfl,fun _ w' hr=>Z7r w' r.1 x y (owns.reads (hr.at_ 0 rfl)) (owns.reads (hr.at_ 1 rfl)) (hbd.small hs),?_⟩;simp only[qz,QA];refine⟨fun h2 w' hr=>?_,fun h2 w' hr=>?_⟩;(· refine⟨nilV,nilV,?_⟩;rw[decD,if_neg hL,hr0,if_neg hn,if_neg h2];exact⟨rfl,Z4m hr.mod 0⟩);(· refine⟨x,y,?_⟩;rw[decD,if_neg hL,hr0,if_neg hn,if_pos (qy9.1 h2)];exact⟨rfl,hr.mod,owns.reads (hr.at_ 0 rfl),owns.reads (hr.at_ 1 rfl),fun k hk=>(hr.own _ (qy6 (i:=0) rfl) rfl k hk).resolve_right (by simp),fun k hk=>(hr.own _ (qy6 (i:=1) rfl) rfl k hk).resolve_right (by simp)⟩)
 ·have eb:begP c=pD_Q ((c / 16:Nat):Int):=by rw[begP,if_neg (by omega)]
  intro w1 hr;have q1:rdAt w1 b6 s (1+(getL s 1).2.1).toNat false:=by have:=hr.at_ 0 rfl;simp only[Ent.holds,X.ev,Sc.ev,qz,QA,QB,QC,QF]at this;rw[hat1]at this;exact this
  have q2:pAt w1 b5 (begP c) nilV nilV:=by have:=hr.at_ 1 rfl;simp only[Ent.holds,X.ev,Sc.ev,qz,QA,QB,QC,QF,hz,h4]at this;rw[hcc,Z11g c 4 (by omega),e16]at this;rw[eb];exact this
  refine(Zxi w1 b6 b5 s _ false (begP c) q1 q2 (fun e=>Zn.disj hr.sep (i:=0) (j:=1) rfl rfl (by decide) (.inl rfl) (k:=b6) (by simp only[Ent.fp,qz,QF]) (by simp only[Ent.fp,qz,QF];exact e)) hln (by omega) hbz hbg).mono ?_;rintro e w2 ⟨rfl,g1,m1,x,y,g2,o1,o2,fx,fy,fxy⟩;rw[hrd]at g1 g2 o1 o2;(generalize hr0:Z82 s=r at g1 g2 o1 o2 hbd ⊢);refine⟨[.s s,.i r.2.1,.b r.2.2,.i r.1.kind,.b r.1.dup,.b r.1.retain,.b r.1.clean,.b r.1.session,.i r.1.qos,.i r.1.id,.i r.1.keep,.i r.1.code,.s r.1.client,.s r.1.topic,.s r.1.payload,.v x,.r (r.1.asks.map encA),.v y,.r (r.1.codes.map Zg)],rfl,rfl,m1,qy2.2 ⟨g1,qy2.2 ⟨g2,qy5 _⟩⟩,qy2.2 ⟨⟨o1,fun k hk=>.inl (fx k hk)⟩,qy2.2 ⟨⟨o2,fun k hk=>.inl (fy k hk)⟩,qy5 _⟩⟩,List.pairwise_cons.2 ⟨fun e he _ k hk hk'=>by { rw[qy12]at he;subst he;exact fxy k hk hk' },List.pairwise_singleton _ _⟩,?_⟩;simp only[qz,QA,QB,QC,QE,QL,QM];refine⟨[.b (Z58 r.1.kind)],rfl,fun _ w' _=>Zm3 w' _,?_⟩;simp only[qz,QB,QL,QM];refine⟨[.s (Z1b r.1)],rfl,fun _ w' hr=>Zim w' r.1 x y (owns.reads (hr.at_ 0 rfl)) (owns.reads (hr.at_ 1 rfl)) (hbd.byte hs),?_⟩;simp only[qz,QC,QL,QM];refine⟨fun h w' hr=>?_,fun h=>?_⟩;(· have hn:r.2.2=true\/Z58 r.1.kind=false\/1<r.1.qos\/Z1b r.1≠s:=h.elim (fun h=>h.elim (fun h=>h.elim .inl (fun h=>.inr (.inl (by simpa using h)))) (fun h=>.inr (.inr (.inl h)))) (fun h=>.inr (.inr (.inr h)));refine⟨nilV,nilV,?_⟩;rw[decD,if_neg hL,hr0,if_pos hn];exact⟨rfl,Z4m hr.mod 0⟩);have hn:¬(r.2.2=true\/Z58 r.1.kind=false\/1<r.1.qos\/Z1b r.1≠s):=(fun hh=>hh.elim (fun a=>h (.inl (.inl (.inl a)))) (fun hh=>hh.elim (fun a=>h (.inl (.inl (.inr (by simp[a]))))) (fun hh=>hh.elim (fun a=>h (.inl (.inr a))) (fun a=>h (.inr a)))));refine⟨[.i (chkP r.1)],rfl,fun _ w' hr=>Z7r w' r.1 x y (owns.reads (hr.at_ 0 rfl)) (owns.reads (hr.at_ 1 rfl)) (hbd.small hs),?_⟩;simp only[qz,QA];refine⟨fun h2 w' hr=>?_,fun h2 w' hr=>?_⟩;(· refine⟨nilV,nilV,?_⟩;rw[decD,if_neg hL,hr0,if_neg hn,if_neg h2];exact⟨rfl,Z4m hr.mod 0⟩);(· refine⟨x,y,?_⟩;rw[decD,if_neg hL,hr0,if_neg hn,if_pos (qy9.1 h2)];exact⟨rfl,hr.mod,owns.reads (hr.at_ 0 rfl),owns.reads (hr.at_ 1 rfl),fun k hk=>(hr.own _ (qy6 (i:=0) rfl) rfl k hk).resolve_right (by simp),fun k hk=>(hr.own _ (qy6 (i:=1) rfl) rfl k hk).resolve_right (by simp)⟩)
def pubP:Pkt:=⟨3,false,false,false,false,1,10,0,0,[],[97,47,98],[104,105],[],[]⟩
theorem Zmt:chkP pubP=0:=by decide +kernel
theorem Zgy:Z1b pubP=[50,9,0,3,97,47,98,0,10,104,105]:=by decide +kernel
theorem Z7v:SmallP pubP:=⟨by decide,by decide,by decide,by decide,by decide,by decide⟩
theorem Z11h:decD [50,9,0,3,97,47,98,0,10,104,105]=(pubP,0):=by rw[<- Zgy];exact Zv4 Zmt
theorem Z11i (w:World):Calls Tryz.prog 63 #[] w fun e w'=>e=.returned (pV pubP nilV nilV)/\Mod [] w w':=by refine Z1 (Z7 (ρ:=[]) sxE_ok Tryz.func63 Z80 rfl rfl rfl ?_) rfl;simp only[Tree.goal,X.ev,SV.ev,CV.ev,Sc.ev,qz,QA,QB,QC,QM];exact fun b w' hr=>⟨rfl,hr.mod⟩
theorem Zip (w:World):Calls Tryz.prog 30 #[] w fun e w'=>e=.returned (.bool true)/\Mod [] w w':=by
 refine Z1 (Z7 (ρ:=[]) sxE_ok Tryz.func30 Z3u rfl rfl rfl ?_) rfl;simp only[Tree.goal,X.P,X.ev,SV.ev,CV.ev,Sc.ev,qz,QA,QB,QC,QM];intro w1 hr;refine(Z11i w1).mono ?_;rintro e w2 ⟨rfl,m⟩;refine⟨[.i 3,.b false,.b false,.b false,.b false,.i 1,.i 10,.i 0,.i 0,.s [],.s [97,47,98],.s [104,105],.v nilV,.r [],.v nilV,.r []],rfl,rfl,m,qy5 _,qy2.2 ⟨⟨Z29 _,fun k hk=>absurd rfl hk.1⟩,qy2.2 ⟨⟨Z2t _,fun k hk=>absurd rfl hk.1⟩,qy5 _⟩⟩,Z5r (by simp[Ent.wr]),?_⟩;simp only[qz,QA,QB,QC,QE,QL,QM];clear m hr;refine⟨[.s (if chkP pubP=0 then Z1b pubP else []),.i (chkP pubP)],rfl,fun _ w' hr=>Zxb w' pubP nilV nilV (Z29 _) (Z2t _) Z7v,?_⟩;simp only[qz,QA,QC,QL,QM,Zmt,if_true,Zgy];intro w1 hr;refine(Zxk w1 [50,9,0,3,97,47,98,0,10,104,105] (by decide)).mono ?_;rintro e w2 ⟨x,y,rfl,m,rx,ry,fx,fy⟩;rw[Z11h]at rx ry ⊢;refine⟨[.i 3,.b false,.b false,.b false,.b false,.i 1,.i 10,.i 0,.i 0,.s [],.s [97,47,98],.s [104,105],.v x,.r [],.v y,.r [],.i 0],rfl,rfl,m,qy5 _,qy2.2 ⟨⟨rx,fun k hk=>.inl (fx k hk.2)⟩,qy2.2 ⟨⟨ry,fun k hk=>.inl (fy k hk.2)⟩,qy5 _⟩⟩,Z5r (by simp[Ent.wr]),?_⟩;simp only[qz,QA,QB,QC,QE,QL,QM];clear m hr;intro bq;refine⟨fun _=>?_,fun h=>absurd ⟨trivial,trivial⟩ h⟩;intro w1 hr;refine(Z11i w1).mono ?_;rintro e w2 ⟨rfl,m⟩;refine⟨[.i 3,.b false,.b false,.b false,.b false,.i 1,.i 10,.i 0,.i 0,.s [],.s [97,47,98],.s [104,105],.v nilV,.r [],.v nilV,.r []],rfl,rfl,m,qy5 _,qy2.2 ⟨⟨Z29 _,fun k hk=>absurd rfl hk.1⟩,qy2.2 ⟨⟨Z2t _,fun k hk=>absurd rfl hk.1⟩,qy5 _⟩⟩,Z5r (by simp[Ent.wr]),?_⟩;simp only[qz,QA,QB,QC,QE,QL,QM];clear m hr;refine⟨[.i (chkP pubP)],rfl,fun _ w' hr=>Z7r w' pubP nilV nilV (Z29 _) (Z2t _) Z7v,?_⟩;simp only[qz,QA,QL,QM,Zmt];refine⟨⟨fun _=>?_,fun h=>absurd ⟨trivial,trivial⟩ h⟩,⟨fun _=>?_,fun h=>absurd ⟨trivial,trivial⟩ h⟩⟩;all_goals
  intro w1 hr;refine(Z11i w1).mono ?_;rintro e w2 ⟨rfl,m⟩;refine⟨[.i 3,.b false,.b false,.b false,.b false,.i 1,.i 10,.i 0,.i 0,.s [],.s [97,47,98],.s [104,105],.v nilV,.r [],.v nilV,.r []],rfl,rfl,m,qy5 _,qy2.2 ⟨⟨Z29 _,fun k hk=>absurd rfl hk.1⟩,qy2.2 ⟨⟨Z2t _,fun k hk=>absurd rfl hk.1⟩,qy5 _⟩⟩,Z5r (by simp[Ent.wr]),?_⟩;simp only[qz,QA,QB,QC,QE,QL,QM];clear m hr;refine⟨[.b (decide (pubP=pubP))],rfl,fun _ w' hr=>Z8d w' pubP pubP x y nilV nilV (by first|exact hr.at_ 5 rfl|exact hr.at_ 4 rfl) (by first|exact hr.at_ 6 rfl|exact hr.at_ 5 rfl) (Z29 _) (Z2t _) Z7v,?_⟩;simp only[qz,QB];exact fun w' hr=>⟨by simp,hr.mod⟩
section
variable (w:World) (p q:Pkt) (u v x y:Value)
end
end Go.Proofs.YtkhakgbnfapifaaGreatDoor
namespace Go.Proofs.YtkhakgbnfapifaaGreatDoor
open Go.Sx
def sA:Ses:=⟨[97,110,110],true,false,[],[],65535⟩
theorem Z18f (w:World):Calls Tryz.prog 150 #[] w fun e w'=>e=.returned (sesV sA (.slice none 0 0) (.slice none 0 0))/\Mod [] w w':=by refine Z1 (Z7 (ρ:=[]) sxE_ok Tryz.func150 Z74 rfl rfl rfl ?_) rfl;simp only[Tree.goal,X.ev,SV.ev,CV.ev,Sc.ev,qz,QA,QB,QC,QM];exact fun b w' hr=>⟨rfl,hr.mod⟩
end Go.Proofs.YtkhakgbnfapifaaGreatDoor
namespace Go.Proofs.YtkhakgbnfapifaaGreatDoor
open Go Go.Sx
structure SmlT (t:Tel):Prop where
 kept:Zg5 t.kept
 keptL:t.kept.length<1000000000
 wants:Z2z t.wants
 wantsL:t.wants.length<1000000000
 sess:∀s∈t.sess,Zer s
 sessL:t.sess.length<1000000
 wat:Z7o t.wat
 watL:t.wat.length<1000000000
theorem SmlT.b {x:TelX} (h:SmlT x.tel):SmlB x :=
 ⟨h.kept,h.keptL,h.wants,h.wantsL,fun t ht=>h.sess _ (List.mem_map_of_mem ht),by have:=h.sessL;rw[show x.tel.sess.length=x.sx.length by simp[TelX.tel]]at this;exact this,h.wat,h.watL⟩
theorem SmlT.f {x:TelX} (h:SmlT x.tel):∀t∈x.sx,t.1.fl.length<1000000000/\t.1.qu.length<1000000000:=fun t ht=>by have:=h.sess _ (List.mem_map_of_mem ht);exact⟨this.2.2.1,this.2.2.2.1⟩
theorem SmlT.nil:SmlT telN:=⟨fun x hx=>(List.not_mem_nil hx).elim,by decide,fun x hx=>(List.not_mem_nil hx).elim,by decide,fun x hx=>(List.not_mem_nil hx).elim,by decide,fun x hx=>(List.not_mem_nil hx).elim,by decide⟩
theorem Zey {f:Fl} (h:flE f=0):f.2.1.length<4294967281:=by
 unfold flE at h;split at h
 ·rename_i h1;have:=(Z8u.1 h1).2.1.1;omega
 ·exact absurd h (by assumption)
theorem Zxl {s:Ses} (h:SesOk s):Zer s:=by have h1:=h.nf;have h2:=h.nq;have h3:=h.cl;unfold Zm at h3;rw[Bool.and_eq_true,decide_eq_true_eq]at h3;exact⟨fun x hx=>Zey (h.fl.each x hx).1,fun x hx=>Zey (h.qu x hx).1,by omega,by omega,by omega⟩
theorem Zxm {l:List Wat} (h:Z1e l=0):Z7o l:=fun x hx=>by
 have h1:=((Z11.1 h).2.1 x hx).1;unfold Z6m at h1
 (repeat' split at h1)<;>first|(have:=(Z8u.1 h1).2.1.1;omega)|simp at h1
theorem SmlT.of {t:Tel} (h:BOk t):SmlT t:=by obtain⟨k1,k2,-⟩:=Z1c.1 h.kept;have h3:=(Z16.1 h.wants).1;have h4:=(Z11.1 h.wat).1;have h5:=h.ns;exact⟨fun x hx=>by have:=(Z8u.1 (k2 x hx).1).2.1.1;omega,by omega,Zbn h.wants,by omega,fun s hs=>Zxl (h.ses s hs),by omega,Zxm h.wat,by omega⟩
theorem SmlT.res {e:Int} {t:Tel} (h:e=0->BOk t):SmlT (resB e t):=by
 unfold resB;split
 ·exact .of (h (by assumption))
 ·exact .nil
abbrev TelX.bare (y:TelX):TelX:={ y with ox:=[],ov:=.slice none 0 0 }
theorem Z95 {w:World} {y:TelX} (h:(Z6 y.sx y.ox).holds w):(Z6 y.sx []).holds w:=Z1g (fun t ht=>.inl ht) (fun t ht=>(List.not_mem_nil ht).elim) h
theorem Zap (y:TelX):y.bare.tel={ y.tel with out:=[] }:=rfl
theorem Z11j (t:Tel):chkB { t with out:=[] }=chkB t:=rfl
theorem Zaq {ρ:List V} {es:List Ent} (h:∀e∈es,e.wr=false):Zn ρ es:=by
 induction es with
 | nil=>exact List.Pairwise.nil
 | cons a es ih =>
  refine List.pairwise_cons.2 ⟨fun b hb hw=>?_,ih fun e he=>h e (qy10 _ he)⟩;rw[h a (qy8 ..),h b (qy10 _ hb)]at hw;rcases hw with hw|hw<;>cases hw
abbrev brV (y:TelX) (e:Int):List V:=[.v y.kv,.r (y.kept.map encK),.v y.wv,.r (y.wants.map Zc),.v y.sv,.r (y.sx.map Zk),.v y.av,.r (y.wat.map Z9),.i y.next,.v y.ov,.r (y.ox.map Z33),.i e,.a (Z6 y.sx y.ox)]
abbrev brEs (n:Nat):List Ent:=[.rd n kK (.var (n+1)),.rd (n+2) kW_V (.var (n+3)),.rd (n+4) kSx (.var (n+5)),.rd (n+6) kW_K (.var (n+7)),.rd (n+9) kSn (.var (n+10)),.st (n+12)]
abbrev gnV (y:TelX) (e:Int):List V:=[.v y.kv,.r (y.kept.map encK),.v y.wv,.r (y.wants.map Zc),.v y.sv,.r (y.sx.map Zk),.v y.av,.r (y.wat.map Z9),.i y.next,.i e,.a (Z6 y.sx y.ox)]
abbrev gnEs (n:Nat):List Ent:=[.rd n kK (.var (n+1)),.rd (n+2) kW_V (.var (n+3)),.rd (n+4) kSx (.var (n+5)),.rd (n+6) kW_K (.var (n+7)),.st (n+10)]
abbrev smV (y:TelX):List V:=[.v y.kv,.r (y.kept.map encK),.v y.wv,.r (y.wants.map Zc),.v y.sv,.r (y.sx.map Zk),.v y.av,.r (y.wat.map Z9),.i y.next,.a (Z6 y.sx y.ox)]
abbrev smEs (n:Nat):List Ent:=[.rd n kK (.var (n+1)),.rd (n+2) kW_V (.var (n+3)),.rd (n+4) kSx (.var (n+5)),.rd (n+6) kW_K (.var (n+7)),.st (n+9)]
section
variable {P:Program} {f:Nat} {args:Array Value} {w:World} {B:Base} {ρ:List V} {hp:List Ent}
theorem Z18g {y:TelX} {e:Int} {n m:Nat} {w1:World} {Q:Ent->Nat->Prop} (hn:ρ.length=n) (h:RdB m w1 y):∀x∈brEs n,x.holds (ρ++brV y e) w1/\∀k,x.fp (ρ++brV y e) k->m<=k\/Q x k:=by
 have g:=Zij (vs:=brV y e) hn;have g0:(ρ++brV y e).getD n (.i 0)=.v y.kv:=g 0;refine qy2.2 ⟨⟨?_,fun k hk=>.inl ?_⟩,qy2.2 ⟨⟨?_,fun k hk=>.inl ?_⟩,qy2.2 ⟨⟨?_,fun k hk=>.inl ?_⟩,qy2.2 ⟨⟨?_,fun k hk=>.inl ?_⟩,qy2.2 ⟨⟨?_,fun k hk=>.inl ?_⟩,qy2.2 ⟨⟨?_,fun k hk=>.inl ?_⟩,qy5 _⟩⟩⟩⟩⟩⟩ <;>
  simp only[Ent.holds,Ent.fp,X.ev,g0,g 1,g 2,g 3,g 4,g 5,g 6,g 7,g 9,g 10,g 12]at *
 ·exact h.kept
 ·exact h.nk k hk.1 hk.2
 ·exact h.want
 ·exact h.nw k hk.1 hk.2
 ·exact h.sess
 ·exact h.ns k hk.1 hk.2
 ·exact h.wat
 ·exact h.na k hk.1 hk.2
 ·exact h.out
 ·exact h.no k hk.1 hk.2
 ·exact h.nest
 ·exact h.nn k hk
theorem Z18h {y:TelX} {e:Int} {n m:Nat} {w1:World} {Q:Ent->Nat->Prop} (hn:ρ.length=n) (h:RdB m w1 y):∀x∈gnEs n,x.holds (ρ++gnV y e) w1/\∀k,x.fp (ρ++gnV y e) k->m<=k\/Q x k:=by
 have g:=Zij (vs:=gnV y e) hn;have g0:(ρ++gnV y e).getD n (.i 0)=.v y.kv:=g 0;refine qy2.2 ⟨⟨?_,fun k hk=>.inl ?_⟩,qy2.2 ⟨⟨?_,fun k hk=>.inl ?_⟩,qy2.2 ⟨⟨?_,fun k hk=>.inl ?_⟩,qy2.2 ⟨⟨?_,fun k hk=>.inl ?_⟩,qy2.2 ⟨⟨?_,fun k hk=>.inl ?_⟩,qy5 _⟩⟩⟩⟩⟩ <;>
  simp only[Ent.holds,Ent.fp,X.ev,g0,g 1,g 2,g 3,g 4,g 5,g 6,g 7,g 10]at *
 ·exact h.kept
 ·exact h.nk k hk.1 hk.2
 ·exact h.want
 ·exact h.nw k hk.1 hk.2
 ·exact h.sess
 ·exact h.ns k hk.1 hk.2
 ·exact h.wat
 ·exact h.na k hk.1 hk.2
 ·exact h.nest
 ·exact h.nn k hk
theorem Z18i {y:TelX} {n m:Nat} {w1:World} {Q:Ent->Nat->Prop} (hn:ρ.length=n) (h:RdB m w1 y):∀x∈smEs n,x.holds (ρ++smV y) w1/\∀k,x.fp (ρ++smV y) k->m<=k\/Q x k:=by
 have g:=Zij (vs:=smV y) hn;have g0:(ρ++smV y).getD n (.i 0)=.v y.kv:=g 0;refine qy2.2 ⟨⟨?_,fun k hk=>.inl ?_⟩,qy2.2 ⟨⟨?_,fun k hk=>.inl ?_⟩,qy2.2 ⟨⟨?_,fun k hk=>.inl ?_⟩,qy2.2 ⟨⟨?_,fun k hk=>.inl ?_⟩,qy2.2 ⟨⟨?_,fun k hk=>.inl ?_⟩,qy5 _⟩⟩⟩⟩⟩ <;>
  simp only[Ent.holds,Ent.fp,X.ev,g0,g 1,g 2,g 3,g 4,g 5,g 6,g 7,g 9]at *
 ·exact h.kept
 ·exact h.nk k hk.1 hk.2
 ·exact h.want
 ·exact h.nw k hk.1 hk.2
 ·exact h.sess
 ·exact h.ns k hk.1 hk.2
 ·exact h.wat
 ·exact h.na k hk.1 hk.2
 ·exact h.nest
 ·exact h.nn k hk
theorem Zpo {e:Int} {t:Tel} (h0:Rel B ρ hp w) (n:Nat) (h:Calls P f args w fun r w1=>Zii w w1 r e t) (hn:ρ.length=n) : Calls P f args w fun r w1=>∃y:TelX,y.tel=t/\RdB w.heap.size w1 y/\r=.returned (.tuple #[bkV y,sc1 y.ov,.int .i64 e])/\Mod (Zu ρ [] []) w w1 /\ (∀x∈brEs n,x.holds (ρ++brV y e) w1/\∀k,x.fp (ρ++brV y e) k->w.heap.size<=k\/(x.wr=false/\∃y∈hp,y.wr=false/\y.fp ρ k)\/k∈Z10 ρ [])/\Zn (ρ++brV y e) (brEs n):=by refine h.mono ?_;rintro r w1 ⟨y,hr,hy,hd,hm⟩;exact⟨y,hy,hd,hr,hm,Z18g hn hd,Zaq (by intro e he;simp only[List.mem_cons,List.not_mem_nil,or_false]at he;rcases he with rfl|rfl|rfl|rfl|rfl|rfl<;>rfl)⟩
theorem Z12k {e:Int} {t:Tel} (h0:Rel B ρ hp w) (n:Nat) (h:Calls P f args w fun r w1=>Zmp w w1 r e t) (hn:ρ.length=n) : Calls P f args w fun r w1=>∃y:TelX,y.tel=t/\y.ox=[]/\RdB w.heap.size w1 y/\r=.returned (.tuple #[bkV y,.int .i64 e])/\Mod (Zu ρ [] []) w w1 /\ (∀x∈gnEs n,x.holds (ρ++gnV y e) w1/\∀k,x.fp (ρ++gnV y e) k->w.heap.size<=k\/(x.wr=false/\∃y∈hp,y.wr=false/\y.fp ρ k)\/k∈Z10 ρ [])/\Zn (ρ++gnV y e) (gnEs n):=by refine h.mono ?_;rintro r w1 ⟨y,hr,ho,hy,hd,hm⟩;exact⟨y,hy,ho,hd,hr,hm,Z18h hn hd,Zaq (by intro e he;simp only[List.mem_cons,List.not_mem_nil,or_false]at he;rcases he with rfl|rfl|rfl|rfl|rfl<;>rfl)⟩
def Zxn (w w':World) (r:Ending) (t:Tel):Prop:=∃y:TelX,r=.returned (bkV y)/\y.ox=[]/\y.tel=t/\RdB w.heap.size w' y/\Mod [] w w'
theorem Zpp {t:Tel} (h0:Rel B ρ hp w) (n:Nat) (h:Calls P f args w fun r w1=>Zxn w w1 r t) (hn:ρ.length=n) : Calls P f args w fun r w1=>∃y:TelX,y.tel=t/\y.ox=[]/\RdB w.heap.size w1 y/\r=.returned (bkV y)/\Mod (Zu ρ [] []) w w1 /\ (∀x∈smEs n,x.holds (ρ++smV y) w1/\∀k,x.fp (ρ++smV y) k->w.heap.size<=k\/(x.wr=false/\∃y∈hp,y.wr=false/\y.fp ρ k)\/k∈Z10 ρ [])/\Zn (ρ++smV y) (smEs n):=by refine h.mono ?_;rintro r w1 ⟨y,hr,ho,hy,hd,hm⟩;exact⟨y,hy,ho,hd,hr,hm,Z18i hn hd,Zaq (by intro e he;simp only[List.mem_cons,List.not_mem_nil,or_false]at he;rcases he with rfl|rfl|rfl|rfl|rfl<;>rfl)⟩
end
theorem Z12l {w:World} {x:TelX} {c:List UInt8} {p:Pkt} {va vc:Value} (h:RdX w x) (ha:reads w va [.str,.int .i64] (p.asks.map encA)) (hc:reads w vc [.int .i64] (p.codes.map Zg)) : Rel ⟨[],w⟩ (bkA x++Z55 c p va vc) (bkH++[.rd 23 [.str,.int .i64] (.var 24),.rd 25 [.int .i64] (.var 26)]) w :=
 Rel.start2 (qy2.2 ⟨⟨h.kept,rfl⟩,qy2.2 ⟨⟨h.want,rfl⟩,qy2.2 ⟨⟨h.sess,rfl⟩,qy2.2 ⟨⟨h.nest,rfl⟩,qy2.2 ⟨⟨h.wat,rfl⟩,qy2.2 ⟨⟨ha,rfl⟩,qy2.2 ⟨⟨hc,rfl⟩,qy5 _⟩⟩⟩⟩⟩⟩⟩)
theorem Z12m {w:World} {x:TelX} {n:Int} {m:Msg} {mv:Value} (h:RdX w x) (ha:reads w mv [.int .i64,.str] (m.opts.map encO)):Rel ⟨[],w⟩ (bkA x++([.i n]++mgV m mv)) (bkH++[.rd 15 [.int .i64,.str] (.var 16)]) w :=
 Rel.start2 (qy2.2 ⟨⟨h.kept,rfl⟩,qy2.2 ⟨⟨h.want,rfl⟩,qy2.2 ⟨⟨h.sess,rfl⟩,qy2.2 ⟨⟨h.nest,rfl⟩,qy2.2 ⟨⟨h.wat,rfl⟩,qy2.2 ⟨⟨ha,rfl⟩,qy5 _⟩⟩⟩⟩⟩⟩)
theorem Z12n {w:World} {x:TelX} {c:List UInt8} (h:RdX w x):Rel ⟨[],w⟩ (bkA x++[.s c]) bkH w :=
 Rel.start2 (qy2.2 ⟨⟨h.kept,rfl⟩,qy2.2 ⟨⟨h.want,rfl⟩,qy2.2 ⟨⟨h.sess,rfl⟩,qy2.2 ⟨⟨h.nest,rfl⟩,qy2.2 ⟨⟨h.wat,rfl⟩,qy5 _⟩⟩⟩⟩⟩)
def smT:Tel:=⟨kA,wA.take 2,[sA],wL.take 1,0,[]⟩
theorem Z162 (w:World):(Z6 [((sA,.slice none 0 0,.slice none 0 0):SesX)] []).holds w :=
 Z1g (l:=[]) (o:=[]) (fun t ht=>.inr (by rw[qy12.1 ht];exact⟨Z8 w _,Z8 w _⟩)) (fun t ht=>.inl ht) (Z94 w)
theorem Zru:∀j,¬(Z6 [((sA,.slice none 0 0,.slice none 0 0):SesX)] []).fp j:=fun j hj=>by
 rcases Zh.1 hj with ⟨t,ht,h⟩|⟨t,ht,-⟩
 ·rw[qy12.1 ht]at h;rcases h with h|h<;>exact h.1 rfl
 ·cases ht
theorem Ziq (w:World):Calls Tryz.prog 62 #[] w fun r w'=>Zxn w w' r smT:=by
 refine Z1 (Zjh (ρ:=[]) (sxE_ok.joins _) Tryz.func62 Z6z rfl rfl (Rel.start w []) rfl rfl ?_) rfl;simp only[Tree.goal,X.P,X.ev,SV.ev,CV.ev,Sc.ev,qz,QA,QD,QG,QH,QL,QM];intro b0;refine⟨fun vs=>∃u1 u3 u5 u14 u15 u17:Value,vs=[.v u1,.r (kA.map encK),.v u3,.r (wA.map Zc),.v u5,.s sA.cl,.b sA.on,.b sA.clean,.v (.slice none 0 0),.r [],.v (.slice none 0 0),.r [],.i sA.next,.v u14,.v u15,.r (wL.map Z9),.v u17,.r ((wL.take 1).map Z9),.r [Zk (sA,.slice none 0 0,.slice none 0 0)],.r ((wA.take 2).map Zc)] /\
  (∀k,Z2 u1 k->w.heap.size<=k)/\(∀k,Z2 u5 k->w.heap.size<=k)/\(∀k,Z2 u17 k->w.heap.size<=k),?_,?_⟩
 ·repeat' first
   | (intro w1 hr1;refine(Z17l w1).mono ?_;rintro e w2 ⟨u1,rfl,a1,f1,m1⟩;refine⟨[.v u1,.r (kA.map encK)],rfl,rfl,m1,qy5 _,qy2.2 ⟨⟨a1,fun k hk=>.inl (f1 k hk.2)⟩,qy5 _⟩,Z3,?_⟩;have g1:∀k,Z2 u1 k->w.heap.size<=k:=fun k hk=>Nat.le_trans hr1.mod.size (f1 k hk);clear hr1 a1 f1 m1)
   | (intro w1 hr1;refine(Z14m w1).mono ?_;rintro e w2 ⟨u3,rfl,a1,f1,m1⟩;refine⟨[.v u3,.r (wA.map Zc)],rfl,rfl,m1,qy5 _,qy2.2 ⟨⟨a1,fun k hk=>.inl (f1 k hk.2)⟩,qy5 _⟩,Z3,?_⟩;have g3:∀k,Z2 u3 k->w.heap.size<=k:=fun k hk=>Nat.le_trans hr1.mod.size (f1 k hk);clear hr1 a1 f1 m1)
   | (intro w1 hr1;refine(Zw4 w1).mono ?_;rintro e w2 ⟨u15,rfl,a1,f1,m1⟩;refine⟨[.v u15,.r (wL.map Z9)],rfl,rfl,m1,qy5 _,qy2.2 ⟨⟨a1,fun k hk=>.inl (f1 k hk.2)⟩,qy5 _⟩,Z3,?_⟩;have g15:∀k,Z2 u15 k->w.heap.size<=k:=fun k hk=>Nat.le_trans hr1.mod.size (f1 k hk);clear hr1 a1 f1 m1)
   | (intro w1 hr1;refine(Z18f w1).mono ?_;rintro e w2 ⟨rfl,m1⟩;refine⟨[.s sA.cl,.b sA.on,.b sA.clean,.v (.slice none 0 0),.r [],.v (.slice none 0 0),.r [],.i sA.next],rfl,rfl,m1,qy5 _,qy2.2 ⟨⟨Z8 w2 _,fun k hk=>absurd rfl hk.1⟩,qy2.2 ⟨⟨Z8 w2 _,fun k hk=>absurd rfl hk.1⟩,qy5 _⟩⟩,Zaq (by simp[Ent.wr]),?_⟩;clear hr1 m1)
   | (refine⟨(by show (2:Int)<=((wA.map Zc).length:Int);decide),?_⟩)
   | (refine⟨(by show (1:Int)<=((wL.map Z9).length:Int);decide),?_⟩)
   | (refine And.intro ?_ ?_)
   | (intro u5 h5;have g5:∀k,Z2 u5 k->w.heap.size<=k:=fun k hk=>g3 k (h5 k hk);clear h5)
   | (intro u17 h17;have g17:∀k,Z2 u17 k->w.heap.size<=k:=fun k hk=>g15 k (h17 k hk);clear h17)
   | (intro u14 h14;clear h14)
   | exact⟨_,_,_,_,_,_,rfl,g1,g5,g17⟩
 ·rintro _ - ⟨u1,u3,u5,u14,u15,u17,rfl,g1,g5,g17⟩;simp only[qz,QE];intro w3 hr3;refine⟨⟨kA,wA.take 2,[(sA,.slice none 0 0,.slice none 0 0)],wL.take 1,0,[],u1,u5,u14,u17,.slice none 0 0⟩,rfl,rfl,rfl,⟨hr3.at_ 7 rfl,hr3.at_ 5 rfl,(hr3.at_ 2 rfl:owns _ _ _ _ _).reads,hr3.at_ 0 rfl,Z8 _ _,Z162 _,fun j _ h=>g1 j h,fun j _ h=>g5 j h,fun j _ h=>Z2r hr3 2 rfl j h,fun j _ h=>g17 j h,fun j h=>absurd rfl h,fun j hj=>absurd hj (Zru j)⟩,hr3.mod⟩
end Go.Proofs.YtkhakgbnfapifaaGreatDoor
namespace Go.Proofs.YtkhakgbnfapifaaGreatDoor
open Go Go.Sx
theorem Z12o:chkB smT=0:=by decide +kernel
theorem Z96:SmlT smT:=.of (Z52.1 Z12o)
abbrev annB:List UInt8:=[97,110,110]
theorem Z18j:pktE annB pubP smT=0:=by decide +kernel
theorem Z18k:msgE 3 mGet smT=0:=by decide +kernel
theorem Z163:gonE annB smT=0:=by decide +kernel
theorem Zxo:(Z1f annB pubP smT).sess.length=1/\((Z1f annB pubP smT).sess.getD 0 s0).fl.length=1/\(Z1f annB pubP smT).out.length=3/\((Z1f annB pubP smT).out.getD 0 sntD.1).pk.kind=4/\((Z1f annB pubP smT).out.getD 2 sntD.1).msg.pay=[104,105]:=by decide +kernel
theorem Zxp:(Z1d 3 mGet smT).wat.length=2/\(Z1d 3 mGet smT).out.length=1/\((Z1d 3 mGet smT).out.getD 0 sntD.1).msg.code=69:=by decide +kernel
theorem Zrv:(Zah annB smT).sess.length=1/\((Zah annB smT).sess.getD 0 s0).on=false:=by decide +kernel
abbrev pbV (p:Pkt):List V:=[.i p.kind,.b p.dup,.b p.retain,.b p.clean,.b p.session,.i p.qos,.i p.id,.i p.keep,.i p.code,.s p.client,.s p.topic,.s p.payload,.v (.slice none 0 0),.r [],.v (.slice none 0 0),.r []]
theorem Zxq (t:Tel):resB 0 t=t:=if_pos rfl
theorem Zir (w:World):Calls Tryz.prog 16 #[] w fun e w'=>e=.returned (.bool true)/\Mod [] w w':=by
 refine Z1 (Z7 (ρ:=[]) sxE_ok Tryz.func16 Z41 rfl rfl rfl ?_) rfl;simp only[Tree.goal,X.P,X.ev,SV.ev,CV.ev,Sc.ev,qz,QA,QB,QC,QM];intro w1 hr1;refine(Zpp hr1 0 (Ziq w1) rfl).mono ?_;rintro r w2 ⟨y1,t1,-,-,rfl,m1,m3,m4⟩;refine⟨smV y1,rfl,rfl,m1,qy5 _,m3,m4,?_⟩;clear m1 m3 m4 hr1;intro w3 hr3;refine(Z11i w3).mono ?_;rintro r w4 ⟨rfl,m1⟩;refine⟨pbV pubP,rfl,rfl,m1,qy5 _,qy2.2 ⟨⟨Z8 w4 _,fun k hk=>absurd rfl hk.1⟩,qy2.2 ⟨⟨Z8 w4 _,fun k hk=>absurd rfl hk.1⟩,qy5 _⟩⟩,Zaq (by simp[Ent.wr]),?_⟩;clear m1 hr3;intro w5 hr5;have b1:y1.bare.tel=smT:=by rw[Zap,t1];rfl
 have hc:=Zkn w5 y1.bare annB pubP (.slice none 0 0) (.slice none 0 0) (Z12l ⟨hr5.at_ 2 rfl,hr5.at_ 3 rfl,hr5.at_ 4 rfl,Z95 (y:=y1) (hr5.at_ 6 rfl),hr5.at_ 5 rfl⟩ (hr5.at_ 0 rfl) (hr5.at_ 1 rfl)) rfl (SmlT.b (by rw[b1];exact Z96)) (SmlT.f (by rw[b1];exact Z96)) (by decide) Z7v;rw[b1,Z18j,Zxq]at hc;refine(Zpo hr5 26 hc rfl).mono ?_;rintro r w6 ⟨y2,t2,-,rfl,m1,m3,m4⟩;refine⟨brV y2 0,rfl,rfl,m1,qy5 _,m3,m4,?_⟩;clear m1 m3 m4 hr5 hc;intro b39 w7 hr7;refine(Zpp hr7 40 (Ziq w7) rfl).mono ?_;rintro r w8 ⟨y3,t3,-,-,rfl,m1,m3,m4⟩;refine⟨smV y3,rfl,rfl,m1,qy5 _,m3,m4,?_⟩;clear m1 m3 m4 hr7;intro w9 hr9;refine(Zi4 w9).mono ?_;rintro r w10 ⟨v4,rfl,r1,f1,m1⟩;refine⟨mgV mGet v4,rfl,rfl,m1,qy5 _,qy2.2 ⟨⟨r1,fun k hk=>.inl (f1 k hk)⟩,qy5 _⟩,Z3,?_⟩;clear r1 f1 m1 hr9;intro w11 hr11;have b3:y3.bare.tel=smT:=by rw[Zap,t3];rfl
 have hc:=Zgs w11 y3.bare 3 mGet v4 (Z12m ⟨hr11.at_ 1 rfl,hr11.at_ 2 rfl,hr11.at_ 3 rfl,Z95 (y:=y3) (hr11.at_ 5 rfl),hr11.at_ 4 rfl⟩ (hr11.at_ 0 rfl)) rfl (SmlT.b (by rw[b3];exact Z96)) (SmlT.f (by rw[b3];exact Z96)) (by decide) (by decide) (by decide);rw[b3,Z18k,Zxq]at hc;refine(Zpo hr11 57 hc rfl).mono ?_;rintro r w12 ⟨y5,t5,-,rfl,m1,m3,m4⟩;refine⟨brV y5 0,rfl,rfl,m1,qy5 _,m3,m4,?_⟩;clear m1 m3 m4 hr11 hc;intro b70 w13 hr13;refine(Zpp hr13 71 (Ziq w13) rfl).mono ?_;rintro r w14 ⟨y6,t6,-,-,rfl,m1,m3,m4⟩;refine⟨smV y6,rfl,rfl,m1,qy5 _,m3,m4,?_⟩;clear m1 m3 m4 hr13;intro w15 hr15;have b6:y6.bare.tel=smT:=by rw[Zap,t6];rfl
 have hc:=Zx5 w15 y6.bare annB (Z12n ⟨hr15.at_ 0 rfl,hr15.at_ 1 rfl,hr15.at_ 2 rfl,Z95 (y:=y6) (hr15.at_ 4 rfl),hr15.at_ 3 rfl⟩) rfl (SmlT.b (by rw[b6];exact Z96)) (SmlT.f (by rw[b6];exact Z96)) (by decide);rw[b6,Z163,Zxq]at hc;refine(Z12k hr15 81 hc rfl).mono ?_;rintro r w16 ⟨y7,t7,-,-,rfl,m1,m3,m4⟩;refine⟨gnV y7 0,rfl,rfl,m1,qy5 _,m3,m4,?_⟩;clear m1 m3 m4 hr15 hc;intro b92 w17 hr17;refine(Zpp hr17 93 (Ziq w17) rfl).mono ?_;rintro r w18 ⟨y8,t8,-,-,rfl,m1,m3,m4⟩;refine⟨smV y8,rfl,rfl,m1,qy5 _,m3,m4,?_⟩;clear m1 m3 m4 hr17;have b8:y8.bare.tel=smT:=by rw[Zap,t8];rfl
 refine⟨[.i 0],rfl,fun _ w' hr=>?_,?_⟩
 ·have hc:=Z3f w' y8.bare (RdX.rel ⟨hr.at_ 0 rfl,hr.at_ 1 rfl,hr.at_ 2 rfl,Z95 (y:=y8) (hr.at_ 4 rfl),hr.at_ 3 rfl⟩) rfl (SmlT.b (by rw[b8];exact Z96));rw[b8,Z12o]at hc;exact hc
 simp only[qz,QA,QD,QE,QL,QM,qy3];have lenX:∀y:TelX,y.tel.sess.length=y.sx.length/\y.tel.out.length=y.ox.length:=fun y=>⟨by simp[TelX.tel],by simp[TelX.tel]⟩
 obtain⟨a1,a2,a3,a4,a5⟩:=Zxo;obtain⟨c1,c2,c3⟩:=Zxp;obtain⟨d1,d2⟩:=Zrv;rw[<- t2]at a1 a2 a3 a4 a5;rw[<- t5]at c1 c2 c3;rw[<- t7]at d1 d2;rw[(lenX y2).1]at a1;rw[(lenX y2).2]at a3;rw[(lenX y5).2]at c2;rw[(lenX y7).1]at d1;simp only[TelX.tel,Zvy,Z19p]at a2 a4 a5 c1 c3 d2;have q1:=Zea (l:=y2.sx) (i:=0) (by omega);have q2:=Zwv (l:=y2.ox) (i:=0) (by omega);have q3:=Zwv (l:=y2.ox) (i:=2) (by omega);have q4:=Zwv (l:=y5.ox) (i:=0) (by omega);have q5:=Zea (l:=y7.sx) (i:=0) (by omega);have mm:=Zi8 (l:=y2.sx) (i:=0) (by omega);refine⟨.inr (by omega),fun _=>?_,fun h=>absurd ⟨⟨⟨⟨⟨trivial,trivial⟩,trivial⟩,trivial⟩,by omega⟩,by omega⟩ h⟩;refine⟨(y2.sx.getD 0 sxD).1.fl.map encF,fun w' hr=>?_,?_⟩
 ·have hnn:=Z1a (hr.at_ 35 rfl:(Z6 y2.sx y2.ox).holds w') mm;have hv:((y2.sx.map Zk).getD 0 []).getD 3 undef=(y2.sx.getD 0 sxD).2.1:=by rw[q1];exact hnn.1.sc1
  have hv':(((y2.sx.map Zk).getD (0:Int).toNat []).getD 3 undef)=(y2.sx.getD 0 sxD).2.1:=hv;refine⟨by rw[hv'];exact hnn.1,fun hne k hk e he hw hf=>?_⟩;have hk':Z2 (y2.sx.getD 0 sxD).2.1 k:=by rw[<- hv'];exact hk
  exact hr.disj (qy6 (i:=35) rfl) he (fun h=>by subst h;cases hw) (.inr hw) (Zh.2 (.inl ⟨_,mm,.inl ⟨hne,hk'⟩⟩)) hf
 ·simp only[qy3];have e1:Value.gI (((y2.ox.map Z33).getD (Int.toNat 0) []).getD 1 undef)=4:=by rw[show Int.toNat 0=0 from rfl,q2];exact a4
  have e2:Value.gS (((y2.ox.map Z33).getD (Int.toNat 2) []).getD 21 undef)=[104,105]:=by rw[show Int.toNat 2=2 from rfl,q3];exact a5
  have e3:Value.gI (((y5.ox.map Z33).getD (Int.toNat 0) []).getD 17 undef)=69:=by rw[show Int.toNat 0=0 from rfl,q4];exact c3
  have e4:Value.gB (((y7.sx.map Zk).getD (Int.toNat 0) []).getD 1 undef)=false:=by rw[show Int.toNat 0=0 from rfl,q5];exact d2
  rw[e1,e2,e3,e4];refine⟨.inr (by omega),.inr (by omega),.inr (by omega),.inr (by omega),fun w' hr=>⟨?_,hr.mod⟩⟩;have i1:((y2.sx.getD 0 sxD).1.fl.length:Int)=1:=by omega
  have i2:(y2.ox.length:Int)=3:=by omega
  have i3:(y5.wat.length:Int)=2:=by omega
  have i4:(y5.ox.length:Int)=1:=by omega
  rw[i1,i2,i3,i4];rfl
end Go.Proofs.YtkhakgbnfapifaaGreatDoor
namespace Go.Proofs.YtkhakgbnfapifaaGreatDoor
open Go.Sx
def rdC (w:World) (b:Nat) (s:List UInt8) (sh:Bool):Prop:=w.heap[b]?=some (.cells #[.string ⟨s.toArray⟩,.bool sh] 225 (0,0))
abbrev ptrB (b:Nat):Value:=.pointer (some ⟨b,0,none⟩)
theorem Zis {w:World} {ρ:List V} {e:Ent} {b:Nat} (h:e.holds ρ w) (hf:∀k,e.fp ρ k->k=b):Rel ⟨[b],w⟩ ρ [e] w :=
 ⟨Mod.refl _ _,qy2.2 ⟨h,qy5 _⟩,qy2.2 ⟨fun _ k hk=>.inr (by rw[hf k hk];exact qy12.2 rfl),qy5 _⟩,List.pairwise_singleton _ _⟩
def Z34 (n:Int) (s:List UInt8) (sh:Bool):List UInt8×List UInt8×Bool:=if (s.length:Int)<n then ([],[],true) else (s.take n.toNat,s.drop n.toNat,sh)
theorem Zpq (w:World) (b:Nat) (s:List UInt8) (sh:Bool) (n:Int) (h0:0<=n) (hc:rdC w b s sh):Calls Tryz.prog 199 #[ptrB b,.int .i64 n] w fun e w'=>e=.returned (.string ⟨(Z34 n s sh).1.toArray⟩)/\rdC w' b (Z34 n s sh).2.1 (Z34 n s sh).2.2/\Mod [b] w w':=by
 refine Z1 (Z4 (ρ:=[.n b,.s s,.b sh,.i n]) sxE_ok Tryz.func199 Z5h rfl rfl (Zis (b:=b) hc (fun k hk=>hk)) rfl rfl ?_) rfl;simp only[Tree.goal,X.P,X.ev,SV.ev,CV.ev,Sc.ev,qz,QA,QC];refine⟨fun h w' hr=>?_,fun h=>⟨h0,by omega,fun w' hr=>?_⟩⟩
 ·rw[Z34,if_pos h];exact⟨rfl,hr.at_ 0 rfl,hr.mod⟩
 ·rw[Z34,if_neg h];have:=hr.at_ 0 rfl;simp only[Ent.holds,X.ev,Sc.ev,qz,QA,QB,QC,QF,qy4,List.take_length]at this;exact⟨by simp,this,hr.mod⟩
def numM (k:Nat) (s:List UInt8) (sh:Bool):Int×List UInt8×Bool:=if s.length<k then (0,[],true) else ((beN (s.take k) 0:Nat),s.drop k,sh)
theorem Zez {k:Nat} (s:List UInt8) (sh:Bool) (h:k<=2):0<=(numM k s sh).1/\(numM k s sh).1<65536/\(k=1->(numM k s sh).1<256):=by
 unfold numM;split
 ·simp
 ·have h1:=Zuq (s.take k) 0;have h2:pw (s.take k).length<=pw 2:=Zhu (by simp;omega);have h3:pw 2=65536:=rfl;refine⟨by simp,by simp only;omega,fun h4=>?_⟩;subst h4;have h2:pw (s.take 1).length<=pw 1:=Zhu (by simp;omega);have h3:pw 1=256:=rfl;simp only;omega
theorem Z7w (w:World) (b:Nat) (s:List UInt8) (sh:Bool) (k:Nat) (hk:1<=k/\k<=2) (hs:s.length<1099511627776) (hc:rdC w b s sh):Calls Tryz.prog 198 #[ptrB b,.int .i64 k] w fun e w'=>e=.returned (.int .i64 (numM k s sh).1)/\rdC w' b (numM k s sh).2.1 (numM k s sh).2.2/\Mod [b] w w':=by
 refine Z1 (Z4 (ρ:=[.n b,.s s,.b sh,.i k]) sxE_ok Tryz.func198 Z4n rfl rfl (Zis (b:=b) hc (fun k hk=>hk)) rfl rfl ?_) rfl;simp only[Tree.goal,X.P,X.ev,SV.ev,CV.ev,Sc.ev,qz,QA,QF,QL,QM];intro w1 hr;refine(Zpq w1 b s sh k (by omega) (hr.at_ 0 rfl)).mono ?_;rintro e w2 ⟨rfl,c1,c2⟩;refine⟨[.s (Z34 k s sh).1,.s (Z34 k s sh).2.1,.b (Z34 k s sh).2.2],rfl,rfl,c2,qy2.2 ⟨c1,qy5 _⟩,qy5 _,Zd,?_⟩;simp only[qz,QC,QL,QM];have hl:(Z34 k s sh).1.length<=s.length:=by
  unfold Z34;split
  ·simp
  ·simp;omega
 refine⟨[.i (getR (Z34 k s sh).1 0 k).1,.i (getR (Z34 k s sh).1 0 k).2],rfl,fun _ w' _=>Zhw w' _ 0 k (by omega),?_⟩;simp only[qz,QA];intro w3 hr3;have e1:(getR (Z34 k s sh).1 0 k).1=(numM k s sh).1/\(Z34 k s sh).2=(numM k s sh).2:=by
  unfold Z34 numM;by_cases h:s.length<k
  ·rw[if_pos (by omega),if_pos h,Z7q (by omega) (by simp) (by simp;omega)];exact⟨rfl,rfl⟩
  ·rw[if_neg (by omega),if_neg h,Zhv (by omega) (by simp) (by simp;omega)];simp only[Int.toNat_zero,List.drop_zero,qy4,List.take_take,Nat.min_self,and_self]
 rw[e1.1,<- e1.2];exact⟨rfl,hr3.at_ 0 rfl,hr3.mod⟩
def Z42 (n:Int) (s:List UInt8) (sh:Bool):Int×List UInt8×Bool :=
 if n=13 then (13+(numM 1 s sh).1,(numM 1 s sh).2) else if n=14 then (269+(numM 2 s sh).1,(numM 2 s sh).2) else if n=15 then (15,s,true) else (n,s,sh)
theorem Zpr {n:Int} (s:List UInt8) (sh:Bool) (h:0<=n/\n<=15):0<=(Z42 n s sh).1/\(Z42 n s sh).1<65805:=by
 have h1:=Zez (k:=1) s sh (by omega);have h2:=Zez (k:=2) s sh (by omega);unfold Z42;split
 ·simp only;omega
 ·split
  ·simp only;omega
  ·split<;>simp only<;>omega
theorem Zxr (w:World) (b:Nat) (s:List UInt8) (sh:Bool) (n:Int) (hn:0<=n/\n<=15) (hs:s.length<1099511627776) (hc:rdC w b s sh):Calls Tryz.prog 263 #[ptrB b,.int .i64 n] w fun e w'=>e=.returned (.int .i64 (Z42 n s sh).1)/\rdC w' b (Z42 n s sh).2.1 (Z42 n s sh).2.2/\Mod [b] w w':=by
 refine Z1 (Z4 (ρ:=[.n b,.s s,.b sh,.i n]) sxE_ok Tryz.func263 Z5g rfl rfl (Zis (b:=b) hc (fun k hk=>hk)) rfl rfl ?_) rfl;simp only[Tree.goal,X.P,X.ev,SV.ev,CV.ev,Sc.ev,qz,QA,QF,QL,QM];refine⟨fun h w1 hr=>?_,fun h=>⟨fun h2 w1 hr=>?_,fun h2=>⟨fun h3 w' hr=>?_,fun h3 w' hr=>?_⟩⟩⟩
 ·refine(Z7w w1 b s sh 1 (by omega) hs (hr.at_ 0 rfl)).mono ?_;rintro e w2 ⟨rfl,c1,c2⟩;refine⟨[.i (numM 1 s sh).1,.s (numM 1 s sh).2.1,.b (numM 1 s sh).2.2],rfl,rfl,c2,qy2.2 ⟨c1,qy5 _⟩,qy5 _,Zd,?_⟩;simp only[qz,QA];have:=Zez (k:=1) s sh (by omega);refine⟨by omega,by omega,fun w3 hr3=>?_⟩;rw[Z42,if_pos h];exact⟨rfl,hr3.at_ 0 rfl,hr3.mod⟩
 ·refine(Z7w w1 b s sh 2 (by omega) hs (hr.at_ 0 rfl)).mono ?_;rintro e w2 ⟨rfl,c1,c2⟩;refine⟨[.i (numM 2 s sh).1,.s (numM 2 s sh).2.1,.b (numM 2 s sh).2.2],rfl,rfl,c2,qy2.2 ⟨c1,qy5 _⟩,qy5 _,Zd,?_⟩;simp only[qz,QA];have:=Zez (k:=2) s sh (by omega);refine⟨by omega,by omega,fun w3 hr3=>?_⟩;rw[Z42,if_neg h,if_pos h2];exact⟨rfl,hr3.at_ 0 rfl,hr3.mod⟩
 ·rw[Z42,if_neg h,if_neg h2,if_pos h3];exact⟨by rw[h3],hr.at_ 0 rfl,hr.mod⟩
 ·rw[Z42,if_neg h,if_neg h2,if_neg h3];exact⟨rfl,hr.at_ 0 rfl,hr.mod⟩
def Zrw (n:Int) (s:List UInt8):Option (Int×List UInt8) :=
 if n<13 then some (n,s) else if n=15 then none
 else if n=14 then (if s.length<2 then none else some (269+(beN (s.take 2) 0:Nat),s.drop 2))
 else (if s.length<1 then none else some (13+(beN (s.take 1) 0:Nat),s.drop 1))
theorem Zxs {n:Int} (hn:n<=15) (s:List UInt8):match Zrw n s with|some (v,l)=>Z42 n s false=(v,l,false)|none=>(Z42 n s false).2.2=true:=by
 unfold Zrw;by_cases h1:n<13
 ·rw[if_pos h1];simp only[Z42];rw[if_neg (by omega),if_neg (by omega),if_neg (by omega)]
 ·rw[if_neg h1];by_cases h2:n=15
  ·rw[if_pos h2];simp only[Z42];rw[if_neg (by omega),if_neg (by omega),if_pos h2]
  ·rw[if_neg h2];by_cases h3:n=14
   ·rw[if_pos h3];by_cases h4:s.length<2
    ·rw[if_pos h4];simp only[Z42];rw[if_neg (by omega),if_pos h3,numM,if_pos h4]
    ·rw[if_neg h4];simp only[Z42];rw[if_neg (by omega),if_pos h3,numM,if_neg h4]
   ·rw[if_neg h3];by_cases h4:s.length<1
    ·rw[if_pos h4];simp only[Z42];rw[if_pos (by omega),numM,if_pos h4]
    ·rw[if_neg h4];simp only[Z42];rw[if_pos (by omega),numM,if_neg h4]
theorem Zgz (k:Nat) (s:List UInt8):(numM k s true).2.2=true:=by unfold numM;split<;>rfl
theorem Z6j (k:Int) (s:List UInt8):(Z34 k s true).2.2=true:=by unfold Z34;split<;>rfl
theorem Zmu (k:Int) (s:List UInt8):(Z42 k s true).2.2=true:=by
 unfold Z42;split
 ·exact Zgz _ _
 ·split
  ·exact Zgz _ _
  ·split<;>rfl
theorem Zar (k:Nat) (s:List UInt8) (sh:Bool):(numM k s sh).2.1.length<=s.length:=by unfold numM;split<;>simp
theorem Zkz (k:Int) (s:List UInt8) (sh:Bool):(Z34 k s sh).2.1.length<=s.length/\(Z34 k s sh).1.length<=s.length:=by unfold Z34;split<;>simp;omega
theorem Zl0 (k:Int) (s:List UInt8) (sh:Bool):(Z42 k s sh).2.1.length<=s.length:=by
 unfold Z42;split
 ·exact Zar _ _ _
 ·split
  ·exact Zar _ _ _
  ·split<;>simp
def Zl1 (was:Int) (c:UInt8) (l:List UInt8):Option (Opt×List UInt8) :=
 match Zrw ((c.toNat / 16:Nat):Int) l with
 | none=>none
 | some p=>match Zrw ((c.toNat % 16:Nat):Int) p.2 with
  | none=>none
  | some q=>if (q.2.length:Int)<q.1 then none else some ((was+p.1,q.2.take q.1.toNat),q.2.drop q.1.toNat)
def ahead (acc:List Opt):Option (List Opt×List UInt8)->Option (List Opt×List UInt8)
 | none=>none
 | some p=>some (acc++p.1,p.2)
def Z97:Nat->Int->List UInt8->Option (List Opt×List UInt8)
 | 0,_,s=>if s=[] then some ([],[]) else none
 | f+1,was,s=>match s with
  | []=>some ([],[])
  | c::l=>if c=255 then some ([],c::l) else match Zl1 was c l with
   | none=>none
   | some p=>ahead [p.1] (Z97 f p.1.1 p.2)
theorem Zxt (f:Nat) (was:Int):Z97 f was []=some ([],[]):=by cases f<;>rfl
theorem Zrx (f:Nat) (was:Int) (l:List UInt8):Z97 (f+1) was (255::l)=some ([],255::l):=rfl
theorem Zxu {f:Nat} {was:Int} {c:UInt8} {l:List UInt8} (hc:c≠255) (h:Zl1 was c l=none):Z97 (f+1) was (c::l)=none:=by
 show (if c=255 then _ else match Zl1 was c l with|none=>none|some p=>ahead [p.1] (Z97 f p.1.1 p.2))=_
 rw[if_neg hc,h]
theorem Zry {f:Nat} {was:Int} {c:UInt8} {l:List UInt8} (hc:c≠255) {o:Opt} {r:List UInt8} (h:Zl1 was c l=some (o,r)):Z97 (f+1) was (c::l)=ahead [o] (Z97 f o.1 r):=by
 show (if c=255 then _ else match Zl1 was c l with|none=>none|some p=>ahead [p.1] (Z97 f p.1.1 p.2))=_
 rw[if_neg hc,h]
theorem Zmv (a b:List Opt) (x:Option (List Opt×List UInt8)):ahead a (ahead b x)=ahead (a++b) x:=by cases x<;>simp[ahead]
theorem Zxv (x:Option (List Opt×List UInt8)):ahead [] x=x:=by cases x<;>rfl
theorem Z18l (x:Nat) (h:x<256):((x:Int)).fdiv (2 ^ (Nat.min (Int.toNat 4) IntKind.i64.bits))=((x / 16:Nat):Int):=by
 have:∀x:Fin 256,((x.val:Int)).fdiv (2 ^ (Nat.min (Int.toNat 4) IntKind.i64.bits))=((x.val / 16:Nat):Int):=by decide +kernel
 exact this ⟨x,h⟩
theorem Z19r (x:Nat) (h:x<256):((x:Int)).fdiv (2 ^ (Nat.min (Int.toNat 6) IntKind.i64.bits))=((x / 64:Nat):Int):=by
 have:∀x:Fin 256,((x.val:Int)).fdiv (2 ^ (Nat.min (Int.toNat 6) IntKind.i64.bits))=((x.val / 64:Nat):Int):=by decide +kernel
 exact this ⟨x,h⟩
theorem Z12p (x:Nat) (h:x<256):Z14 .and .i64 (x:Int) 15=((x % 16:Nat):Int):=by
 have:∀x:Fin 256,Z14 .and .i64 (x.val:Int) 15=((x.val % 16:Nat):Int):=by decide +kernel
 exact this ⟨x,h⟩
theorem Z19s (x:Nat) (h:x<256):Z14 .and .i64 ((x / 16:Nat):Int) 3=((x / 16 % 4:Nat):Int):=by
 have:∀x:Fin 256,Z14 .and .i64 ((x.val / 16:Nat):Int) 3=((x.val / 16 % 4:Nat):Int):=by decide +kernel
 exact this ⟨x,h⟩
theorem Zl2 (w:World):Z24 w (.slice none 0 0) []:=⟨by simp,none,0,rfl,⟨fun _=>rfl,Nat.le_refl _⟩,fun h=>absurd rfl h⟩
theorem Zps (c:UInt8) (l:List UInt8):numM 1 (c::l) false=((c.toNat:Int),l,false):=by simp[numM,beN]
set_option maxRecDepth 10000 in
theorem Zrz (w:World) (b:Nat) (s:List UInt8) (sh:Bool) (hs:s.length<1099511627776) (hsh:sh=true->s=[]) (hc:rdC w b s sh):Calls Tryz.prog 200 #[ptrB b] w fun e w'=>∃v os s' sh',e=.returned (sc1 v)/\Z24 w' v os/\Zc0 w.heap.size v os/\rdC w' b s' sh'/\Mod [b] w w'/\os.length+s'.length<=s.length /\ (sh'=true/\(if sh then none else Z97 s.length 0 s)=none\/sh'=false/\(if sh then none else Z97 s.length 0 s)=some (os,s')):=by
 refine Z1 (Z4 (ρ:=[.n b,.s s,.b sh]) sxE_ok Tryz.func200 Z4e rfl rfl (Zis (b:=b) hc (fun k hk=>hk)) rfl rfl ?_) rfl;generalize hT:(if sh then none else Z97 s.length 0 s)=T
 simp only[Tree.goal,X.P,X.ev,SV.ev,CV.ev,Sc.ev,qz,QA,QC,QD,QF,QG,QH,QJ,QK,QL,QM,Nat.reduceAdd];refine⟨fun vs=>∃(v:Value) (acc:List Opt) (was:Int) (s':List UInt8) (sh':Bool),vs=[.v v,.r (acc.map encO),.i was,.s s',.b sh']/\0<=was/\was<=70000*acc.length/\acc.length+s'.length<=s.length /\
   (sh'=true/\T=none\/sh'=false/\∃f,s'.length<=f/\ahead acc (Z97 f was s')=T),fun vs=>(vs.getD 3 (.i 0)).toS.length,⟨_,[],0,s,sh,rfl,by omega,by simp,by simp,?_⟩,?_⟩
 ·cases sh with
  | true=>exact .inl ⟨rfl,hT.symm⟩
  | false=>exact .inr ⟨rfl,s.length,Nat.le_refl _,by rw[Zxv];exact hT⟩
 rintro _ - ⟨v,acc,was,s',sh',rfl,hw0,hw1,hal,hinv⟩;simp only[qz,QA,QB,QC,QD,QE,QL,QM,qy3];refine⟨?_,fun h=>?_,fun h=>?_⟩
 ·rcases s' with _|⟨c,l⟩
  ·exact .inl fun h=>h.1 rfl
  ·exact .inr (by simp only[List.length_cons];omega)
 ·obtain⟨⟨h1,h2⟩,h3⟩:=h;obtain⟨hs0,f,hf,hT'⟩:=hinv.resolve_left fun h=>h2 h.1;subst hs0;rcases s' with _|⟨c,l⟩
  ·exact absurd rfl h1
  have hc255:c≠255:=fun h=>h3 (by rw[h];rfl);obtain⟨g,rfl⟩:∃g,f=g+1:=⟨f - 1,by simp at hf;omega⟩
  simp only[List.length_cons]at hf hal;have hcb:=Zqs c;intro w1 hr;refine(Z7w w1 b (c::l) false 1 (by omega) (by simp;omega) (hr.at_ 2 rfl)).mono ?_;rintro e w2 ⟨rfl,c1,c2⟩;rw[Zps]at c1;refine⟨[.i c.toNat,.s l,.b false],rfl,by rw[Zps];rfl,c2,qy2.2 ⟨c1,qy5 _⟩,qy5 _,Zd,?_⟩;simp only[qz,QA,QJ,QL,QM];rw[Z18l _ hcb];intro w3 hr3;refine(Zxr w3 b l false _ (by omega) (by omega) (hr3.at_ 2 rfl)).mono ?_;rintro e w4 ⟨rfl,c3,c4⟩;have b1:=Zpr (n:=((c.toNat / 16:Nat):Int)) l false (by omega);have l1:=Zl0 ((c.toNat / 16:Nat):Int) l false;have q1:=Zxs (n:=((c.toNat / 16:Nat):Int)) (by omega) l;generalize Z42 ((c.toNat / 16:Nat):Int) l false=H1 at c3 b1 l1 q1 ⊢
  refine⟨[.i H1.1,.s H1.2.1,.b H1.2.2],rfl,rfl,c4,qy2.2 ⟨c3,qy5 _⟩,qy5 _,Zd,?_⟩;simp only[qz,QA,QL,QM];rw[Z12p _ hcb];refine⟨by omega,by omega,?_⟩;intro w5 hr5;refine(Zxr w5 b H1.2.1 H1.2.2 _ (by omega) (by omega) (hr5.at_ 2 rfl)).mono ?_;rintro e w6 ⟨rfl,c5,c6⟩;have b2:=Zpr (n:=((c.toNat % 16:Nat):Int)) H1.2.1 H1.2.2 (by omega);have l2:=Zl0 ((c.toNat % 16:Nat):Int) H1.2.1 H1.2.2;have q2:=Zxs (n:=((c.toNat % 16:Nat):Int)) (by omega) H1.2.1;have t2:=Zmu ((c.toNat % 16:Nat):Int) H1.2.1;generalize hH2:Z42 ((c.toNat % 16:Nat):Int) H1.2.1 H1.2.2=H2 at c5 b2 l2 ⊢
  refine⟨[.i H2.1,.s H2.2.1,.b H2.2.2],rfl,rfl,c6,qy2.2 ⟨c5,qy5 _⟩,qy5 _,Zd,?_⟩;simp only[qz,QA,QL,QM];intro w7 hr7;refine(Zpq w7 b H2.2.1 H2.2.2 H2.1 (by omega) (hr7.at_ 2 rfl)).mono ?_;rintro e w8 ⟨rfl,c7,c8⟩;have l3:=Zkz H2.1 H2.2.1 H2.2.2;have t3:=Z6j H2.1 H2.2.1;generalize hT4:Z34 H2.1 H2.2.1 H2.2.2=T4 at c7 l3 ⊢
  refine⟨[.s T4.1,.s T4.2.1,.b T4.2.2],rfl,rfl,c8,qy2.2 ⟨c7,qy5 _⟩,qy5 _,Zd,?_⟩;simp only[qz,QC,QL,QM];intro v1;refine⟨by omega,fun v2=>⟨⟨v2,acc++[(was+H1.1,T4.1)],was+H1.1,T4.2.1,T4.2.2,by simp[encO],by omega,by simp;omega,by simp;omega,?_⟩,by omega⟩⟩;have key:match Zl1 was c l with|none=>T4.2.2=true|some p=>T4.2.2=false/\(was+H1.1,T4.1)=p.1/\T4.2.1=p.2:=by
   unfold Zl1;cases hq1:Zrw ((c.toNat / 16:Nat):Int) l with
   | none =>
    rw[hq1]at q1;simp only at q1 ⊢;rw[<- hT4,<- hH2,q1,t2];exact Z6j _ _
   | some p =>
    obtain⟨more,r1⟩:=p;rw[hq1]at q1;simp only at q1 ⊢;rw[q1]at hH2 q2 l1;simp only at hH2 q2 l1;cases hq2:Zrw ((c.toNat % 16:Nat):Int) r1 with
    | none =>
     rw[hq2]at q2;simp only at q2 ⊢;rw[<- hT4,<- hH2,q2];exact Z6j _ _
    | some p =>
     obtain⟨long,r2⟩:=p;rw[hq2]at q2;simp only at q2 ⊢;rw[q2]at hH2;rw[<- hT4,<- hH2,q1];simp only[Z34];by_cases hlo:(r2.length:Int)<long
     ·rw[if_pos hlo,if_pos hlo]
     ·rw[if_neg hlo,if_neg hlo];exact⟨rfl,rfl,rfl⟩
  cases hst:Zl1 was c l with
  | none =>
   rw[hst]at key;rw[Zxu hc255 hst]at hT';exact .inl ⟨key,hT'.symm⟩
  | some p =>
   obtain⟨o,r⟩:=p;rw[hst]at key;obtain⟨k1,k2,k3⟩:=key;simp only at k2 k3;rw[Zry hc255 hst,Zmv]at hT';have ho:was+H1.1=o.1:=by rw[<- k2]
   refine .inr ⟨k1,g,by omega,?_⟩;rw[k2,k3,ho,hT']
 ·intro w1 hr;have hr0:=hr.at_ 0 rfl;have hr2:=hr.at_ 2 rfl;refine⟨v,acc,s',sh',rfl,owns.reads hr0,fun k hk=>?_,hr2,hr.mod,hal,?_⟩
  ·rcases hr.own _ (qy8 ..) rfl k hk.2 with h4|h4
   ·exact h4
   ·have h5:k=b:=by simpa using h4
    exact absurd h5 (fun h5=>(List.pairwise_cons.1 hr.sep).1 _ (qy10 _ (qy8 ..)) (.inl rfl) k hk.2 (by simp only[Ent.fp,qz,QF];exact h5))
  ·rcases hinv with h4|⟨h4,f,hf,h5⟩
   ·exact .inl h4
   ·refine .inr ⟨h4,?_⟩;rcases s' with _|⟨c,l⟩
    ·rw[<- h5,Zxt];simp[ahead]
    ·have h6:c=255:=by
      refine Classical.byContradiction fun h7=>h ⟨⟨by simp,by simp[h4]⟩,?_⟩;intro h8;apply h7;simpa using h8
     obtain⟨g,rfl⟩:∃g,f=g+1:=⟨f - 1,by simp at hf;omega⟩
     subst h6;rw[<- h5,Zrx];simp[ahead]
def chkd (m:Msg):Msg×Int:=if chk m=0 then (m,0) else (mNil,chk m)
def finM (m:Msg):List UInt8->Msg×Int
 | []=>chkd m
 | _::p=>if p=[] then (mNil,1) else chkd { m with pay:=p }
def dec (s:List UInt8):Msg×Int :=
 if s.length<4 then (mNil,1) else
 if ¬((s.getD 0 0).toNat / 64=1)\/8<(s.getD 0 0).toNat % 16\/s.length<4+(s.getD 0 0).toNat % 16 then (mNil,1) else
 match Z97 (s.drop (4+(s.getD 0 0).toNat % 16)).length 0 (s.drop (4+(s.getD 0 0).toNat % 16)) with
 | none=>(mNil,1)
 | some (os,r)=>finM ⟨((s.getD 0 0).toNat / 16 % 4:Nat),(s.getD 1 0).toNat,((256*(s.getD 2 0).toNat+(s.getD 3 0).toNat:Nat)),(s.drop 4).take ((s.getD 0 0).toNat % 16),os,[]⟩ r
def Z12q (w w':World) (e:Ending) (r:Msg×Int):Prop:=∃v,e=.returned (.tuple #[mV r.1 (sc1 v),.int .i64 r.2])/\Z24 w' v r.1.opts/\Zc0 w.heap.size v r.1.opts/\Mod [] w w'
theorem Z7x {w w':World} (n:Int) (h:Mod [] w w'):Z12q w w' (.returned (.tuple #[mV mNil (.slice none 0 0),.int .i64 n])) (mNil,n) :=
 ⟨.slice none 0 0,rfl,Zl2 w',Zra _ _,h⟩
theorem Z164 (s:List UInt8):let r1:=numM 1 s false;let r2:=numM 1 r1.2.1 r1.2.2;let r3:=numM 2 r2.2.1 r2.2.2
  (s.length<4/\r3.2.1=[]/\r3.2.2=true\/4<=s.length/\r1.1=(s.getD 0 0).toNat/\r2.1=(s.getD 1 0).toNat/\r3.1=((256*(s.getD 2 0).toNat+(s.getD 3 0).toNat:Nat))/\r3.2.1=s.drop 4/\r3.2.2=false):=by
 rcases s with _|⟨a,_|⟨b,_|⟨c,_|⟨d,l⟩⟩⟩⟩
 ·left;simp[numM]
 ·left;simp[numM]
 ·left;simp[numM]
 ·left;simp[numM]
 ·right;have e:¬(l.length+1+1<2):=by omega
  simp[numM,beN,e]
theorem Zxw {m:Msg} (h:chk m=0):chkd m=(m,0):=if_pos h
theorem Zxx {m:Msg} (h:¬chk m=0):chkd m=(mNil,chk m):=if_neg h
theorem Zit {s:List UInt8} (h:4<=s.length) (h1:(¬((s.getD 0 0).toNat / 64=1)\/8<(s.getD 0 0).toNat % 16\/s.length<4+(s.getD 0 0).toNat % 16)\/Z97 (s.drop (4+(s.getD 0 0).toNat % 16)).length 0 (s.drop (4+(s.getD 0 0).toNat % 16))=none):dec s=(mNil,1):=by
 unfold dec;rw[if_neg (by omega)];rcases h1 with h1|h1
 ·rw[if_pos h1]
 ·split
  ·rfl
  ·rw[h1]
theorem Z11k {s:List UInt8} (h:4<=s.length) (h1:¬(¬((s.getD 0 0).toNat / 64=1)\/8<(s.getD 0 0).toNat % 16\/s.length<4+(s.getD 0 0).toNat % 16)) {os:List Opt} {r:List UInt8} (h2:Z97 (s.drop (4+(s.getD 0 0).toNat % 16)).length 0 (s.drop (4+(s.getD 0 0).toNat % 16))=some (os,r)) : dec s=finM ⟨((s.getD 0 0).toNat / 16 % 4:Nat),(s.getD 1 0).toNat,((256*(s.getD 2 0).toNat+(s.getD 3 0).toNat:Nat)),(s.drop 4).take ((s.getD 0 0).toNat % 16),os,[]⟩ r:=by unfold dec;rw[if_neg (by omega),if_neg h1,h2]
set_option maxRecDepth 10000 in
theorem Z11l (w:World) (s:List UInt8) (hs:s.length<1099511627776):Calls Tryz.prog 116 #[.string ⟨s.toArray⟩] w fun e w'=>Z12q w w' e (dec s):=by
  refine Z1 (Z7 (ρ:=[.s s]) sxE_ok Tryz.func116 Z8q rfl rfl rfl ?_) rfl;simp only[Tree.goal,X.P,X.ev,SV.ev,CV.ev,Sc.ev,qz,QA,QC,QF,QL,QM];intro b1 b;have hh:=Z164 s;generalize hR1:numM 1 s false=R1 at hh
  generalize hR2:numM 1 R1.2.1 R1.2.2=R2 at hh
  generalize hR3:numM 2 R2.2.1 R2.2.2=R3 at hh
  simp only[hR2,hR3]at hh;have hb1:0<=R1.1/\R1.1<256:=by have:=Zez (k:=1) s false (by omega);rw[hR1]at this;omega
  have hl1:R1.2.1.length<=s.length:=by rw[<- hR1];exact Zar _ _ _
  have hl2:R2.2.1.length<=R1.2.1.length:=by rw[<- hR2];exact Zar _ _ _
  have hl3:R3.2.1.length<=R2.2.1.length:=by rw[<- hR3];exact Zar _ _ _
  obtain⟨x,hx⟩:∃x:Nat,R1.1=x:=⟨R1.1.toNat,by omega⟩
  have hxb:x<256:=by omega
  intro w1 hr;refine(Z7w w1 b s false 1 (by omega) hs (hr.at_ 0 rfl)).mono ?_;rintro e w2 ⟨rfl,c1,c2⟩;rw[hR1]at c1;refine⟨[.i R1.1,.s R1.2.1,.b R1.2.2],rfl,by rw[hR1];rfl,c2,qy2.2 ⟨c1,qy5 _⟩,qy5 _,Zd,?_⟩;simp only[qz,QA,QL,QM];intro w1 hr;refine(Z7w w1 b R1.2.1 R1.2.2 1 (by omega) (by omega) (hr.at_ 0 rfl)).mono ?_;rintro e w2 ⟨rfl,c1,c2⟩;rw[hR2]at c1;refine⟨[.i R2.1,.s R2.2.1,.b R2.2.2],rfl,by rw[hR2];rfl,c2,qy2.2 ⟨c1,qy5 _⟩,qy5 _,Zd,?_⟩;simp only[qz,QA,QL,QM];intro b9;intro w1 hr;refine(Z7w w1 b R2.2.1 R2.2.2 2 (by omega) (by omega) (hr.at_ 1 rfl)).mono ?_;rintro e w2 ⟨rfl,c1,c2⟩;rw[hR3]at c1;refine⟨[.i R3.1,.s R3.2.1,.b R3.2.2],rfl,by rw[hR3];rfl,c2,qy2.2 ⟨c1,qy5 _⟩,qy5 _,Zd,?_⟩;simp only[qz,QA,QL,QM];rw[hx,Z12p x hxb];intro w1 hr;refine(Zpq w1 b R3.2.1 R3.2.2 ((x % 16:Nat):Int) (by omega) (hr.at_ 1 rfl)).mono ?_;rintro e w2 ⟨rfl,c1,c2⟩;generalize hT4:Z34 ((x % 16:Nat):Int) R3.2.1 R3.2.2=T4 at c1 ⊢
  have hl4:T4.2.1.length<=s.length/\T4.1.length<=s.length:=by have:=Zkz ((x % 16:Nat):Int) R3.2.1 R3.2.2;rw[hT4]at this;omega
  have hsh4:T4.2.2=true->T4.2.1=[]:=by
    rcases hh with ⟨_,h5,h6⟩|⟨h5,_,_,_,_,h6⟩
    . rw[h5,h6]at hT4;subst hT4;intro _;unfold Z34;split<;>simp
    . rw[h6]at hT4;subst hT4;unfold Z34;split
      . intro _;rfl
      . intro h;cases h
  refine⟨[.s T4.1,.s T4.2.1,.b T4.2.2],rfl,rfl,c2,qy2.2 ⟨c1,qy5 _⟩,qy5 _,Zd,?_⟩;simp only[qz,QC,QL,QM];intro w1 hr;refine(Zrz w1 b T4.2.1 T4.2.2 (by omega) hsh4 (hr.at_ 1 rfl)).mono ?_;rintro e w2 ⟨v,os,s',sh',rfl,hrd,hfr,c1,c2,hlo,hT⟩;have hfr1:Zc0 w.heap.size v os:=hfr.mono hr.mod.size;refine⟨[.v v,.r (os.map encO),.s s',.b sh'],rfl,rfl,c2,qy2.2 ⟨c1,qy5 _⟩,qy2.2 ⟨⟨hrd,fun k hk=>.inl (hfr k hk)⟩,qy5 _⟩,Z3,?_⟩;have hfin:((sh'=true\/¬(x / 64=1)\/8<T4.1.length)->dec s=(mNil,1))/\(¬(sh'=true\/¬(x / 64=1)\/8<T4.1.length)->dec s=finM ⟨((x / 16 % 4:Nat):Int),R2.1,R3.1,T4.1,os,[]⟩ s'):=by
    rcases hh with ⟨h4,h5,h6⟩|⟨h4,h5,h6,h7,h8,h9⟩
    . have hsh:T4.2.2=true:=by rw[h6]at hT4;rw[<- hT4];exact Z6j _ _
      rw[hsh,if_pos rfl]at hT;have hs':sh'=true:=by
        rcases hT with hT|hT
        . exact hT.1
        . exact absurd hT.2 (by simp)
      exact⟨fun _=>by rw[dec,if_pos h4],fun h=>absurd (.inl hs') h⟩
    . have hx0:(s.getD 0 0).toNat=x:=by rw[hx]at h5;omega
      rw[h8,h9,Z34,List.length_drop]at hT4;by_cases hn:s.length<4+x % 16
      . rw[if_pos (by omega)]at hT4;subst hT4;simp only[if_true]at hT;have hs':sh'=true:=by
          rcases hT with hT|hT
          . exact hT.1
          . exact absurd hT.2 (by simp)
        exact⟨fun _=>Zit h4 (.inl (by rw[hx0];exact .inr (.inr hn))),fun h=>absurd (.inl hs') h⟩
      . rw[if_neg (by omega)]at hT4;subst hT4;simp only[qy4,List.drop_drop,Bool.false_eq_true,if_false]at hT ⊢;have hlen:(List.take (x % 16) (List.drop 4 s)).length=x % 16:=by simp;omega
        rw[hlen];have hcond:∀y:Prop,(¬(x / 64=1)\/8<x % 16->y)->(¬((s.getD 0 0).toNat / 64=1)\/8<(s.getD 0 0).toNat % 16\/s.length<4+(s.getD 0 0).toNat % 16)->y:=fun y hy h=>by
          rw[hx0]at h;rcases h with h|h|h
          . exact hy (.inl h)
          . exact hy (.inr h)
          . exact absurd h hn
        refine⟨fun h=>?_,fun h=>?_⟩
        . by_cases hb:¬(x / 64=1)\/8<x % 16
          . refine Zit h4 (.inl ?_);rw[hx0];rcases hb with hb|hb
            . exact .inl hb
            . exact .inr (.inl hb)
          . have hs':=h.resolve_right hb;refine Zit h4 (.inr ?_);rw[hx0];rcases hT with hT|hT
            . exact hT.2
            . rw[hs']at hT;exact absurd hT.1 (by decide)
        . rcases hT with hT|hT
          . exact absurd (.inl hT.1) h
          . have:=Z11k h4 (fun h2=>hcond _ id h2 |> fun h3=>h (.inr h3)) (by rw[hx0];exact hT.2);rw[this,hx0,h6,h7]
  clear hT hh hT4 hR1 hR2 hR3;simp only[qz,QB,QC,QE,QL,QM];rw[Z18l x hxb,Z19s x hxb,Z19r x hxb];refine⟨fun h1=>?_,fun h1=>?_⟩
  . obtain⟨c,p,rfl⟩:∃c p,s'=c::p:=by
      rcases s' with _|⟨c,p⟩
      . exact absurd rfl h1
      . exact⟨c,p,rfl⟩
    intro w1 hr;refine(Zpq w1 b (c::p) sh' 1 (by omega) (hr.at_ 2 rfl)).mono ?_;rintro e w2 ⟨rfl,c1,c2⟩;have e5:Z34 1 (c::p) sh'=([c],p,sh'):=by rw[Z34,if_neg (by simp only[List.length_cons];omega)];rfl
    rw[e5]at c1;refine⟨[.s [c],.s p,.b sh'],rfl,by rw[e5];rfl,c2,qy2.2 ⟨c1,qy5 _⟩,qy5 _,Zd,?_⟩;simp only[qz,QB,QC,QL,QM];refine⟨fun h2 w' hr=>?_,fun h2=>?_⟩
    . have:dec s=(mNil,1):=by
        by_cases h3:sh'=true\/¬(x / 64=1)\/8<T4.1.length
        . exact hfin.1 h3
        . rw[hfin.2 h3];have:p=[]:=by
            rcases h2 with ((h2|h2)|h2)|h2
            . exact absurd (.inl h2) h3
            . exact h2
            . exact absurd (.inr (.inl (by omega))) h3
            . exact absurd (.inr (.inr (by omega))) h3
          rw[this];rfl
      rw[this];exact Z7x 1 hr.mod
    . have hd:dec s=chkd ⟨((x / 16 % 4:Nat):Int),R2.1,R3.1,T4.1,os,p⟩:=by
        rw[hfin.2 (fun h3=>h2 (by
          rcases h3 with h3|h3|h3
          . exact .inl (.inl (.inl h3))
          . exact .inl (.inr (by omega))
          . exact .inr (by omega)))]
        simp only[finM];rw[if_neg (fun h3=>h2 (.inl (.inl (.inr h3))))]
      refine⟨[.i (chk ⟨((x / 16 % 4:Nat):Int),R2.1,R3.1,T4.1,os,p⟩)],rfl,fun _ w' hr=>Zbh w' ⟨((x / 16 % 4:Nat):Int),R2.1,R3.1,T4.1,os,p⟩ v (hr.at_ 0 rfl) ?_ ?_ ?_,?_⟩
      . simp only[List.length_cons]at hlo ⊢;omega
      . simp only;omega
      . simp only[List.length_cons]at hlo ⊢;omega
      simp only[qz,QA];refine⟨fun h3 w' hr=>?_,fun h3 w' hr=>?_⟩
      . rw[hd,Zxx h3];exact Z7x _ hr.mod
      . rw[hd,Zxw (qy9.1 h3)];exact⟨v,rfl,hr.at_ 0 rfl,hfr1,hr.mod⟩
  . have hs':=qy9.1 h1;subst hs';refine⟨fun h2 w' hr=>?_,fun h2=>?_⟩
    . rw[hfin.1 (by
        rcases h2 with (h2|h2)|h2
        . exact .inl h2
        . exact .inr (.inl (by omega))
        . exact .inr (.inr (by omega)))]
      exact Z7x 1 hr.mod
    . have hd:dec s=chkd ⟨((x / 16 % 4:Nat):Int),R2.1,R3.1,T4.1,os,[]⟩:=hfin.2 (fun h3=>h2 (by
          rcases h3 with h3|h3|h3
          . exact .inl (.inl h3)
          . exact .inl (.inr (by omega))
          . exact .inr (by omega)))
      refine⟨[.i (chk ⟨((x / 16 % 4:Nat):Int),R2.1,R3.1,T4.1,os,[]⟩)],rfl,fun _ w' hr=>Zbh w' ⟨((x / 16 % 4:Nat):Int),R2.1,R3.1,T4.1,os,[]⟩ v (hr.at_ 0 rfl) ?_ ?_ ?_,?_⟩
      . simp only[List.length_nil]at hlo ⊢;omega
      . simp only;omega
      . simp
      simp only[qz,QA];refine⟨fun h3 w' hr=>?_,fun h3 w' hr=>?_⟩
      . rw[hd,Zxx h3];exact Z7x _ hr.mod
      . rw[hd,Zxw (qy9.1 h3)];exact⟨v,rfl,hr.at_ 0 rfl,hfr1,hr.mod⟩
theorem Zpt:chk mGet=0:=by decide
theorem Zs0:msgB mGet=[65,1,1,2,116,96,81,97,1,98]:=by decide +kernel
theorem Z11m:dec [65,1,1,2,116,96,81,97,1,98]=(mGet,0):=by rfl
abbrev decV (s:List UInt8) (v:Value):List V:=[.i (dec s).1.kind,.i (dec s).1.code,.i (dec s).1.id,.s (dec s).1.tok,.v v,.r ((dec s).1.opts.map encO),.s (dec s).1.pay,.i (dec s).2]
abbrev getV (v:Value):List V:=[.i mGet.kind,.i mGet.code,.i mGet.id,.s mGet.tok,.v v,.r (mGet.opts.map encO),.s mGet.pay]
theorem Z18m:encR mGet=([65,1,1,2,116,96,81,97,1,98],0):=by rw[encR,if_pos Zpt,Zs0]
set_option maxRecDepth 10000 in
theorem Zfj (w:World):Calls Tryz.prog 31 #[] w fun e w'=>e=.returned (.bool true)/\Mod [] w w':=by
 refine Z1 (Z7 (ρ:=[]) sxE_ok Tryz.func31 Z3o rfl rfl rfl ?_) rfl;simp only[Tree.goal,X.P,X.ev,SV.ev,CV.ev,Sc.ev,qz,QA,QB,QC,QM];intro w1 hr;refine(Zi4 w1).mono ?_;rintro e w2 ⟨v1,rfl,r1,f1,m1⟩;refine⟨getV v1,rfl,rfl,m1,qy5 _,qy2.2 ⟨⟨r1,fun k hk=>.inl (f1 k hk)⟩,qy5 _⟩,Z3,?_⟩;simp only[qz,QA,QC,QE,QL,QM,getV];refine⟨[.s (encR mGet).1,.i (encR mGet).2],rfl,fun _ w' hr=>Z10c w' mGet v1 (hr.at_ 0 rfl) (by decide) (by decide) (by decide),?_⟩;simp only[qz,QA,QC,QL,QM,Z18m];intro w3 hr3;refine(Z11l w3 [65,1,1,2,116,96,81,97,1,98] (by decide)).mono ?_;rintro e w4 ⟨v2,rfl,r1,f1,m1⟩;refine⟨decV [65,1,1,2,116,96,81,97,1,98] v2,rfl,rfl,m1,qy5 _,qy2.2 ⟨⟨r1,fun k hk=>.inl (f1 k hk)⟩,qy5 _⟩,Z3,?_⟩;simp only[qz,QA,QC,QE,QL,QM,decV,Z11m];intro b;refine⟨fun _=>?_,fun h=>absurd ⟨trivial,trivial⟩ h⟩;intro w5 hr5;refine(Zi4 w5).mono ?_;rintro e w6 ⟨v3,rfl,r1,f1,m1⟩;refine⟨getV v3,rfl,rfl,m1,qy5 _,qy2.2 ⟨⟨r1,fun k hk=>.inl (f1 k hk)⟩,qy5 _⟩,Z3,?_⟩;simp only[qz,QA,QC,QE,QL,QM,getV];refine⟨[.i (chk mGet)],rfl,fun _ w' hr=>Zbh w' mGet v3 (hr.at_ 0 rfl) (by decide) (by decide) (by decide),?_⟩;simp only[qz,QA,QL,QM,Zpt];have both1:∀{p:Prop},p->p/\p:=fun h=>⟨h,h⟩
 try refine both1 ?_
 refine⟨fun _=>?_,fun h=>absurd ⟨trivial,trivial⟩ h⟩;intro w7 hr7;refine(Zi4 w7).mono ?_;rintro e w8 ⟨v4,rfl,r1,f1,m1⟩;refine⟨getV v4,rfl,rfl,m1,qy5 _,qy2.2 ⟨⟨r1,fun k hk=>.inl (f1 k hk)⟩,qy5 _⟩,Z3,?_⟩;simp only[qz,QA,QC,QE,QL,QM,getV];refine⟨[.b true],rfl,fun _ w' hr=>Zae w' mGet mGet v2 v4 (hr.at_ 3 rfl) (hr.at_ 0 rfl) (by decide),?_⟩;simp only[qz,QB];exact fun w' hr=>⟨by trivial,hr.mod⟩
end Go.Proofs.YtkhakgbnfapifaaGreatDoor
