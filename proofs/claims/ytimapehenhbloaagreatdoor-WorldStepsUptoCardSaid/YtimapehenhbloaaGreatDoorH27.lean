/- By an AI agent. -/
import Derived.Test.YtimapehenhbloaaGreatDoorH26
set_option linter.all false
set_option maxHeartbeats 20000000
set_option maxRecDepth 100000
open Nat renaming reduceAdd→ra
open List renaming map_append→ϐ,length_cons→ϒ,length_nil→ϕ,mem_or_eq_of_mem_set→ϖ,map_nil→ϗ,map_cons→Ϙ,getD_cons_zero→ϙ,getD_cons_succ→Ϛ,take_length→Ϟ,append_nil→Ϡ,getElem?_set_self→Ϥ,mem_map→ϥ,map_set→Ϧ,not_mem_nil→ϧ,map_take→Ϩ,mem_cons→ϩ,mem_of_mem_take→Ϫ,pairwise_cons→ϫ,foldl_append→Ϭ,flatMap_cons→ϭ,map_drop→Ϯ,all_eq_true→ϯ,pairwise_singleton→ϰ,mem_of_mem_drop→ϳ,take_set_of_le→Ϸ,drop_set_of_lt→ϸ,append_assoc→ϻ,length_take→γ,mem_flatMap→ε,flatMap_nil→ζ,length_set→μ,map_map→ν,set_set→ξ
open Nat renaming succ_pos→ϑ,le_trans→ϓ,add_zero→ϱ,sub_self→ϲ,le_refl→η
open Go.Proofs.Tryz renaming prog→ϔ
open Option renaming none→Ϝ,mem_toList→β,some→δ
open Bool renaming true→Ϣ,false→θ
open Go renaming Value→ϣ,World→Ϲ,Calls→Ϻ
namespace Go.Proofs.Y
open Go Go.Sx
section
variable {α:Type} (d:α)
def Zlr(l:List α)(i:Nat)(h:i<l.length):l.take (i+1)=l.take i++[l.getD i d]:=by rw[List.take_add_one,qy1,qy7 h];rfl
def Z64(p:α->Bool)(l:List α)(i:Nat)(h:i<l.length):(l.take (i+1)).filter p=(l.take i).filter p++(if p (l.getD i d)=Ϣ then[l.getD i d]else[]):=by
 rw[Zlr d l i h,List.filter_append];generalize l.getD i d=o
 by_cases h1:p o=Ϣ<;>simp[h1]
variable{i:Nat}
def Zsa{p:α->Bool}{l:List α}(h:∀j,j<i->p (l.getD j d)=Ϣ):(l.take i).filter p=l.take i:=by rw[List.filter_eq_self];intro x hx;obtain⟨j,hj,rfl⟩:=List.getElem_of_mem hx;simp only[γ]at hj;have:=h j O;rw[List.getElem_take];rwa [qy1,qy7 O]at this
variable{j:Nat}
def Zsb{R l:List α}(hd:R.drop j=l.drop j):R.getD j d=l.getD j d:=by have:=congrArg (λl=>l[0]?) hd;simp only[List.getElem?_drop,ϱ]at this;rw[qy1,qy1,this]
def Z14w{R l:List α}{a:Nat}{p:α->Bool}(haj:a<j)(hj:j<l.length)(hR:R.length=l.length)(ht:R.take a=(l.take j).filter p)(hd:R.drop j=l.drop j)(hp:p (l.getD j d)=Ϣ): (R.set a (R.getD j d)).take (a+1)=(l.take (j+1)).filter p:=by
 rw[Z64 d p l j hj,ϝ hp,<- ht,Zsb d hd,Zlr d _ _ O3];congr 1
 ·rw[Ϸ (η _)]
 ·rw[qy1,Ϥ O];rfl
end
variable{j:Nat}
def Zn8{α:Type}{R l:List α}(hd:R.drop j=l.drop j):R.drop (j+1)=l.drop (j+1):=by have:=congrArg (λl=>l.drop 1) hd;simpa[Nat.add_comm]using this
def Z1a9(n:Int)(h:0<=n/\n<=65536):Z2l .and .i64 n 65535=n % 65536:=by
 obtain⟨x,rfl⟩:∃x:Nat,n=x:=⟨n.toNat,O⟩
 have oi:∀x:Nat,x<2 ^ 63->(BitVec.ofInt 64 (x)).toNat=x:=λx h=>O3
 have h127:(65535:Int)=((65535:Nat)):=rfl;simp only[h127]
 show IntKind.i64.wrap (((BitVec.ofInt 64 (x:Int)) &&& (BitVec.ofInt 64 ((65535:Nat):Int))).toNat:Int)=_
 rw[BitVec.toNat_and,oi x O,oi 65535 O];have e:=Nat.and_two_pow_sub_one_eq_mod x 16;rw[e,IntKind.wrap_i64];omega
def Z14x(n:Int)(h:0<=n/\n<=65535):Z2l .and .i64 (n+1) 65535=nx_Z n:=Z1a9 _ O
def nilX(s:Snt):SntX:=(s,.slice Ϝ 0 0,.slice Ϝ 0 0,.slice Ϝ 0 0)
def nilS(s:Snt):Prop:=s.pk.asks=[]/\s.pk.codes=[]/\s.msg.opts=[]
def Z1fo{s:Snt}(h:nilS s)(w:Ϲ):Z4h w (nilX s).2.1 s.pk.asks/\Z3p w (nilX s).2.2.1 s.pk.codes/\Z3q w (nilX s).2.2.2 s.msg.opts:=by obtain⟨a,b,c⟩:=h;rw[a,b,c];exact⟨Z6 _ _,Z6 _ _,Z6 _ _⟩
def Z1aa{s:Snt}(h:nilS s):¬sntF (nilX s) j:=by
 obtain⟨a,b,c⟩:=h;rintro(⟨h,-⟩|⟨h,-⟩|⟨h,-⟩)
 ·simp only[nilX,a]at h;exact h rfl
 ·simp only[nilX,b]at h;exact h rfl
 ·simp only[nilX,c]at h;exact h rfl
variable{l:List SesX}{o:List SntX}
def Zbs{add:List Snt}(h:∀s∈add,nilS s):(∀w,(Z3 l o).holds w->(Z3 l (o++add.map nilX)).holds w)/\∀j,(Z3 l (o++add.map nilX)).fp j->(Z3 l o).fp j:=by
 refine⟨λw hw=>Z10 (λt ht=>.inl ht) (λt ht=>?_) hw,λj hj=>?_⟩
 ·rcases qy13.1 ht with ht|ht
  ·exact .inl ht
  ·obtain⟨s,hs,rfl⟩:=ϥ.1 ht;exact .inr (Z1fo (h s hs) w)
 ·rcases Z7.1 hj with h1|⟨t,ht,hk⟩
  ·exact Z7.2 (.inl h1)
  ·rcases qy13.1 ht with ht|ht
   ·exact Z7.2 (.inr ⟨t,ht,hk⟩)
   ·obtain⟨s,hs,rfl⟩:=ϥ.1 ht;exact ϟ hk (Z1aa (h s hs))
def Z10b(R:List Wat)(m:Nat)(x:Wat):(R.map Z4).set m [.int .i64 x.1,.string ⟨x.2.1.toArray⟩,.string ⟨x.2.2.1.toArray⟩,.int .i64 x.2.2.2]=(R.set m x).map Z4:=by rw[Ϧ];rfl
def Z2u(n:By)(l:List Wat)(i:Nat)(t:Tel):Tel:=((l.take i).filter (ofT n)).foldl Zaq t
variable{i:Nat}
def Zbt{n:By}{l:List Wat}(t:Tel)(h:i<l.length):Z2u n l (i+1) t=if(l.getD i wD_K).2.2.1=n then Zaq (Z2u n l i t) (l.getD i wD_K)else Z2u n l i t:=by
 unfold Z2u;rw[Z64 wD_K _ l i h];by_cases h1:(l.getD i wD_K).2.2.1=n
 ·rw[ϝ h1,ϝ (show ofT n (l.getD i wD_K)=Ϣ from decide_eq_true h1),Ϭ];rfl
 ·rw[ϛ h1,ϛ (by rw[ofT,decide_eq_false h1];decide),Ϡ]
variable(w:Ϲ)
def Zxt(k:Nat)(x:TelX)(n p:By)(hr:Rel ⟨Zh (tlA k x) tlH,w⟩ (tlA k x++[.s n,.s p]) tlH w)(hb:BOk x.tel)(ho:x.ox.length<100000): Ϻ ϔ 209 #[.pointer (δ ⟨k,0,Ϝ⟩),.string ⟨n.toArray⟩,.string ⟨p.toArray⟩] w λe w'=>e=.returned (.bool (Z13 n p x.tel).2)/\Zbc w w' k x (λ_=>False) (Z13 n p x.tel).1:=by
 refine Wu Za3 hr ?_;simp only[QR,ra,Z36,Z37,Z1s,gW3];intro b1 w1 hr1;refine(Z1hi w1 x.kv x.kept n p (hr1.at_ 1 rfl) hb.kept).mono ?_;rintro e w2 ⟨u,rfl,a1,f1,m1⟩;refine⟨[.v u,.r ((rawK x.kept n p).1.map encK),.i (rawK x.kept n p).2],rfl,rfl,m1,qy5 _,qy2.2 ⟨⟨a1,λk hk=>.inl (f1 k hk.2)⟩,qy5 _⟩,Z2,?_⟩;have f2:∀j,Z1 u j->w.heap.size<=j:=λj hj=>ϓ hr1.mod.size (f1 j hj);clear a1 f1 m1 hr1 hr;obtain⟨K,hK⟩:∃K,K=(rawK x.kept n p).1:=⟨_,rfl⟩
 simp only[QR,ra,Z36,Z37,Z1s,gW3,<- hK];refine⟨λh1 w3 hr=>?_,λh1=>⟨λh2 w3 hr=>?_,λh2=>?_⟩⟩
 ·have e:Z13 n p x.tel=(x.tel,θ):=by rw[Z13,ϝ (show ¬(rawK x.tel.kept n p).2=0 from h1)]
  rw[e];exact⟨rfl,x,rfl,(hr.pick [2,3,4,5,6,7,8] U).conv rfl,.refl _ _ _⟩
 ·have e:Z13 n p x.tel=({ x.tel with kept:=K },Ϣ):=by rw[Z13,ϛ (show ¬¬(rawK x.tel.kept n p).2=0 from h1),ϝ h2,hK];rfl
  rw[e];exact⟨rfl,{ x with kept:=K,kv:=u },rfl,(hr.pick [0,3,4,5,6,7,8] U).conv rfl,λj hj=>.inl (f2 j hj.2),λj hj=>.inr hj,λj hj=>.inr (.inl hj)⟩
 ·have h2:=qy9.1 h2;obtain⟨T0,hT0⟩:∃T0:Tel,T0=⟨K,x.wants,x.sx.map (·.1),x.wat,x.next,x.ox.map (·.1)⟩:=⟨_,rfl⟩
  have q0:T0.next=x.next:=by rw[hT0]
  have q1:T0.out=x.tel.out:=by rw[hT0];rfl
  have q2:0<=T0.next/\T0.next<=65535:=by rw[q0];exact hb.next
  have q3:T0.kept=K/\T0.wants=x.wants/\T0.sess=x.sx.map (·.1):=by rw[hT0];exact⟨rfl,rfl,rfl⟩
  have e:Z13 n p x.tel=({ Z2u n x.wat x.wat.length T0 with wat:=x.wat.filter λw=>!ofT n w },Ϣ):=by rw[Z13,ϛ (show ¬¬(rawK x.tel.kept n p).2=0 from h1),ϛ (qy9.2 h2),Z2u,Ϟ,hT0,hK];rfl
  rw[e];have hw12:x.wat.length<=12:=(Z17.1 hb.wat).1;have hnx:∀i,0<=(Z2u n x.wat i T0).next/\(Z2u n x.wat i T0).next<=65535:=λi=>(Zgx _ T0 q2).2.2.2.2.1;have hol:∀i,(Z2u n x.wat i T0).out.length<=x.ox.length+12:=λi=>by
   have h3:=(Zgx ((x.wat.take i).filter (ofT n)) T0 q2).2.2.2.2.2;have h4:((x.wat.take i).filter (ofT n)).length<=(x.wat.take i).length:=List.length_filter_le _ _;have h5:(x.wat.take i).length<=x.wat.length:=O3
   have h6:x.tel.out.length=x.ox.length:=by simp[TelX.tel]
   unfold Z2u;rw[h3,q1,h6];omega
  refine⟨Asrt.tt,λ_ _=>trivial,λ_ hk=>hk.elim,?_⟩;refine⟨λvs=>∃(i:Nat) (u':ϣ) (add:List Snt),vs=[.i i,.a Asrt.tt,.v u,.r (K.map encK),.v x.wv,.r (x.wants.map encK),.v x.sv,.r (x.sx.map Ze),.i (Z2u n x.wat i T0).next,.v u',.r ((x.ox++add.map nilX).map Zp)]/\i<=x.wat.length/\(Z2u n x.wat i T0).out=x.tel.out++add/\∀s∈add,nilS s,
   λvs=>(x.wat.length - (vs.getD 0 (.i 0)).toI).toNat,⟨0,x.ov,[],by simp[Z2u,q0],O,by simp[Z2u,q1],O1⟩,?_⟩
  rintro _ - ⟨i,u',add,rfl,hi,hT,hnil⟩;simp only[QR,ra,Z36,Z37,Z1s,gW3];have hnxi:=hnx i;have hadd:add.length<=12:=by have:=hol i;rw[hT,qy11,show x.tel.out.length=x.ox.length by simp[TelX.tel]]at this;omega
  refine⟨λh3=>⟨O,λb3=>⟨λh4=>?_,λh4=>?_⟩⟩,λh3=>?_⟩
  ·have hst:=Zbt (n:=n) T0 (show i<x.wat.length by omega);rw[ϝ h4]at hst;refine⟨λvs=>∃v:ϣ,vs=[.i 0,.i 0,.v v],?_,?_⟩
   ·simp only[qy11,qy3,ϒ,ϕ];repeat' (first|exact⟨_,rfl⟩|omega|(intro _)|(refine⟨?_,?_⟩))
   rintro _ - ⟨v,rfl⟩;simp only[QR,ra,Z36,Z37,Z1s,gW3];refine⟨by omega,by omega,Asrt.tt,λ_ _=>trivial,λ_ hk=>hk.elim,⟨i+1,v,add++[toP (x.wat.getD i wD_K).1 ⟨1,132,(Z2u n x.wat i T0).next,(x.wat.getD i wD_K).2.1,[],[]⟩],?_,by omega,?_,?_⟩,by omega⟩
   ·rw[hst,Z14x _ hnxi];simp only[ϐ,ϻ,Ϙ,ϗ];rfl
   ·rw[hst];show(Z2u n x.wat i T0).out++_=_;rw[hT,ϻ]
   ·intro s hs;rcases qy13.1 hs with hs|hs
    ·exact hnil s hs
    ·rw[qy12.1 hs];exact⟨rfl,rfl,rfl⟩
  ·have hst:=Zbt (n:=n) T0 (show i<x.wat.length by omega);rw[ϛ h4]at hst;refine⟨by omega,by omega,Asrt.tt,λ_ _=>trivial,λ_ hk=>hk.elim,⟨i+1,u',add,by rw[hst];rfl,by omega,by rw[hst];exact hT,hnil⟩,by omega⟩
  have hil:i=x.wat.length:=by omega
  subst hil;obtain⟨T,hTd⟩:∃T,T=Z2u n x.wat x.wat.length T0:=⟨_,rfl⟩
  have hTs:=Zgx ((x.wat.take x.wat.length).filter (ofT n)) T0 q2;rw[<- hTd]at hT hnxi⊢;have hend:∀(W:List Wat) (av':ϣ) (w3:Ϲ) (J':List V) (hp':List Ent),W=x.wat.filter (λw=>!ofT n w)->Rel ⟨Zh (tlA k x) tlH,w⟩ J' hp' w3->hp'.all (Ent.bd J'.length)=Ϣ->(∃e∈hp',e.wr=θ/\e.sem J'=Ent.sem (tlA k x) (.st 12)) ->
    ∀is:List Nat,is.Nodup->(is.filterMap λi=>(Ent.st J'.length::hp')[i]?).map (Ent.sem (J'++[.a (Z3 x.sx (x.ox++add.map nilX))]))=tlH.map (Ent.sem (tlA k ⟨K,x.wants,x.sx,W,T.next,x.ox++add.map nilX,u,x.wv,x.sv,av',u'⟩)) ->
    Zbc w w3 k x (λ_=>False) { T with wat:=x.wat.filter λw=>!ofT n w }:=by
   intro W av' w3 J' hp' hW hr3 hbd ⟨e,he,hwf,hse⟩ is hn hs;obtain⟨q1,q2⟩:=Zbs hnil;have hA:(Z3 x.sx x.ox).holds w3:=by have h5:=hr3.holds e he;rw[show e.holds J' w3=(Z3 x.sx x.ox).holds w3 from congrFun (congrArg SEnt.holds hse) w3]at h5;exact h5
   have hF:∀j,(Z3 x.sx x.ox).fp j->e.fp J' j:=λj hj=>by rw[show e.fp J' j=(Z3 x.sx x.ox).fp j from congrFun (congrArg SEnt.fp hse) j];exact hj
   refine⟨⟨K,x.wants,x.sx,W,T.next,x.ox++add.map nilX,u,x.wv,x.sv,av',u'⟩,?_,Zs9 hr3 hbd k _ (q1 w3 hA) (λj hj=>⟨e,he,hwf,hF j (q2 j hj)⟩) is hn hs,λj hj=>.inl (f2 j hj.2),λj hj=>.inr hj,λj hj=>.inr (.inl (q2 j hj))⟩;have e1:T.kept=K:=by rw[hTd];exact hTs.1.trans q3.1
   have e2:T.wants=x.wants:=by rw[hTd];exact hTs.2.1.trans q3.2.1
   have e3:T.sess=x.sx.map (·.1):=by rw[hTd];exact hTs.2.2.1.trans q3.2.2
   have e4:(x.ox++add.map nilX).map (·.1)=T.out:=by rw[hT];simp[TelX.tel,nilX,Function.comp_def]
   simp only[TelX.tel,e4,hW];cases T;simp only at e1 e2 e3⊢;rw[e1,e2,e3]
  obtain⟨l,hlw⟩:∃l,l=x.wat:=⟨_,rfl⟩
  rw[<- hlw]at hw12 hend⊢;generalize hkp:(λw:Wat=>!ofT n w)=kp at hend⊢
  have key:∀z:Wat,z.2.2.1=n->¬kp z=Ϣ:=λz hz=>by rw[<- hkp];simp[ofT,hz]
  have key2:∀z:Wat,¬z.2.2.1=n->kp z=Ϣ:=λz hz=>by rw[<- hkp];simp[ofT,hz]
  refine⟨λvs=>∃(x:V) (i:Nat),vs=[x,.i i,.s n]/\i<=l.length/\∀j,j<i->kp (l.getD j wD_K)=Ϣ,λvs=>(l.length - (vs.getD 1 (.i 0)).toI).toNat,⟨_,0,rfl,by omega,λj hj=>by omega⟩,?_⟩;rintro _ - ⟨z,i,rfl,hi,hn⟩;simp only[QR,ra,Z36,Z37,Z1s,gW3];refine⟨λh1=>?_,λh1 w3 hr=>⟨by trivial,?_⟩⟩
  ·repeat (first|omega|refine⟨by omega,?_⟩)
   intro b7;refine⟨λh2=>⟨λh3=>by omega,λh3=>⟨by omega,by omega,?_⟩⟩,λh2=>?_⟩
   ·refine⟨λvs=>∃(a j:Nat) (R:List Wat),vs=[.i a,.i j,.s n,.r (R.map Z4)]/\a<j/\j<=l.length/\R.length=l.length/\R.take a=(l.take j).filter kp/\R.drop j=l.drop j,λvs=>(l.length - (vs.getD 1 (.i 0)).toI).toNat,
     ⟨i,i+1,l,rfl,by omega,by omega,rfl,?_,rfl⟩,?_⟩
    ·rw[Z64 wD_K kp l i (by omega),ϛ (key _ h2),Ϡ,Zsa wD_K hn]
    rintro _ - ⟨a,j,R,rfl,haj,hj,hR,ht,hd⟩;simp only[QR,ra,Z36,Z37,Z1s,gW3,hR];refine⟨λh3=>?_,λh3=>?_⟩
    ·repeat (first|omega|refine⟨by omega,?_⟩)
     intro b8 b9;have hg:=Zsb wD_K hd;refine⟨λh4=>?_,λh4=>?_⟩
     ·repeat (first|omega|refine⟨by omega,?_⟩)
      refine⟨⟨a+1,j+1,R.set a (R.getD j wD_K),?_,by omega,by omega,by simpa using hR,Z14w wD_K haj (by omega) hR ht hd (key2 _ (by rw[<- hg];exact h4)),?_⟩,by omega⟩
      ·rw[<- Z10b];rfl
      ·rw[ϸ (by omega)];exact Zn8 hd
     ·repeat (first|omega|refine⟨by omega,?_⟩)
      refine⟨⟨a,j+1,R,rfl,by omega,by omega,hR,?_,Zn8 hd⟩,by omega⟩;rw[Z64 wD_K kp l j (by omega),ϛ (key _ (by rw[<- hg];exact qy9.1 h4)),Ϡ];exact ht
    ·have hje:j=l.length:=by omega
     subst hje;rw[Ϟ]at ht;refine⟨by omega,by omega,?_,λu2 w3 hr=>⟨by trivial,?_⟩⟩
     ·simp only[qy11,γ,List.length_replicate,qy3,hR];omega
     ·refine hend (l.filter kp) u2 w3 _ _ rfl hr (by rfl) ⟨_,qy6 (i:=10) rfl,rfl,rfl⟩ [5,8,9,1,10,0,12] (by decide) (Zd rfl (Zd rfl (Zd rfl (Zd (Z3w rfl ?_) rfl))));simp only[QR,ra,Z36,Z37,Z1s,gW3];rw[List.take_append_of_le_length (by simp;omega),List.take_take,Nat.min_self,<- Ϩ,ht]
   ·repeat (first|omega|refine⟨by omega,?_⟩)
    refine⟨⟨_,i+1,rfl,by omega,λj hj=>?_⟩,by omega⟩;by_cases hji:j=i
    ·subst hji;exact key2 _ h2
    ·exact hn j (by omega)
  ·have hie:i=l.length:=by omega
   subst hie;have e1:=Zsa wD_K (p:=kp) hn;rw[Ϟ]at e1;exact hend l x.av w3 _ _ e1.symm hr (by rfl) ⟨_,qy6 (i:=9) rfl,rfl,rfl⟩ [3,6,7,8,9,0,11] (by decide) rfl
variable{J:List V}
def Zad{B:Base}{hp:List Ent}{w:Ϲ}(h:Rel B J hp w)(hb:hp.all (Ent.bd J.length)=Ϣ)(k:Nat)(x:TelX)(A':Asrt)(Jx:List V)(hx:List Ent)(hA:(Z3 x.sx x.ox).holds w)(hf:∀j,(Z3 x.sx x.ox).fp j->∃e∈hp,e.wr=θ/\e.fp J j)(hA':A'.holds w)(hf':∀j,A'.fp j->∃e∈hp,e.wr=θ/\e.fp J j)(is:List Nat)(hn:is.Nodup)(hfp:Zh (tlA k x++Jx) (tlH++hx)=Zh (tlA k x) tlH)(hs:(is.filterMap λi=>(Ent.st (J++[V.a (Z3 x.sx x.ox)]).length::Ent.st J.length::hp)[i]?).map (Ent.sem (J++[.a (Z3 x.sx x.ox)]++[.a A']))=(tlH++hx).map (Ent.sem (tlA k x++Jx))): Rel ⟨Zh (tlA k x) tlH,w⟩ (tlA k x++Jx) (tlH++hx) w:=by
 have h1:=h.gather hb _ hA hf;have hb1:(Ent.st J.length::hp).all (Ent.bd (J++[V.a (Z3 x.sx x.ox)]).length)=Ϣ:=by rw[List.all_cons,Bool.and_eq_true];refine⟨by simp[Ent.bd],ϯ.2 λe he=>Ent.bd_mono O1 e (ϯ.1 hb e he)⟩
 have ha:Z18 J.length J (J++[V.a (Z3 x.sx x.ox)]):=Z18.app _ _;have h2:=h1.gather hb1 A' hA' λj hj=>by obtain⟨e,he,hw,hef⟩:=hf' j hj;exact⟨e,qy10 _ he,hw,(Ent.fp_bd ha e (ϯ.1 hb e he) j).1 hef⟩
 have h3:=((h2.pick is hn).conv hs).base;rw[hfp]at h3;exact h3
def Z23(k:Nat)(x:TelX)(c:By)(lv:ϣ)(l:List Z39)(hr:Rel ⟨Zh (tlA k x) tlH,w⟩ (tlA k x++pkA c lv l) (tlH++pkH) w)(hl:l.length<1000000)(ho:x.ox.length<1000000): Ϻ ϔ 216 #[.pointer (δ ⟨k,0,Ϝ⟩),.string ⟨c.toArray⟩,sc1 lv] w λe w'=>e=.returned (.tuple #[])/\Zbc w w' k x (Za l).fp { x.tel with out:=x.tel.out++l.map λt=>toC c t.1 }:=by
 refine(Z14u w k x c lv l hr hl ho).mono ?_;rintro e w' ⟨rfl,ov',hr'⟩;refine⟨rfl,{ x with ox:=x.ox++l.map (Zkq c),ov:=ov' },?_,hr',λj hj=>.inr hj,λj hj=>.inr hj,λj hj=>?_⟩
 ·simp[TelX.tel,Zkq]
 ·rcases Z7.1 hj with h1|⟨t,ht,hk⟩
  ·exact .inr (.inl (Z7.2 (.inl h1)))
  ·rcases qy13.1 ht with ht|ht
   ·exact .inr (.inl (Z7.2 (.inr ⟨t,ht,hk⟩)))
   ·obtain⟨p,hp,rfl⟩:=ϥ.1 ht;exact .inr (.inr (Zet hp (Zpg hk)))
def pkN(p:Pk):Z39:=(pkOf p,.slice Ϝ 0 0,.slice Ϝ 0 0)
def Z7o(l:List Pk):(l.map pkN).map Z2y=l.map encP:=by rw[ν];rfl
def Z6p(l:List Pk)(w:Ϲ):(Za (l.map pkN)).holds w:=by intro t ht;obtain⟨p,hp,ht⟩:=ε.1 ht;obtain⟨q,hq,rfl⟩:=ϥ.1 hp;simp only[Zkp,ϩ,ϧ,or_false]at ht;rcases ht with rfl|rfl<;>exact Z6 _ _
def Z3z{l:List Pk}:¬(Za (l.map pkN)).fp j:=by rintro⟨t,ht,h1,h2⟩;obtain⟨p,hp,ht⟩:=ε.1 ht;obtain⟨q,hq,rfl⟩:=ϥ.1 hp;simp only[Zkp,ϩ,ϧ,or_false]at ht;rcases ht with rfl|rfl<;>exact h1 rfl
def Zg9(c:By)(l:List Pk):((l.map pkN).map λt=>toC c t.1)=l.map λp=>toC c (pkOf p):=by rw[ν];rfl
def Z5t{t:SesX}{w:Ϲ}(h:(Z3 l o).holds w)(h1:Zi w t.2.1 t.1.fl)(h2:Zi w t.2.2 t.1.qu):(Z3 (l.set i t) o).holds w :=
 Z10 (λu hu=>by
  rcases ϖ hu with hu|rfl
  ·exact .inl hu
  ·exact .inr ⟨h1,h2⟩) (λu hu=>.inl hu) h
def Z2g{t:SesX}(h:(Z3 (l.set i t) o).fp j):(Z3 l o).fp j\/sesF t j:=by
 rcases Z7.1 h with⟨u,hu,hk⟩|h1
 ·rcases ϖ hu with hu|rfl
  ·exact .inl (Z7.2 (.inl ⟨u,hu,hk⟩))
  ·exact .inr hk
 ·exact .inl (Z7.2 (.inr h1))
def Z2h(l:List SesX)(i:Nat)(t:SesX):(l.map Ze).set i [.string ⟨t.1.cl.toArray⟩,.bool t.1.on,.bool t.1.clean,sc1 t.2.1,sc1 t.2.2,.int .i64 t.1.next]=(l.set i t).map Ze:=by rw[Ϧ];rfl
def Z28(x:TelX):x.tel.sess=x.sx.map (·.1):=rfl
variable{c:By}
def Zls{x:TelX}(h:hasS x.tel.sess c=Ϣ):idxS x.tel.sess c<x.sx.length/\(x.sx.getD (idxS x.tel.sess c) sxD).1=x.tel.sess.getD (idxS x.tel.sess c) s0:=by obtain⟨h1,-⟩:=Z9z h;refine⟨?_,(Zhm _ _).symm⟩;rw[Z28]at h1⊢;simpa using h1
def Zib{n m:Nat}{x y:TelX}{t:SesX}(h:Grew n (λ_=>False) x y)(hm:n<=m)(h1:∀j,Z1 t.2.1 j->m<=j)(h2:∀j,Z1 t.2.2 j->m<=j):Grew n (λ_=>False) x { y with sx:=y.sx.set i t } :=
 h.trans (G:=λ_=>False) ⟨λj hj=>.inr hj,λj hj=>.inr hj,λj hj=>by
  rcases Z2g hj with h3|(⟨-,h3⟩|⟨-,h3⟩)
  ·exact .inr (.inl h3)
  ·exact .inl (h1 j h3)
  ·exact .inl (h2 j h3)⟩ hm (λ_ h=>h.elim)
def Zga{rs:List Rd}{f:Tel->Rd->Tel}{t:Tel}(h:i<rs.length):(rs.take (i+1)).foldl f t=f ((rs.take i).foldl f t) (rs.getD i yD):=by rw[Z1jx rs i h,Ϭ];rfl
def Z4k{u v x:Nat}{ks ks' ks'':List Kd}{r r' r'':X}:Zt J [.rd u ks r,.rd v ks' r',.rd x ks'' r'']:=by
 refine ϫ.2 ⟨λe he=>?_,ϫ.2 ⟨λe he=>?_,ϰ _ _⟩⟩
 ·rintro(h|h)
  ·cases h
  ·rcases ϩ.1 he with rfl|he
   ·cases h
   ·rw[qy12.1 he]at h;cases h
 ·rintro(h|h)
  ·cases h
  ·rw[qy12.1 he]at h;cases h
abbrev optX(s:Snt)(v:ϣ):SntX:=(s,.slice Ϝ 0 0,.slice Ϝ 0 0,v)
def Z1c8(q b:Int):(if b<q then b else q)=min q b:=by split<;>omega
def Zsc(k:Nat)(x:TelX)(n p:By)(q:Int)(hr:Rel ⟨Zh (tlA k x) tlH,w⟩ (tlA k x++[.s n,.s p,.i q]) tlH w)(hb:BOk x.tel)(ho:x.ox.length<100000)(hsm:Z2d x.wants)(hp:flE (0,n,p)=0)(hq:0<=q/\q<=1): Ϻ ϔ 210 #[.pointer (δ ⟨k,0,Ϝ⟩),.string ⟨n.toArray⟩,.string ⟨p.toArray⟩,.int .i64 q] w λe w'=>e=.returned (.tuple #[])/\Zbc w w' k x (λ_=>False) (Z6n n p q x.tel):=by
 refine Wu Za1 hr ?_;simp only[QR,ra,gY0,gY1];have hn60:n.length<=60:=by
  have h1:chkT n θ=0:=by
   unfold flE at hp;split at hp
   ·assumption
   ·exact ϟ hp O5
  exact(Z4r.1 h1).2.1.1
 intro w1 hr1;refine(c_Of w1 x.wv x.wants n (hr1.at_ 1 rfl) hsm O hb.wants).mono ?_;rintro e w2 ⟨v0,rfl,a1,a2,am⟩;obtain⟨rs,hrs⟩:∃rs,rs=rdOf n x.wants:=⟨_,rfl⟩
 rw[<- hrs]at a1;have hrl:rs.length<=20:=by rw[hrs];exact Z14n n hb.wants
 have hrd:∀r∈rs,hasS x.tel.sess r.1=Ϣ:=by rw[hrs];exact Z6o hb n
 refine⟨[.v v0,.r (rs.map encY)],rfl,rfl,am,qy5 _,qy2.2 ⟨⟨a1.reads,λk hk=>.inl (a2 k hk.2)⟩,qy5 _⟩,Z2,?_⟩;clear hr1 a1 a2 am hr;simp only[QR,ra,gY0,gY1];refine⟨Z3 x.sx x.ox,λw hr=>hr.at_ 6 rfl,λj hj=>(qE 6 rfl rfl hj),?_⟩;refine⟨λvs=>∃(i:Nat) (y:TelX),vs=[.i i,.a (Z3 y.sx y.ox),.v y.kv,.r (y.kept.map encK),.v y.wv,.r (y.wants.map encK),.v y.sv,.r (y.sx.map Ze),.v y.av,.r (y.wat.map Z4),.i y.next,.v y.ov,.r (y.ox.map Zp)]/\i<=rs.length/\y.tel=(rs.take i).foldl (Z1p n p q) x.tel/\Grew w.heap.size (λ_=>False) x y,
  λvs=>(rs.length - (vs.getD 0 (.i 0)).toI).toNat,⟨0,x,rfl,O,rfl,.refl _ _ _⟩,?_⟩
 rintro _ - ⟨i,y,rfl,hi,htel,hg⟩;simp only[QR,ra,gY0,gY1];obtain⟨k1,k2,k3,k4,k5,k6,k7⟩:=Zba (q:=q) hp (rs.take i) hb (λr hr=>hrd r (Ϫ hr));rw[<- htel]at k1 k2 k3 k4 k5 k6 k7;have hol:y.ox.length<=x.ox.length+140:=by
  have h1:y.tel.out.length=y.ox.length:=by simp[TelX.tel]
  have h2:x.tel.out.length=x.ox.length:=by simp[TelX.tel]
  have h3:(rs.take i).length<=20:=O3
  omega
 refine⟨λh1=>?_,λh1=>?_⟩
 ·have hi':i<rs.length:=O
  have hmem:rs.getD i yD∈rs:=memY rs i hi';have hh0:hasS y.tel.sess (rs.getD i yD).1=Ϣ:=by rw[Zg6 hb.sort k2];exact hrd _ hmem
  obtain⟨hlt,hse⟩:=Zls hh0;have hok:SesOk (y.sx.getD (idxS y.tel.sess (rs.getD i yD).1) sxD).1:=by rw[hse];exact Zb9 k1 hh0
  have hqr:0<=(rs.getD i yD).2/\(rs.getD i yD).2<=1:=by obtain⟨z,hz,-,-,e⟩:=Zp7 hb.wants (by show rs.getD i yD∈rdOf n x.wants;rw[<- hrs];exact hmem);have:=(Zrr hb.wants z hz).2.2;omega
  refine⟨O,λb1=>⟨[.i (idxS y.tel.sess (rs.getD i yD).1),.b (hasS y.tel.sess (rs.getD i yD).1)],rfl,λ_ w' hr=>Zkm w' y.sv y.sx (rs.getD i yD).1 (hr.at_ 5 rfl).reads k1.sort (by have:=k1.ns;rw[Z28,qy3]at this;omega),?_⟩⟩;generalize hix:idxS y.tel.sess (rs.getD i yD).1=ix at hlt hse hok
  simp only[QR,ra,gY0,gY1];have hrow:=Z57 hlt;simp only[hrow,Ze,ϙ,Ϛ,Value.gI,Value.gB,Value.gS,Zv];have hS0:(y.sx.getD ix sxD)=(y.sx.getD ix sxD):=rfl;generalize hss:y.sx.getD ix sxD=ss at hok hse
  obtain⟨s,s',s''⟩:=ss;simp only at hok hse⊢;obtain⟨S,hS⟩:∃S,S=Z32 s n p (min q (rs.getD i yD).2):=⟨_,rfl⟩
  have hcl':S.1.cl=s.cl/\S.1.on=s.on/\S.1.clean=s.clean:=by rw[hS];exact⟨Zur _ _ _ _,(Zp9 _ _ _ _).1,(Zp9 _ _ _ _).2⟩
  have hS7:S.2.length<=7:=by rw[hS];exact Zg7 n p _ hok.nq
  have hT2:∀u1 u2:ϣ,Z1p n p q y.tel (rs.getD i yD)={ (TelX.tel { y with sx:=y.sx.set ix (S.1,u1,u2) })with out:=(TelX.tel { y with sx:=y.sx.set ix (S.1,u1,u2) }).out++(S.2.map pkN).map λt=>toC (rs.getD i yD).1 t.1 }:=λu1 u2=>by rw[Zg9,Z1p,hix,<- hse,<- hS];simp only[TelX.tel,Ϧ]
  refine⟨O,O,?_,?_⟩
  ·intro w1 hr1;have hs0:=Zy (hr1.at_ 1 rfl:(Z3 y.sx y.ox).holds w1) (Z58 hlt);rw[hss]at hs0;obtain⟨hs1,hs2⟩:=hs0;rw[Z1c8];refine(Zb (Z12x w1 s s' s'' n p (min q (rs.getD i yD).2) hs1 hs2 hok.next (by have:=hok.nf;omega) (by have:=hok.nq;omega)) rfl).mono ?_;rw[<- hS];rintro e w2 ⟨u1,u2,u3,rfl,g1,g2,g3,g4,g5,g6,gm⟩;refine⟨[.s s.cl,.b s.on,.b s.clean,.v u1,.r (S.1.fl.map encF),.v u2,.r (S.1.qu.map encF),.i S.1.next,.v u3,.r ((S.2.map pkN).map Z2y)],rfl,?_,gm,qy5 _,qy2.2 ⟨⟨g1,λk hk=>.inl (g4 k hk.2)⟩,qy2.2 ⟨⟨g2,λk hk=>.inl (g5 k hk.2)⟩,qy2.2 ⟨⟨by show reads w2 u3 kP ((S.2.map pkN).map Z2y);rw[Z7o];exact g3,λk hk=>.inl (g6 k hk.2)⟩,qy5 _⟩⟩⟩,Z4k ..,?_⟩
   ·simp only[QR,ra,sesV,hcl'.1,hcl'.2.1,hcl'.2.2]
   have hnw:w.heap.size<=w1.heap.size:=hr1.mod.size;clear hr1;simp only[QR,ra];intro b2;intro w3 hr3;have hsz3:w.heap.size<=w3.heap.size:=hr3.mod.size;have hA3:(Z3 (y.sx.set ix (S.1,u1,u2)) y.ox).holds w3:=Z5t (hr3.at_ 5 rfl) (hr3.at_ 1 rfl) (hr3.at_ 2 rfl);have hf3:∀j,(Z3 (y.sx.set ix (S.1,u1,u2)) y.ox).fp j->(Z3 y.sx y.ox).fp j\/((S.1.fl.map encF).flatten≠[]/\Z1 u1 j)\/((S.1.qu.map encF).flatten≠[]/\Z1 u2 j):=λj hj=>(Z2g hj).elim (λh=>.inl h) (λh=>.inr h);refine(Z4j (pre:=[]) hr3 46 0 [25,27,30]
    (Z23 w3 k { y with sx:=y.sx.set ix (S.1,u1,u2) } (rs.getD i yD).1 u3 (S.2.map pkN) (Zad hr3 (by rfl) k { y with sx:=y.sx.set ix (S.1,u1,u2) } (Za (S.2.map pkN)) _ _ hA3 (λj hj=>?_) (Z6p _ _) (λj hj=>ϟ hj Z3z) [9,10,11,12,13,1,15,5,0] U rfl (Zd rfl (Zd rfl (Zd (Z3w rfl ?_) rfl)))) (by rw[qy3];omega) (by show y.ox.length<1000000;omega))
    rfl rfl (ϑ _) rfl (λj hj=>?_)).mono ?_
   ·rcases hf3 j hj with h|h|h
    ·exact(qE 5 rfl rfl h)
    ·exact(qE 1 rfl rfl h)
    ·exact(qE 2 rfl rfl h)
   ·simp only[QR,ra];rw[<- Z2h];simp only[hcl'.1,hcl'.2.1,hcl'.2.2]
   ·rcases hj with hj|hj|hj|hj
    ·exact(qE 7 rfl rfl hj)
    ·exact(qE 8 rfl rfl hj)
    ·rcases hf3 j hj with h|h|h
     ·exact(qE 5 rfl rfl h)
     ·exact(qE 1 rfl rfl h)
     ·exact(qE 2 rfl rfl h)
    ·exact ϟ hj Z3z
   rintro e w4 ⟨y2,hy2,hsz4,hgr,rfl,m1,m2,m3,m4⟩;refine⟨tlV y2,rfl,rfl,m1,m2,m3,m4,?_⟩;simp only[QR,ra];refine⟨O,O,Z3 y2.sx y2.ox,λw hr=>hr.at_ 5 rfl,λj hj=>(qE 5 rfl rfl hj),⟨i+1,y2,rfl,O,?_,?_⟩,O⟩
   ·rw[hy2,<- hT2 u1 u2,htel,Zga hi']
   ·exact(Zib hg hnw (λj h=>g4 j h) (λj h=>g5 j h)).trans hgr hsz3 (λj h=>ϟ h Z3z)
  ·intro b2;intro w1 hr1;have hs0:=Zy (hr1.at_ 2 rfl:(Z3 y.sx y.ox).holds w1) (Z58 hlt);rw[hss]at hs0;obtain⟨hs1,hs2⟩:=hs0;rw[Z1c8];refine(Zb (Z12x w1 s s' s'' n p (min q (rs.getD i yD).2) hs1 hs2 hok.next (by have:=hok.nf;omega) (by have:=hok.nq;omega)) rfl).mono ?_;rw[<- hS];rintro e w2 ⟨u1,u2,u3,rfl,g1,g2,g3,g4,g5,g6,gm⟩;refine⟨[.s s.cl,.b s.on,.b s.clean,.v u1,.r (S.1.fl.map encF),.v u2,.r (S.1.qu.map encF),.i S.1.next,.v u3,.r ((S.2.map pkN).map Z2y)],rfl,?_,gm,qy5 _,qy2.2 ⟨⟨g1,λk hk=>.inl (g4 k hk.2)⟩,qy2.2 ⟨⟨g2,λk hk=>.inl (g5 k hk.2)⟩,qy2.2 ⟨⟨by show reads w2 u3 kP ((S.2.map pkN).map Z2y);rw[Z7o];exact g3,λk hk=>.inl (g6 k hk.2)⟩,qy5 _⟩⟩⟩,Z4k ..,?_⟩
   ·simp only[QR,ra,sesV,hcl'.1,hcl'.2.1,hcl'.2.2]
   have hnw:w.heap.size<=w1.heap.size:=hr1.mod.size;clear hr1;simp only[QR,ra];intro w3 hr3;have hsz3:w.heap.size<=w3.heap.size:=hr3.mod.size;have hA3:(Z3 (y.sx.set ix (S.1,u1,u2)) y.ox).holds w3:=Z5t (hr3.at_ 5 rfl) (hr3.at_ 0 rfl) (hr3.at_ 1 rfl);have hf3:∀j,(Z3 (y.sx.set ix (S.1,u1,u2)) y.ox).fp j->(Z3 y.sx y.ox).fp j\/((S.1.fl.map encF).flatten≠[]/\Z1 u1 j)\/((S.1.qu.map encF).flatten≠[]/\Z1 u2 j):=λj hj=>(Z2g hj).elim (λh=>.inl h) (λh=>.inr h);refine(Z4j (pre:=[]) hr3 46 0 [25,27,30]
    (Z23 w3 k { y with sx:=y.sx.set ix (S.1,u1,u2) } (rs.getD i yD).1 u3 (S.2.map pkN) (Zad hr3 (by rfl) k { y with sx:=y.sx.set ix (S.1,u1,u2) } (Za (S.2.map pkN)) _ _ hA3 (λj hj=>?_) (Z6p _ _) (λj hj=>ϟ hj Z3z) [9,10,11,12,13,1,15,4,0] U rfl (Zd rfl (Zd rfl (Zd (Z3w rfl ?_) rfl)))) (by rw[qy3];omega) (by show y.ox.length<1000000;omega))
    rfl rfl (ϑ _) rfl (λj hj=>?_)).mono ?_
   ·rcases hf3 j hj with h|h|h
    ·exact(qE 5 rfl rfl h)
    ·exact(qE 0 rfl rfl h)
    ·exact(qE 1 rfl rfl h)
   ·simp only[QR,ra];rw[<- Z2h];simp only[hcl'.1,hcl'.2.1,hcl'.2.2]
   ·rcases hj with hj|hj|hj|hj
    ·exact(qE 7 rfl rfl hj)
    ·exact(qE 8 rfl rfl hj)
    ·rcases hf3 j hj with h|h|h
     ·exact(qE 5 rfl rfl h)
     ·exact(qE 0 rfl rfl h)
     ·exact(qE 1 rfl rfl h)
    ·exact ϟ hj Z3z
   rintro e w4 ⟨y2,hy2,hsz4,hgr,rfl,m1,m2,m3,m4⟩;refine⟨tlV y2,rfl,rfl,m1,m2,m3,m4,?_⟩;simp only[QR,ra];refine⟨O,O,Z3 y2.sx y2.ox,λw hr=>hr.at_ 5 rfl,λj hj=>(qE 5 rfl rfl hj),⟨i+1,y2,rfl,O,?_,?_⟩,O⟩
   ·rw[hy2,<- hT2 u1 u2,htel,Zga (f:=Z1p n p q) hi']
   ·exact(Zib hg hnw (λj h=>g4 j h) (λj h=>g5 j h)).trans hgr hsz3 (λj h=>ϟ h Z3z)
 ·have hil:i=rs.length:=O
  subst hil;rw[Ϟ]at htel;have hT1:y.tel=Z7m n p q x.tel:=by rw[htel,hrs];rfl
  have hwn:=watN k1.wat;have hw12:y.wat.length<=12:=(Z17.1 k1.wat).1;intro w1 hr1;refine(Z1dy w1 y.av y.wat n (hr1.at_ 5 rfl).reads O hwn).mono ?_;rintro e w2 ⟨v1,v2,rfl,g1,g2,g3,g4,g5,gm⟩;have hnw:w.heap.size<=w1.heap.size:=hr1.mod.size;obtain⟨W,hW⟩:∃W,W=Z3j n y.wat:=⟨_,rfl⟩
  obtain⟨Z,hZ⟩:∃Z,Z=Z3x n y.wat:=⟨_,rfl⟩
  rw[<- hW]at g1;rw[<- hZ]at g2;refine⟨[.v v1,.r (W.map Z4),.v v2,.r (Z.map Z4)],rfl,rfl,gm,qy5 _,qy2.2 ⟨⟨g1,λk hk=>.inl (g3 k hk)⟩,qy2.2 ⟨⟨g2,λk hk=>.inl (g4 k hk)⟩,qy5 _⟩⟩,ϫ.2 ⟨λe he _ k h1 h2=>by rw[qy12.1 he]at h2;exact g5 k h1 h2,ϰ _ _⟩,?_⟩;have hZ12:Z.length<=12:=by rw[hZ];exact Zcz n k1.wat
  have hZn:∀z∈Z,0<=z.2.2.2/\z.2.2.2<=16777215:=λz hz=>by
   rw[hZ,Z3x]at hz;obtain⟨z0,hz0,rfl⟩:=ϥ.1 hz;have:=hwn z0 (List.mem_filter.1 hz0).1;unfold Z5o;split
   ·show 0<=(if 16777215<z0.2.2.2+1 then 0 else z0.2.2.2+1)/\(if 16777215<z0.2.2.2+1 then 0 else z0.2.2.2+1)<=16777215
    split<;>omega
   ·exact this
  clear hr1 g1 g2 g3 g4 g5 gm;obtain⟨T0,hT0⟩:∃T0:Tel,T0=⟨y.kept,y.wants,y.sx.map (·.1),W,y.next,y.ox.map (·.1)⟩:=⟨_,rfl⟩
  have hTB:Z6n n p q x.tel=Z.foldl (Z4s p) T0:=by rw[Z6n,<- hT1,hZ,hT0,hW];rfl
  have hn0:0<=T0.next/\T0.next<=65535:=by rw[hT0];exact k1.next
  refine⟨Z3 y.sx y.ox,λw hr=>hr.at_ 2 rfl,λj hj=>(qE 2 rfl rfl hj),?_⟩;refine⟨λvs=>∃(i:Nat) (z:TelX),vs=[.i i,.a (Z3 z.sx z.ox),.v z.kv,.r (z.kept.map encK),.v z.wv,.r (z.wants.map encK),.v z.sv,.r (z.sx.map Ze),.v z.av,.r (z.wat.map Z4),.i z.next,.v z.ov,.r (z.ox.map Zp)]/\i<=Z.length/\z.tel=(Z.take i).foldl (Z4s p) T0/\Grew w.heap.size (λ_=>False) x z,
   λvs=>(Z.length - (vs.getD 0 (.i 0)).toI).toNat,⟨0,{ y with wat:=W,av:=v1 },rfl,O,by rw[hT0];rfl,hg.kept,hg.want,hg.nest⟩,?_⟩
  rintro _ - ⟨j,z,rfl,hj,hzt,hgz⟩;simp only[QR,ra,Z36,Z37,Z1s,gW3];obtain⟨q1,q2,q3,q4,q5,q6⟩:=Zxj p (Z.take j) T0 hn0;rw[<- hzt]at q1 q2 q3 q4 q5 q6;have hzl:z.ox.length<=x.ox.length+152:=by
   have h1:z.tel.out.length=z.ox.length:=by simp[TelX.tel]
   have h2:T0.out.length=y.ox.length:=by rw[hT0];simp
   have h3:(Z.take j).length<=12:=O3
   omega
  have hzn:0<=z.next/\z.next<=65535:=q5;refine⟨λh1=>?_,λh1 w3 hr=>⟨O6,z,?_,?_,hgz⟩⟩
  ·have hj':j<Z.length:=O
   have hnum:=hZn (Z.getD j wD_K) (by rw[qy1,qy7 hj'];exact List.getElem_mem hj');refine⟨O,λb1=>?_⟩;refine⟨λvs=>∃b:Nat,vs=[.n b],⟨⟨O,O,λb=>⟨b,rfl⟩⟩,λb=>⟨O,O,b,rfl⟩⟩,?_⟩;rintro _ - ⟨b2,rfl⟩;simp only[QR,ra,Z36,Z37,Z1s,gW3];rw[Z14x _ hzn];obtain⟨m0,hm0⟩:∃m0:Msg,m0=⟨1,69,z.next,(Z.getD j wD_K).2.1,[],p⟩:=⟨_,rfl⟩
   obtain⟨m1,hm1⟩:∃m1:Msg,m1=putM m0 (Z.getD j wD_K).2.2.2:=⟨_,rfl⟩
   refine⟨λvs=>∃v' u':ϣ,vs=[.i 0,.i 0,.i 0,.i 0,.i 1,.i 69,.i z.next,.s (Z.getD j wD_K).2.1,.v v',.r (m1.opts.map encO),.s p,.i 0,.i 0,.v u',.r ((z.ox++[optX (toP (Z.getD j wD_K).1 m1) v']).map Zp)]/\∀k,Z1 v' k->w.heap.size<=k,?_,?_⟩
   ·refine⟨λb3 b4=>⟨?_,?_⟩,λb3 b4=>⟨?_,?_⟩⟩
    ·refine⟨[.s (Z33 (Z.getD j wD_K).2.2.2)],rfl,λ_ w' _=>Zg2 w' _ hnum,?_⟩;simp only[QR,ra,Z36,Z37,Z1s,gW3];intro v5;intro w4 hr4;have hn4:=hr4.mod.size;refine(Zb (Zei w4 ⟨1,69,z.next,(Z.getD j wD_K).2.1,[],p⟩ (.slice Ϝ 0 0) v5 6 [Z33 (Z.getD j wD_K).2.2.2] (Z6 _ _) (hr4.at_ 0 rfl).reads (show 0<1000000000 by decide) (show 1<1000000000 by decide)) rfl).mono ?_;rintro e w5 ⟨v',rfl,a1,a2,am⟩;refine⟨[.i 1,.i 69,.i z.next,.s (Z.getD j wD_K).2.1,.v v',.r (m1.opts.map encO),.s p],rfl,rfl,am,qy5 _,qy2.2 ⟨⟨by rw[hm1,hm0];exact a1,λk hk=>.inl (a2 k hk.2)⟩,qy5 _⟩,Z2,?_⟩;intro b6 v6;refine⟨by first|omega|(simp only[qy11,qy3,ϒ,ϕ];omega),λv7=>⟨v',v7,?_,λk hk=>ϓ hn4 (a2 k hk)⟩⟩;(simp only[ϐ,Ϙ,ϗ];rw[hm1,hm0];rfl)
    ·refine⟨[.s (Z33 (Z.getD j wD_K).2.2.2)],rfl,λ_ w' _=>Zg2 w' _ hnum,?_⟩;simp only[QR,ra,Z36,Z37,Z1s,gW3];refine⟨?_,?_⟩
     ·intro v5;intro w4 hr4;have hn4:=hr4.mod.size;refine(Zb (Zei w4 ⟨1,69,z.next,(Z.getD j wD_K).2.1,[],p⟩ (.slice Ϝ 0 0) v5 6 [Z33 (Z.getD j wD_K).2.2.2] (Z6 _ _) (hr4.at_ 0 rfl).reads (show 0<1000000000 by decide) (show 1<1000000000 by decide)) rfl).mono ?_;rintro e w5 ⟨v',rfl,a1,a2,am⟩;refine⟨[.i 1,.i 69,.i z.next,.s (Z.getD j wD_K).2.1,.v v',.r (m1.opts.map encO),.s p],rfl,rfl,am,qy5 _,qy2.2 ⟨⟨by rw[hm1,hm0];exact a1,λk hk=>.inl (a2 k hk.2)⟩,qy5 _⟩,Z2,?_⟩;intro b6 v6;refine⟨by first|omega|(simp only[qy11,qy3,ϒ,ϕ];omega),λv7=>⟨v',v7,?_,λk hk=>ϓ hn4 (a2 k hk)⟩⟩;(simp only[ϐ,Ϙ,ϗ];rw[hm1,hm0];rfl)
     ·intro v5;intro w4 hr4;have hn4:=hr4.mod.size;refine(Zb (Zei w4 ⟨1,69,z.next,(Z.getD j wD_K).2.1,[],p⟩ (.slice Ϝ 0 0) v5 6 [Z33 (Z.getD j wD_K).2.2.2] (Z6 _ _) (hr4.at_ 0 rfl).reads (show 0<1000000000 by decide) (show 1<1000000000 by decide)) rfl).mono ?_;rintro e w5 ⟨v',rfl,a1,a2,am⟩;refine⟨[.i 1,.i 69,.i z.next,.s (Z.getD j wD_K).2.1,.v v',.r (m1.opts.map encO),.s p],rfl,rfl,am,qy5 _,qy2.2 ⟨⟨by rw[hm1,hm0];exact a1,λk hk=>.inl (a2 k hk.2)⟩,qy5 _⟩,Z2,?_⟩;intro b6 v6;refine⟨by first|omega|(simp only[qy11,qy3,ϒ,ϕ];omega),λv7=>⟨v',v7,?_,λk hk=>ϓ hn4 (a2 k hk)⟩⟩;(simp only[ϐ,Ϙ,ϗ];rw[hm1,hm0];rfl)
    ·refine⟨[.s (Z33 (Z.getD j wD_K).2.2.2)],rfl,λ_ w' _=>Zg2 w' _ hnum,?_⟩;simp only[QR,ra,Z36,Z37,Z1s,gW3];intro v5;intro w4 hr4;have hn4:=hr4.mod.size;refine(Zb (Zei w4 ⟨1,69,z.next,(Z.getD j wD_K).2.1,[],p⟩ (.slice Ϝ 0 0) v5 6 [Z33 (Z.getD j wD_K).2.2.2] (Z6 _ _) (hr4.at_ 0 rfl).reads (show 0<1000000000 by decide) (show 1<1000000000 by decide)) rfl).mono ?_;rintro e w5 ⟨v',rfl,a1,a2,am⟩;refine⟨[.i 1,.i 69,.i z.next,.s (Z.getD j wD_K).2.1,.v v',.r (m1.opts.map encO),.s p],rfl,rfl,am,qy5 _,qy2.2 ⟨⟨by rw[hm1,hm0];exact a1,λk hk=>.inl (a2 k hk.2)⟩,qy5 _⟩,Z2,?_⟩;intro b6 v6;refine⟨by first|omega|(simp only[qy11,qy3,ϒ,ϕ];omega),λv7=>⟨v',v7,?_,λk hk=>ϓ hn4 (a2 k hk)⟩⟩;(simp only[ϐ,Ϙ,ϗ];rw[hm1,hm0];rfl)
    ·refine⟨[.s (Z33 (Z.getD j wD_K).2.2.2)],rfl,λ_ w' _=>Zg2 w' _ hnum,?_⟩;simp only[QR,ra,Z36,Z37,Z1s,gW3];refine⟨?_,?_⟩
     ·intro v5;intro w4 hr4;have hn4:=hr4.mod.size;refine(Zb (Zei w4 ⟨1,69,z.next,(Z.getD j wD_K).2.1,[],p⟩ (.slice Ϝ 0 0) v5 6 [Z33 (Z.getD j wD_K).2.2.2] (Z6 _ _) (hr4.at_ 0 rfl).reads (show 0<1000000000 by decide) (show 1<1000000000 by decide)) rfl).mono ?_;rintro e w5 ⟨v',rfl,a1,a2,am⟩;refine⟨[.i 1,.i 69,.i z.next,.s (Z.getD j wD_K).2.1,.v v',.r (m1.opts.map encO),.s p],rfl,rfl,am,qy5 _,qy2.2 ⟨⟨by rw[hm1,hm0];exact a1,λk hk=>.inl (a2 k hk.2)⟩,qy5 _⟩,Z2,?_⟩;intro b6 v6;refine⟨by first|omega|(simp only[qy11,qy3,ϒ,ϕ];omega),λv7=>⟨v',v7,?_,λk hk=>ϓ hn4 (a2 k hk)⟩⟩;(simp only[ϐ,Ϙ,ϗ];rw[hm1,hm0];rfl)
     ·intro v5;intro w4 hr4;have hn4:=hr4.mod.size;refine(Zb (Zei w4 ⟨1,69,z.next,(Z.getD j wD_K).2.1,[],p⟩ (.slice Ϝ 0 0) v5 6 [Z33 (Z.getD j wD_K).2.2.2] (Z6 _ _) (hr4.at_ 0 rfl).reads (show 0<1000000000 by decide) (show 1<1000000000 by decide)) rfl).mono ?_;rintro e w5 ⟨v',rfl,a1,a2,am⟩;refine⟨[.i 1,.i 69,.i z.next,.s (Z.getD j wD_K).2.1,.v v',.r (m1.opts.map encO),.s p],rfl,rfl,am,qy5 _,qy2.2 ⟨⟨by rw[hm1,hm0];exact a1,λk hk=>.inl (a2 k hk.2)⟩,qy5 _⟩,Z2,?_⟩;intro b6 v6;refine⟨by first|omega|(simp only[qy11,qy3,ϒ,ϕ];omega),λv7=>⟨v',v7,?_,λk hk=>ϓ hn4 (a2 k hk)⟩⟩;(simp only[ϐ,Ϙ,ϗ];rw[hm1,hm0];rfl)
   rintro _ - ⟨v',u',rfl,hv'⟩;simp only[QR,ra,Z36,Z37,Z1s,gW3];have hstep:(Z.take (j+1)).foldl (Z4s p) T0=Z4s p ((Z.take j).foldl (Z4s p) T0) (Z.getD j wD_K):=by rw[Zlr wD_K Z j hj',Ϭ];rfl
   refine⟨by omega,by omega,Z3 z.sx (z.ox++[optX (toP (Z.getD j wD_K).1 m1) v']),λw4 hr=>?_,λi hi=>?_,⟨j+1,{ z with next:=nx_Z z.next,ox:=z.ox++[optX (toP (Z.getD j wD_K).1 m1) v'],ov:=u' },rfl,by omega,?_,?_⟩,by omega⟩
   ·refine Z10 (l:=z.sx) (o:=z.ox) (λt ht=>.inl ht) (λt ht=>?_) (hr.at_ 4 rfl);rcases qy13.1 ht with ht|ht
    ·exact .inl ht
    ·rw[qy12.1 ht];exact .inr ⟨Z6 _ _,Z6 _ _,hr.at_ 1 rfl⟩
   ·rcases Z7.1 hi with h5|⟨t,ht,hk⟩
    ·exact⟨_,qy6 (i:=4) rfl,rfl,Z7.2 (.inl h5)⟩
    ·rcases qy13.1 ht with ht|ht
     ·exact⟨_,qy6 (i:=4) rfl,rfl,Z7.2 (.inr ⟨t,ht,hk⟩)⟩
     ·rw[qy12.1 ht]at hk;rcases hk with hk|hk|hk
      ·exact ϟ rfl hk.1
      ·exact ϟ rfl hk.1
      ·exact(qE 1 rfl rfl hk)
   ·rw[hstep,<- hzt,hm1,hm0];simp only[TelX.tel,Z4s,ϐ,Ϙ,ϗ]
   ·refine⟨hgz.kept,hgz.want,λi hi=>?_⟩;rcases Z7.1 hi with h5|⟨t,ht,hk⟩
    ·exact hgz.nest i (Z7.2 (.inl h5))
    ·rcases qy13.1 ht with ht|ht
     ·exact hgz.nest i (Z7.2 (.inr ⟨t,ht,hk⟩))
     ·rw[qy12.1 ht]at hk;rcases hk with hk|hk|hk
      ·exact ϟ rfl hk.1
      ·exact ϟ rfl hk.1
      ·exact .inl (hv' i hk.2)
  ·have hje:j=Z.length:=by omega
   rw[hje,Ϟ]at hzt;rw[hTB,hzt]
  ·exact(hr.pick [5,6,7,1,9,0,11] (by decide)).conv rfl
open Go.Shelf Go.RowKit Go.Lib
def Z14y:Zft ϔ 250:=by
 intro w b n c i vb vc hi hc hb;go_enter Tryz.func250,Tryz.ntmps250
 go_wp2
 all_goals (go_ret;exact⟨rfl,rfl⟩)
def Z1ab:Zmj ϔ 250 24:=by
 intro w b n c vb m vc hm hc hb v' w' hrun;have hz1:¬((m)=0):=O
 go_enter Tryz.func250,Tryz.ntmps250
 go_wp2_with (at_builtin;refine Lib.wpList_append_run _ rfl _ _ _ _ rfl _ _ rfl rfl _ _ (hrun _) ?_)
 all_goals (go_ret;exact⟨rfl,rfl⟩)
def Z10c:Zbm ϔ 250 291 24 6:=by
 intro w g n c i vb m vc cur1 cur2 hi hm hroom hc63 hov hcp1 hcp2;obtain⟨hz1,hz2,hw1,hw2,hb1,hin,htn,htn2,hb3,-⟩:=insN hi hm O;have hb2:¬(c=i+m):=O
 have hb4:¬(c=i):=O
 have mixed:Tryz.prog.follows Departure.mixedOrders=Ϣ:=O2
 go_enter Tryz.func250,Tryz.ntmps250
 go_wp2_with (simp only)
 go_region_law_o (refine step_copy_runI rfl _ _ 24 24 rfl _ _ O1 O1 (hcp1 _ _ _) ?_)
 go_wp2_with (at_builtin;refine wpList_copy_runI _ rfl _ _ 24 24 rfl _ _ rfl rfl (hcp2 _ rfl _ _) ?_)
 go_ret
 first|exact⟨rfl,rfl⟩|exact⟨rfl,by rw[setRow_setRow]⟩
def Z14z:Zfu ϔ 250 58 24 3 6:=by
  intro w g n c i vb m vc G ROW cur2 cur3 hi hm hnc hroom hGn hG63 hrz hcpA hcpB Q hfin;obtain⟨hz1,hz2,hw1,-,hb1,hin,htn,-,-,hb3⟩:=insN hi hm O;have hz3:(c)<(n)+(m):=O
  have hGi:¬(G=i):=O
  have hGim:¬(G=i+m):=O
  have hci:¬(c=i):=O
  have mixed:Tryz.prog.follows Departure.mixedOrders=Ϣ:=O2
  have hE1:((w.alloc (.cells ROW 58)).drew).heap=(w.drew.alloc (.cells ROW 58)).heap:=rfl;have hF1:(((w.alloc (.cells ROW 58)).drew.setRow w.heap.size cur2).drew).heap=((w.drew.alloc (.cells ROW 58)).setRow w.heap.size cur2).heap:=rfl;go_enter Tryz.func250,Tryz.ntmps250
  go_wp2_with (first
    | (at_builtin;refine Lib.wpList_append_run _ rfl _ _ _ _ rfl _ _ rfl rfl _ _ (hrz _) ?_)
    | (at_builtin;refine wpList_copy_runI _ rfl _ _ 24 24 rfl _ _ rfl rfl (hcpA _ hE1 _ _) ?_)
    | (at_builtin;refine wpList_copy_runI _ rfl _ _ 24 24 rfl _ _ rfl rfl (hcpB _ hF1 _ _ _) ?_))
  go_region_law_o (refine step_copy_runI rfl _ _ 24 24 rfl (.slice (δ ⟨w.heap.size,(i+m)*6,Ϝ⟩) (n+m - (i+m)) (G - (i+m))) (.slice (δ ⟨g,i*6,Ϝ⟩) (n - i) (c - i)) O7 O7 (hcpB _ hF1 3 (G - (i+m)) (c - i)) ?_)
  go_wp2
  exact hfin _ rfl rfl rfl rfl
def Z150(s v:ϣ)(i:Nat)(R V:List (List ϣ))(hs:owns w s 58 [.str,.bool,.bool,.oth,.oth,.int .i64] R)(hv:owns w v 58 [.str,.bool,.bool,.oth,.oth,.int .i64] V)(hne:∀k,Z1 s k->Z1 v k->False)(hi:i<=R.length)(hb:(R.length+V.length)*80<=140737488355328): Ϻ ϔ 250 #[s,.int .i64 i,v] w λe w'=>∃v',e=.returned v'/\Zc8 w w' s v' 58 [.str,.bool,.bool,.oth,.oth,.int .i64] (R.take i++V++R.drop i) :=
 Zjo (K:=6) Tryz.underlying24 Tryz.underlying3 O2 rfl U U (λargs w=>run_callFunc_extern Tryz.func291 O2 O2 O2 (e:=Extern.SlicesOverlaps.overlaps #[24,24] #[4]) O2 args w) Z14y Z1ab Z10c Z14z w s v i R V hs hv hne hi hb
def Z1fp:Z191 ϔ 220 24 6:=by
 intro w g n c i j cur1 cur2 hij hj hnc hc63 happ hclr;have hz1:¬((i)=(j)):=O
 have hb1:(0:Int)<=(i):=O
 have hw1:¬(c=i+(n - j)):=O
 have hj1:(j)<=(n):=O
 have hj2:(i)<=(j):=O
 have mixed:Tryz.prog.follows Departure.mixedOrders=Ϣ:=O2
 have hic:i<=c:=O
 by_cases hcj:c=j
 ·obtain rfl:n=c:=O
  obtain rfl:n=j:=hcj;have happ0:∀(a:Addr) ty sc,(Builtin.append_ #[24,24] ty #[.slice (δ ⟨g,0,Ϝ⟩) i n,.slice (δ a) 0 sc]).run ϔ w.drew=.ok (.slice (δ ⟨g,0,Ϝ⟩) i n) (w.drew.setRow g cur1):=λa ty sc=>by have:=happ a (.inl (ϲ n)) ty sc;rw[ϲ,ϱ]at this;exact this
  have hclr0:∀(W:Ϲ),W.heap=(w.drew.setRow g cur1).heap->∀ty sc,(Builtin.clear_ #[24] ty #[.slice (δ ⟨g,i*6,Ϝ⟩) (n - i) sc]).run ϔ W=.ok (.tuple #[]) (W.setRow g cur2):=by rw[ϲ,ϱ]at hclr;exact hclr
  have hw2:¬n=i:=O
  have hfin0:Ending.returned (.slice (δ ⟨g,0,Ϝ⟩) i n)=.returned (.slice (δ ⟨g,0,Ϝ⟩) (i+(n - n)) n):=by rw[ϲ,ϱ]
  go_enter Tryz.func220,Tryz.ntmps220
  go_wp2
  go_region_law_o (refine Z22 rfl _ _ 24 24 rfl _ _ O7 O7 (happ0 ⟨g,0,Ϝ⟩ _ 0) ?_)
  go_wp2_with (refine Z1t _ rfl _ 24 rfl _ rfl (hclr0 _ rfl _ _) ?_)
  go_ret
  exact⟨hfin0,by rw[setRow_setRow]⟩
 ·go_enter Tryz.func220,Tryz.ntmps220
  go_wp2
  go_region_law_o (refine Z22 rfl _ _ 24 24 rfl _ _ O7 O7 (happ ⟨g,j*6,Ϝ⟩ (.inr rfl) _ (c - j)) ?_)
  go_wp2_with (refine Z1t _ rfl _ 24 rfl _ rfl (hclr _ rfl _ _) ?_)
  go_ret
  exact⟨rfl,by rw[setRow_setRow]⟩
def Z151(s:ϣ)(i j:Nat)(R:List (List ϣ))(hs:owns w s 58 [.str,.bool,.bool,.oth,.oth,.int .i64] R)(hij:i<j)(hj:j<=R.length): Ϻ ϔ 220 #[s,.int .i64 i,.int .i64 j] w λe w'=>∃v',e=.returned v'/\Zc8 w w' s v' 58 [.str,.bool,.bool,.oth,.oth,.int .i64] (R.take i++R.drop j) :=
 Zu9 (K:=6) Tryz.underlying24 O2 rfl U Z1fp w s i j R hs hij hj
abbrev Zux(w:Ϲ)(v:ϣ)(l:List SesX):Prop:=owns w v 58 kSx (l.map Ze)
def Z1i2(s v:ϣ)(l:List SesX)(x:SesX)(i:Nat)(hs:Zux w s l)(hv:Zux w v [x])(hne:∀k,Z1 s k->Z1 v k->False)(hi:i<=l.length)(hl:l.length<1000000): Ϻ ϔ 250 #[sc1 s,.int .i64 i,sc1 v] w λe w'=>∃v',e=.returned (sc1 v')/\Zux w' v' (l.take i++[x]++l.drop i)/\(∀k,Z1 v' k->Z1 s k\/w.heap.size<=k)/\Mod s.ownBlock.toList w w':=by rw[hs.reads.sc1,hv.reads.sc1];refine(Z150 w s v i _ _ hs hv hne (by simpa using hi) O3).mono ?_;rintro e w' ⟨v',rfl,g1,g2,g3⟩;refine⟨v',by rw[g1.reads.sc1],?_,g2,Mod.of_grown g3 λk hk=>.inl (β.2 hk)⟩;rw[Zux,ϐ,ϐ,Ϩ,Ϯ];exact g1
def Z1i3(s:ϣ)(l:List SesX)(i:Nat)(hs:Zux w s l)(hi:i<l.length): Ϻ ϔ 220 #[sc1 s,.int .i64 i,.int .i64 ((i:Int)+1)] w λe w'=>∃v',e=.returned (sc1 v')/\Zux w' v' (l.take i++l.drop (i+1))/\(∀k,Z1 v' k->Z1 s k\/w.heap.size<=k)/\Mod s.ownBlock.toList w w':=by rw[hs.reads.sc1];have hc:=Z151 w s i (i+1) _ hs O (by rw[qy3];omega);rw[show((i+1))=(i)+1 by omega]at hc;refine hc.mono ?_;rintro e w' ⟨v',rfl,g1,g2,g3⟩;refine⟨v',by rw[g1.reads.sc1],?_,g2,Mod.of_grown g3 λk hk=>.inl (β.2 hk)⟩;rw[Zux,ϐ,Ϩ,Ϯ];exact g1
def Zxu(h:i<l.length)(t:SesX):((l.set i t).map Ze).getD i []=Ze t:=by rw[Z57 (by simpa using h),qy1,Ϥ h];rfl
def Z152(l:List SesX)(i:Nat)(t:SesX):(l.set i t).take i++(l.set i t).drop (i+1)=l.take i++l.drop (i+1):=by rw[Ϸ (η _),ϸ O]
def Z10d{l':List SesX}(h:∀t∈l',t∈l):(∀w,(Z3 l o).holds w->(Z3 l' o).holds w)/\∀j,(Z3 l' o).fp j->(Z3 l o).fp j :=
 ⟨λw hw=>Z10 (λt ht=>.inl (h t ht)) (λt ht=>.inl ht) hw,λj hj=>(Z7.1 hj).elim (λ⟨t,ht,hk⟩=>Z7.2 (.inl ⟨t,h t ht,hk⟩)) (λh=>Z7.2 (.inr h))⟩
def Z1c9(k:Nat)(x:TelX)(c:By)(hr:Rel ⟨Zh (tlA k x) tlH,w⟩ (tlA k x++[.s c]) tlH w)(hb:BOk x.tel)(ho:x.ox.length<100000): Ϻ ϔ 178 #[.pointer (δ ⟨k,0,Ϝ⟩),.string ⟨c.toArray⟩] w λe w'=>e=.returned (.tuple #[])/\Zbc w w' k x (λ_=>False) (Z4i c x.tel):=by
 refine Wu Za2 hr ?_;simp only[QR,ra];have hn6:x.sx.length<=6:=by have:=hb.ns;rw[Z28,qy3]at this;exact this
 have hw20:x.wants.length<=20:=Zel hb.wants;refine⟨[.i (idxS x.tel.sess c),.b (hasS x.tel.sess c)],rfl,λ_ w' hr=>Zkm w' x.sv x.sx c (hr.at_ 2 rfl).reads hb.sort O,?_⟩;simp only[QR,ra];refine⟨λh1 w3 hr=>⟨O6,x,by rw[Z4i,ϛ h1],(hr.pick [0,1,2,3,4,5,6] U).conv rfl,.refl _ _ _⟩,λh1=>?_⟩;have h1:=qy9.1 h1;obtain⟨hlt,hse⟩:=Zls h1;have hok:SesOk (x.sx.getD (idxS x.tel.sess c) sxD).1:=by rw[hse];exact Zb9 hb h1
 have hgB:Z4i c x.tel=if(goR (x.sx.getD (idxS x.tel.sess c) sxD).1).clean=Ϣ then Zmy c { x.tel with sess:=x.tel.sess.take (idxS x.tel.sess c)++x.tel.sess.drop (idxS x.tel.sess c+1) }else { x.tel with sess:=x.tel.sess.set (idxS x.tel.sess c) (goR (x.sx.getD (idxS x.tel.sess c) sxD).1) }:=by rw[Z4i,ϝ h1,hse]
 generalize idxS x.tel.sess c=ix at hlt hse hok hgB⊢
 have hrow:=Z57 hlt;simp only[hrow,Ze,ϙ,Ϛ,Value.gI,Value.gB,Value.gS,Zv];have hmm:=Z58 hlt;generalize hss:x.sx.getD ix sxD=ss at hok hse hgB hmm
 obtain⟨s,s',s''⟩:=ss;simp only at hok hse hgB⊢;obtain⟨S,hS⟩:∃S,S=goR s:=⟨_,rfl⟩
 rw[<- hS]at hgB;refine⟨λvs=>∃u1 u2:ϣ,vs=[.s S.cl,.b S.on,.b S.clean,.v u1,.r (S.fl.map encF),.v u2,.r (S.qu.map encF),.i S.next,.r ((x.sx.set ix (S,u1,u2)).map Ze)]/\newV w.heap.size u1/\newV w.heap.size u2,⟨O,O,?_⟩,?_⟩
 ·refine Z8q ?_;intro w1 hr1;obtain⟨hs1,hs2⟩:=Zy (hr1.at_ 5 rfl) hmm;have hsz:=hr1.mod.size;refine(Zb (Z1ju w1 s s' s'' hs1 hs2 (by have:=hok.nf;omega) (by have:=hok.nq;omega)) rfl).mono ?_;rw[<- hS];rintro e w2 ⟨u1,u2,rfl,g1,g2,g4,g5,gm⟩;refine⟨[.s S.cl,.b S.on,.b S.clean,.v u1,.r (S.fl.map encF),.v u2,.r (S.qu.map encF),.i S.next],rfl,rfl,gm,qy5 _,qy2.2 ⟨⟨g1,λk hk=>.inl (g4 k hk.2)⟩,qy2.2 ⟨⟨g2,λk hk=>.inl (g5 k hk.2)⟩,qy5 _⟩⟩,Zjh ..,u1,u2,?_,λk hk=>ϓ hsz (g4 k hk),λk hk=>ϓ hsz (g5 k hk)⟩;simp only[QR,ra];rw[<- Z2h]
 rintro _ - ⟨u1,u2,rfl,n1,n2⟩;simp only[QR,ra,Zxu hlt,Ze,Value.gB,μ];refine⟨O,O,λh2=>⟨O,O,?_⟩,λh2 w3 hr=>⟨O6,{ x with sx:=x.sx.set ix (S,u1,u2) },?_,?_,?_⟩⟩
 ·intro w4 hr4;have hsz4:=hr4.mod.size;refine(Z1i3 w4 x.sv (x.sx.set ix (S,u1,u2)) ix (hr4.at_ 4 rfl) (by simpa using hlt)).mono ?_;rintro e w5 ⟨v',rfl,g1,g2,g3⟩;rw[Z152]at g1;obtain⟨l',hl'⟩:∃l',l'=x.sx.take ix++x.sx.drop (ix+1):=⟨_,rfl⟩
  rw[<- hl']at g1;refine⟨[.v v',.r (l'.map Ze)],rfl,rfl,g3.mono λk hk=>.inl (by simpa[Zn,Zq]using hk),qy5 _,qy2.2 ⟨⟨g1,λk hk=>?_⟩,qy5 _⟩,Z2,?_⟩
  ·rcases g2 k hk with h|h
   ·exact .inr (.inr (Z14 (qy8 ..) h))
   ·exact .inl h
  simp only[QR,ra];intro w6 hr6;have hsub:∀t∈l',t∈x.sx:=λt ht=>by
   rw[hl']at ht;rcases qy13.1 ht with ht|ht
   ·exact Ϫ ht
   ·exact ϳ ht
  obtain⟨q1,q2⟩:=Z10d hsub;have hsz6:=hr6.mod.size;refine(Z4j (pre:=[]) hr6 27 0 [25,7,10]
   (Z14v w6 k { x with sx:=l',sv:=v' } c ((Z1a7 hr6 (by rfl) k { x with sx:=l',sv:=v' } (q1 w6 (hr6.at_ 7 rfl)) (λj hj=>(qE 7 rfl rfl (q2 j hj))) [4,5,1,6,7,0,9] U rfl).conv rfl) (by show x.wants.length<1000000000;omega))
   rfl rfl (ϑ _) rfl (λj hj=>?_)).mono ?_
  ·rcases hj with hj|hj|hj|hj
   ·exact(qE 3 rfl rfl hj)
   ·exact(qE 4 rfl rfl hj)
   ·exact(qE 7 rfl rfl (q2 j hj))
   ·exact hj.elim
  rintro e w7 ⟨y,⟨u,hy⟩,hsz7,hgr,rfl,m1,m2,m3,m4⟩;refine⟨tlV y,rfl,rfl,m1,m2,m3,m4,?_⟩;intro w8 hr8;refine⟨O6,y,?_,(hr8.pick [0,1,2,3,4,5,11] U).conv rfl,?_⟩
  ·rw[hgB,ϝ h2,hy];simp only[TelX.tel,Zmy,hl',ϐ,Ϩ,Ϯ]
  ·exact(Grew.trans (y:={ x with sx:=l',sv:=v' }) ⟨λj hj=>.inr hj,λj hj=>.inr hj,λj hj=>.inr (.inl (q2 j hj))⟩ hgr hsz6 (λj h=>h.elim))
 ·rw[hgB,ϛ h2];simp only[TelX.tel,Ϧ]
 ·exact Zs9 hr (by rfl) k { x with sx:=x.sx.set ix (S,u1,u2) } (Z5t (hr.at_ 7 rfl) (hr.at_ 0 rfl) (hr.at_ 1 rfl)) (λj hj=>by
   rcases Z2g hj with h|h|h
   ·exact(qE 7 rfl rfl h)
   ·exact(qE 0 rfl rfl h)
   ·exact(qE 1 rfl rfl h)) [3,4,5,6,7,0,9] U rfl
 ·exact Zib (.refl _ _ _) (η _) n1 n2
def pk1X(p:Pkt):Z39:=(p,.slice Ϝ 0 0,.slice Ϝ 0 0)
def Z2i{p:Pkt}(ha:p.asks=[])(hc:p.codes=[])(w:Ϲ):(Za [pk1X p]).holds w:=by
 intro t ht;simp only[ϭ,ζ,Ϡ,Zkp,pk1X,ϩ,ϧ,or_false]at ht;rcases ht with rfl|rfl
 ·simp only[ha];exact Z6 _ _
 ·simp only[hc];exact Z6 _ _
def Z16{p:Pkt}(ha:p.asks=[])(hc:p.codes=[]):¬(Za [pk1X p]).fp j:=by
 rintro⟨t,ht,h1,h2⟩;simp only[ϭ,ζ,Ϡ,Zkp,pk1X,ϩ,ϧ,or_false]at ht;rcases ht with rfl|rfl
 ·exact h1 (by simp only[ha];rfl)
 ·exact h1 (by simp only[hc];rfl)
abbrev Zcc(c:By)(p:Pkt)(va vc:ϣ):List V:=[.s c,.i p.kind,.b p.dup,.b p.retain,.b p.clean,.b p.session,.i p.qos,.i p.id,.i p.keep,.i p.code,.s p.client,.s p.topic,.s p.payload,.v va,.r (p.asks.map encA),.v vc,.r (p.codes.map Zg)]
abbrev pkHp:List Ent:=[.rd 26 [.str,.int .i64] (.var 27),.rd 28 [.int .i64] (.var 29)]
abbrev Zsd(p:Pkt)(va vc:ϣ):ϣ:=.agg #[.int .i64 p.kind,.bool p.dup,.bool p.retain,.bool p.clean,.bool p.session,.int .i64 p.qos,.int .i64 p.id,.int .i64 p.keep,.int .i64 p.code,.string ⟨p.client.toArray⟩,.string ⟨p.topic.toArray⟩,.string ⟨p.payload.toArray⟩,sc1 va,sc1 vc]
def Z153(k:Nat)(x:TelX)(c:By)(p:Pkt)(va vc:ϣ)(hr:Rel ⟨Zh (tlA k x) tlH,w⟩ (tlA k x++Zcc c p va vc) (tlH++pkHp) w)(hb:BOk x.tel)(ho:x.ox.length<50000)(hsm:Z2d x.wants)(hp:pubE p=0): Ϻ ϔ 214 #[.pointer (δ ⟨k,0,Ϝ⟩),.string ⟨c.toArray⟩,Zsd p va vc] w λe w'=>e=.returned (.tuple #[])/\Zbc w w' k x (λ_=>False) (Z2t c p x.tel):=by
 obtain⟨hn,hpl,hq0,hq1,hf⟩:=Zxn hp;refine Wu Z7c hr ?_;simp only[QR,ra];intro b0;have hk:∀t:Tel,Z2t c p x.tel=Z6n p.topic p.payload p.qos (if p.retain=Ϣ then(Z13 p.topic p.payload (if p.qos=1 then { x.tel with out:=x.tel.out++[toC c { pD_Q 4 with id:=p.id }] }else x.tel)).1 else(if p.qos=1 then { x.tel with out:=x.tel.out++[toC c { pD_Q 4 with id:=p.id }] }else x.tel)):=λ_=>rfl;have hk:=hk x.tel;have hol:x.tel.out.length=x.ox.length:=by simp[TelX.tel]
 have lenX:∀y:TelX,y.tel.out.length=y.ox.length:=λy=>by simp[TelX.tel]
 refine⟨λh1 v31=>?_,λh1=>?_⟩
 ·rw[ϝ h1]at hk;intro w1 hr_y1;have hz_y1:=hr_y1.mod.size;refine(Z4j (pre:=[]) hr_y1 32 0 [5,7,10]
   (Z23 w1 k x c v31 [pk1X { pD_Q 4 with id:=p.id }] (Zad (toRd hr_y1) (by rfl) k x (Za [pk1X { pD_Q 4 with id:=p.id }]) _ _ (hr_y1.at_ 7 rfl) (λj hj=>(qE 7 rfl rfl hj)) (Z2i rfl rfl _) (λj hj=>ϟ hj (Z16 rfl rfl)) [4,5,6,7,8,1,10,2,0] U rfl rfl) (show 1<1000000 by decide) O)
   rfl rfl (ϑ _) rfl (λj hj=>?_)).mono ?_
  ·rcases hj with hj|hj|hj|hj
   ·exact(qE 2 rfl rfl hj)
   ·exact(qE 3 rfl rfl hj)
   ·exact(qE 7 rfl rfl hj)
   ·exact ϟ hj (Z16 rfl rfl)
  rintro e w2_y1 ⟨y1,hy_y1,hs_y1,hg_y1,rfl,m1,m2,m3,m4⟩;refine⟨tlV y1,rfl,rfl,m1,m2,m3,m4,?_⟩;clear m1 m2 m3 m4;have e1:y1.tel={ x.tel with out:=x.tel.out++[toC c { pD_Q 4 with id:=p.id }] }:=hy_y1;have b1:BOk y1.tel:=by rw[e1];exact hb.out _
  have l1:y1.ox.length<=x.ox.length+1:=by have:=lenX y1;rw[e1]at this;simp only[qy11,ϒ,ϕ]at this;omega
  have s1:y1.wants=x.wants:=congrArg Tel.wants e1;rw[<- e1]at hk;have g1:Grew w.heap.size (λ_=>False) x y1:=(Grew.refl w.heap.size _ x).trans hg_y1 hz_y1 (λj h=>ϟ h (Z16 rfl rfl));refine⟨λh2=>?_,λh2=>?_⟩
  ·rw[ϝ h2]at hk;intro w3 hr_y2;have hz_y2:=hr_y2.mod.size;refine(Z4j (pre:=[.b (Z13 p.topic p.payload y1.tel).2]) hr_y2 45 0 [36,38,41]
    (Zxt w3 k y1 p.topic p.payload (((hr_y2.pick [0,1,2,3,4,5,11] (by decide)).conv rfl).base.conv rfl) b1 (by omega))
    rfl rfl (ϑ _) rfl (λj hj=>?_)).mono ?_
   ·rcases hj with hj|hj|hj|hj
    ·exact(qE 0 rfl rfl hj)
    ·exact(qE 1 rfl rfl hj)
    ·exact(qE 5 rfl rfl hj)
    ·exact hj.elim
   rintro e w2_y2 ⟨y2,hy_y2,hs_y2,hg_y2,rfl,m1,m2,m3,m4⟩;refine⟨.b (Z13 p.topic p.payload y1.tel).2::tlV y2,rfl,rfl,m1,m2,m3,m4,?_⟩;clear m1 m2 m3 m4;obtain⟨b2,-,s2,l2⟩:=Z4w (p:=p.payload) b1 hn;rw[<- hy_y2]at b2 s2 l2 hk;have l2':y2.ox.length<=y1.ox.length+12:=by have h1:=lenX y2;have h2:=lenX y1;omega
   have s2':y2.wants=y1.wants:=s2;have g2:Grew w.heap.size (λ_=>False) x y2:=g1.trans hg_y2 hz_y2 (λj h=>h.elim);intro w5 hr_y3;have hz_y3:=hr_y3.mod.size;refine(Z4j (k:=k) (x:=y2) (F:=(λ_=>False)) (pre:=[]) hr_y3 57 0 [49,51,54]
    (Zsc w5 k y2 p.topic p.payload p.qos (((hr_y3.pick [0,1,2,3,4,5,14] (by decide)).conv rfl).base.conv rfl) b2 (by omega) (by rw[s2',s1];exact hsm) hf ⟨hq0,hq1⟩)
    rfl rfl (ϑ _) rfl (λj hj=>?_)).mono ?_
   ·rcases hj with hj|hj|hj|hj
    ·exact(qE 0 rfl rfl hj)
    ·exact(qE 1 rfl rfl hj)
    ·exact(qE 5 rfl rfl hj)
    ·exact hj.elim
   rintro e w2_y3 ⟨y3,hy_y3,hs_y3,hg_y3,rfl,m1,m2,m3,m4⟩;refine⟨tlV y3,rfl,rfl,m1,m2,m3,m4,?_⟩;clear m1 m2 m3 m4;intro w7 hr7;exact⟨by trivial,y3,by rw[hk,hy_y3],(hr7.pick [0,1,2,3,4,5,17] (by decide)).conv rfl,g2.trans hg_y3 hz_y3 (λj h=>h.elim)⟩
  ·rw[ϛ h2]at hk;intro w5 hr_y3;have hz_y3:=hr_y3.mod.size;refine(Z4j (k:=k) (x:=y1) (F:=(λ_=>False)) (pre:=[]) hr_y3 44 0 [36,38,41]
    (Zsc w5 k y1 p.topic p.payload p.qos (((hr_y3.pick [0,1,2,3,4,5,11] (by decide)).conv rfl).base.conv rfl) b1 (by omega) (by rw[s1];exact hsm) hf ⟨hq0,hq1⟩)
    rfl rfl (ϑ _) rfl (λj hj=>?_)).mono ?_
   ·rcases hj with hj|hj|hj|hj
    ·exact(qE 0 rfl rfl hj)
    ·exact(qE 1 rfl rfl hj)
    ·exact(qE 5 rfl rfl hj)
    ·exact hj.elim
   rintro e w2_y3 ⟨y3,hy_y3,hs_y3,hg_y3,rfl,m1,m2,m3,m4⟩;refine⟨tlV y3,rfl,rfl,m1,m2,m3,m4,?_⟩;clear m1 m2 m3 m4;intro w7 hr7;exact⟨by trivial,y3,by rw[hk,hy_y3],(hr7.pick [0,1,2,3,4,5,14] (by decide)).conv rfl,g1.trans hg_y3 hz_y3 (λj h=>h.elim)⟩
 ·rw[ϛ h1]at hk;refine⟨λh2=>?_,λh2=>?_⟩
  ·rw[ϝ h2]at hk;intro w3 hr_y2;have hz_y2:=hr_y2.mod.size;refine(Z4j (k:=k) (x:=x) (F:=(λ_=>False)) (pre:=[.b (Z13 p.topic p.payload x.tel).2]) hr_y2 32 0 [5,7,10]
    (Zxt w3 k x p.topic p.payload (((hr_y2.pick [1,2,3,4,5,6,7] (by decide)).conv rfl).base.conv rfl) hb (by omega))
    rfl rfl (ϑ _) rfl (λj hj=>?_)).mono ?_
   ·rcases hj with hj|hj|hj|hj
    ·exact(qE 1 rfl rfl hj)
    ·exact(qE 2 rfl rfl hj)
    ·exact(qE 6 rfl rfl hj)
    ·exact hj.elim
   rintro e w2_y2 ⟨y2,hy_y2,hs_y2,hg_y2,rfl,m1,m2,m3,m4⟩;refine⟨.b (Z13 p.topic p.payload x.tel).2::tlV y2,rfl,rfl,m1,m2,m3,m4,?_⟩;clear m1 m2 m3 m4;obtain⟨b2,-,s2,l2⟩:=Z4w (p:=p.payload) hb hn;rw[<- hy_y2]at b2 s2 l2 hk;have l2':y2.ox.length<=x.ox.length+12:=by have h1:=lenX y2;have h2:=lenX x;omega
   have s2':y2.wants=x.wants:=s2;have g2:Grew w.heap.size (λ_=>False) x y2:=(Grew.refl w.heap.size _ x).trans hg_y2 hz_y2 (λj h=>h.elim);intro w5 hr_y3;have hz_y3:=hr_y3.mod.size;refine(Z4j (k:=k) (x:=y2) (F:=(λ_=>False)) (pre:=[]) hr_y3 44 0 [36,38,41]
    (Zsc w5 k y2 p.topic p.payload p.qos (((hr_y3.pick [0,1,2,3,4,5,10] (by decide)).conv rfl).base.conv rfl) b2 (by omega) (by rw[s2'];exact hsm) hf ⟨hq0,hq1⟩)
    rfl rfl (ϑ _) rfl (λj hj=>?_)).mono ?_
   ·rcases hj with hj|hj|hj|hj
    ·exact(qE 0 rfl rfl hj)
    ·exact(qE 1 rfl rfl hj)
    ·exact(qE 5 rfl rfl hj)
    ·exact hj.elim
   rintro e w2_y3 ⟨y3,hy_y3,hs_y3,hg_y3,rfl,m1,m2,m3,m4⟩;refine⟨tlV y3,rfl,rfl,m1,m2,m3,m4,?_⟩;clear m1 m2 m3 m4;intro w7 hr7;exact⟨by trivial,y3,by rw[hk,hy_y3],(hr7.pick [0,1,2,3,4,5,13] (by decide)).conv rfl,g2.trans hg_y3 hz_y3 (λj h=>h.elim)⟩
  ·rw[ϛ h2]at hk;intro w5 hr_y3;have hz_y3:=hr_y3.mod.size;refine(Z4j (k:=k) (x:=x) (F:=(λ_=>False)) (pre:=[]) hr_y3 31 0 [5,7,10]
    (Zsc w5 k x p.topic p.payload p.qos (((hr_y3.pick [1,2,3,4,5,6,7] (by decide)).conv rfl).base.conv rfl) hb (by omega) hsm hf ⟨hq0,hq1⟩)
    rfl rfl (ϑ _) rfl (λj hj=>?_)).mono ?_
   ·rcases hj with hj|hj|hj|hj
    ·exact(qE 1 rfl rfl hj)
    ·exact(qE 2 rfl rfl hj)
    ·exact(qE 6 rfl rfl hj)
    ·exact hj.elim
   rintro e w2_y3 ⟨y3,hy_y3,hs_y3,hg_y3,rfl,m1,m2,m3,m4⟩;refine⟨tlV y3,rfl,rfl,m1,m2,m3,m4,?_⟩;clear m1 m2 m3 m4;intro w7 hr7;exact⟨by trivial,y3,by rw[hk,hy_y3],(hr7.pick [0,1,2,3,4,5,10] (by decide)).conv rfl,(Grew.refl w.heap.size _ x).trans hg_y3 hz_y3 (λj h=>h.elim)⟩
def begX:SesX:=(⟨[],θ,Ϣ,[],[],0⟩,.slice Ϝ 0 0,.slice Ϝ 0 0)
def freX(c:By):SesX:=(⟨c,θ,θ,[],[],1⟩,.slice Ϝ 0 0,.slice Ϝ 0 0)
def insX(l:List SesX)(c:By):List SesX:=if hasS (l.map (·.1)) c=Ϣ then l else l.take (idxS (l.map (·.1)) c)++[begX]++l.drop (idxS (l.map (·.1)) c)
def Zic(l:List SesX)(c:By):(insX l c).map (·.1)=insS (l.map (·.1)) c:=by
 unfold insX insS;split
 ·rfl
 ·rw[ϐ,ϐ,Ϩ,Ϯ];rfl
def Z1ac:∀t∈insX l c,t∈l\/t=begX:=λt ht=>by
 unfold insX at ht;split at ht
 ·exact .inl ht
 ·rcases qy13.1 ht with ht|ht
  ·rcases qy13.1 ht with ht|ht
   ·exact .inl (Ϫ ht)
   ·exact .inr (qy12.1 ht)
  ·exact .inl (ϳ ht)
def Z1ad(hs:Z77 (l.map (·.1))):idxS (l.map (·.1)) c<(insX l c).length/\(insX l c).length<=l.length+1:=by
 have h1:=Zg5 (l.map (·.1)) c;rw[qy3]at h1;unfold insX;split
 ·rename_i h;have:=(Z9z h).1;rw[qy3]at this;exact⟨this,O⟩
 ·simp;omega
def Zph{l':List SesX}(h:∀t∈l',t∈l\/(t.1.fl=[]/\t.1.qu=[]/\t.2.1=.slice Ϝ 0 0/\t.2.2=.slice Ϝ 0 0)):(∀w,(Z3 l o).holds w->(Z3 l' o).holds w)/\∀j,(Z3 l' o).fp j->(Z3 l o).fp j:=by
 refine⟨λw hw=>Z10 (λt ht=>?_) (λt ht=>.inl ht) hw,λj hj=>?_⟩
 ·rcases h t ht with h|⟨h1,h2,h3,h4⟩
  ·exact .inl h
  ·rw[h1,h2,h3,h4];exact .inr ⟨Z6 _ _,Z6 _ _⟩
 ·rcases Z7.1 hj with⟨t,ht,hk⟩|h1
  ·rcases h t ht with h|⟨h1,h2,h3,h4⟩
   ·exact Z7.2 (.inl ⟨t,h,hk⟩)
   ·rcases hk with⟨h5,-⟩|⟨h5,-⟩
    ·exact ϟ (by rw[h1];rfl) h5
    ·exact ϟ (by rw[h2];rfl) h5
  ·exact Z7.2 (.inr h1)
structure CnnZ(x:TelX)(c:List UInt8)(kn:Bool)(n:Nat)(z:TelX):Prop where
 kept:z.kept=x.kept/\z.kv=x.kv
 wat:z.wat=x.wat/\z.av=x.av
 next:z.next=x.next
 ox:z.ox=x.ox/\z.ov=x.ov
 wants:z.wants=if kn=Ϣ then x.wants else x.wants.filter λw=>decide (¬w.1=c)
 sx:z.sx=if kn=Ϣ then insX x.sx c else(insX x.sx c).set (idxS x.tel.sess c) (freX c)
 want:∀j,Zat z j->n<=j\/Zat x j
def Zae{J':List V}{v v':Nat}{ks:List Kd}{r r':X}(h1:J.getD v (.i 0)=J'.getD v' (.i 0))(h2:(r.ev J).toR=(r'.ev J').toR):Ent.sem J (.rd v ks r)=Ent.sem J' (.rd v' ks r'):=by simp only[Ent.sem,Ent.holds,Ent.fp,Ent.wr,h1,h2]
def Z154(k:Nat)(x:TelX)(c:By)(p:Pkt)(va vc:ϣ)(hr:Rel ⟨Zh (tlA k x) tlH,w⟩ (tlA k x++Zcc c p va vc) (tlH++pkHp) w)(hb:BOk x.tel)(ho:x.ox.length<50000)(hc:Z9 c=Ϣ): Ϻ ϔ 213 #[.pointer (δ ⟨k,0,Ϝ⟩),.string ⟨c.toArray⟩,Zsd p va vc] w λe w'=>e=.returned (.tuple #[])/\Zbc w w' k x (λ_=>False) (Z1c c p x.tel):=by
  refine Wu Z79 hr ?_;simp only[QR,ra];have hn6:x.sx.length<=6:=by have:=hb.ns;rw[Z28,qy3]at this;exact this
  have hw20:x.wants.length<=20:=Zel hb.wants;have hil:=Z1ad (c:=c) hb.sort;have hnil:∀t∈insX x.sx c,t∈x.sx\/(t.1.fl=[]/\t.1.qu=[]/\t.2.1=.slice Ϝ 0 0/\t.2.2=.slice Ϝ 0 0):=λt ht=>(Z1ac t ht).imp id λh=>by rw[h];exact⟨rfl,rfl,rfl,rfl⟩
  obtain⟨ix,hix⟩:∃ix,ix=idxS x.tel.sess c:=⟨_,rfl⟩
  have hil1:ix<(insX x.sx c).length:=by rw[hix];exact hil.1
  have hixl:ix<=x.sx.length:=by rw[hix];have:=Zg5 x.tel.sess c;rw[Z28,qy3]at this;exact this
  intro b0;refine⟨λh1 w3 hr=>⟨O6,x,by rw[Z1c,ϝ h1],(hr.pick [1,2,3,4,5,6,7] U).conv rfl,.refl _ _ _⟩,λh1=>?_⟩;refine⟨[.i (idxS x.tel.sess c),.b (hasS x.tel.sess c)],rfl,λ_ w' hr=>Zkm w' x.sv x.sx c (hr.at_ 3 rfl).reads hb.sort O,?_⟩;simp only[QR,ra];rw[<- hix];refine⟨λvs=>∃sv':ϣ,vs=[.i 0,.i 0,.i 0,.v sv',.r ((insX x.sx c).map Ze)]/\(hasS x.tel.sess c=Ϣ\/x.sx.length<6),⟨λh2=>⟨λh3 v33=>?_,λh3 v33=>?_⟩,λh2=>?_⟩,?_⟩
  . intro w1 hr_y1;have hz_y1:=hr_y1.mod.size;refine(Z4j (pre:=[]) hr_y1 34 0 [5,7,10]
      (Z23 w1 k x c v33 [pk1X { pD_Q 2 with code:=3 }] (Zad (toRd hr_y1) (by rfl) k x (Za [pk1X { pD_Q 2 with code:=3 }]) _ _ (hr_y1.at_ 7 rfl) (λj hj=>(qE 7 rfl rfl hj)) (Z2i rfl rfl _) (λj hj=>ϟ hj (Z16 rfl rfl)) [4,5,6,7,8,1,10,2,0] U rfl rfl) (show 1<1000000 by decide) (by omega))
      rfl rfl (ϑ _) rfl (λj hj=>?_)).mono ?_
    . rcases hj with hj|hj|hj|hj
      . exact(qE 2 rfl rfl hj)
      . exact(qE 3 rfl rfl hj)
      . exact(qE 7 rfl rfl hj)
      . exact ϟ hj (Z16 rfl rfl)
    rintro e w2_y1 ⟨y1,hy_y1,hs_y1,hg_y1,rfl,m1,m2,m3,m4⟩;refine⟨tlV y1,rfl,rfl,m1,m2,m3,m4,?_⟩;clear m1 m2 m3 m4;intro w7 hr7;refine⟨by trivial,y1,?_,(hr7.pick [0,1,2,3,4,5,11] (by decide)).conv rfl,(Grew.refl w.heap.size _ x).trans hg_y1 hz_y1 (λj h=>ϟ h (Z16 rfl rfl))⟩;rw[hy_y1,Z1c,ϛ h1,ϝ ⟨h2,by rw[Z28,qy3];omega⟩];rfl
  . intro w1 hr1;have hsz1:=hr1.mod.size;refine(Z1i2 w1 x.sv v33 x.sx begX ix (hr1.at_ 4 rfl) (hr1.at_ 0 rfl) (λj h4 h5=>hr1.sep.disj (i:=4) (j:=0) rfl rfl (by decide) (.inl rfl) (k:=j) h4 h5) hixl (by omega)).mono ?_;rintro e w2 ⟨v',rfl,g1,g2,g3⟩;have e1:x.sx.take ix++[begX]++x.sx.drop ix=insX x.sx c:=by rw[insX,ϛ (show ¬hasS (x.sx.map (·.1)) c=Ϣ from h2),hix];rfl
    rw[e1]at g1;refine⟨[.v v',.r ((insX x.sx c).map Ze)],rfl,rfl,g3.mono λj hj=>.inl ?_,qy5 _,qy2.2 ⟨⟨g1,λj hj=>?_⟩,qy5 _⟩,Z2,v',rfl,.inr (by omega)⟩
    . simp only[Zn,Zq,ϗ,List.nil_append,ϭ];exact List.mem_append_left _ hj
    . rcases g2 j hj with h|h
      . exact .inr (.inr (Z14 (i:=5) (qy8 ..) h))
      . exact .inl h
  . exact⟨x.sv,by rw[insX,ϝ (show hasS (x.sx.map (·.1)) c=Ϣ from qy9.1 h2)],.inl (qy9.1 h2)⟩
  rintro _ - ⟨sv',rfl,hroom⟩;have hst0:¬(¬hasS x.tel.sess c=Ϣ/\x.tel.sess.length=6):=by
    rw[Z28,qy3];rintro⟨h3,h4⟩;rcases hroom with h|h
    . exact h3 h
    . omega
  have hk0:Zc2 x.tel.sess c p.clean=(!((insX x.sx c).getD ix sxD).1.clean && !p.clean):=by rw[Zc2,Z28,<- Zic,<- Z28,<- hix,Zhm]
  have hrow:=Z57 hil1;simp only[QR,ra,hrow,Ze,Value.gB];obtain⟨kn,hkn⟩:∃kn,kn=Zc2 x.tel.sess c p.clean:=⟨_,rfl⟩
  refine⟨by omega,by omega,?_⟩;refine⟨λvs=>∃z:TelX,vs=[.i 0,.i 0,.i 0,.i 0,.i 0,.i 0,.i 0,.i 0,.i 0,.i 0,.i 0,.i 0,.v z.kv,.v z.wv,.v z.sv,.v z.av,.i z.next,.v z.ov,.r (z.kept.map encK),.r (z.wants.map encK),.r (z.sx.map Ze),.r (z.wat.map Z4),.r (z.ox.map Zp)]/\CnnZ x c kn w.heap.size z,⟨λh2=>?_,λh2=>?_⟩,?_⟩
  . have hk1:kn=θ:=by
      rw[hkn,hk0];simpa using h2
    intro w1 hr1;have hsz1:=hr1.mod.size;obtain⟨q1,q2⟩:=Zph (l:=x.sx) (l':=(insX x.sx c).set ix (freX c)) (o:=x.ox) (λt ht=>by
      rcases ϖ ht with ht|rfl
      . exact hnil t ht
      . exact .inr ⟨rfl,rfl,rfl,rfl⟩)
    refine(Z4j (k:=k) (x:={ x with sx:=(insX x.sx c).set ix (freX c),sv:=sv' }) (F:=λ_=>False) (pre:=[]) hr1 38 0 [36,7,10]
      (Z14v w1 k { x with sx:=(insX x.sx c).set ix (freX c),sv:=sv' } c ((Z1a7 hr1 (by rfl) k { x with sx:=(insX x.sx c).set ix (freX c),sv:=sv' } (q1 w1 (hr1.at_ 6 rfl)) (λj hj=>(qE 6 rfl rfl (q2 j hj))) [3,4,1,5,6,0,8] (by decide) (Zd rfl (Zd rfl (Zd (Z3w rfl ?_) rfl)))).conv rfl) (by show x.wants.length<1000000000;omega))
      rfl rfl (ϑ _) rfl (λj hj=>?_)).mono ?_
    . simp only[QR,ra];rw[<- Z2h];rfl
    . rcases hj with hj|hj|hj|hj
      . exact(qE 2 rfl rfl hj)
      . exact(qE 3 rfl rfl hj)
      . exact(qE 6 rfl rfl (q2 j hj))
      . exact hj.elim
    rintro e w7 ⟨y,⟨u,hy⟩,hsz7,hgr,rfl,m1,m2,m3,m4⟩;refine⟨tlV y,rfl,rfl,m1,m2,m3,m4,y,rfl,?_⟩;rw[hk1];refine⟨by rw[hy];exact⟨rfl,rfl⟩,by rw[hy];exact⟨rfl,rfl⟩,by rw[hy],by rw[hy];exact⟨rfl,rfl⟩,by rw[hy];rfl,by rw[hy,<- hix];rfl,λj hj=>?_⟩;rcases hgr.want j hj with h|h
    . exact .inl (ϓ hsz1 h)
    . exact .inr h
  . have hk1:kn=Ϣ:=by
      rw[hkn,hk0];simpa using h2
    refine⟨{ x with sx:=insX x.sx c,sv:=sv' },rfl,?_⟩;rw[hk1];exact⟨⟨rfl,rfl⟩,⟨rfl,rfl⟩,rfl,⟨rfl,rfl⟩,rfl,rfl,λj hj=>.inr hj⟩
  rintro _ - ⟨z,rfl,hz⟩;have hzm:∀t∈z.sx,t∈x.sx\/(t.1.fl=[]/\t.1.qu=[]/\t.2.1=.slice Ϝ 0 0/\t.2.2=.slice Ϝ 0 0):=by
    rw[hz.sx];split
    . exact hnil
    . intro t ht;rcases ϖ ht with ht|rfl
      . exact hnil t ht
      . exact .inr ⟨rfl,rfl,rfl,rfl⟩
  obtain⟨q1,q2⟩:=Zph (o:=x.ox) hzm;have hzl:ix<z.sx.length:=by
    rw[hz.sx];split
    . exact hil1
    . simpa using hil1
  obtain⟨ss,hss⟩:∃ss,ss=z.sx.getD ix sxD:=⟨_,rfl⟩
  have hmm:ss∈z.sx:=by rw[hss];exact Z58 hzl
  obtain⟨S1,hS1⟩:∃S1,S1=Zb8 x.tel.sess c p.clean:=⟨_,rfl⟩
  have hcom:{ ss.1 with clean:=p.clean }=S1:=by
    rw[hS1,Zb8,<- hkn,hss,hz.sx];cases kn with
    | false =>
      simp only[Bool.false_eq_true,if_false];rw[<- hix,qy1,Ϥ hil1];rfl
    | true =>
      simp only[if_true];rw[Z28,<- Zic,<- Z28,<- hix,Zhm]
  obtain⟨hok,hcl⟩:=Zi9 hb hc p.clean;rw[<- hS1]at hok hcl;simp only[QR,ra];refine⟨λvs=>vs=[],⟨by omega,rfl⟩,?_⟩;rintro _ - rfl;have hrow2:=Z57 hzl;rw[<- hss]at hrow2;obtain⟨s,s',s''⟩:=ss;have hset:(z.sx.map Ze).set ix [.string ⟨s.cl.toArray⟩,.bool s.on,.bool p.clean,sc1 s',sc1 s'',.int .i64 s.next]=(z.sx.set ix (S1,s',s'')).map Ze:=by rw[<- Z2h,<- hcom]
  simp only[QR,ra,hrow2,Ze,ϙ,Ϛ,Value.gI,Value.gB,Value.gS,Zv,hset,Zxu hzl,μ];have hfl:S1.fl=s.fl/\S1.qu=s.qu:=by rw[<- hcom];exact⟨rfl,rfl⟩
  refine⟨by omega,?_⟩;intro w1 hr1;have hsz1:=hr1.mod.size;obtain⟨hs1,hs2⟩:=Zy (q1 w1 (hr1.at_ 8 rfl)) hmm;refine(Zb (Z1hd w1 S1 s' s'' (by rw[hfl.1];exact hs1) (by rw[hfl.2];exact hs2) hok.next (by have:=hok.nf;omega) (by have:=hok.nq;omega)) rfl).mono ?_;obtain⟨R,hR⟩:∃R,R=Zcu S1:=⟨_,rfl⟩
  have hR9:R.2.length<=9:=by rw[hR];exact Zkb hok
  rw[<- hR];rintro e w2 ⟨u1,u2,u3,rfl,g1,g2,g3,g4,g5,g6,gm⟩;refine⟨[.s R.1.cl,.b R.1.on,.b R.1.clean,.v u1,.r (R.1.fl.map encF),.v u2,.r (R.1.qu.map encF),.i R.1.next,.v u3,.r ((R.2.map pkN).map Z2y)],rfl,rfl,gm,qy5 _,qy2.2 ⟨⟨g1,λk hk=>.inl (g4 k hk.2)⟩,qy2.2 ⟨⟨g2,λk hk=>.inl (g5 k hk.2)⟩,qy2.2 ⟨⟨by show reads w2 u3 kP ((R.2.map pkN).map Z2y);rw[Z7o];exact g3,λk hk=>.inl (g6 k hk.2)⟩,qy5 _⟩⟩⟩,Z4k ..,?_⟩;have n1:newV w.heap.size u1:=λj hj=>ϓ hsz1 (g4 j hj);have n2:newV w.heap.size u2:=λj hj=>ϓ hsz1 (g5 j hj);clear hr1 hs1 hs2 g1 g2 g3 g6 gm;intro b71;refine⟨λvs=>vs=[],rfl,?_⟩;rintro _ - rfl;intro v72 w3 hr3;have hsz3:=hr3.mod.size;obtain⟨X3,hX3⟩:∃X3:TelX,X3={ z with sx:=z.sx.set ix (R.1,u1,u2) }:=⟨_,rfl⟩
  have hA3:∀w3:Ϲ,(Z3 x.sx x.ox).holds w3->Zi w3 u1 R.1.fl->Zi w3 u2 R.1.qu->(Z3 X3.sx X3.ox).holds w3:=λw3 h1 h2 h3=>by rw[hX3];exact Z5t (by rw[hz.ox.1];exact q1 w3 h1) h2 h3
  have hF3:∀j,(Z3 X3.sx X3.ox).fp j->(Z3 x.sx x.ox).fp j\/((R.1.fl.map encF).flatten≠[]/\Z1 u1 j)\/((R.1.qu.map encF).flatten≠[]/\Z1 u2 j):=λj hj=>by
    rw[hX3]at hj;rcases Z2g hj with h|h
    . rw[hz.ox.1]at h;exact .inl (q2 j h)
    . exact .inr h
  have hg3:Grew w.heap.size (λ_=>False) x X3:=by
    refine⟨λj hj=>.inr ?_,λj hj=>?_,λj hj=>?_⟩
    . rw[hX3]at hj;unfold Zkn at hj⊢;simp only[hz.kept.1,hz.kept.2]at hj;exact hj
    . rw[hX3]at hj;exact hz.want j hj
    . rcases hF3 j hj with h|⟨-,h⟩|⟨-,h⟩
      . exact .inr (.inl h)
      . exact .inl (n1 j h)
      . exact .inl (n2 j h)
  have hX0:X3.ox=x.ox:=by rw[hX3];exact hz.ox.1
  have hXt:X3.tel={ x.tel with wants:=if Zc2 x.tel.sess c p.clean=Ϣ then x.tel.wants else x.tel.wants.filter λw=>decide (¬w.1=c),sess:=(insS x.tel.sess c).set (idxS x.tel.sess c) R.1 }:=by
    rw[hX3];simp only[TelX.tel,hz.kept.1,hz.wants,hz.wat.1,hz.next,hz.ox.1,Ϧ,hkn];congr 1
    rw[hz.sx,hkn];rw[show x.tel.sess=x.sx.map (·.1) from rfl]at hix⊢;split
    . rw[Zic,hix]
    . rw[Ϧ,Zic,hix,ξ]
  refine(Z4j (k:=k) (x:=X3) (F:=(Za [pk1X { pD_Q 2 with session:=kn }]).fp) (pre:=[]) hr3 73 0 [52,53,55]
    (Z23 w3 k X3 c v72 [pk1X { pD_Q 2 with session:=kn }] (Zad (toRd hr3) (by rfl) k X3 (Za [pk1X { pD_Q 2 with session:=kn }]) _ _ (hA3 w3 (hr3.at_ 13 rfl) (hr3.at_ 2 rfl) (hr3.at_ 3 rfl)) (λj hj=>?_) (Z2i rfl rfl _) (λj hj=>ϟ hj (Z16 rfl rfl)) [7,8,9,10,11,1,16,2,0] (by decide) rfl
      (by rw[hX3];exact Zd rfl (Zd rfl (Zd (Z3w rfl (by simp only[QR,ra,hrow2,Ze,ϙ,Ϛ,Value.gI,Value.gB,Value.gS,Zv,hset];exact(Z2h (z.sx.set ix (S1,s',s'')) ix (R.1,u1,u2)).trans (by rw[ξ]))) (Zd rfl (Zd rfl (Zd rfl (Zd rfl (Zd (Zae rfl (by simp only[QR,ra,hrow,Ze,ϙ,Ϛ,Value.gB];rw[hkn,hk0];rfl)) rfl))))))))) (show 1<1000000 by decide) (by rw[hX0];omega))
    rfl rfl (ϑ _) (by rw[hX3];rfl) (λj hj=>?_)).mono ?_
  . rcases hF3 j hj with h|h|h
    . exact(qE 13 rfl rfl h)
    . exact(qE 2 rfl rfl h)
    . exact(qE 3 rfl rfl h)
  . rcases hj with hj|hj|hj|hj
    . rw[hX3]at hj;exact(qE 5 rfl rfl hj)
    . rw[hX3]at hj;exact(qE 6 rfl rfl hj)
    . rcases hF3 j hj with h|h|h
      . exact(qE 13 rfl rfl h)
      . exact(qE 2 rfl rfl h)
      . exact(qE 3 rfl rfl h)
    . exact ϟ hj (Z16 rfl rfl)
  rintro e w4 ⟨y1,hy1,hs1,hgr1,rfl,m1,m2,m3,m4⟩;refine⟨tlV y1,rfl,rfl,m1,m2,m3,m4,?_⟩;clear m1 m2 m3 m4 hr3;have l1:y1.ox.length<=x.ox.length+1:=by
    have h5:y1.tel.out.length=y1.ox.length:=by simp[TelX.tel]
    have h6:X3.tel.out.length=x.ox.length:=by rw[hXt];simp[TelX.tel]
    rw[hy1]at h5;simp only[qy11,qy3,ϒ,ϕ]at h5;omega
  intro w5 hr5;have hsz5:=hr5.mod.size;refine(Z4j (k:=k) (x:=y1) (F:=(Za (R.2.map pkN)).fp) (pre:=[]) hr5 85 0 [77,79,82]
    (Z23 w5 k y1 c u3 (R.2.map pkN) (Zad hr5 (by rfl) k y1 (Za (R.2.map pkN)) _ _ (hr5.at_ 5 rfl) (λj hj=>(qE 5 rfl rfl hj)) (Z6p _ _) (λj hj=>ϟ hj Z3z) [2,3,4,5,6,1,19,12,0] (by decide) rfl rfl) (by rw[qy3];omega) (by omega))
    rfl rfl (ϑ _) rfl (λj hj=>?_)).mono ?_
  . rcases hj with hj|hj|hj|hj
    . exact(qE 0 rfl rfl hj)
    . exact(qE 1 rfl rfl hj)
    . exact(qE 5 rfl rfl hj)
    . exact ϟ hj Z3z
  rintro e w6 ⟨y2,hy2,hs2,hgr2,rfl,m1,m2,m3,m4⟩;refine⟨tlV y2,rfl,rfl,m1,m2,m3,m4,?_⟩;intro w7 hr7;refine⟨by trivial,y2,?_,(hr7.pick [0,1,2,3,4,5,20] (by decide)).conv rfl,(hg3.trans hgr1 hsz3 (λj h=>ϟ h (Z16 rfl rfl))).trans hgr2 hsz5 (λj h=>ϟ h Z3z)⟩;rw[hy2,hy1,hXt,Zg9,Z1c,ϛ h1,ϛ hst0,<- hS1,<- hR,hkn];rfl
