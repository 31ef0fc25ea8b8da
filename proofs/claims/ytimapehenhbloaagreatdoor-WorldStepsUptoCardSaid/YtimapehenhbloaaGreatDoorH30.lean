/- By an AI agent. -/
import Derived.Test.YtimapehenhbloaaGreatDoorH29
import Derived.LoopN
set_option linter.all false
set_option maxHeartbeats 20000000
set_option maxRecDepth 100000
open Nat renaming reduceAdd→ra
open Go.Proofs.Tryz renaming prog→ϐ
open Option renaming none→ϑ,some→ϔ,mem_toList→Ϙ
open Nat renaming le_trans→ϒ,succ_pos→ϫ,sub_self→Ϭ,add_zero→Ϸ,le_refl→η
open List renaming map_append→ϓ,mem_append_left→ϖ,mem_append_right→ϙ,map_nil→Ϝ,getD_cons_zero→Ϟ,getD_cons_succ→Ϡ,map_cons→Ϣ,mem_cons→ϣ,append_nil→ϥ,nil_append→Ϧ,getElem?_append_right→ϧ,drop_eq_getElem_cons→Ϩ,mem_or_eq_of_mem_set→ϩ,getElem?_append_left→Ϫ,pairwise_append→Ϯ,mem_map_of_mem→ϯ,filter_append→ϰ,foldl_append→ϱ,flatMap_cons→ϳ,filter_cons→ϸ,drop_length→Ϲ,not_mem_nil→Ϻ,foldl_cons→ϻ,map_take→γ,map_drop→δ,map_set→ε,mem_map→ζ
open Go renaming Calls→ϕ,Value→ϗ,World→Ϛ
open Bool renaming true→Ϥ,false→ϭ,eq_false_iff→ϲ,or_eq_true→β
namespace Go.Proofs.Y
open Go Go.Sx
variable(c:By)
def Zv5(l:List Ky):By:=l.foldl (λs a=>if a.1=c then a.2 else s) []
def notR(l:List Ky):List Ky:=l.filter λa=>decide (¬a.1=c)
def noR{c:By}:∀{l:List Ky} {s:By},(∀r∈l,¬r.1=c)->l.foldl (λs a=>if a.1=c then a.2 else s) s=s/\notR c l=l
 | [],_,_=>⟨rfl,rfl⟩
 | a::l,s,h=>by obtain⟨h1,h2⟩:=noR λr hr=>h r (.tail _ hr);have h3:=h a (.head _);exact⟨by rw[ϻ,ϛ h3,h1],by rw[notR,ϸ,ϝ (decide_eq_true h3)];exact congrArg _ h2⟩
def Z1g2{l:List Ky}(h:ROk l)(c:By):takW l c=(Zv5 c l,notR c l):=by
 have h2:=(Zia h c).2.1;by_cases h1:hasR l c=Ϥ
 ·rw[takW,ϝ h1]at h2⊢;obtain⟨h3,h4⟩:=of_decide_eq_true h1;have e:l=l.take (idxR l c)++l.getD (idxR l c) rstD::l.drop (idxR l c+1):=by
   rw[qy1,qy7 h3];exact(List.take_append_drop (idxR l c) l).symm.trans (congrArg _ (Ϩ h3))
  generalize l.getD (idxR l c) rstD=r at *
  generalize l.take (idxR l c)=a at *
  generalize l.drop (idxR l c+1)=b at *
  rw[Zv5,notR,e,ϱ,ϻ,ϝ h4,ϰ,ϸ,ϛ (by simp[h4]),(noR λx hx=>h2 x (ϙ _ hx)).1];exact congrArg _ (congr (congrArg _ (noR (s:=[]) λx hx=>h2 x (ϖ _ hx)).2.symm) (noR (s:=[]) λx hx=>h2 x (ϙ _ hx)).2.symm)
 ·rw[takW,ϛ h1]at h2⊢;exact congr (congrArg _ (noR h2).1.symm) (noR (s:=[]) h2).2.symm
variable{i:Nat}
def Zsw{l:List Ky}(h:i<l.length)(c:By):Zv5 c (l.take (i+1))=(if(l.getD i rstD).1=c then(l.getD i rstD).2 else Zv5 c (l.take i)) /\
  notR c (l.take (i+1))=if(l.getD i rstD).1=c then notR c (l.take i)else notR c (l.take i)++[l.getD i rstD]:=by
 rw[List.take_add_one,qy1,qy7 h,Zv5,notR,ϱ,ϰ];simp only[Option.getD_some];refine⟨rfl,?_⟩;by_cases h1:l[i].1=c
 ·simp[h1,notR]
 ·simp[h1,notR]
def Z1ar{l:List Ky}{c:By}{m:Nat}(h:sortR l)(hn:∀r∈l,¬r.1=c)(hm:m<=l.length)(h1:∀j,m<=j->j<l.length->Z5 c (l.getD j rstD).1=Ϥ)(h2:0<m->¬Z5 c (l.getD (m - 1) rstD).1=Ϥ):m=idxR l c:=by
 refine Zsg hm (λj hj=>?_) λj h6 h7=>Z1h (h1 j h6 h7);have h7:Z5 (l.getD (m - 1) rstD).1 c=Ϥ:=by
  rcases Z15.1 (ϲ.2 (h2 O))with h7|h7
  ·exact h7
  ·exact ϟ h7.symm λh8=>hn _ (memR O) h8.symm
 by_cases h8:j=m - 1
 ·rw[h8];exact h7
 ·exact Zf (Zpn h O O) h7
def Z15v{n p:By}{t:Tel}(h:¬(Z13 n p t).2=Ϥ):(Z13 n p t).1=t:=by
 unfold Z13 at h⊢;split
 ·rfl
 ·rename_i h1;rw[ϛ h1]at h;split at h<;>exact ϟ rfl h
variable(w:Ϛ)
def Z15w(k:Nat)(x:TelX)(n:Int)(m:Msg)(mv:ϗ)(hr:Rel ⟨Zh (tlA k x) tlH,w⟩ (tlA k x++([.i n]++mgV m mv)) (tlH++[.rd 18 [.int .i64,.str] (.var 19)]) w)(hb:BOk x.tel)(ho:x.ox.length<40000)(hn:0<=n/\n<=9)(hm:chk m=0): ϕ ϐ 170 #[.pointer (ϔ ⟨k,0,ϑ⟩),.int .i64 n,mV m (sc1 mv)] w λe w'=>e=.returned (.tuple #[])/\Zbc w w' k x (λ_=>False) (Z3n n m x.tel):=by
  refine Wu Z7a hr ?_;simp only[QR,ra];have hzn:0<=x.next/\x.next<=65535:=hb.next;obtain⟨-,-,⟨m1,mo,mp⟩,-⟩:=Zac.1 hm;obtain⟨AK,hAK⟩:∃AK:Int,AK=if m.kind=1 then 1 else 2:=⟨_,rfl⟩
  obtain⟨AI,hAI⟩:∃AI:Int,AI=if m.kind=1 then x.next else m.id:=⟨_,rfl⟩
  obtain⟨N,hN⟩:∃N:Int,N=if m.kind=1 then nx_Z x.next else x.next:=⟨_,rfl⟩
  have hans:Z2a m x.next=(⟨AK,133,AI,m.tok,[],[]⟩:Msg):=by rw[Z2a,hAK,hAI];split<;>rfl
  have hnil:∀s∈[toP n (⟨AK,133,AI,m.tok,[],[]⟩:Msg)],nilS s:=λs hs=>by rw[qy12.1 hs];exact⟨rfl,rfl,rfl⟩
  obtain⟨q1,q2⟩:=Zbs hnil;simp only[Ϣ,Ϝ]at q1 q2;have hox:x.ox.map Zp++[Zp (nilX (toP n (⟨AK,133,AI,m.tok,[],[]⟩:Msg)))]=(x.ox++[nilX (toP n (⟨AK,133,AI,m.tok,[],[]⟩:Msg))]).map Zp:=by rw[ϓ];rfl
  intro b21 b22;refine⟨λvs=>vs=[.i AK,.i AI,.i N],⟨λh=>⟨O,O,?_⟩,λh=>?_⟩,?_⟩
  . rw[Z14x _ hzn,hAK,hAI,hN,ϝ h,ϝ h,ϝ h]
  . rw[hAK,hAI,hN,ϛ h,ϛ h,ϛ h]
  rintro _ - rfl;simp only[QR,ra];intro b26 v27;refine⟨by first|omega|(simp;omega),λv28=>?_⟩;refine⟨[.s (Z1f m.opts).1,.i (Z1f m.opts).2],rfl,λ_ w' hr=>Z19p w' m mv (hr.at_ 11 rfl) hm,?_⟩;simp only[QR,ra];obtain⟨T1,hT1⟩:∃T1:Tel,T1=TelX.tel { x with next:=N,ox:=x.ox++[nilX (toP n (⟨AK,133,AI,m.tok,[],[]⟩:Msg))],ov:=v28 }:=⟨_,rfl⟩
  have hT1':T1={ x.tel with next:=N,out:=x.tel.out++[toP n (⟨AK,133,AI,m.tok,[],[]⟩:Msg)] }:=by rw[hT1];simp only[TelX.tel,ϓ,Ϣ,Ϝ];rfl
  have hB1:BOk T1:=by
    rw[hT1'];refine⟨hb.kept,hb.wants,hb.ns,hb.ses,hb.sort,hb.wat,hb.has,hb.kpt,?_⟩
    show 0<=N/\N<=65535
    rw[hN];split
    . exact Zgw _ hzn.1
    . exact hzn
  have hG1:∀w0:Nat,Grew w0 (λ_=>False) x { x with next:=N,ox:=x.ox++[nilX (toP n (⟨AK,133,AI,m.tok,[],[]⟩:Msg))],ov:=v28 }:=λw0=>⟨λj hj=>.inr hj,λj hj=>.inr hj,λj hj=>.inr (.inl (q2 j hj))⟩
  have hol:x.tel.out.length=x.ox.length:=by simp[TelX.tel]
  have lenX:∀y:TelX,y.tel.out.length=y.ox.length:=λy=>by simp[TelX.tel]
  have l1:T1.out.length=x.ox.length+1:=by rw[hT1'];simp only[qy11,List.length_cons,List.length_nil,hol]
  have hpn:(Z1f m.opts).2=0->chkT (Z1f m.opts).1 ϭ=0:=Zeo;refine⟨λvs=>∃(y:TelX) (a':Msg) (u:ϗ),vs=[.i 0,.i 0,.i 0,.i 0,.i 0,.i 0,.i 0,.i 0,.i 0,.i 0,.i 0,.i 0,.i 0,.i 0,.i 0,.i 0,.i 0,.i 0,.i 0,.i 0,.i 0,.i 0,.i 0,.i 0,.i 0,.i a'.kind,.i a'.code,.i a'.id,.s a'.tok,.v u,.s a'.pay,.v y.kv,.v y.wv,.v y.sv,.v y.av,.i y.next,.v y.ov,.r (a'.opts.map encO),.r (y.kept.map encK),.r (y.wants.map encK),.r (y.sx.map Ze),.r (y.wat.map Z4),.r (y.ox.map Zp),.a (Z3 y.sx y.ox)]/\(y.tel,a')=doB n m (⟨AK,133,AI,m.tok,[],[]⟩:Msg) T1/\Grew w.heap.size (λ_=>False) x y/\(∀j,Z1 u j->w.heap.size<=j),⟨λh1=>?_,λh1=>⟨λh2=>?_,λh2=>⟨λh3=>⟨λh4=>?_,λh4=>?_⟩,λh3=>⟨λh4=>?_,λh4=>?_⟩⟩⟩⟩,?_⟩
  . refine⟨Z3 x.sx (x.ox++[nilX (toP n (⟨AK,133,AI,m.tok,[],[]⟩:Msg))]),λw hr=>q1 w (hr.at_ 9 rfl),λj hj=>(qE 9 rfl rfl (q2 j hj)),{ x with next:=N,ox:=x.ox++[nilX (toP n (⟨AK,133,AI,m.tok,[],[]⟩:Msg))],ov:=v28 },{ (⟨AK,133,AI,m.tok,[],[]⟩:Msg)with code:=128 },.slice ϑ 0 0,?_,?_,hG1 _,λj hj=>ϟ hj (by simp[Z1,Value.ownBlock])⟩
    . rw[<- hox];rfl
    . rw[doB,ϝ h1,hT1]
  . have h1':=qy9.1 h1;intro w1 hr1;have hz1:=hr1.mod.size;have hq:=Z1i5 hr1 (by rfl) k { x with next:=N,ox:=x.ox++[nilX (toP n (⟨AK,133,AI,m.tok,[],[]⟩:Msg))],ov:=v28 } ([.i n]++mgV m mv++mgV (⟨AK,133,AI,m.tok,[],[]⟩:Msg) (.slice ϑ 0 0)++[.s (Z1f m.opts).1]) [.rd 18 [.int .i64,.str] (.var 19)] (q1 _ (hr1.at_ 9 rfl)) (λj hj=>(qE 9 rfl rfl (q2 j hj))) [6,7,8,9,1,0,11,12] U rfl (Zd rfl (Zd rfl (Zd rfl (Zd rfl (Zd (Z3w rfl hox) rfl)))));have hq1:=hq.cons (e:=.rd 25 [.int .i64,.str] (.var 26)) (show reads w1 (.slice ϑ 0 0) [.int .i64,.str] [] from Z6 _ _) (λh=>Bool.noConfusion h) (λe' _ _ k hk _=>hk.1 rfl);have hq2:Rel ⟨Zh (tlA k { x with next:=N,ox:=x.ox++[nilX (toP n (⟨AK,133,AI,m.tok,[],[]⟩:Msg))],ov:=v28 }) tlH,w1⟩ (tlA k { x with next:=N,ox:=x.ox++[nilX (toP n (⟨AK,133,AI,m.tok,[],[]⟩:Msg))],ov:=v28 }++([.i n]++mgV m mv++mgV (⟨AK,133,AI,m.tok,[],[]⟩:Msg) (.slice ϑ 0 0)++[.s (Z1f m.opts).1])) (tlH++[.rd 18 [.int .i64,.str] (.var 19),.rd 25 [.int .i64,.str] (.var 26)]) w1:=(hq1.pick [1,2,3,4,5,6,7,8,0] U).conv rfl;clear hq hq1;have hc:=Z1fq w1 k { x with next:=N,ox:=x.ox++[nilX (toP n (⟨AK,133,AI,m.tok,[],[]⟩:Msg))],ov:=v28 } n m (⟨AK,133,AI,m.tok,[],[]⟩:Msg) mv (.slice ϑ 0 0) (Z1f m.opts).1 hq2 (by rw[<- hT1];exact hB1) O (show 0<1000000000 by decide);rw[<- hT1]at hc;obtain⟨G,hG⟩:∃G,G=getB n m (⟨AK,133,AI,m.tok,[],[]⟩:Msg) (Z1f m.opts).1 T1:=⟨_,rfl⟩
    rw[<- hG]at hc;refine(Z1i6 hr1 38 0 [5,7,28] hc
      (λj hj=>by simp[Z1,Value.ownBlock]at hj) rfl rfl (ϫ _) rfl (λj hj=>?_)).mono ?_
    . rcases hj with hj|hj|hj
      . exact(qE 5 rfl rfl hj)
      . exact(qE 6 rfl rfl hj)
      . exact(qE 9 rfl rfl (q2 j hj))
    rintro e w2 ⟨y,v,hy,hsz,hg,hv,rfl,m1,m2,m3,m4⟩;refine⟨mgV G.2 v++tlV y,rfl,rfl,m1,m2,m3,m4,?_⟩;refine⟨Z3 y.sx y.ox,λw hr=>hr.at_ 6 rfl,λj hj=>(qE 6 rfl rfl hj),y,G.2,v,rfl,?_,(hG1 _).trans hg hz1 (λ_ h=>h.elim),λj hj=>ϒ hz1 (hv j hj)⟩;rw[hy,doB,ϛ h1,ϝ h2,<- hG]
  . have h1':=qy9.1 h1;intro w1 hr1;have hz1:=hr1.mod.size;have hc:=Zxt w1 k { x with next:=N,ox:=x.ox++[nilX (toP n (⟨AK,133,AI,m.tok,[],[]⟩:Msg))],ov:=v28 } (Z1f m.opts).1 m.pay ((Z1a7 hr1 (by rfl) k { x with next:=N,ox:=x.ox++[nilX (toP n (⟨AK,133,AI,m.tok,[],[]⟩:Msg))],ov:=v28 } (q1 _ (hr1.at_ 9 rfl)) (λj hj=>(qE 9 rfl rfl (q2 j hj))) [6,7,8,9,1,0,11] (by decide) (Zd rfl (Zd rfl (Zd rfl (Zd rfl (Zd (Z3w rfl hox) rfl)))))).conv rfl) (by rw[<- hT1];exact hB1) (by rw[<- lenX,<- hT1];omega);rw[<- hT1]at hc;refine(Z4j (pre:=[.b (Z13 (Z1f m.opts).1 m.pay T1).2]) hr1 32 0 [5,7,28] hc
      rfl rfl (ϫ _) rfl (λj hj=>?_)).mono ?_
    . rcases hj with hj|hj|hj|hj;(· exact(qE 5 rfl rfl hj));(· exact(qE 6 rfl rfl hj));(· exact(qE 9 rfl rfl (q2 j hj)));(· exact hj.elim)
    rintro e w2 ⟨y,hy,hsz,hg,rfl,m1,m2,m3,m4⟩;refine⟨.b (Z13 (Z1f m.opts).1 m.pay T1).2::tlV y,rfl,rfl,m1,m2,m3,m4,?_⟩;clear m1 m2 m3 m4;obtain⟨b2,-,s2,l2⟩:=Z4w (p:=m.pay) hB1 (hpn h1');have g2:Grew w.heap.size (λ_=>False) x y:=(hG1 _).trans hg hz1 (λ_ h=>h.elim);refine⟨λh5=>?_,λh5=>?_⟩
    . intro w3 hr3;have hz3:=hr3.mod.size;refine(Z4j (pre:=[]) hr3 44 0 [36,38,41]
        (Zsc w3 k y (Z1f m.opts).1 m.pay 1 (((hr3.pick [0,1,2,3,4,5,13] (by decide)).conv rfl).base.conv rfl) (by rw[hy];exact b2) (by rw[<- lenX,hy];omega) (by show Z2d y.tel.wants;rw[hy,s2,hT1'];exact Z8v hb.wants) (by unfold flE;rw[ϝ (hpn h1'),ϛ (show ¬200<(m.pay.length:Int) from by omega)]) (by decide))
        rfl rfl (ϫ _) rfl (λj hj=>?_)).mono ?_
      . rcases hj with hj|hj|hj|hj
        . exact(qE 0 rfl rfl hj)
        . exact(qE 1 rfl rfl hj)
        . exact(qE 5 rfl rfl hj)
        . exact hj.elim
      rintro e w4 ⟨y2,hy2,hsz2,hg2,rfl,m1,m2,m3,m4⟩;refine⟨tlV y2,rfl,rfl,m1,m2,m3,m4,?_⟩;refine⟨Z3 y2.sx y2.ox,λw hr=>hr.at_ 5 rfl,λj hj=>(qE 5 rfl rfl hj),y2,{ (⟨AK,133,AI,m.tok,[],[]⟩:Msg)with code:=68 },.slice ϑ 0 0,rfl,?_,g2.trans hg2 hz3 (λ_ h=>h.elim),λj hj=>ϟ hj (by simp[Z1,Value.ownBlock])⟩;rw[hy2,hy,doB,ϛ h1,ϛ h2,ϝ h3,ϝ ⟨h4,h5⟩]
    . refine⟨Z3 y.sx y.ox,λw hr=>hr.at_ 5 rfl,λj hj=>(qE 5 rfl rfl hj),y,{ (⟨AK,133,AI,m.tok,[],[]⟩:Msg)with code:=128 },.slice ϑ 0 0,rfl,?_,g2,λj hj=>ϟ hj (by simp[Z1,Value.ownBlock])⟩;rw[hy,doB,ϛ h1,ϛ h2,ϝ h3,ϛ λh=>h5 h.2,Z15v h5]
  . refine⟨Z3 x.sx (x.ox++[nilX (toP n (⟨AK,133,AI,m.tok,[],[]⟩:Msg))]),λw hr=>q1 w (hr.at_ 9 rfl),λj hj=>(qE 9 rfl rfl (q2 j hj)),{ x with next:=N,ox:=x.ox++[nilX (toP n (⟨AK,133,AI,m.tok,[],[]⟩:Msg))],ov:=v28 },{ (⟨AK,133,AI,m.tok,[],[]⟩:Msg)with code:=128 },.slice ϑ 0 0,?_,?_,hG1 _,λj hj=>ϟ hj (by simp[Z1,Value.ownBlock])⟩
    . rw[<- hox];rfl
    . rw[doB,ϛ h1,ϛ h2,ϝ h3,ϛ λh=>h4 h.1,hT1]
  . intro w1 hr1;have hz1:=hr1.mod.size;have hc:=Zxt w1 k { x with next:=N,ox:=x.ox++[nilX (toP n (⟨AK,133,AI,m.tok,[],[]⟩:Msg))],ov:=v28 } (Z1f m.opts).1 [] ((Z1a7 hr1 (by rfl) k { x with next:=N,ox:=x.ox++[nilX (toP n (⟨AK,133,AI,m.tok,[],[]⟩:Msg))],ov:=v28 } (q1 _ (hr1.at_ 9 rfl)) (λj hj=>(qE 9 rfl rfl (q2 j hj))) [6,7,8,9,1,0,11] (by decide) (Zd rfl (Zd rfl (Zd rfl (Zd rfl (Zd (Z3w rfl hox) rfl)))))).conv rfl) (by rw[<- hT1];exact hB1) (by rw[<- lenX,<- hT1];omega);rw[<- hT1]at hc;refine(Z4j (k:=k) (x:={ x with next:=N,ox:=x.ox++[nilX (toP n (⟨AK,133,AI,m.tok,[],[]⟩:Msg))],ov:=v28 }) (F:=λ_=>False) (pre:=[.b (Z13 (Z1f m.opts).1 [] T1).2]) hr1 32 0 [5,7,28] hc
      rfl rfl (ϫ _) rfl (λj hj=>?_)).mono ?_
    . rcases hj with hj|hj|hj|hj;(· exact(qE 5 rfl rfl hj));(· exact(qE 6 rfl rfl hj));(· exact(qE 9 rfl rfl (q2 j hj)));(· exact hj.elim)
    rintro e w2 ⟨y,hy,hsz,hg,rfl,m1,m2,m3,m4⟩;refine⟨.b (Z13 (Z1f m.opts).1 [] T1).2::tlV y,rfl,rfl,m1,m2,m3,m4,?_⟩;clear m1 m2 m3 m4;refine⟨Z3 y.sx y.ox,λw hr=>hr.at_ 5 rfl,λj hj=>(qE 5 rfl rfl hj),y,{ (⟨AK,133,AI,m.tok,[],[]⟩:Msg)with code:=66 },.slice ϑ 0 0,rfl,?_,(hG1 _).trans hg hz1 (λ_ h=>h.elim),λj hj=>ϟ hj (by simp[Z1,Value.ownBlock])⟩;rw[hy,doB,ϛ h1,ϛ h2,ϛ h3,ϝ h4]
  . refine⟨Z3 x.sx (x.ox++[nilX (toP n (⟨AK,133,AI,m.tok,[],[]⟩:Msg))]),λw hr=>q1 w (hr.at_ 9 rfl),λj hj=>(qE 9 rfl rfl (q2 j hj)),{ x with next:=N,ox:=x.ox++[nilX (toP n (⟨AK,133,AI,m.tok,[],[]⟩:Msg))],ov:=v28 },(⟨AK,133,AI,m.tok,[],[]⟩:Msg),.slice ϑ 0 0,?_,?_,hG1 _,λj hj=>ϟ hj (by simp[Z1,Value.ownBlock])⟩
    . rw[<- hox];rfl
    . rw[doB,ϛ h1,ϛ h2,ϛ h3,ϛ h4,hT1]
  rintro _ - ⟨y,a',u,rfl,hdo,hgr,hu⟩;try simp only[QR,ra]
  have hy:y.tel=(doB n m (⟨AK,133,AI,m.tok,[],[]⟩:Msg) T1).1:=congrArg Prod.fst hdo;have hpre:=Z1ce n m (⟨AK,133,AI,m.tok,[],[]⟩:Msg) T1;rw[<- hy,hT1']at hpre;obtain⟨r,hr0⟩:=hpre;obtain⟨hlt,hat⟩:=Z1cf hr0;rw[hol]at hlt hat;refine⟨λvs=>vs=[],⟨by omega,rfl⟩,?_⟩;rintro _ - rfl;try simp only[QR,ra]
  intro w3 hr3;obtain⟨t0,ht0⟩:∃t0,t0=y.ox.getD x.ox.length sntD:=⟨_,rfl⟩
  have hmem:t0∈y.ox:=by rw[ht0];exact Z1ah hlt
  rw[<- ht0]at hat;have hrow:=Z1ag hlt;rw[<- ht0]at hrow;obtain⟨s,va,vc,vo⟩:=t0;simp only at hat;subst hat;obtain⟨z,hz⟩:∃z:TelX,z={ y with ox:=y.ox.set x.ox.length (toP n a',va,vc,u) }:=⟨_,rfl⟩
  have hA:=hr3.at_ 0 rfl;have hO:Z3q w3 u a'.opts:=hr3.at_ 1 rfl;have hsn:=Z7n (hA:(Z3 y.sx y.ox).holds w3) hmem;have hfz:∀j,(Z3 z.sx z.ox).fp j->(Z3 y.sx y.ox).fp j\/((a'.opts.map encO).flatten≠[]/\Z1 u j):=λj hj=>by
    rw[hz]at hj;rcases Z7.1 hj with h|⟨t,ht,hk⟩
    . exact .inl (Z7.2 (.inl h))
    . rcases ϩ ht with ht|rfl
      . exact .inl (Z7.2 (.inr ⟨t,ht,hk⟩))
      . rcases hk with hk|hk|hk
        . exact ϟ rfl hk.1
        . exact ϟ rfl hk.1
        . exact .inr hk
  refine⟨by trivial,z,?_,?_,?_⟩
  . have ha':a'=(doB n m (⟨AK,133,AI,m.tok,[],[]⟩:Msg) T1).2:=congrArg Prod.snd hdo;have e1:Z3n n m x.tel={ (doB n m (⟨AK,133,AI,m.tok,[],[]⟩:Msg) T1).1 with out:=(doB n m (⟨AK,133,AI,m.tok,[],[]⟩:Msg) T1).1.out.set x.tel.out.length (toP n (doB n m (⟨AK,133,AI,m.tok,[],[]⟩:Msg) T1).2) }:=by
      rw[Z3n,show Z2a m x.tel.next=(⟨AK,133,AI,m.tok,[],[]⟩:Msg) from hans,hT1',hN];rfl
    rw[e1,<- hy,<- ha',hz,hol];simp only[TelX.tel,ε]
  . refine Zs9 hr3 (by rfl) k z ?_ (λj hj=>?_) [3,4,5,6,7,0,15] (by decide) ?_
    . rw[hz];refine Z10 (λt ht=>.inl ht) (λt ht=>?_) hA;rcases ϩ ht with ht|rfl
      . exact .inl ht
      . exact .inr ⟨hsn.1,hsn.2.1,hO⟩
    . rcases hfz j hj with h|h
      . exact(qE 0 rfl rfl h)
      . exact(qE 1 rfl rfl h)
    . rw[hz];refine Zd rfl (Zd rfl (Zd rfl (Zd rfl (Zd (Z3w rfl ?_) rfl))));simp only[QR,ra,hrow,Zp,Ϟ,Ϡ,Value.gI,Value.gB,Value.gS,Zv,ε]
  . rw[hz];refine⟨λj hj=>hgr.kept j hj,λj hj=>hgr.want j hj,λj hj=>?_⟩;rw[<- hz]at hj;rcases hfz j hj with h|h
    . exact hgr.nest j h
    . exact .inl (hu j h.2)
abbrev bcA(k:Nat)(x:TelX):List V:=[.n k,.v x.kv,.r (x.kept.map encK),.v x.wv,.r (x.wants.map encK),.v x.sv,.r (x.sx.map Ze),.a (Z3 x.sx x.ox),.v x.av,.r (x.wat.map Z4),.i x.next]
abbrev bcH:List Ent:=[.rd 1 kK (.var 2),.rd 3 kK (.var 4),.rd 5 kSx (.var 6),.st 7,.rd 8 kW_K (.var 9),.cells 0 27 [.val (.var 1),.val (.var 3),.val (.var 5),.val (.var 8),.int .i64 (.var 10)]]
def Zgg(w':Ϛ)(e:Ending)(k:Nat)(x:TelX)(c:Int):Prop:=e=.returned (.int .i64 c)/\Rel ⟨Zh (bcA k x) bcH,w⟩ (bcA k x) bcH w'
def Z1ih(k:Nat)(x:TelX)(hr:Rel ⟨Zh (bcA k x) bcH,w⟩ (bcA k x) bcH w)(hs:Zb5 x.kept)(hl:x.kept.length<1000000000): ϕ ϐ 39 #[.pointer (ϔ ⟨k,0,ϑ⟩)] w λe w'=>Zgg w w' e k x (chkK x.kept):=by refine Wu Zd0 hr ?_;simp only[QR];refine⟨[.i (chkK x.kept)],rfl,λ_ w' hr=>Z18z w' x.kv x.kept (hr.at_ 0 rfl) hs hl,?_⟩;intro w3 hr3;exact⟨rfl,(hr3.pick [0,1,2,3,4,5] U).conv rfl⟩
def Z1ii(k:Nat)(x:TelX)(hr:Rel ⟨Zh (bcA k x) bcH,w⟩ (bcA k x) bcH w)(hs:Z2d x.wants)(hl:x.wants.length<1000000000): ϕ ϐ 41 #[.pointer (ϔ ⟨k,0,ϑ⟩)] w λe w'=>Zgg w w' e k x (Zl x.wants):=by refine Wu Zd3 hr ?_;simp only[QR];refine⟨[.i (Zl x.wants)],rfl,λ_ w' hr=>Zzx w' x.wv x.wants (hr.at_ 1 rfl) hs hl,?_⟩;intro w3 hr3;exact⟨rfl,(hr3.pick [0,1,2,3,4,5] U).conv rfl⟩
def Z1ij(k:Nat)(x:TelX)(hr:Rel ⟨Zh (bcA k x) bcH,w⟩ (bcA k x) bcH w)(hs:Z9n x.wat)(hl:x.wat.length<1000000000): ϕ ϐ 45 #[.pointer (ϔ ⟨k,0,ϑ⟩)] w λe w'=>Zgg w w' e k x (Z1d x.wat):=by refine Wu Zd1 hr ?_;simp only[QR];refine⟨[.i (Z1d x.wat)],rfl,λ_ w' hr=>Zzj w' x.av x.wat (hr.at_ 4 rfl) hs O,?_⟩;intro w3 hr3;exact⟨rfl,(hr3.pick [0,1,2,3,4,5] U).conv rfl⟩
def Z1ik(k:Nat)(x:TelX)(hr:Rel ⟨Zh (bcA k x) bcH,w⟩ (bcA k x) bcH w): ϕ ϐ 55 #[.pointer (ϔ ⟨k,0,ϑ⟩)] w λe w'=>Zgg w w' e k x (if x.next<0\/65535<x.next then 3 else 0):=by refine Wu Zd5 hr ?_;simp only[QR];refine⟨λh w3 hr3=>⟨by rw[ϝ h],(hr3.pick [0,1,2,3,4,5] U).conv rfl⟩,λh w3 hr3=>⟨by rw[ϛ h],(hr3.pick [0,1,2,3,4,5] U).conv rfl⟩⟩
def Z7q{α:Type}{p:α->Bool}{l:List α}(d:α)(h:i<l.length)(hp:p (l.getD i d)=Ϥ):l.any p=Ϥ:=by rw[qy1,qy7 h]at hp;exact List.any_eq_true.2 ⟨_,List.getElem_mem h,hp⟩
def Zgz{α:Type}{p:α->Bool}{l:List α}(d:α)(h:∀i,i<l.length->p (l.getD i d)=ϭ):l.any p=ϭ:=by rw[List.any_eq_false];intro y hy;obtain⟨i,hi,rfl⟩:=List.getElem_of_mem hy;have:=h i hi;rw[qy1,qy7 hi]at this;simpa using this
def Z1il(k:Nat)(x:TelX)(hr:Rel ⟨Zh (bcA k x) bcH,w⟩ (bcA k x) bcH w)(hk:chkK x.kept=0)(hs:Z77 x.tel.sess)(hsl:x.sx.length<1000000000)(hwl:x.wants.length<1000000000)(hal:x.wat.length<1000000000): ϕ ϐ 47 #[.pointer (ϔ ⟨k,0,ϑ⟩)] w λe w'=>Zgg w w' e k x (if Z1m x.tel=Ϥ then 4 else 0):=by
 refine Wu Zd2 hr ?_;simp only[QR,ra,gK0,gK1,Z1s];have hk16:x.kept.length<=16:=(Z11.1 hk).1;refine⟨λvs=>∃(y:V) (i:Nat),vs=[y,.i i,.v x.kv,.r (x.kept.map encK),.v x.sv,.r (x.sx.map Ze),.v x.av,.r (x.wat.map Z4),.i x.next]/\i<=x.wants.length/\∀j,j<i->hasS x.tel.sess (x.wants.getD j kD).1=Ϥ,λvs=>(x.wants.length - (vs.getD 1 (.i 0)).toI).toNat,⟨_,0,rfl,O,λj hj=>O⟩,?_⟩;rintro _ - ⟨y0,i,rfl,hi,hall⟩;simp only[QR,ra,gK0,gK1,Z1s];refine⟨λh1=>⟨O,λb20=>?_⟩,λh1=>⟨λh2=>O,λh2=>?_⟩⟩
 ·refine⟨[.i (idxS x.tel.sess (x.wants.getD i kD).1),.b (hasS x.tel.sess (x.wants.getD i kD).1)],rfl,λ_ w' hr=>Zkm w' x.sv x.sx _ (hr.at_ 3 rfl) hs hsl,?_⟩;simp only[QR,ra,gK0,gK1,Z1s];refine⟨λh2 w3 hr3=>⟨?_,(hr3.pick [1,2,3,4,5,6] U).conv rfl⟩,λh2=>⟨O,O,⟨_,i+1,rfl,O,λj hj=>?_⟩,O⟩⟩
  ·have:Z1m x.tel=Ϥ:=by
    rw[Z1m,β];exact .inl (Z7q kD (l:=x.wants) (i:=i) O (by simpa using h2))
   rw[ϝ this]
  ·by_cases hij:j=i
   ·subst hij;exact qy9.1 h2
   ·exact hall j O
 ·have hie:i=x.wants.length:=O
  subst hie;have ha1:(x.tel.wants.any λw=>!hasS x.tel.sess w.1)=ϭ:=Zgz kD λj hj=>by rw[show hasS x.tel.sess (x.tel.wants.getD j kD).1=Ϥ from hall j hj];rfl
  refine⟨λvs=>∃(y:V) (i:Nat),vs=[y,.i i,.v x.kv,.r (x.kept.map encK),.v x.wv,.r (x.wants.map encK),.v x.sv,.r (x.sx.map Ze),.i x.next]/\i<=x.wat.length/\∀j,j<i->hasK x.kept (x.wat.getD j wD_K).2.2.1=Ϥ,λvs=>(x.wat.length - (vs.getD 1 (.i 0)).toI).toNat,⟨_,0,rfl,O,λj hj=>O⟩,?_⟩;rintro _ - ⟨y1,i,rfl,hi1,hall1⟩;simp only[QR,ra,gK0,gK1,Z1s];refine⟨λh3=>⟨O,λb29=>?_⟩,λh3 w3 hr3=>⟨?_,(hr3.pick [0,1,2,3,4,5] U).conv rfl⟩⟩
  ·refine⟨[.i (idx x.kept (x.wat.getD i wD_K).2.2.1),.b (hasK x.kept (x.wat.getD i wD_K).2.2.1)],rfl,λ_ w' hr=>Z132 w' x.kv x.kept _ (hr.at_ 1 rfl) (Z11.1 hk).2.2 O,?_⟩;simp only[QR,ra,gK0,gK1,Z1s];refine⟨λh4 w3 hr3=>⟨?_,(hr3.pick [1,2,3,4,5,6] U).conv rfl⟩,λh4=>⟨O,O,⟨_,i+1,rfl,O,λj hj=>?_⟩,O⟩⟩
   ·have:Z1m x.tel=Ϥ:=by
     rw[Z1m,β];exact .inr (Z7q wD_K (l:=x.wat) (i:=i) O (by rw[show hasK x.tel.kept (x.wat.getD i wD_K).2.2.1=ϭ from ϲ.2 h4];rfl))
    rw[ϝ this]
   ·by_cases hij:j=i
    ·subst hij;exact qy9.1 h4
    ·exact hall1 j O
  ·have hie:i=x.wat.length:=O
   subst hie;have ha2:(x.tel.wat.any λw=>!hasK x.tel.kept w.2.2.1)=ϭ:=Zgz wD_K λj hj=>by rw[show hasK x.tel.kept (x.tel.wat.getD j wD_K).2.2.1=Ϥ from hall1 j hj];rfl
   rw[ϛ (by rw[Z1m,ha1,ha2];decide)]
def Zkz(s:Ses):Prop:=Zdz s.fl/\Zdz s.qu/\s.fl.length<1000000000/\s.qu.length<1000000000/\s.cl.length<1099511627776
variable(l:List SesX)
def prvS(i:Nat):Option By:=if i=0 then ϑ else ϔ (l.getD (i - 1) sxD).1.cl
def Z1im(i:Nat)(h:i<l.length):l.drop i=l.getD i sxD::l.drop (i+1):=by rw[Ϩ h,qy1,qy7 h];rfl
def Z15x(i:Nat):Zlp (prvS l i) (l.getD i sxD).1.cl=Ϥ↔¬(0<(i:Int)/\(Z5 (l.getD i sxD).1.cl (l.getD (i - 1) sxD).1.cl=Ϥ\/(l.getD i sxD).1.cl=(l.getD (i - 1) sxD).1.cl)):=by
 unfold prvS;by_cases h:i=0
 ·simp[h,Zlp]
 ·rw[ϛ h];simp only[Zlp];rw[<- Z15];constructor
  ·rintro h1 ⟨-,h2⟩;rw[h1]at h2;cases h2
  ·intro h1;cases h2:Z5 (l.getD (i - 1) sxD).1.cl (l.getD i sxD).1.cl with
   | true=>rfl
   | false=>exact ϟ ⟨O,h2⟩ h1
def Znj{l:List SesX}(h:i<l.length):Zg4 (prvS l i) ((l.drop i).map (·.1))=if ¬chkS (l.getD i sxD).1=0 then chkS (l.getD i sxD).1
  else if 0<(i:Int)/\(Z5 (l.getD i sxD).1.cl (l.getD (i - 1) sxD).1.cl=Ϥ\/(l.getD i sxD).1.cl=(l.getD (i - 1) sxD).1.cl)then 4 else Zg4 (prvS l (i+1)) ((l.drop (i+1)).map (·.1)):=by
 rw[Z1im l i h,Ϣ,Zn0];split
 ·rfl
 ·by_cases h2:0<(i:Int)/\(Z5 (l.getD i sxD).1.cl (l.getD (i - 1) sxD).1.cl=Ϥ\/(l.getD i sxD).1.cl=(l.getD (i - 1) sxD).1.cl)
  ·rw[ϝ h2,ϛ (λh3=>(Z15x l i).1 h3 h2)]
  ·rw[ϛ h2,ϝ ((Z15x l i).2 h2)];rfl
def Z10l(v:ϗ)(l:List SesX)(hv:reads w v kSx (l.map Ze))(hA:(Z3 l []).holds w)(hs:∀t∈l,Zkz t.1): ϕ ϐ 44 #[sc1 v] w λe w'=>e=.returned (.int .i64 (Z78 (l.map (·.1))))/\Mod [] w w':=by
 refine Wu (J:=[.v v,.r (l.map Ze),.a (Z3 l [])]) Zc4 (Rel.start2 (λe he=>by
  rcases ϣ.1 he with rfl|he
  ·exact⟨hv,rfl⟩
  ·rw[qy12.1 he];exact⟨hA,rfl⟩)) ?_
 simp only[QR,gSx0];refine⟨λh w' hr=>⟨by rw[Z78,qy3,ϝ h],hr.mod⟩,λh=>?_⟩;rw[Z78,qy3,ϛ h];refine⟨λvs=>∃(i:Nat) (x:V),vs=[x,.i i]/\i<=l.length/\Zg4 (prvS l i) ((l.drop i).map (·.1))=Zg4 ϑ (l.map (·.1)),λvs=>l.length - (vs.getD 1 (.i 0)).toI.toNat,⟨0,_,rfl,O,rfl⟩,?_⟩;rintro _ - ⟨i,x,rfl,hi,hg⟩;simp only[QR,ra,gSx0];have hi1:((i:Int) - 1).toNat=i - 1:=O
 try rw[hi1]
 refine⟨λh1=>⟨O,λb=>?_⟩,λh1 w' hr=>⟨?_,hr.mod⟩⟩
 ·have hi':i<l.length:=O
  rw[Znj hi']at hg;have hrow:=Z57 hi';obtain⟨s1,s2,s3,s4,s5⟩:=hs _ (Z58 hi');refine⟨[.i (chkS (l.getD i sxD).1)],rfl,λ_ w' hr=>?_,?_⟩
  ·have hn:=Zy (hr.at_ 2 rfl) (Z58 hi');refine Zb (Z18p w' (l.getD i sxD).1 (l.getD i sxD).2.1 (l.getD i sxD).2.2 hn.1 hn.2 s1 s2 s3 s4 s5) ?_;simp only[QR,ra,gSx0,hrow,Ze,Ϟ,Ϡ,Value.gI,Value.gB,Value.gS,Zv,sesV]
  simp only[QR,ra,gSx0];try rw[hi1]
  refine⟨λh2 w' hr=>⟨?_,hr.mod⟩,λh2=>⟨O,O,O,O,λh6 w' hr=>⟨?_,hr.mod⟩,λh6=>⟨O,O,⟨i+1,x,rfl,O,?_⟩,O⟩⟩⟩
  ·rw[ϝ h2]at hg;rw[<- hg]
  ·rw[ϛ h2,ϝ h6]at hg;rw[<- hg]
  ·rw[ϛ h2,ϛ h6]at hg;exact hg
 ·have:i=l.length:=O
  subst this;rw[Ϲ]at hg;rw[<- hg];rfl
def Z1in(k:Nat)(x:TelX)(hr:Rel ⟨Zh (bcA k x) bcH,w⟩ (bcA k x) bcH w)(ho:x.ox=[])(hs:∀t∈x.sx,Zkz t.1): ϕ ϐ 43 #[.pointer (ϔ ⟨k,0,ϑ⟩)] w λe w'=>Zgg w w' e k x (Z78 x.tel.sess):=by refine Wu Zd6 hr ?_;simp only[QR];refine⟨[.i (Z78 x.tel.sess)],rfl,λ_ w' hr=>Z10l w' x.sv x.sx (hr.at_ 2 rfl) (by rw[<- ho];exact hr.at_ 3 rfl) hs,?_⟩;intro w3 hr3;exact⟨rfl,(hr3.pick [0,1,2,3,4,5] U).conv rfl⟩
abbrev bkA(x:TelX):List V:=[.v x.kv,.r (x.kept.map encK),.v x.wv,.r (x.wants.map encK),.v x.sv,.r (x.sx.map Ze),.a (Z3 x.sx x.ox),.v x.av,.r (x.wat.map Z4),.i x.next]
abbrev bkH:List Ent:=[.rd 0 kK (.var 1),.rd 2 kK (.var 3),.rd 4 kSx (.var 5),.st 6,.rd 7 kW_K (.var 8)]
def bkV(x:TelX):ϗ:=.agg #[sc1 x.kv,sc1 x.wv,sc1 x.sv,sc1 x.av,.int .i64 x.next]
abbrev owA(x:TelX):List V:=[.v x.kv,.r (x.kept.map encK),.v x.wv,.r (x.wants.map encK),.v x.sv,.r (x.sx.map Ze),.v x.av,.r (x.wat.map Z4),.i x.next,.a (Z3 x.sx x.ox)]
abbrev owH:List Ent:=[.rd 0 kK (.var 1),.rd 2 kK (.var 3),.row 4 58 kSx (.var 5),.row 6 68 kW_K (.var 7),.st 9]
def Z15y(w':Ϛ)(e:Ending)(x:TelX):Prop :=
 ∃y:TelX,e=.returned (bkV y)/\y.ox=[]/\y.tel={ x.tel with out:=[] }/\Rel ⟨[],w⟩ (owA y) owH w'/\(∀j,Z1 y.kv j->w.heap.size<=j)/\(∀j,Z1 y.wv j->w.heap.size<=j)/\(∀j,(Z3 y.sx y.ox).fp j->w.heap.size<=j)
def Z15z(x:TelX)(hr:Rel ⟨[],w⟩ (bkA x) bkH w)(hl1:x.kept.length<1000000000)(hl2:x.wants.length<1000000000)(hl3:x.wat.length<1000000000)(hl4:x.sx.length<1000000)(hl5:∀t∈x.sx,t.1.fl.length<1000000000/\t.1.qu.length<1000000000): ϕ ϐ 15 #[bkV x] w λe w'=>Z15y w w' e x:=by
 refine Wu Zkk hr ?_;simp only[QR,ra];intro b10 b11;refine⟨λvs=>∃(u1 u2 u3:ϗ) (b:Nat),vs=[.v u1,.r (x.kept.map encK),.v u2,.r (x.wants.map encK),.v u3,.r (x.wat.map Z4),.n b],⟨?_,?_⟩,?_⟩
 ·intro w1 hr1;refine(Zi1 w1 x.kv x.kept (hr1.at_ 2 rfl) hl1).mono ?_;rintro e w2 ⟨u1,rfl,a1,f1,m1⟩;refine⟨[.v u1,.r (x.kept.map encK)],rfl,rfl,m1,qy5 _,qy2.2 ⟨⟨a1,λk hk=>.inl (f1 k hk)⟩,qy5 _⟩,Z2,?_⟩;refine⟨?_,?_⟩
  ·intro w1 hr1;refine(Z63 w1 x.wv x.wants (hr1.at_ 4 rfl) hl2).mono ?_;rintro e w2 ⟨u2,rfl,a1,f1,m1⟩;refine⟨[.v u2,.r (x.wants.map encK)],rfl,rfl,m1,qy5 _,qy2.2 ⟨⟨a1,λk hk=>.inl (f1 k hk)⟩,qy5 _⟩,Z2,?_⟩;refine⟨?_,?_⟩
   ·intro w1 hr1;refine(Z62 w1 x.av x.wat (hr1.at_ 8 rfl) hl3).mono ?_;rintro e w2 ⟨u3,rfl,a1,f1,m1⟩;refine⟨[.v u3,.r (x.wat.map Z4)],rfl,rfl,m1,qy5 _,qy2.2 ⟨⟨a1,λk hk=>.inl (f1 k hk)⟩,qy5 _⟩,Z2,?_⟩;intro b;exact⟨u1,u2,u3,b,rfl⟩
   ·intro b;intro w1 hr1;refine(Z62 w1 x.av x.wat (hr1.at_ 9 rfl) hl3).mono ?_;rintro e w2 ⟨u3,rfl,a1,f1,m1⟩;refine⟨[.v u3,.r (x.wat.map Z4)],rfl,rfl,m1,qy5 _,qy2.2 ⟨⟨a1,λk hk=>.inl (f1 k hk)⟩,qy5 _⟩,Z2,?_⟩;exact⟨u1,u2,u3,b,rfl⟩
  ·intro b;intro w1 hr1;refine(Z63 w1 x.wv x.wants (hr1.at_ 5 rfl) hl2).mono ?_;rintro e w2 ⟨u2,rfl,a1,f1,m1⟩;refine⟨[.v u2,.r (x.wants.map encK)],rfl,rfl,m1,qy5 _,qy2.2 ⟨⟨a1,λk hk=>.inl (f1 k hk)⟩,qy5 _⟩,Z2,?_⟩;intro w1 hr1;refine(Z62 w1 x.av x.wat (hr1.at_ 9 rfl) hl3).mono ?_;rintro e w2 ⟨u3,rfl,a1,f1,m1⟩;refine⟨[.v u3,.r (x.wat.map Z4)],rfl,rfl,m1,qy5 _,qy2.2 ⟨⟨a1,λk hk=>.inl (f1 k hk)⟩,qy5 _⟩,Z2,?_⟩;exact⟨u1,u2,u3,b,rfl⟩
 ·intro b;intro w1 hr1;refine(Zi1 w1 x.kv x.kept (hr1.at_ 3 rfl) hl1).mono ?_;rintro e w2 ⟨u1,rfl,a1,f1,m1⟩;refine⟨[.v u1,.r (x.kept.map encK)],rfl,rfl,m1,qy5 _,qy2.2 ⟨⟨a1,λk hk=>.inl (f1 k hk)⟩,qy5 _⟩,Z2,?_⟩;intro w1 hr1;refine(Z63 w1 x.wv x.wants (hr1.at_ 5 rfl) hl2).mono ?_;rintro e w2 ⟨u2,rfl,a1,f1,m1⟩;refine⟨[.v u2,.r (x.wants.map encK)],rfl,rfl,m1,qy5 _,qy2.2 ⟨⟨a1,λk hk=>.inl (f1 k hk)⟩,qy5 _⟩,Z2,?_⟩;intro w1 hr1;refine(Z62 w1 x.av x.wat (hr1.at_ 9 rfl) hl3).mono ?_;rintro e w2 ⟨u3,rfl,a1,f1,m1⟩;refine⟨[.v u3,.r (x.wat.map Z4)],rfl,rfl,m1,qy5 _,qy2.2 ⟨⟨a1,λk hk=>.inl (f1 k hk)⟩,qy5 _⟩,Z2,?_⟩;exact⟨u1,u2,u3,b,rfl⟩
 rintro _ - ⟨u1,u2,u3,b,rfl⟩;simp only[QR,ra];refine⟨Z3 [] [],λw _ t ht=>ϟ ht (by simp[nest]),λj hj=>?_,?_⟩
 ·rcases Z7.1 hj with⟨t,ht,-⟩|⟨t,ht,-⟩<;>cases ht
 refine⟨λvs=>∃(i:Nat) (Y:List SesX) (u4:ϗ),vs=[.i i,.a (Z3 Y []),.v u1,.r (x.kept.map encK),.v u2,.r (x.wants.map encK),.v u4,.r (Y.map Ze),.v u3,.r (x.wat.map Z4),.i x.next]/\i<=x.sx.length/\Y.map (·.1)=(x.sx.take i).map (·.1)/\(∀j,(Z3 Y []).fp j->w.heap.size<=j),λvs=>(x.sx.length - (vs.getD 0 (.i 0)).toI).toNat,⟨0,[],.slice ϑ 0 0,rfl,O,rfl,λj hj=>?_⟩,?_⟩
 ·rcases Z7.1 hj with⟨t,ht,-⟩|⟨t,ht,-⟩<;>cases ht
 rintro _ - ⟨i,Y,u4,rfl,hi,hY,hfY⟩;simp only[QR,ra];refine⟨λh1=>?_,λh1 w3 hr3=>?_⟩
 ·have hi':i<x.sx.length:=O
  have hYl:Y.length=i:=by have:=congrArg List.length hY;simp only[qy3,List.length_take]at this;omega
  have hrow:=Z57 hi';have hmm:=Z58 hi';have hse:(x.sx.take (i+1)).map (·.1)=(x.sx.take i).map (·.1)++[(x.sx.getD i sxD).1]:=by rw[Zlr sxD _ _ hi',ϓ];rfl
  simp only[hrow,Ze,Ϟ,Ϡ,Value.gI,Value.gB,Value.gS,Zv];generalize x.sx.getD i sxD=ss at hmm hse
  obtain⟨s,s',s''⟩:=ss;obtain⟨hf1,hf2⟩:=hl5 _ hmm;refine⟨O,λb31=>?_⟩;refine⟨λvs=>∃(p1 p2 v38 v39:ϗ),vs=[.i 0,.i 0,.v p1,.r (s.fl.map encF),.v p2,.r (s.qu.map encF),.v v38,.v v39,.r ((Y++[(s,p1,p2)]).map Ze),.r ([((s,p1,p2))].map Ze)]/\(∀j,Z1 p1 j->w.heap.size<=j)/\(∀j,Z1 p2 j->w.heap.size<=j),⟨?_,?_⟩,?_⟩
  ·intro b32 b33;refine⟨?_,?_⟩
   ·intro w1 hr1;have hz1:=hr1.mod.size;refine(Z1z w1 s' s.fl (Zy (hr1.at_ 13 rfl) hmm).1 hf1).mono ?_;rintro e w2 ⟨p1,rfl,a1,f1,m1⟩;refine⟨[.v p1,.r (s.fl.map encF)],rfl,rfl,m1,qy5 _,qy2.2 ⟨⟨a1,λk hk=>.inl (f1 k hk)⟩,qy5 _⟩,Z2,?_⟩;have n1:∀j,Z1 p1 j->w.heap.size<=j:=λj hj=>ϒ hz1 (f1 j hj);intro w1 hr1;have hz2:=hr1.mod.size;refine(Z1z w1 s'' s.qu (Zy (hr1.at_ 14 rfl) hmm).2 hf2).mono ?_;rintro e w2 ⟨p2,rfl,a1,f1,m1⟩;refine⟨[.v p2,.r (s.qu.map encF)],rfl,rfl,m1,qy5 _,qy2.2 ⟨⟨a1,λk hk=>.inl (f1 k hk)⟩,qy5 _⟩,Z2,?_⟩;have n2:∀j,Z1 p2 j->w.heap.size<=j:=λj hj=>ϒ hz2 (f1 j hj);intro v38;refine⟨by first|omega|(simp;omega),λv39=>⟨p1,p2,v38,v39,?_,n1,n2⟩⟩;rw[ϓ];rfl
   ·intro w1 hr1;have hz1:=hr1.mod.size;refine(Z1z w1 s' s.fl (Zy (hr1.at_ 13 rfl) hmm).1 hf1).mono ?_;rintro e w2 ⟨p1,rfl,a1,f1,m1⟩;refine⟨[.v p1,.r (s.fl.map encF)],rfl,rfl,m1,qy5 _,qy2.2 ⟨⟨a1,λk hk=>.inl (f1 k hk)⟩,qy5 _⟩,Z2,?_⟩;have n1:∀j,Z1 p1 j->w.heap.size<=j:=λj hj=>ϒ hz1 (f1 j hj);intro w1 hr1;have hz2:=hr1.mod.size;refine(Z1z w1 s'' s.qu (Zy (hr1.at_ 14 rfl) hmm).2 hf2).mono ?_;rintro e w2 ⟨p2,rfl,a1,f1,m1⟩;refine⟨[.v p2,.r (s.qu.map encF)],rfl,rfl,m1,qy5 _,qy2.2 ⟨⟨a1,λk hk=>.inl (f1 k hk)⟩,qy5 _⟩,Z2,?_⟩;have n2:∀j,Z1 p2 j->w.heap.size<=j:=λj hj=>ϒ hz2 (f1 j hj);intro v38;refine⟨by first|omega|(simp;omega),λv39=>⟨p1,p2,v38,v39,?_,n1,n2⟩⟩;rw[ϓ];rfl
  ·intro b32 b33;refine⟨?_,?_⟩
   ·intro w1 hr1;have hz1:=hr1.mod.size;refine(Z1z w1 s' s.fl (Zy (hr1.at_ 13 rfl) hmm).1 hf1).mono ?_;rintro e w2 ⟨p1,rfl,a1,f1,m1⟩;refine⟨[.v p1,.r (s.fl.map encF)],rfl,rfl,m1,qy5 _,qy2.2 ⟨⟨a1,λk hk=>.inl (f1 k hk)⟩,qy5 _⟩,Z2,?_⟩;have n1:∀j,Z1 p1 j->w.heap.size<=j:=λj hj=>ϒ hz1 (f1 j hj);intro w1 hr1;have hz2:=hr1.mod.size;refine(Z1z w1 s'' s.qu (Zy (hr1.at_ 14 rfl) hmm).2 hf2).mono ?_;rintro e w2 ⟨p2,rfl,a1,f1,m1⟩;refine⟨[.v p2,.r (s.qu.map encF)],rfl,rfl,m1,qy5 _,qy2.2 ⟨⟨a1,λk hk=>.inl (f1 k hk)⟩,qy5 _⟩,Z2,?_⟩;have n2:∀j,Z1 p2 j->w.heap.size<=j:=λj hj=>ϒ hz2 (f1 j hj);refine⟨?_,?_⟩
    ·intro v38;refine⟨by first|omega|(simp;omega),λv39=>⟨p1,p2,v38,v39,?_,n1,n2⟩⟩;rw[ϓ];rfl
    ·intro v38;refine⟨by first|omega|(simp;omega),λv39=>⟨p1,p2,v38,v39,?_,n1,n2⟩⟩;rw[ϓ];rfl
   ·intro w1 hr1;have hz1:=hr1.mod.size;refine(Z1z w1 s' s.fl (Zy (hr1.at_ 13 rfl) hmm).1 hf1).mono ?_;rintro e w2 ⟨p1,rfl,a1,f1,m1⟩;refine⟨[.v p1,.r (s.fl.map encF)],rfl,rfl,m1,qy5 _,qy2.2 ⟨⟨a1,λk hk=>.inl (f1 k hk)⟩,qy5 _⟩,Z2,?_⟩;have n1:∀j,Z1 p1 j->w.heap.size<=j:=λj hj=>ϒ hz1 (f1 j hj);intro w1 hr1;have hz2:=hr1.mod.size;refine(Z1z w1 s'' s.qu (Zy (hr1.at_ 14 rfl) hmm).2 hf2).mono ?_;rintro e w2 ⟨p2,rfl,a1,f1,m1⟩;refine⟨[.v p2,.r (s.qu.map encF)],rfl,rfl,m1,qy5 _,qy2.2 ⟨⟨a1,λk hk=>.inl (f1 k hk)⟩,qy5 _⟩,Z2,?_⟩;have n2:∀j,Z1 p2 j->w.heap.size<=j:=λj hj=>ϒ hz2 (f1 j hj);refine⟨?_,?_⟩
    ·intro v38;refine⟨by first|omega|(simp;omega),λv39=>⟨p1,p2,v38,v39,?_,n1,n2⟩⟩;rw[ϓ];rfl
    ·intro v38;refine⟨by first|omega|(simp;omega),λv39=>⟨p1,p2,v38,v39,?_,n1,n2⟩⟩;rw[ϓ];rfl
  rintro _ - ⟨p1,p2,v38,v39,rfl,n1,n2⟩;have hfp:∀j,(Z3 (Y++[(s,p1,p2)]) []).fp j->(Z3 Y []).fp j\/((s.fl.map encF).flatten≠[]/\Z1 p1 j)\/((s.qu.map encF).flatten≠[]/\Z1 p2 j):=λj hj=>by
   rcases Z7.1 hj with⟨t,ht,hk⟩|⟨t,ht,-⟩
   ·rcases qy13.1 ht with ht|ht
    ·exact .inl (Z7.2 (.inl ⟨t,ht,hk⟩))
    ·rw[qy12.1 ht]at hk;exact .inr hk
   ·cases ht
  refine⟨O,O,Z3 (Y++[(s,p1,p2)]) [],λw3 hr3=>?_,λj hj=>?_,⟨i+1,Y++[(s,p1,p2)],v39,rfl,O,?_,λj hj=>?_⟩,O⟩
  ·refine Z10 (λt ht=>?_) (λt ht=>.inl ht) (hr3.at_ 5 rfl);rcases qy13.1 ht with ht|ht
   ·exact .inl ht
   ·rw[qy12.1 ht];exact .inr ⟨hr3.at_ 3 rfl,hr3.at_ 2 rfl⟩
  ·rcases hfp j hj with h|h|h
   ·exact(qE 5 rfl rfl h)
   ·exact(qE 3 rfl rfl h)
   ·exact(qE 2 rfl rfl h)
  ·rw[ϓ,hY,hse];rfl
  ·rcases hfp j hj with h|h|h
   ·exact hfY j h
   ·exact n1 j h.2
   ·exact n2 j h.2
 ·have hie:i=x.sx.length:=O
  rw[hie,List.take_length]at hY;refine⟨⟨x.kept,x.wants,Y,x.wat,x.next,[],u1,u2,u4,u3,.slice ϑ 0 0⟩,rfl,rfl,?_,((Z5f (v:=22) (Z5f (v:=24) hr3)).pick [4,3,12,2,0] U).conv rfl,λj hj=>?_,λj hj=>?_,hfY⟩
  ·simp only[TelX.tel,hY];rfl
  ·rcases hr3.own _ (qy6 (i:=4) rfl) rfl j hj with h|h
   ·exact h
   ·cases h
  ·rcases hr3.own _ (qy6 (i:=3) rfl) rfl j hj with h|h
   ·exact h
   ·cases h
open Go.RowKit
def Zcd(a b c d e f:Int):Int:=if ¬a=0 then a else if ¬b=0 then b else if ¬c=0 then c else if ¬d=0 then d else if ¬e=0 then e else f
def Z1g3(I:Ϛ->Prop)(b k:Nat)(c1 c2 c3 c4 c5 c6:Int)(hI:∀W,I W->∃t,W.heap[b]?=ϔ (.cells #[.func (.func 39) #[] #[.pointer (ϔ ⟨k,0,ϑ⟩)],.func (.func 41) #[] #[.pointer (ϔ ⟨k,0,ϑ⟩)],.func (.func 43) #[] #[.pointer (ϔ ⟨k,0,ϑ⟩)],.func (.func 45) #[] #[.pointer (ϔ ⟨k,0,ϑ⟩)],.func (.func 47) #[] #[.pointer (ϔ ⟨k,0,ϑ⟩)],.func (.func 55) #[] #[.pointer (ϔ ⟨k,0,ϑ⟩)]] t (0,0)))(h1:∀W,I W->ϕ ϐ 39 #[.pointer (ϔ ⟨k,0,ϑ⟩)] W λe W'=>e=.returned (.int .i64 c1)/\I W')(h2:c1=0->∀W,I W->ϕ ϐ 41 #[.pointer (ϔ ⟨k,0,ϑ⟩)] W λe W'=>e=.returned (.int .i64 c2)/\I W')(h3:c1=0->c2=0->∀W,I W->ϕ ϐ 43 #[.pointer (ϔ ⟨k,0,ϑ⟩)] W λe W'=>e=.returned (.int .i64 c3)/\I W')(h4:c1=0->c2=0->c3=0->∀W,I W->ϕ ϐ 45 #[.pointer (ϔ ⟨k,0,ϑ⟩)] W λe W'=>e=.returned (.int .i64 c4)/\I W')(h5:c1=0->c2=0->c3=0->c4=0->∀W,I W->ϕ ϐ 47 #[.pointer (ϔ ⟨k,0,ϑ⟩)] W λe W'=>e=.returned (.int .i64 c5)/\I W')(h6:c1=0->c2=0->c3=0->c4=0->c5=0->∀W,I W->ϕ ϐ 55 #[.pointer (ϔ ⟨k,0,ϑ⟩)] W λe W'=>e=.returned (.int .i64 c6)/\I W')(w:Ϛ)(hw:I w): ϕ ϐ 38 #[.slice (ϔ ⟨b,0,ϑ⟩) 6 6] w λe w'=>e=.returned (.int .i64 (Zcd c1 c2 c3 c4 c5 c6))/\I w':=by
 have hq:∀W,I W->W.cell? ⟨b,0,ϑ⟩=ϔ (.func (.func 39) #[] #[.pointer (ϔ ⟨k,0,ϑ⟩)])/\W.cell? ⟨b,1,ϑ⟩=ϔ (.func (.func 41) #[] #[.pointer (ϔ ⟨k,0,ϑ⟩)])/\W.cell? ⟨b,2,ϑ⟩=ϔ (.func (.func 43) #[] #[.pointer (ϔ ⟨k,0,ϑ⟩)])/\W.cell? ⟨b,3,ϑ⟩=ϔ (.func (.func 45) #[] #[.pointer (ϔ ⟨k,0,ϑ⟩)])/\W.cell? ⟨b,4,ϑ⟩=ϔ (.func (.func 47) #[] #[.pointer (ϔ ⟨k,0,ϑ⟩)])/\W.cell? ⟨b,5,ϑ⟩=ϔ (.func (.func 55) #[] #[.pointer (ϔ ⟨k,0,ϑ⟩)]):=λW hW=>by obtain⟨t,g⟩:=hI W hW;refine⟨?_,?_,?_,?_,?_,?_⟩<;>(rw[Zjz g];rfl)
 obtain⟨q0,-⟩:=hq w hw;go_enter Tryz.func38,Tryz.ntmps38
 go_wp2
 refine wp_loop_rounds 7 ?_;rw[rounds_succ];go_wp2_with (go_at_call 39;refine(h1 _ hw).mono ?_;rintro e w1 ⟨rfl,i1⟩;obtain⟨-,q1,-⟩:=hq w1 i1)
 ·go_ret
  exact⟨by unfold Zcd;simp_all,i1⟩
 have z1:c1=0:=by simp_all
 rw[rounds_succ];go_wp2_with (go_at_call 41;refine(h2 z1 _ i1).mono ?_;rintro e w2 ⟨rfl,i2⟩;obtain⟨-,-,q2,-⟩:=hq w2 i2)
 ·go_ret
  exact⟨by unfold Zcd;simp_all,i2⟩
 have z2:c2=0:=by simp_all
 rw[rounds_succ];go_wp2_with (go_at_call 43;refine(h3 z1 z2 _ i2).mono ?_;rintro e w3 ⟨rfl,i3⟩;obtain⟨-,-,-,q3,-⟩:=hq w3 i3)
 ·go_ret
  exact⟨by unfold Zcd;simp_all,i3⟩
 have z3:c3=0:=by simp_all
 rw[rounds_succ];go_wp2_with (go_at_call 45;refine(h4 z1 z2 z3 _ i3).mono ?_;rintro e w4 ⟨rfl,i4⟩;obtain⟨-,-,-,-,q4,-⟩:=hq w4 i4)
 ·go_ret
  exact⟨by unfold Zcd;simp_all,i4⟩
 have z4:c4=0:=by simp_all
 rw[rounds_succ];go_wp2_with (go_at_call 47;refine(h5 z1 z2 z3 z4 _ i4).mono ?_;rintro e w5 ⟨rfl,i5⟩;obtain⟨-,-,-,-,-,q5⟩:=hq w5 i5)
 ·go_ret
  exact⟨by unfold Zcd;simp_all,i5⟩
 have z5:c5=0:=by simp_all
 rw[rounds_succ];go_wp2_with (go_at_call 55;refine(h6 z1 z2 z3 z4 z5 _ i5).mono ?_;rintro e w6 ⟨rfl,i6⟩)
 ·go_ret
  exact⟨by unfold Zcd;simp_all,i6⟩
 have z6:c6=0:=by simp_all
 rw[rounds_succ];go_wp2
 go_ret
 exact⟨by unfold Zcd;simp_all,i6⟩
structure SmlB(x:TelX):Prop where
 kept:Zb5 x.kept
 keptL:x.kept.length<1000000000
 wants:Z2d x.wants
 wantsL:x.wants.length<1000000000
 sess:∀t∈x.sx,Zkz t.1
 sessL:x.sx.length<1000000
 wat:Z9n x.wat
 watL:x.wat.length<1000000000
def Znk(o o':Obj):((w.alloc o).alloc o').heap[w.heap.size]?=ϔ o/\((w.alloc o).alloc o').heap[w.heap.size+1]?=ϔ o':=by
 have h:((w.alloc o).alloc o').heap=(w.heap.push o).push o':=rfl;rw[h];constructor
 ·rw[Array.getElem?_push_lt O1];simp
 ·rw[show w.heap.size+1=(w.heap.push o).size by simp,Array.getElem?_push_size]
variable{x:TelX}
def Z1as{w:Ϛ}(hr:Rel ⟨[],w⟩ (bkA x) bkH w)(o:Obj): Rel ⟨Zh (bcA w.heap.size x) bcH,(w.alloc (.cells #[sc1 x.kv,sc1 x.wv,sc1 x.sv,sc1 x.av,.int .i64 x.next] 27)).alloc o⟩ (bcA w.heap.size x) bcH ((w.alloc (.cells #[sc1 x.kv,sc1 x.wv,sc1 x.sv,sc1 x.av,.int .i64 x.next] 27)).alloc o):=by
  have h0:=((hr.alloc (.cells #[sc1 x.kv,sc1 x.wv,sc1 x.sv,sc1 x.av,.int .i64 x.next] 27)).alloc o).ext (Z18.app (bkA x) [V.n w.heap.size]) (rfl:bkH.all (Ent.bd 10)=Ϥ);have h1:=h0.cons (e:=.cells 10 27 [.val (.var 0),.val (.var 2),.val (.var 4),.val (.var 7),.int .i64 (.var 9)]) (Znk w _ o).1
    (λ_ j hj=>.inl (by rw[hj];exact η _))
    (λe' he' _ j hj hj'=>by rw[show j=w.heap.size from hj]at hj';have hb:e'.bd 10=Ϥ:=List.all_eq_true.1 (rfl) e' he';have:=Ent.bound (hr.holds e' he') ((Ent.fp_bd (Z18.app (bkA x) [V.n w.heap.size]) e' hb _).2 hj');omega)
  exact(Rel.conv (J':=bcA w.heap.size x) (hp':=bcH) (h1.pick [1,2,3,4,5,0] U) rfl).base
variable{w0 w':Ϛ}{k:Nat}
def Zgh{w:Ϛ}(h:Rel ⟨Zh (bcA k x) bcH,w0⟩ (bcA k x) bcH w)(h':Rel ⟨Zh (bcA k x) bcH,w⟩ (bcA k x) bcH w'):Rel ⟨Zh (bcA k x) bcH,w0⟩ (bcA k x) bcH w' :=
 ⟨h.mod.trans h'.mod (λj hj=>.inl hj),h'.holds,h.own,h'.sep⟩
def Z160(x:TelX):Zcd (chkK x.kept) (Zl x.wants) (Z78 x.tel.sess) (Z1d x.wat) (if Z1m x.tel=Ϥ then 4 else 0) (if x.next<0\/65535<x.next then 3 else 0)=chkB x.tel:=by
 unfold Zcd chkB;simp only[TelX.tel];by_cases h1:chkK x.kept=0
 ·by_cases h2:Zl x.wants=0
  ·by_cases h3:Z78 (x.sx.map (·.1))=0
   ·by_cases h4:Z1d x.wat=0
    ·by_cases h5:Z1m ⟨x.kept,x.wants,x.sx.map (·.1),x.wat,x.next,x.ox.map (·.1)⟩=Ϥ
     ·simp[h5]
     ·by_cases h6:x.next<0\/65535<x.next
      ·simp only[h1,h2,h3,h4,h5,ϝ h6,not_true,if_false,ite_false];simp;exact(ϝ h6).symm
      ·simp only[h1,h2,h3,h4,h5,ϛ h6,not_true,if_false,ite_false];simp;exact(ϛ h6).symm
    ·simp[h1,h2,h3,h4]
   ·simp[h1,h2,h3]
  ·simp[h1,h2]
 ·simp[h1]
def Z8y(x:TelX)(hr:Rel ⟨[],w⟩ (bkA x) bkH w)(ho:x.ox=[])(hs:SmlB x): ϕ ϐ 12 #[bkV x] w λe w'=>e=.returned (.int .i64 (chkB x.tel))/\Mod [] w w':=by
  have hst:=Z1as hr (.cells #[.func (.func 39) #[] #[.pointer (ϔ ⟨w.heap.size,0,ϑ⟩)],.func (.func 41) #[] #[.pointer (ϔ ⟨w.heap.size,0,ϑ⟩)],.func (.func 43) #[] #[.pointer (ϔ ⟨w.heap.size,0,ϑ⟩)],.func (.func 45) #[] #[.pointer (ϔ ⟨w.heap.size,0,ϑ⟩)],.func (.func 47) #[] #[.pointer (ϔ ⟨w.heap.size,0,ϑ⟩)],.func (.func 55) #[] #[.pointer (ϔ ⟨w.heap.size,0,ϑ⟩)]] 98);have hb:∀W,Rel ⟨Zh (bcA w.heap.size x) bcH,(w.alloc (.cells #[sc1 x.kv,sc1 x.wv,sc1 x.sv,sc1 x.av,.int .i64 x.next] 27)).alloc (.cells #[.func (.func 39) #[] #[.pointer (ϔ ⟨w.heap.size,0,ϑ⟩)],.func (.func 41) #[] #[.pointer (ϔ ⟨w.heap.size,0,ϑ⟩)],.func (.func 43) #[] #[.pointer (ϔ ⟨w.heap.size,0,ϑ⟩)],.func (.func 45) #[] #[.pointer (ϔ ⟨w.heap.size,0,ϑ⟩)],.func (.func 47) #[] #[.pointer (ϔ ⟨w.heap.size,0,ϑ⟩)],.func (.func 55) #[] #[.pointer (ϔ ⟨w.heap.size,0,ϑ⟩)]] 98)⟩ (bcA w.heap.size x) bcH W->∃t,W.heap[w.heap.size+1]?=ϔ (.cells #[.func (.func 39) #[] #[.pointer (ϔ ⟨w.heap.size,0,ϑ⟩)],.func (.func 41) #[] #[.pointer (ϔ ⟨w.heap.size,0,ϑ⟩)],.func (.func 43) #[] #[.pointer (ϔ ⟨w.heap.size,0,ϑ⟩)],.func (.func 45) #[] #[.pointer (ϔ ⟨w.heap.size,0,ϑ⟩)],.func (.func 47) #[] #[.pointer (ϔ ⟨w.heap.size,0,ϑ⟩)],.func (.func 55) #[] #[.pointer (ϔ ⟨w.heap.size,0,ϑ⟩)]] t (0,0)):=λW hW =>
    ⟨_,(hW.mod.block (w.heap.size+1) O1 (by simp[Zh,Ent.fpl])).trans (Znk w _ _).2⟩
  have hk3:Z78 x.tel.sess=0->Z77 x.tel.sess:=λh=>(Z8t.1 h).2.2;have run:=Z1g3 _ (w.heap.size+1) w.heap.size (chkK x.kept) (Zl x.wants) (Z78 x.tel.sess) (Z1d x.wat) (if Z1m x.tel=Ϥ then 4 else 0) (if x.next<0\/65535<x.next then 3 else 0) hb
    (λW hW=>(Z1ih W _ x hW.base hs.kept hs.keptL).mono λe w' h=>⟨h.1,Zgh hW h.2⟩)
    (λ_ W hW=>(Z1ii W _ x hW.base hs.wants hs.wantsL).mono λe w' h=>⟨h.1,Zgh hW h.2⟩)
    (λ_ _ W hW=>(Z1in W _ x hW.base ho hs.sess).mono λe w' h=>⟨h.1,Zgh hW h.2⟩)
    (λ_ _ _ W hW=>(Z1ij W _ x hW.base hs.wat hs.watL).mono λe w' h=>⟨h.1,Zgh hW h.2⟩)
    (λh1 _ h3 _ W hW=>(Z1il W _ x hW.base h1 (hk3 h3) (by have:=hs.sessL;omega) hs.wantsL hs.watL).mono λe w' h=>⟨h.1,Zgh hW h.2⟩)
    (λ_ _ _ _ _ W hW=>(Z1ik W _ x hW.base).mono λe w' h=>⟨h.1,Zgh hW h.2⟩)
    _ hst
  rw[Z160]at run;have hm:∀{w'},Rel ⟨Zh (bcA w.heap.size x) bcH,(w.alloc (.cells #[sc1 x.kv,sc1 x.wv,sc1 x.sv,sc1 x.av,.int .i64 x.next] 27)).alloc (.cells #[.func (.func 39) #[] #[.pointer (ϔ ⟨w.heap.size,0,ϑ⟩)],.func (.func 41) #[] #[.pointer (ϔ ⟨w.heap.size,0,ϑ⟩)],.func (.func 43) #[] #[.pointer (ϔ ⟨w.heap.size,0,ϑ⟩)],.func (.func 45) #[] #[.pointer (ϔ ⟨w.heap.size,0,ϑ⟩)],.func (.func 47) #[] #[.pointer (ϔ ⟨w.heap.size,0,ϑ⟩)],.func (.func 55) #[] #[.pointer (ϔ ⟨w.heap.size,0,ϑ⟩)]] 98)⟩ (bcA w.heap.size x) bcH w'->Mod [] w w':=λ{w'} h =>
    ((Mod.alloc [] w _).trans (Mod.alloc [] _ _) (λj hj=>.inl hj)).trans h.mod (λj hj=>.inr (by simp only[Zh,bcH,ϳ,List.flatMap_nil,Ent.fpl,ϥ,Ϧ,qy12]at hj;rw[hj];exact η _))
  simp only[bkV];generalize sc1 x.kv=v1 at run hm⊢
  generalize sc1 x.wv=v2 at run hm⊢
  generalize sc1 x.sv=v3 at run hm⊢
  generalize sc1 x.av=v4 at run hm⊢
  generalize chkB x.tel=cc at run⊢
  go_enter Tryz.func12,Tryz.ntmps12
  go_wp2_with (go_at_call 38;refine run.mono ?_;rintro e w1 ⟨rfl,i1⟩)
  go_ret
  exact⟨rfl,hm i1⟩
structure RdX(w:World)(y:TelX):Prop where
 kept:reads w y.kv kK (y.kept.map encK)
 want:reads w y.wv kK (y.wants.map encK)
 sess:reads w y.sv kSx (y.sx.map Ze)
 nest:(Z3 y.sx y.ox).holds w
 wat:reads w y.av kW_K (y.wat.map Z4)
def RdX.rel{w:Ϛ}(h:RdX w x):Rel ⟨[],w⟩ (bkA x) bkH w :=
 Rel.start2 (qy2.2 ⟨⟨h.kept,rfl⟩,qy2.2 ⟨⟨h.want,rfl⟩,qy2.2 ⟨⟨h.sess,rfl⟩,qy2.2 ⟨⟨h.nest,rfl⟩,qy2.2 ⟨⟨h.wat,rfl⟩,qy5 _⟩⟩⟩⟩⟩)
structure RdB(n:Nat)(w:World)(y:TelX):Prop where
 kept:reads w y.kv kK (y.kept.map encK)
 want:reads w y.wv kK (y.wants.map encK)
 sess:reads w y.sv kSx (y.sx.map Ze)
 wat:reads w y.av kW_K (y.wat.map Z4)
 out:reads w y.ov kSn (y.ox.map Zp)
 nest:(Z3 y.sx y.ox).holds w
 nk:∀j,(y.kept.map encK).flatten≠[]->Z1 y.kv j->n<=j
 nw:∀j,(y.wants.map encK).flatten≠[]->Z1 y.wv j->n<=j
 ns:∀j,(y.sx.map Ze).flatten≠[]->Z1 y.sv j->n<=j
 na:∀j,(y.wat.map Z4).flatten≠[]->Z1 y.av j->n<=j
 no:∀j,(y.ox.map Zp).flatten≠[]->Z1 y.ov j->n<=j
 nn:∀j,(Z3 y.sx y.ox).fp j->n<=j
def Zq1(w':Ϛ)(r:Ending)(e:Int)(t:Tel):Prop :=
 ∃y:TelX,r=.returned (.tuple #[bkV y,sc1 y.ov,.int .i64 e])/\y.tel=t/\RdB w.heap.size w' y/\Mod [] w w'
def telN:Tel:=⟨[],[],[],[],0,[]⟩
abbrev Zlu:TelX:=⟨[],[],[],[],0,[],.slice ϑ 0 0,.slice ϑ 0 0,.slice ϑ 0 0,.slice ϑ 0 0,.slice ϑ 0 0⟩
def Zsx:∀j,¬(Z3 [] []).fp j:=λj hj=>by rcases Z7.1 hj with⟨t,ht,-⟩|⟨t,ht,-⟩<;>cases ht
def Z6r:(Z3 [] []).holds w:=λt ht=>ϟ ht (by simp[nest])
def Zq2(n:Nat)(w:Ϛ):RdB n w Zlu :=
 ⟨Z6 w _,Z6 w _,Z6 w _,Z6 w _,Z6 w _,Z6r w,λj=>ϟ rfl,λj=>ϟ rfl,λj=>ϟ rfl,λj=>ϟ rfl,λj=>ϟ rfl,λj hj=>ϟ hj (Zsx j)⟩
abbrev owEs(n:Nat):List Ent:=[.rd n kK (.var (n+1)),.rd (n+2) kK (.var (n+3)),.row (n+4) 58 kSx (.var (n+5)),.row (n+6) 68 kW_K (.var (n+7)),.st (n+9)]
variable{J:List V}{n:Nat}
def Zd7{vs:List V}(hn:J.length=n)(i:Nat):(J++vs).getD (n+i) (.i 0)=vs.getD i (.i 0):=by subst hn;rw[qy1,qy1,ϧ O1];simp
variable{y:TelX}
def Z1io(hn:J.length=n):owH.map (Ent.sem (owA y))=(owEs n).map (Ent.sem (J++owA y)):=by have g:=Zd7 (vs:=owA y) hn;have g0:(J++owA y).getD n (.i 0)=.v y.kv:=g 0;simp only[Ϣ,Ent.sem,Ent.holds,Ent.fp,Ent.wr,X.ev,g0,g 1,g 2,g 3,g 4,g 5,g 6,g 7,g 9];rfl
variable{B:Base}{hp:List Ent}
def Zsy{P:Program}{f:Nat}{args:Array ϗ}{w:Ϛ}(h0:Rel B J hp w)(n:Nat)(h:ϕ P f args w λe w1=>Z15y w w1 e x)(hn:J.length=n): ϕ P f args w λe w1=>∃y:TelX,y.ox=[]/\y.tel={ x.tel with out:=[] }/\((∀j,Z1 y.kv j->w.heap.size<=j)/\(∀j,Z1 y.wv j->w.heap.size<=j)/\(∀j,(Z3 y.sx y.ox).fp j->w.heap.size<=j))/\e=.returned (bkV y)/\Mod (Zn J [] []) w w1 /\
    (∀x∈owEs n,x.holds (J++owA y) w1/\∀k,x.fp (J++owA y) k->w.heap.size<=k\/(x.wr=ϭ/\∃y∈hp,y.wr=ϭ/\y.fp J k)\/k∈Zq J [])/\Zt (J++owA y) (owEs n):=by
 refine h.mono ?_;rintro e w1 ⟨y,he,h1,h2,hq,f1,f2,f3⟩;have hs:=Z1io (y:=y) hn;have hq':=hq.conv hs;refine⟨y,h1,h2,⟨f1,f2,f3⟩,he,hq'.mod,λx hx=>⟨hq'.holds x hx,λj hj=>.inl ?_⟩,hq'.sep⟩;cases hw:x.wr with
 | true =>
  rcases hq'.own x hx hw j hj with h5|h5
  ·exact h5
  ·cases h5
 | false =>
  have h3:Ent.sem (J++owA y) x∈owH.map (Ent.sem (owA y)):=by rw[hs];exact ϯ hx
  obtain⟨e',he',hee⟩:=ζ.1 h3;have hw':=(congrArg SEnt.wr hee).trans hw;have hj':=(congrFun (congrArg SEnt.fp hee) j).mpr hj;simp only[ϣ,Ϻ,or_false]at he';rcases he' with rfl|rfl|rfl|rfl|rfl
  ·exact f1 j hj'.2
  ·exact f2 j hj'.2
  ·cases hw'
  ·cases hw'
  ·exact f3 j hj'
def pktE(p:Pkt)(t:Tel):Int:=if ¬chkB t=0 then chkB t else if ¬Z9 c=Ϥ then 1 else chkP p
def resB(e:Int)(t:Tel):Tel:=if e=0 then t else telN
def Zgi{w:Ϛ}{e:Int}{t:Tel}(he:¬e=0)(hm:Mod [] w w'):Zq1 w w' (.returned (.tuple #[bkV Zlu,sc1 (.slice ϑ 0 0),.int .i64 e])) e (resB e t) :=
 ⟨Zlu,rfl,by rw[resB,ϛ he];rfl,Zq2 _ _,hm⟩
def Zq3{m:Nat}(h:Grew m (λ_=>False) x y)(hm:n<=m)(hx:(∀j,Z1 x.kv j->n<=j)/\(∀j,Z1 x.wv j->n<=j)/\(∀j,(Z3 x.sx x.ox).fp j->n<=j)): (∀j,(y.kept.map encK).flatten≠[]->Z1 y.kv j->n<=j)/\(∀j,(y.wants.map encK).flatten≠[]->Z1 y.wv j->n<=j)/\(∀j,(Z3 y.sx y.ox).fp j->n<=j):=by
 refine⟨λj h1 h2=>?_,λj h1 h2=>?_,λj h1=>?_⟩
 ·rcases h.kept j ⟨h1,h2⟩with h3|h3
  ·omega
  ·exact hx.1 j h3.2
 ·rcases h.want j ⟨h1,h2⟩with h3|h3
  ·omega
  ·exact hx.2.1 j h3.2
 ·rcases h.nest j h1 with h3|h3|h3
  ·omega
  ·exact hx.2.2 j h3
  ·exact h3.elim
def Zyd{w:Ϛ}(hr:Rel ⟨[],w0⟩ J hp w)(hn:n=w0.heap.size)(h1:reads w y.kv kK (y.kept.map encK))(h2:reads w y.wv kK (y.wants.map encK))(h3:owns w y.sv 58 kSx (y.sx.map Ze))(h4:owns w y.av 68 kW_K (y.wat.map Z4))(h5:owns w y.ov 130 kSn (y.ox.map Zp))(h6:(Z3 y.sx y.ox).holds w)(f:(∀j,(y.kept.map encK).flatten≠[]->Z1 y.kv j->n<=j)/\(∀j,(y.wants.map encK).flatten≠[]->Z1 y.wv j->n<=j)/\(∀j,(Z3 y.sx y.ox).fp j->n<=j))(g3:∀j,Z1 y.sv j->n<=j)(g4:∀j,Z1 y.av j->n<=j)(g5:∀j,Z1 y.ov j->n<=j):RdB n w y :=
 ⟨h1,h2,h3.reads,h4.reads,h5.reads,h6,f.1,f.2.1,λj _=>g3 j,λj _=>g4 j,λj _=>g5 j,f.2.2⟩
def Z2v{w:Ϛ}(hr:Rel ⟨[],w0⟩ J hp w)(i:Nat){v ty:Nat}{ks:List Kd}{r:X}(h:hp[i]?=ϔ (.row v ty ks r)):∀j,Z1 (J.getD v (.i 0)).toV j->w0.heap.size<=j:=λj hj=>by
 rcases hr.own _ (qy6 h) rfl j hj with h|h
 ·exact h
 ·cases h
def Zsz(x:TelX)(c:By)(p:Pkt)(va vc:ϗ)(hr:Rel ⟨[],w⟩ (bkA x++Zcc c p va vc) (bkH++[.rd 23 [.str,.int .i64] (.var 24),.rd 25 [.int .i64] (.var 26)]) w)(ho:x.ox=[])(hs:SmlB x)(hl5:∀t∈x.sx,t.1.fl.length<1000000000/\t.1.qu.length<1000000000)(hc:c.length<1099511627776)(hp:SmallP p): ϕ ϐ 124 #[bkV x,.string ⟨c.toArray⟩,Zsd p va vc] w λe w'=>Zq1 w w' e (pktE c p x.tel) (resB (pktE c p x.tel) (Zx c p x.tel)):=by
 refine Wu Zer hr ?_;simp only[QR,ra];intro b27 b28 b29 b30;refine⟨[.i (chkB x.tel)],rfl,λ_ w' hr=>Z8y w' x (RdX.rel ⟨hr.at_ 5 rfl,hr.at_ 6 rfl,hr.at_ 7 rfl,hr.at_ 8 rfl,hr.at_ 9 rfl⟩) ho hs,?_⟩;simp only[QR,ra];refine⟨[.b (Z9 c)],rfl,λ_ w' hr=>Z9o w' c hc,?_⟩;simp only[QR,ra];refine⟨λh1=>⟨λh2 w3 hr3=>?_,λh2=>ϟ h2 U⟩,λh1=>⟨λh2=>?_,λh2 w3 hr3=>?_⟩⟩
 ·have e:pktE c p x.tel=1:=by rw[pktE,ϛ (qy9.2 h1.1),ϝ h1.2]
  rw[e];exact Zgi U hr3.mod
 ·have hcl:=Classical.byContradiction λh3=>h1 ⟨h2,h3⟩;have e:pktE c p x.tel=chkP p:=by rw[pktE,ϛ (qy9.2 h2),ϛ (qy9.2 hcl)]
  rw[e];refine⟨[.i (chkP p)],rfl,λ_ w' hr=>Zi7 w' p va vc (hr.at_ 10 rfl) (hr.at_ 11 rfl) hp,?_⟩;simp only[QR,ra];refine⟨λh3 w3 hr3=>Zgi h3 hr3.mod,λh3=>?_⟩;have h3:=qy9.1 h3;have hB:=Z35.1 h2;intro b35 b36 w1 hr1;refine(Zsy hr1 38 (Z15z w1 x (RdX.rel ⟨hr1.at_ 8 rfl,hr1.at_ 9 rfl,hr1.at_ 10 rfl,hr1.at_ 11 rfl,hr1.at_ 12 rfl⟩) hs.keptL hs.wantsL hs.watL hs.sessL hl5) rfl).mono ?_;rintro e w2 ⟨⟨yk,yw,ys,ya,yn,yo,v1,v2,v3,v4,v5⟩,y1,y2,yf,rfl,m1,m3,m4⟩;subst y1;refine⟨owA ⟨yk,yw,ys,ya,yn,[],v1,v2,v3,v4,v5⟩,rfl,rfl,m1,qy5 _,m3,m4,?_⟩;have hz1:=hr1.mod.size;have hyt:TelX.tel ⟨yk,yw,ys,ya,yn,[],v1,v2,v3,v4,.slice ϑ 0 0⟩=x.tel:=by rw[show TelX.tel ⟨yk,yw,ys,ya,yn,[],v1,v2,v3,v4,.slice ϑ 0 0⟩=TelX.tel ⟨yk,yw,ys,ya,yn,[],v1,v2,v3,v4,v5⟩ from rfl,y2];simp only[TelX.tel,ho,Ϝ]
  intro b48 w3 hr3;refine(Z4j (pre:=[]) hr3 49 48 [42,44]
   (Z1ae w3 b48 ⟨yk,yw,ys,ya,yn,[],v1,v2,v3,v4,.slice ϑ 0 0⟩ c p va vc (((hr3.pick [1,2,3,4,6,5,0,19,20] U).conv rfl).base.conv rfl) (by rw[hyt];exact hB) (by show(0:Nat)<40000;decide) hcl h3)
   rfl rfl (by show 48<49;decide) rfl (λj hj=>?_)).mono ?_
  ·rcases hj with hj|hj|hj|hj
   ·exact(qE 1 rfl rfl hj)
   ·exact(qE 2 rfl rfl hj)
   ·exact(qE 5 rfl rfl hj)
   ·exact hj.elim
  rintro e w4 ⟨z,z1,z2,zg,rfl,m1,m2,m3,m4⟩;refine⟨tlV z,rfl,rfl,m1,m2,m3,m4,?_⟩;have hz3:=hr3.mod.size;intro b61 w5 hr5;have hnew:=Zq3 zg hz3 ⟨λj h=>ϒ hz1 (yf.1 j h),λj h=>ϒ hz1 (yf.2.1 j h),λj h=>ϒ hz1 (yf.2.2 j h)⟩;refine⟨z,by rw[h3];rfl,?_,Zyd hr5 rfl (hr5.at_ 1 rfl) (hr5.at_ 2 rfl) (hr5.at_ 3 rfl) (hr5.at_ 4 rfl) (hr5.at_ 5 rfl) (hr5.at_ 6 rfl) hnew (Z2v hr5 3 rfl) (Z2v hr5 4 rfl) (Z2v hr5 5 rfl),hr5.mod⟩;rw[resB,ϝ h3,z1,hyt]
 ·have e:pktE c p x.tel=chkB x.tel:=by rw[pktE,ϝ h2]
  rw[e];exact Zgi h2 hr3.mod
def Zv6(w':Ϛ)(r:Ending)(e:Int)(t:Tel):Prop :=
 ∃y:TelX,r=.returned (.tuple #[bkV y,.int .i64 e])/\y.ox=[]/\y.tel=t/\RdB w.heap.size w' y/\Mod [] w w'
def gonE(t:Tel):Int:=if ¬chkB t=0 then chkB t else if ¬Z9 c=Ϥ then 1 else 0
def Z161{w:Ϛ}{e:Int}{t:Tel}(he:¬e=0)(hm:Mod [] w w'):Zv6 w w' (.returned (.tuple #[bkV Zlu,.int .i64 e])) e (resB e t) :=
 ⟨Zlu,rfl,rfl,by rw[resB,ϛ he];rfl,Zq2 _ _,hm⟩
def Z1ip{z:TelX}{t:Tel}(h:z.tel=t)(ho:t.out=[]):z.ox=[]:=by rw[<- h]at ho;simpa[TelX.tel]using ho
def Z1g4(x:TelX)(c:By)(hr:Rel ⟨[],w⟩ (bkA x++[.s c]) bkH w)(ho:x.ox=[])(hs:SmlB x)(hl5:∀t∈x.sx,t.1.fl.length<1000000000/\t.1.qu.length<1000000000)(hc:c.length<1099511627776): ϕ ϐ 125 #[bkV x,.string ⟨c.toArray⟩] w λe w'=>Zv6 w w' e (gonE c x.tel) (resB (gonE c x.tel) (Z4i c x.tel)):=by
 refine Wu Zhn hr ?_;simp only[QR,ra];intro b11 b12 b13;refine⟨[.i (chkB x.tel)],rfl,λ_ w' hr=>Z8y w' x (RdX.rel ⟨hr.at_ 3 rfl,hr.at_ 4 rfl,hr.at_ 5 rfl,hr.at_ 6 rfl,hr.at_ 7 rfl⟩) ho hs,?_⟩;simp only[QR,ra];refine⟨[.b (Z9 c)],rfl,λ_ w' hr=>Z9o w' c hc,?_⟩;simp only[QR,ra];refine⟨λh1=>⟨λh2 w3 hr3=>?_,λh2=>ϟ h2 U⟩,λh1=>⟨λh2 w3 hr3=>?_,λh2=>?_⟩⟩
 ·have e:gonE c x.tel=1:=by rw[gonE,ϛ (qy9.2 h1.1),ϝ h1.2]
  rw[e];exact Z161 U hr3.mod
 ·have e:gonE c x.tel=chkB x.tel:=by rw[gonE,ϝ h2]
  rw[e];exact Z161 h2 hr3.mod
 ·have h2:=qy9.1 h2;have hcl:=Classical.byContradiction λh3=>h1 ⟨h2,h3⟩;have e:gonE c x.tel=0:=by rw[gonE,ϛ (qy9.2 h2),ϛ (qy9.2 hcl)]
  rw[e];have hB:=Z35.1 h2;intro b16 b17 w1 hr1;refine(Zsy hr1 19 (Z15z w1 x (RdX.rel ⟨hr1.at_ 6 rfl,hr1.at_ 7 rfl,hr1.at_ 8 rfl,hr1.at_ 9 rfl,hr1.at_ 10 rfl⟩) hs.keptL hs.wantsL hs.watL hs.sessL hl5) rfl).mono ?_;rintro e w2 ⟨⟨yk,yw,ys,ya,yn,yo,v1,v2,v3,v4,v5⟩,y1,y2,yf,rfl,m1,m3,m4⟩;subst y1;refine⟨owA ⟨yk,yw,ys,ya,yn,[],v1,v2,v3,v4,v5⟩,rfl,rfl,m1,qy5 _,m3,m4,?_⟩;have hz1:=hr1.mod.size;have hyt:TelX.tel ⟨yk,yw,ys,ya,yn,[],v1,v2,v3,v4,.slice ϑ 0 0⟩=x.tel:=by rw[show TelX.tel ⟨yk,yw,ys,ya,yn,[],v1,v2,v3,v4,.slice ϑ 0 0⟩=TelX.tel ⟨yk,yw,ys,ya,yn,[],v1,v2,v3,v4,v5⟩ from rfl,y2];simp only[TelX.tel,ho,Ϝ]
  intro b29 w3 hr3;refine(Z4j (pre:=[]) hr3 30 29 [23,25]
   (Z1c9 w3 b29 ⟨yk,yw,ys,ya,yn,[],v1,v2,v3,v4,.slice ϑ 0 0⟩ c (((hr3.pick [1,2,3,4,6,5,0] U).conv rfl).base.conv rfl) (by rw[hyt];exact hB) (by show(0:Nat)<100000;decide))
   rfl rfl (by show 29<30;decide) rfl (λj hj=>?_)).mono ?_
  ·rcases hj with hj|hj|hj|hj
   ·exact(qE 1 rfl rfl hj)
   ·exact(qE 2 rfl rfl hj)
   ·exact(qE 5 rfl rfl hj)
   ·exact hj.elim
  rintro e w4 ⟨z,z1,z2,zg,rfl,m1,m2,m3,m4⟩;refine⟨tlV z,rfl,rfl,m1,m2,m3,m4,?_⟩;have hz3:=hr3.mod.size;intro b42 w5 hr5;have hnew:=Zq3 zg hz3 ⟨λj h=>ϒ hz1 (yf.1 j h),λj h=>ϒ hz1 (yf.2.1 j h),λj h=>ϒ hz1 (yf.2.2 j h)⟩;rw[hyt]at z1;refine⟨z,rfl,Z1ip z1 ((Za0 hB c).2.trans (by simp[TelX.tel,ho])),by rw[resB,ϝ rfl,z1],Zyd hr5 rfl (hr5.at_ 1 rfl) (hr5.at_ 2 rfl) (hr5.at_ 3 rfl) (hr5.at_ 4 rfl) (hr5.at_ 5 rfl) (hr5.at_ 6 rfl) hnew (Z2v hr5 3 rfl) (Z2v hr5 4 rfl) (Z2v hr5 5 rfl),hr5.mod⟩
def msgE(n:Int)(m:Msg)(t:Tel):Int:=if ¬chkB t=0 then chkB t else if ¬(0<=n/\n<=9)then 3 else chk m
def Znl(x:TelX)(n:Int)(m:Msg)(mv:ϗ)(hr:Rel ⟨[],w⟩ (bkA x++([.i n]++mgV m mv)) (bkH++[.rd 15 [.int .i64,.str] (.var 16)]) w)(ho:x.ox=[])(hs:SmlB x)(hl5:∀t∈x.sx,t.1.fl.length<1000000000/\t.1.qu.length<1000000000)(hm1:m.opts.length<1099511627776)(hm2:m.tok.length<1099511627776)(hm3:m.pay.length<1099511627776): ϕ ϐ 121 #[bkV x,.int .i64 n,mV m (sc1 mv)] w λe w'=>Zq1 w w' e (msgE n m x.tel) (resB (msgE n m x.tel) (Zu n m x.tel)):=by
 refine Wu Zd4 hr ?_;simp only[QR,ra];intro b18 b19 b20 b21;refine⟨[.i (chkB x.tel)],rfl,λ_ w' hr=>Z8y w' x (RdX.rel ⟨hr.at_ 5 rfl,hr.at_ 6 rfl,hr.at_ 7 rfl,hr.at_ 8 rfl,hr.at_ 9 rfl⟩) ho hs,?_⟩;simp only[QR,ra];refine⟨λh1=>⟨λh2=>⟨λh3 w3 hr3=>?_,λh3=>ϟ h3 U⟩,λh2=>?_⟩,λh1 w3 hr3=>?_⟩
 ·have e:msgE n m x.tel=3:=by rw[msgE,ϛ (qy9.2 h1),ϝ h2]
  rw[e];exact Zgi U hr3.mod
 ·have hn:=qy9.1 h2;have e:msgE n m x.tel=chk m:=by rw[msgE,ϛ (qy9.2 h1),ϛ h2]
  rw[e];refine⟨[.i (chk m)],rfl,λ_ w' hr=>Zuk w' m mv (hr.at_ 10 rfl) hm1 hm2 hm3,?_⟩;simp only[QR,ra];refine⟨λh3 w3 hr3=>Zgi h3 hr3.mod,λh3=>?_⟩;have h3:=qy9.1 h3;have hB:=Z35.1 h1;intro b25 b26 w1 hr1;refine(Zsy hr1 28 (Z15z w1 x (RdX.rel ⟨hr1.at_ 8 rfl,hr1.at_ 9 rfl,hr1.at_ 10 rfl,hr1.at_ 11 rfl,hr1.at_ 12 rfl⟩) hs.keptL hs.wantsL hs.watL hs.sessL hl5) rfl).mono ?_;rintro e w2 ⟨⟨yk,yw,ys,ya,yn,yo,v1,v2,v3,v4,v5⟩,y1,y2,yf,rfl,m1,m3,m4⟩;subst y1;refine⟨owA ⟨yk,yw,ys,ya,yn,[],v1,v2,v3,v4,v5⟩,rfl,rfl,m1,qy5 _,m3,m4,?_⟩;have hz1:=hr1.mod.size;have hyt:TelX.tel ⟨yk,yw,ys,ya,yn,[],v1,v2,v3,v4,.slice ϑ 0 0⟩=x.tel:=by rw[show TelX.tel ⟨yk,yw,ys,ya,yn,[],v1,v2,v3,v4,.slice ϑ 0 0⟩=TelX.tel ⟨yk,yw,ys,ya,yn,[],v1,v2,v3,v4,v5⟩ from rfl,y2];simp only[TelX.tel,ho,Ϝ]
  have hxo:x.tel.out=[]:=by simp[TelX.tel,ho]
  have new0:(∀j,Z1 v1 j->w.heap.size<=j)/\(∀j,Z1 v2 j->w.heap.size<=j)/\(∀j,(Z3 ys []).fp j->w.heap.size<=j):=⟨λj h=>ϒ hz1 (yf.1 j h),λj h=>ϒ hz1 (yf.2.1 j h),λj h=>ϒ hz1 (yf.2.2 j h)⟩
  intro b38;simp only[QR,ra];refine⟨λh4=>?_,λh4=>⟨λh5=>?_,λh5 b39 w5 hr5=>?_⟩⟩
  ·intro b39 v40;refine⟨by first|omega|(simp;omega),λv42 b43 w5 hr5=>?_⟩;have hnil:∀s∈[toP n ⟨3,0,m.id,[],[],[]⟩],nilS s:=λs hs=>by rw[qy12.1 hs];exact⟨rfl,rfl,rfl⟩
   obtain⟨q1,q2⟩:=Zbs hnil;refine⟨⟨yk,yw,ys,ya,yn,[nilX (toP n ⟨3,0,m.id,[],[],[]⟩)],v1,v2,v3,v4,v42⟩,by rw[h3];rfl,?_,Zyd hr5 rfl (hr5.at_ 5 rfl) (hr5.at_ 6 rfl) (hr5.at_ 7 rfl) (hr5.at_ 8 rfl) (hr5.at_ 1 rfl) (q1 _ (hr5.at_ 9 rfl)) ⟨λj _=>new0.1 j,λj _=>new0.2.1 j,λj h=>new0.2.2 j (q2 j h)⟩ (Z2v hr5 7 rfl) (Z2v hr5 8 rfl) (Z2v hr5 1 rfl),hr5.mod⟩;rw[resB,ϝ h3,Zu,ϝ h4,hxo,<- hyt];rfl
  ·intro w3 hr3;refine(Z4j (pre:=[]) hr3 39 38 [32,34]
    (Z15w w3 b38 ⟨yk,yw,ys,ya,yn,[],v1,v2,v3,v4,.slice ϑ 0 0⟩ n m mv (((hr3.pick [1,2,3,4,6,5,0,19] U).conv rfl).base.conv rfl) (by rw[hyt];exact hB) (by show(0:Nat)<40000;decide) hn h3)
    rfl rfl (by show 38<39;decide) rfl (λj hj=>?_)).mono ?_
   ·rcases hj with hj|hj|hj|hj
    ·exact(qE 1 rfl rfl hj)
    ·exact(qE 2 rfl rfl hj)
    ·exact(qE 5 rfl rfl hj)
    ·exact hj.elim
   rintro e w4 ⟨z,z1,z2,zg,rfl,m1,m2,m3,m4⟩;refine⟨tlV z,rfl,rfl,m1,m2,m3,m4,?_⟩;have hz3:=hr3.mod.size;intro b51 w5 hr5;have hnew:=Zq3 zg hz3 new0;refine⟨z,by rw[h3];rfl,?_,Zyd hr5 rfl (hr5.at_ 1 rfl) (hr5.at_ 2 rfl) (hr5.at_ 3 rfl) (hr5.at_ 4 rfl) (hr5.at_ 5 rfl) (hr5.at_ 6 rfl) hnew (Z2v hr5 3 rfl) (Z2v hr5 4 rfl) (Z2v hr5 5 rfl),hr5.mod⟩;rw[resB,ϝ h3,z1,hyt,Zu,ϛ h4,ϝ h5]
  ·refine⟨⟨yk,yw,ys,ya,yn,[],v1,v2,v3,v4,.slice ϑ 0 0⟩,by rw[h3];rfl,?_,⟨hr5.at_ 2 rfl,hr5.at_ 3 rfl,(hr5.at_ 4 rfl).reads,(hr5.at_ 5 rfl).reads,Z6 _ _,hr5.at_ 6 rfl,λj _=>new0.1 j,λj _=>new0.2.1 j,λj _=>Z2v hr5 4 rfl j,λj _=>Z2v hr5 5 rfl j,λj=>ϟ rfl,new0.2.2⟩,hr5.mod⟩;rw[resB,ϝ h3,Zu,ϛ h4,ϛ h5,hyt]
 ·have e:msgE n m x.tel=chkB x.tel:=by rw[msgE,ϝ h1]
  rw[e];exact Zgi h1 hr3.mod
def wlF(x:TelX)(j:Nat):Prop:=Zkn x j\/Zat x j\/((x.sx.map Ze).flatten≠[]/\Z1 x.sv j)\/((x.wat.map Z4).flatten≠[]/\Z1 x.av j)\/(Z3 x.sx x.ox).fp j
def wlG(x:TelX)(rv:ϗ)(j:Nat):Prop:=wlF x j\/Z1 rv j\/Z1 x.ov j
abbrev wlV(x:TelX)(r:List Ky)(rv:ϗ):List V:=[.v x.kv,.r (x.kept.map encK),.v x.wv,.r (x.wants.map encK),.v x.sv,.r (x.sx.map Ze),.v x.av,.r (x.wat.map Z4),.i x.next,.v rv,.r (r.map Z2j),.v x.ov,.r (x.ox.map Zp),.a (Z3 x.sx x.ox)]
abbrev wlA(k:Nat)(x:TelX)(r:List Ky)(rv:ϗ):List V:=[.n k,.v x.kv,.r (x.kept.map encK),.v x.wv,.r (x.wants.map encK),.v x.sv,.r (x.sx.map Ze),.v x.av,.r (x.wat.map Z4),.i x.next,.v rv,.r (r.map Z2j),.v x.ov,.r (x.ox.map Zp),.a (Z3 x.sx x.ox)]
abbrev wlH:List Ent:=[.rd 1 kK (.var 2),.rd 3 kK (.var 4),.rd 5 kSx (.var 6),.rd 7 kW_K (.var 8),.row 10 49 kR (.var 11),.row 12 130 kSn (.var 13),.st 14,.cells 0 51 [.val (.var 1),.val (.var 3),.val (.var 5),.val (.var 7),.int .i64 (.var 9),.val (.var 10),.val (.var 12)]]
variable{rv:ϗ}
def Z1iq{r:List Ky}{j:Nat}(h:j∈Zh (wlA k x r rv) wlH):j∈k::(rv.ownBlock.toList++(x.ov.ownBlock.toList++[])):=by
 simp only[Zh,ϳ,Ent.fpl,Ϟ,Ϡ,V.toV_v,V.toN_n,ϥ,Ϧ,qy13,qy12,ϣ]at h⊢;rcases h with h|h|h
 ·exact .inr (.inl h)
 ·exact .inr (.inr h)
 ·exact .inl (by simpa using h)
def Z1cn{w w1:Ϛ}{r:List Ky}(h:Rel ⟨Zh (wlA k x r rv) wlH,w⟩ J hp w1)(i c:Nat){v ty:Nat}{ks:List Kd}{q:X}(h0:hp[i]?=ϔ (.row v ty ks q)){e:Ent}(hc:hp[c]?=ϔ e)(hi:i≠c)(h1:e.fp J k):∀j,Z1 (J.getD v (.i 0)).toV j->w.heap.size<=j\/Z1 rv j\/Z1 x.ov j:=λj hj=>by
 rcases h.own _ (qy6 h0) rfl j hj with g|g
 ·exact .inl g
 ·rcases ϣ.1 (Z1iq g)with g|g
  ·exact ϟ (show e.fp J j by rw[g];exact h1) λhf=>h.sep.disj h0 hc hi (.inl rfl) hj hf
  ·rw[ϥ]at g;rcases qy13.1 g with g|g
   ·exact .inr (.inl (Ϙ.1 g))
   ·exact .inr (.inr (Ϙ.1 g))
def Z162(w':Ϛ)(k:Nat)(x:TelX)(r:List Ky)(rv:ϗ)(t:Tel×List Ky):Prop :=
 ∃(y:TelX) (r':List Ky) (rv':ϗ),(y.tel,r')=t/\Rel ⟨Zh (wlA k x r rv) wlH,w⟩ (wlA k y r' rv') wlH w'/\∀j,wlG y rv' j->w.heap.size<=j\/wlG x rv j
def Zv7{w:Ϛ}{r r':List Ky}{rv':ϗ}{t:Tel×List Ky}(ht:(y.tel,r')=t)(hr:Rel ⟨Zh (wlA k x r rv) wlH,w⟩ (wlA k y r' rv') wlH w')(hg:∀j,wlF y j->w.heap.size<=j\/wlG x rv j):Z162 w w' k x r rv t :=
 ⟨y,r',rv',ht,hr,λj hj=>by
  rcases hj with hj|hj|hj
  ·exact hg j hj
  ·exact(Z1cn hr 4 7 rfl rfl U rfl j hj).imp id .inr
  ·exact(Z1cn hr 5 7 rfl rfl U rfl j hj).imp id .inr⟩
def Z1ir{w:Ϛ}(h:Rel B J hp w)(hb:hp.all (Ent.bd J.length)=Ϥ)(k:Nat)(y:TelX)(r:List Ky)(rv:ϗ)(hA:(Z3 y.sx y.ox).holds w)(hf:∀j,(Z3 y.sx y.ox).fp j->∃e∈hp,e.wr=ϭ/\e.fp J j)(is:List Nat)(hn:is.Nodup)(hs:(is.filterMap λi=>(Ent.st J.length::hp)[i]?).map (Ent.sem (J++[.a (Z3 y.sx y.ox)]))=wlH.map (Ent.sem (wlA k y r rv))):Rel B (wlA k y r rv) wlH w :=
 ((h.gather hb _ hA hf).pick is hn).conv hs
abbrev wlEs(n:Nat):List Ent:=[.rd n kK (.var (n+1)),.rd (n+2) kK (.var (n+3)),.rd (n+4) kSx (.var (n+5)),.rd (n+6) kW_K (.var (n+7)),.row (n+9) 49 kR (.var (n+10)),.row (n+11) 130 kSn (.var (n+12)),.st (n+13)]
abbrev wlMs(vk n:Nat):List Ent:=[.cells vk 51 [.val (.var n),.val (.var (n+2)),.val (.var (n+4)),.val (.var (n+6)),.int .i64 (.var (n+8)),.val (.var (n+9)),.val (.var (n+11))]]
def Z1g5{r:List Ky}(hn:J.length=n)(i:Nat):(J++wlV y r rv).getD (n+i) (.i 0)=(wlV y r rv).getD i (.i 0):=by subst hn;rw[qy1,qy1,ϧ O1];simp
def Z1is{r:List Ky}{vk:Nat}(hn:J.length=n)(hk:J.getD vk (.i 0)=.n k)(hv:vk<J.length):wlH.map (Ent.sem (wlA k y r rv))=(wlEs n++wlMs vk n).map (Ent.sem (J++wlV y r rv)):=by
 have g:=Z1g5 (y:=y) (r:=r) (rv:=rv) hn;have g0:(J++wlV y r rv).getD n (.i 0)=.v y.kv:=g 0;have hk':(J++wlV y r rv).getD vk (.i 0)=.n k:=by rw[<- hk,qy1,qy1,Ϫ hv]
 simp only[List.cons_append,Ϧ,Ϣ,Ϝ,Ent.sem,Ent.holds,Ent.fp,Ent.wr,X.ev,Sc.ev,g0,g 1,g 2,g 3,g 4,g 5,g 6,g 7,g 8,g 9,g 10,g 11,g 12,g 13,hk'];rfl
def Z1it{P:Program}{f:Nat}{args:Array ϗ}{w:Ϛ}{r:List Ky}{t:Tel×List Ky}{v:ϗ}(h0:Rel B J hp w)(n vk:Nat)(gone:List Nat)(h:ϕ P f args w λe w1=>e=.returned v/\Z162 w w1 k x r rv t)(hn:J.length=n)(hk:J.getD vk (.i 0)=.n k)(hv:vk<J.length)(hov:∀j,Z1 rv j\/Z1 x.ov j->j∈Zq J gone)(hO:∀j,wlF x j->(∃y∈hp,y.wr=ϭ/\y.fp J j)\/j∈Zq J gone): ϕ P f args w λe w1=>∃(y:TelX) (r':List Ky) (rv':ϗ),(y.tel,r')=t/\w.heap.size<=w1.heap.size/\(∀j,wlG y rv' j->w.heap.size<=j\/wlG x rv j)/\e=.returned v/\Mod (Zn J [vk] gone) w w1/\(∀x∈wlMs vk n,x.holds (J++wlV y r' rv') w1) /\ (∀x∈wlEs n,x.holds (J++wlV y r' rv') w1/\∀k,x.fp (J++wlV y r' rv') k->w.heap.size<=k\/(x.wr=ϭ/\∃y∈hp,y.wr=ϭ/\y.fp J k)\/k∈Zq J gone)/\Zt (J++wlV y r' rv') (wlEs n):=by
 refine h.mono ?_;rintro e w1 ⟨he,y,r',rv',hT,hq,hg⟩;have hs:=Z1is (y:=y) (r:=r') (rv:=rv') hn hk hv;have hq':Rel ⟨Zn J [vk] gone,w⟩ (J++wlV y r' rv') (wlEs n++wlMs vk n) w1:=Zko (hq.conv hs) rfl λj hj=>by
  show j∈Zn J [vk] gone
  rcases ϣ.1 (Z1iq hj)with g|g
  ·exact ϖ _ (qy12.2 (by rw[g];show k=(J.getD vk (.i 0)).toN;rw[hk];rfl))
  ·rw[ϥ]at g;exact ϙ _ (hov j ((qy13.1 g).imp Ϙ.1 Ϙ.1))
 refine⟨y,r',rv',hT,hq.mod.size,hg,he,hq'.mod,λx hx=>hq'.holds x (ϙ _ hx),λx hx=>⟨hq'.holds x (ϖ _ hx),λj hj=>?_⟩,(Ϯ.1 hq'.sep).1⟩;cases hw:x.wr with
 | false =>
  have h1:Ent.sem (J++wlV y r' rv') x∈wlH.map (Ent.sem (wlA k y r' rv')):=by rw[hs];exact ϯ (ϖ _ hx)
  obtain⟨e',he',hee⟩:=ζ.1 h1;have hw':=(congrArg SEnt.wr hee).trans hw;have hj':=(congrFun (congrArg SEnt.fp hee) j).mpr hj;have h2:wlF y j:=by
   simp only[wlH,ϣ,Ϻ,or_false]at he';rcases he' with rfl|rfl|rfl|rfl|rfl|rfl|rfl|rfl
   ·exact .inl hj'
   ·exact .inr (.inl hj')
   ·exact .inr (.inr (.inl hj'))
   ·exact .inr (.inr (.inr (.inl hj')))
   ·cases hw'
   ·cases hw'
   ·exact .inr (.inr (.inr (.inr hj')))
   ·cases hw'
  rcases hg j (.inl h2)with h|h|h
  ·exact .inl h
  ·exact .inr ((hO j h).imp (λh=>⟨rfl,h⟩) id)
  ·exact .inr (.inr (hov j h))
 | true =>
  rcases hq'.own x (ϖ _ hx) hw j hj with h5|h5
  ·exact .inl h5
  ·simp only[Zn,Ϣ,Ϝ,qy13,qy12]at h5;rcases h5 with h5|h5
   ·exfalso;refine(Ϯ.1 hq'.sep).2.2 x hx _ (qy12.2 rfl) (.inl hw) _ hj ?_;rw[h5];simp only[Ent.fp];rw[qy1 (l:=J++_),Ϫ hv,<- qy1]
   ·exact .inr (.inr h5)
open Go.Shelf Go.RowKit Go.Lib
def Z163:Zft ϐ 180:=by
 intro w b n c i vb vc hi hc hb;go_enter Tryz.func180,Tryz.ntmps180
 go_wp2
 all_goals (go_ret;exact⟨rfl,rfl⟩)
def Z1at:Zmj ϐ 180 28:=by
 intro w b n c vb m vc hm hc hb v' w' hrun;have hz1:¬((m)=0):=O
 go_enter Tryz.func180,Tryz.ntmps180
 go_wp2_with (at_builtin;refine Lib.wpList_append_run _ rfl _ _ _ _ rfl _ _ rfl rfl _ _ (hrun _) ?_)
 all_goals (go_ret;exact⟨rfl,rfl⟩)
def Z10m:Zbm ϐ 180 222 28 2:=by
 intro w g n c i vb m vc cur1 cur2 hi hm hroom hc63 hov hcp1 hcp2;obtain⟨hz1,hz2,hw1,hw2,hb1,hin,htn,htn2,hb3,-⟩:=insN hi hm O;have hb2:¬(c=i+m):=O
 have hb4:¬(c=i):=O
 have mixed:Tryz.prog.follows Departure.mixedOrders=Ϥ:=O2
 go_enter Tryz.func180,Tryz.ntmps180
 go_wp2_with (simp only)
 go_region_law_o (refine step_copy_runI rfl _ _ 28 28 rfl _ _ O1 O1 (hcp1 _ _ _) ?_)
 go_wp2_with (at_builtin;refine wpList_copy_runI _ rfl _ _ 28 28 rfl _ _ rfl rfl (hcp2 _ rfl _ _) ?_)
 go_ret
 first|exact⟨rfl,rfl⟩|exact⟨rfl,by rw[setRow_setRow]⟩
def Z164:Zfu ϐ 180 49 28 3 2:=by
  intro w g n c i vb m vc G ROW cur2 cur3 hi hm hnc hroom hGn hG63 hrz hcpA hcpB Q hfin;obtain⟨hz1,hz2,hw1,-,hb1,hin,htn,-,-,hb3⟩:=insN hi hm O;have hz3:(c)<(n)+(m):=O
  have hGi:¬(G=i):=O
  have hGim:¬(G=i+m):=O
  have hci:¬(c=i):=O
  have mixed:Tryz.prog.follows Departure.mixedOrders=Ϥ:=O2
  have hE1:((w.alloc (.cells ROW 49)).drew).heap=(w.drew.alloc (.cells ROW 49)).heap:=rfl;have hF1:(((w.alloc (.cells ROW 49)).drew.setRow w.heap.size cur2).drew).heap=((w.drew.alloc (.cells ROW 49)).setRow w.heap.size cur2).heap:=rfl;go_enter Tryz.func180,Tryz.ntmps180
  go_wp2_with (first
    | (at_builtin;refine Lib.wpList_append_run _ rfl _ _ _ _ rfl _ _ rfl rfl _ _ (hrz _) ?_)
    | (at_builtin;refine wpList_copy_runI _ rfl _ _ 28 28 rfl _ _ rfl rfl (hcpA _ hE1 _ _) ?_)
    | (at_builtin;refine wpList_copy_runI _ rfl _ _ 28 28 rfl _ _ rfl rfl (hcpB _ hF1 _ _ _) ?_))
  go_region_law_o (refine step_copy_runI rfl _ _ 28 28 rfl (.slice (ϔ ⟨w.heap.size,(i+m)*2,ϑ⟩) (n+m - (i+m)) (G - (i+m))) (.slice (ϔ ⟨g,i*2,ϑ⟩) (n - i) (c - i)) O7 O7 (hcpB _ hF1 3 (G - (i+m)) (c - i)) ?_)
  go_wp2
  exact hfin _ rfl rfl rfl rfl
def Z165(s v:ϗ)(i:Nat)(R V:List (List ϗ))(hs:owns w s 49 [.str,.str] R)(hv:owns w v 49 [.str,.str] V)(hne:∀k,Z1 s k->Z1 v k->False)(hi:i<=R.length)(hb:(R.length+V.length)*32<=140737488355328): ϕ ϐ 180 #[s,.int .i64 i,v] w λe w'=>∃v',e=.returned v'/\Zc8 w w' s v' 49 [.str,.str] (R.take i++V++R.drop i) :=
 Zjo (K:=2) Tryz.underlying28 Tryz.underlying3 O2 rfl U U (λargs w=>run_callFunc_extern Tryz.func222 O2 O2 O2 (e:=Extern.SlicesOverlaps.overlaps #[28,28] #[4]) O2 args w) Z163 Z1at Z10m Z164 w s v i R V hs hv hne hi hb
def Z1g6:Z191 ϐ 174 28 2:=by
 intro w g n c i j cur1 cur2 hij hj hnc hc63 happ hclr;have hz1:¬((i)=(j)):=O
 have hb1:(0:Int)<=(i):=O
 have hw1:¬(c=i+(n - j)):=O
 have hj1:(j)<=(n):=O
 have hj2:(i)<=(j):=O
 have mixed:Tryz.prog.follows Departure.mixedOrders=Ϥ:=O2
 have hic:i<=c:=O
 by_cases hcj:c=j
 ·obtain rfl:n=c:=O
  obtain rfl:n=j:=hcj;have happ0:∀(a:Addr) ty sc,(Builtin.append_ #[28,28] ty #[.slice (ϔ ⟨g,0,ϑ⟩) i n,.slice (ϔ a) 0 sc]).run ϐ w.drew=.ok (.slice (ϔ ⟨g,0,ϑ⟩) i n) (w.drew.setRow g cur1):=λa ty sc=>by have:=happ a (.inl (Ϭ n)) ty sc;rw[Ϭ,Ϸ]at this;exact this
  have hclr0:∀(W:Ϛ),W.heap=(w.drew.setRow g cur1).heap->∀ty sc,(Builtin.clear_ #[28] ty #[.slice (ϔ ⟨g,i*2,ϑ⟩) (n - i) sc]).run ϐ W=.ok (.tuple #[]) (W.setRow g cur2):=by rw[Ϭ,Ϸ]at hclr;exact hclr
  have hw2:¬n=i:=O
  have hfin0:Ending.returned (.slice (ϔ ⟨g,0,ϑ⟩) i n)=.returned (.slice (ϔ ⟨g,0,ϑ⟩) (i+(n - n)) n):=by rw[Ϭ,Ϸ]
  go_enter Tryz.func174,Tryz.ntmps174
  go_wp2
  go_region_law_o (refine Z22 rfl _ _ 28 28 rfl _ _ O7 O7 (happ0 ⟨g,0,ϑ⟩ _ 0) ?_)
  go_wp2_with (refine Z1t _ rfl _ 28 rfl _ rfl (hclr0 _ rfl _ _) ?_)
  go_ret
  exact⟨hfin0,by rw[setRow_setRow]⟩
 ·go_enter Tryz.func174,Tryz.ntmps174
  go_wp2
  go_region_law_o (refine Z22 rfl _ _ 28 28 rfl _ _ O7 O7 (happ ⟨g,j*2,ϑ⟩ (.inr rfl) _ (c - j)) ?_)
  go_wp2_with (refine Z1t _ rfl _ 28 rfl _ rfl (hclr _ rfl _ _) ?_)
  go_ret
  exact⟨rfl,by rw[setRow_setRow]⟩
def Z166(s:ϗ)(i j:Nat)(R:List (List ϗ))(hs:owns w s 49 [.str,.str] R)(hij:i<j)(hj:j<=R.length): ϕ ϐ 174 #[s,.int .i64 i,.int .i64 j] w λe w'=>∃v',e=.returned v'/\Zc8 w w' s v' 49 [.str,.str] (R.take i++R.drop j) :=
 Zu9 (K:=2) Tryz.underlying28 O2 rfl U Z1g6 w s i j R hs hij hj
def Z1g7(v:ϗ)(l:List Ky)(hv:Zgy w v l)(hs:∀r∈l,r.1.length<1099511627776)(hl:l.length<1000000000): ϕ ϐ 13 #[sc1 v] w λe w'=>e=.returned (.int .i64 (chkR l))/\Mod [] w w':=by
 refine Wr (J:=[.v v,.r (l.map Z2j)]) Zhp ?_;simp only[QR,ra,gR0,gR1];refine⟨λvs=>∃(i:Nat) (x:V),vs=[x,.i i]/\i<=l.length/\Zlq (prvR l i) (l.drop i)=chkR l,λvs=>l.length - (vs.getD 1 (.i 0)).toI.toNat,⟨0,_,rfl,O,rfl⟩,?_⟩;rintro _ - ⟨i,x,rfl,hi,hg⟩;simp only[QR,ra,gR0,gR1];have hi1:((i:Int) - 1).toNat=i - 1:=O
 try rw[hi1]
 refine⟨λh1=>⟨O,λb=>?_⟩,λh1 w' hr=>⟨?_,hr.mod⟩⟩
 ·have hi':i<l.length:=O
  rw[Znc hi']at hg;refine⟨[.b (Z9 (l.getD i rstD).1)],rfl,λ_ w' hr=>Z9o w' _ (hs _ (memR hi')),?_⟩;simp only[QR,ra,gR0,gR1];try rw[hi1]
  refine⟨λh2 w' hr=>⟨?_,hr.mod⟩,λh2=>⟨λh3 w' hr=>⟨?_,hr.mod⟩,λh3=>⟨O,O,O,O,λh6 w' hr=>⟨?_,hr.mod⟩,λh6=>⟨O,O,⟨i+1,x,rfl,O,?_⟩,O⟩⟩⟩⟩
  ·rw[ϝ h2]at hg;rw[<- hg]
  ·rw[ϛ h2,ϝ h3]at hg;rw[<- hg]
  ·rw[ϛ h2,ϛ h3,ϝ h6]at hg;rw[<- hg]
  ·rw[ϛ h2,ϛ h3,ϛ h6]at hg;exact hg
 ·have:i=l.length:=O
  subst this;rw[Ϲ]at hg;rw[<- hg];rfl
def Z167(e:Evt)(hc:e.client.length<1099511627776): ϕ ϐ 14 #[.agg #[.string ⟨e.client.toArray⟩,.int .i64 e.peer,.string ⟨e.bytes.toArray⟩]] w λr w'=>r=.returned (.int .i64 (Z47 e))/\Mod [] w w':=by refine Wp (J:=[.s e.client,.i e.peer,.s e.bytes]) Zhq ?_;simp only[QR];intro b;refine⟨[.b (Z9 e.client)],rfl,λ_ w' hr=>Z9o w' _ hc,?_⟩;simp only[QR];unfold Z47;refine⟨λh w' hr=>⟨by rw[ϝ h],hr.mod⟩,λh=>?_⟩;rw[ϛ h];refine⟨λh0=>⟨λh2 w' hr=>⟨by rw[ϝ];exact h2.imp (λa=>⟨h0,a⟩) id,hr.mod⟩,λh2 w' hr=>⟨by rw[ϛ];exact λa=>h2 (a.imp (λa=>a.2) id),hr.mod⟩⟩,λh0=>⟨λh2 w' hr=>⟨by rw[ϝ];exact .inr h2,hr.mod⟩,λh2 w' hr=>⟨by rw[ϛ];exact λa=>a.elim (λa=>h0 a.1) h2,hr.mod⟩⟩⟩
abbrev Zt0(w:Ϛ)(v:ϗ)(l:List Ky):Prop:=owns w v 49 kR (l.map Z2j)
def Z1au(v:ϗ)(l:List Ky)(hv:Zgy w v l)(hl:l.length<1000000000):ϕ ϐ 16 #[sc1 v] w λe w'=>∃v',e=.returned (sc1 v')/\Zt0 w' v' l/\(∀k,Z1 v' k->w.heap.size<=k)/\Mod [] w w':=by
 refine Wr (J:=[.v v,.r (l.map Z2j)]) Z44 ?_;simp only[QR,ra,Ϧ];refine⟨λh w' hr=>?_,λh v1=>⟨O,λv2 w' hr=>?_⟩⟩
 ·have hn:=List.map_eq_nil_iff.1 (Z61 h hv);subst hn;refine⟨_,rfl,hr.at_ 0 rfl,λk hk=>?_,hr.mod⟩;rcases hr.own _ (qy8 ..) rfl k hk with h|h
  ·exact h
  ·simp at h
 ·refine⟨v2,rfl,hr.at_ 0 rfl,λk hk=>?_,hr.mod⟩;rcases hr.own _ (qy8 ..) rfl k hk with h|h
  ·exact h
  ·simp at h
def Z1av(s v:ϗ)(l:List Ky)(x:Ky)(i:Nat)(hs:Zt0 w s l)(hv:Zt0 w v [x])(hne:∀k,Z1 s k->Z1 v k->False)(hi:i<=l.length)(hl:l.length<1000000000): ϕ ϐ 180 #[sc1 s,.int .i64 i,sc1 v] w λe w'=>∃v',e=.returned (sc1 v')/\Zt0 w' v' (l.take i++[x]++l.drop i)/\(∀k,Z1 v' k->Z1 s k\/w.heap.size<=k)/\Mod s.ownBlock.toList w w':=by rw[hs.reads.sc1,hv.reads.sc1];refine(Z165 w s v i _ _ hs hv hne (by simpa using hi) O3).mono ?_;rintro e w' ⟨v',rfl,g1,g2,g3⟩;refine⟨v',by rw[g1.reads.sc1],?_,g2,Mod.of_grown g3 λk hk=>.inl (Ϙ.2 hk)⟩;rw[Zt0,ϓ,ϓ,γ,δ];exact g1
def Z1aw(s:ϗ)(l:List Ky)(i:Nat)(hs:Zt0 w s l)(hi:i<l.length): ϕ ϐ 174 #[sc1 s,.int .i64 i,.int .i64 ((i:Int)+1)] w λe w'=>∃v',e=.returned (sc1 v')/\Zt0 w' v' (l.take i++l.drop (i+1))/\(∀k,Z1 v' k->Z1 s k\/w.heap.size<=k)/\Mod s.ownBlock.toList w w':=by rw[hs.reads.sc1];have hc:=Z166 w s i (i+1) _ hs O (by rw[qy3];omega);rw[show((i+1))=(i)+1 by omega]at hc;refine hc.mono ?_;rintro e w' ⟨v',rfl,g1,g2,g3⟩;refine⟨v',by rw[g1.reads.sc1],?_,g2,Mod.of_grown g3 λk hk=>.inl (Ϙ.2 hk)⟩;rw[Zt0,ϓ,γ,δ];exact g1
