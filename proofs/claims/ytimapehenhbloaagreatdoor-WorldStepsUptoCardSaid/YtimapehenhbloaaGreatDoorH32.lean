/- By an AI agent. -/
import Derived.Test.YtimapehenhbloaaGreatDoorH31
set_option linter.all false
set_option maxHeartbeats 20000000
set_option maxRecDepth 100000
open Nat renaming reduceAdd→ra
open Nat renaming le_trans→ϐ,le_refl→γ
open List renaming length_cons→ϑ,map_append→ϒ,length_nil→ϓ,append_nil→ϔ,getD_cons_zero→ϕ,getD_cons_succ→ϖ,length_take→ϗ,take_length→Ϙ,mem_append_left→Ϟ,mem_cons→Ϡ,length_set→Ϣ,map_nil→Ϥ,length_filter_le→ϥ,mem_append_right→Ϧ,map_cons→ϧ,mem_of_mem_take→Ϩ,mem_map→ϩ,getElem?_append_left→ϫ,append_assoc→ϭ,all_eq_true→Ϯ,length_drop→ϯ,nil_append→ϱ,pairwise_append→ϲ,mem_map_of_mem→ϳ,getElem_mem→ϸ,map_take→Ϻ,map_drop→ϻ,map_set→β
open Go.Proofs.Tryz renaming prog→ϙ
open Go renaming Value→Ϛ,World→Ϫ,Calls→Ϭ
open Option renaming mem_toList→Ϝ,none→Ϲ,some→δ
open Bool renaming false→ϣ,true→ϰ,and_eq_true→Ϸ
namespace Go.Proofs.Y
open Go Go.Sx
variable{n m:Nat}{w:Ϫ}{y:TelX}
def Zl4(h:RdB n w y)(hm:m<=n):∀j,wlF y j->m<=j:=λj hj=>by
 rcases hj with hj|hj|hj|hj|hj
 ·exact ϐ hm (h.nk j hj.1 hj.2)
 ·exact ϐ hm (h.nw j hj.1 hj.2)
 ·exact ϐ hm (h.ns j hj.1 hj.2)
 ·exact ϐ hm (h.na j hj.1 hj.2)
 ·exact ϐ hm (h.nn j hj)
variable{z:TelX}{j:Nat}
def Zve{ov:Ϛ}(h:wlF { z with ox:=y.ox++z.ox,ov:=ov } j):wlF z j\/wlF y j:=by
 rcases h with h|h|h|h|h
 ·exact .inl (.inl h)
 ·exact .inl (.inr (.inl h))
 ·exact .inl (.inr (.inr (.inl h)))
 ·exact .inl (.inr (.inr (.inr (.inl h))))
 ·rcases Z16a h with h|h
  ·rcases Z7.1 h with⟨t,ht,hk⟩|⟨t,ht,hk⟩
   ·exact .inl (.inr (.inr (.inr (.inr (Z7.2 (.inl ⟨t,ht,hk⟩))))))
   ·exact .inr (.inr (.inr (.inr (.inr (Z7.2 (.inr ⟨t,ht,hk⟩))))))
  ·rcases Z7.1 h with⟨t,ht,-⟩|⟨t,ht,hk⟩
   ·cases ht
   ·exact .inl (.inr (.inr (.inr (.inr (Z7.2 (.inr ⟨t,ht,hk⟩))))))
variable{l l':List SesX}
def Zq8{a b:List SntX}(h1:(Z3 l' b).holds w)(h2:(Z3 l a).holds w):(Z3 l' (a++b)).holds w :=
 Z10 (λt ht=>.inl ht) (λt ht=>(qy13.1 ht).elim (λh=>.inr (Z7n h2 h)) .inl) h1
variable{k:Nat}
def Zl5{a b:List SntX}(h:(Z3 l' (a++b)).fp k):(Z3 l' b).fp k\/(Z3 l a).fp k:=by
 rcases Z7.1 h with⟨t,ht,hk⟩|⟨t,ht,hk⟩
 ·exact .inl (Z7.2 (.inl ⟨t,ht,hk⟩))
 ·rcases qy13.1 ht with ht|ht
  ·exact .inr (Z7.2 (.inr ⟨t,ht,hk⟩))
  ·exact .inl (Z7.2 (.inr ⟨t,ht,hk⟩))
def Z1j0{n:Int}{m:Msg}{t:Tel}(h:BOk t)(hn:0<=n/\n<=9)(hm:chk m=0):msgE n m t=0:=by rw[msgE,ϛ (qy9.2 (Z35.2 h)),ϛ (qy9.2 hn),hm]
variable{c:By}
def Z1j1{p:Pkt}{t:Tel}(h:BOk t)(hc:Z9 c=ϰ)(hp:chkP p=0):pktE c p t=0:=by rw[pktE,ϛ (qy9.2 (Z35.2 h)),ϛ (qy9.2 hc),hp]
def Z1j2{t:Tel}(h:BOk t)(hc:Z9 c=ϰ):gonE c t=0:=by rw[gonE,ϛ (qy9.2 (Z35.2 h)),ϛ (qy9.2 hc)]
def Zt6(t:Tel):resB 0 t=t:=ϝ rfl
def Zvf(y z:TelX)(ov:Ϛ){f:Tel->Tel}(hf:Outs f)(h:z.tel=f y.bare.tel):TelX.tel { z with ox:=y.ox++z.ox,ov:=ov }=f y.tel:=by rw[Z1g1 hf y.tel];have e:f { y.tel with out:=[] }=z.tel:=h.symm;rw[e];simp only[TelX.tel,ϒ]
variable{i:Nat}
def Zyh{l:List Ky}(hi:i=idxR l c)(h:i<l.length):decide (Z2x (l.getD i rstD).1 c=0)=hasR l c:=by
 rw[hasR,<- hi];simp only[Z3h];congr 1
 simp[h]
def Z16h{l:List Ky}(hi:i=idxR l c)(h:¬i<l.length):ϣ=hasR l c:=by rw[hasR,<- hi];simp[h]
def Z1cq(w:Ϫ)(k:Nat)(x:TelX)(r:List Ky)(rv:Ϛ)(e:Evt)(hr:Rel ⟨Zh (wlA k x r rv) wlH,w⟩ (wlA k x r rv++[.s e.client,.i e.peer,.s e.bytes]) wlH w)(hb:BOk x.tel)(hw:ROk r)(he:Z47 e=0)(hrl:r.length<1000000)(hol:x.ox.length<10000000000)(hl:e.bytes.length<=30000000): Ϭ ϙ 17 #[.pointer (δ ⟨k,0,Ϲ⟩),.agg #[.string ⟨e.client.toArray⟩,.int .i64 e.peer,.string ⟨e.bytes.toArray⟩]] w λq w'=>q=.returned (.tuple #[])/\Z162 w w' k x r rv (Z5v e (x.tel,r)):=by
  refine Wu Zbe hr ?_;simp only[QR,ra];have hb0:BOk x.bare.tel:=hb.out [];have hsm:=SmlT.of hb0;intro b18;refine⟨λh0=>?_,λh0=>?_⟩
  . have hev:0<=e.peer/\e.peer<=9:=by
      rcases Zeq.1 he with h|h
      . exact h.2
      . exact ϟ h0 h.1
    have hst:Z5v e (x.tel,r)=Zpf dec e.peer e.bytes (x.tel,r):=by rw[Z5v,Zar,ϝ h0]
    rw[hst];intro w1 hr1;refine(Z1b0 w1 e.bytes O).mono ?_;obtain⟨D,hD⟩:∃D,D=dec e.bytes:=⟨_,rfl⟩
    have hdc:D.2=0->chk D.1=0:=by rw[hD];exact Zf2
    have hpw:Zpf dec e.peer e.bytes (x.tel,r)=if D.2=0 then(Zu e.peer D.1 x.tel,r)else(x.tel,r):=by rw[Zpf,hD]
    rw[hpw,<- hD];obtain⟨m,er⟩:=D;simp only at hdc;rintro q w2 ⟨mv,rfl,rm,fm,mm⟩;refine⟨[.i m.kind,.i m.code,.i m.id,.s m.tok,.v mv,.r (m.opts.map encO),.s m.pay,.i er],rfl,rfl,mm,qy5 _,qy2.2 ⟨⟨rm,λk hk=>.inl (fm k hk)⟩,qy5 _⟩,Z2,?_⟩;clear hD hpw mm rm fm hr1;simp only[QR,ra];intro b27;refine⟨λh1 w3 hr3=>?_,λh1=>?_⟩
    . rw[ϛ h1];exact⟨O6,x,r,rv,rfl,(hr3.pick [3,4,5,6,7,8,9,10] U).conv rfl,λj hj=>.inr hj⟩
    have h1:er=0:=qy9.1 h1;rw[ϝ h1];have hcm:=hdc h1;obtain⟨-,-,⟨m1',m2',m3'⟩,-⟩:=Zac.1 hcm;have hme:msgE e.peer m x.bare.tel=0:=Z1j0 hb0 hev hcm;have hlen:=(Zke hb0 hev hcm).2;refine⟨λvs=>∃(y:TelX) (b:Nat),vs=brV y 0++[.n b]/\y.tel=Zu e.peer m x.bare.tel/\∀j,wlF y j->w.heap.size<=j,⟨?_,?_⟩,?_⟩
    . intro w3 hr3;have hq:=Znl w3 x.bare e.peer m mv (Z1cp ⟨hr3.at_ 3 rfl,hr3.at_ 4 rfl,hr3.at_ 5 rfl,Z2k (y:=x) (hr3.at_ 9 rfl),hr3.at_ 6 rfl⟩ (hr3.at_ 1 rfl)) rfl hsm.b hsm.f O O O;rw[hme,Zt6]at hq;refine(Zyg hr3 28 hq rfl).mono ?_;rintro q w4 ⟨y,ty,hd,rfl,m1,m3,m4⟩;refine⟨brV y 0,rfl,rfl,m1,qy5 _,m3,m4,?_⟩;intro b;exact⟨y,b,rfl,ty,Zl4 hd hr3.mod.size⟩
    . intro b w3 hr3;have hq:=Znl w3 x.bare e.peer m mv (Z1cp ⟨hr3.at_ 4 rfl,hr3.at_ 5 rfl,hr3.at_ 6 rfl,Z2k (y:=x) (hr3.at_ 10 rfl),hr3.at_ 7 rfl⟩ (hr3.at_ 2 rfl)) rfl hsm.b hsm.f O O O;rw[hme,Zt6]at hq;refine(Zyg hr3 29 hq rfl).mono ?_;rintro q w4 ⟨y,ty,hd,rfl,m1,m3,m4⟩;exact⟨brV y 0,rfl,rfl,m1,qy5 _,m3,m4,y,b,rfl,ty,Zl4 hd hr3.mod.size⟩
    rintro _ - ⟨y,b,rfl,ty,hnew⟩;have hyl:y.ox.length<=200:=by
      have e1:y.tel.out.length=(Zu e.peer m x.bare.tel).out.length:=by rw[ty]
      have e2:y.tel.out.length=y.ox.length:=by simp[TelX.tel]
      have e3:x.bare.tel.out.length=0:=rfl;omega
    simp only[QR,ra];refine⟨by(first|omega|(simp only[qy11,qy3,ϑ,ϓ];omega)),λv42 w3 hr3=>⟨O6,?_⟩⟩;have hox:x.ox.map Zp++y.ox.map Zp=(x.ox++y.ox).map Zp:=by rw[ϒ]
    refine Zv7 (y:={ y with ox:=x.ox++y.ox,ov:=v42 }) (r':=r) (rv':=rv) (by rw[Zvf x y v42 (Zpz e.peer m) ty]) (Z1ir hr3 (by rfl) k { y with ox:=x.ox++y.ox,ov:=v42 } r rv (Zq8 (hr3.at_ 7 rfl) (hr3.at_ 16 rfl)) (λj hj=>?_) [3,4,5,6,16,1,0,18] U (Zd rfl (Zd rfl (Zd rfl (Zd rfl (Zd rfl (Zd (Z3w rfl hox) rfl))))))) λj hj=>?_
    . rcases Zl5 (l:=x.sx) hj with h|h
      . exact(qE 7 rfl rfl h)
      . exact(qE 16 rfl rfl h)
    . rcases Zve hj with h|h
      . exact .inl (hnew j h)
      . exact .inr (.inl h)
  . have hev:¬e.client=[]/\Z9 e.client=ϰ:=by
      rcases Zeq.1 he with h|h
      . exact ϟ h.1 h0
      . exact⟨h.1,h.2.1⟩
    have hcb:=hev.2;have hcl:e.client.length<1099511627776:=by have:=hcb;unfold Z9 at this;rw[Ϸ,ϡ]at this;omega
    have hst:Z5v e (x.tel,r)=Z88 feed e.client e.bytes (x.tel,r):=by rw[Z5v,Zar,ϛ h0]
    rw[hst];obtain⟨tk1,tk2,tk3⟩:=Zia hw e.client;have tk4:=Zq0 r e.client;obtain⟨T,hT⟩:∃T,T=takW r e.client:=⟨_,rfl⟩
    rw[<- hT]at tk1 tk2 tk3 tk4;obtain⟨F,hF⟩:∃F,F=feed (T.1++e.bytes):=⟨_,rfl⟩
    have hcw:Z88 feed e.client e.bytes (x.tel,r)=(if ¬F.2.2=0 then Z4i e.client (Zgf e.client F.1 x.tel)else Zgf e.client F.1 x.tel,Zc3 T.2 e.client F.2.1):=by rw[Z88,hF,hT];rfl
    rw[hcw];have hFok:=Zps (T.1++e.bytes);rw[<- hF,qy11]at hFok;obtain⟨fk1,fk2,fk3⟩:=hFok;have hsR:=hw.sort;refine⟨λvs=>∃(l:List Z39) (lv rv':Ϛ),vs=[.i 0,.i 0,.i 0,.i 0,.i 0,.i 0,.i 0,.i 0,.i 0,.i 0,.i 0,.i 0,.v lv,.s F.2.1,.i F.2.2,.s T.1,.v rv',.r (l.map Z8w),.r (T.2.map Z2j),.a (Za l)]/\l.map (·.1)=F.1,?_,?_⟩
    . refine⟨λvs=>vs=[.i (idxR r e.client),.i 0,.i 0,.i 0,.b (hasR r e.client)],?_,?_⟩
      . refine⟨λvs=>∃i j:Nat,vs=[.i i,.i j]/\invR r e.client i j,λvs=>(vs.getD 1 (.i 0)).toI.toNat - (vs.getD 0 (.i 0)).toI.toNat,⟨0,_,rfl,Z1cm _ _⟩,?_⟩;rintro _ - ⟨i,j,rfl,hv⟩;obtain⟨hv1,hv2⟩:i<=j/\j<=r.length:=⟨hv.1,hv.2.1⟩;simp only[QR,ra,gR0];refine⟨λh1=>?_,λh1=>?_⟩;(· rw[half i j O];obtain⟨h,hh⟩:∃h,h=(i+j) / 2:=⟨_,rfl⟩;rw[<- hh];have hh1:i<=h/\h<j:=O;simp only[qy4,gR0];refine⟨O,O,O,O,O,O,λb=>?_⟩;refine⟨[.i (Z2x (r.getD h rstD).1 e.client)],rfl,λ_ w' _=>Z29 w' _ _,?_⟩;simp only[QR,ra,gR0];rw[Z6k];exact⟨λh2=>⟨O,O,⟨h+1,j,rfl,Z15t hsR hv hh1.2 h2⟩,O⟩,λh2=>⟨⟨i,h,rfl,Z15u hsR hv hh1.1 hh1.2 h2⟩,O⟩⟩);(· obtain rfl:i=j:=O;have hix:=Zyc hv;refine⟨λh2=>⟨O,λb=>?_⟩,λh2=>?_⟩;(· refine⟨[.i (Z2x (r.getD i rstD).1 e.client)],rfl,λ_ w' _=>Z29 w' _ _,?_⟩;simp only[QR,ra,gR0];rw[Zyh hix O,<- hix]);(· rw[<- Z16h hix O,<- hix]))
      rintro _ - rfl;simp only[QR,ra,gR0,gR1];refine⟨λhno=>?_,λhyes=>?_⟩
      . have hT2:T=([],r):=by rw[hT,takW,ϛ hno]
        intro w1 hr1;refine(Z1ck w1 [] e.bytes O3).mono ?_;rw[show([]:By)++e.bytes=T.1++e.bytes by rw[hT2],<- hF];rintro q w2 ⟨lv,l,rfl,hlF,m1,rX,pX,fX,fP⟩;refine⟨[.v lv,.r (l.map Z8w),.s F.2.1,.i F.2.2,.a (Za l)],rfl,rfl,m1,qy5 _,qy2.2 ⟨⟨rX,λk hk=>.inl (fX k hk.2)⟩,qy2.2 ⟨⟨pX,λk hk=>.inl (fP k hk)⟩,qy5 _⟩⟩,Z50 (by simp[Ent.wr]),?_⟩;clear m1 rX pX fX fP hr1;simp only[QR,ra];refine⟨Za l,λw hr=>hr.at_ 1 rfl,λj hj=>(qE 1 rfl rfl hj),?_⟩;exact⟨l,lv,rv,by rw[hT2],hlF⟩
      . have hyes:hasR r e.client=ϰ:=qy9.1 hyes;have hlt:idxR r e.client<r.length:=(of_decide_eq_true hyes).1;have hT2:T=((r.getD (idxR r e.client) rstD).2,r.take (idxR r e.client)++r.drop (idxR r e.client+1)):=by rw[hT,takW,ϝ hyes]
        refine⟨O,O,O,O,?_⟩;intro w1 hr1;refine(Z1aw w1 rv r (idxR r e.client) (hr1.at_ 5 rfl) hlt).mono ?_;rintro q w2 ⟨rv',rfl,g1,g2,g3⟩;rw[show r.take (idxR r e.client)++r.drop (idxR r e.client+1)=T.2 by rw[hT2]]at g1;refine⟨[.v rv',.r (T.2.map Z2j)],rfl,rfl,g3.mono λk hk=>.inl (by simpa[Zn,Zq]using hk),qy5 _,qy2.2 ⟨⟨g1,λk hk=>?_⟩,qy5 _⟩,Z2,?_⟩
        . rcases g2 k hk with h|h
          . exact .inr (.inr (Z14 (i:=10) (qy8 ..) h))
          . exact .inl h
        clear g1 g2 g3 hr1;simp only[QR,ra,gR0,gR1];intro w1 hr1;refine(Z1ck w1 (r.getD (idxR r e.client) rstD).2 e.bytes (by rw[hT2]at tk3;simp only at tk3;omega)).mono ?_;rw[show(r.getD (idxR r e.client) rstD).2++e.bytes=T.1++e.bytes by rw[hT2],<- hF];rintro q w2 ⟨lv,l,rfl,hlF,m1,rX,pX,fX,fP⟩;refine⟨[.v lv,.r (l.map Z8w),.s F.2.1,.i F.2.2,.a (Za l)],rfl,rfl,m1,qy5 _,qy2.2 ⟨⟨rX,λk hk=>.inl (fX k hk.2)⟩,qy2.2 ⟨⟨pX,λk hk=>.inl (fP k hk)⟩,qy5 _⟩⟩,Z50 (by simp[Ent.wr]),?_⟩;clear m1 rX pX fX fP hr1;simp only[QR,ra,gR0,gR1];refine⟨Za l,λw hr=>hr.at_ 1 rfl,λj hj=>(qE 1 rfl rfl hj),?_⟩;exact⟨l,lv,rv',by rw[hT2],hlF⟩
    rintro _ - ⟨l,lv,rv',rfl,hlF⟩;simp only[QR,ra];refine⟨Z3 x.sx x.ox,λw hr=>hr.at_ 9 rfl,λj hj=>(qE 9 rfl rfl hj),?_⟩;have hll:l.length=F.1.length:=by rw[<- hlF,qy3]
    have hpo:∀i,i<=l.length->BOk (Zgf e.client (F.1.take i) x.tel)/\(Zgf e.client (F.1.take i) x.tel).out.length<=x.ox.length+200*i:=λi hi=>by
      have h1:=Zbr hcb (F.1.take i) hb λp hp=>fk1 p (Ϩ hp);have h2:x.tel.out.length=x.ox.length:=by simp[TelX.tel]
      rw[h2,ϗ,Nat.min_eq_left O]at h1;exact h1
    refine⟨λvs=>∃(i:Nat) (y:TelX),vs=[.i i,.a (Z3 y.sx y.ox),.v y.kv,.r (y.kept.map encK),.v y.wv,.r (y.wants.map encK),.v y.sv,.r (y.sx.map Ze),.v y.av,.r (y.wat.map Z4),.i y.next,.v rv',.r (T.2.map Z2j),.v y.ov,.r (y.ox.map Zp)]/\i<=l.length/\y.tel=Zgf e.client (F.1.take i) x.tel/\∀j,wlF y j->w.heap.size<=j\/wlG x rv j,
      λvs=>l.length - (vs.getD 0 (.i 0)).toI.toNat,⟨0,x,rfl,Nat.zero_le _,rfl,λj hj=>.inr (.inl hj)⟩,?_⟩
    rintro _ - ⟨i,y,rfl,hi,hty,hwy⟩;obtain⟨hby,hlo⟩:=hpo i hi;rw[<- hty]at hby hlo;have hyl:y.tel.out.length=y.ox.length:=by simp[TelX.tel]
    rw[hyl]at hlo;have hby0:BOk y.bare.tel:=hby.out [];have hsy:=SmlT.of hby0;simp only[QR,ra];refine⟨λh1=>?_,λh1=>?_⟩
    . have hi':i<l.length:=O
      have hrow:=Z1cj hi';have hmm:l.getD i xD∈l:=by rw[qy1,qy7 hi'];exact ϸ hi'
      have hpi:F.1.getD i (l.getD i xD).1=(l.getD i xD).1:=by rw[<- hlF,qy1,List.getElem?_map,qy1,qy7 hi'];rfl
      have hps:=Zni (c:=e.client) (l:=F.1) (i:=i) O (l.getD i xD).1 x.tel;rw[hpi,<- hty]at hps;have hpc:chkP (l.getD i xD).1=0:=fk1 _ (by rw[<- hlF];exact ϳ hmm);simp only[hrow,Z8w,ϕ,ϖ,Value.gI,Value.gB,Value.gS,Zv];generalize hgt:l.getD i xD=tp at hpi hmm hps hpc⊢
      obtain⟨p,va,vc⟩:=tp;simp only at hpi hps hpc⊢;have hpe:pktE e.client p y.bare.tel=0:=Z1j1 hby0 hcb hpc;refine⟨O,λb55=>?_⟩;refine⟨λvs=>∃(z:TelX) (b:Nat),vs=brV z 0++[.n b]/\z.tel=Zx e.client p y.bare.tel/\∀j,wlF z j->w.heap.size<=j,⟨?_,?_⟩,?_⟩
      . intro w3 hr3;have hpk:=Zbd (hr3.at_ 2 rfl:(Za l).holds w3) hmm;have hq:=Zsz w3 y.bare e.client p va vc (Z1co ⟨hr3.at_ 6 rfl,hr3.at_ 7 rfl,hr3.at_ 8 rfl,Z2k (y:=y) (hr3.at_ 1 rfl),hr3.at_ 9 rfl⟩ hpk.1 hpk.2) rfl hsy.b hsy.f hcl (Zgj hpc);rw[hpe,Zt6]at hq;refine(Zyg hr3 56 hq rfl).mono ?_;rintro q w4 ⟨z,tz,hd,rfl,m1,m3,m4⟩;refine⟨brV z 0,rfl,rfl,m1,qy5 _,m3,m4,?_⟩;intro b;exact⟨z,b,rfl,tz,Zl4 hd hr3.mod.size⟩
      . intro b w3 hr3;have hpk:=Zbd (hr3.at_ 3 rfl:(Za l).holds w3) hmm;have hq:=Zsz w3 y.bare e.client p va vc (Z1co ⟨hr3.at_ 7 rfl,hr3.at_ 8 rfl,hr3.at_ 9 rfl,Z2k (y:=y) (hr3.at_ 2 rfl),hr3.at_ 10 rfl⟩ hpk.1 hpk.2) rfl hsy.b hsy.f hcl (Zgj hpc);rw[hpe,Zt6]at hq;refine(Zyg hr3 57 hq rfl).mono ?_;rintro q w4 ⟨z,tz,hd,rfl,m1,m3,m4⟩;exact⟨brV z 0,rfl,rfl,m1,qy5 _,m3,m4,z,b,rfl,tz,Zl4 hd hr3.mod.size⟩
      rintro _ - ⟨z,b,rfl,tz,hnew⟩;have hzl:z.ox.length<=200:=by
        have e1:z.tel.out.length=(Zx e.client p y.bare.tel).out.length:=by rw[tz]
        have e2:z.tel.out.length=z.ox.length:=by simp[TelX.tel]
        have e3:y.bare.tel.out.length=0:=rfl;have:=(Zbq hby0 hcb hpc).2;omega
      simp only[QR,ra];refine⟨by(first|omega|(simp only[qy11,qy3,ϑ,ϓ];omega)),λv70=>⟨O,O,?_⟩⟩;refine⟨Z3 z.sx (y.ox++z.ox),λw hr=>Zq8 (hr.at_ 7 rfl) (hr.at_ 9 rfl),λj hj=>?_,⟨i+1,{ z with ox:=y.ox++z.ox,ov:=v70 },by rw[<- ϒ];rfl,O,?_,λj hj=>?_⟩,?_⟩
      . rcases Zl5 (l:=y.sx) hj with h|h
        . exact(qE 7 rfl rfl h)
        . exact(qE 9 rfl rfl h)
      . rw[hps,Zvf y z v70 (Zsf e.client p) tz]
      . rcases Zve hj with h|h
        . exact .inl (hnew j h)
        . exact hwy j h
      . omega
    . obtain rfl:i=l.length:=O
      rw[hll,Ϙ]at hty;have hgo:=Za0 hby0 e.client;refine⟨λvs=>∃z:TelX,vs=[.i 0,.i 0,.i 0,.i 0,.i 0,.i 0,.i 0,.i 0,.i 0,.i 0,.i 0,.v z.kv,.v z.wv,.v z.sv,.v z.av,.i z.next,.r (z.kept.map encK),.r (z.wants.map encK),.r (z.sx.map Ze),.r (z.wat.map Z4),.a (Z3 z.sx z.ox)]/\z.ox=y.ox/\z.ov=y.ov/\z.tel=(if ¬F.2.2=0 then Z4i e.client y.tel else y.tel)/\∀j,wlF z j->w.heap.size<=j\/wlG x rv j,⟨λh2=>?_,λh2=>?_⟩,?_⟩
      . intro w3 hr3;have hge:gonE e.client y.bare.tel=0:=Z1j2 hby0 hcb;have hq:=Z1g4 w3 y.bare e.client (Z1iz ⟨hr3.at_ 5 rfl,hr3.at_ 6 rfl,hr3.at_ 7 rfl,Z2k (y:=y) (hr3.at_ 0 rfl),hr3.at_ 8 rfl⟩) rfl hsy.b hsy.f hcl;rw[hge,Zt6]at hq;refine(Z1iy hr3 55 hq rfl).mono ?_;rintro q w4 ⟨z,tz,hzo,hd,rfl,m1,m3,m4⟩;refine⟨gnV z 0,rfl,rfl,m1,qy5 _,m3,m4,?_⟩;refine⟨Z3 z.sx y.ox,λw hr=>?_,λj hj=>?_,{ z with ox:=y.ox,ov:=y.ov },rfl,rfl,rfl,?_,λj hj=>?_⟩
        . have:=Zq8 (a:=y.ox) (b:=z.ox) (hr.at_ 4 rfl:(Z3 z.sx z.ox).holds w) (hr.at_ 5 rfl:(Z3 y.sx y.ox).holds w);rw[hzo,ϔ]at this;exact this
        . have h:(Z3 z.sx (y.ox++z.ox)).fp j:=by rw[hzo,ϔ];exact hj
          rcases Zl5 (l:=y.sx) h with h|h
          . exact(qE 4 rfl rfl h)
          . exact(qE 5 rfl rfl h)
        . rw[ϝ h2,<- Zvf y z y.ov (Znb e.client) tz,hzo,ϔ]
        . have h:wlF { z with ox:=y.ox++z.ox,ov:=y.ov } j:=by rw[hzo,ϔ];exact hj
          rcases Zve h with h|h
          . exact .inl (Zl4 hd hr3.mod.size j h)
          . exact hwy j h
      . refine⟨Z3 y.sx y.ox,λw hr=>hr.at_ 0 rfl,λj hj=>(qE 0 rfl rfl hj),y,rfl,rfl,rfl,by rw[ϛ h2],hwy⟩
      rintro _ - ⟨z,rfl,hzo,hzv,htz,hwz⟩;rw[<- hty];simp only[QR,ra];have hoz:y.ox=z.ox:=hzo.symm;have hvz:y.ov=z.ov:=hzv.symm;refine⟨λh2 w3 hr3=>⟨O6,?_⟩,λh2=>?_⟩
      . rw[Zc3,ϝ h2];exact Zv7 (y:=z) (r':=T.2) (rv':=rv') (by rw[htz]) ((hr3.pick [1,2,3,4,8,14,0,16] U).conv (by rw[hoz,hvz];rfl)) hwz
      . have hsT:=tk1.sort;refine⟨λvs=>vs=[.i (idxR T.2 e.client),.i 0,.i 0,.i 0,.b (hasR T.2 e.client)],?_,?_⟩
        . refine⟨λvs=>∃i j:Nat,vs=[.i i,.i j]/\invR T.2 e.client i j,λvs=>(vs.getD 1 (.i 0)).toI.toNat - (vs.getD 0 (.i 0)).toI.toNat,⟨0,_,rfl,Z1cm _ _⟩,?_⟩;rintro _ - ⟨i,j,rfl,hv⟩;obtain⟨hv1,hv2⟩:i<=j/\j<=T.2.length:=⟨hv.1,hv.2.1⟩;simp only[QR,ra,gR0];refine⟨λh1=>?_,λh1=>?_⟩;(· rw[half i j O];obtain⟨h,hh⟩:∃h,h=(i+j) / 2:=⟨_,rfl⟩;rw[<- hh];have hh1:i<=h/\h<j:=O;simp only[qy4,gR0];refine⟨O,O,O,O,O,O,λb=>?_⟩;refine⟨[.i (Z2x (T.2.getD h rstD).1 e.client)],rfl,λ_ w' _=>Z29 w' _ _,?_⟩;simp only[QR,ra,gR0];rw[Z6k];exact⟨λh2=>⟨O,O,⟨h+1,j,rfl,Z15t hsT hv hh1.2 h2⟩,O⟩,λh2=>⟨⟨i,h,rfl,Z15u hsT hv hh1.1 hh1.2 h2⟩,O⟩⟩);(· obtain rfl:i=j:=O;have hix:=Zyc hv;refine⟨λh2=>⟨O,λb=>?_⟩,λh2=>?_⟩;(· refine⟨[.i (Z2x (T.2.getD i rstD).1 e.client)],rfl,λ_ w' _=>Z29 w' _ _,?_⟩;simp only[QR,ra,gR0];rw[Zyh hix O,<- hix]);(· rw[<- Z16h hix O,<- hix]))
        rintro _ - rfl;have hile:idxR T.2 e.client<=T.2.length:=ϥ ..;simp only[QR,ra,gR0];intro v81 w3 hr3;refine(Z1av w3 rv' v81 T.2 (e.client,F.2.1) (idxR T.2 e.client) (hr3.at_ 9 rfl) (hr3.at_ 0 rfl) (λj h1 h2=>hr3.sep.disj (i:=0) (j:=9) rfl rfl U (.inl rfl) h2 h1) hile O).mono ?_;rintro q w4 ⟨v',rfl,g1,g2,g3⟩;rw[show T.2.take (idxR T.2 e.client)++[(e.client,F.2.1)]++T.2.drop (idxR T.2 e.client)=Zc3 T.2 e.client F.2.1 by rw[Zc3,ϛ h2]]at g1;refine⟨[.v v',.r ((Zc3 T.2 e.client F.2.1).map Z2j)],rfl,rfl,g3.mono λk hk=>.inl (Ϧ _ (Z14 (i:=51) (qy8 ..) (Ϝ.1 hk))),qy5 _,qy2.2 ⟨⟨g1,λk hk=>?_⟩,qy5 _⟩,Z2,?_⟩
        . rcases g2 k hk with h|h
          . exact .inr (.inr (Z14 (i:=51) (qy8 ..) h))
          . exact .inl h
        clear g1 g2 g3 hr3;intro w5 hr5;refine⟨O6,Zv7 (y:=z) (r':=Zc3 T.2 e.client F.2.1) (rv':=v') (by rw[htz]) ((hr5.pick [2,3,4,5,0,14,1,16] U).conv (by rw[hoz,hvz];rfl)) hwz⟩
def stpE(t:Tel)(r:List Ky)(e:Evt):Int:=if ¬chkB t=0 then chkB t else if ¬chkR r=0 then chkR r else Z47 e
def evsE:List Evt->Int
 | []=>0
 | e::l=>if ¬Z47 e=0 then Z47 e else evsE l
def runE(t:Tel)(l:List Evt):Int:=if ¬chkB t=0 then chkB t else if 60<(l.length:Int)then 2 else evsE l
def resW(f:Int)(x:Tel×List Ky):Tel×List Ky:=if f=0 then x else(telN,[])
def Zvg:∀{l:List Evt},evsE l=0↔∀e∈l,Z47 e=0
 | []=>by simp[evsE]
 | e::l=>by
  rw[evsE];by_cases h:Z47 e=0
  ·rw[ϛ (qy9.2 h),Zvg];exact⟨λh2 x hx=>(Ϡ.1 hx).elim (λe=>by rw[e];exact h) (h2 x),λh2 x hx=>h2 x (qy10 _ hx)⟩
  ·rw[ϝ h];exact⟨λh2=>ϟ h2 h,λh2=>h2 e (qy8 ..)⟩
def Z1j3(l:List Evt)(i:Nat)(h:i<l.length):l.drop i=l.getD i evD::l.drop (i+1):=by rw[List.drop_eq_getElem_cons h,qy1,qy7 h];rfl
def Z16i{l:List Evt}(h:i<l.length):evsE (l.drop i)=if ¬Z47 (l.getD i evD)=0 then Z47 (l.getD i evD)else evsE (l.drop (i+1)):=by rw[Z1j3 l i h,evsE]
def Z16j{t:Tel}{r:List Ky}{e:Evt}(h:BOk t)(hr:ROk r):stpE t r e=Z47 e:=by rw[stpE,ϛ (qy9.2 (Z35.2 h)),ϛ (qy9.2 (Zep.2 hr))]
def Z16k{t:Tel}{r:List Ky}{e:Evt}(h:stpE t r e=0):BOk t/\ROk r/\Z47 e=0:=by
 unfold stpE at h;split at h
 ·exact ϟ h O5
 rename_i h1;split at h
 ·exact ϟ h O5
 rename_i h2;exact⟨Z35.1 (qy9.1 h1),Zep.1 (qy9.1 h2),h⟩
abbrev runF(l:List Evt)(x:Tel×List Ky):Tel×List Ky:=runW feed dec l x
abbrev Z1b1(l:List Evt)(x:Tel×List Ky):List (List Snt):=Zsi feed dec l x
def Z1gc(l:List Evt){x:Tel×List Ky}(he:∀e∈l,Z47 e=0)(h:BOk x.1)(hr:ROk x.2):BOk (runF l x).1/\ROk (runF l x).2 :=
 Z15d (Zps) (λs=>Zf2) l he h hr
def Zyi:∀(l:List Evt) (x:Tel×List Ky),(runF l x).2.length<=x.2.length+l.length
 | [],x=>γ _
 | e::l,x=>by
  have h1:=Zyi l (oneW feed dec x e);have h2:(oneW feed dec x e).2.length<=x.2.length+1:=Zsv e ({ x.1 with out:=[] },x.2)
  show(runF l (oneW feed dec x e)).2.length<=_
  rw[ϑ];omega
def Z1gd{t:Tel}{l:List Evt}(h:runE t l=0):BOk t/\l.length<=60/\∀e∈l,Z47 e=0:=by
 unfold runE at h;split at h
 ·exact ϟ h O5
 rename_i h1;split at h
 ·exact ϟ h U
 rename_i h2;exact⟨Z35.1 (qy9.1 h1),O,Zvg.1 h⟩
abbrev annC:By:=[97,110,110]
abbrev ev1:Evt:=⟨annC,0,[50,9,0,3]⟩
abbrev ev2:Evt:=⟨annC,0,[97,47,98,0,10,104,105]⟩
def Zgk:chkB smT=0:=O9
def Zq9:SmlT smT:=.of (Z35.1 Zgk)
def Z1ge:feed [50,9,0,3]=([],[50,9,0,3],0):=O9
def Z1gf:feed ([50,9,0,3]++[97,47,98,0,10,104,105])=([pubP],[],0):=O9
def beg1(t:Tel):Z5v ev1 (t,[])=(t,[(annC,[50,9,0,3])]):=by
 have k0:takW [] annC=([],[]):=by simp[takW,hasR]
 show Zar feed dec ev1 (t,[])=_
 rw[Zar,ϛ U,Z88];simp only[k0,ϱ,Z1ge];rfl
def beg2(t:Tel):Z5v ev2 (t,[(annC,[50,9,0,3])])=(Zx annC pubP t,[]):=by
 have k0:takW [(annC,[50,9,0,3])] annC=([50,9,0,3],[]):=O9
 show Zar feed dec ev2 (t,[(annC,[50,9,0,3])])=_
 rw[Zar,ϛ U,Z88];simp only;rfl
def Z1gg:(Zx annC pubP smT).out.length=3:=O9
def Zt7:Z47 ev1=0/\Z47 ev2=0/\chkR [(annC,[50,9,0,3])]=0:=O9
abbrev evV(e:Evt):Ϛ:=.agg #[.string ⟨e.client.toArray⟩,.int .i64 e.peer,.string ⟨e.bytes.toArray⟩]
def Zig(t:Tel)(r:List Ky)(e:Evt):stpE t r e=if ¬(if ¬chkB t=0 then chkB t else chkR r)=0 then(if ¬chkB t=0 then chkB t else chkR r)else Z47 e:=by
 unfold stpE;by_cases h1:chkB t=0
 ·rw[ϛ (qy9.2 h1),ϛ (qy9.2 h1)]
 ·rw[ϝ h1,ϝ h1,ϝ h1]
def Z16l{rw:Ϛ}(h:∀j,wlG z rw j->n<=j)(h1:reads w z.kv kK (z.kept.map encK))(h2:reads w z.wv kK (z.wants.map encK))(h3:reads w z.sv kSx (z.sx.map Ze))(h4:reads w z.av kW_K (z.wat.map Z4))(h5:reads w z.ov kSn (z.ox.map Zp))(h6:(Z3 z.sx z.ox).holds w):RdB n w z :=
 ⟨h1,h2,h3,h4,h5,h6,λj a b=>h j (.inl (.inl ⟨a,b⟩)),λj a b=>h j (.inl (.inr (.inl ⟨a,b⟩))),λj a b=>h j (.inl (.inr (.inr (.inl ⟨a,b⟩)))),λj a b=>h j (.inl (.inr (.inr (.inr (.inl ⟨a,b⟩))))),λj _ b=>h j (.inr (.inr b)),λj a=>h j (.inl (.inr (.inr (.inr (.inr a)))))⟩
variable{x:TelX}
def Zyj{rv:Ϛ}(ho:∀j,¬Z1 x.ov j)(h1:∀j,Z1 x.kv j->n<=j)(h2:∀j,Z1 x.wv j->n<=j)(h3:∀j,Z1 x.sv j->n<=j)(h4:∀j,Z1 x.av j->n<=j)(h5:∀j,(Z3 x.sx x.ox).fp j->n<=j)(h6:∀j,Z1 rv j->n<=j):∀j,wlG x rv j->n<=j:=λj hj=>by
 rcases hj with(hj|hj|hj|hj|hj)|hj|hj
 ·exact h1 j hj.2
 ·exact h2 j hj.2
 ·exact h3 j hj.2
 ·exact h4 j hj.2
 ·exact h5 j hj
 ·exact h6 j hj
 ·exact ϟ hj (ho j)
def Z4t(j:Nat):¬Z1 (.slice Ϲ 0 0) j:=λh=>by cases h
def Z16m(w:Ϫ)(x:TelX)(rv:Ϛ)(r:List Ky)(e:Evt)(hx:RdX w x)(hr:Zgy w rv r)(ho:x.ox=[])(hs:SmlT x.tel)(hrs:∀a∈r,a.1.length<1099511627776)(hrl:r.length<1000000)(hc:e.client.length<1099511627776)(hl:e.bytes.length<=30000000): Ϭ ϙ 4 #[bkV x,sc1 rv,evV e] w λq w'=>Zq7 w w' q (stpE x.tel r e) (resW (stpE x.tel r e) (Z5v e (x.tel,r))):=by
 have hr0:Rel ⟨[],w⟩ (bkA x++[.v rv,.r (r.map Z2j),.s e.client,.i e.peer,.s e.bytes]) (bkH++[.rd 10 kR (.var 11)]) w:=Rel.start2 (qy2.2 ⟨⟨hx.kept,rfl⟩,qy2.2 ⟨⟨hx.want,rfl⟩,qy2.2 ⟨⟨hx.sess,rfl⟩,qy2.2 ⟨⟨hx.nest,rfl⟩,qy2.2 ⟨⟨hx.wat,rfl⟩,qy2.2 ⟨⟨hr,rfl⟩,qy5 _⟩⟩⟩⟩⟩⟩);refine Wu Zl0 hr0 ?_;simp only[QR,ra];intro b15 b16 b17;refine⟨[.i (chkB x.tel)],rfl,λ_ w' hr=>Z8y w' x (RdX.rel ⟨hr.at_ 5 rfl,hr.at_ 6 rfl,hr.at_ 7 rfl,hr.at_ 8 rfl,hr.at_ 9 rfl⟩) ho hs.b,?_⟩;simp only[QR,ra];rw[Zig];obtain⟨n1,hn1⟩:∃n1,n1=if ¬chkB x.tel=0 then chkB x.tel else chkR r:=⟨_,rfl⟩
 rw[<- hn1];refine⟨λvs=>vs=[.i n1],⟨λh=>?_,λh=>?_⟩,?_⟩
 ·refine⟨[.i (chkR r)],rfl,λ_ w' hr=>Z1g7 w' rv r (hr.at_ 10 rfl) hrs O,?_⟩;simp only[QR,ra];rw[hn1,ϛ (qy9.2 h)]
 ·rw[hn1,ϝ h]
 rintro _ - rfl;simp only[QR,ra];obtain⟨n2,hn2⟩:∃n2,n2=if ¬n1=0 then n1 else Z47 e:=⟨_,rfl⟩
 rw[<- hn2];refine⟨λvs=>vs=[.i n2],⟨λh=>?_,λh=>?_⟩,?_⟩
 ·refine⟨[.i (Z47 e)],rfl,λ_ w' hr=>Z167 w' e hc,?_⟩;simp only[QR,ra];rw[hn2,ϛ (qy9.2 h)]
 ·rw[hn2,ϝ h]
 rintro _ - rfl;simp only[QR,ra];refine⟨λh w3 hr3=>?_,λh=>?_⟩
 ·exact⟨Zlu,[],.slice Ϲ 0 0,rfl,by rw[resW,ϛ h];rfl,Zq2 _ _,Z6 _ _,λj h=>ϟ rfl h,hr3.mod⟩
 have h:n2=0:=qy9.1 h;obtain⟨hB,hR,hE⟩:=Z16k (e:=e) (by rw[Zig,<- hn1,<- hn2,h]);rw[h,resW,ϝ rfl];clear hn1 hn2 h;intro w1 hr1;refine(Zsy hr1 23 (Z15z w1 x (RdX.rel ⟨hr1.at_ 5 rfl,hr1.at_ 6 rfl,hr1.at_ 7 rfl,hr1.at_ 8 rfl,hr1.at_ 9 rfl⟩) hs.b.keptL hs.b.wantsL hs.b.watL hs.b.sessL hs.f) rfl).mono ?_;rintro q w2 ⟨⟨yk,yw,ys,ya,yn,yo,v1,v2,v3,v4,v5⟩,y1,y2,yf,rfl,m1,m3,m4⟩;simp only at y1;subst y1;refine⟨owA ⟨yk,yw,ys,ya,yn,[],v1,v2,v3,v4,v5⟩,rfl,rfl,m1,qy5 _,m3,m4,?_⟩;have hz1:=hr1.mod.size;clear m1 m3 m4;have hyt:TelX.tel (⟨yk,yw,ys,ya,yn,[],v1,v2,v3,v4,.slice Ϲ 0 0⟩:TelX)=x.tel:=by rw[show TelX.tel (⟨yk,yw,ys,ya,yn,[],v1,v2,v3,v4,.slice Ϲ 0 0⟩:TelX)=TelX.tel ⟨yk,yw,ys,ya,yn,[],v1,v2,v3,v4,v5⟩ from rfl,y2];simp only[TelX.tel,ho,Ϥ]
 intro w3 hr3;refine(Z1au w3 rv r (hr3.at_ 15 rfl) O).mono ?_;rintro q w4 ⟨rv',rfl,g1,g2,gm⟩;refine⟨[.v rv',.r (r.map Z2j)],rfl,rfl,gm,qy5 _,qy2.2 ⟨⟨g1,λk hk=>.inl (g2 k hk)⟩,qy5 _⟩,Z2,?_⟩;clear g1 g2 gm hr3;intro b35 w5 hr5;have hz5:=hr5.mod.size;have hc5:=Z1cq w5 b35 (⟨yk,yw,ys,ya,yn,[],v1,v2,v3,v4,.slice Ϲ 0 0⟩:TelX) r rv' e ((((Zq6 (Z1kf (hr5.pick [4,5,2,3,1,6,0] U)) (by rfl) 130 kSn).pick [3,4,1,2,5,0,6,7] U).conv rfl).base.conv rfl) (by rw[hyt];exact hB) hR hE hrl (show 0<10000000000 by decide) hl;rw[hyt]at hc5;have nb:∀j,wlG (⟨yk,yw,ys,ya,yn,[],v1,v2,v3,v4,.slice Ϲ 0 0⟩:TelX) rv' j->w.heap.size<=j:=Zyj Z4t (λj h=>ϐ hz1 (yf.1 j h)) (λj h=>ϐ hz1 (yf.2.1 j h)) (Z2v hr5 4 rfl) (Z2v hr5 5 rfl) (λj h=>ϐ hz1 (yf.2.2 j h)) (Z2v hr5 1 rfl);refine(Z1it hr5 36 35 [27,29,33] hc5 rfl rfl (by show 35<36;decide) (λj hj=>?_) (λj hj=>?_)).mono ?_
 ·rcases hj with hj|hj
  ·exact Z14 (i:=33) O1 hj
  ·exact ϟ hj (Z4t j)
 ·rcases hj with hj|hj|hj|hj|hj
  ·exact .inl (qE 2 rfl rfl hj)
  ·exact .inl (qE 3 rfl rfl hj)
  ·exact .inr (Z14 (i:=27) (by simp) hj.2)
  ·exact .inr (Z14 (i:=29) (by simp) hj.2)
  ·exact .inl (qE 6 rfl rfl hj)
 rintro q w6 ⟨z,r',rw',hz,hsz,hg,rfl,m1,m2,m3,m4⟩;refine⟨wlV z r' rw',rfl,rfl,m1,m2,m3,m4,?_⟩;clear m1 m2 m3 m4 hc5;intro w7 hr7;have hn:∀j,wlG z rw' j->w.heap.size<=j:=λj hj=>(hg j hj).elim (λh=>ϐ hz5 h) (nb j);exact⟨z,r',rw',rfl,hz,Z16l hn (hr7.at_ 0 rfl) (hr7.at_ 1 rfl) (hr7.at_ 2 rfl) (hr7.at_ 3 rfl) (hr7.at_ 5 rfl:owns _ _ _ _ _).reads (hr7.at_ 6 rfl),(hr7.at_ 4 rfl:owns _ _ _ _ _).reads,λj _ h=>hn j (.inr (.inl h)),hr7.mod⟩
def Zt8(w:Ϫ)(v:Ϛ)(l:List Ky)(hv:Zgy w v l)(hs:∀r∈l,r.1.length<1099511627776)(hl:l.length<1000000000): Ϭ ϙ 6 #[sc1 v] w λe w'=>e=.returned (.int .i64 (chkR l))/\Mod [] w w':=by
 refine Wr (J:=[.v v,.r (l.map Z2j)]) Z6v ?_;simp only[QR,ra,gR0,gR1];refine⟨λvs=>∃(i:Nat) (x:V),vs=[x,.i i]/\i<=l.length/\Zlq (prvR l i) (l.drop i)=chkR l,λvs=>l.length - (vs.getD 1 (.i 0)).toI.toNat,⟨0,_,rfl,O,rfl⟩,?_⟩;rintro _ - ⟨i,x,rfl,hi,hg⟩;simp only[QR,ra,gR0,gR1];have hi1:((i:Int) - 1).toNat=i - 1:=O
 try rw[hi1]
 refine⟨λh1=>⟨O,?_⟩,λh1 w' hr=>⟨?_,hr.mod⟩⟩
 ·have hi':i<l.length:=O
  rw[Znc hi']at hg;refine⟨[.b (Z9 (l.getD i rstD).1)],rfl,λ_ w' hr=>Z4y w' _ (hs _ (memR hi')),?_⟩;simp only[QR,ra,gR0,gR1];try rw[hi1]
  refine⟨λh2 w' hr=>⟨?_,hr.mod⟩,λh2=>⟨λh3 w' hr=>⟨?_,hr.mod⟩,λh3=>⟨O,O,O,O,[.b (Z5 (l.getD (i - 1) rstD).1 (l.getD i rstD).1)],rfl,λh4 w' hr=>Z1q w' _ _ (hs _ (memR O)),?_⟩⟩⟩
  ·rw[ϝ h2]at hg;rw[<- hg]
  ·rw[ϛ h2,ϝ h3]at hg;rw[<- hg]
  have h7:(0<(i:Int)/\¬Z5 (l.getD (i - 1) rstD).1 (l.getD i rstD).1=ϰ)↔(0<(i:Int)/\(Z5 (l.getD i rstD).1 (l.getD (i - 1) rstD).1=ϰ\/(l.getD i rstD).1=(l.getD (i - 1) rstD).1)):=by
   refine and_congr_right λ_=>⟨λh=>Z15.1 (Bool.eq_false_iff.2 h),λh g=>?_⟩
   rcases h with h|h
   ·rw[Z1h g]at h;cases h
   ·rw[h,Zs]at g;cases g
  rw[ϛ h2,ϛ h3]at hg;simp only[QR,ra,gR0,gR1];rw[h7];refine⟨λh6 w' hr=>⟨?_,hr.mod⟩,λh6=>⟨O,O,⟨i+1,x,rfl,O,?_⟩,O⟩⟩
  ·rw[ϝ h6]at hg;rw[<- hg]
  ·rw[ϛ h6]at hg;exact hg
 ·have:i=l.length:=O
  subst this;rw[List.drop_length]at hg;rw[<- hg];rfl
def Zt9(w:Ϫ)(e:Evt)(hc:e.client.length<1099511627776): Ϭ ϙ 7 #[evV e] w λr w'=>r=.returned (.int .i64 (Z47 e))/\Mod [] w w':=by
 refine Wp (J:=[.s e.client,.i e.peer,.s e.bytes]) Z6w ?_;simp only[QR];intro b;unfold Z47;refine⟨λh0=>⟨λh1 w' hr=>⟨?_,hr.mod⟩,λh1 w' hr=>⟨?_,hr.mod⟩⟩,λh0=>⟨[.b (Z9 e.client)],rfl,λ_ w' hr=>Z4y w' _ hc,?_⟩⟩
 ·rw[ϛ (λh=>h.1 h0),ϝ (.inl ⟨h0,h1⟩)]
 ·rw[ϛ (λh=>h.1 h0),ϛ (λh=>h.elim (λh=>h1 h.2) λh=>h.1 h0)]
 simp only[QR,ra];refine⟨λh1 w' hr=>⟨?_,hr.mod⟩,λh1=>⟨λh2 w' hr=>⟨?_,hr.mod⟩,λh2 w' hr=>⟨?_,hr.mod⟩⟩⟩
 ·rw[ϝ ⟨h0,h1⟩]
 ·rw[ϛ (λh=>h1 h.2),ϝ (.inr ⟨h0,h2⟩)]
 ·rw[ϛ (λh=>h1 h.2),ϛ (λh=>h.elim (λh=>h0 h.1) λh=>h2 h.2)]
def Zl6(w:Ϫ)(u v:Ϛ)(a b:List Ky)(hu:Zgy w u a)(hv:Zgy w v b)(hl:a.length<1000000000): Ϭ ϙ 11 #[sc1 u,sc1 v] w λe w'=>e=.returned (.bool (decide (a=b)))/\Mod [] w w':=by
 refine Wr (J:=[.v u,.r (a.map Z2j),.v v,.r (b.map Z2j)]) Z7f ?_;simp only[QR,ra,gR0,gR1];refine⟨λh w' hr=>⟨?_,hr.mod⟩,λh=>?_⟩
 ·rw[decide_eq_false λe=>h (by rw[e])]
 have h:a.length=b.length:=O
 refine⟨λvs=>∃(i:Nat) (x:V),vs=[x,.i i]/\i<=a.length/\∀j,j<i->a.getD j rstD=b.getD j rstD,λvs=>a.length - (vs.getD 1 (.i 0)).toI.toNat,⟨0,_,rfl,O,λj hj=>O⟩,?_⟩;rintro _ - ⟨i,x,rfl,hi,hall⟩;simp only[QR,ra,gR0,gR1];refine⟨λh1=>⟨O,O,λh2 w' hr=>⟨?_,hr.mod⟩,λh2=>⟨O,O,⟨i+1,x,rfl,O,λj hj=>?_⟩,O⟩⟩,λh1 w' hr=>⟨?_,hr.mod⟩⟩
 ·rw[decide_eq_false λe=>h2 (by rw[e];exact⟨rfl,rfl⟩)]
 ·by_cases hji:j=i
  ·rw[hji];exact Prod.ext (qy9.1 h2).1 (qy9.1 h2).2
  ·exact hall j O
 ·rw[decide_eq_true (List.ext_getElem h λj h3 h4=>?_)];have:=hall j O;rwa [qy1,qy1,qy7 h3,qy7 h4]at this
def dlSF(x:TelX)(j:Nat):Prop:=(x.sx.map Ze).flatten≠[]/\Z1 x.sv j
def dlWF(x:TelX)(j:Nat):Prop:=(x.wat.map Z4).flatten≠[]/\Z1 x.av j
def dlF(x:TelX)(j:Nat):Prop:=Zkn x j\/Zat x j\/dlSF x j\/dlWF x j\/(Z3 x.sx x.ox).fp j
abbrev dlH:List Ent:=[.rd 1 kK (.var 2),.rd 3 kK (.var 4),.rd 5 kSx (.var 6),.rd 7 kW_K (.var 8),.row 10 130 kSn (.var 11),.st 12,.cells 0 39 [.val (.var 1),.val (.var 3),.val (.var 5),.val (.var 7),.int .i64 (.var 9),.val (.var 10)]]
def dlG(x:TelX)(j:Nat):Prop:=dlF x j\/Z1 x.ov j
def GrwD(n:Nat)(F:Nat->Prop)(x y:TelX):Prop:=∀j,dlG y j->n<=j\/dlG x j\/F j
def GrwD.refl(n:Nat)(F:Nat->Prop)(x:TelX):GrwD n F x x:=λ_ h=>.inr (.inl h)
def GrwD.trans{F G:Nat->Prop}(h:GrwD n F x y)(h':GrwD m G y z)(hm:n<=m)(hG:∀j,G j->n<=j\/dlG x j\/F j):GrwD n F x z:=λj hj=>by
 rcases h' j hj with h1|h1|h1
 ·exact .inl (ϐ hm h1)
 ·exact h j h1
 ·exact hG j h1
def Zh3(w w':Ϫ)(k:Nat)(x:TelX)(F:Nat->Prop)(t:Tel):Prop:=∃y:TelX,y.tel=t/\Rel ⟨Zh (tlA k x) dlH,w⟩ (tlA k y) dlH w'/\GrwD w.heap.size F x y
def Z1b2(h:j∈Zh (tlA k x) dlH):j∈k::(x.ov.ownBlock.toList++[]):=by
 simp only[Zh,dlH,tlA,List.flatMap_cons,List.flatMap_nil,Ent.fpl,ϕ,ϖ,V.toV_v,V.toN_n,ϔ,ϱ,qy13,qy12,Ϡ]at h⊢;rcases h with h|h
 ·exact .inr h
 ·exact .inl (by simpa using h)
variable{J:List V}{hp:List Ent}
def Z8z{w1:Ϫ}(h:Rel ⟨Zh (tlA k x) dlH,w⟩ J hp w1)(i c:Nat){v ty:Nat}{ks:List Kd}{r:X}(h0:hp[i]?=δ (.row v ty ks r)){e:Ent}(hc:hp[c]?=δ e)(hi:i≠c)(h1:e.fp J k):∀j,Z1 (J.getD v (.i 0)).toV j->w.heap.size<=j\/Z1 x.ov j:=λj hj=>by
 rcases h.own _ (qy6 h0) rfl j hj with g|g
 ·exact .inl g
 ·rcases Ϡ.1 (Z1b2 g)with g|g
  ·exact ϟ (show e.fp J j by rw[g];exact h1) λhf=>h.sep.disj h0 hc hi (.inl rfl) hj hf
  ·rw[ϔ]at g;exact .inr (Ϝ.1 g)
def Zd9{w':Ϫ}{F:Nat->Prop}{t:Tel}(ht:y.tel=t)(hr:Rel ⟨Zh (tlA k x) dlH,w⟩ (tlA k y) dlH w')(hg:∀j,dlF y j->w.heap.size<=j\/dlG x j\/F j):Zh3 w w' k x F t :=
 ⟨y,ht,hr,λj hj=>by
  rcases hj with hj|hj
  ·exact hg j hj
  ·rcases Z8z hr 4 6 rfl rfl U rfl j hj with h|h
   ·exact .inl h
   ·exact .inr (.inl (.inr h))⟩
def Zqa{gone:List Nat}{v:Nat}(hv:v∈gone)(h:Z1 (J.getD v (.i 0)).toV j):j∈Zq J gone :=
 List.mem_flatMap.2 ⟨v,hv,Ϝ.2 h⟩
variable{B:Base}
def Zl7(h:Rel B J hp w)(hb:hp.all (Ent.bd J.length)=ϰ)(k:Nat)(y:TelX)(hA:(Z3 y.sx y.ox).holds w)(hf:∀j,(Z3 y.sx y.ox).fp j->∃e∈hp,e.wr=ϣ/\e.fp J j)(is:List Nat)(hn:is.Nodup)(hs:(is.filterMap λi=>(Ent.st J.length::hp)[i]?).map (Ent.sem (J++[.a (Z3 y.sx y.ox)]))=dlH.map (Ent.sem (tlA k y))):Rel B (tlA k y) dlH w :=
 ((h.gather hb _ hA hf).pick is hn).conv hs
abbrev dlEs(n:Nat):List Ent:=[.rd n kK (.var (n+1)),.rd (n+2) kK (.var (n+3)),.rd (n+4) kSx (.var (n+5)),.rd (n+6) kW_K (.var (n+7)),.row (n+9) 130 kSn (.var (n+10)),.st (n+11)]
abbrev dlMs(vk n:Nat):List Ent:=[.cells vk 39 [.val (.var n),.val (.var (n+2)),.val (.var (n+4)),.val (.var (n+6)),.int .i64 (.var (n+8)),.val (.var (n+9))]]
variable{pre:List V}
def Z1j4{vk:Nat}(hn:J.length+pre.length=n)(hk:J.getD vk (.i 0)=.n k)(hv:vk<J.length):dlH.map (Ent.sem (tlA k y))=(dlEs n++dlMs vk n).map (Ent.sem (J++(pre++tlV y))):=by
 have g:=Z14s (y:=y) hn;have g0:(J++(pre++tlV y)).getD n (.i 0)=.v y.kv:=g 0;have hk':(J++(pre++tlV y)).getD vk (.i 0)=.n k:=by rw[<- hk,qy1,qy1,ϫ hv]
 simp only[dlH,dlEs,dlMs,List.cons_append,ϱ,ϧ,Ϥ,Ent.sem,Ent.holds,Ent.fp,Ent.wr,X.ev,Sc.ev,g0,g 1,g 2,g 3,g 4,g 5,g 6,g 7,g 8,g 9,g 10,g 11,hk'];rfl
def Z1cr{w1:Ϫ}{F:Nat->Prop}(h0:Rel B J hp w)(n vk:Nat)(gone:List Nat)(hq:Rel ⟨Zh (tlA k x) dlH,w⟩ (tlA k y) dlH w1)(hg:GrwD w.heap.size F x y)(hn:J.length+pre.length=n)(hk:J.getD vk (.i 0)=.n k)(hv:vk<J.length)(hov:∀j,Z1 x.ov j->j∈Zq J gone)(hO:∀j,(dlF x j\/F j)->(∃y∈hp,y.wr=ϣ/\y.fp J j)\/j∈Zq J gone): Mod (Zn J [vk] gone) w w1/\(∀x∈dlMs vk n,x.holds (J++(pre++tlV y)) w1) /\ (∀x∈dlEs n,x.holds (J++(pre++tlV y)) w1/\∀k,x.fp (J++(pre++tlV y)) k->w.heap.size<=k\/(x.wr=ϣ/\∃y∈hp,y.wr=ϣ/\y.fp J k)\/k∈Zq J gone)/\Zt (J++(pre++tlV y)) (dlEs n):=by
 have hs:=Z1j4 (y:=y) hn hk hv;have hq':Rel ⟨Zn J [vk] gone,w⟩ (J++(pre++tlV y)) (dlEs n++dlMs vk n) w1:=Zko (hq.conv hs) rfl λj hj=>by
  show j∈Zn J [vk] gone
  rcases Ϡ.1 (Z1b2 hj)with g|g
  ·exact Ϟ _ (qy12.2 (by rw[g];show k=(J.getD vk (.i 0)).toN;rw[hk];rfl))
  ·rw[ϔ]at g;exact Ϧ _ (hov j (Ϝ.1 g))
 refine⟨hq'.mod,λx hx=>hq'.holds x (Ϧ _ hx),λx hx=>⟨hq'.holds x (Ϟ _ hx),λj hj=>?_⟩,(ϲ.1 hq'.sep).1⟩;cases hw:x.wr with
 | false =>
  have h1:Ent.sem (J++(pre++tlV y)) x∈dlH.map (Ent.sem (tlA k y)):=by rw[hs];exact ϳ (Ϟ _ hx)
  obtain⟨e',he',hee⟩:=ϩ.1 h1;have hw':e'.wr=ϣ:=(congrArg SEnt.wr hee).trans hw;have hj':e'.fp (tlA k y) j:=(congrFun (congrArg SEnt.fp hee) j).mpr hj;have fin:w.heap.size<=j\/(∃y∈hp,y.wr=ϣ/\y.fp J j)\/j∈Zq J gone:=by
   have h2:dlF y j:=by
    simp only[dlH,Ϡ,List.not_mem_nil,or_false]at he';rcases he' with rfl|rfl|rfl|rfl|rfl|rfl|rfl
    ·exact .inl hj'
    ·exact .inr (.inl hj')
    ·exact .inr (.inr (.inl hj'))
    ·exact .inr (.inr (.inr (.inl hj')))
    ·cases hw'
    ·exact .inr (.inr (.inr (.inr hj')))
    ·cases hw'
   rcases hg j (.inl h2)with h|(h|h)|h
   ·exact .inl h
   ·exact .inr (hO j (.inl h))
   ·exact .inr (.inr (hov j h))
   ·exact .inr (hO j (.inr h))
  rcases fin with h|h|h
  ·exact .inl h
  ·exact .inr (.inl ⟨rfl,h⟩)
  ·exact .inr (.inr h)
 | true =>
  rcases hq'.own x (Ϟ _ hx) hw j hj with h5|h5
  ·exact .inl h5
  ·simp only[Zn,ϧ,Ϥ,qy13,qy12]at h5;rcases h5 with h5|h5
   ·exfalso;refine(ϲ.1 hq'.sep).2.2 x hx _ (qy12.2 rfl) (.inl hw) _ hj ?_;rw[h5];simp only[Ent.fp];rw[qy1 (l:=J++_),ϫ hv,<- qy1]
   ·exact .inr (.inr h5)
def Z1j5{P:Program}{f:Nat}{args:Array Ϛ}{F:Nat->Prop}{R:TelX->Prop}{v:Ϛ}(h0:Rel B J hp w)(n vk:Nat)(gone:List Nat)(h:Ϭ P f args w λe w1=>e=.returned v/\∃y:TelX,R y/\Rel ⟨Zh (tlA k x) dlH,w⟩ (tlA k y) dlH w1/\GrwD w.heap.size F x y)(hn:J.length+pre.length=n)(hk:J.getD vk (.i 0)=.n k)(hv:vk<J.length)(hov:∀j,Z1 x.ov j->j∈Zq J gone)(hO:∀j,(dlF x j\/F j)->(∃y∈hp,y.wr=ϣ/\y.fp J j)\/j∈Zq J gone): Ϭ P f args w λe w1=>∃y:TelX,R y/\w.heap.size<=w1.heap.size/\GrwD w.heap.size F x y/\e=.returned v/\Mod (Zn J [vk] gone) w w1/\(∀x∈dlMs vk n,x.holds (J++(pre++tlV y)) w1) /\ (∀x∈dlEs n,x.holds (J++(pre++tlV y)) w1/\∀k,x.fp (J++(pre++tlV y)) k->w.heap.size<=k\/(x.wr=ϣ/\∃y∈hp,y.wr=ϣ/\y.fp J k)\/k∈Zq J gone)/\Zt (J++(pre++tlV y)) (dlEs n) :=
 h.mono λ_ _ ⟨he,y,hT,hq,hg⟩=>⟨y,hT,hq.mod.size,hg,he,Z1cr h0 n vk gone hq hg hn hk hv hov hO⟩
def Z90{P:Program}{f:Nat}{args:Array Ϛ}{F:Nat->Prop}{R:TelX->Prop}{v:Ϛ}(h0:Rel B J hp w)(n vk:Nat)(gone:List Nat)(h:Ϭ P f args w λe w1=>e=.returned v/\∃y:TelX,R y/\Rel ⟨Zh (tlA k x) dlH,w⟩ (tlA k y) dlH w1/\GrwD w.heap.size F x y)(hn:J.length+pre.length=n)(hk:J.getD vk (.i 0)=.n k)(hv:vk<J.length)(vo:Nat)(hvo:vo∈gone)(hov:(J.getD vo (.i 0)).toV=x.ov)(hO:∀j,(dlF x j\/F j)->(∃y∈hp,y.wr=ϣ/\y.fp J j)\/j∈Zq J gone): Ϭ P f args w λe w1=>∃y:TelX,R y/\w.heap.size<=w1.heap.size/\GrwD w.heap.size F x y/\e=.returned v/\Mod (Zn J [vk] gone) w w1/\(∀x∈dlMs vk n,x.holds (J++(pre++tlV y)) w1) /\ (∀x∈dlEs n,x.holds (J++(pre++tlV y)) w1/\∀k,x.fp (J++(pre++tlV y)) k->w.heap.size<=k\/(x.wr=ϣ/\∃y∈hp,y.wr=ϣ/\y.fp J k)\/k∈Zq J gone)/\Zt (J++(pre++tlV y)) (dlEs n) :=
 Z1j5 h0 n vk gone h hn hk hv (λ_ hj=>Zqa hvo (by rw[hov];exact hj)) hO
def Z10p(h:Rel B J hp w)(hb:hp.all (Ent.bd J.length)=ϰ)(k:Nat)(x:TelX)(Jx:List V)(hx:List Ent)(hA:(Z3 x.sx x.ox).holds w)(hf:∀j,(Z3 x.sx x.ox).fp j->∃e∈hp,e.wr=ϣ/\e.fp J j)(is:List Nat)(hn:is.Nodup)(hfp:Zh (tlA k x++Jx) (dlH++hx)=Zh (tlA k x) dlH)(hs:(is.filterMap λi=>(Ent.st J.length::hp)[i]?).map (Ent.sem (J++[.a (Z3 x.sx x.ox)]))=(dlH++hx).map (Ent.sem (tlA k x++Jx))):Rel ⟨Zh (tlA k x) dlH,w⟩ (tlA k x++Jx) (dlH++hx) w:=by have h3:=(((h.gather hb _ hA hf).pick is hn).conv hs).base;rw[hfp]at h3;exact h3
def Zce(h:Rel B J hp w)(hb:hp.all (Ent.bd J.length)=ϰ)(k:Nat)(x:TelX)(A':Asrt)(Jx:List V)(hx:List Ent)(hA:(Z3 x.sx x.ox).holds w)(hf:∀j,(Z3 x.sx x.ox).fp j->∃e∈hp,e.wr=ϣ/\e.fp J j)(hA':A'.holds w)(hf':∀j,A'.fp j->∃e∈hp,e.wr=ϣ/\e.fp J j)(is:List Nat)(hn:is.Nodup)(hfp:Zh (tlA k x++Jx) (dlH++hx)=Zh (tlA k x) dlH)(hs:(is.filterMap λi=>(Ent.st (J++[V.a (Z3 x.sx x.ox)]).length::Ent.st J.length::hp)[i]?).map (Ent.sem (J++[.a (Z3 x.sx x.ox)]++[.a A']))=(dlH++hx).map (Ent.sem (tlA k x++Jx))): Rel ⟨Zh (tlA k x) dlH,w⟩ (tlA k x++Jx) (dlH++hx) w:=by
 have h1:=h.gather hb _ hA hf;have hb1:(Ent.st J.length::hp).all (Ent.bd (J++[V.a (Z3 x.sx x.ox)]).length)=ϰ:=by rw[List.all_cons,Ϸ];refine⟨by simp[Ent.bd],Ϯ.2 λe he=>Ent.bd_mono O1 e (Ϯ.1 hb e he)⟩
 have ha:Z18 J.length J (J++[V.a (Z3 x.sx x.ox)]):=Z18.app _ _;have h2:=h1.gather hb1 A' hA' λj hj=>by obtain⟨e,he,hw,hef⟩:=hf' j hj;exact⟨e,qy10 _ he,hw,(Ent.fp_bd ha e (Ϯ.1 hb e he) j).1 hef⟩
 have h3:=((h2.pick is hn).conv hs).base;rw[hfp]at h3;exact h3
def Zvh(w:Ϫ)(k:Nat)(x:TelX)(c:By)(lv:Ϛ)(l:List Z39)(hr:Rel ⟨Zh (tlA k x) dlH,w⟩ (tlA k x++pkA c lv l) (dlH++pkH) w)(hl:l.length<1000000)(ho:x.ox.length<40000000000): Ϭ ϙ 85 #[.pointer (δ ⟨k,0,Ϲ⟩),.string ⟨c.toArray⟩,sc1 lv] w λe w'=>e=.returned (.tuple #[])/\∃ov':Ϛ,Rel ⟨Zh (tlA k x) dlH,w⟩ (tlA k { x with ox:=x.ox++l.map (Zkq c),ov:=ov' }) dlH w':=by
 refine Wu Z5a hr ?_;simp only[QR,ra];refine⟨λvs=>∃(i:Nat) (u:Ϛ),vs=[.i i,.v x.kv,.r (x.kept.map encK),.v x.wv,.r (x.wants.map encK),.v x.sv,.r (x.sx.map Ze),.v x.av,.r (x.wat.map Z4),.i x.next,.v u,.r ((x.ox++(l.take i).map (Zkq c)).map Zp)]/\i<=l.length,λvs=>l.length - (vs.getD 0 (.i 0)).toI.toNat,⟨0,x.ov,O1,O⟩,?_⟩;rintro _ - ⟨i,u,rfl,hi⟩;simp only[QR,ra];refine⟨λh1=>?_,λh1 w' hr=>?_⟩
 ·have hrow:=Z1c7 (l:=l) (i:=i) O;simp only[hrow,Z2y,ϕ,ϖ,Value.gI,Value.gB,Value.gS];refine⟨O,λv=>⟨by simp only[qy11,qy3,ϗ];omega,λv1=>⟨O,O,⟨i+1,v1,?_,O⟩,O⟩⟩⟩;rw[Z1i1 l i O,Zv,Zv];simp only[ϒ,ϭ];rfl
 ·have:i=l.length:=O
  subst this;rw[Ϙ]at hr;refine⟨O6,u,?_⟩;refine Zl7 hr (by rfl) k { x with ox:=x.ox++l.map (Zkq c),ov:=u } ?_ ?_ [1,2,3,4,5,0,7] U rfl
  ·refine Z10 (l:=x.sx) (o:=x.ox) (λt ht=>.inl ht) (λt ht=>?_) (hr.at_ 5 rfl);rcases qy13.1 ht with ht|ht
   ·exact .inl ht
   ·obtain⟨p,hp,rfl⟩:=ϩ.1 ht;have:=Zbd (hr.at_ 8 rfl:(Za l).holds w') hp;exact .inr ⟨this.1,this.2,Z6 _ _⟩
  ·intro j hj;rcases Z7.1 hj with⟨t,ht,hj⟩|⟨t,ht,hj⟩
   ·exact⟨_,qy6 (i:=5) rfl,rfl,Z7.2 (.inl ⟨t,ht,hj⟩)⟩
   ·rcases qy13.1 ht with ht|ht
    ·exact⟨_,qy6 (i:=5) rfl,rfl,Z7.2 (.inr ⟨t,ht,hj⟩)⟩
    ·obtain⟨p,hp,rfl⟩:=ϩ.1 ht;exact⟨_,qy6 (i:=8) rfl,rfl,Zet hp (Zpg hj)⟩
def Z30(w:Ϫ)(k:Nat)(x:TelX)(c:By)(lv:Ϛ)(l:List Z39)(hr:Rel ⟨Zh (tlA k x) dlH,w⟩ (tlA k x++pkA c lv l) (dlH++pkH) w)(hl:l.length<1000000)(ho:x.ox.length<40000000000): Ϭ ϙ 85 #[.pointer (δ ⟨k,0,Ϲ⟩),.string ⟨c.toArray⟩,sc1 lv] w λe w'=>e=.returned (.tuple #[])/\Zh3 w w' k x (Za l).fp { x.tel with out:=x.tel.out++l.map λt=>toC c t.1 }:=by
 refine(Zvh w k x c lv l hr hl ho).mono ?_;rintro e w' ⟨rfl,ov',hr'⟩;refine⟨rfl,Zd9 ?_ hr' λj hj=>?_⟩
 ·simp[TelX.tel,Zkq,Function.comp_def]
 ·rcases hj with hj|hj|hj|hj|hj
  ·exact .inr (.inl (.inl (.inl hj)))
  ·exact .inr (.inl (.inl (.inr (.inl hj))))
  ·exact .inr (.inl (.inl (.inr (.inr (.inl hj)))))
  ·exact .inr (.inl (.inl (.inr (.inr (.inr (.inl hj))))))
  rcases Z7.1 hj with h1|⟨t,ht,hk⟩
  ·exact .inr (.inl (.inl (.inr (.inr (.inr (.inr (Z7.2 (.inl h1))))))))
  ·rcases qy13.1 ht with ht|ht
   ·exact .inr (.inl (.inl (.inr (.inr (.inr (.inr (Z7.2 (.inr ⟨t,ht,hk⟩))))))))
   ·obtain⟨p,hp,rfl⟩:=ϩ.1 ht;exact .inr (.inr (Zet hp (Zpg hk)))
def Zvi(w:Ϫ)(k:Nat)(x:TelX)(n p:By)(hr:Rel ⟨Zh (tlA k x) dlH,w⟩ (tlA k x++[.s n,.s p]) dlH w)(hb:BOk x.tel)(hsm:Zb5 x.kept)(hn:n.length<4294967281)(ho:x.ox.length<30000000000): Ϭ ϙ 77 #[.pointer (δ ⟨k,0,Ϲ⟩),.string ⟨n.toArray⟩,.string ⟨p.toArray⟩] w λe w'=>e=.returned (.bool (Z13 n p x.tel).2)/\Zh3 w w' k x (λ_=>False) (Z13 n p x.tel).1:=by
 refine Wu Z7i hr ?_;simp only[QR,ra,Z36,Z37,Z1s,gW3];intro w1 hr1;refine(Z1f8 w1 x.kv x.kept n p (hr1.at_ 0 rfl) hb.kept hsm hn).mono ?_;rintro e w2 ⟨u,rfl,a1,f1,m1⟩;refine⟨[.v u,.r ((rawK x.kept n p).1.map encK),.i (rawK x.kept n p).2],rfl,rfl,m1,qy5 _,qy2.2 ⟨⟨a1,λk hk=>.inl (f1 k hk.2)⟩,qy5 _⟩,Z2,?_⟩;have f2:∀j,Z1 u j->w.heap.size<=j:=λj hj=>ϐ hr1.mod.size (f1 j hj);clear a1 f1 m1 hr1 hr;obtain⟨K,hK⟩:∃K,K=(rawK x.kept n p).1:=⟨_,rfl⟩
 simp only[QR,ra,Z36,Z37,Z1s,gW3,<- hK];refine⟨λh1 w3 hr=>?_,λh1=>⟨λh2 w3 hr=>?_,λh2=>?_⟩⟩
 ·have e:Z13 n p x.tel=(x.tel,ϣ):=by rw[Z13,ϝ (show ¬(rawK x.tel.kept n p).2=0 from h1)]
  rw[e];exact⟨rfl,x,rfl,(hr.pick [1,2,3,4,5,6,7] U).conv rfl,.refl _ _ _⟩
 ·have e:Z13 n p x.tel=({ x.tel with kept:=K },ϰ):=by rw[Z13,ϛ (show ¬¬(rawK x.tel.kept n p).2=0 from h1),ϝ h2,hK];rfl
  rw[e];refine⟨rfl,Zd9 (y:={ x with kept:=K,kv:=u }) rfl ((hr.pick [0,2,3,4,5,6,7] U).conv rfl) λj hj=>?_⟩;rcases hj with hj|hj
  ·exact .inl (f2 j hj.2)
  ·exact .inr (.inl (.inl (.inr hj)))
 ·have h2:=qy9.1 h2;obtain⟨T0,hT0⟩:∃T0:Tel,T0=⟨K,x.wants,x.sx.map (·.1),x.wat,x.next,x.ox.map (·.1)⟩:=⟨_,rfl⟩
  have q0:T0.next=x.next:=by rw[hT0]
  have q1:T0.out=x.tel.out:=by rw[hT0];rfl
  have q2:0<=T0.next/\T0.next<=65535:=by rw[q0];exact hb.next
  have q3:T0.kept=K/\T0.wants=x.wants/\T0.sess=x.sx.map (·.1):=by rw[hT0];exact⟨rfl,rfl,rfl⟩
  have e:Z13 n p x.tel=({ Z2u n x.wat x.wat.length T0 with wat:=x.wat.filter λw=>!ofT n w },ϰ):=by rw[Z13,ϛ (show ¬¬(rawK x.tel.kept n p).2=0 from h1),ϛ (qy9.2 h2),Z2u,Ϙ,hT0,hK];rfl
  rw[e];have hw12:x.wat.length<=12:=(Z17.1 hb.wat).1;have hnx:∀i,0<=(Z2u n x.wat i T0).next/\(Z2u n x.wat i T0).next<=65535:=λi=>(Zgx _ T0 q2).2.2.2.2.1;have hol:∀i,(Z2u n x.wat i T0).out.length<=x.ox.length+12:=λi=>by
   have h3:=(Zgx ((x.wat.take i).filter (ofT n)) T0 q2).2.2.2.2.2;have h4:((x.wat.take i).filter (ofT n)).length<=(x.wat.take i).length:=ϥ _ _;have h5:(x.wat.take i).length<=x.wat.length:=O3
   have h6:x.tel.out.length=x.ox.length:=by simp[TelX.tel]
   unfold Z2u;rw[h3,q1,h6];omega
  refine⟨λvs=>∃(i:Nat) (u1 u':Ϛ) (add:List Snt),vs=[.v u1,.r (((x.wat.take i).filter λw=>!ofT n w).map Z4),.i i,.v x.wv,.r (x.wants.map encK),.v x.sv,.r (x.sx.map Ze),.v x.av,.r (x.wat.map Z4),.i (Z2u n x.wat i T0).next,.v u',.r ((x.ox++add.map nilX).map Zp)]/\i<=x.wat.length/\(Z2u n x.wat i T0).out=x.tel.out++add/\∀s∈add,nilS s,
   λvs=>(x.wat.length - (vs.getD 2 (.i 0)).toI).toNat,⟨0,_,x.ov,[],by simp[Z2u,q0];rfl,O,by simp[Z2u,q1],O1⟩,?_⟩
  rintro _ - ⟨i,u1,u',add,rfl,hi,hT,hnil⟩;simp only[QR,ra,Z36,Z37,Z1s,gW3];have hnxi:=hnx i;have hadd:add.length<=12:=by have:=hol i;rw[hT,qy11,show x.tel.out.length=x.ox.length by simp[TelX.tel]]at this;omega
  have hlf:((x.wat.take i).filter λw=>!ofT n w).length<=12:=ϐ (ϥ _ _) (by rw[ϗ];omega);refine⟨λh3=>⟨by omega,λb3=>⟨λh4=>?_,λh4=>?_⟩⟩,λh3 w3 hr=>?_⟩
  ·have hst:=Zbt (n:=n) T0 (show i<x.wat.length by omega);rw[ϛ h4]at hst;have h5:ofT n (x.wat.getD i wD_K)=ϣ:=decide_eq_false h4;refine λv4=>⟨by first|omega|(simp only[qy11,qy3,ϑ,ϓ];omega),λv5=>⟨by omega,by omega,⟨i+1,v5,u',add,?_,by omega,by rw[hst];exact hT,hnil⟩,by omega⟩⟩
   rw[hst,Z64 wD_K _ x.wat i (by omega),ϝ (by rw[h5];rfl),ϒ (f:=Z4)];rfl
  ·have h4:=qy9.1 h4;have hst:=Zbt (n:=n) T0 (show i<x.wat.length by omega);rw[ϝ h4]at hst;have h5:ofT n (x.wat.getD i wD_K)=ϰ:=decide_eq_true h4;have hfin:∀v:Ϛ,∃(i':Nat) (u1' u'':Ϛ) (add':List Snt),[V.v u1,.r (((x.wat.take i).filter λw=>!ofT n w).map Z4),.i (i+1),.v x.wv,.r (x.wants.map encK),.v x.sv,.r (x.sx.map Ze),.v x.av,.r (x.wat.map Z4),.i (((Z2u n x.wat i T0).next+1) % 65536),.v v,.r ((x.ox++add.map nilX).map Zp++[Zp (nilX (toP (x.wat.getD i wD_K).1 ⟨1,132,(Z2u n x.wat i T0).next,(x.wat.getD i wD_K).2.1,[],[]⟩))])] =
     [.v u1',.r (((x.wat.take i').filter λw=>!ofT n w).map Z4),.i i',.v x.wv,.r (x.wants.map encK),.v x.sv,.r (x.sx.map Ze),.v x.av,.r (x.wat.map Z4),.i (Z2u n x.wat i' T0).next,.v u'',.r ((x.ox++add'.map nilX).map Zp)]/\i'<=x.wat.length/\(Z2u n x.wat i' T0).out=x.tel.out++add'/\∀s∈add',nilS s:=λv=>by
    refine⟨i+1,u1,v,add++[toP (x.wat.getD i wD_K).1 ⟨1,132,(Z2u n x.wat i T0).next,(x.wat.getD i wD_K).2.1,[],[]⟩],?_,by omega,?_,?_⟩
    ·rw[hst,Z64 wD_K _ x.wat i (by omega),ϛ (by rw[h5];decide),ϔ];simp only[ϒ,ϭ,ϧ,Ϥ];rfl
    ·rw[hst];show(Z2u n x.wat i T0).out++_=_;rw[hT,ϭ]
    ·intro s hs;rcases qy13.1 hs with hs|hs
     ·exact hnil s hs
     ·rw[qy12.1 hs];exact⟨rfl,rfl,rfl⟩
   repeat' (first|exact hfin _|omega|(intro _)|(refine⟨?_,?_⟩)|(simp only[qy11,qy3,ϑ,ϓ];omega))
  ·have hil:i=x.wat.length:=by omega
   subst hil;rw[Ϙ]at hr;have hnw:=Z8z hr 0 8 rfl rfl (by decide) rfl;obtain⟨r1,r2⟩:=Zbs (l:=x.sx) (o:=x.ox) hnil;have hTs:=Zgx ((x.wat.take x.wat.length).filter (ofT n)) T0 q2;refine⟨by trivial,Zd9 (y:=⟨K,x.wants,x.sx,x.wat.filter (λw=>!ofT n w),(Z2u n x.wat x.wat.length T0).next,x.ox++add.map nilX,u,x.wv,x.sv,u1,u'⟩) ?_ (Zl7 (toRd hr) (by rfl) k _ (r1 w3 (hr.at_ 7 rfl)) (λj hj=>(qE 7 rfl rfl (r2 j hj))) [2,4,5,1,7,0,9] (by decide) rfl) λj hj=>?_⟩
   ·have e4:(x.ox++add.map nilX).map (·.1)=(Z2u n x.wat x.wat.length T0).out:=by rw[hT];simp[TelX.tel,nilX,Function.comp_def]
    have e1:(Z2u n x.wat x.wat.length T0).kept=K:=hTs.1.trans q3.1;have e2:(Z2u n x.wat x.wat.length T0).wants=x.wants:=hTs.2.1.trans q3.2.1;have e3:(Z2u n x.wat x.wat.length T0).sess=x.sx.map (·.1):=hTs.2.2.1.trans q3.2.2;simp only[TelX.tel,e4];generalize Z2u n x.wat x.wat.length T0=T at e1 e2 e3⊢
    cases T;simp only at e1 e2 e3⊢;rw[e1,e2,e3]
   ·rcases hj with hj|hj|hj|hj|hj
    ·exact .inl (f2 j hj.2)
    ·exact .inr (.inl (.inl (.inr (.inl hj))))
    ·exact .inr (.inl (.inl (.inr (.inr (.inl hj)))))
    ·rcases hnw j hj.2 with h|h
     ·exact .inl h
     ·exact .inr (.inl (.inr h))
    ·exact .inr (.inl (.inl (.inr (.inr (.inr (.inr (r2 j hj)))))))
def Z16n{s:Ses}{n p:By}{q:Int}(h:s.qu.length<=6)(hq:q=0\/q=1):Z32 s n p q=Zop s n p q:=by
 unfold Z32 Zop;rcases hq with rfl|rfl
 ·by_cases h1:s.on=ϰ
  ·simp[h1]
  ·simp[h1]
 ·by_cases h1:s.on=ϰ<;>by_cases h2:s.clean=ϰ<;>simp[h1,h2]<;>split<;>(try rw[ϛ O])<;>(try rw[ϝ O])
def Zqb{sv':Ϛ}{t:SesX}(h:GrwD n (λ_=>False) x y)(hm:n<=m)(hs:∀j,Z1 sv' j->n<=j\/Z1 x.ov j)(ht:∀j,sesF t j->m<=j\/(Z3 y.sx y.ox).fp j):GrwD n (λ_=>False) x { y with sx:=y.sx.set i t,sv:=sv' }:=λj hj=>by
 rcases hj with(hj|hj|hj|hj|hj)|hj
 ·exact h j (.inl (.inl hj))
 ·exact h j (.inl (.inr (.inl hj)))
 ·rcases hs j hj.2 with h1|h1
  ·exact .inl h1
  ·exact .inr (.inl (.inr h1))
 ·exact h j (.inl (.inr (.inr (.inr (.inl hj)))))
 ·rcases Z2g hj with h1|h1
  ·exact h j (.inl (.inr (.inr (.inr (.inr h1)))))
  ·rcases ht j h1 with h2|h2
   ·exact .inl (ϐ hm h2)
   ·exact h j (.inl (.inr (.inr (.inr (.inr h2)))))
 ·exact h j (.inr hj)
def Z16o(w:Ϫ)(k:Nat)(x:TelX)(n p:By)(q:Int)(hr:Rel ⟨Zh (tlA k x) dlH,w⟩ (tlA k x++[.s n,.s p,.i q]) dlH w)(hb:BOk x.tel)(ho:x.ox.length<30000000000)(hsm:Z2d x.wants)(hp:flE (0,n,p)=0)(hq:0<=q/\q<=1): Ϭ ϙ 78 #[.pointer (δ ⟨k,0,Ϲ⟩),.string ⟨n.toArray⟩,.string ⟨p.toArray⟩,.int .i64 q] w λe w'=>e=.returned (.tuple #[])/\Zh3 w w' k x (λ_=>False) (Z6n n p q x.tel):=by
  refine Wu Z7h hr ?_;simp only[QR,ra,gY0,gY1];have hn60:n.length<=60:=by
    have h1:chkT n ϣ=0:=by
      unfold flE at hp;split at hp
      . assumption
      . exact ϟ hp O5
    exact(Z4r.1 h1).2.1.1
  have hw20:x.wants.length<=20:=Zel hb.wants;intro w1 hr1;refine(Zvb w1 x.wv x.wants n (hr1.at_ 1 rfl) hsm O O).mono ?_;rintro e w2 ⟨v0,rfl,a1,a2,am⟩;obtain⟨rs,hrs⟩:∃rs,rs=rdOf n x.wants:=⟨_,rfl⟩
  rw[<- hrs]at a1;have hrl:rs.length<=20:=by rw[hrs];exact Z14n n hb.wants
  have hrd:∀r∈rs,hasS x.tel.sess r.1=ϰ:=by rw[hrs];exact Z6o hb n
  refine⟨[.v v0,.r (rs.map encY)],rfl,rfl,am,qy5 _,qy2.2 ⟨⟨a1.reads,λk hk=>.inl (a2 k hk.2)⟩,qy5 _⟩,Z2,?_⟩;clear hr1 a1 a2 am hr;simp only[QR,ra,gY0,gY1];refine⟨Z3 x.sx x.ox,λw hr=>hr.at_ 6 rfl,λj hj=>(qE 6 rfl rfl hj),?_⟩;refine⟨λvs=>∃(i:Nat) (y:TelX),vs=[.i i,.a (Z3 y.sx y.ox),.v y.kv,.r (y.kept.map encK),.v y.wv,.r (y.wants.map encK),.v y.sv,.r (y.sx.map Ze),.v y.av,.r (y.wat.map Z4),.i y.next,.v y.ov,.r (y.ox.map Zp)]/\i<=rs.length/\y.tel=(rs.take i).foldl (Z1p n p q) x.tel/\GrwD w.heap.size (λ_=>False) x y,
    λvs=>(rs.length - (vs.getD 0 (.i 0)).toI).toNat,⟨0,x,rfl,O,rfl,.refl _ _ _⟩,?_⟩
  rintro _ - ⟨i,y,rfl,hi,htel,hg⟩;simp only[QR,ra,gY0,gY1];obtain⟨k1,k2,k3,k4,k5,k6,k7⟩:=Zba (q:=q) hp (rs.take i) hb (λr hr=>hrd r (Ϩ hr));rw[<- htel]at k1 k2 k3 k4 k5 k6 k7;have hol:y.ox.length<=x.ox.length+140:=by
    have h1:y.tel.out.length=y.ox.length:=by simp[TelX.tel]
    have h2:x.tel.out.length=x.ox.length:=by simp[TelX.tel]
    have h3:(rs.take i).length<=20:=O3
    omega
  have hns:y.sx.length<=6:=by have:=k1.ns;rw[Z28,qy3]at this;exact this
  refine⟨λh1=>?_,λh1=>?_⟩
  . have hi':i<rs.length:=O
    have hmem:rs.getD i yD∈rs:=memY rs i hi';have hh0:hasS y.tel.sess (rs.getD i yD).1=ϰ:=by rw[Zg6 hb.sort k2];exact hrd _ hmem
    obtain⟨hlt,hse⟩:=Zls hh0;have hok:SesOk (y.sx.getD (idxS y.tel.sess (rs.getD i yD).1) sxD).1:=by rw[hse];exact Zb9 k1 hh0
    have hqr:0<=(rs.getD i yD).2/\(rs.getD i yD).2<=1:=by obtain⟨z,hz,-,-,e⟩:=Zp7 hb.wants (by show rs.getD i yD∈rdOf n x.wants;rw[<- hrs];exact hmem);have:=(Zrr hb.wants z hz).2.2;omega
    refine⟨O,λvs=>vs=[.i (min q (rs.getD i yD).2)],⟨λh2=>?_,λh2=>?_⟩,?_⟩
    . show[V.i q]=_
      rw[Int.min_eq_left O]
    . show[V.i (rs.getD i yD).2]=_
      rw[Int.min_eq_right O]
    rintro _ - rfl;have hat:atS y.tel.sess (rs.getD i yD).1=(idxS y.tel.sess (rs.getD i yD).1:Int):=ϝ hh0;refine⟨[.i (idxS y.tel.sess (rs.getD i yD).1)],rfl,λ_ w' hr=>?_,?_⟩
    . have h2:=Z48 w' y.sv y.sx (rs.getD i yD).1 (hr.at_ 4 rfl) k1.sort O;rw[<- Z28,hat]at h2;simp only[QR,ra,gY0,gY1];exact h2
    generalize hix:idxS y.tel.sess (rs.getD i yD).1=ix at hlt hse hok
    simp only[QR,ra,gY0,gY1];have hrow:=Z57 hlt;simp only[hrow,Ze,ϕ,ϖ,Value.gI,Value.gB,Value.gS,Zv];generalize hss:y.sx.getD ix sxD=ss at hok hse
    obtain⟨s,s',s''⟩:=ss;simp only at hok hse⊢;obtain⟨S,hS⟩:∃S,S=Z32 s n p (min q (rs.getD i yD).2):=⟨_,rfl⟩
    have hSs:Zop s n p (min q (rs.getD i yD).2)=S:=by rw[hS];exact(Z16n hok.nq O).symm
    have hcl':S.1.cl=s.cl/\S.1.on=s.on/\S.1.clean=s.clean:=by rw[hS];exact⟨Zur _ _ _ _,(Zp9 _ _ _ _).1,(Zp9 _ _ _ _).2⟩
    have hS7:S.2.length<=7:=by rw[hS];exact Zg7 n p _ hok.nq
    have hT2:∀u1 u2 v:Ϛ,Z1p n p q y.tel (rs.getD i yD)={ (TelX.tel { y with sx:=y.sx.set ix (S.1,u1,u2),sv:=v })with out:=(TelX.tel { y with sx:=y.sx.set ix (S.1,u1,u2),sv:=v }).out++(S.2.map pkN).map λt=>toC (rs.getD i yD).1 t.1 }:=λu1 u2 v=>by rw[Zg9,Z1p,hix,<- hse,<- hS];simp only[TelX.tel,β]
    refine⟨O,O,?_⟩;intro w1 hr1;have hs0:=Zy (hr1.at_ 0 rfl:(Z3 y.sx y.ox).holds w1) (Z58 hlt);rw[hss]at hs0;obtain⟨hs1,hs2⟩:=hs0;refine(Zb (Z18t w1 s s' s'' n p (min q (rs.getD i yD).2) hs1 hs2 hok.next (by have:=hok.nf;omega) (by have:=hok.nq;omega)) rfl).mono ?_;rw[hSs];rintro e w2 ⟨u1,u2,u3,rfl,g1,g2,g3,g4,g5,g6,gm⟩;have hnm:∀j,sesF (s,s',s'') j->(Z3 y.sx y.ox).fp j:=λj hj=>Z7.2 (.inl ⟨_,Z58 hlt,by rw[hss];exact hj⟩);refine⟨[.s s.cl,.b s.on,.b s.clean,.v u1,.r (S.1.fl.map encF),.v u2,.r (S.1.qu.map encF),.i S.1.next,.v u3,.r ((S.2.map pkN).map Z2y)],rfl,?_,gm,qy5 _,qy2.2 ⟨⟨g1,λk hk=>(g4 k hk).elim .inl λh=>.inr (.inl ⟨rfl,_,qy6 (i:=0) rfl,rfl,hnm k h⟩)⟩,qy2.2 ⟨⟨g2,λk hk=>(g5 k hk).elim .inl λh=>.inr (.inl ⟨rfl,_,qy6 (i:=0) rfl,rfl,hnm k h⟩)⟩,qy2.2 ⟨⟨by show reads w2 u3 kP ((S.2.map pkN).map Z2y);rw[Z7o];exact g3,λk hk=>.inl (g6 k hk.2)⟩,qy5 _⟩⟩⟩,Z4k ..,?_⟩
    . simp only[QR,ra,sesV,hcl'.1,hcl'.2.1,hcl'.2.2]
    have hnw:w.heap.size<=w1.heap.size:=hr1.mod.size;clear hr1;simp only[QR,ra];refine λb44 b45 v46 o46=>⟨by(first|omega|(simp only[qy11,Ϣ,qy3,ϑ,ϓ];omega)),λv47 o47=>⟨by(first|omega|(simp only[qy11,Ϣ,qy3,ϑ,ϓ];omega)),?_⟩⟩
    intro w3 hr3;have hsz3:w.heap.size<=w3.heap.size:=hr3.mod.size;have hnew:=Z8z hr3 0 14 rfl rfl U rfl;have hA3:(Z3 (y.sx.set ix (S.1,u1,u2)) y.ox).holds w3:=Z5t (hr3.at_ 6 rfl) (hr3.at_ 3 rfl) (hr3.at_ 4 rfl);have hf3:∀j,(Z3 (y.sx.set ix (S.1,u1,u2)) y.ox).fp j->(Z3 y.sx y.ox).fp j\/((S.1.fl.map encF).flatten≠[]/\Z1 u1 j)\/((S.1.qu.map encF).flatten≠[]/\Z1 u2 j):=λj hj=>(Z2g hj).elim (λh=>.inl h) (λh=>.inr h);refine(Z90 (k:=k) (x:={ y with sx:=y.sx.set ix (S.1,u1,u2),sv:=v47 }) (F:=(Za (S.2.map pkN)).fp) (pre:=[]) hr3 48 0 [47,30]
      (Z30 w3 k { y with sx:=y.sx.set ix (S.1,u1,u2),sv:=v47 } (rs.getD i yD).1 u3 (S.2.map pkN) (Zce (toRd hr3) (by rfl) k { y with sx:=y.sx.set ix (S.1,u1,u2),sv:=v47 } (Za (S.2.map pkN)) _ _ hA3 (λj hj=>?_) (Z6p _ _) (λj hj=>ϟ hj Z3z) [10,11,2,13,14,1,16,7,0] U rfl (Zd rfl (Zd rfl (Zd (Zae rfl ?_) rfl)))) (by rw[qy3];omega) (by show y.ox.length<40000000000;omega))
      rfl rfl (Nat.succ_pos _) 30 U rfl (λj hj=>?_)).mono ?_
    . rcases hf3 j hj with h|h|h
      . exact(qE 6 rfl rfl h)
      . exact(qE 3 rfl rfl h)
      . exact(qE 4 rfl rfl h)
    . simp only[QR,ra];rw[<- Z2h];simp only[hcl'.1,hcl'.2.1,hcl'.2.2]
    . rcases hj with(hj|hj|hj|hj|hj)|hj
      . exact .inl (qE 8 rfl rfl hj)
      . exact .inl (qE 9 rfl rfl hj)
      . exact .inr (Zqa (v:=47) U hj.2)
      . exact .inl (qE 11 rfl rfl hj)
      . rcases hf3 j hj with h|h|h
        . exact .inl (qE 6 rfl rfl h)
        . exact .inl (qE 3 rfl rfl h)
        . exact .inl (qE 4 rfl rfl h)
      . exact ϟ hj Z3z
    rintro e w4 ⟨y2,hy2,hsz4,hgr,rfl,m1,m2,m3,m4⟩;refine⟨tlV y2,rfl,rfl,m1,m2,m3,m4,?_⟩;simp only[QR,ra];refine⟨O,O,Z3 y2.sx y2.ox,λw hr=>hr.at_ 5 rfl,λj hj=>(qE 5 rfl rfl hj),⟨i+1,y2,rfl,O,?_,?_⟩,O⟩
    . rw[hy2,<- hT2 u1 u2 v47,htel,Zga (f:=Z1p n p q) hi']
    . refine(Zqb hg hnw hnew (t:=(S.1,u1,u2)) λj hj=>?_).trans hgr hsz3 (λj h=>ϟ h Z3z);rcases hj with h|h
      . exact(g4 j h).imp id (hnm j)
      . exact(g5 j h).imp id (hnm j)
  . have hil:i=rs.length:=O
    subst hil;rw[Ϙ]at htel;have hT1:y.tel=Z7m n p q x.tel:=by rw[htel,hrs];rfl
    have hwn:=watN k1.wat;have hw12:y.wat.length<=12:=(Z17.1 k1.wat).1;intro w1 hr1;refine(Z18g w1 y.av y.wat n (hr1.at_ 5 rfl) O hwn).mono ?_;rintro e w2 ⟨v1,v2,rfl,g1,g2,g3,g4,gm⟩;have hnw:w.heap.size<=w1.heap.size:=hr1.mod.size;obtain⟨W,hW⟩:∃W,W=Z3j n y.wat:=⟨_,rfl⟩
    obtain⟨Z,hZ⟩:∃Z,Z=Z3x n y.wat:=⟨_,rfl⟩
    rw[<- hW]at g1;rw[<- hZ]at g2;refine⟨[.v v1,.r (W.map Z4),.v v2,.r (Z.map Z4)],rfl,rfl,gm,qy5 _,qy2.2 ⟨⟨g1.reads,λk hk=>.inl (g3 k hk.2)⟩,qy2.2 ⟨⟨g2.reads,λk hk=>.inl (g4 k hk.2)⟩,qy5 _⟩⟩,Zjh ..,?_⟩;have hZ12:Z.length<=12:=by rw[hZ];exact Zcz n k1.wat
    have hZn:∀z∈Z,0<=z.2.2.2/\z.2.2.2<=16777215:=λz hz=>by
      rw[hZ,Z3x]at hz;obtain⟨z0,hz0,rfl⟩:=ϩ.1 hz;have:=hwn z0 (List.mem_filter.1 hz0).1;unfold Z5o;split
      . show 0<=(if 16777215<z0.2.2.2+1 then 0 else z0.2.2.2+1)/\(if 16777215<z0.2.2.2+1 then 0 else z0.2.2.2+1)<=16777215
        split<;>omega
      . exact this
    have hv1:∀j,Z1 v1 j->w.heap.size<=j:=λj hj=>ϐ hnw (g3 j hj);clear hr1 g1 g2 g3 g4 gm;obtain⟨T0,hT0⟩:∃T0:Tel,T0=⟨y.kept,y.wants,y.sx.map (·.1),W,y.next,y.ox.map (·.1)⟩:=⟨_,rfl⟩
    have hTB:Z6n n p q x.tel=Z.foldl (Z4s p) T0:=by rw[Z6n,<- hT1,hZ,hT0,hW];rfl
    have hn0:0<=T0.next/\T0.next<=65535:=by rw[hT0];exact k1.next
    have hg0:GrwD w.heap.size (λ_=>False) x { y with wat:=W,av:=v1 }:=λj hj=>by
      rcases hj with(hj|hj|hj|hj|hj)|hj
      . exact hg j (.inl (.inl hj))
      . exact hg j (.inl (.inr (.inl hj)))
      . exact hg j (.inl (.inr (.inr (.inl hj))))
      . exact .inl (hv1 j hj.2)
      . exact hg j (.inl (.inr (.inr (.inr (.inr hj)))))
      . exact hg j (.inr hj)
    refine⟨Zgb (Z3 y.sx y.ox) (GrwD w.heap.size (λ_=>False) x { y with wat:=W,av:=v1 }),λw hr=>⟨hr.at_ 2 rfl,hg0⟩,λj hj=>(qE 2 rfl rfl hj),?_⟩;refine⟨λvs=>∃(i:Nat) (z:TelX),vs=[.i i,.a (Zgb (Z3 z.sx z.ox) (GrwD w.heap.size (λ_=>False) x z)),.v z.kv,.r (z.kept.map encK),.v z.wv,.r (z.wants.map encK),.v z.sv,.r (z.sx.map Ze),.v z.av,.r (z.wat.map Z4),.i z.next,.v z.ov,.r (z.ox.map Zp)]/\i<=Z.length/\z.tel=(Z.take i).foldl (Z4s p) T0,
      λvs=>(Z.length - (vs.getD 0 (.i 0)).toI).toNat,⟨0,{ y with wat:=W,av:=v1 },rfl,O,by rw[hT0];rfl⟩,?_⟩
    rintro _ - ⟨j,z,rfl,hj,hzt⟩;simp only[QR,ra,Z36,Z37,Z1s,gW3];obtain⟨q1,q2,q3,q4,q5,q6⟩:=Zxj p (Z.take j) T0 hn0;rw[<- hzt]at q1 q2 q3 q4 q5 q6;have hzl:z.ox.length<=x.ox.length+152:=by
      have h1:z.tel.out.length=z.ox.length:=by simp[TelX.tel]
      have h2:T0.out.length=y.ox.length:=by rw[hT0];simp
      have h3:(Z.take j).length<=12:=O3
      omega
    have hzn:0<=z.next/\z.next<=65535:=q5;refine⟨λh1=>?_,λh1 w3 hr=>⟨O6,?_⟩⟩
    . have hj':j<Z.length:=O
      have hnum:=hZn (Z.getD j wD_K) (by rw[qy1,qy7 hj'];exact ϸ hj');obtain⟨sh,hsh⟩:∃sh,sh=Z33 (Z.getD j wD_K).2.2.2:=⟨_,rfl⟩
      have hcall:∀w':Ϫ,Ϭ ϙ 133 #[.int .i64 (Z.getD j wD_K).2.2.2] w' λe w''=>e=.returned (.string ⟨sh.toArray⟩)/\Mod [] w' w'':=λw'=>by rw[hsh];exact Z148 w' _ hnum
      refine⟨λvs=>∃(u:Ϛ) (c:Nat),vs=[.s sh,.v u,.n c,.r [[.int .i64 6,.string ⟨sh.toArray⟩]]]/\∀k',Z1 u k'->w.heap.size<=k'\/k'∈Zh (tlA k x) dlH,⟨O,⟨O,O,O,?_,?_⟩,?_⟩,?_⟩
      . refine⟨[.s sh],rfl,λ_ w' _=>hcall w',?_⟩;simp only[QR,ra,Z36,Z37,Z1s,gW3];exact⟨λu o b=>⟨u,b,rfl,o⟩,λb u o=>⟨u,b,rfl,o⟩⟩
      . intro b;refine⟨[.s sh],rfl,λ_ w' _=>hcall w',?_⟩;simp only[QR,ra,Z36,Z37,Z1s,gW3];exact λu o=>⟨u,b,rfl,o⟩
      . intro b;refine⟨O,O,O,[.s sh],rfl,λ_ w' _=>hcall w',?_⟩;simp only[QR,ra,Z36,Z37,Z1s,gW3];exact λu o=>⟨u,b,rfl,o⟩
      rintro _ - ⟨u,c,rfl,hu⟩;simp only[QR,ra,Z36,Z37,Z1s,gW3];obtain⟨m1,hm1⟩:∃m1:Msg,m1=⟨1,69,z.next,(Z.getD j wD_K).2.1,[(6,sh)],p⟩:=⟨_,rfl⟩
      have hput:putM ⟨1,69,z.next,(Z.getD j wD_K).2.1,[],p⟩ (Z.getD j wD_K).2.2.2=m1:=by rw[hm1,hsh];rfl
      have hstep:(Z.take (j+1)).foldl (Z4s p) T0=Z4s p ((Z.take j).foldl (Z4s p) T0) (Z.getD j wD_K):=by rw[Zlr wD_K Z j hj',List.foldl_append];rfl
      refine⟨O,λv54 o54=>⟨by(first|omega|(simp only[qy11,Ϣ,qy3,ϑ,ϓ];omega)),λv55 o55=>⟨O,O,Zgb (Z3 z.sx (z.ox++[optX (toP (Z.getD j wD_K).1 m1) u])) (GrwD w.heap.size (λ_=>False) x { z with next:=nx_Z z.next,ox:=z.ox++[optX (toP (Z.getD j wD_K).1 m1) u],ov:=v55 }),λw4 hr=>?_,λi hi=>?_,⟨j+1,{ z with next:=nx_Z z.next,ox:=z.ox++[optX (toP (Z.getD j wD_K).1 m1) u],ov:=v55 },?_,O,?_⟩,O⟩⟩⟩
      . obtain⟨r1,r2⟩:=(hr.at_ 4 rfl:(Zgb (Z3 z.sx z.ox) (GrwD w.heap.size (λ_=>False) x z)).holds w4)
        have r3:=(hr.at_ 3 rfl:reads w4 u [.int .i64,.str] [[.int .i64 6,.string ⟨sh.toArray⟩]])
        refine⟨Z10 (l:=z.sx) (o:=z.ox) (λt ht=>.inl ht) (λt ht=>?_) r1,λi hi=>?_⟩
        . rcases qy13.1 ht with ht|ht
          . exact .inl ht
          . rw[qy12.1 ht,hm1];exact .inr ⟨Z6 _ _,Z6 _ _,r3⟩
        . rcases hi with(hi|hi|hi|hi|hi)|hi
          . exact r2 i (.inl (.inl hi))
          . exact r2 i (.inl (.inr (.inl hi)))
          . exact r2 i (.inl (.inr (.inr (.inl hi))))
          . exact r2 i (.inl (.inr (.inr (.inr (.inl hi)))))
          . rcases Z7.1 hi with h5|⟨t,ht,hk⟩
            . exact r2 i (.inl (.inr (.inr (.inr (.inr (Z7.2 (.inl h5)))))))
            . rcases qy13.1 ht with ht|ht
              . exact r2 i (.inl (.inr (.inr (.inr (.inr (Z7.2 (.inr ⟨t,ht,hk⟩)))))))
              . rw[qy12.1 ht]at hk;rcases hk with hk|hk|hk
                . exact ϟ rfl hk.1
                . exact ϟ rfl hk.1
                . rcases hu i hk.2 with h5|h5
                  . exact .inl h5
                  . rcases Ϡ.1 (Z1b2 h5)with h6|h6
                    . exact ϟ h6 λh6=>hr.sep.disj (i:=14) (j:=3) rfl rfl U (.inl rfl) (k:=i) h6 ⟨show[Value.int .i64 6,.string ⟨sh.toArray⟩]≠[] from List.cons_ne_nil _ _,hk.2⟩
                    . rw[ϔ]at h6;exact .inr (.inl (.inr (Ϝ.1 h6)))
          . rcases Z8z hr 0 14 rfl rfl U rfl i hi with h5|h5
            . exact .inl h5
            . exact .inr (.inl (.inr h5))
      . rcases Z7.1 hi with h5|⟨t,ht,hk⟩
        . exact⟨_,qy6 (i:=4) rfl,rfl,Z7.2 (.inl h5)⟩
        . rcases qy13.1 ht with ht|ht
          . exact⟨_,qy6 (i:=4) rfl,rfl,Z7.2 (.inr ⟨t,ht,hk⟩)⟩
          . rw[qy12.1 ht,hm1]at hk;rcases hk with hk|hk|hk
            . exact ϟ rfl hk.1
            . exact ϟ rfl hk.1
            . exact(qE 3 rfl rfl hk)
      . simp only[ϒ,ϧ,Ϥ];rw[hm1];rfl
      . rw[hstep,<- hzt,<- hput];simp only[TelX.tel,Z4s,ϒ,ϧ,Ϥ]
    . have hil:j=Z.length:=O
      subst hil;rw[Ϙ]at hzt;obtain⟨r1,r2⟩:=(hr.at_ 0 rfl:(Zgb (Z3 z.sx z.ox) (GrwD w.heap.size (λ_=>False) x z)).holds w3)
      exact⟨z,by rw[hzt,hTB],Zl7 hr (by rfl) k z r1 (λj hj=>(qE 0 rfl rfl hj)) [6,7,8,2,10,0,12] U rfl,r2⟩
def Z10q{o:List SntX}(h:∀t∈l',t∈l):(∀w,(Z3 l o).holds w->(Z3 l' o).holds w)/\∀j,(Z3 l' o).fp j->(Z3 l o).fp j :=
 ⟨λw hw=>Z10 (λt ht=>.inl (h t ht)) (λt ht=>.inl ht) hw,λj hj=>by
  rcases Z7.1 hj with⟨t,ht,hk⟩|h1
  ·exact Z7.2 (.inl ⟨t,h t ht,hk⟩)
  ·exact Z7.2 (.inr h1)⟩
def Z16p(w:Ϫ)(k:Nat)(x:TelX)(c:By)(hr:Rel ⟨Zh (tlA k x) dlH,w⟩ (tlA k x++[.s c]) dlH w)(hb:BOk x.tel): Ϭ ϙ 31 #[.pointer (δ ⟨k,0,Ϲ⟩),.string ⟨c.toArray⟩] w λe w'=>e=.returned (.tuple #[])/\Zh3 w w' k x (λ_=>False) (Z4i c x.tel):=by
  refine Wu Z7g hr ?_;simp only[QR,ra];have hns:x.sx.length<=6:=by have:=hb.ns;rw[Z28,qy3]at this;exact this
  have hwl:x.wants.length<=20:=Zel hb.wants;refine⟨[.i (atS x.tel.sess c)],rfl,λ_ w' hr=>Z48 w' x.sv x.sx c (hr.at_ 2 rfl) hb.sort O,?_⟩;simp only[QR,ra];obtain⟨a0,ha0⟩:∃a0,a0=atS x.tel.sess c:=⟨_,rfl⟩
  rw[<- ha0];refine⟨λh1 w3 hr=>⟨O6,x,?_,(hr.pick [0,1,2,3,4,5,6] U).conv rfl,.refl _ _ _⟩,λh1=>?_⟩
  . rw[Z4i,ϛ];intro h2;rw[ha0,atS,ϝ h2]at h1;omega
  have hh0:hasS x.tel.sess c=ϰ:=Classical.byContradiction λh2=>h1 (by rw[ha0,atS,ϛ h2];decide);obtain⟨hlt,hse⟩:=Zls hh0;have hat:a0=(idxS x.tel.sess c:Int):=by rw[ha0,atS,ϝ hh0]
  rw[hat];clear ha0 hat h1;obtain⟨ix,hix⟩:∃ix,ix=idxS x.tel.sess c:=⟨_,rfl⟩
  rw[<- hix]at hlt hse⊢;have hrow:=Z57 hlt;simp only[QR,ra,hrow,Ze,ϕ,ϖ,Value.gI,Value.gB,Value.gS,Zv];obtain⟨ss,hss⟩:∃ss,ss=x.sx.getD ix sxD:=⟨_,rfl⟩
  have hm0:ss∈x.sx:=by rw[hss];exact Z58 hlt
  rw[<- hss]at hse⊢;obtain⟨s,s',s''⟩:=ss;simp only at hse⊢;have hgo:Z4i c x.tel=if s.clean=ϰ then Zmy c { x.tel with sess:=x.tel.sess.take ix++x.tel.sess.drop (ix+1) }else { x.tel with sess:=x.tel.sess.set ix (goR s) }:=by rw[Z4i,ϝ hh0,<- hix,<- hse];rfl
  rw[hgo];refine⟨O,O,λh1=>?_,λh1=>?_⟩
  . rw[ϛ h1];intro w1 hr1;have hs0:=Zy (hr1.at_ 5 rfl:(Z3 x.sx x.ox).holds w1) hm0;obtain⟨hs1,hs2⟩:=hs0;refine(Zb (Z1hc w1 s s' s'' hs1 hs2) rfl).mono ?_;obtain⟨S,hS⟩:∃S,S=goR s:=⟨_,rfl⟩
    rw[<- hS];have hcl':S.cl=s.cl/\S.on=ϣ/\S.clean=s.clean/\S.next=s.next:=by rw[hS];exact⟨rfl,rfl,rfl,rfl⟩
    rintro e w2 ⟨u1,u2,rfl,g1,g2,g4,g5,gm⟩;have hnm:∀j,sesF (s,s',s'') j->(Z3 x.sx x.ox).fp j:=λj hj=>Z7.2 (.inl ⟨_,hm0,hj⟩);refine⟨[.s S.cl,.b S.on,.b S.clean,.v u1,.r (S.fl.map encF),.v u2,.r (S.qu.map encF),.i S.next],rfl,rfl,gm,qy5 _,qy2.2 ⟨⟨g1,λk hk=>(g4 k hk).elim .inl λh=>.inr (.inl ⟨rfl,_,qy6 (i:=5) rfl,rfl,hnm k h⟩)⟩,qy2.2 ⟨⟨g2,λk hk=>(g5 k hk).elim .inl λh=>.inr (.inl ⟨rfl,_,qy6 (i:=5) rfl,rfl,hnm k h⟩)⟩,qy5 _⟩⟩,Zjh ..,?_⟩;have hnw:w.heap.size<=w1.heap.size:=hr1.mod.size;clear hr1;simp only[QR,ra];refine λb23 v24=>⟨by(first|omega|(simp only[qy11,Ϣ,qy3,ϑ,ϓ,ϗ,ϯ];omega)),λv25=>⟨by(first|omega|(simp only[qy11,Ϣ,qy3,ϑ,ϓ,ϗ,ϯ];omega)),λw3 hr=>⟨O6,?_⟩⟩⟩
    have hnew:=Z8z hr 0 10 rfl rfl U rfl;have hA3:(Z3 (x.sx.set ix (S,u1,u2)) x.ox).holds w3:=Z5t (hr.at_ 9 rfl) (hr.at_ 2 rfl) (hr.at_ 3 rfl);refine Zd9 (y:={ x with sx:=x.sx.set ix (S,u1,u2),sv:=v25 }) ?_ (Zl7 (toRd hr) (by rfl) k { x with sx:=x.sx.set ix (S,u1,u2),sv:=v25 } hA3 (λj hj=>?_) [5,6,1,8,9,0,11] U (Zd rfl (Zd rfl (Zd (Zae rfl ?_) rfl)))) λj hj=>?_
    . simp only[TelX.tel,β]
    . rcases Z2g hj with h|h|h
      . exact(qE 9 rfl rfl h)
      . exact(qE 2 rfl rfl h)
      . exact(qE 3 rfl rfl h)
    . simp only[QR,ra];rw[<- Z2h]
    . refine Zqb (.refl _ _ _) hnw hnew (t:=(S,u1,u2)) (λj hj=>?_) j (.inl hj);rcases hj with h|h
      . exact(g4 j h).imp id (hnm j)
      . exact(g5 j h).imp id (hnm j)
  . have h1:=qy9.1 h1;rw[ϝ h1];refine⟨λvs=>∃a b c d e:Ϛ,vs=[.v a,.v b,.v c,.v d,.v e],?_,?_⟩
    . repeat' (first|exact⟨_,_,_,_,_,rfl⟩|omega|(intro _)|(refine⟨?_,?_⟩)|(simp only[qy11,ϯ,ϗ,qy3,ϓ];omega))
    rintro _ - ⟨v15,v16,v17,v18,v19,rfl⟩;simp only[QR,ra];intro w1 hr1;refine(Zh0 w1 x.wv x.wants c (hr1.at_ 4 rfl) O).mono ?_;obtain⟨L,hL⟩:∃L,L=x.wants.filter (λw:Kp=>decide (¬w.1=c)):=⟨_,rfl⟩
    rw[<- hL];rintro e w2 ⟨u,rfl,g1,g2,gm⟩;have hnu:∀j,Z1 u j->w.heap.size<=j:=λj hj=>ϐ hr1.mod.size (g2 j hj);refine⟨[.v u,.r (L.map encK)],rfl,rfl,gm,qy5 _,qy2.2 ⟨⟨g1.reads,λk hk=>.inl (g2 k hk.2)⟩,qy5 _⟩,Z2,?_⟩;clear g1 g2 gm hr1;intro w3 hr;have hnew:=Z8z hr 1 10 rfl rfl U rfl;obtain⟨r1,r2⟩:=Z10q (l:=x.sx) (l':=x.sx.take ix++x.sx.drop (ix+1)) (o:=x.ox) λt ht=>(qy13.1 ht).elim (λh=>Ϩ h) (λh=>List.mem_of_mem_drop h);refine⟨O6,Zd9 (y:={ x with sx:=x.sx.take ix++x.sx.drop (ix+1),sv:=v19,wants:=L,wv:=u }) ?_ (Zl7 (toRd (hr.pick [1,0,4,7,8,9,10] U)) (by rfl) k { x with sx:=x.sx.take ix++x.sx.drop (ix+1),sv:=v19,wants:=L,wv:=u } (r1 w3 (hr.at_ 9 rfl)) (λj hj=>(qE 5 rfl rfl (r2 j hj))) [3,2,1,4,5,0,7] U (Zd rfl (Zd rfl (Zd (Zae rfl ?_) rfl)))) λj hj=>?_⟩
    . rw[hL];simp only[TelX.tel,Zmy,ϒ,Ϻ,ϻ]
    . simp only[QR,ra];rw[ϒ,Ϻ,ϻ]
      show List.drop 0 (List.take ix (x.sx.map Ze))++List.drop ((ix:Int)+1).toNat (List.take x.sx.length (x.sx.map Ze))=_
      rw[List.drop_zero,List.take_of_length_le (l:=x.sx.map Ze) (i:=x.sx.length) (by rw[qy3];exact γ _),show((ix:Int)+1).toNat=ix+1 by omega]
    . rcases hj with hj|hj|hj|hj|hj
      . exact .inr (.inl (.inl (.inl hj)))
      . exact .inl (hnu j hj.2)
      . rcases hnew j hj.2 with h|h
        . exact .inl h
        . exact .inr (.inl (.inr h))
      . exact .inr (.inl (.inl (.inr (.inr (.inr (.inl hj))))))
      . exact .inr (.inl (.inl (.inr (.inr (.inr (.inr (r2 j hj)))))))
