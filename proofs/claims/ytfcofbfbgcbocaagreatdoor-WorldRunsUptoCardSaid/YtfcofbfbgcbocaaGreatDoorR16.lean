/- By an AI agent. -/
import Derived.Test.YtfcofbfbgcbocaaGreatDoorR15
import Derived.LoopN
set_option linter.all false
set_option maxHeartbeats 20000000
namespace Go.Proofs.Y
open Go Go.Sx
theorem Z1ar{n p:List UInt8}{t:Tel}(h:¬(Z1g n p t).2=true):(Z1g n p t).1=t:=by
 unfold Z1g at h⊢;split
 ·rfl
 ·rename_i h1;rw[if_neg h1]at h;split at h<;>exact absurd rfl h
set_option maxRecDepth 2000 in
theorem Z114(w:World)(k:Nat)(x:TelX)(n:Int)(m:Msg)(mv:Value)(hr:Rel ⟨Zl (tlA k x) tlH,w⟩ (tlA k x++([.i n]++mgV m mv)) (tlH++[.rd 18 [.int .i64,.str] (.var 19)]) w)(hb:BOk x.tel)(ho:x.ox.length<40000)(hn:0<=n/\n<=9)(hm:chk m=0) : Calls Tryz.prog 155 #[.pointer (some ⟨k,0,none⟩),.int .i64 n,mV m (sc1 mv)] w λe w'=>e=.returned (.tuple #[])/\Z8o w w' k x (λ_=>False) (Z3t n m x.tel):=by
  refine Z1 (Z3 (J:=tlA k x++([.i n]++mgV m mv)) (sxE_ok.joins _) Tryz.func155 Z5i rfl rfl hr rfl rfl ?_) rfl;simp only[QQ,Nat.reduceAdd,qy3,qy4];have hzn:0<=x.next/\x.next<=65535:=hb.next;obtain⟨-,-,⟨m1,mo,mp⟩,-⟩:=Z9k.1 hm;obtain⟨AK,hAK⟩:∃AK:Int,AK=if m.kind=1 then 1 else 2:=⟨_,rfl⟩
  obtain⟨AI,hAI⟩:∃AI:Int,AI=if m.kind=1 then x.next else m.id:=⟨_,rfl⟩
  obtain⟨N,hN⟩:∃N:Int,N=if m.kind=1 then nx_Z x.next else x.next:=⟨_,rfl⟩
  have hans:Z3o m x.next=(⟨AK,133,AI,m.tok,[],[]⟩:Msg):=by rw[Z3o,hAK,hAI];split<;>rfl
  have hnil:∀s∈[toP n (⟨AK,133,AI,m.tok,[],[]⟩:Msg)],nilS s:=λs hs=>by rw[qy12.1 hs];exact⟨rfl,rfl,rfl⟩
  obtain⟨q1,q2⟩:=Zl5 (l:=x.sx) (o:=x.ox) hnil;simp only[List.map_cons,List.map_nil]at q1 q2;have hox:x.ox.map Z1r++[Z1r (nilX (toP n (⟨AK,133,AI,m.tok,[],[]⟩:Msg)))]=(x.ox++[nilX (toP n (⟨AK,133,AI,m.tok,[],[]⟩:Msg))]).map Z1r:=by rw[List.map_append];rfl
  intro b21 b22;refine⟨λvs=>vs=[.i AK,.i AI,.i N],⟨λh=>⟨by omega,by omega,?_⟩,λh=>?_⟩,?_⟩
  . rw[Z10r _ hzn,hAK,hAI,hN,if_pos h,if_pos h,if_pos h]
  . rw[hAK,hAI,hN,if_neg h,if_neg h,if_neg h]
  rintro _ - rfl;simp only[QQ,Nat.reduceAdd,qy3,qy4];intro b26 v27;refine⟨by first|omega|(simp;omega),λv28=>?_⟩;refine⟨[.s (Z1f m.opts).1,.i (Z1f m.opts).2],rfl,λ_ w' hr=>Z15b w' m mv (hr.at_ 11 rfl) hm,?_⟩;simp only[QQ,Nat.reduceAdd,qy3,qy4];obtain⟨T1,hT1⟩:∃T1:Tel,T1=TelX.tel { x with next:=N,ox:=x.ox++[nilX (toP n (⟨AK,133,AI,m.tok,[],[]⟩:Msg))],ov:=v28 }:=⟨_,rfl⟩
  have hT1':T1={ x.tel with next:=N,out:=x.tel.out++[toP n (⟨AK,133,AI,m.tok,[],[]⟩:Msg)] }:=by rw[hT1];simp only[TelX.tel,List.map_append,List.map_cons,List.map_nil];rfl
  have hB1:BOk T1:=by
    rw[hT1'];refine⟨hb.kept,hb.wants,hb.ns,hb.ses,hb.sort,hb.wat,hb.has,hb.kpt,?_⟩
    show 0<=N/\N<=65535
    rw[hN];split
    . exact Zgm _ hzn.1
    . exact hzn
  have hG1:∀w0:Nat,Grew w0 (λ_=>False) x { x with next:=N,ox:=x.ox++[nilX (toP n (⟨AK,133,AI,m.tok,[],[]⟩:Msg))],ov:=v28 }:=λw0=>⟨λj hj=>.inr hj,λj hj=>.inr hj,λj hj=>.inr (.inl (q2 j hj))⟩
  have hol:x.tel.out.length=x.ox.length:=by simp[TelX.tel]
  have lenX:∀y:TelX,y.tel.out.length=y.ox.length:=λy=>by simp[TelX.tel]
  have l1:T1.out.length=x.ox.length+1:=by rw[hT1'];simp only[qy11,List.length_cons,List.length_nil,hol]
  have hpn:(Z1f m.opts).2=0->chkT (Z1f m.opts).1 false=0:=Zgs;refine⟨λvs=>∃(y:TelX) (a':Msg) (u:Value),vs=[.i 0,.i 0,.i 0,.i 0,.i 0,.i 0,.i 0,.i 0,.i 0,.i 0,.i 0,.i 0,.i 0,.i 0,.i 0,.i 0,.i 0,.i 0,.i 0,.i 0,.i 0,.i 0,.i 0,.i 0,.i 0,.i a'.kind,.i a'.code,.i a'.id,.s a'.tok,.v u,.s a'.pay,.v y.kv,.v y.wv,.v y.sv,.v y.av,.i y.next,.v y.ov,.r (a'.opts.map encO),.r (y.kept.map encK),.r (y.wants.map Zb),.r (y.sx.map Zg),.r (y.wat.map Z8),.r (y.ox.map Z1r),.a (Z6 y.sx y.ox)]/\(y.tel,a')=doB n m (⟨AK,133,AI,m.tok,[],[]⟩:Msg) T1/\Grew w.heap.size (λ_=>False) x y/\(∀j,Z2 u j->w.heap.size<=j),⟨λh1=>?_,λh1=>⟨λh2=>?_,λh2=>⟨λh3=>⟨λh4=>?_,λh4=>?_⟩,λh3=>⟨λh4=>?_,λh4=>?_⟩⟩⟩⟩,?_⟩
  . refine⟨Z6 x.sx (x.ox++[nilX (toP n (⟨AK,133,AI,m.tok,[],[]⟩:Msg))]),λw hr=>q1 w (hr.at_ 9 rfl),λj hj=>(qE 9 rfl rfl (q2 j hj)),{ x with next:=N,ox:=x.ox++[nilX (toP n (⟨AK,133,AI,m.tok,[],[]⟩:Msg))],ov:=v28 },{ (⟨AK,133,AI,m.tok,[],[]⟩:Msg)with code:=128 },.slice none 0 0,?_,?_,hG1 _,λj hj=>absurd hj (by simp[Z2,Value.ownBlock])⟩
    . rw[<- hox];rfl
    . rw[doB,if_pos h1,hT1]
  . have h1':=qy9.1 h1;intro w1 hr1;have hz1:=hr1.mod.size;have hq:=Z1dd hr1 (by rfl) k { x with next:=N,ox:=x.ox++[nilX (toP n (⟨AK,133,AI,m.tok,[],[]⟩:Msg))],ov:=v28 } ([.i n]++mgV m mv++mgV (⟨AK,133,AI,m.tok,[],[]⟩:Msg) (.slice none 0 0)++[.s (Z1f m.opts).1]) [.rd 18 [.int .i64,.str] (.var 19)] (q1 _ (hr1.at_ 9 rfl)) (λj hj=>(qE 9 rfl rfl (q2 j hj))) [6,7,8,9,1,0,11,12] (by decide) rfl (Zo rfl (Zo rfl (Zo rfl (Zo rfl (Zo (Z46 rfl hox) rfl)))));have hq1:=hq.cons (e:=.rd 25 [.int .i64,.str] (.var 26)) (show reads w1 (.slice none 0 0) [.int .i64,.str] [] from Z9 _ _) (λh=>Bool.noConfusion h) (λe' _ _ k hk _=>hk.1 rfl);have hq2:Rel ⟨Zl (tlA k { x with next:=N,ox:=x.ox++[nilX (toP n (⟨AK,133,AI,m.tok,[],[]⟩:Msg))],ov:=v28 }) tlH,w1⟩ (tlA k { x with next:=N,ox:=x.ox++[nilX (toP n (⟨AK,133,AI,m.tok,[],[]⟩:Msg))],ov:=v28 }++([.i n]++mgV m mv++mgV (⟨AK,133,AI,m.tok,[],[]⟩:Msg) (.slice none 0 0)++[.s (Z1f m.opts).1])) (tlH++[.rd 18 [.int .i64,.str] (.var 19),.rd 25 [.int .i64,.str] (.var 26)]) w1:=(hq1.pick [1,2,3,4,5,6,7,8,0] (by decide)).conv rfl;clear hq hq1;have hc:=Z1an w1 k { x with next:=N,ox:=x.ox++[nilX (toP n (⟨AK,133,AI,m.tok,[],[]⟩:Msg))],ov:=v28 } n m (⟨AK,133,AI,m.tok,[],[]⟩:Msg) mv (.slice none 0 0) (Z1f m.opts).1 hq2 (by rw[<- hT1];exact hB1) (by omega) (show 0<1000000000 by decide);rw[<- hT1]at hc;obtain⟨G,hG⟩:∃G,G=getB n m (⟨AK,133,AI,m.tok,[],[]⟩:Msg) (Z1f m.opts).1 T1:=⟨_,rfl⟩
    rw[<- hG]at hc;refine(Z1de (x:={ x with next:=N,ox:=x.ox++[nilX (toP n (⟨AK,133,AI,m.tok,[],[]⟩:Msg))],ov:=v28 }) hr1 38 0 [5,7,28] hc
      (λj hj=>by simp[Z2,Value.ownBlock]at hj) rfl rfl (Nat.succ_pos _) rfl (λj hj=>?_)).mono ?_
    . rcases hj with hj|hj|hj
      . exact(qE 5 rfl rfl hj)
      . exact(qE 6 rfl rfl hj)
      . exact(qE 9 rfl rfl (q2 j hj))
    rintro e w2 ⟨y,v,hy,hsz,hg,hv,rfl,m1,m2,m3,m4⟩;refine⟨mgV G.2 v++tlV y,rfl,rfl,m1,m2,m3,m4,?_⟩;refine⟨Z6 y.sx y.ox,λw hr=>hr.at_ 6 rfl,λj hj=>(qE 6 rfl rfl hj),y,G.2,v,rfl,?_,(hG1 _).trans hg hz1 (λ_ h=>h.elim),λj hj=>Nat.le_trans hz1 (hv j hj)⟩;rw[hy,doB,if_neg h1,if_pos h2,<- hG]
  . have h1':=qy9.1 h1;intro w1 hr1;have hz1:=hr1.mod.size;have hc:=Zt1 w1 k { x with next:=N,ox:=x.ox++[nilX (toP n (⟨AK,133,AI,m.tok,[],[]⟩:Msg))],ov:=v28 } (Z1f m.opts).1 m.pay ((Z15o hr1 (by rfl) k { x with next:=N,ox:=x.ox++[nilX (toP n (⟨AK,133,AI,m.tok,[],[]⟩:Msg))],ov:=v28 } (q1 _ (hr1.at_ 9 rfl)) (λj hj=>(qE 9 rfl rfl (q2 j hj))) [6,7,8,9,1,0,11] (by decide) (Zo rfl (Zo rfl (Zo rfl (Zo rfl (Zo (Z46 rfl hox) rfl)))))).conv rfl) (by rw[<- hT1];exact hB1) (by rw[<- lenX,<- hT1];omega);rw[<- hT1]at hc;refine(Z3g (k:=k) (x:={ x with next:=N,ox:=x.ox++[nilX (toP n (⟨AK,133,AI,m.tok,[],[]⟩:Msg))],ov:=v28 }) (F:=λ_=>False) (pre:=[.b (Z1g (Z1f m.opts).1 m.pay T1).2]) hr1 32 0 [5,7,28] hc
      rfl rfl (Nat.succ_pos _) rfl (λj hj=>?_)).mono ?_
    . rcases hj with hj|hj|hj|hj;(· exact(qE 5 rfl rfl hj));(· exact(qE 6 rfl rfl hj));(· exact(qE 9 rfl rfl (q2 j hj)));(· exact hj.elim)
    rintro e w2 ⟨y,hy,hsz,hg,rfl,m1,m2,m3,m4⟩;refine⟨.b (Z1g (Z1f m.opts).1 m.pay T1).2::tlV y,rfl,rfl,m1,m2,m3,m4,?_⟩;clear m1 m2 m3 m4;obtain⟨b2,-,s2,l2⟩:=Z5v (p:=m.pay) hB1 (hpn h1');have g2:Grew w.heap.size (λ_=>False) x y:=(hG1 _).trans hg hz1 (λ_ h=>h.elim);refine⟨λh5=>?_,λh5=>?_⟩
    . intro w3 hr3;have hz3:=hr3.mod.size;refine(Z3g (k:=k) (x:=y) (F:=λ_=>False) (pre:=[]) hr3 44 0 [36,38,41]
        (Znm w3 k y (Z1f m.opts).1 m.pay 1 (((hr3.pick [0,1,2,3,4,5,13] (by decide)).conv rfl).base.conv rfl) (by rw[hy];exact b2) (by rw[<- lenX,hy];omega) (by show Z30 y.tel.wants;rw[hy,s2,hT1'];exact Zd3 hb.wants) (by unfold flE;rw[if_pos (hpn h1'),if_neg (show ¬200<(m.pay.length:Int) from by omega)]) (by decide))
        rfl rfl (Nat.succ_pos _) rfl (λj hj=>?_)).mono ?_
      . rcases hj with hj|hj|hj|hj
        . exact(qE 0 rfl rfl hj)
        . exact(qE 1 rfl rfl hj)
        . exact(qE 5 rfl rfl hj)
        . exact hj.elim
      rintro e w4 ⟨y2,hy2,hsz2,hg2,rfl,m1,m2,m3,m4⟩;refine⟨tlV y2,rfl,rfl,m1,m2,m3,m4,?_⟩;refine⟨Z6 y2.sx y2.ox,λw hr=>hr.at_ 5 rfl,λj hj=>(qE 5 rfl rfl hj),y2,{ (⟨AK,133,AI,m.tok,[],[]⟩:Msg)with code:=68 },.slice none 0 0,rfl,?_,g2.trans hg2 hz3 (λ_ h=>h.elim),λj hj=>absurd hj (by simp[Z2,Value.ownBlock])⟩;rw[hy2,hy,doB,if_neg h1,if_neg h2,if_pos h3,if_pos ⟨h4,h5⟩]
    . refine⟨Z6 y.sx y.ox,λw hr=>hr.at_ 5 rfl,λj hj=>(qE 5 rfl rfl hj),y,{ (⟨AK,133,AI,m.tok,[],[]⟩:Msg)with code:=128 },.slice none 0 0,rfl,?_,g2,λj hj=>absurd hj (by simp[Z2,Value.ownBlock])⟩;rw[hy,doB,if_neg h1,if_neg h2,if_pos h3,if_neg λh=>h5 h.2,Z1ar h5]
  . refine⟨Z6 x.sx (x.ox++[nilX (toP n (⟨AK,133,AI,m.tok,[],[]⟩:Msg))]),λw hr=>q1 w (hr.at_ 9 rfl),λj hj=>(qE 9 rfl rfl (q2 j hj)),{ x with next:=N,ox:=x.ox++[nilX (toP n (⟨AK,133,AI,m.tok,[],[]⟩:Msg))],ov:=v28 },{ (⟨AK,133,AI,m.tok,[],[]⟩:Msg)with code:=128 },.slice none 0 0,?_,?_,hG1 _,λj hj=>absurd hj (by simp[Z2,Value.ownBlock])⟩
    . rw[<- hox];rfl
    . rw[doB,if_neg h1,if_neg h2,if_pos h3,if_neg λh=>h4 h.1,hT1]
  . intro w1 hr1;have hz1:=hr1.mod.size;have hc:=Zt1 w1 k { x with next:=N,ox:=x.ox++[nilX (toP n (⟨AK,133,AI,m.tok,[],[]⟩:Msg))],ov:=v28 } (Z1f m.opts).1 [] ((Z15o hr1 (by rfl) k { x with next:=N,ox:=x.ox++[nilX (toP n (⟨AK,133,AI,m.tok,[],[]⟩:Msg))],ov:=v28 } (q1 _ (hr1.at_ 9 rfl)) (λj hj=>(qE 9 rfl rfl (q2 j hj))) [6,7,8,9,1,0,11] (by decide) (Zo rfl (Zo rfl (Zo rfl (Zo rfl (Zo (Z46 rfl hox) rfl)))))).conv rfl) (by rw[<- hT1];exact hB1) (by rw[<- lenX,<- hT1];omega);rw[<- hT1]at hc;refine(Z3g (k:=k) (x:={ x with next:=N,ox:=x.ox++[nilX (toP n (⟨AK,133,AI,m.tok,[],[]⟩:Msg))],ov:=v28 }) (F:=λ_=>False) (pre:=[.b (Z1g (Z1f m.opts).1 [] T1).2]) hr1 32 0 [5,7,28] hc
      rfl rfl (Nat.succ_pos _) rfl (λj hj=>?_)).mono ?_
    . rcases hj with hj|hj|hj|hj;(· exact(qE 5 rfl rfl hj));(· exact(qE 6 rfl rfl hj));(· exact(qE 9 rfl rfl (q2 j hj)));(· exact hj.elim)
    rintro e w2 ⟨y,hy,hsz,hg,rfl,m1,m2,m3,m4⟩;refine⟨.b (Z1g (Z1f m.opts).1 [] T1).2::tlV y,rfl,rfl,m1,m2,m3,m4,?_⟩;clear m1 m2 m3 m4;refine⟨Z6 y.sx y.ox,λw hr=>hr.at_ 5 rfl,λj hj=>(qE 5 rfl rfl hj),y,{ (⟨AK,133,AI,m.tok,[],[]⟩:Msg)with code:=66 },.slice none 0 0,rfl,?_,(hG1 _).trans hg hz1 (λ_ h=>h.elim),λj hj=>absurd hj (by simp[Z2,Value.ownBlock])⟩;rw[hy,doB,if_neg h1,if_neg h2,if_neg h3,if_pos h4]
  . refine⟨Z6 x.sx (x.ox++[nilX (toP n (⟨AK,133,AI,m.tok,[],[]⟩:Msg))]),λw hr=>q1 w (hr.at_ 9 rfl),λj hj=>(qE 9 rfl rfl (q2 j hj)),{ x with next:=N,ox:=x.ox++[nilX (toP n (⟨AK,133,AI,m.tok,[],[]⟩:Msg))],ov:=v28 },(⟨AK,133,AI,m.tok,[],[]⟩:Msg),.slice none 0 0,?_,?_,hG1 _,λj hj=>absurd hj (by simp[Z2,Value.ownBlock])⟩
    . rw[<- hox];rfl
    . rw[doB,if_neg h1,if_neg h2,if_neg h3,if_neg h4,hT1]
  rintro _ - ⟨y,a',u,rfl,hdo,hgr,hu⟩;try simp only[QQ,Nat.reduceAdd,qy3,qy4]
  have hy:y.tel=(doB n m (⟨AK,133,AI,m.tok,[],[]⟩:Msg) T1).1:=congrArg Prod.fst hdo;have hpre:=Z1df n m (⟨AK,133,AI,m.tok,[],[]⟩:Msg) T1;rw[<- hy,hT1']at hpre;obtain⟨r,hr0⟩:=hpre;obtain⟨hlt,hat⟩:=Z1dg hr0;rw[hol]at hlt hat;refine⟨λvs=>vs=[],⟨by omega,rfl⟩,?_⟩;rintro _ - rfl;try simp only[QQ,Nat.reduceAdd,qy3,qy4]
  intro w3 hr3;obtain⟨t0,ht0⟩:∃t0,t0=y.ox.getD x.ox.length sntD:=⟨_,rfl⟩
  have hmem:t0∈y.ox:=by rw[ht0];exact Z1aq hlt
  rw[<- ht0]at hat;have hrow:=Z1ap hlt;rw[<- ht0]at hrow;obtain⟨s,va,vc,vo⟩:=t0;simp only at hat;subst hat;obtain⟨z,hz⟩:∃z:TelX,z={ y with ox:=y.ox.set x.ox.length (toP n a',va,vc,u) }:=⟨_,rfl⟩
  have hA:=hr3.at_ 0 rfl;have hO:Z3j w3 u a'.opts:=hr3.at_ 1 rfl;have hsn:=Z7h (hA:(Z6 y.sx y.ox).holds w3) hmem;have hfz:∀j,(Z6 z.sx z.ox).fp j->(Z6 y.sx y.ox).fp j\/((a'.opts.map encO).flatten≠[]/\Z2 u j):=λj hj=>by
    rw[hz]at hj;rcases Zc.1 hj with h|⟨t,ht,hk⟩
    . exact .inl (Zc.2 (.inl h))
    . rcases List.mem_or_eq_of_mem_set ht with ht|rfl
      . exact .inl (Zc.2 (.inr ⟨t,ht,hk⟩))
      . rcases hk with hk|hk|hk
        . exact absurd rfl hk.1
        . exact absurd rfl hk.1
        . exact .inr hk
  refine⟨by trivial,z,?_,?_,?_⟩
  . have ha':a'=(doB n m (⟨AK,133,AI,m.tok,[],[]⟩:Msg) T1).2:=congrArg Prod.snd hdo;have e1:Z3t n m x.tel={ (doB n m (⟨AK,133,AI,m.tok,[],[]⟩:Msg) T1).1 with out:=(doB n m (⟨AK,133,AI,m.tok,[],[]⟩:Msg) T1).1.out.set x.tel.out.length (toP n (doB n m (⟨AK,133,AI,m.tok,[],[]⟩:Msg) T1).2) }:=by
      rw[Z3t,show Z3o m x.tel.next=(⟨AK,133,AI,m.tok,[],[]⟩:Msg) from hans,hT1',hN];rfl
    rw[e1,<- hy,<- ha',hz,hol];simp only[TelX.tel,List.map_set]
  . refine Znd hr3 (by rfl) k z ?_ (λj hj=>?_) [3,4,5,6,7,0,15] (by decide) ?_
    . rw[hz];refine Z19 (λt ht=>.inl ht) (λt ht=>?_) hA;rcases List.mem_or_eq_of_mem_set ht with ht|rfl
      . exact .inl ht
      . exact .inr ⟨hsn.1,hsn.2.1,hO⟩
    . rcases hfz j hj with h|h
      . exact(qE 0 rfl rfl h)
      . exact(qE 1 rfl rfl h)
    . rw[hz];refine Zo rfl (Zo rfl (Zo rfl (Zo rfl (Zo (Z46 rfl ?_) rfl))));simp only[QQ,Nat.reduceAdd,qy3,qy4,hrow,Z1r,List.getD_cons_zero,List.getD_cons_succ,Value.gI,Value.gB,Value.gS,Z1p,List.map_set]
  . rw[hz];refine⟨λj hj=>hgr.kept j hj,λj hj=>hgr.want j hj,λj hj=>?_⟩;rw[<- hz]at hj;rcases hfz j hj with h|h
    . exact hgr.nest j h
    . exact .inl (hu j h.2)
abbrev bcA(k:Nat)(x:TelX):List V:=[.n k,.v x.kv,.r (x.kept.map encK),.v x.wv,.r (x.wants.map Zb),.v x.sv,.r (x.sx.map Zg),.a (Z6 x.sx x.ox),.v x.av,.r (x.wat.map Z8),.i x.next]
abbrev bcH:List Ent:=[.rd 1 kK (.var 2),.rd 3 kW_V (.var 4),.rd 5 kSx (.var 6),.st 7,.rd 8 kW_K (.var 9),.cells 0 27 [.val (.var 1),.val (.var 3),.val (.var 5),.val (.var 8),.int .i64 (.var 10)]]
def Zd4(w w':World)(e:Ending)(k:Nat)(x:TelX)(c:Int):Prop:=e=.returned (.int .i64 c)/\Rel ⟨Zl (bcA k x) bcH,w⟩ (bcA k x) bcH w'
theorem Z1dh(w:World)(k:Nat)(x:TelX)(hr:Rel ⟨Zl (bcA k x) bcH,w⟩ (bcA k x) bcH w)(hs:Zfz x.kept)(hl:x.kept.length<1000000000) : Calls Tryz.prog 58 #[.pointer (some ⟨k,0,none⟩)] w λe w'=>Zd4 w w' e k x (chkK x.kept):=by refine Z1 (Z3 (J:=bcA k x) sxE_ok Tryz.func58 Za5 rfl rfl hr rfl rfl ?_) rfl;simp only[QQ,Nat.reduceAdd,qy3,qy4,Z23,Z2f,Z22];refine⟨[.i (chkK x.kept)],rfl,λ_ w' hr=>Z14e w' x.kv x.kept (hr.at_ 0 rfl) hs hl,?_⟩;intro w3 hr3;exact⟨rfl,(hr3.pick [0,1,2,3,4,5] (by decide)).conv rfl⟩
theorem Z1di(w:World)(k:Nat)(x:TelX)(hr:Rel ⟨Zl (bcA k x) bcH,w⟩ (bcA k x) bcH w)(hs:Z30 x.wants)(hl:x.wants.length<1000000000) : Calls Tryz.prog 60 #[.pointer (some ⟨k,0,none⟩)] w λe w'=>Zd4 w w' e k x (Zi x.wants):=by refine Z1 (Z3 (J:=bcA k x) sxE_ok Tryz.func60 Za8 rfl rfl hr rfl rfl ?_) rfl;simp only[QQ,Nat.reduceAdd,qy3,qy4,Z23,Z2f,Z22];refine⟨[.i (Zi x.wants)],rfl,λ_ w' hr=>Zvc w' x.wv x.wants (hr.at_ 1 rfl) hs hl,?_⟩;intro w3 hr3;exact⟨rfl,(hr3.pick [0,1,2,3,4,5] (by decide)).conv rfl⟩
theorem Z1dj(w:World)(k:Nat)(x:TelX)(hr:Rel ⟨Zl (bcA k x) bcH,w⟩ (bcA k x) bcH w)(hs:Z78 x.wat)(hl:x.wat.length<1000000000) : Calls Tryz.prog 64 #[.pointer (some ⟨k,0,none⟩)] w λe w'=>Zd4 w w' e k x (Z10 x.wat):=by refine Z1 (Z3 (J:=bcA k x) sxE_ok Tryz.func64 Za6 rfl rfl hr rfl rfl ?_) rfl;simp only[QQ,Nat.reduceAdd,qy3,qy4,Z23,Z2f,Z22];refine⟨[.i (Z10 x.wat)],rfl,λ_ w' hr=>Zut w' x.av x.wat (hr.at_ 4 rfl) hs (by omega),?_⟩;intro w3 hr3;exact⟨rfl,(hr3.pick [0,1,2,3,4,5] (by decide)).conv rfl⟩
theorem Z1dk(w:World)(k:Nat)(x:TelX)(hr:Rel ⟨Zl (bcA k x) bcH,w⟩ (bcA k x) bcH w) : Calls Tryz.prog 74 #[.pointer (some ⟨k,0,none⟩)] w λe w'=>Zd4 w w' e k x (if x.next<0\/65535<x.next then 3 else 0):=by refine Z1 (Z3 (J:=bcA k x) sxE_ok Tryz.func74 Zaa rfl rfl hr rfl rfl ?_) rfl;simp only[QQ,Nat.reduceAdd,qy3,qy4,Z23,Z2f,Z22];refine⟨λh w3 hr3=>⟨by rw[if_pos h],(hr3.pick [0,1,2,3,4,5] (by decide)).conv rfl⟩,λh w3 hr3=>⟨by rw[if_neg h],(hr3.pick [0,1,2,3,4,5] (by decide)).conv rfl⟩⟩
theorem Z5w{α:Type}{p:α->Bool}{l:List α}(d:α){i:Nat}(h:i<l.length)(hp:p (l.getD i d)=true):l.any p=true:=by rw[qy1,qy7 h]at hp;exact List.any_eq_true.2 ⟨_,List.getElem_mem h,hp⟩
theorem Zdn{α:Type}{p:α->Bool}{l:List α}(d:α)(h:∀i,i<l.length->p (l.getD i d)=false):l.any p=false:=by rw[List.any_eq_false];intro y hy;obtain⟨i,hi,rfl⟩:=List.getElem_of_mem hy;have:=h i hi;rw[qy1,qy7 hi]at this;simpa using this
theorem Z1dl(w:World)(k:Nat)(x:TelX)(hr:Rel ⟨Zl (bcA k x) bcH,w⟩ (bcA k x) bcH w)(hk:chkK x.kept=0)(hs:Z5e x.tel.sess)(hsl:x.sx.length<1000000000)(hwl:x.wants.length<1000000000)(hal:x.wat.length<1000000000) : Calls Tryz.prog 66 #[.pointer (some ⟨k,0,none⟩)] w λe w'=>Zd4 w w' e k x (if Z16 x.tel=true then 4 else 0):=by
 refine Z1 (Z3 (J:=bcA k x) sxE_ok Tryz.func66 Za7 rfl rfl hr rfl rfl ?_) rfl;simp only[QQ,Nat.reduceAdd,qy3,qy4,Z23,Z2f,Z22];have hk16:x.kept.length<=16:=(Z17.1 hk).1;refine⟨λvs=>∃(y:V) (i:Nat),vs=[y,.i i,.v x.kv,.r (x.kept.map encK),.v x.sv,.r (x.sx.map Zg),.v x.av,.r (x.wat.map Z8),.i x.next]/\i<=x.wants.length/\∀j,j<i->hasS x.tel.sess (x.wants.getD j wD_V).1=true,λvs=>(x.wants.length - (vs.getD 1 (.i 0)).toI).toNat,⟨_,0,rfl,by omega,λj hj=>by omega⟩,?_⟩;rintro _ - ⟨y0,i,rfl,hi,hall⟩;simp only[QQ,Nat.reduceAdd,qy3,qy4,Z23,Z2f,Z22];refine⟨λh1=>⟨by omega,λb20=>?_⟩,λh1=>⟨λh2=>by omega,λh2=>?_⟩⟩
 ·refine⟨[.i (idxS x.tel.sess (x.wants.getD i wD_V).1),.b (hasS x.tel.sess (x.wants.getD i wD_V).1)],rfl,λ_ w' hr=>Zge w' x.sv x.sx _ (hr.at_ 3 rfl) hs hsl,?_⟩;simp only[QQ,Nat.reduceAdd,qy3,qy4,Z23,Z2f,Z22];refine⟨λh2 w3 hr3=>⟨?_,(hr3.pick [1,2,3,4,5,6] (by decide)).conv rfl⟩,λh2=>⟨by omega,by omega,⟨_,i+1,rfl,by omega,λj hj=>?_⟩,by omega⟩⟩
  ·have:Z16 x.tel=true:=by
    rw[Z16,Bool.or_eq_true];exact .inl (Z5w wD_V (l:=x.wants) (i:=i) (by omega) (by simpa using h2))
   rw[if_pos this]
  ·by_cases hij:j=i
   ·subst hij;exact qy9.1 h2
   ·exact hall j (by omega)
 ·have hie:i=x.wants.length:=by omega
  subst hie;have ha1:(x.tel.wants.any λw=>!hasS x.tel.sess w.1)=false:=Zdn wD_V λj hj=>by rw[show hasS x.tel.sess (x.tel.wants.getD j wD_V).1=true from hall j hj];rfl
  refine⟨λvs=>∃(y:V) (i:Nat),vs=[y,.i i,.v x.kv,.r (x.kept.map encK),.v x.wv,.r (x.wants.map Zb),.v x.sv,.r (x.sx.map Zg),.i x.next]/\i<=x.wat.length/\∀j,j<i->hasK x.kept (x.wat.getD j wD_K).2.2.1=true,λvs=>(x.wat.length - (vs.getD 1 (.i 0)).toI).toNat,⟨_,0,rfl,by omega,λj hj=>by omega⟩,?_⟩;rintro _ - ⟨y1,i,rfl,hi1,hall1⟩;simp only[QQ,Nat.reduceAdd,qy3,qy4,Z23,Z2f,Z22];refine⟨λh3=>⟨by omega,λb29=>?_⟩,λh3 w3 hr3=>⟨?_,(hr3.pick [0,1,2,3,4,5] (by decide)).conv rfl⟩⟩
  ·refine⟨[.i (idx x.kept (x.wat.getD i wD_K).2.2.1),.b (hasK x.kept (x.wat.getD i wD_K).2.2.1)],rfl,λ_ w' hr=>Zyk w' x.kv x.kept _ (hr.at_ 1 rfl) (Z17.1 hk).2.2 (by omega),?_⟩;simp only[QQ,Nat.reduceAdd,qy3,qy4,Z23,Z2f,Z22];refine⟨λh4 w3 hr3=>⟨?_,(hr3.pick [1,2,3,4,5,6] (by decide)).conv rfl⟩,λh4=>⟨by omega,by omega,⟨_,i+1,rfl,by omega,λj hj=>?_⟩,by omega⟩⟩
   ·have:Z16 x.tel=true:=by
     rw[Z16,Bool.or_eq_true];exact .inr (Z5w wD_K (l:=x.wat) (i:=i) (by omega) (by rw[show hasK x.tel.kept (x.wat.getD i wD_K).2.2.1=false from Bool.eq_false_iff.2 h4];rfl))
    rw[if_pos this]
   ·by_cases hij:j=i
    ·subst hij;exact qy9.1 h4
    ·exact hall1 j (by omega)
  ·have hie:i=x.wat.length:=by omega
   subst hie;have ha2:(x.tel.wat.any λw=>!hasK x.tel.kept w.2.2.1)=false:=Zdn wD_K λj hj=>by rw[show hasK x.tel.kept (x.tel.wat.getD j wD_K).2.2.1=true from hall1 j hj];rfl
   rw[if_neg (by rw[Z16,ha1,ha2];decide)]
def Zgu(s:Ses):Prop:=Zb7 s.fl/\Zb7 s.qu/\s.fl.length<1000000000/\s.qu.length<1000000000/\s.cl.length<1099511627776
def prvS(l:List SesX)(i:Nat):Option (List UInt8):=if i=0 then none else some (l.getD (i - 1) sxD).1.cl
theorem Z1dm(l:List SesX)(i:Nat)(h:i<l.length):l.drop i=l.getD i sxD::l.drop (i+1):=by rw[List.drop_eq_getElem_cons h,qy1,qy7 h];rfl
theorem Z115(l:List SesX)(i:Nat):Zhw (prvS l i) (l.getD i sxD).1.cl=true↔¬(0<(i:Int)/\(Za (l.getD i sxD).1.cl (l.getD (i - 1) sxD).1.cl=true\/(l.getD i sxD).1.cl=(l.getD (i - 1) sxD).1.cl)):=by
 unfold prvS;by_cases h:i=0
 ·simp[h,Zhw]
 ·rw[if_neg h];simp only[Zhw];rw[<- Z3z];constructor
  ·rintro h1 ⟨-,h2⟩;rw[h1]at h2;cases h2
  ·intro h1;cases h2:Za (l.getD (i - 1) sxD).1.cl (l.getD i sxD).1.cl with
   | true=>rfl
   | false=>exact absurd ⟨by omega,h2⟩ h1
theorem Zj6{l:List SesX}{i:Nat}(h:i<l.length):Zd1 (prvS l i) ((l.drop i).map (·.1))=if ¬chkS (l.getD i sxD).1=0 then chkS (l.getD i sxD).1
  else if 0<(i:Int)/\(Za (l.getD i sxD).1.cl (l.getD (i - 1) sxD).1.cl=true\/(l.getD i sxD).1.cl=(l.getD (i - 1) sxD).1.cl)then 4 else Zd1 (prvS l (i+1)) ((l.drop (i+1)).map (·.1)):=by
 rw[Z1dm l i h,List.map_cons,Ziy];split
 ·rfl
 ·by_cases h2:0<(i:Int)/\(Za (l.getD i sxD).1.cl (l.getD (i - 1) sxD).1.cl=true\/(l.getD i sxD).1.cl=(l.getD (i - 1) sxD).1.cl)
  ·rw[if_pos h2,if_neg (λh3=>(Z115 l i).1 h3 h2)]
  ·rw[if_neg h2,if_pos ((Z115 l i).2 h2)];rfl
theorem Zvx(w:World)(v:Value)(l:List SesX)(hv:reads w v kSx (l.map Zg))(hA:(Z6 l []).holds w)(hs:∀t∈l,Zgu t.1) : Calls Tryz.prog 63 #[sc1 v] w λe w'=>e=.returned (.int .i64 (Z5g (l.map (·.1))))/\Mod [] w w':=by
 refine Z1 (Z3 (J:=[.v v,.r (l.map Zg),.a (Z6 l [])]) sxE_ok Tryz.func63 Z9b rfl rfl (Rel.start2 (λe he=>by
  rcases List.mem_cons.1 he with rfl|he
  ·exact⟨hv,rfl⟩
  ·rw[qy12.1 he];exact⟨hA,rfl⟩)) rfl rfl ?_) rfl
 simp only[QQ,Nat.reduceAdd,qy3,qy4,gSx0];refine⟨λh w' hr=>⟨by rw[Z5g,qy3,if_pos h],hr.mod⟩,λh=>?_⟩;rw[Z5g,qy3,if_neg h];refine⟨λvs=>∃(i:Nat) (x:V),vs=[x,.i i]/\i<=l.length/\Zd1 (prvS l i) ((l.drop i).map (·.1))=Zd1 none (l.map (·.1)),λvs=>l.length - (vs.getD 1 (.i 0)).toI.toNat,⟨0,_,rfl,by omega,rfl⟩,?_⟩;rintro _ - ⟨i,x,rfl,hi,hg⟩;simp only[QQ,Nat.reduceAdd,qy3,qy4,gSx0];have hi1:((i:Int) - 1).toNat=i - 1:=by omega
 try rw[hi1]
 refine⟨λh1=>⟨by omega,λb=>?_⟩,λh1 w' hr=>⟨?_,hr.mod⟩⟩
 ·have hi':i<l.length:=by omega
  rw[Zj6 hi']at hg;have hrow:=Zbt hi';obtain⟨s1,s2,s3,s4,s5⟩:=hs _ (Z7i hi');refine⟨[.i (chkS (l.getD i sxD).1)],rfl,λ_ w' hr=>?_,?_⟩
  ·have hn:=Zz (hr.at_ 2 rfl:(Z6 l []).holds w') (Z7i hi');refine Z1 (Z149 w' (l.getD i sxD).1 (l.getD i sxD).2.1 (l.getD i sxD).2.2 hn.1 hn.2 s1 s2 s3 s4 s5) ?_;simp only[QQ,Nat.reduceAdd,qy3,qy4,gSx0,hrow,Zg,List.getD_cons_zero,List.getD_cons_succ,Value.gI,Value.gB,Value.gS,Z1p,sesV]
  simp only[QQ,Nat.reduceAdd,qy3,qy4,gSx0];try rw[hi1]
  refine⟨λh2 w' hr=>⟨?_,hr.mod⟩,λh2=>⟨by omega,by omega,by omega,by omega,λh6 w' hr=>⟨?_,hr.mod⟩,λh6=>⟨by omega,by omega,⟨i+1,x,rfl,by omega,?_⟩,by omega⟩⟩⟩
  ·rw[if_pos h2]at hg;rw[<- hg]
  ·rw[if_neg h2,if_pos h6]at hg;rw[<- hg]
  ·rw[if_neg h2,if_neg h6]at hg;exact hg
 ·have:i=l.length:=by omega
  subst this;rw[List.drop_length]at hg;rw[<- hg];rfl
theorem Z1dn(w:World)(k:Nat)(x:TelX)(hr:Rel ⟨Zl (bcA k x) bcH,w⟩ (bcA k x) bcH w)(ho:x.ox=[])(hs:∀t∈x.sx,Zgu t.1) : Calls Tryz.prog 62 #[.pointer (some ⟨k,0,none⟩)] w λe w'=>Zd4 w w' e k x (Z5g x.tel.sess):=by refine Z1 (Z3 (J:=bcA k x) sxE_ok Tryz.func62 Zab rfl rfl hr rfl rfl ?_) rfl;simp only[QQ,Nat.reduceAdd,qy3,qy4,gSx0];refine⟨[.i (Z5g x.tel.sess)],rfl,λ_ w' hr=>Zvx w' x.sv x.sx (hr.at_ 2 rfl) (by rw[<- ho];exact hr.at_ 3 rfl) hs,?_⟩;intro w3 hr3;exact⟨rfl,(hr3.pick [0,1,2,3,4,5] (by decide)).conv rfl⟩
abbrev bkA(x:TelX):List V:=[.v x.kv,.r (x.kept.map encK),.v x.wv,.r (x.wants.map Zb),.v x.sv,.r (x.sx.map Zg),.a (Z6 x.sx x.ox),.v x.av,.r (x.wat.map Z8),.i x.next]
abbrev bkH:List Ent:=[.rd 0 kK (.var 1),.rd 2 kW_V (.var 3),.rd 4 kSx (.var 5),.st 6,.rd 7 kW_K (.var 8)]
def bkV(x:TelX):Value:=.agg #[sc1 x.kv,sc1 x.wv,sc1 x.sv,sc1 x.av,.int .i64 x.next]
abbrev owA(x:TelX):List V:=[.v x.kv,.r (x.kept.map encK),.v x.wv,.r (x.wants.map Zb),.v x.sv,.r (x.sx.map Zg),.v x.av,.r (x.wat.map Z8),.i x.next,.a (Z6 x.sx x.ox)]
abbrev owH:List Ent:=[.rd 0 kK (.var 1),.rd 2 kW_V (.var 3),.row 4 50 kSx (.var 5),.row 6 97 kW_K (.var 7),.st 9]
def Z116(w w':World)(e:Ending)(x:TelX):Prop :=
 ∃y:TelX,e=.returned (bkV y)/\y.ox=[]/\y.tel={ x.tel with out:=[] }/\Rel ⟨[],w⟩ (owA y) owH w'/\(∀j,Z2 y.kv j->w.heap.size<=j)/\(∀j,Z2 y.wv j->w.heap.size<=j)/\(∀j,(Z6 y.sx y.ox).fp j->w.heap.size<=j)
set_option maxRecDepth 2000 in
theorem Z117(w:World)(x:TelX)(hr:Rel ⟨[],w⟩ (bkA x) bkH w)(hl1:x.kept.length<1000000000)(hl2:x.wants.length<1000000000)(hl3:x.wat.length<1000000000)(hl4:x.sx.length<1000000)(hl5:∀t∈x.sx,t.1.fl.length<1000000000/\t.1.qu.length<1000000000) : Calls Tryz.prog 31 #[bkV x] w λe w'=>Z116 w w' e x:=by
 refine Z1 (Z3 (J:=bkA x) (sxE_ok.joins _) Tryz.func31 Zgd rfl rfl hr rfl rfl ?_) rfl;simp only[QQ,Nat.reduceAdd,qy3,qy4];intro b10 b11;refine⟨λvs=>∃(u1 u2 u3:Value) (b:Nat),vs=[.v u1,.r (x.kept.map encK),.v u2,.r (x.wants.map Zb),.v u3,.r (x.wat.map Z8),.n b],⟨?_,?_⟩,?_⟩
 ·intro w1 hr1;refine(Zel w1 x.kv x.kept (hr1.at_ 2 rfl) hl1).mono ?_;rintro e w2 ⟨u1,rfl,a1,f1,m1⟩;refine⟨[.v u1,.r (x.kept.map encK)],rfl,rfl,m1,qy5 _,qy2.2 ⟨⟨a1,λk hk=>.inl (f1 k hk)⟩,qy5 _⟩,Z5,?_⟩;clear hr1 a1 f1 m1;refine⟨?_,?_⟩
  ·intro w1 hr1;refine(Z4r w1 x.wv x.wants (hr1.at_ 4 rfl) hl2).mono ?_;rintro e w2 ⟨u2,rfl,a1,f1,m1⟩;refine⟨[.v u2,.r (x.wants.map Zb)],rfl,rfl,m1,qy5 _,qy2.2 ⟨⟨a1,λk hk=>.inl (f1 k hk)⟩,qy5 _⟩,Z5,?_⟩;clear hr1 a1 f1 m1;refine⟨?_,?_⟩
   ·intro w1 hr1;refine(Z4o w1 x.av x.wat (hr1.at_ 8 rfl) hl3).mono ?_;rintro e w2 ⟨u3,rfl,a1,f1,m1⟩;refine⟨[.v u3,.r (x.wat.map Z8)],rfl,rfl,m1,qy5 _,qy2.2 ⟨⟨a1,λk hk=>.inl (f1 k hk)⟩,qy5 _⟩,Z5,?_⟩;clear hr1 a1 f1 m1;intro b;exact⟨u1,u2,u3,b,rfl⟩
   ·intro b;intro w1 hr1;refine(Z4o w1 x.av x.wat (hr1.at_ 9 rfl) hl3).mono ?_;rintro e w2 ⟨u3,rfl,a1,f1,m1⟩;refine⟨[.v u3,.r (x.wat.map Z8)],rfl,rfl,m1,qy5 _,qy2.2 ⟨⟨a1,λk hk=>.inl (f1 k hk)⟩,qy5 _⟩,Z5,?_⟩;clear hr1 a1 f1 m1;exact⟨u1,u2,u3,b,rfl⟩
  ·intro b;intro w1 hr1;refine(Z4r w1 x.wv x.wants (hr1.at_ 5 rfl) hl2).mono ?_;rintro e w2 ⟨u2,rfl,a1,f1,m1⟩;refine⟨[.v u2,.r (x.wants.map Zb)],rfl,rfl,m1,qy5 _,qy2.2 ⟨⟨a1,λk hk=>.inl (f1 k hk)⟩,qy5 _⟩,Z5,?_⟩;clear hr1 a1 f1 m1;intro w1 hr1;refine(Z4o w1 x.av x.wat (hr1.at_ 9 rfl) hl3).mono ?_;rintro e w2 ⟨u3,rfl,a1,f1,m1⟩;refine⟨[.v u3,.r (x.wat.map Z8)],rfl,rfl,m1,qy5 _,qy2.2 ⟨⟨a1,λk hk=>.inl (f1 k hk)⟩,qy5 _⟩,Z5,?_⟩;clear hr1 a1 f1 m1;exact⟨u1,u2,u3,b,rfl⟩
 ·intro b;intro w1 hr1;refine(Zel w1 x.kv x.kept (hr1.at_ 3 rfl) hl1).mono ?_;rintro e w2 ⟨u1,rfl,a1,f1,m1⟩;refine⟨[.v u1,.r (x.kept.map encK)],rfl,rfl,m1,qy5 _,qy2.2 ⟨⟨a1,λk hk=>.inl (f1 k hk)⟩,qy5 _⟩,Z5,?_⟩;clear hr1 a1 f1 m1;intro w1 hr1;refine(Z4r w1 x.wv x.wants (hr1.at_ 5 rfl) hl2).mono ?_;rintro e w2 ⟨u2,rfl,a1,f1,m1⟩;refine⟨[.v u2,.r (x.wants.map Zb)],rfl,rfl,m1,qy5 _,qy2.2 ⟨⟨a1,λk hk=>.inl (f1 k hk)⟩,qy5 _⟩,Z5,?_⟩;clear hr1 a1 f1 m1;intro w1 hr1;refine(Z4o w1 x.av x.wat (hr1.at_ 9 rfl) hl3).mono ?_;rintro e w2 ⟨u3,rfl,a1,f1,m1⟩;refine⟨[.v u3,.r (x.wat.map Z8)],rfl,rfl,m1,qy5 _,qy2.2 ⟨⟨a1,λk hk=>.inl (f1 k hk)⟩,qy5 _⟩,Z5,?_⟩;clear hr1 a1 f1 m1;exact⟨u1,u2,u3,b,rfl⟩
 rintro _ - ⟨u1,u2,u3,b,rfl⟩;simp only[QQ,Nat.reduceAdd,qy3,qy4];refine⟨Z6 [] [],λw _ t ht=>absurd ht (by simp[nest]),λj hj=>?_,?_⟩
 ·rcases Zc.1 hj with⟨t,ht,-⟩|⟨t,ht,-⟩<;>cases ht
 refine⟨λvs=>∃(i:Nat) (Y:List SesX) (u4:Value),vs=[.i i,.a (Z6 Y []),.v u1,.r (x.kept.map encK),.v u2,.r (x.wants.map Zb),.v u4,.r (Y.map Zg),.v u3,.r (x.wat.map Z8),.i x.next]/\i<=x.sx.length/\Y.map (·.1)=(x.sx.take i).map (·.1)/\(∀j,(Z6 Y []).fp j->w.heap.size<=j),λvs=>(x.sx.length - (vs.getD 0 (.i 0)).toI).toNat,⟨0,[],.slice none 0 0,rfl,by omega,rfl,λj hj=>?_⟩,?_⟩
 ·rcases Zc.1 hj with⟨t,ht,-⟩|⟨t,ht,-⟩<;>cases ht
 rintro _ - ⟨i,Y,u4,rfl,hi,hY,hfY⟩;simp only[QQ,Nat.reduceAdd,qy3,qy4];refine⟨λh1=>?_,λh1 w3 hr3=>?_⟩
 ·have hi':i<x.sx.length:=by omega
  have hYl:Y.length=i:=by have:=congrArg List.length hY;simp only[qy3,List.length_take]at this;omega
  have hrow:=Zbt hi';have hmm:=Z7i hi';have hse:(x.sx.take (i+1)).map (·.1)=(x.sx.take i).map (·.1)++[(x.sx.getD i sxD).1]:=by rw[Zvr sxD _ _ hi',List.map_append];rfl
  simp only[hrow,Zg,List.getD_cons_zero,List.getD_cons_succ,Value.gI,Value.gB,Value.gS,Z1p];generalize x.sx.getD i sxD=ss at hmm hse
  obtain⟨s,s',s''⟩:=ss;obtain⟨hf1,hf2⟩:=hl5 _ hmm;simp only at hse hf1 hf2⊢;refine⟨by omega,λb31=>?_⟩;refine⟨λvs=>∃(p1 p2 v38 v39:Value),vs=[.i 0,.i 0,.v p1,.r (s.fl.map encF),.v p2,.r (s.qu.map encF),.v v38,.v v39,.r ((Y++[(s,p1,p2)]).map Zg),.r ([((s,p1,p2):SesX)].map Zg)]/\(∀j,Z2 p1 j->w.heap.size<=j)/\(∀j,Z2 p2 j->w.heap.size<=j),⟨?_,?_⟩,?_⟩
  ·intro b32 b33;refine⟨?_,?_⟩
   ·intro w1 hr1;have hz1:=hr1.mod.size;refine(Z1d w1 s' s.fl (Zz (hr1.at_ 13 rfl:(Z6 x.sx x.ox).holds w1) hmm).1 hf1).mono ?_;rintro e w2 ⟨p1,rfl,a1,f1,m1⟩;refine⟨[.v p1,.r (s.fl.map encF)],rfl,rfl,m1,qy5 _,qy2.2 ⟨⟨a1,λk hk=>.inl (f1 k hk)⟩,qy5 _⟩,Z5,?_⟩;have n1:∀j,Z2 p1 j->w.heap.size<=j:=λj hj=>Nat.le_trans hz1 (f1 j hj);clear hr1 a1 f1 m1;intro w1 hr1;have hz2:=hr1.mod.size;refine(Z1d w1 s'' s.qu (Zz (hr1.at_ 14 rfl:(Z6 x.sx x.ox).holds w1) hmm).2 hf2).mono ?_;rintro e w2 ⟨p2,rfl,a1,f1,m1⟩;refine⟨[.v p2,.r (s.qu.map encF)],rfl,rfl,m1,qy5 _,qy2.2 ⟨⟨a1,λk hk=>.inl (f1 k hk)⟩,qy5 _⟩,Z5,?_⟩;have n2:∀j,Z2 p2 j->w.heap.size<=j:=λj hj=>Nat.le_trans hz2 (f1 j hj);clear hr1 a1 f1 m1;intro v38;refine⟨by first|omega|(simp;omega),λv39=>⟨p1,p2,v38,v39,?_,n1,n2⟩⟩;rw[List.map_append];rfl
   ·intro w1 hr1;have hz1:=hr1.mod.size;refine(Z1d w1 s' s.fl (Zz (hr1.at_ 13 rfl:(Z6 x.sx x.ox).holds w1) hmm).1 hf1).mono ?_;rintro e w2 ⟨p1,rfl,a1,f1,m1⟩;refine⟨[.v p1,.r (s.fl.map encF)],rfl,rfl,m1,qy5 _,qy2.2 ⟨⟨a1,λk hk=>.inl (f1 k hk)⟩,qy5 _⟩,Z5,?_⟩;have n1:∀j,Z2 p1 j->w.heap.size<=j:=λj hj=>Nat.le_trans hz1 (f1 j hj);clear hr1 a1 f1 m1;intro w1 hr1;have hz2:=hr1.mod.size;refine(Z1d w1 s'' s.qu (Zz (hr1.at_ 14 rfl:(Z6 x.sx x.ox).holds w1) hmm).2 hf2).mono ?_;rintro e w2 ⟨p2,rfl,a1,f1,m1⟩;refine⟨[.v p2,.r (s.qu.map encF)],rfl,rfl,m1,qy5 _,qy2.2 ⟨⟨a1,λk hk=>.inl (f1 k hk)⟩,qy5 _⟩,Z5,?_⟩;have n2:∀j,Z2 p2 j->w.heap.size<=j:=λj hj=>Nat.le_trans hz2 (f1 j hj);clear hr1 a1 f1 m1;intro v38;refine⟨by first|omega|(simp;omega),λv39=>⟨p1,p2,v38,v39,?_,n1,n2⟩⟩;rw[List.map_append];rfl
  ·intro b32 b33;refine⟨?_,?_⟩
   ·intro w1 hr1;have hz1:=hr1.mod.size;refine(Z1d w1 s' s.fl (Zz (hr1.at_ 13 rfl:(Z6 x.sx x.ox).holds w1) hmm).1 hf1).mono ?_;rintro e w2 ⟨p1,rfl,a1,f1,m1⟩;refine⟨[.v p1,.r (s.fl.map encF)],rfl,rfl,m1,qy5 _,qy2.2 ⟨⟨a1,λk hk=>.inl (f1 k hk)⟩,qy5 _⟩,Z5,?_⟩;have n1:∀j,Z2 p1 j->w.heap.size<=j:=λj hj=>Nat.le_trans hz1 (f1 j hj);clear hr1 a1 f1 m1;intro w1 hr1;have hz2:=hr1.mod.size;refine(Z1d w1 s'' s.qu (Zz (hr1.at_ 14 rfl:(Z6 x.sx x.ox).holds w1) hmm).2 hf2).mono ?_;rintro e w2 ⟨p2,rfl,a1,f1,m1⟩;refine⟨[.v p2,.r (s.qu.map encF)],rfl,rfl,m1,qy5 _,qy2.2 ⟨⟨a1,λk hk=>.inl (f1 k hk)⟩,qy5 _⟩,Z5,?_⟩;have n2:∀j,Z2 p2 j->w.heap.size<=j:=λj hj=>Nat.le_trans hz2 (f1 j hj);clear hr1 a1 f1 m1;refine⟨?_,?_⟩
    ·intro v38;refine⟨by first|omega|(simp;omega),λv39=>⟨p1,p2,v38,v39,?_,n1,n2⟩⟩;rw[List.map_append];rfl
    ·intro v38;refine⟨by first|omega|(simp;omega),λv39=>⟨p1,p2,v38,v39,?_,n1,n2⟩⟩;rw[List.map_append];rfl
   ·intro w1 hr1;have hz1:=hr1.mod.size;refine(Z1d w1 s' s.fl (Zz (hr1.at_ 13 rfl:(Z6 x.sx x.ox).holds w1) hmm).1 hf1).mono ?_;rintro e w2 ⟨p1,rfl,a1,f1,m1⟩;refine⟨[.v p1,.r (s.fl.map encF)],rfl,rfl,m1,qy5 _,qy2.2 ⟨⟨a1,λk hk=>.inl (f1 k hk)⟩,qy5 _⟩,Z5,?_⟩;have n1:∀j,Z2 p1 j->w.heap.size<=j:=λj hj=>Nat.le_trans hz1 (f1 j hj);clear hr1 a1 f1 m1;intro w1 hr1;have hz2:=hr1.mod.size;refine(Z1d w1 s'' s.qu (Zz (hr1.at_ 14 rfl:(Z6 x.sx x.ox).holds w1) hmm).2 hf2).mono ?_;rintro e w2 ⟨p2,rfl,a1,f1,m1⟩;refine⟨[.v p2,.r (s.qu.map encF)],rfl,rfl,m1,qy5 _,qy2.2 ⟨⟨a1,λk hk=>.inl (f1 k hk)⟩,qy5 _⟩,Z5,?_⟩;have n2:∀j,Z2 p2 j->w.heap.size<=j:=λj hj=>Nat.le_trans hz2 (f1 j hj);clear hr1 a1 f1 m1;refine⟨?_,?_⟩
    ·intro v38;refine⟨by first|omega|(simp;omega),λv39=>⟨p1,p2,v38,v39,?_,n1,n2⟩⟩;rw[List.map_append];rfl
    ·intro v38;refine⟨by first|omega|(simp;omega),λv39=>⟨p1,p2,v38,v39,?_,n1,n2⟩⟩;rw[List.map_append];rfl
  rintro _ - ⟨p1,p2,v38,v39,rfl,n1,n2⟩;have hfp:∀j,(Z6 (Y++[(s,p1,p2)]) []).fp j->(Z6 Y []).fp j\/((s.fl.map encF).flatten≠[]/\Z2 p1 j)\/((s.qu.map encF).flatten≠[]/\Z2 p2 j):=λj hj=>by
   rcases Zc.1 hj with⟨t,ht,hk⟩|⟨t,ht,-⟩
   ·rcases qy13.1 ht with ht|ht
    ·exact .inl (Zc.2 (.inl ⟨t,ht,hk⟩))
    ·rw[qy12.1 ht]at hk;exact .inr hk
   ·cases ht
  refine⟨by omega,by omega,Z6 (Y++[(s,p1,p2)]) [],λw3 hr3=>?_,λj hj=>?_,⟨i+1,Y++[(s,p1,p2)],v39,rfl,by omega,?_,λj hj=>?_⟩,by omega⟩
  ·refine Z19 (l:=Y) (o:=[]) (λt ht=>?_) (λt ht=>.inl ht) (hr3.at_ 5 rfl);rcases qy13.1 ht with ht|ht
   ·exact .inl ht
   ·rw[qy12.1 ht];exact .inr ⟨hr3.at_ 3 rfl,hr3.at_ 2 rfl⟩
  ·rcases hfp j hj with h|h|h
   ·exact(qE 5 rfl rfl h)
   ·exact(qE 3 rfl rfl h)
   ·exact(qE 2 rfl rfl h)
  ·rw[List.map_append,hY,hse];rfl
  ·rcases hfp j hj with h|h|h
   ·exact hfY j h
   ·exact n1 j h.2
   ·exact n2 j h.2
 ·have hie:i=x.sx.length:=by omega
  rw[hie,List.take_length]at hY;refine⟨⟨x.kept,x.wants,Y,x.wat,x.next,[],u1,u2,u4,u3,.slice none 0 0⟩,rfl,rfl,?_,((Z49 (v:=22) (Z49 (v:=24) hr3)).pick [4,3,12,2,0] (by decide)).conv rfl,λj hj=>?_,λj hj=>?_,hfY⟩
  ·simp only[TelX.tel,hY];rfl
  ·rcases hr3.own _ (qy6 (i:=4) rfl) rfl j hj with h|h
   ·exact h
   ·cases h
  ·rcases hr3.own _ (qy6 (i:=3) rfl) rfl j hj with h|h
   ·exact h
   ·cases h
open Go.RowKit
def Z9l(a b c d e f:Int):Int:=if ¬a=0 then a else if ¬b=0 then b else if ¬c=0 then c else if ¬d=0 then d else if ¬e=0 then e else f
theorem Z1fe{w:World}{b:Nat}{cs:Array Value}{t:TypeId}(h:w.heap[b]?=some (.cells cs t (0,0)))(j:Nat):w.cell? ⟨b,j,none⟩=cs[j]?:=by simp[World.cell?,h]
set_option maxRecDepth 100000 in
theorem Z1as(I:World->Prop)(b k:Nat)(c1 c2 c3 c4 c5 c6:Int) (hI:∀W,I W->∃t,W.heap[b]?=some (.cells #[.func (.func 58) #[] #[.pointer (some ⟨k,0,none⟩)],.func (.func 60) #[] #[.pointer (some ⟨k,0,none⟩)],.func (.func 62) #[] #[.pointer (some ⟨k,0,none⟩)],.func (.func 64) #[] #[.pointer (some ⟨k,0,none⟩)],.func (.func 66) #[] #[.pointer (some ⟨k,0,none⟩)],.func (.func 74) #[] #[.pointer (some ⟨k,0,none⟩)]] t (0,0))) (h1:∀W,I W->Calls Tryz.prog 58 #[.pointer (some ⟨k,0,none⟩)] W λe W'=>e=.returned (.int .i64 c1)/\I W') (h2:c1=0->∀W,I W->Calls Tryz.prog 60 #[.pointer (some ⟨k,0,none⟩)] W λe W'=>e=.returned (.int .i64 c2)/\I W') (h3:c1=0->c2=0->∀W,I W->Calls Tryz.prog 62 #[.pointer (some ⟨k,0,none⟩)] W λe W'=>e=.returned (.int .i64 c3)/\I W') (h4:c1=0->c2=0->c3=0->∀W,I W->Calls Tryz.prog 64 #[.pointer (some ⟨k,0,none⟩)] W λe W'=>e=.returned (.int .i64 c4)/\I W') (h5:c1=0->c2=0->c3=0->c4=0->∀W,I W->Calls Tryz.prog 66 #[.pointer (some ⟨k,0,none⟩)] W λe W'=>e=.returned (.int .i64 c5)/\I W') (h6:c1=0->c2=0->c3=0->c4=0->c5=0->∀W,I W->Calls Tryz.prog 74 #[.pointer (some ⟨k,0,none⟩)] W λe W'=>e=.returned (.int .i64 c6)/\I W') (w:World) (hw:I w) : Calls Tryz.prog 57 #[.slice (some ⟨b,0,none⟩) 6 6] w λe w'=>e=.returned (.int .i64 (Z9l c1 c2 c3 c4 c5 c6))/\I w':=by
 have hq:∀W,I W->W.cell? ⟨b,0,none⟩=some (.func (.func 58) #[] #[.pointer (some ⟨k,0,none⟩)])/\W.cell? ⟨b,1,none⟩=some (.func (.func 60) #[] #[.pointer (some ⟨k,0,none⟩)])/\W.cell? ⟨b,2,none⟩=some (.func (.func 62) #[] #[.pointer (some ⟨k,0,none⟩)])/\W.cell? ⟨b,3,none⟩=some (.func (.func 64) #[] #[.pointer (some ⟨k,0,none⟩)])/\W.cell? ⟨b,4,none⟩=some (.func (.func 66) #[] #[.pointer (some ⟨k,0,none⟩)])/\W.cell? ⟨b,5,none⟩=some (.func (.func 74) #[] #[.pointer (some ⟨k,0,none⟩)]):=λW hW=>by obtain⟨t,g⟩:=hI W hW;refine⟨?_,?_,?_,?_,?_,?_⟩<;>(rw[Z1fe g];rfl)
 obtain⟨q0,-⟩:=hq w hw;go_enter Tryz.func57,Tryz.ntmps57
 go_wp2
 refine wp_loop_rounds 7 ?_;rw[rounds_succ];go_wp2_with (go_at_call 58;refine(h1 _ hw).mono ?_;rintro e w1 ⟨rfl,i1⟩;obtain⟨-,q1,-⟩:=hq w1 i1)
 ·go_ret
  exact⟨by unfold Z9l;simp_all,i1⟩
 have z1:c1=0:=by simp_all
 rw[rounds_succ];go_wp2_with (go_at_call 60;refine(h2 z1 _ i1).mono ?_;rintro e w2 ⟨rfl,i2⟩;obtain⟨-,-,q2,-⟩:=hq w2 i2)
 ·go_ret
  exact⟨by unfold Z9l;simp_all,i2⟩
 have z2:c2=0:=by simp_all
 rw[rounds_succ];go_wp2_with (go_at_call 62;refine(h3 z1 z2 _ i2).mono ?_;rintro e w3 ⟨rfl,i3⟩;obtain⟨-,-,-,q3,-⟩:=hq w3 i3)
 ·go_ret
  exact⟨by unfold Z9l;simp_all,i3⟩
 have z3:c3=0:=by simp_all
 rw[rounds_succ];go_wp2_with (go_at_call 64;refine(h4 z1 z2 z3 _ i3).mono ?_;rintro e w4 ⟨rfl,i4⟩;obtain⟨-,-,-,-,q4,-⟩:=hq w4 i4)
 ·go_ret
  exact⟨by unfold Z9l;simp_all,i4⟩
 have z4:c4=0:=by simp_all
 rw[rounds_succ];go_wp2_with (go_at_call 66;refine(h5 z1 z2 z3 z4 _ i4).mono ?_;rintro e w5 ⟨rfl,i5⟩;obtain⟨-,-,-,-,-,q5⟩:=hq w5 i5)
 ·go_ret
  exact⟨by unfold Z9l;simp_all,i5⟩
 have z5:c5=0:=by simp_all
 rw[rounds_succ];go_wp2_with (go_at_call 74;refine(h6 z1 z2 z3 z4 z5 _ i5).mono ?_;rintro e w6 ⟨rfl,i6⟩)
 ·go_ret
  exact⟨by unfold Z9l;simp_all,i6⟩
 have z6:c6=0:=by simp_all
 rw[rounds_succ];go_wp2
 go_ret
 exact⟨by unfold Z9l;simp_all,i6⟩
structure SmlB(x:TelX):Prop where
 kept:Zfz x.kept
 keptL:x.kept.length<1000000000
 wants:Z30 x.wants
 wantsL:x.wants.length<1000000000
 sess:∀t∈x.sx,Zgu t.1
 sessL:x.sx.length<1000000
 wat:Z78 x.wat
 watL:x.wat.length<1000000000
theorem Zt7(w:World)(o o':Obj):((w.alloc o).alloc o').heap[w.heap.size]?=some o/\((w.alloc o).alloc o').heap[w.heap.size+1]?=some o':=by
 have h:((w.alloc o).alloc o').heap=(w.heap.push o).push o':=rfl;rw[h];constructor
 ·rw[Array.getElem?_push_lt (by simp)];simp
 ·rw[show w.heap.size+1=(w.heap.push o).size by simp,Array.getElem?_push_size]
theorem Z15y{w:World}{x:TelX}(hr:Rel ⟨[],w⟩ (bkA x) bkH w)(o:Obj) : Rel ⟨Zl (bcA w.heap.size x) bcH,(w.alloc (.cells #[sc1 x.kv,sc1 x.wv,sc1 x.sv,sc1 x.av,.int .i64 x.next] 27)).alloc o⟩ (bcA w.heap.size x) bcH ((w.alloc (.cells #[sc1 x.kv,sc1 x.wv,sc1 x.sv,sc1 x.av,.int .i64 x.next] 27)).alloc o):=by
  have h0:=((hr.alloc (.cells #[sc1 x.kv,sc1 x.wv,sc1 x.sv,sc1 x.av,.int .i64 x.next] 27)).alloc o).ext (Zx.app (bkA x) [V.n w.heap.size]) (rfl:bkH.all (Ent.bd 10)=true);have h1:=h0.cons (e:=.cells 10 27 [.val (.var 0),.val (.var 2),.val (.var 4),.val (.var 7),.int .i64 (.var 9)]) (Zt7 w _ o).1
    (λ_ j hj=>.inl (by rw[show j=w.heap.size from hj];exact Nat.le_refl _))
    (λe' he' _ j hj hj'=>by rw[show j=w.heap.size from hj]at hj';have hb:e'.bd 10=true:=List.all_eq_true.1 (rfl:bkH.all (Ent.bd 10)=true) e' he';have:=Ent.bound (hr.holds e' he') ((Ent.fp_bd (Zx.app (bkA x) [V.n w.heap.size]) e' hb _).2 hj');omega)
  exact(Rel.conv (J':=bcA w.heap.size x) (hp':=bcH) (h1.pick [1,2,3,4,5,0] (by decide)) rfl).base
theorem Zd5{w0 w w':World}{k:Nat}{x:TelX}(h:Rel ⟨Zl (bcA k x) bcH,w0⟩ (bcA k x) bcH w)(h':Rel ⟨Zl (bcA k x) bcH,w⟩ (bcA k x) bcH w'):Rel ⟨Zl (bcA k x) bcH,w0⟩ (bcA k x) bcH w' :=
 ⟨h.mod.trans h'.mod (λj hj=>.inl hj),h'.holds,h.own,h'.sep⟩
theorem Z118(x:TelX):Z9l (chkK x.kept) (Zi x.wants) (Z5g x.tel.sess) (Z10 x.wat) (if Z16 x.tel=true then 4 else 0) (if x.next<0\/65535<x.next then 3 else 0)=chkB x.tel:=by
 unfold Z9l chkB;simp only[TelX.tel];by_cases h1:chkK x.kept=0
 ·by_cases h2:Zi x.wants=0
  ·by_cases h3:Z5g (x.sx.map (·.1))=0
   ·by_cases h4:Z10 x.wat=0
    ·by_cases h5:Z16 ⟨x.kept,x.wants,x.sx.map (·.1),x.wat,x.next,x.ox.map (·.1)⟩=true
     ·simp[h1,h2,h3,h4,h5]
     ·by_cases h6:x.next<0\/65535<x.next
      ·simp only[h1,h2,h3,h4,h5,if_pos h6,not_true,if_false,ite_false];simp;exact(if_pos h6).symm
      ·simp only[h1,h2,h3,h4,h5,if_neg h6,not_true,if_false,ite_false];simp;exact(if_neg h6).symm
    ·simp[h1,h2,h3,h4]
   ·simp[h1,h2,h3]
  ·simp[h1,h2]
 ·simp[h1]
set_option maxRecDepth 100000 in
theorem Z6t(w:World)(x:TelX)(hr:Rel ⟨[],w⟩ (bkA x) bkH w)(ho:x.ox=[])(hs:SmlB x) : Calls Tryz.prog 28 #[bkV x] w λe w'=>e=.returned (.int .i64 (chkB x.tel))/\Mod [] w w':=by
  have hst:=Z15y hr (.cells #[.func (.func 58) #[] #[.pointer (some ⟨w.heap.size,0,none⟩)],.func (.func 60) #[] #[.pointer (some ⟨w.heap.size,0,none⟩)],.func (.func 62) #[] #[.pointer (some ⟨w.heap.size,0,none⟩)],.func (.func 64) #[] #[.pointer (some ⟨w.heap.size,0,none⟩)],.func (.func 66) #[] #[.pointer (some ⟨w.heap.size,0,none⟩)],.func (.func 74) #[] #[.pointer (some ⟨w.heap.size,0,none⟩)]] 124);have hb:∀W,Rel ⟨Zl (bcA w.heap.size x) bcH,(w.alloc (.cells #[sc1 x.kv,sc1 x.wv,sc1 x.sv,sc1 x.av,.int .i64 x.next] 27)).alloc (.cells #[.func (.func 58) #[] #[.pointer (some ⟨w.heap.size,0,none⟩)],.func (.func 60) #[] #[.pointer (some ⟨w.heap.size,0,none⟩)],.func (.func 62) #[] #[.pointer (some ⟨w.heap.size,0,none⟩)],.func (.func 64) #[] #[.pointer (some ⟨w.heap.size,0,none⟩)],.func (.func 66) #[] #[.pointer (some ⟨w.heap.size,0,none⟩)],.func (.func 74) #[] #[.pointer (some ⟨w.heap.size,0,none⟩)]] 124)⟩ (bcA w.heap.size x) bcH W->∃t,W.heap[w.heap.size+1]?=some (.cells #[.func (.func 58) #[] #[.pointer (some ⟨w.heap.size,0,none⟩)],.func (.func 60) #[] #[.pointer (some ⟨w.heap.size,0,none⟩)],.func (.func 62) #[] #[.pointer (some ⟨w.heap.size,0,none⟩)],.func (.func 64) #[] #[.pointer (some ⟨w.heap.size,0,none⟩)],.func (.func 66) #[] #[.pointer (some ⟨w.heap.size,0,none⟩)],.func (.func 74) #[] #[.pointer (some ⟨w.heap.size,0,none⟩)]] t (0,0)):=λW hW =>
    ⟨_,(hW.mod.block (w.heap.size+1) (by show w.heap.size+1<((w.heap.push _).push _).size;simp) (by simp[Zl,Ent.fpl])).trans (Zt7 w _ _).2⟩
  have hk3:Z5g x.tel.sess=0->Z5e x.tel.sess:=λh=>(Z6q.1 h).2.2;have run:=Z1as _ (w.heap.size+1) w.heap.size (chkK x.kept) (Zi x.wants) (Z5g x.tel.sess) (Z10 x.wat) (if Z16 x.tel=true then 4 else 0) (if x.next<0\/65535<x.next then 3 else 0) hb
    (λW hW=>(Z1dh W _ x hW.base hs.kept hs.keptL).mono λe w' h=>⟨h.1,Zd5 hW h.2⟩)
    (λ_ W hW=>(Z1di W _ x hW.base hs.wants hs.wantsL).mono λe w' h=>⟨h.1,Zd5 hW h.2⟩)
    (λ_ _ W hW=>(Z1dn W _ x hW.base ho hs.sess).mono λe w' h=>⟨h.1,Zd5 hW h.2⟩)
    (λ_ _ _ W hW=>(Z1dj W _ x hW.base hs.wat hs.watL).mono λe w' h=>⟨h.1,Zd5 hW h.2⟩)
    (λh1 _ h3 _ W hW=>(Z1dl W _ x hW.base h1 (hk3 h3) (by have:=hs.sessL;omega) hs.wantsL hs.watL).mono λe w' h=>⟨h.1,Zd5 hW h.2⟩)
    (λ_ _ _ _ _ W hW=>(Z1dk W _ x hW.base).mono λe w' h=>⟨h.1,Zd5 hW h.2⟩)
    _ hst
  rw[Z118]at run;clear hb hk3;have hm:∀{w'},Rel ⟨Zl (bcA w.heap.size x) bcH,(w.alloc (.cells #[sc1 x.kv,sc1 x.wv,sc1 x.sv,sc1 x.av,.int .i64 x.next] 27)).alloc (.cells #[.func (.func 58) #[] #[.pointer (some ⟨w.heap.size,0,none⟩)],.func (.func 60) #[] #[.pointer (some ⟨w.heap.size,0,none⟩)],.func (.func 62) #[] #[.pointer (some ⟨w.heap.size,0,none⟩)],.func (.func 64) #[] #[.pointer (some ⟨w.heap.size,0,none⟩)],.func (.func 66) #[] #[.pointer (some ⟨w.heap.size,0,none⟩)],.func (.func 74) #[] #[.pointer (some ⟨w.heap.size,0,none⟩)]] 124)⟩ (bcA w.heap.size x) bcH w'->Mod [] w w':=λ{w'} h =>
    ((Mod.alloc [] w _).trans (Mod.alloc [] _ _) (λj hj=>.inl hj)).trans h.mod (λj hj=>.inr (by simp only[Zl,bcH,List.flatMap_cons,List.flatMap_nil,Ent.fpl,List.append_nil,List.nil_append,qy12]at hj;rw[hj];exact Nat.le_refl _))
  simp only[bkV];generalize sc1 x.kv=v1 at run hm⊢
  generalize sc1 x.wv=v2 at run hm⊢
  generalize sc1 x.sv=v3 at run hm⊢
  generalize sc1 x.av=v4 at run hm⊢
  generalize chkB x.tel=cc at run⊢
  go_enter Tryz.func28,Tryz.ntmps28
  go_wp2_with (go_at_call 57;refine run.mono ?_;rintro e w1 ⟨rfl,i1⟩)
  go_ret
  exact⟨rfl,hm i1⟩
structure RdX(w:World)(y:TelX):Prop where
 kept:reads w y.kv kK (y.kept.map encK)
 want:reads w y.wv kW_V (y.wants.map Zb)
 sess:reads w y.sv kSx (y.sx.map Zg)
 nest:(Z6 y.sx y.ox).holds w
 wat:reads w y.av kW_K (y.wat.map Z8)
theorem RdX.rel{w:World}{x:TelX}(h:RdX w x):Rel ⟨[],w⟩ (bkA x) bkH w :=
 Rel.start2 (qy2.2 ⟨⟨h.kept,rfl⟩,qy2.2 ⟨⟨h.want,rfl⟩,qy2.2 ⟨⟨h.sess,rfl⟩,qy2.2 ⟨⟨h.nest,rfl⟩,qy2.2 ⟨⟨h.wat,rfl⟩,qy5 _⟩⟩⟩⟩⟩)
structure RdB(n:Nat)(w:World)(y:TelX):Prop where
 kept:reads w y.kv kK (y.kept.map encK)
 want:reads w y.wv kW_V (y.wants.map Zb)
 sess:reads w y.sv kSx (y.sx.map Zg)
 wat:reads w y.av kW_K (y.wat.map Z8)
 out:reads w y.ov kSn (y.ox.map Z1r)
 nest:(Z6 y.sx y.ox).holds w
 nk:∀j,(y.kept.map encK).flatten≠[]->Z2 y.kv j->n<=j
 nw:∀j,(y.wants.map Zb).flatten≠[]->Z2 y.wv j->n<=j
 ns:∀j,(y.sx.map Zg).flatten≠[]->Z2 y.sv j->n<=j
 na:∀j,(y.wat.map Z8).flatten≠[]->Z2 y.av j->n<=j
 no:∀j,(y.ox.map Z1r).flatten≠[]->Z2 y.ov j->n<=j
 nn:∀j,(Z6 y.sx y.ox).fp j->n<=j
def Zl7(w w':World)(r:Ending)(e:Int)(t:Tel):Prop :=
 ∃y:TelX,r=.returned (.tuple #[bkV y,sc1 y.ov,.int .i64 e])/\y.tel=t/\RdB w.heap.size w' y/\Mod [] w w'
def telN:Tel:=⟨[],[],[],[],0,[]⟩
abbrev Znp:TelX:=⟨[],[],[],[],0,[],.slice none 0 0,.slice none 0 0,.slice none 0 0,.slice none 0 0,.slice none 0 0⟩
theorem Znq:∀j,¬(Z6 [] []).fp j:=λj hj=>by rcases Zc.1 hj with⟨t,ht,-⟩|⟨t,ht,-⟩<;>cases ht
theorem Z7q(w:World):(Z6 [] []).holds w:=λt ht=>absurd ht (by simp[nest])
theorem Zl8(n:Nat)(w:World):RdB n w Znp :=
 ⟨Z9 w _,Z9 w _,Z9 w _,Z9 w _,Z9 w _,Z7q w,λj h=>absurd rfl h,λj h=>absurd rfl h,λj h=>absurd rfl h,λj h=>absurd rfl h,λj h=>absurd rfl h,λj hj=>absurd hj (Znq j)⟩
abbrev owEs(n:Nat):List Ent:=[.rd n kK (.var (n+1)),.rd (n+2) kW_V (.var (n+3)),.row (n+4) 50 kSx (.var (n+5)),.row (n+6) 97 kW_K (.var (n+7)),.st (n+9)]
theorem Zd6{J:List V}{vs:List V}{n:Nat}(hn:J.length=n)(i:Nat):(J++vs).getD (n+i) (.i 0)=vs.getD i (.i 0):=by subst hn;rw[qy1,qy1,List.getElem?_append_right (by simp)];simp
theorem Z1do{J:List V}{y:TelX}{n:Nat}(hn:J.length=n):owH.map (Ent.sem (owA y))=(owEs n).map (Ent.sem (J++owA y)):=by have g:=Zd6 (vs:=owA y) hn;have g0:(J++owA y).getD n (.i 0)=.v y.kv:=g 0;simp only[owH,owEs,List.map_cons,List.map_nil,Ent.sem,Ent.holds,Ent.fp,Ent.wr,X.ev,g0,g 1,g 2,g 3,g 4,g 5,g 6,g 7,g 9];rfl
theorem Znr{P:Program}{f:Nat}{args:Array Value}{w:World}{B:Base}{J:List V}{hp:List Ent}{x:TelX}(h0:Rel B J hp w)(n:Nat) (h:Calls P f args w λe w1=>Z116 w w1 e x) (hn:J.length=n) : Calls P f args w λe w1=>∃y:TelX,y.ox=[]/\y.tel={ x.tel with out:=[] }/\((∀j,Z2 y.kv j->w.heap.size<=j)/\(∀j,Z2 y.wv j->w.heap.size<=j)/\(∀j,(Z6 y.sx y.ox).fp j->w.heap.size<=j))/\e=.returned (bkV y)/\Mod (Zm J [] []) w w1 /\
    (∀x∈owEs n,x.holds (J++owA y) w1/\∀k,x.fp (J++owA y) k->w.heap.size<=k\/(x.wr=false/\∃y∈hp,y.wr=false/\y.fp J k)\/k∈Zt J [])/\Zp (J++owA y) (owEs n):=by
 refine h.mono ?_;rintro e w1 ⟨y,he,h1,h2,hq,f1,f2,f3⟩;have hs:=Z1do (y:=y) hn;have hq':=hq.conv hs;refine⟨y,h1,h2,⟨f1,f2,f3⟩,he,hq'.mod,λx hx=>⟨hq'.holds x hx,λj hj=>.inl ?_⟩,hq'.sep⟩;cases hw:x.wr with
 | true =>
  rcases hq'.own x hx hw j hj with h5|h5
  ·exact h5
  ·cases h5
 | false =>
  have h3:Ent.sem (J++owA y) x∈owH.map (Ent.sem (owA y)):=by rw[hs];exact List.mem_map_of_mem hx
  obtain⟨e',he',hee⟩:=List.mem_map.1 h3;have hw':e'.wr=false:=(congrArg SEnt.wr hee).trans hw;have hj':e'.fp (owA y) j:=(congrFun (congrArg SEnt.fp hee) j).mpr hj;simp only[owH,List.mem_cons,List.not_mem_nil,or_false]at he';rcases he' with rfl|rfl|rfl|rfl|rfl
  ·exact f1 j hj'.2
  ·exact f2 j hj'.2
  ·cases hw'
  ·cases hw'
  ·exact f3 j hj'
def pktE(c:List UInt8)(p:Pkt)(t:Tel):Int:=if ¬chkB t=0 then chkB t else if ¬Zd c=true then 1 else chkP p
def resB(e:Int)(t:Tel):Tel:=if e=0 then t else telN
theorem Zd7{w w':World}{e:Int}{t:Tel}(he:¬e=0)(hm:Mod [] w w'):Zl7 w w' (.returned (.tuple #[bkV Znp,sc1 (.slice none 0 0),.int .i64 e])) e (resB e t) :=
 ⟨Znp,rfl,by rw[resB,if_neg he];rfl,Zl8 _ _,hm⟩
theorem Zl9{n m:Nat}{x y:TelX}(h:Grew m (λ_=>False) x y)(hm:n<=m)(hx:(∀j,Z2 x.kv j->n<=j)/\(∀j,Z2 x.wv j->n<=j)/\(∀j,(Z6 x.sx x.ox).fp j->n<=j)) : (∀j,(y.kept.map encK).flatten≠[]->Z2 y.kv j->n<=j)/\(∀j,(y.wants.map Zb).flatten≠[]->Z2 y.wv j->n<=j)/\(∀j,(Z6 y.sx y.ox).fp j->n<=j):=by
 refine⟨λj h1 h2=>?_,λj h1 h2=>?_,λj h1=>?_⟩
 ·rcases h.kept j ⟨h1,h2⟩with h3|h3
  ·omega
  ·exact hx.1 j h3.2
 ·rcases h.want j ⟨h1,h2⟩with h3|h3
  ·omega
  ·exact hx.2.1 j h3.2
 ·rcases h.nest j h1 with h3|h3|h3
  ·omega
  ·exact hx.2.2 j h3
  ·exact h3.elim
theorem Zt8{n:Nat}{w:World}{y:TelX}{J:List V}{hp:List Ent}{w0:World}(hr:Rel ⟨[],w0⟩ J hp w)(hn:n=w0.heap.size) (h1:reads w y.kv kK (y.kept.map encK)) (h2:reads w y.wv kW_V (y.wants.map Zb)) (h3:owns w y.sv 50 kSx (y.sx.map Zg)) (h4:owns w y.av 97 kW_K (y.wat.map Z8)) (h5:owns w y.ov 111 kSn (y.ox.map Z1r)) (h6:(Z6 y.sx y.ox).holds w) (f:(∀j,(y.kept.map encK).flatten≠[]->Z2 y.kv j->n<=j)/\(∀j,(y.wants.map Zb).flatten≠[]->Z2 y.wv j->n<=j)/\(∀j,(Z6 y.sx y.ox).fp j->n<=j)) (g3:∀j,Z2 y.sv j->n<=j) (g4:∀j,Z2 y.av j->n<=j) (g5:∀j,Z2 y.ov j->n<=j):RdB n w y :=
 ⟨h1,h2,h3.reads,h4.reads,h5.reads,h6,f.1,f.2.1,λj _ h=>g3 j h,λj _ h=>g4 j h,λj _ h=>g5 j h,f.2.2⟩
theorem Z20{w0 w:World}{J:List V}{hp:List Ent}(hr:Rel ⟨[],w0⟩ J hp w)(i:Nat){v ty:Nat}{ks:List Kd}{r:X}(h:hp[i]?=some (.row v ty ks r)):∀j,Z2 (J.getD v (.i 0)).toV j->w0.heap.size<=j:=λj hj=>by
 rcases hr.own _ (qy6 h) rfl j hj with h|h
 ·exact h
 ·cases h
theorem Zns(w:World)(x:TelX)(c:List UInt8)(p:Pkt)(va vc:Value)(hr:Rel ⟨[],w⟩ (bkA x++Z6s c p va vc) (bkH++[.rd 23 [.str,.int .i64] (.var 24),.rd 25 [.int .i64] (.var 26)]) w)(ho:x.ox=[])(hs:SmlB x)(hl5:∀t∈x.sx,t.1.fl.length<1000000000/\t.1.qu.length<1000000000)(hc:c.length<1099511627776)(hp:SmallP p) : Calls Tryz.prog 126 #[bkV x,.string ⟨c.toArray⟩,Zvw p va vc] w λe w'=>Zl7 w w' e (pktE c p x.tel) (resB (pktE c p x.tel) (Zy c p x.tel)):=by
 refine Z1 (Z3 (J:=bkA x++Z6s c p va vc) sxE_ok Tryz.func126 Zbu rfl rfl hr rfl rfl ?_) rfl;simp only[QQ,Nat.reduceAdd,qy3,qy4];intro b27 b28 b29 b30;refine⟨[.i (chkB x.tel)],rfl,λ_ w' hr=>Z6t w' x (RdX.rel ⟨hr.at_ 5 rfl,hr.at_ 6 rfl,hr.at_ 7 rfl,hr.at_ 8 rfl,hr.at_ 9 rfl⟩) ho hs,?_⟩;simp only[QQ,Nat.reduceAdd,qy3,qy4];refine⟨[.b (Zd c)],rfl,λ_ w' hr=>Zba w' c hc,?_⟩;simp only[QQ,Nat.reduceAdd,qy3,qy4];refine⟨λh1=>⟨λh2 w3 hr3=>?_,λh2=>absurd h2 (by decide)⟩,λh1=>⟨λh2=>?_,λh2 w3 hr3=>?_⟩⟩
 ·have e:pktE c p x.tel=1:=by rw[pktE,if_neg (qy9.2 h1.1),if_pos h1.2]
  rw[e];exact Zd7 (by decide) hr3.mod
 ·have hcl:Zd c=true:=Classical.byContradiction λh3=>h1 ⟨h2,h3⟩;have e:pktE c p x.tel=chkP p:=by rw[pktE,if_neg (qy9.2 h2),if_neg (qy9.2 hcl)]
  rw[e];refine⟨[.i (chkP p)],rfl,λ_ w' hr=>Zer w' p va vc (hr.at_ 10 rfl) (hr.at_ 11 rfl) hp,?_⟩;simp only[QQ,Nat.reduceAdd,qy3,qy4];refine⟨λh3 w3 hr3=>Zd7 h3 hr3.mod,λh3=>?_⟩;have h3:=qy9.1 h3;have hB:=Z1z.1 h2;intro b35 b36 w1 hr1;refine(Znr hr1 38 (Z117 w1 x (RdX.rel ⟨hr1.at_ 8 rfl,hr1.at_ 9 rfl,hr1.at_ 10 rfl,hr1.at_ 11 rfl,hr1.at_ 12 rfl⟩) hs.keptL hs.wantsL hs.watL hs.sessL hl5) rfl).mono ?_;rintro e w2 ⟨⟨yk,yw,ys,ya,yn,yo,v1,v2,v3,v4,v5⟩,y1,y2,yf,rfl,m1,m3,m4⟩;simp only at y1;subst y1;refine⟨owA ⟨yk,yw,ys,ya,yn,[],v1,v2,v3,v4,v5⟩,rfl,rfl,m1,qy5 _,m3,m4,?_⟩;have hz1:=hr1.mod.size;clear m1 m3 m4;have hyt:TelX.tel ⟨yk,yw,ys,ya,yn,[],v1,v2,v3,v4,.slice none 0 0⟩=x.tel:=by rw[show TelX.tel ⟨yk,yw,ys,ya,yn,[],v1,v2,v3,v4,.slice none 0 0⟩=TelX.tel ⟨yk,yw,ys,ya,yn,[],v1,v2,v3,v4,v5⟩ from rfl,y2];simp only[TelX.tel,ho,List.map_nil]
  intro b48 w3 hr3;refine(Z3g (k:=b48) (x:=⟨yk,yw,ys,ya,yn,[],v1,v2,v3,v4,.slice none 0 0⟩) (F:=λ_=>False) (pre:=[]) hr3 49 48 [42,44]
   (Z15w w3 b48 ⟨yk,yw,ys,ya,yn,[],v1,v2,v3,v4,.slice none 0 0⟩ c p va vc (((hr3.pick [1,2,3,4,6,5,0,19,20] (by decide)).conv rfl).base.conv rfl) (by rw[hyt];exact hB) (by show(0:Nat)<40000;decide) hcl h3)
   rfl rfl (by show 48<49;decide) rfl (λj hj=>?_)).mono ?_
  ·rcases hj with hj|hj|hj|hj
   ·exact(qE 1 rfl rfl hj)
   ·exact(qE 2 rfl rfl hj)
   ·exact(qE 5 rfl rfl hj)
   ·exact hj.elim
  rintro e w4 ⟨z,z1,z2,zg,rfl,m1,m2,m3,m4⟩;refine⟨tlV z,rfl,rfl,m1,m2,m3,m4,?_⟩;have hz3:=hr3.mod.size;clear m1 m2 m3 m4;intro b61 w5 hr5;have hnew:=Zl9 zg hz3 ⟨λj h=>Nat.le_trans hz1 (yf.1 j h),λj h=>Nat.le_trans hz1 (yf.2.1 j h),λj h=>Nat.le_trans hz1 (yf.2.2 j h)⟩;refine⟨z,by rw[h3];rfl,?_,Zt8 hr5 rfl (hr5.at_ 1 rfl) (hr5.at_ 2 rfl) (hr5.at_ 3 rfl) (hr5.at_ 4 rfl) (hr5.at_ 5 rfl) (hr5.at_ 6 rfl) hnew (Z20 hr5 3 rfl) (Z20 hr5 4 rfl) (Z20 hr5 5 rfl),hr5.mod⟩;rw[resB,if_pos h3,z1,hyt]
 ·have e:pktE c p x.tel=chkB x.tel:=by rw[pktE,if_pos h2]
  rw[e];exact Zd7 h2 hr3.mod
def Zqc(w w':World)(r:Ending)(e:Int)(t:Tel):Prop :=
 ∃y:TelX,r=.returned (.tuple #[bkV y,.int .i64 e])/\y.ox=[]/\y.tel=t/\RdB w.heap.size w' y/\Mod [] w w'
def gonE(c:List UInt8)(t:Tel):Int:=if ¬chkB t=0 then chkB t else if ¬Zd c=true then 1 else 0
theorem Z119{w w':World}{e:Int}{t:Tel}(he:¬e=0)(hm:Mod [] w w'):Zqc w w' (.returned (.tuple #[bkV Znp,.int .i64 e])) e (resB e t) :=
 ⟨Znp,rfl,rfl,by rw[resB,if_neg he];rfl,Zl8 _ _,hm⟩
theorem Z1dp{z:TelX}{t:Tel}(h:z.tel=t)(ho:t.out=[]):z.ox=[]:=by rw[<- h]at ho;simpa[TelX.tel]using ho
theorem Z1at(w:World)(x:TelX)(c:List UInt8)(hr:Rel ⟨[],w⟩ (bkA x++[.s c]) bkH w)(ho:x.ox=[])(hs:SmlB x)(hl5:∀t∈x.sx,t.1.fl.length<1000000000/\t.1.qu.length<1000000000)(hc:c.length<1099511627776) : Calls Tryz.prog 127 #[bkV x,.string ⟨c.toArray⟩] w λe w'=>Zqc w w' e (gonE c x.tel) (resB (gonE c x.tel) (Z5f c x.tel)):=by
 refine Z1 (Z3 (J:=bkA x++[.s c]) sxE_ok Tryz.func127 Ze5 rfl rfl hr rfl rfl ?_) rfl;simp only[QQ,Nat.reduceAdd,qy3,qy4];intro b11 b12 b13;refine⟨[.i (chkB x.tel)],rfl,λ_ w' hr=>Z6t w' x (RdX.rel ⟨hr.at_ 3 rfl,hr.at_ 4 rfl,hr.at_ 5 rfl,hr.at_ 6 rfl,hr.at_ 7 rfl⟩) ho hs,?_⟩;simp only[QQ,Nat.reduceAdd,qy3,qy4];refine⟨[.b (Zd c)],rfl,λ_ w' hr=>Zba w' c hc,?_⟩;simp only[QQ,Nat.reduceAdd,qy3,qy4];refine⟨λh1=>⟨λh2 w3 hr3=>?_,λh2=>absurd h2 (by decide)⟩,λh1=>⟨λh2 w3 hr3=>?_,λh2=>?_⟩⟩
 ·have e:gonE c x.tel=1:=by rw[gonE,if_neg (qy9.2 h1.1),if_pos h1.2]
  rw[e];exact Z119 (by decide) hr3.mod
 ·have e:gonE c x.tel=chkB x.tel:=by rw[gonE,if_pos h2]
  rw[e];exact Z119 h2 hr3.mod
 ·have h2:=qy9.1 h2;have hcl:Zd c=true:=Classical.byContradiction λh3=>h1 ⟨h2,h3⟩;have e:gonE c x.tel=0:=by rw[gonE,if_neg (qy9.2 h2),if_neg (qy9.2 hcl)]
  rw[e];have hB:=Z1z.1 h2;intro b16 b17 w1 hr1;refine(Znr hr1 19 (Z117 w1 x (RdX.rel ⟨hr1.at_ 6 rfl,hr1.at_ 7 rfl,hr1.at_ 8 rfl,hr1.at_ 9 rfl,hr1.at_ 10 rfl⟩) hs.keptL hs.wantsL hs.watL hs.sessL hl5) rfl).mono ?_;rintro e w2 ⟨⟨yk,yw,ys,ya,yn,yo,v1,v2,v3,v4,v5⟩,y1,y2,yf,rfl,m1,m3,m4⟩;simp only at y1;subst y1;refine⟨owA ⟨yk,yw,ys,ya,yn,[],v1,v2,v3,v4,v5⟩,rfl,rfl,m1,qy5 _,m3,m4,?_⟩;have hz1:=hr1.mod.size;clear m1 m3 m4;have hyt:TelX.tel ⟨yk,yw,ys,ya,yn,[],v1,v2,v3,v4,.slice none 0 0⟩=x.tel:=by rw[show TelX.tel ⟨yk,yw,ys,ya,yn,[],v1,v2,v3,v4,.slice none 0 0⟩=TelX.tel ⟨yk,yw,ys,ya,yn,[],v1,v2,v3,v4,v5⟩ from rfl,y2];simp only[TelX.tel,ho,List.map_nil]
  intro b29 w3 hr3;refine(Z3g (k:=b29) (x:=⟨yk,yw,ys,ya,yn,[],v1,v2,v3,v4,.slice none 0 0⟩) (F:=λ_=>False) (pre:=[]) hr3 30 29 [23,25]
   (Z17a w3 b29 ⟨yk,yw,ys,ya,yn,[],v1,v2,v3,v4,.slice none 0 0⟩ c (((hr3.pick [1,2,3,4,6,5,0] (by decide)).conv rfl).base.conv rfl) (by rw[hyt];exact hB) (by show(0:Nat)<100000;decide))
   rfl rfl (by show 29<30;decide) rfl (λj hj=>?_)).mono ?_
  ·rcases hj with hj|hj|hj|hj
   ·exact(qE 1 rfl rfl hj)
   ·exact(qE 2 rfl rfl hj)
   ·exact(qE 5 rfl rfl hj)
   ·exact hj.elim
  rintro e w4 ⟨z,z1,z2,zg,rfl,m1,m2,m3,m4⟩;refine⟨tlV z,rfl,rfl,m1,m2,m3,m4,?_⟩;have hz3:=hr3.mod.size;clear m1 m2 m3 m4;intro b42 w5 hr5;have hnew:=Zl9 zg hz3 ⟨λj h=>Nat.le_trans hz1 (yf.1 j h),λj h=>Nat.le_trans hz1 (yf.2.1 j h),λj h=>Nat.le_trans hz1 (yf.2.2 j h)⟩;rw[hyt]at z1;refine⟨z,rfl,Z1dp z1 ((Z7p hB c).2.trans (by simp[TelX.tel,ho])),by rw[resB,if_pos rfl,z1],Zt8 hr5 rfl (hr5.at_ 1 rfl) (hr5.at_ 2 rfl) (hr5.at_ 3 rfl) (hr5.at_ 4 rfl) (hr5.at_ 5 rfl) (hr5.at_ 6 rfl) hnew (Z20 hr5 3 rfl) (Z20 hr5 4 rfl) (Z20 hr5 5 rfl),hr5.mod⟩
def msgE(n:Int)(m:Msg)(t:Tel):Int:=if ¬chkB t=0 then chkB t else if ¬(0<=n/\n<=9)then 3 else chk m
theorem Zj7(w:World)(x:TelX)(n:Int)(m:Msg)(mv:Value)(hr:Rel ⟨[],w⟩ (bkA x++([.i n]++mgV m mv)) (bkH++[.rd 15 [.int .i64,.str] (.var 16)]) w)(ho:x.ox=[])(hs:SmlB x)(hl5:∀t∈x.sx,t.1.fl.length<1000000000/\t.1.qu.length<1000000000)(hm1:m.opts.length<1099511627776)(hm2:m.tok.length<1099511627776)(hm3:m.pay.length<1099511627776) : Calls Tryz.prog 124 #[bkV x,.int .i64 n,mV m (sc1 mv)] w λe w'=>Zl7 w w' e (msgE n m x.tel) (resB (msgE n m x.tel) (Z1e n m x.tel)):=by
 refine Z1 (Z3 (J:=bkA x++([.i n]++mgV m mv)) sxE_ok Tryz.func124 Za9 rfl rfl hr rfl rfl ?_) rfl;simp only[QQ,Nat.reduceAdd,qy3,qy4];intro b18 b19 b20 b21;refine⟨[.i (chkB x.tel)],rfl,λ_ w' hr=>Z6t w' x (RdX.rel ⟨hr.at_ 5 rfl,hr.at_ 6 rfl,hr.at_ 7 rfl,hr.at_ 8 rfl,hr.at_ 9 rfl⟩) ho hs,?_⟩;simp only[QQ,Nat.reduceAdd,qy3,qy4];refine⟨λh1=>⟨λh2=>⟨λh3 w3 hr3=>?_,λh3=>absurd h3 (by decide)⟩,λh2=>?_⟩,λh1 w3 hr3=>?_⟩
 ·have e:msgE n m x.tel=3:=by rw[msgE,if_neg (qy9.2 h1),if_pos h2]
  rw[e];exact Zd7 (by decide) hr3.mod
 ·have hn:=qy9.1 h2;have e:msgE n m x.tel=chk m:=by rw[msgE,if_neg (qy9.2 h1),if_neg h2]
  rw[e];refine⟨[.i (chk m)],rfl,λ_ w' hr=>Zpv w' m mv (hr.at_ 10 rfl) hm1 hm2 hm3,?_⟩;simp only[QQ,Nat.reduceAdd,qy3,qy4];refine⟨λh3 w3 hr3=>Zd7 h3 hr3.mod,λh3=>?_⟩;have h3:=qy9.1 h3;have hB:=Z1z.1 h1;intro b25 b26 w1 hr1;refine(Znr hr1 28 (Z117 w1 x (RdX.rel ⟨hr1.at_ 8 rfl,hr1.at_ 9 rfl,hr1.at_ 10 rfl,hr1.at_ 11 rfl,hr1.at_ 12 rfl⟩) hs.keptL hs.wantsL hs.watL hs.sessL hl5) rfl).mono ?_;rintro e w2 ⟨⟨yk,yw,ys,ya,yn,yo,v1,v2,v3,v4,v5⟩,y1,y2,yf,rfl,m1,m3,m4⟩;simp only at y1;subst y1;refine⟨owA ⟨yk,yw,ys,ya,yn,[],v1,v2,v3,v4,v5⟩,rfl,rfl,m1,qy5 _,m3,m4,?_⟩;have hz1:=hr1.mod.size;clear m1 m3 m4;have hyt:TelX.tel ⟨yk,yw,ys,ya,yn,[],v1,v2,v3,v4,.slice none 0 0⟩=x.tel:=by rw[show TelX.tel ⟨yk,yw,ys,ya,yn,[],v1,v2,v3,v4,.slice none 0 0⟩=TelX.tel ⟨yk,yw,ys,ya,yn,[],v1,v2,v3,v4,v5⟩ from rfl,y2];simp only[TelX.tel,ho,List.map_nil]
  have hxo:x.tel.out=[]:=by simp[TelX.tel,ho]
  have new0:(∀j,Z2 v1 j->w.heap.size<=j)/\(∀j,Z2 v2 j->w.heap.size<=j)/\(∀j,(Z6 ys []).fp j->w.heap.size<=j):=⟨λj h=>Nat.le_trans hz1 (yf.1 j h),λj h=>Nat.le_trans hz1 (yf.2.1 j h),λj h=>Nat.le_trans hz1 (yf.2.2 j h)⟩
  intro b38;simp only[QQ,Nat.reduceAdd,qy3,qy4];refine⟨λh4=>?_,λh4=>⟨λh5=>?_,λh5 b39 w5 hr5=>?_⟩⟩
  ·intro b39 v40;refine⟨by first|omega|(simp;omega),λv42 b43 w5 hr5=>?_⟩;have hnil:∀s∈[toP n ⟨3,0,m.id,[],[],[]⟩],nilS s:=λs hs=>by rw[qy12.1 hs];exact⟨rfl,rfl,rfl⟩
   obtain⟨q1,q2⟩:=Zl5 (l:=ys) (o:=[]) hnil;refine⟨⟨yk,yw,ys,ya,yn,[nilX (toP n ⟨3,0,m.id,[],[],[]⟩)],v1,v2,v3,v4,v42⟩,by rw[h3];rfl,?_,Zt8 hr5 rfl (hr5.at_ 5 rfl) (hr5.at_ 6 rfl) (hr5.at_ 7 rfl) (hr5.at_ 8 rfl) (hr5.at_ 1 rfl) (q1 _ (hr5.at_ 9 rfl)) ⟨λj _ h=>new0.1 j h,λj _ h=>new0.2.1 j h,λj h=>new0.2.2 j (q2 j h)⟩ (Z20 hr5 7 rfl) (Z20 hr5 8 rfl) (Z20 hr5 1 rfl),hr5.mod⟩;rw[resB,if_pos h3,Z1e,if_pos h4,hxo,<- hyt];rfl
  ·intro w3 hr3;refine(Z3g (k:=b38) (x:=⟨yk,yw,ys,ya,yn,[],v1,v2,v3,v4,.slice none 0 0⟩) (F:=λ_=>False) (pre:=[]) hr3 39 38 [32,34]
    (Z114 w3 b38 ⟨yk,yw,ys,ya,yn,[],v1,v2,v3,v4,.slice none 0 0⟩ n m mv (((hr3.pick [1,2,3,4,6,5,0,19] (by decide)).conv rfl).base.conv rfl) (by rw[hyt];exact hB) (by show(0:Nat)<40000;decide) hn h3)
    rfl rfl (by show 38<39;decide) rfl (λj hj=>?_)).mono ?_
   ·rcases hj with hj|hj|hj|hj
    ·exact(qE 1 rfl rfl hj)
    ·exact(qE 2 rfl rfl hj)
    ·exact(qE 5 rfl rfl hj)
    ·exact hj.elim
   rintro e w4 ⟨z,z1,z2,zg,rfl,m1,m2,m3,m4⟩;refine⟨tlV z,rfl,rfl,m1,m2,m3,m4,?_⟩;have hz3:=hr3.mod.size;clear m1 m2 m3 m4;intro b51 w5 hr5;have hnew:=Zl9 zg hz3 new0;refine⟨z,by rw[h3];rfl,?_,Zt8 hr5 rfl (hr5.at_ 1 rfl) (hr5.at_ 2 rfl) (hr5.at_ 3 rfl) (hr5.at_ 4 rfl) (hr5.at_ 5 rfl) (hr5.at_ 6 rfl) hnew (Z20 hr5 3 rfl) (Z20 hr5 4 rfl) (Z20 hr5 5 rfl),hr5.mod⟩;rw[resB,if_pos h3,z1,hyt,Z1e,if_neg h4,if_pos h5]
  ·refine⟨⟨yk,yw,ys,ya,yn,[],v1,v2,v3,v4,.slice none 0 0⟩,by rw[h3];rfl,?_,⟨hr5.at_ 2 rfl,hr5.at_ 3 rfl,(hr5.at_ 4 rfl:owns _ _ _ _ _).reads,(hr5.at_ 5 rfl:owns _ _ _ _ _).reads,Z9 _ _,hr5.at_ 6 rfl,λj _ h=>new0.1 j h,λj _ h=>new0.2.1 j h,λj _ h=>Z20 hr5 4 rfl j h,λj _ h=>Z20 hr5 5 rfl j h,λj h=>absurd rfl h,new0.2.2⟩,hr5.mod⟩;rw[resB,if_pos h3,Z1e,if_neg h4,if_neg h5,hyt]
 ·have e:msgE n m x.tel=chkB x.tel:=by rw[msgE,if_pos h1]
  rw[e];exact Zd7 h1 hr3.mod
end Go.Proofs.Y
namespace Go.Proofs.Y
open Go.Sx
def Z15z(s:Snt):Prop:=(s.client=[]/\chk s.msg=0/\s.pk=pD_Q 0)\/(¬s.client=[]/\chkP s.pk=0/\s.msg=mNil/\s.peer=0)
def Z1q(l:List Snt):Prop:=∀s∈l,Z15z s
theorem Z1q.nil:Z1q []:=λs hs=>absurd hs (by simp)
theorem Z1q.app{a b:List Snt}(ha:Z1q a)(hb:Z1q b):Z1q (a++b):=λs hs=>(qy13.1 hs).elim (ha s) (hb s)
theorem Z1q.one{s:Snt}(h:Z15z s):Z1q [s]:=λx hx=>by rw[qy12.1 hx];exact h
theorem Z1ff{c:List UInt8}(h:Zd c=true):¬c=[]:=by rintro rfl;exact absurd h (by decide)
theorem Z8r{c:List UInt8}{p:Pkt}(hc:Zd c=true)(hp:chkP p=0):Z15z (toC c p):=.inr ⟨Z1ff hc,hp,rfl,rfl⟩
theorem Zgv{n:Int}{m:Msg}(hm:chk m=0):Z15z (toP n m):=.inl ⟨rfl,hm,rfl⟩
def pkOk(k:Pk):Prop:=flE (0,k.2.2.2.1,k.2.2.2.2)=0/\((k.2.1=0/\k.1=false/\k.2.2.1=0)\/(k.2.1=1/\1<=k.2.2.1/\k.2.2.1<=65535))
theorem Z17f{p:Pkt}(hk:p.kind=3)(h0:p.clean=false/\p.session=false/\p.keep=0/\p.code=0/\p.client=[]/\p.asks=[]/\p.codes=[])(hf:flE (0,p.topic,p.payload)=0) (hq:(p.qos=0/\p.dup=false/\p.id=0)\/(p.qos=1/\1<=p.id/\p.id<=65535)):chkP p=0:=by
 have hc:chkT p.topic false=0/\¬200<(p.payload.length:Int):=by
  unfold flE at hf;split at hf
  ·rename_i h1;split at hf
   ·exact absurd hf (by decide)
   ·exact⟨h1,by assumption⟩
  ·exact absurd hf (by assumption)
 have hp:pubE p=0:=by
  unfold pubE;rw[if_pos hc.1,if_neg hc.2];rcases hq with⟨h1,h2,h3⟩|⟨h1,h2⟩
  ·rw[if_pos (by omega),if_neg (by rintro⟨-,h4|h4⟩;(· rw[h2]at h4;cases h4);(· exact h4 h3))]
  ·rw[if_pos (by omega),if_neg (by omega)]
 unfold chkP;have hb:Z24 p=pD_Q p.kind:=by obtain⟨a,b,c,d,e,f,g⟩:=h0;unfold Z24;rw[if_neg (by omega),if_neg (by omega),if_pos hk];cases p;simp_all
 rw[if_pos (by rw[hk];decide),if_pos (by rw[Z9i,hb];exact decide_eq_true rfl),if_neg (by rintro⟨-,h⟩;exact h hp),if_neg,Z27,if_neg (by omega),if_neg (by omega),if_pos hk,hp];rintro⟨h1,h2⟩;have h1:=of_decide_eq_true h1;rcases hq with⟨h3,-⟩|⟨h3,h4⟩
 ·omega
 ·exact h2 h4
theorem Z1au{k:Pk}(h:pkOk k):chkP (pkOf k)=0:=Z17f rfl ⟨rfl,rfl,rfl,rfl,rfl,rfl,rfl⟩ h.1 h.2
theorem Zqd{c:List UInt8}{l:List Pk}(hc:Zd c=true)(h:∀k∈l,pkOk k):Z1q (l.map λk=>toC c (pkOf k)):=λs hs=>by obtain⟨k,hk,rfl⟩:=List.mem_map.1 hs;exact Z8r hc (Z1au (h k hk))
theorem Zla(on:Bool):∀(qu fl:List Fl) (next:Int) (out:List Pk),(∀f∈qu,flE f=0)->(1<=next/\next<=65535)->(∀k∈out,pkOk k)->∀k∈(flyR on fl qu next out).2.2.2,pkOk k
 | [],fl,next,out,_,_,h=>by simpa[flyR]using h
 | f::q,fl,next,out,hq,hn,h=>by
  rw[flyR];split
  ·have hid:=Zpg (fl:=fl) hn;refine Zla on q _ _ _ (λx hx=>hq x (qy10 _ hx)) (Zkc hid).1 λk hk=>?_;rcases qy13.1 hk with hk|hk
   ·exact h k hk
   ·rw[qy12.1 hk];exact⟨hq f (qy8 ..),.inr ⟨rfl,hid⟩⟩
  ·exact h
theorem Z1av{s:Ses}{n p:List UInt8}{q:Int}(h:SesOk s)(hp:flE (0,n,p)=0):∀k∈(Z2u s n p q).2,pkOk k:=by
 unfold Z2u;split
 ·intro k hk;rw[qy12.1 hk];exact⟨hp,.inl ⟨rfl,rfl,rfl⟩⟩
 ·split
  ·refine Zla _ _ _ _ _ (λf hf=>?_) h.next (by simp);rcases qy13.1 hf with hf|hf
   ·exact(h.qu f hf).1
   ·rw[qy12.1 hf];exact hp
  ·simp
theorem Z1aw{s:Ses}(h:SesOk s):∀k∈(Zfw s).2,pkOk k:=by
 intro k hk;rcases qy13.1 hk with hk|hk
 ·obtain⟨f,hf,rfl⟩:=List.mem_map.1 hk;have:=h.fl.each f hf;exact⟨this.1,.inr ⟨rfl,this.2⟩⟩
 ·exact Zla true s.qu s.fl s.next [] (λf hf=>(h.qu f hf).1) h.next (by simp) k hk
theorem Z1ax{s:Ses}{id:Int}(h:SesOk s):∀k∈(Z53 s id).2,pkOk k:=Zla s.on s.qu (Z8m s.fl id) s.next [] (λf hf=>(h.qu f hf).1) h.next (by simp)
theorem Znt{m:Msg}(hk:0<=m.kind/\m.kind<=3)(hc:1<=m.code/\m.code<=255)(hi:0<=m.id/\m.id<=65535)(ht:m.tok.length<=8)(hp:m.pay.length<=200)(ho:m.opts=[]\/∃v:List UInt8,v.length<=60/\m.opts=[(6,v)]):chk m=0:=by
 refine Z9k.2 ⟨hk,⟨by omega,by omega,hi.1,hi.2⟩,⟨ht,?_,hp⟩,?_,λh=>by omega⟩
 ·rcases ho with h|⟨v,-,h⟩<;>rw[h]<;>simp
 ·rcases ho with h|⟨v,hv,h⟩
  ·rw[h];rfl
  ·rw[h]
   show(if(0:Int)<=6/\(6:Int)<=65535 then(if(6:Int)<0 then 4 else if 60<(v.length:Int)then 2 else optE 6 [])else 3)=0
   rw[if_pos (by decide),if_neg (by decide),if_neg (by omega)];rfl
theorem Z11a{m:Msg}{n:Int}(h:m.opts=[]):(putM m n).opts=[(6,Z2k n)]:=by simp[putM,h,Z152,noN,upTo,past]
theorem Z160{n:Int}:(Z2k n).length<=3:=by
 have h1:(Z2k n).length<=(numB 3 n).length:=by unfold Z2k;exact(List.dropWhile_suffix _).length_le
 have h2:(numB 3 n).length=3:=by simp[numB]
 omega
theorem Zt9{m:Msg}{n:Int}(hk:0<=m.kind/\m.kind<=3)(hc:1<=m.code/\m.code<=255)(hi:0<=m.id/\m.id<=65535)(ht:m.tok.length<=8)(hp:m.pay.length<=200)(ho:m.opts=[]):chk (putM m n)=0 :=
 Znt (m:=putM m n) hk hc hi ht hp (.inr ⟨_,by have:=@Z160 n;omega,Z11a ho⟩)
theorem Z17g{l:List Wat}(h:Z10 l=0){w:Wat}(hw:w∈l):w.2.1.length<=8/\(0<=w.2.2.2/\w.2.2.2<=16777215):=by
 obtain⟨h1,h2⟩:=(Z1a.1 h).2.1 w hw;refine⟨?_,h2⟩;unfold Z3w at h1;split at h1
 ·split at h1
  ·exact absurd h1 (by decide)
  ·omega
 ·exact absurd h1 (by decide)
theorem Z1dq{n p:List UInt8}(hf:flE (0,n,p)=0):p.length<=200:=by
 unfold flE at hf;split at hf
 ·split at hf
  ·exact absurd hf (by decide)
  ·rename_i h1;simp only at h1;omega
 ·exact absurd hf (by assumption)
theorem Zj8{n p:List UInt8}{q:Int}(hp:flE (0,n,p)=0):∀(rs:List Rd) {t:Tel},BOk t->(∀r∈rs,hasS t.sess r.1=true)->Z1q t.out->Z1q (rs.foldl (Z1s n p q) t).out
 | [],t,_,_,ho=>ho
 | r::rs,t,h,hr,ho=>by obtain⟨a,b,c⟩:=Zsu (q:=q) h hp (hr r (qy8 ..));have h0:=hr r (qy8 ..);have hs:=Zbx h h0;refine Zj8 hp rs a (λx hx=>by rw[Zgl h.sort b];exact hr x (qy10 _ hx)) (ho.app (Zqd ?_ (Z1av hs hp)));have:=hs.cl;rw[(Z7n h0).2]at this;exact this
theorem Zj9{p:List UInt8}(hp:p.length<=200):∀(l:List Wat) {t:Tel},0<=t.next/\t.next<=65535->(∀w∈l,w.2.1.length<=8)->Z1q t.out->Z1q (l.foldl (Z65 p) t).out
 | [],t,_,_,ho=>ho
 | w::l,t,h,hl,ho=>Zj9 hp l (Zgm _ h.1) (λx hx=>hl x (qy10 _ hx)) (ho.app (.one (Zgv (Zt9 (by simp) (by simp) h (hl w (qy8 ..)) hp rfl))))
theorem Znu{t:Tel}{n p:List UInt8}{q:Int}(h:BOk t)(hp:flE (0,n,p)=0)(ho:Z1q t.out):Z1q (Z7g n p q t).out:=by obtain⟨a,b,c,d1,d2,d3,d4⟩:=Zby (q:=q) hp (rdOf n t.wants) h (Z7o h n);refine Zj9 (Z1dq hp) _ a.next (λw hw=>?_) (Zj8 hp _ h (Z7o h n) ho);unfold Z3x at hw;obtain⟨x,hx,rfl⟩:=List.mem_map.1 hw;have:=(Z17g a.wat (List.mem_filter.1 hx).1).1;unfold Z8l;split<;>exact this
theorem Zja:∀(l:List Wat) {t:Tel},0<=t.next/\t.next<=65535->(∀w∈l,w.2.1.length<=8)->Z1q t.out->Z1q (l.foldl Z8b t).out
 | [],t,_,_,ho=>ho
 | w::l,t,h,hl,ho=>Zja l (Zgm _ h.1) (λx hx=>hl x (qy10 _ hx)) (ho.app (.one (Zgv (Znt (by simp) (by simp) h (hl w (qy8 ..)) (by simp) (.inl rfl)))))
theorem Zgw{t:Tel}{n p:List UInt8}(h:BOk t)(ho:Z1q t.out):Z1q (Z1g n p t).1.out:=by
 unfold Z1g;split
 ·exact ho
 split
 ·exact ho
 ·exact Zja _ (t:={ t with kept:=(rawK t.kept n p).1 }) h.next (λw hw=>(Z17g h.wat (List.mem_filter.1 hw).1).1) ho
theorem Z161{k:Kp}(h:okK k):flE (0,k.1,k.2.1)=0:=by rw[flE,if_pos h.1,if_neg h.2.2.1]
theorem Zta{c:List UInt8}(hc:Zd c=true){kept:List Kp}(h:chkK kept=0):∀(l:List Ak) (m:List Int),Z1q (Z3k c kept l m)
 | [],_=>by simp only[Z3k];exact .nil
 | _::_,[]=>by simp only[Z3k];exact .nil
 | a::l,q::m=>by
  rw[Z3k];refine Z1q.app ?_ (Zta hc h l m);unfold Zpx;split
  ·exact .nil
  ·intro s hs;obtain⟨k,hk,rfl⟩:=List.mem_map.1 hs;exact Z8r hc (Z17f rfl ⟨rfl,rfl,rfl,rfl,rfl,rfl,rfl⟩ (Z161 ((Z17.1 h).2.1 k (List.mem_filter.1 hk).1)) (.inl ⟨rfl,rfl,rfl⟩))
theorem Zjb{c:List UInt8}:∀(l:List Ak) {x:List Wt×List Int},Zj0 l->(∀q∈x.2,q=0\/q=1\/q=128)->(∀q∈(l.foldl (Z3f c) x).2,q=0\/q=1\/q=128)/\(l.foldl (Z3f c) x).2.length=x.2.length+l.length
 | [],x,_,h=>⟨h,rfl⟩
 | a::l,x,hl,h=>by
  have ha:=(hl a (qy8 ..)).2;have h1:(∀q∈(Z3f c x a).2,q=0\/q=1\/q=128)/\(Z3f c x a).2.length=x.2.length+1:=by
   unfold Z3f;split
   ·refine⟨λq hq=>?_,by simp⟩;rcases qy13.1 hq with hq|hq
    ·exact h q hq
    ·rw[qy12.1 hq];omega
   ·refine⟨λq hq=>?_,by simp⟩;rcases qy13.1 hq with hq|hq
    ·exact h q hq
    ·rw[qy12.1 hq];omega
  obtain⟨h2,h3⟩:=Zjb (c:=c) l (λy hy=>hl y (qy10 _ hy)) h1.1;refine⟨h2,?_⟩;rw[List.foldl_cons,h3,h1.2,List.length_cons];omega
theorem Zqe{p:Pkt}(h1:Z7d p.kind=true)(h2:Z24 p=pD_Q p.kind)(h3:¬p.kind=3)(h4:1<=p.id/\p.id<=65535):chkP p=Z27 p:=by unfold chkP;rw[if_pos h1,if_pos (show Z9i (Z24 p)=true by rw[Z9i,h2];exact decide_eq_true rfl),if_neg (λh=>h3 h.1),if_neg (λh=>h.2 h4)]
theorem Z1dr{k id:Int}(hk:k=4\/k=11)(h:1<=id/\id<=65535):chkP { pD_Q k with id:=id }=0:=by
 rcases hk with rfl|rfl
 ·exact(Zqe (p:={ pD_Q 4 with id:=id }) (show Z7d 4=true by decide) rfl (show ¬(4:Int)=3 by decide) h).trans rfl
 ·exact(Zqe (p:={ pD_Q 11 with id:=id }) (show Z7d 11=true by decide) rfl (show ¬(11:Int)=3 by decide) h).trans rfl
theorem Z11b{id:Int}{cs:List Int}(h:1<=id/\id<=65535)(hn:1<=cs.length/\cs.length<=5)(hc:∀q∈cs,q=0\/q=1\/q=128):chkP { pD_Q 9 with id:=id,codes:=cs }=0:=by
 rw[Zqe (p:={ pD_Q 9 with id:=id,codes:=cs }) (show Z7d 9=true by decide) rfl (show ¬(9:Int)=3 by decide) h]
 show Zbm { pD_Q 9 with id:=id,codes:=cs }=0
 have hcnt:Z3e cs.length=0:=by unfold Z3e;rw[if_neg (by omega),if_neg (by omega)]
 unfold Zbm;rw[if_pos hcnt,if_neg];simp only[Bool.not_eq_true,List.any_eq_false];intro q hq;rcases hc q hq with rfl|rfl|rfl<;>decide
theorem Zjc{code:Int}{s:Bool}(h:(code=3/\s=false)\/code=0):chkP { pD_Q 2 with code:=code,session:=s }=0:=by
 rcases h with⟨rfl,rfl⟩|rfl
 ·decide
 ·cases s<;>decide
theorem Zgx{t:Tel}(h:BOk t){c:List UInt8}(hc:Zd c=true){p:Pkt}(hp:chkP p=0)(ho:Z1q t.out):Z1q (Zy c p t).out:=by
 unfold Zy;split
 ·exact ho
 rename_i h1;split
 ·unfold Z1n;split
  ·exact ho
  split
  ·exact ho.app (.one (Z8r hc (Zjc (.inl ⟨rfl,rfl⟩))))
  ·obtain⟨a,b⟩:=Zl3 h hc p.clean;exact(ho.app (.one (Z8r hc (Zjc (.inr rfl))))).app (Zqd hc (Z1aw a))
 rename_i h2;have h3:hasS t.sess c=true/\(t.sess.getD (idxS t.sess c) s0).on=true:=⟨Classical.byContradiction λh4=>h1 ⟨h2,.inl h4⟩,Classical.byContradiction λh4=>h1 ⟨h2,.inr h4⟩⟩
 obtain⟨p1,p2,p3,-⟩:=Zgr hp;split
 ·rename_i h4;obtain⟨q1,q2,q3,q4,hf⟩:=Z10o (p2 h4);obtain⟨t1,e1,k1,o1⟩:∃t1:Tel,t1=(if p.qos=1 then { t with out:=t.out++[toC c { pD_Q 4 with id:=p.id }] }else t)/\BOk t1/\Z1q t1.out:=by
   refine⟨_,rfl,?_⟩;split
   ·rename_i h5;exact⟨h.out _,ho.app (.one (Z8r hc (Z1dr (.inl rfl) (p3 (decide_eq_true (.inl ⟨h4,h5⟩))))))⟩
   ·exact⟨h,ho⟩
  obtain⟨t2,e2,k2,o2⟩:∃t2:Tel,t2=(if p.retain=true then(Z1g p.topic p.payload t1).1 else t1)/\BOk t2/\Z1q t2.out:=by
   refine⟨_,rfl,?_⟩;split
   ·exact⟨(Z5v k1 q1).1,Zgw k1 o1⟩
   ·exact⟨k1,o1⟩
  have e:Z32 c p t=Z7g p.topic p.payload p.qos t2:=by rw[e2,e1];rfl
  rw[e];exact Znu k2 hf o2
 split
 ·exact ho.app (Zqd hc (Z1ax (Zbx h h3.1)))
 split
 ·rename_i h4;obtain⟨a,b1,b2⟩:=Zt0 hp h4;obtain⟨c1,c2⟩:=Zjb (c:=c) p.asks (x:=(t.wants,[])) a (by simp);simp only[List.length_nil,Nat.zero_add]at c2;exact(ho.app (.one (Z8r hc (Z11b (p3 (decide_eq_true (by omega))) (by rw[c2];exact⟨b1,b2⟩) c1)))).app (Zta hc h.kept _ _)
 split
 ·exact ho.app (.one (Z8r hc (Z1dr (.inr rfl) (p3 (decide_eq_true (by omega))))))
 split
 ·exact ho.app (.one (Z8r hc (by decide)))
 split
 ·rw[(Z7p h c).2];exact ho
 ·exact ho
theorem Znv{m a:Msg}(hm:chk m=0){next:Int}(hn:0<=next/\next<=65535)(ha:a=Z3o m next):(0<=a.kind/\a.kind<=3)/\(0<=a.id/\a.id<=65535)/\a.tok.length<=8/\a.pay=[]/\a.opts=[]/\a.code=133:=by
 obtain⟨-,m1,m2,-⟩:=Z9k.1 hm;subst ha;unfold Z3o;split
 ·exact⟨by simp,hn,m2.1,rfl,rfl,rfl⟩
 ·exact⟨by simp,⟨m1.2.2.1,m1.2.2.2⟩,m2.1,rfl,rfl,rfl⟩
theorem Z162{t:Tel}(h:BOk t){name:List UInt8}(hk:hasK t.kept name=true):(t.kept.getD (idx t.kept name) kD).2.1.length<=200:=by
 obtain⟨h1,h2⟩:=of_decide_eq_true hk;have hm:t.kept.getD (idx t.kept name) kD∈t.kept:=by rw[qy1,qy7 h1];exact List.getElem_mem h1
 have:=((Z17.1 h.kept).2.1 _ hm).2.2.1;omega
theorem Z1ay{t:Tel}(h:BOk t){n:Int}{m a:Msg}(hm:chk m=0){next:Int}(hn:0<=next/\next<=65535)(ha:a=Z3o m next)(ho:Z1q t.out):Z1q (doB n m a t).1.out/\chk (doB n m a t).2=0:=by
 obtain⟨a1,a2,a3,a4,a5,a6⟩:=Znv hm hn ha;have hcode:∀code:Int,1<=code/\code<=255->chk { a with code:=code }=0:=λcode hc=>Znt (m:={ a with code:=code }) a1 hc a2 a3 (by simp[a4]) (.inl a5);unfold doB;split
 ·exact⟨ho,hcode _ (by decide)⟩
 rename_i h1;have hp:=Zgs (qy9.1 h1);split
 ·unfold getB;split
  ·exact⟨ho,hcode _ (by decide)⟩
  rename_i h0;have hk:=Z162 h (qy9.1 h0);have hb:chk { a with code:=69,pay:=(t.kept.getD (idx t.kept (Z1f m.opts).1) kD).2.1 }=0:=Znt (m:={ a with code:=69,pay:=(t.kept.getD (idx t.kept (Z1f m.opts).1) kD).2.1 }) a1 (show(1:Int)<=69/\(69:Int)<=255 by decide) a2 a3 hk (.inl a5);simp only;split
  ·split
   ·exact⟨ho,Zt9 (m:={ a with code:=69,pay:=(t.kept.getD (idx t.kept (Z1f m.opts).1) kD).2.1 }) a1 (show(1:Int)<=69/\(69:Int)<=255 by decide) a2 a3 hk a5⟩
   ·exact⟨ho,hb⟩
  ·split
   ·exact⟨ho,hb⟩
   ·exact⟨ho,hb⟩
 split
 ·split
  ·have k1:=(Z5v (p:=m.pay) h hp).1;have hf:flE (0,(Z1f m.opts).1,m.pay)=0:=by
    have:=(Z9k.1 hm).2.2.1.2.2;rw[flE,if_pos hp,if_neg (by simp only;omega)]
   exact⟨Znu k1 hf (Zgw h ho),hcode _ (by decide)⟩
  ·exact⟨ho,hcode _ (by decide)⟩
 split
 ·exact⟨Zgw h ho,hcode _ (by decide)⟩
 ·refine⟨ho,?_⟩;have:=hcode 133 (by decide);rwa [show({ a with code:=133 }:Msg)=a from by rw[<- a6]]at this
theorem Znw{t:Tel}(h:BOk t){n:Int}{m:Msg}(hm:chk m=0)(ho:Z1q t.out):Z1q (Z3t n m t).out:=by
 have h':BOk { t with next:=if m.kind=1 then nx_Z t.next else t.next,out:=t.out++[toP n (Z3o m t.next)] }:=by
  refine⟨h.kept,h.wants,h.ns,h.ses,h.sort,h.wat,h.has,h.kpt,?_⟩
  show 0<=(if m.kind=1 then nx_Z t.next else t.next)/\(if m.kind=1 then nx_Z t.next else t.next)<=65535
  split
  ·exact Zgm _ h.next.1
  ·exact h.next
 have hc:chk (Z3o m t.next)=0:=by obtain⟨a1,a2,a3,a4,a5,a6⟩:=Znv hm h.next rfl;exact Znt a1 (by omega) a2 a3 (by rw[a4];simp) (.inl a5)
 obtain⟨a,b⟩:=Z1ay (n:=n) h' hm h.next rfl (ho.app (.one (Zgv hc)));intro s hs;rcases List.mem_or_eq_of_mem_set hs with hs|rfl
 ·exact a s hs
 ·exact Zgv b
theorem Znx{t:Tel}(h:BOk t){n:Int}{m:Msg}(hm:chk m=0)(ho:Z1q t.out):Z1q (Z1e n m t).out:=by
 unfold Z1e;split
 ·rename_i h1;obtain⟨-,m1,-⟩:=Z9k.1 hm;refine ho.app (.one (Zgv (Z9k.2 ⟨by simp,⟨by simp,by simp,m1.2.2⟩,by simp,rfl,λ_=>⟨rfl,rfl,rfl⟩⟩)))
 split
 ·exact Znw h hm ho
 ·exact ho
abbrev Rst:=List UInt8×List UInt8
def rstD:Rst:=([],[])
def sortR(l:List Rst):Prop:=l.Pairwise λa b=>Za a.1 b.1=true
def idxR(l:List Rst)(c:List UInt8):Nat:=(l.filter λr=>Za r.1 c).length
def hasR(l:List Rst)(c:List UInt8):Bool:=decide (idxR l c<l.length/\(l.getD (idxR l c) rstD).1=c)
def Zlb:Option (List UInt8)->List Rst->Int
 | _,[]=>0
 | p,r::l=>if ¬Zd r.1=true\/r.2=[]then 1 else if 600<(r.2.length:Int)then 2 else if Zhw p r.1=true then Zlb (some r.1) l else 4
def chkR(l:List Rst):Int:=Zlb none l
structure Evt where
 client:List UInt8
 peer:Int
 bytes:List UInt8
def Z1t(e:Evt):Int:=if ¬e.client=[]/\¬Zd e.client=true then 1 else if(e.client=[]/\¬(0<=e.peer/\e.peer<=9))\/(¬e.client=[]/\¬e.peer=0)then 3 else 0
structure ROk(l:List Rst):Prop where
 each:∀r∈l,Zd r.1=true/\¬r.2=[]/\r.2.length<=600
 sort:sortR l
theorem Zgy:∀(l:List Rst) (p:Option (List UInt8)),Zlb p l=0↔(∀r∈l,Zd r.1=true/\¬r.2=[]/\r.2.length<=600)/\sortR l/\∀t,p=some t->∀r∈l,Za t r.1=true
 | [],p=>by simp[Zlb,sortR]
 | r::l,p=>by
  rw[Zlb];constructor
  ·intro h;split at h
   ·exact absurd h (by decide)
   rename_i h1;split at h
   ·exact absurd h (by decide)
   rename_i h2;split at h
   ·rename_i h3;obtain⟨i1,i2,i3⟩:=(Zgy l (some r.1)).1 h;refine⟨λx hx=>?_,List.pairwise_cons.2 ⟨λx hx=>i3 _ rfl x hx,i2⟩,λt ht x hx=>?_⟩
    ·rcases List.mem_cons.1 hx with rfl|hx
     ·exact⟨Classical.byContradiction λh4=>h1 (.inl h4),λh4=>h1 (.inr h4),by omega⟩
     ·exact i1 x hx
    ·have h4:=Zbv.1 h3 t ht;rcases List.mem_cons.1 hx with rfl|hx
     ·exact h4
     ·exact Zk h4 (i3 _ rfl x hx)
   ·exact absurd h (by decide)
  ·rintro⟨i1,i2,i3⟩;obtain⟨j1,j2⟩:=List.pairwise_cons.1 i2;obtain⟨k1,k2,k3⟩:=i1 r (qy8 ..);rw[if_neg (λh=>h.elim (λh=>h k1) k2),if_neg (by omega),if_pos (Zbv.2 λt ht=>i3 t ht r (qy8 ..))];exact(Zgy l (some r.1)).2 ⟨λx hx=>i1 x (qy10 _ hx),j2,λt ht x hx=>by cases ht;exact j1 x hx⟩
theorem Z7r{l:List Rst}:chkR l=0↔ROk l:=by rw[chkR,Zgy];exact⟨λ⟨a,b,_⟩=>⟨a,b⟩,λh=>⟨h.each,h.sort,λt ht=>by cases ht⟩⟩
def takW(l:List Rst)(c:List UInt8):List UInt8×List Rst:=if hasR l c=true then((l.getD (idxR l c) rstD).2,l.take (idxR l c)++l.drop (idxR l c+1))else([],l)
def Ze7(l:List Rst)(c s:List UInt8):List Rst:=if s=[]then l else l.take (idxR l c)++[(c,s)]++l.drop (idxR l c)
theorem Z1az:∀{l:List Rst} (c:List UInt8),sortR l->l=l.filter (λs=>Za s.1 c)++l.filter (λs=>!Za s.1 c)
 | [],_,_=>rfl
 | s::l,c,h=>by
  obtain⟨h1,h2⟩:=List.pairwise_cons.1 h;have ih:=Z1az c h2;cases hs:Za s.1 c with
  | true =>
   rw[List.filter_cons,List.filter_cons,if_pos hs,if_neg (by rw[hs];decide),List.cons_append,<- ih]
  | false =>
   have e1:l.filter (λs=>Za s.1 c)=[]:=by rw[List.filter_eq_nil_iff];intro x hx hxc;have:=Zk (h1 x hx) hxc;rw[hs]at this;cases this
   rw[List.filter_cons,List.filter_cons,if_neg (by rw[hs];decide),if_pos (by rw[hs];rfl),e1,List.nil_append];rw[e1,List.nil_append]at ih;rw[<- ih]
theorem Ztb{l:List Rst}{c:List UInt8}(h:sortR l):l.take (idxR l c)=l.filter λs=>Za s.1 c :=
 (congrArg (List.take (idxR l c)) (Z1az c h)).trans (List.take_left' rfl)
theorem Zlc{l:List Rst}{c:List UInt8}(h:sortR l):l.drop (idxR l c)=l.filter λs=>!Za s.1 c :=
 (congrArg (List.drop (idxR l c)) (Z1az c h)).trans (List.drop_left' rfl)
theorem Ztc{l:List Rst}(h:ROk l)(c:List UInt8):ROk (takW l c).2/\(∀r∈(takW l c).2,¬r.1=c)/\(takW l c).1.length<=600:=by
 have hno:∀r∈l,r.1=c->hasR l c=true/\l.getD (idxR l c) rstD=r:=by
  rintro r hr rfl;have h2:r∈l.drop (idxR l r.1):=by rw[Zlc h.sort];exact List.mem_filter.2 ⟨hr,by rw[Z14];rfl⟩
  obtain⟨i,hi,e⟩:=List.mem_iff_getElem.1 h2;have hi':idxR l r.1+i<l.length:=by simp at hi;omega
  rw[List.getElem_drop]at e;have hlt:idxR l r.1<l.length:=by omega
  rcases Nat.eq_zero_or_pos i with h0|h0
  ·subst h0;have e2:l.getD (idxR l r.1) rstD=r:=by
    rw[qy1,qy7 hlt];exact e
   exact⟨decide_eq_true ⟨hlt,by rw[e2]⟩,e2⟩
  ·exfalso;have hm:l[idxR l r.1]∈l.drop (idxR l r.1):=List.mem_iff_getElem.2 ⟨0,by simp;omega,by simp⟩;rw[Zlc h.sort]at hm;have h3:=(List.mem_filter.1 hm).2;have h4:Za (l[idxR l r.1]).1 (l[idxR l r.1+i]).1=true:=by
    have hs:=h.sort;rw[sortR,List.pairwise_iff_getElem]at hs;exact hs _ _ hlt hi' (by omega)
   rw[e]at h4;rw[h4]at h3;cases h3
 unfold takW;split
 ·rename_i h1;obtain⟨h2,h3⟩:=of_decide_eq_true h1;have hsub:List.Sublist (l.take (idxR l c)++l.drop (idxR l c+1)) l:=by
   have e:=List.take_append_drop (idxR l c) l;conv=>rhs;rw[<- e]
   refine List.Sublist.append (List.Sublist.refl _) ?_;rw[<- List.drop_drop];exact List.drop_sublist _ _
  refine⟨⟨λr hr=>h.each r (hsub.subset hr),h.sort.sublist hsub⟩,λr hr e=>?_,(h.each _ ?_).2.2⟩
  ·have hp:=h.sort;rw[sortR,<- List.take_append_drop (idxR l c) l,List.pairwise_append]at hp;rcases qy13.1 hr with hr|hr
   ·rw[Ztb h.sort]at hr;have:=(List.mem_filter.1 hr).2;rw[e,Z14]at this;cases this
   ·have hp2:=hp.2.1;have hd:l.drop (idxR l c)=l.getD (idxR l c) rstD::l.drop (idxR l c+1):=by
     rw[List.drop_eq_getElem_cons h2,qy1,qy7 h2];rfl
    rw[hd]at hp2;have:=(List.pairwise_cons.1 hp2).1 r hr;rw[h3,e,Z14]at this;cases this
  ·rw[qy1,qy7 h2];exact List.getElem_mem h2
 ·rename_i h1;exact⟨h,λr hr e=>h1 (hno r hr e).1,by simp⟩
theorem Z163{l:List Rst}(h:ROk l){c s:List UInt8}(hc:Zd c=true)(hn:∀r∈l,¬r.1=c)(hs:s.length<=600):ROk (Ze7 l c s):=by
 unfold Ze7;split
 ·exact h
 rename_i h1;have e1:=Ztb (c:=c) h.sort;have e2:=Zlc (c:=c) h.sort;refine⟨λr hr=>?_,?_⟩
 ·simp only[qy13,qy12]at hr;rcases hr with(hr|rfl)|hr
  ·exact h.each r (List.mem_of_mem_take hr)
  ·exact⟨hc,h1,hs⟩
  ·exact h.each r (List.mem_of_mem_drop hr)
 ·have hp:=h.sort;rw[sortR,<- List.take_append_drop (idxR l c) l,List.pairwise_append]at hp;obtain⟨p1,p2,p3⟩:=hp;have lt1:∀r∈l.take (idxR l c),Za r.1 c=true:=λr hr=>by rw[e1]at hr;exact(List.mem_filter.1 hr).2
  have lt2:∀r∈l.drop (idxR l c),Za c r.1=true:=λr hr=>by
   have hm:=List.mem_of_mem_drop hr;rw[e2]at hr;have h3:Za r.1 c=false:=by simpa using(List.mem_filter.1 hr).2
   rcases Z3z.1 h3 with h4|h4
   ·exact h4
   ·exact absurd h4.symm (hn r hm)
  rw[sortR,List.append_assoc,List.pairwise_append];refine⟨p1,List.pairwise_cons.2 ⟨λr hr=>lt2 r hr,p2⟩,λa ha b hb=>?_⟩;rcases List.mem_cons.1 hb with rfl|hb
  ·exact lt1 a ha
  ·exact p3 a ha b hb
def Zac(fd:List UInt8->List Pkt×List UInt8×Int)(c s:List UInt8)(x:Tel×List Rst):Tel×List Rst :=
  (if ¬(fd ((takW x.2 c).1++s)).2.2=0 then Z5f c ((fd ((takW x.2 c).1++s)).1.foldl (λt p=>Zy c p t) x.1)else(fd ((takW x.2 c).1++s)).1.foldl (λt p=>Zy c p t) x.1,
    Ze7 (takW x.2 c).2 c (fd ((takW x.2 c).1++s)).2.1)
def Zvy(dm:List UInt8->Msg×Int)(n:Int)(s:List UInt8)(x:Tel×List Rst):Tel×List Rst:=if(dm s).2=0 then(Z1e n (dm s).1 x.1,x.2)else x
def Zad(fd:List UInt8->List Pkt×List UInt8×Int)(dm:List UInt8->Msg×Int)(e:Evt)(x:Tel×List Rst):Tel×List Rst :=
 if e.client=[]then Zvy dm e.peer e.bytes x else Zac fd e.client e.bytes x
theorem Zd8{c:List UInt8}(hc:Zd c=true):∀(l:List Pkt) {t:Tel},BOk t->(∀p∈l,chkP p=0)->BOk (l.foldl (λt p=>Zy c p t) t)/\(l.foldl (λt p=>Zy c p t) t).out.length<=t.out.length+200*l.length
 | [],t,h,_=>⟨h,by simp⟩
 | p::l,t,h,hp=>by have h1:=Z94 h hc (hp p (qy8 ..));have h2:=Zd8 hc l h1.1 λq hq=>hp q (qy10 _ hq);refine⟨h2.1,?_⟩;have:=h2.2;have:=h1.2;simp only[List.foldl_cons,List.length_cons];omega
theorem Zgz{c:List UInt8}(hc:Zd c=true):∀(l:List Pkt) {t:Tel},BOk t->(∀p∈l,chkP p=0)->Z1q t.out->Z1q (l.foldl (λt p=>Zy c p t) t).out
 | [],_,_,_,ho=>ho
 | p::l,_,h,hp,ho=>Zgz hc l (Z94 h hc (hp p (qy8 ..))).1 (λq hq=>hp q (qy10 _ hq)) (Zgx h hc (hp p (qy8 ..)) ho)
theorem Zld{e:Evt}:Z1t e=0↔(e.client=[]/\0<=e.peer/\e.peer<=9)\/(¬e.client=[]/\Zd e.client=true/\e.peer=0):=by
 unfold Z1t;by_cases h1:e.client=[]
 ·simp[h1]
 ·by_cases h2:Zd e.client=true
  ·by_cases h3:e.peer=0<;>simp[h1,h2,h3]
  ·simp[h1,h2]
theorem Ztd{fd:List UInt8->List Pkt×List UInt8×Int}{dm:List UInt8->Msg×Int}(hf:∀s,(∀p∈(fd s).1,chkP p=0)/\(fd s).2.1.length<=600/\(fd s).1.length<=s.length)(hd:∀s,(dm s).2=0->chk (dm s).1=0){e:Evt}(he:Z1t e=0){x:Tel×List Rst}(h:BOk x.1)(hr:ROk x.2) : BOk (Zad fd dm e x).1/\ROk (Zad fd dm e x).2/\(Zad fd dm e x).1.out.length<=x.1.out.length+200*(e.bytes.length+601)/\(Z1q x.1.out->Z1q (Zad fd dm e x).1.out):=by
 unfold Zad;rcases Zld.1 he with⟨h1,h2⟩|⟨h1,h2,h3⟩
 ·rw[if_pos h1,Zvy];split
  ·rename_i h3;have h4:=Zgt h h2 (hd _ h3);exact⟨h4.1,hr,by have:=h4.2;show(Z1e e.peer (dm e.bytes).1 x.1).out.length<=_;omega,λho=>Znx h (hd _ h3) ho⟩
  ·exact⟨h,hr,by omega,λho=>ho⟩
 ·rw[if_neg h1];obtain⟨t1,t2,t3⟩:=Ztc hr e.client;obtain⟨f1,f2,f3⟩:=hf ((takW x.2 e.client).1++e.bytes);have p1:=Zd8 h2 (fd ((takW x.2 e.client).1++e.bytes)).1 h f1;have p2:=Zgz h2 (fd ((takW x.2 e.client).1++e.bytes)).1 h f1;have hl:(fd ((takW x.2 e.client).1++e.bytes)).1.length<=e.bytes.length+600:=by
   rw[qy11]at f3;omega
  have hl2:=Nat.mul_le_mul_left 200 hl;unfold Zac;refine⟨?_,Z163 t1 h2 t2 f2,?_,?_⟩
  ·show BOk (ite _ _ _)
   split
   ·exact(Z7p p1.1 _).1
   ·exact p1.1
  ·show(ite _ _ _:Tel).out.length<=_
   have:=p1.2;split
   ·rw[(Z7p p1.1 _).2];omega
   ·omega
  ·intro ho
   show Z1q (ite _ _ _:Tel).out
   split
   ·rw[(Z7p p1.1 _).2];exact p2 ho
   ·exact p2 ho
open Go
abbrev kR:List Kd:=[.str,.str]
def Z5l(r:Rst):List Value:=[.string ⟨r.1.toArray⟩,.string ⟨r.2.toArray⟩]
theorem gR0(l:List Rst)(i:Nat):Value.gS (((l.map Z5l).getD i []).getD 0 undef)=(l.getD i rstD).1:=by simp only[qy1,List.getElem?_map];cases l[i]?<;>simp[Z5l,Value.gS,undef,rstD]
theorem gR1(l:List Rst)(i:Nat):Value.gS (((l.map Z5l).getD i []).getD 1 undef)=(l.getD i rstD).2:=by simp only[qy1,List.getElem?_map];cases l[i]?<;>simp[Z5l,Value.gS,undef,rstD]
theorem memR{l:List Rst}{i:Nat}(h:i<l.length):l.getD i rstD∈l:=by rw[qy1,qy7 h];exact List.getElem_mem h
abbrev Zte(w:World)(v:Value)(l:List Rst):Prop:=reads w v kR (l.map Z5l)
theorem Ztf{l:List Rst}(h:sortR l){i j:Nat}(hij:i<j)(hj:j<l.length):Za (l.getD i rstD).1 (l.getD j rstD).1=true:=by rw[sortR,List.pairwise_iff_getElem]at h;have:=h i j (by omega) hj hij;simpa[qy1,qy7 hj,qy7 (Nat.lt_trans hij hj)]using this
theorem Z11c{l:List Rst}{n:List UInt8}{i:Nat}(hi:i<=l.length)(h1:∀j,j<i->Za (l.getD j rstD).1 n=true)(h2:∀j,i<=j->j<l.length->Za (l.getD j rstD).1 n=false):i=idxR l n:=by
 have e:l=l.take i++l.drop i:=(List.take_append_drop i l).symm;have f1:(l.take i).filter (λk=>Za k.1 n)=l.take i:=by
  rw[List.filter_eq_self];intro x hx;obtain⟨j,hj,rfl⟩:=List.mem_iff_getElem.1 hx;have hj':j<i:=by simp at hj;omega
  have:=h1 j hj';rw[List.getElem_take];simpa[qy1,qy7 (show j<l.length by omega)]using this
 have f2:(l.drop i).filter (λk=>Za k.1 n)=[]:=by
  rw[List.filter_eq_nil_iff];intro x hx;obtain⟨j,hj,rfl⟩:=List.mem_iff_getElem.1 hx;have hj':i+j<l.length:=by simp at hj;omega
  have:=h2 (i+j) (by omega) hj';rw[List.getElem_drop];simpa[qy1,qy7 hj']using this
 show i=(l.filter λk=>Za k.1 n).length
 rw[e,List.filter_append,f1,f2];simp;omega
def prvR(l:List Rst)(i:Nat):Option (List UInt8):=if i=0 then none else some (l.getD (i - 1) rstD).1
theorem Zvz(l:List Rst)(i:Nat)(h:i<l.length):l.drop i=l.getD i rstD::l.drop (i+1):=by rw[List.drop_eq_getElem_cons h,qy1,qy7 h];rfl
theorem Z11d(l:List Rst)(i:Nat):Zhw (prvR l i) (l.getD i rstD).1=true↔¬(0<(i:Int)/\(Za (l.getD i rstD).1 (l.getD (i - 1) rstD).1=true\/(l.getD i rstD).1=(l.getD (i - 1) rstD).1)):=by
 unfold prvR;by_cases h:i=0
 ·simp[h,Zhw]
 ·rw[if_neg h];simp only[Zhw];rw[<- Z3z];constructor
  ·rintro h1 ⟨-,h2⟩;rw[h1]at h2;cases h2
  ·intro h1;cases h2:Za (l.getD (i - 1) rstD).1 (l.getD i rstD).1 with
   | true=>rfl
   | false=>exact absurd ⟨by omega,h2⟩ h1
theorem Zw0{l:List Rst}{i:Nat}(h:i<l.length):Zlb (prvR l i) (l.drop i)=if ¬Zd (l.getD i rstD).1=true\/(l.getD i rstD).2=[]then 1 else if 600<((l.getD i rstD).2.length:Int)then 2
  else if 0<(i:Int)/\(Za (l.getD i rstD).1 (l.getD (i - 1) rstD).1=true\/(l.getD i rstD).1=(l.getD (i - 1) rstD).1)then 4 else Zlb (prvR l (i+1)) (l.drop (i+1)):=by
 rw[Zvz l i h,Zlb];by_cases h1:¬Zd (l.getD i rstD).1=true\/(l.getD i rstD).2=[]
 ·rw[if_pos h1,if_pos h1]
 rw[if_neg h1,if_neg h1];by_cases h2:600<((l.getD i rstD).2.length:Int)
 ·rw[if_pos h2,if_pos h2]
 rw[if_neg h2,if_neg h2];by_cases h3:0<(i:Int)/\(Za (l.getD i rstD).1 (l.getD (i - 1) rstD).1=true\/(l.getD i rstD).1=(l.getD (i - 1) rstD).1)
 ·rw[if_pos h3,if_neg (λh4=>(Z11d l i).1 h4 h3)]
 ·rw[if_neg h3,if_pos ((Z11d l i).2 h3)];rfl
abbrev kEv:List Kd:=[.str,.int .i64,.str]
def evD:Evt:=⟨[],0,[]⟩
def Ze8(e:Evt):List Value:=[.string ⟨e.client.toArray⟩,.int .i64 e.peer,.string ⟨e.bytes.toArray⟩]
theorem gEv0(l:List Evt)(i:Nat):Value.gS (((l.map Ze8).getD i []).getD 0 undef)=(l.getD i evD).client:=by simp only[qy1,List.getElem?_map];cases l[i]?<;>simp[Ze8,Value.gS,undef,evD]
theorem gEv1(l:List Evt)(i:Nat):Value.gI (((l.map Ze8).getD i []).getD 1 undef)=(l.getD i evD).peer:=by simp only[qy1,List.getElem?_map];cases l[i]?<;>rfl
theorem gEv2(l:List Evt)(i:Nat):Value.gS (((l.map Ze8).getD i []).getD 2 undef)=(l.getD i evD).bytes:=by simp only[qy1,List.getElem?_map];cases l[i]?<;>simp[Ze8,Value.gS,undef,evD]
abbrev Zqf(w:World)(v:Value)(l:List Evt):Prop:=reads w v kEv (l.map Ze8)
def oneW(fd:List UInt8->List Pkt×List UInt8×Int)(dm:List UInt8->Msg×Int)(x:Tel×List Rst)(e:Evt):Tel×List Rst:=Zad fd dm e ({ x.1 with out:=[] },x.2)
def runW(fd:List UInt8->List Pkt×List UInt8×Int)(dm:List UInt8->Msg×Int)(l:List Evt)(x:Tel×List Rst):Tel×List Rst:=l.foldl (oneW fd dm) x
def Zle(fd:List UInt8->List Pkt×List UInt8×Int)(dm:List UInt8->Msg×Int)(l:List Evt)(x:Tel×List Rst):List (List Snt):=(List.range l.length).map λj=>(runW fd dm (l.take (j+1)) x).1.out
theorem Zh0{fd:List UInt8->List Pkt×List UInt8×Int}{dm:List UInt8->Msg×Int}(l:List Evt)(x:Tel×List Rst):(Zle fd dm l x).length=l.length:=by simp[Zle]
theorem Zh1{fd:List UInt8->List Pkt×List UInt8×Int}{dm:List UInt8->Msg×Int}{l:List Evt}{i:Nat}(h:i<l.length)(x:Tel×List Rst):runW fd dm (l.take (i+1)) x=oneW fd dm (runW fd dm (l.take i) x) (l.getD i evD):=by rw[runW,List.take_add_one,qy7 h,qy1,qy7 h];simp only[Option.toList_some,List.foldl_append,List.foldl_cons,List.foldl_nil];rfl
theorem Zw1{fd:List UInt8->List Pkt×List UInt8×Int}{dm:List UInt8->Msg×Int}{l:List Evt}{i:Nat}(h:i<l.length)(x:Tel×List Rst):Zle fd dm (l.take (i+1)) x=Zle fd dm (l.take i) x++[(runW fd dm (l.take (i+1)) x).1.out]:=by
 have e1:(l.take (i+1)).length=i+1:=by simp;omega
 have e2:(l.take i).length=i:=by simp;omega
 rw[Zle,Zle,e1,e2,List.range_succ,List.map_append];simp only[List.map_cons,List.map_nil];congr 1
 ·refine List.map_congr_left λj hj=>?_;have hj:=List.mem_range.1 hj;rw[List.take_take,List.take_take,Nat.min_eq_left (by omega),Nat.min_eq_left (by omega)]
 ·rw[List.take_take,Nat.min_self]
theorem Z11e{fd:List UInt8->List Pkt×List UInt8×Int}{dm:List UInt8->Msg×Int}(hf:∀s,(∀p∈(fd s).1,chkP p=0)/\(fd s).2.1.length<=600/\(fd s).1.length<=s.length)(hd:∀s,(dm s).2=0->chk (dm s).1=0):∀(l:List Evt) {x:Tel×List Rst},(∀e∈l,Z1t e=0)->BOk x.1->ROk x.2->BOk (runW fd dm l x).1/\ROk (runW fd dm l x).2
 | [],_,_,h,hr=>⟨h,hr⟩
 | e::l,x,he,h,hr=>by have h1:=Ztd hf hd (he e (qy8 ..)) (x:=({ x.1 with out:=[] },x.2)) (h.out []) hr;exact Z11e hf hd l (λa ha=>he a (qy10 _ ha)) h1.1 h1.2.1
def wlF(x:TelX)(j:Nat):Prop:=Zhv x j\/Zd2 x j\/((x.sx.map Zg).flatten≠[]/\Z2 x.sv j)\/((x.wat.map Z8).flatten≠[]/\Z2 x.av j)\/(Z6 x.sx x.ox).fp j
def wlG(x:TelX)(rv:Value)(j:Nat):Prop:=wlF x j\/Z2 rv j\/Z2 x.ov j
abbrev wlV(x:TelX)(r:List Rst)(rv:Value):List V:=[.v x.kv,.r (x.kept.map encK),.v x.wv,.r (x.wants.map Zb),.v x.sv,.r (x.sx.map Zg),.v x.av,.r (x.wat.map Z8),.i x.next,.v rv,.r (r.map Z5l),.v x.ov,.r (x.ox.map Z1r),.a (Z6 x.sx x.ox)]
abbrev wlA(k:Nat)(x:TelX)(r:List Rst)(rv:Value):List V:=[.n k,.v x.kv,.r (x.kept.map encK),.v x.wv,.r (x.wants.map Zb),.v x.sv,.r (x.sx.map Zg),.v x.av,.r (x.wat.map Z8),.i x.next,.v rv,.r (r.map Z5l),.v x.ov,.r (x.ox.map Z1r),.a (Z6 x.sx x.ox)]
abbrev wlH:List Ent:=[.rd 1 kK (.var 2),.rd 3 kW_V (.var 4),.rd 5 kSx (.var 6),.rd 7 kW_K (.var 8),.row 10 80 kR (.var 11),.row 12 111 kSn (.var 13),.st 14,.cells 0 82 [.val (.var 1),.val (.var 3),.val (.var 5),.val (.var 7),.int .i64 (.var 9),.val (.var 10),.val (.var 12)]]
theorem Z1ds{k:Nat}{x:TelX}{r:List Rst}{rv:Value}{j:Nat}(h:j∈Zl (wlA k x r rv) wlH):j∈k::(rv.ownBlock.toList++(x.ov.ownBlock.toList++[])):=by
 simp only[Zl,wlH,wlA,List.flatMap_cons,List.flatMap_nil,Ent.fpl,List.getD_cons_zero,List.getD_cons_succ,V.toV_v,V.toN_n,List.append_nil,List.nil_append,qy13,qy12,List.mem_cons]at h⊢;rcases h with h|h|h
 ·exact .inr (.inl h)
 ·exact .inr (.inr h)
 ·exact .inl (by simpa using h)
theorem Z17h{w w1:World}{k:Nat}{x:TelX}{r:List Rst}{rv:Value}{J:List V}{hp:List Ent}(h:Rel ⟨Zl (wlA k x r rv) wlH,w⟩ J hp w1)(i c:Nat){v ty:Nat}{ks:List Kd}{q:X}(h0:hp[i]?=some (.row v ty ks q)){e:Ent}(hc:hp[c]?=some e)(hi:i≠c)(h1:e.fp J k):∀j,Z2 (J.getD v (.i 0)).toV j->w.heap.size<=j\/Z2 rv j\/Z2 x.ov j:=λj hj=>by
 rcases h.own _ (qy6 h0) rfl j hj with g|g
 ·exact .inl g
 ·rcases List.mem_cons.1 (Z1ds g)with g|g
  ·exact absurd (show e.fp J j by rw[g];exact h1) λhf=>h.sep.disj (i:=i) (j:=c) h0 hc hi (.inl rfl) hj hf
  ·rw[List.append_nil]at g;rcases qy13.1 g with g|g
   ·exact .inr (.inl (Option.mem_toList.1 g))
   ·exact .inr (.inr (Option.mem_toList.1 g))
def Z11f(w w':World)(k:Nat)(x:TelX)(r:List Rst)(rv:Value)(t:Tel×List Rst):Prop :=
 ∃(y:TelX) (r':List Rst) (rv':Value),(y.tel,r')=t/\Rel ⟨Zl (wlA k x r rv) wlH,w⟩ (wlA k y r' rv') wlH w'/\∀j,wlG y rv' j->w.heap.size<=j\/wlG x rv j
theorem Zqg{w w':World}{k:Nat}{x y:TelX}{r r':List Rst}{rv rv':Value}{t:Tel×List Rst}(ht:(y.tel,r')=t)(hr:Rel ⟨Zl (wlA k x r rv) wlH,w⟩ (wlA k y r' rv') wlH w')(hg:∀j,wlF y j->w.heap.size<=j\/wlG x rv j):Z11f w w' k x r rv t :=
 ⟨y,r',rv',ht,hr,λj hj=>by
  rcases hj with hj|hj|hj
  ·exact hg j hj
  ·exact(Z17h hr 4 7 rfl rfl (by decide) rfl j hj).imp id .inr
  ·exact(Z17h hr 5 7 rfl rfl (by decide) rfl j hj).imp id .inr⟩
theorem Z1dt{B:Base}{J:List V}{hp:List Ent}{w:World}(h:Rel B J hp w)(hb:hp.all (Ent.bd J.length)=true)(k:Nat)(y:TelX)(r:List Rst)(rv:Value)(hA:(Z6 y.sx y.ox).holds w)(hf:∀j,(Z6 y.sx y.ox).fp j->∃e∈hp,e.wr=false/\e.fp J j)(is:List Nat)(hn:is.Nodup) (hs:(is.filterMap λi=>(Ent.st J.length::hp)[i]?).map (Ent.sem (J++[.a (Z6 y.sx y.ox)]))=wlH.map (Ent.sem (wlA k y r rv))):Rel B (wlA k y r rv) wlH w :=
 ((h.gather hb _ hA hf).pick is hn).conv hs
abbrev wlEs(n:Nat):List Ent:=[.rd n kK (.var (n+1)),.rd (n+2) kW_V (.var (n+3)),.rd (n+4) kSx (.var (n+5)),.rd (n+6) kW_K (.var (n+7)),.row (n+9) 80 kR (.var (n+10)),.row (n+11) 111 kSn (.var (n+12)),.st (n+13)]
abbrev wlMs(vk n:Nat):List Ent:=[.cells vk 82 [.val (.var n),.val (.var (n+2)),.val (.var (n+4)),.val (.var (n+6)),.int .i64 (.var (n+8)),.val (.var (n+9)),.val (.var (n+11))]]
theorem Z1b0{J:List V}{y:TelX}{r:List Rst}{rv:Value}{n:Nat}(hn:J.length=n)(i:Nat):(J++wlV y r rv).getD (n+i) (.i 0)=(wlV y r rv).getD i (.i 0):=by subst hn;rw[qy1,qy1,List.getElem?_append_right (by simp)];simp
theorem Z1du{J:List V}{y:TelX}{r:List Rst}{rv:Value}{k vk n:Nat}(hn:J.length=n)(hk:J.getD vk (.i 0)=.n k)(hv:vk<J.length):wlH.map (Ent.sem (wlA k y r rv))=(wlEs n++wlMs vk n).map (Ent.sem (J++wlV y r rv)):=by
 have g:=Z1b0 (y:=y) (r:=r) (rv:=rv) hn;have g0:(J++wlV y r rv).getD n (.i 0)=.v y.kv:=g 0;have hk':(J++wlV y r rv).getD vk (.i 0)=.n k:=by rw[<- hk,qy1,qy1,List.getElem?_append_left hv]
 simp only[wlH,wlEs,wlMs,List.cons_append,List.nil_append,List.map_cons,List.map_nil,Ent.sem,Ent.holds,Ent.fp,Ent.wr,X.ev,Sc.ev,g0,g 1,g 2,g 3,g 4,g 5,g 6,g 7,g 8,g 9,g 10,g 11,g 12,g 13,hk'];rfl
theorem Z1dv{P:Program}{f:Nat}{args:Array Value}{w:World}{B:Base}{J:List V}{hp:List Ent}{k:Nat}{x:TelX}{r:List Rst}{rv:Value}{t:Tel×List Rst}{v:Value}(h0:Rel B J hp w)(n vk:Nat)(gone:List Nat) (h:Calls P f args w λe w1=>e=.returned v/\Z11f w w1 k x r rv t) (hn:J.length=n) (hk:J.getD vk (.i 0)=.n k) (hv:vk<J.length) (hov:∀j,Z2 rv j\/Z2 x.ov j->j∈Zt J gone) (hO:∀j,wlF x j->(∃y∈hp,y.wr=false/\y.fp J j)\/j∈Zt J gone) : Calls P f args w λe w1=>∃(y:TelX) (r':List Rst) (rv':Value),(y.tel,r')=t/\w.heap.size<=w1.heap.size/\(∀j,wlG y rv' j->w.heap.size<=j\/wlG x rv j)/\e=.returned v/\Mod (Zm J [vk] gone) w w1/\(∀x∈wlMs vk n,x.holds (J++wlV y r' rv') w1) /\ (∀x∈wlEs n,x.holds (J++wlV y r' rv') w1/\∀k,x.fp (J++wlV y r' rv') k->w.heap.size<=k\/(x.wr=false/\∃y∈hp,y.wr=false/\y.fp J k)\/k∈Zt J gone)/\Zp (J++wlV y r' rv') (wlEs n):=by
 refine h.mono ?_;rintro e w1 ⟨he,y,r',rv',hT,hq,hg⟩;have hs:=Z1du (y:=y) (r:=r') (rv:=rv') hn hk hv;have hq':Rel ⟨Zm J [vk] gone,w⟩ (J++wlV y r' rv') (wlEs n++wlMs vk n) w1:=Zky (hq.conv hs) rfl λj hj=>by
  show j∈Zm J [vk] gone
  rcases List.mem_cons.1 (Z1ds hj)with g|g
  ·exact List.mem_append_left _ (qy12.2 (by rw[g];show k=(J.getD vk (.i 0)).toN;rw[hk];rfl))
  ·rw[List.append_nil]at g;exact List.mem_append_right _ (hov j ((qy13.1 g).imp Option.mem_toList.1 Option.mem_toList.1))
 refine⟨y,r',rv',hT,hq.mod.size,hg,he,hq'.mod,λx hx=>hq'.holds x (List.mem_append_right _ hx),λx hx=>⟨hq'.holds x (List.mem_append_left _ hx),λj hj=>?_⟩,(List.pairwise_append.1 hq'.sep).1⟩;cases hw:x.wr with
 | false =>
  have h1:Ent.sem (J++wlV y r' rv') x∈wlH.map (Ent.sem (wlA k y r' rv')):=by rw[hs];exact List.mem_map_of_mem (List.mem_append_left _ hx)
  obtain⟨e',he',hee⟩:=List.mem_map.1 h1;have hw':e'.wr=false:=(congrArg SEnt.wr hee).trans hw;have hj':e'.fp (wlA k y r' rv') j:=(congrFun (congrArg SEnt.fp hee) j).mpr hj;have h2:wlF y j:=by
   simp only[wlH,List.mem_cons,List.not_mem_nil,or_false]at he';rcases he' with rfl|rfl|rfl|rfl|rfl|rfl|rfl|rfl
   ·exact .inl hj'
   ·exact .inr (.inl hj')
   ·exact .inr (.inr (.inl hj'))
   ·exact .inr (.inr (.inr (.inl hj')))
   ·cases hw'
   ·cases hw'
   ·exact .inr (.inr (.inr (.inr hj')))
   ·cases hw'
  rcases hg j (.inl h2)with h|h|h
  ·exact .inl h
  ·exact .inr ((hO j h).imp (λh=>⟨rfl,h⟩) id)
  ·exact .inr (.inr (hov j h))
 | true =>
  rcases hq'.own x (List.mem_append_left _ hx) hw j hj with h5|h5
  ·exact .inl h5
  ·simp only[Zm,List.map_cons,List.map_nil,qy13,qy12]at h5;rcases h5 with h5|h5
   ·exfalso;refine(List.pairwise_append.1 hq'.sep).2.2 x hx _ (qy12.2 rfl) (.inl hw) _ hj ?_;rw[h5];simp only[Ent.fp];rw[qy1 (l:=J++_),List.getElem?_append_left hv,<- qy1]
   ·exact .inr (.inr h5)
def Outs(f:Tel->Tel):Prop:=∀t:Tel,∃(g:Tel) (r:List Snt),∀o,f { t with out:=o }={ g with out:=o++r }
theorem Zc2{α:Type}{f:Tel->α->Tel}(h:∀a,Outs λt=>f t a):∀l:List α,Outs λt=>l.foldl f t
 | []=>λt=>⟨t,[],λo=>by simp⟩
 | a::l=>λt=>by
  obtain⟨g,r,h1⟩:=h a t;obtain⟨g',r',h2⟩:=Zc2 h l g;refine⟨g',r++r',λo=>?_⟩;have e1:f { t with out:=o } a={ g with out:=o++r }:=h1 o;have e2:l.foldl f { g with out:=o++r }={ g' with out:=(o++r)++r' }:=h2 (o++r)
  show(a::l).foldl f { t with out:=o }=_
  rw[List.foldl_cons,e1,e2,List.append_assoc]
theorem Zjd(n p:List UInt8)(q:Int):Outs (Z7g n p q):=λt=>by obtain⟨g,r,h1⟩:=Zc2 (f:=Z1s n p q) (λa t=>⟨Z1s n p q t a,(Z2u (t.sess.getD (idxS t.sess a.1) s0) n p (min q a.2)).2.map λk=>toC a.1 (pkOf k),λo=>rfl⟩) (rdOf n t.wants) t;obtain⟨g',r',h2⟩:=Zc2 (f:=Z65 p) (λa t=>⟨Z65 p t a,[toP a.1 (putM ⟨1,69,t.next,a.2.1,[],p⟩ a.2.2.2)],λo=>rfl⟩) (Z3x n g.wat) { g with wat:=Z3c n g.wat };refine⟨g',r++r',λo=>?_⟩;have e:Z6o n p q { t with out:=o }={ g with out:=o++r }:=h1 o;have e2:(Z3x n g.wat).foldl (Z65 p) { { g with wat:=Z3c n g.wat }with out:=o++r }={ g' with out:=(o++r)++r' }:=h2 (o++r);rw[Z7g,e,<- List.append_assoc];exact e2
theorem Zd9(n p:List UInt8)(t:Tel):∃(g:Tel) (r:List Snt),∀o,Z1g n p { t with out:=o }=({ g with out:=o++r },(Z1g n p t).2):=by
 by_cases h1:(rawK t.kept n p).2=0
 ·by_cases h2:p=[]
  ·obtain⟨g,r,h3⟩:=Zc2 (f:=Z8b) (λa t=>⟨Z8b t a,[toP a.1 ⟨1,132,t.next,a.2.1,[],[]⟩],λo=>rfl⟩) (t.wat.filter (ofT n)) { t with kept:=(rawK t.kept n p).1 };refine⟨{ g with wat:=t.wat.filter λw=>!ofT n w },r,λo=>?_⟩;have e:(t.wat.filter (ofT n)).foldl Z8b { { t with kept:=(rawK t.kept n p).1 }with out:=o }={ g with out:=o++r }:=h3 o;rw[Z1g,if_neg (show ¬¬(rawK t.kept n p).2=0 from qy9.2 h1),if_neg (qy9.2 h2),Z1g,if_neg (qy9.2 h1),if_neg (qy9.2 h2)]
   show(({ (t.wat.filter (ofT n)).foldl Z8b { { t with kept:=(rawK t.kept n p).1 }with out:=o }with wat:=t.wat.filter λw=>!ofT n w }:Tel),true)=_
   rw[e]
  ·refine⟨{ t with kept:=(rawK t.kept n p).1 },[],λo=>?_⟩;rw[Z1g,if_neg (show ¬¬(rawK t.kept n p).2=0 from qy9.2 h1),if_pos h2,Z1g,if_neg (qy9.2 h1),if_pos h2,List.append_nil]
 ·refine⟨t,[],λo=>?_⟩;rw[Z1g,if_pos (show ¬(rawK t.kept n p).2=0 from h1),Z1g,if_pos h1,List.append_nil]
theorem Z11g(n:Int)(m a:Msg)(name:List UInt8)(t:Tel)(o:List Snt):getB n m a name { t with out:=o }=({ (getB n m a name t).1 with out:=o },(getB n m a name t).2):=by
 unfold getB;by_cases h1:hasK t.kept name=true
 ·rw[if_neg (show ¬¬hasK t.kept name=true from qy9.2 h1),if_neg (qy9.2 h1)];by_cases h2:(Z7f 6 m.opts).2=0/\(Z7f 6 m.opts).1=0
  ·simp only[if_pos h2];by_cases h3:(Z52 t.wat (n,m.tok,name,1)).2=0
   ·simp only[if_pos h3]
   ·simp only[if_neg h3]
  ·simp only[if_neg h2];by_cases h3:(Z7f 6 m.opts).2=0/\(Z7f 6 m.opts).1=1
   ·simp only[if_pos h3]
   ·simp only[if_neg h3]
 ·rw[if_pos (show ¬hasK t.kept name=true from h1),if_pos h1]
theorem Z164(n:Int)(m a:Msg)(t:Tel):∃(g:Tel) (r:List Snt) (b:Msg),∀o,doB n m a { t with out:=o }=({ g with out:=o++r },b):=by
 by_cases h1:(Z1f m.opts).2=0;rotate_left
 ·exact⟨t,[],{ a with code:=128 },λo=>by rw[doB,if_pos h1,List.append_nil]⟩
 by_cases h2:m.code=1
 ·exact⟨(getB n m a (Z1f m.opts).1 t).1,[],(getB n m a (Z1f m.opts).1 t).2,λo=>by rw[doB,if_neg (qy9.2 h1),if_pos h2,Z11g,List.append_nil]⟩
 by_cases h3:m.code=3
 ·obtain⟨g,r,h4⟩:=Zd9 (Z1f m.opts).1 m.pay t;by_cases h5:¬m.pay=[]/\(Z1g (Z1f m.opts).1 m.pay t).2=true
  ·obtain⟨g',r',h6⟩:=Zjd (Z1f m.opts).1 m.pay 1 g;refine⟨g',r++r',{ a with code:=68 },λo=>?_⟩;rw[doB,if_neg (qy9.2 h1),if_neg h2,if_pos h3,h4,if_pos h5]
   show(Z7g (Z1f m.opts).1 m.pay 1 { g with out:=o++r },{ a with code:=68 })=_
   rw[h6,List.append_assoc]
  ·refine⟨t,[],{ a with code:=128 },λo=>?_⟩;rw[doB,if_neg (qy9.2 h1),if_neg h2,if_pos h3,h4,if_neg h5,List.append_nil]
 by_cases h4:m.code=4
 ·obtain⟨g,r,h5⟩:=Zd9 (Z1f m.opts).1 [] t;exact⟨g,r,{ a with code:=66 },λo=>by rw[doB,if_neg (qy9.2 h1),if_neg h2,if_neg h3,if_pos h4,h5]⟩
 ·exact⟨t,[],a,λo=>by rw[doB,if_neg (qy9.2 h1),if_neg h2,if_neg h3,if_neg h4,List.append_nil]⟩
theorem Z1b1:Outs λt=>t:=λt=>⟨t,[],λo=>by rw[List.append_nil]⟩
theorem Zje(c:List UInt8):Outs (Z5f c):=λt=>by
 refine⟨Z5f c t,[],λo=>?_⟩;rw[List.append_nil];by_cases h1:hasS t.sess c=true
 ·by_cases h2:(goR (t.sess.getD (idxS t.sess c) s0)).clean=true
  ·rw[Z5f,Z5f,if_pos h1,if_pos (show hasS t.sess c=true from h1),if_pos h2,if_pos (show(goR (t.sess.getD (idxS t.sess c) s0)).clean=true from h2)];rfl
  ·rw[Z5f,Z5f,if_pos h1,if_pos (show hasS t.sess c=true from h1),if_neg h2,if_neg (show ¬(goR (t.sess.getD (idxS t.sess c) s0)).clean=true from h2)]
 ·rw[Z5f,Z5f,if_neg h1,if_neg (show ¬hasS t.sess c=true from h1)]
theorem Zlf(c:List UInt8)(p:Pkt):Outs (Z1n c p):=λt=>by
 by_cases h1:p.client=c
 ·by_cases h2:¬hasS t.sess c=true/\t.sess.length=6
  ·refine⟨t,[toC c { pD_Q 2 with code:=3 }],λo=>?_⟩;rw[Z1n,if_neg (qy9.2 h1),if_pos (show ¬hasS t.sess c=true/\t.sess.length=6 from h2)]
  ·refine⟨Z1n c p t,[toC c { pD_Q 2 with session:=Zbs t.sess c p.clean }]++(Zfw (Zdm t.sess c p.clean)).2.map λk=>toC c (pkOf k),λo=>?_⟩;rw[Z1n,Z1n,if_neg (qy9.2 h1),if_neg (qy9.2 h1),if_neg (show ¬(¬hasS t.sess c=true/\t.sess.length=6) from h2),if_neg h2,<- List.append_assoc]
 ·exact⟨t,[],λo=>by rw[Z1n,if_pos h1,List.append_nil]⟩
theorem Zlg(c:List UInt8)(p:Pkt):Outs (Z32 c p):=λt=>by
 obtain⟨r1,h1⟩:∃r1:List Snt,∀o,(if p.qos=1 then { ({ t with out:=o }:Tel)with out:=({ t with out:=o }:Tel).out++[toC c { pD_Q 4 with id:=p.id }] }else { t with out:=o })={ t with out:=o++r1 }:=by
  by_cases h:p.qos=1
  ·exact⟨_,λo=>by rw[if_pos h]⟩
  ·exact⟨[],λo=>by rw[if_neg h,List.append_nil]⟩
 obtain⟨g,r2,h2⟩:∃(g:Tel) (r2:List Snt),∀o,(if p.retain=true then(Z1g p.topic p.payload { t with out:=o }).1 else { t with out:=o })={ g with out:=o++r2 }:=by
  by_cases h:p.retain=true
  ·obtain⟨g,r,h3⟩:=Zd9 p.topic p.payload t;exact⟨g,r,λo=>by rw[if_pos h,h3]⟩
  ·exact⟨t,[],λo=>by rw[if_neg h,List.append_nil]⟩
 obtain⟨g',r3,h3⟩:=Zjd p.topic p.payload p.qos g;refine⟨g',r1++(r2++r3),λo=>?_⟩;rw[Z32];simp only;rw[h1 o,h2 (o++r1),h3,List.append_assoc,List.append_assoc]
theorem Zny(c:List UInt8)(p:Pkt):Outs (Zy c p):=λt=>by
 by_cases h0:¬p.kind=1/\(¬hasS t.sess c=true\/¬(t.sess.getD (idxS t.sess c) s0).on=true)
 ·exact⟨t,[],λo=>by rw[Zy,if_pos (show ¬p.kind=1/\(¬hasS t.sess c=true\/¬(t.sess.getD (idxS t.sess c) s0).on=true) from h0),List.append_nil]⟩
 have e0:∀o,Zy c p { t with out:=o }=if p.kind=1 then Z1n c p { t with out:=o }
   else if p.kind=3 then Z32 c p { t with out:=o }
   else if p.kind=4 then Znb c p { t with out:=o }
   else if p.kind=8 then Z2h c p { t with out:=o }
   else if p.kind=10 then Z1o c p { t with out:=o }
   else if p.kind=12 then { ({ t with out:=o }:Tel)with out:=o++[toC c (pD_Q 13)] }
   else if p.kind=14 then Z5f c { t with out:=o }
   else { t with out:=o }:=λo=>by rw[Zy,if_neg (show ¬(¬p.kind=1/\(¬hasS t.sess c=true\/¬(t.sess.getD (idxS t.sess c) s0).on=true)) from h0)]
 simp only[e0];by_cases h1:p.kind=1
 ·simp only[if_pos h1];exact Zlf c p t
 simp only[if_neg h1];by_cases h1:p.kind=3
 ·simp only[if_pos h1];exact Zlg c p t
 simp only[if_neg h1];by_cases h1:p.kind=4
 ·simp only[if_pos h1];exact⟨Znb c p t,(Z53 (t.sess.getD (idxS t.sess c) s0) p.id).2.map λk=>toC c (pkOf k),λo=>rfl⟩
 simp only[if_neg h1];by_cases h1:p.kind=8
 ·simp only[if_pos h1];exact⟨Z2h c p t,[toC c { pD_Q 9 with id:=p.id,codes:=(Zhu c t.wants p.asks).2 }]++Z3k c t.kept p.asks (Zhu c t.wants p.asks).2,λo=>by rw[<- List.append_assoc];rfl⟩
 simp only[if_neg h1];by_cases h1:p.kind=10
 ·simp only[if_pos h1];exact⟨Z1o c p t,[toC c { pD_Q 11 with id:=p.id }],λo=>rfl⟩
 simp only[if_neg h1];by_cases h1:p.kind=12
 ·simp only[if_pos h1];exact⟨t,[toC c (pD_Q 13)],λo=>rfl⟩
 simp only[if_neg h1];by_cases h1:p.kind=14
 ·simp only[if_pos h1];exact Zje c t
 simp only[if_neg h1];exact Z1b1 t
