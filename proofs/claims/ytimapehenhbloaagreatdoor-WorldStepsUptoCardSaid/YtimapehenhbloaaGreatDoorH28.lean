/- By an AI agent. -/
import Derived.Test.YtimapehenhbloaaGreatDoorH27
set_option linter.all false
set_option maxHeartbeats 20000000
set_option maxRecDepth 100000
open Nat renaming reduceAdd→ra
open List renaming append_nil→ϐ,append_assoc→ϑ,prefix_rfl→ϒ,getElem?_map→ϔ,mem_append_left→Ϙ,mem_cons→ϙ,map_append→Ϝ,not_mem_nil→Ϟ,take_length→Ϡ,map_cons→Ϣ,flatMap_cons→ϣ,map_nil→Ϥ,mem_append_right→ϥ,flatMap_nil→Ϧ,length_take→Ϩ,getElem_mem→ϩ,pairwise_append→Ϭ,take_take→Ϯ,getElem?_append_right→ϯ,getElem?_append_left→ϰ,mem_iff_getElem→ϳ,getD_cons_succ→ϸ,mem_map_of_mem→Ϲ,drop_set_of_lt→Ϻ,foldl_append→β,length_cons→γ,ext_getElem→δ,foldl_cons→ε,length_nil→ζ,mem_map→ν
open Nat renaming succ_pos→ϓ,le_trans→ϗ,reduceAdd→Ϫ,min_eq_left→η,min→θ,min_self→ξ,le_refl→π
open Bool renaming true→ϕ,false→ϫ
open Option renaming mem_toList→ϖ,some→ϱ,none→μ
open Go renaming Value→Ϛ,World→ϭ,Calls→ϲ
open Go.Proofs.Tryz renaming prog→ϧ
open Int renaming toNat→Ϸ,toNat_of_nonneg→ϻ
namespace Go.Proofs.Y
open Go Go.Sx
def Zgb(A:Asrt)(p:Prop):Asrt where
 holds w:=A.holds w/\p
 fp:=A.fp
 stable:=λw w' h hh=>⟨A.stable w w' h hh.1,hh.2⟩
 bound:=λw hh k hk=>A.bound w hh.1 k hk
variable{k:Nat}{J:List V}{hp:List Ent}
def Z1ca{w w1:ϭ}{x:TelX}(h:Rel ⟨Zh (tlA k x) tlH,w⟩ J hp w1){v ty:Nat}{ks:List Kd}{r:X}(h0:hp[0]?=ϱ (.row v ty ks r)){a b c d:Nat}{ea eb ec ed:Ent}(hn:0≠a/\0≠b/\0≠c/\0≠d)(ha:hp[a]?=ϱ ea)(hb:hp[b]?=ϱ eb)(hc:hp[c]?=ϱ ec)(hd:hp[d]?=ϱ ed)(h1:ea.fp J k)(h2:∀j,Z1 x.sv j->eb.fp J j)(h3:∀j,Z1 x.av j->ec.fp J j)(h4:∀j,Z1 x.ov j->ed.fp J j): ∀j,Z1 (J.getD v (.i 0)).toV j->w.heap.size<=j:=λj hj=>by
 rcases h.own _ (qy6 h0) rfl j hj with g|g
 ·exact g
 ·exfalso;have key:∀(i:Nat) (e:Ent),hp[i]?=ϱ e->0≠i->e.fp J j->False:=λi e he hi hf=>h.sep.disj h0 he hi (.inl rfl) hj hf;rcases ϙ.1 (Z10a g)with g|g
  ·exact key a _ ha hn.1 (by rw[g];exact h1)
  ·rcases qy13.1 g with g|g
   ·exact key b _ hb hn.2.1 (h2 j (ϖ.1 g))
   ·rcases qy13.1 g with g|g
    ·exact key c _ hc hn.2.2.1 (h3 j (ϖ.1 g))
    ·rcases qy13.1 g with g|g
     ·exact key d _ hd hn.2.2.2 (h4 j (ϖ.1 g))
     ·cases g
def Zpi(c:By):∀(l:List Rd) (x:List Kp×List Int),(l.foldl (Z34 c) x).2.length=x.2.length+l.length
 | [],_=>rfl
 | a::l,x=>by rw[ε,Zpi c l,Z34];split<;>simp<;>omega
def Zgc(c:By)(kept:List Kp):∀(l:List Rd) (m:List Int) (i:Nat),i<l.length->i<m.length->Z3y c kept (l.take (i+1)) (m.take (i+1))=Z3y c kept (l.take i) (m.take i)++Zln c kept (l.getD i yD) (m.getD i 0)
 | [],_,_,h,_=>by simp at h
 | _,[],_,_,h=>by simp at h
 | a::l,q::m,0,_,_=>by simp[Z3y]
 | a::l,q::m,i+1,h1,h2=>by have:=Zgc c kept l m i (by simpa using h1) (by simpa using h2);simp only[List.take_succ_cons,Z3y,ϸ,ϑ]at this⊢;rw[this]
variable(n:Int)
def ackX(cs:List Int)(u:Ϛ):Z39:=({ pD_Q 9 with id:=n,codes:=cs },.slice μ 0 0,u)
def Zse{n:Int}{cs:List Int}{u:Ϛ}{w:ϭ}(h:Z3p w u cs):(Za [ackX n cs u]).holds w:=by
 intro t ht;simp only[ϣ,Ϧ,ϐ,Zkp,ϙ,Ϟ,or_false]at ht;rcases ht with rfl|rfl
 ·exact Z6 _ _
 ·exact h
def Zn9{n:Int}{cs:List Int}{u:Ϛ}{j:Nat}(h:(Za [ackX n cs u]).fp j):(cs.map Zg).flatten≠[]/\Z1 u j:=by
 obtain⟨t,ht,h1,h2⟩:=h;simp only[ϣ,Ϧ,ϐ,Zkp,ϙ,Ϟ,or_false]at ht;rcases ht with rfl|rfl
 ·exact ϟ rfl h1
 ·exact⟨h1,h2⟩
def Zpj(k:Kp):Pkt:={ pD_Q 3 with retain:=ϕ,topic:=k.1,payload:=k.2.1 }
def Zuy(w:ϭ)(k:Nat)(x:TelX)(c:By)(p:Pkt)(va vc:Ϛ)(hr:Rel ⟨Zh (tlA k x) tlH,w⟩ (tlA k x++Zcc c p va vc) (tlH++pkHp) w)(hb:BOk x.tel)(ho:x.ox.length<50000)(hc:Z9 c=ϕ)(hp:Zn1 p.asks)(hl:p.asks.length<=5): ϲ ϧ 217 #[.pointer (ϱ ⟨k,0,μ⟩),.string ⟨c.toArray⟩,Zsd p va vc] w λe w'=>e=.returned (.tuple #[])/\Zbc w w' k x (λ_=>False) (Z2f c p x.tel):=by
  refine Wu Z5s hr ?_;simp only[QR,ra,gA0,gA1,gI0,gK0,gK1];intro b30 b31;have hkt:chkK x.kept=0:=hb.kept;have hk16:x.kept.length<=16:=(Z11.1 hkt).1;have hol:x.tel.out.length=x.ox.length:=by simp[TelX.tel]
  have lenX:∀y:TelX,y.tel.out.length=y.ox.length:=λy=>by simp[TelX.tel]
  obtain⟨PF,hPF⟩:∃PF:Ϛ->Prop,PF=λu=>∀j,Z1 u j->w.heap.size<=j:=⟨_,rfl⟩
  refine⟨Zgb (Z3 x.sx x.ox) (PF (.slice μ 0 0)),λw hr=>⟨hr.at_ 7 rfl,by rw[hPF];exact Z2r _⟩,λj hj=>(qE 7 rfl rfl hj),?_⟩;refine⟨λvs=>∃(i:Nat) (W:List Kp) (v u:Ϛ) (cs:List Int),vs=[.i i,.a (Zgb (Z3 x.sx x.ox) (PF u)),.i 9,.b ϫ,.b ϫ,.b ϫ,.b ϫ,.i 0,.i p.id,.i 0,.i 0,.s [],.s [],.s [],.v (.slice μ 0 0),.r [],.v u,.r (cs.map Zg),.v x.kv,.r (x.kept.map encK),.v v,.r (W.map encK),.v x.sv,.r (x.sx.map Ze),.v x.av,.r (x.wat.map Z4),.i x.next,.v x.ov,.r (x.ox.map Zp)]/\i<=p.asks.length/\(p.asks.take i).foldl (Z34 c) (x.wants,[])=(W,cs)/\(∀j,(W.map encK).flatten≠[]/\Z1 v j->w.heap.size<=j\/Zat x j),
    λvs=>(p.asks.length - (vs.getD 0 (.i 0)).toI).toNat,⟨0,x.wants,x.wv,.slice μ 0 0,[],rfl,O,rfl,λj hj=>.inr hj⟩,?_⟩
  rintro _ - ⟨i,W,v,u,cs,rfl,hi,hf,hwn⟩;simp only[QR,ra,gA0,gA1,gI0,gK0,gK1];have hW:Zl W=0:=by have:=(Zpb hc (p.asks.take i) (x:=(x.wants,[])) (λa ha=>hp a (List.mem_of_mem_take ha)) hb.wants).1;rw[hf]at this;exact this
  have hcl:cs.length=i:=by have:=Zpi c (p.asks.take i) (x.wants,[]);rw[hf]at this;simp only[ζ,Ϩ]at this;omega
  refine⟨λh1=>?_,λh1=>?_⟩
  . have hi':i<p.asks.length:=O
    have hstep:(p.asks.take (i+1)).foldl (Z34 c) (x.wants,[])=Z34 c (W,cs) (p.asks.getD i yD):=by rw[Zlr yD _ _ hi',β,hf];rfl
    refine⟨O,λb62=>?_⟩;intro w1 hr1;have hz1:=hr1.mod.size;refine(Z1hn w1 v W (c,(p.asks.getD i yD).1,(p.asks.getD i yD).2) (hr1.at_ 5 rfl) (Z1v.1 hW).2.2 (Z1v.1 hW).1).mono ?_;obtain⟨R,hR⟩:∃R,R=rawW W (c,(p.asks.getD i yD).1,(p.asks.getD i yD).2):=⟨_,rfl⟩
    rw[<- hR];rintro e w2 ⟨v',rfl,a1,a2,am⟩;refine⟨[.v v',.r (R.1.map encK),.i R.2],rfl,rfl,am,qy5 _,qy2.2 ⟨⟨a1,λk hk=>.inl (a2 k hk.2)⟩,qy5 _⟩,Z2,?_⟩;simp only[QR,ra,gA0,gA1,gI0,gK0,gK1];have hwn':∀j,(R.1.map encK).flatten≠[]/\Z1 v' j->w.heap.size<=j\/Zat x j:=λj hj=>.inl (ϗ hz1 (a2 j hj.2));clear hr1 a1 am;refine⟨λh2=>?_,λh2=>?_⟩
    . intro v66;refine⟨by first|omega|(simp;omega),λv67=>⟨O,O,Zgb (Z3 x.sx x.ox) (PF v67),λw3 hr3=>⟨(hr3.at_ 4 rfl:(Zgb (Z3 x.sx x.ox) (PF u)).holds w3).1,?_⟩,λj hj=>(qE 4 rfl rfl hj),⟨i+1,R.1,v',v67,cs++[(p.asks.getD i yD).2],?_,O,?_,hwn'⟩,O⟩⟩
      . rw[hPF];exact Z1ca hr3 rfl (a:=13) (b:=9) (c:=10) (d:=11) U rfl rfl rfl rfl rfl (λj h=>h) (λj h=>h) (λj h=>h)
      . rw[Ϝ];rfl
      . rw[hstep,Z34]
        show(if(rawW W (c,(p.asks.getD i yD).1,(p.asks.getD i yD).2)).2=0 then _ else _)=_
        rw[<- hR,ϝ h2]
    . intro v66;refine⟨by first|omega|(simp;omega),λv67=>⟨O,O,Zgb (Z3 x.sx x.ox) (PF v67),λw3 hr3=>⟨(hr3.at_ 4 rfl:(Zgb (Z3 x.sx x.ox) (PF u)).holds w3).1,?_⟩,λj hj=>(qE 4 rfl rfl hj),⟨i+1,W,v,v67,cs++[128],?_,O,?_,hwn⟩,O⟩⟩
      . rw[hPF];exact Z1ca hr3 rfl (a:=13) (b:=9) (c:=10) (d:=11) (by decide) rfl rfl rfl rfl rfl (λj h=>h) (λj h=>h) (λj h=>h)
      . rw[Ϝ];rfl
      . rw[hstep,Z34]
        show(if(rawW W (c,(p.asks.getD i yD).1,(p.asks.getD i yD).2)).2=0 then _ else _)=_
        rw[<- hR,ϛ h2]
  . have hie:i=p.asks.length:=by omega
    subst hie;rw[Ϡ]at hf;have hA1:Zhl c x.wants p.asks=(W,cs):=hf;intro v62 w1 hr1;have hz1:=hr1.mod.size;have hu:∀j,Z1 u j->w.heap.size<=j:=by have:=(hr1.at_ 1 rfl:(Zgb (Z3 x.sx x.ox) (PF u)).holds w1).2;rw[hPF]at this;exact this
    have hg0:Grew w.heap.size (λ_=>False) x { x with wants:=W,wv:=v }:=⟨λj hj=>.inr hj,hwn,λj hj=>.inr (.inl hj)⟩
    refine(Z4j (k:=k) (x:={ x with wants:=W,wv:=v }) (F:=(Za [ackX p.id cs u]).fp) (pre:=[]) hr1 63 0 [55,57,60]
      (Z23 w1 k { x with wants:=W,wv:=v } c v62 [ackX p.id cs u] (Zad (toRd hr1) (by rfl) k { x with wants:=W,wv:=v } (Za [ackX p.id cs u]) _ _ (hr1.at_ 1 rfl:(Zgb (Z3 x.sx x.ox) (PF u)).holds w1).1 (λj hj=>(qE 1 rfl rfl hj)) (Zse (hr1.at_ 14 rfl)) (λj hj=>(qE 14 rfl rfl (Zn9 hj))) [6,7,8,9,10,1,12,2,0] (by decide) rfl rfl) (show 1<1000000 by decide) (by show x.ox.length<1000000;omega))
      rfl rfl (ϓ _) rfl (λj hj=>?_)).mono ?_
    . rcases hj with hj|hj|hj|hj
      . exact(qE 4 rfl rfl hj)
      . exact(qE 5 rfl rfl hj)
      . exact(qE 1 rfl rfl hj)
      . exact(qE 14 rfl rfl (Zn9 hj))
    rintro e w2 ⟨y1,hy1,hs1,hg1,rfl,m1,m2,m3,m4⟩;refine⟨tlV y1,rfl,rfl,m1,m2,m3,m4,?_⟩;clear m1 m2 m3 m4;have G1:Grew w.heap.size (λ_=>False) x y1:=hg0.trans hg1 hz1 (λj h=>.inl (hu j (Zn9 h).2));have ky1:y1.kept=x.kept:=congrArg Tel.kept hy1;have T1:y1.tel={ x.tel with wants:=W,out:=x.tel.out++[toC c { pD_Q 9 with id:=p.id,codes:=cs }] }:=hy1;have L1:y1.tel.out.length=x.ox.length+1:=by rw[T1];simp only[qy11,γ,ζ,hol]
    clear hr1;refine⟨Z3 y1.sx y1.ox,λw hr=>hr.at_ 5 rfl,λj hj=>(qE 5 rfl rfl hj),?_⟩;refine⟨λvs=>∃(i:Nat) (z:TelX),vs=[.i i,.a (Z3 z.sx z.ox),.v z.kv,.r (z.kept.map encK),.v z.wv,.r (z.wants.map encK),.v z.sv,.r (z.sx.map Ze),.v z.av,.r (z.wat.map Z4),.i z.next,.v z.ov,.r (z.ox.map Zp)]/\i<=p.asks.length/\z.tel={ y1.tel with out:=y1.tel.out++Z3y c x.kept (p.asks.take i) (cs.take i) }/\Grew w.heap.size (λ_=>False) x z,
      λvs=>(p.asks.length - (vs.getD 0 (.i 0)).toI).toNat,⟨0,y1,rfl,by omega,by simp[Z3y],G1⟩,?_⟩
    rintro _ - ⟨i,z,rfl,hi2,hzt,hgz⟩;simp only[QR,ra,gA0,gA1,gI0,gK0,gK1];have zk:z.kept=x.kept:=by have:=congrArg Tel.kept hzt;exact this.trans ky1
    have zl:z.ox.length<=x.ox.length+81:=by have h5:=Zkc c hkt (p.asks.take i) (cs.take i);have h6:=lenX z;rw[hzt]at h6;simp only[qy11,Ϩ]at h5 h6;omega
    refine⟨λh2=>?_,λh2 w3 hr3=>?_⟩
    . have hi3:i<p.asks.length:=by omega
      have hlt:=Zgc c x.kept p.asks cs i hi3 (by omega);refine⟨by omega,λb89=>⟨by omega,λh3=>?_,λh3=>?_⟩⟩
      . refine⟨by omega,by omega,Z3 z.sx z.ox,λw hr=>hr.at_ 1 rfl,λj hj=>(qE 1 rfl rfl hj),⟨i+1,z,rfl,by omega,?_,hgz⟩,by omega⟩;rw[hlt,Zln,ϝ h3,ϐ];exact hzt
      . intro w4 hr4;have hz4:=hr4.mod.size;have hak:=hp (p.asks.getD i yD) (by rw[qy1,qy7 hi3];exact ϩ hi3);refine(Z1hj w4 z.kv z.kept (p.asks.getD i yD).1 (hr4.at_ 2 rfl) (by rw[zk];exact λy hy=>by have:=(Z4r.1 ((Z11.1 hkt).2.1 y hy).1).2.1.1;omega) (by rw[zk];omega) (by have:=(Z4r.1 hak.1).2.1.1;omega)).mono ?_;rintro e w5 ⟨v',rfl,a1,a2,am⟩;obtain⟨K,hK⟩:∃K,K=z.kept.filter (forF (p.asks.getD i yD).1):=⟨_,rfl⟩
        rw[<- hK]at a1;refine⟨[.v v',.r (K.map encK)],rfl,rfl,am,qy5 _,qy2.2 ⟨⟨a1,λk hk=>.inl (a2 k hk.2)⟩,qy5 _⟩,Z2,?_⟩;have hK16:K.length<=16:=by rw[hK,zk];exact ϗ (List.length_filter_le _ _) hk16
        clear hr4 a1 a2 am;refine⟨Z3 z.sx z.ox,λw hr=>hr.at_ 2 rfl,λj hj=>(qE 2 rfl rfl hj),?_⟩;refine⟨λvs=>∃(j:Nat) (y:TelX),vs=[.i j,.a (Z3 y.sx y.ox),.v y.kv,.r (y.kept.map encK),.v y.wv,.r (y.wants.map encK),.v y.sv,.r (y.sx.map Ze),.v y.av,.r (y.wat.map Z4),.i y.next,.v y.ov,.r (y.ox.map Zp)]/\j<=K.length/\y.tel={ z.tel with out:=z.tel.out++(K.take j).map λk=>toC c (Zpj k) }/\Grew w.heap.size (λ_=>False) x y,
          λvs=>(K.length - (vs.getD 0 (.i 0)).toI).toNat,⟨0,z,rfl,by omega,by simp,hgz⟩,?_⟩
        rintro _ - ⟨j,y,rfl,hj,hyt,hgy⟩;simp only[QR,ra,gA0,gA1,gI0,gK0,gK1];have yl:y.ox.length<=x.ox.length+97:=by have h6:=lenX y;rw[hyt]at h6;simp only[qy11,qy3,Ϩ,lenX z]at h6;omega
        refine⟨λh4=>?_,λh4=>?_⟩
        . have hj':j<K.length:=by omega
          refine⟨by omega,λb106 v107 w6 hr6=>?_⟩;have hz6:=hr6.mod.size;refine(Z4j (k:=k) (x:=y) (F:=(Za [pk1X (Zpj (K.getD j kD))]).fp) (pre:=[]) hr6 108 0 [99,101,104]
            (Z23 w6 k y c v107 [pk1X (Zpj (K.getD j kD))] (Zad (toRd hr6) (by rfl) k y (Za [pk1X (Zpj (K.getD j kD))]) _ _ (hr6.at_ 2 rfl) (λj hj=>(qE 2 rfl rfl hj)) (Z2i rfl rfl _) (λj hj=>ϟ hj (Z16 rfl rfl)) [8,9,10,11,12,1,21,2,0] (by decide) rfl
              (Zd rfl (Zd rfl (Zd rfl (Zd rfl (Zd rfl (Zd rfl (Zd rfl (Zd (Zae rfl (by simp only[QR,ra,gA0,gA1,gI0,gK0,gK1];rfl)) rfl))))))))) (show 1<1000000 by decide) (by omega))
            rfl rfl (ϓ _) rfl (λj hj=>?_)).mono ?_
          . rcases hj with hj|hj|hj|hj
            . exact(qE 6 rfl rfl hj)
            . exact(qE 7 rfl rfl hj)
            . exact(qE 2 rfl rfl hj)
            . exact ϟ hj (Z16 rfl rfl)
          rintro e w7 ⟨y2,hy2,hs2,hg2,rfl,m1,m2,m3,m4⟩;refine⟨tlV y2,rfl,rfl,m1,m2,m3,m4,?_⟩;refine⟨by omega,by omega,Z3 y2.sx y2.ox,λw hr=>hr.at_ 5 rfl,λj hj=>(qE 5 rfl rfl hj),⟨j+1,y2,rfl,by omega,?_,hgy.trans hg2 hz6 (λj h=>ϟ h (Z16 rfl rfl))⟩,by omega⟩;rw[hy2,hyt,Zlr kD K j hj'];simp only[Ϝ,Ϣ,Ϥ,ϑ];rfl
        . have hje:j=K.length:=by omega
          rw[hje,Ϡ]at hyt;refine⟨by omega,by omega,Z3 y.sx y.ox,λw hr=>hr.at_ 0 rfl,λj hj=>(qE 0 rfl rfl hj),⟨i+1,y,rfl,by omega,?_,hgy⟩,by omega⟩;rw[hyt,hzt,hlt,Zln,ϛ h3,hK,zk];simp only[ϑ];rfl
    . have hie:i=p.asks.length:=by omega
      refine⟨by trivial,z,?_,(hr3.pick [1,2,3,4,5,0,14] (by decide)).conv rfl,hgz⟩;rw[hzt,T1,hie,Ϡ,List.take_of_length_le (by omega),Z2f]
      show _=({ x.tel with wants:=(Zhl c x.wants p.asks).1,out:=x.tel.out++[toC c { pD_Q 9 with id:=p.id,codes:=(Zhl c x.wants p.asks).2 }]++Z3y c x.kept p.asks (Zhl c x.wants p.asks).2 }:Tel)
      rw[hA1]
def Z155{w w1:ϭ}{x:TelX}(h:Rel ⟨Zh (tlA k x) tlH,w⟩ J hp w1)(m:Nat){v ty:Nat}{ks:List Kd}{r:X}(h0:hp[m]?=ϱ (.row v ty ks r)){a b c d:Nat}{ea eb ec ed:Ent}(hn:m≠a/\m≠b/\m≠c/\m≠d)(ha:hp[a]?=ϱ ea)(hb:hp[b]?=ϱ eb)(hc:hp[c]?=ϱ ec)(hd:hp[d]?=ϱ ed)(h1:ea.fp J k)(h2:∀j,Z1 x.sv j->eb.fp J j)(h3:∀j,Z1 x.av j->ec.fp J j)(h4:∀j,Z1 x.ov j->ed.fp J j): ∀j,Z1 (J.getD v (.i 0)).toV j->w.heap.size<=j:=λj hj=>by
 rcases h.own _ (qy6 h0) rfl j hj with g|g
 ·exact g
 ·exfalso;have key:∀(i:Nat) (e:Ent),hp[i]?=ϱ e->m≠i->e.fp J j->False:=λi e he hi hf=>h.sep.disj h0 he hi (.inl rfl) hj hf;rcases ϙ.1 (Z10a g)with g|g
  ·exact key a _ ha hn.1 (by rw[g];exact h1)
  ·rcases qy13.1 g with g|g
   ·exact key b _ hb hn.2.1 (h2 j (ϖ.1 g))
   ·rcases qy13.1 g with g|g
    ·exact key c _ hc hn.2.2.1 (h3 j (ϖ.1 g))
    ·rcases qy13.1 g with g|g
     ·exact key d _ hd hn.2.2.2 (h4 j (ϖ.1 g))
     ·cases g
def Zxv{g a:List Nat}:∀j∈k::a,j∈k::(g++a):=λj hj=>by
 rcases ϙ.1 hj with rfl|h
 ·exact qy8 ..
 ·exact qy10 _ (ϥ _ h)
variable{B:Base}
def Z1cb{P:Program}{f:Nat}{args:Array Ϛ}{w:ϭ}{x:TelX}{F:Nat->Prop}{R:TelX->Prop}{pre:List V}{v:Ϛ}(h0:Rel B J hp w)(n vk:Nat)(gone:List Nat)(h:ϲ P f args w λe w1=>e=.returned v/\∃y:TelX,R y/\Rel ⟨Zh (tlA k x) tlH,w⟩ (tlA k y) tlH w1/\Grew w.heap.size F x y)(hn:J.length+pre.length=n)(hk:J.getD vk (.i 0)=.n k)(hv:vk<J.length)(hM:∀j∈k::(x.sv.ownBlock.toList++(x.av.ownBlock.toList++(x.ov.ownBlock.toList++[]))),j∈Zn J [vk] gone)(hO:∀j,(Zkn x j\/Zat x j\/(Z3 x.sx x.ox).fp j\/F j)->(∃y∈hp,y.wr=ϫ/\y.fp J j)\/j∈Zq J gone): ϲ P f args w λe w1=>∃y:TelX,R y/\w.heap.size<=w1.heap.size/\Grew w.heap.size F x y/\e=.returned v/\Mod (Zn J [vk] gone) w w1/\(∀x∈tlMs vk n,x.holds (J++(pre++tlV y)) w1) /\ (∀x∈tlEs n,x.holds (J++(pre++tlV y)) w1/\∀k,x.fp (J++(pre++tlV y)) k->w.heap.size<=k\/(x.wr=ϫ/\∃y∈hp,y.wr=ϫ/\y.fp J k)\/k∈Zq J gone)/\Zt (J++(pre++tlV y)) (tlEs n):=by
 refine h.mono ?_;rintro e w1 ⟨he,y,hT,hq,hg⟩;have hs:=Z14t (y:=y) hn hk hv;have hq':Rel ⟨Zn J [vk] gone,w⟩ (J++(pre++tlV y)) (tlEs n++tlMs vk n) w1:=Zko (hq.conv hs) rfl λj hj=>hM j (Z10a hj);refine⟨y,hT,hq.mod.size,hg,he,hq'.mod,λx hx=>hq'.holds x (ϥ _ hx),λx hx=>⟨hq'.holds x (Ϙ _ hx),λj hj=>?_⟩,(Ϭ.1 hq'.sep).1⟩;cases hw:x.wr with
 | false =>
  have h1:Ent.sem (J++(pre++tlV y)) x∈tlH.map (Ent.sem (tlA k y)):=by rw[hs];exact Ϲ (Ϙ _ hx)
  obtain⟨e',he',hee⟩:=ν.1 h1;have hw':=(congrArg SEnt.wr hee).trans hw;have hj':=(congrFun (congrArg SEnt.fp hee) j).mpr hj;have key:∀j,(Zkn y j\/Zat y j\/(Z3 y.sx y.ox).fp j)->w.heap.size<=j\/(∃y∈hp,y.wr=ϫ/\y.fp J j)\/j∈Zq J gone:=by
   rintro j (h|h|h)
   ·rcases hg.kept j h with h|h
    ·exact .inl h
    ·exact .inr (hO j (.inl h))
   ·rcases hg.want j h with h|h
    ·exact .inl h
    ·exact .inr (hO j (.inr (.inl h)))
   ·rcases hg.nest j h with h|h|h
    ·exact .inl h
    ·exact .inr (hO j (.inr (.inr (.inl h))))
    ·exact .inr (hO j (.inr (.inr (.inr h))))
  have fin:w.heap.size<=j\/(∃y∈hp,y.wr=ϫ/\y.fp J j)\/j∈Zq J gone:=by
   simp only[tlH,ϙ,Ϟ,or_false]at he';rcases he' with rfl|rfl|rfl|rfl|rfl|rfl|rfl
   ·exact key j (.inl hj')
   ·exact key j (.inr (.inl hj'))
   ·cases hw'
   ·cases hw'
   ·cases hw'
   ·exact key j (.inr (.inr hj'))
   ·cases hw'
  rcases fin with h|h|h
  ·exact .inl h
  ·exact .inr (.inl ⟨rfl,h⟩)
  ·exact .inr (.inr h)
 | true =>
  rcases hq'.own x (Ϙ _ hx) hw j hj with h5|h5
  ·exact .inl h5
  ·simp only[Zn,Ϣ,Ϥ,qy13,qy12]at h5;rcases h5 with h5|h5
   ·exfalso;refine(Ϭ.1 hq'.sep).2.2 x hx _ (qy12.2 rfl) (.inl hw) _ hj ?_;rw[h5];simp only[Ent.fp];rw[qy1 (l:=J++_),ϰ hv,<- qy1]
   ·exact .inr (.inr h5)
variable(c:By)
def unK(asks:List Rd)(w:Kp):Bool:=!(decide (w.1=c) && asks.any λa=>decide (a.1=w.2.1))
def Z1cc{c:By}{asks:List Rd}{y:Kp}{m:Nat}(h:y.1=c)(hm:m<asks.length)(h2:(asks.getD m yD).1=y.2.1):¬unK c asks y=ϕ:=by unfold unK;rw[qy1,qy7 hm]at h2;have:(asks.any λa=>decide (a.1=y.2.1))=ϕ:=List.any_eq_true.2 ⟨asks[m],ϩ hm,by simpa using h2⟩;rw[this];simp[h]
def Z1cd{c:By}{asks:List Rd}{y:Kp}(h:¬y.1=c):unK c asks y=ϕ:=by unfold unK;simp[h]
def Z156{c:By}{asks:List Rd}{y:Kp}(h:∀m,m<asks.length->¬(asks.getD m yD).1=y.2.1):unK c asks y=ϕ:=by
 unfold unK;have:(asks.any λa=>decide (a.1=y.2.1))=ϫ:=by rw[List.any_eq_false];intro a ha;obtain⟨m,hm,rfl⟩:=List.getElem_of_mem ha;have:=h m hm;rw[qy1,qy7 hm]at this;simpa using this
 rw[this];simp
def Zpk(w:ϭ)(k:Nat)(x:TelX)(c:By)(p:Pkt)(va vc:Ϛ)(hr:Rel ⟨Zh (tlA k x) tlH,w⟩ (tlA k x++Zcc c p va vc) (tlH++pkHp) w)(hlw:x.wants.length<1000000)(ho:x.ox.length<50000)(hl:p.asks.length<1000000): ϲ ϧ 218 #[.pointer (ϱ ⟨k,0,μ⟩),.string ⟨c.toArray⟩,Zsd p va vc] w λe w'=>e=.returned (.tuple #[])/\Zbc w w' k x (λ_=>False) (Z1g c p x.tel):=by
  refine Wu Z51 hr ?_;simp only[QR,ra,gK0,gK1,gK2,gA0];intro b30 b31 w1 hr1;obtain⟨l,hle⟩:∃l,l=x.wants:=⟨_,rfl⟩
  refine(Z63 w1 x.wv x.wants (hr1.at_ 4 rfl) O).mono ?_;rintro e w2 ⟨u,rfl,a1,f1,m1⟩;refine⟨[.v u,.r (x.wants.map encK)],rfl,rfl,m1,qy5 _,qy2.2 ⟨⟨a1,λk hk=>.inl (f1 k hk)⟩,qy5 _⟩,Z2,?_⟩;clear hr1 a1 f1 m1;rw[<- hle]at hlw;simp only[QR,ra,gK0,gK1,gK2,gA0,<- hle];have hfin:∀(u':Ϛ) (y1:TelX),y1.tel={ (TelX.tel { x with wants:=l.filter (unK c p.asks),wv:=u' })with out:=(TelX.tel { x with wants:=l.filter (unK c p.asks),wv:=u' }).out++[toC c { pD_Q 11 with id:=p.id }] }->y1.tel=Z1g c p x.tel:=λu' y1 h=>by rw[h,hle];rfl
  refine⟨λvs=>∃(y:V) (i:Nat),vs=[y,.i i,.i p.kind,.b p.dup,.b p.retain,.b p.clean,.b p.session,.i p.qos,.i p.id,.i p.keep,.i p.code,.s p.client,.s p.topic,.s p.payload,.v va,.r (p.asks.map encA),.v vc,.r (p.codes.map Zg),.s c]/\i<=l.length/\∀j,j<i->unK c p.asks (l.getD j kD)=ϕ,λvs=>(l.length - (vs.getD 1 (.i 0)).toI).toNat,⟨_,0,rfl,O,λj hj=>O⟩,?_⟩;rintro _ - ⟨y0,i,rfl,hi,hn⟩;simp only[QR,ra,gK0,gK1,gK2,gA0];refine⟨λh1=>?_,λh1=>?_⟩
  . have hi':i<l.length:=O
    refine⟨O,λb55=>?_⟩;refine⟨λh2=>?_,λh2=>⟨O,O,⟨_,i+1,rfl,O,λj hj=>?_⟩,O⟩⟩
    . refine⟨λvs=>∃(y:V) (m:Nat),vs=[y,.i m,.s (l.getD i kD).1,.s (l.getD i kD).2.1,.i (l.getD i kD).2.2]/\m<=p.asks.length/\∀j,j<m->¬(p.asks.getD j yD).1=(l.getD i kD).2.1,λvs=>(p.asks.length - (vs.getD 1 (.i 0)).toI).toNat,⟨_,0,rfl,O,λj hj=>O⟩,?_⟩;rintro _ - ⟨y1,m,rfl,hm,hnm⟩;simp only[QR,ra,gK0,gK1,gK2,gA0];refine⟨λh3=>⟨O,λb61=>⟨λh4=>⟨λh5=>O,λh5=>⟨O,O,?_⟩⟩,λh4=>⟨O,O,⟨_,m+1,rfl,O,λj hj=>?_⟩,O⟩⟩⟩,λh3=>⟨λh5=>O,λh5=>⟨O,O,⟨_,i+1,rfl,O,λj hj=>?_⟩,O⟩⟩⟩
      . refine⟨λvs=>∃(a j:Nat) (R:List Kp),vs=[.i a,.i j,.r (R.map encK),.i p.kind,.b p.dup,.b p.retain,.b p.clean,.b p.session,.i p.qos,.i p.id,.i p.keep,.i p.code,.s p.client,.s p.topic,.s p.payload,.v va,.r (p.asks.map encA),.v vc,.r (p.codes.map Zg),.s c]/\a<j/\j<=l.length/\R.length=l.length/\R.take a=(l.take j).filter (unK c p.asks)/\R.drop j=l.drop j,λvs=>(l.length - (vs.getD 1 (.i 0)).toI).toNat,
          ⟨i,i+1,l,rfl,O,O,rfl,?_,rfl⟩,?_⟩
        . rw[Z3l (unK c p.asks) l i O,ϛ (Z1cc h2 O h4),ϐ,Zef hn]
        rintro _ - ⟨a,j,R,rfl,haj,hj,hR,ht,hd⟩;simp only[QR,ra,gK0,gK1,gK2,gA0,hR];refine⟨λh6=>?_,λh6=>?_⟩
        . have hj':j<l.length:=O
          have hg:=Zrn hd;refine⟨O,λb82 b83=>?_⟩;refine⟨λh7=>?_,λh7=>?_⟩
          . refine⟨λvs=>∃(y:V) (m:Nat),vs=[y,.i m,.s (R.getD j kD).1,.s (R.getD j kD).2.1,.i (R.getD j kD).2.2]/\m<=p.asks.length/\∀i,i<m->¬(p.asks.getD i yD).1=(R.getD j kD).2.1,λvs=>(p.asks.length - (vs.getD 1 (.i 0)).toI).toNat,⟨_,0,rfl,O,λj hj=>O⟩,?_⟩;rintro _ - ⟨y3,m3,rfl,hm3,hnm3⟩;simp only[QR,ra,gK0,gK1,gK2,gA0,hR];refine⟨λh8=>⟨O,λb89=>⟨λh9=>⟨O,O,⟨a,j+1,R,rfl,O,O,hR,?_,Z8s hd⟩,O⟩,λh9=>⟨O,by omega,⟨_,m3+1,rfl,by omega,λi hi=>?_⟩,by omega⟩⟩⟩,λh8=>⟨λh9=>?_,λh9=>by omega⟩⟩
            . rw[Z3l (unK c p.asks) l j (by omega),ϛ (Z1cc (m:=m3) (by rw[<- hg];exact h7) (by omega) (by rw[<- hg];exact h9)),ϐ];exact ht
            . by_cases hij:i=m3
              . subst hij;exact h9
              . exact hnm3 i (by omega)
            . repeat (first|omega|refine⟨by omega,?_⟩)
              refine⟨⟨a+1,j+1,R.set a (R.getD j kD),?_,by omega,by omega,by simpa using hR,Zju haj (by omega) hR ht hd (by rw[<- hg];exact Z156 λm hm=>hnm3 m (by omega)),?_⟩,by omega⟩
              . rw[<- Z1u];rfl
              . rw[Ϻ (by omega)];exact Z8s hd
          . repeat (first|omega|refine⟨by omega,?_⟩)
            refine⟨⟨a+1,j+1,R.set a (R.getD j kD),?_,by omega,by omega,by simpa using hR,Zju haj (by omega) hR ht hd (by rw[<- hg];exact Z1cd h7),?_⟩,by omega⟩
            . rw[<- Z1u];rfl
            . rw[Ϻ (by omega)];exact Z8s hd
        . have hje:j=l.length:=by omega
          subst hje;rw[Ϡ]at ht;refine⟨by omega,by omega,?_,λu' v83 w3 hr3=>?_⟩
          . simp only[qy11,Ϩ,List.length_replicate,qy3,hR];omega
          have hz3:=hr3.mod.size;have hnu:∀j,Z1 u' j->w.heap.size<=j:=Z155 hr3 1 rfl (a:=14) (b:=10) (c:=11) (d:=12) (by decide) rfl rfl rfl rfl rfl (λj h=>h) (λj h=>h) (λj h=>h);refine(Z1cb (k:=k) (x:={ x with wants:=l.filter (unK c p.asks),wv:=u' }) (F:=(Za [pk1X { pD_Q 11 with id:=p.id }]).fp) (pre:=[]) hr3 84 0 [82,5,7,10]
            (Z23 w3 k { x with wants:=l.filter (unK c p.asks),wv:=u' } c v83 [pk1X { pD_Q 11 with id:=p.id }] (Zad (Z5f (v:=82) (Z5f (v:=83) hr3)) (by rfl) k { x with wants:=l.filter (unK c p.asks),wv:=u' } (Za [pk1X { pD_Q 11 with id:=p.id }]) _ _ (hr3.at_ 13 rfl) (λj hj=>(qE 13 rfl rfl hj)) (Z2i rfl rfl _) (λj hj=>ϟ hj (Z16 rfl rfl)) [10,3,12,13,14,1,16,2,0] (by decide) rfl
              (Zd rfl (Zd (Zae rfl (by simp only[QR,ra,gK0,gK1,gK2,gA0];rw[List.take_append_of_le_length (by simp;omega),Ϯ,ξ,<- List.map_take,ht])) rfl))) (show 1<1000000 by decide) (by show x.ox.length<1000000;omega))
            rfl rfl (ϓ _) Zxv (λj hj=>?_)).mono ?_
          . rcases hj with hj|hj|hj|hj
            . exact .inl (qE 8 rfl rfl hj)
            . exact .inr (Z14 (i:=82) (qy8 ..) hj.2)
            . exact .inl (qE 13 rfl rfl hj)
            . exact ϟ hj (Z16 rfl rfl)
          rintro e w4 ⟨y4,hy4,hs4,hg4,rfl,m1,m2,m3,m4⟩;refine⟨tlV y4,rfl,rfl,m1,m2,m3,m4,?_⟩;intro w7 hr7;exact⟨by trivial,y4,hfin u' y4 hy4,(hr7.pick [0,1,2,3,4,5,16] (by decide)).conv rfl,(show Grew w.heap.size (λ_=>False) x { x with wants:=l.filter (unK c p.asks),wv:=u' } from⟨λj hj=>.inr hj,λj hj=>.inl (hnu j hj.2),λj hj=>.inr (.inl hj)⟩).trans hg4 hz3 (λj h=>ϟ h (Z16 rfl rfl))⟩
      . by_cases hij:j=m
        . subst hij;exact h4
        . exact hnm j (by omega)
      . by_cases hij:j=i
        . subst hij;exact Z156 λm' hm'=>hnm m' (by omega)
        . exact hn j (by omega)
    . by_cases hij:j=i
      . subst hij;exact Z1cd h2
      . exact hn j (by omega)
  . have hie:i=l.length:=by omega
    subst hie;have e1:=Zef (p:=unK c p.asks) (l:=l) (i:=l.length) hn;rw[Ϡ]at e1;intro v55 w3 hr3;obtain⟨u',hu'⟩:∃u',u'=u:=⟨_,rfl⟩
    subst hu';have hz3:=hr3.mod.size;have hnu:∀j,Z1 u' j->w.heap.size<=j:=Z155 hr3 2 rfl (a:=12) (b:=8) (c:=9) (d:=10) (by decide) rfl rfl rfl rfl rfl (λj h=>h) (λj h=>h) (λj h=>h);refine(Z1cb (k:=k) (x:={ x with wants:=l.filter (unK c p.asks),wv:=u' }) (F:=(Za [pk1X { pD_Q 11 with id:=p.id }]).fp) (pre:=[]) hr3 56 0 [33,5,7,10]
      (Z23 w3 k { x with wants:=l.filter (unK c p.asks),wv:=u' } c v55 [pk1X { pD_Q 11 with id:=p.id }] (Zad (Z5f (v:=33) (Z5f (v:=55) hr3)) (by rfl) k { x with wants:=l.filter (unK c p.asks),wv:=u' } (Za [pk1X { pD_Q 11 with id:=p.id }]) _ _ (hr3.at_ 11 rfl) (λj hj=>(qE 11 rfl rfl hj)) (Z2i rfl rfl _) (λj hj=>ϟ hj (Z16 rfl rfl)) [8,4,10,11,12,1,14,2,0] (by decide) rfl
        (Zd rfl (Zd (Zae rfl (by rw[e1];rfl)) rfl))) (show 1<1000000 by decide) (by show x.ox.length<1000000;omega))
      rfl rfl (ϓ _) Zxv (λj hj=>?_)).mono ?_
    . rcases hj with hj|hj|hj|hj
      . exact .inl (qE 6 rfl rfl hj)
      . exact .inr (Z14 (i:=33) (qy8 ..) hj.2)
      . exact .inl (qE 11 rfl rfl hj)
      . exact ϟ hj (Z16 rfl rfl)
    rintro e w4 ⟨y4,hy4,hs4,hg4,rfl,m1,m2,m3,m4⟩;refine⟨tlV y4,rfl,rfl,m1,m2,m3,m4,?_⟩;intro w7 hr7;exact⟨by trivial,y4,hfin u' y4 hy4,(hr7.pick [0,1,2,3,4,5,14] (by decide)).conv rfl,(show Grew w.heap.size (λ_=>False) x { x with wants:=l.filter (unK c p.asks),wv:=u' } from⟨λj hj=>.inr hj,λj hj=>.inl (hnu j hj.2),λj hj=>.inr (.inl hj)⟩).trans hg4 hz3 (λj h=>ϟ h (Z16 rfl rfl))⟩
def Z8v{l:List Kp}(h:Zl l=0):Z2d l:=λy hy=>by obtain⟨h1,h2,-⟩:=Zrr h y hy;have h3:=(Z4r.1 h2).2.1.1;unfold Z9 at h1;rw[Bool.and_eq_true,ϡ]at h1;exact⟨O,O⟩
def Z1i4{p:Pkt}(h:chkP p=0)(hk:p.kind=10):p.asks.length<=5:=by
 have h1:=(Zg8 h).1;unfold Z2b at h1;rw[ϛ O,ϛ O,ϛ O,ϝ (.inr hk),Zjt]at h1;split at h1
 ·rename_i h2;exact(Zxo h2).2
 ·exact ϟ h1 O5
def Z1ae(w:ϭ)(k:Nat)(x:TelX)(c:By)(p:Pkt)(va vc:Ϛ)(hr:Rel ⟨Zh (tlA k x) tlH,w⟩ (tlA k x++Zcc c p va vc) (tlH++pkHp) w)(hb:BOk x.tel)(ho:x.ox.length<40000)(hc:Z9 c=ϕ)(hp:chkP p=0): ϲ ϧ 176 #[.pointer (ϱ ⟨k,0,μ⟩),.string ⟨c.toArray⟩,Zsd p va vc] w λe w'=>e=.returned (.tuple #[])/\Zbc w w' k x (λ_=>False) (Zx c p x.tel):=by
 refine Wu Z89 hr ?_;simp only[QR,ra];have hn6:x.sx.length<=6:=by have:=hb.ns;rw[Z28,qy3]at this;exact this
 have hw20:x.wants.length<=20:=Zel hb.wants;intro b30;refine⟨[.i (idxS x.tel.sess c),.b (hasS x.tel.sess c)],rfl,λ_ w' hr=>Zkm w' x.sv x.sx c (hr.at_ 3 rfl).reads hb.sort O,?_⟩;simp only[QR,ra];have hat:hasS x.tel.sess c=ϕ->idxS x.tel.sess c<x.sx.length:=λh=>(Zls h).1;have hon:hasS x.tel.sess c=ϕ->Value.gB (((x.sx.map Ze).getD (idxS x.tel.sess c) []).getD 1 undef)=(x.tel.sess.getD (idxS x.tel.sess c) s0).on:=λh=>by rw[Z57 (Zls h).1,<- (Zls h).2];rfl
 refine⟨.inr O,?_,?_⟩
 ·by_cases h:hasS x.tel.sess c=ϕ
  ·exact .inr (by have:=hat h;omega)
  ·exact .inl λh2=>h h2.2
 have hif:(¬p.kind=1/\(¬hasS x.tel.sess c=ϕ\/¬Value.gB (((x.sx.map Ze).getD (idxS x.tel.sess c) []).getD 1 undef)=ϕ))↔(¬p.kind=1/\(¬hasS x.tel.sess c=ϕ\/¬(x.tel.sess.getD (idxS x.tel.sess c) s0).on=ϕ)):=by
  by_cases h:hasS x.tel.sess c=ϕ
  ·rw[hon h]
  ·simp[h]
 rw[hif];have hfin:∀{w1:ϭ} {y:TelX} {t:Tel},w.heap.size<=w1.heap.size->Grew w1.heap.size (λ_=>False) x y->Grew w.heap.size (λ_=>False) x y:=λh1 h2=>(Grew.refl _ _ x).trans h2 h1 (λ_ h=>h.elim);refine⟨λh1 w3 hr=>⟨O6,x,by rw[Zx,ϝ h1],(hr.pick [1,2,3,4,5,6,7] U).conv rfl,.refl _ _ _⟩,λh1=>?_⟩;have hpk:Zx c p x.tel=if p.kind=1 then Z1c c p x.tel
   else if p.kind=3 then Z2t c p x.tel
   else if p.kind=4 then Zlo c p x.tel
   else if p.kind=8 then Z2f c p x.tel
   else if p.kind=10 then Z1g c p x.tel
   else if p.kind=12 then { x.tel with out:=x.tel.out++[toC c (pD_Q 13)] }
   else if p.kind=14 then Z4i c x.tel
   else x.tel:=by rw[Zx,ϛ h1]
 have hhas:¬p.kind=1->hasS x.tel.sess c=ϕ/\(x.tel.sess.getD (idxS x.tel.sess c) s0).on=ϕ:=λh2=>⟨Classical.byContradiction λh4=>h1 ⟨h2,.inl h4⟩,Classical.byContradiction λh4=>h1 ⟨h2,.inr h4⟩⟩
 refine⟨λhq1=>?_,λhq1=>?_⟩
 ·intro w1 hr1;refine(Z4j (pre:=[]) hr1 33 0 [5,7,10]
   (Z154 w1 k x c p va vc (((hr1.pick [1,2,3,4,5,6,7,8,9] U).conv rfl).base.conv rfl) hb O hc)
   rfl rfl (ϓ _) rfl (λj hj=>?_)).mono ?_
  ·rcases hj with hj|hj|hj|hj
   ·exact(qE 1 rfl rfl hj)
   ·exact(qE 2 rfl rfl hj)
   ·exact(qE 6 rfl rfl hj)
   ·exact hj.elim
  rintro e w2 ⟨y,hy,hs,hg,rfl,m1,m2,m3,m4⟩;refine⟨tlV y,rfl,rfl,m1,m2,m3,m4,?_⟩;intro w3 hr3;exact⟨O6,y,by rw[hy,hpk,ϝ hq1],(hr3.pick [0,1,2,3,4,5,10] U).conv rfl,(Grew.refl _ _ x).trans hg hr1.mod.size (λ_ h=>h.elim)⟩
 refine⟨λh3=>?_,λh3=>?_⟩
 ·intro w1 hr1;refine(Z4j (pre:=[]) hr1 33 0 [5,7,10]
   (Z153 w1 k x c p va vc (((hr1.pick [1,2,3,4,5,6,7,8,9] U).conv rfl).base.conv rfl) hb O (Z8v hb.wants) ((Zg8 hp).2.1 h3))
   rfl rfl (ϓ _) rfl (λj hj=>?_)).mono ?_
  ·rcases hj with hj|hj|hj|hj
   ·exact(qE 1 rfl rfl hj)
   ·exact(qE 2 rfl rfl hj)
   ·exact(qE 6 rfl rfl hj)
   ·exact hj.elim
  rintro e w2 ⟨y,hy,hs,hg,rfl,m1,m2,m3,m4⟩;refine⟨tlV y,rfl,rfl,m1,m2,m3,m4,?_⟩;intro w3 hr3;exact⟨O6,y,by rw[hy,hpk,ϛ hq1,ϝ h3],(hr3.pick [0,1,2,3,4,5,10] U).conv rfl,(Grew.refl _ _ x).trans hg hr1.mod.size (λ_ h=>h.elim)⟩
 refine⟨λh4=>?_,λh4=>?_⟩
 ·obtain⟨hh,hon1⟩:=hhas hq1;obtain⟨hlt,hse⟩:=Zls hh;have hok:SesOk (x.sx.getD (idxS x.tel.sess c) sxD).1:=by rw[hse];exact Zb9 hb hh
  have hT:∀u1 u2:Ϛ,Zx c p x.tel={ (TelX.tel { x with sx:=x.sx.set (idxS x.tel.sess c) ((Z4l (x.sx.getD (idxS x.tel.sess c) sxD).1 p.id).1,u1,u2) })with out:=(TelX.tel { x with sx:=x.sx.set (idxS x.tel.sess c) ((Z4l (x.sx.getD (idxS x.tel.sess c) sxD).1 p.id).1,u1,u2) }).out++((Z4l (x.sx.getD (idxS x.tel.sess c) sxD).1 p.id).2.map pkN).map λt=>toC c t.1 }:=λu1 u2=>by rw[hpk,ϛ hq1,ϛ h3,ϝ h4,Zlo,Zg9,<- hse];simp only[TelX.tel,List.map_set]
  clear hif hon hat;generalize idxS x.tel.sess c=ix at hlt hse hok hT⊢
  have hrow:=Z57 hlt;simp only[hrow,Ze,List.getD_cons_zero,ϸ,Value.gI,Value.gB,Value.gS,Zv];have hmm:=Z58 hlt;generalize hss:x.sx.getD ix sxD=ss at hok hse hmm hT
  obtain⟨s,s',s''⟩:=ss;simp only at hok hse hT⊢;obtain⟨S,hS⟩:∃S,S=Z4l s p.id:=⟨_,rfl⟩
  have hS7:S.2.length<=6:=by rw[hS];exact Zs2 p.id hok
  rw[<- hS]at hT;refine⟨λvs=>∃(u1 u2 u3:Ϛ) (b:Nat),vs=[.s S.1.cl,.b S.1.on,.b S.1.clean,.v u1,.r (S.1.fl.map encF),.v u2,.r (S.1.qu.map encF),.i S.1.next,.v u3,.r ((S.2.map pkN).map Z2y),.n b]/\newV w.heap.size u1/\newV w.heap.size u2,⟨O,O,?_,?_⟩,?_⟩
  ·intro w1 hr1;have hsz:=hr1.mod.size;obtain⟨hs1,hs2⟩:=Zy (hr1.at_ 6 rfl:(Z3 x.sx x.ox).holds w1) hmm;refine(Zb (Z1bx w1 s s' s'' p.id hs1 hs2 hok.next (by have:=hok.nf;omega) (by have:=hok.nq;omega)) rfl).mono ?_;rw[<- hS];rintro e w2 ⟨u1,u2,u3,rfl,g1,g2,g3,g4,g5,g6,gm⟩;refine⟨[.s S.1.cl,.b S.1.on,.b S.1.clean,.v u1,.r (S.1.fl.map encF),.v u2,.r (S.1.qu.map encF),.i S.1.next,.v u3,.r ((S.2.map pkN).map Z2y)],rfl,rfl,gm,qy5 _,qy2.2 ⟨⟨g1,λk hk=>.inl (g4 k hk.2)⟩,qy2.2 ⟨⟨g2,λk hk=>.inl (g5 k hk.2)⟩,qy2.2 ⟨⟨by show reads w2 u3 kP ((S.2.map pkN).map Z2y);rw[Z7o];exact g3,λk hk=>.inl (g6 k hk.2)⟩,qy5 _⟩⟩⟩,Z4k ..,λb=>⟨u1,u2,u3,b,rfl,λk hk=>ϗ hsz (g4 k hk),λk hk=>ϗ hsz (g5 k hk)⟩⟩
  ·intro b w1 hr1;have hsz:=hr1.mod.size;obtain⟨hs1,hs2⟩:=Zy (hr1.at_ 7 rfl:(Z3 x.sx x.ox).holds w1) hmm;refine(Zb (Z1bx w1 s s' s'' p.id hs1 hs2 hok.next (by have:=hok.nf;omega) (by have:=hok.nq;omega)) rfl).mono ?_;rw[<- hS];rintro e w2 ⟨u1,u2,u3,rfl,g1,g2,g3,g4,g5,g6,gm⟩;refine⟨[.s S.1.cl,.b S.1.on,.b S.1.clean,.v u1,.r (S.1.fl.map encF),.v u2,.r (S.1.qu.map encF),.i S.1.next,.v u3,.r ((S.2.map pkN).map Z2y)],rfl,rfl,gm,qy5 _,qy2.2 ⟨⟨g1,λk hk=>.inl (g4 k hk.2)⟩,qy2.2 ⟨⟨g2,λk hk=>.inl (g5 k hk.2)⟩,qy2.2 ⟨⟨by show reads w2 u3 kP ((S.2.map pkN).map Z2y);rw[Z7o];exact g3,λk hk=>.inl (g6 k hk.2)⟩,qy5 _⟩⟩⟩,Z4k ..,u1,u2,u3,b,rfl,λk hk=>ϗ hsz (g4 k hk),λk hk=>ϗ hsz (g5 k hk)⟩
  rintro _ - ⟨u1,u2,u3,b,rfl,n1,n2⟩;refine⟨λvs=>vs=[],⟨O,O,rfl⟩,?_⟩;rintro _ - rfl;simp only[QR,ra];intro w3 hr3;have hsz3:w.heap.size<=w3.heap.size:=hr3.mod.size;have hA3:(Z3 (x.sx.set ix (S.1,u1,u2)) x.ox).holds w3:=Z5t (hr3.at_ 10 rfl) (hr3.at_ 1 rfl) (hr3.at_ 2 rfl);have hf3:∀j,(Z3 (x.sx.set ix (S.1,u1,u2)) x.ox).fp j->(Z3 x.sx x.ox).fp j\/((S.1.fl.map encF).flatten≠[]/\Z1 u1 j)\/((S.1.qu.map encF).flatten≠[]/\Z1 u2 j):=λj hj=>(Z2g hj).elim (λh=>.inl h) (λh=>.inr h);refine(Z4j (k:=k) (x:={ x with sx:=x.sx.set ix (S.1,u1,u2) }) (F:=(Za (S.2.map pkN)).fp) (pre:=[]) hr3 44 0 [5,7,10]
   (Z23 w3 k { x with sx:=x.sx.set ix (S.1,u1,u2) } c u3 (S.2.map pkN) (Zad hr3 (by rfl) k { x with sx:=x.sx.set ix (S.1,u1,u2) } (Za (S.2.map pkN)) _ _ hA3 (λj hj=>?_) (Z6p _ _) (λj hj=>ϟ hj Z3z) [7,8,9,10,11,1,13,5,0] U rfl (Zd rfl (Zd rfl (Zd (Z3w rfl ?_) rfl)))) (by rw[qy3];omega) (by show x.ox.length<1000000;omega))
   rfl rfl (ϓ _) rfl (λj hj=>?_)).mono ?_
  ·rcases hf3 j hj with h|h|h
   ·exact(qE 10 rfl rfl h)
   ·exact(qE 1 rfl rfl h)
   ·exact(qE 2 rfl rfl h)
  ·simp only[QR,ra];rw[<- Z2h]
  ·rcases hj with hj|hj|hj|hj
   ·exact(qE 5 rfl rfl hj)
   ·exact(qE 6 rfl rfl hj)
   ·rcases hf3 j hj with h|h|h
    ·exact(qE 10 rfl rfl h)
    ·exact(qE 1 rfl rfl h)
    ·exact(qE 2 rfl rfl h)
   ·exact ϟ hj Z3z
  rintro e w4 ⟨y2,hy2,hsz4,hgr,rfl,m1,m2,m3,m4⟩;refine⟨tlV y2,rfl,rfl,m1,m2,m3,m4,?_⟩;intro w5 hr5;exact⟨O6,y2,by rw[hy2,<- hT u1 u2],(hr5.pick [0,1,2,3,4,5,14] U).conv rfl,(Zib (Grew.refl w.heap.size _ x) (π _) (λj h=>n1 j h) (λj h=>n2 j h)).trans hgr hsz3 (λj h=>ϟ h Z3z)⟩
 refine⟨λh8=>?_,λh8=>?_⟩
 ·intro w1 hr1;refine(Z4j (k:=k) (x:=x) (F:=λ_=>False) (pre:=[]) hr1 33 0 [5,7,10]
   (Zuy w1 k x c p va vc (((hr1.pick [1,2,3,4,5,6,7,8,9] U).conv rfl).base.conv rfl) hb (by omega) hc (Zs3 hp h8).1 (Zs3 hp h8).2.2)
   rfl rfl (ϓ _) rfl (λj hj=>?_)).mono ?_
  ·rcases hj with hj|hj|hj|hj
   ·exact(qE 1 rfl rfl hj)
   ·exact(qE 2 rfl rfl hj)
   ·exact(qE 6 rfl rfl hj)
   ·exact hj.elim
  rintro e w2 ⟨y,hy,hs,hg,rfl,m1,m2,m3,m4⟩;refine⟨tlV y,rfl,rfl,m1,m2,m3,m4,?_⟩;intro w3 hr3;exact⟨by trivial,y,by rw[hy,hpk,ϛ hq1,ϛ h3,ϛ h4,ϝ h8],(hr3.pick [0,1,2,3,4,5,10] (by decide)).conv rfl,(Grew.refl _ _ x).trans hg hr1.mod.size (λ_ h=>h.elim)⟩
 refine⟨λh10=>?_,λh10=>?_⟩
 ·intro w1 hr1;refine(Z4j (k:=k) (x:=x) (F:=λ_=>False) (pre:=[]) hr1 33 0 [5,7,10]
   (Zpk w1 k x c p va vc (((hr1.pick [1,2,3,4,5,6,7,8,9] (by decide)).conv rfl).base.conv rfl) (by omega) (by omega) (by have:=Z1i4 hp h10;omega))
   rfl rfl (ϓ _) rfl (λj hj=>?_)).mono ?_
  ·rcases hj with hj|hj|hj|hj
   ·exact(qE 1 rfl rfl hj)
   ·exact(qE 2 rfl rfl hj)
   ·exact(qE 6 rfl rfl hj)
   ·exact hj.elim
  rintro e w2 ⟨y,hy,hs,hg,rfl,m1,m2,m3,m4⟩;refine⟨tlV y,rfl,rfl,m1,m2,m3,m4,?_⟩;intro w3 hr3;exact⟨by trivial,y,by rw[hy,hpk,ϛ hq1,ϛ h3,ϛ h4,ϛ h8,ϝ h10],(hr3.pick [0,1,2,3,4,5,10] (by decide)).conv rfl,(Grew.refl _ _ x).trans hg hr1.mod.size (λ_ h=>h.elim)⟩
 refine⟨λh12=>?_,λh12=>?_⟩
 ·intro v33 w1 hr1;refine(Z4j (k:=k) (x:=x) (F:=(Za [pk1X (pD_Q 13)]).fp) (pre:=[]) hr1 34 0 [5,7,10]
   (Z23 w1 k x c v33 [pk1X (pD_Q 13)] (Zad (toRd hr1) (by rfl) k x (Za [pk1X (pD_Q 13)]) _ _ (hr1.at_ 7 rfl) (λj hj=>(qE 7 rfl rfl hj)) (Z2i rfl rfl _) (λj hj=>ϟ hj (Z16 rfl rfl)) [4,5,6,7,8,1,10,2,0] (by decide) rfl rfl) (show 1<1000000 by decide) (by omega))
   rfl rfl (ϓ _) rfl (λj hj=>?_)).mono ?_
  ·rcases hj with hj|hj|hj|hj
   ·exact(qE 2 rfl rfl hj)
   ·exact(qE 3 rfl rfl hj)
   ·exact(qE 7 rfl rfl hj)
   ·exact ϟ hj (Z16 rfl rfl)
  rintro e w2 ⟨y,hy,hs,hg,rfl,m1,m2,m3,m4⟩;refine⟨tlV y,rfl,rfl,m1,m2,m3,m4,?_⟩;intro w3 hr3;exact⟨by trivial,y,by rw[hy,hpk,ϛ hq1,ϛ h3,ϛ h4,ϛ h8,ϛ h10,ϝ h12];rfl,(hr3.pick [0,1,2,3,4,5,11] (by decide)).conv rfl,(Grew.refl _ _ x).trans hg hr1.mod.size (λj h=>ϟ h (Z16 rfl rfl))⟩
 refine⟨λh14=>?_,λh14=>?_⟩
 ·intro w1 hr1;refine(Z4j (k:=k) (x:=x) (F:=λ_=>False) (pre:=[]) hr1 33 0 [5,7,10]
   (Z1c9 w1 k x c (((hr1.pick [1,2,3,4,5,6,7] (by decide)).conv rfl).base.conv rfl) hb (by omega))
   rfl rfl (ϓ _) rfl (λj hj=>?_)).mono ?_
  ·rcases hj with hj|hj|hj|hj
   ·exact(qE 1 rfl rfl hj)
   ·exact(qE 2 rfl rfl hj)
   ·exact(qE 6 rfl rfl hj)
   ·exact hj.elim
  rintro e w2 ⟨y,hy,hs,hg,rfl,m1,m2,m3,m4⟩;refine⟨tlV y,rfl,rfl,m1,m2,m3,m4,?_⟩;intro w3 hr3;exact⟨by trivial,y,by rw[hy,hpk,ϛ hq1,ϛ h3,ϛ h4,ϛ h8,ϛ h10,ϛ h12,ϝ h14],(hr3.pick [0,1,2,3,4,5,10] (by decide)).conv rfl,(Grew.refl _ _ x).trans hg hr1.mod.size (λ_ h=>h.elim)⟩
 intro w3 hr;exact⟨by trivial,x,by rw[hpk,ϛ hq1,ϛ h3,ϛ h4,ϛ h8,ϛ h10,ϛ h12,ϛ h14],(hr.pick [1,2,3,4,5,6,7] (by decide)).conv rfl,.refl _ _ _⟩
abbrev mgV(m:Msg)(v:Ϛ):List V:=[.i m.kind,.i m.code,.i m.id,.s m.tok,.v v,.r (m.opts.map encO),.s m.pay]
def Z157(w w':ϭ)(e:Ending)(k:Nat)(x:TelX)(av:Ϛ)(t:Tel)(a:Msg):Prop :=
 ∃(y:TelX) (v:Ϛ),e=.returned (mV a (sc1 v))/\y.tel=t/\Rel ⟨Zh (tlA k x) tlH,w⟩ (tlA k y++[.v v,.r (a.opts.map encO)]) (tlH++[.rd 13 [.int .i64,.str] (.var 14)]) w'/\Grew w.heap.size (λ_=>False) x y/\(v=av\/∀j,Z1 v j->w.heap.size<=j)
def Z1fq(w:ϭ)(k:Nat)(x:TelX)(n:Int)(m a:Msg)(mv av:Ϛ)(name:By)(hr:Rel ⟨Zh (tlA k x) tlH,w⟩ (tlA k x++([.i n]++mgV m mv++mgV a av++[.s name])) (tlH++[.rd 18 [.int .i64,.str] (.var 19),.rd 25 [.int .i64,.str] (.var 26)]) w)(hb:BOk x.tel)(hml:m.opts.length<1000000000)(hal:a.opts.length<1000000000): ϲ ϧ 208 #[.pointer (ϱ ⟨k,0,μ⟩),.int .i64 n,mV m (sc1 mv),mV a (sc1 av),.string ⟨name.toArray⟩] w λe w'=>Z157 w w' e k x av (getB n m a name x.tel).1 (getB n m a name x.tel).2:=by
 refine Wu Zas hr ?_;simp only[QR,ra,gK1];have hkt:=hb.kept;have hk16:x.kept.length<=16:=(Z11.1 hkt).1;have hw12:x.wat.length<=12:=(Z17.1 hb.wat).1;intro b29 b30 b31;refine⟨[.i (idx x.kept name),.b (hasK x.kept name)],rfl,λ_ w' hr=>Z132 w' x.kv x.kept name (hr.at_ 3 rfl) (Z11.1 hkt).2.2 O,?_⟩;simp only[QR,ra,gK1];refine⟨λh1 w3 hr=>?_,λh1=>?_⟩
 ·have hg:getB n m a name x.tel=(x.tel,{ a with code:=132 }):=by rw[getB,ϝ (show ¬hasK x.tel.kept name=ϕ from h1)]
  rw[hg];exact⟨x,av,rfl,rfl,(hr.pick [3,4,5,6,7,8,9,11] U).conv rfl,.refl _ _ _,.inl rfl⟩
 have h1':=qy9.1 h1;have hlt:=(of_decide_eq_true h1').1;refine⟨λvs=>vs=[],⟨O,O,rfl⟩,?_⟩;rintro _ - rfl;refine⟨[.i (Z3m 6 m.opts).1,.i (Z3m 6 m.opts).2],rfl,λ_ w' hr=>Z19o w' m mv 6 (hr.at_ 10 rfl) hml,?_⟩;simp only[QR,ra,gK1];obtain⟨a1,ha1⟩:∃a1:Msg,a1={ a with code:=69,pay:=(x.kept.getD (idx x.kept name) kD).2.1 }:=⟨_,rfl⟩
 have hg0:getB n m a name x.tel=if(Z3m 6 m.opts).2=0/\(Z3m 6 m.opts).1=0 then
   if(Z49 x.wat (n,m.tok,name,1)).2=0 then({ x.tel with wat:=(Z49 x.wat (n,m.tok,name,1)).1 },putM a1 1)else(x.tel,a1)
  else if(Z3m 6 m.opts).2=0/\(Z3m 6 m.opts).1=1 then({ x.tel with wat:=filt n m.tok x.wat },a1)
  else(x.tel,a1):=by rw[getB,ϛ (show ¬¬hasK x.tel.kept name=ϕ from h1),ha1];rfl
 refine⟨λh2=>?_,λh2=>?_⟩
 ·rw[ϝ h2]at hg0;obtain⟨R,hR⟩:∃R,R=Z49 x.wat (n,m.tok,name,1):=⟨_,rfl⟩
  rw[<- hR]at hg0;refine⟨λvs=>∃v':Ϛ,vs=[.v v',.r (R.1.map Z4),.i R.2],?_,?_⟩
  ·intro w1 hr1;refine(Z1h9 w1 x.av x.wat (n,m.tok,name,1) (hr1.at_ 6 rfl).reads O).mono ?_;rw[<- hR];rintro e w2 ⟨v',rfl,g1,g2,gm⟩;exact⟨[.v v',.r (R.1.map Z4),.i R.2],rfl,rfl,gm,qy5 _,qy2.2 ⟨⟨g1,λk hk=>.inl (g2 k hk)⟩,qy5 _⟩,Z2,v',rfl⟩
  rintro _ - ⟨v1,rfl⟩;simp only[QR,ra,gK1];refine⟨λh3=>?_,λh3=>?_⟩
  ·have hgp:({ x.tel with wat:=R.1 },putM a1 1)=getB n m a name x.tel:=by rw[hg0,ϝ h3]
   rw[<- hgp];intro b39 b40;refine⟨?_,?_⟩
   ·refine⟨[.s (Z33 1)],rfl,λ_ w' _=>Zg2 w' 1 (by decide),?_⟩;simp only[QR,ra,gK1];intro v42 w1 hr1;have hz1:=hr1.mod.size;refine(Zb (Zei w1 a1 av v42 6 [Z33 1] (by rw[ha1];exact hr1.at_ 15 rfl) (hr1.at_ 0 rfl).reads (by rw[ha1];exact hal) (show 1<1000000000 by decide)) (by rw[ha1];rfl)).mono ?_;rintro e w5 ⟨v',rfl,q1,q2,qm⟩;refine⟨[.i a1.kind,.i a1.code,.i a1.id,.s a1.tok,.v v',.r ((putM a1 1).opts.map encO),.s a1.pay],rfl,rfl,qm,qy5 _,qy2.2 ⟨⟨q1,λk hk=>.inl (q2 k hk.2)⟩,qy5 _⟩,Z2,?_⟩;intro w6 hr6;exact⟨{ x with wat:=R.1,av:=v1 },v',rfl,rfl,(hr6.pick [8,9,10,4,12,13,14,0] (by decide)).conv rfl,⟨λj hj=>.inr hj,λj hj=>.inr hj,λj hj=>.inr (.inl hj)⟩,.inr λj hj=>ϗ hz1 (q2 j hj)⟩
   ·refine⟨[.s (Z33 1)],rfl,λ_ w' _=>Zg2 w' 1 (by decide),?_⟩;simp only[QR,ra,gK1];refine⟨?_,?_⟩
    ·intro v42 w1 hr1;have hz1:=hr1.mod.size;refine(Zb (Zei w1 a1 av v42 6 [Z33 1] (by rw[ha1];exact hr1.at_ 15 rfl) (hr1.at_ 0 rfl).reads (by rw[ha1];exact hal) (show 1<1000000000 by decide)) (by rw[ha1];rfl)).mono ?_;rintro e w5 ⟨v',rfl,q1,q2,qm⟩;refine⟨[.i a1.kind,.i a1.code,.i a1.id,.s a1.tok,.v v',.r ((putM a1 1).opts.map encO),.s a1.pay],rfl,rfl,qm,qy5 _,qy2.2 ⟨⟨q1,λk hk=>.inl (q2 k hk.2)⟩,qy5 _⟩,Z2,?_⟩;intro w6 hr6;exact⟨{ x with wat:=R.1,av:=v1 },v',rfl,rfl,(hr6.pick [8,9,10,4,12,13,14,0] (by decide)).conv rfl,⟨λj hj=>.inr hj,λj hj=>.inr hj,λj hj=>.inr (.inl hj)⟩,.inr λj hj=>ϗ hz1 (q2 j hj)⟩
    ·intro v42 w1 hr1;have hz1:=hr1.mod.size;refine(Zb (Zei w1 a1 av v42 6 [Z33 1] (by rw[ha1];exact hr1.at_ 15 rfl) (hr1.at_ 0 rfl).reads (by rw[ha1];exact hal) (show 1<1000000000 by decide)) (by rw[ha1];rfl)).mono ?_;rintro e w5 ⟨v',rfl,q1,q2,qm⟩;refine⟨[.i a1.kind,.i a1.code,.i a1.id,.s a1.tok,.v v',.r ((putM a1 1).opts.map encO),.s a1.pay],rfl,rfl,qm,qy5 _,qy2.2 ⟨⟨q1,λk hk=>.inl (q2 k hk.2)⟩,qy5 _⟩,Z2,?_⟩;intro w6 hr6;exact⟨{ x with wat:=R.1,av:=v1 },v',rfl,rfl,(hr6.pick [8,9,10,4,12,13,14,0] (by decide)).conv rfl,⟨λj hj=>.inr hj,λj hj=>.inr hj,λj hj=>.inr (.inl hj)⟩,.inr λj hj=>ϗ hz1 (q2 j hj)⟩
  ·rw[ϛ h3]at hg0;rw[hg0];intro w3 hr;exact⟨x,av,by rw[ha1];rfl,rfl,by rw[ha1];exact(hr.pick [4,5,6,7,8,9,10,12] (by decide)).conv rfl,.refl _ _ _,.inl rfl⟩
 ·rw[ϛ h2]at hg0;refine⟨λh3=>?_,λh3 w3 hr=>?_⟩
  ·rw[ϝ h3]at hg0;rw[hg0];refine⟨λvs=>∃v':Ϛ,vs=[.v v',.r ((filt n m.tok x.wat).map Z4)],?_,?_⟩
   ·intro w1 hr1;refine(Zdy w1 x.av x.wat n m.tok (hr1.at_ 6 rfl).reads (by omega)).mono ?_;rintro e w2 ⟨v',rfl,g1,g2,gm⟩;exact⟨[.v v',.r ((filt n m.tok x.wat).map Z4)],rfl,rfl,gm,qy5 _,qy2.2 ⟨⟨g1,λk hk=>.inl (g2 k hk)⟩,qy5 _⟩,Z2,v',rfl⟩
   rintro _ - ⟨v1,rfl⟩;simp only[QR,ra,gK1];intro w3 hr;exact⟨{ x with wat:=filt n m.tok x.wat,av:=v1 },av,by rw[ha1];rfl,rfl,by rw[ha1];exact(hr.pick [4,5,6,0,8,9,10,12] (by decide)).conv rfl,⟨λj hj=>.inr hj,λj hj=>.inr hj,λj hj=>.inr (.inl hj)⟩,.inl rfl⟩
  ·rw[ϛ h3]at hg0;rw[hg0];exact⟨x,av,by rw[ha1];rfl,rfl,by rw[ha1];exact(hr.pick [3,4,5,6,7,8,9,11] (by decide)).conv rfl,.refl _ _ _,.inl rfl⟩
def Z1i5{w:ϭ}(h:Rel B J hp w)(hb:hp.all (Ent.bd J.length)=ϕ)(k:Nat)(x:TelX)(Jx:List V)(hx:List Ent)(hA:(Z3 x.sx x.ox).holds w)(hf:∀j,(Z3 x.sx x.ox).fp j->∃e∈hp,e.wr=ϫ/\e.fp J j)(is:List Nat)(hn:is.Nodup)(hfp:Zh (tlA k x++Jx) (tlH++hx)=Zh (tlA k x) tlH)(hs:(is.filterMap λi=>(Ent.st J.length::hp)[i]?).map (Ent.sem (J++[.a (Z3 x.sx x.ox)]))=(tlH++hx).map (Ent.sem (tlA k x++Jx))): Rel ⟨Zh (tlA k x) tlH,w⟩ (tlA k x++Jx) (tlH++hx) w:=by have h3:=(((h.gather hb _ hA hf).pick is hn).conv hs).base;rw[hfp]at h3;exact h3
def Z1i6{P:Program}{f:Nat}{args:Array Ϛ}{w:ϭ}{x:TelX}{av:Ϛ}{t:Tel}{a:Msg}(h0:Rel B J hp w)(n vk:Nat)(gone:List Nat)(h:ϲ P f args w λe w1=>Z157 w w1 e k x av t a)(hav:∀j,¬Z1 av j)(hn:J.length+7=n)(hk:J.getD vk (.i 0)=.n k)(hv:vk<J.length)(hM:Zn J [vk] gone=k::(x.sv.ownBlock.toList++(x.av.ownBlock.toList++(x.ov.ownBlock.toList++[]))))(hO:∀j,(Zkn x j\/Zat x j\/(Z3 x.sx x.ox).fp j)->∃y∈hp,y.wr=ϫ/\y.fp J j): ϲ P f args w λe w1=>∃(y:TelX) (v:Ϛ),y.tel=t/\w.heap.size<=w1.heap.size/\Grew w.heap.size (λ_=>False) x y/\(∀j,Z1 v j->w.heap.size<=j)/\e=.returned (mV a (sc1 v))/\Mod (Zn J [vk] gone) w w1/\(∀x∈tlMs vk n,x.holds (J++(mgV a v++tlV y)) w1) /\ (∀x∈Ent.rd (J.length+4) [.int .i64,.str] (.var (J.length+5))::tlEs n,x.holds (J++(mgV a v++tlV y)) w1/\∀k,x.fp (J++(mgV a v++tlV y)) k->w.heap.size<=k\/(x.wr=ϫ/\∃y∈hp,y.wr=ϫ/\y.fp J k)\/k∈Zq J gone)/\Zt (J++(mgV a v++tlV y)) (Ent.rd (J.length+4) [.int .i64,.str] (.var (J.length+5))::tlEs n):=by
 refine h.mono ?_;rintro e w1 ⟨y,v,he,hT,hq,hg,hvv⟩;have hvn:∀j,Z1 v j->w.heap.size<=j:=λj hj=>by
  rcases hvv with rfl|h
  ·exact ϟ hj (hav j)
  ·exact h j hj
 have hs:=Z14t (y:=y) (pre:=mgV a v) (show J.length+7=n from hn) hk hv;have ge:∀i,(J++(mgV a v++tlV y)).getD (J.length+i) (.i 0)=(mgV a v++tlV y).getD i (.i 0):=λi=>by rw[qy1,qy1,ϯ O,Nat.add_sub_cancel_left]
 have hs2:(tlH++[Ent.rd 13 [.int .i64,.str] (.var 14)]).map (Ent.sem (tlA k y++[.v v,.r (a.opts.map encO)]))=((tlEs n++tlMs vk n)++[Ent.rd (J.length+4) [.int .i64,.str] (.var (J.length+5))]).map (Ent.sem (J++(mgV a v++tlV y))):=by
  rw[Ϝ,Ϝ,<- hs];congr 1
  simp only[Ϣ,Ϥ];exact congrArg (λz=>[z]) (Zae (r':=.var (J.length+5)) (by rw[ge 4];rfl) (by simp only[X.ev];rw[ge 5];rfl))
 have hfull:Rel ⟨Zn J [vk] gone,w⟩ (J++(mgV a v++tlV y)) ((tlEs n++tlMs vk n)++[Ent.rd (J.length+4) [.int .i64,.str] (.var (J.length+5))]) w1:=Zko (hq.conv hs2) rfl λj hj=>by rw[show(Base.fp ⟨Zn J [vk] gone,w⟩)=Zn J [vk] gone from rfl,hM];exact Z10a hj
 have hq':Rel ⟨Zn J [vk] gone,w⟩ (J++(mgV a v++tlV y)) (tlEs n++tlMs vk n) w1:=(hfull.pick [0,1,2,3,4,5,6] U).conv rfl;have hrd:Rel ⟨Zn J [vk] gone,w⟩ (J++(mgV a v++tlV y)) (Ent.rd (J.length+4) [.int .i64,.str] (.var (J.length+5))::tlEs n) w1:=(hfull.pick [7,0,1,2,3,4,5] U).conv rfl;refine⟨y,v,hT,hq.mod.size,hg,hvn,he,hq'.mod,λx hx=>hq'.holds x (ϥ _ hx),λx hx=>⟨hrd.holds x hx,λj hj=>?_⟩,hrd.sep⟩;rcases ϙ.1 hx with rfl|hx
 ·refine .inl (hvn j ?_);have:=hj.2;rw[ge 4]at this;exact this
 cases hw:x.wr with
 | false =>
  have h1:Ent.sem (J++(mgV a v++tlV y)) x∈tlH.map (Ent.sem (tlA k y)):=by rw[hs];exact Ϲ (Ϙ _ hx)
  obtain⟨e',he',hee⟩:=ν.1 h1;have hw':e'.wr=ϫ:=(congrArg SEnt.wr hee).trans hw;have hj':e'.fp (tlA k y) j:=(congrFun (congrArg SEnt.fp hee) j).mpr hj;have key:∀j,(Zkn y j\/Zat y j\/(Z3 y.sx y.ox).fp j)->w.heap.size<=j\/∃y∈hp,y.wr=ϫ/\y.fp J j:=by
   rintro j (h|h|h)
   ·rcases hg.kept j h with h|h
    ·exact .inl h
    ·exact .inr (hO j (.inl h))
   ·rcases hg.want j h with h|h
    ·exact .inl h
    ·exact .inr (hO j (.inr (.inl h)))
   ·rcases hg.nest j h with h|h|h
    ·exact .inl h
    ·exact .inr (hO j (.inr (.inr h)))
    ·exact h.elim
  have fin:w.heap.size<=j\/∃y∈hp,y.wr=ϫ/\y.fp J j:=by
   simp only[tlH,ϙ,Ϟ,or_false]at he';rcases he' with rfl|rfl|rfl|rfl|rfl|rfl|rfl
   ·exact key j (.inl hj')
   ·exact key j (.inr (.inl hj'))
   ·cases hw'
   ·cases hw'
   ·cases hw'
   ·exact key j (.inr (.inr hj'))
   ·cases hw'
  rcases fin with h|h
  ·exact .inl h
  ·exact .inr (.inl ⟨rfl,h⟩)
 | true =>
  rcases hq'.own x (Ϙ _ hx) hw j hj with h5|h5
  ·exact .inl h5
  ·simp only[Zn,Ϣ,Ϥ,qy13,qy12]at h5;rcases h5 with h5|h5
   ·exfalso;refine(Ϭ.1 hq'.sep).2.2 x hx _ (qy12.2 rfl) (.inl hw) _ hj ?_;rw[h5];simp only[Ent.fp];rw[qy1 (l:=J++_),ϰ hv,<- qy1]
   ·exact .inr (.inr h5)
def Zid{α:Type}{f:Tel->α->Tel}(h:∀t a,t.out <+: (f t a).out):∀(l:List α) (t:Tel),t.out <+: (l.foldl f t).out
 | [],_=>ϒ
 | a::l,t=>(h t a).trans (Zid h l (f t a))
def Z1af(n p:By)(q:Int)(t:Tel):t.out <+: (Z6n n p q t).out:=by have h1:t.out <+: (Z7m n p q t).out:=Zid (λt r=>⟨_,rfl⟩) _ _;exact h1.trans (Zid (λt r=>⟨_,rfl⟩) (Z3x n (Z7m n p q t).wat) { Z7m n p q t with wat:=Z3j n (Z7m n p q t).wat })
def Zxw(n p:By)(t:Tel):t.out <+: (Z13 n p t).1.out:=by
 unfold Z13;split
 ·exact ϒ
 split
 ·exact ϒ
 ·exact Zid (λt r=>⟨_,rfl⟩) (t.wat.filter (ofT n)) { t with kept:=(rawK t.kept n p).1 }
def Z1fr(m a:Msg)(name:By)(t:Tel):t.out <+: (getB n m a name t).1.out:=by
 unfold getB;split
 ·exact ϒ
 split
 ·split<;>exact ϒ
 ·split<;>exact ϒ
def Z1ce(m a:Msg)(t:Tel):t.out <+: (doB n m a t).1.out:=by
 unfold doB;split
 ·exact ϒ
 split
 ·exact Z1fr ..
 split
 ·split
  ·exact(Zxw ..).trans (Z1af ..)
  ·exact ϒ
 split
 ·exact Zxw ..
 ·exact ϒ
def sntD:SntX:=nilX (toP 0 ⟨0,0,0,[],[],[]⟩)
variable{l:List SntX}{i:Nat}
def Z1ag(h:i<l.length):(l.map Zp).getD i []=Zp (l.getD i sntD):=by rw[qy1,qy1,ϔ,qy7 h];rfl
def Z1ah(h:i<l.length):l.getD i sntD∈l:=by rw[qy1,qy7 h];exact ϩ h
def Z1cf{o r:List Snt}{s:Snt}(h:(o++[s])++r=l.map (·.1)):o.length<l.length/\(l.getD o.length sntD).1=s:=by
 have hl:=congrArg List.length h;simp only[qy11,γ,qy3]at hl;refine⟨O,?_⟩;have h1:=congrArg (λm=>m[o.length]?) h;simp only[ϑ,ϯ (π _),Nat.sub_self,ϔ,List.singleton_append,List.getElem?_cons_zero]at h1;rw[qy1];cases hh:l[o.length]? with
 | none=>rw[hh]at h1;cases h1
 | some t=>rw[hh]at h1;simpa using h1.symm
def Outs(f:Tel->Tel):Prop:=∀t:Tel,∃(g:Tel) (r:List Snt),∀o,f { t with out:=o }={ g with out:=o++r }
def Zeu{α:Type}{f:Tel->α->Tel}(h:∀a,Outs λt=>f t a):∀l:List α,Outs λt=>l.foldl f t
 | []=>λt=>⟨t,[],λo=>O1⟩
 | a::l=>λt=>by
  obtain⟨g,r,h1⟩:=h a t;obtain⟨g',r',h2⟩:=Zeu h l g;refine⟨g',r++r',λo=>?_⟩;have e1:f { t with out:=o } a={ g with out:=o++r }:=h1 o;have e2:l.foldl f { g with out:=o++r }={ g' with out:=(o++r)++r' }:=h2 (o++r)
  show(a::l).foldl f { t with out:=o }=_
  rw[ε,e1,e2,ϑ]
def Zna(n p:By)(q:Int):Outs (Z6n n p q):=λt=>by obtain⟨g,r,h1⟩:=Zeu (f:=Z1p n p q) (λa t=>⟨Z1p n p q t a,(Z32 (t.sess.getD (idxS t.sess a.1) s0) n p (min q a.2)).2.map λk=>toC a.1 (pkOf k),λo=>rfl⟩) (rdOf n t.wants) t;obtain⟨g',r',h2⟩:=Zeu (f:=Z4s p) (λa t=>⟨Z4s p t a,[toP a.1 (putM ⟨1,69,t.next,a.2.1,[],p⟩ a.2.2.2)],λo=>rfl⟩) (Z3x n g.wat) { g with wat:=Z3j n g.wat };refine⟨g',r++r',λo=>?_⟩;have e:Z7m n p q { t with out:=o }={ g with out:=o++r }:=h1 o;have e2:=h2 (o++r);rw[Z6n,e,<- ϑ];exact e2
def Zgd(n p:By)(t:Tel):∃(g:Tel) (r:List Snt),∀o,Z13 n p { t with out:=o }=({ g with out:=o++r },(Z13 n p t).2):=by
 by_cases h1:(rawK t.kept n p).2=0
 ·by_cases h2:p=[]
  ·obtain⟨g,r,h3⟩:=Zeu (f:=Zaq) (λa t=>⟨Zaq t a,[toP a.1 ⟨1,132,t.next,a.2.1,[],[]⟩],λo=>rfl⟩) (t.wat.filter (ofT n)) { t with kept:=(rawK t.kept n p).1 };refine⟨{ g with wat:=t.wat.filter λw=>!ofT n w },r,λo=>?_⟩;have e:(t.wat.filter (ofT n)).foldl Zaq { { t with kept:=(rawK t.kept n p).1 }with out:=o }={ g with out:=o++r }:=h3 o;rw[Z13,ϛ (qy9.2 h1),ϛ (qy9.2 h2),Z13,ϛ (qy9.2 h1),ϛ (qy9.2 h2)]
   show(({ (t.wat.filter (ofT n)).foldl Zaq { { t with kept:=(rawK t.kept n p).1 }with out:=o }with wat:=t.wat.filter λw=>!ofT n w }),ϕ)=_
   rw[e]
  ·refine⟨{ t with kept:=(rawK t.kept n p).1 },[],λo=>?_⟩;rw[Z13,ϛ (qy9.2 h1),ϝ h2,Z13,ϛ (qy9.2 h1),ϝ h2,ϐ]
 ·refine⟨t,[],λo=>?_⟩;rw[Z13,ϝ (h1),Z13,ϝ h1,ϐ]
def Z158(m a:Msg)(name:By)(t:Tel)(o:List Snt):getB n m a name { t with out:=o }=({ (getB n m a name t).1 with out:=o },(getB n m a name t).2):=by
 unfold getB;by_cases h1:hasK t.kept name=ϕ
 ·rw[ϛ (qy9.2 h1),ϛ (qy9.2 h1)];by_cases h2:(Z3m 6 m.opts).2=0/\(Z3m 6 m.opts).1=0
  ·simp only[ϝ h2];by_cases h3:(Z49 t.wat (n,m.tok,name,1)).2=0
   ·simp only[ϝ h3]
   ·simp only[ϛ h3]
  ·simp only[ϛ h2];by_cases h3:(Z3m 6 m.opts).2=0/\(Z3m 6 m.opts).1=1
   ·simp only[ϝ h3]
   ·simp only[ϛ h3]
 ·rw[ϝ (h1),ϝ h1]
def Zxx(m a:Msg)(t:Tel):∃(g:Tel) (r:List Snt) (b:Msg),∀o,doB n m a { t with out:=o }=({ g with out:=o++r },b):=by
 by_cases h1:(Z1f m.opts).2=0;rotate_left
 ·exact⟨t,[],{ a with code:=128 },λo=>by rw[doB,ϝ h1,ϐ]⟩
 by_cases h2:m.code=1
 ·exact⟨(getB n m a (Z1f m.opts).1 t).1,[],(getB n m a (Z1f m.opts).1 t).2,λo=>by rw[doB,ϛ (qy9.2 h1),ϝ h2,Z158,ϐ]⟩
 by_cases h3:m.code=3
 ·obtain⟨g,r,h4⟩:=Zgd (Z1f m.opts).1 m.pay t;by_cases h5:¬m.pay=[]/\(Z13 (Z1f m.opts).1 m.pay t).2=ϕ
  ·obtain⟨g',r',h6⟩:=Zna (Z1f m.opts).1 m.pay 1 g;refine⟨g',r++r',{ a with code:=68 },λo=>?_⟩;rw[doB,ϛ (qy9.2 h1),ϛ h2,ϝ h3,h4,ϝ h5]
   show(Z6n (Z1f m.opts).1 m.pay 1 { g with out:=o++r },{ a with code:=68 })=_
   rw[h6,ϑ]
  ·refine⟨t,[],{ a with code:=128 },λo=>?_⟩;rw[doB,ϛ (qy9.2 h1),ϛ h2,ϝ h3,h4,ϛ h5,ϐ]
 by_cases h4:m.code=4
 ·obtain⟨g,r,h5⟩:=Zgd (Z1f m.opts).1 [] t;exact⟨g,r,{ a with code:=66 },λo=>by rw[doB,ϛ (qy9.2 h1),ϛ h2,ϛ h3,ϝ h4,h5]⟩
 ·exact⟨t,[],a,λo=>by rw[doB,ϛ (qy9.2 h1),ϛ h2,ϛ h3,ϛ h4,ϐ]⟩
def Zuz(m:Msg)(t:Tel)(s:Snt):Z3n n m t={ (doB n m (Z2a m t.next) { t with next:=if m.kind=1 then nx_Z t.next else t.next,out:=t.out++[s] }).1 with out:=(doB n m (Z2a m t.next) { t with next:=if m.kind=1 then nx_Z t.next else t.next,out:=t.out++[s] }).1.out.set t.out.length (toP n (doB n m (Z2a m t.next) { t with next:=if m.kind=1 then nx_Z t.next else t.next,out:=t.out++[s] }).2) }:=by obtain⟨g,r,b,h⟩:=Zxx n m (Z2a m t.next) { t with next:=if m.kind=1 then nx_Z t.next else t.next };have h1:=h (t.out++[s]);have h2:=h (t.out++[toP n (Z2a m t.next)]);rw[Z3n];rw[h1,h2];simp
def Z1k6(m a:Msg)(t:Tel):(doB n m a t).2=⟨a.kind,(doB n m a t).2.code,a.id,a.tok,(doB n m a t).2.opts,(doB n m a t).2.pay⟩:=by
 unfold doB;split
 ·rfl
 split
 ·unfold getB;split
  ·rfl
  split
  ·split<;>rfl
  ·split<;>rfl
 split
 ·split<;>rfl
 split<;>rfl
end Go.Proofs.Y
namespace Go.Proofs.Y
open Go.Sx
def Z1fs:Outs λt=>t:=λt=>⟨t,[],λo=>by rw[ϐ]⟩
variable(c:By)
def Znb:Outs (Z4i c):=λt=>by
 refine⟨Z4i c t,[],λo=>?_⟩;rw[ϐ];by_cases h1:hasS t.sess c=ϕ
 ·by_cases h2:(goR (t.sess.getD (idxS t.sess c) s0)).clean=ϕ
  ·rw[Z4i,Z4i,ϝ h1,ϝ (h1),ϝ h2,ϝ (show(goR (t.sess.getD (idxS t.sess c) s0)).clean=ϕ from h2)];rfl
  ·rw[Z4i,Z4i,ϝ h1,ϝ (h1),ϛ h2,ϛ (h2)]
 ·rw[Z4i,Z4i,ϛ h1,ϛ (h1)]
def Zpl(p:Pkt):Outs (Z1c c p):=λt=>by
 by_cases h1:p.client=c
 ·by_cases h2:¬hasS t.sess c=ϕ/\t.sess.length=6
  ·refine⟨t,[toC c { pD_Q 2 with code:=3 }],λo=>?_⟩;rw[Z1c,ϛ (qy9.2 h1),ϝ (h2)]
  ·refine⟨Z1c c p t,[toC c { pD_Q 2 with session:=Zc2 t.sess c p.clean }]++(Zcu (Zb8 t.sess c p.clean)).2.map λk=>toC c (pkOf k),λo=>?_⟩;rw[Z1c,Z1c,ϛ (qy9.2 h1),ϛ (qy9.2 h1),ϛ (h2),ϛ h2,<- ϑ]
 ·exact⟨t,[],λo=>by rw[Z1c,ϝ h1,ϐ]⟩
def Zpm(p:Pkt):Outs (Z2t c p):=λt=>by
 obtain⟨r1,h1⟩:∃r1:List Snt,∀o,(if p.qos=1 then { ({ t with out:=o })with out:=({ t with out:=o }).out++[toC c { pD_Q 4 with id:=p.id }] }else { t with out:=o })={ t with out:=o++r1 }:=by
  by_cases h:p.qos=1
  ·exact⟨_,λo=>by rw[ϝ h]⟩
  ·exact⟨[],λo=>by rw[ϛ h,ϐ]⟩
 obtain⟨g,r2,h2⟩:∃(g:Tel) (r2:List Snt),∀o,(if p.retain=ϕ then(Z13 p.topic p.payload { t with out:=o }).1 else { t with out:=o })={ g with out:=o++r2 }:=by
  by_cases h:p.retain=ϕ
  ·obtain⟨g,r,h3⟩:=Zgd p.topic p.payload t;exact⟨g,r,λo=>by rw[ϝ h,h3]⟩
  ·exact⟨t,[],λo=>by rw[ϛ h,ϐ]⟩
 obtain⟨g',r3,h3⟩:=Zna p.topic p.payload p.qos g;refine⟨g',r1++(r2++r3),λo=>?_⟩;rw[Z2t];rw[h1 o,h2 (o++r1),h3,ϑ,ϑ]
def Zsf(p:Pkt):Outs (Zx c p):=λt=>by
 by_cases h0:¬p.kind=1/\(¬hasS t.sess c=ϕ\/¬(t.sess.getD (idxS t.sess c) s0).on=ϕ)
 ·exact⟨t,[],λo=>by rw[Zx,ϝ (show ¬p.kind=1/\(¬hasS t.sess c=ϕ\/¬(t.sess.getD (idxS t.sess c) s0).on=ϕ) from h0),ϐ]⟩
 have e0:∀o,Zx c p { t with out:=o }=if p.kind=1 then Z1c c p { t with out:=o }
   else if p.kind=3 then Z2t c p { t with out:=o }
   else if p.kind=4 then Zlo c p { t with out:=o }
   else if p.kind=8 then Z2f c p { t with out:=o }
   else if p.kind=10 then Z1g c p { t with out:=o }
   else if p.kind=12 then { ({ t with out:=o })with out:=o++[toC c (pD_Q 13)] }
   else if p.kind=14 then Z4i c { t with out:=o }
   else { t with out:=o }:=λo=>by rw[Zx,ϛ (show ¬(¬p.kind=1/\(¬hasS t.sess c=ϕ\/¬(t.sess.getD (idxS t.sess c) s0).on=ϕ)) from h0)]
 simp only[e0];by_cases h1:p.kind=1
 ·simp only[ϝ h1];exact Zpl c p t
 simp only[ϛ h1];by_cases h1:p.kind=3
 ·simp only[ϝ h1];exact Zpm c p t
 simp only[ϛ h1];by_cases h1:p.kind=4
 ·simp only[ϝ h1];exact⟨Zlo c p t,(Z4l (t.sess.getD (idxS t.sess c) s0) p.id).2.map λk=>toC c (pkOf k),λo=>rfl⟩
 simp only[ϛ h1];by_cases h1:p.kind=8
 ·simp only[ϝ h1];exact⟨Z2f c p t,[toC c { pD_Q 9 with id:=p.id,codes:=(Zhl c t.wants p.asks).2 }]++Z3y c t.kept p.asks (Zhl c t.wants p.asks).2,λo=>by rw[<- ϑ];rfl⟩
 simp only[ϛ h1];by_cases h1:p.kind=10
 ·simp only[ϝ h1];exact⟨Z1g c p t,[toC c { pD_Q 11 with id:=p.id }],λo=>rfl⟩
 simp only[ϛ h1];by_cases h1:p.kind=12
 ·simp only[ϝ h1];exact⟨t,[toC c (pD_Q 13)],λo=>rfl⟩
 simp only[ϛ h1];by_cases h1:p.kind=14
 ·simp only[ϝ h1];exact Znb c t
 simp only[ϛ h1];exact Z1fs t
open Go
abbrev kR:List Kd:=[.str,.str]
def Z2j(r:Ky):List Ϛ:=[.string ⟨r.1.toArray⟩,.string ⟨r.2.toArray⟩]
def gR0(l:List Ky)(i:Nat):Value.gS (((l.map Z2j).getD i []).getD 0 undef)=(l.getD i rstD).1:=by simp only[qy1,ϔ];cases l[i]?<;>simp[Z2j,Value.gS,undef,rstD]
def gR1(l:List Ky)(i:Nat):Value.gS (((l.map Z2j).getD i []).getD 1 undef)=(l.getD i rstD).2:=by simp only[qy1,ϔ];cases l[i]?<;>simp[Z2j,Value.gS,undef,rstD]
variable{i:Nat}
def memR{l:List Ky}(h:i<l.length):l.getD i rstD∈l:=by rw[qy1,qy7 h];exact ϩ h
abbrev Zgy(w:ϭ)(v:Ϛ)(l:List Ky):Prop:=reads w v kR (l.map Z2j)
def Zpn{l:List Ky}(h:sortR l){j:Nat}(hij:i<j)(hj:j<l.length):Z5 (l.getD i rstD).1 (l.getD j rstD).1=ϕ:=by rw[sortR,List.pairwise_iff_getElem]at h;have:=h i j O hj hij;simpa[qy7 hj,qy7 (Nat.lt_trans hij hj)]using this
def Zsg{l:List Ky}{n:By}(hi:i<=l.length)(h1:∀j,j<i->Z5 (l.getD j rstD).1 n=ϕ)(h2:∀j,i<=j->j<l.length->Z5 (l.getD j rstD).1 n=ϫ):i=idxR l n:=by
 have e:=(List.take_append_drop i l).symm;have f1:(l.take i).filter (λk=>Z5 k.1 n)=l.take i:=by
  rw[List.filter_eq_self];intro x hx;obtain⟨j,hj,rfl⟩:=ϳ.1 hx;have hj':j<i:=by simp at hj;omega
  have:=h1 j hj';rw[List.getElem_take];simpa[qy7 (show j<l.length by omega)]using this
 have f2:(l.drop i).filter (λk=>Z5 k.1 n)=[]:=by
  rw[List.filter_eq_nil_iff];intro x hx;obtain⟨j,hj,rfl⟩:=ϳ.1 hx;have hj':i+j<l.length:=by simp at hj;omega
  have:=h2 (i+j) O hj';rw[List.getElem_drop];simpa[qy7 hj']using this
 show i=(l.filter λk=>Z5 k.1 n).length
 rw[e,List.filter_append,f1,f2];simp;omega
def prvR(l:List Ky)(i:Nat):Option By:=if i=0 then μ else ϱ (l.getD (i - 1) rstD).1
def Z10e(l:List Ky)(i:Nat)(h:i<l.length):l.drop i=l.getD i rstD::l.drop (i+1):=by rw[List.drop_eq_getElem_cons h,qy1,qy7 h];rfl
def Z159(l:List Ky)(i:Nat):Zlp (prvR l i) (l.getD i rstD).1=ϕ↔¬(0<(i:Int)/\(Z5 (l.getD i rstD).1 (l.getD (i - 1) rstD).1=ϕ\/(l.getD i rstD).1=(l.getD (i - 1) rstD).1)):=by
 unfold prvR;by_cases h:i=0
 ·simp[h,Zlp]
 ·rw[ϛ h];simp only[Zlp];rw[<- Z15];constructor
  ·rintro h1 ⟨-,h2⟩;rw[h1]at h2;cases h2
  ·intro h1;cases h2:Z5 (l.getD (i - 1) rstD).1 (l.getD i rstD).1 with
   | true=>rfl
   | false=>exact ϟ ⟨O,h2⟩ h1
def Znc{l:List Ky}(h:i<l.length):Zlq (prvR l i) (l.drop i)=if ¬Z9 (l.getD i rstD).1=ϕ\/(l.getD i rstD).2=[]then 1 else if 600<((l.getD i rstD).2.length:Int)then 2
  else if 0<(i:Int)/\(Z5 (l.getD i rstD).1 (l.getD (i - 1) rstD).1=ϕ\/(l.getD i rstD).1=(l.getD (i - 1) rstD).1)then 4 else Zlq (prvR l (i+1)) (l.drop (i+1)):=by
 rw[Z10e l i h,Zlq];by_cases h1:¬Z9 (l.getD i rstD).1=ϕ\/(l.getD i rstD).2=[]
 ·rw[ϝ h1,ϝ h1]
 rw[ϛ h1,ϛ h1];by_cases h2:600<((l.getD i rstD).2.length:Int)
 ·rw[ϝ h2,ϝ h2]
 rw[ϛ h2,ϛ h2];by_cases h3:0<(i:Int)/\(Z5 (l.getD i rstD).1 (l.getD (i - 1) rstD).1=ϕ\/(l.getD i rstD).1=(l.getD (i - 1) rstD).1)
 ·rw[ϝ h3,ϛ (λh4=>(Z159 l i).1 h4 h3)]
 ·rw[ϛ h3,ϝ ((Z159 l i).2 h3)];rfl
abbrev kEv:List Kd:=[.str,.int .i64,.str]
def evD:Evt:=⟨[],0,[]⟩
def Zsh(e:Evt):List Ϛ:=[.string ⟨e.client.toArray⟩,.int .i64 e.peer,.string ⟨e.bytes.toArray⟩]
def gEv0(l:List Evt)(i:Nat):Value.gS (((l.map Zsh).getD i []).getD 0 undef)=(l.getD i evD).client:=by simp only[qy1,ϔ];cases l[i]?<;>simp[Zsh,Value.gS,undef,evD]
def gEv1(l:List Evt)(i:Nat):Value.gI (((l.map Zsh).getD i []).getD 1 undef)=(l.getD i evD).peer:=by simp only[qy1,ϔ];cases l[i]?<;>rfl
def gEv2(l:List Evt)(i:Nat):Value.gS (((l.map Zsh).getD i []).getD 2 undef)=(l.getD i evD).bytes:=by simp only[qy1,ϔ];cases l[i]?<;>simp[Zsh,Value.gS,undef,evD]
abbrev Z15a(w:ϭ)(v:Ϛ)(l:List Evt):Prop:=reads w v kEv (l.map Zsh)
def oneW(fd:By->List Pkt×By×Int)(dm:By->Msg×Int)(x:Tel×List Ky)(e:Evt):Tel×List Ky:=Zar fd dm e ({ x.1 with out:=[] },x.2)
def runW(fd:By->List Pkt×By×Int)(dm:By->Msg×Int)(l:List Evt)(x:Tel×List Ky):Tel×List Ky:=l.foldl (oneW fd dm) x
def Zsi(fd:By->List Pkt×By×Int)(dm:By->Msg×Int)(l:List Evt)(x:Tel×List Ky):List (List Snt):=(List.range l.length).map λj=>(runW fd dm (l.take (j+1)) x).1.out
def Z15b{fd:By->List Pkt×By×Int}{dm:By->Msg×Int}(l:List Evt)(x:Tel×List Ky):(Zsi fd dm l x).length=l.length:=by simp[Zsi]
def Z15c{fd:By->List Pkt×By×Int}{dm:By->Msg×Int}{l:List Evt}(h:i<l.length)(x:Tel×List Ky):runW fd dm (l.take (i+1)) x=oneW fd dm (runW fd dm (l.take i) x) (l.getD i evD):=by rw[runW,List.take_add_one,qy7 h,qy1,qy7 h];simp only[β];rfl
def Z10f{fd:By->List Pkt×By×Int}{dm:By->Msg×Int}{l:List Evt}(h:i<l.length)(x:Tel×List Ky):Zsi fd dm (l.take (i+1)) x=Zsi fd dm (l.take i) x++[(runW fd dm (l.take (i+1)) x).1.out]:=by
 have e1:(l.take (i+1)).length=i+1:=O3
 have e2:(l.take i).length=i:=O3
 rw[Zsi,Zsi,e1,e2,List.range_succ,Ϝ];simp only[Ϣ,Ϥ];congr 1
 ·refine List.map_congr_left λj hj=>?_;have hj:=List.mem_range.1 hj;rw[Ϯ,Ϯ,η O,η O]
 ·rw[Ϯ,ξ]
def Z15d{fd:By->List Pkt×By×Int}{dm:By->Msg×Int}(hf:∀s,(∀p∈(fd s).1,chkP p=0)/\(fd s).2.1.length<=600/\(fd s).1.length<=s.length)(hd:∀s,(dm s).2=0->chk (dm s).1=0):∀(l:List Evt) {x:Tel×List Ky},(∀e∈l,Z47 e=0)->BOk x.1->ROk x.2->BOk (runW fd dm l x).1/\ROk (runW fd dm l x).2
 | [],_,_,h,hr=>⟨h,hr⟩
 | e::l,x,he,h,hr=>by have h1:=Zxs hf hd (he e (qy8 ..)) (x:=({ x.1 with out:=[] },x.2)) (h.out []) hr;exact Z15d hf hd l (λa ha=>he a (qy10 _ ha)) h1.1 h1.2.1
def Z1ft(k:Int)(h:0<=k/\k<=15):IntKind.i64.wrap (k*2 ^ (θ (Ϸ 4) IntKind.i64.bits))=16*k:=by
 have:∀x:Fin 16,IntKind.i64.wrap ((x.val)*2 ^ (θ (Ϸ 4) IntKind.i64.bits))=16*(x.val):=O9
 have:=this ⟨k.toNat,O⟩;simpa only[ϻ h.1]using this
def Z15e(k:Int)(h:k=8\/k=10):Z2l .or .i64 (16*k) 2=16*k+2:=by rcases h with rfl|rfl<;>decide +kernel
def Z1fu(q:Int)(h:0<=q/\q<=3)(d r:Bool):Z2l .or .i64 (16*3) (Z2l .or .i64 (Z2l .or .i64 (bit d 8) (IntKind.i64.wrap (q*2 ^ (θ (Ϸ 1) IntKind.i64.bits)))) (bit r 1))=16*3+(bit d 8+2*q+bit r 1):=by
 have:∀(x:Fin 4) (d r:Bool),Z2l .or .i64 (16*3) (Z2l .or .i64 (Z2l .or .i64 (bit d 8) (IntKind.i64.wrap ((x.val)*2 ^ (θ (Ϸ 1) IntKind.i64.bits)))) (bit r 1))=16*3+(bit d 8+2*(x.val)+bit r 1):=O9
 have:=this ⟨q.toNat,O⟩ d r;simpa only[ϻ h.1]using this
section
variable (w:ϭ) (p:Pkt) (u v:Ϛ)
def Z1ai(hu:Z4h w u p.asks)(hv:Z3p w v p.codes)(hk:0<=p.kind/\p.kind<=15)(hq:0<=p.qos/\p.qos<=3):ϲ ϧ 150 #[pV p u v] w λe w'=>e=.returned (.int .i64 (Z1x p))/\Mod [] w w':=by
 refine Wr (J:=[.i p.kind,.b p.dup,.b p.retain,.b p.clean,.b p.session,.i p.qos,.i p.id,.i p.keep,.i p.code,.s p.client,.s p.topic,.s p.payload,.v u,.r (p.asks.map encA),.v v,.r (p.codes.map Zg)]) Zfh ?_;simp only[QR,ra];rw[Z1ft _ hk];intro b;have pub:p.kind=3->∀d r:Int,d=bit p.dup 8->r=bit p.retain 1->Value.int .i64 (Z2l .or .i64 (16*p.kind) (Z2l .or .i64 (Z2l .or .i64 d (IntKind.i64.wrap (p.qos*2 ^ (θ (Ϸ 1) IntKind.i64.bits)))) r))=.int .i64 (Z1x p):=λh d r hd hr=>by rw[hd,hr,h,Z1fu _ hq,Z1x,ϝ h,h]
 have d1:p.dup=ϕ->(8:Int)=bit p.dup 8:=λh=>by simp[bit,h]
 have d0:¬p.dup=ϕ->(0:Int)=bit p.dup 8:=λh=>by simp[bit,h]
 have r1:p.retain=ϕ->(1:Int)=bit p.retain 1:=λh=>by simp[bit,h]
 have r0:¬p.retain=ϕ->(0:Int)=bit p.retain 1:=λh=>by simp[bit,h]
 refine⟨λh=>?_,λh=>⟨λh1 w' hr=>⟨?_,hr.mod⟩,λh1=>⟨λh2 w' hr=>⟨?_,hr.mod⟩,λh2 w' hr=>⟨?_,hr.mod⟩⟩⟩⟩
 ·have pub:=pub h;repeat' (first|(intro _)|(apply And.intro))
  all_goals (first|exact Rel.mod ‹_› | exact congrArg _ (pub _ _ (d1 ‹_›) (r1 ‹_›))|exact congrArg _ (pub _ _ (d1 ‹_›) (r0 ‹_›))|exact congrArg _ (pub _ _ (d0 ‹_›) (r1 ‹_›))|exact congrArg _ (pub _ _ (d0 ‹_›) (r0 ‹_›)))
 ·rw[Z15e _ (.inl h1),Z1x,ϛ h,ϝ (.inl h1)]
 ·rw[Z15e _ (.inr h2),Z1x,ϛ h,ϝ (.inr h2)]
 ·rw[Z1x,ϛ h,ϛ O,Int.add_zero]
def Zsj{p:Pkt}(hk:0<=p.kind/\p.kind<=15)(hq:0<=p.qos/\p.qos<=3):0<=Z1x p/\Z1x p<1000:=by
 unfold Z1x bit;split
 ·split<;>split<;>omega
 ·split<;>omega
def Zpo(hu:Z4h w u p.asks)(hv:Z3p w v p.codes)(hB:ByteP p):ϲ ϧ 92 #[pV p u v] w λe w'=>e=.returned (.string ⟨(Z2e p).toArray⟩)/\Mod [] w w':=by
  refine Wr (J:=[.i p.kind,.b p.dup,.b p.retain,.b p.clean,.b p.session,.i p.qos,.i p.id,.i p.keep,.i p.code,.s p.client,.s p.topic,.s p.payload,.v u,.r (p.asks.map encA),.v v,.r (p.codes.map Zg)]) Zfo ?_;have hb:=hB.body;have hf:=Zsj hB.kind hB.qos;simp only[QR,ra];intro bc bw w1 hr;refine(Z1f1 w1 bw p u v (.pointer μ) (.slice μ 0 0) (hr.at_ 2 rfl) (hr.at_ 3 rfl) hB ⟨hr.at_ 0 rfl,.inl rfl,⟨by simp[byW],World.ownsRow_nil _ _ _ _⟩⟩
    (λk hk=>⟨λe=>Zt.disj hr.sep (i:=2) (j:=0) rfl rfl U (.inr rfl) hk e,λhb=>by cases hb⟩)
    (λk hk=>⟨λe=>Zt.disj hr.sep (i:=3) (j:=0) rfl rfl U (.inr rfl) (k:=k) hk e,λhb=>by cases hb⟩)).mono ?_
  rintro e w2 ⟨rfl,p1,q1,s1,m1,f1⟩;refine⟨[.v p1,.v q1,.r (byW _)],rfl,rfl,m1,qy2.2 ⟨s1.cells,qy5 _⟩,qy2.2 ⟨⟨s1.own,λz hz=>.inl ((f1 z hz).resolve_right (by simp[Value.ownBlock]))⟩,qy5 _⟩,Z2,?_⟩;simp only[QR,ra];refine⟨[.i (Z1x p)],rfl,λ_ w' hr=>Z1ai w' p u v (hr.at_ 3 rfl) (hr.at_ 4 rfl) hB.kind hB.qos,?_⟩;simp only[QR,ra];refine⟨[.s (numB 1 (Z1x p))],rfl,λ_ w' _=>Zox w' _ 1 O O O,?_⟩;simp only[QR,ra];intro w3 hr;have hq1:=s1.own.reads.sc1;have hc:=hr.at_ 1 rfl;simp only[Ent.holds,QQ,Ϫ,s1.ok.sc1,hq1]at hc;have hlen:(byW (Z20 p)).length=(Z20 p).length:=by simp[byW]
  refine(Z1eu 211 bw p1 q1 [] (byW (Z20 p)) w3 hc (hr.at_ 0 rfl)).mono ?_;rintro e w4 ⟨rfl,rfl⟩;rw[hlen];have cells1:=hr.at_ 1 rfl;have own1:=hr.at_ 0 rfl;refine⟨[.i ((Z20 p).length:Nat),.v p1,.v q1,.r (byW (Z20 p))],rfl,rfl,Mod.refl _ _,qy2.2 ⟨cells1,qy5 _⟩,qy2.2 ⟨⟨own1,λz hz=>.inr (.inr ?_)⟩,qy5 _⟩,Z2,?_⟩
  . have hz:q1.ownBlock=ϱ z:=hz;simp only[Zq,ϣ,Ϧ,ϐ,QQ,Ϫ];rw[hz];simp
  simp only[QR,ra];refine⟨[.s (lngB 3 (Z20 p).length)],rfl,λ_ w' _=>Zuc w' 3 _ O (by show _<268435456;exact hb),?_⟩;simp only[QR,ra,qy11,Zc];have hll:(lngB 3 (Z20 p).length).length<=4:=Zi3 3 _;refine⟨O,?_⟩;intro w5 hr;have hc:=hr.at_ 1 rfl;simp only[Ent.holds,QQ,Ϫ,s1.ok.sc1,hq1]at hc;refine(Z107 211 bw p1 q1 [] (Z20 p) w5 hc (hr.at_ 0 rfl)).mono ?_;rintro e w6 ⟨rfl,hm⟩;have hjq:bw ∉ q1.ownBlock.toList:=λhmem=>by
    have h9:q1.ownBlock=ϱ bw:=by simpa using hmem
    exact s1.ne (show Z1 q1 bw from h9) rfl
  refine⟨[.s (Z20 p),.v p1,.v q1],rfl,rfl,?_,?_,λz hz=>ϟ hz Ϟ,Z8,?_⟩
  . refine hm.mono λz hz=>.inl ?_;simp only[Zn,Zq,Ϣ,Ϥ,ϣ,Ϧ,ϐ,QQ,Ϫ];exact qy10 _ hz
  . refine qy2.2 ⟨?_,qy5 _⟩;simp only[Ent.holds,QQ,Ϫ,s1.ok.sc1,hq1];rw[hm.block bw (Array.getElem?_eq_some_iff.1 hc).1 hjq];exact hc
  . simp only[QR,ra,qy11,Zc];exact⟨O,λw' hr=>⟨by rw[Z2e],hr.mod⟩⟩
def Z1fv{p:Pkt}(h:chkP p=0)(hs:SmallP p):ByteP p:=by obtain⟨hf,hl⟩:=Zx2 h;have hk:=hf.kind;simp only[Z3i,ϡ]at hk;have hq:=hf.qos;have hi:=hf.id;have hke:=hf.keep;have hc:=hf.code;exact⟨O,O,O,O,O,λa ha=>by have:=hf.asks a ha;omega,λc hc=>by have:=hf.codes c hc;omega,hs,O⟩
def Z15f(hu:Z4h w u p.asks)(hv:Z3p w v p.codes)(hs:SmallP p):ϲ ϧ 32 #[pV p u v] w λe w'=>e=.returned (.tuple #[.string ⟨(if chkP p=0 then Z2e p else[]).toArray⟩,.int .i64 (chkP p)])/\Mod [] w w':=by refine Wr (J:=[.i p.kind,.b p.dup,.b p.retain,.b p.clean,.b p.session,.i p.qos,.i p.id,.i p.keep,.i p.code,.s p.client,.s p.topic,.s p.payload,.v u,.r (p.asks.map encA),.v v,.r (p.codes.map Zg)]) Zdr ?_;simp only[QR,ra];intro bc;refine⟨[.i (chkP p)],rfl,λ_ w' hr=>Zi7 w' p u v (hr.at_ 1 rfl) (hr.at_ 2 rfl) hs,?_⟩;simp only[QR,ra];refine⟨λh w' hr=>⟨by rw[ϛ h],hr.mod⟩,λh=>?_⟩;have h:=qy9.1 h;refine⟨[.s (Z2e p)],rfl,λ_ w' hr=>Zpo w' p u v (hr.at_ 1 rfl) (hr.at_ 2 rfl) (Z1fv h hs),?_⟩;simp only[QR,ra];exact λw' hr=>⟨by rw[ϝ h,h],hr.mod⟩
end
section
variable (w:ϭ) (p q:Pkt) (u v x y:Ϛ)
def Z1fw{a b:List Rd}(hl:a.length=b.length)(h:∀i,i<a.length->a.getD i yD=b.getD i yD):a=b:=by refine δ hl λi h1 h2=>?_;have:=h i h1;rw[qy1,qy1,qy7 h1,qy7 h2]at this;exact this
def Z1aj{a b:List Int}(hl:a.length=b.length)(h:∀i,i<a.length->a.getD i 0=b.getD i 0):a=b:=by refine δ hl λi h1 h2=>?_;have:=h i h1;rw[qy1,qy1,qy7 h1,qy7 h2]at this;exact this
def Zlt(hu:Z4h w u p.asks)(hv:Z3p w v p.codes)(hx:Z4h w x q.asks)(hy:Z3p w y q.codes)(hs:SmallP p): ϲ ϧ 101 #[pV p u v,pV q x y] w λe w'=>e=.returned (.bool (decide (p=q)))/\Mod [] w w':=by
 refine Wr (J:=[.i p.kind,.b p.dup,.b p.retain,.b p.clean,.b p.session,.i p.qos,.i p.id,.i p.keep,.i p.code,.s p.client,.s p.topic,.s p.payload,.v u,.r (p.asks.map encA),.v v,.r (p.codes.map Zg),.i q.kind,.b q.dup,.b q.retain,.b q.clean,.b q.session,.i q.qos,.i q.id,.i q.keep,.i q.code,.s q.client,.s q.topic,.s q.payload,.v x,.r (q.asks.map encA),.v y,.r (q.codes.map Zg)]) Z6d ?_;have h4:=hs.asks;have h5:=hs.codes;simp only[QR,ra];intro b1 b2;refine⟨λh w' hr=>⟨?_,hr.mod⟩,λh=>?_⟩
 ·have:¬p=q:=λe=>by subst e;simp at h
  simp[this]
 simp only[not_or,qy9]at h;obtain⟨⟨⟨⟨⟨⟨⟨⟨⟨⟨⟨⟨⟨e1,e2⟩,e3⟩,e4⟩,e5⟩,e6⟩,e7⟩,e8⟩,e9⟩,e10⟩,e11⟩,e12⟩,e13⟩,e14⟩:=h;refine⟨λvs=>∃(i:Nat) (b:V),vs=[b,.i i]/\i<=p.asks.length/\∀j,j<i->p.asks.getD j yD=q.asks.getD j yD,λvs=>p.asks.length - (vs.getD 1 (.i 0)).toI.toNat,⟨0,_,rfl,O,O⟩,?_⟩;rintro _ - ⟨i,vb,rfl,hi,hg⟩;simp only[QR,ra,gA0,gA1];refine⟨λh2=>⟨O,O,λh3 w' hr=>⟨?_,hr.mod⟩,λh3=>⟨O,O,⟨i+1,vb,rfl,O,λj hj=>?_⟩,O⟩⟩,λh2=>?_⟩
 ·have:¬p=q:=λe=>h3 (by subst e;exact⟨rfl,rfl⟩);simp[this]
 ·by_cases hji:j=i
  ·subst hji;have h3:=qy9.1 h3;exact Prod.ext h3.1 h3.2
  ·exact hg j O
 have ea:=Z1fw O (λj hj=>hg j O);refine⟨λvs=>∃(i:Nat) (b:V),vs=[b,.i i]/\i<=p.codes.length/\∀j,j<i->p.codes.getD j 0=q.codes.getD j 0,λvs=>p.codes.length - (vs.getD 1 (.i 0)).toI.toNat,⟨0,_,rfl,O,O⟩,?_⟩;rintro _ - ⟨k,vc,rfl,hk,hgk⟩;simp only[QR,ra,gI0];refine⟨λh3=>⟨O,O,λh4 w' hr=>⟨?_,hr.mod⟩,λh4=>⟨O,O,⟨k+1,vc,rfl,O,λj hj=>?_⟩,O⟩⟩,λh3 w' hr=>⟨?_,hr.mod⟩⟩
 ·have:¬p=q:=λe=>h4 (by subst e;rfl);simp[this]
 ·by_cases hjk:j=k
  ·subst hjk;exact qy9.1 h4
  ·exact hgk j O
 ·have ec:=Z1aj O (λj hj=>hgk j O);have:p=q:=by
   cases p;cases q;simp only at *;simp_all
  simp[this]
end
