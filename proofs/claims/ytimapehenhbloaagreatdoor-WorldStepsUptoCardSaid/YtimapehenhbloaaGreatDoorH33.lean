/- By an AI agent. -/
import Derived.Test.YtimapehenhbloaaGreatDoorH32
set_option linter.all false
set_option maxHeartbeats 20000000
set_option maxRecDepth 100000
open Nat renaming reduceAdd→ra
open List renaming length_cons→ϐ,length_nil→ϑ,length_take→ϒ,map_append→ϔ,length_set→ϕ,getD_cons_zero→ϗ,getD_cons_succ→Ϙ,length_drop→Ϛ,getElem?_append_right→Ϣ,take_length→Ϥ,map_set→Ϧ,mem_or_eq_of_mem_set→ϩ,append_assoc→Ϫ,map_cons→ϫ,drop_length→Ϭ,take_of_length_le→Ϯ,map_nil→ϯ,append_nil→ϰ,length_filter_le→ϱ,mem_of_mem_take→ϲ,length_pos_iff→ϳ,any_cons→Ϸ,foldl_append→Ϲ
open Nat renaming succ_pos→ϓ,le_trans→Ϟ,sub_self→δ
open Bool renaming true→ϖ,and_eq_true→ϙ,not_eq_true'→Ϝ,and_eq_false_iff→ϣ,eq_iff_iff→ϥ,false→ϭ,not_eq_false'→ϸ,not_eq_true→Ϻ,decide_and→ϻ,or_eq_true→β,not_not→ε
open Classical renaming byContradiction→Ϡ
open Go.Proofs.Tryz renaming prog→ϧ
open Go renaming Value→Ϩ,Calls→γ,World→ζ
namespace Go.Proofs.Y
open Go Go.Sx
def insD(l:List SesX)(c:By):List SesX:=if hasS (l.map (·.1)) c=ϖ then l else l.take (idxS (l.map (·.1)) c)++[freX c]++l.drop (idxS (l.map (·.1)) c)
def Z1b3{l:List SesX}{c:By}:∀t∈insD l c,t∈l\/t=freX c:=λt ht=>by
 unfold insD at ht;split at ht
 ·exact .inl ht
 ·rcases qy13.1 ht with ht|ht
  ·rcases qy13.1 ht with ht|ht
   ·exact .inl (ϲ ht)
   ·exact .inr (qy12.1 ht)
  ·exact .inl (List.mem_of_mem_drop ht)
def Z1b4(l:List SesX)(c:By)(t:SesX):((insD l c).set (idxS (l.map (·.1)) c) t).map (·.1)=(insS (l.map (·.1)) c).set (idxS (l.map (·.1)) c) t.1:=by
 unfold insD;split
 ·rename_i h;rw[Zbp h,Ϧ]
 ·rename_i h;rw[(Zpa h t.1).1,Ϧ,ϔ,ϔ,List.map_take,List.map_drop];have hl:((l.map (·.1)).take (idxS (l.map (·.1)) c)).length=idxS (l.map (·.1)) c:=by
   rw[ϒ];have:=Zg5 (l.map (·.1)) c;omega
  generalize idxS (l.map (·.1)) c=i at hl
  rw[Ϫ,List.set_append_right _ _ O,hl,δ,Ϫ];rfl
def Z16q{α:Type}:∀(p:List α) (z a:α) (q:List α),((p++z::a::q).set (p.length+1) z).set p.length a=p++a::z::q
 | [],_,_,_=>rfl
 | _::p,z,a,q=>by simpa using Z16q p z a q
def Zyk{α:Type}(d:α){l:List α}{m:Nat}(h0:0<m)(h1:m<=l.length)(a:α) : ((l.take m++[a]++l.drop m).set m (l.getD (m - 1) d)).set (m - 1) a=l.take (m - 1)++[a]++l.drop (m - 1)/\(l.take m++[a]++l.drop m).getD m d=a/\(l.take m++[a]++l.drop m).getD (m - 1) d=l.getD (m - 1) d:=by
 obtain⟨i,rfl⟩:∃i,m=i+1:=⟨m - 1,O⟩
 have hi:i<l.length:=O
 have e1:l.take (i+1)=l.take i++[l.getD i d]:=by rw[List.take_add_one,qy1,qy7 hi];rfl
 have e2:l.drop i=l.getD i d::l.drop (i+1):=by rw[List.drop_eq_getElem_cons hi,qy1,qy7 hi];rfl
 have hl:(l.take i).length=i:=by rw[ϒ];omega
 rw[Nat.add_sub_cancel,e1,e2];generalize l.getD i d=z at *
 generalize l.take i=p at *
 subst hl;refine⟨?_,?_,?_⟩
 ·have:=Z16q p z a (l.drop (p.length+1));simpa using this
 ·simp[qy1,Ϣ]
 ·simp[qy1,Ϣ]
structure CnD(x:TelX)(c:List UInt8)(kn:Bool)(S:Ses)(cl:Bool)(vs:List V)(f q wv:Value)(ws:List Kp):Prop where
 eq:vs=[.i 0,.i 0,.s S.cl,.b S.on,.b cl,.v f,.v q,.i S.next,.v wv,.r (ws.map encK)]
 ses:(∃t∈x.sx,t.1.fl=S.fl/\t.1.qu=S.qu/\sc1 t.2.1=f/\sc1 t.2.2=q)\/(S.fl=[]/\S.qu=[]/\f=.slice none 0 0/\q=.slice none 0 0)
 ws:ws=if kn=true then x.wants else x.wants.filter λw=>decide (¬w.1=c)
def Z10r(w:ζ)(k:Nat)(x:TelX)(c:By)(p:Pkt)(va vc:Ϩ)(hr:Rel ⟨Zh (tlA k x) dlH,w⟩ (tlA k x++Zcc c p va vc) (dlH++pkHp) w)(hb:BOk x.tel)(ho:x.ox.length<20000000000)(hc:Z9 c=ϖ) : γ ϧ 81 #[.pointer (some ⟨k,0,none⟩),.string ⟨c.toArray⟩,Zsd p va vc] w λe w'=>e=.returned (.tuple #[])/\Zh3 w w' k x (λ_=>False) (Z1c c p x.tel):=by
  refine Wu Z59 hr ?_;simp only[QR,ra];have hns:x.sx.length<=6:=by have:=hb.ns;rw[Z28,qy3]at this;exact this
  have hwl:x.wants.length<=20:=Zel hb.wants;have hc20:c.length<=20:=by have h1:=(ϙ _ _▸hc:decide (1<=(c.length:Int)/\(c.length:Int)<=20)=ϖ/\Z3e c=ϖ).1;have:=of_decide_eq_true h1;omega
  have hxs:x.tel.sess=x.sx.map (·.1):=rfl;intro b30;refine⟨λh1 w3 hr=>⟨by trivial,x,by rw[Z1c,ϝ h1],(hr.pick [1,2,3,4,5,6,7] (by decide)).conv rfl,.refl _ _ _⟩,λh1=>?_⟩;obtain⟨a0,ha0⟩:∃a0,a0=atS x.tel.sess c:=⟨_,rfl⟩
  refine⟨[.i a0],rfl,λ_ w' hr=>by rw[ha0];exact Z48 w' x.sv x.sx c (hr.at_ 3 rfl) hb.sort (by omega),?_⟩;simp only[QR,ra];obtain⟨ix,hix⟩:∃ix,ix=idxS x.tel.sess c:=⟨_,rfl⟩
  have hat:(hasS x.tel.sess c=ϖ/\a0=ix/\ix<x.sx.length)\/(¬hasS x.tel.sess c=ϖ/\a0=-1/\ix<=x.sx.length):=by
    by_cases h2:hasS x.tel.sess c=ϖ
    . exact .inl ⟨h2,by rw[ha0,atS,ϝ h2,hix],by rw[hix];exact(Zls h2).1⟩
    . exact .inr ⟨h2,by rw[ha0,atS,ϛ h2],by rw[hix];have:=Zg5 x.tel.sess c;rw[hxs,qy3]at this;exact this⟩
  clear ha0;refine⟨λh2=>?_,λh2=>?_⟩
  . have h3:¬hasS x.tel.sess c=ϖ:=by
      rcases hat with⟨-,h4,-⟩|⟨h4,-⟩
      . omega
      . exact h4
    intro b32 v33 w1 hr1;have hz1:=hr1.mod.size;refine(Z90 (k:=k) (x:=x) (F:=(Za [pk1X { pD_Q 2 with code:=3 }]).fp) (pre:=[]) hr1 34 0 [10]
      (Z30 w1 k x c v33 [pk1X { pD_Q 2 with code:=3 }] (Zce (toRd hr1) (by rfl) k x (Za [pk1X { pD_Q 2 with code:=3 }]) _ _ (hr1.at_ 8 rfl) (λj hj=>(qE 8 rfl rfl hj)) (Z2i rfl rfl _) (λj hj=>ϟ hj (Z16 rfl rfl)) [5,6,7,8,9,1,11,2,0] (by decide) rfl rfl) (show 1<1000000 by decide) (by omega))
      rfl rfl (ϓ _) 10 (by decide) rfl (λj hj=>.inl ?_)).mono ?_
    . rcases hj with(hj|hj|hj|hj|hj)|hj
      . exact(qE 3 rfl rfl hj)
      . exact(qE 4 rfl rfl hj)
      . exact(qE 5 rfl rfl hj)
      . exact(qE 6 rfl rfl hj)
      . exact(qE 8 rfl rfl hj)
      . exact ϟ hj (Z16 rfl rfl)
    rintro e w2 ⟨y1,hy1,hs1,hg1,rfl,m1,m2,m3,m4⟩;refine⟨tlV y1,rfl,rfl,m1,m2,m3,m4,?_⟩;clear m1 m2 m3 m4;intro w7 hr7;refine⟨by trivial,y1,?_,(hr7.pick [0,1,2,3,4,5,14] (by decide)).conv rfl,(GrwD.refl w.heap.size _ x).trans hg1 hz1 (λj h=>ϟ h (Z16 rfl rfl))⟩;rw[hy1,Z1c,ϛ h1,ϝ ⟨h3,by rw[hxs,qy3];omega⟩];rfl
  have hroom:¬(¬hasS x.tel.sess c=ϖ/\x.tel.sess.length=6):=by
    rw[hxs,qy3];rintro⟨h3,h4⟩;rcases hat with⟨h5,-⟩|⟨-,h5,-⟩
    . exact h3 h5
    . exact h2 ⟨by omega,by omega⟩
  intro b32;refine⟨by omega,by omega,λvs=>∃sv':Ϩ,vs=[.i 0,.i 0,.i 0,.i 0,.i 0,.i 0,.i 0,.i ix,.v sv',.r ((insD x.sx c).map Ze)],⟨λh3=>?_,λh3=>?_⟩,?_⟩
  . have h4:¬hasS x.tel.sess c=ϖ:=by
      rcases hat with⟨-,h5,-⟩|⟨h5,-⟩
      . omega
      . exact h5
    have hne:∀i,i<x.sx.length->¬(x.sx.getD i sxD).1.cl=c:=λi hi he=>h4 ((Z5r hb.sort).2 (by rw[hxs,clsS,List.map_map];exact List.mem_map.2 ⟨_,Z58 hi,he⟩))
    refine⟨λvs=>∃a b c d:Ϩ,vs=[.v a,.v b,.v c,.v d],?_,?_⟩
    . repeat' (first|exact⟨_,_,_,_,rfl⟩|omega|(intro _)|(refine⟨?_,?_⟩)|(simp only[qy11,qy3,ϐ,ϑ];omega))
    rintro _ - ⟨v33,v34,v35,v36,rfl⟩;simp only[QR,ra];refine⟨by(first|omega|(simp only[qy11,ϕ,qy3,ϐ,ϑ,ϒ,Ϛ];omega)),by(first|omega|(simp only[qy11,ϕ,qy3,ϐ,ϑ,ϒ,Ϛ];omega)),λvs=>∃m:Nat,vs=[.i m,.r ((x.sx.take m++[freX c]++x.sx.drop m).map Ze)]/\m<=x.sx.length/\∀j,m<=j->j<x.sx.length->Z5 c (x.sx.getD j sxD).1.cl=ϖ,λvs=>(vs.getD 0 (.i 0)).toI.toNat,⟨x.sx.length,?_,by omega,λj h5 h6=>by omega⟩,?_⟩
    . refine congr (congrArg List.cons (congrArg V.i ?_)) (congrArg (λz=>[V.r z]) ?_)
      . simp only[qy11,qy3,ϐ,ϑ];omega
      . rw[Ϥ,Ϭ,ϰ,ϔ];rfl
    rintro _ - ⟨m,rfl,hm,hall⟩;obtain⟨R,hR⟩:∃R,R=x.sx.take m++[freX c]++x.sx.drop m:=⟨_,rfl⟩
    have hRl:R.length=x.sx.length+1:=by rw[hR];simp;omega
    rw[<- hR];have e1:((m:Int) - 1).toNat=m - 1:=by omega
    have r0:=Z57 (l:=R) (i:=m) (by omega);have r1:=Z57 (l:=R) (i:=m - 1) (by omega);simp only[QR,ra,e1,r0,r1,hRl,Ze,ϗ,Ϙ,Value.gI,Value.gB,Value.gS,Zv,ϕ];refine⟨by omega,by omega,by omega,by omega,by omega,by omega,[.b (Z5 (R.getD m sxD).1.cl (R.getD (m - 1) sxD).1.cl)],rfl,λh5 w' _=>Z1q w' _ _ ?_,?_⟩
    . have:=(Zyk sxD (by omega) hm (freX c)).2.1;rw[<- hR]at this;rw[this]
      show c.length<_
      omega
    simp only[QR,ra];refine⟨λh5=>?_,λh5=>?_⟩
    . obtain⟨g1,g2,g3⟩:=Zyk sxD (l:=x.sx) (m:=m) (by omega) hm (freX c);rw[<- hR]at g1 g2 g3;refine⟨λvs=>vs=[],⟨by omega,by omega,by omega,by omega,by omega,by omega,by omega,rfl⟩,?_⟩;rintro _ - rfl;refine⟨by omega,by omega,⟨m - 1,?_,by omega,λj h6 h7=>?_⟩,by omega⟩
      . rw[<- g1,<- g3];have g4:=Z2h R m (R.getD (m - 1) sxD);have g5:=Z2h (R.set m (R.getD (m - 1) sxD)) (m - 1) (freX c);rw[<- g4]at g5;rw[<- g5,<- g2];refine congr (congrArg List.cons (congrArg V.i ?_)) rfl;omega
      . by_cases h8:j=m - 1
        . rw[h8];have h9:=h5.2;rw[g2,g3]at h9;exact h9
        . exact hall j (by omega) h7
    . have e2:m=ix:=by
        rw[hix,hxs];refine Zkl hm (λj hj=>?_) (λj h6 h7=>Z1h (hall j h6 h7));obtain⟨g1,g2,g3⟩:=Zyk sxD (l:=x.sx) (m:=m) (by omega) hm (freX c);rw[<- hR]at g1 g2 g3;have h6:Z5 c (x.sx.getD (m - 1) sxD).1.cl=ϭ:=Bool.eq_false_iff.2 λh7=>h5 ⟨by omega,by rw[g2,g3];exact h7⟩;have h7:Z5 (x.sx.getD (m - 1) sxD).1.cl c=ϖ:=by
          rcases Z15.1 h6 with h7|h7
          . exact h7
          . exact ϟ h7.symm λh8=>hne (m - 1) (by omega) h8.symm
        by_cases h8:j=m - 1
        . rw[h8];exact h7
        . exact Zf (Zes hb.sort (i:=j) (j:=m - 1) (by omega) (by omega)) h7
      refine⟨v36,?_⟩;rw[insD,ϛ (show ¬hasS (x.sx.map (·.1)) c=ϖ from h4),<- hxs,<- hix,<- e2,<- hR]
  . have h4:hasS x.tel.sess c=ϖ/\a0=ix:=by
      rcases hat with⟨h4,h5,-⟩|⟨-,h5,-⟩
      . exact⟨h4,h5⟩
      . omega
    refine⟨x.sv,?_⟩;rw[insD,ϝ (show hasS (x.sx.map (·.1)) c=ϖ from h4.1),h4.2]
  rintro _ - ⟨sv',rfl⟩;have hil:ix<(insD x.sx c).length:=by
    rcases hat with⟨h3,-,h4⟩|⟨h3,-,h4⟩
    . rw[insD,ϝ (show hasS (x.sx.map (·.1)) c=ϖ from h3)];exact h4
    . rw[insD,ϛ (show ¬hasS (x.sx.map (·.1)) c=ϖ from h3),<- hxs,<- hix];simp;omega
  have hil7:(insD x.sx c).length<=x.sx.length+1:=by
    rw[insD];split
    . omega
    . simp;omega
  have hrow:=Z57 hil;have hD:=Z1b4 x.sx c;have hmem:=Z1b3 (l:=x.sx) (c:=c);obtain⟨D,hDd⟩:∃D,D=insD x.sx c:=⟨_,rfl⟩
  have hDk:hasS x.tel.sess c=ϖ->D=x.sx:=λh3=>by rw[hDd,insD,ϝ (show hasS (x.sx.map (·.1)) c=ϖ from h3)]
  rw[<- hDd]at hil hil7 hrow hD hmem⊢;simp only[QR,ra,hrow,Ze,ϗ,Ϙ,Value.gI,Value.gB,Value.gS,Zv];refine⟨by omega,by omega,λb43=>?_⟩;obtain⟨kn,hkn⟩:∃kn,kn=Zc2 x.tel.sess c p.clean:=⟨_,rfl⟩
  have hks:kn=ϖ↔hasS x.tel.sess c=ϖ/\(x.sx.getD ix sxD).1.clean=ϭ/\p.clean=ϭ:=by
    constructor
    . intro h3;rw[hkn]at h3;obtain⟨h4,h5,h6⟩:=Zs1 h3;rw[<- hix,hxs,Zhm]at h6;exact⟨h4,h6,h5⟩
    . rintro⟨h4,h5,h6⟩;rw[hkn,Zc2,Zbp h4,<- hix,hxs,Zhm,h5,h6];rfl
  obtain⟨S1,hS1⟩:∃S1,S1=Zb8 x.tel.sess c p.clean:=⟨_,rfl⟩
  obtain⟨hok,hcl⟩:=Zi9 hb hc p.clean;rw[<- hS1]at hok hcl;have hSk:kn=ϖ->S1={ (x.sx.getD ix sxD).1 with clean:=p.clean }:=λh3=>by rw[hS1,Zb8,<- hkn,ϝ h3,Zbp (hks.1 h3).1,<- hix,hxs,Zhm]
  have hSn:¬kn=ϖ->S1=⟨c,ϭ,p.clean,[],[],1⟩:=λh3=>by rw[hS1,Zb8,<- hkn,ϛ h3]
  refine⟨λvs=>∃(cl:Bool) (f q wv:Ϩ) (ws:List Kp),CnD x c kn S1 cl vs f q wv ws/\∀j,((ws.map encK).flatten≠[]/\Z1 wv j)->w.heap.size<=j\/Zat x j,⟨λh3=>?_,λh3=>?_⟩,?_⟩
  . have hn:¬kn=ϖ:=λh4=>by
      obtain⟨h5,h6,h7⟩:=hks.1 h4;have h8:a0=ix:=by
        rcases hat with⟨-,h8,-⟩|⟨h8,-⟩
        . exact h8
        . exact ϟ h5 h8
      exact h3 ⟨⟨by omega,by rw[h8,qy4];simp only[Z57 (show ix<x.sx.length by rw[<- hDk h5];exact hil),Ze,ϗ,Ϙ,Value.gB,h6];decide⟩,by rw[h7];decide⟩
    intro w1 hr1;refine(Zh0 w1 x.wv x.wants c (hr1.at_ 5 rfl) (by omega)).mono ?_;obtain⟨L,hL⟩:∃L,L=x.wants.filter (λw:Kp=>decide (¬w.1=c)):=⟨_,rfl⟩
    rw[<- hL];rintro e w2 ⟨u,rfl,g1,g2,gm⟩;refine⟨[.v u,.r (L.map encK)],rfl,rfl,gm,qy5 _,qy2.2 ⟨⟨g1.reads,λk hk=>.inl (g2 k hk.2)⟩,qy5 _⟩,Z2,?_⟩;refine⟨ϭ,.slice none 0 0,.slice none 0 0,u,L,⟨?_,.inr ?_,?_⟩,λj hj=>.inl (Ϟ hr1.mod.size (g2 j hj.2))⟩
    . rw[hSn hn];rfl
    . rw[hSn hn];exact⟨rfl,rfl,rfl,rfl⟩
    . rw[ϛ hn];exact hL
  . have h3:=qy9.1 h3;have h4:hasS x.tel.sess c=ϖ/\a0=ix/\ix<x.sx.length:=by
      rcases hat with h4|⟨-,h4,-⟩
      . exact h4
      . omega
    have hk:kn=ϖ:=hks.2 ⟨h4.1,by have h5:=h3.1.2;rw[h4.2.1,qy4]at h5;simpa only[Z57 h4.2.2,Ze,ϗ,Ϙ,Value.gB,Ϻ]using h5,by simpa using h3.2⟩
    have h6:=hDk h4.1;refine⟨(x.sx.getD ix sxD).1.clean,sc1 (x.sx.getD ix sxD).2.1,sc1 (x.sx.getD ix sxD).2.2,x.wv,x.wants,⟨?_,.inl ?_,?_⟩,λj hj=>.inr hj⟩
    . rw[hSk hk,h6]
    . exact⟨_,Z58 h4.2.2,by rw[hSk hk],by rw[hSk hk],rfl,rfl⟩
    . rw[ϝ hk]
  rintro vs - ⟨cl,f,q,wv,ws,⟨hvs,hses,hws⟩,hwv⟩;subst hvs;simp only[QR,ra];have hcl2:p.clean=S1.clean:=by
    by_cases h3:kn=ϖ
    . rw[hSk h3]
    . rw[hSn h3]
  obtain⟨R,hR⟩:∃R,R=Zcu S1:=⟨_,rfl⟩
  have hR9:R.2.length<=9:=by rw[hR];exact Zkb hok
  intro w1 hr1;have hsz1:=hr1.mod.size;have hsr:Zi w1 f S1.fl/\Zi w1 q S1.qu/\∀j,(((S1.fl.map encF).flatten≠[]/\Z1 f j)\/((S1.qu.map encF).flatten≠[]/\Z1 q j))->(Z3 x.sx x.ox).fp j:=by
    rcases hses with⟨t,ht,e1,e2,e3,e4⟩|⟨e1,e2,e3,e4⟩
    . obtain⟨h5,h6⟩:=Zy (hr1.at_ 10 rfl:(Z3 x.sx x.ox).holds w1) ht;rw[h5.sc1]at e3;rw[h6.sc1]at e4;rw[<- e1,<- e2,<- e3,<- e4];exact⟨h5,h6,λj hj=>Z7.2 (.inl ⟨t,ht,hj⟩)⟩
    . rw[e1,e2,e3,e4];exact⟨Z6 _ _,Z6 _ _,λj hj=>by rcases hj with hj|hj<;>exact ϟ rfl hj.1⟩
  obtain⟨hs1,hs2,hnm⟩:=hsr;refine(Zb (Z18u w1 S1 f q hs1 hs2 hok.next (by have:=hok.nf;omega) (by have:=hok.nq;omega)) (by rw[sesV,<- hcl2])).mono ?_;rw[<- hR];rintro e w2 ⟨u1,u2,u3,rfl,g1,g2,g3,g4,g5,g6,gm⟩;refine⟨[.s R.1.cl,.b R.1.on,.b R.1.clean,.v u1,.r (R.1.fl.map encF),.v u2,.r (R.1.qu.map encF),.i R.1.next,.v u3,.r ((R.2.map pkN).map Z2y)],rfl,rfl,gm,qy5 _,qy2.2 ⟨⟨g1,λk hk=>(g4 k hk).elim .inl λh=>.inr (.inl ⟨rfl,_,qy6 (i:=10) rfl,rfl,hnm k h⟩)⟩,qy2.2 ⟨⟨g2,λk hk=>(g5 k hk).elim .inl λh=>.inr (.inl ⟨rfl,_,qy6 (i:=10) rfl,rfl,hnm k h⟩)⟩,qy2.2 ⟨⟨by show reads w2 u3 kP ((R.2.map pkN).map Z2y);rw[Z7o];exact g3,λk hk=>.inl (g6 k hk.2)⟩,qy5 _⟩⟩⟩,Z4k ..,?_⟩;clear hr1 hs1 hs2 g1 g2 g3 g6 gm;simp only[QR,ra];refine λb64 v65=>⟨by(first|omega|(simp only[qy11,ϕ,qy3,ϐ,ϑ,ϒ,Ϛ];omega)),λv66=>⟨by(first|omega|(simp only[qy11,ϕ,qy3,ϐ,ϑ,ϒ,Ϛ];omega)),λb67 v68 w3 hr3=>?_⟩⟩
  have hsz3:=hr3.mod.size;have hnew:=Z8z hr3 2 18 rfl rfl (by decide) rfl;obtain⟨q1,q2⟩:=Zph (l:=x.sx) (l':=D) (o:=x.ox) λt ht=>(hmem t ht).imp id λh=>by rw[h];exact⟨rfl,rfl,rfl,rfl⟩
  obtain⟨X3,hX3⟩:∃X3:TelX,X3={ x with wants:=ws,wv:=wv,sx:=D.set ix (R.1,u1,u2),sv:=v66 }:=⟨_,rfl⟩
  have hA3:(Z3 X3.sx X3.ox).holds w3:=by rw[hX3];exact Z5t (q1 w3 (hr3.at_ 17 rfl)) (hr3.at_ 4 rfl) (hr3.at_ 5 rfl)
  have hF3:∀j,(Z3 X3.sx X3.ox).fp j->(Z3 x.sx x.ox).fp j\/((R.1.fl.map encF).flatten≠[]/\Z1 u1 j)\/((R.1.qu.map encF).flatten≠[]/\Z1 u2 j):=λj hj=>by rw[hX3]at hj;exact(Z2g hj).imp (q2 j) id
  have hg3:GrwD w.heap.size (λ_=>False) x X3:=λj hj=>by
    rw[hX3]at hj;rcases hj with(hj|hj|hj|hj|hj)|hj
    . exact .inr (.inl (.inl (.inl hj)))
    . rcases hwv j hj with h|h
      . exact .inl h
      . exact .inr (.inl (.inl (.inr (.inl h))))
    . rcases hnew j hj.2 with h|h
      . exact .inl h
      . exact .inr (.inl (.inr h))
    . exact .inr (.inl (.inl (.inr (.inr (.inr (.inl hj))))))
    . have h5:(Z3 x.sx x.ox).fp j\/((R.1.fl.map encF).flatten≠[]/\Z1 u1 j)\/((R.1.qu.map encF).flatten≠[]/\Z1 u2 j):=(Z2g hj).imp (q2 j) id;have h6:w1.heap.size<=j\/(Z3 x.sx x.ox).fp j:=by
        rcases h5 with h5|h5|h5
        . exact .inr h5
        . exact(g4 j h5).imp id (hnm j)
        . exact(g5 j h5).imp id (hnm j)
      rcases h6 with h6|h6
      . exact .inl (Ϟ hsz1 h6)
      . exact .inr (.inl (.inl (.inr (.inr (.inr (.inr h6))))))
    . exact .inr (.inl (.inr hj))
  have hXt:X3.tel={ x.tel with wants:=ws,sess:=(insS x.tel.sess c).set (idxS x.tel.sess c) R.1 }:=by rw[hX3];have h5:=hD (R.1,u1,u2);rw[<- hxs,<- hix]at h5;rw[<- hix];simp only[TelX.tel]at h5⊢;rw[h5]
  have hX0:X3.ox=x.ox:=by rw[hX3]
  refine(Z90 (k:=k) (x:=X3) (F:=(Za [pk1X { pD_Q 2 with session:=kn }]).fp) (pre:=[]) hr3 69 0 [66,10]
    (Z30 w3 k X3 c v68 [pk1X { pD_Q 2 with session:=kn }] (Zce (toRd ((toRd (hr3.pick [2,0,4,5,6,7,12,15,16,17,18] (by decide))).pick [1,0,2,3,4,5,6,7,8,9,10] (by decide))) (by rfl) k X3 (Za [pk1X { pD_Q 2 with session:=kn }]) _ _ hA3 (λj hj=>?_) (Z2i rfl rfl _) (λj hj=>ϟ hj (Z16 rfl rfl)) [8,7,3,9,10,1,12,2,0] (by decide) rfl
      ?_)
      (show 1<1000000 by decide) (by rw[hX0];omega))
    rfl rfl (ϓ _) 10 (by decide) (by rw[hX3];rfl) (λj hj=>?_)).mono ?_
  . rcases hF3 j hj with h|h|h
    . exact(qE 9 rfl rfl h)
    . exact(qE 2 rfl rfl h)
    . exact(qE 3 rfl rfl h)
  . rw[hX3];refine Zd rfl (Zd rfl (Zd (Zae rfl ?_) (Zd rfl (Zd rfl (Zd rfl (Zd rfl (Zd (Zae rfl ?_) rfl)))))))
    . simp only[QR,ra];rw[<- Z2h]
    . simp only[QR,ra];have hkb:(decide (0<=a0) && !Value.gB (((x.sx.map Ze).getD a0.toNat []).getD 2 undef) && !p.clean)=kn:=by
        rw[ϥ,hks];simp only[ϙ,ϡ,Ϝ];constructor
        . rintro⟨⟨h5,h6⟩,h7⟩;have h4:hasS x.tel.sess c=ϖ/\a0=ix/\ix<x.sx.length:=by
            rcases hat with h4|⟨-,h4,-⟩
            . exact h4
            . omega
          rw[h4.2.1,qy4,Z57 h4.2.2]at h6;exact⟨h4.1,h6,h7⟩
        . rintro⟨h5,h6,h7⟩;have h4:hasS x.tel.sess c=ϖ/\a0=ix/\ix<x.sx.length:=by
            rcases hat with h4|⟨h4,-⟩
            . exact h4
            . exact ϟ h5 h4
          rw[h4.2.1,qy4,Z57 h4.2.2];exact⟨⟨by omega,h6⟩,h7⟩
      rw[hkb];rfl
  . rcases hj with(hj|hj|hj|hj|hj)|hj
    . rw[hX3]at hj;exact .inl (qE 12 rfl rfl hj)
    . rw[hX3]at hj;exact .inl (qE 7 rfl rfl hj)
    . rw[hX3]at hj;exact .inr (Zqa (v:=66) (by decide) hj.2)
    . rw[hX3]at hj;exact .inl (qE 15 rfl rfl hj)
    . rcases hF3 j hj with h|h|h
      . exact .inl (qE 17 rfl rfl h)
      . exact .inl (qE 4 rfl rfl h)
      . exact .inl (qE 5 rfl rfl h)
    . exact ϟ hj (Z16 rfl rfl)
  rintro e w4 ⟨y1,hy1,hs1,hgr1,rfl,m1,m2,m3,m4⟩;refine⟨tlV y1,rfl,rfl,m1,m2,m3,m4,?_⟩;clear m1 m2 m3 m4 hr3;have l1:y1.ox.length<=x.ox.length+1:=by
    have h5:y1.tel.out.length=y1.ox.length:=by simp[TelX.tel]
    have h6:X3.tel.out.length=x.ox.length:=by rw[hXt];simp[TelX.tel]
    rw[hy1]at h5;simp only[qy11,qy3,ϐ,ϑ]at h5;omega
  intro w5 hr5;have hsz5:=hr5.mod.size;refine(Z90 (k:=k) (x:=y1) (F:=(Za (R.2.map pkN)).fp) (pre:=[]) hr5 81 0 [78]
    (Z30 w5 k y1 c u3 (R.2.map pkN) (Zce hr5 (by rfl) k y1 (Za (R.2.map pkN)) _ _ (hr5.at_ 5 rfl) (λj hj=>(qE 5 rfl rfl hj)) (Z6p _ _) (λj hj=>ϟ hj Z3z) [2,3,4,5,6,1,24,13,0] (by decide) rfl rfl) (by rw[qy3];omega) (by omega))
    rfl rfl (ϓ _) 78 (by decide) rfl (λj hj=>.inl ?_)).mono ?_
  . rcases hj with(hj|hj|hj|hj|hj)|hj
    . exact(qE 0 rfl rfl hj)
    . exact(qE 1 rfl rfl hj)
    . exact(qE 2 rfl rfl hj)
    . exact(qE 3 rfl rfl hj)
    . exact(qE 5 rfl rfl hj)
    . exact ϟ hj Z3z
  rintro e w6 ⟨y2,hy2,hs2,hgr2,rfl,m1,m2,m3,m4⟩;refine⟨tlV y2,rfl,rfl,m1,m2,m3,m4,?_⟩;intro w7 hr7;refine⟨by trivial,y2,?_,(hr7.pick [0,1,2,3,4,5,27] (by decide)).conv rfl,(hg3.trans hgr1 hsz3 (λj h=>ϟ h (Z16 rfl rfl))).trans hgr2 hsz5 (λj h=>ϟ h Z3z)⟩;rw[hy2,hy1,hXt,Zg9,Z1c,ϛ h1,ϛ hroom,<- hS1,<- hR,<- hkn,hws];rfl
def Zby{l:List Kp}(h:chkK l=0):Zb5 l:=λy hy=>by have:=(Z4r.1 ((Z11.1 h).2.1 y hy).1).2.1.1;omega
def Zyl(c:By):∀(l:List Rd) (ws:List Kp),l.foldl (λws a=>ws.filter λw=>decide (¬(w.1=c/\w.2.1=a.1))) ws=ws.filter λw=>!(decide (w.1=c) && l.any λa=>decide (a.1=w.2.1))
 | [],ws=>(List.filter_eq_self.2 λw _=>O1).symm
 | a::l,ws=>by
  rw[List.foldl_cons,Zyl c l,List.filter_filter];congr 1
  funext w
  rw[ϥ];simp only[ϙ,Ϝ,ϣ,ϡ,decide_eq_false_iff_not,Ϸ,Bool.or_eq_false_iff];grind
def Z16r(w:ζ)(k:Nat)(x:TelX)(c:By)(p:Pkt)(va vc:Ϩ)(hr:Rel ⟨Zh (tlA k x) dlH,w⟩ (tlA k x++Zcc c p va vc) (dlH++pkHp) w)(hb:BOk x.tel)(ho:x.ox.length<10000000000)(hc:Z9 c=ϖ)(hp:chkP p=0) : γ ϧ 30 #[.pointer (some ⟨k,0,none⟩),.string ⟨c.toArray⟩,Zsd p va vc] w λe w'=>e=.returned (.tuple #[])/\Zh3 w w' k x (λ_=>False) (Zx c p x.tel):=by
  refine Wu Z5y hr ?_;simp only[QR,ra];have hns:x.sx.length<=6:=by have:=hb.ns;rw[Z28,qy3]at this;exact this
  have hwl:x.wants.length<=20:=Zel hb.wants;have hxs:x.tel.sess=x.sx.map (·.1):=rfl;have hol:x.tel.out.length=x.ox.length:=by simp[TelX.tel]
  have lenX:∀y:TelX,y.tel.out.length=y.ox.length:=λy=>by simp[TelX.tel]
  intro b30;refine⟨λhq1=>?_,λhq1=>?_⟩
  . intro w1 hr1;refine(Z90 (k:=k) (x:=x) (F:=λ_=>False) (pre:=[]) hr1 31 0 [10]
      (Z10r w1 k x c p va vc (((hr1.pick [1,2,3,4,5,6,7,8,9] (by decide)).conv rfl).base.conv rfl) hb (by omega) hc)
      rfl rfl (ϓ _) 10 (by decide) rfl (λj hj=>?_)).mono ?_
    . rcases hj with(hj|hj|hj|hj|hj)|hj
      . exact .inl (qE 1 rfl rfl hj)
      . exact .inl (qE 2 rfl rfl hj)
      . exact .inl (qE 3 rfl rfl hj)
      . exact .inl (qE 4 rfl rfl hj)
      . exact .inl (qE 6 rfl rfl hj)
      . exact hj.elim
    rintro e w2 ⟨y,hy,hs,hg,rfl,m1,m2,m3,m4⟩;refine⟨tlV y,rfl,rfl,m1,m2,m3,m4,?_⟩;intro w3 hr3;exact⟨by trivial,y,by rw[hy,Zx,ϛ (λh=>h.1 hq1),ϝ hq1],(hr3.pick [0,1,2,3,4,5,12] (by decide)).conv rfl,(GrwD.refl _ _ x).trans hg hr1.mod.size (λ_ h=>h.elim)⟩
  obtain⟨a0,ha0⟩:∃a0,a0=atS x.tel.sess c:=⟨_,rfl⟩
  refine⟨[.i a0],rfl,λ_ w' hr=>by rw[ha0];exact Z48 w' x.sv x.sx c (hr.at_ 3 rfl) hb.sort (by omega),?_⟩;simp only[QR,ra];obtain⟨ix,hix⟩:∃ix,ix=idxS x.tel.sess c:=⟨_,rfl⟩
  have hat:(hasS x.tel.sess c=ϖ/\a0=ix/\ix<x.sx.length)\/(¬hasS x.tel.sess c=ϖ/\a0=-1):=by
    by_cases h2:hasS x.tel.sess c=ϖ
    . exact .inl ⟨h2,by rw[ha0,atS,ϝ h2,hix],by rw[hix];exact(Zls h2).1⟩
    . exact .inr ⟨h2,by rw[ha0,atS,ϛ h2]⟩
  clear ha0;have hif:(a0<0\/¬Value.gB (((x.sx.map Ze).getD a0.toNat []).getD 1 undef)=ϖ)↔(¬hasS x.tel.sess c=ϖ\/¬(x.tel.sess.getD (idxS x.tel.sess c) s0).on=ϖ):=by
    rcases hat with⟨h2,h3,h4⟩|⟨h2,h3⟩
    . rw[h3,qy4,Z57 h4,<- hix,hxs,Zhm];exact⟨λh=>h.elim (λh=>by omega) .inr,λh=>h.elim (λh=>ϟ h2 h) .inr⟩
    . exact⟨λ_=>.inl h2,λ_=>.inl (by omega)⟩
  refine⟨by omega,by rcases hat with⟨-,h3,h4⟩|⟨-,h3⟩<;>omega,?_⟩;rw[hif];refine⟨λh1 w3 hr=>⟨by trivial,x,by rw[Zx,ϝ ⟨hq1,h1⟩],(hr.pick [1,2,3,4,5,6,7] (by decide)).conv rfl,.refl _ _ _⟩,λh1=>?_⟩;have hh:hasS x.tel.sess c=ϖ/\(x.tel.sess.getD (idxS x.tel.sess c) s0).on=ϖ:=⟨Ϡ λh4=>h1 (.inl h4),Ϡ λh4=>h1 (.inr h4)⟩
  obtain⟨ha,hlt⟩:a0=ix/\ix<x.sx.length:=by
    rcases hat with⟨-,h3,h4⟩|⟨h2,-⟩
    . exact⟨h3,h4⟩
    . exact ϟ hh.1 h2
  subst ha;clear hat hif;have hpk:Zx c p x.tel=if p.kind=3 then Z2t c p x.tel
      else if p.kind=4 then Zlo c p x.tel
      else if p.kind=8 then Z2f c p x.tel
      else if p.kind=10 then Z1g c p x.tel
      else if p.kind=12 then { x.tel with out:=x.tel.out++[toC c (pD_Q 13)] }
      else if p.kind=14 then Z4i c x.tel
      else x.tel:=by rw[Zx,ϛ (λh=>h1 h.2),ϛ hq1]
  rw[hpk];refine⟨λhk=>?_,λhk3=>?_⟩
  . rw[ϝ hk];obtain⟨p1,p2,p3,p4,p5⟩:=Zxn ((Zg8 hp).2.1 hk);obtain⟨t1,ht1⟩:∃t1:Tel,t1=if p.qos=1 then { x.tel with out:=x.tel.out++[toC c { pD_Q 4 with id:=p.id }] }else x.tel:=⟨_,rfl⟩
    have ht1b:BOk t1:=by
      rw[ht1];split
      . exact hb.out _
      . exact hb
    have ht1w:t1.wants=x.wants:=by rw[ht1];split<;>rfl
    have ht1l:t1.out.length<=x.ox.length+1:=by
      rw[ht1];split
      . simp only[qy11,ϐ,ϑ,hol];omega
      . rw[hol];omega
    refine⟨λvs=>∃y:TelX,vs=[.i 0,.i 0,.i 0,.i 0,.i 0,.i 0,.i 0,.i 0,.i 0,.i 0,.i 0,.i 0,.i 0,.i 0,.v y.kv,.v y.wv,.v y.sv,.v y.av,.i y.next,.v y.ov,.r (y.kept.map encK),.r (y.wants.map encK),.r (y.sx.map Ze),.r (y.wat.map Z4),.r (y.ox.map Zp),.a (Z3 y.sx y.ox)]/\y.tel=t1/\GrwD w.heap.size (λ_=>False) x y,⟨λhq=>?_,λhq=>?_⟩,?_⟩
    . intro b32 v33 o33 w1 hr1;have hz1:=hr1.mod.size;refine(Z90 (k:=k) (x:=x) (F:=(Za [pk1X { pD_Q 4 with id:=p.id }]).fp) (pre:=[]) hr1 34 0 [10]
        (Z30 w1 k x c v33 [pk1X { pD_Q 4 with id:=p.id }] (Zce (toRd hr1) (by rfl) k x (Za [pk1X { pD_Q 4 with id:=p.id }]) _ _ (hr1.at_ 8 rfl) (λj hj=>(qE 8 rfl rfl hj)) (Z2i rfl rfl _) (λj hj=>ϟ hj (Z16 rfl rfl)) [5,6,7,8,9,1,11,2,0] (by decide) rfl rfl) (show 1<1000000 by decide) (by omega))
        rfl rfl (ϓ _) 10 (by decide) rfl (λj hj=>?_)).mono ?_
      . rcases hj with(hj|hj|hj|hj|hj)|hj
        . exact .inl (qE 3 rfl rfl hj)
        . exact .inl (qE 4 rfl rfl hj)
        . exact .inl (qE 5 rfl rfl hj)
        . exact .inl (qE 6 rfl rfl hj)
        . exact .inl (qE 8 rfl rfl hj)
        . exact ϟ hj (Z16 rfl rfl)
      rintro e w2 ⟨y1,hy1,hs1,hg1,rfl,m1,m2,m3,m4⟩;refine⟨tlV y1,rfl,rfl,m1,m2,m3,m4,?_⟩;exact⟨Z3 y1.sx y1.ox,λw hr=>hr.at_ 5 rfl,λj hj=>(qE 5 rfl rfl hj),y1,rfl,by rw[hy1,ht1,ϝ hq];rfl,(GrwD.refl _ _ x).trans hg1 hz1 (λj h=>ϟ h (Z16 rfl rfl))⟩
    . exact⟨Z3 x.sx x.ox,λw hr=>hr.at_ 6 rfl,λj hj=>(qE 6 rfl rfl hj),x,rfl,by rw[ht1,ϛ hq],.refl _ _ _⟩
    rintro _ - ⟨y,rfl,hyt,hgy⟩;simp only[QR,ra];obtain⟨t2,ht2⟩:∃t2:Tel,t2=if p.retain=ϖ then(Z13 p.topic p.payload t1).1 else t1:=⟨_,rfl⟩
    have hpub:Z2t c p x.tel=Z6n p.topic p.payload p.qos t2:=by rw[Z2t,ht2,ht1]
    rw[hpub];have hko:=Z4w (p:=p.payload) ht1b p1;have ht2b:BOk t2/\t2.out.length<=x.ox.length+13/\t2.wants=x.wants:=by
      rw[ht2];split
      . exact⟨hko.1,by have:=hko.2.2.2;omega,hko.2.2.1.trans ht1w⟩
      . exact⟨ht1b,by omega,ht1w⟩
    have hyl:y.ox.length<=x.ox.length+1:=by rw[<- lenX,hyt];exact ht1l
    refine⟨λvs=>∃z:TelX,vs=[.i 0,.i 0,.i 0,.i 0,.i 0,.i 0,.i 0,.i 0,.i 0,.i 0,.i 0,.i 0,.i 0,.v z.kv,.v z.wv,.v z.sv,.v z.av,.i z.next,.v z.ov,.r (z.kept.map encK),.r (z.wants.map encK),.r (z.sx.map Ze),.r (z.wat.map Z4),.r (z.ox.map Zp),.a (Z3 z.sx z.ox)]/\z.tel=t2/\GrwD w.heap.size (λ_=>False) x z,⟨λhq=>?_,λhq=>?_⟩,?_⟩
    . intro w1 hr1;have hz1:=hr1.mod.size;refine(Z90 (k:=k) (x:=y) (F:=λ_=>False) (pre:=[.b (Z13 p.topic p.payload y.tel).2]) hr1 59 0 [51]
        (Zvi w1 k y p.topic p.payload (Z10p hr1 (by rfl) k y [.s p.topic,.s p.payload] [] (hr1.at_ 0 rfl) (λj hj=>(qE 0 rfl rfl hj)) [2,3,4,5,6,0,13] (by decide) rfl rfl) (by rw[hyt];exact ht1b) (Zby (by show chkK y.tel.kept=0;rw[hyt];exact ht1b.kept)) (by have:=(Z4r.1 p1).2.1.1;omega) (by omega))
        rfl rfl (ϓ _) 51 (by decide) rfl (λj hj=>?_)).mono ?_
      . rcases hj with(hj|hj|hj|hj|hj)|hj
        . exact .inl (qE 1 rfl rfl hj)
        . exact .inl (qE 2 rfl rfl hj)
        . exact .inl (qE 3 rfl rfl hj)
        . exact .inl (qE 4 rfl rfl hj)
        . exact .inl (qE 0 rfl rfl hj)
        . exact hj.elim
      rintro e w2 ⟨y1,hy1,hs1,hg1,rfl,m1,m2,m3,m4⟩;refine⟨V.b (Z13 p.topic p.payload y.tel).2::tlV y1,rfl,rfl,m1,m2,m3,m4,?_⟩;exact⟨Z3 y1.sx y1.ox,λw hr=>hr.at_ 5 rfl,λj hj=>(qE 5 rfl rfl hj),y1,rfl,by rw[hy1,hyt,ht2,ϝ hq],hgy.trans hg1 hz1 (λj h=>h.elim)⟩
    . exact⟨Z3 y.sx y.ox,λw hr=>hr.at_ 0 rfl,λj hj=>(qE 0 rfl rfl hj),y,rfl,by rw[hyt,ht2,ϛ hq],hgy⟩
    rintro _ - ⟨z,rfl,hzt,hgz⟩;simp only[QR,ra];intro w1 hr1;have hz1:=hr1.mod.size;refine(Z90 (k:=k) (x:=z) (F:=λ_=>False) (pre:=[]) hr1 83 0 [76]
      (Z16o w1 k z p.topic p.payload p.qos (Z10p hr1 (by rfl) k z [.s p.topic,.s p.payload,.i p.qos] [] (hr1.at_ 0 rfl) (λj hj=>(qE 0 rfl rfl hj)) [2,3,4,5,6,0,18] (by decide) rfl rfl) (by rw[hzt];exact ht2b.1) (by rw[<- lenX,hzt];have:=ht2b.2.1;omega) (by show Z2d z.tel.wants;rw[hzt,ht2b.2.2];exact Z8v hb.wants) p5 ⟨p3,p4⟩)
      rfl rfl (ϓ _) 76 (by decide) rfl (λj hj=>?_)).mono ?_
    . rcases hj with(hj|hj|hj|hj|hj)|hj
      . exact .inl (qE 1 rfl rfl hj)
      . exact .inl (qE 2 rfl rfl hj)
      . exact .inl (qE 3 rfl rfl hj)
      . exact .inl (qE 4 rfl rfl hj)
      . exact .inl (qE 0 rfl rfl hj)
      . exact hj.elim
    rintro e w2 ⟨y1,hy1,hs1,hg1,rfl,m1,m2,m3,m4⟩;refine⟨tlV y1,rfl,rfl,m1,m2,m3,m4,?_⟩;intro w3 hr3;exact⟨by trivial,y1,by rw[hy1,hzt],(hr3.pick [0,1,2,3,4,5,22] (by decide)).conv rfl,hgz.trans hg1 hz1 (λ_ h=>h.elim)⟩
  rw[ϛ hk3];refine⟨λhk=>?_,λhk4=>?_⟩
  . rw[ϝ hk];have hrow:=Z57 hlt;simp only[QR,ra,hrow,Ze,ϗ,Ϙ,Value.gI,Value.gB,Value.gS,Zv];obtain⟨ss,hss⟩:∃ss,ss=x.sx.getD ix sxD:=⟨_,rfl⟩
    have hm0:ss∈x.sx:=by rw[hss];exact Z58 hlt
    have hse:ss.1=x.tel.sess.getD (idxS x.tel.sess c) s0:=by rw[hss,hxs,<- hxs,<- hix,hxs,Zhm]
    have hok:SesOk ss.1:=by rw[hse];exact Zb9 hb hh.1
    rw[<- hss];obtain⟨s,s',s''⟩:=ss;simp only at hse hok⊢;obtain⟨C,hC⟩:∃C,C=Z4l s p.id:=⟨_,rfl⟩
    have hnm:∀j,sesF (s,s',s'') j->(Z3 x.sx x.ox).fp j:=λj hj=>Z7.2 (.inl ⟨_,hm0,hj⟩);have hcall:∀w1:ζ,w.heap.size<=w1.heap.size->(Z3 x.sx x.ox).holds w1->γ ϧ 83 #[sesV s s' s'',.int .i64 p.id] w1 λe w2=>∃u1 u2 u3:Ϩ,e=.returned (.tuple #[sesV C.1 u1 u2,sc1 u3])/\Zi w2 u1 C.1.fl/\Zi w2 u2 C.1.qu/\reads w2 u3 kP ((C.2.map pkN).map Z2y)/\(∀j,sesF (C.1,u1,u2) j->w1.heap.size<=j\/(Z3 x.sx x.ox).fp j)/\(∀j,Z1 u3 j->w1.heap.size<=j)/\Mod [] w1 w2:=λw1 hz hA=>by
      obtain⟨hs1,hs2⟩:=Zy hA hm0;refine(Zzm w1 s s' s'' p.id hs1 hs2 hok.next (by have:=hok.nf;omega) (by have:=hok.nq;omega)).mono ?_;rw[<- hC];rintro e w2 ⟨u1,u2,u3,rfl,g1,g2,g3,g4,g5,g6,gm⟩;refine⟨u1,u2,u3,rfl,g1,g2,by rw[Z7o];exact g3,λj hj=>?_,g6,gm⟩;rcases hj with h|h
      . exact(g4 j h).imp id (hnm j)
      . exact(g5 j h).imp id (hnm j)
    have hC9:C.2.length<=6:=by have h5:=Zwp { s with fl:=Z3u s.fl p.id };have h6:=hok.nq;rw[hC,Z4l];simp only at h5⊢;omega
    refine⟨λvs=>∃(u1 u2 u3:Ϩ) (b:Nat),vs=[.s C.1.cl,.b C.1.on,.b C.1.clean,.v u1,.r (C.1.fl.map encF),.v u2,.r (C.1.qu.map encF),.i C.1.next,.v u3,.r ((C.2.map pkN).map Z2y),.n b]/\∀j,sesF (C.1,u1,u2) j->w.heap.size<=j\/(Z3 x.sx x.ox).fp j,⟨by omega,by omega,?_,?_⟩,?_⟩
    . intro w1 hr1;have hz1:=hr1.mod.size;refine(Zb (hcall w1 hz1 (hr1.at_ 6 rfl)) rfl).mono ?_;rintro e w2 ⟨u1,u2,u3,rfl,g1,g2,g3,g4,g6,gm⟩;refine⟨[.s C.1.cl,.b C.1.on,.b C.1.clean,.v u1,.r (C.1.fl.map encF),.v u2,.r (C.1.qu.map encF),.i C.1.next,.v u3,.r ((C.2.map pkN).map Z2y)],rfl,rfl,gm,qy5 _,qy2.2 ⟨⟨g1,λk hk=>(g4 k (.inl hk)).elim .inl λh=>.inr (.inl ⟨rfl,_,qy6 (i:=6) rfl,rfl,h⟩)⟩,qy2.2 ⟨⟨g2,λk hk=>(g4 k (.inr hk)).elim .inl λh=>.inr (.inl ⟨rfl,_,qy6 (i:=6) rfl,rfl,h⟩)⟩,qy2.2 ⟨⟨g3,λk hk=>.inl (g6 k hk.2)⟩,qy5 _⟩⟩⟩,Z4k ..,?_⟩;exact λb=>⟨u1,u2,u3,b,rfl,λj hj=>(g4 j hj).imp (Ϟ hz1) id⟩
    . intro b w1 hr1;have hz1:=hr1.mod.size;refine(Zb (hcall w1 hz1 (hr1.at_ 7 rfl)) rfl).mono ?_;rintro e w2 ⟨u1,u2,u3,rfl,g1,g2,g3,g4,g6,gm⟩;refine⟨[.s C.1.cl,.b C.1.on,.b C.1.clean,.v u1,.r (C.1.fl.map encF),.v u2,.r (C.1.qu.map encF),.i C.1.next,.v u3,.r ((C.2.map pkN).map Z2y)],rfl,rfl,gm,qy5 _,qy2.2 ⟨⟨g1,λk hk=>(g4 k (.inl hk)).elim .inl λh=>.inr (.inl ⟨rfl,_,qy6 (i:=7) rfl,rfl,h⟩)⟩,qy2.2 ⟨⟨g2,λk hk=>(g4 k (.inr hk)).elim .inl λh=>.inr (.inl ⟨rfl,_,qy6 (i:=7) rfl,rfl,h⟩)⟩,qy2.2 ⟨⟨g3,λk hk=>.inl (g6 k hk.2)⟩,qy5 _⟩⟩⟩,Z4k ..,?_⟩;exact⟨u1,u2,u3,b,rfl,λj hj=>(g4 j hj).imp (Ϟ hz1) id⟩
    rintro _ - ⟨u1,u2,u3,b42,rfl,hu12⟩;simp only[QR,ra];refine λb43 v44 o44=>⟨by(first|omega|(simp only[qy11,ϕ,qy3,ϐ,ϑ,ϒ,Ϛ];omega)),λv45 o45=>⟨by omega,by(first|omega|(simp only[qy11,ϕ,qy3,ϐ,ϑ,ϒ,Ϛ];omega)),λw3 hr3=>?_⟩⟩
    have hsz3:=hr3.mod.size;have hnew:=Z8z hr3 0 13 rfl rfl (by decide) rfl;have hA3:(Z3 (x.sx.set ix (C.1,u1,u2)) x.ox).holds w3:=Z5t (hr3.at_ 12 rfl) (hr3.at_ 3 rfl) (hr3.at_ 4 rfl);refine(Z90 (k:=k) (x:={ x with sx:=x.sx.set ix (C.1,u1,u2),sv:=v45 }) (F:=(Za (C.2.map pkN)).fp) (pre:=[]) hr3 46 0 [45,10]
      (Z30 w3 k { x with sx:=x.sx.set ix (C.1,u1,u2),sv:=v45 } c u3 (C.2.map pkN) (Zce (toRd hr3) (by rfl) k { x with sx:=x.sx.set ix (C.1,u1,u2),sv:=v45 } (Za (C.2.map pkN)) _ _ hA3 (λj hj=>?_) (Z6p _ _) (λj hj=>ϟ hj Z3z) [9,10,2,12,13,1,15,7,0] (by decide) rfl (Zd rfl (Zd rfl (Zd (Zae rfl ?_) rfl)))) (by rw[qy3];omega) (by show x.ox.length<40000000000;omega))
      rfl rfl (ϓ _) 10 (by decide) rfl (λj hj=>?_)).mono ?_
    . rcases Z2g hj with h|h|h
      . exact(qE 12 rfl rfl h)
      . exact(qE 3 rfl rfl h)
      . exact(qE 4 rfl rfl h)
    . simp only[QR,ra];rw[<- Z2h]
    . rcases hj with(hj|hj|hj|hj|hj)|hj
      . exact .inl (qE 7 rfl rfl hj)
      . exact .inl (qE 8 rfl rfl hj)
      . exact .inr (Zqa (v:=45) (by decide) hj.2)
      . exact .inl (qE 10 rfl rfl hj)
      . rcases Z2g hj with h|h|h
        . exact .inl (qE 12 rfl rfl h)
        . exact .inl (qE 3 rfl rfl h)
        . exact .inl (qE 4 rfl rfl h)
      . exact ϟ hj Z3z
    rintro e w4 ⟨y2,hy2,hsz4,hgr,rfl,m1,m2,m3,m4⟩;refine⟨tlV y2,rfl,rfl,m1,m2,m3,m4,?_⟩;intro w5 hr5;refine⟨by trivial,y2,?_,(hr5.pick [0,1,2,3,4,5,17] (by decide)).conv rfl,(Zqb (.refl _ _ _) (Nat.le_refl _) hnew (t:=(C.1,u1,u2)) hu12).trans hgr hsz3 (λj h=>ϟ h Z3z)⟩;rw[hy2,Zg9,Zlo,<- hse,<- hC];simp only[TelX.tel,Ϧ,hix]
  rw[ϛ hk4];refine⟨λhk=>?_,λhk8=>?_⟩
  . rw[ϝ hk];obtain⟨hao,-,hal⟩:=Zs3 hp hk;have hkt:chkK x.kept=0:=hb.kept;have hk16:x.kept.length<=16:=(Z11.1 hkt).1;simp only[QR,ra,gA0,gA1,gI0,gK0,gK1];intro b32;refine⟨λvs=>∃(i:Nat) (ku v u:Ϩ) (K:List Kp) (W:List Kp) (cs:List Int),vs=[.v ku,.r (K.map encK),.i i,.i 9,.b ϭ,.b ϭ,.b ϭ,.b ϭ,.i 0,.i p.id,.i 0,.i 0,.s [],.s [],.s [],.v (.slice none 0 0),.r [],.v u,.r (cs.map Zg),.v x.kv,.r (x.kept.map encK),.v v,.r (W.map encK),.v x.av,.r (x.wat.map Z4),.i x.next,.v x.ov,.r (x.ox.map Zp)]/\i<=p.asks.length/\(p.asks.take i).foldl (Z34 c) (x.wants,[])=(W,cs)/\(∀j,(W.map encK).flatten≠[]/\Z1 v j->w.heap.size<=j\/Zat x j)/\(∀j,Z1 u j->w.heap.size<=j\/j∈Zh (tlA k x) dlH)/\(K.map λk=>toC c (Zpj k))=Z3y c x.kept (p.asks.take i) cs/\K.length<=16*i,
      λvs=>(p.asks.length - (vs.getD 2 (.i 0)).toI).toNat,⟨0,.slice none 0 0,x.wv,.slice none 0 0,[],x.wants,[],rfl,by omega,rfl,λj hj=>.inr hj,λj hj=>(by cases hj),rfl,by simp⟩,?_⟩
    rintro _ - ⟨i,ku,v,u,K,W,cs,rfl,hi,hf,hwn,hun,hK,hKl⟩;simp only[QR,ra,gA0,gA1,gI0,gK0,gK1];have hW:Zl W=0:=by have:=(Zpb hc (p.asks.take i) (x:=(x.wants,[])) (λa ha=>hao a (ϲ ha)) hb.wants).1;rw[hf]at this;exact this
    have hcl:cs.length=i:=by have:=Zpi c (p.asks.take i) (x.wants,[]);rw[hf]at this;simp only[ϑ,ϒ]at this;omega
    refine⟨λh2=>?_,λh2=>?_⟩
    . have hi':i<p.asks.length:=by omega
      have hmem:p.asks.getD i yD∈p.asks:=by rw[qy1,qy7 hi'];exact List.getElem_mem hi'
      have hak:=hao _ hmem;have hfl:(p.asks.getD i yD).1.length<=60:=(Z4r.1 hak.1).2.1.1;have hstep:(p.asks.take (i+1)).foldl (Z34 c) (x.wants,[])=Z34 c (W,cs) (p.asks.getD i yD):=by rw[Zlr yD _ _ hi',Ϲ,hf];rfl
      have hls:∀q:Int,Z3y c x.kept (p.asks.take (i+1)) (cs++[q])=Z3y c x.kept (p.asks.take i) cs++Zln c x.kept (p.asks.getD i yD) q:=λq=>by
        have h3:=Zgc c x.kept p.asks (cs++[q]) i hi' (by simp;omega);rw[Ϯ (l:=cs++[q]) (i:=i+1) (by simp;omega),List.take_append_of_le_length (by omega),Ϯ (l:=cs) (i:=i) (by omega)]at h3;rw[h3];congr 2
        rw[qy1,Ϣ (by omega),hcl,δ];rfl
      have hsx:smW (c,(p.asks.getD i yD).1,(p.asks.getD i yD).2):=⟨by
        have h3:=(ϙ _ _▸hc:decide (1<=(c.length:Int)/\(c.length:Int)<=20)=ϖ/\Z3e c=ϖ).1;have:=of_decide_eq_true h3
        show c.length<_
        omega,by show(p.asks.getD i yD).1.length<_;omega⟩
      refine⟨by omega,?_⟩;intro w1 hr1;have hz1:=hr1.mod.size;refine(Zb (Z16c w1 v W (c,(p.asks.getD i yD).1,(p.asks.getD i yD).2) (hr1.at_ 4 rfl) (Z1v.1 hW).2.2 (Zel hW) hsx) rfl).mono ?_;obtain⟨R,hR⟩:∃R,R=rawW W (c,(p.asks.getD i yD).1,(p.asks.getD i yD).2):=⟨_,rfl⟩
      rw[<- hR];rintro e w2 ⟨v',rfl,a1,a2,am⟩;refine⟨[.v v',.r (R.1.map encK),.i R.2],rfl,rfl,am,qy5 _,qy2.2 ⟨⟨a1,λk hk=>.inl (a2 k hk.2)⟩,qy5 _⟩,Z2,?_⟩;simp only[QR,ra,gA0,gA1,gI0,gK0,gK1];have hwn':∀j,(R.1.map encK).flatten≠[]/\Z1 v' j->w.heap.size<=j\/Zat x j:=λj hj=>.inl (Ϟ hz1 (a2 j hj.2));clear hr1 a1 a2 am;have hb0:Z34 c (W,cs) (p.asks.getD i yD)=if R.2=0 then(R.1,cs++[(p.asks.getD i yD).2])else(W,cs++[128]):=by rw[Z34,hR]
      refine⟨λh3=>?_,λh3=>?_⟩
      . refine λv65 o65=>⟨by(first|omega|(simp only[qy11,ϕ,qy3,ϐ,ϑ,ϒ,Ϛ];omega)),λv66 o66=>⟨by omega,by omega,⟨i+1,ku,v,v66,K,W,cs++[128],?_,by omega,?_,hwn,o66,?_,by omega⟩,by omega⟩⟩
        . rw[ϔ];rfl
        . rw[hstep,hb0,ϛ h3]
        . rw[hls,Zln,ϝ rfl,ϰ];exact hK
      . have h3:=qy9.1 h3;refine λv65 o65=>⟨by(first|omega|(simp only[qy11,ϕ,qy3,ϐ,ϑ,ϒ,Ϛ];omega)),λv66 o66=>?_⟩
        intro w3 hr3;refine(Z193 w3 x.kv x.kept (p.asks.getD i yD).1 (hr3.at_ 6 rfl) (Zby hkt) (by omega) (by omega)).mono ?_;obtain⟨L,hL⟩:∃L,L=x.kept.filter (forF (p.asks.getD i yD).1):=⟨_,rfl⟩
        rw[<- hL];have hLl:L.length<=16:=by rw[hL];exact Ϟ (ϱ _ _) hk16
        rintro e w4 ⟨v2,rfl,a1,a2,am⟩;refine⟨[.v v2,.r (L.map encK)],rfl,rfl,am,qy5 _,qy2.2 ⟨⟨a1,λk hk=>.inl (a2 k hk.2)⟩,qy5 _⟩,Z2,?_⟩;simp only[QR,ra,gA0,gA1,gI0,gK0,gK1];refine⟨by omega,λv69 o69=>⟨by omega,by omega,⟨i+1,v69,v',v66,K++L,R.1,cs++[(p.asks.getD i yD).2],?_,by omega,?_,hwn',o66,?_,by rw[qy11];omega⟩,by omega⟩⟩
        . rw[ϔ,ϔ];rfl
        . rw[hstep,hb0,ϝ h3]
        . rw[hls,Zln,ϛ (by have:=hak.2;omega),ϔ,hK,hL];rfl
    . have hie:i=p.asks.length:=by omega
      subst hie;rw[Ϥ]at hf hK;have hA1:Zhl c x.wants p.asks=(W,cs):=hf;intro b62 v63 o63 w1 hr1;have hz1:=hr1.mod.size;have hu:∀j,(cs.map Zg).flatten≠[]/\Z1 u j->w.heap.size<=j\/Z1 x.ov j:=λj hj=>by
        rcases hun j hj.2 with h5|h5
        . exact .inl h5
        . rcases List.mem_cons.1 (Z1b2 h5)with h6|h6
          . exact ϟ h6 λh6=>hr1.sep.disj (i:=11) (j:=15) rfl rfl (by decide) (.inl rfl) (k:=j) h6 hj
          . rw[ϰ]at h6;exact .inr (Option.mem_toList.1 h6)
      have hg0:GrwD w.heap.size (λ_=>False) x { x with wants:=W,wv:=v }:=λj hj=>by
        rcases hj with(hj|hj|hj|hj|hj)|hj
        . exact .inr (.inl (.inl (.inl hj)))
        . rcases hwn j hj with h|h
          . exact .inl h
          . exact .inr (.inl (.inl (.inr (.inl h))))
        . exact .inr (.inl (.inl (.inr (.inr (.inl hj)))))
        . exact .inr (.inl (.inl (.inr (.inr (.inr (.inl hj))))))
        . exact .inr (.inl (.inl (.inr (.inr (.inr (.inr hj))))))
        . exact .inr (.inl (.inr hj))
      refine(Z90 (k:=k) (x:={ x with wants:=W,wv:=v }) (F:=(Za [ackX p.id cs u]).fp) (pre:=[]) hr1 64 0 [60]
        (Z30 w1 k { x with wants:=W,wv:=v } c v63 [ackX p.id cs u] (Zce (toRd hr1) (by rfl) k { x with wants:=W,wv:=v } (Za [ackX p.id cs u]) _ _ (hr1.at_ 10 rfl) (λj hj=>(qE 10 rfl rfl hj)) (Zse (hr1.at_ 15 rfl)) (λj hj=>(qE 15 rfl rfl (Zn9 hj))) [7,8,9,10,11,1,13,2,0] (by decide) rfl rfl) (show 1<1000000 by decide) (by show x.ox.length<40000000000;omega))
        rfl rfl (ϓ _) 60 (by decide) rfl (λj hj=>?_)).mono ?_
      . rcases hj with(hj|hj|hj|hj|hj)|hj
        . exact .inl (qE 5 rfl rfl hj)
        . exact .inl (qE 6 rfl rfl hj)
        . exact .inl (qE 7 rfl rfl hj)
        . exact .inl (qE 8 rfl rfl hj)
        . exact .inl (qE 10 rfl rfl hj)
        . exact .inl (qE 15 rfl rfl (Zn9 hj))
      rintro e w2 ⟨y1,hy1,hs1,hg1,rfl,m1,m2,m3,m4⟩;refine⟨tlV y1,rfl,rfl,m1,m2,m3,m4,?_⟩;clear m1 m2 m3 m4;have G1:GrwD w.heap.size (λ_=>False) x y1:=hg0.trans hg1 hz1 (λj h=>(hu j (Zn9 h)).elim .inl λh=>.inr (.inl (.inr h)));have T1:y1.tel={ x.tel with wants:=W,out:=x.tel.out++[toC c { pD_Q 9 with id:=p.id,codes:=cs }] }:=hy1;have L1:y1.tel.out.length=x.ox.length+1:=by rw[T1];simp only[qy11,ϐ,ϑ,hol]
      clear hr1;refine⟨Z3 y1.sx y1.ox,λw hr=>hr.at_ 5 rfl,λj hj=>(qE 5 rfl rfl hj),?_⟩;refine⟨λvs=>∃(i:Nat) (y:TelX),vs=[.i i,.a (Z3 y.sx y.ox),.v y.kv,.r (y.kept.map encK),.v y.wv,.r (y.wants.map encK),.v y.sv,.r (y.sx.map Ze),.v y.av,.r (y.wat.map Z4),.i y.next,.v y.ov,.r (y.ox.map Zp)]/\i<=K.length/\y.tel={ y1.tel with out:=y1.tel.out++(K.take i).map λk=>toC c (Zpj k) }/\GrwD w.heap.size (λ_=>False) x y,
        λvs=>(K.length - (vs.getD 0 (.i 0)).toI).toNat,⟨0,y1,rfl,by omega,by simp,G1⟩,?_⟩
      rintro _ - ⟨j,y,rfl,hj,hyt,hgy⟩;simp only[QR,ra,gA0,gA1,gI0,gK0,gK1];have yl:y.ox.length<=x.ox.length+97:=by have h6:=lenX y;rw[hyt]at h6;simp only[qy11,qy3,ϒ]at h6;omega
      refine⟨λh4=>?_,λh4 w3 hr3=>?_⟩
      . have hj':j<K.length:=by omega
        refine⟨by omega,λb90 v91 o91 w6 hr6=>?_⟩;have hz6:=hr6.mod.size;refine(Z90 (k:=k) (x:=y) (F:=(Za [pk1X (Zpj (K.getD j kD))]).fp) (pre:=[]) hr6 92 0 [88]
          (Z30 w6 k y c v91 [pk1X (Zpj (K.getD j kD))] (Zce (toRd hr6) (by rfl) k y (Za [pk1X (Zpj (K.getD j kD))]) _ _ (hr6.at_ 2 rfl) (λj hj=>(qE 2 rfl rfl hj)) (Z2i rfl rfl _) (λj hj=>ϟ hj (Z16 rfl rfl)) [5,6,7,8,9,1,21,2,0] (by decide) rfl
            (Zd rfl (Zd rfl (Zd rfl (Zd rfl (Zd rfl (Zd rfl (Zd rfl (Zd (Zae rfl (by simp only[QR,ra,gA0,gA1,gI0,gK0,gK1];rfl)) rfl))))))))) (show 1<1000000 by decide) (by omega))
          rfl rfl (ϓ _) 88 (by decide) rfl (λj hj=>?_)).mono ?_
        . rcases hj with(hj|hj|hj|hj|hj)|hj
          . exact .inl (qE 3 rfl rfl hj)
          . exact .inl (qE 4 rfl rfl hj)
          . exact .inl (qE 5 rfl rfl hj)
          . exact .inl (qE 6 rfl rfl hj)
          . exact .inl (qE 2 rfl rfl hj)
          . exact ϟ hj (Z16 rfl rfl)
        rintro e w7 ⟨y2,hy2,hs2,hg2,rfl,m1,m2,m3,m4⟩;refine⟨tlV y2,rfl,rfl,m1,m2,m3,m4,?_⟩;refine⟨by omega,by omega,Z3 y2.sx y2.ox,λw hr=>hr.at_ 5 rfl,λj hj=>(qE 5 rfl rfl hj),⟨j+1,y2,rfl,by omega,?_,hgy.trans hg2 hz6 (λj h=>ϟ h (Z16 rfl rfl))⟩,by omega⟩;rw[hy2,hyt,Zlr kD K j hj',ϔ];simp only[Ϫ];rfl
      . have hje:j=K.length:=by omega
        subst hje;rw[Ϥ]at hyt;refine⟨by trivial,y,?_,(hr3.pick [1,2,3,4,5,0,17] (by decide)).conv rfl,hgy⟩;rw[hyt,T1,Z2f,show Zhl c x.tel.wants p.asks=(W,cs) from hA1];simp only[hK];rfl
  rw[ϛ hk8];refine⟨λhk=>?_,λhk10=>?_⟩
  . rw[ϝ hk];have hal:p.asks.length<=5:=Z1i4 hp hk;simp only[QR,ra,gA0,gA1,gI0,gK0,gK1];refine⟨λvs=>∃(i:Nat) (v:Ϩ) (W:List Kp),vs=[.i i,.v x.kv,.r (x.kept.map encK),.v v,.r (W.map encK),.v x.av,.r (x.wat.map Z4),.i x.next,.v x.ov,.r (x.ox.map Zp)]/\i<=p.asks.length/\W=(p.asks.take i).foldl (λws a=>ws.filter λw=>decide (¬(w.1=c/\w.2.1=a.1))) x.wants/\W.length<=20/\(∀j,(W.map encK).flatten≠[]/\Z1 v j->w.heap.size<=j\/Zat x j),
      λvs=>(p.asks.length - (vs.getD 0 (.i 0)).toI).toNat,⟨0,x.wv,x.wants,rfl,by omega,rfl,hwl,λj hj=>.inr hj⟩,?_⟩
    rintro _ - ⟨i,v,W,rfl,hi,hf,hW20,hwn⟩;simp only[QR,ra,gA0,gA1,gI0,gK0,gK1];refine⟨λh2=>?_,λh2=>?_⟩
    . have hi':i<p.asks.length:=by omega
      refine⟨by omega,?_⟩;intro w1 hr1;have hz1:=hr1.mod.size;refine(Zbw w1 v W c (p.asks.getD i yD).1 (hr1.at_ 2 rfl) (by omega)).mono ?_;obtain⟨L,hL⟩:∃L,L=W.filter (λw:Kp=>decide (¬(w.1=c/\w.2.1=(p.asks.getD i yD).1))):=⟨_,rfl⟩
      rw[<- hL];rintro e w2 ⟨v',rfl,a1,a2,am⟩;refine⟨[.v v',.r (L.map encK)],rfl,rfl,am,qy5 _,qy2.2 ⟨⟨a1,λk hk=>.inl (a2 k hk)⟩,qy5 _⟩,Z2,?_⟩;simp only[QR,ra,gA0,gA1,gI0,gK0,gK1];refine⟨by omega,by omega,⟨i+1,v',L,rfl,by omega,?_,?_,λj hj=>.inl (Ϟ hz1 (a2 j hj.2))⟩,by omega⟩
      . rw[Zlr yD _ _ hi',Ϲ,<- hf,hL];rfl
      . rw[hL];exact Ϟ (ϱ _ _) hW20
    . have hie:i=p.asks.length:=by omega
      subst hie;rw[Ϥ,Zyl]at hf;intro b42 v43 o43 w1 hr1;have hz1:=hr1.mod.size;have hg0:GrwD w.heap.size (λ_=>False) x { x with wants:=W,wv:=v }:=λj hj=>by
        rcases hj with(hj|hj|hj|hj|hj)|hj
        . exact .inr (.inl (.inl (.inl hj)))
        . rcases hwn j hj with h|h
          . exact .inl h
          . exact .inr (.inl (.inl (.inr (.inl h))))
        . exact .inr (.inl (.inl (.inr (.inr (.inl hj)))))
        . exact .inr (.inl (.inl (.inr (.inr (.inr (.inl hj))))))
        . exact .inr (.inl (.inl (.inr (.inr (.inr (.inr hj))))))
        . exact .inr (.inl (.inr hj))
      refine(Z90 (k:=k) (x:={ x with wants:=W,wv:=v }) (F:=(Za [pk1X { pD_Q 11 with id:=p.id }]).fp) (pre:=[]) hr1 44 0 [40]
        (Z30 w1 k { x with wants:=W,wv:=v } c v43 [pk1X { pD_Q 11 with id:=p.id }] (Zce (toRd hr1) (by rfl) k { x with wants:=W,wv:=v } (Za [pk1X { pD_Q 11 with id:=p.id }]) _ _ (hr1.at_ 8 rfl) (λj hj=>(qE 8 rfl rfl hj)) (Z2i rfl rfl _) (λj hj=>ϟ hj (Z16 rfl rfl)) [5,6,7,8,9,1,11,2,0] (by decide) rfl rfl) (show 1<1000000 by decide) (by show x.ox.length<40000000000;omega))
        rfl rfl (ϓ _) 40 (by decide) rfl (λj hj=>?_)).mono ?_
      . rcases hj with(hj|hj|hj|hj|hj)|hj
        . exact .inl (qE 3 rfl rfl hj)
        . exact .inl (qE 4 rfl rfl hj)
        . exact .inl (qE 5 rfl rfl hj)
        . exact .inl (qE 6 rfl rfl hj)
        . exact .inl (qE 8 rfl rfl hj)
        . exact ϟ hj (Z16 rfl rfl)
      rintro e w2 ⟨y1,hy1,hs1,hg1,rfl,m1,m2,m3,m4⟩;refine⟨tlV y1,rfl,rfl,m1,m2,m3,m4,?_⟩;intro w3 hr3;exact⟨by trivial,y1,by rw[hy1,Z1g];simp only[TelX.tel,hf];rfl,(hr3.pick [0,1,2,3,4,5,14] (by decide)).conv rfl,hg0.trans hg1 hz1 (λj h=>ϟ h (Z16 rfl rfl))⟩
  rw[ϛ hk10];refine⟨λhk=>?_,λhk12=>?_⟩
  . rw[ϝ hk];intro b32 v33 o33 w1 hr1;have hz1:=hr1.mod.size;refine(Z90 (k:=k) (x:=x) (F:=(Za [pk1X (pD_Q 13)]).fp) (pre:=[]) hr1 34 0 [10]
      (Z30 w1 k x c v33 [pk1X (pD_Q 13)] (Zce (toRd hr1) (by rfl) k x (Za [pk1X (pD_Q 13)]) _ _ (hr1.at_ 8 rfl) (λj hj=>(qE 8 rfl rfl hj)) (Z2i rfl rfl _) (λj hj=>ϟ hj (Z16 rfl rfl)) [5,6,7,8,9,1,11,2,0] (by decide) rfl rfl) (show 1<1000000 by decide) (by omega))
      rfl rfl (ϓ _) 10 (by decide) rfl (λj hj=>?_)).mono ?_
    . rcases hj with(hj|hj|hj|hj|hj)|hj
      . exact .inl (qE 3 rfl rfl hj)
      . exact .inl (qE 4 rfl rfl hj)
      . exact .inl (qE 5 rfl rfl hj)
      . exact .inl (qE 6 rfl rfl hj)
      . exact .inl (qE 8 rfl rfl hj)
      . exact ϟ hj (Z16 rfl rfl)
    rintro e w2 ⟨y1,hy1,hs1,hg1,rfl,m1,m2,m3,m4⟩;refine⟨tlV y1,rfl,rfl,m1,m2,m3,m4,?_⟩;intro w3 hr3;exact⟨by trivial,y1,hy1,(hr3.pick [0,1,2,3,4,5,14] (by decide)).conv rfl,(GrwD.refl _ _ x).trans hg1 hz1 (λj h=>ϟ h (Z16 rfl rfl))⟩
  rw[ϛ hk12];refine⟨λhk=>?_,λhk w3 hr=>?_⟩
  . rw[ϝ hk];intro w1 hr1;refine(Z90 (k:=k) (x:=x) (F:=λ_=>False) (pre:=[]) hr1 32 0 [10]
      (Z16p w1 k x c (((hr1.pick [1,2,3,4,5,6,7] (by decide)).conv rfl).base.conv rfl) hb)
      rfl rfl (ϓ _) 10 (by decide) rfl (λj hj=>?_)).mono ?_
    . rcases hj with(hj|hj|hj|hj|hj)|hj
      . exact .inl (qE 1 rfl rfl hj)
      . exact .inl (qE 2 rfl rfl hj)
      . exact .inl (qE 3 rfl rfl hj)
      . exact .inl (qE 4 rfl rfl hj)
      . exact .inl (qE 6 rfl rfl hj)
      . exact hj.elim
    rintro e w2 ⟨y,hy,hs,hg,rfl,m1,m2,m3,m4⟩;refine⟨tlV y,rfl,rfl,m1,m2,m3,m4,?_⟩;intro w3 hr3;exact⟨by trivial,y,hy,(hr3.pick [0,1,2,3,4,5,12] (by decide)).conv rfl,(GrwD.refl _ _ x).trans hg hr1.mod.size (λ_ h=>h.elim)⟩
  . rw[ϛ hk];exact⟨by trivial,x,rfl,(hr.pick [1,2,3,4,5,6,7] (by decide)).conv rfl,.refl _ _ _⟩
def Z10s(w:ζ)(k:Nat)(x:TelX)(n:Int)(m:Msg)(mv:Ϩ)(hr:Rel ⟨Zh (tlA k x) dlH,w⟩ (tlA k x++([.i n]++mgV m mv)) (dlH++[.rd 18 [.int .i64,.str] (.var 19)]) w)(hb:BOk x.tel)(ho:x.ox.length<10000000000)(hm:chk m=0) : γ ϧ 28 #[.pointer (some ⟨k,0,none⟩),.int .i64 n,mV m (sc1 mv)] w λe w'=>e=.returned (.tuple #[])/\Zh3 w w' k x (λ_=>False) (Zu n m x.tel):=by
  refine Wu Z5b hr ?_;simp only[QR,ra];have hzn:0<=x.next/\x.next<=65535:=hb.next;obtain⟨⟨mk0,mk3⟩,-,⟨m1,mo,mp⟩,-⟩:=Zac.1 hm;have hol:x.tel.out.length=x.ox.length:=by simp[TelX.tel]
  have lenX:∀y:TelX,y.tel.out.length=y.ox.length:=λy=>by simp[TelX.tel]
  intro b21;refine⟨λhc0=>⟨λhk0=>?_,λhk0=>?_⟩,λhc0=>⟨λhk1=>?_,λhk1=>?_⟩⟩
  . intro v22 o22;refine⟨by(first|omega|(simp only[qy11,ϕ,qy3,ϐ,ϑ];omega)),λv23 o23=>?_⟩;intro w3 hr3;have hnil:∀s∈[toP n (⟨3,0,m.id,[],[],[]⟩:Msg)],nilS s:=λs hs=>by rw[qy12.1 hs];exact⟨rfl,rfl,rfl⟩
    obtain⟨q1,q2⟩:=Zbs (l:=x.sx) (o:=x.ox) hnil;simp only[ϫ,ϯ]at q1 q2;have hox0:x.ox.map Zp++[Zp (nilX (toP n (⟨3,0,m.id,[],[],[]⟩:Msg)))]=(x.ox++[nilX (toP n (⟨3,0,m.id,[],[],[]⟩:Msg))]).map Zp:=by rw[ϔ];rfl
    refine⟨by trivial,Zd9 (y:={ x with ox:=x.ox++[nilX (toP n ⟨3,0,m.id,[],[],[]⟩)],ov:=v23 }) ?_ (Zl7 hr3 (by rfl) k _ (q1 _ (hr3.at_ 7 rfl)) (λj hj=>(qE 7 rfl rfl (q2 j hj))) [4,5,6,7,1,0,9] (by decide) (Zd rfl (Zd rfl (Zd rfl (Zd rfl (Zd (Z3w rfl hox0) rfl)))))) λj hj=>?_⟩
    . rw[Zu,ϝ ⟨hc0,hk0⟩];simp only[TelX.tel,ϔ,ϫ,ϯ];rfl
    . rcases hj with hj|hj|hj|hj|hj
      . exact .inr (.inl (.inl (.inl hj)))
      . exact .inr (.inl (.inl (.inr (.inl hj))))
      . exact .inr (.inl (.inl (.inr (.inr (.inl hj)))))
      . exact .inr (.inl (.inl (.inr (.inr (.inr (.inl hj))))))
      . exact .inr (.inl (.inl (.inr (.inr (.inr (.inr (q2 j hj)))))))
  . intro w3 hr3;exact⟨by trivial,x,by rw[Zu,ϛ (λh=>hk0 h.2),ϛ (λh=>h.1 hc0)],(hr3.pick [1,2,3,4,5,6,7] (by decide)).conv rfl,.refl _ _ _⟩
  . intro w3 hr3;exact⟨by trivial,x,by rw[Zu,ϛ (λh=>hc0 h.1),ϛ (λh=>by omega)],(hr3.pick [1,2,3,4,5,6,7] (by decide)).conv rfl,.refl _ _ _⟩
  have hmsg:Zu n m x.tel=Z3n n m x.tel:=by rw[Zu,ϛ (λh=>hc0 h.1),ϝ ⟨hc0,by omega⟩]
  rw[hmsg];obtain⟨AK,hAK⟩:∃AK:Int,AK=if m.kind=1 then 1 else 2:=⟨_,rfl⟩
  obtain⟨AI,hAI⟩:∃AI:Int,AI=if m.kind=1 then x.next else m.id:=⟨_,rfl⟩
  obtain⟨N,hN⟩:∃N:Int,N=if m.kind=1 then nx_Z x.next else x.next:=⟨_,rfl⟩
  have hans:Z2a m x.next=(⟨AK,133,AI,m.tok,[],[]⟩:Msg):=by rw[Z2a,hAK,hAI];split<;>rfl
  have hnil:∀s∈[toP n (⟨0,0,0,[],[],[]⟩:Msg)],nilS s:=λs hs=>by rw[qy12.1 hs];exact⟨rfl,rfl,rfl⟩
  obtain⟨q1,q2⟩:=Zbs (l:=x.sx) (o:=x.ox) hnil;simp only[ϫ,ϯ]at q1 q2;have hox:x.ox.map Zp++[Zp (nilX (toP n (⟨0,0,0,[],[],[]⟩:Msg)))]=(x.ox++[nilX (toP n (⟨0,0,0,[],[],[]⟩:Msg))]).map Zp:=by rw[ϔ];rfl
  intro b22;refine⟨λvs=>vs=[.i AK,.i AI,.i N],⟨λh=>⟨by omega,by omega,by omega,?_⟩,λh=>?_⟩,?_⟩
  . rw[hAK,hAI,hN,ϝ h,ϝ h,ϝ h];rfl
  . rw[hAK,hAI,hN,ϛ h,ϛ h,ϛ h]
  rintro _ - rfl;simp only[QR,ra];intro v26 o26;refine⟨by(first|omega|(simp only[qy11,ϕ,qy3,ϐ,ϑ];omega)),λv27 o27=>?_⟩;refine⟨[.s (Z1f m.opts).1,.i (Z1f m.opts).2],rfl,λ_ w' hr=>Z14b w' m mv (hr.at_ 10 rfl) hm,?_⟩;simp only[QR,ra];obtain⟨T1,hT1⟩:∃T1:Tel,T1=TelX.tel { x with next:=N,ox:=x.ox++[nilX (toP n (⟨0,0,0,[],[],[]⟩:Msg))],ov:=v27 }:=⟨_,rfl⟩
  have hT1':T1={ x.tel with next:=N,out:=x.tel.out++[toP n (⟨0,0,0,[],[],[]⟩:Msg)] }:=by rw[hT1];simp only[TelX.tel,ϔ,ϫ,ϯ];rfl
  have hB1:BOk T1:=by
    rw[hT1'];refine⟨hb.kept,hb.wants,hb.ns,hb.ses,hb.sort,hb.wat,hb.has,hb.kpt,?_⟩
    show 0<=N/\N<=65535
    rw[hN];split
    . exact Zgw _ hzn.1
    . exact hzn
  have hF1:∀w0:Nat,∀j,dlF { x with next:=N,ox:=x.ox++[nilX (toP n (⟨0,0,0,[],[],[]⟩:Msg))],ov:=v27 } j->w0<=j\/dlG x j:=λw0 j hj=>by
    rcases hj with hj|hj|hj|hj|hj
    . exact .inr (.inl (.inl hj))
    . exact .inr (.inl (.inr (.inl hj)))
    . exact .inr (.inl (.inr (.inr (.inl hj))))
    . exact .inr (.inl (.inr (.inr (.inr (.inl hj)))))
    . exact .inr (.inl (.inr (.inr (.inr (.inr (q2 j hj))))))
  have l1:T1.out.length=x.ox.length+1:=by rw[hT1'];simp only[qy11,ϐ,ϑ,hol]
  have hpn:(Z1f m.opts).2=0->chkT (Z1f m.opts).1 ϭ=0:=Zeo;have hkt:chkK x.kept=0:=hb.kept;have hk16:x.kept.length<=16:=(Z11.1 hkt).1;have hw12:x.wat.length<=12:=(Z17.1 hb.wat).1;generalize hnm:(Z1f m.opts).1=name at hpn
  refine⟨λvs=>∃(y:TelX) (a':Msg) (u:Ϩ),vs=[.i 0,.i 0,.i 0,.i 0,.i 0,.i 0,.i 0,.i 0,.i 0,.i 0,.i 0,.i 0,.i 0,.i 0,.i 0,.i 0,.i 0,.i 0,.i 0,.i 0,.i 0,.i 0,.i 0,.i 0,.i 0,.i a'.code,.v u,.s a'.pay,.v y.kv,.v y.wv,.v y.sv,.v y.av,.i y.next,.v y.ov,.r (a'.opts.map encO),.r (y.kept.map encK),.r (y.wants.map encK),.r (y.sx.map Ze),.r (y.wat.map Z4),.r (y.ox.map Zp),.a (Z3 y.sx y.ox)]/\(y.tel,a')=doB n m (⟨AK,133,AI,m.tok,[],[]⟩:Msg) T1/\(∀j,dlF y j->w.heap.size<=j\/dlG x j),⟨λh1=>?_,λh1=>⟨λh2=>?_,λh2=>⟨λh3=>⟨λh4=>?_,λh4=>?_⟩,λh3=>⟨λh4=>?_,λh4=>?_⟩⟩⟩⟩,?_⟩
  . refine⟨Z3 x.sx (x.ox++[nilX (toP n (⟨0,0,0,[],[],[]⟩:Msg))]),λw hr=>q1 w (hr.at_ 8 rfl),λj hj=>(qE 8 rfl rfl (q2 j hj)),{ x with next:=N,ox:=x.ox++[nilX (toP n (⟨0,0,0,[],[],[]⟩:Msg))],ov:=v27 },{ (⟨AK,133,AI,m.tok,[],[]⟩:Msg)with code:=128 },.slice none 0 0,?_,?_,hF1 _⟩
    . rw[<- hox];rfl
    . rw[doB,ϝ h1,hT1]
  . have h1':=qy9.1 h1;have hgd:doB n m (⟨AK,133,AI,m.tok,[],[]⟩:Msg) T1=getB n m (⟨AK,133,AI,m.tok,[],[]⟩:Msg) name T1:=by rw[doB,ϛ h1,ϝ h2,hnm]
    rw[hgd];have hTk:T1.kept=x.kept:=by rw[hT1'];rfl
    have hTw:T1.wat=x.wat:=by rw[hT1'];rfl
    obtain⟨a0,ha0⟩:∃a0:Int,a0=if hasK x.kept name=ϖ then(idx x.kept name:Int)else -1:=⟨_,rfl⟩
    refine⟨[.i a0],rfl,λ_ w' hr=>by rw[ha0];exact Zi2 w' x.kv x.kept name (hr.at_ 4 rfl) (Z11.1 hkt).2.2 (by omega),?_⟩;simp only[QR,ra,gK1];refine⟨λh3=>?_,λh3=>?_⟩
    . have hno:¬hasK x.kept name=ϖ:=λh=>by rw[ha0,ϝ h]at h3;omega
      refine⟨Z3 x.sx (x.ox++[nilX (toP n (⟨0,0,0,[],[],[]⟩:Msg))]),λw hr=>q1 w (hr.at_ 8 rfl),λj hj=>(qE 8 rfl rfl (q2 j hj)),{ x with next:=N,ox:=x.ox++[nilX (toP n (⟨0,0,0,[],[],[]⟩:Msg))],ov:=v27 },{ (⟨AK,133,AI,m.tok,[],[]⟩:Msg)with code:=132 },.slice none 0 0,?_,?_,hF1 _⟩
      . rw[<- hox];rfl
      . rw[getB,ϝ (by rw[hTk];exact hno),hT1]
    have hyes:hasK x.kept name=ϖ:=Ϡ λh=>h3 (by rw[ha0,ϛ h];decide);have hlt:idx x.kept name<x.kept.length:=(of_decide_eq_true hyes).1;rw[ϝ hyes]at ha0;subst ha0;refine⟨λvs=>vs=[],⟨by omega,by omega,rfl⟩,?_⟩;rintro _ - rfl;refine⟨[.i (Z3m 6 m.opts).1,.i (Z3m 6 m.opts).2],rfl,λ_ w' hr=>Z14a w' m mv 6 (hr.at_ 10 rfl) (by omega),?_⟩;simp only[QR,ra,gK1];obtain⟨R,hR⟩:∃R,R=Z49 x.wat (n,m.tok,name,1):=⟨_,rfl⟩
    obtain⟨a1,ha1⟩:∃a1:Msg,a1={ (⟨AK,133,AI,m.tok,[],[]⟩:Msg)with code:=69,pay:=(x.kept.getD (idx x.kept name) kD).2.1 }:=⟨_,rfl⟩
    have hg0:getB n m (⟨AK,133,AI,m.tok,[],[]⟩:Msg) name T1=if(Z3m 6 m.opts).2=0/\(Z3m 6 m.opts).1=0 then
        if R.2=0 then({ T1 with wat:=R.1 },{ a1 with opts:=[(6,[1])] })else(T1,a1)
      else if(Z3m 6 m.opts).2=0/\(Z3m 6 m.opts).1=1 then({ T1 with wat:=filt n m.tok x.wat },a1)
      else(T1,a1):=by
      rw[getB,ϛ (by rw[hTk];exact qy9.2 hyes),hTk,hTw,<- hR,ha1];rfl
    rw[hg0];refine⟨λvs=>∃(u av':Ϩ) (O:List Opt) (W:List Wat),vs=[.i 0,.i 0,.i 0,.i 0,.v u,.v av',.r (O.map encO),.r (W.map Z4)]/\(O,W)=(if(Z3m 6 m.opts).2=0/\(Z3m 6 m.opts).1=0 then if R.2=0 then([(6,[1])],R.1)else([],x.wat)else([],x.wat))/\W.length<=12/\(∀j,(W.map Z4).flatten≠[]/\Z1 av' j->w.heap.size<=j\/dlG x j),⟨λh4=>?_,λh4=>?_⟩,?_⟩
    . refine⟨λvs=>∃v':Ϩ,vs=[.v v',.r (R.1.map Z4),.i R.2]/\(∀j,(R.1.map Z4).flatten≠[]/\Z1 v' j->w.heap.size<=j),?_,?_⟩
      . intro w1 hr1;have hz1:=hr1.mod.size;refine(Zzk w1 x.av x.wat n m.tok name (hr1.at_ 7 rfl) (by omega)).mono ?_;rw[<- hR];rintro e w2 ⟨v',rfl,g1,g2,gm⟩;exact⟨[.v v',.r (R.1.map Z4),.i R.2],rfl,rfl,gm,qy5 _,qy2.2 ⟨⟨g1,λk hk=>.inl (g2 k hk)⟩,qy5 _⟩,Z2,v',rfl,λj hj=>Ϟ hz1 (g2 j hj)⟩
      rintro _ - ⟨v1,rfl,hv1⟩;simp only[QR,ra,gK1];refine⟨λh5=>?_,λh5=>?_⟩
      . intro v36 o36;refine⟨v36,v1,[(6,[1])],R.1,rfl,by rw[ϝ h4,ϝ h5],?_,λj hj=>.inl (hv1 j hj)⟩;have h6:=h5;rw[hR]at h6⊢;unfold Z49 at h6⊢;split at h6
        . exact ϟ h6 (by decide)
        . rename_i h7;rw[ϛ h7];simp only[qy11,ϐ,ϑ]at h7⊢;omega
      . exact⟨.slice none 0 0,x.av,[],x.wat,rfl,by rw[ϝ h4,ϛ h5],hw12,λj hj=>.inr (.inl (.inr (.inr (.inr (.inl hj)))))⟩
    . exact⟨.slice none 0 0,x.av,[],x.wat,rfl,by rw[ϛ h4],hw12,λj hj=>.inr (.inl (.inr (.inr (.inr (.inl hj)))))⟩
    rintro _ - ⟨u,av',O,W,rfl,hOW,hWl,hWf⟩;simp only[QR,ra,gK1];have hFW:∀(W2:List Wat) (v2:Ϩ),(∀j,(W2.map Z4).flatten≠[]/\Z1 v2 j->w.heap.size<=j\/dlG x j)->∀j,dlF { { x with next:=N,ox:=x.ox++[nilX (toP n (⟨0,0,0,[],[],[]⟩:Msg))],ov:=v27 }with wat:=W2,av:=v2 } j->w.heap.size<=j\/dlG x j:=λW2 v2 hv j hj=>by
      rcases hj with hj|hj|hj|hj|hj
      . exact hF1 _ j (.inl hj)
      . exact hF1 _ j (.inr (.inl hj))
      . exact hF1 _ j (.inr (.inr (.inl hj)))
      . exact hv j hj
      . exact hF1 _ j (.inr (.inr (.inr (.inr hj))))
    refine⟨λh4=>?_,λh4=>?_⟩
    . refine⟨λvs=>∃v':Ϩ,vs=[.v v',.r ((filt n m.tok W).map Z4)]/\(∀j,Z1 v' j->w.heap.size<=j),?_,?_⟩
      . intro w1 hr1;have hz1:=hr1.mod.size;refine(Zmd w1 av' W n m.tok (hr1.at_ 1 rfl) (by omega)).mono ?_;rintro e w2 ⟨v',rfl,g1,g2,gm⟩;exact⟨[.v v',.r ((filt n m.tok W).map Z4)],rfl,rfl,gm,qy5 _,qy2.2 ⟨⟨g1,λk hk=>.inl (g2 k hk)⟩,qy5 _⟩,Z2,v',rfl,λj hj=>Ϟ hz1 (g2 j hj)⟩
      rintro _ - ⟨v1,rfl,hv1⟩;simp only[QR,ra,gK1];have hne:¬((Z3m 6 m.opts).2=0/\(Z3m 6 m.opts).1=0):=λh=>by omega
      rw[ϛ hne]at hOW⊢;rw[ϝ h4];obtain⟨rfl,rfl⟩:=Prod.mk.inj hOW;refine⟨Z3 x.sx (x.ox++[nilX (toP n (⟨0,0,0,[],[],[]⟩:Msg))]),λw hr=>q1 w (hr.at_ 11 rfl),λj hj=>(qE 11 rfl rfl (q2 j hj)),{ { x with next:=N,ox:=x.ox++[nilX (toP n (⟨0,0,0,[],[],[]⟩:Msg))],ov:=v27 }with wat:=filt n m.tok x.wat,av:=v1 },a1,u,?_,?_,hFW _ _ λj hj=>.inl (hv1 j hj.2)⟩
      . rw[<- hox,ha1];rfl
      . rw[hT1];rfl
    . refine⟨Z3 x.sx (x.ox++[nilX (toP n (⟨0,0,0,[],[],[]⟩:Msg))]),λw hr=>q1 w (hr.at_ 10 rfl),λj hj=>(qE 10 rfl rfl (q2 j hj)),{ { x with next:=N,ox:=x.ox++[nilX (toP n (⟨0,0,0,[],[],[]⟩:Msg))],ov:=v27 }with wat:=W,av:=av' },{ a1 with opts:=O },u,?_,?_,hFW _ _ hWf⟩
      . rw[<- hox,ha1];rfl
      . rw[ϛ h4];split at hOW
        . rename_i h5;rw[ϝ h5];split at hOW
          . rename_i h6;rw[ϝ h6];obtain⟨rfl,rfl⟩:=Prod.mk.inj hOW;rw[hT1];rfl
          . rename_i h6;rw[ϛ h6];obtain⟨rfl,rfl⟩:=Prod.mk.inj hOW;rw[hT1,ha1];rfl
        . rename_i h5;rw[ϛ h5];obtain⟨rfl,rfl⟩:=Prod.mk.inj hOW;rw[hT1,ha1];rfl
  . have h1':=qy9.1 h1;intro w1 hr1;have hz1:=hr1.mod.size;have hG1:GrwD w.heap.size (λ_=>False) x { x with next:=N,ox:=x.ox++[nilX (toP n (⟨0,0,0,[],[],[]⟩:Msg))],ov:=v27 }:=λj hj=>by
      rcases hj with hj|hj
      . exact(hF1 _ j hj).imp id .inl
      . rcases Z8z hr1 0 9 rfl rfl (by decide) rfl j hj with h|h
        . exact .inl h
        . exact .inr (.inl (.inr h))
    have hc:=Zvi w1 k { x with next:=N,ox:=x.ox++[nilX (toP n (⟨0,0,0,[],[],[]⟩:Msg))],ov:=v27 } name m.pay (Z10p hr1 (by rfl) k { x with next:=N,ox:=x.ox++[nilX (toP n (⟨0,0,0,[],[],[]⟩:Msg))],ov:=v27 } [.s name,.s m.pay] [] (q1 _ (hr1.at_ 8 rfl)) (λj hj=>(qE 8 rfl rfl (q2 j hj))) [5,6,7,8,1,0,10] (by decide) rfl (Zd rfl (Zd rfl (Zd rfl (Zd rfl (Zd (Z3w rfl hox) rfl)))))) (by rw[<- hT1];exact hB1) (Zby (by exact hkt)) (by have:=(Z4r.1 (hpn h1')).2.1.1;omega) (by rw[<- lenX,<- hT1];omega);rw[<- hT1]at hc;refine(Z90 (k:=k) (x:={ x with next:=N,ox:=x.ox++[nilX (toP n (⟨0,0,0,[],[],[]⟩:Msg))],ov:=v27 }) (F:=λ_=>False) (pre:=[.b (Z13 name m.pay T1).2]) hr1 31 0 [27] hc
      rfl rfl (ϓ _) 27 (by decide) rfl (λj hj=>?_)).mono ?_
    . rcases hj with(hj|hj|hj|hj|hj)|hj;(· exact .inl (qE 4 rfl rfl hj));(· exact .inl (qE 5 rfl rfl hj));(· exact .inl (qE 6 rfl rfl hj));(· exact .inl (qE 7 rfl rfl hj));(· exact .inl (qE 8 rfl rfl (q2 j hj)));(· exact hj.elim)
    rintro e w2 ⟨y,hy,hsz,hg,rfl,m1,m2,m3,m4⟩;refine⟨.b (Z13 name m.pay T1).2::tlV y,rfl,rfl,m1,m2,m3,m4,?_⟩;clear m1 m2 m3 m4;have g2:GrwD w.heap.size (λ_=>False) x y:=hG1.trans hg hz1 (λ_ h=>h.elim);have f2:∀j,dlF y j->w.heap.size<=j\/dlG x j:=λj hj=>(g2 j (.inl hj)).imp id λh=>h.elim id λh=>h.elim;obtain⟨b2,-,s2,l2⟩:=Z4w (p:=m.pay) hB1 (hpn h1');refine⟨λh5=>?_,λh5=>?_⟩
    . intro w3 hr3;have hz3:=hr3.mod.size;refine(Z90 (k:=k) (x:=y) (F:=λ_=>False) (pre:=[]) hr3 43 0 [40]
        (Z16o w3 k y name m.pay 1 (((hr3.pick [0,1,2,3,4,5,14] (by decide)).conv rfl).base.conv rfl) (by rw[hy];exact b2) (by rw[<- lenX,hy];omega) (by show Z2d y.tel.wants;rw[hy,s2,hT1'];exact Z8v hb.wants) (by unfold flE;rw[ϝ (hpn h1'),ϛ (show ¬200<(m.pay.length:Int) from by omega)]) (by decide))
        rfl rfl (ϓ _) 40 (by decide) rfl (λj hj=>?_)).mono ?_
      . rcases hj with(hj|hj|hj|hj|hj)|hj
        . exact .inl (qE 0 rfl rfl hj)
        . exact .inl (qE 1 rfl rfl hj)
        . exact .inl (qE 2 rfl rfl hj)
        . exact .inl (qE 3 rfl rfl hj)
        . exact .inl (qE 5 rfl rfl hj)
        . exact hj.elim
      rintro e w4 ⟨y2,hy2,hsz2,hg2,rfl,m1,m2,m3,m4⟩;refine⟨tlV y2,rfl,rfl,m1,m2,m3,m4,?_⟩;clear m1 m2 m3 m4;have g3:GrwD w.heap.size (λ_=>False) x y2:=g2.trans hg2 hz3 (λ_ h=>h.elim);refine⟨Z3 y2.sx y2.ox,λw hr=>hr.at_ 5 rfl,λj hj=>(qE 5 rfl rfl hj),y2,{ (⟨AK,133,AI,m.tok,[],[]⟩:Msg)with code:=68 },.slice none 0 0,rfl,?_,λj hj=>(g3 j (.inl hj)).imp id λh=>h.elim id λh=>h.elim⟩;rw[hy2,hy,doB,ϛ h1,ϛ h2,ϝ h3,hnm,ϝ ⟨h4,h5⟩]
    . refine⟨Z3 y.sx y.ox,λw hr=>hr.at_ 5 rfl,λj hj=>(qE 5 rfl rfl hj),y,{ (⟨AK,133,AI,m.tok,[],[]⟩:Msg)with code:=128 },.slice none 0 0,rfl,?_,f2⟩;rw[hy,doB,ϛ h1,ϛ h2,ϝ h3,hnm,ϛ λh=>h5 h.2,Z15v h5]
  . refine⟨Z3 x.sx (x.ox++[nilX (toP n (⟨0,0,0,[],[],[]⟩:Msg))]),λw hr=>q1 w (hr.at_ 8 rfl),λj hj=>(qE 8 rfl rfl (q2 j hj)),{ x with next:=N,ox:=x.ox++[nilX (toP n (⟨0,0,0,[],[],[]⟩:Msg))],ov:=v27 },{ (⟨AK,133,AI,m.tok,[],[]⟩:Msg)with code:=128 },.slice none 0 0,?_,?_,hF1 _⟩
    . rw[<- hox];rfl
    . rw[doB,ϛ h1,ϛ h2,ϝ h3,ϛ λh=>h4 h.1,hT1]
  . have h1':=qy9.1 h1;intro w1 hr1;have hz1:=hr1.mod.size;have hG1:GrwD w.heap.size (λ_=>False) x { x with next:=N,ox:=x.ox++[nilX (toP n (⟨0,0,0,[],[],[]⟩:Msg))],ov:=v27 }:=λj hj=>by
      rcases hj with hj|hj
      . exact(hF1 _ j hj).imp id .inl
      . rcases Z8z hr1 0 9 rfl rfl (by decide) rfl j hj with h|h
        . exact .inl h
        . exact .inr (.inl (.inr h))
    have hc:=Zvi w1 k { x with next:=N,ox:=x.ox++[nilX (toP n (⟨0,0,0,[],[],[]⟩:Msg))],ov:=v27 } name [] (Z10p hr1 (by rfl) k { x with next:=N,ox:=x.ox++[nilX (toP n (⟨0,0,0,[],[],[]⟩:Msg))],ov:=v27 } [.s name,.s []] [] (q1 _ (hr1.at_ 8 rfl)) (λj hj=>(qE 8 rfl rfl (q2 j hj))) [5,6,7,8,1,0,10] (by decide) rfl (Zd rfl (Zd rfl (Zd rfl (Zd rfl (Zd (Z3w rfl hox) rfl)))))) (by rw[<- hT1];exact hB1) (Zby (by exact hkt)) (by have:=(Z4r.1 (hpn h1')).2.1.1;omega) (by rw[<- lenX,<- hT1];omega);rw[<- hT1]at hc;refine(Z90 (k:=k) (x:={ x with next:=N,ox:=x.ox++[nilX (toP n (⟨0,0,0,[],[],[]⟩:Msg))],ov:=v27 }) (F:=λ_=>False) (pre:=[.b (Z13 name [] T1).2]) hr1 31 0 [27] hc
      rfl rfl (ϓ _) 27 (by decide) rfl (λj hj=>?_)).mono ?_
    . rcases hj with(hj|hj|hj|hj|hj)|hj;(· exact .inl (qE 4 rfl rfl hj));(· exact .inl (qE 5 rfl rfl hj));(· exact .inl (qE 6 rfl rfl hj));(· exact .inl (qE 7 rfl rfl hj));(· exact .inl (qE 8 rfl rfl (q2 j hj)));(· exact hj.elim)
    rintro e w2 ⟨y,hy,hsz,hg,rfl,m1,m2,m3,m4⟩;refine⟨.b (Z13 name [] T1).2::tlV y,rfl,rfl,m1,m2,m3,m4,?_⟩;clear m1 m2 m3 m4;have g2:GrwD w.heap.size (λ_=>False) x y:=hG1.trans hg hz1 (λ_ h=>h.elim);have f2:∀j,dlF y j->w.heap.size<=j\/dlG x j:=λj hj=>(g2 j (.inl hj)).imp id λh=>h.elim id λh=>h.elim;refine⟨Z3 y.sx y.ox,λw hr=>hr.at_ 5 rfl,λj hj=>(qE 5 rfl rfl hj),y,{ (⟨AK,133,AI,m.tok,[],[]⟩:Msg)with code:=66 },.slice none 0 0,rfl,?_,f2⟩;rw[hy,doB,ϛ h1,ϛ h2,ϛ h3,ϝ h4,hnm]
  . refine⟨Z3 x.sx (x.ox++[nilX (toP n (⟨0,0,0,[],[],[]⟩:Msg))]),λw hr=>q1 w (hr.at_ 8 rfl),λj hj=>(qE 8 rfl rfl (q2 j hj)),{ x with next:=N,ox:=x.ox++[nilX (toP n (⟨0,0,0,[],[],[]⟩:Msg))],ov:=v27 },(⟨AK,133,AI,m.tok,[],[]⟩:Msg),.slice none 0 0,?_,?_,hF1 _⟩
    . rw[<- hox];rfl
    . rw[doB,ϛ h1,ϛ h2,ϛ h3,ϛ h4,hT1]
  rintro _ - ⟨y,a',u,rfl,hdo,hgr⟩;simp only[QR,ra];have hy:y.tel=(doB n m (⟨AK,133,AI,m.tok,[],[]⟩:Msg) T1).1:=congrArg Prod.fst hdo;have ha':a'=(doB n m (⟨AK,133,AI,m.tok,[],[]⟩:Msg) T1).2:=congrArg Prod.snd hdo;have hpre:=Z1ce n m (⟨AK,133,AI,m.tok,[],[]⟩:Msg) T1;rw[<- hy,hT1']at hpre;obtain⟨r,hr0⟩:=hpre;obtain⟨hlt,hat⟩:=Z1cf hr0;rw[hol]at hlt hat;have hid:a'=⟨AK,a'.code,AI,m.tok,a'.opts,a'.pay⟩:=by rw[ha'];exact Z1k6 n m (⟨AK,133,AI,m.tok,[],[]⟩:Msg) T1
  refine⟨by omega,?_⟩;intro w3 hr3;obtain⟨t0,ht0⟩:∃t0,t0=y.ox.getD x.ox.length sntD:=⟨_,rfl⟩
  have hmem:t0∈y.ox:=by rw[ht0];exact Z1ah hlt
  rw[<- ht0]at hat;have hrow:=Z1ag hlt;rw[<- ht0]at hrow;obtain⟨s,va,vc,vo⟩:=t0;simp only at hat;subst hat;obtain⟨z,hz⟩:∃z:TelX,z={ y with ox:=y.ox.set x.ox.length (toP n a',va,vc,u) }:=⟨_,rfl⟩
  have hA:=hr3.at_ 0 rfl;have hO:Z3q w3 u a'.opts:=(hr3.at_ 1 rfl).reads;have hu:∀j,Z1 u j->w.heap.size<=j\/Z1 x.ov j:=Z8z hr3 1 15 rfl rfl (by decide) rfl;have hsn:=Z7n (hA:(Z3 y.sx y.ox).holds w3) hmem;have hfz:∀j,(Z3 z.sx z.ox).fp j->(Z3 y.sx y.ox).fp j\/((a'.opts.map encO).flatten≠[]/\Z1 u j):=λj hj=>by
    rw[hz]at hj;rcases Z7.1 hj with h|⟨t,ht,hk⟩
    . exact .inl (Z7.2 (.inl h))
    . rcases ϩ ht with ht|rfl
      . exact .inl (Z7.2 (.inr ⟨t,ht,hk⟩))
      . rcases hk with hk|hk|hk
        . exact ϟ rfl hk.1
        . exact ϟ rfl hk.1
        . exact .inr hk
  have hr4:=toRd ((hr3.pick [1,0,2,3,4,5,6,15] (by decide)).conv rfl);refine⟨by trivial,Zd9 (y:=z) ?_ (Zl7 hr4 (by rfl) k z ?_ (λj hj=>?_) [3,4,5,6,7,0,8] (by decide) ?_) λj hj=>?_⟩
  . have hq:=Zuz n m x.tel (toP n (⟨0,0,0,[],[],[]⟩:Msg));rw[show Z2a m x.tel.next=(⟨AK,133,AI,m.tok,[],[]⟩:Msg) from hans,show({ x.tel with next:=if m.kind=1 then nx_Z x.tel.next else x.tel.next,out:=x.tel.out++[toP n (⟨0,0,0,[],[],[]⟩:Msg)] }:Tel)=T1 by rw[hT1',hN];rfl,<- hy,<- ha']at hq;rw[hq,hz,hol];simp only[TelX.tel,Ϧ]
  . rw[hz];refine Z10 (λt ht=>.inl ht) (λt ht=>?_) hA;rcases ϩ ht with ht|rfl
    . exact .inl ht
    . exact .inr ⟨hsn.1,hsn.2.1,hO⟩
  . rcases hfz j hj with h|h
    . exact(qE 1 rfl rfl h)
    . exact(qE 0 rfl rfl h)
  . rw[hz,hid];refine Zd rfl (Zd rfl (Zd rfl (Zd rfl (Zd (Z3w rfl ?_) rfl))));simp only[QR,ra,hrow,Zp,ϗ,Ϙ,Value.gI,Value.gB,Value.gS,Zv,Ϧ]
  . rw[hz]at hj;rcases hj with hj|hj|hj|hj|hj
    . exact(hgr j (.inl hj)).imp id .inl
    . exact(hgr j (.inr (.inl hj))).imp id .inl
    . exact(hgr j (.inr (.inr (.inl hj)))).imp id .inl
    . exact(hgr j (.inr (.inr (.inr (.inl hj))))).imp id .inl
    . rw[<- hz]at hj;rcases hfz j hj with h|h
      . exact(hgr j (.inr (.inr (.inr (.inr h))))).imp id .inl
      . exact(hu j h.2).imp id λh=>.inl (.inr h)
end Go.Proofs.Y
namespace Go.Proofs.Y
open Go.Sx
def Zym(w:ζ)(b:Bool)(n:Int):γ ϧ 184 #[.bool b,.int .i64 n] w λe w'=>e=.returned (.int .i64 (bit b n))/\Mod [] w w':=by refine Wp (J:=[.b b,.i n]) Zb2 ?_;simp only[QR,ra];exact⟨λh w' hr=>⟨by rw[bit,ϝ h],hr.mod⟩,λh w' hr=>⟨by rw[bit,ϛ h],hr.mod⟩⟩
def Zta(p:Pkt):Bool :=
  !decide ((p.kind≠1/\(p.client≠[]\/p.clean=ϖ\/p.keep≠0))\/(p.kind≠2/\(p.session=ϖ\/p.code≠0))\/(p.kind≠3/\(p.dup=ϖ\/p.retain=ϖ\/p.qos≠0\/p.topic≠[]\/p.payload≠[])) \/
    (¬(3<=p.kind/\p.kind<=4)/\¬(8<=p.kind/\p.kind<=11)/\p.id≠0)\/(p.kind≠8/\p.kind≠10/\p.asks≠[])\/(p.kind≠9/\p.codes≠[]))
def Z16s(p:Pkt):Zta p=ϖ↔Z7l (Z1l p)=ϖ:=by rw[Zed,Z2s];unfold Zta;simp only[Ϝ,decide_eq_false_iff_not,not_or,not_and,qy9,Ϻ];grind
def Zgl(p:Pkt):Int:=if p.kind=1 then Zjs p else if p.kind=2 then Z4v p else if p.kind=3 then pubE p else 0
def Z1b5(p:Pkt):chkP p=if Z3i p.kind=ϖ then(if Z7l (Z1l p)=ϖ then(if Zgl p=0 then(if idB p=ϖ/\¬(1<=p.id/\p.id<=65535)then 3 else
    (if(p.kind=8\/p.kind=10)/\Zo p.asks.length≠0 then Zo p.asks.length else if Z3v p.kind p.asks≠0 then Z3v p.kind p.asks else if p.kind=9/\Zo p.codes.length≠0 then Zo p.codes.length else if p.codes.any Z9w=ϖ then 3 else 0))else Zgl p)else 1)else 7:=by
  unfold chkP;split;rotate_left
  . rfl
  split;rotate_left
  . rfl
  rename_i hk he;have hb:=(Z2s p).1 ((Zed p).1 he);obtain⟨b1,b2,b3,b4,b5,b6⟩:=hb;have n1:p.kind=1\/p.kind=2->idB p=ϭ:=λh=>by unfold idB;rcases h with h|h<;>simp[h]
  have z1:¬(p.kind=8\/p.kind=10)->p.asks=[]:=λh=>b5 O;have z2:p.kind≠9->p.codes=[]:=b6;by_cases k1:p.kind=1
  . rw[ϛ O,Z2b,ϝ k1,Zgl,ϝ k1,n1 (.inl k1),z1 O,z2 O];simp[Z3v,k1]
  by_cases k2:p.kind=2
  . rw[ϛ O,Z2b,ϛ k1,ϝ k2,Zgl,ϛ k1,ϝ k2,n1 (.inr k2),z1 O,z2 O];simp[Z3v,k2]
  by_cases k3:p.kind=3
  . rw[Z2b,ϛ k1,ϛ k2,ϝ k3,Zgl,ϛ k1,ϛ k2,ϝ k3,z1 O,z2 O];by_cases h0:pubE p=0
    . rw[ϛ (by simp[h0]),ϝ h0,h0];simp[Z3v,k3]
    . rw[ϝ ⟨k3,h0⟩,ϛ h0]
  rw[ϛ O,Zgl,ϛ k1,ϛ k2,ϛ k3,ϝ rfl,Z2b,ϛ k1,ϛ k2,ϛ k3];split
  . rfl
  by_cases k8:p.kind=8\/p.kind=10
  . rw[ϝ k8,z2 O,Zjt];by_cases h0:Zo p.asks.length=0
    . rw[ϝ h0,ϛ (show ¬((p.kind=8\/p.kind=10)/\Zo p.asks.length≠0) from λh=>h.2 h0)];by_cases h1:Z3v p.kind p.asks=0
      . rw[ϛ (show ¬Z3v p.kind p.asks≠0 from λh=>h h1),h1,ϛ (show ¬(p.kind=9/\_) from λh=>O)];rfl
      . rw[ϝ h1]
    . rw[ϛ h0,ϝ ⟨k8,h0⟩]
  . have e0:Z3v p.kind []=0:=rfl;rw[ϛ k8,ϛ (show ¬((p.kind=8\/p.kind=10)/\Zo p.asks.length≠0) from λh=>k8 h.1),z1 k8,e0,ϛ (show ¬(0:Int)≠0 from λh=>h rfl)];by_cases k9:p.kind=9
    . rw[ϝ k9,Zc9];by_cases h0:Zo p.codes.length=0
      . rw[ϝ h0,ϛ (show ¬(p.kind=9/\Zo p.codes.length≠0) from λh=>h.2 h0)]
      . rw[ϛ h0,ϝ ⟨k9,h0⟩]
    . rw[ϛ k9,ϛ (show ¬(p.kind=9/\Zo p.codes.length≠0) from λh=>k9 h.1),z2 k9];rfl
section
variable (w:ζ) (p:Pkt) (u v:Ϩ) (hu:Z4h w u p.asks) (hv:Z3p w v p.codes) (hs:SmallP p)
include hu hv
def Z1gh:γ ϧ 186 #[pV p u v] w λe w'=>e=.returned (.bool (idB p))/\Mod [] w w':=by
 refine Wu (J:=[.i p.kind,.b p.dup,.b p.retain,.b p.clean,.b p.session,.i p.qos,.i p.id,.i p.keep,.i p.code,.s p.client,.s p.topic,.s p.payload,.v u,.r (p.asks.map encA),.v v,.r (p.codes.map Zg)]) Zaj (Rel.start2 (by simp[Ent.holds,Ent.wr,hu,hv,X.ev])) ?_;simp only[QR,ra];intro b;refine⟨λh w' hr=>⟨?_,hr.mod⟩,λh w' hr=>⟨?_,hr.mod⟩⟩
 ·simp only[Ending.returned.injEq,Value.bool.injEq,idB];symm;rw[ϡ];omega
 ·simp only[Ending.returned.injEq,Value.bool.injEq,idB];rw[<- ϻ];exact decide_eq_decide.2 (by omega)
include hs
def Zqc:γ ϧ 137 #[pV p u v] w λe w'=>e=.returned (.int .i64 (chkP p))/\Mod [] w w':=by
  refine Wu (J:=[.i p.kind,.b p.dup,.b p.retain,.b p.clean,.b p.session,.i p.qos,.i p.id,.i p.keep,.i p.code,.s p.client,.s p.topic,.s p.payload,.v u,.r (p.asks.map encA),.v v,.r (p.codes.map Zg)]) Z5n (Rel.start2 (by simp[Ent.holds,Ent.wr,hu,hv,X.ev])) ?_;have h1:=hs.client;have h2:=hs.topic;have h3:=hs.payload;have h4:=hs.asks;have h5:=hs.codes;have hf:=hs.at_;simp only[QR,ra];intro b;refine⟨λvs=>(vs.getD 2 (.i 0)).toB=!Z3i p.kind,⟨λh=>?_,λh=>?_⟩,?_⟩
  . have e:Z3i p.kind=(decide (8<=p.kind) && decide (p.kind<=14)):=by unfold Z3i;rw[<- ϻ];exact decide_eq_decide.2 (by omega)
    rw[e];rfl
  . have e:Z3i p.kind=ϖ:=by unfold Z3i;rw[ϡ];omega
    rw[e];rfl
  intro vs hl hI
  match vs,hl,hI with
  | [x0,x1,x2],_,hI =>
  simp only[QR,ra]at hI⊢;rw[Z1b5,hI];refine⟨λh w' hr=>⟨by rw[ϛ (by simpa using h)],hr.mod⟩,λh=>?_⟩;have hk:Z3i p.kind=ϖ:=by simpa using h
  rw[ϝ hk];clear h;have l0:∀l:List Rd,(0<(l.length:Int))↔l≠[]:=λl=>by rw[<- ϳ];omega
  have l1:∀l:List Int,(0<(l.length:Int))↔l≠[]:=λl=>by rw[<- ϳ];omega
  have fR:=Z16s p;have bad:Zta p=ϭ->(if Z7l (Z1l p)=ϖ then(if Zgl p=0 then(if idB p=ϖ/\¬(1<=p.id/\p.id<=65535)then(3:Int)else
    (if(p.kind=8\/p.kind=10)/\Zo p.asks.length≠0 then Zo p.asks.length else if Z3v p.kind p.asks≠0 then Z3v p.kind p.asks else if p.kind=9/\Zo p.codes.length≠0 then Zo p.codes.length else if p.codes.any Z9w=ϖ then 3 else 0))else Zgl p)else 1)=1:=λh=>by
    rw[ϛ (λhh=>by rw[fR.2 hh]at h;cases h)]
  refine⟨λh w' hr=>⟨?_,hr.mod⟩,λg1=>⟨λh w' hr=>⟨?_,hr.mod⟩,λg2=>?_⟩⟩
  . rw[bad];simp only[Zta,ϸ,ϡ];grind
  . rw[bad];simp only[Zta,ϸ,ϡ];grind
  refine⟨λvs=>(vs.getD 5 (.i 0)).toB=!Zta p,⟨λh=>?_,λh=>?_⟩,?_⟩
  . simp only[Ϙ,ϗ,V.toB_b,Zta,ε];rw[ϥ];simp only[β,ϙ,Ϝ,ϡ,decide_eq_false_iff_not,ϣ,l0,l1];grind
  . simp only[Ϙ,ϗ,V.toB_b,Zta,ε];rw[ϥ];simp only[β,ϙ,Ϝ,ϡ,decide_eq_false_iff_not,ϣ,l0,l1];grind
  intro vs hl hI
  match vs,hl,hI with
  | [y0,y1,y2,y3,y4,y5],_,hI =>
  simp only[QR,ra]at hI⊢;rw[hI];refine⟨λh w' hr=>⟨by rw[bad (by simpa using h)],hr.mod⟩,λh=>?_⟩;have he:Z7l (Z1l p)=ϖ:=fR.1 (by simpa using h);rw[ϝ he];clear h g1 g2 bad;refine⟨λvs=>Zgl p=0,⟨λk1=>?_,λk1=>⟨λk2=>?_,λk2=>⟨λk3=>?_,λk3=>?_⟩⟩⟩,?_⟩
  . rw[Zgl,ϝ k1,Zjs];refine⟨λh w' hr=>⟨by rw[ϝ h];rfl,hr.mod⟩,λh=>?_⟩;rw[ϛ h];refine⟨[.b (Z9 p.client)],rfl,λ_ w' _=>Z4y w' _ (by omega),?_⟩;simp only[QR,ra];refine⟨λh w' hr=>⟨by rw[ϛ h];rfl,hr.mod⟩,λh=>?_⟩;rw[ϝ (qy9.1 h)];exact⟨λh w' hr=>⟨by rw[ϛ h];rfl,hr.mod⟩,λh=>by rw[ϝ (qy9.1 h)]⟩
  . rw[Zgl,ϛ k1,ϝ k2,Z4v];refine⟨λh w' hr=>⟨by rw[ϛ h];rfl,hr.mod⟩,λh=>?_⟩;have h0:=qy9.1 h;rw[ϝ h0];exact⟨λh w' hr=>⟨by rw[ϝ (show p.session=ϖ/\p.code≠0 from⟨h.1,by omega⟩)];rfl,hr.mod⟩,λh=>by rw[ϛ (show ¬(p.session=ϖ/\p.code≠0) from λhh=>h ⟨hh.1,by omega⟩)]⟩
  . rw[Zgl,ϛ k1,ϛ k2,ϝ k3,pubE];refine⟨[.i (chkT p.topic ϭ)],rfl,λ_ w' _=>Z3f w' _ _ (by omega),?_⟩;simp only[QR,ra];refine⟨λh w' hr=>⟨by rw[ϛ h,ϛ h],hr.mod⟩,λh=>?_⟩;rw[ϝ (qy9.1 h)];refine⟨λh w' hr=>⟨by rw[ϝ h];rfl,hr.mod⟩,λh=>?_⟩;rw[ϛ h];refine⟨λh w' hr=>⟨by rw[ϛ h];rfl,hr.mod⟩,λh=>?_⟩;rw[ϝ (qy9.1 h)];exact⟨λh w' hr=>⟨by rw[ϝ h];rfl,hr.mod⟩,λh=>by rw[ϛ h]⟩
  . rw[Zgl,ϛ k1,ϛ k2,ϛ k3]
  intro vs hl hI
  match vs,hl,hI with
  | [z0],_,hI =>
  simp only[QR,ra];rw[ϝ hI];refine⟨λvs=>(vs.getD 2 (.i 0)).toB=(idB p && !decide (1<=p.id/\p.id<=65535)),?_,?_⟩
  . refine⟨[.b (idB p)],rfl,λ_ w' hr=>Z1gh w' p u v (hr.at_ 1 rfl) (hr.at_ 2 rfl),?_⟩;simp only[QR,ra];exact⟨λh=>by simp[h],λh=>by simp[h]⟩
  intro vs hl hI
  match vs,hl,hI with
  | [t0,t1,t2],_,hI =>
  simp only[QR,ra]at hI⊢;rw[hI];refine⟨λh w' hr=>⟨by rw[ϝ (show idB p=ϖ/\¬(1<=p.id/\p.id<=65535) by simpa only[ϙ,Ϝ,decide_eq_false_iff_not]using h)],hr.mod⟩,λh=>?_⟩;rw[ϛ (show ¬(idB p=ϖ/\¬(1<=p.id/\p.id<=65535)) by simpa only[ϙ,Ϝ,decide_eq_false_iff_not]using h)];clear h;refine⟨λvs=>¬((p.kind=8\/p.kind=10)/\Zo p.asks.length≠0),⟨λh8=>⟨λh w' hr=>⟨?_,hr.mod⟩,λh=>⟨λh2 w' hr=>⟨?_,hr.mod⟩,λh2=>?_⟩⟩,λh8 hh=>h8 hh.1⟩,?_⟩
  . have e:Zo p.asks.length=1:=by rw[Zo,ϝ (by omega)]
    rw[ϝ ⟨h8,by rw[e];decide⟩,e]
  . have e:Zo p.asks.length=2:=by rw[Zo,ϛ (by omega),ϝ h2]
    rw[ϝ ⟨h8,by rw[e];decide⟩,e]
  . exact λhh=>hh.2 (by rw[Zo,ϛ (by omega),ϛ h2])
  intro vs hl hI
  match vs,hl,hI with
  | [q0],_,hI =>
  simp only[QR,ra];rw[ϛ hI];refine⟨λvs=>∃(i:Nat) (x:V),vs=[x,.i i]/\i<=p.asks.length/\Z3v p.kind (p.asks.drop i)=Z3v p.kind p.asks,λvs=>p.asks.length - (vs.getD 1 (.i 0)).toI.toNat,⟨0,_,rfl,by omega,rfl⟩,?_⟩;rintro _ - ⟨i,x,rfl,hi,hg⟩;simp only[QR,ra,gA0,gA1];refine⟨λh2=>⟨by omega,?_⟩,λh2=>?_⟩
  . rw[Z1ed _ _ (by omega),Z3v]at hg;have hfi:=hf i;have hask:p.kind=8\/p.kind=10:=Ϡ λhn=>by
      have:=((Z2s p).1 ((Zed p).1 he)).2.2.2.2.1 (by omega);rw[this]at h2;simp at h2;omega
    generalize p.asks.getD i yD=a at hg hfi⊢
    refine⟨[.i (chkT a.1 ϖ)],rfl,λ_ w' _=>Z3f w' _ _ (by omega),?_⟩;simp only[QR,ra,gA1];have key:∀e:Int,e≠0->(if p.kind=8 then askE a else Z4n a)=e->(if Z3v p.kind p.asks≠0 then Z3v p.kind p.asks else if p.kind=9/\Zo p.codes.length≠0 then Zo p.codes.length else if p.codes.any Z9w=ϖ then 3 else 0)=e:=λe h0 hE=>by
      have:Z3v p.kind p.asks=e:=by rw[<- hg,ϛ (by rw[hE];exact h0),hE]
      rw[ϝ (show Z3v p.kind p.asks≠0 by rw[this];exact h0),this]
    refine⟨λh w' hr=>⟨?_,hr.mod⟩,λh=>⟨λh3 w' hr=>⟨?_,hr.mod⟩,λh3=>⟨λh4 w' hr=>⟨?_,hr.mod⟩,λh4=>⟨by omega,by omega,⟨i+1,x,rfl,by omega,?_⟩,by omega⟩⟩⟩⟩
    . rw[key (chkT a.1 ϖ) h (by split<;>simp[askE,Z4n,h])]
    . rw[key 1 (by decide) (by rw[ϛ (by omega),Z4n,ϝ (qy9.1 h),ϛ h3.2])]
    . rw[key 3 (by decide) (by rw[ϝ (by omega),askE,ϝ (qy9.1 h),ϛ h4])]
    . rw[<- hg,ϝ];split
      . rw[askE,ϝ (qy9.1 h),ϝ (qy9.1 h4)]
      . rw[Z4n,ϝ (qy9.1 h),ϝ (by omega)]
  . have:i=p.asks.length:=by omega
    subst this;rw[Ϭ]at hg;have hg0:Z3v p.kind p.asks=0:=by rw[<- hg];rfl
    rw[ϛ (show ¬Z3v p.kind p.asks≠0 from λh=>h hg0)];refine⟨λvs=>¬(p.kind=9/\Zo p.codes.length≠0),⟨λh9=>⟨λh w' hr=>⟨?_,hr.mod⟩,λh=>⟨λh2 w' hr=>⟨?_,hr.mod⟩,λh2=>?_⟩⟩,λh9 hh=>h9 hh.1⟩,?_⟩
    . have e:Zo p.codes.length=1:=by rw[Zo,ϝ (by omega)]
      rw[ϝ (show p.kind=9/\Zo p.codes.length≠0 from⟨h9,by rw[e];decide⟩),e]
    . have e:Zo p.codes.length=2:=by rw[Zo,ϛ (by omega),ϝ h2]
      rw[ϝ (show p.kind=9/\Zo p.codes.length≠0 from⟨h9,by rw[e];decide⟩),e]
    . exact λhh=>hh.2 (by rw[Zo,ϛ (by omega),ϛ h2])
    intro vs hl hI
    match vs,hl,hI with
    | [r0],_,hI =>
    simp only[QR,ra];rw[ϛ hI];refine⟨λvs=>∃(i:Nat) (x:V),vs=[x,.i i]/\i<=p.codes.length/\(p.codes.drop i).any Z9w=p.codes.any Z9w,λvs=>p.codes.length - (vs.getD 1 (.i 0)).toI.toNat,⟨0,_,rfl,by omega,rfl⟩,?_⟩;rintro _ - ⟨i,x,rfl,hi,hg⟩;simp only[QR,ra,gI0];refine⟨λh2=>⟨by omega,λh3 w' hr=>⟨?_,hr.mod⟩,λh3=>⟨by omega,by omega,⟨i+1,x,rfl,by omega,?_⟩,by omega⟩⟩,λh2 w' hr=>⟨?_,hr.mod⟩⟩
    . rw[Z1ee _ _ (by omega),Ϸ]at hg;have e:Z9w (p.codes.getD i 0)=ϖ:=by simp only[Z9w,ϡ];exact⟨h3.1.1,h3.1.2,h3.2⟩
      rw[<- hg,e];rfl
    . rw[Z1ee _ _ (by omega),Ϸ]at hg;have e:Z9w (p.codes.getD i 0)=ϭ:=by
        simp only[Z9w,decide_eq_false_iff_not];exact λh4=>h3 ⟨⟨h4.1,h4.2.1⟩,h4.2.2⟩
      rw[<- hg,e];rfl
    . have:i=p.codes.length:=by omega
      subst this;rw[Ϭ]at hg;rw[<- hg];rfl
end
