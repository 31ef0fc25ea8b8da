/- By an AI agent. -/
import Derived.Test.YtldmdbipjhkaeaaGreatDoorV22
import Derived.Test.YtldmdbipjhkaeaaGreatDoorV19
import Derived.Test.YtldmdbipjhkaeaaGreatDoorV23
import Derived.Test.YtldmdbipjhkaeaaGreatDoorV08
import Derived.Test.YtldmdbipjhkaeaaGreatDoorV10
import Derived.Test.YtldmdbipjhkaeaaGreatDoorV15
import Derived.Test.YtldmdbipjhkaeaaGreatDoorV11
import Derived.Test.YtldmdbipjhkaeaaGreatDoorV20
import Derived.Test.YtldmdbipjhkaeaaGreatDoorV09
import Derived.Test.YtldmdbipjhkaeaaGreatDoorV21
import Derived.Test.YtldmdbipjhkaeaaGreatDoorV12
set_option linter.all false
set_option maxHeartbeats 20000000
namespace Go.Proofs.Y
open Go Go.Sx
theorem Zii{l:List Kp}(h:chkK l=0):Z8j l:=λy hy=>by have:=(Z5e.1 ((Zz.1 h).2.1 y hy).1).2.1.1;omega
theorem Zqa(c:List UInt8):∀(l:List Ak) (ws:List Wt),l.foldl (λws a=>ws.filter λw=>decide (¬(w.1=c/\w.2.1=a.1))) ws=ws.filter λw=>!(decide (w.1=c) && l.any λa=>decide (a.1=w.2.1))
  | [],ws=>(List.filter_eq_self.2 λw _=>by simp).symm
  | a::l,ws=>by
    rw[List.foldl_cons,Zqa c l,List.filter_filter];congr 1
    funext w
    rw[Bool.eq_iff_iff];simp only[Bool.and_eq_true,Bool.not_eq_true',Bool.and_eq_false_iff,decide_eq_true_eq,decide_eq_false_iff_not,List.any_cons,Bool.or_eq_false_iff];grind
set_option maxRecDepth 4000 in
theorem Zx7(w:World)(k:Nat)(x:TelX)(c:List UInt8)(p:Pkt)(va vc:Value)(hr:Rel ⟨Zi (tlA k x) dlH,w⟩ (tlA k x++Z3g c p va vc) (dlH++pkHp) w)(hb:BOk x.tel)(ho:x.ox.length<40000)(hc:Zk c=true)(hp:chkP p=0) : Calls Tryz.prog 10 #[.pointer (some ⟨k,0,none⟩),.string ⟨c.toArray⟩,Zm9 p va vc] w λe w'=>e=.returned (.tuple #[])/\Zgd w w' k x (λ_=>False) (Z14 c p x.tel):=by
  refine Z1 (Z52 (J:=tlA k x++Z3g c p va vc) (sxE_ok.joins _) Tryz.func10 Z4q rfl rfl hr rfl rfl ?_) rfl;simp only[Tree.goal,X.P,X.ev,SV.ev,CV.ev,Sc.ev,qz,QA,QB,QC,QD,QE,QF,QG,QH,QI,QJ,QK,QL,QM,Nat.reduceAdd,qy3,qy4];have hns:x.sx.length<=6:=by have:=hb.ns;rw[Z1m,qy3]at this;exact this
  have hwl:x.wants.length<=20:=Zbr hb.wants;have hxs:x.tel.sess=x.sx.map (·.1):=rfl;have hol:x.tel.out.length=x.ox.length:=by simp[TelX.tel]
  have lenX:∀y:TelX,y.tel.out.length=y.ox.length:=λy=>by simp[TelX.tel]
  intro b30;refine⟨λhq1=>?_,λhq1=>?_⟩
  . intro w1 hr1;refine(Zbu (k:=k) (x:=x) (F:=λ_=>False) (pre:=[]) hr1 31 0 [10]
      (Zs6 w1 k x c p va vc (((hr1.pick [1,2,3,4,5,6,7,8,9] (by decide)).conv rfl).base.conv rfl) hb (by omega) hc)
      rfl rfl (Nat.succ_pos _) 10 (by decide) rfl (λj hj=>?_)).mono ?_
    . rcases hj with(hj|hj|hj|hj|hj)|hj
      . exact .inl (qE 1 rfl rfl hj)
      . exact .inl (qE 2 rfl rfl hj)
      . exact .inl (qE 3 rfl rfl hj)
      . exact .inl (qE 4 rfl rfl hj)
      . exact .inl (qE 6 rfl rfl hj)
      . exact hj.elim
    rintro e w2 ⟨y,hy,hs,hg,rfl,m1,m2,m3,m4⟩;refine⟨tlV y,rfl,rfl,m1,m2,m3,m4,?_⟩;intro w3 hr3;exact⟨by trivial,y,by rw[hy,Z14,if_neg (λh=>h.1 hq1),if_pos hq1],(hr3.pick [0,1,2,3,4,5,12] (by decide)).conv rfl,(GrwD.refl _ _ x).trans hg hr1.mod.size (λ_ h=>h.elim)⟩
  obtain⟨a0,ha0⟩:∃a0,a0=atS x.tel.sess c:=⟨_,rfl⟩
  refine⟨[.i a0],rfl,λ_ w' hr=>by rw[ha0];exact Z31 w' x.sv x.sx c (hr.at_ 3 rfl) hb.sort (by omega),?_⟩;simp only[Tree.goal,X.P,X.ev,SV.ev,CV.ev,Sc.ev,qz,QA,QB,QC,QD,QE,QF,QG,QH,QI,QJ,QK,QL,QM,Nat.reduceAdd,qy3,qy4];obtain⟨ix,hix⟩:∃ix,ix=idxS x.tel.sess c:=⟨_,rfl⟩
  have hat:(hasS x.tel.sess c=true/\a0=ix/\ix<x.sx.length)\/(¬hasS x.tel.sess c=true/\a0=-1):=by
    by_cases h2:hasS x.tel.sess c=true
    . exact .inl ⟨h2,by rw[ha0,atS,if_pos h2,hix],by rw[hix];exact(Zh3 h2).1⟩
    . exact .inr ⟨h2,by rw[ha0,atS,if_neg h2]⟩
  clear ha0;have hif:(a0<0\/¬Value.gB (((x.sx.map Zc).getD a0.toNat []).getD 1 undef)=true)↔(¬hasS x.tel.sess c=true\/¬(x.tel.sess.getD (idxS x.tel.sess c) s0).on=true):=by
    rcases hat with⟨h2,h3,h4⟩|⟨h2,h3⟩
    . rw[h3,qy4,Z3n h4,<- hix,hxs,Zcp];exact⟨λh=>h.elim (λh=>by omega) .inr,λh=>h.elim (λh=>absurd h2 h) .inr⟩
    . exact⟨λ_=>.inl h2,λ_=>.inl (by omega)⟩
  refine⟨by omega,by rcases hat with⟨-,h3,h4⟩|⟨-,h3⟩<;>omega,?_⟩;rw[hif];refine⟨λh1 w3 hr=>⟨by trivial,x,by rw[Z14,if_pos ⟨hq1,h1⟩],(hr.pick [1,2,3,4,5,6,7] (by decide)).conv rfl,.refl _ _ _⟩,λh1=>?_⟩;have hh:hasS x.tel.sess c=true/\(x.tel.sess.getD (idxS x.tel.sess c) s0).on=true:=⟨Classical.byContradiction λh4=>h1 (.inl h4),Classical.byContradiction λh4=>h1 (.inr h4)⟩
  obtain⟨ha,hlt⟩:a0=ix/\ix<x.sx.length:=by
    rcases hat with⟨-,h3,h4⟩|⟨h2,-⟩
    . exact⟨h3,h4⟩
    . exact absurd hh.1 h2
  subst ha;clear hat hif;have hpk:Z14 c p x.tel=if p.kind=3 then Z2w c p x.tel
      else if p.kind=4 then Zlw c p x.tel
      else if p.kind=8 then Z2g c p x.tel
      else if p.kind=10 then Z1l c p x.tel
      else if p.kind=12 then { x.tel with out:=x.tel.out++[toC c (pD_Q 13)] }
      else if p.kind=14 then Z5o c x.tel
      else x.tel:=by rw[Z14,if_neg (λh=>h1 h.2),if_neg hq1]
  rw[hpk];refine⟨λhk=>?_,λhk3=>?_⟩
  . rw[if_pos hk];obtain⟨p1,p2,p3,p4,p5⟩:=Zq0 ((Zct hp).2.1 hk);obtain⟨t1,ht1⟩:∃t1:Tel,t1=if p.qos=1 then { x.tel with out:=x.tel.out++[toC c { pD_Q 4 with id:=p.id }] }else x.tel:=⟨_,rfl⟩
    have ht1b:BOk t1:=by
      rw[ht1];split
      . exact hb.out _
      . exact hb
    have ht1w:t1.wants=x.wants:=by rw[ht1];split<;>rfl
    have ht1l:t1.out.length<=x.ox.length+1:=by
      rw[ht1];split
      . simp only[qy11,List.length_cons,List.length_nil,hol];omega
      . rw[hol];omega
    refine⟨λvs=>∃y:TelX,vs=[.i 0,.i 0,.i 0,.i 0,.i 0,.i 0,.i 0,.i 0,.i 0,.i 0,.i 0,.i 0,.i 0,.i 0,.v y.kv,.v y.wv,.v y.sv,.v y.av,.i y.next,.v y.ov,.r (y.kept.map encK),.r (y.wants.map Z7),.r (y.sx.map Zc),.r (y.wat.map Z8),.r (y.ox.map Z1a),.a (Z6 y.sx y.ox)]/\y.tel=t1/\GrwD w.heap.size (λ_=>False) x y,⟨λhq=>?_,λhq=>?_⟩,?_⟩
    . intro b32 v33 o33 w1 hr1;have hz1:=hr1.mod.size;refine(Zbu (k:=k) (x:=x) (F:=(Zg [pk1X { pD_Q 4 with id:=p.id }]).fp) (pre:=[]) hr1 34 0 [10]
        (Z22 w1 k x c v33 [pk1X { pD_Q 4 with id:=p.id }] (Z9i (toRd hr1) (by rfl) k x (Zg [pk1X { pD_Q 4 with id:=p.id }]) _ _ (hr1.at_ 8 rfl) (λj hj=>(qE 8 rfl rfl hj)) (Z1t rfl rfl _) (λj hj=>absurd hj (Zt rfl rfl)) [5,6,7,8,9,1,11,2,0] (by decide) rfl rfl) (show 1<1000000 by decide) (by omega))
        rfl rfl (Nat.succ_pos _) 10 (by decide) rfl (λj hj=>?_)).mono ?_
      . rcases hj with(hj|hj|hj|hj|hj)|hj
        . exact .inl (qE 3 rfl rfl hj)
        . exact .inl (qE 4 rfl rfl hj)
        . exact .inl (qE 5 rfl rfl hj)
        . exact .inl (qE 6 rfl rfl hj)
        . exact .inl (qE 8 rfl rfl hj)
        . exact absurd hj (Zt rfl rfl)
      rintro e w2 ⟨y1,hy1,hs1,hg1,rfl,m1,m2,m3,m4⟩;refine⟨tlV y1,rfl,rfl,m1,m2,m3,m4,?_⟩;exact⟨Z6 y1.sx y1.ox,λw hr=>hr.at_ 5 rfl,λj hj=>(qE 5 rfl rfl hj),y1,rfl,by rw[hy1,ht1,if_pos hq];rfl,(GrwD.refl _ _ x).trans hg1 hz1 (λj h=>absurd h (Zt rfl rfl))⟩
    . exact⟨Z6 x.sx x.ox,λw hr=>hr.at_ 6 rfl,λj hj=>(qE 6 rfl rfl hj),x,rfl,by rw[ht1,if_neg hq],.refl _ _ _⟩
    rintro _ - ⟨y,rfl,hyt,hgy⟩;simp only[Tree.goal,X.P,X.ev,SV.ev,CV.ev,Sc.ev,qz,QA,QB,QC,QD,QE,QF,QG,QH,QI,QJ,QK,QL,QM,Nat.reduceAdd,qy3,qy4];obtain⟨t2,ht2⟩:∃t2:Tel,t2=if p.retain=true then(Z1f p.topic p.payload t1).1 else t1:=⟨_,rfl⟩
    have hpub:Z2w c p x.tel=Z6y p.topic p.payload p.qos t2:=by rw[Z2w,ht2,ht1]
    rw[hpub];have hko:=Z91 (p:=p.payload) ht1b p1;have ht2b:BOk t2/\t2.out.length<=x.ox.length+13/\t2.wants=x.wants:=by
      rw[ht2];split
      . exact⟨hko.1,by have:=hko.2.2.2;omega,hko.2.2.1.trans ht1w⟩
      . exact⟨ht1b,by omega,ht1w⟩
    have hyl:y.ox.length<=x.ox.length+1:=by rw[<- lenX,hyt];exact ht1l
    refine⟨λvs=>∃z:TelX,vs=[.i 0,.i 0,.i 0,.i 0,.i 0,.i 0,.i 0,.i 0,.i 0,.i 0,.i 0,.i 0,.i 0,.v z.kv,.v z.wv,.v z.sv,.v z.av,.i z.next,.v z.ov,.r (z.kept.map encK),.r (z.wants.map Z7),.r (z.sx.map Zc),.r (z.wat.map Z8),.r (z.ox.map Z1a),.a (Z6 z.sx z.ox)]/\z.tel=t2/\GrwD w.heap.size (λ_=>False) x z,⟨λhq=>?_,λhq=>?_⟩,?_⟩
    . intro w1 hr1;have hz1:=hr1.mod.size;refine(Zbu (k:=k) (x:=y) (F:=λ_=>False) (pre:=[.b (Z1f p.topic p.payload y.tel).2]) hr1 59 0 [51]
        (Z14l w1 k y p.topic p.payload (Z16n hr1 (by rfl) k y [.s p.topic,.s p.payload] [] (hr1.at_ 0 rfl) (λj hj=>(qE 0 rfl rfl hj)) [2,3,4,5,6,0,13] (by decide) rfl rfl) (by rw[hyt];exact ht1b) (Zii (by show chkK y.tel.kept=0;rw[hyt];exact ht1b.kept)) (by have:=(Z5e.1 p1).2.1.1;omega) (by omega))
        rfl rfl (Nat.succ_pos _) 51 (by decide) rfl (λj hj=>?_)).mono ?_
      . rcases hj with(hj|hj|hj|hj|hj)|hj
        . exact .inl (qE 1 rfl rfl hj)
        . exact .inl (qE 2 rfl rfl hj)
        . exact .inl (qE 3 rfl rfl hj)
        . exact .inl (qE 4 rfl rfl hj)
        . exact .inl (qE 0 rfl rfl hj)
        . exact hj.elim
      rintro e w2 ⟨y1,hy1,hs1,hg1,rfl,m1,m2,m3,m4⟩;refine⟨V.b (Z1f p.topic p.payload y.tel).2::tlV y1,rfl,rfl,m1,m2,m3,m4,?_⟩;exact⟨Z6 y1.sx y1.ox,λw hr=>hr.at_ 5 rfl,λj hj=>(qE 5 rfl rfl hj),y1,rfl,by rw[hy1,hyt,ht2,if_pos hq],hgy.trans hg1 hz1 (λj h=>h.elim)⟩
    . exact⟨Z6 y.sx y.ox,λw hr=>hr.at_ 0 rfl,λj hj=>(qE 0 rfl rfl hj),y,rfl,by rw[hyt,ht2,if_neg hq],hgy⟩
    rintro _ - ⟨z,rfl,hzt,hgz⟩;simp only[Tree.goal,X.P,X.ev,SV.ev,CV.ev,Sc.ev,qz,QA,QB,QC,QD,QE,QF,QG,QH,QI,QJ,QK,QL,QM,Nat.reduceAdd,qy3,qy4];intro w1 hr1;have hz1:=hr1.mod.size;refine(Zbu (k:=k) (x:=z) (F:=λ_=>False) (pre:=[]) hr1 83 0 [76]
      (Z151 w1 k z p.topic p.payload p.qos (Z16n hr1 (by rfl) k z [.s p.topic,.s p.payload,.i p.qos] [] (hr1.at_ 0 rfl) (λj hj=>(qE 0 rfl rfl hj)) [2,3,4,5,6,0,18] (by decide) rfl rfl) (by rw[hzt];exact ht2b.1) (by rw[<- lenX,hzt];have:=ht2b.2.1;omega) (by show Z1y z.tel.wants;rw[hzt,ht2b.2.2];exact Z94 hb.wants) p5 ⟨p3,p4⟩)
      rfl rfl (Nat.succ_pos _) 76 (by decide) rfl (λj hj=>?_)).mono ?_
    . rcases hj with(hj|hj|hj|hj|hj)|hj
      . exact .inl (qE 1 rfl rfl hj)
      . exact .inl (qE 2 rfl rfl hj)
      . exact .inl (qE 3 rfl rfl hj)
      . exact .inl (qE 4 rfl rfl hj)
      . exact .inl (qE 0 rfl rfl hj)
      . exact hj.elim
    rintro e w2 ⟨y1,hy1,hs1,hg1,rfl,m1,m2,m3,m4⟩;refine⟨tlV y1,rfl,rfl,m1,m2,m3,m4,?_⟩;intro w3 hr3;exact⟨by trivial,y1,by rw[hy1,hzt],(hr3.pick [0,1,2,3,4,5,22] (by decide)).conv rfl,hgz.trans hg1 hz1 (λ_ h=>h.elim)⟩
  rw[if_neg hk3];refine⟨λhk=>?_,λhk4=>?_⟩
  . rw[if_pos hk];have hrow:=Z3n hlt;simp only[Tree.goal,X.P,X.ev,SV.ev,CV.ev,Sc.ev,qz,QA,QB,QC,QD,QE,QF,QG,QH,QI,QJ,QK,QL,QM,Nat.reduceAdd,qy3,qy4,hrow,Zc,List.getD_cons_zero,List.getD_cons_succ,Value.gI,Value.gB,Value.gS,Zw];obtain⟨ss,hss⟩:∃ss,ss=x.sx.getD ix sxD:=⟨_,rfl⟩
    have hm0:ss∈x.sx:=by rw[hss];exact Z3u hlt
    have hse:ss.1=x.tel.sess.getD (idxS x.tel.sess c) s0:=by rw[hss,hxs,<- hxs,<- hix,hxs,Zcp]
    have hok:SesOk ss.1:=by rw[hse];exact Z8n hb hh.1
    rw[<- hss];obtain⟨s,s',s''⟩:=ss;simp only at hse hok⊢;obtain⟨C,hC⟩:∃C,C=Z3k s p.id:=⟨_,rfl⟩
    have hnm:∀j,sesF (s,s',s'') j->(Z6 x.sx x.ox).fp j:=λj hj=>Zb.2 (.inl ⟨_,hm0,hj⟩);have hcall:∀w1:World,w.heap.size<=w1.heap.size->(Z6 x.sx x.ox).holds w1->Calls Tryz.prog 40 #[sesV s s' s'',.int .i64 p.id] w1 λe w2=>∃u1 u2 u3:Value,e=.returned (.tuple #[sesV C.1 u1 u2,sc1 u3])/\Ze w2 u1 C.1.fl/\Ze w2 u2 C.1.qu/\reads w2 u3 kP ((C.2.map pkN).map Z21)/\(∀j,sesF (C.1,u1,u2) j->w1.heap.size<=j\/(Z6 x.sx x.ox).fp j)/\(∀j,Z2 u3 j->w1.heap.size<=j)/\Mod [] w1 w2:=λw1 hz hA=>by
      obtain⟨hs1,hs2⟩:=Zn hA hm0;refine(Zr8 w1 s s' s'' p.id hs1 hs2 hok.next (by have:=hok.nf;omega) (by have:=hok.nq;omega)).mono ?_;rw[<- hC];rintro e w2 ⟨u1,u2,u3,rfl,g1,g2,g3,g4,g5,g6,gm⟩;refine⟨u1,u2,u3,rfl,g1,g2,by rw[Z63];exact g3,λj hj=>?_,g6,gm⟩;rcases hj with h|h
      . exact(g4 j h).imp id (hnm j)
      . exact(g5 j h).imp id (hnm j)
    have hC9:C.2.length<=6:=by have h5:=Zp9 { s with fl:=Z2l s.fl p.id };have h6:=hok.nq;rw[hC,Z3k];simp only at h5⊢;omega
    refine⟨λvs=>∃(u1 u2 u3:Value) (b:Nat),vs=[.s C.1.cl,.b C.1.on,.b C.1.clean,.v u1,.r (C.1.fl.map encF),.v u2,.r (C.1.qu.map encF),.i C.1.next,.v u3,.r ((C.2.map pkN).map Z21),.n b]/\∀j,sesF (C.1,u1,u2) j->w.heap.size<=j\/(Z6 x.sx x.ox).fp j,⟨by omega,by omega,?_,?_⟩,?_⟩
    . intro w1 hr1;have hz1:=hr1.mod.size;refine(Z1 (hcall w1 hz1 (hr1.at_ 6 rfl)) rfl).mono ?_;rintro e w2 ⟨u1,u2,u3,rfl,g1,g2,g3,g4,g6,gm⟩;refine⟨[.s C.1.cl,.b C.1.on,.b C.1.clean,.v u1,.r (C.1.fl.map encF),.v u2,.r (C.1.qu.map encF),.i C.1.next,.v u3,.r ((C.2.map pkN).map Z21)],rfl,rfl,gm,qy5 _,qy2.2 ⟨⟨g1,λk hk=>(g4 k (.inl hk)).elim .inl λh=>.inr (.inl ⟨rfl,_,qy6 (i:=6) rfl,rfl,h⟩)⟩,qy2.2 ⟨⟨g2,λk hk=>(g4 k (.inr hk)).elim .inl λh=>.inr (.inl ⟨rfl,_,qy6 (i:=6) rfl,rfl,h⟩)⟩,qy2.2 ⟨⟨g3,λk hk=>.inl (g6 k hk.2)⟩,qy5 _⟩⟩⟩,Z3d ..,?_⟩;exact λb=>⟨u1,u2,u3,b,rfl,λj hj=>(g4 j hj).imp (Nat.le_trans hz1) id⟩
    . intro b w1 hr1;have hz1:=hr1.mod.size;refine(Z1 (hcall w1 hz1 (hr1.at_ 7 rfl)) rfl).mono ?_;rintro e w2 ⟨u1,u2,u3,rfl,g1,g2,g3,g4,g6,gm⟩;refine⟨[.s C.1.cl,.b C.1.on,.b C.1.clean,.v u1,.r (C.1.fl.map encF),.v u2,.r (C.1.qu.map encF),.i C.1.next,.v u3,.r ((C.2.map pkN).map Z21)],rfl,rfl,gm,qy5 _,qy2.2 ⟨⟨g1,λk hk=>(g4 k (.inl hk)).elim .inl λh=>.inr (.inl ⟨rfl,_,qy6 (i:=7) rfl,rfl,h⟩)⟩,qy2.2 ⟨⟨g2,λk hk=>(g4 k (.inr hk)).elim .inl λh=>.inr (.inl ⟨rfl,_,qy6 (i:=7) rfl,rfl,h⟩)⟩,qy2.2 ⟨⟨g3,λk hk=>.inl (g6 k hk.2)⟩,qy5 _⟩⟩⟩,Z3d ..,?_⟩;exact⟨u1,u2,u3,b,rfl,λj hj=>(g4 j hj).imp (Nat.le_trans hz1) id⟩
    rintro _ - ⟨u1,u2,u3,b42,rfl,hu12⟩;simp only[Tree.goal,X.P,X.ev,SV.ev,CV.ev,Sc.ev,qz,QA,QB,QC,QD,QE,QF,QG,QH,QI,QJ,QK,QL,QM,Nat.reduceAdd,qy3,qy4];refine λb43 v44 o44=>⟨by(first|omega|(simp only[qy11,List.length_set,qy3,List.length_cons,List.length_nil,List.length_take,List.length_drop];omega)),λv45 o45=>⟨by omega,by(first|omega|(simp only[qy11,List.length_set,qy3,List.length_cons,List.length_nil,List.length_take,List.length_drop];omega)),λw3 hr3=>?_⟩⟩
    have hsz3:=hr3.mod.size;have hnew:=Zde hr3 0 13 rfl rfl (by decide) rfl;have hA3:(Z6 (x.sx.set ix (C.1,u1,u2)) x.ox).holds w3:=Z4n (hr3.at_ 12 rfl) (hr3.at_ 3 rfl) (hr3.at_ 4 rfl);refine(Zbu (k:=k) (x:={ x with sx:=x.sx.set ix (C.1,u1,u2),sv:=v45 }) (F:=(Zg (C.2.map pkN)).fp) (pre:=[]) hr3 46 0 [45,10]
      (Z22 w3 k { x with sx:=x.sx.set ix (C.1,u1,u2),sv:=v45 } c u3 (C.2.map pkN) (Z9i (toRd hr3) (by rfl) k { x with sx:=x.sx.set ix (C.1,u1,u2),sv:=v45 } (Zg (C.2.map pkN)) _ _ hA3 (λj hj=>?_) (Z5h _ _) (λj hj=>absurd hj Z2t) [9,10,2,12,13,1,15,7,0] (by decide) rfl (Zh rfl (Zh rfl (Zh (Za9 rfl ?_) rfl)))) (by rw[qy3];omega) (by show x.ox.length<1000000;omega))
      rfl rfl (Nat.succ_pos _) 10 (by decide) rfl (λj hj=>?_)).mono ?_
    . rcases Z1r hj with h|h|h
      . exact(qE 12 rfl rfl h)
      . exact(qE 3 rfl rfl h)
      . exact(qE 4 rfl rfl h)
    . simp only[Tree.goal,X.P,X.ev,SV.ev,CV.ev,Sc.ev,qz,QA,QB,QC,QD,QE,QF,QG,QH,QI,QJ,QK,QL,QM,Nat.reduceAdd,qy3,qy4];rw[<- Z1s]
    . rcases hj with(hj|hj|hj|hj|hj)|hj
      . exact .inl (qE 7 rfl rfl hj)
      . exact .inl (qE 8 rfl rfl hj)
      . exact .inr (Zk2 (v:=45) (by decide) hj.2)
      . exact .inl (qE 10 rfl rfl hj)
      . rcases Z1r hj with h|h|h
        . exact .inl (qE 12 rfl rfl h)
        . exact .inl (qE 3 rfl rfl h)
        . exact .inl (qE 4 rfl rfl h)
      . exact absurd hj Z2t
    rintro e w4 ⟨y2,hy2,hsz4,hgr,rfl,m1,m2,m3,m4⟩;refine⟨tlV y2,rfl,rfl,m1,m2,m3,m4,?_⟩;intro w5 hr5;refine⟨by trivial,y2,?_,(hr5.pick [0,1,2,3,4,5,17] (by decide)).conv rfl,(Zkd (.refl _ _ _) (Nat.le_refl _) hnew (t:=(C.1,u1,u2)) hu12).trans hgr hsz3 (λj h=>absurd h Z2t)⟩;rw[hy2,Zcu,Zlw,<- hse,<- hC];simp only[TelX.tel,List.map_set,hix]
  rw[if_neg hk4];refine⟨λhk=>?_,λhk8=>?_⟩
  . rw[if_pos hk];obtain⟨hao,-,hal⟩:=Zm4 hp hk;have hkt:chkK x.kept=0:=hb.kept;have hk16:x.kept.length<=16:=(Zz.1 hkt).1;simp only[Tree.goal,X.P,X.ev,SV.ev,CV.ev,Sc.ev,qz,QA,QB,QC,QD,QE,QF,QG,QH,QI,QJ,QK,QL,QM,Nat.reduceAdd,qy3,qy4,gA0,gA1,gI0,gK0,gK1];intro b32;refine⟨λvs=>∃(i:Nat) (ku v u:Value) (K:List Kp) (W:List Wt) (cs:List Int),vs=[.v ku,.r (K.map encK),.i i,.i 9,.b false,.b false,.b false,.b false,.i 0,.i p.id,.i 0,.i 0,.s [],.s [],.s [],.v (.slice none 0 0),.r [],.v u,.r (cs.map Z18),.v x.kv,.r (x.kept.map encK),.v v,.r (W.map Z7),.v x.av,.r (x.wat.map Z8),.i x.next,.v x.ov,.r (x.ox.map Z1a)]/\i<=p.asks.length/\(p.asks.take i).foldl (Z26 c) (x.wants,[])=(W,cs)/\(∀j,(W.map Z7).flatten≠[]/\Z2 v j->w.heap.size<=j\/Z8l x j)/\(∀j,Z2 u j->w.heap.size<=j\/j∈Zi (tlA k x) dlH)/\(K.map λk=>toC c (Zk5 k))=Z34 c x.kept (p.asks.take i) cs/\K.length<=16*i,
      λvs=>(p.asks.length - (vs.getD 2 (.i 0)).toI).toNat,⟨0,.slice none 0 0,x.wv,.slice none 0 0,[],x.wants,[],rfl,by omega,rfl,λj hj=>.inr hj,λj hj=>(by cases hj),rfl,by simp⟩,?_⟩
    rintro _ - ⟨i,ku,v,u,K,W,cs,rfl,hi,hf,hwn,hun,hK,hKl⟩;simp only[Tree.goal,X.P,X.ev,SV.ev,CV.ev,Sc.ev,qz,QA,QB,QC,QD,QE,QF,QG,QH,QI,QJ,QK,QL,QM,Nat.reduceAdd,qy3,qy4,gA0,gA1,gI0,gK0,gK1];have hW:Zj W=0:=by have:=(Zk0 hc (p.asks.take i) (x:=(x.wants,[])) (λa ha=>hao a (List.mem_of_mem_take ha)) hb.wants).1;rw[hf]at this;exact this
    have hcl:cs.length=i:=by have:=Zk4 c (p.asks.take i) (x.wants,[]);rw[hf]at this;simp only[List.length_nil,List.length_take]at this;omega
    refine⟨λh2=>?_,λh2=>?_⟩
    . have hi':i<p.asks.length:=by omega
      have hmem:p.asks.getD i aD∈p.asks:=by rw[qy1,qy7 hi'];exact List.getElem_mem hi'
      have hak:=hao _ hmem;have hfl:(p.asks.getD i aD).1.length<=60:=(Z5e.1 hak.1).2.1.1;have hstep:(p.asks.take (i+1)).foldl (Z26 c) (x.wants,[])=Z26 c (W,cs) (p.asks.getD i aD):=by rw[Zh2 aD _ _ hi',List.foldl_append,hf];rfl
      have hls:∀q:Int,Z34 c x.kept (p.asks.take (i+1)) (cs++[q])=Z34 c x.kept (p.asks.take i) cs++Zgz c x.kept (p.asks.getD i aD) q:=λq=>by
        have h3:=Zcx c x.kept p.asks (cs++[q]) i hi' (by simp;omega);rw[List.take_of_length_le (l:=cs++[q]) (i:=i+1) (by simp;omega),List.take_append_of_le_length (by omega),List.take_of_length_le (l:=cs) (i:=i) (by omega)]at h3;rw[h3];congr 2
        rw[qy1,List.getElem?_append_right (by omega),hcl,Nat.sub_self];rfl
      have hsx:smW (c,(p.asks.getD i aD).1,(p.asks.getD i aD).2):=⟨by
        have h3:=(Bool.and_eq_true _ _▸hc:decide (1<=(c.length:Int)/\(c.length:Int)<=20)=true/\Z1v c=true).1;have:=of_decide_eq_true h3
        show c.length<_
        omega,by show(p.asks.getD i aD).1.length<_;omega⟩
      refine⟨by omega,?_⟩;intro w1 hr1;have hz1:=hr1.mod.size;refine(Z1 (Zwz w1 v W (c,(p.asks.getD i aD).1,(p.asks.getD i aD).2) (hr1.at_ 4 rfl) (Z1b.1 hW).2.2 (Zbr hW) hsx) rfl).mono ?_;obtain⟨R,hR⟩:∃R,R=rawW W (c,(p.asks.getD i aD).1,(p.asks.getD i aD).2):=⟨_,rfl⟩
      rw[<- hR];rintro e w2 ⟨v',rfl,a1,a2,am⟩;refine⟨[.v v',.r (R.1.map Z7),.i R.2],rfl,rfl,am,qy5 _,qy2.2 ⟨⟨a1,λk hk=>.inl (a2 k hk.2)⟩,qy5 _⟩,Z5,?_⟩;simp only[Tree.goal,X.P,X.ev,SV.ev,CV.ev,Sc.ev,qz,QA,QB,QC,QD,QE,QF,QG,QH,QI,QJ,QK,QL,QM,Nat.reduceAdd,qy3,qy4,gA0,gA1,gI0,gK0,gK1];have hwn':∀j,(R.1.map Z7).flatten≠[]/\Z2 v' j->w.heap.size<=j\/Z8l x j:=λj hj=>.inl (Nat.le_trans hz1 (a2 j hj.2));clear hr1 a1 a2 am;have hb0:Z26 c (W,cs) (p.asks.getD i aD)=if R.2=0 then(R.1,cs++[(p.asks.getD i aD).2])else(W,cs++[128]):=by rw[Z26,hR]
      refine⟨λh3=>?_,λh3=>?_⟩
      . refine λv65 o65=>⟨by(first|omega|(simp only[qy11,List.length_set,qy3,List.length_cons,List.length_nil,List.length_take,List.length_drop];omega)),λv66 o66=>⟨by omega,by omega,⟨i+1,ku,v,v66,K,W,cs++[128],?_,by omega,?_,hwn,o66,?_,by omega⟩,by omega⟩⟩
        . rw[List.map_append];rfl
        . rw[hstep,hb0,if_neg h3]
        . rw[hls,Zgz,if_pos rfl,List.append_nil];exact hK
      . have h3:=qy9.1 h3;refine λv65 o65=>⟨by(first|omega|(simp only[qy11,List.length_set,qy3,List.length_cons,List.length_nil,List.length_take,List.length_drop];omega)),λv66 o66=>?_⟩
        intro w3 hr3;refine(Zze w3 x.kv x.kept (p.asks.getD i aD).1 (hr3.at_ 6 rfl) (Zii hkt) (by omega) (by omega)).mono ?_;obtain⟨L,hL⟩:∃L,L=x.kept.filter (forF (p.asks.getD i aD).1):=⟨_,rfl⟩
        rw[<- hL];have hLl:L.length<=16:=by rw[hL];exact Nat.le_trans (List.length_filter_le _ _) hk16
        rintro e w4 ⟨v2,rfl,a1,a2,am⟩;refine⟨[.v v2,.r (L.map encK)],rfl,rfl,am,qy5 _,qy2.2 ⟨⟨a1,λk hk=>.inl (a2 k hk.2)⟩,qy5 _⟩,Z5,?_⟩;simp only[Tree.goal,X.P,X.ev,SV.ev,CV.ev,Sc.ev,qz,QA,QB,QC,QD,QE,QF,QG,QH,QI,QJ,QK,QL,QM,Nat.reduceAdd,qy3,qy4,gA0,gA1,gI0,gK0,gK1];refine⟨by omega,λv69 o69=>⟨by omega,by omega,⟨i+1,v69,v',v66,K++L,R.1,cs++[(p.asks.getD i aD).2],?_,by omega,?_,hwn',o66,?_,by rw[qy11];omega⟩,by omega⟩⟩
        . rw[List.map_append,List.map_append];rfl
        . rw[hstep,hb0,if_pos h3]
        . rw[hls,Zgz,if_neg (by have:=hak.2;omega),List.map_append,hK,hL];rfl
    . have hie:i=p.asks.length:=by omega
      subst hie;rw[List.take_length]at hf hK;have hA1:Zgy c x.wants p.asks=(W,cs):=hf;intro b62 v63 o63 w1 hr1;have hz1:=hr1.mod.size;have hu:∀j,(cs.map Z18).flatten≠[]/\Z2 u j->w.heap.size<=j\/Z2 x.ov j:=λj hj=>by
        rcases hun j hj.2 with h5|h5
        . exact .inl h5
        . rcases List.mem_cons.1 (Z10o h5)with h6|h6
          . exact absurd h6 λh6=>hr1.sep.disj (i:=11) (j:=15) rfl rfl (by decide) (.inl rfl) (k:=j) h6 hj
          . rw[List.append_nil]at h6;exact .inr (Option.mem_toList.1 h6)
      have hg0:GrwD w.heap.size (λ_=>False) x { x with wants:=W,wv:=v }:=λj hj=>by
        rcases hj with(hj|hj|hj|hj|hj)|hj
        . exact .inr (.inl (.inl (.inl hj)))
        . rcases hwn j hj with h|h
          . exact .inl h
          . exact .inr (.inl (.inl (.inr (.inl h))))
        . exact .inr (.inl (.inl (.inr (.inr (.inl hj)))))
        . exact .inr (.inl (.inl (.inr (.inr (.inr (.inl hj))))))
        . exact .inr (.inl (.inl (.inr (.inr (.inr (.inr hj))))))
        . exact .inr (.inl (.inr hj))
      refine(Zbu (k:=k) (x:={ x with wants:=W,wv:=v }) (F:=(Zg [ackX p.id cs u]).fp) (pre:=[]) hr1 64 0 [60]
        (Z22 w1 k { x with wants:=W,wv:=v } c v63 [ackX p.id cs u] (Z9i (toRd hr1) (by rfl) k { x with wants:=W,wv:=v } (Zg [ackX p.id cs u]) _ _ (hr1.at_ 10 rfl) (λj hj=>(qE 10 rfl rfl hj)) (Zmb (hr1.at_ 15 rfl)) (λj hj=>(qE 15 rfl rfl (Zia hj))) [7,8,9,10,11,1,13,2,0] (by decide) rfl rfl) (show 1<1000000 by decide) (by show x.ox.length<1000000;omega))
        rfl rfl (Nat.succ_pos _) 60 (by decide) rfl (λj hj=>?_)).mono ?_
      . rcases hj with(hj|hj|hj|hj|hj)|hj
        . exact .inl (qE 5 rfl rfl hj)
        . exact .inl (qE 6 rfl rfl hj)
        . exact .inl (qE 7 rfl rfl hj)
        . exact .inl (qE 8 rfl rfl hj)
        . exact .inl (qE 10 rfl rfl hj)
        . exact .inl (qE 15 rfl rfl (Zia hj))
      rintro e w2 ⟨y1,hy1,hs1,hg1,rfl,m1,m2,m3,m4⟩;refine⟨tlV y1,rfl,rfl,m1,m2,m3,m4,?_⟩;clear m1 m2 m3 m4;have G1:GrwD w.heap.size (λ_=>False) x y1:=hg0.trans hg1 hz1 (λj h=>(hu j (Zia h)).elim .inl λh=>.inr (.inl (.inr h)));have T1:y1.tel={ x.tel with wants:=W,out:=x.tel.out++[toC c { pD_Q 9 with id:=p.id,codes:=cs }] }:=hy1;have L1:y1.tel.out.length=x.ox.length+1:=by rw[T1];simp only[qy11,List.length_cons,List.length_nil,hol]
      clear hr1;refine⟨Z6 y1.sx y1.ox,λw hr=>hr.at_ 5 rfl,λj hj=>(qE 5 rfl rfl hj),?_⟩;refine⟨λvs=>∃(i:Nat) (y:TelX),vs=[.i i,.a (Z6 y.sx y.ox),.v y.kv,.r (y.kept.map encK),.v y.wv,.r (y.wants.map Z7),.v y.sv,.r (y.sx.map Zc),.v y.av,.r (y.wat.map Z8),.i y.next,.v y.ov,.r (y.ox.map Z1a)]/\i<=K.length/\y.tel={ y1.tel with out:=y1.tel.out++(K.take i).map λk=>toC c (Zk5 k) }/\GrwD w.heap.size (λ_=>False) x y,
        λvs=>(K.length - (vs.getD 0 (.i 0)).toI).toNat,⟨0,y1,rfl,by omega,by simp,G1⟩,?_⟩
      rintro _ - ⟨j,y,rfl,hj,hyt,hgy⟩;simp only[Tree.goal,X.P,X.ev,SV.ev,CV.ev,Sc.ev,qz,QA,QB,QC,QD,QE,QF,QG,QH,QI,QJ,QK,QL,QM,Nat.reduceAdd,qy3,qy4,gA0,gA1,gI0,gK0,gK1];have yl:y.ox.length<=x.ox.length+97:=by have h6:=lenX y;rw[hyt]at h6;simp only[qy11,qy3,List.length_take]at h6;omega
      refine⟨λh4=>?_,λh4 w3 hr3=>?_⟩
      . have hj':j<K.length:=by omega
        refine⟨by omega,λb90 v91 o91 w6 hr6=>?_⟩;have hz6:=hr6.mod.size;refine(Zbu (k:=k) (x:=y) (F:=(Zg [pk1X (Zk5 (K.getD j kD))]).fp) (pre:=[]) hr6 92 0 [88]
          (Z22 w6 k y c v91 [pk1X (Zk5 (K.getD j kD))] (Z9i (toRd hr6) (by rfl) k y (Zg [pk1X (Zk5 (K.getD j kD))]) _ _ (hr6.at_ 2 rfl) (λj hj=>(qE 2 rfl rfl hj)) (Z1t rfl rfl _) (λj hj=>absurd hj (Zt rfl rfl)) [5,6,7,8,9,1,21,2,0] (by decide) rfl
            (Zh rfl (Zh rfl (Zh rfl (Zh rfl (Zh rfl (Zh rfl (Zh rfl (Zh (Za9 rfl (by simp only[Tree.goal,X.P,X.ev,SV.ev,CV.ev,Sc.ev,qz,QA,QB,QC,QD,QE,QF,QG,QH,QI,QJ,QK,QL,QM,Nat.reduceAdd,qy3,qy4,gA0,gA1,gI0,gK0,gK1];rfl)) rfl))))))))) (show 1<1000000 by decide) (by omega))
          rfl rfl (Nat.succ_pos _) 88 (by decide) rfl (λj hj=>?_)).mono ?_
        . rcases hj with(hj|hj|hj|hj|hj)|hj
          . exact .inl (qE 3 rfl rfl hj)
          . exact .inl (qE 4 rfl rfl hj)
          . exact .inl (qE 5 rfl rfl hj)
          . exact .inl (qE 6 rfl rfl hj)
          . exact .inl (qE 2 rfl rfl hj)
          . exact absurd hj (Zt rfl rfl)
        rintro e w7 ⟨y2,hy2,hs2,hg2,rfl,m1,m2,m3,m4⟩;refine⟨tlV y2,rfl,rfl,m1,m2,m3,m4,?_⟩;refine⟨by omega,by omega,Z6 y2.sx y2.ox,λw hr=>hr.at_ 5 rfl,λj hj=>(qE 5 rfl rfl hj),⟨j+1,y2,rfl,by omega,?_,hgy.trans hg2 hz6 (λj h=>absurd h (Zt rfl rfl))⟩,by omega⟩;rw[hy2,hyt,Zh2 kD K j hj',List.map_append];simp only[List.append_assoc];rfl
      . have hje:j=K.length:=by omega
        subst hje;rw[List.take_length]at hyt;refine⟨by trivial,y,?_,(hr3.pick [1,2,3,4,5,0,17] (by decide)).conv rfl,hgy⟩;rw[hyt,T1,Z2g,show Zgy c x.tel.wants p.asks=(W,cs) from hA1];simp only[hK];rfl
  rw[if_neg hk8];refine⟨λhk=>?_,λhk10=>?_⟩
  . rw[if_pos hk];have hal:p.asks.length<=5:=Z16q hp hk;simp only[Tree.goal,X.P,X.ev,SV.ev,CV.ev,Sc.ev,qz,QA,QB,QC,QD,QE,QF,QG,QH,QI,QJ,QK,QL,QM,Nat.reduceAdd,qy3,qy4,gA0,gA1,gI0,gK0,gK1];refine⟨λvs=>∃(i:Nat) (v:Value) (W:List Wt),vs=[.i i,.v x.kv,.r (x.kept.map encK),.v v,.r (W.map Z7),.v x.av,.r (x.wat.map Z8),.i x.next,.v x.ov,.r (x.ox.map Z1a)]/\i<=p.asks.length/\W=(p.asks.take i).foldl (λws a=>ws.filter λw=>decide (¬(w.1=c/\w.2.1=a.1))) x.wants/\W.length<=20/\(∀j,(W.map Z7).flatten≠[]/\Z2 v j->w.heap.size<=j\/Z8l x j),
      λvs=>(p.asks.length - (vs.getD 0 (.i 0)).toI).toNat,⟨0,x.wv,x.wants,rfl,by omega,rfl,hwl,λj hj=>.inr hj⟩,?_⟩
    rintro _ - ⟨i,v,W,rfl,hi,hf,hW20,hwn⟩;simp only[Tree.goal,X.P,X.ev,SV.ev,CV.ev,Sc.ev,qz,QA,QB,QC,QD,QE,QF,QG,QH,QI,QJ,QK,QL,QM,Nat.reduceAdd,qy3,qy4,gA0,gA1,gI0,gK0,gK1];refine⟨λh2=>?_,λh2=>?_⟩
    . have hi':i<p.asks.length:=by omega
      refine⟨by omega,?_⟩;intro w1 hr1;have hz1:=hr1.mod.size;refine(Z96 w1 v W c (p.asks.getD i aD).1 (hr1.at_ 2 rfl) (by omega)).mono ?_;obtain⟨L,hL⟩:∃L,L=W.filter (λw:Wt=>decide (¬(w.1=c/\w.2.1=(p.asks.getD i aD).1))):=⟨_,rfl⟩
      rw[<- hL];rintro e w2 ⟨v',rfl,a1,a2,am⟩;refine⟨[.v v',.r (L.map Z7)],rfl,rfl,am,qy5 _,qy2.2 ⟨⟨a1,λk hk=>.inl (a2 k hk)⟩,qy5 _⟩,Z5,?_⟩;simp only[Tree.goal,X.P,X.ev,SV.ev,CV.ev,Sc.ev,qz,QA,QB,QC,QD,QE,QF,QG,QH,QI,QJ,QK,QL,QM,Nat.reduceAdd,qy3,qy4,gA0,gA1,gI0,gK0,gK1];refine⟨by omega,by omega,⟨i+1,v',L,rfl,by omega,?_,?_,λj hj=>.inl (Nat.le_trans hz1 (a2 j hj.2))⟩,by omega⟩
      . rw[Zh2 aD _ _ hi',List.foldl_append,<- hf,hL];rfl
      . rw[hL];exact Nat.le_trans (List.length_filter_le _ _) hW20
    . have hie:i=p.asks.length:=by omega
      subst hie;rw[List.take_length,Zqa]at hf;intro b42 v43 o43 w1 hr1;have hz1:=hr1.mod.size;have hg0:GrwD w.heap.size (λ_=>False) x { x with wants:=W,wv:=v }:=λj hj=>by
        rcases hj with(hj|hj|hj|hj|hj)|hj
        . exact .inr (.inl (.inl (.inl hj)))
        . rcases hwn j hj with h|h
          . exact .inl h
          . exact .inr (.inl (.inl (.inr (.inl h))))
        . exact .inr (.inl (.inl (.inr (.inr (.inl hj)))))
        . exact .inr (.inl (.inl (.inr (.inr (.inr (.inl hj))))))
        . exact .inr (.inl (.inl (.inr (.inr (.inr (.inr hj))))))
        . exact .inr (.inl (.inr hj))
      refine(Zbu (k:=k) (x:={ x with wants:=W,wv:=v }) (F:=(Zg [pk1X { pD_Q 11 with id:=p.id }]).fp) (pre:=[]) hr1 44 0 [40]
        (Z22 w1 k { x with wants:=W,wv:=v } c v43 [pk1X { pD_Q 11 with id:=p.id }] (Z9i (toRd hr1) (by rfl) k { x with wants:=W,wv:=v } (Zg [pk1X { pD_Q 11 with id:=p.id }]) _ _ (hr1.at_ 8 rfl) (λj hj=>(qE 8 rfl rfl hj)) (Z1t rfl rfl _) (λj hj=>absurd hj (Zt rfl rfl)) [5,6,7,8,9,1,11,2,0] (by decide) rfl rfl) (show 1<1000000 by decide) (by show x.ox.length<1000000;omega))
        rfl rfl (Nat.succ_pos _) 40 (by decide) rfl (λj hj=>?_)).mono ?_
      . rcases hj with(hj|hj|hj|hj|hj)|hj
        . exact .inl (qE 3 rfl rfl hj)
        . exact .inl (qE 4 rfl rfl hj)
        . exact .inl (qE 5 rfl rfl hj)
        . exact .inl (qE 6 rfl rfl hj)
        . exact .inl (qE 8 rfl rfl hj)
        . exact absurd hj (Zt rfl rfl)
      rintro e w2 ⟨y1,hy1,hs1,hg1,rfl,m1,m2,m3,m4⟩;refine⟨tlV y1,rfl,rfl,m1,m2,m3,m4,?_⟩;intro w3 hr3;exact⟨by trivial,y1,by rw[hy1,Z1l];simp only[TelX.tel,hf];rfl,(hr3.pick [0,1,2,3,4,5,14] (by decide)).conv rfl,hg0.trans hg1 hz1 (λj h=>absurd h (Zt rfl rfl))⟩
  rw[if_neg hk10];refine⟨λhk=>?_,λhk12=>?_⟩
  . rw[if_pos hk];intro b32 v33 o33 w1 hr1;have hz1:=hr1.mod.size;refine(Zbu (k:=k) (x:=x) (F:=(Zg [pk1X (pD_Q 13)]).fp) (pre:=[]) hr1 34 0 [10]
      (Z22 w1 k x c v33 [pk1X (pD_Q 13)] (Z9i (toRd hr1) (by rfl) k x (Zg [pk1X (pD_Q 13)]) _ _ (hr1.at_ 8 rfl) (λj hj=>(qE 8 rfl rfl hj)) (Z1t rfl rfl _) (λj hj=>absurd hj (Zt rfl rfl)) [5,6,7,8,9,1,11,2,0] (by decide) rfl rfl) (show 1<1000000 by decide) (by omega))
      rfl rfl (Nat.succ_pos _) 10 (by decide) rfl (λj hj=>?_)).mono ?_
    . rcases hj with(hj|hj|hj|hj|hj)|hj
      . exact .inl (qE 3 rfl rfl hj)
      . exact .inl (qE 4 rfl rfl hj)
      . exact .inl (qE 5 rfl rfl hj)
      . exact .inl (qE 6 rfl rfl hj)
      . exact .inl (qE 8 rfl rfl hj)
      . exact absurd hj (Zt rfl rfl)
    rintro e w2 ⟨y1,hy1,hs1,hg1,rfl,m1,m2,m3,m4⟩;refine⟨tlV y1,rfl,rfl,m1,m2,m3,m4,?_⟩;intro w3 hr3;exact⟨by trivial,y1,hy1,(hr3.pick [0,1,2,3,4,5,14] (by decide)).conv rfl,(GrwD.refl _ _ x).trans hg1 hz1 (λj h=>absurd h (Zt rfl rfl))⟩
  rw[if_neg hk12];refine⟨λhk=>?_,λhk w3 hr=>?_⟩
  . rw[if_pos hk];intro w1 hr1;refine(Zbu (k:=k) (x:=x) (F:=λ_=>False) (pre:=[]) hr1 32 0 [10]
      (Zx4 w1 k x c (((hr1.pick [1,2,3,4,5,6,7] (by decide)).conv rfl).base.conv rfl) hb)
      rfl rfl (Nat.succ_pos _) 10 (by decide) rfl (λj hj=>?_)).mono ?_
    . rcases hj with(hj|hj|hj|hj|hj)|hj
      . exact .inl (qE 1 rfl rfl hj)
      . exact .inl (qE 2 rfl rfl hj)
      . exact .inl (qE 3 rfl rfl hj)
      . exact .inl (qE 4 rfl rfl hj)
      . exact .inl (qE 6 rfl rfl hj)
      . exact hj.elim
    rintro e w2 ⟨y,hy,hs,hg,rfl,m1,m2,m3,m4⟩;refine⟨tlV y,rfl,rfl,m1,m2,m3,m4,?_⟩;intro w3 hr3;exact⟨by trivial,y,hy,(hr3.pick [0,1,2,3,4,5,12] (by decide)).conv rfl,(GrwD.refl _ _ x).trans hg hr1.mod.size (λ_ h=>h.elim)⟩
  . rw[if_neg hk];exact⟨by trivial,x,rfl,(hr.pick [1,2,3,4,5,6,7] (by decide)).conv rfl,.refl _ _ _⟩
end Go.Proofs.Y
namespace Go.Proofs.Y
open Go.Sx
end Go.Proofs.Y
namespace Go.Proofs.Y
open Go.Sx
section
end
abbrev nilV:Value:=.slice none 0 0
section
end
section
end
def pubP:Pkt:=⟨3,false,false,false,false,1,10,0,0,[],[97,47,98],[104,105],[],[]⟩
theorem Zs7:SmallP pubP:=⟨by decide,by decide,by decide,by decide,by decide,by decide⟩
theorem Z18c(w:World):Calls Tryz.prog 49 #[] w λe w'=>e=.returned (pV pubP nilV nilV)/\Mod [] w w':=by refine Z1 (Z9 (J:=[]) sxE_ok Tryz.func49 Z9a rfl rfl rfl ?_) rfl;simp only[Tree.goal,X.P,X.ev,SV.ev,CV.ev,Sc.ev,qz,QA,QB,QC,QD,QE,QF,QG,QH,QI,QJ,QK,QL,QM,Nat.reduceAdd];exact λb w' hr=>⟨rfl,hr.mod⟩
section
variable (w:World) (p q:Pkt) (u v x y:Value)
end
end Go.Proofs.Y
namespace Go.Proofs.Y
open Go.Sx
def sA:Ses:=⟨[97,110,110],true,false,[],[],65535⟩
theorem Z177(w:World):Calls Tryz.prog 114 #[] w λe w'=>e=.returned (sesV sA (.slice none 0 0) (.slice none 0 0))/\Mod [] w w':=by refine Z1 (Z9 (J:=[]) sxE_ok Tryz.func114 Z8g rfl rfl rfl ?_) rfl;simp only[Tree.goal,X.P,X.ev,SV.ev,CV.ev,Sc.ev,qz,QA,QB,QC,QD,QE,QF,QG,QH,QI,QJ,QK,QL,QM,Nat.reduceAdd];exact λb w' hr=>⟨rfl,hr.mod⟩
open Go
structure SmlT(t:Tel):Prop where
 kept:Z8j t.kept
 keptL:t.kept.length<1000000000
 wants:Z1y t.wants
 wantsL:t.wants.length<1000000000
 sess:∀s∈t.sess,Zgf s
 sessL:t.sess.length<1000000
 wat:Z7f t.wat
 watL:t.wat.length<1000000000
theorem SmlT.b{x:TelX}(h:SmlT x.tel):SmlB x :=
 ⟨h.kept,h.keptL,h.wants,h.wantsL,λt ht=>h.sess _ (List.mem_map_of_mem ht),by have:=h.sessL;rw[show x.tel.sess.length=x.sx.length by simp[TelX.tel]]at this;exact this,h.wat,h.watL⟩
theorem SmlT.f{x:TelX}(h:SmlT x.tel):∀t∈x.sx,t.1.fl.length<1000000000/\t.1.qu.length<1000000000:=λt ht=>by have:=h.sess _ (List.mem_map_of_mem ht);exact⟨this.2.2.1,this.2.2.2.1⟩
theorem SmlT.nil:SmlT telN:=⟨λx hx=>(List.not_mem_nil hx).elim,by decide,λx hx=>(List.not_mem_nil hx).elim,by decide,λx hx=>(List.not_mem_nil hx).elim,by decide,λx hx=>(List.not_mem_nil hx).elim,by decide⟩
theorem Zgh{f:Fl}(h:flE f=0):f.2.1.length<4294967281:=by
 unfold flE at h;split at h
 ·rename_i h1;have:=(Z5e.1 h1).2.1.1;omega
 ·exact absurd h (by assumption)
theorem Zx8{s:Ses}(h:SesOk s):Zgf s:=by have h1:=h.nf;have h2:=h.nq;have h3:=h.cl;unfold Zk at h3;rw[Bool.and_eq_true,decide_eq_true_eq]at h3;exact⟨λx hx=>Zgh (h.fl.each x hx).1,λx hx=>Zgh (h.qu x hx).1,by omega,by omega,by omega⟩
theorem Zx9{l:List Wat}(h:Z17 l=0):Z7f l:=λx hx=>by
 have h1:=((Z12.1 h).2.1 x hx).1;unfold Z59 at h1
 (repeat' split at h1)<;>first|(have:=(Z5e.1 h1).2.1.1;omega)|simp at h1
theorem SmlT.of{t:Tel}(h:BOk t):SmlT t:=by obtain⟨k1,k2,-⟩:=Zz.1 h.kept;have h3:=(Z1b.1 h.wants).1;have h4:=(Z12.1 h.wat).1;have h5:=h.ns;exact⟨λx hx=>by have:=(Z5e.1 (k2 x hx).1).2.1.1;omega,by omega,Z94 h.wants,by omega,λs hs=>Zx8 (h.ses s hs),by omega,Zx9 h.wat,by omega⟩
theorem SmlT.res{e:Int}{t:Tel}(h:e=0->BOk t):SmlT (resB e t):=by
 unfold resB;split
 ·exact .of (h (by assumption))
 ·exact .nil
abbrev TelX.bare(y:TelX):TelX:={ y with ox:=[],ov:=.slice none 0 0 }
theorem Zd1{w:World}{y:TelX}(h:(Z6 y.sx y.ox).holds w):(Z6 y.sx []).holds w:=Z11 (λt ht=>.inl ht) (λt ht=>(List.not_mem_nil ht).elim) h
theorem Zbv(y:TelX):y.bare.tel={ y.tel with out:=[] }:=rfl
theorem Zbw{J:List V}{es:List Ent}(h:∀e∈es,e.wr=false):Z2x J es:=by
 induction es with
 | nil=>exact List.Pairwise.nil
 | cons a es ih =>
  refine List.pairwise_cons.2 ⟨λb hb hw=>?_,ih λe he=>h e (qy10 _ he)⟩;rw[h a (qy8 ..),h b (qy10 _ hb)]at hw;rcases hw with hw|hw<;>cases hw
abbrev brV(y:TelX)(e:Int):List V:=[.v y.kv,.r (y.kept.map encK),.v y.wv,.r (y.wants.map Z7),.v y.sv,.r (y.sx.map Zc),.v y.av,.r (y.wat.map Z8),.i y.next,.v y.ov,.r (y.ox.map Z1a),.i e,.a (Z6 y.sx y.ox)]
abbrev brEs(n:Nat):List Ent:=[.rd n kK (.var (n+1)),.rd (n+2) kW_V (.var (n+3)),.rd (n+4) kSx (.var (n+5)),.rd (n+6) kW_K (.var (n+7)),.rd (n+9) kSn (.var (n+10)),.st (n+12)]
abbrev gnV(y:TelX)(e:Int):List V:=[.v y.kv,.r (y.kept.map encK),.v y.wv,.r (y.wants.map Z7),.v y.sv,.r (y.sx.map Zc),.v y.av,.r (y.wat.map Z8),.i y.next,.i e,.a (Z6 y.sx y.ox)]
abbrev gnEs(n:Nat):List Ent:=[.rd n kK (.var (n+1)),.rd (n+2) kW_V (.var (n+3)),.rd (n+4) kSx (.var (n+5)),.rd (n+6) kW_K (.var (n+7)),.st (n+10)]
abbrev smV(y:TelX):List V:=[.v y.kv,.r (y.kept.map encK),.v y.wv,.r (y.wants.map Z7),.v y.sv,.r (y.sx.map Zc),.v y.av,.r (y.wat.map Z8),.i y.next,.a (Z6 y.sx y.ox)]
abbrev smEs(n:Nat):List Ent:=[.rd n kK (.var (n+1)),.rd (n+2) kW_V (.var (n+3)),.rd (n+4) kSx (.var (n+5)),.rd (n+6) kW_K (.var (n+7)),.st (n+9)]
section
variable {P:Program} {f:Nat} {args:Array Value} {w:World} {B:Base} {J:List V} {hp:List Ent}
theorem Z178{y:TelX}{e:Int}{n m:Nat}{w1:World}{Q:Ent->Nat->Prop}(hn:J.length=n)(h:RdB m w1 y):∀x∈brEs n,x.holds (J++brV y e) w1/\∀k,x.fp (J++brV y e) k->m<=k\/Q x k:=by
 have g:=Zk8 (vs:=brV y e) hn;have g0:(J++brV y e).getD n (.i 0)=.v y.kv:=g 0;refine qy2.2 ⟨⟨?_,λk hk=>.inl ?_⟩,qy2.2 ⟨⟨?_,λk hk=>.inl ?_⟩,qy2.2 ⟨⟨?_,λk hk=>.inl ?_⟩,qy2.2 ⟨⟨?_,λk hk=>.inl ?_⟩,qy2.2 ⟨⟨?_,λk hk=>.inl ?_⟩,qy2.2 ⟨⟨?_,λk hk=>.inl ?_⟩,qy5 _⟩⟩⟩⟩⟩⟩ <;>
  simp only[Ent.holds,Ent.fp,X.ev,g0,g 1,g 2,g 3,g 4,g 5,g 6,g 7,g 9,g 10,g 12]at *
 ·exact h.kept
 ·exact h.nk k hk.1 hk.2
 ·exact h.want
 ·exact h.nw k hk.1 hk.2
 ·exact h.sess
 ·exact h.ns k hk.1 hk.2
 ·exact h.wat
 ·exact h.na k hk.1 hk.2
 ·exact h.out
 ·exact h.no k hk.1 hk.2
 ·exact h.nest
 ·exact h.nn k hk
theorem Z179{y:TelX}{e:Int}{n m:Nat}{w1:World}{Q:Ent->Nat->Prop}(hn:J.length=n)(h:RdB m w1 y):∀x∈gnEs n,x.holds (J++gnV y e) w1/\∀k,x.fp (J++gnV y e) k->m<=k\/Q x k:=by
 have g:=Zk8 (vs:=gnV y e) hn;have g0:(J++gnV y e).getD n (.i 0)=.v y.kv:=g 0;refine qy2.2 ⟨⟨?_,λk hk=>.inl ?_⟩,qy2.2 ⟨⟨?_,λk hk=>.inl ?_⟩,qy2.2 ⟨⟨?_,λk hk=>.inl ?_⟩,qy2.2 ⟨⟨?_,λk hk=>.inl ?_⟩,qy2.2 ⟨⟨?_,λk hk=>.inl ?_⟩,qy5 _⟩⟩⟩⟩⟩ <;>
  simp only[Ent.holds,Ent.fp,X.ev,g0,g 1,g 2,g 3,g 4,g 5,g 6,g 7,g 10]at *
 ·exact h.kept
 ·exact h.nk k hk.1 hk.2
 ·exact h.want
 ·exact h.nw k hk.1 hk.2
 ·exact h.sess
 ·exact h.ns k hk.1 hk.2
 ·exact h.wat
 ·exact h.na k hk.1 hk.2
 ·exact h.nest
 ·exact h.nn k hk
theorem Z17a{y:TelX}{n m:Nat}{w1:World}{Q:Ent->Nat->Prop}(hn:J.length=n)(h:RdB m w1 y):∀x∈smEs n,x.holds (J++smV y) w1/\∀k,x.fp (J++smV y) k->m<=k\/Q x k:=by
 have g:=Zk8 (vs:=smV y) hn;have g0:(J++smV y).getD n (.i 0)=.v y.kv:=g 0;refine qy2.2 ⟨⟨?_,λk hk=>.inl ?_⟩,qy2.2 ⟨⟨?_,λk hk=>.inl ?_⟩,qy2.2 ⟨⟨?_,λk hk=>.inl ?_⟩,qy2.2 ⟨⟨?_,λk hk=>.inl ?_⟩,qy2.2 ⟨⟨?_,λk hk=>.inl ?_⟩,qy5 _⟩⟩⟩⟩⟩ <;>
  simp only[Ent.holds,Ent.fp,X.ev,g0,g 1,g 2,g 3,g 4,g 5,g 6,g 7,g 9]at *
 ·exact h.kept
 ·exact h.nk k hk.1 hk.2
 ·exact h.want
 ·exact h.nw k hk.1 hk.2
 ·exact h.sess
 ·exact h.ns k hk.1 hk.2
 ·exact h.wat
 ·exact h.na k hk.1 hk.2
 ·exact h.nest
 ·exact h.nn k hk
theorem Zxa{e:Int}{t:Tel}(h0:Rel B J hp w)(n:Nat)(h:Calls P f args w λr w1=>Zk7 w w1 r e t)(hn:J.length=n) : Calls P f args w λr w1=>∃y:TelX,y.tel=t/\RdB w.heap.size w1 y/\r=.returned (.tuple #[bkV y,sc1 y.ov,.int .i64 e])/\Mod (Zs J [] []) w w1 /\ (∀x∈brEs n,x.holds (J++brV y e) w1/\∀k,x.fp (J++brV y e) k->w.heap.size<=k\/(x.wr=false/\∃y∈hp,y.wr=false/\y.fp J k)\/k∈Zx J [])/\Z2x (J++brV y e) (brEs n):=by refine h.mono ?_;rintro r w1 ⟨y,hr,hy,hd,hm⟩;exact⟨y,hy,hd,hr,hm,Z178 hn hd,Zbw (by intro e he;simp only[List.mem_cons,List.not_mem_nil,or_false]at he;rcases he with rfl|rfl|rfl|rfl|rfl|rfl<;>rfl)⟩
theorem Z123{e:Int}{t:Tel}(h0:Rel B J hp w)(n:Nat)(h:Calls P f args w λr w1=>Znt w w1 r e t)(hn:J.length=n) : Calls P f args w λr w1=>∃y:TelX,y.tel=t/\y.ox=[]/\RdB w.heap.size w1 y/\r=.returned (.tuple #[bkV y,.int .i64 e])/\Mod (Zs J [] []) w w1 /\ (∀x∈gnEs n,x.holds (J++gnV y e) w1/\∀k,x.fp (J++gnV y e) k->w.heap.size<=k\/(x.wr=false/\∃y∈hp,y.wr=false/\y.fp J k)\/k∈Zx J [])/\Z2x (J++gnV y e) (gnEs n):=by refine h.mono ?_;rintro r w1 ⟨y,hr,ho,hy,hd,hm⟩;exact⟨y,hy,ho,hd,hr,hm,Z179 hn hd,Zbw (by intro e he;simp only[List.mem_cons,List.not_mem_nil,or_false]at he;rcases he with rfl|rfl|rfl|rfl|rfl<;>rfl)⟩
def Zxb(w w':World)(r:Ending)(t:Tel):Prop:=∃y:TelX,r=.returned (bkV y)/\y.ox=[]/\y.tel=t/\RdB w.heap.size w' y/\Mod [] w w'
theorem Zqb{t:Tel}(h0:Rel B J hp w)(n:Nat)(h:Calls P f args w λr w1=>Zxb w w1 r t)(hn:J.length=n) : Calls P f args w λr w1=>∃y:TelX,y.tel=t/\y.ox=[]/\RdB w.heap.size w1 y/\r=.returned (bkV y)/\Mod (Zs J [] []) w w1 /\ (∀x∈smEs n,x.holds (J++smV y) w1/\∀k,x.fp (J++smV y) k->w.heap.size<=k\/(x.wr=false/\∃y∈hp,y.wr=false/\y.fp J k)\/k∈Zx J [])/\Z2x (J++smV y) (smEs n):=by refine h.mono ?_;rintro r w1 ⟨y,hr,ho,hy,hd,hm⟩;exact⟨y,hy,ho,hd,hr,hm,Z17a hn hd,Zbw (by intro e he;simp only[List.mem_cons,List.not_mem_nil,or_false]at he;rcases he with rfl|rfl|rfl|rfl|rfl<;>rfl)⟩
end
theorem Zxc{w:World}{x:TelX}{c:List UInt8}{p:Pkt}{va vc:Value}(h:RdX w x)(ha:reads w va [.str,.int .i64] (p.asks.map encA))(hc:reads w vc [.int .i64] (p.codes.map Z18)) : Rel ⟨[],w⟩ (bkA x++Z3g c p va vc) (bkH++[.rd 23 [.str,.int .i64] (.var 24),.rd 25 [.int .i64] (.var 26)]) w :=
 Rel.start2 (qy2.2 ⟨⟨h.kept,rfl⟩,qy2.2 ⟨⟨h.want,rfl⟩,qy2.2 ⟨⟨h.sess,rfl⟩,qy2.2 ⟨⟨h.nest,rfl⟩,qy2.2 ⟨⟨h.wat,rfl⟩,qy2.2 ⟨⟨ha,rfl⟩,qy2.2 ⟨⟨hc,rfl⟩,qy5 _⟩⟩⟩⟩⟩⟩⟩)
theorem Z17b{w:World}{x:TelX}{n:Int}{m:Msg}{mv:Value}(h:RdX w x)(ha:reads w mv [.int .i64,.str] (m.opts.map encO)):Rel ⟨[],w⟩ (bkA x++([.i n]++mgV m mv)) (bkH++[.rd 15 [.int .i64,.str] (.var 16)]) w :=
 Rel.start2 (qy2.2 ⟨⟨h.kept,rfl⟩,qy2.2 ⟨⟨h.want,rfl⟩,qy2.2 ⟨⟨h.sess,rfl⟩,qy2.2 ⟨⟨h.nest,rfl⟩,qy2.2 ⟨⟨h.wat,rfl⟩,qy2.2 ⟨⟨ha,rfl⟩,qy5 _⟩⟩⟩⟩⟩⟩)
theorem Z124{w:World}{x:TelX}{c:List UInt8}(h:RdX w x):Rel ⟨[],w⟩ (bkA x++[.s c]) bkH w :=
 Rel.start2 (qy2.2 ⟨⟨h.kept,rfl⟩,qy2.2 ⟨⟨h.want,rfl⟩,qy2.2 ⟨⟨h.sess,rfl⟩,qy2.2 ⟨⟨h.nest,rfl⟩,qy2.2 ⟨⟨h.wat,rfl⟩,qy5 _⟩⟩⟩⟩⟩)
def smT:Tel:=⟨kA,wA.take 2,[sA],wL.take 1,0,[]⟩
theorem Z152(w:World):(Z6 [((sA,.slice none 0 0,.slice none 0 0):SesX)] []).holds w :=
 Z11 (l:=[]) (o:=[]) (λt ht=>.inr (by rw[qy12.1 ht];exact⟨Za w _,Za w _⟩)) (λt ht=>.inl ht) (Z7t w)
theorem Zs8:∀j,¬(Z6 [((sA,.slice none 0 0,.slice none 0 0):SesX)] []).fp j:=λj hj=>by
 rcases Zb.1 hj with⟨t,ht,h⟩|⟨t,ht,-⟩
 ·rw[qy12.1 ht]at h;rcases h with h|h<;>exact h.1 rfl
 ·cases ht
theorem Zke(w:World):Calls Tryz.prog 48 #[] w λr w'=>Zxb w w' r smT:=by
 refine Z1 (Z52 (J:=[]) (sxE_ok.joins _) Tryz.func48 Z89 rfl rfl (Rel.start w []) rfl rfl ?_) rfl;simp only[Tree.goal,X.P,X.ev,SV.ev,CV.ev,Sc.ev,qz,QA,QB,QC,QD,QE,QF,QG,QH,QI,QJ,QK,QL,QM,Nat.reduceAdd,qy3,qy4];intro b0;refine⟨λvs=>∃u1 u3 u5 u14 u15 u17:Value,vs=[.v u1,.r (kA.map encK),.v u3,.r (wA.map Z7),.v u5,.s sA.cl,.b sA.on,.b sA.clean,.v (.slice none 0 0),.r [],.v (.slice none 0 0),.r [],.i sA.next,.v u14,.v u15,.r (wL.map Z8),.v u17,.r ((wL.take 1).map Z8),.r [Zc (sA,.slice none 0 0,.slice none 0 0)],.r ((wA.take 2).map Z7)] /\
  (∀k,Z2 u1 k->w.heap.size<=k)/\(∀k,Z2 u5 k->w.heap.size<=k)/\(∀k,Z2 u17 k->w.heap.size<=k),?_,?_⟩
 ·repeat' first
   | (intro w1 hr1;refine(Z16i w1).mono ?_;rintro e w2 ⟨u1,rfl,a1,f1,m1⟩;refine⟨[.v u1,.r (kA.map encK)],rfl,rfl,m1,qy5 _,qy2.2 ⟨⟨a1,λk hk=>.inl (f1 k hk.2)⟩,qy5 _⟩,Z5,?_⟩;have g1:∀k,Z2 u1 k->w.heap.size<=k:=λk hk=>Nat.le_trans hr1.mod.size (f1 k hk);clear hr1 a1 f1 m1)
   | (intro w1 hr1;refine(Z13z w1).mono ?_;rintro e w2 ⟨u3,rfl,a1,f1,m1⟩;refine⟨[.v u3,.r (wA.map Z7)],rfl,rfl,m1,qy5 _,qy2.2 ⟨⟨a1,λk hk=>.inl (f1 k hk.2)⟩,qy5 _⟩,Z5,?_⟩;have g3:∀k,Z2 u3 k->w.heap.size<=k:=λk hk=>Nat.le_trans hr1.mod.size (f1 k hk);clear hr1 a1 f1 m1)
   | (intro w1 hr1;refine(Zvt w1).mono ?_;rintro e w2 ⟨u15,rfl,a1,f1,m1⟩;refine⟨[.v u15,.r (wL.map Z8)],rfl,rfl,m1,qy5 _,qy2.2 ⟨⟨a1,λk hk=>.inl (f1 k hk.2)⟩,qy5 _⟩,Z5,?_⟩;have g15:∀k,Z2 u15 k->w.heap.size<=k:=λk hk=>Nat.le_trans hr1.mod.size (f1 k hk);clear hr1 a1 f1 m1)
   | (intro w1 hr1;refine(Z177 w1).mono ?_;rintro e w2 ⟨rfl,m1⟩;refine⟨[.s sA.cl,.b sA.on,.b sA.clean,.v (.slice none 0 0),.r [],.v (.slice none 0 0),.r [],.i sA.next],rfl,rfl,m1,qy5 _,qy2.2 ⟨⟨Za w2 _,λk hk=>absurd rfl hk.1⟩,qy2.2 ⟨⟨Za w2 _,λk hk=>absurd rfl hk.1⟩,qy5 _⟩⟩,Zbw (by simp[Ent.wr]),?_⟩;clear hr1 m1)
   | (refine⟨(by show(2:Int)<=((wA.map Z7).length:Int);decide),?_⟩)
   | (refine⟨(by show(1:Int)<=((wL.map Z8).length:Int);decide),?_⟩)
   | (refine And.intro ?_ ?_)
   | (intro u5 h5;have g5:∀k,Z2 u5 k->w.heap.size<=k:=λk hk=>g3 k (h5 k hk);clear h5)
   | (intro u17 h17;have g17:∀k,Z2 u17 k->w.heap.size<=k:=λk hk=>g15 k (h17 k hk);clear h17)
   | (intro u14 h14;clear h14)
   | exact⟨_,_,_,_,_,_,rfl,g1,g5,g17⟩
 ·rintro _ - ⟨u1,u3,u5,u14,u15,u17,rfl,g1,g5,g17⟩;simp only[Tree.goal,X.P,X.ev,SV.ev,CV.ev,Sc.ev,qz,QA,QB,QC,QD,QE,QF,QG,QH,QI,QJ,QK,QL,QM,Nat.reduceAdd,qy3,qy4];intro w3 hr3;refine⟨⟨kA,wA.take 2,[(sA,.slice none 0 0,.slice none 0 0)],wL.take 1,0,[],u1,u5,u14,u17,.slice none 0 0⟩,rfl,rfl,rfl,⟨hr3.at_ 7 rfl,hr3.at_ 5 rfl,(hr3.at_ 2 rfl:owns _ _ _ _ _).reads,hr3.at_ 0 rfl,Za _ _,Z152 _,λj _ h=>g1 j h,λj _ h=>g5 j h,λj _ h=>Z30 hr3 2 rfl j h,λj _ h=>g17 j h,λj h=>absurd rfl h,λj hj=>absurd hj (Zs8 j)⟩,hr3.mod⟩
end Go.Proofs.Y
namespace Go.Proofs.Y
open Go Go.Sx
def CbI(x:TelX)(e0:Int)(e:Int)(i:Nat):Prop:=i<=x.sx.length/\(¬e0=0->e=e0)/\(e0=0->(e=0->Zco (prvS x.sx i) ((x.sx.drop i).map (·.1))=Zco none (x.sx.map (·.1)))/\(¬e=0->Zco none (x.sx.map (·.1))=e))
theorem Zxd{x:TelX}(h1:chkK x.kept=0)(h2:Zj x.wants=0)(h3:¬Z5p x.tel.sess=0):chkB x.tel=Z5p x.tel.sess:=by rw[chkB,if_neg (qy9.2 (show chkK x.tel.kept=0 from h1)),if_neg (qy9.2 (show Zj x.tel.wants=0 from h2)),if_pos h3]
theorem Zkf{x:TelX}(h1:chkK x.kept=0)(h2:Zj x.wants=0)(h3:Z5p x.tel.sess=0):chkB x.tel=if ¬Z17 x.wat=0 then Z17 x.wat else if Z19 x.tel=true then 4 else if x.next<0\/65535<x.next then 3 else 0:=by rw[chkB,if_neg (qy9.2 (show chkK x.tel.kept=0 from h1)),if_neg (qy9.2 (show Zj x.tel.wants=0 from h2)),if_neg (qy9.2 h3)];rfl
theorem CbI.out{x:TelX}{e0 e:Int}{i:Nat}(h:CbI x e0 e i)(hb:¬e0=0->chkB x.tel=e0)(hz:e0=0->chkK x.kept=0/\Zj x.wants=0/\¬6<(x.sx.length:Int))(he:¬e=0):chkB x.tel=e:=by
  by_cases h0:e0=0
  . obtain⟨h1,h2,h3⟩:=hz h0;have h4:=(h.2.2 h0).2 he;have h5:Z5p x.tel.sess=e:=by rw[Z5p,if_neg (by rw[show x.tel.sess=x.sx.map (·.1) from rfl,qy3];exact h3)];exact h4
    rw[Zxd h1 h2 (by rw[h5];exact he),h5]
  . rw[hb h0,h.2.1 h0]
theorem CbI.ok{x:TelX}{e0:Int}{i:Nat}(h:CbI x e0 0 i)(hz:e0=0->chkK x.kept=0/\Zj x.wants=0/\¬6<(x.sx.length:Int))(hi:i=x.sx.length):chkK x.kept=0/\Zj x.wants=0/\Z5p x.tel.sess=0:=by have h0:e0=0:=Classical.byContradiction λh0=>h0 (h.2.1 h0).symm;obtain⟨h1,h2,h3⟩:=hz h0;refine⟨h1,h2,?_⟩;have h4:=(h.2.2 h0).1 rfl;rw[hi,List.drop_length]at h4;rw[Z5p,if_neg (by rw[show x.tel.sess=x.sx.map (·.1) from rfl,qy3];exact h3)];exact h4.symm
theorem CbI.next{x:TelX}{e0:Int}{i:Nat}(h:CbI x e0 0 i)(hi:i<x.sx.length) : (¬chkS (x.sx.getD i sxD).1=0->CbI x e0 (chkS (x.sx.getD i sxD).1) (i+1)) /\ (chkS (x.sx.getD i sxD).1=0->0<(i:Int)->¬Zd (x.sx.getD (i - 1) sxD).1.cl (x.sx.getD i sxD).1.cl=true->CbI x e0 4 (i+1)) /\ (chkS (x.sx.getD i sxD).1=0->(0<(i:Int)->Zd (x.sx.getD (i - 1) sxD).1.cl (x.sx.getD i sxD).1.cl=true)->CbI x e0 0 (i+1)):=by
  have hq:Zd (x.sx.getD (i - 1) sxD).1.cl (x.sx.getD i sxD).1.cl=false↔(Zd (x.sx.getD i sxD).1.cl (x.sx.getD (i - 1) sxD).1.cl=true\/(x.sx.getD i sxD).1.cl=(x.sx.getD (i - 1) sxD).1.cl):=Z5b;have h0:e0=0:=Classical.byContradiction λh0=>h0 (h.2.1 h0).symm;have h4:=(h.2.2 h0).1 rfl;rw[Zib hi]at h4;refine⟨λa=>⟨by omega,λb=>absurd h0 b,λ_=>⟨λc=>absurd c a,λ_=>?_⟩⟩,λa b c=>⟨by omega,λd=>absurd h0 d,λ_=>⟨λd=>absurd d (by decide),λ_=>?_⟩⟩,λa b=>⟨by omega,λc=>absurd h0 c,λ_=>⟨λ_=>?_,λc=>absurd rfl c⟩⟩⟩
  . rw[if_pos a]at h4;exact h4.symm
  . rw[if_neg (qy9.2 a),if_pos ⟨b,hq.1 (Bool.eq_false_iff.2 c)⟩]at h4;exact h4.symm
  . rw[if_neg (qy9.2 a),if_neg (λ⟨c,d⟩=>by have:=hq.2 d;rw[b c]at this;cases this)]at h4;exact h4
theorem Zh5(w:World)(x:TelX)(hx:RdX w x)(ho:x.ox=[])(hs:SmlB x) : Calls Tryz.prog 7 #[bkV x] w λe w'=>e=.returned (.int .i64 (chkB x.tel))/\Mod [] w w':=by
  refine Z1 (Z3 (J:=bkA x) sxE_ok Tryz.func7 Z4p rfl rfl hx.rel rfl rfl ?_) rfl;simp only[Tree.goal,X.P,X.ev,SV.ev,CV.ev,Sc.ev,qz,QA,QB,QC,QD,QE,QF,QG,QH,QI,QJ,QK,QL,QM,Nat.reduceAdd,qy3,qy4];have hsx:x.tel.sess=x.sx.map (·.1):=rfl;have hal:=hs.watL;have hsl:=hs.sessL;have hwl:=hs.wantsL;intro b10;refine⟨[.i (chkK x.kept)],rfl,λ_ w' hr=>Zn8 w' x.kv x.kept (hr.at_ 1 rfl) hs.kept hs.keptL,?_⟩;simp only[Tree.goal,X.P,X.ev,SV.ev,CV.ev,Sc.ev,qz,QA,QB,QC,QD,QE,QF,QG,QH,QI,QJ,QK,QL,QM,Nat.reduceAdd,qy3,qy4];refine⟨λh1=>?_,λh1=>?_⟩
  . refine⟨[.i (Zj x.wants)],rfl,λ_ w' hr=>Zmd w' x.wv x.wants (hr.at_ 2 rfl) hs.wants hs.wantsL,?_⟩;simp only[Tree.goal,X.P,X.ev,SV.ev,CV.ev,Sc.ev,qz,QA,QB,QC,QD,QE,QF,QG,QH,QI,QJ,QK,QL,QM,Nat.reduceAdd,qy3,qy4];refine⟨λh2=>?_,λh2=>?_⟩
    . have hb:¬(2:Int)=0->chkB x.tel=2:=λ_=>by have:Z5p x.tel.sess=2:=by { rw[Z5p,if_pos (by rw[hsx,qy3];exact h2.2)] };rw[Zxd h1 h2.1 (by rw[this];decide),this]
      have hz:(2:Int)=0->chkK x.kept=0/\Zj x.wants=0/\¬6<(x.sx.length:Int):=λh=>absurd h (by decide);refine⟨λvs=>∃(e:Int) (i:Nat),vs=[.i e,.i i]/\CbI x (2) e i,λvs=>x.sx.length - (vs.getD 1 (.i 0)).toI.toNat,⟨_,0,rfl,Nat.zero_le _,λ_=>rfl,λ_=>⟨λ_=>rfl,λh=>absurd (by assumption) h⟩⟩,?_⟩;rintro _ - ⟨e,i,rfl,hg⟩;have hi:=hg.1;simp only[Tree.goal,X.P,X.ev,SV.ev,CV.ev,Sc.ev,qz,QA,QB,QC,QD,QE,QF,QG,QH,QI,QJ,QK,QL,QM,Nat.reduceAdd,qy3,qy4,gSx0];have hi1:((i:Int) - 1).toNat=i - 1:=by omega
      try rw[hi1]
      refine⟨λh3=>⟨by omega,?_⟩,λh3=>⟨λh4=>?_,λh4 w' hr=>⟨by rw[hg.out hb hz h4],hr.mod⟩⟩⟩
      . have hi':i<x.sx.length:=by omega
        have he:e=0:=h3.2;subst he;obtain⟨n1,n2,n3⟩:=hg.next hi';have hrow:=Z3n hi';obtain⟨s1,s2,s3,s4,s5⟩:=hs.sess _ (Z3u hi');refine⟨[.i (chkS (x.sx.getD i sxD).1)],rfl,λ_ w' hr=>?_,?_⟩
        . have hn:=Zn (by rw[<- ho];exact hr.at_ 4 rfl:(Z6 x.sx []).holds w') (Z3u hi');refine Z1 (Z6d w' (x.sx.getD i sxD).1 (x.sx.getD i sxD).2.1 (x.sx.getD i sxD).2.2 hn.1 hn.2 s1 s2 s3 s4 s5) ?_;simp only[Tree.goal,X.P,X.ev,SV.ev,CV.ev,Sc.ev,qz,QA,QB,QC,QD,QE,QF,QG,QH,QI,QJ,QK,QL,QM,Nat.reduceAdd,qy3,qy4,hrow,Zc,List.getD_cons_zero,List.getD_cons_succ,Value.gI,Value.gB,Value.gS,Zw,sesV]
        simp only[Tree.goal,X.P,X.ev,SV.ev,CV.ev,Sc.ev,qz,QA,QB,QC,QD,QE,QF,QG,QH,QI,QJ,QK,QL,QM,Nat.reduceAdd,qy3,qy4,gSx0];try rw[hi1]
        refine⟨by omega,by omega,by omega,by omega,[.b (Zd (x.sx.getD (i - 1) sxD).1.cl (x.sx.getD i sxD).1.cl)],rfl,λhgd w' _=>Z35 w' _ _ (by
          have h8:i - 1<x.sx.length:=by omega
          exact(hs.sess _ (Z3u h8)).2.2.2.2),?_⟩
        simp only[Tree.goal,X.P,X.ev,SV.ev,CV.ev,Sc.ev,qz,QA,QB,QC,QD,QE,QF,QG,QH,QI,QJ,QK,QL,QM,Nat.reduceAdd,qy3,qy4];refine⟨λh5=>⟨by omega,by omega,⟨4,i+1,rfl,n2 h5.1.1 h5.1.2 h5.2⟩,by omega⟩,λh5=>⟨by omega,by omega,⟨_,i+1,rfl,?_⟩,by omega⟩⟩;by_cases h6:chkS (x.sx.getD i sxD).1=0
        . rw[h6];exact n3 h6 λh7=>Classical.byContradiction λh8=>h5 ⟨⟨h6,h7⟩,h8⟩
        . exact n1 h6
      have he:e=0:=h4;subst he;obtain⟨k1,k2,k3⟩:=hg.ok hz (by omega);rw[Zkf k1 k2 k3];refine⟨[.i (Z17 x.wat)],rfl,λ_ w' hr=>Z6c w' x.av x.wat (hr.at_ 5 rfl) hs.wat (by omega),?_⟩;simp only[Tree.goal,X.P,X.ev,SV.ev,CV.ev,Sc.ev,qz,QA,QB,QC,QD,QE,QF,QG,QH,QI,QJ,QK,QL,QM,Nat.reduceAdd,qy3,qy4];refine⟨λh5 w' hr=>⟨by rw[if_pos h5],hr.mod⟩,λh5=>?_⟩;rw[if_neg h5];refine⟨λvs=>∃(y:V) (i:Nat),vs=[y,.i i]/\i<=x.wants.length/\∀j,j<i->hasS x.tel.sess (x.wants.getD j wD_V).1=true,λvs=>x.wants.length - (vs.getD 1 (.i 0)).toI.toNat,⟨_,0,rfl,by omega,λj hj=>by omega⟩,?_⟩;rintro _ - ⟨y0,i,rfl,hi,hall⟩;simp only[Tree.goal,X.P,X.ev,SV.ev,CV.ev,Sc.ev,qz,QA,QB,QC,QD,QE,QF,QG,QH,QI,QJ,QK,QL,QM,Nat.reduceAdd,qy3,qy4,Z10];refine⟨λh6=>⟨by omega,?_⟩,λh6=>?_⟩
      . refine⟨[.i (atS x.tel.sess (x.wants.getD i wD_V).1)],rfl,λ_ w' hr=>Z31 w' x.sv x.sx _ (hr.at_ 3 rfl) (Z70.1 k3).2.2 (by have:=hs.sessL;omega),?_⟩;simp only[Tree.goal,X.P,X.ev,SV.ev,CV.ev,Sc.ev,qz,QA,QB,QC,QD,QE,QF,QG,QH,QI,QJ,QK,QL,QM,Nat.reduceAdd,qy3,qy4];refine⟨λh7 w' hr=>⟨?_,hr.mod⟩,λh7=>⟨by omega,by omega,⟨_,i+1,rfl,by omega,λj hj=>?_⟩,by omega⟩⟩
        . have h8:¬hasS x.tel.sess (x.wants.getD i wD_V).1=true:=λh=>by rw[atS,if_pos h]at h7;omega
          have:Z19 x.tel=true:=by rw[Z19,Bool.or_eq_true];exact .inl (Z64 wD_V (l:=x.wants) (i:=i) (by omega) (by simpa using h8))
          rw[if_pos this]
        . by_cases hij:j=i
          . subst hij;exact Classical.byContradiction λh=>h7 (by rw[atS,if_neg h];decide)
          . exact hall j (by omega)
      have hie:i=x.wants.length:=by omega
      subst hie;have ha1:(x.tel.wants.any λw=>!hasS x.tel.sess w.1)=false:=Zdf wD_V λj hj=>by rw[show hasS x.tel.sess (x.tel.wants.getD j wD_V).1=true from hall j hj];rfl
      refine⟨λvs=>∃(y:V) (i:Nat),vs=[y,.i i]/\i<=x.wat.length/\∀j,j<i->hasK x.kept (x.wat.getD j wD_K).2.2.1=true,λvs=>x.wat.length - (vs.getD 1 (.i 0)).toI.toNat,⟨_,0,rfl,by omega,λj hj=>by omega⟩,?_⟩;rintro _ - ⟨y1,i,rfl,hi1,hall1⟩;simp only[Tree.goal,X.P,X.ev,SV.ev,CV.ev,Sc.ev,qz,QA,QB,QC,QD,QE,QF,QG,QH,QI,QJ,QK,QL,QM,Nat.reduceAdd,qy3,qy4,Z1d];refine⟨λh6=>⟨by omega,?_⟩,λh6=>?_⟩
      . refine⟨[.i (if hasK x.kept (x.wat.getD i wD_K).2.2.1=true then(idx x.kept (x.wat.getD i wD_K).2.2.1:Int)else -1)],rfl,λ_ w' hr=>Zjj w' x.kv x.kept _ (hr.at_ 1 rfl) (Zz.1 k1).2.2 hs.keptL,?_⟩;simp only[Tree.goal,X.P,X.ev,SV.ev,CV.ev,Sc.ev,qz,QA,QB,QC,QD,QE,QF,QG,QH,QI,QJ,QK,QL,QM,Nat.reduceAdd,qy3,qy4];refine⟨λh7 w' hr=>⟨?_,hr.mod⟩,λh7=>⟨by omega,by omega,⟨_,i+1,rfl,by omega,λj hj=>?_⟩,by omega⟩⟩
        . have h8:¬hasK x.kept (x.wat.getD i wD_K).2.2.1=true:=λh=>by rw[if_pos h]at h7;omega
          have:Z19 x.tel=true:=by rw[Z19,Bool.or_eq_true];exact .inr (Z64 wD_K (l:=x.wat) (i:=i) (by omega) (by rw[show hasK x.tel.kept (x.wat.getD i wD_K).2.2.1=false from Bool.eq_false_iff.2 h8];rfl))
          rw[if_pos this]
        . by_cases hij:j=i
          . subst hij;exact Classical.byContradiction λh=>h7 (by rw[if_neg h];decide)
          . exact hall1 j (by omega)
      have hie:i=x.wat.length:=by omega
      subst hie;have ha2:(x.tel.wat.any λw=>!hasK x.tel.kept w.2.2.1)=false:=Zdf wD_K λj hj=>by rw[show hasK x.tel.kept (x.tel.wat.getD j wD_K).2.2.1=true from hall1 j hj];rfl
      have hst:¬Z19 x.tel=true:=by rw[Z19,ha1,ha2];decide
      rw[if_neg hst];refine⟨λh7 w' hr=>⟨by rw[if_pos (by omega)],hr.mod⟩,λh7 w' hr=>⟨by rw[if_neg (by omega)],hr.mod⟩⟩
    . have hb:¬(Zj x.wants:Int)=0->chkB x.tel=Zj x.wants:=λh=>by rw[chkB,if_neg (qy9.2 (show chkK x.tel.kept=0 from h1)),if_pos (show ¬Zj x.tel.wants=0 from h)];rfl
      have hz:(Zj x.wants:Int)=0->chkK x.kept=0/\Zj x.wants=0/\¬6<(x.sx.length:Int):=λh=>⟨h1,h,λh3=>h2 ⟨h,h3⟩⟩
      refine⟨λvs=>∃(e:Int) (i:Nat),vs=[.i e,.i i]/\CbI x (Zj x.wants) e i,λvs=>x.sx.length - (vs.getD 1 (.i 0)).toI.toNat,⟨_,0,rfl,Nat.zero_le _,λ_=>rfl,λ_=>⟨λ_=>rfl,λh=>absurd (by assumption) h⟩⟩,?_⟩;rintro _ - ⟨e,i,rfl,hg⟩;have hi:=hg.1;simp only[Tree.goal,X.P,X.ev,SV.ev,CV.ev,Sc.ev,qz,QA,QB,QC,QD,QE,QF,QG,QH,QI,QJ,QK,QL,QM,Nat.reduceAdd,qy3,qy4,gSx0];have hi1:((i:Int) - 1).toNat=i - 1:=by omega
      try rw[hi1]
      refine⟨λh3=>⟨by omega,?_⟩,λh3=>⟨λh4=>?_,λh4 w' hr=>⟨by rw[hg.out hb hz h4],hr.mod⟩⟩⟩
      . have hi':i<x.sx.length:=by omega
        have he:e=0:=h3.2;subst he;obtain⟨n1,n2,n3⟩:=hg.next hi';have hrow:=Z3n hi';obtain⟨s1,s2,s3,s4,s5⟩:=hs.sess _ (Z3u hi');refine⟨[.i (chkS (x.sx.getD i sxD).1)],rfl,λ_ w' hr=>?_,?_⟩
        . have hn:=Zn (by rw[<- ho];exact hr.at_ 4 rfl:(Z6 x.sx []).holds w') (Z3u hi');refine Z1 (Z6d w' (x.sx.getD i sxD).1 (x.sx.getD i sxD).2.1 (x.sx.getD i sxD).2.2 hn.1 hn.2 s1 s2 s3 s4 s5) ?_;simp only[Tree.goal,X.P,X.ev,SV.ev,CV.ev,Sc.ev,qz,QA,QB,QC,QD,QE,QF,QG,QH,QI,QJ,QK,QL,QM,Nat.reduceAdd,qy3,qy4,hrow,Zc,List.getD_cons_zero,List.getD_cons_succ,Value.gI,Value.gB,Value.gS,Zw,sesV]
        simp only[Tree.goal,X.P,X.ev,SV.ev,CV.ev,Sc.ev,qz,QA,QB,QC,QD,QE,QF,QG,QH,QI,QJ,QK,QL,QM,Nat.reduceAdd,qy3,qy4,gSx0];try rw[hi1]
        refine⟨by omega,by omega,by omega,by omega,[.b (Zd (x.sx.getD (i - 1) sxD).1.cl (x.sx.getD i sxD).1.cl)],rfl,λhgd w' _=>Z35 w' _ _ (by
          have h8:i - 1<x.sx.length:=by omega
          exact(hs.sess _ (Z3u h8)).2.2.2.2),?_⟩
        simp only[Tree.goal,X.P,X.ev,SV.ev,CV.ev,Sc.ev,qz,QA,QB,QC,QD,QE,QF,QG,QH,QI,QJ,QK,QL,QM,Nat.reduceAdd,qy3,qy4];refine⟨λh5=>⟨by omega,by omega,⟨4,i+1,rfl,n2 h5.1.1 h5.1.2 h5.2⟩,by omega⟩,λh5=>⟨by omega,by omega,⟨_,i+1,rfl,?_⟩,by omega⟩⟩;by_cases h6:chkS (x.sx.getD i sxD).1=0
        . rw[h6];exact n3 h6 λh7=>Classical.byContradiction λh8=>h5 ⟨⟨h6,h7⟩,h8⟩
        . exact n1 h6
      have he:e=0:=h4;subst he;obtain⟨k1,k2,k3⟩:=hg.ok hz (by omega);rw[Zkf k1 k2 k3];refine⟨[.i (Z17 x.wat)],rfl,λ_ w' hr=>Z6c w' x.av x.wat (hr.at_ 5 rfl) hs.wat (by omega),?_⟩;simp only[Tree.goal,X.P,X.ev,SV.ev,CV.ev,Sc.ev,qz,QA,QB,QC,QD,QE,QF,QG,QH,QI,QJ,QK,QL,QM,Nat.reduceAdd,qy3,qy4];refine⟨λh5 w' hr=>⟨by rw[if_pos h5],hr.mod⟩,λh5=>?_⟩;rw[if_neg h5];refine⟨λvs=>∃(y:V) (i:Nat),vs=[y,.i i]/\i<=x.wants.length/\∀j,j<i->hasS x.tel.sess (x.wants.getD j wD_V).1=true,λvs=>x.wants.length - (vs.getD 1 (.i 0)).toI.toNat,⟨_,0,rfl,by omega,λj hj=>by omega⟩,?_⟩;rintro _ - ⟨y0,i,rfl,hi,hall⟩;simp only[Tree.goal,X.P,X.ev,SV.ev,CV.ev,Sc.ev,qz,QA,QB,QC,QD,QE,QF,QG,QH,QI,QJ,QK,QL,QM,Nat.reduceAdd,qy3,qy4,Z10];refine⟨λh6=>⟨by omega,?_⟩,λh6=>?_⟩
      . refine⟨[.i (atS x.tel.sess (x.wants.getD i wD_V).1)],rfl,λ_ w' hr=>Z31 w' x.sv x.sx _ (hr.at_ 3 rfl) (Z70.1 k3).2.2 (by have:=hs.sessL;omega),?_⟩;simp only[Tree.goal,X.P,X.ev,SV.ev,CV.ev,Sc.ev,qz,QA,QB,QC,QD,QE,QF,QG,QH,QI,QJ,QK,QL,QM,Nat.reduceAdd,qy3,qy4];refine⟨λh7 w' hr=>⟨?_,hr.mod⟩,λh7=>⟨by omega,by omega,⟨_,i+1,rfl,by omega,λj hj=>?_⟩,by omega⟩⟩
        . have h8:¬hasS x.tel.sess (x.wants.getD i wD_V).1=true:=λh=>by rw[atS,if_pos h]at h7;omega
          have:Z19 x.tel=true:=by rw[Z19,Bool.or_eq_true];exact .inl (Z64 wD_V (l:=x.wants) (i:=i) (by omega) (by simpa using h8))
          rw[if_pos this]
        . by_cases hij:j=i
          . subst hij;exact Classical.byContradiction λh=>h7 (by rw[atS,if_neg h];decide)
          . exact hall j (by omega)
      have hie:i=x.wants.length:=by omega
      subst hie;have ha1:(x.tel.wants.any λw=>!hasS x.tel.sess w.1)=false:=Zdf wD_V λj hj=>by rw[show hasS x.tel.sess (x.tel.wants.getD j wD_V).1=true from hall j hj];rfl
      refine⟨λvs=>∃(y:V) (i:Nat),vs=[y,.i i]/\i<=x.wat.length/\∀j,j<i->hasK x.kept (x.wat.getD j wD_K).2.2.1=true,λvs=>x.wat.length - (vs.getD 1 (.i 0)).toI.toNat,⟨_,0,rfl,by omega,λj hj=>by omega⟩,?_⟩;rintro _ - ⟨y1,i,rfl,hi1,hall1⟩;simp only[Tree.goal,X.P,X.ev,SV.ev,CV.ev,Sc.ev,qz,QA,QB,QC,QD,QE,QF,QG,QH,QI,QJ,QK,QL,QM,Nat.reduceAdd,qy3,qy4,Z1d];refine⟨λh6=>⟨by omega,?_⟩,λh6=>?_⟩
      . refine⟨[.i (if hasK x.kept (x.wat.getD i wD_K).2.2.1=true then(idx x.kept (x.wat.getD i wD_K).2.2.1:Int)else -1)],rfl,λ_ w' hr=>Zjj w' x.kv x.kept _ (hr.at_ 1 rfl) (Zz.1 k1).2.2 hs.keptL,?_⟩;simp only[Tree.goal,X.P,X.ev,SV.ev,CV.ev,Sc.ev,qz,QA,QB,QC,QD,QE,QF,QG,QH,QI,QJ,QK,QL,QM,Nat.reduceAdd,qy3,qy4];refine⟨λh7 w' hr=>⟨?_,hr.mod⟩,λh7=>⟨by omega,by omega,⟨_,i+1,rfl,by omega,λj hj=>?_⟩,by omega⟩⟩
        . have h8:¬hasK x.kept (x.wat.getD i wD_K).2.2.1=true:=λh=>by rw[if_pos h]at h7;omega
          have:Z19 x.tel=true:=by rw[Z19,Bool.or_eq_true];exact .inr (Z64 wD_K (l:=x.wat) (i:=i) (by omega) (by rw[show hasK x.tel.kept (x.wat.getD i wD_K).2.2.1=false from Bool.eq_false_iff.2 h8];rfl))
          rw[if_pos this]
        . by_cases hij:j=i
          . subst hij;exact Classical.byContradiction λh=>h7 (by rw[if_neg h];decide)
          . exact hall1 j (by omega)
      have hie:i=x.wat.length:=by omega
      subst hie;have ha2:(x.tel.wat.any λw=>!hasK x.tel.kept w.2.2.1)=false:=Zdf wD_K λj hj=>by rw[show hasK x.tel.kept (x.tel.wat.getD j wD_K).2.2.1=true from hall1 j hj];rfl
      have hst:¬Z19 x.tel=true:=by rw[Z19,ha1,ha2];decide
      rw[if_neg hst];refine⟨λh7 w' hr=>⟨by rw[if_pos (by omega)],hr.mod⟩,λh7 w' hr=>⟨by rw[if_neg (by omega)],hr.mod⟩⟩
  . have hb:¬(chkK x.kept:Int)=0->chkB x.tel=chkK x.kept:=λh=>by rw[chkB,if_pos (show ¬chkK x.tel.kept=0 from h)];rfl
    have hz:(chkK x.kept:Int)=0->chkK x.kept=0/\Zj x.wants=0/\¬6<(x.sx.length:Int):=λh=>absurd h h1;refine⟨λvs=>∃(e:Int) (i:Nat),vs=[.i e,.i i]/\CbI x (chkK x.kept) e i,λvs=>x.sx.length - (vs.getD 1 (.i 0)).toI.toNat,⟨_,0,rfl,Nat.zero_le _,λ_=>rfl,λ_=>⟨λ_=>rfl,λh=>absurd (by assumption) h⟩⟩,?_⟩;rintro _ - ⟨e,i,rfl,hg⟩;have hi:=hg.1;simp only[Tree.goal,X.P,X.ev,SV.ev,CV.ev,Sc.ev,qz,QA,QB,QC,QD,QE,QF,QG,QH,QI,QJ,QK,QL,QM,Nat.reduceAdd,qy3,qy4,gSx0];have hi1:((i:Int) - 1).toNat=i - 1:=by omega
    try rw[hi1]
    refine⟨λh3=>⟨by omega,?_⟩,λh3=>⟨λh4=>?_,λh4 w' hr=>⟨by rw[hg.out hb hz h4],hr.mod⟩⟩⟩
    . have hi':i<x.sx.length:=by omega
      have he:e=0:=h3.2;subst he;obtain⟨n1,n2,n3⟩:=hg.next hi';have hrow:=Z3n hi';obtain⟨s1,s2,s3,s4,s5⟩:=hs.sess _ (Z3u hi');refine⟨[.i (chkS (x.sx.getD i sxD).1)],rfl,λ_ w' hr=>?_,?_⟩
      . have hn:=Zn (by rw[<- ho];exact hr.at_ 4 rfl:(Z6 x.sx []).holds w') (Z3u hi');refine Z1 (Z6d w' (x.sx.getD i sxD).1 (x.sx.getD i sxD).2.1 (x.sx.getD i sxD).2.2 hn.1 hn.2 s1 s2 s3 s4 s5) ?_;simp only[Tree.goal,X.P,X.ev,SV.ev,CV.ev,Sc.ev,qz,QA,QB,QC,QD,QE,QF,QG,QH,QI,QJ,QK,QL,QM,Nat.reduceAdd,qy3,qy4,hrow,Zc,List.getD_cons_zero,List.getD_cons_succ,Value.gI,Value.gB,Value.gS,Zw,sesV]
      simp only[Tree.goal,X.P,X.ev,SV.ev,CV.ev,Sc.ev,qz,QA,QB,QC,QD,QE,QF,QG,QH,QI,QJ,QK,QL,QM,Nat.reduceAdd,qy3,qy4,gSx0];try rw[hi1]
      refine⟨by omega,by omega,by omega,by omega,[.b (Zd (x.sx.getD (i - 1) sxD).1.cl (x.sx.getD i sxD).1.cl)],rfl,λhgd w' _=>Z35 w' _ _ (by
        have h8:i - 1<x.sx.length:=by omega
        exact(hs.sess _ (Z3u h8)).2.2.2.2),?_⟩
      simp only[Tree.goal,X.P,X.ev,SV.ev,CV.ev,Sc.ev,qz,QA,QB,QC,QD,QE,QF,QG,QH,QI,QJ,QK,QL,QM,Nat.reduceAdd,qy3,qy4];refine⟨λh5=>⟨by omega,by omega,⟨4,i+1,rfl,n2 h5.1.1 h5.1.2 h5.2⟩,by omega⟩,λh5=>⟨by omega,by omega,⟨_,i+1,rfl,?_⟩,by omega⟩⟩;by_cases h6:chkS (x.sx.getD i sxD).1=0
      . rw[h6];exact n3 h6 λh7=>Classical.byContradiction λh8=>h5 ⟨⟨h6,h7⟩,h8⟩
      . exact n1 h6
    have he:e=0:=h4;subst he;obtain⟨k1,k2,k3⟩:=hg.ok hz (by omega);rw[Zkf k1 k2 k3];refine⟨[.i (Z17 x.wat)],rfl,λ_ w' hr=>Z6c w' x.av x.wat (hr.at_ 5 rfl) hs.wat (by omega),?_⟩;simp only[Tree.goal,X.P,X.ev,SV.ev,CV.ev,Sc.ev,qz,QA,QB,QC,QD,QE,QF,QG,QH,QI,QJ,QK,QL,QM,Nat.reduceAdd,qy3,qy4];refine⟨λh5 w' hr=>⟨by rw[if_pos h5],hr.mod⟩,λh5=>?_⟩;rw[if_neg h5];refine⟨λvs=>∃(y:V) (i:Nat),vs=[y,.i i]/\i<=x.wants.length/\∀j,j<i->hasS x.tel.sess (x.wants.getD j wD_V).1=true,λvs=>x.wants.length - (vs.getD 1 (.i 0)).toI.toNat,⟨_,0,rfl,by omega,λj hj=>by omega⟩,?_⟩;rintro _ - ⟨y0,i,rfl,hi,hall⟩;simp only[Tree.goal,X.P,X.ev,SV.ev,CV.ev,Sc.ev,qz,QA,QB,QC,QD,QE,QF,QG,QH,QI,QJ,QK,QL,QM,Nat.reduceAdd,qy3,qy4,Z10];refine⟨λh6=>⟨by omega,?_⟩,λh6=>?_⟩
    . refine⟨[.i (atS x.tel.sess (x.wants.getD i wD_V).1)],rfl,λ_ w' hr=>Z31 w' x.sv x.sx _ (hr.at_ 3 rfl) (Z70.1 k3).2.2 (by have:=hs.sessL;omega),?_⟩;simp only[Tree.goal,X.P,X.ev,SV.ev,CV.ev,Sc.ev,qz,QA,QB,QC,QD,QE,QF,QG,QH,QI,QJ,QK,QL,QM,Nat.reduceAdd,qy3,qy4];refine⟨λh7 w' hr=>⟨?_,hr.mod⟩,λh7=>⟨by omega,by omega,⟨_,i+1,rfl,by omega,λj hj=>?_⟩,by omega⟩⟩
      . have h8:¬hasS x.tel.sess (x.wants.getD i wD_V).1=true:=λh=>by rw[atS,if_pos h]at h7;omega
        have:Z19 x.tel=true:=by rw[Z19,Bool.or_eq_true];exact .inl (Z64 wD_V (l:=x.wants) (i:=i) (by omega) (by simpa using h8))
        rw[if_pos this]
      . by_cases hij:j=i
        . subst hij;exact Classical.byContradiction λh=>h7 (by rw[atS,if_neg h];decide)
        . exact hall j (by omega)
    have hie:i=x.wants.length:=by omega
    subst hie;have ha1:(x.tel.wants.any λw=>!hasS x.tel.sess w.1)=false:=Zdf wD_V λj hj=>by rw[show hasS x.tel.sess (x.tel.wants.getD j wD_V).1=true from hall j hj];rfl
    refine⟨λvs=>∃(y:V) (i:Nat),vs=[y,.i i]/\i<=x.wat.length/\∀j,j<i->hasK x.kept (x.wat.getD j wD_K).2.2.1=true,λvs=>x.wat.length - (vs.getD 1 (.i 0)).toI.toNat,⟨_,0,rfl,by omega,λj hj=>by omega⟩,?_⟩;rintro _ - ⟨y1,i,rfl,hi1,hall1⟩;simp only[Tree.goal,X.P,X.ev,SV.ev,CV.ev,Sc.ev,qz,QA,QB,QC,QD,QE,QF,QG,QH,QI,QJ,QK,QL,QM,Nat.reduceAdd,qy3,qy4,Z1d];refine⟨λh6=>⟨by omega,?_⟩,λh6=>?_⟩
    . refine⟨[.i (if hasK x.kept (x.wat.getD i wD_K).2.2.1=true then(idx x.kept (x.wat.getD i wD_K).2.2.1:Int)else -1)],rfl,λ_ w' hr=>Zjj w' x.kv x.kept _ (hr.at_ 1 rfl) (Zz.1 k1).2.2 hs.keptL,?_⟩;simp only[Tree.goal,X.P,X.ev,SV.ev,CV.ev,Sc.ev,qz,QA,QB,QC,QD,QE,QF,QG,QH,QI,QJ,QK,QL,QM,Nat.reduceAdd,qy3,qy4];refine⟨λh7 w' hr=>⟨?_,hr.mod⟩,λh7=>⟨by omega,by omega,⟨_,i+1,rfl,by omega,λj hj=>?_⟩,by omega⟩⟩
      . have h8:¬hasK x.kept (x.wat.getD i wD_K).2.2.1=true:=λh=>by rw[if_pos h]at h7;omega
        have:Z19 x.tel=true:=by rw[Z19,Bool.or_eq_true];exact .inr (Z64 wD_K (l:=x.wat) (i:=i) (by omega) (by rw[show hasK x.tel.kept (x.wat.getD i wD_K).2.2.1=false from Bool.eq_false_iff.2 h8];rfl))
        rw[if_pos this]
      . by_cases hij:j=i
        . subst hij;exact Classical.byContradiction λh=>h7 (by rw[if_neg h];decide)
        . exact hall1 j (by omega)
    have hie:i=x.wat.length:=by omega
    subst hie;have ha2:(x.tel.wat.any λw=>!hasK x.tel.kept w.2.2.1)=false:=Zdf wD_K λj hj=>by rw[show hasK x.tel.kept (x.tel.wat.getD j wD_K).2.2.1=true from hall1 j hj];rfl
    have hst:¬Z19 x.tel=true:=by rw[Z19,ha1,ha2];decide
    rw[if_neg hst];refine⟨λh7 w' hr=>⟨by rw[if_pos (by omega)],hr.mod⟩,λh7 w' hr=>⟨by rw[if_neg (by omega)],hr.mod⟩⟩
theorem Z125:chkB smT=0:=by decide +kernel
theorem Zaa:SmlT smT:=.of (Z8z.1 Z125)
abbrev annB:List UInt8:=[97,110,110]
theorem Z17c:pktE annB pubP smT=0:=by decide +kernel
theorem Z17d:msgE 3 mGet smT=0:=by decide +kernel
theorem Z153:gonE annB smT=0:=by decide +kernel
theorem Zxe:(Z14 annB pubP smT).sess.length=1/\((Z14 annB pubP smT).sess.getD 0 s0).fl.length=1/\(Z14 annB pubP smT).out.length=3/\((Z14 annB pubP smT).out.getD 0 sntD.1).pk.kind=4/\((Z14 annB pubP smT).out.getD 2 sntD.1).msg.pay=[104,105]:=by decide +kernel
theorem Zxf:(Z7o 3 mGet smT).wat.length=2/\(Z7o 3 mGet smT).out.length=1/\((Z7o 3 mGet smT).out.getD 0 sntD.1).msg.code=69:=by decide +kernel
theorem Zs9:(Z5o annB smT).sess.length=1/\((Z5o annB smT).sess.getD 0 s0).on=false:=by decide +kernel
abbrev pbV(p:Pkt):List V:=[.i p.kind,.b p.dup,.b p.retain,.b p.clean,.b p.session,.i p.qos,.i p.id,.i p.keep,.i p.code,.s p.client,.s p.topic,.s p.payload,.v (.slice none 0 0),.r [],.v (.slice none 0 0),.r []]
theorem Z154(t:Tel):resB 0 t=t:=if_pos rfl
theorem Zkg(w:World):Calls Tryz.prog 12 #[] w λe w'=>e=.returned (.bool true)/\Mod [] w w':=by
 refine Z1 (Z9 (J:=[]) sxE_ok Tryz.func12 Z4o rfl rfl rfl ?_) rfl;simp only[Tree.goal,X.P,X.ev,SV.ev,CV.ev,Sc.ev,qz,QA,QB,QC,QD,QE,QF,QG,QH,QI,QJ,QK,QL,QM,Nat.reduceAdd,qy3,qy4];intro w1 hr1;refine(Zqb hr1 0 (Zke w1) rfl).mono ?_;rintro r w2 ⟨y1,t1,-,-,rfl,m1,m3,m4⟩;refine⟨smV y1,rfl,rfl,m1,qy5 _,m3,m4,?_⟩;clear m1 m3 m4 hr1;intro w3 hr3;refine(Z18c w3).mono ?_;rintro r w4 ⟨rfl,m1⟩;refine⟨pbV pubP,rfl,rfl,m1,qy5 _,qy2.2 ⟨⟨Za w4 _,λk hk=>absurd rfl hk.1⟩,qy2.2 ⟨⟨Za w4 _,λk hk=>absurd rfl hk.1⟩,qy5 _⟩⟩,Zbw (by simp[Ent.wr]),?_⟩;clear m1 hr3;intro w5 hr5;have b1:y1.bare.tel=smT:=by rw[Zbv,t1];rfl
 have hc:=Zmc w5 y1.bare annB pubP (.slice none 0 0) (.slice none 0 0) (Zxc ⟨hr5.at_ 2 rfl,hr5.at_ 3 rfl,hr5.at_ 4 rfl,Zd1 (y:=y1) (hr5.at_ 6 rfl),hr5.at_ 5 rfl⟩ (hr5.at_ 0 rfl) (hr5.at_ 1 rfl)) rfl (SmlT.b (by rw[b1];exact Zaa)) (SmlT.f (by rw[b1];exact Zaa)) (by decide) Zs7;rw[b1,Z17c,Z154]at hc;refine(Zxa hr5 26 hc rfl).mono ?_;rintro r w6 ⟨y2,t2,-,rfl,m1,m3,m4⟩;refine⟨brV y2 0,rfl,rfl,m1,qy5 _,m3,m4,?_⟩;clear m1 m3 m4 hr5 hc;intro b39 w7 hr7;refine(Zqb hr7 40 (Zke w7) rfl).mono ?_;rintro r w8 ⟨y3,t3,-,-,rfl,m1,m3,m4⟩;refine⟨smV y3,rfl,rfl,m1,qy5 _,m3,m4,?_⟩;clear m1 m3 m4 hr7;intro w9 hr9;refine(Z144 w9).mono ?_;rintro r w10 ⟨v4,rfl,r1,f1,m1⟩;refine⟨mgV mGet v4,rfl,rfl,m1,qy5 _,qy2.2 ⟨⟨r1,λk hk=>.inl (f1 k hk)⟩,qy5 _⟩,Z5,?_⟩;clear r1 f1 m1 hr9;intro w11 hr11;have b3:y3.bare.tel=smT:=by rw[Zbv,t3];rfl
 have hc:=Zs1 w11 y3.bare 3 mGet v4 (Z17b ⟨hr11.at_ 1 rfl,hr11.at_ 2 rfl,hr11.at_ 3 rfl,Zd1 (y:=y3) (hr11.at_ 5 rfl),hr11.at_ 4 rfl⟩ (hr11.at_ 0 rfl)) rfl (SmlT.b (by rw[b3];exact Zaa)) (SmlT.f (by rw[b3];exact Zaa)) (by decide) (by decide) (by decide);rw[b3,Z17d,Z154]at hc;refine(Zxa hr11 57 hc rfl).mono ?_;rintro r w12 ⟨y5,t5,-,rfl,m1,m3,m4⟩;refine⟨brV y5 0,rfl,rfl,m1,qy5 _,m3,m4,?_⟩;clear m1 m3 m4 hr11 hc;intro b70 w13 hr13;refine(Zqb hr13 71 (Zke w13) rfl).mono ?_;rintro r w14 ⟨y6,t6,-,-,rfl,m1,m3,m4⟩;refine⟨smV y6,rfl,rfl,m1,qy5 _,m3,m4,?_⟩;clear m1 m3 m4 hr13;intro w15 hr15;have b6:y6.bare.tel=smT:=by rw[Zbv,t6];rfl
 have hc:=Zwr w15 y6.bare annB (Z124 ⟨hr15.at_ 0 rfl,hr15.at_ 1 rfl,hr15.at_ 2 rfl,Zd1 (y:=y6) (hr15.at_ 4 rfl),hr15.at_ 3 rfl⟩) rfl (SmlT.b (by rw[b6];exact Zaa)) (SmlT.f (by rw[b6];exact Zaa)) (by decide);rw[b6,Z153,Z154]at hc;refine(Z123 hr15 81 hc rfl).mono ?_;rintro r w16 ⟨y7,t7,-,-,rfl,m1,m3,m4⟩;refine⟨gnV y7 0,rfl,rfl,m1,qy5 _,m3,m4,?_⟩;clear m1 m3 m4 hr15 hc;intro b92 w17 hr17;refine(Zqb hr17 93 (Zke w17) rfl).mono ?_;rintro r w18 ⟨y8,t8,-,-,rfl,m1,m3,m4⟩;refine⟨smV y8,rfl,rfl,m1,qy5 _,m3,m4,?_⟩;clear m1 m3 m4 hr17;have b8:y8.bare.tel=smT:=by rw[Zbv,t8];rfl
 refine⟨[.i 0],rfl,λ_ w' hr=>?_,?_⟩
 ·have hc:=Z71 w' y8.bare (RdX.rel ⟨hr.at_ 0 rfl,hr.at_ 1 rfl,hr.at_ 2 rfl,Zd1 (y:=y8) (hr.at_ 4 rfl),hr.at_ 3 rfl⟩) rfl (SmlT.b (by rw[b8];exact Zaa));rw[b8,Z125]at hc;exact hc
 simp only[Tree.goal,X.P,X.ev,SV.ev,CV.ev,Sc.ev,qz,QA,QB,QC,QD,QE,QF,QG,QH,QI,QJ,QK,QL,QM,Nat.reduceAdd,qy3,qy4];have lenX:∀y:TelX,y.tel.sess.length=y.sx.length/\y.tel.out.length=y.ox.length:=λy=>⟨by simp[TelX.tel],by simp[TelX.tel]⟩
 obtain⟨a1,a2,a3,a4,a5⟩:=Zxe;obtain⟨c1,c2,c3⟩:=Zxf;obtain⟨d1,d2⟩:=Zs9;rw[<- t2]at a1 a2 a3 a4 a5;rw[<- t5]at c1 c2 c3;rw[<- t7]at d1 d2;rw[(lenX y2).1]at a1;rw[(lenX y2).2]at a3;rw[(lenX y5).2]at c2;rw[(lenX y7).1]at d1;simp only[TelX.tel,Zcp,Z176]at a2 a4 a5 c1 c3 d2;have q1:=Z3n (l:=y2.sx) (i:=0) (by omega);have q2:=Zrz (l:=y2.ox) (i:=0) (by omega);have q3:=Zrz (l:=y2.ox) (i:=2) (by omega);have q4:=Zrz (l:=y5.ox) (i:=0) (by omega);have q5:=Z3n (l:=y7.sx) (i:=0) (by omega);have mm:=Z3u (l:=y2.sx) (i:=0) (by omega);refine⟨.inr (by omega),λ_=>?_,λh=>absurd ⟨⟨⟨⟨⟨trivial,trivial⟩,trivial⟩,trivial⟩,by omega⟩,by omega⟩ h⟩;refine⟨(y2.sx.getD 0 sxD).1.fl.map encF,λw' hr=>?_,?_⟩
 ·have hnn:=Zn (hr.at_ 35 rfl:(Z6 y2.sx y2.ox).holds w') mm;have hv:((y2.sx.map Zc).getD 0 []).getD 3 undef=(y2.sx.getD 0 sxD).2.1:=by rw[q1];exact hnn.1.sc1
  have hv':(((y2.sx.map Zc).getD (0:Int).toNat []).getD 3 undef)=(y2.sx.getD 0 sxD).2.1:=hv;refine⟨by rw[hv'];exact hnn.1,λhne k hk e he hw hf=>?_⟩;have hk':Z2 (y2.sx.getD 0 sxD).2.1 k:=by rw[<- hv'];exact hk
  exact hr.disj (qy6 (i:=35) rfl) he (λh=>by subst h;cases hw) (.inr hw) (Zb.2 (.inl ⟨_,mm,.inl ⟨hne,hk'⟩⟩)) hf
 ·simp only[Tree.goal,X.P,X.ev,SV.ev,CV.ev,Sc.ev,qz,QA,QB,QC,QD,QE,QF,QG,QH,QI,QJ,QK,QL,QM,Nat.reduceAdd,qy3,qy4];have e1:Value.gI (((y2.ox.map Z1a).getD (Int.toNat 0) []).getD 1 undef)=4:=by rw[show Int.toNat 0=0 from rfl,q2];exact a4
  have e2:Value.gS (((y2.ox.map Z1a).getD (Int.toNat 2) []).getD 21 undef)=[104,105]:=by rw[show Int.toNat 2=2 from rfl,q3];exact a5
  have e3:Value.gI (((y5.ox.map Z1a).getD (Int.toNat 0) []).getD 17 undef)=69:=by rw[show Int.toNat 0=0 from rfl,q4];exact c3
  have e4:Value.gB (((y7.sx.map Zc).getD (Int.toNat 0) []).getD 1 undef)=false:=by rw[show Int.toNat 0=0 from rfl,q5];exact d2
  rw[e1,e2,e3,e4];refine⟨.inr (by omega),.inr (by omega),.inr (by omega),.inr (by omega),λw' hr=>⟨?_,hr.mod⟩⟩;have i1:((y2.sx.getD 0 sxD).1.fl.length:Int)=1:=by omega
  have i2:(y2.ox.length:Int)=3:=by omega
  have i3:(y5.wat.length:Int)=2:=by omega
  have i4:(y5.ox.length:Int)=1:=by omega
  rw[i1,i2,i3,i4];rfl
end Go.Proofs.Y
namespace Go.Proofs.Y
open Go.Sx
def Zmf(p:Pkt):Bool :=
  !decide ((p.kind≠1/\(p.client≠[]\/p.clean=true\/p.keep≠0))\/(p.kind≠2/\(p.session=true\/p.code≠0))\/(p.kind≠3/\(p.dup=true\/p.retain=true\/p.qos≠0\/p.topic≠[]\/p.payload≠[])) \/
    (¬(3<=p.kind/\p.kind<=4)/\¬(8<=p.kind/\p.kind<=11)/\p.id≠0)\/(p.kind≠8/\p.kind≠10/\p.asks≠[])\/(p.kind≠9/\p.codes≠[]))
theorem Zxg(p:Pkt):Zmf p=true↔Z60 (Z1p p)=true:=by rw[Zbh,Zec];unfold Zmf;simp only[Bool.not_eq_true',decide_eq_false_iff_not,not_or,not_and,qy9,Bool.not_eq_true];grind
def Zd2(p:Pkt):Int:=if p.kind=1 then Zgv p else if p.kind=2 then Z4j p else if p.kind=3 then pubE p else 0
theorem Z117(p:Pkt):chkP p=if Z87 p.kind=true then(if Z60 (Z1p p)=true then(if Zd2 p=0 then(if idB p=true/\¬(1<=p.id/\p.id<=65535)then 3 else
    (if(p.kind=8\/p.kind=10)/\Zl p.asks.length≠0 then Zl p.asks.length else if Z3b p.kind p.asks≠0 then Z3b p.kind p.asks else if p.kind=9/\Zl p.codes.length≠0 then Zl p.codes.length else if p.codes.any Z7n=true then 3 else 0))else Zd2 p)else 1)else 7:=by
  unfold chkP;split;rotate_left
  . rfl
  split;rotate_left
  . rfl
  rename_i hk he;have hb:=(Zec p).1 ((Zbh p).1 he);obtain⟨b1,b2,b3,b4,b5,b6⟩:=hb;have n1:p.kind=1\/p.kind=2->idB p=false:=λh=>by unfold idB;rcases h with h|h<;>simp[h]
  have z1:¬(p.kind=8\/p.kind=10)->p.asks=[]:=λh=>b5 (by omega);have z2:p.kind≠9->p.codes=[]:=λh=>b6 h;by_cases k1:p.kind=1
  . rw[if_neg (by omega),Z1q,if_pos k1,Zd2,if_pos k1,n1 (.inl k1),z1 (by omega),z2 (by omega)];simp[Z3b,k1]
  by_cases k2:p.kind=2
  . rw[if_neg (by omega),Z1q,if_neg k1,if_pos k2,Zd2,if_neg k1,if_pos k2,n1 (.inr k2),z1 (by omega),z2 (by omega)];simp[Z3b,k2]
  by_cases k3:p.kind=3
  . rw[Z1q,if_neg k1,if_neg k2,if_pos k3,Zd2,if_neg k1,if_neg k2,if_pos k3,z1 (by omega),z2 (by omega)];by_cases h0:pubE p=0
    . rw[if_neg (by simp[h0]),if_pos h0,h0];simp[Z3b,k3]
    . rw[if_pos ⟨k3,h0⟩,if_neg h0]
  rw[if_neg (by omega),Zd2,if_neg k1,if_neg k2,if_neg k3,if_pos rfl,Z1q,if_neg k1,if_neg k2,if_neg k3];split
  . rfl
  by_cases k8:p.kind=8\/p.kind=10
  . rw[if_pos k8,z2 (by omega),Zgw];by_cases h0:Zl p.asks.length=0
    . rw[if_pos h0,if_neg (show ¬((p.kind=8\/p.kind=10)/\Zl p.asks.length≠0) from λh=>h.2 h0)];by_cases h1:Z3b p.kind p.asks=0
      . rw[if_neg (show ¬Z3b p.kind p.asks≠0 from λh=>h h1),h1,if_neg (show ¬(p.kind=9/\_) from λh=>by omega)];rfl
      . rw[if_pos h1]
    . rw[if_neg h0,if_pos ⟨k8,h0⟩]
  . have e0:Z3b p.kind []=0:=rfl;rw[if_neg k8,if_neg (show ¬((p.kind=8\/p.kind=10)/\Zl p.asks.length≠0) from λh=>k8 h.1),z1 k8,e0,if_neg (show ¬(0:Int)≠0 from λh=>h rfl)];by_cases k9:p.kind=9
    . rw[if_pos k9,Zbg];by_cases h0:Zl p.codes.length=0
      . rw[if_pos h0,if_neg (show ¬(p.kind=9/\Zl p.codes.length≠0) from λh=>h.2 h0)]
      . rw[if_neg h0,if_pos ⟨k9,h0⟩]
    . rw[if_neg k9,if_neg (show ¬(p.kind=9/\Zl p.codes.length≠0) from λh=>k9 h.1),z2 k9];rfl
section
variable (w:World) (p:Pkt) (u v:Value) (hu:Z62 w u p.asks) (hv:Z5d w v p.codes) (hs:SmallP p)
include hu hv
theorem Z155:Calls Tryz.prog 35 #[pV p u v] w λe w'=>e=.returned (.bool (idB p))/\Mod [] w w':=by
  refine Z1 (Z3 (J:=[.i p.kind,.b p.dup,.b p.retain,.b p.clean,.b p.session,.i p.qos,.i p.id,.i p.keep,.i p.code,.s p.client,.s p.topic,.s p.payload,.v u,.r (p.asks.map encA),.v v,.r (p.codes.map Z18)]) sxE_ok Tryz.func35 Z82 rfl rfl (Rel.start2 (by simp[Ent.holds,Ent.wr,hu,hv,X.ev])) rfl rfl ?_) rfl;simp only[Tree.goal,X.P,X.ev,SV.ev,CV.ev,Sc.ev,qz,QA,QB,QC,QD,QE,QF,QG,QH,QI,QJ,QK,QL,QM,Nat.reduceAdd];intro b;refine⟨λh w' hr=>⟨?_,hr.mod⟩,λh w' hr=>⟨?_,hr.mod⟩⟩
  . simp only[Ending.returned.injEq,Value.bool.injEq,idB];symm;rw[decide_eq_true_eq];omega
  . simp only[Ending.returned.injEq,Value.bool.injEq,idB];rw[<- Bool.decide_and];exact decide_eq_decide.2 (by omega)
include hs
theorem Zkh:Calls Tryz.prog 9 #[pV p u v] w λe w'=>e=.returned (.int .i64 (chkP p))/\Mod [] w w':=by
  refine Z1 (Z3 (J:=[.i p.kind,.b p.dup,.b p.retain,.b p.clean,.b p.session,.i p.qos,.i p.id,.i p.keep,.i p.code,.s p.client,.s p.topic,.s p.payload,.v u,.r (p.asks.map encA),.v v,.r (p.codes.map Z18)]) (sxE_ok.joins _) Tryz.func9 Z4a rfl rfl (Rel.start2 (by simp[Ent.holds,Ent.wr,hu,hv,X.ev])) rfl rfl ?_) rfl;have h1:=hs.client;have h2:=hs.topic;have h3:=hs.payload;have h4:=hs.asks;have h5:=hs.codes;have hf:=hs.at_;simp only[Tree.goal,X.P,X.ev,SV.ev,CV.ev,Sc.ev,qz,QA,QB,QC,QD,QE,QF,QG,QH,QI,QJ,QK,QL,QM,Nat.reduceAdd,qy3];intro b;refine⟨λvs=>(vs.getD 2 (.i 0)).toB=!Z87 p.kind,⟨λh=>?_,λh=>?_⟩,?_⟩
  . have e:Z87 p.kind=(decide (8<=p.kind) && decide (p.kind<=14)):=by unfold Z87;rw[<- Bool.decide_and];exact decide_eq_decide.2 (by omega)
    rw[e];rfl
  . have e:Z87 p.kind=true:=by unfold Z87;rw[decide_eq_true_eq];omega
    rw[e];rfl
  intro vs hl hI
  match vs,hl,hI with
  | [x0,x1,x2],_,hI =>
  simp only[Tree.goal,X.P,X.ev,SV.ev,CV.ev,Sc.ev,qz,QA,QB,QC,QD,QE,QF,QG,QH,QI,QJ,QK,QL,QM,Nat.reduceAdd,qy3]at hI⊢;rw[Z117,hI];refine⟨λh w' hr=>⟨by rw[if_neg (by simpa using h)],hr.mod⟩,λh=>?_⟩;have hk:Z87 p.kind=true:=by simpa using h
  rw[if_pos hk];clear h;have l0:∀l:List Ak,(0<(l.length:Int))↔l≠[]:=λl=>by rw[<- List.length_pos_iff];omega
  have l1:∀l:List Int,(0<(l.length:Int))↔l≠[]:=λl=>by rw[<- List.length_pos_iff];omega
  have fR:=Zxg p;have bad:Zmf p=false->(if Z60 (Z1p p)=true then(if Zd2 p=0 then(if idB p=true/\¬(1<=p.id/\p.id<=65535)then(3:Int)else
    (if(p.kind=8\/p.kind=10)/\Zl p.asks.length≠0 then Zl p.asks.length else if Z3b p.kind p.asks≠0 then Z3b p.kind p.asks else if p.kind=9/\Zl p.codes.length≠0 then Zl p.codes.length else if p.codes.any Z7n=true then 3 else 0))else Zd2 p)else 1)=1:=λh=>by
    rw[if_neg (λhh=>by rw[fR.2 hh]at h;cases h)]
  refine⟨λh w' hr=>⟨?_,hr.mod⟩,λg1=>⟨λh w' hr=>⟨?_,hr.mod⟩,λg2=>?_⟩⟩
  . rw[bad];simp only[Zmf,Bool.not_eq_false',decide_eq_true_eq];grind
  . rw[bad];simp only[Zmf,Bool.not_eq_false',decide_eq_true_eq];grind
  refine⟨λvs=>(vs.getD 5 (.i 0)).toB=!Zmf p,⟨λh=>?_,λh=>?_⟩,?_⟩
  . simp only[List.getD_cons_succ,List.getD_cons_zero,V.toB_b,Zmf,Bool.not_not];rw[Bool.eq_iff_iff];simp only[Bool.or_eq_true,Bool.and_eq_true,Bool.not_eq_true',decide_eq_true_eq,decide_eq_false_iff_not,Bool.and_eq_false_iff,l0,l1];grind
  . simp only[List.getD_cons_succ,List.getD_cons_zero,V.toB_b,Zmf,Bool.not_not];rw[Bool.eq_iff_iff];simp only[Bool.or_eq_true,Bool.and_eq_true,Bool.not_eq_true',decide_eq_true_eq,decide_eq_false_iff_not,Bool.and_eq_false_iff,l0,l1];grind
  intro vs hl hI
  match vs,hl,hI with
  | [y0,y1,y2,y3,y4,y5],_,hI =>
  simp only[Tree.goal,X.P,X.ev,SV.ev,CV.ev,Sc.ev,qz,QA,QB,QC,QD,QE,QF,QG,QH,QI,QJ,QK,QL,QM,Nat.reduceAdd,qy3]at hI⊢;rw[hI];refine⟨λh w' hr=>⟨by rw[bad (by simpa using h)],hr.mod⟩,λh=>?_⟩;have he:Z60 (Z1p p)=true:=fR.1 (by simpa using h);rw[if_pos he];clear h g1 g2 bad;refine⟨λvs=>Zd2 p=0,⟨λk1=>?_,λk1=>⟨λk2=>?_,λk2=>⟨λk3=>?_,λk3=>?_⟩⟩⟩,?_⟩
  . rw[Zd2,if_pos k1,Zgv];refine⟨λh w' hr=>⟨by rw[if_pos h];rfl,hr.mod⟩,λh=>?_⟩;rw[if_neg h];refine⟨[.b (cliB p.client)],rfl,λ_ w' _=>Zdg w' _ (by omega),?_⟩;simp only[Tree.goal,X.P,X.ev,SV.ev,CV.ev,Sc.ev,qz,QA,QB,QC,QD,QE,QF,QG,QH,QI,QJ,QK,QL,QM,Nat.reduceAdd];refine⟨λh w' hr=>⟨by rw[if_neg h];rfl,hr.mod⟩,λh=>?_⟩;rw[if_pos (qy9.1 h)];exact⟨λh w' hr=>⟨by rw[if_neg h];rfl,hr.mod⟩,λh=>by rw[if_pos (qy9.1 h)]⟩
  . rw[Zd2,if_neg k1,if_pos k2,Z4j];refine⟨λh w' hr=>⟨by rw[if_neg h];rfl,hr.mod⟩,λh=>?_⟩;have h0:=qy9.1 h;rw[if_pos h0];exact⟨λh w' hr=>⟨by rw[if_pos (show p.session=true/\p.code≠0 from⟨h.1,by omega⟩)];rfl,hr.mod⟩,λh=>by rw[if_neg (show ¬(p.session=true/\p.code≠0) from λhh=>h ⟨hh.1,by omega⟩)]⟩
  . rw[Zd2,if_neg k1,if_neg k2,if_pos k3,pubE];refine⟨[.i (chkT p.topic false)],rfl,λ_ w' _=>Z32 w' _ _ (by omega),?_⟩;simp only[Tree.goal,X.P,X.ev,SV.ev,CV.ev,Sc.ev,qz,QA,QB,QC,QD,QE,QF,QG,QH,QI,QJ,QK,QL,QM,Nat.reduceAdd];refine⟨λh w' hr=>⟨by rw[if_neg h,if_neg h],hr.mod⟩,λh=>?_⟩;rw[if_pos (qy9.1 h)];refine⟨λh w' hr=>⟨by rw[if_pos h];rfl,hr.mod⟩,λh=>?_⟩;rw[if_neg h];refine⟨λh w' hr=>⟨by rw[if_neg h];rfl,hr.mod⟩,λh=>?_⟩;rw[if_pos (qy9.1 h)];exact⟨λh w' hr=>⟨by rw[if_pos h];rfl,hr.mod⟩,λh=>by rw[if_neg h]⟩
  . rw[Zd2,if_neg k1,if_neg k2,if_neg k3]
  intro vs hl hI
  match vs,hl,hI with
  | [z0],_,hI =>
  simp only[Tree.goal,X.P,X.ev,SV.ev,CV.ev,Sc.ev,qz,QA,QB,QC,QD,QE,QF,QG,QH,QI,QJ,QK,QL,QM,Nat.reduceAdd,qy3];rw[if_pos hI];refine⟨λvs=>(vs.getD 2 (.i 0)).toB=(idB p && !decide (1<=p.id/\p.id<=65535)),?_,?_⟩
  . refine⟨[.b (idB p)],rfl,λ_ w' hr=>Z155 w' p u v (hr.at_ 1 rfl) (hr.at_ 2 rfl),?_⟩;simp only[Tree.goal,X.P,X.ev,SV.ev,CV.ev,Sc.ev,qz,QA,QB,QC,QD,QE,QF,QG,QH,QI,QJ,QK,QL,QM,Nat.reduceAdd];exact⟨λh=>by simp[h],λh=>by simp[h]⟩
  intro vs hl hI
  match vs,hl,hI with
  | [t0,t1,t2],_,hI =>
  simp only[Tree.goal,X.P,X.ev,SV.ev,CV.ev,Sc.ev,qz,QA,QB,QC,QD,QE,QF,QG,QH,QI,QJ,QK,QL,QM,Nat.reduceAdd,qy3]at hI⊢;rw[hI];refine⟨λh w' hr=>⟨by rw[if_pos (show idB p=true/\¬(1<=p.id/\p.id<=65535) by simpa only[Bool.and_eq_true,Bool.not_eq_true',decide_eq_false_iff_not]using h)],hr.mod⟩,λh=>?_⟩;rw[if_neg (show ¬(idB p=true/\¬(1<=p.id/\p.id<=65535)) by simpa only[Bool.and_eq_true,Bool.not_eq_true',decide_eq_false_iff_not]using h)];clear h;refine⟨λvs=>¬((p.kind=8\/p.kind=10)/\Zl p.asks.length≠0),⟨λh8=>⟨λh w' hr=>⟨?_,hr.mod⟩,λh=>⟨λh2 w' hr=>⟨?_,hr.mod⟩,λh2=>?_⟩⟩,λh8 hh=>h8 hh.1⟩,?_⟩
  . have e:Zl p.asks.length=1:=by rw[Zl,if_pos (by omega)]
    rw[if_pos ⟨h8,by rw[e];decide⟩,e]
  . have e:Zl p.asks.length=2:=by rw[Zl,if_neg (by omega),if_pos h2]
    rw[if_pos ⟨h8,by rw[e];decide⟩,e]
  . exact λhh=>hh.2 (by rw[Zl,if_neg (by omega),if_neg h2])
  intro vs hl hI
  match vs,hl,hI with
  | [q0],_,hI =>
  simp only[Tree.goal,X.P,X.ev,SV.ev,CV.ev,Sc.ev,qz,QA,QB,QC,QD,QE,QF,QG,QH,QI,QJ,QK,QL,QM,Nat.reduceAdd,qy3];rw[if_neg hI];refine⟨λvs=>∃(i:Nat) (x:V),vs=[x,.i i]/\i<=p.asks.length/\Z3b p.kind (p.asks.drop i)=Z3b p.kind p.asks,λvs=>p.asks.length - (vs.getD 1 (.i 0)).toI.toNat,⟨0,_,rfl,by omega,rfl⟩,?_⟩;rintro _ - ⟨i,x,rfl,hi,hg⟩;simp only[Tree.goal,X.P,X.ev,SV.ev,CV.ev,Sc.ev,qz,QA,QB,QC,QD,QE,QF,QG,QH,QI,QJ,QK,QL,QM,Nat.reduceAdd,qy3,qy4,gA0,gA1];refine⟨λh2=>⟨by omega,?_⟩,λh2=>?_⟩
  . rw[Z13p _ _ (by omega),Z3b]at hg;have hfi:=hf i;have hask:p.kind=8\/p.kind=10:=Classical.byContradiction λhn=>by
      have:=((Zec p).1 ((Zbh p).1 he)).2.2.2.2.1 (by omega);rw[this]at h2;simp at h2;omega
    generalize p.asks.getD i aD=a at hg hfi⊢
    refine⟨[.i (chkT a.1 true)],rfl,λ_ w' _=>Z32 w' _ _ (by omega),?_⟩;simp only[Tree.goal,X.P,X.ev,SV.ev,CV.ev,Sc.ev,qz,QA,QB,QC,QD,QE,QF,QG,QH,QI,QJ,QK,QL,QM,Nat.reduceAdd,gA1];have key:∀e:Int,e≠0->(if p.kind=8 then askE a else Z61 a)=e->(if Z3b p.kind p.asks≠0 then Z3b p.kind p.asks else if p.kind=9/\Zl p.codes.length≠0 then Zl p.codes.length else if p.codes.any Z7n=true then 3 else 0)=e:=λe h0 hE=>by
      have:Z3b p.kind p.asks=e:=by rw[<- hg,if_neg (by rw[hE];exact h0),hE]
      rw[if_pos (show Z3b p.kind p.asks≠0 by rw[this];exact h0),this]
    refine⟨λh w' hr=>⟨?_,hr.mod⟩,λh=>⟨λh3 w' hr=>⟨?_,hr.mod⟩,λh3=>⟨λh4 w' hr=>⟨?_,hr.mod⟩,λh4=>⟨by omega,by omega,⟨i+1,x,rfl,by omega,?_⟩,by omega⟩⟩⟩⟩
    . rw[key (chkT a.1 true) h (by split<;>simp[askE,Z61,h])]
    . rw[key 1 (by decide) (by rw[if_neg (by omega),Z61,if_pos (qy9.1 h),if_neg h3.2])]
    . rw[key 3 (by decide) (by rw[if_pos (by omega),askE,if_pos (qy9.1 h),if_neg h4])]
    . rw[<- hg,if_pos];split
      . rw[askE,if_pos (qy9.1 h),if_pos (qy9.1 h4)]
      . rw[Z61,if_pos (qy9.1 h),if_pos (by omega)]
  . have:i=p.asks.length:=by omega
    subst this;rw[List.drop_length]at hg;have hg0:Z3b p.kind p.asks=0:=by rw[<- hg];rfl
    rw[if_neg (show ¬Z3b p.kind p.asks≠0 from λh=>h hg0)];refine⟨λvs=>¬(p.kind=9/\Zl p.codes.length≠0),⟨λh9=>⟨λh w' hr=>⟨?_,hr.mod⟩,λh=>⟨λh2 w' hr=>⟨?_,hr.mod⟩,λh2=>?_⟩⟩,λh9 hh=>h9 hh.1⟩,?_⟩
    . have e:Zl p.codes.length=1:=by rw[Zl,if_pos (by omega)]
      rw[if_pos (show p.kind=9/\Zl p.codes.length≠0 from⟨h9,by rw[e];decide⟩),e]
    . have e:Zl p.codes.length=2:=by rw[Zl,if_neg (by omega),if_pos h2]
      rw[if_pos (show p.kind=9/\Zl p.codes.length≠0 from⟨h9,by rw[e];decide⟩),e]
    . exact λhh=>hh.2 (by rw[Zl,if_neg (by omega),if_neg h2])
    intro vs hl hI
    match vs,hl,hI with
    | [r0],_,hI =>
    simp only[Tree.goal,X.P,X.ev,SV.ev,CV.ev,Sc.ev,qz,QA,QB,QC,QD,QE,QF,QG,QH,QI,QJ,QK,QL,QM,Nat.reduceAdd,qy3];rw[if_neg hI];refine⟨λvs=>∃(i:Nat) (x:V),vs=[x,.i i]/\i<=p.codes.length/\(p.codes.drop i).any Z7n=p.codes.any Z7n,λvs=>p.codes.length - (vs.getD 1 (.i 0)).toI.toNat,⟨0,_,rfl,by omega,rfl⟩,?_⟩;rintro _ - ⟨i,x,rfl,hi,hg⟩;simp only[Tree.goal,X.P,X.ev,SV.ev,CV.ev,Sc.ev,qz,QA,QB,QC,QD,QE,QF,QG,QH,QI,QJ,QK,QL,QM,Nat.reduceAdd,qy3,qy4,gI0];refine⟨λh2=>⟨by omega,λh3 w' hr=>⟨?_,hr.mod⟩,λh3=>⟨by omega,by omega,⟨i+1,x,rfl,by omega,?_⟩,by omega⟩⟩,λh2 w' hr=>⟨?_,hr.mod⟩⟩
    . rw[Z13q _ _ (by omega),List.any_cons]at hg;have e:Z7n (p.codes.getD i 0)=true:=by simp only[Z7n,decide_eq_true_eq];exact⟨h3.1.1,h3.1.2,h3.2⟩
      rw[<- hg,e];rfl
    . rw[Z13q _ _ (by omega),List.any_cons]at hg;have e:Z7n (p.codes.getD i 0)=false:=by
        simp only[Z7n,decide_eq_false_iff_not];exact λh4=>h3 ⟨⟨h4.1,h4.2.1⟩,h4.2.2⟩
      rw[<- hg,e];rfl
    . have:i=p.codes.length:=by omega
      subst this;rw[List.drop_length]at hg;rw[<- hg];rfl
end
