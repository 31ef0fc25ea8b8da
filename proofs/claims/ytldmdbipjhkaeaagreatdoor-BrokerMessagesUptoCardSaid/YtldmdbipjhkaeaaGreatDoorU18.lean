/- By an AI agent. -/
import Derived.Test.YtldmdbipjhkaeaaGreatDoorU17
import Derived.Test.YtldmdbipjhkaeaaGreatDoorU10
import Derived.WalkKit
import Derived.LoopN
import Derived.Test.YtldmdbipjhkaeaaGreatDoorU15
import Derived.Test.YtldmdbipjhkaeaaGreatDoorU12
import Derived.Test.YtldmdbipjhkaeaaGreatDoorU08
import Derived.Test.YtldmdbipjhkaeaaGreatDoorU11
set_option linter.all false
set_option maxHeartbeats 20000000
namespace Go.Proofs.Y
open Go Go.Sx
theorem Z8h{l:List Wt}(h:Zj l=0):Z1n l:=λy hy=>by obtain⟨h1,h2,-⟩:=Zkj h y hy;have h3:=(Z4o.1 h2).2.1.1;unfold cliB at h1;rw[Bool.and_eq_true,decide_eq_true_eq]at h1;exact⟨by omega,by omega⟩
theorem Z17b{p:Pkt}(h:chkP p=0)(hk:p.kind=10):p.asks.length<=5:=by
 have h1:=(Zmk h).1;unfold Z2c at h1;rw[if_neg (by omega),if_neg (by omega),if_neg (by omega),if_pos (.inr hk),Zii]at h1;split at h1
 ·rename_i h2;exact(Zox h2).2
 ·exact absurd h1 (by assumption)
theorem Zzi(w:World)(k:Nat)(x:TelX)(c:List UInt8)(p:Pkt)(va vc:Value)(hr:Rel ⟨Zi (tlA k x) tlH,w⟩ (tlA k x++Z6d c p va vc) (tlH++pkHp) w)(hb:BOk x.tel)(ho:x.ox.length<40000)(hc:Zz c=true)(hp:chkP p=0) : Calls Tryz.prog 22 #[.pointer (some ⟨k,0,none⟩),.string ⟨c.toArray⟩,Zqv p va vc] w λe w'=>e=.returned (.tuple #[])/\Z7z w w' k x (λ_=>False) (Z4p c p x.tel):=by
 refine Z1 (Z3 (J:=tlA k x++Z6d c p va vc) (sxE_ok.joins _) Tryz.func22 Z5o rfl rfl hr rfl rfl ?_) rfl;simp only[Tree.goal,X.P,X.ev,SV.ev,CV.ev,Sc.ev,qz,QA,QB,QC,QD,QE,QF,QG,QH,QI,QJ,QK,QL,QM,Nat.reduceAdd,qy3,qy4];have hn6:x.sx.length<=6:=by have:=hb.ns;rw[Z1y,qy3]at this;exact this
 have hw20:x.wants.length<=20:=Zku hb.wants;intro b30;refine⟨[.i (idxS x.tel.sess c),.b (hasS x.tel.sess c)],rfl,λ_ w' hr=>Zf1 w' x.sv x.sx c (hr.at_ 3 rfl).reads hb.sort (by omega),?_⟩;simp only[Tree.goal,X.P,X.ev,SV.ev,CV.ev,Sc.ev,qz,QA,QB,QC,QD,QE,QF,QG,QH,QI,QJ,QK,QL,QM,Nat.reduceAdd,qy3,qy4];have hat:hasS x.tel.sess c=true->idxS x.tel.sess c<x.sx.length:=λh=>(Zmo h).1;have hon:hasS x.tel.sess c=true->Value.gB (((x.sx.map Zf).getD (idxS x.tel.sess c) []).getD 1 undef)=(x.tel.sess.getD (idxS x.tel.sess c) s0).on:=λh=>by rw[Z7y (Zmo h).1,<- (Zmo h).2];rfl
 refine⟨.inr (by omega),?_,?_⟩
 ·by_cases h:hasS x.tel.sess c=true
  ·exact .inr (by have:=hat h;omega)
  ·exact .inl λh2=>h h2.2
 have hif:(¬p.kind=1/\(¬hasS x.tel.sess c=true\/¬Value.gB (((x.sx.map Zf).getD (idxS x.tel.sess c) []).getD 1 undef)=true))↔(¬p.kind=1/\(¬hasS x.tel.sess c=true\/¬(x.tel.sess.getD (idxS x.tel.sess c) s0).on=true)):=by
  by_cases h:hasS x.tel.sess c=true
  ·rw[hon h]
  ·simp[h]
 rw[hif];have hfin:∀{w1:World} {y:TelX} {t:Tel},w.heap.size<=w1.heap.size->Grew w1.heap.size (λ_=>False) x y->Grew w.heap.size (λ_=>False) x y:=λh1 h2=>(Grew.refl _ _ x).trans h2 h1 (λ_ h=>h.elim);refine⟨λh1 w3 hr=>⟨by trivial,x,by rw[Z4p,if_pos h1],(hr.pick [1,2,3,4,5,6,7] (by decide)).conv rfl,.refl _ _ _⟩,λh1=>?_⟩;have hpk:Z4p c p x.tel=if p.kind=1 then Z8a c p x.tel
   else if p.kind=3 then Zdi c p x.tel
   else if p.kind=4 then Z134 c p x.tel
   else if p.kind=8 then Z8b c p x.tel
   else if p.kind=10 then Z5c c p x.tel
   else if p.kind=12 then { x.tel with out:=x.tel.out++[toC c (pD_Q 13)] }
   else if p.kind=14 then Zcu c x.tel
   else x.tel:=by rw[Z4p,if_neg h1]
 have hhas:¬p.kind=1->hasS x.tel.sess c=true/\(x.tel.sess.getD (idxS x.tel.sess c) s0).on=true:=λh2=>⟨Classical.byContradiction λh4=>h1 ⟨h2,.inl h4⟩,Classical.byContradiction λh4=>h1 ⟨h2,.inr h4⟩⟩
 refine⟨λhq1=>?_,λhq1=>?_⟩
 ·intro w1 hr1;refine(Z30 (k:=k) (x:=x) (F:=λ_=>False) (pre:=[]) hr1 33 0 [5,7,10]
   (Zvf w1 k x c p va vc (((hr1.pick [1,2,3,4,5,6,7,8,9] (by decide)).conv rfl).base.conv rfl) hb (by omega) hc)
   rfl rfl (Nat.succ_pos _) rfl (λj hj=>?_)).mono ?_
  ·rcases hj with hj|hj|hj|hj
   ·exact(qE 1 rfl rfl hj)
   ·exact(qE 2 rfl rfl hj)
   ·exact(qE 6 rfl rfl hj)
   ·exact hj.elim
  rintro e w2 ⟨y,hy,hs,hg,rfl,m1,m2,m3,m4⟩;refine⟨tlV y,rfl,rfl,m1,m2,m3,m4,?_⟩;intro w3 hr3;exact⟨by trivial,y,by rw[hy,hpk,if_pos hq1],(hr3.pick [0,1,2,3,4,5,10] (by decide)).conv rfl,(Grew.refl _ _ x).trans hg hr1.mod.size (λ_ h=>h.elim)⟩
 refine⟨λh3=>?_,λh3=>?_⟩
 ·intro w1 hr1;refine(Z30 (k:=k) (x:=x) (F:=λ_=>False) (pre:=[]) hr1 33 0 [5,7,10]
   (Zve w1 k x c p va vc (((hr1.pick [1,2,3,4,5,6,7,8,9] (by decide)).conv rfl).base.conv rfl) hb (by omega) (Z8h hb.wants) ((Zmk hp).2.1 h3))
   rfl rfl (Nat.succ_pos _) rfl (λj hj=>?_)).mono ?_
  ·rcases hj with hj|hj|hj|hj
   ·exact(qE 1 rfl rfl hj)
   ·exact(qE 2 rfl rfl hj)
   ·exact(qE 6 rfl rfl hj)
   ·exact hj.elim
  rintro e w2 ⟨y,hy,hs,hg,rfl,m1,m2,m3,m4⟩;refine⟨tlV y,rfl,rfl,m1,m2,m3,m4,?_⟩;intro w3 hr3;exact⟨by trivial,y,by rw[hy,hpk,if_neg hq1,if_pos h3],(hr3.pick [0,1,2,3,4,5,10] (by decide)).conv rfl,(Grew.refl _ _ x).trans hg hr1.mod.size (λ_ h=>h.elim)⟩
 refine⟨λh4=>?_,λh4=>?_⟩
 ·obtain⟨hh,hon1⟩:=hhas hq1;obtain⟨hlt,hse⟩:=Zmo hh;have hok:SesOk (x.sx.getD (idxS x.tel.sess c) sxD).1:=by rw[hse];exact Zcc hb hh
  have hT:∀u1 u2:Value,Z4p c p x.tel={ (TelX.tel { x with sx:=x.sx.set (idxS x.tel.sess c) ((Z7j (x.sx.getD (idxS x.tel.sess c) sxD).1 p.id).1,u1,u2) })with out:=(TelX.tel { x with sx:=x.sx.set (idxS x.tel.sess c) ((Z7j (x.sx.getD (idxS x.tel.sess c) sxD).1 p.id).1,u1,u2) }).out++((Z7j (x.sx.getD (idxS x.tel.sess c) sxD).1 p.id).2.map pkN).map λt=>toC c t.1 }:=λu1 u2=>by rw[hpk,if_neg hq1,if_neg h3,if_pos h4,Z134,Ziu,<- hse];simp only[TelX.tel,List.map_set]
  clear hif hon hat;generalize idxS x.tel.sess c=ix at hlt hse hok hT⊢
  have hrow:=Z7y hlt;simp only[hrow,Zf,List.getD_cons_zero,List.getD_cons_succ,Value.gI,Value.gB,Value.gS,Z1a];have hmm:=Z4z hlt;generalize hss:x.sx.getD ix sxD=ss at hok hse hmm hT
  obtain⟨s,s',s''⟩:=ss;simp only at hok hse hT⊢;obtain⟨S,hS⟩:∃S,S=Z7j s p.id:=⟨_,rfl⟩
  have hS7:S.2.length<=6:=by rw[hS];exact Zv2 p.id hok
  rw[<- hS]at hT;refine⟨λvs=>∃(u1 u2 u3:Value) (b:Nat),vs=[.s S.1.cl,.b S.1.on,.b S.1.clean,.v u1,.r (S.1.fl.map encF),.v u2,.r (S.1.qu.map encF),.i S.1.next,.v u3,.r ((S.2.map pkN).map Z31),.n b]/\newV w.heap.size u1/\newV w.heap.size u2,⟨by omega,by omega,?_,?_⟩,?_⟩
  ·intro w1 hr1;have hsz:=hr1.mod.size;obtain⟨hs1,hs2⟩:=Zp (hr1.at_ 6 rfl:(Z6 x.sx x.ox).holds w1) hmm;refine(Z1 (Z10e w1 s s' s'' p.id hs1 hs2 hok.next (by have:=hok.nf;omega) (by have:=hok.nq;omega)) rfl).mono ?_;rw[<- hS];rintro e w2 ⟨u1,u2,u3,rfl,g1,g2,g3,g4,g5,g6,gm⟩;refine⟨[.s S.1.cl,.b S.1.on,.b S.1.clean,.v u1,.r (S.1.fl.map encF),.v u2,.r (S.1.qu.map encF),.i S.1.next,.v u3,.r ((S.2.map pkN).map Z31)],rfl,rfl,gm,qy5 _,qy2.2 ⟨⟨g1,λk hk=>.inl (g4 k hk.2)⟩,qy2.2 ⟨⟨g2,λk hk=>.inl (g5 k hk.2)⟩,qy2.2 ⟨⟨by show reads w2 u3 kP ((S.2.map pkN).map Z31);rw[Z8f];exact g3,λk hk=>.inl (g6 k hk.2)⟩,qy5 _⟩⟩⟩,Z6c ..,λb=>⟨u1,u2,u3,b,rfl,λk hk=>Nat.le_trans hsz (g4 k hk),λk hk=>Nat.le_trans hsz (g5 k hk)⟩⟩
  ·intro b w1 hr1;have hsz:=hr1.mod.size;obtain⟨hs1,hs2⟩:=Zp (hr1.at_ 7 rfl:(Z6 x.sx x.ox).holds w1) hmm;refine(Z1 (Z10e w1 s s' s'' p.id hs1 hs2 hok.next (by have:=hok.nf;omega) (by have:=hok.nq;omega)) rfl).mono ?_;rw[<- hS];rintro e w2 ⟨u1,u2,u3,rfl,g1,g2,g3,g4,g5,g6,gm⟩;refine⟨[.s S.1.cl,.b S.1.on,.b S.1.clean,.v u1,.r (S.1.fl.map encF),.v u2,.r (S.1.qu.map encF),.i S.1.next,.v u3,.r ((S.2.map pkN).map Z31)],rfl,rfl,gm,qy5 _,qy2.2 ⟨⟨g1,λk hk=>.inl (g4 k hk.2)⟩,qy2.2 ⟨⟨g2,λk hk=>.inl (g5 k hk.2)⟩,qy2.2 ⟨⟨by show reads w2 u3 kP ((S.2.map pkN).map Z31);rw[Z8f];exact g3,λk hk=>.inl (g6 k hk.2)⟩,qy5 _⟩⟩⟩,Z6c ..,u1,u2,u3,b,rfl,λk hk=>Nat.le_trans hsz (g4 k hk),λk hk=>Nat.le_trans hsz (g5 k hk)⟩
  rintro _ - ⟨u1,u2,u3,b,rfl,n1,n2⟩;refine⟨λvs=>vs=[],⟨by omega,by omega,rfl⟩,?_⟩;rintro _ - rfl;simp only[Tree.goal,X.P,X.ev,SV.ev,CV.ev,Sc.ev,qz,QA,QB,QC,QD,QE,QF,QG,QH,QI,QJ,QK,QL,QM,Nat.reduceAdd,qy3,qy4];intro w3 hr3;have hsz3:w.heap.size<=w3.heap.size:=hr3.mod.size;have hA3:(Z6 (x.sx.set ix (S.1,u1,u2)) x.ox).holds w3:=Z8g (hr3.at_ 10 rfl) (hr3.at_ 1 rfl) (hr3.at_ 2 rfl);have hf3:∀j,(Z6 (x.sx.set ix (S.1,u1,u2)) x.ox).fp j->(Z6 x.sx x.ox).fp j\/((S.1.fl.map encF).flatten≠[]/\Z2 u1 j)\/((S.1.qu.map encF).flatten≠[]/\Z2 u2 j):=λj hj=>(Z3g hj).elim (λh=>.inl h) (λh=>.inr h);refine(Z30 (k:=k) (x:={ x with sx:=x.sx.set ix (S.1,u1,u2) }) (F:=(Zq (S.2.map pkN)).fp) (pre:=[]) hr3 44 0 [5,7,10]
   (Z1f w3 k { x with sx:=x.sx.set ix (S.1,u1,u2) } c u3 (S.2.map pkN) (Z7b hr3 (by rfl) k { x with sx:=x.sx.set ix (S.1,u1,u2) } (Zq (S.2.map pkN)) _ _ hA3 (λj hj=>?_) (Z82 _ _) (λj hj=>absurd hj Z4r) [7,8,9,10,11,1,13,5,0] (by decide) rfl (Zg rfl (Zg rfl (Zg (Z2r rfl ?_) rfl)))) (by rw[qy3];omega) (by show x.ox.length<1000000;omega))
   rfl rfl (Nat.succ_pos _) rfl (λj hj=>?_)).mono ?_
  ·rcases hf3 j hj with h|h|h
   ·exact(qE 10 rfl rfl h)
   ·exact(qE 1 rfl rfl h)
   ·exact(qE 2 rfl rfl h)
  ·simp only[Tree.goal,X.P,X.ev,SV.ev,CV.ev,Sc.ev,qz,QA,QB,QC,QD,QE,QF,QG,QH,QI,QJ,QK,QL,QM,Nat.reduceAdd,qy3,qy4];rw[<- Z3h]
  ·rcases hj with hj|hj|hj|hj
   ·exact(qE 5 rfl rfl hj)
   ·exact(qE 6 rfl rfl hj)
   ·rcases hf3 j hj with h|h|h
    ·exact(qE 10 rfl rfl h)
    ·exact(qE 1 rfl rfl h)
    ·exact(qE 2 rfl rfl h)
   ·exact absurd hj Z4r
  rintro e w4 ⟨y2,hy2,hsz4,hgr,rfl,m1,m2,m3,m4⟩;refine⟨tlV y2,rfl,rfl,m1,m2,m3,m4,?_⟩;intro w5 hr5;exact⟨by trivial,y2,by rw[hy2,<- hT u1 u2],(hr5.pick [0,1,2,3,4,5,14] (by decide)).conv rfl,(Zdm (Grew.refl w.heap.size _ x) (Nat.le_refl _) (λj h=>n1 j h) (λj h=>n2 j h)).trans hgr hsz3 (λj h=>absurd h Z4r)⟩
 refine⟨λh8=>?_,λh8=>?_⟩
 ·intro w1 hr1;refine(Z30 (k:=k) (x:=x) (F:=λ_=>False) (pre:=[]) hr1 33 0 [5,7,10]
   (Zmr w1 k x c p va vc (((hr1.pick [1,2,3,4,5,6,7,8,9] (by decide)).conv rfl).base.conv rfl) hb (by omega) hc (Z10o hp h8).1 (Z10o hp h8).2.2)
   rfl rfl (Nat.succ_pos _) rfl (λj hj=>?_)).mono ?_
  ·rcases hj with hj|hj|hj|hj
   ·exact(qE 1 rfl rfl hj)
   ·exact(qE 2 rfl rfl hj)
   ·exact(qE 6 rfl rfl hj)
   ·exact hj.elim
  rintro e w2 ⟨y,hy,hs,hg,rfl,m1,m2,m3,m4⟩;refine⟨tlV y,rfl,rfl,m1,m2,m3,m4,?_⟩;intro w3 hr3;exact⟨by trivial,y,by rw[hy,hpk,if_neg hq1,if_neg h3,if_neg h4,if_pos h8],(hr3.pick [0,1,2,3,4,5,10] (by decide)).conv rfl,(Grew.refl _ _ x).trans hg hr1.mod.size (λ_ h=>h.elim)⟩
 refine⟨λh10=>?_,λh10=>?_⟩
 ·intro w1 hr1;refine(Z30 (k:=k) (x:=x) (F:=λ_=>False) (pre:=[]) hr1 33 0 [5,7,10]
   (Ziv w1 k x c p va vc (((hr1.pick [1,2,3,4,5,6,7,8,9] (by decide)).conv rfl).base.conv rfl) (by omega) (by omega) (by have:=Z17b hp h10;omega))
   rfl rfl (Nat.succ_pos _) rfl (λj hj=>?_)).mono ?_
  ·rcases hj with hj|hj|hj|hj
   ·exact(qE 1 rfl rfl hj)
   ·exact(qE 2 rfl rfl hj)
   ·exact(qE 6 rfl rfl hj)
   ·exact hj.elim
  rintro e w2 ⟨y,hy,hs,hg,rfl,m1,m2,m3,m4⟩;refine⟨tlV y,rfl,rfl,m1,m2,m3,m4,?_⟩;intro w3 hr3;exact⟨by trivial,y,by rw[hy,hpk,if_neg hq1,if_neg h3,if_neg h4,if_neg h8,if_pos h10],(hr3.pick [0,1,2,3,4,5,10] (by decide)).conv rfl,(Grew.refl _ _ x).trans hg hr1.mod.size (λ_ h=>h.elim)⟩
 refine⟨λh12=>?_,λh12=>?_⟩
 ·intro v33 w1 hr1;refine(Z30 (k:=k) (x:=x) (F:=(Zq [pk1X (pD_Q 13)]).fp) (pre:=[]) hr1 34 0 [5,7,10]
   (Z1f w1 k x c v33 [pk1X (pD_Q 13)] (Z7b (toRd hr1) (by rfl) k x (Zq [pk1X (pD_Q 13)]) _ _ (hr1.at_ 7 rfl) (λj hj=>(qE 7 rfl rfl hj)) (Z4s rfl rfl _) (λj hj=>absurd hj (Z2l rfl rfl)) [4,5,6,7,8,1,10,2,0] (by decide) rfl rfl) (show 1<1000000 by decide) (by omega))
   rfl rfl (Nat.succ_pos _) rfl (λj hj=>?_)).mono ?_
  ·rcases hj with hj|hj|hj|hj
   ·exact(qE 2 rfl rfl hj)
   ·exact(qE 3 rfl rfl hj)
   ·exact(qE 7 rfl rfl hj)
   ·exact absurd hj (Z2l rfl rfl)
  rintro e w2 ⟨y,hy,hs,hg,rfl,m1,m2,m3,m4⟩;refine⟨tlV y,rfl,rfl,m1,m2,m3,m4,?_⟩;intro w3 hr3;exact⟨by trivial,y,by rw[hy,hpk,if_neg hq1,if_neg h3,if_neg h4,if_neg h8,if_neg h10,if_pos h12];rfl,(hr3.pick [0,1,2,3,4,5,11] (by decide)).conv rfl,(Grew.refl _ _ x).trans hg hr1.mod.size (λj h=>absurd h (Z2l rfl rfl))⟩
 refine⟨λh14=>?_,λh14=>?_⟩
 ·intro w1 hr1;refine(Z30 (k:=k) (x:=x) (F:=λ_=>False) (pre:=[]) hr1 33 0 [5,7,10]
   (Z10r w1 k x c (((hr1.pick [1,2,3,4,5,6,7] (by decide)).conv rfl).base.conv rfl) hb (by omega))
   rfl rfl (Nat.succ_pos _) rfl (λj hj=>?_)).mono ?_
  ·rcases hj with hj|hj|hj|hj
   ·exact(qE 1 rfl rfl hj)
   ·exact(qE 2 rfl rfl hj)
   ·exact(qE 6 rfl rfl hj)
   ·exact hj.elim
  rintro e w2 ⟨y,hy,hs,hg,rfl,m1,m2,m3,m4⟩;refine⟨tlV y,rfl,rfl,m1,m2,m3,m4,?_⟩;intro w3 hr3;exact⟨by trivial,y,by rw[hy,hpk,if_neg hq1,if_neg h3,if_neg h4,if_neg h8,if_neg h10,if_neg h12,if_pos h14],(hr3.pick [0,1,2,3,4,5,10] (by decide)).conv rfl,(Grew.refl _ _ x).trans hg hr1.mod.size (λ_ h=>h.elim)⟩
 intro w3 hr;exact⟨by trivial,x,by rw[hpk,if_neg hq1,if_neg h3,if_neg h4,if_neg h8,if_neg h10,if_neg h12,if_neg h14],(hr.pick [1,2,3,4,5,6,7] (by decide)).conv rfl,.refl _ _ _⟩
abbrev mgV(m:Msg)(v:Value):List V:=[.i m.kind,.i m.code,.i m.id,.s m.tok,.v v,.r (m.opts.map encO),.s m.pay]
def Zvk(w w':World)(e:Ending)(k:Nat)(x:TelX)(av:Value)(t:Tel)(a:Msg):Prop :=
 ∃(y:TelX) (v:Value),e=.returned (mV a (sc1 v))/\y.tel=t/\Rel ⟨Zi (tlA k x) tlH,w⟩ (tlA k y++[.v v,.r (a.opts.map encO)]) (tlH++[.rd 13 [.int .i64,.str] (.var 14)]) w'/\Grew w.heap.size (λ_=>False) x y/\(v=av\/∀j,Z2 v j->w.heap.size<=j)
theorem Z13o(w:World)(k:Nat)(x:TelX)(n:Int)(m a:Msg)(mv av:Value)(name:List UInt8)(hr:Rel ⟨Zi (tlA k x) tlH,w⟩ (tlA k x++([.i n]++mgV m mv++mgV a av++[.s name])) (tlH++[.rd 18 [.int .i64,.str] (.var 19),.rd 25 [.int .i64,.str] (.var 26)]) w)(hb:BOk x.tel)(hml:m.opts.length<1000000000)(hal:a.opts.length<1000000000) : Calls Tryz.prog 141 #[.pointer (some ⟨k,0,none⟩),.int .i64 n,mV m (sc1 mv),mV a (sc1 av),.string ⟨name.toArray⟩] w λe w'=>Zvk w w' e k x av (getB n m a name x.tel).1 (getB n m a name x.tel).2:=by
 refine Z1 (Z3 (J:=tlA k x++([.i n]++mgV m mv++mgV a av++[.s name])) (sxE_ok.joins _) Tryz.func141 Z7l rfl rfl hr rfl rfl ?_) rfl;simp only[Tree.goal,X.P,X.ev,SV.ev,CV.ev,Sc.ev,qz,QA,QB,QC,QD,QE,QF,QG,QH,QI,QJ,QK,QL,QM,Nat.reduceAdd,qy3,qy4,gK1];have hkt:chkK x.kept=0:=hb.kept;have hk16:x.kept.length<=16:=(Zu.1 hkt).1;have hw12:x.wat.length<=12:=(Zr.1 hb.wat).1;intro b29 b30 b31;refine⟨[.i (idx x.kept name),.b (hasK x.kept name)],rfl,λ_ w' hr=>Zta w' x.kv x.kept name (hr.at_ 3 rfl) (Zu.1 hkt).2.2 (by omega),?_⟩;simp only[Tree.goal,X.P,X.ev,SV.ev,CV.ev,Sc.ev,qz,QA,QB,QC,QD,QE,QF,QG,QH,QI,QJ,QK,QL,QM,Nat.reduceAdd,qy3,qy4,gK1];refine⟨λh1 w3 hr=>?_,λh1=>?_⟩
 ·have hg:getB n m a name x.tel=(x.tel,{ a with code:=132 }):=by rw[getB,if_pos (show ¬hasK x.tel.kept name=true from h1)]
  rw[hg];exact⟨x,av,rfl,rfl,(hr.pick [3,4,5,6,7,8,9,11] (by decide)).conv rfl,.refl _ _ _,.inl rfl⟩
 have h1':=qy9.1 h1;have hlt:idx x.kept name<x.kept.length:=(of_decide_eq_true h1').1;refine⟨λvs=>vs=[],⟨by omega,by omega,rfl⟩,?_⟩;rintro _ - rfl;refine⟨[.i (Z2a 6 m.opts).1,.i (Z2a 6 m.opts).2],rfl,λ_ w' hr=>Zyu w' m mv 6 (hr.at_ 10 rfl) hml,?_⟩;simp only[Tree.goal,X.P,X.ev,SV.ev,CV.ev,Sc.ev,qz,QA,QB,QC,QD,QE,QF,QG,QH,QI,QJ,QK,QL,QM,Nat.reduceAdd,qy3,qy4,gK1];obtain⟨a1,ha1⟩:∃a1:Msg,a1={ a with code:=69,pay:=(x.kept.getD (idx x.kept name) kD).2.1 }:=⟨_,rfl⟩
 have hg0:getB n m a name x.tel=if(Z2a 6 m.opts).2=0/\(Z2a 6 m.opts).1=0 then
   if(Z2t x.wat (n,m.tok,name,1)).2=0 then({ x.tel with wat:=(Z2t x.wat (n,m.tok,name,1)).1 },putM a1 1)else(x.tel,a1)
  else if(Z2a 6 m.opts).2=0/\(Z2a 6 m.opts).1=1 then({ x.tel with wat:=filt n m.tok x.wat },a1)
  else(x.tel,a1):=by rw[getB,if_neg (show ¬¬hasK x.tel.kept name=true from h1),ha1];rfl
 refine⟨λh2=>?_,λh2=>?_⟩
 ·rw[if_pos h2]at hg0;obtain⟨R,hR⟩:∃R,R=Z2t x.wat (n,m.tok,name,1):=⟨_,rfl⟩
  rw[<- hR]at hg0;refine⟨λvs=>∃v':Value,vs=[.v v',.r (R.1.map Z7),.i R.2],?_,?_⟩
  ·intro w1 hr1;refine(Z14s w1 x.av x.wat (n,m.tok,name,1) (hr1.at_ 6 rfl).reads (by omega)).mono ?_;rw[<- hR];rintro e w2 ⟨v',rfl,g1,g2,gm⟩;exact⟨[.v v',.r (R.1.map Z7),.i R.2],rfl,rfl,gm,qy5 _,qy2.2 ⟨⟨g1,λk hk=>.inl (g2 k hk)⟩,qy5 _⟩,Z5,v',rfl⟩
  rintro _ - ⟨v1,rfl⟩;simp only[Tree.goal,X.P,X.ev,SV.ev,CV.ev,Sc.ev,qz,QA,QB,QC,QD,QE,QF,QG,QH,QI,QJ,QK,QL,QM,Nat.reduceAdd,qy3,qy4,gK1];refine⟨λh3=>?_,λh3=>?_⟩
  ·have hgp:({ x.tel with wat:=R.1 },putM a1 1)=getB n m a name x.tel:=by rw[hg0,if_pos h3]
   rw[<- hgp];intro b39 b40;refine⟨?_,?_⟩
   ·refine⟨[.s (Z1x 1)],rfl,λ_ w' _=>Zbq w' 1 (by decide),?_⟩;simp only[Tree.goal,X.P,X.ev,SV.ev,CV.ev,Sc.ev,qz,QA,QB,QC,QD,QE,QF,QG,QH,QI,QJ,QK,QL,QM,Nat.reduceAdd,qy3,qy4,gK1];intro v42 w1 hr1;have hz1:=hr1.mod.size;refine(Z1 (Zar w1 a1 av v42 6 [Z1x 1] (by rw[ha1];exact hr1.at_ 15 rfl) (hr1.at_ 0 rfl).reads (by rw[ha1];exact hal) (show 1<1000000000 by decide)) (by rw[ha1];rfl)).mono ?_;rintro e w5 ⟨v',rfl,q1,q2,qm⟩;refine⟨[.i a1.kind,.i a1.code,.i a1.id,.s a1.tok,.v v',.r ((putM a1 1).opts.map encO),.s a1.pay],rfl,rfl,qm,qy5 _,qy2.2 ⟨⟨q1,λk hk=>.inl (q2 k hk.2)⟩,qy5 _⟩,Z5,?_⟩;intro w6 hr6;exact⟨{ x with wat:=R.1,av:=v1 },v',rfl,rfl,(hr6.pick [8,9,10,4,12,13,14,0] (by decide)).conv rfl,⟨λj hj=>.inr hj,λj hj=>.inr hj,λj hj=>.inr (.inl hj)⟩,.inr λj hj=>Nat.le_trans hz1 (q2 j hj)⟩
   ·refine⟨[.s (Z1x 1)],rfl,λ_ w' _=>Zbq w' 1 (by decide),?_⟩;simp only[Tree.goal,X.P,X.ev,SV.ev,CV.ev,Sc.ev,qz,QA,QB,QC,QD,QE,QF,QG,QH,QI,QJ,QK,QL,QM,Nat.reduceAdd,qy3,qy4,gK1];refine⟨?_,?_⟩
    ·intro v42 w1 hr1;have hz1:=hr1.mod.size;refine(Z1 (Zar w1 a1 av v42 6 [Z1x 1] (by rw[ha1];exact hr1.at_ 15 rfl) (hr1.at_ 0 rfl).reads (by rw[ha1];exact hal) (show 1<1000000000 by decide)) (by rw[ha1];rfl)).mono ?_;rintro e w5 ⟨v',rfl,q1,q2,qm⟩;refine⟨[.i a1.kind,.i a1.code,.i a1.id,.s a1.tok,.v v',.r ((putM a1 1).opts.map encO),.s a1.pay],rfl,rfl,qm,qy5 _,qy2.2 ⟨⟨q1,λk hk=>.inl (q2 k hk.2)⟩,qy5 _⟩,Z5,?_⟩;intro w6 hr6;exact⟨{ x with wat:=R.1,av:=v1 },v',rfl,rfl,(hr6.pick [8,9,10,4,12,13,14,0] (by decide)).conv rfl,⟨λj hj=>.inr hj,λj hj=>.inr hj,λj hj=>.inr (.inl hj)⟩,.inr λj hj=>Nat.le_trans hz1 (q2 j hj)⟩
    ·intro v42 w1 hr1;have hz1:=hr1.mod.size;refine(Z1 (Zar w1 a1 av v42 6 [Z1x 1] (by rw[ha1];exact hr1.at_ 15 rfl) (hr1.at_ 0 rfl).reads (by rw[ha1];exact hal) (show 1<1000000000 by decide)) (by rw[ha1];rfl)).mono ?_;rintro e w5 ⟨v',rfl,q1,q2,qm⟩;refine⟨[.i a1.kind,.i a1.code,.i a1.id,.s a1.tok,.v v',.r ((putM a1 1).opts.map encO),.s a1.pay],rfl,rfl,qm,qy5 _,qy2.2 ⟨⟨q1,λk hk=>.inl (q2 k hk.2)⟩,qy5 _⟩,Z5,?_⟩;intro w6 hr6;exact⟨{ x with wat:=R.1,av:=v1 },v',rfl,rfl,(hr6.pick [8,9,10,4,12,13,14,0] (by decide)).conv rfl,⟨λj hj=>.inr hj,λj hj=>.inr hj,λj hj=>.inr (.inl hj)⟩,.inr λj hj=>Nat.le_trans hz1 (q2 j hj)⟩
  ·rw[if_neg h3]at hg0;rw[hg0];intro w3 hr;exact⟨x,av,by rw[ha1];rfl,rfl,by rw[ha1];exact(hr.pick [4,5,6,7,8,9,10,12] (by decide)).conv rfl,.refl _ _ _,.inl rfl⟩
 ·rw[if_neg h2]at hg0;refine⟨λh3=>?_,λh3 w3 hr=>?_⟩
  ·rw[if_pos h3]at hg0;rw[hg0];refine⟨λvs=>∃v':Value,vs=[.v v',.r ((filt n m.tok x.wat).map Z7)],?_,?_⟩
   ·intro w1 hr1;refine(Za5 w1 x.av x.wat n m.tok (hr1.at_ 6 rfl).reads (by omega)).mono ?_;rintro e w2 ⟨v',rfl,g1,g2,gm⟩;exact⟨[.v v',.r ((filt n m.tok x.wat).map Z7)],rfl,rfl,gm,qy5 _,qy2.2 ⟨⟨g1,λk hk=>.inl (g2 k hk)⟩,qy5 _⟩,Z5,v',rfl⟩
   rintro _ - ⟨v1,rfl⟩;simp only[Tree.goal,X.P,X.ev,SV.ev,CV.ev,Sc.ev,qz,QA,QB,QC,QD,QE,QF,QG,QH,QI,QJ,QK,QL,QM,Nat.reduceAdd,qy3,qy4,gK1];intro w3 hr;exact⟨{ x with wat:=filt n m.tok x.wat,av:=v1 },av,by rw[ha1];rfl,rfl,by rw[ha1];exact(hr.pick [4,5,6,0,8,9,10,12] (by decide)).conv rfl,⟨λj hj=>.inr hj,λj hj=>.inr hj,λj hj=>.inr (.inl hj)⟩,.inl rfl⟩
  ·rw[if_neg h3]at hg0;rw[hg0];exact⟨x,av,by rw[ha1];rfl,rfl,by rw[ha1];exact(hr.pick [3,4,5,6,7,8,9,11] (by decide)).conv rfl,.refl _ _ _,.inl rfl⟩
theorem Z15w{B:Base}{J:List V}{hp:List Ent}{w:World}(h:Rel B J hp w)(hb:hp.all (Ent.bd J.length)=true)(k:Nat)(x:TelX)(Jx:List V)(hx:List Ent)(hA:(Z6 x.sx x.ox).holds w)(hf:∀j,(Z6 x.sx x.ox).fp j->∃e∈hp,e.wr=false/\e.fp J j)(is:List Nat)(hn:is.Nodup) (hfp:Zi (tlA k x++Jx) (tlH++hx)=Zi (tlA k x) tlH) (hs:(is.filterMap λi=>(Ent.st J.length::hp)[i]?).map (Ent.sem (J++[.a (Z6 x.sx x.ox)]))=(tlH++hx).map (Ent.sem (tlA k x++Jx))) : Rel ⟨Zi (tlA k x) tlH,w⟩ (tlA k x++Jx) (tlH++hx) w:=by have h3:=(((h.gather hb _ hA hf).pick is hn).conv hs).base;rw[hfp]at h3;exact h3
theorem Z15x{P:Program}{f:Nat}{args:Array Value}{w:World}{B:Base}{J:List V}{hp:List Ent}{k:Nat}{x:TelX}{av:Value}{t:Tel}{a:Msg}(h0:Rel B J hp w)(n vk:Nat)(gone:List Nat) (h:Calls P f args w λe w1=>Zvk w w1 e k x av t a) (hav:∀j,¬Z2 av j) (hn:J.length+7=n) (hk:J.getD vk (.i 0)=.n k) (hv:vk<J.length) (hM:Zo J [vk] gone=k::(x.sv.ownBlock.toList++(x.av.ownBlock.toList++(x.ov.ownBlock.toList++[])))) (hO:∀j,(Zfw x j\/Zbs x j\/(Z6 x.sx x.ox).fp j)->∃y∈hp,y.wr=false/\y.fp J j) : Calls P f args w λe w1=>∃(y:TelX) (v:Value),y.tel=t/\w.heap.size<=w1.heap.size/\Grew w.heap.size (λ_=>False) x y/\(∀j,Z2 v j->w.heap.size<=j)/\e=.returned (mV a (sc1 v))/\Mod (Zo J [vk] gone) w w1/\(∀x∈tlMs vk n,x.holds (J++(mgV a v++tlV y)) w1) /\ (∀x∈Ent.rd (J.length+4) [.int .i64,.str] (.var (J.length+5))::tlEs n,x.holds (J++(mgV a v++tlV y)) w1/\∀k,x.fp (J++(mgV a v++tlV y)) k->w.heap.size<=k\/(x.wr=false/\∃y∈hp,y.wr=false/\y.fp J k)\/k∈Zw J gone)/\Z2o (J++(mgV a v++tlV y)) (Ent.rd (J.length+4) [.int .i64,.str] (.var (J.length+5))::tlEs n):=by
 refine h.mono ?_;rintro e w1 ⟨y,v,he,hT,hq,hg,hvv⟩;have hvn:∀j,Z2 v j->w.heap.size<=j:=λj hj=>by
  rcases hvv with rfl|h
  ·exact absurd hj (hav j)
  ·exact h j hj
 have hs:=Zum (y:=y) (pre:=mgV a v) (show J.length+7=n from hn) hk hv;have ge:∀i,(J++(mgV a v++tlV y)).getD (J.length+i) (.i 0)=(mgV a v++tlV y).getD i (.i 0):=λi=>by rw[qy1,qy1,List.getElem?_append_right (by omega),Nat.add_sub_cancel_left]
 have hs2:(tlH++[Ent.rd 13 [.int .i64,.str] (.var 14)]).map (Ent.sem (tlA k y++[.v v,.r (a.opts.map encO)]))=((tlEs n++tlMs vk n)++[Ent.rd (J.length+4) [.int .i64,.str] (.var (J.length+5))]).map (Ent.sem (J++(mgV a v++tlV y))):=by
  rw[List.map_append,List.map_append,<- hs];congr 1
  simp only[List.map_cons,List.map_nil];exact congrArg (λz=>[z]) (Zl4 (r:=.var 14) (r':=.var (J.length+5)) (by rw[ge 4];rfl) (by simp only[X.ev];rw[ge 5];rfl))
 have hfull:Rel ⟨Zo J [vk] gone,w⟩ (J++(mgV a v++tlV y)) ((tlEs n++tlMs vk n)++[Ent.rd (J.length+4) [.int .i64,.str] (.var (J.length+5))]) w1:=Zio (hq.conv hs2) rfl λj hj=>by rw[show(Base.fp ⟨Zo J [vk] gone,w⟩)=Zo J [vk] gone from rfl,hM];exact Zqp hj
 have hq':Rel ⟨Zo J [vk] gone,w⟩ (J++(mgV a v++tlV y)) (tlEs n++tlMs vk n) w1:=(hfull.pick [0,1,2,3,4,5,6] (by decide)).conv rfl;have hrd:Rel ⟨Zo J [vk] gone,w⟩ (J++(mgV a v++tlV y)) (Ent.rd (J.length+4) [.int .i64,.str] (.var (J.length+5))::tlEs n) w1:=(hfull.pick [7,0,1,2,3,4,5] (by decide)).conv rfl;refine⟨y,v,hT,hq.mod.size,hg,hvn,he,hq'.mod,λx hx=>hq'.holds x (List.mem_append_right _ hx),λx hx=>⟨hrd.holds x hx,λj hj=>?_⟩,hrd.sep⟩;rcases List.mem_cons.1 hx with rfl|hx
 ·refine .inl (hvn j ?_);have:=hj.2;rw[ge 4]at this;exact this
 cases hw:x.wr with
 | false =>
  have h1:Ent.sem (J++(mgV a v++tlV y)) x∈tlH.map (Ent.sem (tlA k y)):=by rw[hs];exact List.mem_map_of_mem (List.mem_append_left _ hx)
  obtain⟨e',he',hee⟩:=List.mem_map.1 h1;have hw':e'.wr=false:=(congrArg SEnt.wr hee).trans hw;have hj':e'.fp (tlA k y) j:=(congrFun (congrArg SEnt.fp hee) j).mpr hj;have key:∀j,(Zfw y j\/Zbs y j\/(Z6 y.sx y.ox).fp j)->w.heap.size<=j\/∃y∈hp,y.wr=false/\y.fp J j:=by
   rintro j (h|h|h)
   ·rcases hg.kept j h with h|h
    ·exact .inl h
    ·exact .inr (hO j (.inl h))
   ·rcases hg.want j h with h|h
    ·exact .inl h
    ·exact .inr (hO j (.inr (.inl h)))
   ·rcases hg.nest j h with h|h|h
    ·exact .inl h
    ·exact .inr (hO j (.inr (.inr h)))
    ·exact h.elim
  have fin:w.heap.size<=j\/∃y∈hp,y.wr=false/\y.fp J j:=by
   simp only[tlH,List.mem_cons,List.not_mem_nil,or_false]at he';rcases he' with rfl|rfl|rfl|rfl|rfl|rfl|rfl
   ·exact key j (.inl hj')
   ·exact key j (.inr (.inl hj'))
   ·cases hw'
   ·cases hw'
   ·cases hw'
   ·exact key j (.inr (.inr hj'))
   ·cases hw'
  rcases fin with h|h
  ·exact .inl h
  ·exact .inr (.inl ⟨rfl,h⟩)
 | true =>
  rcases hq'.own x (List.mem_append_left _ hx) hw j hj with h5|h5
  ·exact .inl h5
  ·simp only[Zo,List.map_cons,List.map_nil,qy13,qy12]at h5;rcases h5 with h5|h5
   ·exfalso;refine(List.pairwise_append.1 hq'.sep).2.2 x hx _ (qy12.2 rfl) (.inl hw) _ hj ?_;rw[h5];simp only[Ent.fp];rw[qy1 (l:=J++_),List.getElem?_append_left hv,<- qy1]
   ·exact .inr (.inr h5)
theorem Zdo{α:Type}{f:Tel->α->Tel}(h:∀t a,t.out <+: (f t a).out):∀(l:List α) (t:Tel),t.out <+: (l.foldl f t).out
 | [],_=>List.prefix_rfl
 | a::l,t=>(h t a).trans (Zdo h l (f t a))
theorem Zzj(n p:List UInt8)(q:Int)(t:Tel):t.out <+: (Z68 n p q t).out:=by have h1:t.out <+: (Z5a n p q t).out:=Zdo (λt r=>⟨_,rfl⟩) _ _;exact h1.trans (Zdo (f:=Z39 p) (λt r=>⟨_,rfl⟩) (Z2k n (Z5a n p q t).wat) { Z5a n p q t with wat:=Z28 n (Z5a n p q t).wat })
theorem Zp3(n p:List UInt8)(t:Tel):t.out <+: (Zx n p t).1.out:=by
 unfold Zx;split
 ·exact List.prefix_rfl
 split
 ·exact List.prefix_rfl
 ·exact Zdo (f:=Z7k) (λt r=>⟨_,rfl⟩) (t.wat.filter (ofT n)) { t with kept:=(rawK t.kept n p).1 }
theorem Z13p(n:Int)(m a:Msg)(name:List UInt8)(t:Tel):t.out <+: (getB n m a name t).1.out:=by
 unfold getB;split
 ·exact List.prefix_rfl
 simp only;split
 ·split<;>exact List.prefix_rfl
 ·split<;>exact List.prefix_rfl
theorem Z10w(n:Int)(m a:Msg)(t:Tel):t.out <+: (doB n m a t).1.out:=by
 unfold doB;split
 ·exact List.prefix_rfl
 split
 ·exact Z13p ..
 split
 ·split
  ·exact(Zp3 ..).trans (Zzj ..)
  ·exact List.prefix_rfl
 split
 ·exact Zp3 ..
 ·exact List.prefix_rfl
def sntD:SntX:=nilX (toP 0 ⟨0,0,0,[],[],[]⟩)
theorem Zms{l:List SntX}{i:Nat}(h:i<l.length):(l.map Z12).getD i []=Z12 (l.getD i sntD):=by rw[qy1,qy1,List.getElem?_map,qy7 h];rfl
theorem Zzk{l:List SntX}{i:Nat}(h:i<l.length):l.getD i sntD∈l:=by rw[qy1,qy7 h];exact List.getElem_mem h
theorem Z10x{l:List SntX}{o r:List Snt}{s:Snt}(h:(o++[s])++r=l.map (·.1)):o.length<l.length/\(l.getD o.length sntD).1=s:=by
 have hl:=congrArg List.length h;simp only[qy11,List.length_cons,List.length_nil,qy3]at hl;refine⟨by omega,?_⟩;have h1:=congrArg (λm=>m[o.length]?) h;simp only[List.append_assoc,List.getElem?_append_right (Nat.le_refl _),Nat.sub_self,List.getElem?_map,List.singleton_append,List.getElem?_cons_zero]at h1;rw[qy1];cases hh:l[o.length]? with
 | none=>rw[hh]at h1;cases h1
 | some t=>rw[hh]at h1;simpa using h1.symm
theorem Zvl{n p:List UInt8}{t:Tel}(h:¬(Zx n p t).2=true):(Zx n p t).1=t:=by
  unfold Zx at h⊢;split
  . rfl
  . rename_i h1;rw[if_neg h1]at h;split at h<;>exact absurd rfl h
set_option maxRecDepth 2000 in
theorem Zvm(w:World)(k:Nat)(x:TelX)(n:Int)(m:Msg)(mv:Value)(hr:Rel ⟨Zi (tlA k x) tlH,w⟩ (tlA k x++([.i n]++mgV m mv)) (tlH++[.rd 18 [.int .i64,.str] (.var 19)]) w)(hb:BOk x.tel)(ho:x.ox.length<40000)(hn:0<=n/\n<=9)(hm:chk m=0) : Calls Tryz.prog 75 #[.pointer (some ⟨k,0,none⟩),.int .i64 n,mV m (sc1 mv)] w λe w'=>e=.returned (.tuple #[])/\Z7z w w' k x (λ_=>False) (Z2z n m x.tel):=by
  refine Z1 (Z3 (J:=tlA k x++([.i n]++mgV m mv)) (sxE_ok.joins _) Tryz.func75 Z51 rfl rfl hr rfl rfl ?_) rfl;simp only[Tree.goal,X.P,X.ev,SV.ev,CV.ev,Sc.ev,qz,QA,QB,QC,QD,QE,QF,QG,QH,QI,QJ,QK,QL,QM,Nat.reduceAdd,qy3,qy4];have hzn:0<=x.next/\x.next<=65535:=hb.next;obtain⟨-,-,⟨m1,mo,mp⟩,-⟩:=Z7x.1 hm;obtain⟨AK,hAK⟩:∃AK:Int,AK=if m.kind=1 then 1 else 2:=⟨_,rfl⟩
  obtain⟨AI,hAI⟩:∃AI:Int,AI=if m.kind=1 then x.next else m.id:=⟨_,rfl⟩
  obtain⟨N,hN⟩:∃N:Int,N=if m.kind=1 then nx_Z x.next else x.next:=⟨_,rfl⟩
  have hans:Z1o m x.next=(⟨AK,133,AI,m.tok,[],[]⟩:Msg):=by rw[Z1o,hAK,hAI];split<;>rfl
  have hnil:∀s∈[toP n (⟨AK,133,AI,m.tok,[],[]⟩:Msg)],nilS s:=λs hs=>by rw[qy12.1 hs];exact⟨rfl,rfl,rfl⟩
  obtain⟨q1,q2⟩:=Z8d (l:=x.sx) (o:=x.ox) hnil;simp only[List.map_cons,List.map_nil]at q1 q2;have hox:x.ox.map Z12++[Z12 (nilX (toP n (⟨AK,133,AI,m.tok,[],[]⟩:Msg)))]=(x.ox++[nilX (toP n (⟨AK,133,AI,m.tok,[],[]⟩:Msg))]).map Z12:=by rw[List.map_append];rfl
  intro b21 b22;refine⟨λvs=>vs=[.i AK,.i AI,.i N],⟨λh=>⟨by omega,by omega,?_⟩,λh=>?_⟩,?_⟩
  . rw[Zv6 _ hzn,hAK,hAI,hN,if_pos h,if_pos h,if_pos h]
  . rw[hAK,hAI,hN,if_neg h,if_neg h,if_neg h]
  rintro _ - rfl;simp only[Tree.goal,X.P,X.ev,SV.ev,CV.ev,Sc.ev,qz,QA,QB,QC,QD,QE,QF,QG,QH,QI,QJ,QK,QL,QM,Nat.reduceAdd,qy3,qy4];intro b26 v27;refine⟨by first|omega|(simp;omega),λv28=>?_⟩;refine⟨[.s (Z10 m.opts).1,.i (Z10 m.opts).2],rfl,λ_ w' hr=>Zyv w' m mv (hr.at_ 11 rfl) hm,?_⟩;simp only[Tree.goal,X.P,X.ev,SV.ev,CV.ev,Sc.ev,qz,QA,QB,QC,QD,QE,QF,QG,QH,QI,QJ,QK,QL,QM,Nat.reduceAdd,qy3,qy4];obtain⟨T1,hT1⟩:∃T1:Tel,T1=TelX.tel { x with next:=N,ox:=x.ox++[nilX (toP n (⟨AK,133,AI,m.tok,[],[]⟩:Msg))],ov:=v28 }:=⟨_,rfl⟩
  have hT1':T1={ x.tel with next:=N,out:=x.tel.out++[toP n (⟨AK,133,AI,m.tok,[],[]⟩:Msg)] }:=by rw[hT1];simp only[TelX.tel,List.map_append,List.map_cons,List.map_nil];rfl
  have hB1:BOk T1:=by
    rw[hT1'];refine⟨hb.kept,hb.wants,hb.ns,hb.ses,hb.sort,hb.wat,hb.has,hb.kpt,?_⟩
    show 0<=N/\N<=65535
    rw[hN];split
    . exact Zcb _ hzn.1
    . exact hzn
  have hG1:∀w0:Nat,Grew w0 (λ_=>False) x { x with next:=N,ox:=x.ox++[nilX (toP n (⟨AK,133,AI,m.tok,[],[]⟩:Msg))],ov:=v28 }:=λw0=>⟨λj hj=>.inr hj,λj hj=>.inr hj,λj hj=>.inr (.inl (q2 j hj))⟩
  have hol:x.tel.out.length=x.ox.length:=by simp[TelX.tel]
  have lenX:∀y:TelX,y.tel.out.length=y.ox.length:=λy=>by simp[TelX.tel]
  have l1:T1.out.length=x.ox.length+1:=by rw[hT1'];simp only[qy11,List.length_cons,List.length_nil,hol]
  have hpn:(Z10 m.opts).2=0->chkT (Z10 m.opts).1 false=0:=Zax;refine⟨λvs=>∃(y:TelX) (a':Msg) (u:Value),vs=[.i 0,.i 0,.i 0,.i 0,.i 0,.i 0,.i 0,.i 0,.i 0,.i 0,.i 0,.i 0,.i 0,.i 0,.i 0,.i 0,.i 0,.i 0,.i 0,.i 0,.i 0,.i 0,.i 0,.i 0,.i 0,.i a'.kind,.i a'.code,.i a'.id,.s a'.tok,.v u,.s a'.pay,.v y.kv,.v y.wv,.v y.sv,.v y.av,.i y.next,.v y.ov,.r (a'.opts.map encO),.r (y.kept.map encK),.r (y.wants.map Za),.r (y.sx.map Zf),.r (y.wat.map Z7),.r (y.ox.map Z12),.a (Z6 y.sx y.ox)]/\(y.tel,a')=doB n m (⟨AK,133,AI,m.tok,[],[]⟩:Msg) T1/\Grew w.heap.size (λ_=>False) x y/\(∀j,Z2 u j->w.heap.size<=j),⟨λh1=>?_,λh1=>⟨λh2=>?_,λh2=>⟨λh3=>⟨λh4=>?_,λh4=>?_⟩,λh3=>⟨λh4=>?_,λh4=>?_⟩⟩⟩⟩,?_⟩
  . refine⟨Z6 x.sx (x.ox++[nilX (toP n (⟨AK,133,AI,m.tok,[],[]⟩:Msg))]),λw hr=>q1 w (hr.at_ 9 rfl),λj hj=>(qE 9 rfl rfl (q2 j hj)),{ x with next:=N,ox:=x.ox++[nilX (toP n (⟨AK,133,AI,m.tok,[],[]⟩:Msg))],ov:=v28 },{ (⟨AK,133,AI,m.tok,[],[]⟩:Msg)with code:=128 },.slice none 0 0,?_,?_,hG1 _,λj hj=>absurd hj (by simp[Z2,Value.ownBlock])⟩
    . rw[<- hox];rfl
    . rw[doB,if_pos h1,hT1]
  . have h1':=qy9.1 h1;intro w1 hr1;have hz1:=hr1.mod.size;have hq:=Z15w hr1 (by rfl) k { x with next:=N,ox:=x.ox++[nilX (toP n (⟨AK,133,AI,m.tok,[],[]⟩:Msg))],ov:=v28 } ([.i n]++mgV m mv++mgV (⟨AK,133,AI,m.tok,[],[]⟩:Msg) (.slice none 0 0)++[.s (Z10 m.opts).1]) [.rd 18 [.int .i64,.str] (.var 19)] (q1 _ (hr1.at_ 9 rfl)) (λj hj=>(qE 9 rfl rfl (q2 j hj))) [6,7,8,9,1,0,11,12] (by decide) rfl (Zg rfl (Zg rfl (Zg rfl (Zg rfl (Zg (Z2r rfl hox) rfl)))));have hq1:=hq.cons (e:=.rd 25 [.int .i64,.str] (.var 26)) (show reads w1 (.slice none 0 0) [.int .i64,.str] [] from Z9 _ _) (λh=>Bool.noConfusion h) (λe' _ _ k hk _=>hk.1 rfl);have hq2:Rel ⟨Zi (tlA k { x with next:=N,ox:=x.ox++[nilX (toP n (⟨AK,133,AI,m.tok,[],[]⟩:Msg))],ov:=v28 }) tlH,w1⟩ (tlA k { x with next:=N,ox:=x.ox++[nilX (toP n (⟨AK,133,AI,m.tok,[],[]⟩:Msg))],ov:=v28 }++([.i n]++mgV m mv++mgV (⟨AK,133,AI,m.tok,[],[]⟩:Msg) (.slice none 0 0)++[.s (Z10 m.opts).1])) (tlH++[.rd 18 [.int .i64,.str] (.var 19),.rd 25 [.int .i64,.str] (.var 26)]) w1:=(hq1.pick [1,2,3,4,5,6,7,8,0] (by decide)).conv rfl;clear hq hq1;have hc:=Z13o w1 k { x with next:=N,ox:=x.ox++[nilX (toP n (⟨AK,133,AI,m.tok,[],[]⟩:Msg))],ov:=v28 } n m (⟨AK,133,AI,m.tok,[],[]⟩:Msg) mv (.slice none 0 0) (Z10 m.opts).1 hq2 (by rw[<- hT1];exact hB1) (by omega) (show 0<1000000000 by decide);rw[<- hT1]at hc;obtain⟨G,hG⟩:∃G,G=getB n m (⟨AK,133,AI,m.tok,[],[]⟩:Msg) (Z10 m.opts).1 T1:=⟨_,rfl⟩
    rw[<- hG]at hc;refine(Z15x (x:={ x with next:=N,ox:=x.ox++[nilX (toP n (⟨AK,133,AI,m.tok,[],[]⟩:Msg))],ov:=v28 }) hr1 38 0 [5,7,28] hc
      (λj hj=>by simp[Z2,Value.ownBlock]at hj) rfl rfl (Nat.succ_pos _) rfl (λj hj=>?_)).mono ?_
    . rcases hj with hj|hj|hj
      . exact(qE 5 rfl rfl hj)
      . exact(qE 6 rfl rfl hj)
      . exact(qE 9 rfl rfl (q2 j hj))
    rintro e w2 ⟨y,v,hy,hsz,hg,hv,rfl,m1,m2,m3,m4⟩;refine⟨mgV G.2 v++tlV y,rfl,rfl,m1,m2,m3,m4,?_⟩;refine⟨Z6 y.sx y.ox,λw hr=>hr.at_ 6 rfl,λj hj=>(qE 6 rfl rfl hj),y,G.2,v,rfl,?_,(hG1 _).trans hg hz1 (λ_ h=>h.elim),λj hj=>Nat.le_trans hz1 (hv j hj)⟩;rw[hy,doB,if_neg h1,if_pos h2,<- hG]
  . have h1':=qy9.1 h1;intro w1 hr1;have hz1:=hr1.mod.size;have hc:=Zoy w1 k { x with next:=N,ox:=x.ox++[nilX (toP n (⟨AK,133,AI,m.tok,[],[]⟩:Msg))],ov:=v28 } (Z10 m.opts).1 m.pay ((Zz8 hr1 (by rfl) k { x with next:=N,ox:=x.ox++[nilX (toP n (⟨AK,133,AI,m.tok,[],[]⟩:Msg))],ov:=v28 } (q1 _ (hr1.at_ 9 rfl)) (λj hj=>(qE 9 rfl rfl (q2 j hj))) [6,7,8,9,1,0,11] (by decide) (Zg rfl (Zg rfl (Zg rfl (Zg rfl (Zg (Z2r rfl hox) rfl)))))).conv rfl) (by rw[<- hT1];exact hB1) (by rw[<- lenX,<- hT1];omega);rw[<- hT1]at hc;refine(Z30 (k:=k) (x:={ x with next:=N,ox:=x.ox++[nilX (toP n (⟨AK,133,AI,m.tok,[],[]⟩:Msg))],ov:=v28 }) (F:=λ_=>False) (pre:=[.b (Zx (Z10 m.opts).1 m.pay T1).2]) hr1 32 0 [5,7,28] hc
      rfl rfl (Nat.succ_pos _) rfl (λj hj=>?_)).mono ?_
    . rcases hj with hj|hj|hj|hj;(· exact(qE 5 rfl rfl hj));(· exact(qE 6 rfl rfl hj));(· exact(qE 9 rfl rfl (q2 j hj)));(· exact hj.elim)
    rintro e w2 ⟨y,hy,hsz,hg,rfl,m1,m2,m3,m4⟩;refine⟨.b (Zx (Z10 m.opts).1 m.pay T1).2::tlV y,rfl,rfl,m1,m2,m3,m4,?_⟩;clear m1 m2 m3 m4;obtain⟨b2,-,s2,l2⟩:=Z74 (p:=m.pay) hB1 (hpn h1');have g2:Grew w.heap.size (λ_=>False) x y:=(hG1 _).trans hg hz1 (λ_ h=>h.elim);refine⟨λh5=>?_,λh5=>?_⟩
    . intro w3 hr3;have hz3:=hr3.mod.size;refine(Z30 (k:=k) (x:=y) (F:=λ_=>False) (pre:=[]) hr3 44 0 [36,38,41]
        (Zl3 w3 k y (Z10 m.opts).1 m.pay 1 (((hr3.pick [0,1,2,3,4,5,13] (by decide)).conv rfl).base.conv rfl) (by rw[hy];exact b2) (by rw[<- lenX,hy];omega) (by show Z1n y.tel.wants;rw[hy,s2,hT1'];exact Z8h hb.wants) (by unfold flE;rw[if_pos (hpn h1'),if_neg (show ¬200<(m.pay.length:Int) from by omega)]) (by decide))
        rfl rfl (Nat.succ_pos _) rfl (λj hj=>?_)).mono ?_
      . rcases hj with hj|hj|hj|hj
        . exact(qE 0 rfl rfl hj)
        . exact(qE 1 rfl rfl hj)
        . exact(qE 5 rfl rfl hj)
        . exact hj.elim
      rintro e w4 ⟨y2,hy2,hsz2,hg2,rfl,m1,m2,m3,m4⟩;refine⟨tlV y2,rfl,rfl,m1,m2,m3,m4,?_⟩;refine⟨Z6 y2.sx y2.ox,λw hr=>hr.at_ 5 rfl,λj hj=>(qE 5 rfl rfl hj),y2,{ (⟨AK,133,AI,m.tok,[],[]⟩:Msg)with code:=68 },.slice none 0 0,rfl,?_,g2.trans hg2 hz3 (λ_ h=>h.elim),λj hj=>absurd hj (by simp[Z2,Value.ownBlock])⟩;rw[hy2,hy,doB,if_neg h1,if_neg h2,if_pos h3,if_pos ⟨h4,h5⟩]
    . refine⟨Z6 y.sx y.ox,λw hr=>hr.at_ 5 rfl,λj hj=>(qE 5 rfl rfl hj),y,{ (⟨AK,133,AI,m.tok,[],[]⟩:Msg)with code:=128 },.slice none 0 0,rfl,?_,g2,λj hj=>absurd hj (by simp[Z2,Value.ownBlock])⟩;rw[hy,doB,if_neg h1,if_neg h2,if_pos h3,if_neg λh=>h5 h.2,Zvl h5]
  . refine⟨Z6 x.sx (x.ox++[nilX (toP n (⟨AK,133,AI,m.tok,[],[]⟩:Msg))]),λw hr=>q1 w (hr.at_ 9 rfl),λj hj=>(qE 9 rfl rfl (q2 j hj)),{ x with next:=N,ox:=x.ox++[nilX (toP n (⟨AK,133,AI,m.tok,[],[]⟩:Msg))],ov:=v28 },{ (⟨AK,133,AI,m.tok,[],[]⟩:Msg)with code:=128 },.slice none 0 0,?_,?_,hG1 _,λj hj=>absurd hj (by simp[Z2,Value.ownBlock])⟩
    . rw[<- hox];rfl
    . rw[doB,if_neg h1,if_neg h2,if_pos h3,if_neg λh=>h4 h.1,hT1]
  . intro w1 hr1;have hz1:=hr1.mod.size;have hc:=Zoy w1 k { x with next:=N,ox:=x.ox++[nilX (toP n (⟨AK,133,AI,m.tok,[],[]⟩:Msg))],ov:=v28 } (Z10 m.opts).1 [] ((Zz8 hr1 (by rfl) k { x with next:=N,ox:=x.ox++[nilX (toP n (⟨AK,133,AI,m.tok,[],[]⟩:Msg))],ov:=v28 } (q1 _ (hr1.at_ 9 rfl)) (λj hj=>(qE 9 rfl rfl (q2 j hj))) [6,7,8,9,1,0,11] (by decide) (Zg rfl (Zg rfl (Zg rfl (Zg rfl (Zg (Z2r rfl hox) rfl)))))).conv rfl) (by rw[<- hT1];exact hB1) (by rw[<- lenX,<- hT1];omega);rw[<- hT1]at hc;refine(Z30 (k:=k) (x:={ x with next:=N,ox:=x.ox++[nilX (toP n (⟨AK,133,AI,m.tok,[],[]⟩:Msg))],ov:=v28 }) (F:=λ_=>False) (pre:=[.b (Zx (Z10 m.opts).1 [] T1).2]) hr1 32 0 [5,7,28] hc
      rfl rfl (Nat.succ_pos _) rfl (λj hj=>?_)).mono ?_
    . rcases hj with hj|hj|hj|hj;(· exact(qE 5 rfl rfl hj));(· exact(qE 6 rfl rfl hj));(· exact(qE 9 rfl rfl (q2 j hj)));(· exact hj.elim)
    rintro e w2 ⟨y,hy,hsz,hg,rfl,m1,m2,m3,m4⟩;refine⟨.b (Zx (Z10 m.opts).1 [] T1).2::tlV y,rfl,rfl,m1,m2,m3,m4,?_⟩;clear m1 m2 m3 m4;refine⟨Z6 y.sx y.ox,λw hr=>hr.at_ 5 rfl,λj hj=>(qE 5 rfl rfl hj),y,{ (⟨AK,133,AI,m.tok,[],[]⟩:Msg)with code:=66 },.slice none 0 0,rfl,?_,(hG1 _).trans hg hz1 (λ_ h=>h.elim),λj hj=>absurd hj (by simp[Z2,Value.ownBlock])⟩;rw[hy,doB,if_neg h1,if_neg h2,if_neg h3,if_pos h4]
  . refine⟨Z6 x.sx (x.ox++[nilX (toP n (⟨AK,133,AI,m.tok,[],[]⟩:Msg))]),λw hr=>q1 w (hr.at_ 9 rfl),λj hj=>(qE 9 rfl rfl (q2 j hj)),{ x with next:=N,ox:=x.ox++[nilX (toP n (⟨AK,133,AI,m.tok,[],[]⟩:Msg))],ov:=v28 },(⟨AK,133,AI,m.tok,[],[]⟩:Msg),.slice none 0 0,?_,?_,hG1 _,λj hj=>absurd hj (by simp[Z2,Value.ownBlock])⟩
    . rw[<- hox];rfl
    . rw[doB,if_neg h1,if_neg h2,if_neg h3,if_neg h4,hT1]
  rintro _ - ⟨y,a',u,rfl,hdo,hgr,hu⟩;try simp only[Tree.goal,X.P,X.ev,SV.ev,CV.ev,Sc.ev,qz,QA,QB,QC,QD,QE,QF,QG,QH,QI,QJ,QK,QL,QM,Nat.reduceAdd,qy3,qy4]
  have hy:y.tel=(doB n m (⟨AK,133,AI,m.tok,[],[]⟩:Msg) T1).1:=congrArg Prod.fst hdo;have hpre:=Z10w n m (⟨AK,133,AI,m.tok,[],[]⟩:Msg) T1;rw[<- hy,hT1']at hpre;obtain⟨r,hr0⟩:=hpre;obtain⟨hlt,hat⟩:=Z10x hr0;rw[hol]at hlt hat;refine⟨λvs=>vs=[],⟨by omega,rfl⟩,?_⟩;rintro _ - rfl;try simp only[Tree.goal,X.P,X.ev,SV.ev,CV.ev,Sc.ev,qz,QA,QB,QC,QD,QE,QF,QG,QH,QI,QJ,QK,QL,QM,Nat.reduceAdd,qy3,qy4]
  intro w3 hr3;obtain⟨t0,ht0⟩:∃t0,t0=y.ox.getD x.ox.length sntD:=⟨_,rfl⟩
  have hmem:t0∈y.ox:=by rw[ht0];exact Zzk hlt
  rw[<- ht0]at hat;have hrow:=Zms hlt;rw[<- ht0]at hrow;obtain⟨s,va,vc,vo⟩:=t0;simp only at hat;subst hat;obtain⟨z,hz⟩:∃z:TelX,z={ y with ox:=y.ox.set x.ox.length (toP n a',va,vc,u) }:=⟨_,rfl⟩
  have hA:=hr3.at_ 0 rfl;have hO:Z2d w3 u a'.opts:=hr3.at_ 1 rfl;have hsn:=Z70 (hA:(Z6 y.sx y.ox).holds w3) hmem;have hfz:∀j,(Z6 z.sx z.ox).fp j->(Z6 y.sx y.ox).fp j\/((a'.opts.map encO).flatten≠[]/\Z2 u j):=λj hj=>by
    rw[hz]at hj;rcases Zb.1 hj with h|⟨t,ht,hk⟩
    . exact .inl (Zb.2 (.inl h))
    . rcases List.mem_or_eq_of_mem_set ht with ht|rfl
      . exact .inl (Zb.2 (.inr ⟨t,ht,hk⟩))
      . rcases hk with hk|hk|hk
        . exact absurd rfl hk.1
        . exact absurd rfl hk.1
        . exact .inr hk
  refine⟨by trivial,z,?_,?_,?_⟩
  . have ha':a'=(doB n m (⟨AK,133,AI,m.tok,[],[]⟩:Msg) T1).2:=congrArg Prod.snd hdo;have e1:Z2z n m x.tel={ (doB n m (⟨AK,133,AI,m.tok,[],[]⟩:Msg) T1).1 with out:=(doB n m (⟨AK,133,AI,m.tok,[],[]⟩:Msg) T1).1.out.set x.tel.out.length (toP n (doB n m (⟨AK,133,AI,m.tok,[],[]⟩:Msg) T1).2) }:=by
      rw[Z2z,show Z1o m x.tel.next=(⟨AK,133,AI,m.tok,[],[]⟩:Msg) from hans,hT1',hN];rfl
    rw[e1,<- hy,<- ha',hz,hol];simp only[TelX.tel,List.map_set]
  . refine Zks hr3 (by rfl) k z ?_ (λj hj=>?_) [3,4,5,6,7,0,15] (by decide) ?_
    . rw[hz];refine Z11 (λt ht=>.inl ht) (λt ht=>?_) hA;rcases List.mem_or_eq_of_mem_set ht with ht|rfl
      . exact .inl ht
      . exact .inr ⟨hsn.1,hsn.2.1,hO⟩
    . rcases hfz j hj with h|h
      . exact(qE 0 rfl rfl h)
      . exact(qE 1 rfl rfl h)
    . rw[hz];refine Zg rfl (Zg rfl (Zg rfl (Zg rfl (Zg (Z2r rfl ?_) rfl))));simp only[Tree.goal,X.P,X.ev,SV.ev,CV.ev,Sc.ev,qz,QA,QB,QC,QD,QE,QF,QG,QH,QI,QJ,QK,QL,QM,Nat.reduceAdd,qy3,qy4,hrow,Z12,List.getD_cons_zero,List.getD_cons_succ,Value.gI,Value.gB,Value.gS,Z1a,List.map_set]
  . rw[hz];refine⟨λj hj=>hgr.kept j hj,λj hj=>hgr.want j hj,λj hj=>?_⟩;rw[<- hz]at hj;rcases hfz j hj with h|h
    . exact hgr.nest j h
    . exact .inl (hu j h.2)
abbrev bcA(k:Nat)(x:TelX):List V:=[.n k,.v x.kv,.r (x.kept.map encK),.v x.wv,.r (x.wants.map Za),.v x.sv,.r (x.sx.map Zf),.a (Z6 x.sx x.ox),.v x.av,.r (x.wat.map Z7),.i x.next]
abbrev bcH:List Ent:=[.rd 1 kK (.var 2),.rd 3 kW_V (.var 4),.rd 5 kSx (.var 6),.st 7,.rd 8 kW_K (.var 9),.cells 0 27 [.val (.var 1),.val (.var 3),.val (.var 5),.val (.var 8),.int .i64 (.var 10)]]
def Zbw(w w':World)(e:Ending)(k:Nat)(x:TelX)(c:Int):Prop:=e=.returned (.int .i64 c)/\Rel ⟨Zi (bcA k x) bcH,w⟩ (bcA k x) bcH w'
theorem Z15y(w:World)(k:Nat)(x:TelX)(hr:Rel ⟨Zi (bcA k x) bcH,w⟩ (bcA k x) bcH w)(hs:Z8s x.kept)(hl:x.kept.length<1000000000) : Calls Tryz.prog 52 #[.pointer (some ⟨k,0,none⟩)] w λe w'=>Zbw w w' e k x (chkK x.kept):=by refine Z1 (Z3 (J:=bcA k x) sxE_ok Tryz.func52 Z9a rfl rfl hr rfl rfl ?_) rfl;simp only[Tree.goal,X.P,X.ev,SV.ev,CV.ev,Sc.ev,qz,QA,QB,QC,QD,QE,QF,QG,QH,QI,QJ,QK,QL,QM,Nat.reduceAdd,qy3,qy4,Z1k,Z1r,Z1b];refine⟨[.i (chkK x.kept)],rfl,λ_ w' hr=>Zy4 w' x.kv x.kept (hr.at_ 0 rfl) hs hl,?_⟩;intro w3 hr3;exact⟨rfl,(hr3.pick [0,1,2,3,4,5] (by decide)).conv rfl⟩
theorem Z15z(w:World)(k:Nat)(x:TelX)(hr:Rel ⟨Zi (bcA k x) bcH,w⟩ (bcA k x) bcH w)(hs:Z1n x.wants)(hl:x.wants.length<1000000000) : Calls Tryz.prog 54 #[.pointer (some ⟨k,0,none⟩)] w λe w'=>Zbw w w' e k x (Zj x.wants):=by refine Z1 (Z3 (J:=bcA k x) sxE_ok Tryz.func54 Z9d rfl rfl hr rfl rfl ?_) rfl;simp only[Tree.goal,X.P,X.ev,SV.ev,CV.ev,Sc.ev,qz,QA,QB,QC,QD,QE,QF,QG,QH,QI,QJ,QK,QL,QM,Nat.reduceAdd,qy3,qy4,Z1k,Z1r,Z1b];refine⟨[.i (Zj x.wants)],rfl,λ_ w' hr=>Zqh w' x.wv x.wants (hr.at_ 1 rfl) hs hl,?_⟩;intro w3 hr3;exact⟨rfl,(hr3.pick [0,1,2,3,4,5] (by decide)).conv rfl⟩
theorem Z160(w:World)(k:Nat)(x:TelX)(hr:Rel ⟨Zi (bcA k x) bcH,w⟩ (bcA k x) bcH w)(hs:Z6r x.wat)(hl:x.wat.length<1000000000) : Calls Tryz.prog 58 #[.pointer (some ⟨k,0,none⟩)] w λe w'=>Zbw w w' e k x (Zy x.wat):=by refine Z1 (Z3 (J:=bcA k x) sxE_ok Tryz.func58 Z9b rfl rfl hr rfl rfl ?_) rfl;simp only[Tree.goal,X.P,X.ev,SV.ev,CV.ev,Sc.ev,qz,QA,QB,QC,QD,QE,QF,QG,QH,QI,QJ,QK,QL,QM,Nat.reduceAdd,qy3,qy4,Z1k,Z1r,Z1b];refine⟨[.i (Zy x.wat)],rfl,λ_ w' hr=>Zq0 w' x.av x.wat (hr.at_ 4 rfl) hs (by omega),?_⟩;intro w3 hr3;exact⟨rfl,(hr3.pick [0,1,2,3,4,5] (by decide)).conv rfl⟩
theorem Z161(w:World)(k:Nat)(x:TelX)(hr:Rel ⟨Zi (bcA k x) bcH,w⟩ (bcA k x) bcH w) : Calls Tryz.prog 68 #[.pointer (some ⟨k,0,none⟩)] w λe w'=>Zbw w w' e k x (if x.next<0\/65535<x.next then 3 else 0):=by refine Z1 (Z3 (J:=bcA k x) sxE_ok Tryz.func68 Z9f rfl rfl hr rfl rfl ?_) rfl;simp only[Tree.goal,X.P,X.ev,SV.ev,CV.ev,Sc.ev,qz,QA,QB,QC,QD,QE,QF,QG,QH,QI,QJ,QK,QL,QM,Nat.reduceAdd,qy3,qy4,Z1k,Z1r,Z1b];refine⟨λh w3 hr3=>⟨by rw[if_pos h],(hr3.pick [0,1,2,3,4,5] (by decide)).conv rfl⟩,λh w3 hr3=>⟨by rw[if_neg h],(hr3.pick [0,1,2,3,4,5] (by decide)).conv rfl⟩⟩
theorem Z5d{α:Type}{p:α->Bool}{l:List α}(d:α){i:Nat}(h:i<l.length)(hp:p (l.getD i d)=true):l.any p=true:=by rw[qy1,qy7 h]at hp;exact List.any_eq_true.2 ⟨_,List.getElem_mem h,hp⟩
theorem Zce{α:Type}{p:α->Bool}{l:List α}(d:α)(h:∀i,i<l.length->p (l.getD i d)=false):l.any p=false:=by rw[List.any_eq_false];intro y hy;obtain⟨i,hi,rfl⟩:=List.getElem_of_mem hy;have:=h i hi;rw[qy1,qy7 hi]at this;simpa using this
theorem Z162(w:World)(k:Nat)(x:TelX)(hr:Rel ⟨Zi (bcA k x) bcH,w⟩ (bcA k x) bcH w)(hk:chkK x.kept=0)(hs:Z67 x.tel.sess)(hsl:x.sx.length<1000000000)(hwl:x.wants.length<1000000000)(hal:x.wat.length<1000000000) : Calls Tryz.prog 60 #[.pointer (some ⟨k,0,none⟩)] w λe w'=>Zbw w w' e k x (if Z16 x.tel=true then 4 else 0):=by
 refine Z1 (Z3 (J:=bcA k x) sxE_ok Tryz.func60 Z9c rfl rfl hr rfl rfl ?_) rfl;simp only[Tree.goal,X.P,X.ev,SV.ev,CV.ev,Sc.ev,qz,QA,QB,QC,QD,QE,QF,QG,QH,QI,QJ,QK,QL,QM,Nat.reduceAdd,qy3,qy4,Z1k,Z1r,Z1b];have hk16:x.kept.length<=16:=(Zu.1 hk).1;refine⟨λvs=>∃(y:V) (i:Nat),vs=[y,.i i,.v x.kv,.r (x.kept.map encK),.v x.sv,.r (x.sx.map Zf),.v x.av,.r (x.wat.map Z7),.i x.next]/\i<=x.wants.length/\∀j,j<i->hasS x.tel.sess (x.wants.getD j wD_V).1=true,λvs=>(x.wants.length - (vs.getD 1 (.i 0)).toI).toNat,⟨_,0,rfl,by omega,λj hj=>by omega⟩,?_⟩;rintro _ - ⟨y0,i,rfl,hi,hall⟩;simp only[Tree.goal,X.P,X.ev,SV.ev,CV.ev,Sc.ev,qz,QA,QB,QC,QD,QE,QF,QG,QH,QI,QJ,QK,QL,QM,Nat.reduceAdd,qy3,qy4,Z1k,Z1r,Z1b];refine⟨λh1=>⟨by omega,λb20=>?_⟩,λh1=>⟨λh2=>by omega,λh2=>?_⟩⟩
 ·refine⟨[.i (idxS x.tel.sess (x.wants.getD i wD_V).1),.b (hasS x.tel.sess (x.wants.getD i wD_V).1)],rfl,λ_ w' hr=>Zf1 w' x.sv x.sx _ (hr.at_ 3 rfl) hs hsl,?_⟩;simp only[Tree.goal,X.P,X.ev,SV.ev,CV.ev,Sc.ev,qz,QA,QB,QC,QD,QE,QF,QG,QH,QI,QJ,QK,QL,QM,Nat.reduceAdd,qy3,qy4,Z1k,Z1r,Z1b];refine⟨λh2 w3 hr3=>⟨?_,(hr3.pick [1,2,3,4,5,6] (by decide)).conv rfl⟩,λh2=>⟨by omega,by omega,⟨_,i+1,rfl,by omega,λj hj=>?_⟩,by omega⟩⟩
  ·have:Z16 x.tel=true:=by
    rw[Z16,Bool.or_eq_true];exact .inl (Z5d wD_V (l:=x.wants) (i:=i) (by omega) (by simpa using h2))
   rw[if_pos this]
  ·by_cases hij:j=i
   ·subst hij;exact qy9.1 h2
   ·exact hall j (by omega)
 ·have hie:i=x.wants.length:=by omega
  subst hie;have ha1:(x.tel.wants.any λw=>!hasS x.tel.sess w.1)=false:=Zce wD_V λj hj=>by rw[show hasS x.tel.sess (x.tel.wants.getD j wD_V).1=true from hall j hj];rfl
  refine⟨λvs=>∃(y:V) (i:Nat),vs=[y,.i i,.v x.kv,.r (x.kept.map encK),.v x.wv,.r (x.wants.map Za),.v x.sv,.r (x.sx.map Zf),.i x.next]/\i<=x.wat.length/\∀j,j<i->hasK x.kept (x.wat.getD j wD_K).2.2.1=true,λvs=>(x.wat.length - (vs.getD 1 (.i 0)).toI).toNat,⟨_,0,rfl,by omega,λj hj=>by omega⟩,?_⟩;rintro _ - ⟨y1,i,rfl,hi1,hall1⟩;simp only[Tree.goal,X.P,X.ev,SV.ev,CV.ev,Sc.ev,qz,QA,QB,QC,QD,QE,QF,QG,QH,QI,QJ,QK,QL,QM,Nat.reduceAdd,qy3,qy4,Z1k,Z1r,Z1b];refine⟨λh3=>⟨by omega,λb29=>?_⟩,λh3 w3 hr3=>⟨?_,(hr3.pick [0,1,2,3,4,5] (by decide)).conv rfl⟩⟩
  ·refine⟨[.i (idx x.kept (x.wat.getD i wD_K).2.2.1),.b (hasK x.kept (x.wat.getD i wD_K).2.2.1)],rfl,λ_ w' hr=>Zta w' x.kv x.kept _ (hr.at_ 1 rfl) (Zu.1 hk).2.2 (by omega),?_⟩;simp only[Tree.goal,X.P,X.ev,SV.ev,CV.ev,Sc.ev,qz,QA,QB,QC,QD,QE,QF,QG,QH,QI,QJ,QK,QL,QM,Nat.reduceAdd,qy3,qy4,Z1k,Z1r,Z1b];refine⟨λh4 w3 hr3=>⟨?_,(hr3.pick [1,2,3,4,5,6] (by decide)).conv rfl⟩,λh4=>⟨by omega,by omega,⟨_,i+1,rfl,by omega,λj hj=>?_⟩,by omega⟩⟩
   ·have:Z16 x.tel=true:=by
     rw[Z16,Bool.or_eq_true];exact .inr (Z5d wD_K (l:=x.wat) (i:=i) (by omega) (by rw[show hasK x.tel.kept (x.wat.getD i wD_K).2.2.1=false from Bool.eq_false_iff.2 h4];rfl))
    rw[if_pos this]
   ·by_cases hij:j=i
    ·subst hij;exact qy9.1 h4
    ·exact hall1 j (by omega)
  ·have hie:i=x.wat.length:=by omega
   subst hie;have ha2:(x.tel.wat.any λw=>!hasK x.tel.kept w.2.2.1)=false:=Zce wD_K λj hj=>by rw[show hasK x.tel.kept (x.tel.wat.getD j wD_K).2.2.1=true from hall1 j hj];rfl
   rw[if_neg (by rw[Z16,ha1,ha2];decide)]
def Zfb(s:Ses):Prop:=Za6 s.fl/\Za6 s.qu/\s.fl.length<1000000000/\s.qu.length<1000000000/\s.cl.length<1099511627776
def prvS(l:List SesX)(i:Nat):Option (List UInt8):=if i=0 then none else some (l.getD (i - 1) sxD).1.cl
theorem Z163(l:List SesX)(i:Nat)(h:i<l.length):l.drop i=l.getD i sxD::l.drop (i+1):=by rw[List.drop_eq_getElem_cons h,qy1,qy7 h];rfl
theorem Zvn(l:List SesX)(i:Nat):Zqr (prvS l i) (l.getD i sxD).1.cl=true↔¬(0<(i:Int)/\(Ze (l.getD i sxD).1.cl (l.getD (i - 1) sxD).1.cl=true\/(l.getD i sxD).1.cl=(l.getD (i - 1) sxD).1.cl)):=by
 unfold prvS;by_cases h:i=0
 ·simp[h,Zqr]
 ·rw[if_neg h];simp only[Zqr];rw[<- Z7w];constructor
  ·rintro h1 ⟨-,h2⟩;rw[h1]at h2;cases h2
  ·intro h1;cases h2:Ze (l.getD (i - 1) sxD).1.cl (l.getD i sxD).1.cl with
   | true=>rfl
   | false=>exact absurd ⟨by omega,h2⟩ h1
theorem Zh5{l:List SesX}{i:Nat}(h:i<l.length):Zbr (prvS l i) ((l.drop i).map (·.1))=if ¬chkS (l.getD i sxD).1=0 then chkS (l.getD i sxD).1
  else if 0<(i:Int)/\(Ze (l.getD i sxD).1.cl (l.getD (i - 1) sxD).1.cl=true\/(l.getD i sxD).1.cl=(l.getD (i - 1) sxD).1.cl)then 4 else Zbr (prvS l (i+1)) ((l.drop (i+1)).map (·.1)):=by
 rw[Z163 l i h,List.map_cons,Zh1];split
 ·rfl
 ·by_cases h2:0<(i:Int)/\(Ze (l.getD i sxD).1.cl (l.getD (i - 1) sxD).1.cl=true\/(l.getD i sxD).1.cl=(l.getD (i - 1) sxD).1.cl)
  ·rw[if_pos h2,if_neg (λh3=>(Zvn l i).1 h3 h2)]
  ·rw[if_neg h2,if_pos ((Zvn l i).2 h2)];rfl
theorem Zqw(w:World)(v:Value)(l:List SesX)(hv:reads w v kSx (l.map Zf))(hA:(Z6 l []).holds w)(hs:∀t∈l,Zfb t.1) : Calls Tryz.prog 57 #[sc1 v] w λe w'=>e=.returned (.int .i64 (Z4y (l.map (·.1))))/\Mod [] w w':=by
 refine Z1 (Z3 (J:=[.v v,.r (l.map Zf),.a (Z6 l [])]) sxE_ok Tryz.func57 Z8o rfl rfl (Rel.start2 (λe he=>by
  rcases List.mem_cons.1 he with rfl|he
  ·exact⟨hv,rfl⟩
  ·rw[qy12.1 he];exact⟨hA,rfl⟩)) rfl rfl ?_) rfl
 simp only[Tree.goal,X.P,X.ev,SV.ev,CV.ev,Sc.ev,qz,QA,QB,QC,QD,QE,QF,QG,QH,QI,QJ,QK,QL,QM,Nat.reduceAdd,qy3,qy4,gSx0];refine⟨λh w' hr=>⟨by rw[Z4y,qy3,if_pos h],hr.mod⟩,λh=>?_⟩;rw[Z4y,qy3,if_neg h];refine⟨λvs=>∃(i:Nat) (x:V),vs=[x,.i i]/\i<=l.length/\Zbr (prvS l i) ((l.drop i).map (·.1))=Zbr none (l.map (·.1)),λvs=>l.length - (vs.getD 1 (.i 0)).toI.toNat,⟨0,_,rfl,by omega,rfl⟩,?_⟩;rintro _ - ⟨i,x,rfl,hi,hg⟩;simp only[Tree.goal,X.P,X.ev,SV.ev,CV.ev,Sc.ev,qz,QA,QB,QC,QD,QE,QF,QG,QH,QI,QJ,QK,QL,QM,Nat.reduceAdd,qy3,qy4,gSx0];have hi1:((i:Int) - 1).toNat=i - 1:=by omega
 try rw[hi1]
 refine⟨λh1=>⟨by omega,λb=>?_⟩,λh1 w' hr=>⟨?_,hr.mod⟩⟩
 ·have hi':i<l.length:=by omega
  rw[Zh5 hi']at hg;have hrow:=Z7y hi';obtain⟨s1,s2,s3,s4,s5⟩:=hs _ (Z4z hi');refine⟨[.i (chkS (l.getD i sxD).1)],rfl,λ_ w' hr=>?_,?_⟩
  ·have hn:=Zp (hr.at_ 2 rfl:(Z6 l []).holds w') (Z4z hi');refine Z1 (Zxv w' (l.getD i sxD).1 (l.getD i sxD).2.1 (l.getD i sxD).2.2 hn.1 hn.2 s1 s2 s3 s4 s5) ?_;simp only[Tree.goal,X.P,X.ev,SV.ev,CV.ev,Sc.ev,qz,QA,QB,QC,QD,QE,QF,QG,QH,QI,QJ,QK,QL,QM,Nat.reduceAdd,qy3,qy4,gSx0,hrow,Zf,List.getD_cons_zero,List.getD_cons_succ,Value.gI,Value.gB,Value.gS,Z1a,sesV]
  simp only[Tree.goal,X.P,X.ev,SV.ev,CV.ev,Sc.ev,qz,QA,QB,QC,QD,QE,QF,QG,QH,QI,QJ,QK,QL,QM,Nat.reduceAdd,qy3,qy4,gSx0];try rw[hi1]
  refine⟨λh2 w' hr=>⟨?_,hr.mod⟩,λh2=>⟨by omega,by omega,by omega,by omega,λh6 w' hr=>⟨?_,hr.mod⟩,λh6=>⟨by omega,by omega,⟨i+1,x,rfl,by omega,?_⟩,by omega⟩⟩⟩
  ·rw[if_pos h2]at hg;rw[<- hg]
  ·rw[if_neg h2,if_pos h6]at hg;rw[<- hg]
  ·rw[if_neg h2,if_neg h6]at hg;exact hg
 ·have:i=l.length:=by omega
  subst this;rw[List.drop_length]at hg;rw[<- hg];rfl
theorem Z164(w:World)(k:Nat)(x:TelX)(hr:Rel ⟨Zi (bcA k x) bcH,w⟩ (bcA k x) bcH w)(ho:x.ox=[])(hs:∀t∈x.sx,Zfb t.1) : Calls Tryz.prog 56 #[.pointer (some ⟨k,0,none⟩)] w λe w'=>Zbw w w' e k x (Z4y x.tel.sess):=by refine Z1 (Z3 (J:=bcA k x) sxE_ok Tryz.func56 Z9g rfl rfl hr rfl rfl ?_) rfl;simp only[Tree.goal,X.P,X.ev,SV.ev,CV.ev,Sc.ev,qz,QA,QB,QC,QD,QE,QF,QG,QH,QI,QJ,QK,QL,QM,Nat.reduceAdd,qy3,qy4,gSx0];refine⟨[.i (Z4y x.tel.sess)],rfl,λ_ w' hr=>Zqw w' x.sv x.sx (hr.at_ 2 rfl) (by rw[<- ho];exact hr.at_ 3 rfl) hs,?_⟩;intro w3 hr3;exact⟨rfl,(hr3.pick [0,1,2,3,4,5] (by decide)).conv rfl⟩
abbrev bkA(x:TelX):List V:=[.v x.kv,.r (x.kept.map encK),.v x.wv,.r (x.wants.map Za),.v x.sv,.r (x.sx.map Zf),.a (Z6 x.sx x.ox),.v x.av,.r (x.wat.map Z7),.i x.next]
abbrev bkH:List Ent:=[.rd 0 kK (.var 1),.rd 2 kW_V (.var 3),.rd 4 kSx (.var 5),.st 6,.rd 7 kW_K (.var 8)]
def bkV(x:TelX):Value:=.agg #[sc1 x.kv,sc1 x.wv,sc1 x.sv,sc1 x.av,.int .i64 x.next]
abbrev owA(x:TelX):List V:=[.v x.kv,.r (x.kept.map encK),.v x.wv,.r (x.wants.map Za),.v x.sv,.r (x.sx.map Zf),.v x.av,.r (x.wat.map Z7),.i x.next,.a (Z6 x.sx x.ox)]
abbrev owH:List Ent:=[.rd 0 kK (.var 1),.rd 2 kW_V (.var 3),.row 4 64 kSx (.var 5),.row 6 74 kW_K (.var 7),.st 9]
def Zvo(w w':World)(e:Ending)(x:TelX):Prop :=
 ∃y:TelX,e=.returned (bkV y)/\y.ox=[]/\y.tel={ x.tel with out:=[] }/\Rel ⟨[],w⟩ (owA y) owH w'/\(∀j,Z2 y.kv j->w.heap.size<=j)/\(∀j,Z2 y.wv j->w.heap.size<=j)/\(∀j,(Z6 y.sx y.ox).fp j->w.heap.size<=j)
set_option maxRecDepth 2000 in
theorem Z13q(w:World)(x:TelX)(hr:Rel ⟨[],w⟩ (bkA x) bkH w)(hl1:x.kept.length<1000000000)(hl2:x.wants.length<1000000000)(hl3:x.wat.length<1000000000)(hl4:x.sx.length<1000000)(hl5:∀t∈x.sx,t.1.fl.length<1000000000/\t.1.qu.length<1000000000) : Calls Tryz.prog 89 #[bkV x] w λe w'=>Zvo w w' e x:=by
 refine Z1 (Z3 (J:=bkA x) (sxE_ok.joins _) Tryz.func89 Zf0 rfl rfl hr rfl rfl ?_) rfl;simp only[Tree.goal,X.P,X.ev,SV.ev,CV.ev,Sc.ev,qz,QA,QB,QC,QD,QE,QF,QG,QH,QI,QJ,QK,QL,QM,Nat.reduceAdd,qy3,qy4];intro b10 b11;refine⟨λvs=>∃(u1 u2 u3:Value) (b:Nat),vs=[.v u1,.r (x.kept.map encK),.v u2,.r (x.wants.map Za),.v u3,.r (x.wat.map Z7),.n b],⟨?_,?_⟩,?_⟩
 ·intro w1 hr1;refine(Zda w1 x.kv x.kept (hr1.at_ 2 rfl) hl1).mono ?_;rintro e w2 ⟨u1,rfl,a1,f1,m1⟩;refine⟨[.v u1,.r (x.kept.map encK)],rfl,rfl,m1,qy5 _,qy2.2 ⟨⟨a1,λk hk=>.inl (f1 k hk)⟩,qy5 _⟩,Z5,?_⟩;clear hr1 a1 f1 m1;refine⟨?_,?_⟩
  ·intro w1 hr1;refine(Z4b w1 x.wv x.wants (hr1.at_ 4 rfl) hl2).mono ?_;rintro e w2 ⟨u2,rfl,a1,f1,m1⟩;refine⟨[.v u2,.r (x.wants.map Za)],rfl,rfl,m1,qy5 _,qy2.2 ⟨⟨a1,λk hk=>.inl (f1 k hk)⟩,qy5 _⟩,Z5,?_⟩;clear hr1 a1 f1 m1;refine⟨?_,?_⟩
   ·intro w1 hr1;refine(Z48 w1 x.av x.wat (hr1.at_ 8 rfl) hl3).mono ?_;rintro e w2 ⟨u3,rfl,a1,f1,m1⟩;refine⟨[.v u3,.r (x.wat.map Z7)],rfl,rfl,m1,qy5 _,qy2.2 ⟨⟨a1,λk hk=>.inl (f1 k hk)⟩,qy5 _⟩,Z5,?_⟩;clear hr1 a1 f1 m1;intro b;exact⟨u1,u2,u3,b,rfl⟩
   ·intro b;intro w1 hr1;refine(Z48 w1 x.av x.wat (hr1.at_ 9 rfl) hl3).mono ?_;rintro e w2 ⟨u3,rfl,a1,f1,m1⟩;refine⟨[.v u3,.r (x.wat.map Z7)],rfl,rfl,m1,qy5 _,qy2.2 ⟨⟨a1,λk hk=>.inl (f1 k hk)⟩,qy5 _⟩,Z5,?_⟩;clear hr1 a1 f1 m1;exact⟨u1,u2,u3,b,rfl⟩
  ·intro b;intro w1 hr1;refine(Z4b w1 x.wv x.wants (hr1.at_ 5 rfl) hl2).mono ?_;rintro e w2 ⟨u2,rfl,a1,f1,m1⟩;refine⟨[.v u2,.r (x.wants.map Za)],rfl,rfl,m1,qy5 _,qy2.2 ⟨⟨a1,λk hk=>.inl (f1 k hk)⟩,qy5 _⟩,Z5,?_⟩;clear hr1 a1 f1 m1;intro w1 hr1;refine(Z48 w1 x.av x.wat (hr1.at_ 9 rfl) hl3).mono ?_;rintro e w2 ⟨u3,rfl,a1,f1,m1⟩;refine⟨[.v u3,.r (x.wat.map Z7)],rfl,rfl,m1,qy5 _,qy2.2 ⟨⟨a1,λk hk=>.inl (f1 k hk)⟩,qy5 _⟩,Z5,?_⟩;clear hr1 a1 f1 m1;exact⟨u1,u2,u3,b,rfl⟩
 ·intro b;intro w1 hr1;refine(Zda w1 x.kv x.kept (hr1.at_ 3 rfl) hl1).mono ?_;rintro e w2 ⟨u1,rfl,a1,f1,m1⟩;refine⟨[.v u1,.r (x.kept.map encK)],rfl,rfl,m1,qy5 _,qy2.2 ⟨⟨a1,λk hk=>.inl (f1 k hk)⟩,qy5 _⟩,Z5,?_⟩;clear hr1 a1 f1 m1;intro w1 hr1;refine(Z4b w1 x.wv x.wants (hr1.at_ 5 rfl) hl2).mono ?_;rintro e w2 ⟨u2,rfl,a1,f1,m1⟩;refine⟨[.v u2,.r (x.wants.map Za)],rfl,rfl,m1,qy5 _,qy2.2 ⟨⟨a1,λk hk=>.inl (f1 k hk)⟩,qy5 _⟩,Z5,?_⟩;clear hr1 a1 f1 m1;intro w1 hr1;refine(Z48 w1 x.av x.wat (hr1.at_ 9 rfl) hl3).mono ?_;rintro e w2 ⟨u3,rfl,a1,f1,m1⟩;refine⟨[.v u3,.r (x.wat.map Z7)],rfl,rfl,m1,qy5 _,qy2.2 ⟨⟨a1,λk hk=>.inl (f1 k hk)⟩,qy5 _⟩,Z5,?_⟩;clear hr1 a1 f1 m1;exact⟨u1,u2,u3,b,rfl⟩
 rintro _ - ⟨u1,u2,u3,b,rfl⟩;simp only[Tree.goal,X.P,X.ev,SV.ev,CV.ev,Sc.ev,qz,QA,QB,QC,QD,QE,QF,QG,QH,QI,QJ,QK,QL,QM,Nat.reduceAdd,qy3,qy4];refine⟨Z6 [] [],λw _ t ht=>absurd ht (by simp[nest]),λj hj=>?_,?_⟩
 ·rcases Zb.1 hj with⟨t,ht,-⟩|⟨t,ht,-⟩<;>cases ht
 refine⟨λvs=>∃(i:Nat) (Y:List SesX) (u4:Value),vs=[.i i,.a (Z6 Y []),.v u1,.r (x.kept.map encK),.v u2,.r (x.wants.map Za),.v u4,.r (Y.map Zf),.v u3,.r (x.wat.map Z7),.i x.next]/\i<=x.sx.length/\Y.map (·.1)=(x.sx.take i).map (·.1)/\(∀j,(Z6 Y []).fp j->w.heap.size<=j),λvs=>(x.sx.length - (vs.getD 0 (.i 0)).toI).toNat,⟨0,[],.slice none 0 0,rfl,by omega,rfl,λj hj=>?_⟩,?_⟩
 ·rcases Zb.1 hj with⟨t,ht,-⟩|⟨t,ht,-⟩<;>cases ht
 rintro _ - ⟨i,Y,u4,rfl,hi,hY,hfY⟩;simp only[Tree.goal,X.P,X.ev,SV.ev,CV.ev,Sc.ev,qz,QA,QB,QC,QD,QE,QF,QG,QH,QI,QJ,QK,QL,QM,Nat.reduceAdd,qy3,qy4];refine⟨λh1=>?_,λh1 w3 hr3=>?_⟩
 ·have hi':i<x.sx.length:=by omega
  have hYl:Y.length=i:=by have:=congrArg List.length hY;simp only[qy3,List.length_take]at this;omega
  have hrow:=Z7y hi';have hmm:=Z4z hi';have hse:(x.sx.take (i+1)).map (·.1)=(x.sx.take i).map (·.1)++[(x.sx.getD i sxD).1]:=by rw[Zmn sxD _ _ hi',List.map_append];rfl
  simp only[hrow,Zf,List.getD_cons_zero,List.getD_cons_succ,Value.gI,Value.gB,Value.gS,Z1a];generalize x.sx.getD i sxD=ss at hmm hse
  obtain⟨s,s',s''⟩:=ss;obtain⟨hf1,hf2⟩:=hl5 _ hmm;simp only at hse hf1 hf2⊢;refine⟨by omega,λb31=>?_⟩;refine⟨λvs=>∃(p1 p2 v38 v39:Value),vs=[.i 0,.i 0,.v p1,.r (s.fl.map encF),.v p2,.r (s.qu.map encF),.v v38,.v v39,.r ((Y++[(s,p1,p2)]).map Zf),.r ([((s,p1,p2):SesX)].map Zf)]/\(∀j,Z2 p1 j->w.heap.size<=j)/\(∀j,Z2 p2 j->w.heap.size<=j),⟨?_,?_⟩,?_⟩
  ·intro b32 b33;refine⟨?_,?_⟩
   ·intro w1 hr1;have hz1:=hr1.mod.size;refine(Z1d w1 s' s.fl (Zp (hr1.at_ 13 rfl:(Z6 x.sx x.ox).holds w1) hmm).1 hf1).mono ?_;rintro e w2 ⟨p1,rfl,a1,f1,m1⟩;refine⟨[.v p1,.r (s.fl.map encF)],rfl,rfl,m1,qy5 _,qy2.2 ⟨⟨a1,λk hk=>.inl (f1 k hk)⟩,qy5 _⟩,Z5,?_⟩;have n1:∀j,Z2 p1 j->w.heap.size<=j:=λj hj=>Nat.le_trans hz1 (f1 j hj);clear hr1 a1 f1 m1;intro w1 hr1;have hz2:=hr1.mod.size;refine(Z1d w1 s'' s.qu (Zp (hr1.at_ 14 rfl:(Z6 x.sx x.ox).holds w1) hmm).2 hf2).mono ?_;rintro e w2 ⟨p2,rfl,a1,f1,m1⟩;refine⟨[.v p2,.r (s.qu.map encF)],rfl,rfl,m1,qy5 _,qy2.2 ⟨⟨a1,λk hk=>.inl (f1 k hk)⟩,qy5 _⟩,Z5,?_⟩;have n2:∀j,Z2 p2 j->w.heap.size<=j:=λj hj=>Nat.le_trans hz2 (f1 j hj);clear hr1 a1 f1 m1;intro v38;refine⟨by first|omega|(simp;omega),λv39=>⟨p1,p2,v38,v39,?_,n1,n2⟩⟩;rw[List.map_append];rfl
   ·intro w1 hr1;have hz1:=hr1.mod.size;refine(Z1d w1 s' s.fl (Zp (hr1.at_ 13 rfl:(Z6 x.sx x.ox).holds w1) hmm).1 hf1).mono ?_;rintro e w2 ⟨p1,rfl,a1,f1,m1⟩;refine⟨[.v p1,.r (s.fl.map encF)],rfl,rfl,m1,qy5 _,qy2.2 ⟨⟨a1,λk hk=>.inl (f1 k hk)⟩,qy5 _⟩,Z5,?_⟩;have n1:∀j,Z2 p1 j->w.heap.size<=j:=λj hj=>Nat.le_trans hz1 (f1 j hj);clear hr1 a1 f1 m1;intro w1 hr1;have hz2:=hr1.mod.size;refine(Z1d w1 s'' s.qu (Zp (hr1.at_ 14 rfl:(Z6 x.sx x.ox).holds w1) hmm).2 hf2).mono ?_;rintro e w2 ⟨p2,rfl,a1,f1,m1⟩;refine⟨[.v p2,.r (s.qu.map encF)],rfl,rfl,m1,qy5 _,qy2.2 ⟨⟨a1,λk hk=>.inl (f1 k hk)⟩,qy5 _⟩,Z5,?_⟩;have n2:∀j,Z2 p2 j->w.heap.size<=j:=λj hj=>Nat.le_trans hz2 (f1 j hj);clear hr1 a1 f1 m1;intro v38;refine⟨by first|omega|(simp;omega),λv39=>⟨p1,p2,v38,v39,?_,n1,n2⟩⟩;rw[List.map_append];rfl
  ·intro b32 b33;refine⟨?_,?_⟩
   ·intro w1 hr1;have hz1:=hr1.mod.size;refine(Z1d w1 s' s.fl (Zp (hr1.at_ 13 rfl:(Z6 x.sx x.ox).holds w1) hmm).1 hf1).mono ?_;rintro e w2 ⟨p1,rfl,a1,f1,m1⟩;refine⟨[.v p1,.r (s.fl.map encF)],rfl,rfl,m1,qy5 _,qy2.2 ⟨⟨a1,λk hk=>.inl (f1 k hk)⟩,qy5 _⟩,Z5,?_⟩;have n1:∀j,Z2 p1 j->w.heap.size<=j:=λj hj=>Nat.le_trans hz1 (f1 j hj);clear hr1 a1 f1 m1;intro w1 hr1;have hz2:=hr1.mod.size;refine(Z1d w1 s'' s.qu (Zp (hr1.at_ 14 rfl:(Z6 x.sx x.ox).holds w1) hmm).2 hf2).mono ?_;rintro e w2 ⟨p2,rfl,a1,f1,m1⟩;refine⟨[.v p2,.r (s.qu.map encF)],rfl,rfl,m1,qy5 _,qy2.2 ⟨⟨a1,λk hk=>.inl (f1 k hk)⟩,qy5 _⟩,Z5,?_⟩;have n2:∀j,Z2 p2 j->w.heap.size<=j:=λj hj=>Nat.le_trans hz2 (f1 j hj);clear hr1 a1 f1 m1;refine⟨?_,?_⟩
    ·intro v38;refine⟨by first|omega|(simp;omega),λv39=>⟨p1,p2,v38,v39,?_,n1,n2⟩⟩;rw[List.map_append];rfl
    ·intro v38;refine⟨by first|omega|(simp;omega),λv39=>⟨p1,p2,v38,v39,?_,n1,n2⟩⟩;rw[List.map_append];rfl
   ·intro w1 hr1;have hz1:=hr1.mod.size;refine(Z1d w1 s' s.fl (Zp (hr1.at_ 13 rfl:(Z6 x.sx x.ox).holds w1) hmm).1 hf1).mono ?_;rintro e w2 ⟨p1,rfl,a1,f1,m1⟩;refine⟨[.v p1,.r (s.fl.map encF)],rfl,rfl,m1,qy5 _,qy2.2 ⟨⟨a1,λk hk=>.inl (f1 k hk)⟩,qy5 _⟩,Z5,?_⟩;have n1:∀j,Z2 p1 j->w.heap.size<=j:=λj hj=>Nat.le_trans hz1 (f1 j hj);clear hr1 a1 f1 m1;intro w1 hr1;have hz2:=hr1.mod.size;refine(Z1d w1 s'' s.qu (Zp (hr1.at_ 14 rfl:(Z6 x.sx x.ox).holds w1) hmm).2 hf2).mono ?_;rintro e w2 ⟨p2,rfl,a1,f1,m1⟩;refine⟨[.v p2,.r (s.qu.map encF)],rfl,rfl,m1,qy5 _,qy2.2 ⟨⟨a1,λk hk=>.inl (f1 k hk)⟩,qy5 _⟩,Z5,?_⟩;have n2:∀j,Z2 p2 j->w.heap.size<=j:=λj hj=>Nat.le_trans hz2 (f1 j hj);clear hr1 a1 f1 m1;refine⟨?_,?_⟩
    ·intro v38;refine⟨by first|omega|(simp;omega),λv39=>⟨p1,p2,v38,v39,?_,n1,n2⟩⟩;rw[List.map_append];rfl
    ·intro v38;refine⟨by first|omega|(simp;omega),λv39=>⟨p1,p2,v38,v39,?_,n1,n2⟩⟩;rw[List.map_append];rfl
  rintro _ - ⟨p1,p2,v38,v39,rfl,n1,n2⟩;have hfp:∀j,(Z6 (Y++[(s,p1,p2)]) []).fp j->(Z6 Y []).fp j\/((s.fl.map encF).flatten≠[]/\Z2 p1 j)\/((s.qu.map encF).flatten≠[]/\Z2 p2 j):=λj hj=>by
   rcases Zb.1 hj with⟨t,ht,hk⟩|⟨t,ht,-⟩
   ·rcases qy13.1 ht with ht|ht
    ·exact .inl (Zb.2 (.inl ⟨t,ht,hk⟩))
    ·rw[qy12.1 ht]at hk;exact .inr hk
   ·cases ht
  refine⟨by omega,by omega,Z6 (Y++[(s,p1,p2)]) [],λw3 hr3=>?_,λj hj=>?_,⟨i+1,Y++[(s,p1,p2)],v39,rfl,by omega,?_,λj hj=>?_⟩,by omega⟩
  ·refine Z11 (l:=Y) (o:=[]) (λt ht=>?_) (λt ht=>.inl ht) (hr3.at_ 5 rfl);rcases qy13.1 ht with ht|ht
   ·exact .inl ht
   ·rw[qy12.1 ht];exact .inr ⟨hr3.at_ 3 rfl,hr3.at_ 2 rfl⟩
  ·rcases hfp j hj with h|h|h
   ·exact(qE 5 rfl rfl h)
   ·exact(qE 3 rfl rfl h)
   ·exact(qE 2 rfl rfl h)
  ·rw[List.map_append,hY,hse];rfl
  ·rcases hfp j hj with h|h|h
   ·exact hfY j h
   ·exact n1 j h.2
   ·exact n2 j h.2
 ·have hie:i=x.sx.length:=by omega
  rw[hie,List.take_length]at hY;refine⟨⟨x.kept,x.wants,Y,x.wat,x.next,[],u1,u2,u4,u3,.slice none 0 0⟩,rfl,rfl,?_,((Z3q (v:=22) (Z3q (v:=24) hr3)).pick [4,3,12,2,0] (by decide)).conv rfl,λj hj=>?_,λj hj=>?_,hfY⟩
  ·simp only[TelX.tel,hY];rfl
  ·rcases hr3.own _ (qy6 (i:=4) rfl) rfl j hj with h|h
   ·exact h
   ·cases h
  ·rcases hr3.own _ (qy6 (i:=3) rfl) rfl j hj with h|h
   ·exact h
   ·cases h
open Go.RowKit
def Z8v(a b c d e f:Int):Int:=if ¬a=0 then a else if ¬b=0 then b else if ¬c=0 then c else if ¬d=0 then d else if ¬e=0 then e else f
theorem Z17c{w:World}{b:Nat}{cs:Array Value}{t:TypeId}(h:w.heap[b]?=some (.cells cs t (0,0)))(j:Nat):w.cell? ⟨b,j,none⟩=cs[j]?:=by simp[World.cell?,h]
set_option maxRecDepth 100000 in
theorem Z13r(I:World->Prop)(b k:Nat)(c1 c2 c3 c4 c5 c6:Int) (hI:∀W,I W->∃t,W.heap[b]?=some (.cells #[.func (.func 52) #[] #[.pointer (some ⟨k,0,none⟩)],.func (.func 54) #[] #[.pointer (some ⟨k,0,none⟩)],.func (.func 56) #[] #[.pointer (some ⟨k,0,none⟩)],.func (.func 58) #[] #[.pointer (some ⟨k,0,none⟩)],.func (.func 60) #[] #[.pointer (some ⟨k,0,none⟩)],.func (.func 68) #[] #[.pointer (some ⟨k,0,none⟩)]] t (0,0))) (h1:∀W,I W->Calls Tryz.prog 52 #[.pointer (some ⟨k,0,none⟩)] W λe W'=>e=.returned (.int .i64 c1)/\I W') (h2:c1=0->∀W,I W->Calls Tryz.prog 54 #[.pointer (some ⟨k,0,none⟩)] W λe W'=>e=.returned (.int .i64 c2)/\I W') (h3:c1=0->c2=0->∀W,I W->Calls Tryz.prog 56 #[.pointer (some ⟨k,0,none⟩)] W λe W'=>e=.returned (.int .i64 c3)/\I W') (h4:c1=0->c2=0->c3=0->∀W,I W->Calls Tryz.prog 58 #[.pointer (some ⟨k,0,none⟩)] W λe W'=>e=.returned (.int .i64 c4)/\I W') (h5:c1=0->c2=0->c3=0->c4=0->∀W,I W->Calls Tryz.prog 60 #[.pointer (some ⟨k,0,none⟩)] W λe W'=>e=.returned (.int .i64 c5)/\I W') (h6:c1=0->c2=0->c3=0->c4=0->c5=0->∀W,I W->Calls Tryz.prog 68 #[.pointer (some ⟨k,0,none⟩)] W λe W'=>e=.returned (.int .i64 c6)/\I W') (w:World) (hw:I w) : Calls Tryz.prog 51 #[.slice (some ⟨b,0,none⟩) 6 6] w λe w'=>e=.returned (.int .i64 (Z8v c1 c2 c3 c4 c5 c6))/\I w':=by
  have hq:∀W,I W->W.cell? ⟨b,0,none⟩=some (.func (.func 52) #[] #[.pointer (some ⟨k,0,none⟩)])/\W.cell? ⟨b,1,none⟩=some (.func (.func 54) #[] #[.pointer (some ⟨k,0,none⟩)])/\W.cell? ⟨b,2,none⟩=some (.func (.func 56) #[] #[.pointer (some ⟨k,0,none⟩)])/\W.cell? ⟨b,3,none⟩=some (.func (.func 58) #[] #[.pointer (some ⟨k,0,none⟩)])/\W.cell? ⟨b,4,none⟩=some (.func (.func 60) #[] #[.pointer (some ⟨k,0,none⟩)])/\W.cell? ⟨b,5,none⟩=some (.func (.func 68) #[] #[.pointer (some ⟨k,0,none⟩)]):=λW hW=>by obtain⟨t,g⟩:=hI W hW;refine⟨?_,?_,?_,?_,?_,?_⟩<;>(rw[Z17c g];rfl)
  obtain⟨q0,-⟩:=hq w hw;go_enter Tryz.func51,Tryz.ntmps51
  go_wp2
  refine wp_loop_rounds 7 ?_;rw[rounds_succ];go_wp2_with (go_at_call 52;refine(h1 _ hw).mono ?_;rintro e w1 ⟨rfl,i1⟩;obtain⟨-,q1,-⟩:=hq w1 i1)
  . go_ret
    exact⟨by unfold Z8v;simp_all,i1⟩
  have z1:c1=0:=by simp_all
  rw[rounds_succ];go_wp2_with (go_at_call 54;refine(h2 z1 _ i1).mono ?_;rintro e w2 ⟨rfl,i2⟩;obtain⟨-,-,q2,-⟩:=hq w2 i2)
  . go_ret
    exact⟨by unfold Z8v;simp_all,i2⟩
  have z2:c2=0:=by simp_all
  rw[rounds_succ];go_wp2_with (go_at_call 56;refine(h3 z1 z2 _ i2).mono ?_;rintro e w3 ⟨rfl,i3⟩;obtain⟨-,-,-,q3,-⟩:=hq w3 i3)
  . go_ret
    exact⟨by unfold Z8v;simp_all,i3⟩
  have z3:c3=0:=by simp_all
  rw[rounds_succ];go_wp2_with (go_at_call 58;refine(h4 z1 z2 z3 _ i3).mono ?_;rintro e w4 ⟨rfl,i4⟩;obtain⟨-,-,-,-,q4,-⟩:=hq w4 i4)
  . go_ret
    exact⟨by unfold Z8v;simp_all,i4⟩
  have z4:c4=0:=by simp_all
  rw[rounds_succ];go_wp2_with (go_at_call 60;refine(h5 z1 z2 z3 z4 _ i4).mono ?_;rintro e w5 ⟨rfl,i5⟩;obtain⟨-,-,-,-,-,q5⟩:=hq w5 i5)
  . go_ret
    exact⟨by unfold Z8v;simp_all,i5⟩
  have z5:c5=0:=by simp_all
  rw[rounds_succ];go_wp2_with (go_at_call 68;refine(h6 z1 z2 z3 z4 z5 _ i5).mono ?_;rintro e w6 ⟨rfl,i6⟩)
  . go_ret
    exact⟨by unfold Z8v;simp_all,i6⟩
  have z6:c6=0:=by simp_all
  rw[rounds_succ];go_wp2
  go_ret
  exact⟨by unfold Z8v;simp_all,i6⟩
structure SmlB(x:TelX):Prop where
  kept:Z8s x.kept
  keptL:x.kept.length<1000000000
  wants:Z1n x.wants
  wantsL:x.wants.length<1000000000
  sess:∀t∈x.sx,Zfb t.1
  sessL:x.sx.length<1000000
  wat:Z6r x.wat
  watL:x.wat.length<1000000000
theorem Zp4(w:World)(o o':Obj):((w.alloc o).alloc o').heap[w.heap.size]?=some o/\((w.alloc o).alloc o').heap[w.heap.size+1]?=some o':=by
  have h:((w.alloc o).alloc o').heap=(w.heap.push o).push o':=rfl;rw[h];constructor
  . rw[Array.getElem?_push_lt (by simp)];simp
  . rw[show w.heap.size+1=(w.heap.push o).size by simp,Array.getElem?_push_size]
theorem Zzl{w:World}{x:TelX}(hr:Rel ⟨[],w⟩ (bkA x) bkH w)(o:Obj) : Rel ⟨Zi (bcA w.heap.size x) bcH,(w.alloc (.cells #[sc1 x.kv,sc1 x.wv,sc1 x.sv,sc1 x.av,.int .i64 x.next] 27)).alloc o⟩ (bcA w.heap.size x) bcH ((w.alloc (.cells #[sc1 x.kv,sc1 x.wv,sc1 x.sv,sc1 x.av,.int .i64 x.next] 27)).alloc o):=by
  have h0:=((hr.alloc (.cells #[sc1 x.kv,sc1 x.wv,sc1 x.sv,sc1 x.av,.int .i64 x.next] 27)).alloc o).ext (Zs.app (bkA x) [V.n w.heap.size]) (rfl:bkH.all (Ent.bd 10)=true);have h1:=h0.cons (e:=.cells 10 27 [.val (.var 0),.val (.var 2),.val (.var 4),.val (.var 7),.int .i64 (.var 9)]) (Zp4 w _ o).1
    (λ_ j hj=>.inl (by rw[show j=w.heap.size from hj];exact Nat.le_refl _))
    (λe' he' _ j hj hj'=>by rw[show j=w.heap.size from hj]at hj';have hb:e'.bd 10=true:=List.all_eq_true.1 (rfl:bkH.all (Ent.bd 10)=true) e' he';have:=Ent.bound (hr.holds e' he') ((Ent.fp_bd (Zs.app (bkA x) [V.n w.heap.size]) e' hb _).2 hj');omega)
  exact(Rel.conv (J':=bcA w.heap.size x) (hp':=bcH) (h1.pick [1,2,3,4,5,0] (by decide)) rfl).base
theorem Zbx{w0 w w':World}{k:Nat}{x:TelX}(h:Rel ⟨Zi (bcA k x) bcH,w0⟩ (bcA k x) bcH w)(h':Rel ⟨Zi (bcA k x) bcH,w⟩ (bcA k x) bcH w'):Rel ⟨Zi (bcA k x) bcH,w0⟩ (bcA k x) bcH w' :=
  ⟨h.mod.trans h'.mod (λj hj=>.inl hj),h'.holds,h.own,h'.sep⟩
theorem Zvp(x:TelX):Z8v (chkK x.kept) (Zj x.wants) (Z4y x.tel.sess) (Zy x.wat) (if Z16 x.tel=true then 4 else 0) (if x.next<0\/65535<x.next then 3 else 0)=chkB x.tel:=by
  unfold Z8v chkB;simp only[TelX.tel];by_cases h1:chkK x.kept=0
  . by_cases h2:Zj x.wants=0
    . by_cases h3:Z4y (x.sx.map (·.1))=0
      . by_cases h4:Zy x.wat=0
        . by_cases h5:Z16 ⟨x.kept,x.wants,x.sx.map (·.1),x.wat,x.next,x.ox.map (·.1)⟩=true
          . simp[h1,h2,h3,h4,h5]
          . by_cases h6:x.next<0\/65535<x.next
            . simp only[h1,h2,h3,h4,h5,if_pos h6,not_true,if_false,ite_false];simp;exact(if_pos h6).symm
            . simp only[h1,h2,h3,h4,h5,if_neg h6,not_true,if_false,ite_false];simp;exact(if_neg h6).symm
        . simp[h1,h2,h3,h4]
      . simp[h1,h2,h3]
    . simp[h1,h2]
  . simp[h1]
set_option maxRecDepth 100000 in
theorem Z8i(w:World)(x:TelX)(hr:Rel ⟨[],w⟩ (bkA x) bkH w)(ho:x.ox=[])(hs:SmlB x) : Calls Tryz.prog 13 #[bkV x] w λe w'=>e=.returned (.int .i64 (chkB x.tel))/\Mod [] w w':=by
  have hst:=Zzl hr (.cells #[.func (.func 52) #[] #[.pointer (some ⟨w.heap.size,0,none⟩)],.func (.func 54) #[] #[.pointer (some ⟨w.heap.size,0,none⟩)],.func (.func 56) #[] #[.pointer (some ⟨w.heap.size,0,none⟩)],.func (.func 58) #[] #[.pointer (some ⟨w.heap.size,0,none⟩)],.func (.func 60) #[] #[.pointer (some ⟨w.heap.size,0,none⟩)],.func (.func 68) #[] #[.pointer (some ⟨w.heap.size,0,none⟩)]] 99);have hb:∀W,Rel ⟨Zi (bcA w.heap.size x) bcH,(w.alloc (.cells #[sc1 x.kv,sc1 x.wv,sc1 x.sv,sc1 x.av,.int .i64 x.next] 27)).alloc (.cells #[.func (.func 52) #[] #[.pointer (some ⟨w.heap.size,0,none⟩)],.func (.func 54) #[] #[.pointer (some ⟨w.heap.size,0,none⟩)],.func (.func 56) #[] #[.pointer (some ⟨w.heap.size,0,none⟩)],.func (.func 58) #[] #[.pointer (some ⟨w.heap.size,0,none⟩)],.func (.func 60) #[] #[.pointer (some ⟨w.heap.size,0,none⟩)],.func (.func 68) #[] #[.pointer (some ⟨w.heap.size,0,none⟩)]] 99)⟩ (bcA w.heap.size x) bcH W->∃t,W.heap[w.heap.size+1]?=some (.cells #[.func (.func 52) #[] #[.pointer (some ⟨w.heap.size,0,none⟩)],.func (.func 54) #[] #[.pointer (some ⟨w.heap.size,0,none⟩)],.func (.func 56) #[] #[.pointer (some ⟨w.heap.size,0,none⟩)],.func (.func 58) #[] #[.pointer (some ⟨w.heap.size,0,none⟩)],.func (.func 60) #[] #[.pointer (some ⟨w.heap.size,0,none⟩)],.func (.func 68) #[] #[.pointer (some ⟨w.heap.size,0,none⟩)]] t (0,0)):=λW hW =>
    ⟨_,(hW.mod.block (w.heap.size+1) (by show w.heap.size+1<((w.heap.push _).push _).size;simp) (by simp[Zi,Ent.fpl])).trans (Zp4 w _ _).2⟩
  have hk3:Z4y x.tel.sess=0->Z67 x.tel.sess:=λh=>(Z6b.1 h).2.2;have run:=Z13r _ (w.heap.size+1) w.heap.size (chkK x.kept) (Zj x.wants) (Z4y x.tel.sess) (Zy x.wat) (if Z16 x.tel=true then 4 else 0) (if x.next<0\/65535<x.next then 3 else 0) hb
    (λW hW=>(Z15y W _ x hW.base hs.kept hs.keptL).mono λe w' h=>⟨h.1,Zbx hW h.2⟩)
    (λ_ W hW=>(Z15z W _ x hW.base hs.wants hs.wantsL).mono λe w' h=>⟨h.1,Zbx hW h.2⟩)
    (λ_ _ W hW=>(Z164 W _ x hW.base ho hs.sess).mono λe w' h=>⟨h.1,Zbx hW h.2⟩)
    (λ_ _ _ W hW=>(Z160 W _ x hW.base hs.wat hs.watL).mono λe w' h=>⟨h.1,Zbx hW h.2⟩)
    (λh1 _ h3 _ W hW=>(Z162 W _ x hW.base h1 (hk3 h3) (by have:=hs.sessL;omega) hs.wantsL hs.watL).mono λe w' h=>⟨h.1,Zbx hW h.2⟩)
    (λ_ _ _ _ _ W hW=>(Z161 W _ x hW.base).mono λe w' h=>⟨h.1,Zbx hW h.2⟩)
    _ hst
  rw[Zvp]at run;clear hb hk3;have hm:∀{w'},Rel ⟨Zi (bcA w.heap.size x) bcH,(w.alloc (.cells #[sc1 x.kv,sc1 x.wv,sc1 x.sv,sc1 x.av,.int .i64 x.next] 27)).alloc (.cells #[.func (.func 52) #[] #[.pointer (some ⟨w.heap.size,0,none⟩)],.func (.func 54) #[] #[.pointer (some ⟨w.heap.size,0,none⟩)],.func (.func 56) #[] #[.pointer (some ⟨w.heap.size,0,none⟩)],.func (.func 58) #[] #[.pointer (some ⟨w.heap.size,0,none⟩)],.func (.func 60) #[] #[.pointer (some ⟨w.heap.size,0,none⟩)],.func (.func 68) #[] #[.pointer (some ⟨w.heap.size,0,none⟩)]] 99)⟩ (bcA w.heap.size x) bcH w'->Mod [] w w':=λ{w'} h =>
    ((Mod.alloc [] w _).trans (Mod.alloc [] _ _) (λj hj=>.inl hj)).trans h.mod (λj hj=>.inr (by simp only[Zi,bcH,List.flatMap_cons,List.flatMap_nil,Ent.fpl,List.append_nil,List.nil_append,qy12]at hj;rw[hj];exact Nat.le_refl _))
  simp only[bkV];generalize sc1 x.kv=v1 at run hm⊢
  generalize sc1 x.wv=v2 at run hm⊢
  generalize sc1 x.sv=v3 at run hm⊢
  generalize sc1 x.av=v4 at run hm⊢
  generalize chkB x.tel=cc at run⊢
  go_enter Tryz.func13,Tryz.ntmps13
  go_wp2_with (go_at_call 51;refine run.mono ?_;rintro e w1 ⟨rfl,i1⟩)
  go_ret
  exact⟨rfl,hm i1⟩
structure RdX(w:World)(y:TelX):Prop where
  kept:reads w y.kv kK (y.kept.map encK)
  want:reads w y.wv kW_V (y.wants.map Za)
  sess:reads w y.sv kSx (y.sx.map Zf)
  nest:(Z6 y.sx y.ox).holds w
  wat:reads w y.av kW_K (y.wat.map Z7)
theorem RdX.rel{w:World}{x:TelX}(h:RdX w x):Rel ⟨[],w⟩ (bkA x) bkH w :=
  Rel.start2 (qy2.2 ⟨⟨h.kept,rfl⟩,qy2.2 ⟨⟨h.want,rfl⟩,qy2.2 ⟨⟨h.sess,rfl⟩,qy2.2 ⟨⟨h.nest,rfl⟩,qy2.2 ⟨⟨h.wat,rfl⟩,qy5 _⟩⟩⟩⟩⟩)
structure RdB(n:Nat)(w:World)(y:TelX):Prop where
  kept:reads w y.kv kK (y.kept.map encK)
  want:reads w y.wv kW_V (y.wants.map Za)
  sess:reads w y.sv kSx (y.sx.map Zf)
  wat:reads w y.av kW_K (y.wat.map Z7)
  out:reads w y.ov kSn (y.ox.map Z12)
  nest:(Z6 y.sx y.ox).holds w
  nk:∀j,(y.kept.map encK).flatten≠[]->Z2 y.kv j->n<=j
  nw:∀j,(y.wants.map Za).flatten≠[]->Z2 y.wv j->n<=j
  ns:∀j,(y.sx.map Zf).flatten≠[]->Z2 y.sv j->n<=j
  na:∀j,(y.wat.map Z7).flatten≠[]->Z2 y.av j->n<=j
  no:∀j,(y.ox.map Z12).flatten≠[]->Z2 y.ov j->n<=j
  nn:∀j,(Z6 y.sx y.ox).fp j->n<=j
def Ziw(w w':World)(r:Ending)(e:Int)(t:Tel):Prop :=
  ∃y:TelX,r=.returned (.tuple #[bkV y,sc1 y.ov,.int .i64 e])/\y.tel=t/\RdB w.heap.size w' y/\Mod [] w w'
def telN:Tel:=⟨[],[],[],[],0,[]⟩
abbrev Zmt:TelX:=⟨[],[],[],[],0,[],.slice none 0 0,.slice none 0 0,.slice none 0 0,.slice none 0 0,.slice none 0 0⟩
theorem Zvq:∀j,¬(Z6 [] []).fp j:=λj hj=>by rcases Zb.1 hj with⟨t,ht,-⟩|⟨t,ht,-⟩<;>cases ht
theorem Z75(w:World):(Z6 [] []).holds w:=λt ht=>absurd ht (by simp[nest])
theorem Zvr(n:Nat)(w:World):RdB n w Zmt :=
  ⟨Z9 w _,Z9 w _,Z9 w _,Z9 w _,Z9 w _,Z75 w,λj h=>absurd rfl h,λj h=>absurd rfl h,λj h=>absurd rfl h,λj h=>absurd rfl h,λj h=>absurd rfl h,λj hj=>absurd hj (Zvq j)⟩
abbrev owEs(n:Nat):List Ent:=[.rd n kK (.var (n+1)),.rd (n+2) kW_V (.var (n+3)),.row (n+4) 64 kSx (.var (n+5)),.row (n+6) 74 kW_K (.var (n+7)),.st (n+9)]
theorem Zix{J:List V}{vs:List V}{n:Nat}(hn:J.length=n)(i:Nat):(J++vs).getD (n+i) (.i 0)=vs.getD i (.i 0):=by subst hn;rw[qy1,qy1,List.getElem?_append_right (by simp)];simp
theorem Z165{J:List V}{y:TelX}{n:Nat}(hn:J.length=n):owH.map (Ent.sem (owA y))=(owEs n).map (Ent.sem (J++owA y)):=by have g:=Zix (vs:=owA y) hn;have g0:(J++owA y).getD n (.i 0)=.v y.kv:=g 0;simp only[owH,owEs,List.map_cons,List.map_nil,Ent.sem,Ent.holds,Ent.fp,Ent.wr,X.ev,g0,g 1,g 2,g 3,g 4,g 5,g 6,g 7,g 9];rfl
theorem Zvs{P:Program}{f:Nat}{args:Array Value}{w:World}{B:Base}{J:List V}{hp:List Ent}{x:TelX}(h0:Rel B J hp w)(n:Nat) (h:Calls P f args w λe w1=>Zvo w w1 e x) (hn:J.length=n) : Calls P f args w λe w1=>∃y:TelX,y.ox=[]/\y.tel={ x.tel with out:=[] }/\((∀j,Z2 y.kv j->w.heap.size<=j)/\(∀j,Z2 y.wv j->w.heap.size<=j)/\(∀j,(Z6 y.sx y.ox).fp j->w.heap.size<=j))/\e=.returned (bkV y)/\Mod (Zo J [] []) w w1 /\
        (∀x∈owEs n,x.holds (J++owA y) w1/\∀k,x.fp (J++owA y) k->w.heap.size<=k\/(x.wr=false/\∃y∈hp,y.wr=false/\y.fp J k)\/k∈Zw J [])/\Z2o (J++owA y) (owEs n):=by
  refine h.mono ?_;rintro e w1 ⟨y,he,h1,h2,hq,f1,f2,f3⟩;have hs:=Z165 (y:=y) hn;have hq':=hq.conv hs;refine⟨y,h1,h2,⟨f1,f2,f3⟩,he,hq'.mod,λx hx=>⟨hq'.holds x hx,λj hj=>.inl ?_⟩,hq'.sep⟩;cases hw:x.wr with
  | true =>
    rcases hq'.own x hx hw j hj with h5|h5
    . exact h5
    . cases h5
  | false =>
    have h3:Ent.sem (J++owA y) x∈owH.map (Ent.sem (owA y)):=by rw[hs];exact List.mem_map_of_mem hx
    obtain⟨e',he',hee⟩:=List.mem_map.1 h3;have hw':e'.wr=false:=(congrArg SEnt.wr hee).trans hw;have hj':e'.fp (owA y) j:=(congrFun (congrArg SEnt.fp hee) j).mpr hj;simp only[owH,List.mem_cons,List.not_mem_nil,or_false]at he';rcases he' with rfl|rfl|rfl|rfl|rfl
    . exact f1 j hj'.2
    . exact f2 j hj'.2
    . cases hw'
    . cases hw'
    . exact f3 j hj'
def pktE(c:List UInt8)(p:Pkt)(t:Tel):Int:=if ¬chkB t=0 then chkB t else if ¬Zz c=true then 1 else chkP p
def resB(e:Int)(t:Tel):Tel:=if e=0 then t else telN
theorem Zby{w w':World}{e:Int}{t:Tel}(he:¬e=0)(hm:Mod [] w w'):Ziw w w' (.returned (.tuple #[bkV Zmt,sc1 (.slice none 0 0),.int .i64 e])) e (resB e t) :=
  ⟨Zmt,rfl,by rw[resB,if_neg he];rfl,Zvr _ _,hm⟩
theorem Ziy{n m:Nat}{x y:TelX}(h:Grew m (λ_=>False) x y)(hm:n<=m)(hx:(∀j,Z2 x.kv j->n<=j)/\(∀j,Z2 x.wv j->n<=j)/\(∀j,(Z6 x.sx x.ox).fp j->n<=j)) : (∀j,(y.kept.map encK).flatten≠[]->Z2 y.kv j->n<=j)/\(∀j,(y.wants.map Za).flatten≠[]->Z2 y.wv j->n<=j)/\(∀j,(Z6 y.sx y.ox).fp j->n<=j):=by
  refine⟨λj h1 h2=>?_,λj h1 h2=>?_,λj h1=>?_⟩
  . rcases h.kept j ⟨h1,h2⟩with h3|h3
    . omega
    . exact hx.1 j h3.2
  . rcases h.want j ⟨h1,h2⟩with h3|h3
    . omega
    . exact hx.2.1 j h3.2
  . rcases h.nest j h1 with h3|h3|h3
    . omega
    . exact hx.2.2 j h3
    . exact h3.elim
theorem Zp5{n:Nat}{w:World}{y:TelX}{J:List V}{hp:List Ent}{w0:World}(hr:Rel ⟨[],w0⟩ J hp w)(hn:n=w0.heap.size) (h1:reads w y.kv kK (y.kept.map encK)) (h2:reads w y.wv kW_V (y.wants.map Za)) (h3:owns w y.sv 64 kSx (y.sx.map Zf)) (h4:owns w y.av 74 kW_K (y.wat.map Z7)) (h5:owns w y.ov 97 kSn (y.ox.map Z12)) (h6:(Z6 y.sx y.ox).holds w) (f:(∀j,(y.kept.map encK).flatten≠[]->Z2 y.kv j->n<=j)/\(∀j,(y.wants.map Za).flatten≠[]->Z2 y.wv j->n<=j)/\(∀j,(Z6 y.sx y.ox).fp j->n<=j)) (g3:∀j,Z2 y.sv j->n<=j) (g4:∀j,Z2 y.av j->n<=j) (g5:∀j,Z2 y.ov j->n<=j):RdB n w y :=
  ⟨h1,h2,h3.reads,h4.reads,h5.reads,h6,f.1,f.2.1,λj _ h=>g3 j h,λj _ h=>g4 j h,λj _ h=>g5 j h,f.2.2⟩
theorem Z2s{w0 w:World}{J:List V}{hp:List Ent}(hr:Rel ⟨[],w0⟩ J hp w)(i:Nat){v ty:Nat}{ks:List Kd}{r:X}(h:hp[i]?=some (.row v ty ks r)):∀j,Z2 (J.getD v (.i 0)).toV j->w0.heap.size<=j:=λj hj=>by
  rcases hr.own _ (qy6 h) rfl j hj with h|h
  . exact h
  . cases h
theorem Zvt(w:World)(x:TelX)(c:List UInt8)(p:Pkt)(va vc:Value)(hr:Rel ⟨[],w⟩ (bkA x++Z6d c p va vc) (bkH++[.rd 23 [.str,.int .i64] (.var 24),.rd 25 [.int .i64] (.var 26)]) w)(ho:x.ox=[])(hs:SmlB x)(hl5:∀t∈x.sx,t.1.fl.length<1000000000/\t.1.qu.length<1000000000)(hc:c.length<1099511627776)(hp:SmallP p) : Calls Tryz.prog 5 #[bkV x,.string ⟨c.toArray⟩,Zqv p va vc] w λe w'=>Ziw w w' e (pktE c p x.tel) (resB (pktE c p x.tel) (Z4p c p x.tel)):=by
  refine Z1 (Z3 (J:=bkA x++Z6d c p va vc) sxE_ok Tryz.func5 Zat rfl rfl hr rfl rfl ?_) rfl;simp only[Tree.goal,X.P,X.ev,SV.ev,CV.ev,Sc.ev,qz,QA,QB,QC,QD,QE,QF,QG,QH,QI,QJ,QK,QL,QM,Nat.reduceAdd,qy3,qy4];intro b27 b28 b29 b30;refine⟨[.i (chkB x.tel)],rfl,λ_ w' hr=>Z8i w' x (RdX.rel ⟨hr.at_ 5 rfl,hr.at_ 6 rfl,hr.at_ 7 rfl,hr.at_ 8 rfl,hr.at_ 9 rfl⟩) ho hs,?_⟩;simp only[Tree.goal,X.P,X.ev,SV.ev,CV.ev,Sc.ev,qz,QA,QB,QC,QD,QE,QF,QG,QH,QI,QJ,QK,QL,QM,Nat.reduceAdd,qy3,qy4];refine⟨[.b (Zz c)],rfl,λ_ w' hr=>Zi2 w' c hc,?_⟩;simp only[Tree.goal,X.P,X.ev,SV.ev,CV.ev,Sc.ev,qz,QA,QB,QC,QD,QE,QF,QG,QH,QI,QJ,QK,QL,QM,Nat.reduceAdd,qy3,qy4];refine⟨λh1=>⟨λh2 w3 hr3=>?_,λh2=>absurd h2 (by decide)⟩,λh1=>⟨λh2=>?_,λh2 w3 hr3=>?_⟩⟩
  . have e:pktE c p x.tel=1:=by rw[pktE,if_neg (qy9.2 h1.1),if_pos h1.2]
    rw[e];exact Zby (by decide) hr3.mod
  . have hcl:Zz c=true:=Classical.byContradiction λh3=>h1 ⟨h2,h3⟩;have e:pktE c p x.tel=chkP p:=by rw[pktE,if_neg (qy9.2 h2),if_neg (qy9.2 hcl)]
    rw[e];refine⟨[.i (chkP p)],rfl,λ_ w' hr=>Zyw w' p va vc (hr.at_ 10 rfl) (hr.at_ 11 rfl) hp,?_⟩;simp only[Tree.goal,X.P,X.ev,SV.ev,CV.ev,Sc.ev,qz,QA,QB,QC,QD,QE,QF,QG,QH,QI,QJ,QK,QL,QM,Nat.reduceAdd,qy3,qy4];refine⟨λh3 w3 hr3=>Zby h3 hr3.mod,λh3=>?_⟩;have h3:=qy9.1 h3;have hB:=Zaw.1 h2;intro b35 b36 w1 hr1;refine(Zvs hr1 38 (Z13q w1 x (RdX.rel ⟨hr1.at_ 8 rfl,hr1.at_ 9 rfl,hr1.at_ 10 rfl,hr1.at_ 11 rfl,hr1.at_ 12 rfl⟩) hs.keptL hs.wantsL hs.watL hs.sessL hl5) rfl).mono ?_;rintro e w2 ⟨⟨yk,yw,ys,ya,yn,yo,v1,v2,v3,v4,v5⟩,y1,y2,yf,rfl,m1,m3,m4⟩;simp only at y1;subst y1;refine⟨owA ⟨yk,yw,ys,ya,yn,[],v1,v2,v3,v4,v5⟩,rfl,rfl,m1,qy5 _,m3,m4,?_⟩;have hz1:=hr1.mod.size;clear m1 m3 m4;have hyt:TelX.tel ⟨yk,yw,ys,ya,yn,[],v1,v2,v3,v4,.slice none 0 0⟩=x.tel:=by rw[show TelX.tel ⟨yk,yw,ys,ya,yn,[],v1,v2,v3,v4,.slice none 0 0⟩=TelX.tel ⟨yk,yw,ys,ya,yn,[],v1,v2,v3,v4,v5⟩ from rfl,y2];simp only[TelX.tel,ho,List.map_nil]
    intro b48 w3 hr3;refine(Z30 (k:=b48) (x:=⟨yk,yw,ys,ya,yn,[],v1,v2,v3,v4,.slice none 0 0⟩) (F:=λ_=>False) (pre:=[]) hr3 49 48 [42,44]
      (Zzi w3 b48 ⟨yk,yw,ys,ya,yn,[],v1,v2,v3,v4,.slice none 0 0⟩ c p va vc (((hr3.pick [1,2,3,4,6,5,0,19,20] (by decide)).conv rfl).base.conv rfl) (by rw[hyt];exact hB) (by show(0:Nat)<40000;decide) hcl h3)
      rfl rfl (by show 48<49;decide) rfl (λj hj=>?_)).mono ?_
    . rcases hj with hj|hj|hj|hj
      . exact(qE 1 rfl rfl hj)
      . exact(qE 2 rfl rfl hj)
      . exact(qE 5 rfl rfl hj)
      . exact hj.elim
    rintro e w4 ⟨z,z1,z2,zg,rfl,m1,m2,m3,m4⟩;refine⟨tlV z,rfl,rfl,m1,m2,m3,m4,?_⟩;have hz3:=hr3.mod.size;clear m1 m2 m3 m4;intro b61 w5 hr5;have hnew:=Ziy zg hz3 ⟨λj h=>Nat.le_trans hz1 (yf.1 j h),λj h=>Nat.le_trans hz1 (yf.2.1 j h),λj h=>Nat.le_trans hz1 (yf.2.2 j h)⟩;refine⟨z,by rw[h3];rfl,?_,Zp5 hr5 rfl (hr5.at_ 1 rfl) (hr5.at_ 2 rfl) (hr5.at_ 3 rfl) (hr5.at_ 4 rfl) (hr5.at_ 5 rfl) (hr5.at_ 6 rfl) hnew (Z2s hr5 3 rfl) (Z2s hr5 4 rfl) (Z2s hr5 5 rfl),hr5.mod⟩;rw[resB,if_pos h3,z1,hyt]
  . have e:pktE c p x.tel=chkB x.tel:=by rw[pktE,if_pos h2]
    rw[e];exact Zby h2 hr3.mod
def Zmu(w w':World)(r:Ending)(e:Int)(t:Tel):Prop :=
  ∃y:TelX,r=.returned (.tuple #[bkV y,.int .i64 e])/\y.ox=[]/\y.tel=t/\RdB w.heap.size w' y/\Mod [] w w'
def gonE(c:List UInt8)(t:Tel):Int:=if ¬chkB t=0 then chkB t else if ¬Zz c=true then 1 else 0
theorem Zvu{w w':World}{e:Int}{t:Tel}(he:¬e=0)(hm:Mod [] w w'):Zmu w w' (.returned (.tuple #[bkV Zmt,.int .i64 e])) e (resB e t) :=
  ⟨Zmt,rfl,rfl,by rw[resB,if_neg he];rfl,Zvr _ _,hm⟩
theorem Z166{z:TelX}{t:Tel}(h:z.tel=t)(ho:t.out=[]):z.ox=[]:=by rw[<- h]at ho;simpa[TelX.tel]using ho
theorem Z13s(w:World)(x:TelX)(c:List UInt8)(hr:Rel ⟨[],w⟩ (bkA x++[.s c]) bkH w)(ho:x.ox=[])(hs:SmlB x)(hl5:∀t∈x.sx,t.1.fl.length<1000000000/\t.1.qu.length<1000000000)(hc:c.length<1099511627776) : Calls Tryz.prog 6 #[bkV x,.string ⟨c.toArray⟩] w λe w'=>Zmu w w' e (gonE c x.tel) (resB (gonE c x.tel) (Zcu c x.tel)):=by
  refine Z1 (Z3 (J:=bkA x++[.s c]) sxE_ok Tryz.func6 Zcw rfl rfl hr rfl rfl ?_) rfl;simp only[Tree.goal,X.P,X.ev,SV.ev,CV.ev,Sc.ev,qz,QA,QB,QC,QD,QE,QF,QG,QH,QI,QJ,QK,QL,QM,Nat.reduceAdd,qy3,qy4];intro b11 b12 b13;refine⟨[.i (chkB x.tel)],rfl,λ_ w' hr=>Z8i w' x (RdX.rel ⟨hr.at_ 3 rfl,hr.at_ 4 rfl,hr.at_ 5 rfl,hr.at_ 6 rfl,hr.at_ 7 rfl⟩) ho hs,?_⟩;simp only[Tree.goal,X.P,X.ev,SV.ev,CV.ev,Sc.ev,qz,QA,QB,QC,QD,QE,QF,QG,QH,QI,QJ,QK,QL,QM,Nat.reduceAdd,qy3,qy4];refine⟨[.b (Zz c)],rfl,λ_ w' hr=>Zi2 w' c hc,?_⟩;simp only[Tree.goal,X.P,X.ev,SV.ev,CV.ev,Sc.ev,qz,QA,QB,QC,QD,QE,QF,QG,QH,QI,QJ,QK,QL,QM,Nat.reduceAdd,qy3,qy4];refine⟨λh1=>⟨λh2 w3 hr3=>?_,λh2=>absurd h2 (by decide)⟩,λh1=>⟨λh2 w3 hr3=>?_,λh2=>?_⟩⟩
  . have e:gonE c x.tel=1:=by rw[gonE,if_neg (qy9.2 h1.1),if_pos h1.2]
    rw[e];exact Zvu (by decide) hr3.mod
  . have e:gonE c x.tel=chkB x.tel:=by rw[gonE,if_pos h2]
    rw[e];exact Zvu h2 hr3.mod
  . have h2:=qy9.1 h2;have hcl:Zz c=true:=Classical.byContradiction λh3=>h1 ⟨h2,h3⟩;have e:gonE c x.tel=0:=by rw[gonE,if_neg (qy9.2 h2),if_neg (qy9.2 hcl)]
    rw[e];have hB:=Zaw.1 h2;intro b16 b17 w1 hr1;refine(Zvs hr1 19 (Z13q w1 x (RdX.rel ⟨hr1.at_ 6 rfl,hr1.at_ 7 rfl,hr1.at_ 8 rfl,hr1.at_ 9 rfl,hr1.at_ 10 rfl⟩) hs.keptL hs.wantsL hs.watL hs.sessL hl5) rfl).mono ?_;rintro e w2 ⟨⟨yk,yw,ys,ya,yn,yo,v1,v2,v3,v4,v5⟩,y1,y2,yf,rfl,m1,m3,m4⟩;simp only at y1;subst y1;refine⟨owA ⟨yk,yw,ys,ya,yn,[],v1,v2,v3,v4,v5⟩,rfl,rfl,m1,qy5 _,m3,m4,?_⟩;have hz1:=hr1.mod.size;clear m1 m3 m4;have hyt:TelX.tel ⟨yk,yw,ys,ya,yn,[],v1,v2,v3,v4,.slice none 0 0⟩=x.tel:=by rw[show TelX.tel ⟨yk,yw,ys,ya,yn,[],v1,v2,v3,v4,.slice none 0 0⟩=TelX.tel ⟨yk,yw,ys,ya,yn,[],v1,v2,v3,v4,v5⟩ from rfl,y2];simp only[TelX.tel,ho,List.map_nil]
    intro b29 w3 hr3;refine(Z30 (k:=b29) (x:=⟨yk,yw,ys,ya,yn,[],v1,v2,v3,v4,.slice none 0 0⟩) (F:=λ_=>False) (pre:=[]) hr3 30 29 [23,25]
      (Z10r w3 b29 ⟨yk,yw,ys,ya,yn,[],v1,v2,v3,v4,.slice none 0 0⟩ c (((hr3.pick [1,2,3,4,6,5,0] (by decide)).conv rfl).base.conv rfl) (by rw[hyt];exact hB) (by show(0:Nat)<100000;decide))
      rfl rfl (by show 29<30;decide) rfl (λj hj=>?_)).mono ?_
    . rcases hj with hj|hj|hj|hj
      . exact(qE 1 rfl rfl hj)
      . exact(qE 2 rfl rfl hj)
      . exact(qE 5 rfl rfl hj)
      . exact hj.elim
    rintro e w4 ⟨z,z1,z2,zg,rfl,m1,m2,m3,m4⟩;refine⟨tlV z,rfl,rfl,m1,m2,m3,m4,?_⟩;have hz3:=hr3.mod.size;clear m1 m2 m3 m4;intro b42 w5 hr5;have hnew:=Ziy zg hz3 ⟨λj h=>Nat.le_trans hz1 (yf.1 j h),λj h=>Nat.le_trans hz1 (yf.2.1 j h),λj h=>Nat.le_trans hz1 (yf.2.2 j h)⟩;rw[hyt]at z1;refine⟨z,rfl,Z166 z1 ((Zz4 hB c).2.trans (by simp[TelX.tel,ho])),by rw[resB,if_pos rfl,z1],Zp5 hr5 rfl (hr5.at_ 1 rfl) (hr5.at_ 2 rfl) (hr5.at_ 3 rfl) (hr5.at_ 4 rfl) (hr5.at_ 5 rfl) (hr5.at_ 6 rfl) hnew (Z2s hr5 3 rfl) (Z2s hr5 4 rfl) (Z2s hr5 5 rfl),hr5.mod⟩
def msgE(n:Int)(m:Msg)(t:Tel):Int:=if ¬chkB t=0 then chkB t else if ¬(0<=n/\n<=9)then 3 else chk m
theorem Zh6(w:World)(x:TelX)(n:Int)(m:Msg)(mv:Value)(hr:Rel ⟨[],w⟩ (bkA x++([.i n]++mgV m mv)) (bkH++[.rd 15 [.int .i64,.str] (.var 16)]) w)(ho:x.ox=[])(hs:SmlB x)(hl5:∀t∈x.sx,t.1.fl.length<1000000000/\t.1.qu.length<1000000000)(hm1:m.opts.length<1099511627776)(hm2:m.tok.length<1099511627776)(hm3:m.pay.length<1099511627776) : Calls Tryz.prog 15 #[bkV x,.int .i64 n,mV m (sc1 mv)] w λe w'=>Ziw w w' e (msgE n m x.tel) (resB (msgE n m x.tel) (Zv n m x.tel)):=by
  refine Z1 (Z3 (J:=bkA x++([.i n]++mgV m mv)) sxE_ok Tryz.func15 Z9e rfl rfl hr rfl rfl ?_) rfl;simp only[Tree.goal,X.P,X.ev,SV.ev,CV.ev,Sc.ev,qz,QA,QB,QC,QD,QE,QF,QG,QH,QI,QJ,QK,QL,QM,Nat.reduceAdd,qy3,qy4];intro b18 b19 b20 b21;refine⟨[.i (chkB x.tel)],rfl,λ_ w' hr=>Z8i w' x (RdX.rel ⟨hr.at_ 5 rfl,hr.at_ 6 rfl,hr.at_ 7 rfl,hr.at_ 8 rfl,hr.at_ 9 rfl⟩) ho hs,?_⟩;simp only[Tree.goal,X.P,X.ev,SV.ev,CV.ev,Sc.ev,qz,QA,QB,QC,QD,QE,QF,QG,QH,QI,QJ,QK,QL,QM,Nat.reduceAdd,qy3,qy4];refine⟨λh1=>⟨λh2=>⟨λh3 w3 hr3=>?_,λh3=>absurd h3 (by decide)⟩,λh2=>?_⟩,λh1 w3 hr3=>?_⟩
  . have e:msgE n m x.tel=3:=by rw[msgE,if_neg (qy9.2 h1),if_pos h2]
    rw[e];exact Zby (by decide) hr3.mod
  . have hn:=qy9.1 h2;have e:msgE n m x.tel=chk m:=by rw[msgE,if_neg (qy9.2 h1),if_neg h2]
    rw[e];refine⟨[.i (chk m)],rfl,λ_ w' hr=>Z12y w' m mv (hr.at_ 10 rfl) hm1 hm2 hm3,?_⟩;simp only[Tree.goal,X.P,X.ev,SV.ev,CV.ev,Sc.ev,qz,QA,QB,QC,QD,QE,QF,QG,QH,QI,QJ,QK,QL,QM,Nat.reduceAdd,qy3,qy4];refine⟨λh3 w3 hr3=>Zby h3 hr3.mod,λh3=>?_⟩;have h3:=qy9.1 h3;have hB:=Zaw.1 h1;intro b25 b26 w1 hr1;refine(Zvs hr1 28 (Z13q w1 x (RdX.rel ⟨hr1.at_ 8 rfl,hr1.at_ 9 rfl,hr1.at_ 10 rfl,hr1.at_ 11 rfl,hr1.at_ 12 rfl⟩) hs.keptL hs.wantsL hs.watL hs.sessL hl5) rfl).mono ?_;rintro e w2 ⟨⟨yk,yw,ys,ya,yn,yo,v1,v2,v3,v4,v5⟩,y1,y2,yf,rfl,m1,m3,m4⟩;simp only at y1;subst y1;refine⟨owA ⟨yk,yw,ys,ya,yn,[],v1,v2,v3,v4,v5⟩,rfl,rfl,m1,qy5 _,m3,m4,?_⟩;have hz1:=hr1.mod.size;clear m1 m3 m4;have hyt:TelX.tel ⟨yk,yw,ys,ya,yn,[],v1,v2,v3,v4,.slice none 0 0⟩=x.tel:=by rw[show TelX.tel ⟨yk,yw,ys,ya,yn,[],v1,v2,v3,v4,.slice none 0 0⟩=TelX.tel ⟨yk,yw,ys,ya,yn,[],v1,v2,v3,v4,v5⟩ from rfl,y2];simp only[TelX.tel,ho,List.map_nil]
    have hxo:x.tel.out=[]:=by simp[TelX.tel,ho]
    have new0:(∀j,Z2 v1 j->w.heap.size<=j)/\(∀j,Z2 v2 j->w.heap.size<=j)/\(∀j,(Z6 ys []).fp j->w.heap.size<=j):=⟨λj h=>Nat.le_trans hz1 (yf.1 j h),λj h=>Nat.le_trans hz1 (yf.2.1 j h),λj h=>Nat.le_trans hz1 (yf.2.2 j h)⟩
    intro b38;simp only[Tree.goal,X.P,X.ev,SV.ev,CV.ev,Sc.ev,qz,QA,QB,QC,QD,QE,QF,QG,QH,QI,QJ,QK,QL,QM,Nat.reduceAdd,qy3,qy4];refine⟨λh4=>?_,λh4=>⟨λh5=>?_,λh5 b39 w5 hr5=>?_⟩⟩
    . intro b39 v40;refine⟨by first|omega|(simp;omega),λv42 b43 w5 hr5=>?_⟩;have hnil:∀s∈[toP n ⟨3,0,m.id,[],[],[]⟩],nilS s:=λs hs=>by rw[qy12.1 hs];exact⟨rfl,rfl,rfl⟩
      obtain⟨q1,q2⟩:=Z8d (l:=ys) (o:=[]) hnil;refine⟨⟨yk,yw,ys,ya,yn,[nilX (toP n ⟨3,0,m.id,[],[],[]⟩)],v1,v2,v3,v4,v42⟩,by rw[h3];rfl,?_,Zp5 hr5 rfl (hr5.at_ 5 rfl) (hr5.at_ 6 rfl) (hr5.at_ 7 rfl) (hr5.at_ 8 rfl) (hr5.at_ 1 rfl) (q1 _ (hr5.at_ 9 rfl)) ⟨λj _ h=>new0.1 j h,λj _ h=>new0.2.1 j h,λj h=>new0.2.2 j (q2 j h)⟩ (Z2s hr5 7 rfl) (Z2s hr5 8 rfl) (Z2s hr5 1 rfl),hr5.mod⟩;rw[resB,if_pos h3,Zv,if_pos h4,hxo,<- hyt];rfl
    . intro w3 hr3;refine(Z30 (k:=b38) (x:=⟨yk,yw,ys,ya,yn,[],v1,v2,v3,v4,.slice none 0 0⟩) (F:=λ_=>False) (pre:=[]) hr3 39 38 [32,34]
        (Zvm w3 b38 ⟨yk,yw,ys,ya,yn,[],v1,v2,v3,v4,.slice none 0 0⟩ n m mv (((hr3.pick [1,2,3,4,6,5,0,19] (by decide)).conv rfl).base.conv rfl) (by rw[hyt];exact hB) (by show(0:Nat)<40000;decide) hn h3)
        rfl rfl (by show 38<39;decide) rfl (λj hj=>?_)).mono ?_
      . rcases hj with hj|hj|hj|hj
        . exact(qE 1 rfl rfl hj)
        . exact(qE 2 rfl rfl hj)
        . exact(qE 5 rfl rfl hj)
        . exact hj.elim
      rintro e w4 ⟨z,z1,z2,zg,rfl,m1,m2,m3,m4⟩;refine⟨tlV z,rfl,rfl,m1,m2,m3,m4,?_⟩;have hz3:=hr3.mod.size;clear m1 m2 m3 m4;intro b51 w5 hr5;have hnew:=Ziy zg hz3 new0;refine⟨z,by rw[h3];rfl,?_,Zp5 hr5 rfl (hr5.at_ 1 rfl) (hr5.at_ 2 rfl) (hr5.at_ 3 rfl) (hr5.at_ 4 rfl) (hr5.at_ 5 rfl) (hr5.at_ 6 rfl) hnew (Z2s hr5 3 rfl) (Z2s hr5 4 rfl) (Z2s hr5 5 rfl),hr5.mod⟩;rw[resB,if_pos h3,z1,hyt,Zv,if_neg h4,if_pos h5]
    . refine⟨⟨yk,yw,ys,ya,yn,[],v1,v2,v3,v4,.slice none 0 0⟩,by rw[h3];rfl,?_,⟨hr5.at_ 2 rfl,hr5.at_ 3 rfl,(hr5.at_ 4 rfl:owns _ _ _ _ _).reads,(hr5.at_ 5 rfl:owns _ _ _ _ _).reads,Z9 _ _,hr5.at_ 6 rfl,λj _ h=>new0.1 j h,λj _ h=>new0.2.1 j h,λj _ h=>Z2s hr5 4 rfl j h,λj _ h=>Z2s hr5 5 rfl j h,λj h=>absurd rfl h,new0.2.2⟩,hr5.mod⟩;rw[resB,if_pos h3,Zv,if_neg h4,if_neg h5,hyt]
  . have e:msgE n m x.tel=chkB x.tel:=by rw[msgE,if_pos h1]
    rw[e];exact Zby h1 hr3.mod
end Go.Proofs.Y
namespace Go.Proofs.Y
open Go.Sx
def Zzm(s:Snt):Prop:=(s.client=[]/\chk s.msg=0/\s.pk=pD_Q 0)\/(¬s.client=[]/\chkP s.pk=0/\s.msg=mNil/\s.peer=0)
def Z32(l:List Snt):Prop:=∀s∈l,Zzm s
theorem Z32.nil:Z32 []:=λs hs=>absurd hs (by simp)
theorem Z32.app{a b:List Snt}(ha:Z32 a)(hb:Z32 b):Z32 (a++b):=λs hs=>(qy13.1 hs).elim (ha s) (hb s)
theorem Z32.one{s:Snt}(h:Zzm s):Z32 [s]:=λx hx=>by rw[qy12.1 hx];exact h
theorem Z17d{c:List UInt8}(h:Zz c=true):¬c=[]:=by rintro rfl;exact absurd h (by decide)
theorem Z13t{c:List UInt8}{p:Pkt}(hc:Zz c=true)(hp:chkP p=0):Zzm (toC c p):=.inr ⟨Z17d hc,hp,rfl,rfl⟩
theorem Zfc{n:Int}{m:Msg}(hm:chk m=0):Zzm (toP n m):=.inl ⟨rfl,hm,rfl⟩
def pkOk(k:Pk):Prop:=flE (0,k.2.2.2.1,k.2.2.2.2)=0/\((k.2.1=0/\k.1=false/\k.2.2.1=0)\/(k.2.1=1/\1<=k.2.2.1/\k.2.2.1<=65535))
theorem Z167{p:Pkt}(hk:p.kind=3)(h0:p.clean=false/\p.session=false/\p.keep=0/\p.code=0/\p.client=[]/\p.asks=[]/\p.codes=[])(hf:flE (0,p.topic,p.payload)=0) (hq:(p.qos=0/\p.dup=false/\p.id=0)\/(p.qos=1/\1<=p.id/\p.id<=65535)):chkP p=0:=by
 have hc:chkT p.topic false=0/\¬200<(p.payload.length:Int):=by
  unfold flE at hf;split at hf
  ·rename_i h1;split at hf
   ·exact absurd hf (by decide)
   ·exact⟨h1,by assumption⟩
  ·exact absurd hf (by assumption)
 have hp:pubE p=0:=by
  unfold pubE;rw[if_pos hc.1,if_neg hc.2];rcases hq with⟨h1,h2,h3⟩|⟨h1,h2⟩
  ·rw[if_pos (by omega),if_neg (by rintro⟨-,h4|h4⟩;(· rw[h2]at h4;cases h4);(· exact h4 h3))]
  ·rw[if_pos (by omega),if_neg (by omega)]
 unfold chkP;have hb:Z27 p=pD_Q p.kind:=by obtain⟨a,b,c,d,e,f,g⟩:=h0;unfold Z27;rw[if_neg (by omega),if_neg (by omega),if_pos hk];cases p;simp_all
 rw[if_pos (by rw[hk];decide),if_pos (by rw[Zc8,hb];exact decide_eq_true rfl),if_neg (by rintro⟨-,h⟩;exact h hp),if_neg,Z2c,if_neg (by omega),if_neg (by omega),if_pos hk,hp];rintro⟨h1,h2⟩;have h1:=of_decide_eq_true h1;rcases hq with⟨h3,-⟩|⟨h3,h4⟩
 ·omega
 ·exact h2 h4
theorem Z13u{k:Pk}(h:pkOk k):chkP (pkOf k)=0:=Z167 rfl ⟨rfl,rfl,rfl,rfl,rfl,rfl,rfl⟩ h.1 h.2
theorem Z13v{c:List UInt8}{l:List Pk}(hc:Zz c=true)(h:∀k∈l,pkOk k):Z32 (l.map λk=>toC c (pkOf k)):=λs hs=>by obtain⟨k,hk,rfl⟩:=List.mem_map.1 hs;exact Z13t hc (Z13u (h k hk))
theorem Zvv(on:Bool):∀(qu fl:List Fl) (next:Int) (out:List Pk),(∀f∈qu,flE f=0)->(1<=next/\next<=65535)->(∀k∈out,pkOk k)->∀k∈(flyR on fl qu next out).2.2.2,pkOk k
 | [],fl,next,out,_,_,h=>by simpa[flyR]using h
 | f::q,fl,next,out,hq,hn,h=>by
  rw[flyR];split
  ·have hid:=Zi4 (fl:=fl) hn;refine Zvv on q _ _ _ (λx hx=>hq x (qy10 _ hx)) (Zfp hid).1 λk hk=>?_;rcases qy13.1 hk with hk|hk
   ·exact h k hk
   ·rw[qy12.1 hk];exact⟨hq f (qy8 ..),.inr ⟨rfl,hid⟩⟩
  ·exact h
theorem Z13w{s:Ses}{n p:List UInt8}{q:Int}(h:SesOk s)(hp:flE (0,n,p)=0):∀k∈(Z1v s n p q).2,pkOk k:=by
 unfold Z1v;split
 ·intro k hk;rw[qy12.1 hk];exact⟨hp,.inl ⟨rfl,rfl,rfl⟩⟩
 ·split
  ·refine Zvv _ _ _ _ _ (λf hf=>?_) h.next (by simp);rcases qy13.1 hf with hf|hf
   ·exact(h.qu f hf).1
   ·rw[qy12.1 hf];exact hp
  ·simp
theorem Zl5{m:Msg}(hk:0<=m.kind/\m.kind<=3)(hc:1<=m.code/\m.code<=255)(hi:0<=m.id/\m.id<=65535)(ht:m.tok.length<=8)(hp:m.pay.length<=200)(ho:m.opts=[]\/∃v:List UInt8,v.length<=60/\m.opts=[(6,v)]):chk m=0:=by
 refine Z7x.2 ⟨hk,⟨by omega,by omega,hi.1,hi.2⟩,⟨ht,?_,hp⟩,?_,λh=>by omega⟩
 ·rcases ho with h|⟨v,-,h⟩<;>rw[h]<;>simp
 ·rcases ho with h|⟨v,hv,h⟩
  ·rw[h];rfl
  ·rw[h]
   show(if(0:Int)<=6/\(6:Int)<=65535 then(if(6:Int)<0 then 4 else if 60<(v.length:Int)then 2 else optE 6 [])else 3)=0
   rw[if_pos (by decide),if_neg (by decide),if_neg (by omega)];rfl
theorem Zvw{m:Msg}{n:Int}(h:m.opts=[]):(putM m n).opts=[(6,Z1x n)]:=by simp[putM,h,Zyo,noN,upTo,past]
theorem Zzn{n:Int}:(Z1x n).length<=3:=by
 have h1:(Z1x n).length<=(numB 3 n).length:=by unfold Z1x;exact(List.dropWhile_suffix _).length_le
 have h2:(numB 3 n).length=3:=by simp[numB]
 omega
theorem Zp6{m:Msg}{n:Int}(hk:0<=m.kind/\m.kind<=3)(hc:1<=m.code/\m.code<=255)(hi:0<=m.id/\m.id<=65535)(ht:m.tok.length<=8)(hp:m.pay.length<=200)(ho:m.opts=[]):chk (putM m n)=0 :=
 Zl5 (m:=putM m n) hk hc hi ht hp (.inr ⟨_,by have:=@Zzn n;omega,Zvw ho⟩)
theorem Z10y{l:List Wat}(h:Zy l=0){w:Wat}(hw:w∈l):w.2.1.length<=8/\(0<=w.2.2.2/\w.2.2.2<=16777215):=by
 obtain⟨h1,h2⟩:=(Zr.1 h).2.1 w hw;refine⟨?_,h2⟩;unfold Z3d at h1;split at h1
 ·split at h1
  ·exact absurd h1 (by decide)
  ·omega
 ·exact absurd h1 (by decide)
theorem Z168{n p:List UInt8}(hf:flE (0,n,p)=0):p.length<=200:=by
 unfold flE at hf;split at hf
 ·split at hf
  ·exact absurd hf (by decide)
  ·rename_i h1;simp only at h1;omega
 ·exact absurd hf (by assumption)
theorem Zh7{n p:List UInt8}{q:Int}(hp:flE (0,n,p)=0):∀(rs:List Rd) {t:Tel},BOk t->(∀r∈rs,hasS t.sess r.1=true)->Z32 t.out->Z32 (rs.foldl (Z19 n p q) t).out
 | [],t,_,_,ho=>ho
 | r::rs,t,h,hr,ho=>by obtain⟨a,b,c⟩:=Zor (q:=q) h hp (hr r (qy8 ..));have h0:=hr r (qy8 ..);have hs:=Zcc h h0;refine Zh7 hp rs a (λx hx=>by rw[Zf8 h.sort b];exact hr x (qy10 _ hx)) (ho.app (Z13v ?_ (Z13w hs hp)));have:=hs.cl;rw[(Z80 h0).2]at this;exact this
theorem Zh8{p:List UInt8}(hp:p.length<=200):∀(l:List Wat) {t:Tel},0<=t.next/\t.next<=65535->(∀w∈l,w.2.1.length<=8)->Z32 t.out->Z32 (l.foldl (Z39 p) t).out
 | [],t,_,_,ho=>ho
 | w::l,t,h,hl,ho=>Zh8 hp l (Zcb _ h.1) (λx hx=>hl x (qy10 _ hx)) (ho.app (.one (Zfc (Zp6 (by simp) (by simp) h (hl w (qy8 ..)) hp rfl))))
theorem Zvx{t:Tel}{n p:List UInt8}{q:Int}(h:BOk t)(hp:flE (0,n,p)=0)(ho:Z32 t.out):Z32 (Z68 n p q t).out:=by obtain⟨a,b,c,d1,d2,d3,d4⟩:=Z81 (q:=q) hp (rdOf n t.wants) h (Z4q h n);refine Zh8 (Z168 hp) _ a.next (λw hw=>?_) (Zh7 hp _ h (Z4q h n) ho);unfold Z2k at hw;obtain⟨x,hx,rfl⟩:=List.mem_map.1 hw;have:=(Z10y a.wat (List.mem_filter.1 hx).1).1;unfold Z3x;split<;>exact this
theorem Zh9:∀(l:List Wat) {t:Tel},0<=t.next/\t.next<=65535->(∀w∈l,w.2.1.length<=8)->Z32 t.out->Z32 (l.foldl Z7k t).out
 | [],t,_,_,ho=>ho
 | w::l,t,h,hl,ho=>Zh9 l (Zcb _ h.1) (λx hx=>hl x (qy10 _ hx)) (ho.app (.one (Zfc (Zl5 (by simp) (by simp) h (hl w (qy8 ..)) (by simp) (.inl rfl)))))
theorem Zl6{t:Tel}{n p:List UInt8}(h:BOk t)(ho:Z32 t.out):Z32 (Zx n p t).1.out:=by
 unfold Zx;split
 ·exact ho
 split
 ·exact ho
 ·exact Zh9 _ (t:={ t with kept:=(rawK t.kept n p).1 }) h.next (λw hw=>(Z10y h.wat (List.mem_filter.1 hw).1).1) ho
theorem Zl7{m a:Msg}(hm:chk m=0){next:Int}(hn:0<=next/\next<=65535)(ha:a=Z1o m next):(0<=a.kind/\a.kind<=3)/\(0<=a.id/\a.id<=65535)/\a.tok.length<=8/\a.pay=[]/\a.opts=[]/\a.code=133:=by
 obtain⟨-,m1,m2,-⟩:=Z7x.1 hm;subst ha;unfold Z1o;split
 ·exact⟨by simp,hn,m2.1,rfl,rfl,rfl⟩
 ·exact⟨by simp,⟨m1.2.2.1,m1.2.2.2⟩,m2.1,rfl,rfl,rfl⟩
theorem Zzo{t:Tel}(h:BOk t){name:List UInt8}(hk:hasK t.kept name=true):(t.kept.getD (idx t.kept name) kD).2.1.length<=200:=by
 obtain⟨h1,h2⟩:=of_decide_eq_true hk;have hm:t.kept.getD (idx t.kept name) kD∈t.kept:=by rw[qy1,qy7 h1];exact List.getElem_mem h1
 have:=((Zu.1 h.kept).2.1 _ hm).2.2.1;omega
theorem Z13x{t:Tel}(h:BOk t){n:Int}{m a:Msg}(hm:chk m=0){next:Int}(hn:0<=next/\next<=65535)(ha:a=Z1o m next)(ho:Z32 t.out):Z32 (doB n m a t).1.out/\chk (doB n m a t).2=0:=by
 obtain⟨a1,a2,a3,a4,a5,a6⟩:=Zl7 hm hn ha;have hcode:∀code:Int,1<=code/\code<=255->chk { a with code:=code }=0:=λcode hc=>Zl5 (m:={ a with code:=code }) a1 hc a2 a3 (by simp[a4]) (.inl a5);unfold doB;split
 ·exact⟨ho,hcode _ (by decide)⟩
 rename_i h1;have hp:=Zax (qy9.1 h1);split
 ·unfold getB;split
  ·exact⟨ho,hcode _ (by decide)⟩
  rename_i h0;have hk:=Zzo h (qy9.1 h0);have hb:chk { a with code:=69,pay:=(t.kept.getD (idx t.kept (Z10 m.opts).1) kD).2.1 }=0:=Zl5 (m:={ a with code:=69,pay:=(t.kept.getD (idx t.kept (Z10 m.opts).1) kD).2.1 }) a1 (show(1:Int)<=69/\(69:Int)<=255 by decide) a2 a3 hk (.inl a5);simp only;split
  ·split
   ·exact⟨ho,Zp6 (m:={ a with code:=69,pay:=(t.kept.getD (idx t.kept (Z10 m.opts).1) kD).2.1 }) a1 (show(1:Int)<=69/\(69:Int)<=255 by decide) a2 a3 hk a5⟩
   ·exact⟨ho,hb⟩
  ·split
   ·exact⟨ho,hb⟩
   ·exact⟨ho,hb⟩
 split
 ·split
  ·have k1:=(Z74 (p:=m.pay) h hp).1;have hf:flE (0,(Z10 m.opts).1,m.pay)=0:=by
    have:=(Z7x.1 hm).2.2.1.2.2;rw[flE,if_pos hp,if_neg (by simp only;omega)]
   exact⟨Zvx k1 hf (Zl6 h ho),hcode _ (by decide)⟩
  ·exact⟨ho,hcode _ (by decide)⟩
 split
 ·exact⟨Zl6 h ho,hcode _ (by decide)⟩
 ·refine⟨ho,?_⟩;have:=hcode 133 (by decide);rwa [show({ a with code:=133 }:Msg)=a from by rw[<- a6]]at this
theorem Zl8{t:Tel}(h:BOk t){n:Int}{m:Msg}(hm:chk m=0)(ho:Z32 t.out):Z32 (Z2z n m t).out:=by
 have h':BOk { t with next:=if m.kind=1 then nx_Z t.next else t.next,out:=t.out++[toP n (Z1o m t.next)] }:=by
  refine⟨h.kept,h.wants,h.ns,h.ses,h.sort,h.wat,h.has,h.kpt,?_⟩
  show 0<=(if m.kind=1 then nx_Z t.next else t.next)/\(if m.kind=1 then nx_Z t.next else t.next)<=65535
  split
  ·exact Zcb _ h.next.1
  ·exact h.next
 have hc:chk (Z1o m t.next)=0:=by obtain⟨a1,a2,a3,a4,a5,a6⟩:=Zl7 hm h.next rfl;exact Zl5 a1 (by omega) a2 a3 (by rw[a4];simp) (.inl a5)
 obtain⟨a,b⟩:=Z13x (n:=n) h' hm h.next rfl (ho.app (.one (Zfc hc)));intro s hs;rcases List.mem_or_eq_of_mem_set hs with hs|rfl
 ·exact a s hs
 ·exact Zfc b
theorem Zl9{t:Tel}(h:BOk t){n:Int}{m:Msg}(hm:chk m=0)(ho:Z32 t.out):Z32 (Zv n m t).out:=by
 unfold Zv;split
 ·rename_i h1;obtain⟨-,m1,-⟩:=Z7x.1 hm;refine ho.app (.one (Zfc (Z7x.2 ⟨by simp,⟨by simp,by simp,m1.2.2⟩,by simp,rfl,λ_=>⟨rfl,rfl,rfl⟩⟩)))
 split
 ·exact Zl8 h hm ho
 ·exact ho
section
variable (w:World) (p:Pkt) (u v:Value)
end
section
variable (w:World) (p q:Pkt) (u v x y:Value)
theorem Z13y{a b:List Ak}(hl:a.length=b.length)(h:∀i,i<a.length->a.getD i aD=b.getD i aD):a=b:=by refine List.ext_getElem hl λi h1 h2=>?_;have:=h i h1;rw[qy1,qy1,qy7 h1,qy7 h2]at this;exact this
theorem Zzp{a b:List Int}(hl:a.length=b.length)(h:∀i,i<a.length->a.getD i 0=b.getD i 0):a=b:=by refine List.ext_getElem hl λi h1 h2=>?_;have:=h i h1;rw[qy1,qy1,qy7 h1,qy7 h2]at this;exact this
theorem Zfx(hu:Z7a w u p.asks)(hv:Z64 w v p.codes)(hx:Z7a w x q.asks)(hy:Z64 w y q.codes)(hs:SmallP p) : Calls Tryz.prog 135 #[pV p u v,pV q x y] w λe w'=>e=.returned (.bool (decide (p=q)))/\Mod [] w w':=by
 refine Z1 (Z3 (J:=[.i p.kind,.b p.dup,.b p.retain,.b p.clean,.b p.session,.i p.qos,.i p.id,.i p.keep,.i p.code,.s p.client,.s p.topic,.s p.payload,.v u,.r (p.asks.map encA),.v v,.r (p.codes.map Z1i),.i q.kind,.b q.dup,.b q.retain,.b q.clean,.b q.session,.i q.qos,.i q.id,.i q.keep,.i q.code,.s q.client,.s q.topic,.s q.payload,.v x,.r (q.asks.map encA),.v y,.r (q.codes.map Z1i)]) sxE_ok Tryz.func135 Z4i rfl rfl (Rel.start2 (by simp[Ent.holds,Ent.wr,hu,hv,hx,hy,X.ev])) rfl rfl ?_) rfl;have h4:=hs.asks;have h5:=hs.codes;simp only[Tree.goal,X.P,X.ev,SV.ev,CV.ev,Sc.ev,qz,QA,QB,QC,QD,QE,QF,QG,QH,QI,QJ,QK,QL,QM,Nat.reduceAdd,qy3];intro b1 b2;refine⟨λh w' hr=>⟨?_,hr.mod⟩,λh=>?_⟩
 ·have:¬p=q:=λe=>by subst e;simp at h
  simp[this]
 simp only[not_or,qy9]at h;obtain⟨⟨⟨⟨⟨⟨⟨⟨⟨⟨⟨⟨⟨e1,e2⟩,e3⟩,e4⟩,e5⟩,e6⟩,e7⟩,e8⟩,e9⟩,e10⟩,e11⟩,e12⟩,e13⟩,e14⟩:=h;refine⟨λvs=>∃(i:Nat) (b:V),vs=[b,.i i]/\i<=p.asks.length/\∀j,j<i->p.asks.getD j aD=q.asks.getD j aD,λvs=>p.asks.length - (vs.getD 1 (.i 0)).toI.toNat,⟨0,_,rfl,by omega,by omega⟩,?_⟩;rintro _ - ⟨i,vb,rfl,hi,hg⟩;simp only[Tree.goal,X.P,X.ev,SV.ev,CV.ev,Sc.ev,qz,QA,QB,QC,QD,QE,QF,QG,QH,QI,QJ,QK,QL,QM,Nat.reduceAdd,qy3,qy4,gA0,gA1];refine⟨λh2=>⟨by omega,by omega,λh3 w' hr=>⟨?_,hr.mod⟩,λh3=>⟨by omega,by omega,⟨i+1,vb,rfl,by omega,λj hj=>?_⟩,by omega⟩⟩,λh2=>?_⟩
 ·have:¬p=q:=λe=>h3 (by subst e;exact⟨rfl,rfl⟩);simp[this]
 ·by_cases hji:j=i
  ·subst hji;have h3:=qy9.1 h3;exact Prod.ext h3.1 h3.2
  ·exact hg j (by omega)
 have ea:=Z13y (a:=p.asks) (b:=q.asks) (by omega) (λj hj=>hg j (by omega));refine⟨λvs=>∃(i:Nat) (b:V),vs=[b,.i i]/\i<=p.codes.length/\∀j,j<i->p.codes.getD j 0=q.codes.getD j 0,λvs=>p.codes.length - (vs.getD 1 (.i 0)).toI.toNat,⟨0,_,rfl,by omega,by omega⟩,?_⟩;rintro _ - ⟨k,vc,rfl,hk,hgk⟩;simp only[Tree.goal,X.P,X.ev,SV.ev,CV.ev,Sc.ev,qz,QA,QB,QC,QD,QE,QF,QG,QH,QI,QJ,QK,QL,QM,Nat.reduceAdd,qy3,qy4,gI0];refine⟨λh3=>⟨by omega,by omega,λh4 w' hr=>⟨?_,hr.mod⟩,λh4=>⟨by omega,by omega,⟨k+1,vc,rfl,by omega,λj hj=>?_⟩,by omega⟩⟩,λh3 w' hr=>⟨?_,hr.mod⟩⟩
 ·have:¬p=q:=λe=>h4 (by subst e;rfl);simp[this]
 ·by_cases hjk:j=k
  ·subst hjk;exact qy9.1 h4
  ·exact hgk j (by omega)
 ·have ec:=Zzp (a:=p.codes) (b:=q.codes) (by omega) (λj hj=>hgk j (by omega));have:p=q:=by
   cases p;cases q;simp only at *;simp_all
  simp[this]
end
end Go.Proofs.Y
namespace Go.Proofs.Y
open Go.Sx
theorem Zzq{a b:List UInt8}{i:Nat}(h:a.take i=b.take i)(hi:i<a.length)(hj:i<b.length)(hne:¬a.getD i 0=b.getD i 0):Ze a b=decide (a.getD i 0<b.getD i 0):=by
 induction i generalizing a b with
 | zero =>
  match a,b,hi,hj with
  | x::a,y::b,_,_ =>
   simp only[List.getD_cons_zero]at hne;simp[Ze,Op.bytesLess,hne]
 | succ i ih =>
  match a,b,hi,hj with
  | x::a,y::b,hi,hj =>
   simp only[List.take_succ_cons,List.cons.injEq]at h;obtain⟨rfl,h⟩:=h;simp only[List.getD_cons_succ]at hne⊢;have:=ih h (by simpa using hi) (by simpa using hj) hne
   show(decide (x<x) || (x == x && Ze a b))=_
   rw[this];simp[UInt8.lt_irrefl]
theorem Zvy{a b:List UInt8}{i:Nat}(h:a.take i=b.take i)(hi:i<=a.length)(hj:i<=b.length)(he:i=a.length\/i=b.length):Ze a b=decide (a.length<b.length):=by
 induction i generalizing a b with
 | zero =>
  match a,b with
  | [],[]=>rfl
  | [],_::_=>rfl
  | _::_,[]=>simp[Zah]
  | _::_,_::_=>simp at he
 | succ i ih =>
  match a,b,hi,hj with
  | x::a,y::b,hi,hj =>
   simp only[List.take_succ_cons,List.cons.injEq]at h;obtain⟨rfl,h⟩:=h;have:=ih h (by simpa using hi) (by simpa using hj) (by simpa using he);simp[Ze,Op.bytesLess,UInt8.lt_irrefl];simpa using this
theorem Z13z{a b:List UInt8}{i:Nat}(h:a.take i=b.take i)(hi:i<a.length)(hj:i<b.length)(he:a.getD i 0=b.getD i 0):a.take (i+1)=b.take (i+1):=by rw[List.take_add_one,List.take_add_one,h];simp only[qy1,qy7 hi,qy7 hj,Option.getD_some]at he;rw[qy7 hi,qy7 hj,he]
theorem Z3i(w:World)(a b:List UInt8)(ha:a.length<1099511627776):Calls Tryz.prog 28 #[.string ⟨a.toArray⟩,.string ⟨b.toArray⟩] w λe w'=>e=.returned (.bool (Ze a b))/\Mod [] w w':=by
 refine Z1 (Z8 (J:=[.s a,.s b]) sxE_ok Tryz.func28 Z2j rfl rfl rfl ?_) rfl;simp only[Tree.goal,X.P,X.ev,SV.ev,CV.ev,Sc.ev,qz,QA,QB,QC,QD,QE,QF,QG,QH,QI,QJ,QK,QL,QM,Nat.reduceAdd];refine⟨λvs=>∃(i:Nat) (x:V),vs=[x,.i i]/\i<=a.length/\i<=b.length/\a.take i=b.take i,λvs=>a.length - (vs.getD 1 (.i 0)).toI.toNat,⟨0,_,rfl,by omega,by omega,rfl⟩,?_⟩;rintro _ - ⟨i,x,rfl,hi,hj,ht⟩;simp only[Tree.goal,X.P,X.ev,SV.ev,CV.ev,Sc.ev,qz,QA,QB,QC,QD,QE,QF,QG,QH,QI,QJ,QK,QL,QM,Nat.reduceAdd,qy4];refine⟨λh1=>⟨by omega,λh2 w' hr=>⟨?_,hr.mod⟩,λh2=>⟨by omega,by omega,⟨i+1,x,rfl,by omega,by omega,Z13z ht (by omega) (by omega) ?_⟩,by omega⟩⟩,λh1 w' hr=>⟨?_,hr.mod⟩⟩
 ·rw[Zzq ht (by omega) (by omega) (λe=>h2 (by rw[e]))];simp[UInt8.lt_iff_toNat_lt]
 ·have h3:=qy9.1 h2;exact UInt8.toNat_inj.1 (by exact_mod_cast h3)
 ·rw[Zvy ht hi hj (by omega)];simp
theorem Zla(w:World)(s:List UInt8)(hs:s.length<1099511627776):Calls Tryz.prog 8 #[.string ⟨s.toArray⟩] w λe w'=>e=.returned (.bool (cliB s))/\Mod [] w w':=by refine Z1 (Z8 (J:=[.s s]) sxE_ok Tryz.func8 Z2i rfl rfl rfl ?_) rfl;simp only[Tree.goal,X.P,X.ev,SV.ev,CV.ev,Sc.ev,qz,QA,QB,QC,QD,QE,QF,QG,QH,QI,QJ,QK,QL,QM,Nat.reduceAdd];refine⟨[.b (Z1t s)],rfl,λ_ w' _=>Zeg w' s hs,?_⟩;simp only[Tree.goal,X.P,X.ev,SV.ev,CV.ev,Sc.ev,qz,QA,QB,QC,QD,QE,QF,QG,QH,QI,QJ,QK,QL,QM,Nat.reduceAdd];exact λw' hr=>⟨by simp[cliB],hr.mod⟩
