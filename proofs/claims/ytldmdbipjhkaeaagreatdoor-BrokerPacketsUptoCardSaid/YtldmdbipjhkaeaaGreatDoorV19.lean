/- By an AI agent. -/
import Derived.Test.YtldmdbipjhkaeaaGreatDoorV18
import Derived.Test.YtldmdbipjhkaeaaGreatDoorV10
import Derived.WalkKit
import Derived.LoopN
import Derived.Test.YtldmdbipjhkaeaaGreatDoorV15
import Derived.Test.YtldmdbipjhkaeaaGreatDoorV12
import Derived.Test.YtldmdbipjhkaeaaGreatDoorV11
import Derived.Test.YtldmdbipjhkaeaaGreatDoorV08
set_option linter.all false
set_option maxHeartbeats 20000000
namespace Go.Proofs.Y
open Go Go.Sx
theorem Z94{l:List Wt}(h:Zj l=0):Z1y l:=λy hy=>by obtain⟨h1,h2,-⟩:=Zlt h y hy;have h3:=(Z5e.1 h2).2.1.1;unfold cliB at h1;rw[Bool.and_eq_true,decide_eq_true_eq]at h1;exact⟨by omega,by omega⟩
theorem Z16q{p:Pkt}(h:chkP p=0)(hk:p.kind=10):p.asks.length<=5:=by
 have h1:=(Zct h).1;unfold Z1q at h1;rw[if_neg (by omega),if_neg (by omega),if_neg (by omega),if_pos (.inr hk),Zgw]at h1;split at h1
 ·rename_i h2;exact(Zq1 h2).2
 ·exact absurd h1 (by assumption)
theorem Z10t(w:World)(k:Nat)(x:TelX)(c:List UInt8)(p:Pkt)(va vc:Value)(hr:Rel ⟨Zi (tlA k x) tlH,w⟩ (tlA k x++Z3g c p va vc) (tlH++pkHp) w)(hb:BOk x.tel)(ho:x.ox.length<40000)(hc:Zk c=true)(hp:chkP p=0) : Calls Tryz.prog 22 #[.pointer (some ⟨k,0,none⟩),.string ⟨c.toArray⟩,Zm9 p va vc] w λe w'=>e=.returned (.tuple #[])/\Z8m w w' k x (λ_=>False) (Z14 c p x.tel):=by
 refine Z1 (Z3 (J:=tlA k x++Z3g c p va vc) (sxE_ok.joins _) Tryz.func22 Z6f rfl rfl hr rfl rfl ?_) rfl;simp only[Tree.goal,X.P,X.ev,SV.ev,CV.ev,Sc.ev,qz,QA,QB,QC,QD,QE,QF,QG,QH,QI,QJ,QK,QL,QM,Nat.reduceAdd,qy3,qy4];have hn6:x.sx.length<=6:=by have:=hb.ns;rw[Z1m,qy3]at this;exact this
 have hw20:x.wants.length<=20:=Zbr hb.wants;intro b30;refine⟨[.i (idxS x.tel.sess c),.b (hasS x.tel.sess c)],rfl,λ_ w' hr=>Zg3 w' x.sv x.sx c (hr.at_ 3 rfl).reads hb.sort (by omega),?_⟩;simp only[Tree.goal,X.P,X.ev,SV.ev,CV.ev,Sc.ev,qz,QA,QB,QC,QD,QE,QF,QG,QH,QI,QJ,QK,QL,QM,Nat.reduceAdd,qy3,qy4];have hat:hasS x.tel.sess c=true->idxS x.tel.sess c<x.sx.length:=λh=>(Zh3 h).1;have hon:hasS x.tel.sess c=true->Value.gB (((x.sx.map Zc).getD (idxS x.tel.sess c) []).getD 1 undef)=(x.tel.sess.getD (idxS x.tel.sess c) s0).on:=λh=>by rw[Z3n (Zh3 h).1,<- (Zh3 h).2];rfl
 refine⟨.inr (by omega),?_,?_⟩
 ·by_cases h:hasS x.tel.sess c=true
  ·exact .inr (by have:=hat h;omega)
  ·exact .inl λh2=>h h2.2
 have hif:(¬p.kind=1/\(¬hasS x.tel.sess c=true\/¬Value.gB (((x.sx.map Zc).getD (idxS x.tel.sess c) []).getD 1 undef)=true))↔(¬p.kind=1/\(¬hasS x.tel.sess c=true\/¬(x.tel.sess.getD (idxS x.tel.sess c) s0).on=true)):=by
  by_cases h:hasS x.tel.sess c=true
  ·rw[hon h]
  ·simp[h]
 rw[hif];have hfin:∀{w1:World} {y:TelX} {t:Tel},w.heap.size<=w1.heap.size->Grew w1.heap.size (λ_=>False) x y->Grew w.heap.size (λ_=>False) x y:=λh1 h2=>(Grew.refl _ _ x).trans h2 h1 (λ_ h=>h.elim);refine⟨λh1 w3 hr=>⟨by trivial,x,by rw[Z14,if_pos h1],(hr.pick [1,2,3,4,5,6,7] (by decide)).conv rfl,.refl _ _ _⟩,λh1=>?_⟩;have hpk:Z14 c p x.tel=if p.kind=1 then Z25 c p x.tel
   else if p.kind=3 then Z2w c p x.tel
   else if p.kind=4 then Zlw c p x.tel
   else if p.kind=8 then Z2g c p x.tel
   else if p.kind=10 then Z1l c p x.tel
   else if p.kind=12 then { x.tel with out:=x.tel.out++[toC c (pD_Q 13)] }
   else if p.kind=14 then Z5o c x.tel
   else x.tel:=by rw[Z14,if_neg h1]
 have hhas:¬p.kind=1->hasS x.tel.sess c=true/\(x.tel.sess.getD (idxS x.tel.sess c) s0).on=true:=λh2=>⟨Classical.byContradiction λh4=>h1 ⟨h2,.inl h4⟩,Classical.byContradiction λh4=>h1 ⟨h2,.inr h4⟩⟩
 refine⟨λhq1=>?_,λhq1=>?_⟩
 ·intro w1 hr1;refine(Z3c (k:=k) (x:=x) (F:=λ_=>False) (pre:=[]) hr1 33 0 [5,7,10]
   (Zwf w1 k x c p va vc (((hr1.pick [1,2,3,4,5,6,7,8,9] (by decide)).conv rfl).base.conv rfl) hb (by omega) hc)
   rfl rfl (Nat.succ_pos _) rfl (λj hj=>?_)).mono ?_
  ·rcases hj with hj|hj|hj|hj
   ·exact(qE 1 rfl rfl hj)
   ·exact(qE 2 rfl rfl hj)
   ·exact(qE 6 rfl rfl hj)
   ·exact hj.elim
  rintro e w2 ⟨y,hy,hs,hg,rfl,m1,m2,m3,m4⟩;refine⟨tlV y,rfl,rfl,m1,m2,m3,m4,?_⟩;intro w3 hr3;exact⟨by trivial,y,by rw[hy,hpk,if_pos hq1],(hr3.pick [0,1,2,3,4,5,10] (by decide)).conv rfl,(Grew.refl _ _ x).trans hg hr1.mod.size (λ_ h=>h.elim)⟩
 refine⟨λh3=>?_,λh3=>?_⟩
 ·intro w1 hr1;refine(Z3c (k:=k) (x:=x) (F:=λ_=>False) (pre:=[]) hr1 33 0 [5,7,10]
   (Zwe w1 k x c p va vc (((hr1.pick [1,2,3,4,5,6,7,8,9] (by decide)).conv rfl).base.conv rfl) hb (by omega) (Z94 hb.wants) ((Zct hp).2.1 h3))
   rfl rfl (Nat.succ_pos _) rfl (λj hj=>?_)).mono ?_
  ·rcases hj with hj|hj|hj|hj
   ·exact(qE 1 rfl rfl hj)
   ·exact(qE 2 rfl rfl hj)
   ·exact(qE 6 rfl rfl hj)
   ·exact hj.elim
  rintro e w2 ⟨y,hy,hs,hg,rfl,m1,m2,m3,m4⟩;refine⟨tlV y,rfl,rfl,m1,m2,m3,m4,?_⟩;intro w3 hr3;exact⟨by trivial,y,by rw[hy,hpk,if_neg hq1,if_pos h3],(hr3.pick [0,1,2,3,4,5,10] (by decide)).conv rfl,(Grew.refl _ _ x).trans hg hr1.mod.size (λ_ h=>h.elim)⟩
 refine⟨λh4=>?_,λh4=>?_⟩
 ·obtain⟨hh,hon1⟩:=hhas hq1;obtain⟨hlt,hse⟩:=Zh3 hh;have hok:SesOk (x.sx.getD (idxS x.tel.sess c) sxD).1:=by rw[hse];exact Z8n hb hh
  have hT:∀u1 u2:Value,Z14 c p x.tel={ (TelX.tel { x with sx:=x.sx.set (idxS x.tel.sess c) ((Z3k (x.sx.getD (idxS x.tel.sess c) sxD).1 p.id).1,u1,u2) })with out:=(TelX.tel { x with sx:=x.sx.set (idxS x.tel.sess c) ((Z3k (x.sx.getD (idxS x.tel.sess c) sxD).1 p.id).1,u1,u2) }).out++((Z3k (x.sx.getD (idxS x.tel.sess c) sxD).1 p.id).2.map pkN).map λt=>toC c t.1 }:=λu1 u2=>by rw[hpk,if_neg hq1,if_neg h3,if_pos h4,Zlw,Zcu,<- hse];simp only[TelX.tel,List.map_set]
  clear hif hon hat;generalize idxS x.tel.sess c=ix at hlt hse hok hT⊢
  have hrow:=Z3n hlt;simp only[hrow,Zc,List.getD_cons_zero,List.getD_cons_succ,Value.gI,Value.gB,Value.gS,Zw];have hmm:=Z3u hlt;generalize hss:x.sx.getD ix sxD=ss at hok hse hmm hT
  obtain⟨s,s',s''⟩:=ss;simp only at hok hse hT⊢;obtain⟨S,hS⟩:∃S,S=Z3k s p.id:=⟨_,rfl⟩
  have hS7:S.2.length<=6:=by rw[hS];exact Zm3 p.id hok
  rw[<- hS]at hT;refine⟨λvs=>∃(u1 u2 u3:Value) (b:Nat),vs=[.s S.1.cl,.b S.1.on,.b S.1.clean,.v u1,.r (S.1.fl.map encF),.v u2,.r (S.1.qu.map encF),.i S.1.next,.v u3,.r ((S.2.map pkN).map Z21),.n b]/\newV w.heap.size u1/\newV w.heap.size u2,⟨by omega,by omega,?_,?_⟩,?_⟩
  ·intro w1 hr1;have hsz:=hr1.mod.size;obtain⟨hs1,hs2⟩:=Zn (hr1.at_ 6 rfl:(Z6 x.sx x.ox).holds w1) hmm;refine(Z1 (Z11m w1 s s' s'' p.id hs1 hs2 hok.next (by have:=hok.nf;omega) (by have:=hok.nq;omega)) rfl).mono ?_;rw[<- hS];rintro e w2 ⟨u1,u2,u3,rfl,g1,g2,g3,g4,g5,g6,gm⟩;refine⟨[.s S.1.cl,.b S.1.on,.b S.1.clean,.v u1,.r (S.1.fl.map encF),.v u2,.r (S.1.qu.map encF),.i S.1.next,.v u3,.r ((S.2.map pkN).map Z21)],rfl,rfl,gm,qy5 _,qy2.2 ⟨⟨g1,λk hk=>.inl (g4 k hk.2)⟩,qy2.2 ⟨⟨g2,λk hk=>.inl (g5 k hk.2)⟩,qy2.2 ⟨⟨by show reads w2 u3 kP ((S.2.map pkN).map Z21);rw[Z63];exact g3,λk hk=>.inl (g6 k hk.2)⟩,qy5 _⟩⟩⟩,Z3d ..,λb=>⟨u1,u2,u3,b,rfl,λk hk=>Nat.le_trans hsz (g4 k hk),λk hk=>Nat.le_trans hsz (g5 k hk)⟩⟩
  ·intro b w1 hr1;have hsz:=hr1.mod.size;obtain⟨hs1,hs2⟩:=Zn (hr1.at_ 7 rfl:(Z6 x.sx x.ox).holds w1) hmm;refine(Z1 (Z11m w1 s s' s'' p.id hs1 hs2 hok.next (by have:=hok.nf;omega) (by have:=hok.nq;omega)) rfl).mono ?_;rw[<- hS];rintro e w2 ⟨u1,u2,u3,rfl,g1,g2,g3,g4,g5,g6,gm⟩;refine⟨[.s S.1.cl,.b S.1.on,.b S.1.clean,.v u1,.r (S.1.fl.map encF),.v u2,.r (S.1.qu.map encF),.i S.1.next,.v u3,.r ((S.2.map pkN).map Z21)],rfl,rfl,gm,qy5 _,qy2.2 ⟨⟨g1,λk hk=>.inl (g4 k hk.2)⟩,qy2.2 ⟨⟨g2,λk hk=>.inl (g5 k hk.2)⟩,qy2.2 ⟨⟨by show reads w2 u3 kP ((S.2.map pkN).map Z21);rw[Z63];exact g3,λk hk=>.inl (g6 k hk.2)⟩,qy5 _⟩⟩⟩,Z3d ..,u1,u2,u3,b,rfl,λk hk=>Nat.le_trans hsz (g4 k hk),λk hk=>Nat.le_trans hsz (g5 k hk)⟩
  rintro _ - ⟨u1,u2,u3,b,rfl,n1,n2⟩;refine⟨λvs=>vs=[],⟨by omega,by omega,rfl⟩,?_⟩;rintro _ - rfl;simp only[Tree.goal,X.P,X.ev,SV.ev,CV.ev,Sc.ev,qz,QA,QB,QC,QD,QE,QF,QG,QH,QI,QJ,QK,QL,QM,Nat.reduceAdd,qy3,qy4];intro w3 hr3;have hsz3:w.heap.size<=w3.heap.size:=hr3.mod.size;have hA3:(Z6 (x.sx.set ix (S.1,u1,u2)) x.ox).holds w3:=Z4n (hr3.at_ 10 rfl) (hr3.at_ 1 rfl) (hr3.at_ 2 rfl);have hf3:∀j,(Z6 (x.sx.set ix (S.1,u1,u2)) x.ox).fp j->(Z6 x.sx x.ox).fp j\/((S.1.fl.map encF).flatten≠[]/\Z2 u1 j)\/((S.1.qu.map encF).flatten≠[]/\Z2 u2 j):=λj hj=>(Z1r hj).elim (λh=>.inl h) (λh=>.inr h);refine(Z3c (k:=k) (x:={ x with sx:=x.sx.set ix (S.1,u1,u2) }) (F:=(Zg (S.2.map pkN)).fp) (pre:=[]) hr3 44 0 [5,7,10]
   (Z1h w3 k { x with sx:=x.sx.set ix (S.1,u1,u2) } c u3 (S.2.map pkN) (Z7x hr3 (by rfl) k { x with sx:=x.sx.set ix (S.1,u1,u2) } (Zg (S.2.map pkN)) _ _ hA3 (λj hj=>?_) (Z5h _ _) (λj hj=>absurd hj Z2t) [7,8,9,10,11,1,13,5,0] (by decide) rfl (Zh rfl (Zh rfl (Zh (Z5g rfl ?_) rfl)))) (by rw[qy3];omega) (by show x.ox.length<1000000;omega))
   rfl rfl (Nat.succ_pos _) rfl (λj hj=>?_)).mono ?_
  ·rcases hf3 j hj with h|h|h
   ·exact(qE 10 rfl rfl h)
   ·exact(qE 1 rfl rfl h)
   ·exact(qE 2 rfl rfl h)
  ·simp only[Tree.goal,X.P,X.ev,SV.ev,CV.ev,Sc.ev,qz,QA,QB,QC,QD,QE,QF,QG,QH,QI,QJ,QK,QL,QM,Nat.reduceAdd,qy3,qy4];rw[<- Z1s]
  ·rcases hj with hj|hj|hj|hj
   ·exact(qE 5 rfl rfl hj)
   ·exact(qE 6 rfl rfl hj)
   ·rcases hf3 j hj with h|h|h
    ·exact(qE 10 rfl rfl h)
    ·exact(qE 1 rfl rfl h)
    ·exact(qE 2 rfl rfl h)
   ·exact absurd hj Z2t
  rintro e w4 ⟨y2,hy2,hsz4,hgr,rfl,m1,m2,m3,m4⟩;refine⟨tlV y2,rfl,rfl,m1,m2,m3,m4,?_⟩;intro w5 hr5;exact⟨by trivial,y2,by rw[hy2,<- hT u1 u2],(hr5.pick [0,1,2,3,4,5,14] (by decide)).conv rfl,(Zek (Grew.refl w.heap.size _ x) (Nat.le_refl _) (λj h=>n1 j h) (λj h=>n2 j h)).trans hgr hsz3 (λj h=>absurd h Z2t)⟩
 refine⟨λh8=>?_,λh8=>?_⟩
 ·intro w1 hr1;refine(Z3c (k:=k) (x:=x) (F:=λ_=>False) (pre:=[]) hr1 33 0 [5,7,10]
   (Znr w1 k x c p va vc (((hr1.pick [1,2,3,4,5,6,7,8,9] (by decide)).conv rfl).base.conv rfl) hb (by omega) hc (Zm4 hp h8).1 (Zm4 hp h8).2.2)
   rfl rfl (Nat.succ_pos _) rfl (λj hj=>?_)).mono ?_
  ·rcases hj with hj|hj|hj|hj
   ·exact(qE 1 rfl rfl hj)
   ·exact(qE 2 rfl rfl hj)
   ·exact(qE 6 rfl rfl hj)
   ·exact hj.elim
  rintro e w2 ⟨y,hy,hs,hg,rfl,m1,m2,m3,m4⟩;refine⟨tlV y,rfl,rfl,m1,m2,m3,m4,?_⟩;intro w3 hr3;exact⟨by trivial,y,by rw[hy,hpk,if_neg hq1,if_neg h3,if_neg h4,if_pos h8],(hr3.pick [0,1,2,3,4,5,10] (by decide)).conv rfl,(Grew.refl _ _ x).trans hg hr1.mod.size (λ_ h=>h.elim)⟩
 refine⟨λh10=>?_,λh10=>?_⟩
 ·intro w1 hr1;refine(Z3c (k:=k) (x:=x) (F:=λ_=>False) (pre:=[]) hr1 33 0 [5,7,10]
   (Zk6 w1 k x c p va vc (((hr1.pick [1,2,3,4,5,6,7,8,9] (by decide)).conv rfl).base.conv rfl) (by omega) (by omega) (by have:=Z16q hp h10;omega))
   rfl rfl (Nat.succ_pos _) rfl (λj hj=>?_)).mono ?_
  ·rcases hj with hj|hj|hj|hj
   ·exact(qE 1 rfl rfl hj)
   ·exact(qE 2 rfl rfl hj)
   ·exact(qE 6 rfl rfl hj)
   ·exact hj.elim
  rintro e w2 ⟨y,hy,hs,hg,rfl,m1,m2,m3,m4⟩;refine⟨tlV y,rfl,rfl,m1,m2,m3,m4,?_⟩;intro w3 hr3;exact⟨by trivial,y,by rw[hy,hpk,if_neg hq1,if_neg h3,if_neg h4,if_neg h8,if_pos h10],(hr3.pick [0,1,2,3,4,5,10] (by decide)).conv rfl,(Grew.refl _ _ x).trans hg hr1.mod.size (λ_ h=>h.elim)⟩
 refine⟨λh12=>?_,λh12=>?_⟩
 ·intro v33 w1 hr1;refine(Z3c (k:=k) (x:=x) (F:=(Zg [pk1X (pD_Q 13)]).fp) (pre:=[]) hr1 34 0 [5,7,10]
   (Z1h w1 k x c v33 [pk1X (pD_Q 13)] (Z7x (toRd hr1) (by rfl) k x (Zg [pk1X (pD_Q 13)]) _ _ (hr1.at_ 7 rfl) (λj hj=>(qE 7 rfl rfl hj)) (Z1t rfl rfl _) (λj hj=>absurd hj (Zt rfl rfl)) [4,5,6,7,8,1,10,2,0] (by decide) rfl rfl) (show 1<1000000 by decide) (by omega))
   rfl rfl (Nat.succ_pos _) rfl (λj hj=>?_)).mono ?_
  ·rcases hj with hj|hj|hj|hj
   ·exact(qE 2 rfl rfl hj)
   ·exact(qE 3 rfl rfl hj)
   ·exact(qE 7 rfl rfl hj)
   ·exact absurd hj (Zt rfl rfl)
  rintro e w2 ⟨y,hy,hs,hg,rfl,m1,m2,m3,m4⟩;refine⟨tlV y,rfl,rfl,m1,m2,m3,m4,?_⟩;intro w3 hr3;exact⟨by trivial,y,by rw[hy,hpk,if_neg hq1,if_neg h3,if_neg h4,if_neg h8,if_neg h10,if_pos h12];rfl,(hr3.pick [0,1,2,3,4,5,11] (by decide)).conv rfl,(Grew.refl _ _ x).trans hg hr1.mod.size (λj h=>absurd h (Zt rfl rfl))⟩
 refine⟨λh14=>?_,λh14=>?_⟩
 ·intro w1 hr1;refine(Z3c (k:=k) (x:=x) (F:=λ_=>False) (pre:=[]) hr1 33 0 [5,7,10]
   (Z11v w1 k x c (((hr1.pick [1,2,3,4,5,6,7] (by decide)).conv rfl).base.conv rfl) hb (by omega))
   rfl rfl (Nat.succ_pos _) rfl (λj hj=>?_)).mono ?_
  ·rcases hj with hj|hj|hj|hj
   ·exact(qE 1 rfl rfl hj)
   ·exact(qE 2 rfl rfl hj)
   ·exact(qE 6 rfl rfl hj)
   ·exact hj.elim
  rintro e w2 ⟨y,hy,hs,hg,rfl,m1,m2,m3,m4⟩;refine⟨tlV y,rfl,rfl,m1,m2,m3,m4,?_⟩;intro w3 hr3;exact⟨by trivial,y,by rw[hy,hpk,if_neg hq1,if_neg h3,if_neg h4,if_neg h8,if_neg h10,if_neg h12,if_pos h14],(hr3.pick [0,1,2,3,4,5,10] (by decide)).conv rfl,(Grew.refl _ _ x).trans hg hr1.mod.size (λ_ h=>h.elim)⟩
 intro w3 hr;exact⟨by trivial,x,by rw[hpk,if_neg hq1,if_neg h3,if_neg h4,if_neg h8,if_neg h10,if_neg h12,if_neg h14],(hr.pick [1,2,3,4,5,6,7] (by decide)).conv rfl,.refl _ _ _⟩
abbrev mgV(m:Msg)(v:Value):List V:=[.i m.kind,.i m.code,.i m.id,.s m.tok,.v v,.r (m.opts.map encO),.s m.pay]
def Zwi(w w':World)(e:Ending)(k:Nat)(x:TelX)(av:Value)(t:Tel)(a:Msg):Prop :=
 ∃(y:TelX) (v:Value),e=.returned (mV a (sc1 v))/\y.tel=t/\Rel ⟨Zi (tlA k x) tlH,w⟩ (tlA k y++[.v v,.r (a.opts.map encO)]) (tlH++[.rd 13 [.int .i64,.str] (.var 14)]) w'/\Grew w.heap.size (λ_=>False) x y/\(v=av\/∀j,Z2 v j->w.heap.size<=j)
theorem Z14n(w:World)(k:Nat)(x:TelX)(n:Int)(m a:Msg)(mv av:Value)(name:List UInt8)(hr:Rel ⟨Zi (tlA k x) tlH,w⟩ (tlA k x++([.i n]++mgV m mv++mgV a av++[.s name])) (tlH++[.rd 18 [.int .i64,.str] (.var 19),.rd 25 [.int .i64,.str] (.var 26)]) w)(hb:BOk x.tel)(hml:m.opts.length<1000000000)(hal:a.opts.length<1000000000) : Calls Tryz.prog 141 #[.pointer (some ⟨k,0,none⟩),.int .i64 n,mV m (sc1 mv),mV a (sc1 av),.string ⟨name.toArray⟩] w λe w'=>Zwi w w' e k x av (getB n m a name x.tel).1 (getB n m a name x.tel).2:=by
 refine Z1 (Z3 (J:=tlA k x++([.i n]++mgV m mv++mgV a av++[.s name])) (sxE_ok.joins _) Tryz.func141 Z88 rfl rfl hr rfl rfl ?_) rfl;simp only[Tree.goal,X.P,X.ev,SV.ev,CV.ev,Sc.ev,qz,QA,QB,QC,QD,QE,QF,QG,QH,QI,QJ,QK,QL,QM,Nat.reduceAdd,qy3,qy4,gK1];have hkt:chkK x.kept=0:=hb.kept;have hk16:x.kept.length<=16:=(Zz.1 hkt).1;have hw12:x.wat.length<=12:=(Z12.1 hb.wat).1;intro b29 b30 b31;refine⟨[.i (idx x.kept name),.b (hasK x.kept name)],rfl,λ_ w' hr=>Zue w' x.kv x.kept name (hr.at_ 3 rfl) (Zz.1 hkt).2.2 (by omega),?_⟩;simp only[Tree.goal,X.P,X.ev,SV.ev,CV.ev,Sc.ev,qz,QA,QB,QC,QD,QE,QF,QG,QH,QI,QJ,QK,QL,QM,Nat.reduceAdd,qy3,qy4,gK1];refine⟨λh1 w3 hr=>?_,λh1=>?_⟩
 ·have hg:getB n m a name x.tel=(x.tel,{ a with code:=132 }):=by rw[getB,if_pos (show ¬hasK x.tel.kept name=true from h1)]
  rw[hg];exact⟨x,av,rfl,rfl,(hr.pick [3,4,5,6,7,8,9,11] (by decide)).conv rfl,.refl _ _ _,.inl rfl⟩
 have h1':=qy9.1 h1;have hlt:idx x.kept name<x.kept.length:=(of_decide_eq_true h1').1;refine⟨λvs=>vs=[],⟨by omega,by omega,rfl⟩,?_⟩;rintro _ - rfl;refine⟨[.i (Z9z 6 m.opts).1,.i (Z9z 6 m.opts).2],rfl,λ_ w' hr=>Z104 w' m mv 6 (hr.at_ 10 rfl) hml,?_⟩;simp only[Tree.goal,X.P,X.ev,SV.ev,CV.ev,Sc.ev,qz,QA,QB,QC,QD,QE,QF,QG,QH,QI,QJ,QK,QL,QM,Nat.reduceAdd,qy3,qy4,gK1];obtain⟨a1,ha1⟩:∃a1:Msg,a1={ a with code:=69,pay:=(x.kept.getD (idx x.kept name) kD).2.1 }:=⟨_,rfl⟩
 have hg0:getB n m a name x.tel=if(Z9z 6 m.opts).2=0/\(Z9z 6 m.opts).1=0 then
   if(Z7w x.wat (n,m.tok,name,1)).2=0 then({ x.tel with wat:=(Z7w x.wat (n,m.tok,name,1)).1 },putM a1 1)else(x.tel,a1)
  else if(Z9z 6 m.opts).2=0/\(Z9z 6 m.opts).1=1 then({ x.tel with wat:=filt n m.tok x.wat },a1)
  else(x.tel,a1):=by rw[getB,if_neg (show ¬¬hasK x.tel.kept name=true from h1),ha1];rfl
 refine⟨λh2=>?_,λh2=>?_⟩
 ·rw[if_pos h2]at hg0;obtain⟨R,hR⟩:∃R,R=Z7w x.wat (n,m.tok,name,1):=⟨_,rfl⟩
  rw[<- hR]at hg0;refine⟨λvs=>∃v':Value,vs=[.v v',.r (R.1.map Z8),.i R.2],?_,?_⟩
  ·intro w1 hr1;refine(Z15p w1 x.av x.wat (n,m.tok,name,1) (hr1.at_ 6 rfl).reads (by omega)).mono ?_;rw[<- hR];rintro e w2 ⟨v',rfl,g1,g2,gm⟩;exact⟨[.v v',.r (R.1.map Z8),.i R.2],rfl,rfl,gm,qy5 _,qy2.2 ⟨⟨g1,λk hk=>.inl (g2 k hk)⟩,qy5 _⟩,Z5,v',rfl⟩
  rintro _ - ⟨v1,rfl⟩;simp only[Tree.goal,X.P,X.ev,SV.ev,CV.ev,Sc.ev,qz,QA,QB,QC,QD,QE,QF,QG,QH,QI,QJ,QK,QL,QM,Nat.reduceAdd,qy3,qy4,gK1];refine⟨λh3=>?_,λh3=>?_⟩
  ·have hgp:({ x.tel with wat:=R.1 },putM a1 1)=getB n m a name x.tel:=by rw[hg0,if_pos h3]
   rw[<- hgp];intro b39 b40;refine⟨?_,?_⟩
   ·refine⟨[.s (Z24 1)],rfl,λ_ w' _=>Zcn w' 1 (by decide),?_⟩;simp only[Tree.goal,X.P,X.ev,SV.ev,CV.ev,Sc.ev,qz,QA,QB,QC,QD,QE,QF,QG,QH,QI,QJ,QK,QL,QM,Nat.reduceAdd,qy3,qy4,gK1];intro v42 w1 hr1;have hz1:=hr1.mod.size;refine(Z1 (Zbm w1 a1 av v42 6 [Z24 1] (by rw[ha1];exact hr1.at_ 15 rfl) (hr1.at_ 0 rfl).reads (by rw[ha1];exact hal) (show 1<1000000000 by decide)) (by rw[ha1];rfl)).mono ?_;rintro e w5 ⟨v',rfl,q1,q2,qm⟩;refine⟨[.i a1.kind,.i a1.code,.i a1.id,.s a1.tok,.v v',.r ((putM a1 1).opts.map encO),.s a1.pay],rfl,rfl,qm,qy5 _,qy2.2 ⟨⟨q1,λk hk=>.inl (q2 k hk.2)⟩,qy5 _⟩,Z5,?_⟩;intro w6 hr6;exact⟨{ x with wat:=R.1,av:=v1 },v',rfl,rfl,(hr6.pick [8,9,10,4,12,13,14,0] (by decide)).conv rfl,⟨λj hj=>.inr hj,λj hj=>.inr hj,λj hj=>.inr (.inl hj)⟩,.inr λj hj=>Nat.le_trans hz1 (q2 j hj)⟩
   ·refine⟨[.s (Z24 1)],rfl,λ_ w' _=>Zcn w' 1 (by decide),?_⟩;simp only[Tree.goal,X.P,X.ev,SV.ev,CV.ev,Sc.ev,qz,QA,QB,QC,QD,QE,QF,QG,QH,QI,QJ,QK,QL,QM,Nat.reduceAdd,qy3,qy4,gK1];refine⟨?_,?_⟩
    ·intro v42 w1 hr1;have hz1:=hr1.mod.size;refine(Z1 (Zbm w1 a1 av v42 6 [Z24 1] (by rw[ha1];exact hr1.at_ 15 rfl) (hr1.at_ 0 rfl).reads (by rw[ha1];exact hal) (show 1<1000000000 by decide)) (by rw[ha1];rfl)).mono ?_;rintro e w5 ⟨v',rfl,q1,q2,qm⟩;refine⟨[.i a1.kind,.i a1.code,.i a1.id,.s a1.tok,.v v',.r ((putM a1 1).opts.map encO),.s a1.pay],rfl,rfl,qm,qy5 _,qy2.2 ⟨⟨q1,λk hk=>.inl (q2 k hk.2)⟩,qy5 _⟩,Z5,?_⟩;intro w6 hr6;exact⟨{ x with wat:=R.1,av:=v1 },v',rfl,rfl,(hr6.pick [8,9,10,4,12,13,14,0] (by decide)).conv rfl,⟨λj hj=>.inr hj,λj hj=>.inr hj,λj hj=>.inr (.inl hj)⟩,.inr λj hj=>Nat.le_trans hz1 (q2 j hj)⟩
    ·intro v42 w1 hr1;have hz1:=hr1.mod.size;refine(Z1 (Zbm w1 a1 av v42 6 [Z24 1] (by rw[ha1];exact hr1.at_ 15 rfl) (hr1.at_ 0 rfl).reads (by rw[ha1];exact hal) (show 1<1000000000 by decide)) (by rw[ha1];rfl)).mono ?_;rintro e w5 ⟨v',rfl,q1,q2,qm⟩;refine⟨[.i a1.kind,.i a1.code,.i a1.id,.s a1.tok,.v v',.r ((putM a1 1).opts.map encO),.s a1.pay],rfl,rfl,qm,qy5 _,qy2.2 ⟨⟨q1,λk hk=>.inl (q2 k hk.2)⟩,qy5 _⟩,Z5,?_⟩;intro w6 hr6;exact⟨{ x with wat:=R.1,av:=v1 },v',rfl,rfl,(hr6.pick [8,9,10,4,12,13,14,0] (by decide)).conv rfl,⟨λj hj=>.inr hj,λj hj=>.inr hj,λj hj=>.inr (.inl hj)⟩,.inr λj hj=>Nat.le_trans hz1 (q2 j hj)⟩
  ·rw[if_neg h3]at hg0;rw[hg0];intro w3 hr;exact⟨x,av,by rw[ha1];rfl,rfl,by rw[ha1];exact(hr.pick [4,5,6,7,8,9,10,12] (by decide)).conv rfl,.refl _ _ _,.inl rfl⟩
 ·rw[if_neg h2]at hg0;refine⟨λh3=>?_,λh3 w3 hr=>?_⟩
  ·rw[if_pos h3]at hg0;rw[hg0];refine⟨λvs=>∃v':Value,vs=[.v v',.r ((filt n m.tok x.wat).map Z8)],?_,?_⟩
   ·intro w1 hr1;refine(Zax w1 x.av x.wat n m.tok (hr1.at_ 6 rfl).reads (by omega)).mono ?_;rintro e w2 ⟨v',rfl,g1,g2,gm⟩;exact⟨[.v v',.r ((filt n m.tok x.wat).map Z8)],rfl,rfl,gm,qy5 _,qy2.2 ⟨⟨g1,λk hk=>.inl (g2 k hk)⟩,qy5 _⟩,Z5,v',rfl⟩
   rintro _ - ⟨v1,rfl⟩;simp only[Tree.goal,X.P,X.ev,SV.ev,CV.ev,Sc.ev,qz,QA,QB,QC,QD,QE,QF,QG,QH,QI,QJ,QK,QL,QM,Nat.reduceAdd,qy3,qy4,gK1];intro w3 hr;exact⟨{ x with wat:=filt n m.tok x.wat,av:=v1 },av,by rw[ha1];rfl,rfl,by rw[ha1];exact(hr.pick [4,5,6,0,8,9,10,12] (by decide)).conv rfl,⟨λj hj=>.inr hj,λj hj=>.inr hj,λj hj=>.inr (.inl hj)⟩,.inl rfl⟩
  ·rw[if_neg h3]at hg0;rw[hg0];exact⟨x,av,by rw[ha1];rfl,rfl,by rw[ha1];exact(hr.pick [3,4,5,6,7,8,9,11] (by decide)).conv rfl,.refl _ _ _,.inl rfl⟩
theorem Z16r{B:Base}{J:List V}{hp:List Ent}{w:World}(h:Rel B J hp w)(hb:hp.all (Ent.bd J.length)=true)(k:Nat)(x:TelX)(Jx:List V)(hx:List Ent)(hA:(Z6 x.sx x.ox).holds w)(hf:∀j,(Z6 x.sx x.ox).fp j->∃e∈hp,e.wr=false/\e.fp J j)(is:List Nat)(hn:is.Nodup) (hfp:Zi (tlA k x++Jx) (tlH++hx)=Zi (tlA k x) tlH) (hs:(is.filterMap λi=>(Ent.st J.length::hp)[i]?).map (Ent.sem (J++[.a (Z6 x.sx x.ox)]))=(tlH++hx).map (Ent.sem (tlA k x++Jx))) : Rel ⟨Zi (tlA k x) tlH,w⟩ (tlA k x++Jx) (tlH++hx) w:=by have h3:=(((h.gather hb _ hA hf).pick is hn).conv hs).base;rw[hfp]at h3;exact h3
theorem Z16s{P:Program}{f:Nat}{args:Array Value}{w:World}{B:Base}{J:List V}{hp:List Ent}{k:Nat}{x:TelX}{av:Value}{t:Tel}{a:Msg}(h0:Rel B J hp w)(n vk:Nat)(gone:List Nat) (h:Calls P f args w λe w1=>Zwi w w1 e k x av t a) (hav:∀j,¬Z2 av j) (hn:J.length+7=n) (hk:J.getD vk (.i 0)=.n k) (hv:vk<J.length) (hM:Zs J [vk] gone=k::(x.sv.ownBlock.toList++(x.av.ownBlock.toList++(x.ov.ownBlock.toList++[])))) (hO:∀j,(Zh0 x j\/Z8l x j\/(Z6 x.sx x.ox).fp j)->∃y∈hp,y.wr=false/\y.fp J j) : Calls P f args w λe w1=>∃(y:TelX) (v:Value),y.tel=t/\w.heap.size<=w1.heap.size/\Grew w.heap.size (λ_=>False) x y/\(∀j,Z2 v j->w.heap.size<=j)/\e=.returned (mV a (sc1 v))/\Mod (Zs J [vk] gone) w w1/\(∀x∈tlMs vk n,x.holds (J++(mgV a v++tlV y)) w1) /\ (∀x∈Ent.rd (J.length+4) [.int .i64,.str] (.var (J.length+5))::tlEs n,x.holds (J++(mgV a v++tlV y)) w1/\∀k,x.fp (J++(mgV a v++tlV y)) k->w.heap.size<=k\/(x.wr=false/\∃y∈hp,y.wr=false/\y.fp J k)\/k∈Zx J gone)/\Z2x (J++(mgV a v++tlV y)) (Ent.rd (J.length+4) [.int .i64,.str] (.var (J.length+5))::tlEs n):=by
 refine h.mono ?_;rintro e w1 ⟨y,v,he,hT,hq,hg,hvv⟩;have hvn:∀j,Z2 v j->w.heap.size<=j:=λj hj=>by
  rcases hvv with rfl|h
  ·exact absurd hj (hav j)
  ·exact h j hj
 have hs:=Zvr (y:=y) (pre:=mgV a v) (show J.length+7=n from hn) hk hv;have ge:∀i,(J++(mgV a v++tlV y)).getD (J.length+i) (.i 0)=(mgV a v++tlV y).getD i (.i 0):=λi=>by rw[qy1,qy1,List.getElem?_append_right (by omega),Nat.add_sub_cancel_left]
 have hs2:(tlH++[Ent.rd 13 [.int .i64,.str] (.var 14)]).map (Ent.sem (tlA k y++[.v v,.r (a.opts.map encO)]))=((tlEs n++tlMs vk n)++[Ent.rd (J.length+4) [.int .i64,.str] (.var (J.length+5))]).map (Ent.sem (J++(mgV a v++tlV y))):=by
  rw[List.map_append,List.map_append,<- hs];congr 1
  simp only[List.map_cons,List.map_nil];exact congrArg (λz=>[z]) (Zma (r:=.var 14) (r':=.var (J.length+5)) (by rw[ge 4];rfl) (by simp only[X.ev];rw[ge 5];rfl))
 have hfull:Rel ⟨Zs J [vk] gone,w⟩ (J++(mgV a v++tlV y)) ((tlEs n++tlMs vk n)++[Ent.rd (J.length+4) [.int .i64,.str] (.var (J.length+5))]) w1:=Zjt (hq.conv hs2) rfl λj hj=>by rw[show(Base.fp ⟨Zs J [vk] gone,w⟩)=Zs J [vk] gone from rfl,hM];exact Zrt hj
 have hq':Rel ⟨Zs J [vk] gone,w⟩ (J++(mgV a v++tlV y)) (tlEs n++tlMs vk n) w1:=(hfull.pick [0,1,2,3,4,5,6] (by decide)).conv rfl;have hrd:Rel ⟨Zs J [vk] gone,w⟩ (J++(mgV a v++tlV y)) (Ent.rd (J.length+4) [.int .i64,.str] (.var (J.length+5))::tlEs n) w1:=(hfull.pick [7,0,1,2,3,4,5] (by decide)).conv rfl;refine⟨y,v,hT,hq.mod.size,hg,hvn,he,hq'.mod,λx hx=>hq'.holds x (List.mem_append_right _ hx),λx hx=>⟨hrd.holds x hx,λj hj=>?_⟩,hrd.sep⟩;rcases List.mem_cons.1 hx with rfl|hx
 ·refine .inl (hvn j ?_);have:=hj.2;rw[ge 4]at this;exact this
 cases hw:x.wr with
 | false =>
  have h1:Ent.sem (J++(mgV a v++tlV y)) x∈tlH.map (Ent.sem (tlA k y)):=by rw[hs];exact List.mem_map_of_mem (List.mem_append_left _ hx)
  obtain⟨e',he',hee⟩:=List.mem_map.1 h1;have hw':e'.wr=false:=(congrArg SEnt.wr hee).trans hw;have hj':e'.fp (tlA k y) j:=(congrFun (congrArg SEnt.fp hee) j).mpr hj;have key:∀j,(Zh0 y j\/Z8l y j\/(Z6 y.sx y.ox).fp j)->w.heap.size<=j\/∃y∈hp,y.wr=false/\y.fp J j:=by
   rintro j (h|h|h)
   ·rcases hg.kept j h with h|h
    ·exact .inl h
    ·exact .inr (hO j (.inl h))
   ·rcases hg.want j h with h|h
    ·exact .inl h
    ·exact .inr (hO j (.inr (.inl h)))
   ·rcases hg.nest j h with h|h|h
    ·exact .inl h
    ·exact .inr (hO j (.inr (.inr h)))
    ·exact h.elim
  have fin:w.heap.size<=j\/∃y∈hp,y.wr=false/\y.fp J j:=by
   simp only[tlH,List.mem_cons,List.not_mem_nil,or_false]at he';rcases he' with rfl|rfl|rfl|rfl|rfl|rfl|rfl
   ·exact key j (.inl hj')
   ·exact key j (.inr (.inl hj'))
   ·cases hw'
   ·cases hw'
   ·cases hw'
   ·exact key j (.inr (.inr hj'))
   ·cases hw'
  rcases fin with h|h
  ·exact .inl h
  ·exact .inr (.inl ⟨rfl,h⟩)
 | true =>
  rcases hq'.own x (List.mem_append_left _ hx) hw j hj with h5|h5
  ·exact .inl h5
  ·simp only[Zs,List.map_cons,List.map_nil,qy13,qy12]at h5;rcases h5 with h5|h5
   ·exfalso;refine(List.pairwise_append.1 hq'.sep).2.2 x hx _ (qy12.2 rfl) (.inl hw) _ hj ?_;rw[h5];simp only[Ent.fp];rw[qy1 (l:=J++_),List.getElem?_append_left hv,<- qy1]
   ·exact .inr (.inr h5)
theorem Zem{α:Type}{f:Tel->α->Tel}(h:∀t a,t.out <+: (f t a).out):∀(l:List α) (t:Tel),t.out <+: (l.foldl f t).out
 | [],_=>List.prefix_rfl
 | a::l,t=>(h t a).trans (Zem h l (f t a))
theorem Z10u(n p:List UInt8)(q:Int)(t:Tel):t.out <+: (Z6y n p q t).out:=by have h1:t.out <+: (Z6x n p q t).out:=Zem (λt r=>⟨_,rfl⟩) _ _;exact h1.trans (Zem (f:=Z4k p) (λt r=>⟨_,rfl⟩) (Z39 n (Z6x n p q t).wat) { Z6x n p q t with wat:=Z2s n (Z6x n p q t).wat })
theorem Zq5(n p:List UInt8)(t:Tel):t.out <+: (Z1f n p t).1.out:=by
 unfold Z1f;split
 ·exact List.prefix_rfl
 split
 ·exact List.prefix_rfl
 ·exact Zem (f:=Zbn) (λt r=>⟨_,rfl⟩) (t.wat.filter (ofT n)) { t with kept:=(rawK t.kept n p).1 }
theorem Z14o(n:Int)(m a:Msg)(name:List UInt8)(t:Tel):t.out <+: (getB n m a name t).1.out:=by
 unfold getB;split
 ·exact List.prefix_rfl
 simp only;split
 ·split<;>exact List.prefix_rfl
 ·split<;>exact List.prefix_rfl
theorem Z16t(n:Int)(m a:Msg)(t:Tel):t.out <+: (doB n m a t).1.out:=by
 unfold doB;split
 ·exact List.prefix_rfl
 split
 ·exact Z14o ..
 split
 ·split
  ·exact(Zq5 ..).trans (Z10u ..)
  ·exact List.prefix_rfl
 split
 ·exact Zq5 ..
 ·exact List.prefix_rfl
def sntD:SntX:=nilX (toP 0 ⟨0,0,0,[],[],[]⟩)
theorem Zrz{l:List SntX}{i:Nat}(h:i<l.length):(l.map Z1a).getD i []=Z1a (l.getD i sntD):=by rw[qy1,qy1,List.getElem?_map,qy7 h];rfl
theorem Z14p{l:List SntX}{i:Nat}(h:i<l.length):l.getD i sntD∈l:=by rw[qy1,qy7 h];exact List.getElem_mem h
theorem Z16u{l:List SntX}{o r:List Snt}{s:Snt}(h:(o++[s])++r=l.map (·.1)):o.length<l.length/\(l.getD o.length sntD).1=s:=by
 have hl:=congrArg List.length h;simp only[qy11,List.length_cons,List.length_nil,qy3]at hl;refine⟨by omega,?_⟩;have h1:=congrArg (λm=>m[o.length]?) h;simp only[List.append_assoc,List.getElem?_append_right (Nat.le_refl _),Nat.sub_self,List.getElem?_map,List.singleton_append,List.getElem?_cons_zero]at h1;rw[qy1];cases hh:l[o.length]? with
 | none=>rw[hh]at h1;cases h1
 | some t=>rw[hh]at h1;simpa using h1.symm
theorem Z14q{n p:List UInt8}{t:Tel}(h:¬(Z1f n p t).2=true):(Z1f n p t).1=t:=by
  unfold Z1f at h⊢;split
  . rfl
  . rename_i h1;rw[if_neg h1]at h;split at h<;>exact absurd rfl h
set_option maxRecDepth 2000 in
theorem Zwj(w:World)(k:Nat)(x:TelX)(n:Int)(m:Msg)(mv:Value)(hr:Rel ⟨Zi (tlA k x) tlH,w⟩ (tlA k x++([.i n]++mgV m mv)) (tlH++[.rd 18 [.int .i64,.str] (.var 19)]) w)(hb:BOk x.tel)(ho:x.ox.length<40000)(hn:0<=n/\n<=9)(hm:chk m=0) : Calls Tryz.prog 75 #[.pointer (some ⟨k,0,none⟩),.int .i64 n,mV m (sc1 mv)] w λe w'=>e=.returned (.tuple #[])/\Z8m w w' k x (λ_=>False) (Zeg n m x.tel):=by
  refine Z1 (Z3 (J:=tlA k x++([.i n]++mgV m mv)) (sxE_ok.joins _) Tryz.func75 Z5r rfl rfl hr rfl rfl ?_) rfl;simp only[Tree.goal,X.P,X.ev,SV.ev,CV.ev,Sc.ev,qz,QA,QB,QC,QD,QE,QF,QG,QH,QI,QJ,QK,QL,QM,Nat.reduceAdd,qy3,qy4];have hzn:0<=x.next/\x.next<=65535:=hb.next;obtain⟨-,-,⟨m1,mo,mp⟩,-⟩:=Zpj.1 hm;obtain⟨AK,hAK⟩:∃AK:Int,AK=if m.kind=1 then 1 else 2:=⟨_,rfl⟩
  obtain⟨AI,hAI⟩:∃AI:Int,AI=if m.kind=1 then x.next else m.id:=⟨_,rfl⟩
  obtain⟨N,hN⟩:∃N:Int,N=if m.kind=1 then nx_Z x.next else x.next:=⟨_,rfl⟩
  have hans:Zjs m x.next=(⟨AK,133,AI,m.tok,[],[]⟩:Msg):=by rw[Zjs,hAK,hAI];split<;>rfl
  have hnil:∀s∈[toP n (⟨AK,133,AI,m.tok,[],[]⟩:Msg)],nilS s:=λs hs=>by rw[qy12.1 hs];exact⟨rfl,rfl,rfl⟩
  obtain⟨q1,q2⟩:=Zej (l:=x.sx) (o:=x.ox) hnil;simp only[List.map_cons,List.map_nil]at q1 q2;have hox:x.ox.map Z1a++[Z1a (nilX (toP n (⟨AK,133,AI,m.tok,[],[]⟩:Msg)))]=(x.ox++[nilX (toP n (⟨AK,133,AI,m.tok,[],[]⟩:Msg))]).map Z1a:=by rw[List.map_append];rfl
  intro b21 b22;refine⟨λvs=>vs=[.i AK,.i AI,.i N],⟨λh=>⟨by omega,by omega,?_⟩,λh=>?_⟩,?_⟩
  . rw[Zw6 _ hzn,hAK,hAI,hN,if_pos h,if_pos h,if_pos h]
  . rw[hAK,hAI,hN,if_neg h,if_neg h,if_neg h]
  rintro _ - rfl;simp only[Tree.goal,X.P,X.ev,SV.ev,CV.ev,Sc.ev,qz,QA,QB,QC,QD,QE,QF,QG,QH,QI,QJ,QK,QL,QM,Nat.reduceAdd,qy3,qy4];intro b26 v27;refine⟨by first|omega|(simp;omega),λv28=>?_⟩;refine⟨[.s (Z2o m.opts).1,.i (Z2o m.opts).2],rfl,λ_ w' hr=>Z107 w' m mv (hr.at_ 11 rfl) hm,?_⟩;simp only[Tree.goal,X.P,X.ev,SV.ev,CV.ev,Sc.ev,qz,QA,QB,QC,QD,QE,QF,QG,QH,QI,QJ,QK,QL,QM,Nat.reduceAdd,qy3,qy4];obtain⟨T1,hT1⟩:∃T1:Tel,T1=TelX.tel { x with next:=N,ox:=x.ox++[nilX (toP n (⟨AK,133,AI,m.tok,[],[]⟩:Msg))],ov:=v28 }:=⟨_,rfl⟩
  have hT1':T1={ x.tel with next:=N,out:=x.tel.out++[toP n (⟨AK,133,AI,m.tok,[],[]⟩:Msg)] }:=by rw[hT1];simp only[TelX.tel,List.map_append,List.map_cons,List.map_nil];rfl
  have hB1:BOk T1:=by
    rw[hT1'];refine⟨hb.kept,hb.wants,hb.ns,hb.ses,hb.sort,hb.wat,hb.has,hb.kpt,?_⟩
    show 0<=N/\N<=65535
    rw[hN];split
    . exact Zm0 _ hzn.1
    . exact hzn
  have hG1:∀w0:Nat,Grew w0 (λ_=>False) x { x with next:=N,ox:=x.ox++[nilX (toP n (⟨AK,133,AI,m.tok,[],[]⟩:Msg))],ov:=v28 }:=λw0=>⟨λj hj=>.inr hj,λj hj=>.inr hj,λj hj=>.inr (.inl (q2 j hj))⟩
  have hol:x.tel.out.length=x.ox.length:=by simp[TelX.tel]
  have lenX:∀y:TelX,y.tel.out.length=y.ox.length:=λy=>by simp[TelX.tel]
  have l1:T1.out.length=x.ox.length+1:=by rw[hT1'];simp only[qy11,List.length_cons,List.length_nil,hol]
  have hpn:(Z2o m.opts).2=0->chkT (Z2o m.opts).1 false=0:=Zw3;refine⟨λvs=>∃(y:TelX) (a':Msg) (u:Value),vs=[.i 0,.i 0,.i 0,.i 0,.i 0,.i 0,.i 0,.i 0,.i 0,.i 0,.i 0,.i 0,.i 0,.i 0,.i 0,.i 0,.i 0,.i 0,.i 0,.i 0,.i 0,.i 0,.i 0,.i 0,.i 0,.i a'.kind,.i a'.code,.i a'.id,.s a'.tok,.v u,.s a'.pay,.v y.kv,.v y.wv,.v y.sv,.v y.av,.i y.next,.v y.ov,.r (a'.opts.map encO),.r (y.kept.map encK),.r (y.wants.map Z7),.r (y.sx.map Zc),.r (y.wat.map Z8),.r (y.ox.map Z1a),.a (Z6 y.sx y.ox)]/\(y.tel,a')=doB n m (⟨AK,133,AI,m.tok,[],[]⟩:Msg) T1/\Grew w.heap.size (λ_=>False) x y/\(∀j,Z2 u j->w.heap.size<=j),⟨λh1=>?_,λh1=>⟨λh2=>?_,λh2=>⟨λh3=>⟨λh4=>?_,λh4=>?_⟩,λh3=>⟨λh4=>?_,λh4=>?_⟩⟩⟩⟩,?_⟩
  . refine⟨Z6 x.sx (x.ox++[nilX (toP n (⟨AK,133,AI,m.tok,[],[]⟩:Msg))]),λw hr=>q1 w (hr.at_ 9 rfl),λj hj=>(qE 9 rfl rfl (q2 j hj)),{ x with next:=N,ox:=x.ox++[nilX (toP n (⟨AK,133,AI,m.tok,[],[]⟩:Msg))],ov:=v28 },{ (⟨AK,133,AI,m.tok,[],[]⟩:Msg)with code:=128 },.slice none 0 0,?_,?_,hG1 _,λj hj=>absurd hj (by simp[Z2,Value.ownBlock])⟩
    . rw[<- hox];rfl
    . rw[doB,if_pos h1,hT1]
  . have h1':=qy9.1 h1;intro w1 hr1;have hz1:=hr1.mod.size;have hq:=Z16r hr1 (by rfl) k { x with next:=N,ox:=x.ox++[nilX (toP n (⟨AK,133,AI,m.tok,[],[]⟩:Msg))],ov:=v28 } ([.i n]++mgV m mv++mgV (⟨AK,133,AI,m.tok,[],[]⟩:Msg) (.slice none 0 0)++[.s (Z2o m.opts).1]) [.rd 18 [.int .i64,.str] (.var 19)] (q1 _ (hr1.at_ 9 rfl)) (λj hj=>(qE 9 rfl rfl (q2 j hj))) [6,7,8,9,1,0,11,12] (by decide) rfl (Zh rfl (Zh rfl (Zh rfl (Zh rfl (Zh (Z5g rfl hox) rfl)))));have hq1:=hq.cons (e:=.rd 25 [.int .i64,.str] (.var 26)) (show reads w1 (.slice none 0 0) [.int .i64,.str] [] from Za _ _) (λh=>Bool.noConfusion h) (λe' _ _ k hk _=>hk.1 rfl);have hq2:Rel ⟨Zi (tlA k { x with next:=N,ox:=x.ox++[nilX (toP n (⟨AK,133,AI,m.tok,[],[]⟩:Msg))],ov:=v28 }) tlH,w1⟩ (tlA k { x with next:=N,ox:=x.ox++[nilX (toP n (⟨AK,133,AI,m.tok,[],[]⟩:Msg))],ov:=v28 }++([.i n]++mgV m mv++mgV (⟨AK,133,AI,m.tok,[],[]⟩:Msg) (.slice none 0 0)++[.s (Z2o m.opts).1])) (tlH++[.rd 18 [.int .i64,.str] (.var 19),.rd 25 [.int .i64,.str] (.var 26)]) w1:=(hq1.pick [1,2,3,4,5,6,7,8,0] (by decide)).conv rfl;clear hq hq1;have hc:=Z14n w1 k { x with next:=N,ox:=x.ox++[nilX (toP n (⟨AK,133,AI,m.tok,[],[]⟩:Msg))],ov:=v28 } n m (⟨AK,133,AI,m.tok,[],[]⟩:Msg) mv (.slice none 0 0) (Z2o m.opts).1 hq2 (by rw[<- hT1];exact hB1) (by omega) (show 0<1000000000 by decide);rw[<- hT1]at hc;obtain⟨G,hG⟩:∃G,G=getB n m (⟨AK,133,AI,m.tok,[],[]⟩:Msg) (Z2o m.opts).1 T1:=⟨_,rfl⟩
    rw[<- hG]at hc;refine(Z16s (x:={ x with next:=N,ox:=x.ox++[nilX (toP n (⟨AK,133,AI,m.tok,[],[]⟩:Msg))],ov:=v28 }) hr1 38 0 [5,7,28] hc
      (λj hj=>by simp[Z2,Value.ownBlock]at hj) rfl rfl (Nat.succ_pos _) rfl (λj hj=>?_)).mono ?_
    . rcases hj with hj|hj|hj
      . exact(qE 5 rfl rfl hj)
      . exact(qE 6 rfl rfl hj)
      . exact(qE 9 rfl rfl (q2 j hj))
    rintro e w2 ⟨y,v,hy,hsz,hg,hv,rfl,m1,m2,m3,m4⟩;refine⟨mgV G.2 v++tlV y,rfl,rfl,m1,m2,m3,m4,?_⟩;refine⟨Z6 y.sx y.ox,λw hr=>hr.at_ 6 rfl,λj hj=>(qE 6 rfl rfl hj),y,G.2,v,rfl,?_,(hG1 _).trans hg hz1 (λ_ h=>h.elim),λj hj=>Nat.le_trans hz1 (hv j hj)⟩;rw[hy,doB,if_neg h1,if_pos h2,<- hG]
  . have h1':=qy9.1 h1;intro w1 hr1;have hz1:=hr1.mod.size;have hc:=Zq2 w1 k { x with next:=N,ox:=x.ox++[nilX (toP n (⟨AK,133,AI,m.tok,[],[]⟩:Msg))],ov:=v28 } (Z2o m.opts).1 m.pay ((Z10k hr1 (by rfl) k { x with next:=N,ox:=x.ox++[nilX (toP n (⟨AK,133,AI,m.tok,[],[]⟩:Msg))],ov:=v28 } (q1 _ (hr1.at_ 9 rfl)) (λj hj=>(qE 9 rfl rfl (q2 j hj))) [6,7,8,9,1,0,11] (by decide) (Zh rfl (Zh rfl (Zh rfl (Zh rfl (Zh (Z5g rfl hox) rfl)))))).conv rfl) (by rw[<- hT1];exact hB1) (by rw[<- lenX,<- hT1];omega);rw[<- hT1]at hc;refine(Z3c (k:=k) (x:={ x with next:=N,ox:=x.ox++[nilX (toP n (⟨AK,133,AI,m.tok,[],[]⟩:Msg))],ov:=v28 }) (F:=λ_=>False) (pre:=[.b (Z1f (Z2o m.opts).1 m.pay T1).2]) hr1 32 0 [5,7,28] hc
      rfl rfl (Nat.succ_pos _) rfl (λj hj=>?_)).mono ?_
    . rcases hj with hj|hj|hj|hj;(· exact(qE 5 rfl rfl hj));(· exact(qE 6 rfl rfl hj));(· exact(qE 9 rfl rfl (q2 j hj)));(· exact hj.elim)
    rintro e w2 ⟨y,hy,hsz,hg,rfl,m1,m2,m3,m4⟩;refine⟨.b (Z1f (Z2o m.opts).1 m.pay T1).2::tlV y,rfl,rfl,m1,m2,m3,m4,?_⟩;clear m1 m2 m3 m4;obtain⟨b2,-,s2,l2⟩:=Z91 (p:=m.pay) hB1 (hpn h1');have g2:Grew w.heap.size (λ_=>False) x y:=(hG1 _).trans hg hz1 (λ_ h=>h.elim);refine⟨λh5=>?_,λh5=>?_⟩
    . intro w3 hr3;have hz3:=hr3.mod.size;refine(Z3c (k:=k) (x:=y) (F:=λ_=>False) (pre:=[]) hr3 44 0 [36,38,41]
        (Zm8 w3 k y (Z2o m.opts).1 m.pay 1 (((hr3.pick [0,1,2,3,4,5,13] (by decide)).conv rfl).base.conv rfl) (by rw[hy];exact b2) (by rw[<- lenX,hy];omega) (by show Z1y y.tel.wants;rw[hy,s2,hT1'];exact Z94 hb.wants) (by unfold flE;rw[if_pos (hpn h1'),if_neg (show ¬200<(m.pay.length:Int) from by omega)]) (by decide))
        rfl rfl (Nat.succ_pos _) rfl (λj hj=>?_)).mono ?_
      . rcases hj with hj|hj|hj|hj
        . exact(qE 0 rfl rfl hj)
        . exact(qE 1 rfl rfl hj)
        . exact(qE 5 rfl rfl hj)
        . exact hj.elim
      rintro e w4 ⟨y2,hy2,hsz2,hg2,rfl,m1,m2,m3,m4⟩;refine⟨tlV y2,rfl,rfl,m1,m2,m3,m4,?_⟩;refine⟨Z6 y2.sx y2.ox,λw hr=>hr.at_ 5 rfl,λj hj=>(qE 5 rfl rfl hj),y2,{ (⟨AK,133,AI,m.tok,[],[]⟩:Msg)with code:=68 },.slice none 0 0,rfl,?_,g2.trans hg2 hz3 (λ_ h=>h.elim),λj hj=>absurd hj (by simp[Z2,Value.ownBlock])⟩;rw[hy2,hy,doB,if_neg h1,if_neg h2,if_pos h3,if_pos ⟨h4,h5⟩]
    . refine⟨Z6 y.sx y.ox,λw hr=>hr.at_ 5 rfl,λj hj=>(qE 5 rfl rfl hj),y,{ (⟨AK,133,AI,m.tok,[],[]⟩:Msg)with code:=128 },.slice none 0 0,rfl,?_,g2,λj hj=>absurd hj (by simp[Z2,Value.ownBlock])⟩;rw[hy,doB,if_neg h1,if_neg h2,if_pos h3,if_neg λh=>h5 h.2,Z14q h5]
  . refine⟨Z6 x.sx (x.ox++[nilX (toP n (⟨AK,133,AI,m.tok,[],[]⟩:Msg))]),λw hr=>q1 w (hr.at_ 9 rfl),λj hj=>(qE 9 rfl rfl (q2 j hj)),{ x with next:=N,ox:=x.ox++[nilX (toP n (⟨AK,133,AI,m.tok,[],[]⟩:Msg))],ov:=v28 },{ (⟨AK,133,AI,m.tok,[],[]⟩:Msg)with code:=128 },.slice none 0 0,?_,?_,hG1 _,λj hj=>absurd hj (by simp[Z2,Value.ownBlock])⟩
    . rw[<- hox];rfl
    . rw[doB,if_neg h1,if_neg h2,if_pos h3,if_neg λh=>h4 h.1,hT1]
  . intro w1 hr1;have hz1:=hr1.mod.size;have hc:=Zq2 w1 k { x with next:=N,ox:=x.ox++[nilX (toP n (⟨AK,133,AI,m.tok,[],[]⟩:Msg))],ov:=v28 } (Z2o m.opts).1 [] ((Z10k hr1 (by rfl) k { x with next:=N,ox:=x.ox++[nilX (toP n (⟨AK,133,AI,m.tok,[],[]⟩:Msg))],ov:=v28 } (q1 _ (hr1.at_ 9 rfl)) (λj hj=>(qE 9 rfl rfl (q2 j hj))) [6,7,8,9,1,0,11] (by decide) (Zh rfl (Zh rfl (Zh rfl (Zh rfl (Zh (Z5g rfl hox) rfl)))))).conv rfl) (by rw[<- hT1];exact hB1) (by rw[<- lenX,<- hT1];omega);rw[<- hT1]at hc;refine(Z3c (k:=k) (x:={ x with next:=N,ox:=x.ox++[nilX (toP n (⟨AK,133,AI,m.tok,[],[]⟩:Msg))],ov:=v28 }) (F:=λ_=>False) (pre:=[.b (Z1f (Z2o m.opts).1 [] T1).2]) hr1 32 0 [5,7,28] hc
      rfl rfl (Nat.succ_pos _) rfl (λj hj=>?_)).mono ?_
    . rcases hj with hj|hj|hj|hj;(· exact(qE 5 rfl rfl hj));(· exact(qE 6 rfl rfl hj));(· exact(qE 9 rfl rfl (q2 j hj)));(· exact hj.elim)
    rintro e w2 ⟨y,hy,hsz,hg,rfl,m1,m2,m3,m4⟩;refine⟨.b (Z1f (Z2o m.opts).1 [] T1).2::tlV y,rfl,rfl,m1,m2,m3,m4,?_⟩;clear m1 m2 m3 m4;refine⟨Z6 y.sx y.ox,λw hr=>hr.at_ 5 rfl,λj hj=>(qE 5 rfl rfl hj),y,{ (⟨AK,133,AI,m.tok,[],[]⟩:Msg)with code:=66 },.slice none 0 0,rfl,?_,(hG1 _).trans hg hz1 (λ_ h=>h.elim),λj hj=>absurd hj (by simp[Z2,Value.ownBlock])⟩;rw[hy,doB,if_neg h1,if_neg h2,if_neg h3,if_pos h4]
  . refine⟨Z6 x.sx (x.ox++[nilX (toP n (⟨AK,133,AI,m.tok,[],[]⟩:Msg))]),λw hr=>q1 w (hr.at_ 9 rfl),λj hj=>(qE 9 rfl rfl (q2 j hj)),{ x with next:=N,ox:=x.ox++[nilX (toP n (⟨AK,133,AI,m.tok,[],[]⟩:Msg))],ov:=v28 },(⟨AK,133,AI,m.tok,[],[]⟩:Msg),.slice none 0 0,?_,?_,hG1 _,λj hj=>absurd hj (by simp[Z2,Value.ownBlock])⟩
    . rw[<- hox];rfl
    . rw[doB,if_neg h1,if_neg h2,if_neg h3,if_neg h4,hT1]
  rintro _ - ⟨y,a',u,rfl,hdo,hgr,hu⟩;try simp only[Tree.goal,X.P,X.ev,SV.ev,CV.ev,Sc.ev,qz,QA,QB,QC,QD,QE,QF,QG,QH,QI,QJ,QK,QL,QM,Nat.reduceAdd,qy3,qy4]
  have hy:y.tel=(doB n m (⟨AK,133,AI,m.tok,[],[]⟩:Msg) T1).1:=congrArg Prod.fst hdo;have hpre:=Z16t n m (⟨AK,133,AI,m.tok,[],[]⟩:Msg) T1;rw[<- hy,hT1']at hpre;obtain⟨r,hr0⟩:=hpre;obtain⟨hlt,hat⟩:=Z16u hr0;rw[hol]at hlt hat;refine⟨λvs=>vs=[],⟨by omega,rfl⟩,?_⟩;rintro _ - rfl;try simp only[Tree.goal,X.P,X.ev,SV.ev,CV.ev,Sc.ev,qz,QA,QB,QC,QD,QE,QF,QG,QH,QI,QJ,QK,QL,QM,Nat.reduceAdd,qy3,qy4]
  intro w3 hr3;obtain⟨t0,ht0⟩:∃t0,t0=y.ox.getD x.ox.length sntD:=⟨_,rfl⟩
  have hmem:t0∈y.ox:=by rw[ht0];exact Z14p hlt
  rw[<- ht0]at hat;have hrow:=Zrz hlt;rw[<- ht0]at hrow;obtain⟨s,va,vc,vo⟩:=t0;simp only at hat;subst hat;obtain⟨z,hz⟩:∃z:TelX,z={ y with ox:=y.ox.set x.ox.length (toP n a',va,vc,u) }:=⟨_,rfl⟩
  have hA:=hr3.at_ 0 rfl;have hO:Z41 w3 u a'.opts:=hr3.at_ 1 rfl;have hsn:=Z8y (hA:(Z6 y.sx y.ox).holds w3) hmem;have hfz:∀j,(Z6 z.sx z.ox).fp j->(Z6 y.sx y.ox).fp j\/((a'.opts.map encO).flatten≠[]/\Z2 u j):=λj hj=>by
    rw[hz]at hj;rcases Zb.1 hj with h|⟨t,ht,hk⟩
    . exact .inl (Zb.2 (.inl h))
    . rcases List.mem_or_eq_of_mem_set ht with ht|rfl
      . exact .inl (Zb.2 (.inr ⟨t,ht,hk⟩))
      . rcases hk with hk|hk|hk
        . exact absurd rfl hk.1
        . exact absurd rfl hk.1
        . exact .inr hk
  refine⟨by trivial,z,?_,?_,?_⟩
  . have ha':a'=(doB n m (⟨AK,133,AI,m.tok,[],[]⟩:Msg) T1).2:=congrArg Prod.snd hdo;have e1:Zeg n m x.tel={ (doB n m (⟨AK,133,AI,m.tok,[],[]⟩:Msg) T1).1 with out:=(doB n m (⟨AK,133,AI,m.tok,[],[]⟩:Msg) T1).1.out.set x.tel.out.length (toP n (doB n m (⟨AK,133,AI,m.tok,[],[]⟩:Msg) T1).2) }:=by
      rw[Zeg,show Zjs m x.tel.next=(⟨AK,133,AI,m.tok,[],[]⟩:Msg) from hans,hT1',hN];rfl
    rw[e1,<- hy,<- ha',hz,hol];simp only[TelX.tel,List.map_set]
  . refine Zlx hr3 (by rfl) k z ?_ (λj hj=>?_) [3,4,5,6,7,0,15] (by decide) ?_
    . rw[hz];refine Z11 (λt ht=>.inl ht) (λt ht=>?_) hA;rcases List.mem_or_eq_of_mem_set ht with ht|rfl
      . exact .inl ht
      . exact .inr ⟨hsn.1,hsn.2.1,hO⟩
    . rcases hfz j hj with h|h
      . exact(qE 0 rfl rfl h)
      . exact(qE 1 rfl rfl h)
    . rw[hz];refine Zh rfl (Zh rfl (Zh rfl (Zh rfl (Zh (Z5g rfl ?_) rfl))));simp only[Tree.goal,X.P,X.ev,SV.ev,CV.ev,Sc.ev,qz,QA,QB,QC,QD,QE,QF,QG,QH,QI,QJ,QK,QL,QM,Nat.reduceAdd,qy3,qy4,hrow,Z1a,List.getD_cons_zero,List.getD_cons_succ,Value.gI,Value.gB,Value.gS,Zw,List.map_set]
  . rw[hz];refine⟨λj hj=>hgr.kept j hj,λj hj=>hgr.want j hj,λj hj=>?_⟩;rw[<- hz]at hj;rcases hfz j hj with h|h
    . exact hgr.nest j h
    . exact .inl (hu j h.2)
abbrev bcA(k:Nat)(x:TelX):List V:=[.n k,.v x.kv,.r (x.kept.map encK),.v x.wv,.r (x.wants.map Z7),.v x.sv,.r (x.sx.map Zc),.a (Z6 x.sx x.ox),.v x.av,.r (x.wat.map Z8),.i x.next]
abbrev bcH:List Ent:=[.rd 1 kK (.var 2),.rd 3 kW_V (.var 4),.rd 5 kSx (.var 6),.st 7,.rd 8 kW_K (.var 9),.cells 0 27 [.val (.var 1),.val (.var 3),.val (.var 5),.val (.var 8),.int .i64 (.var 10)]]
def Zcy(w w':World)(e:Ending)(k:Nat)(x:TelX)(c:Int):Prop:=e=.returned (.int .i64 c)/\Rel ⟨Zi (bcA k x) bcH,w⟩ (bcA k x) bcH w'
theorem Z16v(w:World)(k:Nat)(x:TelX)(hr:Rel ⟨Zi (bcA k x) bcH,w⟩ (bcA k x) bcH w)(hs:Z8j x.kept)(hl:x.kept.length<1000000000) : Calls Tryz.prog 52 #[.pointer (some ⟨k,0,none⟩)] w λe w'=>Zcy w w' e k x (chkK x.kept):=by refine Z1 (Z3 (J:=bcA k x) sxE_ok Tryz.func52 Za1 rfl rfl hr rfl rfl ?_) rfl;simp only[Tree.goal,X.P,X.ev,SV.ev,CV.ev,Sc.ev,qz,QA,QB,QC,QD,QE,QF,QG,QH,QI,QJ,QK,QL,QM,Nat.reduceAdd,qy3,qy4,Z10,Z13,Z1d];refine⟨[.i (chkK x.kept)],rfl,λ_ w' hr=>Zzb w' x.kv x.kept (hr.at_ 0 rfl) hs hl,?_⟩;intro w3 hr3;exact⟨rfl,(hr3.pick [0,1,2,3,4,5] (by decide)).conv rfl⟩
theorem Z16w(w:World)(k:Nat)(x:TelX)(hr:Rel ⟨Zi (bcA k x) bcH,w⟩ (bcA k x) bcH w)(hs:Z1y x.wants)(hl:x.wants.length<1000000000) : Calls Tryz.prog 54 #[.pointer (some ⟨k,0,none⟩)] w λe w'=>Zcy w w' e k x (Zj x.wants):=by refine Z1 (Z3 (J:=bcA k x) sxE_ok Tryz.func54 Za4 rfl rfl hr rfl rfl ?_) rfl;simp only[Tree.goal,X.P,X.ev,SV.ev,CV.ev,Sc.ev,qz,QA,QB,QC,QD,QE,QF,QG,QH,QI,QJ,QK,QL,QM,Nat.reduceAdd,qy3,qy4,Z10,Z13,Z1d];refine⟨[.i (Zj x.wants)],rfl,λ_ w' hr=>Zrl w' x.wv x.wants (hr.at_ 1 rfl) hs hl,?_⟩;intro w3 hr3;exact⟨rfl,(hr3.pick [0,1,2,3,4,5] (by decide)).conv rfl⟩
theorem Z16x(w:World)(k:Nat)(x:TelX)(hr:Rel ⟨Zi (bcA k x) bcH,w⟩ (bcA k x) bcH w)(hs:Z7f x.wat)(hl:x.wat.length<1000000000) : Calls Tryz.prog 58 #[.pointer (some ⟨k,0,none⟩)] w λe w'=>Zcy w w' e k x (Z17 x.wat):=by refine Z1 (Z3 (J:=bcA k x) sxE_ok Tryz.func58 Za2 rfl rfl hr rfl rfl ?_) rfl;simp only[Tree.goal,X.P,X.ev,SV.ev,CV.ev,Sc.ev,qz,QA,QB,QC,QD,QE,QF,QG,QH,QI,QJ,QK,QL,QM,Nat.reduceAdd,qy3,qy4,Z10,Z13,Z1d];refine⟨[.i (Z17 x.wat)],rfl,λ_ w' hr=>Zr4 w' x.av x.wat (hr.at_ 4 rfl) hs (by omega),?_⟩;intro w3 hr3;exact⟨rfl,(hr3.pick [0,1,2,3,4,5] (by decide)).conv rfl⟩
theorem Z16y(w:World)(k:Nat)(x:TelX)(hr:Rel ⟨Zi (bcA k x) bcH,w⟩ (bcA k x) bcH w) : Calls Tryz.prog 68 #[.pointer (some ⟨k,0,none⟩)] w λe w'=>Zcy w w' e k x (if x.next<0\/65535<x.next then 3 else 0):=by refine Z1 (Z3 (J:=bcA k x) sxE_ok Tryz.func68 Za6 rfl rfl hr rfl rfl ?_) rfl;simp only[Tree.goal,X.P,X.ev,SV.ev,CV.ev,Sc.ev,qz,QA,QB,QC,QD,QE,QF,QG,QH,QI,QJ,QK,QL,QM,Nat.reduceAdd,qy3,qy4,Z10,Z13,Z1d];refine⟨λh w3 hr3=>⟨by rw[if_pos h],(hr3.pick [0,1,2,3,4,5] (by decide)).conv rfl⟩,λh w3 hr3=>⟨by rw[if_neg h],(hr3.pick [0,1,2,3,4,5] (by decide)).conv rfl⟩⟩
theorem Z64{α:Type}{p:α->Bool}{l:List α}(d:α){i:Nat}(h:i<l.length)(hp:p (l.getD i d)=true):l.any p=true:=by rw[qy1,qy7 h]at hp;exact List.any_eq_true.2 ⟨_,List.getElem_mem h,hp⟩
theorem Zdf{α:Type}{p:α->Bool}{l:List α}(d:α)(h:∀i,i<l.length->p (l.getD i d)=false):l.any p=false:=by rw[List.any_eq_false];intro y hy;obtain⟨i,hi,rfl⟩:=List.getElem_of_mem hy;have:=h i hi;rw[qy1,qy7 hi]at this;simpa using this
theorem Z16z(w:World)(k:Nat)(x:TelX)(hr:Rel ⟨Zi (bcA k x) bcH,w⟩ (bcA k x) bcH w)(hk:chkK x.kept=0)(hs:Z5n x.tel.sess)(hsl:x.sx.length<1000000000)(hwl:x.wants.length<1000000000)(hal:x.wat.length<1000000000) : Calls Tryz.prog 60 #[.pointer (some ⟨k,0,none⟩)] w λe w'=>Zcy w w' e k x (if Z19 x.tel=true then 4 else 0):=by
 refine Z1 (Z3 (J:=bcA k x) sxE_ok Tryz.func60 Za3 rfl rfl hr rfl rfl ?_) rfl;simp only[Tree.goal,X.P,X.ev,SV.ev,CV.ev,Sc.ev,qz,QA,QB,QC,QD,QE,QF,QG,QH,QI,QJ,QK,QL,QM,Nat.reduceAdd,qy3,qy4,Z10,Z13,Z1d];have hk16:x.kept.length<=16:=(Zz.1 hk).1;refine⟨λvs=>∃(y:V) (i:Nat),vs=[y,.i i,.v x.kv,.r (x.kept.map encK),.v x.sv,.r (x.sx.map Zc),.v x.av,.r (x.wat.map Z8),.i x.next]/\i<=x.wants.length/\∀j,j<i->hasS x.tel.sess (x.wants.getD j wD_V).1=true,λvs=>(x.wants.length - (vs.getD 1 (.i 0)).toI).toNat,⟨_,0,rfl,by omega,λj hj=>by omega⟩,?_⟩;rintro _ - ⟨y0,i,rfl,hi,hall⟩;simp only[Tree.goal,X.P,X.ev,SV.ev,CV.ev,Sc.ev,qz,QA,QB,QC,QD,QE,QF,QG,QH,QI,QJ,QK,QL,QM,Nat.reduceAdd,qy3,qy4,Z10,Z13,Z1d];refine⟨λh1=>⟨by omega,λb20=>?_⟩,λh1=>⟨λh2=>by omega,λh2=>?_⟩⟩
 ·refine⟨[.i (idxS x.tel.sess (x.wants.getD i wD_V).1),.b (hasS x.tel.sess (x.wants.getD i wD_V).1)],rfl,λ_ w' hr=>Zg3 w' x.sv x.sx _ (hr.at_ 3 rfl) hs hsl,?_⟩;simp only[Tree.goal,X.P,X.ev,SV.ev,CV.ev,Sc.ev,qz,QA,QB,QC,QD,QE,QF,QG,QH,QI,QJ,QK,QL,QM,Nat.reduceAdd,qy3,qy4,Z10,Z13,Z1d];refine⟨λh2 w3 hr3=>⟨?_,(hr3.pick [1,2,3,4,5,6] (by decide)).conv rfl⟩,λh2=>⟨by omega,by omega,⟨_,i+1,rfl,by omega,λj hj=>?_⟩,by omega⟩⟩
  ·have:Z19 x.tel=true:=by
    rw[Z19,Bool.or_eq_true];exact .inl (Z64 wD_V (l:=x.wants) (i:=i) (by omega) (by simpa using h2))
   rw[if_pos this]
  ·by_cases hij:j=i
   ·subst hij;exact qy9.1 h2
   ·exact hall j (by omega)
 ·have hie:i=x.wants.length:=by omega
  subst hie;have ha1:(x.tel.wants.any λw=>!hasS x.tel.sess w.1)=false:=Zdf wD_V λj hj=>by rw[show hasS x.tel.sess (x.tel.wants.getD j wD_V).1=true from hall j hj];rfl
  refine⟨λvs=>∃(y:V) (i:Nat),vs=[y,.i i,.v x.kv,.r (x.kept.map encK),.v x.wv,.r (x.wants.map Z7),.v x.sv,.r (x.sx.map Zc),.i x.next]/\i<=x.wat.length/\∀j,j<i->hasK x.kept (x.wat.getD j wD_K).2.2.1=true,λvs=>(x.wat.length - (vs.getD 1 (.i 0)).toI).toNat,⟨_,0,rfl,by omega,λj hj=>by omega⟩,?_⟩;rintro _ - ⟨y1,i,rfl,hi1,hall1⟩;simp only[Tree.goal,X.P,X.ev,SV.ev,CV.ev,Sc.ev,qz,QA,QB,QC,QD,QE,QF,QG,QH,QI,QJ,QK,QL,QM,Nat.reduceAdd,qy3,qy4,Z10,Z13,Z1d];refine⟨λh3=>⟨by omega,λb29=>?_⟩,λh3 w3 hr3=>⟨?_,(hr3.pick [0,1,2,3,4,5] (by decide)).conv rfl⟩⟩
  ·refine⟨[.i (idx x.kept (x.wat.getD i wD_K).2.2.1),.b (hasK x.kept (x.wat.getD i wD_K).2.2.1)],rfl,λ_ w' hr=>Zue w' x.kv x.kept _ (hr.at_ 1 rfl) (Zz.1 hk).2.2 (by omega),?_⟩;simp only[Tree.goal,X.P,X.ev,SV.ev,CV.ev,Sc.ev,qz,QA,QB,QC,QD,QE,QF,QG,QH,QI,QJ,QK,QL,QM,Nat.reduceAdd,qy3,qy4,Z10,Z13,Z1d];refine⟨λh4 w3 hr3=>⟨?_,(hr3.pick [1,2,3,4,5,6] (by decide)).conv rfl⟩,λh4=>⟨by omega,by omega,⟨_,i+1,rfl,by omega,λj hj=>?_⟩,by omega⟩⟩
   ·have:Z19 x.tel=true:=by
     rw[Z19,Bool.or_eq_true];exact .inr (Z64 wD_K (l:=x.wat) (i:=i) (by omega) (by rw[show hasK x.tel.kept (x.wat.getD i wD_K).2.2.1=false from Bool.eq_false_iff.2 h4];rfl))
    rw[if_pos this]
   ·by_cases hij:j=i
    ·subst hij;exact qy9.1 h4
    ·exact hall1 j (by omega)
  ·have hie:i=x.wat.length:=by omega
   subst hie;have ha2:(x.tel.wat.any λw=>!hasK x.tel.kept w.2.2.1)=false:=Zdf wD_K λj hj=>by rw[show hasK x.tel.kept (x.tel.wat.getD j wD_K).2.2.1=true from hall1 j hj];rfl
   rw[if_neg (by rw[Z19,ha1,ha2];decide)]
def Zgf(s:Ses):Prop:=Zay s.fl/\Zay s.qu/\s.fl.length<1000000000/\s.qu.length<1000000000/\s.cl.length<1099511627776
def prvS(l:List SesX)(i:Nat):Option (List UInt8):=if i=0 then none else some (l.getD (i - 1) sxD).1.cl
theorem Z170(l:List SesX)(i:Nat)(h:i<l.length):l.drop i=l.getD i sxD::l.drop (i+1):=by rw[List.drop_eq_getElem_cons h,qy1,qy7 h];rfl
theorem Zwk(l:List SesX)(i:Nat):Zrv (prvS l i) (l.getD i sxD).1.cl=true↔¬(0<(i:Int)/\(Zd (l.getD i sxD).1.cl (l.getD (i - 1) sxD).1.cl=true\/(l.getD i sxD).1.cl=(l.getD (i - 1) sxD).1.cl)):=by
 unfold prvS;by_cases h:i=0
 ·simp[h,Zrv]
 ·rw[if_neg h];simp only[Zrv];rw[<- Z5b];constructor
  ·rintro h1 ⟨-,h2⟩;rw[h1]at h2;cases h2
  ·intro h1;cases h2:Zd (l.getD (i - 1) sxD).1.cl (l.getD i sxD).1.cl with
   | true=>rfl
   | false=>exact absurd ⟨by omega,h2⟩ h1
theorem Zib{l:List SesX}{i:Nat}(h:i<l.length):Zco (prvS l i) ((l.drop i).map (·.1))=if ¬chkS (l.getD i sxD).1=0 then chkS (l.getD i sxD).1
  else if 0<(i:Int)/\(Zd (l.getD i sxD).1.cl (l.getD (i - 1) sxD).1.cl=true\/(l.getD i sxD).1.cl=(l.getD (i - 1) sxD).1.cl)then 4 else Zco (prvS l (i+1)) ((l.drop (i+1)).map (·.1)):=by
 rw[Z170 l i h,List.map_cons,Zi6];split
 ·rfl
 ·by_cases h2:0<(i:Int)/\(Zd (l.getD i sxD).1.cl (l.getD (i - 1) sxD).1.cl=true\/(l.getD i sxD).1.cl=(l.getD (i - 1) sxD).1.cl)
  ·rw[if_pos h2,if_neg (λh3=>(Zwk l i).1 h3 h2)]
  ·rw[if_neg h2,if_pos ((Zwk l i).2 h2)];rfl
theorem Zs0(w:World)(v:Value)(l:List SesX)(hv:reads w v kSx (l.map Zc))(hA:(Z6 l []).holds w)(hs:∀t∈l,Zgf t.1) : Calls Tryz.prog 57 #[sc1 v] w λe w'=>e=.returned (.int .i64 (Z5p (l.map (·.1))))/\Mod [] w w':=by
 refine Z1 (Z3 (J:=[.v v,.r (l.map Zc),.a (Z6 l [])]) sxE_ok Tryz.func57 Z9c rfl rfl (Rel.start2 (λe he=>by
  rcases List.mem_cons.1 he with rfl|he
  ·exact⟨hv,rfl⟩
  ·rw[qy12.1 he];exact⟨hA,rfl⟩)) rfl rfl ?_) rfl
 simp only[Tree.goal,X.P,X.ev,SV.ev,CV.ev,Sc.ev,qz,QA,QB,QC,QD,QE,QF,QG,QH,QI,QJ,QK,QL,QM,Nat.reduceAdd,qy3,qy4,gSx0];refine⟨λh w' hr=>⟨by rw[Z5p,qy3,if_pos h],hr.mod⟩,λh=>?_⟩;rw[Z5p,qy3,if_neg h];refine⟨λvs=>∃(i:Nat) (x:V),vs=[x,.i i]/\i<=l.length/\Zco (prvS l i) ((l.drop i).map (·.1))=Zco none (l.map (·.1)),λvs=>l.length - (vs.getD 1 (.i 0)).toI.toNat,⟨0,_,rfl,by omega,rfl⟩,?_⟩;rintro _ - ⟨i,x,rfl,hi,hg⟩;simp only[Tree.goal,X.P,X.ev,SV.ev,CV.ev,Sc.ev,qz,QA,QB,QC,QD,QE,QF,QG,QH,QI,QJ,QK,QL,QM,Nat.reduceAdd,qy3,qy4,gSx0];have hi1:((i:Int) - 1).toNat=i - 1:=by omega
 try rw[hi1]
 refine⟨λh1=>⟨by omega,λb=>?_⟩,λh1 w' hr=>⟨?_,hr.mod⟩⟩
 ·have hi':i<l.length:=by omega
  rw[Zib hi']at hg;have hrow:=Z3n hi';obtain⟨s1,s2,s3,s4,s5⟩:=hs _ (Z3u hi');refine⟨[.i (chkS (l.getD i sxD).1)],rfl,λ_ w' hr=>?_,?_⟩
  ·have hn:=Zn (hr.at_ 2 rfl:(Z6 l []).holds w') (Z3u hi');refine Z1 (Zz1 w' (l.getD i sxD).1 (l.getD i sxD).2.1 (l.getD i sxD).2.2 hn.1 hn.2 s1 s2 s3 s4 s5) ?_;simp only[Tree.goal,X.P,X.ev,SV.ev,CV.ev,Sc.ev,qz,QA,QB,QC,QD,QE,QF,QG,QH,QI,QJ,QK,QL,QM,Nat.reduceAdd,qy3,qy4,gSx0,hrow,Zc,List.getD_cons_zero,List.getD_cons_succ,Value.gI,Value.gB,Value.gS,Zw,sesV]
  simp only[Tree.goal,X.P,X.ev,SV.ev,CV.ev,Sc.ev,qz,QA,QB,QC,QD,QE,QF,QG,QH,QI,QJ,QK,QL,QM,Nat.reduceAdd,qy3,qy4,gSx0];try rw[hi1]
  refine⟨λh2 w' hr=>⟨?_,hr.mod⟩,λh2=>⟨by omega,by omega,by omega,by omega,λh6 w' hr=>⟨?_,hr.mod⟩,λh6=>⟨by omega,by omega,⟨i+1,x,rfl,by omega,?_⟩,by omega⟩⟩⟩
  ·rw[if_pos h2]at hg;rw[<- hg]
  ·rw[if_neg h2,if_pos h6]at hg;rw[<- hg]
  ·rw[if_neg h2,if_neg h6]at hg;exact hg
 ·have:i=l.length:=by omega
  subst this;rw[List.drop_length]at hg;rw[<- hg];rfl
theorem Z171(w:World)(k:Nat)(x:TelX)(hr:Rel ⟨Zi (bcA k x) bcH,w⟩ (bcA k x) bcH w)(ho:x.ox=[])(hs:∀t∈x.sx,Zgf t.1) : Calls Tryz.prog 56 #[.pointer (some ⟨k,0,none⟩)] w λe w'=>Zcy w w' e k x (Z5p x.tel.sess):=by refine Z1 (Z3 (J:=bcA k x) sxE_ok Tryz.func56 Za7 rfl rfl hr rfl rfl ?_) rfl;simp only[Tree.goal,X.P,X.ev,SV.ev,CV.ev,Sc.ev,qz,QA,QB,QC,QD,QE,QF,QG,QH,QI,QJ,QK,QL,QM,Nat.reduceAdd,qy3,qy4,gSx0];refine⟨[.i (Z5p x.tel.sess)],rfl,λ_ w' hr=>Zs0 w' x.sv x.sx (hr.at_ 2 rfl) (by rw[<- ho];exact hr.at_ 3 rfl) hs,?_⟩;intro w3 hr3;exact⟨rfl,(hr3.pick [0,1,2,3,4,5] (by decide)).conv rfl⟩
abbrev bkA(x:TelX):List V:=[.v x.kv,.r (x.kept.map encK),.v x.wv,.r (x.wants.map Z7),.v x.sv,.r (x.sx.map Zc),.a (Z6 x.sx x.ox),.v x.av,.r (x.wat.map Z8),.i x.next]
abbrev bkH:List Ent:=[.rd 0 kK (.var 1),.rd 2 kW_V (.var 3),.rd 4 kSx (.var 5),.st 6,.rd 7 kW_K (.var 8)]
def bkV(x:TelX):Value:=.agg #[sc1 x.kv,sc1 x.wv,sc1 x.sv,sc1 x.av,.int .i64 x.next]
abbrev owA(x:TelX):List V:=[.v x.kv,.r (x.kept.map encK),.v x.wv,.r (x.wants.map Z7),.v x.sv,.r (x.sx.map Zc),.v x.av,.r (x.wat.map Z8),.i x.next,.a (Z6 x.sx x.ox)]
abbrev owH:List Ent:=[.rd 0 kK (.var 1),.rd 2 kW_V (.var 3),.row 4 64 kSx (.var 5),.row 6 74 kW_K (.var 7),.st 9]
def Zwl(w w':World)(e:Ending)(x:TelX):Prop :=
 ∃y:TelX,e=.returned (bkV y)/\y.ox=[]/\y.tel={ x.tel with out:=[] }/\Rel ⟨[],w⟩ (owA y) owH w'/\(∀j,Z2 y.kv j->w.heap.size<=j)/\(∀j,Z2 y.wv j->w.heap.size<=j)/\(∀j,(Z6 y.sx y.ox).fp j->w.heap.size<=j)
set_option maxRecDepth 2000 in
theorem Z14r(w:World)(x:TelX)(hr:Rel ⟨[],w⟩ (bkA x) bkH w)(hl1:x.kept.length<1000000000)(hl2:x.wants.length<1000000000)(hl3:x.wat.length<1000000000)(hl4:x.sx.length<1000000)(hl5:∀t∈x.sx,t.1.fl.length<1000000000/\t.1.qu.length<1000000000) : Calls Tryz.prog 89 #[bkV x] w λe w'=>Zwl w w' e x:=by
 refine Z1 (Z3 (J:=bkA x) (sxE_ok.joins _) Tryz.func89 Zg1 rfl rfl hr rfl rfl ?_) rfl;simp only[Tree.goal,X.P,X.ev,SV.ev,CV.ev,Sc.ev,qz,QA,QB,QC,QD,QE,QF,QG,QH,QI,QJ,QK,QL,QM,Nat.reduceAdd,qy3,qy4];intro b10 b11;refine⟨λvs=>∃(u1 u2 u3:Value) (b:Nat),vs=[.v u1,.r (x.kept.map encK),.v u2,.r (x.wants.map Z7),.v u3,.r (x.wat.map Z8),.n b],⟨?_,?_⟩,?_⟩
 ·intro w1 hr1;refine(Zea w1 x.kv x.kept (hr1.at_ 2 rfl) hl1).mono ?_;rintro e w2 ⟨u1,rfl,a1,f1,m1⟩;refine⟨[.v u1,.r (x.kept.map encK)],rfl,rfl,m1,qy5 _,qy2.2 ⟨⟨a1,λk hk=>.inl (f1 k hk)⟩,qy5 _⟩,Z5,?_⟩;clear hr1 a1 f1 m1;refine⟨?_,?_⟩
  ·intro w1 hr1;refine(Z4v w1 x.wv x.wants (hr1.at_ 4 rfl) hl2).mono ?_;rintro e w2 ⟨u2,rfl,a1,f1,m1⟩;refine⟨[.v u2,.r (x.wants.map Z7)],rfl,rfl,m1,qy5 _,qy2.2 ⟨⟨a1,λk hk=>.inl (f1 k hk)⟩,qy5 _⟩,Z5,?_⟩;clear hr1 a1 f1 m1;refine⟨?_,?_⟩
   ·intro w1 hr1;refine(Z4t w1 x.av x.wat (hr1.at_ 8 rfl) hl3).mono ?_;rintro e w2 ⟨u3,rfl,a1,f1,m1⟩;refine⟨[.v u3,.r (x.wat.map Z8)],rfl,rfl,m1,qy5 _,qy2.2 ⟨⟨a1,λk hk=>.inl (f1 k hk)⟩,qy5 _⟩,Z5,?_⟩;clear hr1 a1 f1 m1;intro b;exact⟨u1,u2,u3,b,rfl⟩
   ·intro b;intro w1 hr1;refine(Z4t w1 x.av x.wat (hr1.at_ 9 rfl) hl3).mono ?_;rintro e w2 ⟨u3,rfl,a1,f1,m1⟩;refine⟨[.v u3,.r (x.wat.map Z8)],rfl,rfl,m1,qy5 _,qy2.2 ⟨⟨a1,λk hk=>.inl (f1 k hk)⟩,qy5 _⟩,Z5,?_⟩;clear hr1 a1 f1 m1;exact⟨u1,u2,u3,b,rfl⟩
  ·intro b;intro w1 hr1;refine(Z4v w1 x.wv x.wants (hr1.at_ 5 rfl) hl2).mono ?_;rintro e w2 ⟨u2,rfl,a1,f1,m1⟩;refine⟨[.v u2,.r (x.wants.map Z7)],rfl,rfl,m1,qy5 _,qy2.2 ⟨⟨a1,λk hk=>.inl (f1 k hk)⟩,qy5 _⟩,Z5,?_⟩;clear hr1 a1 f1 m1;intro w1 hr1;refine(Z4t w1 x.av x.wat (hr1.at_ 9 rfl) hl3).mono ?_;rintro e w2 ⟨u3,rfl,a1,f1,m1⟩;refine⟨[.v u3,.r (x.wat.map Z8)],rfl,rfl,m1,qy5 _,qy2.2 ⟨⟨a1,λk hk=>.inl (f1 k hk)⟩,qy5 _⟩,Z5,?_⟩;clear hr1 a1 f1 m1;exact⟨u1,u2,u3,b,rfl⟩
 ·intro b;intro w1 hr1;refine(Zea w1 x.kv x.kept (hr1.at_ 3 rfl) hl1).mono ?_;rintro e w2 ⟨u1,rfl,a1,f1,m1⟩;refine⟨[.v u1,.r (x.kept.map encK)],rfl,rfl,m1,qy5 _,qy2.2 ⟨⟨a1,λk hk=>.inl (f1 k hk)⟩,qy5 _⟩,Z5,?_⟩;clear hr1 a1 f1 m1;intro w1 hr1;refine(Z4v w1 x.wv x.wants (hr1.at_ 5 rfl) hl2).mono ?_;rintro e w2 ⟨u2,rfl,a1,f1,m1⟩;refine⟨[.v u2,.r (x.wants.map Z7)],rfl,rfl,m1,qy5 _,qy2.2 ⟨⟨a1,λk hk=>.inl (f1 k hk)⟩,qy5 _⟩,Z5,?_⟩;clear hr1 a1 f1 m1;intro w1 hr1;refine(Z4t w1 x.av x.wat (hr1.at_ 9 rfl) hl3).mono ?_;rintro e w2 ⟨u3,rfl,a1,f1,m1⟩;refine⟨[.v u3,.r (x.wat.map Z8)],rfl,rfl,m1,qy5 _,qy2.2 ⟨⟨a1,λk hk=>.inl (f1 k hk)⟩,qy5 _⟩,Z5,?_⟩;clear hr1 a1 f1 m1;exact⟨u1,u2,u3,b,rfl⟩
 rintro _ - ⟨u1,u2,u3,b,rfl⟩;simp only[Tree.goal,X.P,X.ev,SV.ev,CV.ev,Sc.ev,qz,QA,QB,QC,QD,QE,QF,QG,QH,QI,QJ,QK,QL,QM,Nat.reduceAdd,qy3,qy4];refine⟨Z6 [] [],λw _ t ht=>absurd ht (by simp[nest]),λj hj=>?_,?_⟩
 ·rcases Zb.1 hj with⟨t,ht,-⟩|⟨t,ht,-⟩<;>cases ht
 refine⟨λvs=>∃(i:Nat) (Y:List SesX) (u4:Value),vs=[.i i,.a (Z6 Y []),.v u1,.r (x.kept.map encK),.v u2,.r (x.wants.map Z7),.v u4,.r (Y.map Zc),.v u3,.r (x.wat.map Z8),.i x.next]/\i<=x.sx.length/\Y.map (·.1)=(x.sx.take i).map (·.1)/\(∀j,(Z6 Y []).fp j->w.heap.size<=j),λvs=>(x.sx.length - (vs.getD 0 (.i 0)).toI).toNat,⟨0,[],.slice none 0 0,rfl,by omega,rfl,λj hj=>?_⟩,?_⟩
 ·rcases Zb.1 hj with⟨t,ht,-⟩|⟨t,ht,-⟩<;>cases ht
 rintro _ - ⟨i,Y,u4,rfl,hi,hY,hfY⟩;simp only[Tree.goal,X.P,X.ev,SV.ev,CV.ev,Sc.ev,qz,QA,QB,QC,QD,QE,QF,QG,QH,QI,QJ,QK,QL,QM,Nat.reduceAdd,qy3,qy4];refine⟨λh1=>?_,λh1 w3 hr3=>?_⟩
 ·have hi':i<x.sx.length:=by omega
  have hYl:Y.length=i:=by have:=congrArg List.length hY;simp only[qy3,List.length_take]at this;omega
  have hrow:=Z3n hi';have hmm:=Z3u hi';have hse:(x.sx.take (i+1)).map (·.1)=(x.sx.take i).map (·.1)++[(x.sx.getD i sxD).1]:=by rw[Zh2 sxD _ _ hi',List.map_append];rfl
  simp only[hrow,Zc,List.getD_cons_zero,List.getD_cons_succ,Value.gI,Value.gB,Value.gS,Zw];generalize x.sx.getD i sxD=ss at hmm hse
  obtain⟨s,s',s''⟩:=ss;obtain⟨hf1,hf2⟩:=hl5 _ hmm;simp only at hse hf1 hf2⊢;refine⟨by omega,λb31=>?_⟩;refine⟨λvs=>∃(p1 p2 v38 v39:Value),vs=[.i 0,.i 0,.v p1,.r (s.fl.map encF),.v p2,.r (s.qu.map encF),.v v38,.v v39,.r ((Y++[(s,p1,p2)]).map Zc),.r ([((s,p1,p2):SesX)].map Zc)]/\(∀j,Z2 p1 j->w.heap.size<=j)/\(∀j,Z2 p2 j->w.heap.size<=j),⟨?_,?_⟩,?_⟩
  ·intro b32 b33;refine⟨?_,?_⟩
   ·intro w1 hr1;have hz1:=hr1.mod.size;refine(Z1e w1 s' s.fl (Zn (hr1.at_ 13 rfl:(Z6 x.sx x.ox).holds w1) hmm).1 hf1).mono ?_;rintro e w2 ⟨p1,rfl,a1,f1,m1⟩;refine⟨[.v p1,.r (s.fl.map encF)],rfl,rfl,m1,qy5 _,qy2.2 ⟨⟨a1,λk hk=>.inl (f1 k hk)⟩,qy5 _⟩,Z5,?_⟩;have n1:∀j,Z2 p1 j->w.heap.size<=j:=λj hj=>Nat.le_trans hz1 (f1 j hj);clear hr1 a1 f1 m1;intro w1 hr1;have hz2:=hr1.mod.size;refine(Z1e w1 s'' s.qu (Zn (hr1.at_ 14 rfl:(Z6 x.sx x.ox).holds w1) hmm).2 hf2).mono ?_;rintro e w2 ⟨p2,rfl,a1,f1,m1⟩;refine⟨[.v p2,.r (s.qu.map encF)],rfl,rfl,m1,qy5 _,qy2.2 ⟨⟨a1,λk hk=>.inl (f1 k hk)⟩,qy5 _⟩,Z5,?_⟩;have n2:∀j,Z2 p2 j->w.heap.size<=j:=λj hj=>Nat.le_trans hz2 (f1 j hj);clear hr1 a1 f1 m1;intro v38;refine⟨by first|omega|(simp;omega),λv39=>⟨p1,p2,v38,v39,?_,n1,n2⟩⟩;rw[List.map_append];rfl
   ·intro w1 hr1;have hz1:=hr1.mod.size;refine(Z1e w1 s' s.fl (Zn (hr1.at_ 13 rfl:(Z6 x.sx x.ox).holds w1) hmm).1 hf1).mono ?_;rintro e w2 ⟨p1,rfl,a1,f1,m1⟩;refine⟨[.v p1,.r (s.fl.map encF)],rfl,rfl,m1,qy5 _,qy2.2 ⟨⟨a1,λk hk=>.inl (f1 k hk)⟩,qy5 _⟩,Z5,?_⟩;have n1:∀j,Z2 p1 j->w.heap.size<=j:=λj hj=>Nat.le_trans hz1 (f1 j hj);clear hr1 a1 f1 m1;intro w1 hr1;have hz2:=hr1.mod.size;refine(Z1e w1 s'' s.qu (Zn (hr1.at_ 14 rfl:(Z6 x.sx x.ox).holds w1) hmm).2 hf2).mono ?_;rintro e w2 ⟨p2,rfl,a1,f1,m1⟩;refine⟨[.v p2,.r (s.qu.map encF)],rfl,rfl,m1,qy5 _,qy2.2 ⟨⟨a1,λk hk=>.inl (f1 k hk)⟩,qy5 _⟩,Z5,?_⟩;have n2:∀j,Z2 p2 j->w.heap.size<=j:=λj hj=>Nat.le_trans hz2 (f1 j hj);clear hr1 a1 f1 m1;intro v38;refine⟨by first|omega|(simp;omega),λv39=>⟨p1,p2,v38,v39,?_,n1,n2⟩⟩;rw[List.map_append];rfl
  ·intro b32 b33;refine⟨?_,?_⟩
   ·intro w1 hr1;have hz1:=hr1.mod.size;refine(Z1e w1 s' s.fl (Zn (hr1.at_ 13 rfl:(Z6 x.sx x.ox).holds w1) hmm).1 hf1).mono ?_;rintro e w2 ⟨p1,rfl,a1,f1,m1⟩;refine⟨[.v p1,.r (s.fl.map encF)],rfl,rfl,m1,qy5 _,qy2.2 ⟨⟨a1,λk hk=>.inl (f1 k hk)⟩,qy5 _⟩,Z5,?_⟩;have n1:∀j,Z2 p1 j->w.heap.size<=j:=λj hj=>Nat.le_trans hz1 (f1 j hj);clear hr1 a1 f1 m1;intro w1 hr1;have hz2:=hr1.mod.size;refine(Z1e w1 s'' s.qu (Zn (hr1.at_ 14 rfl:(Z6 x.sx x.ox).holds w1) hmm).2 hf2).mono ?_;rintro e w2 ⟨p2,rfl,a1,f1,m1⟩;refine⟨[.v p2,.r (s.qu.map encF)],rfl,rfl,m1,qy5 _,qy2.2 ⟨⟨a1,λk hk=>.inl (f1 k hk)⟩,qy5 _⟩,Z5,?_⟩;have n2:∀j,Z2 p2 j->w.heap.size<=j:=λj hj=>Nat.le_trans hz2 (f1 j hj);clear hr1 a1 f1 m1;refine⟨?_,?_⟩
    ·intro v38;refine⟨by first|omega|(simp;omega),λv39=>⟨p1,p2,v38,v39,?_,n1,n2⟩⟩;rw[List.map_append];rfl
    ·intro v38;refine⟨by first|omega|(simp;omega),λv39=>⟨p1,p2,v38,v39,?_,n1,n2⟩⟩;rw[List.map_append];rfl
   ·intro w1 hr1;have hz1:=hr1.mod.size;refine(Z1e w1 s' s.fl (Zn (hr1.at_ 13 rfl:(Z6 x.sx x.ox).holds w1) hmm).1 hf1).mono ?_;rintro e w2 ⟨p1,rfl,a1,f1,m1⟩;refine⟨[.v p1,.r (s.fl.map encF)],rfl,rfl,m1,qy5 _,qy2.2 ⟨⟨a1,λk hk=>.inl (f1 k hk)⟩,qy5 _⟩,Z5,?_⟩;have n1:∀j,Z2 p1 j->w.heap.size<=j:=λj hj=>Nat.le_trans hz1 (f1 j hj);clear hr1 a1 f1 m1;intro w1 hr1;have hz2:=hr1.mod.size;refine(Z1e w1 s'' s.qu (Zn (hr1.at_ 14 rfl:(Z6 x.sx x.ox).holds w1) hmm).2 hf2).mono ?_;rintro e w2 ⟨p2,rfl,a1,f1,m1⟩;refine⟨[.v p2,.r (s.qu.map encF)],rfl,rfl,m1,qy5 _,qy2.2 ⟨⟨a1,λk hk=>.inl (f1 k hk)⟩,qy5 _⟩,Z5,?_⟩;have n2:∀j,Z2 p2 j->w.heap.size<=j:=λj hj=>Nat.le_trans hz2 (f1 j hj);clear hr1 a1 f1 m1;refine⟨?_,?_⟩
    ·intro v38;refine⟨by first|omega|(simp;omega),λv39=>⟨p1,p2,v38,v39,?_,n1,n2⟩⟩;rw[List.map_append];rfl
    ·intro v38;refine⟨by first|omega|(simp;omega),λv39=>⟨p1,p2,v38,v39,?_,n1,n2⟩⟩;rw[List.map_append];rfl
  rintro _ - ⟨p1,p2,v38,v39,rfl,n1,n2⟩;have hfp:∀j,(Z6 (Y++[(s,p1,p2)]) []).fp j->(Z6 Y []).fp j\/((s.fl.map encF).flatten≠[]/\Z2 p1 j)\/((s.qu.map encF).flatten≠[]/\Z2 p2 j):=λj hj=>by
   rcases Zb.1 hj with⟨t,ht,hk⟩|⟨t,ht,-⟩
   ·rcases qy13.1 ht with ht|ht
    ·exact .inl (Zb.2 (.inl ⟨t,ht,hk⟩))
    ·rw[qy12.1 ht]at hk;exact .inr hk
   ·cases ht
  refine⟨by omega,by omega,Z6 (Y++[(s,p1,p2)]) [],λw3 hr3=>?_,λj hj=>?_,⟨i+1,Y++[(s,p1,p2)],v39,rfl,by omega,?_,λj hj=>?_⟩,by omega⟩
  ·refine Z11 (l:=Y) (o:=[]) (λt ht=>?_) (λt ht=>.inl ht) (hr3.at_ 5 rfl);rcases qy13.1 ht with ht|ht
   ·exact .inl ht
   ·rw[qy12.1 ht];exact .inr ⟨hr3.at_ 3 rfl,hr3.at_ 2 rfl⟩
  ·rcases hfp j hj with h|h|h
   ·exact(qE 5 rfl rfl h)
   ·exact(qE 3 rfl rfl h)
   ·exact(qE 2 rfl rfl h)
  ·rw[List.map_append,hY,hse];rfl
  ·rcases hfp j hj with h|h|h
   ·exact hfY j h
   ·exact n1 j h.2
   ·exact n2 j h.2
 ·have hie:i=x.sx.length:=by omega
  rw[hie,List.take_length]at hY;refine⟨⟨x.kept,x.wants,Y,x.wat,x.next,[],u1,u2,u4,u3,.slice none 0 0⟩,rfl,rfl,?_,((Z45 (v:=22) (Z45 (v:=24) hr3)).pick [4,3,12,2,0] (by decide)).conv rfl,λj hj=>?_,λj hj=>?_,hfY⟩
  ·simp only[TelX.tel,hY];rfl
  ·rcases hr3.own _ (qy6 (i:=4) rfl) rfl j hj with h|h
   ·exact h
   ·cases h
  ·rcases hr3.own _ (qy6 (i:=3) rfl) rfl j hj with h|h
   ·exact h
   ·cases h
open Go.RowKit
def Z9j(a b c d e f:Int):Int:=if ¬a=0 then a else if ¬b=0 then b else if ¬c=0 then c else if ¬d=0 then d else if ¬e=0 then e else f
theorem Z189{w:World}{b:Nat}{cs:Array Value}{t:TypeId}(h:w.heap[b]?=some (.cells cs t (0,0)))(j:Nat):w.cell? ⟨b,j,none⟩=cs[j]?:=by simp[World.cell?,h]
set_option maxRecDepth 100000 in
theorem Z14s(I:World->Prop)(b k:Nat)(c1 c2 c3 c4 c5 c6:Int) (hI:∀W,I W->∃t,W.heap[b]?=some (.cells #[.func (.func 52) #[] #[.pointer (some ⟨k,0,none⟩)],.func (.func 54) #[] #[.pointer (some ⟨k,0,none⟩)],.func (.func 56) #[] #[.pointer (some ⟨k,0,none⟩)],.func (.func 58) #[] #[.pointer (some ⟨k,0,none⟩)],.func (.func 60) #[] #[.pointer (some ⟨k,0,none⟩)],.func (.func 68) #[] #[.pointer (some ⟨k,0,none⟩)]] t (0,0))) (h1:∀W,I W->Calls Tryz.prog 52 #[.pointer (some ⟨k,0,none⟩)] W λe W'=>e=.returned (.int .i64 c1)/\I W') (h2:c1=0->∀W,I W->Calls Tryz.prog 54 #[.pointer (some ⟨k,0,none⟩)] W λe W'=>e=.returned (.int .i64 c2)/\I W') (h3:c1=0->c2=0->∀W,I W->Calls Tryz.prog 56 #[.pointer (some ⟨k,0,none⟩)] W λe W'=>e=.returned (.int .i64 c3)/\I W') (h4:c1=0->c2=0->c3=0->∀W,I W->Calls Tryz.prog 58 #[.pointer (some ⟨k,0,none⟩)] W λe W'=>e=.returned (.int .i64 c4)/\I W') (h5:c1=0->c2=0->c3=0->c4=0->∀W,I W->Calls Tryz.prog 60 #[.pointer (some ⟨k,0,none⟩)] W λe W'=>e=.returned (.int .i64 c5)/\I W') (h6:c1=0->c2=0->c3=0->c4=0->c5=0->∀W,I W->Calls Tryz.prog 68 #[.pointer (some ⟨k,0,none⟩)] W λe W'=>e=.returned (.int .i64 c6)/\I W') (w:World) (hw:I w) : Calls Tryz.prog 51 #[.slice (some ⟨b,0,none⟩) 6 6] w λe w'=>e=.returned (.int .i64 (Z9j c1 c2 c3 c4 c5 c6))/\I w':=by
  have hq:∀W,I W->W.cell? ⟨b,0,none⟩=some (.func (.func 52) #[] #[.pointer (some ⟨k,0,none⟩)])/\W.cell? ⟨b,1,none⟩=some (.func (.func 54) #[] #[.pointer (some ⟨k,0,none⟩)])/\W.cell? ⟨b,2,none⟩=some (.func (.func 56) #[] #[.pointer (some ⟨k,0,none⟩)])/\W.cell? ⟨b,3,none⟩=some (.func (.func 58) #[] #[.pointer (some ⟨k,0,none⟩)])/\W.cell? ⟨b,4,none⟩=some (.func (.func 60) #[] #[.pointer (some ⟨k,0,none⟩)])/\W.cell? ⟨b,5,none⟩=some (.func (.func 68) #[] #[.pointer (some ⟨k,0,none⟩)]):=λW hW=>by obtain⟨t,g⟩:=hI W hW;refine⟨?_,?_,?_,?_,?_,?_⟩<;>(rw[Z189 g];rfl)
  obtain⟨q0,-⟩:=hq w hw;go_enter Tryz.func51,Tryz.ntmps51
  go_wp2
  refine wp_loop_rounds 7 ?_;rw[rounds_succ];go_wp2_with (go_at_call 52;refine(h1 _ hw).mono ?_;rintro e w1 ⟨rfl,i1⟩;obtain⟨-,q1,-⟩:=hq w1 i1)
  . go_ret
    exact⟨by unfold Z9j;simp_all,i1⟩
  have z1:c1=0:=by simp_all
  rw[rounds_succ];go_wp2_with (go_at_call 54;refine(h2 z1 _ i1).mono ?_;rintro e w2 ⟨rfl,i2⟩;obtain⟨-,-,q2,-⟩:=hq w2 i2)
  . go_ret
    exact⟨by unfold Z9j;simp_all,i2⟩
  have z2:c2=0:=by simp_all
  rw[rounds_succ];go_wp2_with (go_at_call 56;refine(h3 z1 z2 _ i2).mono ?_;rintro e w3 ⟨rfl,i3⟩;obtain⟨-,-,-,q3,-⟩:=hq w3 i3)
  . go_ret
    exact⟨by unfold Z9j;simp_all,i3⟩
  have z3:c3=0:=by simp_all
  rw[rounds_succ];go_wp2_with (go_at_call 58;refine(h4 z1 z2 z3 _ i3).mono ?_;rintro e w4 ⟨rfl,i4⟩;obtain⟨-,-,-,-,q4,-⟩:=hq w4 i4)
  . go_ret
    exact⟨by unfold Z9j;simp_all,i4⟩
  have z4:c4=0:=by simp_all
  rw[rounds_succ];go_wp2_with (go_at_call 60;refine(h5 z1 z2 z3 z4 _ i4).mono ?_;rintro e w5 ⟨rfl,i5⟩;obtain⟨-,-,-,-,-,q5⟩:=hq w5 i5)
  . go_ret
    exact⟨by unfold Z9j;simp_all,i5⟩
  have z5:c5=0:=by simp_all
  rw[rounds_succ];go_wp2_with (go_at_call 68;refine(h6 z1 z2 z3 z4 z5 _ i5).mono ?_;rintro e w6 ⟨rfl,i6⟩)
  . go_ret
    exact⟨by unfold Z9j;simp_all,i6⟩
  have z6:c6=0:=by simp_all
  rw[rounds_succ];go_wp2
  go_ret
  exact⟨by unfold Z9j;simp_all,i6⟩
structure SmlB(x:TelX):Prop where
  kept:Z8j x.kept
  keptL:x.kept.length<1000000000
  wants:Z1y x.wants
  wantsL:x.wants.length<1000000000
  sess:∀t∈x.sx,Zgf t.1
  sessL:x.sx.length<1000000
  wat:Z7f x.wat
  watL:x.wat.length<1000000000
theorem Zq6(w:World)(o o':Obj):((w.alloc o).alloc o').heap[w.heap.size]?=some o/\((w.alloc o).alloc o').heap[w.heap.size+1]?=some o':=by
  have h:((w.alloc o).alloc o').heap=(w.heap.push o).push o':=rfl;rw[h];constructor
  . rw[Array.getElem?_push_lt (by simp)];simp
  . rw[show w.heap.size+1=(w.heap.push o).size by simp,Array.getElem?_push_size]
theorem Z10v{w:World}{x:TelX}(hr:Rel ⟨[],w⟩ (bkA x) bkH w)(o:Obj) : Rel ⟨Zi (bcA w.heap.size x) bcH,(w.alloc (.cells #[sc1 x.kv,sc1 x.wv,sc1 x.sv,sc1 x.av,.int .i64 x.next] 27)).alloc o⟩ (bcA w.heap.size x) bcH ((w.alloc (.cells #[sc1 x.kv,sc1 x.wv,sc1 x.sv,sc1 x.av,.int .i64 x.next] 27)).alloc o):=by
  have h0:=((hr.alloc (.cells #[sc1 x.kv,sc1 x.wv,sc1 x.sv,sc1 x.av,.int .i64 x.next] 27)).alloc o).ext (Zu.app (bkA x) [V.n w.heap.size]) (rfl:bkH.all (Ent.bd 10)=true);have h1:=h0.cons (e:=.cells 10 27 [.val (.var 0),.val (.var 2),.val (.var 4),.val (.var 7),.int .i64 (.var 9)]) (Zq6 w _ o).1
    (λ_ j hj=>.inl (by rw[show j=w.heap.size from hj];exact Nat.le_refl _))
    (λe' he' _ j hj hj'=>by rw[show j=w.heap.size from hj]at hj';have hb:e'.bd 10=true:=List.all_eq_true.1 (rfl:bkH.all (Ent.bd 10)=true) e' he';have:=Ent.bound (hr.holds e' he') ((Ent.fp_bd (Zu.app (bkA x) [V.n w.heap.size]) e' hb _).2 hj');omega)
  exact(Rel.conv (J':=bcA w.heap.size x) (hp':=bcH) (h1.pick [1,2,3,4,5,0] (by decide)) rfl).base
theorem Zcz{w0 w w':World}{k:Nat}{x:TelX}(h:Rel ⟨Zi (bcA k x) bcH,w0⟩ (bcA k x) bcH w)(h':Rel ⟨Zi (bcA k x) bcH,w⟩ (bcA k x) bcH w'):Rel ⟨Zi (bcA k x) bcH,w0⟩ (bcA k x) bcH w' :=
  ⟨h.mod.trans h'.mod (λj hj=>.inl hj),h'.holds,h.own,h'.sep⟩
theorem Zwm(x:TelX):Z9j (chkK x.kept) (Zj x.wants) (Z5p x.tel.sess) (Z17 x.wat) (if Z19 x.tel=true then 4 else 0) (if x.next<0\/65535<x.next then 3 else 0)=chkB x.tel:=by
  unfold Z9j chkB;simp only[TelX.tel];by_cases h1:chkK x.kept=0
  . by_cases h2:Zj x.wants=0
    . by_cases h3:Z5p (x.sx.map (·.1))=0
      . by_cases h4:Z17 x.wat=0
        . by_cases h5:Z19 ⟨x.kept,x.wants,x.sx.map (·.1),x.wat,x.next,x.ox.map (·.1)⟩=true
          . simp[h1,h2,h3,h4,h5]
          . by_cases h6:x.next<0\/65535<x.next
            . simp only[h1,h2,h3,h4,h5,if_pos h6,not_true,if_false,ite_false];simp;exact(if_pos h6).symm
            . simp only[h1,h2,h3,h4,h5,if_neg h6,not_true,if_false,ite_false];simp;exact(if_neg h6).symm
        . simp[h1,h2,h3,h4]
      . simp[h1,h2,h3]
    . simp[h1,h2]
  . simp[h1]
set_option maxRecDepth 100000 in
theorem Z71(w:World)(x:TelX)(hr:Rel ⟨[],w⟩ (bkA x) bkH w)(ho:x.ox=[])(hs:SmlB x) : Calls Tryz.prog 13 #[bkV x] w λe w'=>e=.returned (.int .i64 (chkB x.tel))/\Mod [] w w':=by
  have hst:=Z10v hr (.cells #[.func (.func 52) #[] #[.pointer (some ⟨w.heap.size,0,none⟩)],.func (.func 54) #[] #[.pointer (some ⟨w.heap.size,0,none⟩)],.func (.func 56) #[] #[.pointer (some ⟨w.heap.size,0,none⟩)],.func (.func 58) #[] #[.pointer (some ⟨w.heap.size,0,none⟩)],.func (.func 60) #[] #[.pointer (some ⟨w.heap.size,0,none⟩)],.func (.func 68) #[] #[.pointer (some ⟨w.heap.size,0,none⟩)]] 99);have hb:∀W,Rel ⟨Zi (bcA w.heap.size x) bcH,(w.alloc (.cells #[sc1 x.kv,sc1 x.wv,sc1 x.sv,sc1 x.av,.int .i64 x.next] 27)).alloc (.cells #[.func (.func 52) #[] #[.pointer (some ⟨w.heap.size,0,none⟩)],.func (.func 54) #[] #[.pointer (some ⟨w.heap.size,0,none⟩)],.func (.func 56) #[] #[.pointer (some ⟨w.heap.size,0,none⟩)],.func (.func 58) #[] #[.pointer (some ⟨w.heap.size,0,none⟩)],.func (.func 60) #[] #[.pointer (some ⟨w.heap.size,0,none⟩)],.func (.func 68) #[] #[.pointer (some ⟨w.heap.size,0,none⟩)]] 99)⟩ (bcA w.heap.size x) bcH W->∃t,W.heap[w.heap.size+1]?=some (.cells #[.func (.func 52) #[] #[.pointer (some ⟨w.heap.size,0,none⟩)],.func (.func 54) #[] #[.pointer (some ⟨w.heap.size,0,none⟩)],.func (.func 56) #[] #[.pointer (some ⟨w.heap.size,0,none⟩)],.func (.func 58) #[] #[.pointer (some ⟨w.heap.size,0,none⟩)],.func (.func 60) #[] #[.pointer (some ⟨w.heap.size,0,none⟩)],.func (.func 68) #[] #[.pointer (some ⟨w.heap.size,0,none⟩)]] t (0,0)):=λW hW =>
    ⟨_,(hW.mod.block (w.heap.size+1) (by show w.heap.size+1<((w.heap.push _).push _).size;simp) (by simp[Zi,Ent.fpl])).trans (Zq6 w _ _).2⟩
  have hk3:Z5p x.tel.sess=0->Z5n x.tel.sess:=λh=>(Z70.1 h).2.2;have run:=Z14s _ (w.heap.size+1) w.heap.size (chkK x.kept) (Zj x.wants) (Z5p x.tel.sess) (Z17 x.wat) (if Z19 x.tel=true then 4 else 0) (if x.next<0\/65535<x.next then 3 else 0) hb
    (λW hW=>(Z16v W _ x hW.base hs.kept hs.keptL).mono λe w' h=>⟨h.1,Zcz hW h.2⟩)
    (λ_ W hW=>(Z16w W _ x hW.base hs.wants hs.wantsL).mono λe w' h=>⟨h.1,Zcz hW h.2⟩)
    (λ_ _ W hW=>(Z171 W _ x hW.base ho hs.sess).mono λe w' h=>⟨h.1,Zcz hW h.2⟩)
    (λ_ _ _ W hW=>(Z16x W _ x hW.base hs.wat hs.watL).mono λe w' h=>⟨h.1,Zcz hW h.2⟩)
    (λh1 _ h3 _ W hW=>(Z16z W _ x hW.base h1 (hk3 h3) (by have:=hs.sessL;omega) hs.wantsL hs.watL).mono λe w' h=>⟨h.1,Zcz hW h.2⟩)
    (λ_ _ _ _ _ W hW=>(Z16y W _ x hW.base).mono λe w' h=>⟨h.1,Zcz hW h.2⟩)
    _ hst
  rw[Zwm]at run;clear hb hk3;have hm:∀{w'},Rel ⟨Zi (bcA w.heap.size x) bcH,(w.alloc (.cells #[sc1 x.kv,sc1 x.wv,sc1 x.sv,sc1 x.av,.int .i64 x.next] 27)).alloc (.cells #[.func (.func 52) #[] #[.pointer (some ⟨w.heap.size,0,none⟩)],.func (.func 54) #[] #[.pointer (some ⟨w.heap.size,0,none⟩)],.func (.func 56) #[] #[.pointer (some ⟨w.heap.size,0,none⟩)],.func (.func 58) #[] #[.pointer (some ⟨w.heap.size,0,none⟩)],.func (.func 60) #[] #[.pointer (some ⟨w.heap.size,0,none⟩)],.func (.func 68) #[] #[.pointer (some ⟨w.heap.size,0,none⟩)]] 99)⟩ (bcA w.heap.size x) bcH w'->Mod [] w w':=λ{w'} h =>
    ((Mod.alloc [] w _).trans (Mod.alloc [] _ _) (λj hj=>.inl hj)).trans h.mod (λj hj=>.inr (by simp only[Zi,bcH,List.flatMap_cons,List.flatMap_nil,Ent.fpl,List.append_nil,List.nil_append,qy12]at hj;rw[hj];exact Nat.le_refl _))
  simp only[bkV];generalize sc1 x.kv=v1 at run hm⊢
  generalize sc1 x.wv=v2 at run hm⊢
  generalize sc1 x.sv=v3 at run hm⊢
  generalize sc1 x.av=v4 at run hm⊢
  generalize chkB x.tel=cc at run⊢
  go_enter Tryz.func13,Tryz.ntmps13
  go_wp2_with (go_at_call 51;refine run.mono ?_;rintro e w1 ⟨rfl,i1⟩)
  go_ret
  exact⟨rfl,hm i1⟩
structure RdX(w:World)(y:TelX):Prop where
 kept:reads w y.kv kK (y.kept.map encK)
 want:reads w y.wv kW_V (y.wants.map Z7)
 sess:reads w y.sv kSx (y.sx.map Zc)
 nest:(Z6 y.sx y.ox).holds w
 wat:reads w y.av kW_K (y.wat.map Z8)
theorem RdX.rel{w:World}{x:TelX}(h:RdX w x):Rel ⟨[],w⟩ (bkA x) bkH w :=
 Rel.start2 (qy2.2 ⟨⟨h.kept,rfl⟩,qy2.2 ⟨⟨h.want,rfl⟩,qy2.2 ⟨⟨h.sess,rfl⟩,qy2.2 ⟨⟨h.nest,rfl⟩,qy2.2 ⟨⟨h.wat,rfl⟩,qy5 _⟩⟩⟩⟩⟩)
structure RdB(n:Nat)(w:World)(y:TelX):Prop where
 kept:reads w y.kv kK (y.kept.map encK)
 want:reads w y.wv kW_V (y.wants.map Z7)
 sess:reads w y.sv kSx (y.sx.map Zc)
 wat:reads w y.av kW_K (y.wat.map Z8)
 out:reads w y.ov kSn (y.ox.map Z1a)
 nest:(Z6 y.sx y.ox).holds w
 nk:∀j,(y.kept.map encK).flatten≠[]->Z2 y.kv j->n<=j
 nw:∀j,(y.wants.map Z7).flatten≠[]->Z2 y.wv j->n<=j
 ns:∀j,(y.sx.map Zc).flatten≠[]->Z2 y.sv j->n<=j
 na:∀j,(y.wat.map Z8).flatten≠[]->Z2 y.av j->n<=j
 no:∀j,(y.ox.map Z1a).flatten≠[]->Z2 y.ov j->n<=j
 nn:∀j,(Z6 y.sx y.ox).fp j->n<=j
def Zk7(w w':World)(r:Ending)(e:Int)(t:Tel):Prop :=
 ∃y:TelX,r=.returned (.tuple #[bkV y,sc1 y.ov,.int .i64 e])/\y.tel=t/\RdB w.heap.size w' y/\Mod [] w w'
def telN:Tel:=⟨[],[],[],[],0,[]⟩
abbrev Zns:TelX:=⟨[],[],[],[],0,[],.slice none 0 0,.slice none 0 0,.slice none 0 0,.slice none 0 0,.slice none 0 0⟩
theorem Zwn:∀j,¬(Z6 [] []).fp j:=λj hj=>by rcases Zb.1 hj with⟨t,ht,-⟩|⟨t,ht,-⟩<;>cases ht
theorem Z7t(w:World):(Z6 [] []).holds w:=λt ht=>absurd ht (by simp[nest])
theorem Zwo(n:Nat)(w:World):RdB n w Zns :=
 ⟨Za w _,Za w _,Za w _,Za w _,Za w _,Z7t w,λj h=>absurd rfl h,λj h=>absurd rfl h,λj h=>absurd rfl h,λj h=>absurd rfl h,λj h=>absurd rfl h,λj hj=>absurd hj (Zwn j)⟩
abbrev owEs(n:Nat):List Ent:=[.rd n kK (.var (n+1)),.rd (n+2) kW_V (.var (n+3)),.row (n+4) 64 kSx (.var (n+5)),.row (n+6) 74 kW_K (.var (n+7)),.st (n+9)]
theorem Zk8{J:List V}{vs:List V}{n:Nat}(hn:J.length=n)(i:Nat):(J++vs).getD (n+i) (.i 0)=vs.getD i (.i 0):=by subst hn;rw[qy1,qy1,List.getElem?_append_right (by simp)];simp
theorem Z172{J:List V}{y:TelX}{n:Nat}(hn:J.length=n):owH.map (Ent.sem (owA y))=(owEs n).map (Ent.sem (J++owA y)):=by have g:=Zk8 (vs:=owA y) hn;have g0:(J++owA y).getD n (.i 0)=.v y.kv:=g 0;simp only[owH,owEs,List.map_cons,List.map_nil,Ent.sem,Ent.holds,Ent.fp,Ent.wr,X.ev,g0,g 1,g 2,g 3,g 4,g 5,g 6,g 7,g 9];rfl
theorem Zwp{P:Program}{f:Nat}{args:Array Value}{w:World}{B:Base}{J:List V}{hp:List Ent}{x:TelX}(h0:Rel B J hp w)(n:Nat) (h:Calls P f args w λe w1=>Zwl w w1 e x) (hn:J.length=n) : Calls P f args w λe w1=>∃y:TelX,y.ox=[]/\y.tel={ x.tel with out:=[] }/\((∀j,Z2 y.kv j->w.heap.size<=j)/\(∀j,Z2 y.wv j->w.heap.size<=j)/\(∀j,(Z6 y.sx y.ox).fp j->w.heap.size<=j))/\e=.returned (bkV y)/\Mod (Zs J [] []) w w1 /\
    (∀x∈owEs n,x.holds (J++owA y) w1/\∀k,x.fp (J++owA y) k->w.heap.size<=k\/(x.wr=false/\∃y∈hp,y.wr=false/\y.fp J k)\/k∈Zx J [])/\Z2x (J++owA y) (owEs n):=by
 refine h.mono ?_;rintro e w1 ⟨y,he,h1,h2,hq,f1,f2,f3⟩;have hs:=Z172 (y:=y) hn;have hq':=hq.conv hs;refine⟨y,h1,h2,⟨f1,f2,f3⟩,he,hq'.mod,λx hx=>⟨hq'.holds x hx,λj hj=>.inl ?_⟩,hq'.sep⟩;cases hw:x.wr with
 | true =>
  rcases hq'.own x hx hw j hj with h5|h5
  ·exact h5
  ·cases h5
 | false =>
  have h3:Ent.sem (J++owA y) x∈owH.map (Ent.sem (owA y)):=by rw[hs];exact List.mem_map_of_mem hx
  obtain⟨e',he',hee⟩:=List.mem_map.1 h3;have hw':e'.wr=false:=(congrArg SEnt.wr hee).trans hw;have hj':e'.fp (owA y) j:=(congrFun (congrArg SEnt.fp hee) j).mpr hj;simp only[owH,List.mem_cons,List.not_mem_nil,or_false]at he';rcases he' with rfl|rfl|rfl|rfl|rfl
  ·exact f1 j hj'.2
  ·exact f2 j hj'.2
  ·cases hw'
  ·cases hw'
  ·exact f3 j hj'
def pktE(c:List UInt8)(p:Pkt)(t:Tel):Int:=if ¬chkB t=0 then chkB t else if ¬Zk c=true then 1 else chkP p
def resB(e:Int)(t:Tel):Tel:=if e=0 then t else telN
theorem Zd0{w w':World}{e:Int}{t:Tel}(he:¬e=0)(hm:Mod [] w w'):Zk7 w w' (.returned (.tuple #[bkV Zns,sc1 (.slice none 0 0),.int .i64 e])) e (resB e t) :=
 ⟨Zns,rfl,by rw[resB,if_neg he];rfl,Zwo _ _,hm⟩
theorem Zk9{n m:Nat}{x y:TelX}(h:Grew m (λ_=>False) x y)(hm:n<=m)(hx:(∀j,Z2 x.kv j->n<=j)/\(∀j,Z2 x.wv j->n<=j)/\(∀j,(Z6 x.sx x.ox).fp j->n<=j)) : (∀j,(y.kept.map encK).flatten≠[]->Z2 y.kv j->n<=j)/\(∀j,(y.wants.map Z7).flatten≠[]->Z2 y.wv j->n<=j)/\(∀j,(Z6 y.sx y.ox).fp j->n<=j):=by
 refine⟨λj h1 h2=>?_,λj h1 h2=>?_,λj h1=>?_⟩
 ·rcases h.kept j ⟨h1,h2⟩with h3|h3
  ·omega
  ·exact hx.1 j h3.2
 ·rcases h.want j ⟨h1,h2⟩with h3|h3
  ·omega
  ·exact hx.2.1 j h3.2
 ·rcases h.nest j h1 with h3|h3|h3
  ·omega
  ·exact hx.2.2 j h3
  ·exact h3.elim
theorem Zq7{n:Nat}{w:World}{y:TelX}{J:List V}{hp:List Ent}{w0:World}(hr:Rel ⟨[],w0⟩ J hp w)(hn:n=w0.heap.size) (h1:reads w y.kv kK (y.kept.map encK)) (h2:reads w y.wv kW_V (y.wants.map Z7)) (h3:owns w y.sv 64 kSx (y.sx.map Zc)) (h4:owns w y.av 74 kW_K (y.wat.map Z8)) (h5:owns w y.ov 97 kSn (y.ox.map Z1a)) (h6:(Z6 y.sx y.ox).holds w) (f:(∀j,(y.kept.map encK).flatten≠[]->Z2 y.kv j->n<=j)/\(∀j,(y.wants.map Z7).flatten≠[]->Z2 y.wv j->n<=j)/\(∀j,(Z6 y.sx y.ox).fp j->n<=j)) (g3:∀j,Z2 y.sv j->n<=j) (g4:∀j,Z2 y.av j->n<=j) (g5:∀j,Z2 y.ov j->n<=j):RdB n w y :=
 ⟨h1,h2,h3.reads,h4.reads,h5.reads,h6,f.1,f.2.1,λj _ h=>g3 j h,λj _ h=>g4 j h,λj _ h=>g5 j h,f.2.2⟩
theorem Z30{w0 w:World}{J:List V}{hp:List Ent}(hr:Rel ⟨[],w0⟩ J hp w)(i:Nat){v ty:Nat}{ks:List Kd}{r:X}(h:hp[i]?=some (.row v ty ks r)):∀j,Z2 (J.getD v (.i 0)).toV j->w0.heap.size<=j:=λj hj=>by
 rcases hr.own _ (qy6 h) rfl j hj with h|h
 ·exact h
 ·cases h
theorem Zmc(w:World)(x:TelX)(c:List UInt8)(p:Pkt)(va vc:Value)(hr:Rel ⟨[],w⟩ (bkA x++Z3g c p va vc) (bkH++[.rd 23 [.str,.int .i64] (.var 24),.rd 25 [.int .i64] (.var 26)]) w)(ho:x.ox=[])(hs:SmlB x)(hl5:∀t∈x.sx,t.1.fl.length<1000000000/\t.1.qu.length<1000000000)(hc:c.length<1099511627776)(hp:SmallP p) : Calls Tryz.prog 5 #[bkV x,.string ⟨c.toArray⟩,Zm9 p va vc] w λe w'=>Zk7 w w' e (pktE c p x.tel) (resB (pktE c p x.tel) (Z14 c p x.tel)):=by
 refine Z1 (Z3 (J:=bkA x++Z3g c p va vc) sxE_ok Tryz.func5 Zbo rfl rfl hr rfl rfl ?_) rfl;simp only[Tree.goal,X.P,X.ev,SV.ev,CV.ev,Sc.ev,qz,QA,QB,QC,QD,QE,QF,QG,QH,QI,QJ,QK,QL,QM,Nat.reduceAdd,qy3,qy4];intro b27 b28 b29 b30;refine⟨[.i (chkB x.tel)],rfl,λ_ w' hr=>Z71 w' x (RdX.rel ⟨hr.at_ 5 rfl,hr.at_ 6 rfl,hr.at_ 7 rfl,hr.at_ 8 rfl,hr.at_ 9 rfl⟩) ho hs,?_⟩;simp only[Tree.goal,X.P,X.ev,SV.ev,CV.ev,Sc.ev,qz,QA,QB,QC,QD,QE,QF,QG,QH,QI,QJ,QK,QL,QM,Nat.reduceAdd,qy3,qy4];refine⟨[.b (Zk c)],rfl,λ_ w' hr=>Zja w' c hc,?_⟩;simp only[Tree.goal,X.P,X.ev,SV.ev,CV.ev,Sc.ev,qz,QA,QB,QC,QD,QE,QF,QG,QH,QI,QJ,QK,QL,QM,Nat.reduceAdd,qy3,qy4];refine⟨λh1=>⟨λh2 w3 hr3=>?_,λh2=>absurd h2 (by decide)⟩,λh1=>⟨λh2=>?_,λh2 w3 hr3=>?_⟩⟩
 ·have e:pktE c p x.tel=1:=by rw[pktE,if_neg (qy9.2 h1.1),if_pos h1.2]
  rw[e];exact Zd0 (by decide) hr3.mod
 ·have hcl:Zk c=true:=Classical.byContradiction λh3=>h1 ⟨h2,h3⟩;have e:pktE c p x.tel=chkP p:=by rw[pktE,if_neg (qy9.2 h2),if_neg (qy9.2 hcl)]
  rw[e];refine⟨[.i (chkP p)],rfl,λ_ w' hr=>Z108 w' p va vc (hr.at_ 10 rfl) (hr.at_ 11 rfl) hp,?_⟩;simp only[Tree.goal,X.P,X.ev,SV.ev,CV.ev,Sc.ev,qz,QA,QB,QC,QD,QE,QF,QG,QH,QI,QJ,QK,QL,QM,Nat.reduceAdd,qy3,qy4];refine⟨λh3 w3 hr3=>Zd0 h3 hr3.mod,λh3=>?_⟩;have h3:=qy9.1 h3;have hB:=Z8z.1 h2;intro b35 b36 w1 hr1;refine(Zwp hr1 38 (Z14r w1 x (RdX.rel ⟨hr1.at_ 8 rfl,hr1.at_ 9 rfl,hr1.at_ 10 rfl,hr1.at_ 11 rfl,hr1.at_ 12 rfl⟩) hs.keptL hs.wantsL hs.watL hs.sessL hl5) rfl).mono ?_;rintro e w2 ⟨⟨yk,yw,ys,ya,yn,yo,v1,v2,v3,v4,v5⟩,y1,y2,yf,rfl,m1,m3,m4⟩;simp only at y1;subst y1;refine⟨owA ⟨yk,yw,ys,ya,yn,[],v1,v2,v3,v4,v5⟩,rfl,rfl,m1,qy5 _,m3,m4,?_⟩;have hz1:=hr1.mod.size;clear m1 m3 m4;have hyt:TelX.tel ⟨yk,yw,ys,ya,yn,[],v1,v2,v3,v4,.slice none 0 0⟩=x.tel:=by rw[show TelX.tel ⟨yk,yw,ys,ya,yn,[],v1,v2,v3,v4,.slice none 0 0⟩=TelX.tel ⟨yk,yw,ys,ya,yn,[],v1,v2,v3,v4,v5⟩ from rfl,y2];simp only[TelX.tel,ho,List.map_nil]
  intro b48 w3 hr3;refine(Z3c (k:=b48) (x:=⟨yk,yw,ys,ya,yn,[],v1,v2,v3,v4,.slice none 0 0⟩) (F:=λ_=>False) (pre:=[]) hr3 49 48 [42,44]
   (Z10t w3 b48 ⟨yk,yw,ys,ya,yn,[],v1,v2,v3,v4,.slice none 0 0⟩ c p va vc (((hr3.pick [1,2,3,4,6,5,0,19,20] (by decide)).conv rfl).base.conv rfl) (by rw[hyt];exact hB) (by show(0:Nat)<40000;decide) hcl h3)
   rfl rfl (by show 48<49;decide) rfl (λj hj=>?_)).mono ?_
  ·rcases hj with hj|hj|hj|hj
   ·exact(qE 1 rfl rfl hj)
   ·exact(qE 2 rfl rfl hj)
   ·exact(qE 5 rfl rfl hj)
   ·exact hj.elim
  rintro e w4 ⟨z,z1,z2,zg,rfl,m1,m2,m3,m4⟩;refine⟨tlV z,rfl,rfl,m1,m2,m3,m4,?_⟩;have hz3:=hr3.mod.size;clear m1 m2 m3 m4;intro b61 w5 hr5;have hnew:=Zk9 zg hz3 ⟨λj h=>Nat.le_trans hz1 (yf.1 j h),λj h=>Nat.le_trans hz1 (yf.2.1 j h),λj h=>Nat.le_trans hz1 (yf.2.2 j h)⟩;refine⟨z,by rw[h3];rfl,?_,Zq7 hr5 rfl (hr5.at_ 1 rfl) (hr5.at_ 2 rfl) (hr5.at_ 3 rfl) (hr5.at_ 4 rfl) (hr5.at_ 5 rfl) (hr5.at_ 6 rfl) hnew (Z30 hr5 3 rfl) (Z30 hr5 4 rfl) (Z30 hr5 5 rfl),hr5.mod⟩;rw[resB,if_pos h3,z1,hyt]
 ·have e:pktE c p x.tel=chkB x.tel:=by rw[pktE,if_pos h2]
  rw[e];exact Zd0 h2 hr3.mod
def Znt(w w':World)(r:Ending)(e:Int)(t:Tel):Prop :=
 ∃y:TelX,r=.returned (.tuple #[bkV y,.int .i64 e])/\y.ox=[]/\y.tel=t/\RdB w.heap.size w' y/\Mod [] w w'
def gonE(c:List UInt8)(t:Tel):Int:=if ¬chkB t=0 then chkB t else if ¬Zk c=true then 1 else 0
theorem Zwq{w w':World}{e:Int}{t:Tel}(he:¬e=0)(hm:Mod [] w w'):Znt w w' (.returned (.tuple #[bkV Zns,.int .i64 e])) e (resB e t) :=
 ⟨Zns,rfl,rfl,by rw[resB,if_neg he];rfl,Zwo _ _,hm⟩
theorem Z173{z:TelX}{t:Tel}(h:z.tel=t)(ho:t.out=[]):z.ox=[]:=by rw[<- h]at ho;simpa[TelX.tel]using ho
theorem Zwr(w:World)(x:TelX)(c:List UInt8)(hr:Rel ⟨[],w⟩ (bkA x++[.s c]) bkH w)(ho:x.ox=[])(hs:SmlB x)(hl5:∀t∈x.sx,t.1.fl.length<1000000000/\t.1.qu.length<1000000000)(hc:c.length<1099511627776) : Calls Tryz.prog 6 #[bkV x,.string ⟨c.toArray⟩] w λe w'=>Znt w w' e (gonE c x.tel) (resB (gonE c x.tel) (Z5o c x.tel)):=by
 refine Z1 (Z3 (J:=bkA x++[.s c]) sxE_ok Tryz.func6 Zdx rfl rfl hr rfl rfl ?_) rfl;simp only[Tree.goal,X.P,X.ev,SV.ev,CV.ev,Sc.ev,qz,QA,QB,QC,QD,QE,QF,QG,QH,QI,QJ,QK,QL,QM,Nat.reduceAdd,qy3,qy4];intro b11 b12 b13;refine⟨[.i (chkB x.tel)],rfl,λ_ w' hr=>Z71 w' x (RdX.rel ⟨hr.at_ 3 rfl,hr.at_ 4 rfl,hr.at_ 5 rfl,hr.at_ 6 rfl,hr.at_ 7 rfl⟩) ho hs,?_⟩;simp only[Tree.goal,X.P,X.ev,SV.ev,CV.ev,Sc.ev,qz,QA,QB,QC,QD,QE,QF,QG,QH,QI,QJ,QK,QL,QM,Nat.reduceAdd,qy3,qy4];refine⟨[.b (Zk c)],rfl,λ_ w' hr=>Zja w' c hc,?_⟩;simp only[Tree.goal,X.P,X.ev,SV.ev,CV.ev,Sc.ev,qz,QA,QB,QC,QD,QE,QF,QG,QH,QI,QJ,QK,QL,QM,Nat.reduceAdd,qy3,qy4];refine⟨λh1=>⟨λh2 w3 hr3=>?_,λh2=>absurd h2 (by decide)⟩,λh1=>⟨λh2 w3 hr3=>?_,λh2=>?_⟩⟩
 ·have e:gonE c x.tel=1:=by rw[gonE,if_neg (qy9.2 h1.1),if_pos h1.2]
  rw[e];exact Zwq (by decide) hr3.mod
 ·have e:gonE c x.tel=chkB x.tel:=by rw[gonE,if_pos h2]
  rw[e];exact Zwq h2 hr3.mod
 ·have h2:=qy9.1 h2;have hcl:Zk c=true:=Classical.byContradiction λh3=>h1 ⟨h2,h3⟩;have e:gonE c x.tel=0:=by rw[gonE,if_neg (qy9.2 h2),if_neg (qy9.2 hcl)]
  rw[e];have hB:=Z8z.1 h2;intro b16 b17 w1 hr1;refine(Zwp hr1 19 (Z14r w1 x (RdX.rel ⟨hr1.at_ 6 rfl,hr1.at_ 7 rfl,hr1.at_ 8 rfl,hr1.at_ 9 rfl,hr1.at_ 10 rfl⟩) hs.keptL hs.wantsL hs.watL hs.sessL hl5) rfl).mono ?_;rintro e w2 ⟨⟨yk,yw,ys,ya,yn,yo,v1,v2,v3,v4,v5⟩,y1,y2,yf,rfl,m1,m3,m4⟩;simp only at y1;subst y1;refine⟨owA ⟨yk,yw,ys,ya,yn,[],v1,v2,v3,v4,v5⟩,rfl,rfl,m1,qy5 _,m3,m4,?_⟩;have hz1:=hr1.mod.size;clear m1 m3 m4;have hyt:TelX.tel ⟨yk,yw,ys,ya,yn,[],v1,v2,v3,v4,.slice none 0 0⟩=x.tel:=by rw[show TelX.tel ⟨yk,yw,ys,ya,yn,[],v1,v2,v3,v4,.slice none 0 0⟩=TelX.tel ⟨yk,yw,ys,ya,yn,[],v1,v2,v3,v4,v5⟩ from rfl,y2];simp only[TelX.tel,ho,List.map_nil]
  intro b29 w3 hr3;refine(Z3c (k:=b29) (x:=⟨yk,yw,ys,ya,yn,[],v1,v2,v3,v4,.slice none 0 0⟩) (F:=λ_=>False) (pre:=[]) hr3 30 29 [23,25]
   (Z11v w3 b29 ⟨yk,yw,ys,ya,yn,[],v1,v2,v3,v4,.slice none 0 0⟩ c (((hr3.pick [1,2,3,4,6,5,0] (by decide)).conv rfl).base.conv rfl) (by rw[hyt];exact hB) (by show(0:Nat)<100000;decide))
   rfl rfl (by show 29<30;decide) rfl (λj hj=>?_)).mono ?_
  ·rcases hj with hj|hj|hj|hj
   ·exact(qE 1 rfl rfl hj)
   ·exact(qE 2 rfl rfl hj)
   ·exact(qE 5 rfl rfl hj)
   ·exact hj.elim
  rintro e w4 ⟨z,z1,z2,zg,rfl,m1,m2,m3,m4⟩;refine⟨tlV z,rfl,rfl,m1,m2,m3,m4,?_⟩;have hz3:=hr3.mod.size;clear m1 m2 m3 m4;intro b42 w5 hr5;have hnew:=Zk9 zg hz3 ⟨λj h=>Nat.le_trans hz1 (yf.1 j h),λj h=>Nat.le_trans hz1 (yf.2.1 j h),λj h=>Nat.le_trans hz1 (yf.2.2 j h)⟩;rw[hyt]at z1;refine⟨z,rfl,Z173 z1 ((Zbt hB c).2.trans (by simp[TelX.tel,ho])),by rw[resB,if_pos rfl,z1],Zq7 hr5 rfl (hr5.at_ 1 rfl) (hr5.at_ 2 rfl) (hr5.at_ 3 rfl) (hr5.at_ 4 rfl) (hr5.at_ 5 rfl) (hr5.at_ 6 rfl) hnew (Z30 hr5 3 rfl) (Z30 hr5 4 rfl) (Z30 hr5 5 rfl),hr5.mod⟩
def msgE(n:Int)(m:Msg)(t:Tel):Int:=if ¬chkB t=0 then chkB t else if ¬(0<=n/\n<=9)then 3 else chk m
theorem Zs1(w:World)(x:TelX)(n:Int)(m:Msg)(mv:Value)(hr:Rel ⟨[],w⟩ (bkA x++([.i n]++mgV m mv)) (bkH++[.rd 15 [.int .i64,.str] (.var 16)]) w)(ho:x.ox=[])(hs:SmlB x)(hl5:∀t∈x.sx,t.1.fl.length<1000000000/\t.1.qu.length<1000000000)(hm1:m.opts.length<1099511627776)(hm2:m.tok.length<1099511627776)(hm3:m.pay.length<1099511627776) : Calls Tryz.prog 15 #[bkV x,.int .i64 n,mV m (sc1 mv)] w λe w'=>Zk7 w w' e (msgE n m x.tel) (resB (msgE n m x.tel) (Z7o n m x.tel)):=by
 refine Z1 (Z3 (J:=bkA x++([.i n]++mgV m mv)) sxE_ok Tryz.func15 Za5 rfl rfl hr rfl rfl ?_) rfl;simp only[Tree.goal,X.P,X.ev,SV.ev,CV.ev,Sc.ev,qz,QA,QB,QC,QD,QE,QF,QG,QH,QI,QJ,QK,QL,QM,Nat.reduceAdd,qy3,qy4];intro b18 b19 b20 b21;refine⟨[.i (chkB x.tel)],rfl,λ_ w' hr=>Z71 w' x (RdX.rel ⟨hr.at_ 5 rfl,hr.at_ 6 rfl,hr.at_ 7 rfl,hr.at_ 8 rfl,hr.at_ 9 rfl⟩) ho hs,?_⟩;simp only[Tree.goal,X.P,X.ev,SV.ev,CV.ev,Sc.ev,qz,QA,QB,QC,QD,QE,QF,QG,QH,QI,QJ,QK,QL,QM,Nat.reduceAdd,qy3,qy4];refine⟨λh1=>⟨λh2=>⟨λh3 w3 hr3=>?_,λh3=>absurd h3 (by decide)⟩,λh2=>?_⟩,λh1 w3 hr3=>?_⟩
 ·have e:msgE n m x.tel=3:=by rw[msgE,if_neg (qy9.2 h1),if_pos h2]
  rw[e];exact Zd0 (by decide) hr3.mod
 ·have hn:=qy9.1 h2;have e:msgE n m x.tel=chk m:=by rw[msgE,if_neg (qy9.2 h1),if_neg h2]
  rw[e];refine⟨[.i (chk m)],rfl,λ_ w' hr=>Z140 w' m mv (hr.at_ 10 rfl) hm1 hm2 hm3,?_⟩;simp only[Tree.goal,X.P,X.ev,SV.ev,CV.ev,Sc.ev,qz,QA,QB,QC,QD,QE,QF,QG,QH,QI,QJ,QK,QL,QM,Nat.reduceAdd,qy3,qy4];refine⟨λh3 w3 hr3=>Zd0 h3 hr3.mod,λh3=>?_⟩;have h3:=qy9.1 h3;have hB:=Z8z.1 h1;intro b25 b26 w1 hr1;refine(Zwp hr1 28 (Z14r w1 x (RdX.rel ⟨hr1.at_ 8 rfl,hr1.at_ 9 rfl,hr1.at_ 10 rfl,hr1.at_ 11 rfl,hr1.at_ 12 rfl⟩) hs.keptL hs.wantsL hs.watL hs.sessL hl5) rfl).mono ?_;rintro e w2 ⟨⟨yk,yw,ys,ya,yn,yo,v1,v2,v3,v4,v5⟩,y1,y2,yf,rfl,m1,m3,m4⟩;simp only at y1;subst y1;refine⟨owA ⟨yk,yw,ys,ya,yn,[],v1,v2,v3,v4,v5⟩,rfl,rfl,m1,qy5 _,m3,m4,?_⟩;have hz1:=hr1.mod.size;clear m1 m3 m4;have hyt:TelX.tel ⟨yk,yw,ys,ya,yn,[],v1,v2,v3,v4,.slice none 0 0⟩=x.tel:=by rw[show TelX.tel ⟨yk,yw,ys,ya,yn,[],v1,v2,v3,v4,.slice none 0 0⟩=TelX.tel ⟨yk,yw,ys,ya,yn,[],v1,v2,v3,v4,v5⟩ from rfl,y2];simp only[TelX.tel,ho,List.map_nil]
  have hxo:x.tel.out=[]:=by simp[TelX.tel,ho]
  have new0:(∀j,Z2 v1 j->w.heap.size<=j)/\(∀j,Z2 v2 j->w.heap.size<=j)/\(∀j,(Z6 ys []).fp j->w.heap.size<=j):=⟨λj h=>Nat.le_trans hz1 (yf.1 j h),λj h=>Nat.le_trans hz1 (yf.2.1 j h),λj h=>Nat.le_trans hz1 (yf.2.2 j h)⟩
  intro b38;simp only[Tree.goal,X.P,X.ev,SV.ev,CV.ev,Sc.ev,qz,QA,QB,QC,QD,QE,QF,QG,QH,QI,QJ,QK,QL,QM,Nat.reduceAdd,qy3,qy4];refine⟨λh4=>?_,λh4=>⟨λh5=>?_,λh5 b39 w5 hr5=>?_⟩⟩
  ·intro b39 v40;refine⟨by first|omega|(simp;omega),λv42 b43 w5 hr5=>?_⟩;have hnil:∀s∈[toP n ⟨3,0,m.id,[],[],[]⟩],nilS s:=λs hs=>by rw[qy12.1 hs];exact⟨rfl,rfl,rfl⟩
   obtain⟨q1,q2⟩:=Zej (l:=ys) (o:=[]) hnil;refine⟨⟨yk,yw,ys,ya,yn,[nilX (toP n ⟨3,0,m.id,[],[],[]⟩)],v1,v2,v3,v4,v42⟩,by rw[h3];rfl,?_,Zq7 hr5 rfl (hr5.at_ 5 rfl) (hr5.at_ 6 rfl) (hr5.at_ 7 rfl) (hr5.at_ 8 rfl) (hr5.at_ 1 rfl) (q1 _ (hr5.at_ 9 rfl)) ⟨λj _ h=>new0.1 j h,λj _ h=>new0.2.1 j h,λj h=>new0.2.2 j (q2 j h)⟩ (Z30 hr5 7 rfl) (Z30 hr5 8 rfl) (Z30 hr5 1 rfl),hr5.mod⟩;rw[resB,if_pos h3,Z7o,if_pos h4,hxo,<- hyt];rfl
  ·intro w3 hr3;refine(Z3c (k:=b38) (x:=⟨yk,yw,ys,ya,yn,[],v1,v2,v3,v4,.slice none 0 0⟩) (F:=λ_=>False) (pre:=[]) hr3 39 38 [32,34]
    (Zwj w3 b38 ⟨yk,yw,ys,ya,yn,[],v1,v2,v3,v4,.slice none 0 0⟩ n m mv (((hr3.pick [1,2,3,4,6,5,0,19] (by decide)).conv rfl).base.conv rfl) (by rw[hyt];exact hB) (by show(0:Nat)<40000;decide) hn h3)
    rfl rfl (by show 38<39;decide) rfl (λj hj=>?_)).mono ?_
   ·rcases hj with hj|hj|hj|hj
    ·exact(qE 1 rfl rfl hj)
    ·exact(qE 2 rfl rfl hj)
    ·exact(qE 5 rfl rfl hj)
    ·exact hj.elim
   rintro e w4 ⟨z,z1,z2,zg,rfl,m1,m2,m3,m4⟩;refine⟨tlV z,rfl,rfl,m1,m2,m3,m4,?_⟩;have hz3:=hr3.mod.size;clear m1 m2 m3 m4;intro b51 w5 hr5;have hnew:=Zk9 zg hz3 new0;refine⟨z,by rw[h3];rfl,?_,Zq7 hr5 rfl (hr5.at_ 1 rfl) (hr5.at_ 2 rfl) (hr5.at_ 3 rfl) (hr5.at_ 4 rfl) (hr5.at_ 5 rfl) (hr5.at_ 6 rfl) hnew (Z30 hr5 3 rfl) (Z30 hr5 4 rfl) (Z30 hr5 5 rfl),hr5.mod⟩;rw[resB,if_pos h3,z1,hyt,Z7o,if_neg h4,if_pos h5]
  ·refine⟨⟨yk,yw,ys,ya,yn,[],v1,v2,v3,v4,.slice none 0 0⟩,by rw[h3];rfl,?_,⟨hr5.at_ 2 rfl,hr5.at_ 3 rfl,(hr5.at_ 4 rfl:owns _ _ _ _ _).reads,(hr5.at_ 5 rfl:owns _ _ _ _ _).reads,Za _ _,hr5.at_ 6 rfl,λj _ h=>new0.1 j h,λj _ h=>new0.2.1 j h,λj _ h=>Z30 hr5 4 rfl j h,λj _ h=>Z30 hr5 5 rfl j h,λj h=>absurd rfl h,new0.2.2⟩,hr5.mod⟩;rw[resB,if_pos h3,Z7o,if_neg h4,if_neg h5,hyt]
 ·have e:msgE n m x.tel=chkB x.tel:=by rw[msgE,if_pos h1]
  rw[e];exact Zd0 h1 hr3.mod
end Go.Proofs.Y
namespace Go.Proofs.Y
open Go.Sx
def Z10w(s:Snt):Prop:=(s.client=[]/\chk s.msg=0/\s.pk=pD_Q 0)\/(¬s.client=[]/\chkP s.pk=0/\s.msg=mNil/\s.peer=0)
def Z3e(l:List Snt):Prop:=∀s∈l,Z10w s
theorem Z3e.nil:Z3e []:=λs hs=>absurd hs (by simp)
theorem Z3e.app{a b:List Snt}(ha:Z3e a)(hb:Z3e b):Z3e (a++b):=λs hs=>(qy13.1 hs).elim (ha s) (hb s)
theorem Z3e.one{s:Snt}(h:Z10w s):Z3e [s]:=λx hx=>by rw[qy12.1 hx];exact h
theorem Z18a{c:List UInt8}(h:Zk c=true):¬c=[]:=by rintro rfl;exact absurd h (by decide)
theorem Z8p{c:List UInt8}{p:Pkt}(hc:Zk c=true)(hp:chkP p=0):Z10w (toC c p):=.inr ⟨Z18a hc,hp,rfl,rfl⟩
theorem Zws{n:Int}{m:Msg}(hm:chk m=0):Z10w (toP n m):=.inl ⟨rfl,hm,rfl⟩
def pkOk(k:Pk):Prop:=flE (0,k.2.2.2.1,k.2.2.2.2)=0/\((k.2.1=0/\k.1=false/\k.2.2.1=0)\/(k.2.1=1/\1<=k.2.2.1/\k.2.2.1<=65535))
theorem Z120{p:Pkt}(hk:p.kind=3)(h0:p.clean=false/\p.session=false/\p.keep=0/\p.code=0/\p.client=[]/\p.asks=[]/\p.codes=[])(hf:flE (0,p.topic,p.payload)=0) (hq:(p.qos=0/\p.dup=false/\p.id=0)\/(p.qos=1/\1<=p.id/\p.id<=65535)):chkP p=0:=by
 have hc:chkT p.topic false=0/\¬200<(p.payload.length:Int):=by
  unfold flE at hf;split at hf
  ·rename_i h1;split at hf
   ·exact absurd hf (by decide)
   ·exact⟨h1,by assumption⟩
  ·exact absurd hf (by assumption)
 have hp:pubE p=0:=by
  unfold pubE;rw[if_pos hc.1,if_neg hc.2];rcases hq with⟨h1,h2,h3⟩|⟨h1,h2⟩
  ·rw[if_pos (by omega),if_neg (by rintro⟨-,h4|h4⟩;(· rw[h2]at h4;cases h4);(· exact h4 h3))]
  ·rw[if_pos (by omega),if_neg (by omega)]
 unfold chkP;have hb:Z1p p=pD_Q p.kind:=by obtain⟨a,b,c,d,e,f,g⟩:=h0;unfold Z1p;rw[if_neg (by omega),if_neg (by omega),if_pos hk];cases p;simp_all
 rw[if_pos (by rw[hk];decide),if_pos (by rw[Z60,hb];exact decide_eq_true rfl),if_neg (by rintro⟨-,h⟩;exact h hp),if_neg,Z1q,if_neg (by omega),if_neg (by omega),if_pos hk,hp];rintro⟨h1,h2⟩;have h1:=of_decide_eq_true h1;rcases hq with⟨h3,-⟩|⟨h3,h4⟩
 ·omega
 ·exact h2 h4
theorem Z14t{k:Pk}(h:pkOk k):chkP (pkOf k)=0:=Z120 rfl ⟨rfl,rfl,rfl,rfl,rfl,rfl,rfl⟩ h.1 h.2
theorem Znu{c:List UInt8}{l:List Pk}(hc:Zk c=true)(h:∀k∈l,pkOk k):Z3e (l.map λk=>toC c (pkOf k)):=λs hs=>by obtain⟨k,hk,rfl⟩:=List.mem_map.1 hs;exact Z8p hc (Z14t (h k hk))
theorem Zka(on:Bool):∀(qu fl:List Fl) (next:Int) (out:List Pk),(∀f∈qu,flE f=0)->(1<=next/\next<=65535)->(∀k∈out,pkOk k)->∀k∈(flyR on fl qu next out).2.2.2,pkOk k
 | [],fl,next,out,_,_,h=>by simpa[flyR]using h
 | f::q,fl,next,out,hq,hn,h=>by
  rw[flyR];split
  ·have hid:=Zjc (fl:=fl) hn;refine Zka on q _ _ _ (λx hx=>hq x (qy10 _ hx)) (Zgt hid).1 λk hk=>?_;rcases qy13.1 hk with hk|hk
   ·exact h k hk
   ·rw[qy12.1 hk];exact⟨hq f (qy8 ..),.inr ⟨rfl,hid⟩⟩
  ·exact h
theorem Z14u{s:Ses}{n p:List UInt8}{q:Int}(h:SesOk s)(hp:flE (0,n,p)=0):∀k∈(Z2c s n p q).2,pkOk k:=by
 unfold Z2c;split
 ·intro k hk;rw[qy12.1 hk];exact⟨hp,.inl ⟨rfl,rfl,rfl⟩⟩
 ·split
  ·refine Zka _ _ _ _ _ (λf hf=>?_) h.next (by simp);rcases qy13.1 hf with hf|hf
   ·exact(h.qu f hf).1
   ·rw[qy12.1 hf];exact hp
  ·simp
theorem Z14v{s:Ses}(h:SesOk s):∀k∈(Zb4 s).2,pkOk k:=by
 intro k hk;rcases qy13.1 hk with hk|hk
 ·obtain⟨f,hf,rfl⟩:=List.mem_map.1 hk;have:=h.fl.each f hf;exact⟨this.1,.inr ⟨rfl,this.2⟩⟩
 ·exact Zka true s.qu s.fl s.next [] (λf hf=>(h.qu f hf).1) h.next (by simp) k hk
theorem Z14w{s:Ses}{id:Int}(h:SesOk s):∀k∈(Z3k s id).2,pkOk k:=Zka s.on s.qu (Z2l s.fl id) s.next [] (λf hf=>(h.qu f hf).1) h.next (by simp)
theorem Z121{m:Msg}(hk:0<=m.kind/\m.kind<=3)(hc:1<=m.code/\m.code<=255)(hi:0<=m.id/\m.id<=65535)(ht:m.tok.length<=8)(hp:m.pay.length<=200)(ho:m.opts=[]\/∃v:List UInt8,v.length<=60/\m.opts=[(6,v)]):chk m=0:=by
 refine Zpj.2 ⟨hk,⟨by omega,by omega,hi.1,hi.2⟩,⟨ht,?_,hp⟩,?_,λh=>by omega⟩
 ·rcases ho with h|⟨v,-,h⟩<;>rw[h]<;>simp
 ·rcases ho with h|⟨v,hv,h⟩
  ·rw[h];rfl
  ·rw[h]
   show(if(0:Int)<=6/\(6:Int)<=65535 then(if(6:Int)<0 then 4 else if 60<(v.length:Int)then 2 else optE 6 [])else 3)=0
   rw[if_pos (by decide),if_neg (by decide),if_neg (by omega)];rfl
theorem Zwt{m:Msg}{n:Int}(h:m.opts=[]):(putM m n).opts=[(6,Z24 n)]:=by simp[putM,h,Zzx,noN,upTo,past]
theorem Z10x{n:Int}:(Z24 n).length<=3:=by
 have h1:(Z24 n).length<=(numB 3 n).length:=by unfold Z24;exact(List.dropWhile_suffix _).length_le
 have h2:(numB 3 n).length=3:=by simp[numB]
 omega
theorem Z10y{m:Msg}{n:Int}(hk:0<=m.kind/\m.kind<=3)(hc:1<=m.code/\m.code<=255)(hi:0<=m.id/\m.id<=65535)(ht:m.tok.length<=8)(hp:m.pay.length<=200)(ho:m.opts=[]):chk (putM m n)=0 :=
 Z121 (m:=putM m n) hk hc hi ht hp (.inr ⟨_,by have:=@Z10x n;omega,Zwt ho⟩)
theorem Z122{l:List Wat}(h:Z17 l=0){w:Wat}(hw:w∈l):w.2.1.length<=8/\(0<=w.2.2.2/\w.2.2.2<=16777215):=by
 obtain⟨h1,h2⟩:=(Z12.1 h).2.1 w hw;refine⟨?_,h2⟩;unfold Z59 at h1;split at h1
 ·split at h1
  ·exact absurd h1 (by decide)
  ·omega
 ·exact absurd h1 (by decide)
theorem Z174{n p:List UInt8}(hf:flE (0,n,p)=0):p.length<=200:=by
 unfold flE at hf;split at hf
 ·split at hf
  ·exact absurd hf (by decide)
  ·rename_i h1;simp only at h1;omega
 ·exact absurd hf (by assumption)
theorem Zic{n p:List UInt8}{q:Int}(hp:flE (0,n,p)=0):∀(rs:List Rd) {t:Tel},BOk t->(∀r∈rs,hasS t.sess r.1=true)->Z3e t.out->Z3e (rs.foldl (Z1g n p q) t).out
 | [],t,_,_,ho=>ho
 | r::rs,t,h,hr,ho=>by obtain⟨a,b,c⟩:=Zpw (q:=q) h hp (hr r (qy8 ..));have h0:=hr r (qy8 ..);have hs:=Z8n h h0;refine Zic hp rs a (λx hx=>by rw[Zcr h.sort b];exact hr x (qy10 _ hx)) (ho.app (Znu ?_ (Z14u hs hp)));have:=hs.cl;rw[(Z7s h0).2]at this;exact this
theorem Zid{p:List UInt8}(hp:p.length<=200):∀(l:List Wat) {t:Tel},0<=t.next/\t.next<=65535->(∀w∈l,w.2.1.length<=8)->Z3e t.out->Z3e (l.foldl (Z4k p) t).out
 | [],t,_,_,ho=>ho
 | w::l,t,h,hl,ho=>Zid hp l (Zm0 _ h.1) (λx hx=>hl x (qy10 _ hx)) (ho.app (.one (Zws (Z10y (by simp) (by simp) h (hl w (qy8 ..)) hp rfl))))
theorem Zwu{t:Tel}{n p:List UInt8}{q:Int}(h:BOk t)(hp:flE (0,n,p)=0)(ho:Z3e t.out):Z3e (Z6y n p q t).out:=by obtain⟨a,b,c,d1,d2,d3,d4⟩:=Z8o (q:=q) hp (rdOf n t.wants) h (Z5f h n);refine Zid (Z174 hp) _ a.next (λw hw=>?_) (Zic hp _ h (Z5f h n) ho);unfold Z39 at hw;obtain⟨x,hx,rfl⟩:=List.mem_map.1 hw;have:=(Z122 a.wat (List.mem_filter.1 hx).1).1;unfold Z4d;split<;>exact this
theorem Zie:∀(l:List Wat) {t:Tel},0<=t.next/\t.next<=65535->(∀w∈l,w.2.1.length<=8)->Z3e t.out->Z3e (l.foldl Zbn t).out
 | [],t,_,_,ho=>ho
 | w::l,t,h,hl,ho=>Zie l (Zm0 _ h.1) (λx hx=>hl x (qy10 _ hx)) (ho.app (.one (Zws (Z121 (by simp) (by simp) h (hl w (qy8 ..)) (by simp) (.inl rfl)))))
theorem Zwv{t:Tel}{n p:List UInt8}(h:BOk t)(ho:Z3e t.out):Z3e (Z1f n p t).1.out:=by
 unfold Z1f;split
 ·exact ho
 split
 ·exact ho
 ·exact Zie _ (t:={ t with kept:=(rawK t.kept n p).1 }) h.next (λw hw=>(Z122 h.wat (List.mem_filter.1 hw).1).1) ho
theorem Z10z{k:Kp}(h:okK k):flE (0,k.1,k.2.1)=0:=by rw[flE,if_pos h.1,if_neg h.2.2.1]
theorem Zq8{c:List UInt8}(hc:Zk c=true){kept:List Kp}(h:chkK kept=0):∀(l:List Ak) (m:List Int),Z3e (Z34 c kept l m)
 | [],_=>by simp only[Z34];exact .nil
 | _::_,[]=>by simp only[Z34];exact .nil
 | a::l,q::m=>by
  rw[Z34];refine Z3e.app ?_ (Zq8 hc h l m);unfold Zgz;split
  ·exact .nil
  ·intro s hs;obtain⟨k,hk,rfl⟩:=List.mem_map.1 hs;exact Z8p hc (Z120 rfl ⟨rfl,rfl,rfl,rfl,rfl,rfl,rfl⟩ (Z10z ((Zz.1 h).2.1 k (List.mem_filter.1 hk).1)) (.inl ⟨rfl,rfl,rfl⟩))
theorem Zif{c:List UInt8}:∀(l:List Ak) {x:List Wt×List Int},Zi7 l->(∀q∈x.2,q=0\/q=1\/q=128)->(∀q∈(l.foldl (Z26 c) x).2,q=0\/q=1\/q=128)/\(l.foldl (Z26 c) x).2.length=x.2.length+l.length
 | [],x,_,h=>⟨h,rfl⟩
 | a::l,x,hl,h=>by
  have ha:=(hl a (qy8 ..)).2;have h1:(∀q∈(Z26 c x a).2,q=0\/q=1\/q=128)/\(Z26 c x a).2.length=x.2.length+1:=by
   unfold Z26;split
   ·refine⟨λq hq=>?_,by simp⟩;rcases qy13.1 hq with hq|hq
    ·exact h q hq
    ·rw[qy12.1 hq];omega
   ·refine⟨λq hq=>?_,by simp⟩;rcases qy13.1 hq with hq|hq
    ·exact h q hq
    ·rw[qy12.1 hq];omega
  obtain⟨h2,h3⟩:=Zif (c:=c) l (λy hy=>hl y (qy10 _ hy)) h1.1;refine⟨h2,?_⟩;rw[List.foldl_cons,h3,h1.2,List.length_cons];omega
theorem Znv{p:Pkt}(h1:Z87 p.kind=true)(h2:Z1p p=pD_Q p.kind)(h3:¬p.kind=3)(h4:1<=p.id/\p.id<=65535):chkP p=Z1q p:=by unfold chkP;rw[if_pos h1,if_pos (show Z60 (Z1p p)=true by rw[Z60,h2];exact decide_eq_true rfl),if_neg (λh=>h3 h.1),if_neg (λh=>h.2 h4)]
theorem Z175{k id:Int}(hk:k=4\/k=11)(h:1<=id/\id<=65535):chkP { pD_Q k with id:=id }=0:=by
 rcases hk with rfl|rfl
 ·exact(Znv (p:={ pD_Q 4 with id:=id }) (show Z87 4=true by decide) rfl (show ¬(4:Int)=3 by decide) h).trans rfl
 ·exact(Znv (p:={ pD_Q 11 with id:=id }) (show Z87 11=true by decide) rfl (show ¬(11:Int)=3 by decide) h).trans rfl
theorem Zww{id:Int}{cs:List Int}(h:1<=id/\id<=65535)(hn:1<=cs.length/\cs.length<=5)(hc:∀q∈cs,q=0\/q=1\/q=128):chkP { pD_Q 9 with id:=id,codes:=cs }=0:=by
 rw[Znv (p:={ pD_Q 9 with id:=id,codes:=cs }) (show Z87 9=true by decide) rfl (show ¬(9:Int)=3 by decide) h]
 show Zbg { pD_Q 9 with id:=id,codes:=cs }=0
 have hcnt:Zl cs.length=0:=by unfold Zl;rw[if_neg (by omega),if_neg (by omega)]
 unfold Zbg;rw[if_pos hcnt,if_neg];simp only[Bool.not_eq_true,List.any_eq_false];intro q hq;rcases hc q hq with rfl|rfl|rfl<;>decide
theorem Zig{code:Int}{s:Bool}(h:(code=3/\s=false)\/code=0):chkP { pD_Q 2 with code:=code,session:=s }=0:=by
 rcases h with⟨rfl,rfl⟩|rfl
 ·decide
 ·cases s<;>decide
theorem Znw{t:Tel}(h:BOk t){c:List UInt8}(hc:Zk c=true){p:Pkt}(hp:chkP p=0)(ho:Z3e t.out):Z3e (Z14 c p t).out:=by
 unfold Z14;split
 ·exact ho
 rename_i h1;split
 ·unfold Z25;split
  ·exact ho
  split
  ·exact ho.app (.one (Z8p hc (Zig (.inl ⟨rfl,rfl⟩))))
  ·obtain⟨a,b⟩:=Zei h hc p.clean;exact(ho.app (.one (Z8p hc (Zig (.inr rfl))))).app (Znu hc (Z14v a))
 rename_i h2;have h3:hasS t.sess c=true/\(t.sess.getD (idxS t.sess c) s0).on=true:=⟨Classical.byContradiction λh4=>h1 ⟨h2,.inl h4⟩,Classical.byContradiction λh4=>h1 ⟨h2,.inr h4⟩⟩
 obtain⟨p1,p2,p3,-⟩:=Zct hp;split
 ·rename_i h4;obtain⟨q1,q2,q3,q4,hf⟩:=Zq0 (p2 h4);obtain⟨t1,e1,k1,o1⟩:∃t1:Tel,t1=(if p.qos=1 then { t with out:=t.out++[toC c { pD_Q 4 with id:=p.id }] }else t)/\BOk t1/\Z3e t1.out:=by
   refine⟨_,rfl,?_⟩;split
   ·rename_i h5;exact⟨h.out _,ho.app (.one (Z8p hc (Z175 (.inl rfl) (p3 (decide_eq_true (.inl ⟨h4,h5⟩))))))⟩
   ·exact⟨h,ho⟩
  obtain⟨t2,e2,k2,o2⟩:∃t2:Tel,t2=(if p.retain=true then(Z1f p.topic p.payload t1).1 else t1)/\BOk t2/\Z3e t2.out:=by
   refine⟨_,rfl,?_⟩;split
   ·exact⟨(Z91 k1 q1).1,Zwv k1 o1⟩
   ·exact⟨k1,o1⟩
  have e:Z2w c p t=Z6y p.topic p.payload p.qos t2:=by rw[e2,e1];rfl
  rw[e];exact Zwu k2 hf o2
 split
 ·exact ho.app (Znu hc (Z14w (Z8n h h3.1)))
 split
 ·rename_i h4;obtain⟨a,b1,b2⟩:=Zm4 hp h4;obtain⟨c1,c2⟩:=Zif (c:=c) p.asks (x:=(t.wants,[])) a (by simp);simp only[List.length_nil,Nat.zero_add]at c2;exact(ho.app (.one (Z8p hc (Zww (p3 (decide_eq_true (by omega))) (by rw[c2];exact⟨b1,b2⟩) c1)))).app (Zq8 hc h.kept _ _)
 split
 ·exact ho.app (.one (Z8p hc (Z175 (.inr rfl) (p3 (decide_eq_true (by omega))))))
 split
 ·exact ho.app (.one (Z8p hc (by decide)))
 split
 ·rw[(Zbt h c).2];exact ho
 ·exact ho
section
variable (w:World) (p:Pkt) (u v:Value)
end
section
variable (w:World) (p q:Pkt) (u v x y:Value)
theorem Z14x{a b:List Ak}(hl:a.length=b.length)(h:∀i,i<a.length->a.getD i aD=b.getD i aD):a=b:=by refine List.ext_getElem hl λi h1 h2=>?_;have:=h i h1;rw[qy1,qy1,qy7 h1,qy7 h2]at this;exact this
theorem Z110{a b:List Int}(hl:a.length=b.length)(h:∀i,i<a.length->a.getD i 0=b.getD i 0):a=b:=by refine List.ext_getElem hl λi h1 h2=>?_;have:=h i h1;rw[qy1,qy1,qy7 h1,qy7 h2]at this;exact this
theorem Zh4(hu:Z62 w u p.asks)(hv:Z5d w v p.codes)(hx:Z62 w x q.asks)(hy:Z5d w y q.codes)(hs:SmallP p) : Calls Tryz.prog 135 #[pV p u v,pV q x y] w λe w'=>e=.returned (.bool (decide (p=q)))/\Mod [] w w':=by
 refine Z1 (Z3 (J:=[.i p.kind,.b p.dup,.b p.retain,.b p.clean,.b p.session,.i p.qos,.i p.id,.i p.keep,.i p.code,.s p.client,.s p.topic,.s p.payload,.v u,.r (p.asks.map encA),.v v,.r (p.codes.map Z18),.i q.kind,.b q.dup,.b q.retain,.b q.clean,.b q.session,.i q.qos,.i q.id,.i q.keep,.i q.code,.s q.client,.s q.topic,.s q.payload,.v x,.r (q.asks.map encA),.v y,.r (q.codes.map Z18)]) sxE_ok Tryz.func135 Z53 rfl rfl (Rel.start2 (by simp[Ent.holds,Ent.wr,hu,hv,hx,hy,X.ev])) rfl rfl ?_) rfl;have h4:=hs.asks;have h5:=hs.codes;simp only[Tree.goal,X.P,X.ev,SV.ev,CV.ev,Sc.ev,qz,QA,QB,QC,QD,QE,QF,QG,QH,QI,QJ,QK,QL,QM,Nat.reduceAdd,qy3];intro b1 b2;refine⟨λh w' hr=>⟨?_,hr.mod⟩,λh=>?_⟩
 ·have:¬p=q:=λe=>by subst e;simp at h
  simp[this]
 simp only[not_or,qy9]at h;obtain⟨⟨⟨⟨⟨⟨⟨⟨⟨⟨⟨⟨⟨e1,e2⟩,e3⟩,e4⟩,e5⟩,e6⟩,e7⟩,e8⟩,e9⟩,e10⟩,e11⟩,e12⟩,e13⟩,e14⟩:=h;refine⟨λvs=>∃(i:Nat) (b:V),vs=[b,.i i]/\i<=p.asks.length/\∀j,j<i->p.asks.getD j aD=q.asks.getD j aD,λvs=>p.asks.length - (vs.getD 1 (.i 0)).toI.toNat,⟨0,_,rfl,by omega,by omega⟩,?_⟩;rintro _ - ⟨i,vb,rfl,hi,hg⟩;simp only[Tree.goal,X.P,X.ev,SV.ev,CV.ev,Sc.ev,qz,QA,QB,QC,QD,QE,QF,QG,QH,QI,QJ,QK,QL,QM,Nat.reduceAdd,qy3,qy4,gA0,gA1];refine⟨λh2=>⟨by omega,by omega,λh3 w' hr=>⟨?_,hr.mod⟩,λh3=>⟨by omega,by omega,⟨i+1,vb,rfl,by omega,λj hj=>?_⟩,by omega⟩⟩,λh2=>?_⟩
 ·have:¬p=q:=λe=>h3 (by subst e;exact⟨rfl,rfl⟩);simp[this]
 ·by_cases hji:j=i
  ·subst hji;have h3:=qy9.1 h3;exact Prod.ext h3.1 h3.2
  ·exact hg j (by omega)
 have ea:=Z14x (a:=p.asks) (b:=q.asks) (by omega) (λj hj=>hg j (by omega));refine⟨λvs=>∃(i:Nat) (b:V),vs=[b,.i i]/\i<=p.codes.length/\∀j,j<i->p.codes.getD j 0=q.codes.getD j 0,λvs=>p.codes.length - (vs.getD 1 (.i 0)).toI.toNat,⟨0,_,rfl,by omega,by omega⟩,?_⟩;rintro _ - ⟨k,vc,rfl,hk,hgk⟩;simp only[Tree.goal,X.P,X.ev,SV.ev,CV.ev,Sc.ev,qz,QA,QB,QC,QD,QE,QF,QG,QH,QI,QJ,QK,QL,QM,Nat.reduceAdd,qy3,qy4,gI0];refine⟨λh3=>⟨by omega,by omega,λh4 w' hr=>⟨?_,hr.mod⟩,λh4=>⟨by omega,by omega,⟨k+1,vc,rfl,by omega,λj hj=>?_⟩,by omega⟩⟩,λh3 w' hr=>⟨?_,hr.mod⟩⟩
 ·have:¬p=q:=λe=>h4 (by subst e;rfl);simp[this]
 ·by_cases hjk:j=k
  ·subst hjk;exact qy9.1 h4
  ·exact hgk j (by omega)
 ·have ec:=Z110 (a:=p.codes) (b:=q.codes) (by omega) (λj hj=>hgk j (by omega));have:p=q:=by
   cases p;cases q;simp only at *;simp_all
  simp[this]
end
end Go.Proofs.Y
namespace Go.Proofs.Y
open Go.Sx
theorem Z111{a b:List UInt8}{i:Nat}(h:a.take i=b.take i)(hi:i<a.length)(hj:i<b.length)(hne:¬a.getD i 0=b.getD i 0):Zd a b=decide (a.getD i 0<b.getD i 0):=by
 induction i generalizing a b with
 | zero =>
  match a,b,hi,hj with
  | x::a,y::b,_,_ =>
   simp only[List.getD_cons_zero]at hne;simp[Zd,Op.bytesLess,hne]
 | succ i ih =>
  match a,b,hi,hj with
  | x::a,y::b,hi,hj =>
   simp only[List.take_succ_cons,List.cons.injEq]at h;obtain⟨rfl,h⟩:=h;simp only[List.getD_cons_succ]at hne⊢;have:=ih h (by simpa using hi) (by simpa using hj) hne
   show(decide (x<x) || (x == x && Zd a b))=_
   rw[this];simp[UInt8.lt_irrefl]
theorem Zwx{a b:List UInt8}{i:Nat}(h:a.take i=b.take i)(hi:i<=a.length)(hj:i<=b.length)(he:i=a.length\/i=b.length):Zd a b=decide (a.length<b.length):=by
 induction i generalizing a b with
 | zero =>
  match a,b with
  | [],[]=>rfl
  | [],_::_=>rfl
  | _::_,[]=>simp[Zba]
  | _::_,_::_=>simp at he
 | succ i ih =>
  match a,b,hi,hj with
  | x::a,y::b,hi,hj =>
   simp only[List.take_succ_cons,List.cons.injEq]at h;obtain⟨rfl,h⟩:=h;have:=ih h (by simpa using hi) (by simpa using hj) (by simpa using he);simp[Zd,Op.bytesLess,UInt8.lt_irrefl];simpa using this
theorem Z14y{a b:List UInt8}{i:Nat}(h:a.take i=b.take i)(hi:i<a.length)(hj:i<b.length)(he:a.getD i 0=b.getD i 0):a.take (i+1)=b.take (i+1):=by rw[List.take_add_one,List.take_add_one,h];simp only[qy1,qy7 hi,qy7 hj,Option.getD_some]at he;rw[qy7 hi,qy7 hj,he]
theorem Z35(w:World)(a b:List UInt8)(ha:a.length<1099511627776):Calls Tryz.prog 28 #[.string ⟨a.toArray⟩,.string ⟨b.toArray⟩] w λe w'=>e=.returned (.bool (Zd a b))/\Mod [] w w':=by
 refine Z1 (Z9 (J:=[.s a,.s b]) sxE_ok Tryz.func28 Z2r rfl rfl rfl ?_) rfl;simp only[Tree.goal,X.P,X.ev,SV.ev,CV.ev,Sc.ev,qz,QA,QB,QC,QD,QE,QF,QG,QH,QI,QJ,QK,QL,QM,Nat.reduceAdd];refine⟨λvs=>∃(i:Nat) (x:V),vs=[x,.i i]/\i<=a.length/\i<=b.length/\a.take i=b.take i,λvs=>a.length - (vs.getD 1 (.i 0)).toI.toNat,⟨0,_,rfl,by omega,by omega,rfl⟩,?_⟩;rintro _ - ⟨i,x,rfl,hi,hj,ht⟩;simp only[Tree.goal,X.P,X.ev,SV.ev,CV.ev,Sc.ev,qz,QA,QB,QC,QD,QE,QF,QG,QH,QI,QJ,QK,QL,QM,Nat.reduceAdd,qy4];refine⟨λh1=>⟨by omega,λh2 w' hr=>⟨?_,hr.mod⟩,λh2=>⟨by omega,by omega,⟨i+1,x,rfl,by omega,by omega,Z14y ht (by omega) (by omega) ?_⟩,by omega⟩⟩,λh1 w' hr=>⟨?_,hr.mod⟩⟩
 ·rw[Z111 ht (by omega) (by omega) (λe=>h2 (by rw[e]))];simp[UInt8.lt_iff_toNat_lt]
 ·have h3:=qy9.1 h2;exact UInt8.toNat_inj.1 (by exact_mod_cast h3)
 ·rw[Zwx ht hi hj (by omega)];simp
