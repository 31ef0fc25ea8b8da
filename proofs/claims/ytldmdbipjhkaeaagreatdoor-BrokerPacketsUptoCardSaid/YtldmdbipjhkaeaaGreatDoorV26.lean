/- By an AI agent. -/
import Derived.Test.YtldmdbipjhkaeaaGreatDoorV24
import Derived.Test.YtldmdbipjhkaeaaGreatDoorV25
import Derived.Test.YtldmdbipjhkaeaaGreatDoorV01
import Derived.WalkKit
import Derived.ProofKit
import Derived.OpenShut
import Derived.JoinedCond
import Derived.ChangeStays
import Derived.Test.YtldmdbipjhkaeaaGreatDoorV05
import Derived.Test.YtldmdbipjhkaeaaGreatDoorV11
import Derived.Test.YtldmdbipjhkaeaaGreatDoorV12
import Derived.Test.YtldmdbipjhkaeaaGreatDoorV09
import Derived.Test.YtldmdbipjhkaeaaGreatDoorV10
set_option linter.all false
set_option maxHeartbeats 20000000
namespace Go.Proofs.Y
open Go Go.Sx
theorem Zqc{c:List UInt8}{p:Pkt}{t:Tel}(h:pktE c p t=0):BOk t/\Zk c=true/\chkP p=0:=by
  unfold pktE at h;split at h
  . exact absurd h (by assumption)
  rename_i h1;split at h
  . exact absurd h (by decide)
  rename_i h2;exact⟨Z8z.1 (qy9.1 h1),qy9.1 h2,h⟩
theorem Zqd{c:List UInt8}{t:Tel}(h:gonE c t=0):BOk t/\Zk c=true:=by
  unfold gonE at h;split at h
  . exact absurd h (by assumption)
  rename_i h1;split at h
  . exact absurd h (by decide)
  rename_i h2;exact⟨Z8z.1 (qy9.1 h1),qy9.1 h2⟩
theorem Zxh{e:Int}{t u:Tel}(h:e=0->t=u):resB e t=resB e u:=by
  unfold resB;split
  . rename_i h1;exact h h1
  . rfl
theorem Zij(w:World)(x y:TelX)(e:Int)(hx:RdX w x)(ox:reads w x.ov kSn (x.ox.map Z1a))(hy:RdX w y)(oy:reads w y.ov kSn (y.ox.map Z1a))(hs:SmlT x.tel)(h6:Zq9 x.ox)(h7:x.ox.length<1000000000)(h0:x.tel=resB e y.tel) : Calls Tryz.prog 14 #[bkV x,sc1 x.ov,.int .i64 e,.int .i64 e,bkV y,sc1 y.ov] w λr w'=>r=.returned (.bool true)/\Mod [] w w':=by
  refine Z1 (Z3 (J:=bkA x++([V.v x.ov,V.r (x.ox.map Z1a),V.a (Z6 x.sx x.ox),V.i e,V.i e]++(bkA y++[V.v y.ov,V.r (y.ox.map Z1a),V.a (Z6 y.sx y.ox)]))) (sxE_ok.joins _) Tryz.func14 Z6i rfl rfl
    (Rel.start2 (qy2.2 ⟨⟨hx.kept,rfl⟩,qy2.2 ⟨⟨hx.want,rfl⟩,qy2.2 ⟨⟨hx.sess,rfl⟩,qy2.2 ⟨⟨hx.nest,rfl⟩,qy2.2 ⟨⟨hx.wat,rfl⟩,qy2.2 ⟨⟨ox,rfl⟩,qy2.2 ⟨⟨hx.nest,rfl⟩,qy2.2 ⟨⟨hy.kept,rfl⟩,qy2.2 ⟨⟨hy.want,rfl⟩,qy2.2 ⟨⟨hy.sess,rfl⟩,qy2.2 ⟨⟨hy.nest,rfl⟩,qy2.2 ⟨⟨hy.wat,rfl⟩,qy2.2 ⟨⟨oy,rfl⟩,qy2.2 ⟨⟨hy.nest,rfl⟩,qy5 _⟩⟩⟩⟩⟩⟩⟩⟩⟩⟩⟩⟩⟩⟩)) rfl rfl ?_) rfl
  simp only[Tree.goal,X.P,X.ev,SV.ev,CV.ev,Sc.ev,qz,QA,QB,QC,QD,QE,QF,QG,QH,QI,QJ,QK,QL,QM,Nat.reduceAdd,qy3,qy4];intro b28 b29;refine⟨λvs=>∃z:TelX,vs=[.i 0,.v z.ov,.v z.kv,.v z.wv,.v z.sv,.v z.av,.i z.next,.r (z.ox.map Z1a),.r (z.kept.map encK),.r (z.wants.map Z7),.r (z.sx.map Zc),.r (z.wat.map Z8)]/\z=if e=0 then y else Zns,⟨λh=>⟨Zns,rfl,by rw[if_neg h]⟩,λh=>⟨y,rfl,by rw[if_pos (qy9.1 h)]⟩⟩,?_⟩;rintro _ - ⟨z,rfl,hz⟩;simp only[Tree.goal,X.P,X.ev,SV.ev,CV.ev,Sc.ev,qz,QA,QB,QC,QD,QE,QF,QG,QH,QI,QJ,QK,QL,QM,Nat.reduceAdd,qy3,qy4];have hzt:z.tel=x.tel:=by rw[h0,hz,resB];split<;>rfl
  have hzn:∀{w':World},(Z6 y.sx y.ox).holds w'->(Z6 z.sx z.ox).holds w':=λ{w'} h=>by
    rw[hz];split
    . exact h
    . exact Z7t w'
  refine⟨[.b true],rfl,λh w' hr=>?_,?_⟩
  . have hc:=Zme w' x z ⟨hr.at_ 7 rfl,hr.at_ 8 rfl,hr.at_ 9 rfl,hr.at_ 10 rfl,hr.at_ 11 rfl⟩ ⟨hr.at_ 1 rfl,hr.at_ 2 rfl,hr.at_ 3 rfl,hzn (hr.at_ 17 rfl),hr.at_ 4 rfl⟩ hs.b.keptL hs.b.wantsL hs.b.watL (by have:=hs.b.sessL;omega) hs.f;rw[show Zo2 x.tel z.tel=true from Zx0.2 (by rw[hzt])]at hc;exact hc
  simp only[Tree.goal,X.P,X.ev,SV.ev,CV.ev,Sc.ev,qz,QA,QB,QC,QD,QE,QF,QG,QH,QI,QJ,QK,QL,QM,Nat.reduceAdd,qy3,qy4];refine⟨[.b true],rfl,λh w' hr=>?_,?_⟩
  . have hc:=Zs4 w' x.ov z.ov x.ox z.ox x.sx z.sx (hr.at_ 12 rfl) (hr.at_ 0 rfl) (hr.at_ 10 rfl) (hzn (hr.at_ 17 rfl)) h6 h7;rw[show Zx1 (x.ox.map (·.1)) (z.ox.map (·.1))=true from Zgg.2 (congrArg Tel.out hzt).symm]at hc;exact hc
  simp only[Tree.goal,X.P,X.ev,SV.ev,CV.ev,Sc.ev,qz,QA,QB,QC,QD,QE,QF,QG,QH,QI,QJ,QK,QL,QM,Nat.reduceAdd,qy3,qy4];intro w' hr;exact⟨by simp,hr.mod⟩
theorem Zqe{e:Int}{t:Tel}{y:TelX}(hy:y.tel=resB e t)(h:e=0->BOk t):SmlT y.tel:=by rw[hy];exact .res h
theorem Z118{e:Int}{t:Tel}{y:TelX}(hy:y.tel=resB e t)(h:e=0->Z3e t.out/\t.out.length<=200):Zq9 y.ox/\y.ox.length<1000000000:=by
  have h1:y.ox.map (·.1)=(resB e t).out:=by rw[<- hy];rfl
  have h2:(resB e t).out.length<=200/\Z3e (resB e t).out:=by
    unfold resB;split
    . rename_i h3;exact⟨(h h3).2,(h h3).1⟩
    . exact⟨by decide,.nil⟩
  refine⟨Zx2 (by rw[h1];exact h2.2),?_⟩;have h3:=congrArg List.length h1;rw[qy3]at h3;omega
set_option maxRecDepth 4000 in
theorem Zgi(w:World)(x:TelX)(c:List UInt8)(p:Pkt)(va vc:Value)(hx:RdX w x)(ha:Z62 w va p.asks)(hc:Z5d w vc p.codes)(ho:x.ox=[])(hs:SmlT x.tel)(hcl:c.length<1099511627776)(hp:SmallP p) : Calls Tryz.prog 3 #[bkV x,.string ⟨c.toArray⟩,pV p va vc] w λe w'=>e=.returned (.bool true)/\Mod [] w w':=by
  obtain⟨xk,xw,xs,xa,xn,xo,v1,v2,v3,v4,v5⟩:=x;simp only at ho;subst ho;have hb0:=hs.b;have hf0:=hs.f;refine Z1 (Z3 (J:=bkA ⟨xk,xw,xs,xa,xn,[],v1,v2,v3,v4,v5⟩++Z3g c p va vc) (sxE_ok.joins _) Tryz.func3 Z3w rfl rfl (Zxc hx ha hc) rfl rfl ?_) rfl;simp only[Tree.goal,X.P,X.ev,SV.ev,CV.ev,Sc.ev,qz,QA,QB,QC,QD,QE,QF,QG,QH,QI,QJ,QK,QL,QM,Nat.reduceAdd,qy3,qy4];obtain⟨t,ht⟩:∃t:Tel,t=TelX.tel ⟨xk,xw,xs,xa,xn,[],v1,v2,v3,v4,v5⟩:=⟨_,rfl⟩
  have hto:t.out=[]:=by rw[ht];rfl
  have htb:TelX.tel ⟨xk,xw,xs,xa,xn,[],v1,v2,v3,v4,.slice none 0 0⟩=t:=by rw[ht];rfl
  intro b27 b28 w1 hr1;have hq:=Zmc w1 ⟨xk,xw,xs,xa,xn,[],v1,v2,v3,v4,v5⟩ c p va vc (Zxc ⟨hr1.at_ 2 rfl,hr1.at_ 3 rfl,hr1.at_ 4 rfl,hr1.at_ 5 rfl,hr1.at_ 6 rfl⟩ (hr1.at_ 7 rfl) (hr1.at_ 8 rfl)) rfl hb0 hf0 hcl hp;rw[<- ht]at hq;obtain⟨e1,he1⟩:∃e,e=pktE c p t:=⟨_,rfl⟩
  rw[<- he1]at hq;refine(Zxa hr1 29 hq rfl).mono ?_;rintro r w2 ⟨y1,t1,-,rfl,m1,m3,m4⟩;refine⟨brV y1 e1,rfl,rfl,m1,qy5 _,m3,m4,?_⟩;clear m1 m3 m4 hr1 hq;intro b42 w3 hr3;have hq:=Zwr w3 ⟨xk,xw,xs,xa,xn,[],v1,v2,v3,v4,v5⟩ c (Z124 ⟨hr3.at_ 9 rfl,hr3.at_ 10 rfl,hr3.at_ 11 rfl,hr3.at_ 12 rfl,hr3.at_ 13 rfl⟩) rfl hb0 hf0 hcl;rw[<- ht]at hq;obtain⟨e3,he3⟩:∃e,e=gonE c t:=⟨_,rfl⟩
  rw[<- he3]at hq;refine(Z123 hr3 43 hq rfl).mono ?_;rintro r w4 ⟨y3,t3,o3,-,rfl,m1,m3,m4⟩;refine⟨gnV y3 e3,rfl,rfl,m1,qy5 _,m3,m4,?_⟩;clear m1 m3 m4 hr3 hq;intro b54;refine⟨[.i (chkB t)],rfl,λ_ w' hr=>by rw[ht];exact Zh5 w' ⟨xk,xw,xs,xa,xn,[],v1,v2,v3,v4,v5⟩ ⟨hr.at_ 15 rfl,hr.at_ 16 rfl,hr.at_ 17 rfl,hr.at_ 18 rfl,hr.at_ 19 rfl⟩ rfl hb0,?_⟩;simp only[Tree.goal,X.P,X.ev,SV.ev,CV.ev,Sc.ev,qz,QA,QB,QC,QD,QE,QF,QG,QH,QI,QJ,QK,QL,QM,Nat.reduceAdd,qy3,qy4];refine⟨[.b (Zk c)],rfl,λ_ w' _=>Zdb w' c hcl,?_⟩;simp only[Tree.goal,X.P,X.ev,SV.ev,CV.ev,Sc.ev,qz,QA,QB,QC,QD,QE,QF,QG,QH,QI,QJ,QK,QL,QM,Nat.reduceAdd,qy3,qy4];refine⟨λvs=>vs=[.i e3],⟨λh=>?_,λh=>?_⟩,?_⟩
  . rw[he3,gonE,if_neg (qy9.2 h.1),if_pos h.2]
  . rw[he3,gonE];by_cases h1:chkB t=0
    . rw[if_neg (qy9.2 h1),if_neg (λh2=>h ⟨h1,h2⟩),h1]
    . rw[if_pos h1]
  rintro _ - rfl;simp only[Tree.goal,X.P,X.ev,SV.ev,CV.ev,Sc.ev,qz,QA,QB,QC,QD,QE,QF,QG,QH,QI,QJ,QK,QL,QM,Nat.reduceAdd,qy3,qy4];have he13:e1=if e3=0 then chkP p else e3:=by
    rw[he1,he3,pktE,gonE];by_cases h1:chkB t=0
    . by_cases h2:Zk c=true
      . simp[h1,h2]
      . simp[h1,h2]
    . simp[h1]
  refine⟨λvs=>vs=[.i 0,.i e1],⟨λh=>⟨[.i (chkP p)],rfl,λ_ w' hr=>Zkh w' p va vc (hr.at_ 20 rfl) (hr.at_ 21 rfl) hp,?_⟩,λh=>?_⟩,?_⟩
  . rw[he13,if_pos h];rfl
  . rw[he13,if_neg h]
  rintro _ - rfl;simp only[Tree.goal,X.P,X.ev,SV.ev,CV.ev,Sc.ev,qz,QA,QB,QC,QD,QE,QF,QG,QH,QI,QJ,QK,QL,QM,Nat.reduceAdd,qy3,qy4];refine⟨λvs=>∃a b:Nat,vs=[.n a,.n b],⟨λa b=>⟨a,b,rfl⟩,λa b=>⟨b,a,rfl⟩⟩,?_⟩;rintro _ - ⟨k1,k2,rfl⟩;simp only[Tree.goal,X.P,X.ev,SV.ev,CV.ev,Sc.ev,qz,QA,QB,QC,QD,QE,QF,QG,QH,QI,QJ,QK,QL,QM,Nat.reduceAdd,qy3,qy4];refine⟨λvs=>∃y:TelX,vs=[.i 0,.i 0,.i 0,.i 0,.i 0,.i 0,.i 0,.i 0,.i 0,.i 0,.i 0,.i 0,.v y.kv,.v y.wv,.v y.sv,.v y.av,.i y.next,.v y.ov,.r (y.kept.map encK),.r (y.wants.map Z7),.r (y.sx.map Zc),.r (y.wat.map Z8),.r (y.ox.map Z1a),.a (Z6 y.sx y.ox)]/\y.tel=if e1=0 then Z14 c p t else t,⟨λh=>?_,λh=>?_⟩,?_⟩
  . obtain⟨hB,hC,hP⟩:=Zqc (he1.symm.trans h);intro w5 hr5;have hz5:=hr5.mod.size;have hc5:=Zx7 w5 k1 ⟨xk,xw,xs,xa,xn,[],v1,v2,v3,v4,.slice none 0 0⟩ c p va vc ((((Zw8 (hr5.pick [17,18,19,21,20,1,22,23] (by decide)) (by rfl) 97 kSn).pick [1,2,3,4,0,5,6,7,8] (by decide)).conv rfl).base.conv rfl) (by rw[htb];exact hB) (show 0<40000 by decide) hC hP;rw[htb]at hc5;refine(Zw7 (k:=k1) (x:=⟨xk,xw,xs,xa,xn,[],v1,v2,v3,v4,.slice none 0 0⟩) (F:=λ_=>False) (pre:=[]) hr5 62 60 [] hc5
      rfl rfl (by simp) (λj hj=>by cases hj) (λj hj=>.inl ?_)).mono ?_
    . rcases hj with(hj|hj|hj|hj|hj)|hj
      . exact(qE 17 rfl rfl hj)
      . exact(qE 18 rfl rfl hj)
      . exact(qE 19 rfl rfl hj)
      . exact(qE 21 rfl rfl hj)
      . exact(qE 20 rfl rfl hj)
      . exact hj.elim
    rintro e w6 ⟨y,hy,hs1,hg1,rfl,m1,m2,m3,m4⟩;refine⟨tlV y,rfl,rfl,m1,m2,m3,m4,?_⟩;exact⟨Z6 y.sx y.ox,λw hr=>hr.at_ 5 rfl,λj hj=>(qE 5 rfl rfl hj),y,rfl,by rw[hy,if_pos h]⟩
  . exact⟨Z6 xs [],λw hr=>hr.at_ 20 rfl,λj hj=>(qE 20 rfl rfl hj),⟨xk,xw,xs,xa,xn,[],v1,v2,v3,v4,.slice none 0 0⟩,rfl,by rw[htb,if_neg h]⟩
  rintro _ - ⟨y2,rfl,t2⟩;simp only[Tree.goal,X.P,X.ev,SV.ev,CV.ev,Sc.ev,qz,QA,QB,QC,QD,QE,QF,QG,QH,QI,QJ,QK,QL,QM,Nat.reduceAdd,qy3,qy4];refine⟨λvs=>∃y:TelX,vs=[.i 0,.i 0,.i 0,.i 0,.i 0,.i 0,.i 0,.i 0,.i 0,.i 0,.i 0,.i 0,.v y.kv,.v y.wv,.v y.sv,.v y.av,.i y.next,.v y.ov,.r (y.kept.map encK),.r (y.wants.map Z7),.r (y.sx.map Zc),.r (y.wat.map Z8),.r (y.ox.map Z1a),.a (Z6 y.sx y.ox)]/\y.tel=if e3=0 then Z5o c t else t,⟨λh=>?_,λh=>?_⟩,?_⟩
  . obtain⟨hB,hC⟩:=Zqd (he3.symm.trans h);intro w5 hr5;have hc5:=Zx4 w5 k2 ⟨xk,xw,xs,xa,xn,[],v1,v2,v3,v4,.slice none 0 0⟩ c ((((Zw8 (hr5.pick [23,24,25,27,26,6] (by decide)) (by rfl) 97 kSn).pick [1,2,3,4,0,5,6] (by decide)).conv rfl).base.conv rfl) (by rw[htb];exact hB);rw[htb]at hc5;refine(Zw7 (k:=k2) (x:=⟨xk,xw,xs,xa,xn,[],v1,v2,v3,v4,.slice none 0 0⟩) (F:=λ_=>False) (pre:=[]) hr5 86 61 [] hc5
      rfl rfl (by simp) (λj hj=>by cases hj) (λj hj=>.inl ?_)).mono ?_
    . rcases hj with(hj|hj|hj|hj|hj)|hj
      . exact(qE 23 rfl rfl hj)
      . exact(qE 24 rfl rfl hj)
      . exact(qE 25 rfl rfl hj)
      . exact(qE 27 rfl rfl hj)
      . exact(qE 26 rfl rfl hj)
      . exact hj.elim
    rintro e w6 ⟨y,hy,hs1,hg1,rfl,m1,m2,m3,m4⟩;refine⟨tlV y,rfl,rfl,m1,m2,m3,m4,?_⟩;exact⟨Z6 y.sx y.ox,λw hr=>hr.at_ 5 rfl,λj hj=>(qE 5 rfl rfl hj),y,rfl,by rw[hy,if_pos h]⟩
  . exact⟨Z6 xs [],λw hr=>hr.at_ 26 rfl,λj hj=>(qE 26 rfl rfl hj),⟨xk,xw,xs,xa,xn,[],v1,v2,v3,v4,.slice none 0 0⟩,rfl,by rw[htb,if_neg h]⟩
  rintro _ - ⟨y4,rfl,t4⟩;simp only[Tree.goal,X.P,X.ev,SV.ev,CV.ev,Sc.ev,qz,QA,QB,QC,QD,QE,QF,QG,QH,QI,QJ,QK,QL,QM,Nat.reduceAdd,qy3,qy4];refine⟨[.b true],rfl,λ_ w' _=>Zkg w',?_⟩;simp only[Tree.goal,X.P,X.ev,SV.ev,CV.ev,Sc.ev,qz,QA,QB,QC,QD,QE,QF,QG,QH,QI,QJ,QK,QL,QM,Nat.reduceAdd,qy3,qy4];refine⟨[.i (chkB t)],rfl,λ_ w' hr=>by rw[ht];exact Z71 w' ⟨xk,xw,xs,xa,xn,[],v1,v2,v3,v4,v5⟩ (RdX.rel ⟨hr.at_ 29 rfl,hr.at_ 30 rfl,hr.at_ 31 rfl,hr.at_ 32 rfl,hr.at_ 33 rfl⟩) rfl hb0,?_⟩;simp only[Tree.goal,X.P,X.ev,SV.ev,CV.ev,Sc.ev,qz,QA,QB,QC,QD,QE,QF,QG,QH,QI,QJ,QK,QL,QM,Nat.reduceAdd,qy3,qy4];have P1:e1=0->BOk (Z14 c p t)/\Z3e (Z14 c p t).out/\(Z14 c p t).out.length<=200:=λh=>by obtain⟨hB,hC,hP⟩:=Zqc (he1.symm.trans h);have h4:=Zrw hB hC hP;rw[hto]at h4;exact⟨h4.1,Znw hB hC hP (by rw[hto];exact .nil),by simpa using h4.2⟩
  have P3:e3=0->BOk (Z5o c t)/\(Z5o c t).out=[]:=λh=>by obtain⟨hB,-⟩:=Zqd (he3.symm.trans h);exact⟨(Zbt hB c).1,by rw[(Zbt hB c).2];exact hto⟩
  refine⟨[.b true],rfl,λh w' hr=>?_,?_⟩
  . obtain⟨o1,o2⟩:=Z118 t1 λh=>(P1 h).2;exact Zij w' y1 y2 e1 ⟨hr.at_ 21 rfl,hr.at_ 22 rfl,hr.at_ 23 rfl,hr.at_ 26 rfl,hr.at_ 24 rfl⟩ (hr.at_ 25 rfl) ⟨hr.at_ 7 rfl,hr.at_ 8 rfl,hr.at_ 9 rfl,hr.at_ 6 rfl,hr.at_ 10 rfl⟩ (hr.at_ 11 rfl).reads (Zqe t1 λh=>(P1 h).1) o1 o2 (t1.trans (Zxh λh=>by rw[t2,if_pos h]))
  simp only[Tree.goal,X.P,X.ev,SV.ev,CV.ev,Sc.ev,qz,QA,QB,QC,QD,QE,QF,QG,QH,QI,QJ,QK,QL,QM,Nat.reduceAdd,qy3,qy4];refine⟨[.b true],rfl,λh w' hr=>?_,?_⟩
  . have b3:y3.bare.tel=y3.tel:=by simp only[TelX.tel,o3]
    have b4:e3=0->y4.bare.tel=Z5o c t:=λh=>by
      rw[Zbv,t4,if_pos h];have:=(P3 h).2;generalize Z5o c t=g at this⊢
      cases g;simp only at this;rw[this]
    exact Zij w' y3.bare y4.bare e3 ⟨hr.at_ 15 rfl,hr.at_ 16 rfl,hr.at_ 17 rfl,Zd1 (y:=y3) (hr.at_ 19 rfl),hr.at_ 18 rfl⟩ (Za _ _) ⟨hr.at_ 1 rfl,hr.at_ 2 rfl,hr.at_ 3 rfl,Zd1 (y:=y4) (hr.at_ 0 rfl),hr.at_ 4 rfl⟩ (Za _ _) (by rw[b3];exact Zqe t3 λh=>(P3 h).1) (λt ht=>by cases ht) (show 0<1000000000 by decide) (b3.trans (t3.trans (Zxh λh=>(b4 h).symm)))
  simp only[Tree.goal,X.P,X.ev,SV.ev,CV.ev,Sc.ev,qz,QA,QB,QC,QD,QE,QF,QG,QH,QI,QJ,QK,QL,QM,Nat.reduceAdd,qy3,qy4];intro w' hr;exact⟨by simp,hr.mod⟩
end Go.Proofs.Y
namespace Go.Sx
open Go Go.ChangeShapes Go.WideShapes Go.ChangeAt Go.RowKit
section
variable {H:Type} {enc:TypeId×Value->H} {P:Program}
def Z17e(P:Program)(ts:List TypeId):Bool:=ts.all λt=>match P.underlying t with|some (.slice e)=>decide (0<P.cellsOf e)|_=>true
def Zxi(P:Program)(ts:List TypeId):Bool:=ts.all λt=>match P.underlying t with
 | some (.slice e)=>ts.contains e
 | some (.pointer e)=>ts.contains e
 | some (.array _ e)=>ts.contains e
 | some (.map _ e)=>ts.contains e
 | some (.struct fs)=>fs.toList.all λf=>ts.contains f.type
 | _=>true
theorem Z156(hl:laidOutB P=true)(hm:mapsRowed P=true){ts:List TypeId}(hc:Zxi P ts=true)(hs:ts.all (λt=>decide (t<P.types.size))=true):Kids P (·∈ts):=by
 have K:=kids_rows hl hm;have hs':∀t∈ts,t<P.types.size:=λt ht=>by simpa using List.all_eq_true.1 hs t ht
 have hc':=λt ht=>List.all_eq_true.1 hc t ht;refine⟨λ{t e} ht hu=>?_,λ{t e} ht hu=>?_,λ{t e n} ht hu=>⟨?_,(K.array (hs' t ht) hu).2⟩,λ{t fs} ht hu=>⟨?_,(K.struct (hs' t ht) hu).2⟩,λ{t k e} ht hu=>?_⟩
 ·have:=hc' t ht;rw[hu]at this;simpa using this
 ·have:=hc' t ht;rw[hu]at this;simpa using this
 ·have:=hc' t ht;rw[hu]at this;simpa using this
 ·have:=hc' t ht;rw[hu]at this;simp only[List.all_eq_true]at this;exact λf hf=>by simpa using this f hf
 ·have:=hc' t ht;rw[hu]at this;simpa using this
theorem Zgj{w w':World}{p:MemPlace}(h:w'.heap[p.block]?=w.heap[p.block]?):w.sameAt w' p:=by
 cases p with
 | cell b off=>exact World.cell?_of_block h
 | map b=>exact h
theorem Zbx{w w':World}{sp:Nat->Bool}{T:TypeId->Prop}(K:Kids P T)(hsz:∀{t e:TypeId},T t->P.underlying t=some (.slice e)->0<P.cellsOf e) : ∀{ts:List TypeId} {vs:List Value} {ds:List (DataW H)} {ps:List MemPlace},(∀t∈ts,T t)->DataW.TrodAll enc P w 0 (λ_=>true) true ts vs ds ps -> (∀p∈ps,w.sameAt w' p)->(∀p∈ps,sp p.block=true)->DataW.TrodAll enc P w' 0 sp true ts vs ds ps
 | [],_,_,_,_,h,_,_=>by obtain⟨rfl,rfl,rfl⟩:=trodAll_nil h;exact trodAll_mk0
 | t::ts,_,_,_,ht,h,hs,hp=>by
  obtain⟨v,vs1,d,ds1,a,b,rfl,rfl,rfl,h1,h2⟩:=trodAll_cons h;obtain⟨n,h1⟩:=h1;exact⟨a,b,⟨n,DataW.trod_stays K hsz (λh=>by cases h) (ht t (qy8 ..)) h1 (λp hp'=>hs p (List.mem_append_left _ hp')) (λp hp'=>hp p (List.mem_append_left _ hp'))⟩,
   Zbx K hsz (λu hu=>ht u (qy10 _ hu)) h2 (λp hp'=>hs p (List.mem_append_right _ hp')) (λp hp'=>hp p (List.mem_append_right _ hp')),rfl⟩
theorem Z119{f:Func}{s:ChangeSpec}{fresh handsOn again:Bool}{W W':World}{args:Array Value}{ds gs:List (DataW H)}{before:List MemPlace}{tb:TypeId}(ts:List TypeId) (hW:DataW.Whole enc P f.params.toList s.vars false W args.toList ds gs before) (hv:s.vars=[]) (hr:f.resultTypes=#[tb]) (htb:P.underlying tb=some .bool) (hfn:gs=[]->(s.fn H ds).results=[.lit (.bool true)]/\(s.fn H ds).args=ds/\(s.fn H ds).vars=[]) (hl:laidOutB P=true) (hm:mapsRowed P=true) (hc:Zxi P ts=true) (hs:ts.all (λt=>decide (t<P.types.size))=true) (hz:Z17e P ts=true) (hp:f.params.toList.all ts.contains=true) (h:Mod [] W W'):s.post enc P f false fresh handsOn again W args (.bool true) W':=by
 have hW':=hW;have hlt:=hW.lt;obtain⟨p,q,hA,hV,rfl,hfz,hn⟩:=hW;rw[hv]at hV;obtain⟨rfl,rfl⟩:=trodVars_none hV;obtain⟨f1,f2,f3⟩:=hfn rfl;have K:=Z156 hl hm hc hs;have hsz:∀{t e:TypeId},t∈ts->P.underlying t=some (.slice e)->0<P.cellsOf e:=λ{t e} ht hu=>by have:=List.all_eq_true.1 hz t ht;rw[hu]at this;simpa using this
 have hT:∀t∈f.params.toList,t∈ts:=λt ht=>by simpa using List.all_eq_true.1 hp t ht
 have hblk:∀k,k<W.heap.size->W'.heap[k]?=W.heap[k]?:=λk hk=>h.block k hk (by simp);have hsame:∀x∈p,W.sameAt W' x:=λx hx=>Zgj (hblk _ (hlt x (by simpa using hx)));have hargs:∀sp:Nat->Bool,(∀x∈p,sp x.block=true)->DataW.TrodAll enc P W' 0 sp true f.params.toList args.toList (s.fn H (ds++[])).args p:=λsp hsp=>by rw[List.append_nil,f2];exact Zbx K hsz hT hA hsame hsp
 have hres:∀(b:Nat) (sp:Nat->Bool) (hd:Bool),DataW.TrodAll enc P W' b sp hd f.resultTypes.toList ((Value.bool true).resultList f.resultTypes.size) (s.fn H (ds++[])).results []:=λb sp hd=>by rw[List.append_nil,f1,hr];exact trodAll_cons_mk (shut_bool htb _) trodAll_mk0
 have hvars:∀sp:Nat->Bool,DataW.TrodVars enc P W' sp s.vars (s.fn H (ds++[])).vars []:=λsp=>by rw[List.append_nil,f3,hv];rfl
 have hold:∀x∈p,(λb=>decide (b<W.heap.size)) x.block=true:=λx hx=>by simpa using hlt x (by simpa using hx)
 refine⟨ds,[],p++[],[],p,[],hW',hres _ _ _,hargs _ hold,hvars _,⟨h.os,h.output,λi hi=>?_⟩,λ_=>⟨?_,[.lit (.bool true)]++ds,[],([]++p)++[],⟨[]++p,[],trodAll_append (by have:=hargs (λ_=>true) (λ_ _=>rfl);rw[List.append_nil,f2]at this;exact this) (by have:=hres 0 (λ_=>true) true;rw[List.append_nil,f1]at this;exact this),by rw[hv];rfl,rfl,?_,by simp⟩,?_⟩⟩
 ·have e:=hblk i hi;rw[e];cases W.heap[i]? with
  | none=>rfl
  | some o=>cases o<;>simp
 ·exact ok_one hr rfl (okWide_bool_mk htb _)
 ·intro b off hb;have hb:MemPlace.cell b off∈p:=by simpa using hb
  have hlt':=hlt _ (show MemPlace.cell b off∈p++[] by simpa using hb);have:=hfz b off (by simpa using hb);simp only[World.frozen?,hblk b hlt']at this⊢;exact this
 ·intro x hx _;simpa using hx
end
end Go.Sx
namespace Go.Sx
open Go Go.ChangeShapes Go.WideShapes Go.ChangeAt Go.RowKit
section
variable {H:Type} {enc:TypeId×Value->H} {P:Program} {w:World} {sp:Nat->Bool}
structure Bulk(B:DataW H->Nat):Prop where
  agg:∀l:List (DataW H),(l.map B).sum<=B (.agg l)
  slice:∀l r:List (DataW H),(l.map B).sum+1<=B (.slice l r)
  str:∀s:List UInt8,s.length+1<=B (.lit (.string s))
  one:∀d:DataW H,1<=B d
def Zgk(P:Program)(g:TypeId->Option (List (TypeId×Kd))):List Field->Nat->Option (List (TypeId×Kd))
  | [],_=>some []
  | f::fs,off=>do
    let l <- g f.type
    let r <- Zgk P g fs (off+l.length)
    if f.offset=off/\P.cellsOf f.type=l.length then some (l++r)else none
def Z42(P:Program):Nat->TypeId->Option (List (TypeId×Kd))
  | 0,_=>none
  | f+1,t=>match P.underlying t with
    | some .bool=>some [(t,.bool)]
    | some (.int k)=>some [(t,.int k)]
    | some .string=>some [(t,.str)]
    | some (.slice _)=>some [(t,.oth)]
    | some (.struct fs)=>match Zgk P (Z42 P f) fs.toList 0 with
      | some l=>if P.cellsOf t=l.length then some l else none
      | none=>none
    | _=>none
def Z43(enc:TypeId×Value->H)(P:Program)(w:World)(sp:Nat->Bool)(B:DataW H->Nat)(l:TypeId×Kd)(c:Value)(b:Nat):Prop :=
  l.2.ok c/\∃n d ps,DataW.trod enc P w 0 sp true n l.1 [c]=some (d,ps)/\B d<=b
inductive Lv (enc:TypeId×Value->H) (P:Program) (w:World) (sp:Nat->Bool) (B:DataW H->Nat):List (TypeId×Kd)->List Value->Nat->Prop
  | nil (b:Nat):Lv enc P w sp B [] [] b
  | cons {l:TypeId×Kd} {ls:List (TypeId×Kd)} {c:Value} {cs:List Value} {b1 b2 b:Nat}:Z43 enc P w sp B l c b1->Lv enc P w sp B ls cs b2->b1+b2<=b->Lv enc P w sp B (l::ls) (c::cs) b
variable {B:DataW H->Nat}
theorem Lv.mono{ls:List (TypeId×Kd)}{cs:List Value}{b b':Nat}(h:Lv enc P w sp B ls cs b)(hb:b<=b'):Lv enc P w sp B ls cs b':=by
  cases h with
  | nil=>exact .nil _
  | cons h1 h2 h3=>exact .cons h1 h2 (by omega)
theorem Lv.append{l2:List (TypeId×Kd)}{c2:List Value}{b2:Nat}(h':Lv enc P w sp B l2 c2 b2):∀{l1:List (TypeId×Kd)} {c1:List Value} {b1:Nat},Lv enc P w sp B l1 c1 b1->Lv enc P w sp B (l1++l2) (c1++c2) (b1+b2):=by
  intro l1 c1 b1 h;induction h with
  | nil b=>exact h'.mono (by omega)
  | cons h1 h2 h3 ih=>exact .cons h1 ih (by omega)
theorem Lv.rowOk{ls:List (TypeId×Kd)}{cs:List Value}{b:Nat}(h:Lv enc P w sp B ls cs b):rowOk (ls.map (·.2)) cs:=by
  induction h with
  | nil=>trivial
  | cons h1 h2 h3 ih=>exact⟨h1.1,ih⟩
theorem Zik{g:TypeId->Option (List (TypeId×Kd))}{cs:List Value}{n:Nat}(hg:∀t l cs x,g t=some l->DataW.trod enc P w 0 sp true n t cs=some x->Lv enc P w sp B l cs (B x.1)) : ∀{fs:List Field} {xs:List (DataW H×List MemPlace)} {off:Nat} {l:List (TypeId×Kd)},Zgk P g fs off=some l->xs.length=fs.length -> (∀(i:Nat) (f:Field),fs[i]?=some f->DataW.trod enc P w 0 sp true n f.type ((cs.drop f.offset).take (P.cellsOf f.type))=xs[i]?)->off+l.length<=cs.length -> Lv enc P w sp B l ((cs.drop off).take l.length) ((xs.map λx=>B x.1).sum)
  | [],[],off,l,h,_,_,_=>by simp[Zgk]at h;subst h;simp;exact .nil _
  | f::fs,[],off,l,h,hl,_,_=>by simp at hl
  | [],x::xs,off,l,h,hl,_,_=>by simp at hl
  | f::fs,x::xs,off,l,h,hl,hx,hc=>by
    simp only[Zgk,Option.bind_eq_bind,Option.bind_eq_some_iff,Option.ite_none_right_eq_some,Option.some.injEq]at h;obtain⟨l1,h1,l2,h2,⟨ho,hcs⟩,rfl⟩:=h;have hx0:=hx 0 f rfl;simp only[List.getElem?_cons_zero]at hx0;rw[ho,hcs]at hx0;have i1:=hg _ _ _ _ h1 hx0;simp only[qy11]at hc;have i2:=Zik hg (xs:=xs) h2 (by simpa using hl) (λi f' hf=>by have:=hx (i+1) f' (by simpa using hf);simpa using this) (by omega);have e:(cs.drop off).take (l1++l2).length=(cs.drop off).take l1.length++(cs.drop (off+l1.length)).take l2.length:=by rw[qy11,<- List.drop_drop,List.take_add]
    rw[e];exact i2.append i1
theorem Zby(hB:Bulk B):∀(f:Nat) {t:TypeId} {l:List (TypeId×Kd)} {n:Nat} {cs:List Value} {x:DataW H×List MemPlace},Z42 P f t=some l->DataW.trod enc P w 0 sp true n t cs=some x->Lv enc P w sp B l cs (B x.1)
  | 0,t,l,n,cs,x,h,_=>by simp[Z42]at h
  | f+1,t,l,n,cs,x,h,hx=>by
    simp only[Z42]at h;have one:∀(k:Kd) (c:Value),cs=[c]->k.ok c->Lv enc P w sp B [(t,k)] cs (B x.1):=λk c hc hk=>by subst hc;exact .cons ⟨hk,n,x.1,x.2,hx,Nat.le_refl _⟩ (.nil 0) (by omega)
    split at h
    . rename_i hu;simp at h;subst h;obtain⟨b,rfl,-⟩:=DataW.trod_bool hu hx;exact one _ _ rfl ⟨b,rfl⟩
    . rename_i k hu;simp at h;subst h;obtain⟨m,rfl,-⟩:=DataW.trod_int hu hx;exact one _ _ rfl ⟨m,rfl⟩
    . rename_i hu;simp at h;subst h;obtain⟨⟨⟨s⟩⟩,rfl,-⟩:=DataW.trod_string hu hx;exact one _ _ rfl ⟨s,rfl⟩
    . rename_i e hu;simp at h;subst h;rcases DataW.trod_slice hu hx with⟨rfl,-⟩|⟨a,len,cap,elems,rest,m,-,rfl,-⟩
      . exact one _ _ rfl rfl
      . exact one _ _ rfl rfl
    . rename_i fs hu;split at h
      . rename_i l' hl;split at h
        . rename_i hc;simp at h;subst h;obtain⟨xs,m,rfl,rfl,hcl,hxl,hf⟩:=DataW.trod_struct hu hx;have:=Zik (cs:=cs) (λt l cs x=>Zby hB f (t:=t) (l:=l) (n:=m) (cs:=cs) (x:=x)) hl (by simpa using hxl) (λi f hi=>hf i f (by simpa using hi)) (by omega);rw[List.drop_zero,List.take_of_length_le (by omega)]at this;refine this.mono ?_;have:=hB.agg (xs.map (·.1));rw[List.map_map]at this;exact this
        . cases h
      . cases h
    . cases h
theorem Z65(hB:Bulk B){f n:Nat}{t e:TypeId}{ls:List (TypeId×Kd)}{v:Value}{x:DataW H×List MemPlace}(hu:P.underlying t=some (.slice e))(hl:Z42 P f e=some ls)(hc:P.cellsOf e=ls.length)(hpos:0<ls.length) (hx:DataW.trod enc P w 0 sp true n t [v]=some x) : ∃(rows:List (List Value)) (bs:List Nat),reads w v (ls.map (·.2)) rows/\bs.length=rows.length/\(∀(i:Nat) r b,rows[i]?=some r->bs[i]?=some b->Lv enc P w sp B ls r b)/\bs.sum+1<=B x.1:=by
  rcases DataW.trod_slice hu hx with⟨hv,rfl⟩|⟨a,len,cap,elems,rest,m,-,hv,rfl,-,hlc,hcm,hel,hget,-⟩
  . simp only[List.cons.injEq,and_true]at hv;subst hv;exact⟨[],[],⟨by simp,none,0,rfl,⟨λ_=>rfl,by simp⟩,by simp⟩,rfl,by simp,by simpa using hB.one _⟩
  . simp only[List.cons.injEq,and_true]at hv;subst hv;rw[hc]at hget;have hrow:∀i,i<len->∃r y,w.cells? 0 (a.add (i*ls.length)) ls.length=some r/\elems[i]?=some y/\DataW.trod enc P w 0 sp true m e r=some y:=λi hi=>by
      have h1:=hget i hi;have h2:elems[i]?=some (elems[i]'(by omega)):=qy7 (by omega);rw[h2,Option.bind_eq_some_iff]at h1;obtain⟨r,h3,h4⟩:=h1;exact⟨r,_,h3,h2,h4⟩
    let rows:=(List.range len).map λi=>(w.cells? 0 (a.add (i*ls.length)) ls.length).getD []
    have hrl:rows.length=len:=by simp[rows]
    have hri:∀i,i<len->∃r y,rows[i]?=some r/\w.cells? 0 (a.add (i*ls.length)) ls.length=some r/\elems[i]?=some y/\Lv enc P w sp B ls r (B y.1):=λi hi=>by obtain⟨r,y,h1,h2,h3⟩:=hrow i hi;exact⟨r,y,by simp[rows,List.getElem?_range hi,h1],h1,h2,Zby hB f hl h3⟩
    have hlen:∀r∈rows,r.length=(ls.map (·.2)).length/\rowOk (ls.map (·.2)) r:=λr hr=>by obtain⟨i,hi,hri'⟩:=List.getElem_of_mem hr;obtain⟨r',y,h1,h2,h3,h4⟩:=hri i (by omega);rw[qy7 hi,hri']at h1;simp at h1;subst h1;exact⟨h4.rowOk.length,h4.rowOk⟩
    refine⟨rows,elems.map λy=>B y.1,⟨λr hr=>(hlen r hr).2,some a,cap,by rw[hrl],⟨(λh=>by cases h),by omega⟩,λhne=>⟨a,rfl,λj u hj=>?_⟩⟩,by simp[hrl,hel],λi r b hr hb=>?_,?_⟩
    . have hL:(ls.map (·.2)).length=ls.length:=by simp
      have hfl:=Zf (λr hr=>(hlen r hr).1);have hjl:j<rows.length*ls.length:=by have:=(List.getElem?_eq_some_iff.1 hj).1;rw[hfl,hL]at this;exact this
      have hi:j / ls.length<len:=by rw[<- hrl];exact Nat.div_lt_of_lt_mul (by rw[Nat.mul_comm];exact hjl)
      obtain⟨r,y,h1,h2,h3,h4⟩:=hri _ hi;have hk:=Nat.mod_lt j hpos;have hjj:j=j / ls.length*ls.length+j % ls.length:=by rw[Nat.mul_comm];exact(Nat.div_add_mod j _).symm
      have:=Z9k (λr hr=>by rw[<- hL];exact(hlen r hr).1) (i:=j / ls.length) (c:=j % ls.length) hk;rw[<- hjj,hj,h1]at this;obtain⟨c1,c2⟩:=World.cells?_some h2;have c3:=c2.2 _ hk;rw[Zdz,<- hjj]at c3;rw[c3];exact this.symm
    . obtain⟨r',y,h1,h2,h3,h4⟩:=hri i (by rw[<- hrl];exact(List.getElem?_eq_some_iff.1 hr).1);rw[h1]at hr;simp at hr;subst hr;rw[List.getElem?_map,h3]at hb;simp at hb;subst hb;exact h4
    . have:=hB.slice (elems.map (·.1)) (rest.map (·.1));rw[List.map_map]at this;exact this
theorem Zo3{r:Reach}{b0 base:Nat}{held:Bool}{t:TypeId}{fs:Array Field}{v:Value}{d:DataW H}{ps:List MemPlace}(ht:P.underlying t=some (.struct fs))(hval:Value.okWide P w r b0 t v)(hd:DataW.Trod enc P w base sp held t v d ps) : ∃(cs:List Value) (n:Nat),v=.agg cs.toArray/\DataW.trod enc P w base sp held n t cs=some (d,ps):=by obtain⟨n,hd⟩:=hd;simp only[Value.okWide,ht]at hval;obtain⟨cs,rfl,-⟩:=hval;exact⟨cs.toList,n,by simp,by simpa[Value.cells]using hd⟩
theorem Z126{α:Type}{g:α->Nat}:∀{rows:List α} {bs:List Nat},bs.length=rows.length->(∀(i:Nat) r b,rows[i]?=some r->bs[i]?=some b->g r<=b)->(rows.map g).sum<=bs.sum
  | [],[],_,_=>by simp
  | r::rows,b::bs,hl,h=>by have h0:=h 0 r b rfl rfl;have:=Z126 (rows:=rows) (bs:=bs) (by simpa using hl) (λi r' b' hr hb=>h (i+1) r' b' (by simpa using hr) (by simpa using hb));simp only[List.map_cons,List.sum_cons];omega
  | [],_::_,hl,_=>by simp at hl
  | _::_,[],hl,_=>by simp at hl
theorem Zab(hB:Bulk B){ls:List (TypeId×Kd)}(h0:ls≠[]){rows:List (List Value)}{bs:List Nat}(hl:bs.length=rows.length)(h:∀(i:Nat) r b,rows[i]?=some r->bs[i]?=some b->Lv enc P w sp B ls r b):rows.length<=bs.sum:=by
  have:=Z126 (g:=λ_:List Value=>1) hl (λi r b hr hb=>by
    cases h i r b hr hb with
    | nil b=>exact absurd rfl h0
    | cons h1 h2 h3=>obtain⟨-,n,d,q,-,h5⟩:=h1;have:=hB.one d;omega)
  have e:(rows.map λ_=>1).sum=rows.length:=by
    clear hl h this;induction rows with
    | nil=>rfl
    | cons r rows ih=>simp only[List.map_cons,List.sum_cons,List.length_cons,ih];omega
  omega
theorem Z43.str(hB:Bulk B){t:TypeId}(ht:P.underlying t=some .string){s:List UInt8}{b:Nat}(h:Z43 enc P w sp B (t,.str) (.string ⟨s.toArray⟩) b):s.length+1<=b:=by obtain⟨-,n,d,ps,h1,h2⟩:=h;obtain⟨s',h3,h4⟩:=DataW.trod_string ht h1;simp only[List.cons.injEq,Value.string.injEq,and_true]at h3;subst h3;simp only[Prod.mk.injEq]at h4;obtain⟨⟨rfl,-⟩,-⟩:=h4;have:=hB.str s;omega
end
end Go.Sx
namespace Go.Proofs.Y
open Go Go.Sx Go.ChangeShapes Go.WideShapes Go.ChangeAt Go.RowKit
section
variable {H:Type} {enc:TypeId×Value->H} {w:World} {sp:Nat->Bool} {B:DataW H->Nat}
def Zen(P:Program)(t:TypeId):Bool:=match P.underlying t with|some (.struct _)=>true|_=>false
theorem Zdi{P:Program}{r:Reach}{b0 base:Nat}{held:Bool}{t:TypeId}{v:Value}{d:DataW H}{ps:List MemPlace}(ht:Zen P t=true)(hval:Value.okWide P w r b0 t v)(hd:DataW.Trod enc P w base sp held t v d ps) : ∃(cs:List Value) (n:Nat),v=.agg cs.toArray/\DataW.trod enc P w base sp held n t cs=some (d,ps):=by
 unfold Zen at ht;split at ht
 ·exact Zo3 (by assumption) hval hd
 ·cases ht
theorem Z17f(hB:Bulk B){cs:List Value}{b:Nat}(h:Lv enc Tryz.prog w sp B [(9,.str),(3,.int .i64)] cs b):∃o:Ak,cs=encA o/\o.1.length+1<=b:=by
 cases h with
 | cons c1 h e1 =>
 cases h with
 | cons c2 h e2 =>
 cases h;obtain⟨s,rfl⟩:=c1.1;obtain⟨n,rfl⟩:=c2.1;have q1:=Z43.str hB Tryz.underlying9 c1;exact⟨(s,n),rfl,by simp only;omega⟩
theorem Z17g(hB:Bulk B):∀{rows:List (List Value)} {bs:List Nat},bs.length=rows.length->(∀(i:Nat) r b,rows[i]?=some r->bs[i]?=some b->Lv enc Tryz.prog w sp B [(9,.str),(3,.int .i64)] r b) -> ∃l:List Ak,rows=l.map encA/\∀x∈l,x.1.length<=bs.sum:=by
 intro rows;induction rows with
 | nil=>exact λ_ _=>⟨[],rfl,by simp⟩
 | cons r rows ih =>
  intro bs hl h
  match bs,hl with
  | b::bs,hl =>
   obtain⟨l,e,hb⟩:=ih (bs:=bs) (by simpa using hl) (λi r' b' h1 h2=>h (i+1) r' b' (by simpa using h1) (by simpa using h2));obtain⟨o,rfl,hob⟩:=Z17f hB (h 0 r b rfl rfl);refine⟨o::l,by rw[e];rfl,?_⟩;intro x hx;rw[List.sum_cons];rcases List.mem_cons.1 hx with rfl|hx
   ·omega
   ·have:=hb x hx;omega
theorem Z17h{rows:List (List Value)}(h:∀r∈rows,rowOk [.int .i64] r):∃l,rows=List.map Z18 l:=by
 induction rows with
 | nil=>exact⟨[],rfl⟩
 | cons r rows ih =>
  obtain⟨ps,hps⟩:=ih λr hr=>h r (qy10 _ hr);have h0:=h r (qy8 ..)
  match r,h0 with
  | [_],⟨⟨a,rfl⟩,_⟩=>exact⟨a::ps,by rw[hps];rfl⟩
theorem Z17i(hB:Bulk B)(h1:Tryz.prog.underlying 28=some (.slice 69))(h2:Z42 Tryz.prog 8 69=some [(9,.str),(3,.int .i64)])(h3:Tryz.prog.cellsOf 69=2) (i1:Tryz.prog.underlying 29=some (.slice 3)) (i2:Z42 Tryz.prog 8 3=some [(3,.int .i64)]) (i3:Tryz.prog.cellsOf 3=1) {cs:List Value} {b:Nat} (h:Lv enc Tryz.prog w (λ_=>true) B [(3,.int .i64),(4,.bool),(4,.bool),(4,.bool),(4,.bool),(3,.int .i64),(3,.int .i64),(3,.int .i64),(3,.int .i64),(9,.str),(9,.str),(9,.str),(28,.oth),(29,.oth)] cs b) : ∃(p:Pkt) (u v:Value),Value.agg cs.toArray=pV p u v/\cs=[.int .i64 p.kind,.bool p.dup,.bool p.retain,.bool p.clean,.bool p.session,.int .i64 p.qos,.int .i64 p.id,.int .i64 p.keep,.int .i64 p.code,.string ⟨p.client.toArray⟩,.string ⟨p.topic.toArray⟩,.string ⟨p.payload.toArray⟩,u,v] /\ Z62 w u p.asks/\Z5d w v p.codes/\p.client.length+p.topic.length+p.payload.length+p.asks.length+p.codes.length<=b/\∀a∈p.asks,a.1.length<=b:=by
 cases h with
 | cons c1 h e1 =>
 cases h with
 | cons c2 h e2 =>
 cases h with
 | cons c3 h e3 =>
 cases h with
 | cons c4 h e4 =>
 cases h with
 | cons c5 h e5 =>
 cases h with
 | cons c6 h e6 =>
 cases h with
 | cons c7 h e7 =>
 cases h with
 | cons c8 h e8 =>
 cases h with
 | cons c9 h e9 =>
 cases h with
 | cons c10 h e10 =>
 cases h with
 | cons c11 h e11 =>
 cases h with
 | cons c12 h e12 =>
 cases h with
 | cons c13 h e13 =>
 cases h with
 | cons c14 h e14 =>
 cases h;obtain⟨kd,rfl⟩:=c1.1;obtain⟨b1,rfl⟩:=c2.1;obtain⟨b2,rfl⟩:=c3.1;obtain⟨b3,rfl⟩:=c4.1;obtain⟨b4,rfl⟩:=c5.1;obtain⟨n1,rfl⟩:=c6.1;obtain⟨n2,rfl⟩:=c7.1;obtain⟨n3,rfl⟩:=c8.1;obtain⟨n4,rfl⟩:=c9.1;obtain⟨s1,rfl⟩:=c10.1;obtain⟨s2,rfl⟩:=c11.1;obtain⟨s3,rfl⟩:=c12.1;have q1:=Z43.str hB Tryz.underlying9 c10;have q2:=Z43.str hB Tryz.underlying9 c11;have q3:=Z43.str hB Tryz.underlying9 c12;obtain⟨-,n,d,ps,hx,hb⟩:=c13;obtain⟨rows,bs,rd,bl,lv,bk⟩:=Z65 hB (f:=8) h1 h2 h3 (by decide) hx;have rl:=Zab hB (by decide) bl lv;obtain⟨l,rfl,hs⟩:=Z17g hB bl lv;obtain⟨-,n',d',ps',hx',hb'⟩:=c14;obtain⟨rows',bs',rd',bl',lv',bk'⟩:=Z65 hB (f:=8) i1 i2 i3 (by decide) hx';have rl':=Zab hB (by decide) bl' lv';obtain⟨l',rfl⟩:=Z17h rd'.1;rw[qy3]at rl rl';simp only at bk bk';exact⟨⟨kd,b1,b2,b3,b4,n1,n2,n3,n4,s1,s2,s3,l,l'⟩,_,_,by rw[pV,rd.sc1,rd'.sc1],rfl,rd,rd',by simp only;omega,λx hx=>by have:=hs x hx;omega⟩
end
end Go.Proofs.Y
namespace Go.Proofs.Y
open Go Go.Sx Go.ChangeShapes Go.WideShapes Go.ChangeAt Go.RowKit
section
variable {H:Type} {enc:TypeId×Value->H} {w:World} {sp:Nat->Bool} {B:DataW H->Nat}
end
end Go.Proofs.Y
namespace Go.Proofs.Y
open Go Go.Sx Go.ChangeShapes Go.WideShapes Go.ChangeAt Go.RowKit
section
variable {H:Type} {enc:TypeId×Value->H} {w:World} {sp:Nat->Bool} {B:DataW H->Nat}
theorem Z18d(hB:Bulk B){cs:List Value}{b:Nat}(h:Lv enc Tryz.prog w sp B [(3,.int .i64),(9,.str),(9,.str)] cs b):∃o:Fl,cs=encF o/\o.2.1.length+o.2.2.length+1<=b:=by
 cases h with
 | cons c1 h e1 =>
 cases h with
 | cons c2 h e2 =>
 cases h with
 | cons c3 h e3 =>
 cases h;obtain⟨p,rfl⟩:=c1.1;obtain⟨t,rfl⟩:=c2.1;obtain⟨n,rfl⟩:=c3.1;have q2:=Z43.str hB Tryz.underlying9 c2;have q3:=Z43.str hB Tryz.underlying9 c3;exact⟨(p,t,n),rfl,by simp only;omega⟩
theorem Z127(hB:Bulk B):∀{rows:List (List Value)} {bs:List Nat},bs.length=rows.length->(∀(i:Nat) r b,rows[i]?=some r->bs[i]?=some b->Lv enc Tryz.prog w sp B [(3,.int .i64),(9,.str),(9,.str)] r b) -> ∃l:List Fl,rows=l.map encF/\∀x∈l,x.2.1.length<=bs.sum:=by
 intro rows;induction rows with
 | nil=>exact λ_ _=>⟨[],rfl,by simp⟩
 | cons r rows ih =>
  intro bs hl h
  match bs,hl with
  | b::bs,hl =>
   obtain⟨l,e,hb⟩:=ih (bs:=bs) (by simpa using hl) (λi r' b' h1 h2=>h (i+1) r' b' (by simpa using h1) (by simpa using h2));obtain⟨o,rfl,hob⟩:=Z18d hB (h 0 r b rfl rfl);refine⟨o::l,by rw[e];rfl,?_⟩;intro x hx;rw[List.sum_cons];rcases List.mem_cons.1 hx with rfl|hx
   ·omega
   ·have:=hb x hx;omega
theorem Z17j(hB:Bulk B)(h1:Tryz.prog.underlying 62=some (.slice 132))(h2:Z42 Tryz.prog 8 132=some [(3,.int .i64),(9,.str),(9,.str)])(h3:Tryz.prog.cellsOf 132=3){cs:List Value}{b:Nat} (h:Lv enc Tryz.prog w (λ_=>true) B [(9,.str),(4,.bool),(4,.bool),(62,.oth),(62,.oth),(3,.int .i64)] cs b) : ∃(s:Ses) (u v:Value),Value.agg cs.toArray=sesV s u v/\Ze w u s.fl/\Ze w v s.qu/\s.cl.length+s.fl.length+s.qu.length<=b/\(∀x∈s.fl,x.2.1.length<=b)/\(∀x∈s.qu,x.2.1.length<=b):=by
 cases h with
 | cons c1 h e1 =>
 cases h with
 | cons c2 h e2 =>
 cases h with
 | cons c3 h e3 =>
 cases h with
 | cons c4 h e4 =>
 cases h with
 | cons c5 h e5 =>
 cases h with
 | cons c6 h e6 =>
 cases h;obtain⟨k,rfl⟩:=c1.1;obtain⟨c,rfl⟩:=c2.1;obtain⟨j,rfl⟩:=c3.1;obtain⟨p,rfl⟩:=c6.1;have q1:=Z43.str hB Tryz.underlying9 c1;obtain⟨-,n,d,ps,hx,hb⟩:=c4;obtain⟨rows,bs,rd,bl,lv,bk⟩:=Z65 hB (f:=8) h1 h2 h3 (by decide) hx;have rl:=Zab hB (by decide) bl lv;obtain⟨l,rfl,hs⟩:=Z127 hB bl lv;obtain⟨-,n',d',ps',hx',hb'⟩:=c5;obtain⟨rows',bs',rd',bl',lv',bk'⟩:=Z65 hB (f:=8) h1 h2 h3 (by decide) hx';have rl':=Zab hB (by decide) bl' lv';obtain⟨l',rfl,hs'⟩:=Z127 hB bl' lv';rw[qy3]at rl rl';simp only at bk bk';exact⟨⟨k,c,j,l,l',p⟩,_,_,by rw[sesV,rd.sc1,rd'.sc1],rd,rd',by simp only;omega,λx hx=>by have:=hs x hx;omega,λx hx=>by have:=hs' x hx;omega⟩
end
end Go.Proofs.Y
namespace Go.Proofs.Y
open Go Go.Sx Go.ChangeShapes Go.WideShapes Go.ChangeAt Go.RowKit
section
variable {H:Type} {enc:TypeId×Value->H} {w:World} {sp:Nat->Bool} {B:DataW H->Nat}
theorem Z157(hB:Bulk B){cs:List Value}{b:Nat}(h:Lv enc Tryz.prog w sp B [(9,.str),(9,.str),(3,.int .i64)] cs b):∃o:Kp,cs=encK o/\o.1.length+o.2.1.length+1<=b:=by
 cases h with
 | cons c1 h e1 =>
 cases h with
 | cons c2 h e2 =>
 cases h with
 | cons c3 h e3 =>
 cases h;obtain⟨p,rfl⟩:=c1.1;obtain⟨t,rfl⟩:=c2.1;obtain⟨n,rfl⟩:=c3.1;have q1:=Z43.str hB Tryz.underlying9 c1;have q2:=Z43.str hB Tryz.underlying9 c2;exact⟨(p,t,n),rfl,by simp only;omega⟩
theorem Z17k(hB:Bulk B):∀{rows:List (List Value)} {bs:List Nat},bs.length=rows.length->(∀(i:Nat) r b,rows[i]?=some r->bs[i]?=some b->Lv enc Tryz.prog w sp B [(9,.str),(9,.str),(3,.int .i64)] r b) -> ∃l:List Kp,rows=l.map encK/\∀x∈l,x.1.length<=bs.sum:=by
 intro rows;induction rows with
 | nil=>exact λ_ _=>⟨[],rfl,by simp⟩
 | cons r rows ih =>
  intro bs hl h
  match bs,hl with
  | b::bs,hl =>
   obtain⟨l,e,hb⟩:=ih (bs:=bs) (by simpa using hl) (λi r' b' h1 h2=>h (i+1) r' b' (by simpa using h1) (by simpa using h2));obtain⟨o,rfl,hob⟩:=Z157 hB (h 0 r b rfl rfl);refine⟨o::l,by rw[e];rfl,?_⟩;intro x hx;rw[List.sum_cons];rcases List.mem_cons.1 hx with rfl|hx
   ·omega
   ·have:=hb x hx;omega
end
end Go.Proofs.Y
namespace Go.Proofs.Y
open Go Go.Sx Go.ChangeShapes Go.WideShapes Go.ChangeAt Go.RowKit
section
variable {H:Type} {enc:TypeId×Value->H} {w:World} {sp:Nat->Bool} {B:DataW H->Nat}
theorem Z158(hB:Bulk B){cs:List Value}{b:Nat}(h:Lv enc Tryz.prog w sp B [(9,.str),(9,.str),(3,.int .i64)] cs b):∃o:Wt,cs=Z7 o/\o.1.length+o.2.1.length+1<=b:=by
 cases h with
 | cons c1 h e1 =>
 cases h with
 | cons c2 h e2 =>
 cases h with
 | cons c3 h e3 =>
 cases h;obtain⟨p,rfl⟩:=c1.1;obtain⟨t,rfl⟩:=c2.1;obtain⟨n,rfl⟩:=c3.1;have q1:=Z43.str hB Tryz.underlying9 c1;have q2:=Z43.str hB Tryz.underlying9 c2;exact⟨(p,t,n),rfl,by simp only;omega⟩
theorem Z17l(hB:Bulk B):∀{rows:List (List Value)} {bs:List Nat},bs.length=rows.length->(∀(i:Nat) r b,rows[i]?=some r->bs[i]?=some b->Lv enc Tryz.prog w sp B [(9,.str),(9,.str),(3,.int .i64)] r b) -> ∃l:List Wt,rows=l.map Z7/\∀x∈l,x.1.length<=bs.sum/\x.2.1.length<=bs.sum:=by
 intro rows;induction rows with
 | nil=>exact λ_ _=>⟨[],rfl,by simp⟩
 | cons r rows ih =>
  intro bs hl h
  match bs,hl with
  | b::bs,hl =>
   obtain⟨l,e,hb⟩:=ih (bs:=bs) (by simpa using hl) (λi r' b' h1 h2=>h (i+1) r' b' (by simpa using h1) (by simpa using h2));obtain⟨o,rfl,hob⟩:=Z158 hB (h 0 r b rfl rfl);refine⟨o::l,by rw[e];rfl,?_⟩;intro x hx;rw[List.sum_cons];rcases List.mem_cons.1 hx with rfl|hx
   ·omega
   ·have:=hb x hx;omega
end
end Go.Proofs.Y
namespace Go.Proofs.Y
open Go Go.Sx Go.ChangeShapes Go.WideShapes Go.ChangeAt Go.RowKit
section
variable {H:Type} {enc:TypeId×Value->H} {w:World} {sp:Nat->Bool} {B:DataW H->Nat}
theorem Z17m(hB:Bulk B){cs:List Value}{b:Nat}(h:Lv enc Tryz.prog w sp B [(3,.int .i64),(9,.str),(9,.str),(3,.int .i64)] cs b):∃o:Wat,cs=Z8 o/\o.2.1.length+o.2.2.1.length+2<=b:=by
 cases h with
 | cons c1 h e1 =>
 cases h with
 | cons c2 h e2 =>
 cases h with
 | cons c3 h e3 =>
 cases h with
 | cons c4 h e4 =>
 cases h;obtain⟨p,rfl⟩:=c1.1;obtain⟨t,rfl⟩:=c2.1;obtain⟨n,rfl⟩:=c3.1;obtain⟨k,rfl⟩:=c4.1;have q2:=Z43.str hB Tryz.underlying9 c2;have q3:=Z43.str hB Tryz.underlying9 c3;exact⟨(p,t,n,k),rfl,by simp only;omega⟩
theorem Z17n(hB:Bulk B):∀{rows:List (List Value)} {bs:List Nat},bs.length=rows.length->(∀(i:Nat) r b,rows[i]?=some r->bs[i]?=some b->Lv enc Tryz.prog w sp B [(3,.int .i64),(9,.str),(9,.str),(3,.int .i64)] r b) -> ∃l:List Wat,rows=l.map Z8/\∀x∈l,x.2.2.1.length<=bs.sum:=by
 intro rows;induction rows with
 | nil=>exact λ_ _=>⟨[],rfl,by simp⟩
 | cons r rows ih =>
  intro bs hl h
  match bs,hl with
  | b::bs,hl =>
   obtain⟨l,e,hb⟩:=ih (bs:=bs) (by simpa using hl) (λi r' b' h1 h2=>h (i+1) r' b' (by simpa using h1) (by simpa using h2));obtain⟨o,rfl,hob⟩:=Z17m hB (h 0 r b rfl rfl);refine⟨o::l,by rw[e];rfl,?_⟩;intro x hx;rw[List.sum_cons];rcases List.mem_cons.1 hx with rfl|hx
   ·omega
   ·have:=hb x hx;omega
end
end Go.Proofs.Y
namespace Go.Proofs.Y
open Go Go.Sx Go.ChangeShapes Go.WideShapes Go.ChangeAt Go.RowKit
theorem tyk1:Tryz.prog.underlying 22=some (.slice 89):=by kernel_rfl
theorem tyk2:Z42 Tryz.prog 8 89=some [(9,.str),(9,.str),(3,.int .i64)]:=by kernel_rfl
theorem tyk3:Tryz.prog.cellsOf 89=3:=by kernel_rfl
theorem tyw1:Tryz.prog.underlying 23=some (.slice 71):=by kernel_rfl
theorem tyw2:Z42 Tryz.prog 8 71=some [(9,.str),(9,.str),(3,.int .i64)]:=by kernel_rfl
theorem tyw3:Tryz.prog.cellsOf 71=3:=by kernel_rfl
theorem tys1:Tryz.prog.underlying 24=some (.slice 64):=by kernel_rfl
theorem tys2:Z42 Tryz.prog 8 64=some [(9,.str),(4,.bool),(4,.bool),(62,.oth),(62,.oth),(3,.int .i64)]:=by kernel_rfl
theorem tys3:Tryz.prog.cellsOf 64=6:=by kernel_rfl
theorem tyf1:Tryz.prog.underlying 62=some (.slice 132):=by kernel_rfl
theorem tyf2:Z42 Tryz.prog 8 132=some [(3,.int .i64),(9,.str),(9,.str)]:=by kernel_rfl
theorem tyf3:Tryz.prog.cellsOf 132=3:=by kernel_rfl
theorem tya1:Tryz.prog.underlying 25=some (.slice 74):=by kernel_rfl
theorem tya2:Z42 Tryz.prog 8 74=some [(3,.int .i64),(9,.str),(9,.str),(3,.int .i64)]:=by kernel_rfl
theorem tya3:Tryz.prog.cellsOf 74=4:=by kernel_rfl
section
variable {H:Type} {enc:TypeId×Value->H} {w:World} {B:DataW H->Nat}
theorem Z159(hB:Bulk B){P:Program}{sp:Nat->Bool}{ls:List (TypeId×Kd)}{cs:List Value}{b:Nat}(h:Lv enc P w sp B ls cs b):ls.length<=b:=by
 induction h with
 | nil b=>exact Nat.zero_le _
 | cons h1 h2 h3 ih =>
  obtain⟨-,n,d,ps,-,h5⟩:=h1;have:=hB.one d;rw[List.length_cons];omega
theorem Z15a(hB:Bulk B):∀{rows:List (List Value)} {bs:List Nat},bs.length=rows.length->(∀(i:Nat) r b,rows[i]?=some r->bs[i]?=some b->Lv enc Tryz.prog w (λ_=>true) B [(9,.str),(4,.bool),(4,.bool),(62,.oth),(62,.oth),(3,.int .i64)] r b) -> ∃l:List SesX,rows=l.map Zc/\(Z6 l []).holds w/\(∀t∈l,t.1.cl.length+t.1.fl.length+t.1.qu.length<=bs.sum/\(∀x∈t.1.fl,x.2.1.length<=bs.sum)/\∀x∈t.1.qu,x.2.1.length<=bs.sum)/\6*l.length<=bs.sum:=by
 intro rows;induction rows with
 | nil=>exact λ_ _=>⟨[],rfl,Z7t w,by simp,by simp⟩
 | cons r rows ih =>
  intro bs hl h
  match bs,hl with
  | b::bs,hl =>
   obtain⟨l,e,hp,hb,hn⟩:=ih (bs:=bs) (by simpa using hl) (λi r' b' h1 h2=>h (i+1) r' b' (by simpa using h1) (by simpa using h2));have hlv:=h 0 r b rfl rfl;have hle:=Z159 hB hlv;obtain⟨s,u,v,e2,ru,rv,z1,z2,z3⟩:=Z17j hB tyf1 tyf2 tyf3 hlv;have e3:r=Zc (s,u,v):=by have e4:=Value.agg.inj e2;have e5:=congrArg Array.toList e4;exact e5
   refine⟨(s,u,v)::l,by rw[e,e3];rfl,?_,?_,?_⟩
   ·refine Z11 (l:=l) (o:=[]) (λt ht=>?_) (λt ht=>.inl ht) hp;rcases List.mem_cons.1 ht with rfl|ht
    ·exact .inr ⟨ru,rv⟩
    ·exact .inl ht
   ·intro t ht;rw[List.sum_cons];rcases List.mem_cons.1 ht with rfl|ht
    ·exact⟨by simp only;omega,λx hx=>by have:=z2 x hx;omega,λx hx=>by have:=z3 x hx;omega⟩
    ·obtain⟨q1,q2,q3⟩:=hb t ht;exact⟨by omega,λx hx=>by have:=q2 x hx;omega,λx hx=>by have:=q3 x hx;omega⟩
   ·simp only[List.length_cons,List.length_nil]at hle;rw[List.sum_cons,List.length_cons];omega
theorem Z17o(hB:Bulk B){cs:List Value}{b:Nat}(h:Lv enc Tryz.prog w (λ_=>true) B [(22,.oth),(23,.oth),(24,.oth),(25,.oth),(3,.int .i64)] cs b)(hb:b<=4000000) : ∃x:TelX,Value.agg cs.toArray=bkV x/\x.ox=[]/\RdX w x/\SmlT x.tel:=by
 cases h with
 | cons c1 h e1 =>
 cases h with
 | cons c2 h e2 =>
 cases h with
 | cons c3 h e3 =>
 cases h with
 | cons c4 h e4 =>
 cases h with
 | cons c5 h e5 =>
 cases h;obtain⟨n,rfl⟩:=c5.1;obtain⟨-,n1,d1,ps1,hx1,hb1⟩:=c1;obtain⟨rows1,bs1,rd1,bl1,lv1,bk1⟩:=Z65 hB (f:=8) tyk1 tyk2 tyk3 (by decide) hx1;have rl1:=Zab hB (by decide) bl1 lv1;obtain⟨l1,rfl,s1⟩:=Z17k hB bl1 lv1;obtain⟨-,n2,d2,ps2,hx2,hb2⟩:=c2;obtain⟨rows2,bs2,rd2,bl2,lv2,bk2⟩:=Z65 hB (f:=8) tyw1 tyw2 tyw3 (by decide) hx2;have rl2:=Zab hB (by decide) bl2 lv2;obtain⟨l2,rfl,s2⟩:=Z17l hB bl2 lv2;obtain⟨-,n3,d3,ps3,hx3,hb3⟩:=c3;obtain⟨rows3,bs3,rd3,bl3,lv3,bk3⟩:=Z65 hB (f:=8) tys1 tys2 tys3 (by decide) hx3;obtain⟨l3,rfl,p3,s3,k3⟩:=Z15a hB bl3 lv3;obtain⟨-,n4,d4,ps4,hx4,hb4⟩:=c4;obtain⟨rows4,bs4,rd4,bl4,lv4,bk4⟩:=Z65 hB (f:=8) tya1 tya2 tya3 (by decide) hx4;have rl4:=Zab hB (by decide) bl4 lv4;obtain⟨l4,rfl,s4⟩:=Z17n hB bl4 lv4;rw[qy3]at rl1 rl2 rl4;simp only at bk1 bk2 bk3 bk4;refine⟨⟨l1,l2,l3,l4,n,[],_,_,_,_,.slice none 0 0⟩,by rw[bkV,rd1.sc1,rd2.sc1,rd3.sc1,rd4.sc1],rfl,⟨rd1,rd2,rd3,p3,rd4⟩,?_⟩;refine⟨λx hx=>by have:=s1 x hx;omega,by show l1.length<_;omega,λx hx=>?_,by show l2.length<_;omega,λs hs=>?_,?_,λx hx=>?_,by show l4.length<_;omega⟩
 ·have:=s2 x hx;exact⟨by omega,by omega⟩
 ·obtain⟨t,ht,rfl⟩:=List.mem_map.1 hs;obtain⟨q1,q2,q3⟩:=s3 t ht;exact⟨λx hx=>by have:=q2 x hx;omega,λx hx=>by have:=q3 x hx;omega,by omega,by omega,by omega⟩
 ·show(l3.map (·.1)).length<_
  rw[qy3];omega
 ·have:=s4 x hx;omega
end
