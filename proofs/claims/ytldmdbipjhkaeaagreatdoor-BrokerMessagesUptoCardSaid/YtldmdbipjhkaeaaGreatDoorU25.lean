/- By an AI agent. -/
import Derived.Test.YtldmdbipjhkaeaaGreatDoorU23
import Derived.Test.YtldmdbipjhkaeaaGreatDoorU24
import Derived.Test.YtldmdbipjhkaeaaGreatDoorU18
set_option linter.all false
set_option maxHeartbeats 20000000
namespace Go.Proofs.Y
open Go Go.Sx
theorem Z147{e:Int}{t u:Tel}(h:e=0->t=u):resB e t=resB e u:=by
  unfold resB;split
  . rename_i h1;exact h h1
  . rfl
theorem Zr4(w:World)(x y:TelX)(e:Int)(hx:RdX w x)(ox:reads w x.ov kSn (x.ox.map Z12))(hy:RdX w y)(oy:reads w y.ov kSn (y.ox.map Z12))(hs:SmlT x.tel)(h6:Zp7 x.ox)(h7:x.ox.length<1000000000)(h0:x.tel=resB e y.tel) : Calls Tryz.prog 14 #[bkV x,sc1 x.ov,.int .i64 e,.int .i64 e,bkV y,sc1 y.ov] w λr w'=>r=.returned (.bool true)/\Mod [] w w':=by
  refine Z1 (Z3 (J:=bkA x++([V.v x.ov,V.r (x.ox.map Z12),V.a (Z6 x.sx x.ox),V.i e,V.i e]++(bkA y++[V.v y.ov,V.r (y.ox.map Z12),V.a (Z6 y.sx y.ox)]))) (sxE_ok.joins _) Tryz.func14 Z5r rfl rfl
    (Rel.start2 (qy2.2 ⟨⟨hx.kept,rfl⟩,qy2.2 ⟨⟨hx.want,rfl⟩,qy2.2 ⟨⟨hx.sess,rfl⟩,qy2.2 ⟨⟨hx.nest,rfl⟩,qy2.2 ⟨⟨hx.wat,rfl⟩,qy2.2 ⟨⟨ox,rfl⟩,qy2.2 ⟨⟨hx.nest,rfl⟩,qy2.2 ⟨⟨hy.kept,rfl⟩,qy2.2 ⟨⟨hy.want,rfl⟩,qy2.2 ⟨⟨hy.sess,rfl⟩,qy2.2 ⟨⟨hy.nest,rfl⟩,qy2.2 ⟨⟨hy.wat,rfl⟩,qy2.2 ⟨⟨oy,rfl⟩,qy2.2 ⟨⟨hy.nest,rfl⟩,qy5 _⟩⟩⟩⟩⟩⟩⟩⟩⟩⟩⟩⟩⟩⟩)) rfl rfl ?_) rfl
  simp only[Tree.goal,X.P,X.ev,SV.ev,CV.ev,Sc.ev,qz,QA,QB,QC,QD,QE,QF,QG,QH,QI,QJ,QK,QL,QM,Nat.reduceAdd,qy3,qy4];intro b28 b29;refine⟨λvs=>∃z:TelX,vs=[.i 0,.v z.ov,.v z.kv,.v z.wv,.v z.sv,.v z.av,.i z.next,.r (z.ox.map Z12),.r (z.kept.map encK),.r (z.wants.map Za),.r (z.sx.map Zf),.r (z.wat.map Z7)]/\z=if e=0 then y else Zmt,⟨λh=>⟨Zmt,rfl,by rw[if_neg h]⟩,λh=>⟨y,rfl,by rw[if_pos (qy9.1 h)]⟩⟩,?_⟩;rintro _ - ⟨z,rfl,hz⟩;simp only[Tree.goal,X.P,X.ev,SV.ev,CV.ev,Sc.ev,qz,QA,QB,QC,QD,QE,QF,QG,QH,QI,QJ,QK,QL,QM,Nat.reduceAdd,qy3,qy4];have hzt:z.tel=x.tel:=by rw[h0,hz,resB];split<;>rfl
  have hzn:∀{w':World},(Z6 y.sx y.ox).holds w'->(Z6 z.sx z.ox).holds w':=λ{w'} h=>by
    rw[hz];split
    . exact h
    . exact Z75 w'
  refine⟨[.b true],rfl,λh w' hr=>?_,?_⟩
  . have hc:=Zlc w' x z ⟨hr.at_ 7 rfl,hr.at_ 8 rfl,hr.at_ 9 rfl,hr.at_ 10 rfl,hr.at_ 11 rfl⟩ ⟨hr.at_ 1 rfl,hr.at_ 2 rfl,hr.at_ 3 rfl,hzn (hr.at_ 17 rfl),hr.at_ 4 rfl⟩ hs.b.keptL hs.b.wantsL hs.b.watL (by have:=hs.b.sessL;omega) hs.f;rw[show Zmx x.tel z.tel=true from Zvz.2 (by rw[hzt])]at hc;exact hc
  simp only[Tree.goal,X.P,X.ev,SV.ev,CV.ev,Sc.ev,qz,QA,QB,QC,QD,QE,QF,QG,QH,QI,QJ,QK,QL,QM,Nat.reduceAdd,qy3,qy4];refine⟨[.b true],rfl,λh w' hr=>?_,?_⟩
  . have hc:=Zr0 w' x.ov z.ov x.ox z.ox x.sx z.sx (hr.at_ 12 rfl) (hr.at_ 0 rfl) (hr.at_ 10 rfl) (hzn (hr.at_ 17 rfl)) h6 h7;rw[show Zw0 (x.ox.map (·.1)) (z.ox.map (·.1))=true from Zfd.2 (congrArg Tel.out hzt).symm]at hc;exact hc
  simp only[Tree.goal,X.P,X.ev,SV.ev,CV.ev,Sc.ev,qz,QA,QB,QC,QD,QE,QF,QG,QH,QI,QJ,QK,QL,QM,Nat.reduceAdd,qy3,qy4];intro w' hr;exact⟨by simp,hr.mod⟩
theorem Zzv{e:Int}{t:Tel}{y:TelX}(hy:y.tel=resB e t)(h:e=0->BOk t):SmlT y.tel:=by rw[hy];exact .res h
theorem Zzw{e:Int}{t:Tel}{y:TelX}(hy:y.tel=resB e t)(h:e=0->Z32 t.out/\t.out.length<=200):Zp7 y.ox/\y.ox.length<1000000000:=by
  have h1:y.ox.map (·.1)=(resB e t).out:=by rw[<- hy];rfl
  have h2:(resB e t).out.length<=200/\Z32 (resB e t).out:=by
    unfold resB;split
    . rename_i h3;exact⟨(h h3).2,(h h3).1⟩
    . exact⟨by decide,.nil⟩
  refine⟨Zw1 (by rw[h1];exact h2.2),?_⟩;have h3:=congrArg List.length h1;rw[qy3]at h3;omega
def Outs(f:Tel->Tel):Prop:=∀t:Tel,∃(g:Tel) (r:List Snt),∀o,f { t with out:=o }={ g with out:=o++r }
theorem Zaz{α:Type}{f:Tel->α->Tel}(h:∀a,Outs λt=>f t a):∀l:List α,Outs λt=>l.foldl f t
 | []=>λt=>⟨t,[],λo=>by simp⟩
 | a::l=>λt=>by
  obtain⟨g,r,h1⟩:=h a t;obtain⟨g',r',h2⟩:=Zaz h l g;refine⟨g',r++r',λo=>?_⟩;have e1:f { t with out:=o } a={ g with out:=o++r }:=h1 o;have e2:l.foldl f { g with out:=o++r }={ g' with out:=(o++r)++r' }:=h2 (o++r)
  show(a::l).foldl f { t with out:=o }=_
  rw[List.foldl_cons,e1,e2,List.append_assoc]
theorem Zr5(n p:List UInt8)(q:Int):Outs (Z68 n p q):=λt=>by obtain⟨g,r,h1⟩:=Zaz (f:=Z19 n p q) (λa t=>⟨Z19 n p q t a,(Z1v (t.sess.getD (idxS t.sess a.1) s0) n p (min q a.2)).2.map λk=>toC a.1 (pkOf k),λo=>rfl⟩) (rdOf n t.wants) t;obtain⟨g',r',h2⟩:=Zaz (f:=Z39 p) (λa t=>⟨Z39 p t a,[toP a.1 (putM ⟨1,69,t.next,a.2.1,[],p⟩ a.2.2.2)],λo=>rfl⟩) (Z2k n g.wat) { g with wat:=Z28 n g.wat };refine⟨g',r++r',λo=>?_⟩;have e:Z5a n p q { t with out:=o }={ g with out:=o++r }:=h1 o;have e2:(Z2k n g.wat).foldl (Z39 p) { { g with wat:=Z28 n g.wat }with out:=o++r }={ g' with out:=(o++r)++r' }:=h2 (o++r);rw[Z68,e,<- List.append_assoc];exact e2
theorem Zhb(n p:List UInt8)(t:Tel):∃(g:Tel) (r:List Snt),∀o,Zx n p { t with out:=o }=({ g with out:=o++r },(Zx n p t).2):=by
 by_cases h1:(rawK t.kept n p).2=0
 ·by_cases h2:p=[]
  ·obtain⟨g,r,h3⟩:=Zaz (f:=Z7k) (λa t=>⟨Z7k t a,[toP a.1 ⟨1,132,t.next,a.2.1,[],[]⟩],λo=>rfl⟩) (t.wat.filter (ofT n)) { t with kept:=(rawK t.kept n p).1 };refine⟨{ g with wat:=t.wat.filter λw=>!ofT n w },r,λo=>?_⟩;have e:(t.wat.filter (ofT n)).foldl Z7k { { t with kept:=(rawK t.kept n p).1 }with out:=o }={ g with out:=o++r }:=h3 o;rw[Zx,if_neg (show ¬¬(rawK t.kept n p).2=0 from qy9.2 h1),if_neg (qy9.2 h2),Zx,if_neg (qy9.2 h1),if_neg (qy9.2 h2)]
   show(({ (t.wat.filter (ofT n)).foldl Z7k { { t with kept:=(rawK t.kept n p).1 }with out:=o }with wat:=t.wat.filter λw=>!ofT n w }:Tel),true)=_
   rw[e]
  ·refine⟨{ t with kept:=(rawK t.kept n p).1 },[],λo=>?_⟩;rw[Zx,if_neg (show ¬¬(rawK t.kept n p).2=0 from qy9.2 h1),if_pos h2,Zx,if_neg (qy9.2 h1),if_pos h2,List.append_nil]
 ·refine⟨t,[],λo=>?_⟩;rw[Zx,if_pos (show ¬(rawK t.kept n p).2=0 from h1),Zx,if_pos h1,List.append_nil]
theorem Zwb(n:Int)(m a:Msg)(name:List UInt8)(t:Tel)(o:List Snt):getB n m a name { t with out:=o }=({ (getB n m a name t).1 with out:=o },(getB n m a name t).2):=by
 unfold getB;by_cases h1:hasK t.kept name=true
 ·rw[if_neg (show ¬¬hasK t.kept name=true from qy9.2 h1),if_neg (qy9.2 h1)];by_cases h2:(Z2a 6 m.opts).2=0/\(Z2a 6 m.opts).1=0
  ·simp only[if_pos h2];by_cases h3:(Z2t t.wat (n,m.tok,name,1)).2=0
   ·simp only[if_pos h3]
   ·simp only[if_neg h3]
  ·simp only[if_neg h2];by_cases h3:(Z2a 6 m.opts).2=0/\(Z2a 6 m.opts).1=1
   ·simp only[if_pos h3]
   ·simp only[if_neg h3]
 ·rw[if_pos (show ¬hasK t.kept name=true from h1),if_pos h1]
theorem Zzx(n:Int)(m a:Msg)(t:Tel):∃(g:Tel) (r:List Snt) (b:Msg),∀o,doB n m a { t with out:=o }=({ g with out:=o++r },b):=by
 by_cases h1:(Z10 m.opts).2=0;rotate_left
 ·exact⟨t,[],{ a with code:=128 },λo=>by rw[doB,if_pos h1,List.append_nil]⟩
 by_cases h2:m.code=1
 ·exact⟨(getB n m a (Z10 m.opts).1 t).1,[],(getB n m a (Z10 m.opts).1 t).2,λo=>by rw[doB,if_neg (qy9.2 h1),if_pos h2,Zwb,List.append_nil]⟩
 by_cases h3:m.code=3
 ·obtain⟨g,r,h4⟩:=Zhb (Z10 m.opts).1 m.pay t;by_cases h5:¬m.pay=[]/\(Zx (Z10 m.opts).1 m.pay t).2=true
  ·obtain⟨g',r',h6⟩:=Zr5 (Z10 m.opts).1 m.pay 1 g;refine⟨g',r++r',{ a with code:=68 },λo=>?_⟩;rw[doB,if_neg (qy9.2 h1),if_neg h2,if_pos h3,h4,if_pos h5]
   show(Z68 (Z10 m.opts).1 m.pay 1 { g with out:=o++r },{ a with code:=68 })=_
   rw[h6,List.append_assoc]
  ·refine⟨t,[],{ a with code:=128 },λo=>?_⟩;rw[doB,if_neg (qy9.2 h1),if_neg h2,if_pos h3,h4,if_neg h5,List.append_nil]
 by_cases h4:m.code=4
 ·obtain⟨g,r,h5⟩:=Zhb (Z10 m.opts).1 [] t;exact⟨g,r,{ a with code:=66 },λo=>by rw[doB,if_neg (qy9.2 h1),if_neg h2,if_neg h3,if_pos h4,h5]⟩
 ·exact⟨t,[],a,λo=>by rw[doB,if_neg (qy9.2 h1),if_neg h2,if_neg h3,if_neg h4,List.append_nil]⟩
theorem Zmy(n:Int)(m:Msg)(t:Tel)(s:Snt):Z2z n m t={ (doB n m (Z1o m t.next) { t with next:=if m.kind=1 then nx_Z t.next else t.next,out:=t.out++[s] }).1 with out:=(doB n m (Z1o m t.next) { t with next:=if m.kind=1 then nx_Z t.next else t.next,out:=t.out++[s] }).1.out.set t.out.length (toP n (doB n m (Z1o m t.next) { t with next:=if m.kind=1 then nx_Z t.next else t.next,out:=t.out++[s] }).2) }:=by obtain⟨g,r,b,h⟩:=Zzx n m (Z1o m t.next) { t with next:=if m.kind=1 then nx_Z t.next else t.next };have h1:=h (t.out++[s]);have h2:=h (t.out++[toP n (Z1o m t.next)]);simp only at h1 h2;rw[Z2z];simp only;rw[h1,h2];simp
theorem Z17g(n:Int)(m a:Msg)(t:Tel):(doB n m a t).2=⟨a.kind,(doB n m a t).2.code,a.id,a.tok,(doB n m a t).2.opts,(doB n m a t).2.pay⟩:=by
 unfold doB;split
 ·rfl
 split
 ·unfold getB;split
  ·rfl
  simp only;split
  ·split<;>rfl
  ·split<;>rfl
 split
 ·split<;>rfl
 split<;>rfl
