/- By an AI agent. -/
import Derived.Test.YtldmdbipjhkaeaaGreatDoorU15
import Derived.Test.YtldmdbipjhkaeaaGreatDoorU16
import Derived.Test.YtldmdbipjhkaeaaGreatDoorU11
import Derived.Test.YtldmdbipjhkaeaaGreatDoorU10
import Derived.Test.YtldmdbipjhkaeaaGreatDoorU06
set_option linter.all false
set_option maxHeartbeats 20000000
namespace Go.Proofs.Y
open Go Go.Sx
theorem Zmp(w:World)(k:Nat)(x:TelX)(c:List UInt8)(lv:Value)(l:List Z5p)(hr:Rel ⟨Zi (tlA k x) dlH,w⟩ (tlA k x++pkA c lv l) (dlH++pkH) w)(hl:l.length<1000000)(ho:x.ox.length<1000000) : Calls Tryz.prog 42 #[.pointer (some ⟨k,0,none⟩),.string ⟨c.toArray⟩,sc1 lv] w λe w'=>e=.returned (.tuple #[])/\∃ov':Value,Rel ⟨Zi (tlA k x) dlH,w⟩ (tlA k { x with ox:=x.ox++l.map (Zf2 c),ov:=ov' }) dlH w':=by
 refine Z1 (Z3 (J:=tlA k x++pkA c lv l) sxE_ok Tryz.func42 Z3m rfl rfl hr rfl rfl ?_) rfl;simp only[Tree.goal,X.P,X.ev,SV.ev,CV.ev,Sc.ev,qz,QA,QB,QC,QD,QE,QF,QG,QH,QI,QJ,QK,QL,QM,Nat.reduceAdd,qy3,qy4];refine⟨λvs=>∃(i:Nat) (u:Value),vs=[.i i,.v x.kv,.r (x.kept.map encK),.v x.wv,.r (x.wants.map Za),.v x.sv,.r (x.sx.map Zf),.v x.av,.r (x.wat.map Z7),.i x.next,.v u,.r ((x.ox++(l.take i).map (Zf2 c)).map Z12)]/\i<=l.length,λvs=>l.length - (vs.getD 0 (.i 0)).toI.toNat,⟨0,x.ov,by simp,by omega⟩,?_⟩;rintro _ - ⟨i,u,rfl,hi⟩;simp only[Tree.goal,X.P,X.ev,SV.ev,CV.ev,Sc.ev,qz,QA,QB,QC,QD,QE,QF,QG,QH,QI,QJ,QK,QL,QM,Nat.reduceAdd,qy3,qy4];refine⟨λh1=>?_,λh1 w' hr=>?_⟩
 ·have hrow:=Z10l (l:=l) (i:=i) (by omega);simp only[hrow,Z31,List.getD_cons_zero,List.getD_cons_succ,Value.gI,Value.gB,Value.gS];refine⟨by omega,λv=>⟨by simp only[qy11,qy3,List.length_take];omega,λv1=>⟨by omega,by omega,⟨i+1,v1,?_,by omega⟩,by omega⟩⟩⟩;rw[Z15i l i (by omega),Z1a,Z1a];simp only[List.map_append,List.append_assoc];rfl
 ·have:i=l.length:=by omega
  subst this;rw[List.take_length]at hr;refine⟨by trivial,u,?_⟩;refine Zl2 hr (by rfl) k { x with ox:=x.ox++l.map (Zf2 c),ov:=u } ?_ ?_ [1,2,3,4,5,0,7] (by decide) rfl
  ·refine Z11 (l:=x.sx) (o:=x.ox) (λt ht=>.inl ht) (λt ht=>?_) (hr.at_ 5 rfl);rcases qy13.1 ht with ht|ht
   ·exact .inl ht
   ·obtain⟨p,hp,rfl⟩:=List.mem_map.1 ht;have:=Zkt (hr.at_ 8 rfl:(Zq l).holds w') hp;exact .inr ⟨this.1,this.2,Z9 _ _⟩
  ·intro j hj;rcases Zb.1 hj with⟨t,ht,hj⟩|⟨t,ht,hj⟩
   ·exact⟨_,qy6 (i:=5) rfl,rfl,Zb.2 (.inl ⟨t,ht,hj⟩)⟩
   ·rcases qy13.1 ht with ht|ht
    ·exact⟨_,qy6 (i:=5) rfl,rfl,Zb.2 (.inr ⟨t,ht,hj⟩)⟩
    ·obtain⟨p,hp,rfl⟩:=List.mem_map.1 ht;exact⟨_,qy6 (i:=8) rfl,rfl,Zau hp (Ziq hj)⟩
theorem Zqt(w:World)(k:Nat)(x:TelX)(c:List UInt8)(lv:Value)(l:List Z5p)(hr:Rel ⟨Zi (tlA k x) dlH,w⟩ (tlA k x++pkA c lv l) (dlH++pkH) w)(hl:l.length<1000000)(ho:x.ox.length<1000000) : Calls Tryz.prog 42 #[.pointer (some ⟨k,0,none⟩),.string ⟨c.toArray⟩,sc1 lv] w λe w'=>e=.returned (.tuple #[])/\Zl1 w w' k x (Zq l).fp { x.tel with out:=x.tel.out++l.map λt=>toC c t.1 }:=by
 refine(Zmp w k x c lv l hr hl ho).mono ?_;rintro e w' ⟨rfl,ov',hr'⟩;refine⟨rfl,Zfa (y:={ x with ox:=x.ox++l.map (Zf2 c),ov:=ov' }) ?_ hr' λj hj=>?_⟩
 ·simp[TelX.tel,Zf2,Function.comp_def]
 ·rcases hj with hj|hj|hj|hj|hj
  ·exact .inr (.inl (.inl (.inl hj)))
  ·exact .inr (.inl (.inl (.inr (.inl hj))))
  ·exact .inr (.inl (.inl (.inr (.inr (.inl hj)))))
  ·exact .inr (.inl (.inl (.inr (.inr (.inr (.inl hj))))))
  rcases Zb.1 hj with h1|⟨t,ht,hk⟩
  ·exact .inr (.inl (.inl (.inr (.inr (.inr (.inr (Zb.2 (.inl h1))))))))
  ·rcases qy13.1 ht with ht|ht
   ·exact .inr (.inl (.inl (.inr (.inr (.inr (.inr (Zb.2 (.inr ⟨t,ht,hk⟩))))))))
   ·obtain⟨p,hp,rfl⟩:=List.mem_map.1 ht;exact .inr (.inr (Zau hp (Ziq hk)))
theorem Zv8(w:World)(k:Nat)(x:TelX)(n p:List UInt8)(hr:Rel ⟨Zi (tlA k x) dlH,w⟩ (tlA k x++[.s n,.s p]) dlH w)(hb:BOk x.tel)(hsm:Z8s x.kept)(hn:n.length<4294967281)(ho:x.ox.length<100000) : Calls Tryz.prog 38 #[.pointer (some ⟨k,0,none⟩),.string ⟨n.toArray⟩,.string ⟨p.toArray⟩] w λe w'=>e=.returned (.bool (Zx n p x.tel).2)/\Zl1 w w' k x (λ_=>False) (Zx n p x.tel).1:=by
 refine Z1 (Z3 (J:=tlA k x++[.s n,.s p]) sxE_ok Tryz.func38 Z55 rfl rfl hr rfl rfl ?_) rfl;simp only[Tree.goal,X.P,X.ev,SV.ev,CV.ev,Sc.ev,qz,QA,QB,QC,QD,QE,QF,QG,QH,QI,QJ,QK,QL,QM,Nat.reduceAdd,qy3,qy4,Z1z,Z20,Z1b,gW3];intro w1 hr1;refine(Z13b w1 x.kv x.kept n p (hr1.at_ 0 rfl) hb.kept hsm hn).mono ?_;rintro e w2 ⟨u,rfl,a1,f1,m1⟩;refine⟨[.v u,.r ((rawK x.kept n p).1.map encK),.i (rawK x.kept n p).2],rfl,rfl,m1,qy5 _,qy2.2 ⟨⟨a1,λk hk=>.inl (f1 k hk.2)⟩,qy5 _⟩,Z5,?_⟩;have f2:∀j,Z2 u j->w.heap.size<=j:=λj hj=>Nat.le_trans hr1.mod.size (f1 j hj);clear a1 f1 m1 hr1 hr;obtain⟨K,hK⟩:∃K,K=(rawK x.kept n p).1:=⟨_,rfl⟩
 simp only[Tree.goal,X.P,X.ev,SV.ev,CV.ev,Sc.ev,qz,QA,QB,QC,QD,QE,QF,QG,QH,QI,QJ,QK,QL,QM,Nat.reduceAdd,qy3,qy4,Z1z,Z20,Z1b,gW3,<- hK];refine⟨λh1 w3 hr=>?_,λh1=>⟨λh2 w3 hr=>?_,λh2=>?_⟩⟩
 ·have e:Zx n p x.tel=(x.tel,false):=by rw[Zx,if_pos (show ¬(rawK x.tel.kept n p).2=0 from h1)]
  rw[e];exact⟨rfl,x,rfl,(hr.pick [1,2,3,4,5,6,7] (by decide)).conv rfl,.refl _ _ _⟩
 ·have e:Zx n p x.tel=({ x.tel with kept:=K },true):=by rw[Zx,if_neg (show ¬¬(rawK x.tel.kept n p).2=0 from h1),if_pos h2,hK];rfl
  rw[e];refine⟨rfl,Zfa (y:={ x with kept:=K,kv:=u }) rfl ((hr.pick [0,2,3,4,5,6,7] (by decide)).conv rfl) λj hj=>?_⟩;rcases hj with hj|hj
  ·exact .inl (f2 j hj.2)
  ·exact .inr (.inl (.inl (.inr hj)))
 ·have h2:=qy9.1 h2;obtain⟨T0,hT0⟩:∃T0:Tel,T0=⟨K,x.wants,x.sx.map (·.1),x.wat,x.next,x.ox.map (·.1)⟩:=⟨_,rfl⟩
  have q0:T0.next=x.next:=by rw[hT0]
  have q1:T0.out=x.tel.out:=by rw[hT0];rfl
  have q2:0<=T0.next/\T0.next<=65535:=by rw[q0];exact hb.next
  have q3:T0.kept=K/\T0.wants=x.wants/\T0.sess=x.sx.map (·.1):=by rw[hT0];exact⟨rfl,rfl,rfl⟩
  have e:Zx n p x.tel=({ Z1p n x.wat x.wat.length T0 with wat:=x.wat.filter λw=>!ofT n w },true):=by rw[Zx,if_neg (show ¬¬(rawK x.tel.kept n p).2=0 from h1),if_neg (qy9.2 h2),Z1p,List.take_length,hT0,hK];rfl
  rw[e];have hw12:x.wat.length<=12:=(Zr.1 hb.wat).1;have hnx:∀i,0<=(Z1p n x.wat i T0).next/\(Z1p n x.wat i T0).next<=65535:=λi=>(Zcd _ T0 q2).2.2.2.2.1;have hol:∀i,(Z1p n x.wat i T0).out.length<=x.ox.length+12:=λi=>by
   have h3:=(Zcd ((x.wat.take i).filter (ofT n)) T0 q2).2.2.2.2.2;have h4:((x.wat.take i).filter (ofT n)).length<=(x.wat.take i).length:=List.length_filter_le _ _;have h5:(x.wat.take i).length<=x.wat.length:=by simp;omega
   have h6:x.tel.out.length=x.ox.length:=by simp[TelX.tel]
   unfold Z1p;rw[h3,q1,h6];omega
  refine⟨λvs=>∃(i:Nat) (u1 u':Value) (add:List Snt),vs=[.v u1,.r (((x.wat.take i).filter λw=>!ofT n w).map Z7),.i i,.v x.wv,.r (x.wants.map Za),.v x.sv,.r (x.sx.map Zf),.v x.av,.r (x.wat.map Z7),.i (Z1p n x.wat i T0).next,.v u',.r ((x.ox++add.map nilX).map Z12)]/\i<=x.wat.length/\(Z1p n x.wat i T0).out=x.tel.out++add/\∀s∈add,nilS s,
   λvs=>(x.wat.length - (vs.getD 2 (.i 0)).toI).toNat,⟨0,_,x.ov,[],by simp[Z1p,q0];rfl,by omega,by simp[Z1p,q1],by simp⟩,?_⟩
  rintro _ - ⟨i,u1,u',add,rfl,hi,hT,hnil⟩;simp only[Tree.goal,X.P,X.ev,SV.ev,CV.ev,Sc.ev,qz,QA,QB,QC,QD,QE,QF,QG,QH,QI,QJ,QK,QL,QM,Nat.reduceAdd,qy3,qy4,Z1z,Z20,Z1b,gW3];have hnxi:=hnx i;have hadd:add.length<=12:=by have:=hol i;rw[hT,qy11,show x.tel.out.length=x.ox.length by simp[TelX.tel]]at this;omega
  have hlf:((x.wat.take i).filter λw=>!ofT n w).length<=12:=Nat.le_trans (List.length_filter_le _ _) (by rw[List.length_take];omega);refine⟨λh3=>⟨by omega,λb3=>⟨λh4=>?_,λh4=>?_⟩⟩,λh3 w3 hr=>?_⟩
  ·have hst:=Z8e (n:=n) T0 (show i<x.wat.length by omega);rw[if_neg h4]at hst;have h5:ofT n (x.wat.getD i wD_K)=false:=decide_eq_false h4;refine λv4=>⟨by first|omega|(simp only[qy11,qy3,List.length_cons,List.length_nil];omega),λv5=>⟨by omega,by omega,⟨i+1,v5,u',add,?_,by omega,by rw[hst];exact hT,hnil⟩,by omega⟩⟩
   rw[hst,Z4c wD_K _ x.wat i (by omega),if_pos (by rw[h5];rfl),List.map_append (f:=Z7)];rfl
  ·have h4:=qy9.1 h4;have hst:=Z8e (n:=n) T0 (show i<x.wat.length by omega);rw[if_pos h4]at hst;have h5:ofT n (x.wat.getD i wD_K)=true:=decide_eq_true h4;have hfin:∀v:Value,∃(i':Nat) (u1' u'':Value) (add':List Snt),[V.v u1,.r (((x.wat.take i).filter λw=>!ofT n w).map Z7),.i (i+1),.v x.wv,.r (x.wants.map Za),.v x.sv,.r (x.sx.map Zf),.v x.av,.r (x.wat.map Z7),.i (((Z1p n x.wat i T0).next+1) % 65536),.v v,.r ((x.ox++add.map nilX).map Z12++[Z12 (nilX (toP (x.wat.getD i wD_K).1 ⟨1,132,(Z1p n x.wat i T0).next,(x.wat.getD i wD_K).2.1,[],[]⟩))])] =
     [.v u1',.r (((x.wat.take i').filter λw=>!ofT n w).map Z7),.i i',.v x.wv,.r (x.wants.map Za),.v x.sv,.r (x.sx.map Zf),.v x.av,.r (x.wat.map Z7),.i (Z1p n x.wat i' T0).next,.v u'',.r ((x.ox++add'.map nilX).map Z12)]/\i'<=x.wat.length/\(Z1p n x.wat i' T0).out=x.tel.out++add'/\∀s∈add',nilS s:=λv=>by
    refine⟨i+1,u1,v,add++[toP (x.wat.getD i wD_K).1 ⟨1,132,(Z1p n x.wat i T0).next,(x.wat.getD i wD_K).2.1,[],[]⟩],?_,by omega,?_,?_⟩
    ·rw[hst,Z4c wD_K _ x.wat i (by omega),if_neg (by rw[h5];decide),List.append_nil];simp only[List.map_append,List.append_assoc,List.map_cons,List.map_nil];rfl
    ·rw[hst];show(Z1p n x.wat i T0).out++_=_;rw[hT,List.append_assoc]
    ·intro s hs;rcases qy13.1 hs with hs|hs
     ·exact hnil s hs
     ·rw[qy12.1 hs];exact⟨rfl,rfl,rfl⟩
   repeat' (first|exact hfin _|omega|(intro _)|(refine⟨?_,?_⟩)|(simp only[qy11,qy3,List.length_cons,List.length_nil];omega))
  ·have hil:i=x.wat.length:=by omega
   subst hil;rw[List.take_length]at hr;have hnw:=Zf9 hr 0 8 rfl rfl (by decide) rfl;obtain⟨r1,r2⟩:=Z8d (l:=x.sx) (o:=x.ox) hnil;have hTs:=Zcd ((x.wat.take x.wat.length).filter (ofT n)) T0 q2;refine⟨by trivial,Zfa (y:=⟨K,x.wants,x.sx,x.wat.filter (λw=>!ofT n w),(Z1p n x.wat x.wat.length T0).next,x.ox++add.map nilX,u,x.wv,x.sv,u1,u'⟩) ?_ (Zl2 (toRd hr) (by rfl) k _ (r1 w3 (hr.at_ 7 rfl)) (λj hj=>(qE 7 rfl rfl (r2 j hj))) [2,4,5,1,7,0,9] (by decide) rfl) λj hj=>?_⟩
   ·have e4:(x.ox++add.map nilX).map (·.1)=(Z1p n x.wat x.wat.length T0).out:=by rw[hT];simp[TelX.tel,nilX,Function.comp_def]
    have e1:(Z1p n x.wat x.wat.length T0).kept=K:=hTs.1.trans q3.1;have e2:(Z1p n x.wat x.wat.length T0).wants=x.wants:=hTs.2.1.trans q3.2.1;have e3:(Z1p n x.wat x.wat.length T0).sess=x.sx.map (·.1):=hTs.2.2.1.trans q3.2.2;simp only[TelX.tel,e4];generalize Z1p n x.wat x.wat.length T0=T at e1 e2 e3⊢
    cases T;simp only at e1 e2 e3⊢;rw[e1,e2,e3]
   ·rcases hj with hj|hj|hj|hj|hj
    ·exact .inl (f2 j hj.2)
    ·exact .inr (.inl (.inl (.inr (.inl hj))))
    ·exact .inr (.inl (.inl (.inr (.inr (.inl hj)))))
    ·rcases hnw j hj.2 with h|h
     ·exact .inl h
     ·exact .inr (.inl (.inr h))
    ·exact .inr (.inl (.inl (.inr (.inr (.inr (.inr (r2 j hj)))))))
theorem Zbu{rs:List Rd}{i:Nat}{f:Tel->Rd->Tel}{t:Tel}(h:i<rs.length):(rs.take (i+1)).foldl f t=f ((rs.take i).foldl f t) (rs.getD i yD):=by rw[Z174 rs i h,List.foldl_append];rfl
theorem Z6c{J:List V}{u v x:Nat}{ks ks' ks'':List Kd}{r r' r'':X}:Z2o J [.rd u ks r,.rd v ks' r',.rd x ks'' r'']:=by
 refine List.pairwise_cons.2 ⟨λe he=>?_,List.pairwise_cons.2 ⟨λe he=>?_,List.pairwise_singleton _ _⟩⟩
 ·rintro(h|h)
  ·cases h
  ·rcases List.mem_cons.1 he with rfl|he
   ·cases h
   ·rw[qy12.1 he]at h;cases h
 ·rintro(h|h)
  ·cases h
  ·rw[qy12.1 he]at h;cases h
abbrev optX(s:Snt)(v:Value):SntX:=(s,.slice none 0 0,.slice none 0 0,v)
theorem Z10q(q b:Int):(if b<q then b else q)=min q b:=by split<;>omega
set_option maxRecDepth 2000 in
theorem Zl3(w:World)(k:Nat)(x:TelX)(n p:List UInt8)(q:Int)(hr:Rel ⟨Zi (tlA k x) tlH,w⟩ (tlA k x++[.s n,.s p,.i q]) tlH w)(hb:BOk x.tel)(ho:x.ox.length<100000)(hsm:Z1n x.wants)(hp:flE (0,n,p)=0)(hq:0<=q/\q<=1) : Calls Tryz.prog 143 #[.pointer (some ⟨k,0,none⟩),.string ⟨n.toArray⟩,.string ⟨p.toArray⟩,.int .i64 q] w λe w'=>e=.returned (.tuple #[])/\Z7z w w' k x (λ_=>False) (Z68 n p q x.tel):=by
 refine Z1 (Z3 (J:=tlA k x++[.s n,.s p,.i q]) (sxE_ok.joins _) Tryz.func143 Z71 rfl rfl hr rfl rfl ?_) rfl;simp only[Tree.goal,X.P,X.ev,SV.ev,CV.ev,Sc.ev,qz,QA,QB,QC,QD,QE,QF,QG,QH,QI,QJ,QK,QL,QM,Nat.reduceAdd,qy3,qy4,gY0,gY1];have hn60:n.length<=60:=by
  have h1:chkT n false=0:=by
   unfold flE at hp;split at hp
   ·assumption
   ·exact absurd hp (by assumption)
  exact(Z4o.1 h1).2.1.1
 intro w1 hr1;refine(c_Of w1 x.wv x.wants n (hr1.at_ 1 rfl) hsm (by omega) hb.wants).mono ?_;rintro e w2 ⟨v0,rfl,a1,a2,am⟩;obtain⟨rs,hrs⟩:∃rs,rs=rdOf n x.wants:=⟨_,rfl⟩
 rw[<- hrs]at a1;have hrl:rs.length<=20:=by rw[hrs];exact Zuu n hb.wants
 have hrd:∀r∈rs,hasS x.tel.sess r.1=true:=by rw[hrs];exact Z4q hb n
 refine⟨[.v v0,.r (rs.map encY)],rfl,rfl,am,qy5 _,qy2.2 ⟨⟨a1.reads,λk hk=>.inl (a2 k hk.2)⟩,qy5 _⟩,Z5,?_⟩;clear hr1 a1 a2 am hr;simp only[Tree.goal,X.P,X.ev,SV.ev,CV.ev,Sc.ev,qz,QA,QB,QC,QD,QE,QF,QG,QH,QI,QJ,QK,QL,QM,Nat.reduceAdd,qy3,qy4,gY0,gY1];refine⟨Z6 x.sx x.ox,λw hr=>hr.at_ 6 rfl,λj hj=>(qE 6 rfl rfl hj),?_⟩;refine⟨λvs=>∃(i:Nat) (y:TelX),vs=[.i i,.a (Z6 y.sx y.ox),.v y.kv,.r (y.kept.map encK),.v y.wv,.r (y.wants.map Za),.v y.sv,.r (y.sx.map Zf),.v y.av,.r (y.wat.map Z7),.i y.next,.v y.ov,.r (y.ox.map Z12)]/\i<=rs.length/\y.tel=(rs.take i).foldl (Z19 n p q) x.tel/\Grew w.heap.size (λ_=>False) x y,
  λvs=>(rs.length - (vs.getD 0 (.i 0)).toI).toNat,⟨0,x,rfl,by omega,rfl,.refl _ _ _⟩,?_⟩
 rintro _ - ⟨i,y,rfl,hi,htel,hg⟩;simp only[Tree.goal,X.P,X.ev,SV.ev,CV.ev,Sc.ev,qz,QA,QB,QC,QD,QE,QF,QG,QH,QI,QJ,QK,QL,QM,Nat.reduceAdd,qy3,qy4,gY0,gY1];obtain⟨k1,k2,k3,k4,k5,k6,k7⟩:=Z81 (q:=q) hp (rs.take i) hb (λr hr=>hrd r (List.mem_of_mem_take hr));rw[<- htel]at k1 k2 k3 k4 k5 k6 k7;have hol:y.ox.length<=x.ox.length+140:=by
  have h1:y.tel.out.length=y.ox.length:=by simp[TelX.tel]
  have h2:x.tel.out.length=x.ox.length:=by simp[TelX.tel]
  have h3:(rs.take i).length<=20:=by simp;omega
  omega
 refine⟨λh1=>?_,λh1=>?_⟩
 ·have hi':i<rs.length:=by omega
  have hmem:rs.getD i yD∈rs:=memY rs i hi';have hh0:hasS y.tel.sess (rs.getD i yD).1=true:=by rw[Zf8 hb.sort k2];exact hrd _ hmem
  obtain⟨hlt,hse⟩:=Zmo hh0;have hok:SesOk (y.sx.getD (idxS y.tel.sess (rs.getD i yD).1) sxD).1:=by rw[hse];exact Zcc k1 hh0
  have hqr:0<=(rs.getD i yD).2/\(rs.getD i yD).2<=1:=by obtain⟨z,hz,-,-,e⟩:=Zis (n:=n) hb.wants (y:=rs.getD i yD) (by show rs.getD i yD∈rdOf n x.wants;rw[<- hrs];exact hmem);have:=(Zkj hb.wants z hz).2.2;omega
  refine⟨by omega,λb1=>⟨[.i (idxS y.tel.sess (rs.getD i yD).1),.b (hasS y.tel.sess (rs.getD i yD).1)],rfl,λ_ w' hr=>Zf1 w' y.sv y.sx (rs.getD i yD).1 (hr.at_ 5 rfl).reads k1.sort (by have:=k1.ns;rw[Z1y,qy3]at this;omega),?_⟩⟩;generalize hix:idxS y.tel.sess (rs.getD i yD).1=ix at hlt hse hok
  simp only[Tree.goal,X.P,X.ev,SV.ev,CV.ev,Sc.ev,qz,QA,QB,QC,QD,QE,QF,QG,QH,QI,QJ,QK,QL,QM,Nat.reduceAdd,qy3,qy4,gY0,gY1];have hrow:=Z7y hlt;simp only[hrow,Zf,List.getD_cons_zero,List.getD_cons_succ,Value.gI,Value.gB,Value.gS,Z1a];have hS0:(y.sx.getD ix sxD)=(y.sx.getD ix sxD):=rfl;generalize hss:y.sx.getD ix sxD=ss at hok hse
  obtain⟨s,s',s''⟩:=ss;simp only at hok hse⊢;obtain⟨S,hS⟩:∃S,S=Z1v s n p (min q (rs.getD i yD).2):=⟨_,rfl⟩
  have hcl':S.1.cl=s.cl/\S.1.on=s.on/\S.1.clean=s.clean:=by rw[hS];exact⟨Zmj _ _ _ _,(Zit _ _ _ _).1,(Zit _ _ _ _).2⟩
  have hS7:S.2.length<=7:=by rw[hS];exact Zbt n p _ hok.nq
  have hT2:∀u1 u2:Value,Z19 n p q y.tel (rs.getD i yD)={ (TelX.tel { y with sx:=y.sx.set ix (S.1,u1,u2) })with out:=(TelX.tel { y with sx:=y.sx.set ix (S.1,u1,u2) }).out++(S.2.map pkN).map λt=>toC (rs.getD i yD).1 t.1 }:=λu1 u2=>by rw[Ziu,Z19,hix,<- hse,<- hS];simp only[TelX.tel,List.map_set]
  refine⟨by omega,by omega,?_,?_⟩
  ·intro w1 hr1;have hs0:=Zp (hr1.at_ 1 rfl:(Z6 y.sx y.ox).holds w1) (Z4z hlt);rw[hss]at hs0;obtain⟨hs1,hs2⟩:=hs0;rw[Z10q];refine(Z1 (Zt4 w1 s s' s'' n p (min q (rs.getD i yD).2) hs1 hs2 hok.next (by have:=hok.nf;omega) (by have:=hok.nq;omega)) rfl).mono ?_;rw[<- hS];rintro e w2 ⟨u1,u2,u3,rfl,g1,g2,g3,g4,g5,g6,gm⟩;refine⟨[.s s.cl,.b s.on,.b s.clean,.v u1,.r (S.1.fl.map encF),.v u2,.r (S.1.qu.map encF),.i S.1.next,.v u3,.r ((S.2.map pkN).map Z31)],rfl,?_,gm,qy5 _,qy2.2 ⟨⟨g1,λk hk=>.inl (g4 k hk.2)⟩,qy2.2 ⟨⟨g2,λk hk=>.inl (g5 k hk.2)⟩,qy2.2 ⟨⟨by show reads w2 u3 kP ((S.2.map pkN).map Z31);rw[Z8f];exact g3,λk hk=>.inl (g6 k hk.2)⟩,qy5 _⟩⟩⟩,Z6c ..,?_⟩
   ·simp only[Tree.goal,X.P,X.ev,SV.ev,CV.ev,Sc.ev,qz,QA,QB,QC,QD,QE,QF,QG,QH,QI,QJ,QK,QL,QM,Nat.reduceAdd,sesV,hcl'.1,hcl'.2.1,hcl'.2.2]
   have hnw:w.heap.size<=w1.heap.size:=hr1.mod.size;clear hr1;simp only[Tree.goal,X.P,X.ev,SV.ev,CV.ev,Sc.ev,qz,QA,QB,QC,QD,QE,QF,QG,QH,QI,QJ,QK,QL,QM,Nat.reduceAdd,qy3,qy4];intro b2;intro w3 hr3;have hsz3:w.heap.size<=w3.heap.size:=hr3.mod.size;have hA3:(Z6 (y.sx.set ix (S.1,u1,u2)) y.ox).holds w3:=Z8g (hr3.at_ 5 rfl) (hr3.at_ 1 rfl) (hr3.at_ 2 rfl);have hf3:∀j,(Z6 (y.sx.set ix (S.1,u1,u2)) y.ox).fp j->(Z6 y.sx y.ox).fp j\/((S.1.fl.map encF).flatten≠[]/\Z2 u1 j)\/((S.1.qu.map encF).flatten≠[]/\Z2 u2 j):=λj hj=>(Z3g hj).elim (λh=>.inl h) (λh=>.inr h);refine(Z30 (k:=k) (x:={ y with sx:=y.sx.set ix (S.1,u1,u2) }) (F:=(Zq (S.2.map pkN)).fp) (pre:=[]) hr3 46 0 [25,27,30]
    (Z1f w3 k { y with sx:=y.sx.set ix (S.1,u1,u2) } (rs.getD i yD).1 u3 (S.2.map pkN) (Z7b hr3 (by rfl) k { y with sx:=y.sx.set ix (S.1,u1,u2) } (Zq (S.2.map pkN)) _ _ hA3 (λj hj=>?_) (Z82 _ _) (λj hj=>absurd hj Z4r) [9,10,11,12,13,1,15,5,0] (by decide) rfl (Zg rfl (Zg rfl (Zg (Z2r rfl ?_) rfl)))) (by rw[qy3];omega) (by show y.ox.length<1000000;omega))
    rfl rfl (Nat.succ_pos _) rfl (λj hj=>?_)).mono ?_
   ·rcases hf3 j hj with h|h|h
    ·exact(qE 5 rfl rfl h)
    ·exact(qE 1 rfl rfl h)
    ·exact(qE 2 rfl rfl h)
   ·simp only[Tree.goal,X.P,X.ev,SV.ev,CV.ev,Sc.ev,qz,QA,QB,QC,QD,QE,QF,QG,QH,QI,QJ,QK,QL,QM,Nat.reduceAdd,qy3,qy4];rw[<- Z3h];simp only[hcl'.1,hcl'.2.1,hcl'.2.2]
   ·rcases hj with hj|hj|hj|hj
    ·exact(qE 7 rfl rfl hj)
    ·exact(qE 8 rfl rfl hj)
    ·rcases hf3 j hj with h|h|h
     ·exact(qE 5 rfl rfl h)
     ·exact(qE 1 rfl rfl h)
     ·exact(qE 2 rfl rfl h)
    ·exact absurd hj Z4r
   rintro e w4 ⟨y2,hy2,hsz4,hgr,rfl,m1,m2,m3,m4⟩;refine⟨tlV y2,rfl,rfl,m1,m2,m3,m4,?_⟩;simp only[Tree.goal,X.P,X.ev,SV.ev,CV.ev,Sc.ev,qz,QA,QB,QC,QD,QE,QF,QG,QH,QI,QJ,QK,QL,QM,Nat.reduceAdd,qy3,qy4];refine⟨by omega,by omega,Z6 y2.sx y2.ox,λw hr=>hr.at_ 5 rfl,λj hj=>(qE 5 rfl rfl hj),⟨i+1,y2,rfl,by omega,?_,?_⟩,by omega⟩
   ·rw[hy2,<- hT2 u1 u2,htel,Zbu (f:=Z19 n p q) hi']
   ·exact(Zdm hg hnw (λj h=>g4 j h) (λj h=>g5 j h)).trans hgr hsz3 (λj h=>absurd h Z4r)
  ·intro b2;intro w1 hr1;have hs0:=Zp (hr1.at_ 2 rfl:(Z6 y.sx y.ox).holds w1) (Z4z hlt);rw[hss]at hs0;obtain⟨hs1,hs2⟩:=hs0;rw[Z10q];refine(Z1 (Zt4 w1 s s' s'' n p (min q (rs.getD i yD).2) hs1 hs2 hok.next (by have:=hok.nf;omega) (by have:=hok.nq;omega)) rfl).mono ?_;rw[<- hS];rintro e w2 ⟨u1,u2,u3,rfl,g1,g2,g3,g4,g5,g6,gm⟩;refine⟨[.s s.cl,.b s.on,.b s.clean,.v u1,.r (S.1.fl.map encF),.v u2,.r (S.1.qu.map encF),.i S.1.next,.v u3,.r ((S.2.map pkN).map Z31)],rfl,?_,gm,qy5 _,qy2.2 ⟨⟨g1,λk hk=>.inl (g4 k hk.2)⟩,qy2.2 ⟨⟨g2,λk hk=>.inl (g5 k hk.2)⟩,qy2.2 ⟨⟨by show reads w2 u3 kP ((S.2.map pkN).map Z31);rw[Z8f];exact g3,λk hk=>.inl (g6 k hk.2)⟩,qy5 _⟩⟩⟩,Z6c ..,?_⟩
   ·simp only[Tree.goal,X.P,X.ev,SV.ev,CV.ev,Sc.ev,qz,QA,QB,QC,QD,QE,QF,QG,QH,QI,QJ,QK,QL,QM,Nat.reduceAdd,sesV,hcl'.1,hcl'.2.1,hcl'.2.2]
   have hnw:w.heap.size<=w1.heap.size:=hr1.mod.size;clear hr1;simp only[Tree.goal,X.P,X.ev,SV.ev,CV.ev,Sc.ev,qz,QA,QB,QC,QD,QE,QF,QG,QH,QI,QJ,QK,QL,QM,Nat.reduceAdd,qy3,qy4];intro w3 hr3;have hsz3:w.heap.size<=w3.heap.size:=hr3.mod.size;have hA3:(Z6 (y.sx.set ix (S.1,u1,u2)) y.ox).holds w3:=Z8g (hr3.at_ 5 rfl) (hr3.at_ 0 rfl) (hr3.at_ 1 rfl);have hf3:∀j,(Z6 (y.sx.set ix (S.1,u1,u2)) y.ox).fp j->(Z6 y.sx y.ox).fp j\/((S.1.fl.map encF).flatten≠[]/\Z2 u1 j)\/((S.1.qu.map encF).flatten≠[]/\Z2 u2 j):=λj hj=>(Z3g hj).elim (λh=>.inl h) (λh=>.inr h);refine(Z30 (k:=k) (x:={ y with sx:=y.sx.set ix (S.1,u1,u2) }) (F:=(Zq (S.2.map pkN)).fp) (pre:=[]) hr3 46 0 [25,27,30]
    (Z1f w3 k { y with sx:=y.sx.set ix (S.1,u1,u2) } (rs.getD i yD).1 u3 (S.2.map pkN) (Z7b hr3 (by rfl) k { y with sx:=y.sx.set ix (S.1,u1,u2) } (Zq (S.2.map pkN)) _ _ hA3 (λj hj=>?_) (Z82 _ _) (λj hj=>absurd hj Z4r) [9,10,11,12,13,1,15,4,0] (by decide) rfl (Zg rfl (Zg rfl (Zg (Z2r rfl ?_) rfl)))) (by rw[qy3];omega) (by show y.ox.length<1000000;omega))
    rfl rfl (Nat.succ_pos _) rfl (λj hj=>?_)).mono ?_
   ·rcases hf3 j hj with h|h|h
    ·exact(qE 5 rfl rfl h)
    ·exact(qE 0 rfl rfl h)
    ·exact(qE 1 rfl rfl h)
   ·simp only[Tree.goal,X.P,X.ev,SV.ev,CV.ev,Sc.ev,qz,QA,QB,QC,QD,QE,QF,QG,QH,QI,QJ,QK,QL,QM,Nat.reduceAdd,qy3,qy4];rw[<- Z3h];simp only[hcl'.1,hcl'.2.1,hcl'.2.2]
   ·rcases hj with hj|hj|hj|hj
    ·exact(qE 7 rfl rfl hj)
    ·exact(qE 8 rfl rfl hj)
    ·rcases hf3 j hj with h|h|h
     ·exact(qE 5 rfl rfl h)
     ·exact(qE 0 rfl rfl h)
     ·exact(qE 1 rfl rfl h)
    ·exact absurd hj Z4r
   rintro e w4 ⟨y2,hy2,hsz4,hgr,rfl,m1,m2,m3,m4⟩;refine⟨tlV y2,rfl,rfl,m1,m2,m3,m4,?_⟩;simp only[Tree.goal,X.P,X.ev,SV.ev,CV.ev,Sc.ev,qz,QA,QB,QC,QD,QE,QF,QG,QH,QI,QJ,QK,QL,QM,Nat.reduceAdd,qy3,qy4];refine⟨by omega,by omega,Z6 y2.sx y2.ox,λw hr=>hr.at_ 5 rfl,λj hj=>(qE 5 rfl rfl hj),⟨i+1,y2,rfl,by omega,?_,?_⟩,by omega⟩
   ·rw[hy2,<- hT2 u1 u2,htel,Zbu (f:=Z19 n p q) hi']
   ·exact(Zdm hg hnw (λj h=>g4 j h) (λj h=>g5 j h)).trans hgr hsz3 (λj h=>absurd h Z4r)
 ·have hil:i=rs.length:=by omega
  subst hil;rw[List.take_length]at htel;have hT1:y.tel=Z5a n p q x.tel:=by rw[htel,hrs];rfl
  have hwn:=watN k1.wat;have hw12:y.wat.length<=12:=(Zr.1 k1.wat).1;intro w1 hr1;refine(Z121 w1 y.av y.wat n (hr1.at_ 5 rfl).reads (by omega) hwn).mono ?_;rintro e w2 ⟨v1,v2,rfl,g1,g2,g3,g4,g5,gm⟩;have hnw:w.heap.size<=w1.heap.size:=hr1.mod.size;obtain⟨W,hW⟩:∃W,W=Z28 n y.wat:=⟨_,rfl⟩
  obtain⟨Z,hZ⟩:∃Z,Z=Z2k n y.wat:=⟨_,rfl⟩
  rw[<- hW]at g1;rw[<- hZ]at g2;refine⟨[.v v1,.r (W.map Z7),.v v2,.r (Z.map Z7)],rfl,rfl,gm,qy5 _,qy2.2 ⟨⟨g1,λk hk=>.inl (g3 k hk)⟩,qy2.2 ⟨⟨g2,λk hk=>.inl (g4 k hk)⟩,qy5 _⟩⟩,List.pairwise_cons.2 ⟨λe he _ k h1 h2=>by rw[qy12.1 he]at h2;exact g5 k h1 h2,List.pairwise_singleton _ _⟩,?_⟩;have hZ12:Z.length<=12:=by rw[hZ];exact Z9h n k1.wat
  have hZn:∀z∈Z,0<=z.2.2.2/\z.2.2.2<=16777215:=λz hz=>by
   rw[hZ,Z2k]at hz;obtain⟨z0,hz0,rfl⟩:=List.mem_map.1 hz;have:=hwn z0 (List.mem_filter.1 hz0).1;unfold Z3x;split
   ·show 0<=(if 16777215<z0.2.2.2+1 then 0 else z0.2.2.2+1)/\(if 16777215<z0.2.2.2+1 then 0 else z0.2.2.2+1)<=16777215
    split<;>omega
   ·exact this
  clear hr1 g1 g2 g3 g4 g5 gm;obtain⟨T0,hT0⟩:∃T0:Tel,T0=⟨y.kept,y.wants,y.sx.map (·.1),W,y.next,y.ox.map (·.1)⟩:=⟨_,rfl⟩
  have hTB:Z68 n p q x.tel=Z.foldl (Z39 p) T0:=by rw[Z68,<- hT1,hZ,hT0,hW];rfl
  have hn0:0<=T0.next/\T0.next<=65535:=by rw[hT0];exact k1.next
  refine⟨Z6 y.sx y.ox,λw hr=>hr.at_ 2 rfl,λj hj=>(qE 2 rfl rfl hj),?_⟩;refine⟨λvs=>∃(i:Nat) (z:TelX),vs=[.i i,.a (Z6 z.sx z.ox),.v z.kv,.r (z.kept.map encK),.v z.wv,.r (z.wants.map Za),.v z.sv,.r (z.sx.map Zf),.v z.av,.r (z.wat.map Z7),.i z.next,.v z.ov,.r (z.ox.map Z12)]/\i<=Z.length/\z.tel=(Z.take i).foldl (Z39 p) T0/\Grew w.heap.size (λ_=>False) x z,
   λvs=>(Z.length - (vs.getD 0 (.i 0)).toI).toNat,⟨0,{ y with wat:=W,av:=v1 },rfl,by omega,by rw[hT0];rfl,hg.kept,hg.want,hg.nest⟩,?_⟩
  rintro _ - ⟨j,z,rfl,hj,hzt,hgz⟩;simp only[Tree.goal,X.P,X.ev,SV.ev,CV.ev,Sc.ev,qz,QA,QB,QC,QD,QE,QF,QG,QH,QI,QJ,QK,QL,QM,Nat.reduceAdd,qy3,qy4,Z1z,Z20,Z1b,gW3];obtain⟨q1,q2,q3,q4,q5,q6⟩:=Zos p (Z.take j) T0 hn0;rw[<- hzt]at q1 q2 q3 q4 q5 q6;have hzl:z.ox.length<=x.ox.length+152:=by
   have h1:z.tel.out.length=z.ox.length:=by simp[TelX.tel]
   have h2:T0.out.length=y.ox.length:=by rw[hT0];simp
   have h3:(Z.take j).length<=12:=by simp;omega
   omega
  have hzn:0<=z.next/\z.next<=65535:=q5;refine⟨λh1=>?_,λh1 w3 hr=>⟨by trivial,z,?_,?_,hgz⟩⟩
  ·have hj':j<Z.length:=by omega
   have hnum:=hZn (Z.getD j wD_K) (by rw[qy1,qy7 hj'];exact List.getElem_mem hj');refine⟨by omega,λb1=>?_⟩;refine⟨λvs=>∃b:Nat,vs=[.n b],⟨⟨by omega,by omega,λb=>⟨b,rfl⟩⟩,λb=>⟨by omega,by omega,b,rfl⟩⟩,?_⟩;rintro _ - ⟨b2,rfl⟩;simp only[Tree.goal,X.P,X.ev,SV.ev,CV.ev,Sc.ev,qz,QA,QB,QC,QD,QE,QF,QG,QH,QI,QJ,QK,QL,QM,Nat.reduceAdd,qy3,qy4,Z1z,Z20,Z1b,gW3];rw[Zv6 _ hzn];obtain⟨m0,hm0⟩:∃m0:Msg,m0=⟨1,69,z.next,(Z.getD j wD_K).2.1,[],p⟩:=⟨_,rfl⟩
   obtain⟨m1,hm1⟩:∃m1:Msg,m1=putM m0 (Z.getD j wD_K).2.2.2:=⟨_,rfl⟩
   refine⟨λvs=>∃v' u':Value,vs=[.i 0,.i 0,.i 0,.i 0,.i 1,.i 69,.i z.next,.s (Z.getD j wD_K).2.1,.v v',.r (m1.opts.map encO),.s p,.i 0,.i 0,.v u',.r ((z.ox++[optX (toP (Z.getD j wD_K).1 m1) v']).map Z12)]/\∀k,Z2 v' k->w.heap.size<=k,?_,?_⟩
   ·refine⟨λb3 b4=>⟨?_,?_⟩,λb3 b4=>⟨?_,?_⟩⟩
    ·refine⟨[.s (Z1x (Z.getD j wD_K).2.2.2)],rfl,λ_ w' _=>Zbq w' _ hnum,?_⟩;simp only[Tree.goal,X.P,X.ev,SV.ev,CV.ev,Sc.ev,qz,QA,QB,QC,QD,QE,QF,QG,QH,QI,QJ,QK,QL,QM,Nat.reduceAdd,qy3,qy4,Z1z,Z20,Z1b,gW3];intro v5;intro w4 hr4;have hn4:=hr4.mod.size;refine(Z1 (Zar w4 ⟨1,69,z.next,(Z.getD j wD_K).2.1,[],p⟩ (.slice none 0 0) v5 6 [Z1x (Z.getD j wD_K).2.2.2] (Z9 _ _) (hr4.at_ 0 rfl).reads (show 0<1000000000 by decide) (show 1<1000000000 by decide)) rfl).mono ?_;rintro e w5 ⟨v',rfl,a1,a2,am⟩;refine⟨[.i 1,.i 69,.i z.next,.s (Z.getD j wD_K).2.1,.v v',.r (m1.opts.map encO),.s p],rfl,rfl,am,qy5 _,qy2.2 ⟨⟨by rw[hm1,hm0];exact a1,λk hk=>.inl (a2 k hk.2)⟩,qy5 _⟩,Z5,?_⟩;intro b6 v6;refine⟨by first|omega|(simp only[qy11,qy3,List.length_cons,List.length_nil];omega),λv7=>⟨v',v7,?_,λk hk=>Nat.le_trans hn4 (a2 k hk)⟩⟩;(simp only[List.map_append,List.map_cons,List.map_nil];rw[hm1,hm0];rfl)
    ·refine⟨[.s (Z1x (Z.getD j wD_K).2.2.2)],rfl,λ_ w' _=>Zbq w' _ hnum,?_⟩;simp only[Tree.goal,X.P,X.ev,SV.ev,CV.ev,Sc.ev,qz,QA,QB,QC,QD,QE,QF,QG,QH,QI,QJ,QK,QL,QM,Nat.reduceAdd,qy3,qy4,Z1z,Z20,Z1b,gW3];refine⟨?_,?_⟩
     ·intro v5;intro w4 hr4;have hn4:=hr4.mod.size;refine(Z1 (Zar w4 ⟨1,69,z.next,(Z.getD j wD_K).2.1,[],p⟩ (.slice none 0 0) v5 6 [Z1x (Z.getD j wD_K).2.2.2] (Z9 _ _) (hr4.at_ 0 rfl).reads (show 0<1000000000 by decide) (show 1<1000000000 by decide)) rfl).mono ?_;rintro e w5 ⟨v',rfl,a1,a2,am⟩;refine⟨[.i 1,.i 69,.i z.next,.s (Z.getD j wD_K).2.1,.v v',.r (m1.opts.map encO),.s p],rfl,rfl,am,qy5 _,qy2.2 ⟨⟨by rw[hm1,hm0];exact a1,λk hk=>.inl (a2 k hk.2)⟩,qy5 _⟩,Z5,?_⟩;intro b6 v6;refine⟨by first|omega|(simp only[qy11,qy3,List.length_cons,List.length_nil];omega),λv7=>⟨v',v7,?_,λk hk=>Nat.le_trans hn4 (a2 k hk)⟩⟩;(simp only[List.map_append,List.map_cons,List.map_nil];rw[hm1,hm0];rfl)
     ·intro v5;intro w4 hr4;have hn4:=hr4.mod.size;refine(Z1 (Zar w4 ⟨1,69,z.next,(Z.getD j wD_K).2.1,[],p⟩ (.slice none 0 0) v5 6 [Z1x (Z.getD j wD_K).2.2.2] (Z9 _ _) (hr4.at_ 0 rfl).reads (show 0<1000000000 by decide) (show 1<1000000000 by decide)) rfl).mono ?_;rintro e w5 ⟨v',rfl,a1,a2,am⟩;refine⟨[.i 1,.i 69,.i z.next,.s (Z.getD j wD_K).2.1,.v v',.r (m1.opts.map encO),.s p],rfl,rfl,am,qy5 _,qy2.2 ⟨⟨by rw[hm1,hm0];exact a1,λk hk=>.inl (a2 k hk.2)⟩,qy5 _⟩,Z5,?_⟩;intro b6 v6;refine⟨by first|omega|(simp only[qy11,qy3,List.length_cons,List.length_nil];omega),λv7=>⟨v',v7,?_,λk hk=>Nat.le_trans hn4 (a2 k hk)⟩⟩;(simp only[List.map_append,List.map_cons,List.map_nil];rw[hm1,hm0];rfl)
    ·refine⟨[.s (Z1x (Z.getD j wD_K).2.2.2)],rfl,λ_ w' _=>Zbq w' _ hnum,?_⟩;simp only[Tree.goal,X.P,X.ev,SV.ev,CV.ev,Sc.ev,qz,QA,QB,QC,QD,QE,QF,QG,QH,QI,QJ,QK,QL,QM,Nat.reduceAdd,qy3,qy4,Z1z,Z20,Z1b,gW3];intro v5;intro w4 hr4;have hn4:=hr4.mod.size;refine(Z1 (Zar w4 ⟨1,69,z.next,(Z.getD j wD_K).2.1,[],p⟩ (.slice none 0 0) v5 6 [Z1x (Z.getD j wD_K).2.2.2] (Z9 _ _) (hr4.at_ 0 rfl).reads (show 0<1000000000 by decide) (show 1<1000000000 by decide)) rfl).mono ?_;rintro e w5 ⟨v',rfl,a1,a2,am⟩;refine⟨[.i 1,.i 69,.i z.next,.s (Z.getD j wD_K).2.1,.v v',.r (m1.opts.map encO),.s p],rfl,rfl,am,qy5 _,qy2.2 ⟨⟨by rw[hm1,hm0];exact a1,λk hk=>.inl (a2 k hk.2)⟩,qy5 _⟩,Z5,?_⟩;intro b6 v6;refine⟨by first|omega|(simp only[qy11,qy3,List.length_cons,List.length_nil];omega),λv7=>⟨v',v7,?_,λk hk=>Nat.le_trans hn4 (a2 k hk)⟩⟩;(simp only[List.map_append,List.map_cons,List.map_nil];rw[hm1,hm0];rfl)
    ·refine⟨[.s (Z1x (Z.getD j wD_K).2.2.2)],rfl,λ_ w' _=>Zbq w' _ hnum,?_⟩;simp only[Tree.goal,X.P,X.ev,SV.ev,CV.ev,Sc.ev,qz,QA,QB,QC,QD,QE,QF,QG,QH,QI,QJ,QK,QL,QM,Nat.reduceAdd,qy3,qy4,Z1z,Z20,Z1b,gW3];refine⟨?_,?_⟩
     ·intro v5;intro w4 hr4;have hn4:=hr4.mod.size;refine(Z1 (Zar w4 ⟨1,69,z.next,(Z.getD j wD_K).2.1,[],p⟩ (.slice none 0 0) v5 6 [Z1x (Z.getD j wD_K).2.2.2] (Z9 _ _) (hr4.at_ 0 rfl).reads (show 0<1000000000 by decide) (show 1<1000000000 by decide)) rfl).mono ?_;rintro e w5 ⟨v',rfl,a1,a2,am⟩;refine⟨[.i 1,.i 69,.i z.next,.s (Z.getD j wD_K).2.1,.v v',.r (m1.opts.map encO),.s p],rfl,rfl,am,qy5 _,qy2.2 ⟨⟨by rw[hm1,hm0];exact a1,λk hk=>.inl (a2 k hk.2)⟩,qy5 _⟩,Z5,?_⟩;intro b6 v6;refine⟨by first|omega|(simp only[qy11,qy3,List.length_cons,List.length_nil];omega),λv7=>⟨v',v7,?_,λk hk=>Nat.le_trans hn4 (a2 k hk)⟩⟩;(simp only[List.map_append,List.map_cons,List.map_nil];rw[hm1,hm0];rfl)
     ·intro v5;intro w4 hr4;have hn4:=hr4.mod.size;refine(Z1 (Zar w4 ⟨1,69,z.next,(Z.getD j wD_K).2.1,[],p⟩ (.slice none 0 0) v5 6 [Z1x (Z.getD j wD_K).2.2.2] (Z9 _ _) (hr4.at_ 0 rfl).reads (show 0<1000000000 by decide) (show 1<1000000000 by decide)) rfl).mono ?_;rintro e w5 ⟨v',rfl,a1,a2,am⟩;refine⟨[.i 1,.i 69,.i z.next,.s (Z.getD j wD_K).2.1,.v v',.r (m1.opts.map encO),.s p],rfl,rfl,am,qy5 _,qy2.2 ⟨⟨by rw[hm1,hm0];exact a1,λk hk=>.inl (a2 k hk.2)⟩,qy5 _⟩,Z5,?_⟩;intro b6 v6;refine⟨by first|omega|(simp only[qy11,qy3,List.length_cons,List.length_nil];omega),λv7=>⟨v',v7,?_,λk hk=>Nat.le_trans hn4 (a2 k hk)⟩⟩;(simp only[List.map_append,List.map_cons,List.map_nil];rw[hm1,hm0];rfl)
   rintro _ - ⟨v',u',rfl,hv'⟩;simp only[Tree.goal,X.P,X.ev,SV.ev,CV.ev,Sc.ev,qz,QA,QB,QC,QD,QE,QF,QG,QH,QI,QJ,QK,QL,QM,Nat.reduceAdd,qy3,qy4,Z1z,Z20,Z1b,gW3];have hstep:(Z.take (j+1)).foldl (Z39 p) T0=Z39 p ((Z.take j).foldl (Z39 p) T0) (Z.getD j wD_K):=by rw[Zmn wD_K Z j hj',List.foldl_append];rfl
   refine⟨by omega,by omega,Z6 z.sx (z.ox++[optX (toP (Z.getD j wD_K).1 m1) v']),λw4 hr=>?_,λi hi=>?_,⟨j+1,{ z with next:=nx_Z z.next,ox:=z.ox++[optX (toP (Z.getD j wD_K).1 m1) v'],ov:=u' },rfl,by omega,?_,?_⟩,by omega⟩
   ·refine Z11 (l:=z.sx) (o:=z.ox) (λt ht=>.inl ht) (λt ht=>?_) (hr.at_ 4 rfl);rcases qy13.1 ht with ht|ht
    ·exact .inl ht
    ·rw[qy12.1 ht];exact .inr ⟨Z9 _ _,Z9 _ _,hr.at_ 1 rfl⟩
   ·rcases Zb.1 hi with h5|⟨t,ht,hk⟩
    ·exact⟨_,qy6 (i:=4) rfl,rfl,Zb.2 (.inl h5)⟩
    ·rcases qy13.1 ht with ht|ht
     ·exact⟨_,qy6 (i:=4) rfl,rfl,Zb.2 (.inr ⟨t,ht,hk⟩)⟩
     ·rw[qy12.1 ht]at hk;rcases hk with hk|hk|hk
      ·exact absurd rfl hk.1
      ·exact absurd rfl hk.1
      ·exact(qE 1 rfl rfl hk)
   ·rw[hstep,<- hzt,hm1,hm0];simp only[TelX.tel,Z39,List.map_append,List.map_cons,List.map_nil]
   ·refine⟨hgz.kept,hgz.want,λi hi=>?_⟩;rcases Zb.1 hi with h5|⟨t,ht,hk⟩
    ·exact hgz.nest i (Zb.2 (.inl h5))
    ·rcases qy13.1 ht with ht|ht
     ·exact hgz.nest i (Zb.2 (.inr ⟨t,ht,hk⟩))
     ·rw[qy12.1 ht]at hk;rcases hk with hk|hk|hk
      ·exact absurd rfl hk.1
      ·exact absurd rfl hk.1
      ·exact .inl (hv' i hk.2)
  ·have hje:j=Z.length:=by omega
   rw[hje,List.take_length]at hzt;rw[hTB,hzt]
  ·exact(hr.pick [5,6,7,1,9,0,11] (by decide)).conv rfl
open Go.Shelf Go.RowKit Go.Lib
set_option maxRecDepth 100000 in
theorem Zv9:Zep Tryz.prog 152:=by
  intro w b n c i vb vc hi hc hb;go_enter Tryz.func152,Tryz.ntmps152
  go_wp2
  all_goals (go_ret;exact⟨rfl,rfl⟩)
set_option maxRecDepth 100000 in
theorem Zzd:Zk8 Tryz.prog 152 24:=by
  intro w b n c vb m vc hm hc hb v' w' hrun;have hz1:¬((m:Int)=0):=by omega
  go_enter Tryz.func152,Tryz.ntmps152
  go_wp2_with (at_builtin;refine Lib.wpList_append_run _ rfl _ _ _ _ rfl _ _ rfl rfl _ _ (hrun _) ?_)
  all_goals (go_ret;exact⟨rfl,rfl⟩)
set_option maxRecDepth 100000 in
theorem Zqu:Zag Tryz.prog 152 191 24 6:=by
  intro w g n c i vb m vc cur1 cur2 hi hm hroom hc63 hov hcp1 hcp2;obtain⟨hz1,hz2,hw1,hw2,hb1,hin,htn,htn2,hb3,-⟩:=insN hi hm (by omega);have hb2:¬(c=i+m):=by omega
  have hb4:¬(c=i):=by omega
  have mixed:Tryz.prog.follows Departure.mixedOrders=true:=by kernel_rfl
  go_enter Tryz.func152,Tryz.ntmps152
  go_wp2_with (simp only[hov])
  go_region_law_o (refine step_copy_runI rfl _ _ 24 24 rfl _ _ (by simp[Act.eval,Act.put]) (by simp[Act.eval,Act.put]) (hcp1 _ _ _) ?_)
  go_wp2_with (at_builtin;refine wpList_copy_runI _ rfl _ _ 24 24 rfl _ _ rfl rfl (hcp2 _ rfl _ _) ?_)
  go_ret
  first|exact⟨rfl,rfl⟩|exact⟨rfl,by rw[setRow_setRow]⟩
set_option maxRecDepth 100000 in
theorem Zva:Zeq Tryz.prog 152 64 24 3 6:=by
  intro w g n c i vb m vc G ROW cur2 cur3 hi hm hnc hroom hGn hG63 hrz hcpA hcpB Q hfin;obtain⟨hz1,hz2,hw1,-,hb1,hin,htn,-,-,hb3⟩:=insN hi hm (by omega);have hz3:(c:Int)<(n:Int)+(m:Int):=by omega
  have hGi:¬(G=i):=by omega
  have hGim:¬(G=i+m):=by omega
  have hci:¬(c=i):=by omega
  have mixed:Tryz.prog.follows Departure.mixedOrders=true:=by kernel_rfl
  have hE1:((w.alloc (.cells ROW 64)).drew).heap=(w.drew.alloc (.cells ROW 64)).heap:=rfl;have hF1:(((w.alloc (.cells ROW 64)).drew.setRow w.heap.size cur2).drew).heap=((w.drew.alloc (.cells ROW 64)).setRow w.heap.size cur2).heap:=rfl;go_enter Tryz.func152,Tryz.ntmps152
  go_wp2_with (first
    | (at_builtin;refine Lib.wpList_append_run _ rfl _ _ _ _ rfl _ _ rfl rfl _ _ (hrz _) ?_)
    | (at_builtin;refine wpList_copy_runI _ rfl _ _ 24 24 rfl _ _ rfl rfl (hcpA _ hE1 _ _) ?_)
    | (at_builtin;refine wpList_copy_runI _ rfl _ _ 24 24 rfl _ _ rfl rfl (hcpB _ hF1 _ _ _) ?_))
  go_region_law_o (refine step_copy_runI rfl _ _ 24 24 rfl (.slice (some ⟨w.heap.size,(i+m)*6,none⟩) (n+m - (i+m)) (G - (i+m))) (.slice (some ⟨g,i*6,none⟩) (n - i) (c - i)) (by simp[Act.eval,Act.put]) (by simp[Act.eval,Act.put]) (hcpB _ hF1 3 (G - (i+m)) (c - i)) ?_)
  go_wp2
  exact hfin _ rfl rfl rfl rfl
theorem Zvb(w:World)(s v:Value)(i:Nat)(R V:List (List Value))(hs:owns w s 64 [.str,.bool,.bool,.oth,.oth,.int .i64] R)(hv:owns w v 64 [.str,.bool,.bool,.oth,.oth,.int .i64] V)(hne:∀k,Z2 s k->Z2 v k->False)(hi:i<=R.length)(hb:(R.length+V.length)*80<=140737488355328) : Calls Tryz.prog 152 #[s,.int .i64 i,v] w λe w'=>∃v',e=.returned v'/\Zeo w w' s v' 64 [.str,.bool,.bool,.oth,.oth,.int .i64] (R.take i++V++R.drop i) :=
  Zia (K:=6) Tryz.underlying24 Tryz.underlying3 (by kernel_rfl) rfl (by decide) (by decide) (λargs w=>run_callFunc_extern Tryz.func191 (by kernel_rfl) (by kernel_rfl) (by kernel_rfl) (e:=Extern.SlicesOverlaps.overlaps #[24,24] #[4]) (by kernel_rfl) args w) Zv9 Zzd Zqu Zva w s v i R V hs hv hne hi hb
set_option maxRecDepth 100000 in
theorem Z13n(w:World)(g n c i j:Nat)(cur:Array Value)(hij:i<j)(hj:j<=n)(hnc:n<=c)(hc63:c<=9223372036854775807) (hg:w.heap[g]?=some (.cells cur 64 (0,0))) (hcs:cur.size=c*6) (h1c:∀v∈cur.toList.take (n*6),v.oneCell'=true) : Calls Tryz.prog 97 #[.slice (some ⟨g,0,none⟩) n c,.int .i64 i,.int .i64 j] w λe w'=>∃cur2:Array Value,e=.returned (.slice (some ⟨g,0,none⟩) (i+(n - j)) c)/\cur2.size=cur.size /\ cur2.toList.take ((i+(n - j))*6)=cur.toList.take (i*6)++(cur.toList.drop (j*6)).take ((n - j)*6)/\w'=w.drew.setRow g cur2:=by
  have hz1:¬((i:Int)=(j:Int)):=by omega
  have hu:=Tryz.underlying24;obtain⟨inf,hinf⟩:∃i0,Tryz.prog.info? 64=some i0:=by
    have:(Tryz.prog.info? 64).isSome=true:=by kernel_rfl
    exact Option.isSome_iff_exists.1 this
  have hk:inf.size=6:=by
    have:(Tryz.prog.info? 64).map (·.size)=some 6:=by kernel_rfl
    rw[hinf]at this;simpa using this
  obtain⟨z,hz,hzs⟩:∃z,inf.zero=some z/\(z.cells.size=6/\z.cells.toList.all (λv=>v.oneCell')=true):=by
    have:(Tryz.prog.info? 64).bind (λi=>i.zero.map (λz=>(z.cells.size,z.cells.toList.all (λv=>v.oneCell'))))=some (6,true):=by kernel_rfl
    rw[hinf]at this;simp only[Option.bind_some,Option.map_eq_some_iff,Prod.mk.injEq]at this;exact this
  obtain⟨hzs,hz1c⟩:=hzs;have hcl:cur.toList.length=c*6:=by rw[Array.length_toList];exact hcs
  obtain⟨cs,hcs1⟩:∃cs,cs=(cur.toList.drop (j*6)).take ((n - j)*6):=⟨_,rfl⟩
  have hl:cs.length=(n - j)*6:=by rw[hcs1];simp only[List.length_take,List.length_drop];omega
  have hone:∀v∈cs,v.oneCell'=true:=λv hv=>h1c v (by
    rw[hcs1]at hv;have e:cur.toList.take (n*6)=cur.toList.take (j*6)++(cur.toList.drop (j*6)).take ((n - j)*6):=by rw[show n*6=j*6+(n - j)*6 by omega,List.take_add]
    rw[e];exact List.mem_append_right _ hv)
  have hgd:w.drew.heap[g]?=some (.cells cur 64 (0,0)):=hg;obtain⟨cur1,hcur1⟩:∃cur1:Array Value,cur1=(cur.toList.take (i*inf.size)++cs++cur.toList.drop (i*inf.size+cs.length)).toArray:=⟨_,rfl⟩
  obtain⟨zs,hzs1⟩:∃zs:List Value,zs=(Builtin.zeroCells z.cells (n - (i+(n - j)))).toList:=⟨_,rfl⟩
  have hzl:zs.length=(j - i)*6:=by rw[hzs1,Array.length_toList,Z5n,hzs];congr 1;omega
  have hzo:∀v∈zs,v.oneCell'=true:=by intro v hv;rw[hzs1]at hv;exact Zaf (by rw[hzs];decide) (List.all_eq_true.1 hz1c) v hv
  obtain⟨cur2,hcur2⟩:∃cur2:Array Value,cur2=(cur1.toList.take ((i+(n - j))*6)++zs++cur1.toList.drop ((i+(n - j))*6+zs.length)).toArray:=⟨_,rfl⟩
  have hs1:cur1.size=cur.size:=by rw[hcur1,hk];simp only[List.size_toArray,qy11,List.length_take,List.length_drop,hcl,hl];omega
  have hcl1:cur1.toList.length=c*6:=by rw[Array.length_toList,hs1];exact hcs
  have hs2:cur2.size=cur.size:=by rw[hcur2];simp only[List.size_toArray,qy11,List.length_take,List.length_drop,hcl1,hzl];omega
  have ht2:cur2.toList.take ((i+(n - j))*6)=cur.toList.take (i*6)++cs:=by
    rw[hcur2,hcur1,hk];simp only[List.toList_toArray];have e1:(cur.toList.take (i*6)++cs++cur.toList.drop (i*6+cs.length)).take ((i+(n - j))*6)=cur.toList.take (i*6)++cs:=by rw[List.take_append_of_le_length (by simp only[qy11,List.length_take];omega),List.take_of_length_le (by simp only[qy11,List.length_take];omega)]
    rw[List.append_assoc,List.take_append_of_le_length (by rw[e1];simp only[qy11,List.length_take];omega),List.take_take,Nat.min_self,e1]
  have happ:∀(a:Addr),(n - j=0\/a=⟨g,j*6,none⟩)->∀ty sc,(Builtin.append_ #[24,24] ty #[.slice (some ⟨g,0,none⟩) i c,.slice (some a) (n - j) sc]).run Tryz.prog w.drew=.ok (.slice (some ⟨g,0,none⟩) (i+(n - j)) c) (w.drew.setRow g cur1):=λa ha ty sc=>by
    rw[hcur1];exact run_append_room (P:=Tryz.prog) w.drew 24 ty 64 inf hu hinf g i c cur hgd a (n - j) sc cs (by rw[hk];exact hl) (λt v ht=>by
      rcases ha with ha|rfl
      . rw[ha]at hl;rw[List.length_eq_zero_iff.1 (by omega:cs.length=0)]at ht;cases ht
      . rw[hcs1,List.getElem?_take]at ht;split at ht
        . rw[Addr.add_lit];simp only[World.cell?,hgd];simpa using ht
        . cases ht) hone (by omega) (by rw[hk,hl];omega)
  have hclr:∀(W:World),W.heap=(w.drew.setRow g cur1).heap->∀ty sc,(Builtin.clear_ #[24] ty #[.slice (some ⟨g,(i+(n - j))*6,none⟩) (n - (i+(n - j))) sc]).run Tryz.prog W=.ok (.tuple #[]) (W.setRow g cur2):=λW hW ty sc=>by
    have hgW:W.heap[g]?=some (.cells cur1 64 (0,0)):=by rw[hW];exact setRow_heap _ _ _ _ _ _ hgd
    have hst:=run_storeCells_at Tryz.prog g ((i+(n - j))*6) 64 zs 0 cur1 W hgW (by rw[hzl,<- Array.length_toList,hcl1];omega) hzo;simp only[Nat.add_zero]at hst;rw[<- hcur2,hzs1]at hst;obtain⟨r,hr⟩:∃r,n - (i+(n - j))=r+1:=⟨j - i - 1,by omega⟩
    rw[hr]at hst⊢;simp[Builtin.clear_,run_underlying hu,zeroValue,typeInfo,hinf,hz,hst]
  have hb1:(0:Int)<=(i:Int):=by omega
  have hw1:¬(c=i+(n - j)):=by omega
  have hj1:(j:Int)<=(n:Int):=by omega
  have hj2:(i:Int)<=(j:Int):=by omega
  have mixed:Tryz.prog.follows Departure.mixedOrders=true:=by kernel_rfl
  have hic:i<=c:=by omega
  have hfin:cur2.size=cur.size/\cur2.toList.take ((i+(n - j))*6)=cur.toList.take (i*6)++(cur.toList.drop (j*6)).take ((n - j)*6):=by rw[<- hcs1];exact⟨hs2,ht2⟩
  clear ht2 hs2 hs1 hcl1 hone hl hzl hzo hzs1 hcur2 hcur1 hcs1 hz1c hzs hz hk hinf hcl h1c hcs hgd hg;clear cs zs z inf;by_cases hcj:c=j
  . obtain rfl:n=c:=by omega
    obtain rfl:n=j:=hcj;have happ0:∀(a:Addr) ty sc,(Builtin.append_ #[24,24] ty #[.slice (some ⟨g,0,none⟩) i n,.slice (some a) 0 sc]).run Tryz.prog w.drew=.ok (.slice (some ⟨g,0,none⟩) i n) (w.drew.setRow g cur1):=λa ty sc=>by have:=happ a (.inl (Nat.sub_self n)) ty sc;rw[Nat.sub_self,Nat.add_zero]at this;exact this
    have hclr0:∀(W:World),W.heap=(w.drew.setRow g cur1).heap->∀ty sc,(Builtin.clear_ #[24] ty #[.slice (some ⟨g,i*6,none⟩) (n - i) sc]).run Tryz.prog W=.ok (.tuple #[]) (W.setRow g cur2):=by rw[Nat.sub_self,Nat.add_zero]at hclr;exact hclr
    have hw2:¬n=i:=by omega
    have hfin0:Ending.returned (.slice (some ⟨g,0,none⟩) i n)=.returned (.slice (some ⟨g,0,none⟩) (i+(n - n)) n):=by rw[Nat.sub_self,Nat.add_zero]
    clear happ hclr;go_enter Tryz.func97,Tryz.ntmps97
    go_wp2
    go_region_law_o (refine Z2n rfl _ _ 24 24 rfl _ _ (by simp[Act.eval,Act.put]) (by simp[Act.eval,Act.put]) (happ0 ⟨g,0,none⟩ _ 0) ?_)
    go_wp2_with (refine Z29 _ rfl _ 24 rfl _ rfl (hclr0 _ rfl _ _) ?_)
    go_ret
    exact⟨cur2,hfin0,hfin.1,hfin.2,by rw[setRow_setRow]⟩
  . go_enter Tryz.func97,Tryz.ntmps97
    go_wp2
    go_region_law_o (refine Z2n rfl _ _ 24 24 rfl _ _ (by simp[Act.eval,Act.put]) (by simp[Act.eval,Act.put]) (happ ⟨g,j*6,none⟩ (.inr rfl) _ (c - j)) ?_)
    go_wp2_with (refine Z29 _ rfl _ 24 rfl _ rfl (hclr _ rfl _ _) ?_)
    go_ret
    exact⟨cur2,rfl,hfin.1,hfin.2,by rw[setRow_setRow]⟩
theorem Zvc(w:World)(s:Value)(i j:Nat)(R:List (List Value))(hs:owns w s 64 [.str,.bool,.bool,.oth,.oth,.int .i64] R)(hij:i<j)(hj:j<=R.length) : Calls Tryz.prog 97 #[s,.int .i64 i,.int .i64 j] w λe w'=>∃v',e=.returned v'/\Zeo w w' s v' 64 [.str,.bool,.bool,.oth,.oth,.int .i64] (R.take i++R.drop j):=by
  obtain⟨hk1,hl1,ho⟩:=hs;have hrl1:∀r∈R,r.length=6:=λr hr=>(hk1 r hr).length;rcases ho with⟨-,hn⟩|⟨g,c,cur,rfl,-,hg,hnc,hcm,hcs,htk⟩
  . omega
  replace hcs:cur.size=c*6:=hcs;replace htk:cur.toList.take (R.length*6)=R.flatten:=htk;refine(Z13n w g R.length c i j cur hij hj hnc hcm hg hcs (λv hv=>by rw[htk]at hv;exact Zd9 hk1 v hv)).mono ?_;rintro e w' ⟨cur2,rfl,q1,q2,rfl⟩;have hgd:w.drew.heap[g]?=some (.cells cur 64 (0,0)):=hg;have t1:cur.toList.take (i*6)=(R.take i).flatten:=by rw[<- Z40 i hrl1,<- htk,List.take_take,Nat.min_eq_left (by omega)]
  have t2:(cur.toList.drop (j*6)).take ((R.length - j)*6)=(R.drop j).flatten:=by rw[<- Z41 j hrl1,<- htk,List.drop_take,Nat.sub_mul]
  have hrows:∀r∈R.take i++R.drop j,rowOk [.str,.bool,.bool,.oth,.oth,.int .i64] r:=by
    intro r hr;rcases qy13.1 hr with hr|hr
    . exact hk1 r (List.mem_of_mem_take hr)
    . exact hk1 r (List.mem_of_mem_drop hr)
  have hlen:(R.take i++R.drop j).length=i+(R.length - j):=by simp;omega
  refine⟨_,rfl,⟨hrows,?_,.inr ⟨g,c,cur2,by rw[hlen],Nat.zero_le _,setRow_heap _ _ _ _ _ _ hgd,by omega,hcm,q1.trans hcs,?_⟩⟩,λk hk=>.inl hk,rfl,rfl,rfl,by rw[setRow_size];exact Nat.le_refl _,λk hk hkr=>setRow_other _ _ _ _ (λe=>hkr (by rw[e];rfl))⟩
  . exact Zc (λr hr=>(hrows r hr).length)
  . rw[hlen]
    show cur2.toList.take ((i+(R.length - j))*6)=_
    rw[q2,t1,t2,List.flatten_append]
abbrev Zmq(w:World)(v:Value)(l:List SesX):Prop:=owns w v 64 kSx (l.map Zf)
theorem Z15u(w:World)(s v:Value)(l:List SesX)(x:SesX)(i:Nat)(hs:Zmq w s l)(hv:Zmq w v [x])(hne:∀k,Z2 s k->Z2 v k->False)(hi:i<=l.length)(hl:l.length<1000000) : Calls Tryz.prog 152 #[sc1 s,.int .i64 i,sc1 v] w λe w'=>∃v',e=.returned (sc1 v')/\Zmq w' v' (l.take i++[x]++l.drop i)/\(∀k,Z2 v' k->Z2 s k\/w.heap.size<=k)/\Mod s.ownBlock.toList w w':=by rw[hs.reads.sc1,hv.reads.sc1];refine(Zvb w s v i _ _ hs hv hne (by simpa using hi) (by simp;omega)).mono ?_;rintro e w' ⟨v',rfl,g1,g2,g3⟩;refine⟨v',by rw[g1.reads.sc1],?_,g2,Mod.of_grown g3 λk hk=>.inl (Option.mem_toList.2 hk)⟩;rw[Zmq,List.map_append,List.map_append,List.map_take,List.map_drop];exact g1
theorem Z15v(w:World)(s:Value)(l:List SesX)(i:Nat)(hs:Zmq w s l)(hi:i<l.length) : Calls Tryz.prog 97 #[sc1 s,.int .i64 i,.int .i64 ((i:Int)+1)] w λe w'=>∃v',e=.returned (sc1 v')/\Zmq w' v' (l.take i++l.drop (i+1))/\(∀k,Z2 v' k->Z2 s k\/w.heap.size<=k)/\Mod s.ownBlock.toList w w':=by rw[hs.reads.sc1];have hc:=Zvc w s i (i+1) _ hs (by omega) (by rw[qy3];omega);rw[show((i+1:Nat):Int)=(i:Int)+1 by omega]at hc;refine hc.mono ?_;rintro e w' ⟨v',rfl,g1,g2,g3⟩;refine⟨v',by rw[g1.reads.sc1],?_,g2,Mod.of_grown g3 λk hk=>.inl (Option.mem_toList.2 hk)⟩;rw[Zmq,List.map_append,List.map_take,List.map_drop];exact g1
theorem Zoz{l:List SesX}{i:Nat}(h:i<l.length)(t:SesX):((l.set i t).map Zf).getD i []=Zf t:=by rw[Z7y (by simpa using h),qy1,List.getElem?_set_self h];rfl
theorem Zvd(l:List SesX)(i:Nat)(t:SesX):(l.set i t).take i++(l.set i t).drop (i+1)=l.take i++l.drop (i+1):=by rw[List.take_set_of_le (Nat.le_refl _),List.drop_set_of_lt (by omega)]
theorem Zze{l l':List SesX}{o:List SntX}(h:∀t∈l',t∈l):(∀w,(Z6 l o).holds w->(Z6 l' o).holds w)/\∀j,(Z6 l' o).fp j->(Z6 l o).fp j :=
 ⟨λw hw=>Z11 (λt ht=>.inl (h t ht)) (λt ht=>.inl ht) hw,λj hj=>(Zb.1 hj).elim (λ⟨t,ht,hk⟩=>Zb.2 (.inl ⟨t,h t ht,hk⟩)) (λh=>Zb.2 (.inr h))⟩
theorem Z10r(w:World)(k:Nat)(x:TelX)(c:List UInt8)(hr:Rel ⟨Zi (tlA k x) tlH,w⟩ (tlA k x++[.s c]) tlH w)(hb:BOk x.tel)(ho:x.ox.length<100000) : Calls Tryz.prog 24 #[.pointer (some ⟨k,0,none⟩),.string ⟨c.toArray⟩] w λe w'=>e=.returned (.tuple #[])/\Z7z w w' k x (λ_=>False) (Zcu c x.tel):=by
 refine Z1 (Z3 (J:=tlA k x++[.s c]) (sxE_ok.joins _) Tryz.func24 Z72 rfl rfl hr rfl rfl ?_) rfl;simp only[Tree.goal,X.P,X.ev,SV.ev,CV.ev,Sc.ev,qz,QA,QB,QC,QD,QE,QF,QG,QH,QI,QJ,QK,QL,QM,Nat.reduceAdd,qy3,qy4];have hn6:x.sx.length<=6:=by have:=hb.ns;rw[Z1y,qy3]at this;exact this
 have hw20:x.wants.length<=20:=Zku hb.wants;refine⟨[.i (idxS x.tel.sess c),.b (hasS x.tel.sess c)],rfl,λ_ w' hr=>Zf1 w' x.sv x.sx c (hr.at_ 2 rfl).reads hb.sort (by omega),?_⟩;simp only[Tree.goal,X.P,X.ev,SV.ev,CV.ev,Sc.ev,qz,QA,QB,QC,QD,QE,QF,QG,QH,QI,QJ,QK,QL,QM,Nat.reduceAdd,qy3,qy4];refine⟨λh1 w3 hr=>⟨by trivial,x,by rw[Zcu,if_neg h1],(hr.pick [0,1,2,3,4,5,6] (by decide)).conv rfl,.refl _ _ _⟩,λh1=>?_⟩;have h1:=qy9.1 h1;obtain⟨hlt,hse⟩:=Zmo h1;have hok:SesOk (x.sx.getD (idxS x.tel.sess c) sxD).1:=by rw[hse];exact Zcc hb h1
 have hgB:Zcu c x.tel=if(goR (x.sx.getD (idxS x.tel.sess c) sxD).1).clean=true then Zol c { x.tel with sess:=x.tel.sess.take (idxS x.tel.sess c)++x.tel.sess.drop (idxS x.tel.sess c+1) }else { x.tel with sess:=x.tel.sess.set (idxS x.tel.sess c) (goR (x.sx.getD (idxS x.tel.sess c) sxD).1) }:=by rw[Zcu,if_pos h1,hse]
 generalize idxS x.tel.sess c=ix at hlt hse hok hgB⊢
 have hrow:=Z7y hlt;simp only[hrow,Zf,List.getD_cons_zero,List.getD_cons_succ,Value.gI,Value.gB,Value.gS,Z1a];have hmm:=Z4z hlt;generalize hss:x.sx.getD ix sxD=ss at hok hse hgB hmm
 obtain⟨s,s',s''⟩:=ss;simp only at hok hse hgB⊢;obtain⟨S,hS⟩:∃S,S=goR s:=⟨_,rfl⟩
 rw[<- hS]at hgB;refine⟨λvs=>∃u1 u2:Value,vs=[.s S.cl,.b S.on,.b S.clean,.v u1,.r (S.fl.map encF),.v u2,.r (S.qu.map encF),.i S.next,.r ((x.sx.set ix (S,u1,u2)).map Zf)]/\newV w.heap.size u1/\newV w.heap.size u2,⟨by omega,by omega,?_⟩,?_⟩
 ·refine Z61 ?_;intro w1 hr1;obtain⟨hs1,hs2⟩:=Zp (hr1.at_ 5 rfl:(Z6 x.sx x.ox).holds w1) hmm;have hsz:=hr1.mod.size;refine(Z1 (Z171 w1 s s' s'' hs1 hs2 (by have:=hok.nf;omega) (by have:=hok.nq;omega)) rfl).mono ?_;rw[<- hS];rintro e w2 ⟨u1,u2,rfl,g1,g2,g4,g5,gm⟩;refine⟨[.s S.cl,.b S.on,.b S.clean,.v u1,.r (S.fl.map encF),.v u2,.r (S.qu.map encF),.i S.next],rfl,rfl,gm,qy5 _,qy2.2 ⟨⟨g1,λk hk=>.inl (g4 k hk.2)⟩,qy2.2 ⟨⟨g2,λk hk=>.inl (g5 k hk.2)⟩,qy5 _⟩⟩,Zjx ..,u1,u2,?_,λk hk=>Nat.le_trans hsz (g4 k hk),λk hk=>Nat.le_trans hsz (g5 k hk)⟩;simp only[Tree.goal,X.P,X.ev,SV.ev,CV.ev,Sc.ev,qz,QA,QB,QC,QD,QE,QF,QG,QH,QI,QJ,QK,QL,QM,Nat.reduceAdd,qy3,qy4];rw[<- Z3h]
 rintro _ - ⟨u1,u2,rfl,n1,n2⟩;simp only[Tree.goal,X.P,X.ev,SV.ev,CV.ev,Sc.ev,qz,QA,QB,QC,QD,QE,QF,QG,QH,QI,QJ,QK,QL,QM,Nat.reduceAdd,qy3,qy4,Zoz hlt,Zf,Value.gB,List.length_set];refine⟨by omega,by omega,λh2=>⟨by omega,by omega,?_⟩,λh2 w3 hr=>⟨by trivial,{ x with sx:=x.sx.set ix (S,u1,u2) },?_,?_,?_⟩⟩
 ·intro w4 hr4;have hsz4:=hr4.mod.size;refine(Z15v w4 x.sv (x.sx.set ix (S,u1,u2)) ix (hr4.at_ 4 rfl) (by simpa using hlt)).mono ?_;rintro e w5 ⟨v',rfl,g1,g2,g3⟩;rw[Zvd]at g1;obtain⟨l',hl'⟩:∃l',l'=x.sx.take ix++x.sx.drop (ix+1):=⟨_,rfl⟩
  rw[<- hl']at g1;refine⟨[.v v',.r (l'.map Zf)],rfl,rfl,g3.mono λk hk=>.inl (by simpa[Zo,Zw]using hk),qy5 _,qy2.2 ⟨⟨g1,λk hk=>?_⟩,qy5 _⟩,Z5,?_⟩
  ·rcases g2 k hk with h|h
   ·exact .inr (.inr (Z6u (i:=5) (qy8 ..) h))
   ·exact .inl h
  clear g1 g2 g3 hr4;simp only[Tree.goal,X.P,X.ev,SV.ev,CV.ev,Sc.ev,qz,QA,QB,QC,QD,QE,QF,QG,QH,QI,QJ,QK,QL,QM,Nat.reduceAdd,qy3,qy4];intro w6 hr6;have hsub:∀t∈l',t∈x.sx:=λt ht=>by
   rw[hl']at ht;rcases qy13.1 ht with ht|ht
   ·exact List.mem_of_mem_take ht
   ·exact List.mem_of_mem_drop ht
  obtain⟨q1,q2⟩:=Zze (o:=x.ox) hsub;have hsz6:=hr6.mod.size;refine(Z30 (k:=k) (x:={ x with sx:=l',sv:=v' }) (F:=λ_=>False) (pre:=[]) hr6 27 0 [25,7,10]
   (Zv4 w6 k { x with sx:=l',sv:=v' } c ((Zz8 hr6 (by rfl) k { x with sx:=l',sv:=v' } (q1 w6 (hr6.at_ 7 rfl)) (λj hj=>(qE 7 rfl rfl (q2 j hj))) [4,5,1,6,7,0,9] (by decide) rfl).conv rfl) (by show x.wants.length<1000000000;omega))
   rfl rfl (Nat.succ_pos _) rfl (λj hj=>?_)).mono ?_
  ·rcases hj with hj|hj|hj|hj
   ·exact(qE 3 rfl rfl hj)
   ·exact(qE 4 rfl rfl hj)
   ·exact(qE 7 rfl rfl (q2 j hj))
   ·exact hj.elim
  rintro e w7 ⟨y,⟨u,hy⟩,hsz7,hgr,rfl,m1,m2,m3,m4⟩;refine⟨tlV y,rfl,rfl,m1,m2,m3,m4,?_⟩;intro w8 hr8;refine⟨by trivial,y,?_,(hr8.pick [0,1,2,3,4,5,11] (by decide)).conv rfl,?_⟩
  ·rw[hgB,if_pos h2,hy];simp only[TelX.tel,Zol,hl',List.map_append,List.map_take,List.map_drop]
  ·exact(Grew.trans (y:={ x with sx:=l',sv:=v' }) (F:=λ_=>False) (n:=w.heap.size) ⟨λj hj=>.inr hj,λj hj=>.inr hj,λj hj=>.inr (.inl (q2 j hj))⟩ hgr hsz6 (λj h=>h.elim))
 ·rw[hgB,if_neg h2];simp only[TelX.tel,List.map_set]
 ·exact Zks hr (by rfl) k { x with sx:=x.sx.set ix (S,u1,u2) } (Z8g (hr.at_ 7 rfl) (hr.at_ 0 rfl) (hr.at_ 1 rfl)) (λj hj=>by
   rcases Z3g hj with h|h|h
   ·exact(qE 7 rfl rfl h)
   ·exact(qE 0 rfl rfl h)
   ·exact(qE 1 rfl rfl h)) [3,4,5,6,7,0,9] (by decide) rfl
 ·exact Zdm (.refl _ _ _) (Nat.le_refl _) n1 n2
def pk1X(p:Pkt):Z5p:=(p,.slice none 0 0,.slice none 0 0)
theorem Z4s{p:Pkt}(ha:p.asks=[])(hc:p.codes=[])(w:World):(Zq [pk1X p]).holds w:=by
 intro t ht;simp only[List.flatMap_cons,List.flatMap_nil,List.append_nil,Zip,pk1X,List.mem_cons,List.not_mem_nil,or_false]at ht;rcases ht with rfl|rfl
 ·simp only[ha];exact Z9 _ _
 ·simp only[hc];exact Z9 _ _
theorem Z2l{p:Pkt}(ha:p.asks=[])(hc:p.codes=[]){j:Nat}:¬(Zq [pk1X p]).fp j:=by
 rintro⟨t,ht,h1,h2⟩;simp only[List.flatMap_cons,List.flatMap_nil,List.append_nil,Zip,pk1X,List.mem_cons,List.not_mem_nil,or_false]at ht;rcases ht with rfl|rfl
 ·exact h1 (by simp only[ha];rfl)
 ·exact h1 (by simp only[hc];rfl)
abbrev Z6d(c:List UInt8)(p:Pkt)(va vc:Value):List V:=[.s c,.i p.kind,.b p.dup,.b p.retain,.b p.clean,.b p.session,.i p.qos,.i p.id,.i p.keep,.i p.code,.s p.client,.s p.topic,.s p.payload,.v va,.r (p.asks.map encA),.v vc,.r (p.codes.map Z1i)]
abbrev pkHp:List Ent:=[.rd 26 [.str,.int .i64] (.var 27),.rd 28 [.int .i64] (.var 29)]
abbrev Zqv(p:Pkt)(va vc:Value):Value:=.agg #[.int .i64 p.kind,.bool p.dup,.bool p.retain,.bool p.clean,.bool p.session,.int .i64 p.qos,.int .i64 p.id,.int .i64 p.keep,.int .i64 p.code,.string ⟨p.client.toArray⟩,.string ⟨p.topic.toArray⟩,.string ⟨p.payload.toArray⟩,sc1 va,sc1 vc]
theorem Zve(w:World)(k:Nat)(x:TelX)(c:List UInt8)(p:Pkt)(va vc:Value)(hr:Rel ⟨Zi (tlA k x) tlH,w⟩ (tlA k x++Z6d c p va vc) (tlH++pkHp) w)(hb:BOk x.tel)(ho:x.ox.length<50000)(hsm:Z1n x.wants)(hp:pubE p=0) : Calls Tryz.prog 91 #[.pointer (some ⟨k,0,none⟩),.string ⟨c.toArray⟩,Zqv p va vc] w λe w'=>e=.returned (.tuple #[])/\Z7z w w' k x (λ_=>False) (Zdi c p x.tel):=by
 obtain⟨hn,hpl,hq0,hq1,hf⟩:=Z15p hp;refine Z1 (Z3 (J:=tlA k x++Z6d c p va vc) sxE_ok Tryz.func91 Z53 rfl rfl hr rfl rfl ?_) rfl;simp only[Tree.goal,X.P,X.ev,SV.ev,CV.ev,Sc.ev,qz,QA,QB,QC,QD,QE,QF,QG,QH,QI,QJ,QK,QL,QM,Nat.reduceAdd,qy3,qy4];intro b0;have hk:∀t:Tel,Zdi c p x.tel=Z68 p.topic p.payload p.qos (if p.retain=true then(Zx p.topic p.payload (if p.qos=1 then { x.tel with out:=x.tel.out++[toC c { pD_Q 4 with id:=p.id }] }else x.tel)).1 else(if p.qos=1 then { x.tel with out:=x.tel.out++[toC c { pD_Q 4 with id:=p.id }] }else x.tel)):=λ_=>rfl;have hk:=hk x.tel;have hol:x.tel.out.length=x.ox.length:=by simp[TelX.tel]
 have lenX:∀y:TelX,y.tel.out.length=y.ox.length:=λy=>by simp[TelX.tel]
 refine⟨λh1 v31=>?_,λh1=>?_⟩
 ·rw[if_pos h1]at hk;intro w1 hr_y1;have hz_y1:=hr_y1.mod.size;refine(Z30 (k:=k) (x:=x) (F:=(Zq [pk1X { pD_Q 4 with id:=p.id }]).fp) (pre:=[]) hr_y1 32 0 [5,7,10]
   (Z1f w1 k x c v31 [pk1X { pD_Q 4 with id:=p.id }] (Z7b (toRd hr_y1) (by rfl) k x (Zq [pk1X { pD_Q 4 with id:=p.id }]) _ _ (hr_y1.at_ 7 rfl) (λj hj=>(qE 7 rfl rfl hj)) (Z4s rfl rfl _) (λj hj=>absurd hj (Z2l rfl rfl)) [4,5,6,7,8,1,10,2,0] (by decide) rfl rfl) (show 1<1000000 by decide) (by omega))
   rfl rfl (Nat.succ_pos _) rfl (λj hj=>?_)).mono ?_
  ·rcases hj with hj|hj|hj|hj
   ·exact(qE 2 rfl rfl hj)
   ·exact(qE 3 rfl rfl hj)
   ·exact(qE 7 rfl rfl hj)
   ·exact absurd hj (Z2l rfl rfl)
  rintro e w2_y1 ⟨y1,hy_y1,hs_y1,hg_y1,rfl,m1,m2,m3,m4⟩;refine⟨tlV y1,rfl,rfl,m1,m2,m3,m4,?_⟩;clear m1 m2 m3 m4;have e1:y1.tel={ x.tel with out:=x.tel.out++[toC c { pD_Q 4 with id:=p.id }] }:=hy_y1;have b1:BOk y1.tel:=by rw[e1];exact hb.out _
  have l1:y1.ox.length<=x.ox.length+1:=by have:=lenX y1;rw[e1]at this;simp only[qy11,List.length_cons,List.length_nil]at this;omega
  have s1:y1.wants=x.wants:=congrArg Tel.wants e1;rw[<- e1]at hk;have g1:Grew w.heap.size (λ_=>False) x y1:=(Grew.refl w.heap.size _ x).trans hg_y1 hz_y1 (λj h=>absurd h (Z2l rfl rfl));refine⟨λh2=>?_,λh2=>?_⟩
  ·rw[if_pos h2]at hk;intro w3 hr_y2;have hz_y2:=hr_y2.mod.size;refine(Z30 (k:=k) (x:=y1) (F:=(λ_=>False)) (pre:=[.b (Zx p.topic p.payload y1.tel).2]) hr_y2 45 0 [36,38,41]
    (Zoy w3 k y1 p.topic p.payload (((hr_y2.pick [0,1,2,3,4,5,11] (by decide)).conv rfl).base.conv rfl) b1 (by omega))
    rfl rfl (Nat.succ_pos _) rfl (λj hj=>?_)).mono ?_
   ·rcases hj with hj|hj|hj|hj
    ·exact(qE 0 rfl rfl hj)
    ·exact(qE 1 rfl rfl hj)
    ·exact(qE 5 rfl rfl hj)
    ·exact hj.elim
   rintro e w2_y2 ⟨y2,hy_y2,hs_y2,hg_y2,rfl,m1,m2,m3,m4⟩;refine⟨.b (Zx p.topic p.payload y1.tel).2::tlV y2,rfl,rfl,m1,m2,m3,m4,?_⟩;clear m1 m2 m3 m4;obtain⟨b2,-,s2,l2⟩:=Z74 (p:=p.payload) b1 hn;rw[<- hy_y2]at b2 s2 l2 hk;have l2':y2.ox.length<=y1.ox.length+12:=by have h1:=lenX y2;have h2:=lenX y1;omega
   have s2':y2.wants=y1.wants:=s2;have g2:Grew w.heap.size (λ_=>False) x y2:=g1.trans hg_y2 hz_y2 (λj h=>h.elim);intro w5 hr_y3;have hz_y3:=hr_y3.mod.size;refine(Z30 (k:=k) (x:=y2) (F:=(λ_=>False)) (pre:=[]) hr_y3 57 0 [49,51,54]
    (Zl3 w5 k y2 p.topic p.payload p.qos (((hr_y3.pick [0,1,2,3,4,5,14] (by decide)).conv rfl).base.conv rfl) b2 (by omega) (by rw[s2',s1];exact hsm) hf ⟨hq0,hq1⟩)
    rfl rfl (Nat.succ_pos _) rfl (λj hj=>?_)).mono ?_
   ·rcases hj with hj|hj|hj|hj
    ·exact(qE 0 rfl rfl hj)
    ·exact(qE 1 rfl rfl hj)
    ·exact(qE 5 rfl rfl hj)
    ·exact hj.elim
   rintro e w2_y3 ⟨y3,hy_y3,hs_y3,hg_y3,rfl,m1,m2,m3,m4⟩;refine⟨tlV y3,rfl,rfl,m1,m2,m3,m4,?_⟩;clear m1 m2 m3 m4;intro w7 hr7;exact⟨by trivial,y3,by rw[hk,hy_y3],(hr7.pick [0,1,2,3,4,5,17] (by decide)).conv rfl,g2.trans hg_y3 hz_y3 (λj h=>h.elim)⟩
  ·rw[if_neg h2]at hk;intro w5 hr_y3;have hz_y3:=hr_y3.mod.size;refine(Z30 (k:=k) (x:=y1) (F:=(λ_=>False)) (pre:=[]) hr_y3 44 0 [36,38,41]
    (Zl3 w5 k y1 p.topic p.payload p.qos (((hr_y3.pick [0,1,2,3,4,5,11] (by decide)).conv rfl).base.conv rfl) b1 (by omega) (by rw[s1];exact hsm) hf ⟨hq0,hq1⟩)
    rfl rfl (Nat.succ_pos _) rfl (λj hj=>?_)).mono ?_
   ·rcases hj with hj|hj|hj|hj
    ·exact(qE 0 rfl rfl hj)
    ·exact(qE 1 rfl rfl hj)
    ·exact(qE 5 rfl rfl hj)
    ·exact hj.elim
   rintro e w2_y3 ⟨y3,hy_y3,hs_y3,hg_y3,rfl,m1,m2,m3,m4⟩;refine⟨tlV y3,rfl,rfl,m1,m2,m3,m4,?_⟩;clear m1 m2 m3 m4;intro w7 hr7;exact⟨by trivial,y3,by rw[hk,hy_y3],(hr7.pick [0,1,2,3,4,5,14] (by decide)).conv rfl,g1.trans hg_y3 hz_y3 (λj h=>h.elim)⟩
 ·rw[if_neg h1]at hk;refine⟨λh2=>?_,λh2=>?_⟩
  ·rw[if_pos h2]at hk;intro w3 hr_y2;have hz_y2:=hr_y2.mod.size;refine(Z30 (k:=k) (x:=x) (F:=(λ_=>False)) (pre:=[.b (Zx p.topic p.payload x.tel).2]) hr_y2 32 0 [5,7,10]
    (Zoy w3 k x p.topic p.payload (((hr_y2.pick [1,2,3,4,5,6,7] (by decide)).conv rfl).base.conv rfl) hb (by omega))
    rfl rfl (Nat.succ_pos _) rfl (λj hj=>?_)).mono ?_
   ·rcases hj with hj|hj|hj|hj
    ·exact(qE 1 rfl rfl hj)
    ·exact(qE 2 rfl rfl hj)
    ·exact(qE 6 rfl rfl hj)
    ·exact hj.elim
   rintro e w2_y2 ⟨y2,hy_y2,hs_y2,hg_y2,rfl,m1,m2,m3,m4⟩;refine⟨.b (Zx p.topic p.payload x.tel).2::tlV y2,rfl,rfl,m1,m2,m3,m4,?_⟩;clear m1 m2 m3 m4;obtain⟨b2,-,s2,l2⟩:=Z74 (p:=p.payload) hb hn;rw[<- hy_y2]at b2 s2 l2 hk;have l2':y2.ox.length<=x.ox.length+12:=by have h1:=lenX y2;have h2:=lenX x;omega
   have s2':y2.wants=x.wants:=s2;have g2:Grew w.heap.size (λ_=>False) x y2:=(Grew.refl w.heap.size _ x).trans hg_y2 hz_y2 (λj h=>h.elim);intro w5 hr_y3;have hz_y3:=hr_y3.mod.size;refine(Z30 (k:=k) (x:=y2) (F:=(λ_=>False)) (pre:=[]) hr_y3 44 0 [36,38,41]
    (Zl3 w5 k y2 p.topic p.payload p.qos (((hr_y3.pick [0,1,2,3,4,5,10] (by decide)).conv rfl).base.conv rfl) b2 (by omega) (by rw[s2'];exact hsm) hf ⟨hq0,hq1⟩)
    rfl rfl (Nat.succ_pos _) rfl (λj hj=>?_)).mono ?_
   ·rcases hj with hj|hj|hj|hj
    ·exact(qE 0 rfl rfl hj)
    ·exact(qE 1 rfl rfl hj)
    ·exact(qE 5 rfl rfl hj)
    ·exact hj.elim
   rintro e w2_y3 ⟨y3,hy_y3,hs_y3,hg_y3,rfl,m1,m2,m3,m4⟩;refine⟨tlV y3,rfl,rfl,m1,m2,m3,m4,?_⟩;clear m1 m2 m3 m4;intro w7 hr7;exact⟨by trivial,y3,by rw[hk,hy_y3],(hr7.pick [0,1,2,3,4,5,13] (by decide)).conv rfl,g2.trans hg_y3 hz_y3 (λj h=>h.elim)⟩
  ·rw[if_neg h2]at hk;intro w5 hr_y3;have hz_y3:=hr_y3.mod.size;refine(Z30 (k:=k) (x:=x) (F:=(λ_=>False)) (pre:=[]) hr_y3 31 0 [5,7,10]
    (Zl3 w5 k x p.topic p.payload p.qos (((hr_y3.pick [1,2,3,4,5,6,7] (by decide)).conv rfl).base.conv rfl) hb (by omega) hsm hf ⟨hq0,hq1⟩)
    rfl rfl (Nat.succ_pos _) rfl (λj hj=>?_)).mono ?_
   ·rcases hj with hj|hj|hj|hj
    ·exact(qE 1 rfl rfl hj)
    ·exact(qE 2 rfl rfl hj)
    ·exact(qE 6 rfl rfl hj)
    ·exact hj.elim
   rintro e w2_y3 ⟨y3,hy_y3,hs_y3,hg_y3,rfl,m1,m2,m3,m4⟩;refine⟨tlV y3,rfl,rfl,m1,m2,m3,m4,?_⟩;clear m1 m2 m3 m4;intro w7 hr7;exact⟨by trivial,y3,by rw[hk,hy_y3],(hr7.pick [0,1,2,3,4,5,10] (by decide)).conv rfl,(Grew.refl w.heap.size _ x).trans hg_y3 hz_y3 (λj h=>h.elim)⟩
def begX:SesX:=(⟨[],false,true,[],[],0⟩,.slice none 0 0,.slice none 0 0)
def freX(c:List UInt8):SesX:=(⟨c,false,false,[],[],1⟩,.slice none 0 0,.slice none 0 0)
def insX(l:List SesX)(c:List UInt8):List SesX:=if hasS (l.map (·.1)) c=true then l else l.take (idxS (l.map (·.1)) c)++[begX]++l.drop (idxS (l.map (·.1)) c)
theorem Zdn(l:List SesX)(c:List UInt8):(insX l c).map (·.1)=insS (l.map (·.1)) c:=by
  unfold insX insS;split
  . rfl
  . rw[List.map_append,List.map_append,List.map_take,List.map_drop];rfl
theorem Zzf{l:List SesX}{c:List UInt8}:∀t∈insX l c,t∈l\/t=begX:=λt ht=>by
  unfold insX at ht;split at ht
  . exact .inl ht
  . rcases qy13.1 ht with ht|ht
    . rcases qy13.1 ht with ht|ht
      . exact .inl (List.mem_of_mem_take ht)
      . exact .inr (qy12.1 ht)
    . exact .inl (List.mem_of_mem_drop ht)
theorem Zzg{l:List SesX}{c:List UInt8}(hs:Z67 (l.map (·.1))):idxS (l.map (·.1)) c<(insX l c).length/\(insX l c).length<=l.length+1:=by
  have h1:=Zmi (l.map (·.1)) c;rw[qy3]at h1;unfold insX;split
  . rename_i h;have:=(Z80 h).1;rw[qy3]at this;exact⟨this,by omega⟩
  . simp;omega
theorem Zp0{l l':List SesX}{o:List SntX}(h:∀t∈l',t∈l\/(t.1.fl=[]/\t.1.qu=[]/\t.2.1=.slice none 0 0/\t.2.2=.slice none 0 0)):(∀w,(Z6 l o).holds w->(Z6 l' o).holds w)/\∀j,(Z6 l' o).fp j->(Z6 l o).fp j:=by
  refine⟨λw hw=>Z11 (λt ht=>?_) (λt ht=>.inl ht) hw,λj hj=>?_⟩
  . rcases h t ht with h|⟨h1,h2,h3,h4⟩
    . exact .inl h
    . rw[h1,h2,h3,h4];exact .inr ⟨Z9 _ _,Z9 _ _⟩
  . rcases Zb.1 hj with⟨t,ht,hk⟩|h1
    . rcases h t ht with h|⟨h1,h2,h3,h4⟩
      . exact Zb.2 (.inl ⟨t,h,hk⟩)
      . rcases hk with⟨h5,-⟩|⟨h5,-⟩
        . exact absurd (by rw[h1];rfl) h5
        . exact absurd (by rw[h2];rfl) h5
    . exact Zb.2 (.inr h1)
structure CnnZ(x:TelX)(c:List UInt8)(kn:Bool)(n:Nat)(z:TelX):Prop where
  kept:z.kept=x.kept/\z.kv=x.kv
  wat:z.wat=x.wat/\z.av=x.av
  next:z.next=x.next
  ox:z.ox=x.ox/\z.ov=x.ov
  wants:z.wants=if kn=true then x.wants else x.wants.filter λw=>decide (¬w.1=c)
  sx:z.sx=if kn=true then insX x.sx c else(insX x.sx c).set (idxS x.tel.sess c) (freX c)
  want:∀j,Zbs z j->n<=j\/Zbs x j
theorem Zl4{J J':List V}{v v':Nat}{ks:List Kd}{r r':X}(h1:J.getD v (.i 0)=J'.getD v' (.i 0))(h2:(r.ev J).toR=(r'.ev J').toR):Ent.sem J (.rd v ks r)=Ent.sem J' (.rd v' ks r'):=by simp only[Ent.sem,Ent.holds,Ent.fp,Ent.wr,h1,h2]
theorem Zvf(w:World)(k:Nat)(x:TelX)(c:List UInt8)(p:Pkt)(va vc:Value)(hr:Rel ⟨Zi (tlA k x) tlH,w⟩ (tlA k x++Z6d c p va vc) (tlH++pkHp) w)(hb:BOk x.tel)(ho:x.ox.length<50000)(hc:Zz c=true) : Calls Tryz.prog 90 #[.pointer (some ⟨k,0,none⟩),.string ⟨c.toArray⟩,Zqv p va vc] w λe w'=>e=.returned (.tuple #[])/\Z7z w w' k x (λ_=>False) (Z8a c p x.tel):=by
  refine Z1 (Z3 (J:=tlA k x++Z6d c p va vc) (sxE_ok.joins _) Tryz.func90 Z50 rfl rfl hr rfl rfl ?_) rfl;simp only[Tree.goal,X.P,X.ev,SV.ev,CV.ev,Sc.ev,qz,QA,QB,QC,QD,QE,QF,QG,QH,QI,QJ,QK,QL,QM,Nat.reduceAdd,qy3,qy4];have hn6:x.sx.length<=6:=by have:=hb.ns;rw[Z1y,qy3]at this;exact this
  have hw20:x.wants.length<=20:=Zku hb.wants;have hil:=Zzg (l:=x.sx) (c:=c) hb.sort;have hnil:∀t∈insX x.sx c,t∈x.sx\/(t.1.fl=[]/\t.1.qu=[]/\t.2.1=.slice none 0 0/\t.2.2=.slice none 0 0):=λt ht=>(Zzf t ht).imp id λh=>by rw[h];exact⟨rfl,rfl,rfl,rfl⟩
  obtain⟨ix,hix⟩:∃ix,ix=idxS x.tel.sess c:=⟨_,rfl⟩
  have hil1:ix<(insX x.sx c).length:=by rw[hix];exact hil.1
  have hixl:ix<=x.sx.length:=by rw[hix];have:=Zmi x.tel.sess c;rw[Z1y,qy3]at this;exact this
  intro b0;refine⟨λh1 w3 hr=>⟨by trivial,x,by rw[Z8a,if_pos h1],(hr.pick [1,2,3,4,5,6,7] (by decide)).conv rfl,.refl _ _ _⟩,λh1=>?_⟩;refine⟨[.i (idxS x.tel.sess c),.b (hasS x.tel.sess c)],rfl,λ_ w' hr=>Zf1 w' x.sv x.sx c (hr.at_ 3 rfl).reads hb.sort (by omega),?_⟩;simp only[Tree.goal,X.P,X.ev,SV.ev,CV.ev,Sc.ev,qz,QA,QB,QC,QD,QE,QF,QG,QH,QI,QJ,QK,QL,QM,Nat.reduceAdd,qy3,qy4];rw[<- hix];refine⟨λvs=>∃sv':Value,vs=[.i 0,.i 0,.i 0,.v sv',.r ((insX x.sx c).map Zf)]/\(hasS x.tel.sess c=true\/x.sx.length<6),⟨λh2=>⟨λh3 v33=>?_,λh3 v33=>?_⟩,λh2=>?_⟩,?_⟩
  . intro w1 hr_y1;have hz_y1:=hr_y1.mod.size;refine(Z30 (k:=k) (x:=x) (F:=(Zq [pk1X { pD_Q 2 with code:=3 }]).fp) (pre:=[]) hr_y1 34 0 [5,7,10]
      (Z1f w1 k x c v33 [pk1X { pD_Q 2 with code:=3 }] (Z7b (toRd hr_y1) (by rfl) k x (Zq [pk1X { pD_Q 2 with code:=3 }]) _ _ (hr_y1.at_ 7 rfl) (λj hj=>(qE 7 rfl rfl hj)) (Z4s rfl rfl _) (λj hj=>absurd hj (Z2l rfl rfl)) [4,5,6,7,8,1,10,2,0] (by decide) rfl rfl) (show 1<1000000 by decide) (by omega))
      rfl rfl (Nat.succ_pos _) rfl (λj hj=>?_)).mono ?_
    . rcases hj with hj|hj|hj|hj
      . exact(qE 2 rfl rfl hj)
      . exact(qE 3 rfl rfl hj)
      . exact(qE 7 rfl rfl hj)
      . exact absurd hj (Z2l rfl rfl)
    rintro e w2_y1 ⟨y1,hy_y1,hs_y1,hg_y1,rfl,m1,m2,m3,m4⟩;refine⟨tlV y1,rfl,rfl,m1,m2,m3,m4,?_⟩;clear m1 m2 m3 m4;intro w7 hr7;refine⟨by trivial,y1,?_,(hr7.pick [0,1,2,3,4,5,11] (by decide)).conv rfl,(Grew.refl w.heap.size _ x).trans hg_y1 hz_y1 (λj h=>absurd h (Z2l rfl rfl))⟩;rw[hy_y1,Z8a,if_neg h1,if_pos ⟨h2,by rw[Z1y,qy3];omega⟩];rfl
  . intro w1 hr1;have hsz1:=hr1.mod.size;refine(Z15u w1 x.sv v33 x.sx begX ix (hr1.at_ 4 rfl) (hr1.at_ 0 rfl) (λj h4 h5=>hr1.sep.disj (i:=4) (j:=0) rfl rfl (by decide) (.inl rfl) (k:=j) h4 h5) hixl (by omega)).mono ?_;rintro e w2 ⟨v',rfl,g1,g2,g3⟩;have e1:x.sx.take ix++[begX]++x.sx.drop ix=insX x.sx c:=by rw[insX,if_neg (show ¬hasS (x.sx.map (·.1)) c=true from h2),hix];rfl
    rw[e1]at g1;refine⟨[.v v',.r ((insX x.sx c).map Zf)],rfl,rfl,g3.mono λj hj=>.inl ?_,qy5 _,qy2.2 ⟨⟨g1,λj hj=>?_⟩,qy5 _⟩,Z5,v',rfl,.inr (by omega)⟩
    . simp only[Zo,Zw,List.map_nil,List.nil_append,List.flatMap_cons];exact List.mem_append_left _ hj
    . rcases g2 j hj with h|h
      . exact .inr (.inr (Z6u (i:=5) (qy8 ..) h))
      . exact .inl h
  . exact⟨x.sv,by rw[insX,if_pos (show hasS (x.sx.map (·.1)) c=true from qy9.1 h2)],.inl (qy9.1 h2)⟩
  rintro _ - ⟨sv',rfl,hroom⟩;have hst0:¬(¬hasS x.tel.sess c=true/\x.tel.sess.length=6):=by
    rw[Z1y,qy3];rintro⟨h3,h4⟩;rcases hroom with h|h
    . exact h3 h
    . omega
  have hk0:Zcv x.tel.sess c p.clean=(!((insX x.sx c).getD ix sxD).1.clean && !p.clean):=by rw[Zcv,Z1y,<- Zdn,<- Z1y,<- hix,Zkq]
  have hrow:=Z7y hil1;simp only[Tree.goal,X.P,X.ev,SV.ev,CV.ev,Sc.ev,qz,QA,QB,QC,QD,QE,QF,QG,QH,QI,QJ,QK,QL,QM,Nat.reduceAdd,qy3,qy4,hrow,Zf,Value.gB];obtain⟨kn,hkn⟩:∃kn,kn=Zcv x.tel.sess c p.clean:=⟨_,rfl⟩
  refine⟨by omega,by omega,?_⟩;refine⟨λvs=>∃z:TelX,vs=[.i 0,.i 0,.i 0,.i 0,.i 0,.i 0,.i 0,.i 0,.i 0,.i 0,.i 0,.i 0,.v z.kv,.v z.wv,.v z.sv,.v z.av,.i z.next,.v z.ov,.r (z.kept.map encK),.r (z.wants.map Za),.r (z.sx.map Zf),.r (z.wat.map Z7),.r (z.ox.map Z12)]/\CnnZ x c kn w.heap.size z,⟨λh2=>?_,λh2=>?_⟩,?_⟩
  . have hk1:kn=false:=by
      rw[hkn,hk0];simpa using h2
    intro w1 hr1;have hsz1:=hr1.mod.size;obtain⟨q1,q2⟩:=Zp0 (l:=x.sx) (l':=(insX x.sx c).set ix (freX c)) (o:=x.ox) (λt ht=>by
      rcases List.mem_or_eq_of_mem_set ht with ht|rfl
      . exact hnil t ht
      . exact .inr ⟨rfl,rfl,rfl,rfl⟩)
    refine(Z30 (k:=k) (x:={ x with sx:=(insX x.sx c).set ix (freX c),sv:=sv' }) (F:=λ_=>False) (pre:=[]) hr1 38 0 [36,7,10]
      (Zv4 w1 k { x with sx:=(insX x.sx c).set ix (freX c),sv:=sv' } c ((Zz8 hr1 (by rfl) k { x with sx:=(insX x.sx c).set ix (freX c),sv:=sv' } (q1 w1 (hr1.at_ 6 rfl)) (λj hj=>(qE 6 rfl rfl (q2 j hj))) [3,4,1,5,6,0,8] (by decide) (Zg rfl (Zg rfl (Zg (Z2r rfl ?_) rfl)))).conv rfl) (by show x.wants.length<1000000000;omega))
      rfl rfl (Nat.succ_pos _) rfl (λj hj=>?_)).mono ?_
    . simp only[Tree.goal,X.P,X.ev,SV.ev,CV.ev,Sc.ev,qz,QA,QB,QC,QD,QE,QF,QG,QH,QI,QJ,QK,QL,QM,Nat.reduceAdd,qy3,qy4];rw[<- Z3h];rfl
    . rcases hj with hj|hj|hj|hj
      . exact(qE 2 rfl rfl hj)
      . exact(qE 3 rfl rfl hj)
      . exact(qE 6 rfl rfl (q2 j hj))
      . exact hj.elim
    rintro e w7 ⟨y,⟨u,hy⟩,hsz7,hgr,rfl,m1,m2,m3,m4⟩;refine⟨tlV y,rfl,rfl,m1,m2,m3,m4,y,rfl,?_⟩;rw[hk1];refine⟨by rw[hy];exact⟨rfl,rfl⟩,by rw[hy];exact⟨rfl,rfl⟩,by rw[hy],by rw[hy];exact⟨rfl,rfl⟩,by rw[hy];rfl,by rw[hy,<- hix];rfl,λj hj=>?_⟩;rcases hgr.want j hj with h|h
    . exact .inl (Nat.le_trans hsz1 h)
    . exact .inr h
  . have hk1:kn=true:=by
      rw[hkn,hk0];simpa using h2
    refine⟨{ x with sx:=insX x.sx c,sv:=sv' },rfl,?_⟩;rw[hk1];exact⟨⟨rfl,rfl⟩,⟨rfl,rfl⟩,rfl,⟨rfl,rfl⟩,rfl,rfl,λj hj=>.inr hj⟩
  rintro _ - ⟨z,rfl,hz⟩;have hzm:∀t∈z.sx,t∈x.sx\/(t.1.fl=[]/\t.1.qu=[]/\t.2.1=.slice none 0 0/\t.2.2=.slice none 0 0):=by
    rw[hz.sx];split
    . exact hnil
    . intro t ht;rcases List.mem_or_eq_of_mem_set ht with ht|rfl
      . exact hnil t ht
      . exact .inr ⟨rfl,rfl,rfl,rfl⟩
  obtain⟨q1,q2⟩:=Zp0 (o:=x.ox) hzm;have hzl:ix<z.sx.length:=by
    rw[hz.sx];split
    . exact hil1
    . simpa using hil1
  obtain⟨ss,hss⟩:∃ss,ss=z.sx.getD ix sxD:=⟨_,rfl⟩
  have hmm:ss∈z.sx:=by rw[hss];exact Z4z hzl
  obtain⟨S1,hS1⟩:∃S1,S1=Zez x.tel.sess c p.clean:=⟨_,rfl⟩
  have hcom:{ ss.1 with clean:=p.clean }=S1:=by
    rw[hS1,Zez,<- hkn,hss,hz.sx];cases kn with
    | false =>
      simp only[Bool.false_eq_true,if_false];rw[<- hix,qy1,List.getElem?_set_self hil1];rfl
    | true =>
      simp only[if_true];rw[Z1y,<- Zdn,<- Z1y,<- hix,Zkq]
  obtain⟨hok,hcl⟩:=Zz6 hb hc p.clean;rw[<- hS1]at hok hcl;simp only[Tree.goal,X.P,X.ev,SV.ev,CV.ev,Sc.ev,qz,QA,QB,QC,QD,QE,QF,QG,QH,QI,QJ,QK,QL,QM,Nat.reduceAdd,qy3,qy4];refine⟨λvs=>vs=[],⟨by omega,rfl⟩,?_⟩;rintro _ - rfl;have hrow2:=Z7y hzl;rw[<- hss]at hrow2;obtain⟨s,s',s''⟩:=ss;have hset:(z.sx.map Zf).set ix [.string ⟨s.cl.toArray⟩,.bool s.on,.bool p.clean,sc1 s',sc1 s'',.int .i64 s.next]=(z.sx.set ix (S1,s',s'')).map Zf:=by rw[<- Z3h,<- hcom]
  simp only[Tree.goal,X.P,X.ev,SV.ev,CV.ev,Sc.ev,qz,QA,QB,QC,QD,QE,QF,QG,QH,QI,QJ,QK,QL,QM,Nat.reduceAdd,qy3,qy4,hrow2,Zf,List.getD_cons_zero,List.getD_cons_succ,Value.gI,Value.gB,Value.gS,Z1a,hset,Zoz hzl,List.length_set];have hfl:S1.fl=s.fl/\S1.qu=s.qu:=by rw[<- hcom];exact⟨rfl,rfl⟩
  refine⟨by omega,?_⟩;intro w1 hr1;have hsz1:=hr1.mod.size;obtain⟨hs1,hs2⟩:=Zp (q1 w1 (hr1.at_ 8 rfl)) hmm;refine(Z1 (Z14w w1 S1 s' s'' (by rw[hfl.1];exact hs1) (by rw[hfl.2];exact hs2) hok.next (by have:=hok.nf;omega) (by have:=hok.nq;omega)) rfl).mono ?_;obtain⟨R,hR⟩:∃R,R=Zm3 S1:=⟨_,rfl⟩
  have hR9:R.2.length<=9:=by rw[hR];exact Zv1 hok
  rw[<- hR];rintro e w2 ⟨u1,u2,u3,rfl,g1,g2,g3,g4,g5,g6,gm⟩;refine⟨[.s R.1.cl,.b R.1.on,.b R.1.clean,.v u1,.r (R.1.fl.map encF),.v u2,.r (R.1.qu.map encF),.i R.1.next,.v u3,.r ((R.2.map pkN).map Z31)],rfl,rfl,gm,qy5 _,qy2.2 ⟨⟨g1,λk hk=>.inl (g4 k hk.2)⟩,qy2.2 ⟨⟨g2,λk hk=>.inl (g5 k hk.2)⟩,qy2.2 ⟨⟨by show reads w2 u3 kP ((R.2.map pkN).map Z31);rw[Z8f];exact g3,λk hk=>.inl (g6 k hk.2)⟩,qy5 _⟩⟩⟩,Z6c ..,?_⟩;have n1:newV w.heap.size u1:=λj hj=>Nat.le_trans hsz1 (g4 j hj);have n2:newV w.heap.size u2:=λj hj=>Nat.le_trans hsz1 (g5 j hj);clear hr1 hs1 hs2 g1 g2 g3 g6 gm;intro b71;refine⟨λvs=>vs=[],rfl,?_⟩;rintro _ - rfl;intro v72 w3 hr3;have hsz3:=hr3.mod.size;obtain⟨X3,hX3⟩:∃X3:TelX,X3={ z with sx:=z.sx.set ix (R.1,u1,u2) }:=⟨_,rfl⟩
  have hA3:∀w3:World,(Z6 x.sx x.ox).holds w3->Zk w3 u1 R.1.fl->Zk w3 u2 R.1.qu->(Z6 X3.sx X3.ox).holds w3:=λw3 h1 h2 h3=>by rw[hX3];exact Z8g (by rw[hz.ox.1];exact q1 w3 h1) h2 h3
  have hF3:∀j,(Z6 X3.sx X3.ox).fp j->(Z6 x.sx x.ox).fp j\/((R.1.fl.map encF).flatten≠[]/\Z2 u1 j)\/((R.1.qu.map encF).flatten≠[]/\Z2 u2 j):=λj hj=>by
    rw[hX3]at hj;rcases Z3g hj with h|h
    . rw[hz.ox.1]at h;exact .inl (q2 j h)
    . exact .inr h
  have hg3:Grew w.heap.size (λ_=>False) x X3:=by
    refine⟨λj hj=>.inr ?_,λj hj=>?_,λj hj=>?_⟩
    . rw[hX3]at hj;unfold Zfw at hj⊢;simp only[hz.kept.1,hz.kept.2]at hj;exact hj
    . rw[hX3]at hj;exact hz.want j hj
    . rcases hF3 j hj with h|⟨-,h⟩|⟨-,h⟩
      . exact .inr (.inl h)
      . exact .inl (n1 j h)
      . exact .inl (n2 j h)
  have hX0:X3.ox=x.ox:=by rw[hX3];exact hz.ox.1
  have hXt:X3.tel={ x.tel with wants:=if Zcv x.tel.sess c p.clean=true then x.tel.wants else x.tel.wants.filter λw=>decide (¬w.1=c),sess:=(insS x.tel.sess c).set (idxS x.tel.sess c) R.1 }:=by
    rw[hX3];simp only[TelX.tel,hz.kept.1,hz.wants,hz.wat.1,hz.next,hz.ox.1,List.map_set,hkn];congr 1
    rw[hz.sx,hkn];rw[show x.tel.sess=x.sx.map (·.1) from rfl]at hix⊢;split
    . rw[Zdn,hix]
    . rw[List.map_set,Zdn,hix,List.set_set]
  refine(Z30 (k:=k) (x:=X3) (F:=(Zq [pk1X { pD_Q 2 with session:=kn }]).fp) (pre:=[]) hr3 73 0 [52,53,55]
    (Z1f w3 k X3 c v72 [pk1X { pD_Q 2 with session:=kn }] (Z7b (toRd hr3) (by rfl) k X3 (Zq [pk1X { pD_Q 2 with session:=kn }]) _ _ (hA3 w3 (hr3.at_ 13 rfl) (hr3.at_ 2 rfl) (hr3.at_ 3 rfl)) (λj hj=>?_) (Z4s rfl rfl _) (λj hj=>absurd hj (Z2l rfl rfl)) [7,8,9,10,11,1,16,2,0] (by decide) rfl
      (by rw[hX3];exact Zg rfl (Zg rfl (Zg (Z2r rfl (by simp only[Tree.goal,X.P,X.ev,SV.ev,CV.ev,Sc.ev,qz,QA,QB,QC,QD,QE,QF,QG,QH,QI,QJ,QK,QL,QM,Nat.reduceAdd,qy3,qy4,hrow2,Zf,List.getD_cons_zero,List.getD_cons_succ,Value.gI,Value.gB,Value.gS,Z1a,hset];exact(Z3h (z.sx.set ix (S1,s',s'')) ix (R.1,u1,u2)).trans (by rw[List.set_set]))) (Zg rfl (Zg rfl (Zg rfl (Zg rfl (Zg (Zl4 rfl (by simp only[Tree.goal,X.P,X.ev,SV.ev,CV.ev,Sc.ev,qz,QA,QB,QC,QD,QE,QF,QG,QH,QI,QJ,QK,QL,QM,Nat.reduceAdd,qy3,qy4,hrow,Zf,List.getD_cons_zero,List.getD_cons_succ,Value.gB];rw[hkn,hk0];rfl)) rfl))))))))) (show 1<1000000 by decide) (by rw[hX0];omega))
    rfl rfl (Nat.succ_pos _) (by rw[hX3];rfl) (λj hj=>?_)).mono ?_
  . rcases hF3 j hj with h|h|h
    . exact(qE 13 rfl rfl h)
    . exact(qE 2 rfl rfl h)
    . exact(qE 3 rfl rfl h)
  . rcases hj with hj|hj|hj|hj
    . rw[hX3]at hj;exact(qE 5 rfl rfl hj)
    . rw[hX3]at hj;exact(qE 6 rfl rfl hj)
    . rcases hF3 j hj with h|h|h
      . exact(qE 13 rfl rfl h)
      . exact(qE 2 rfl rfl h)
      . exact(qE 3 rfl rfl h)
    . exact absurd hj (Z2l rfl rfl)
  rintro e w4 ⟨y1,hy1,hs1,hgr1,rfl,m1,m2,m3,m4⟩;refine⟨tlV y1,rfl,rfl,m1,m2,m3,m4,?_⟩;clear m1 m2 m3 m4 hr3;have l1:y1.ox.length<=x.ox.length+1:=by
    have h5:y1.tel.out.length=y1.ox.length:=by simp[TelX.tel]
    have h6:X3.tel.out.length=x.ox.length:=by rw[hXt];simp[TelX.tel]
    rw[hy1]at h5;simp only[qy11,qy3,List.length_cons,List.length_nil]at h5;omega
  intro w5 hr5;have hsz5:=hr5.mod.size;refine(Z30 (k:=k) (x:=y1) (F:=(Zq (R.2.map pkN)).fp) (pre:=[]) hr5 85 0 [77,79,82]
    (Z1f w5 k y1 c u3 (R.2.map pkN) (Z7b hr5 (by rfl) k y1 (Zq (R.2.map pkN)) _ _ (hr5.at_ 5 rfl) (λj hj=>(qE 5 rfl rfl hj)) (Z82 _ _) (λj hj=>absurd hj Z4r) [2,3,4,5,6,1,19,12,0] (by decide) rfl rfl) (by rw[qy3];omega) (by omega))
    rfl rfl (Nat.succ_pos _) rfl (λj hj=>?_)).mono ?_
  . rcases hj with hj|hj|hj|hj
    . exact(qE 0 rfl rfl hj)
    . exact(qE 1 rfl rfl hj)
    . exact(qE 5 rfl rfl hj)
    . exact absurd hj Z4r
  rintro e w6 ⟨y2,hy2,hs2,hgr2,rfl,m1,m2,m3,m4⟩;refine⟨tlV y2,rfl,rfl,m1,m2,m3,m4,?_⟩;intro w7 hr7;refine⟨by trivial,y2,?_,(hr7.pick [0,1,2,3,4,5,20] (by decide)).conv rfl,(hg3.trans hgr1 hsz3 (λj h=>absurd h (Z2l rfl rfl))).trans hgr2 hsz5 (λj h=>absurd h Z4r)⟩;rw[hy2,hy1,hXt,Ziu,Z8a,if_neg h1,if_neg hst0,<- hS1,<- hR,hkn];rfl
def Zbv(A:Asrt)(p:Prop):Asrt where
  holds w:=A.holds w/\p
  fp:=A.fp
  stable:=λw w' h hh=>⟨A.stable w w' h hh.1,hh.2⟩
  bound:=λw hh k hk=>A.bound w hh.1 k hk
theorem Z10s{w w1:World}{k:Nat}{x:TelX}{J:List V}{hp:List Ent}(h:Rel ⟨Zi (tlA k x) tlH,w⟩ J hp w1){v ty:Nat}{ks:List Kd}{r:X}(h0:hp[0]?=some (.row v ty ks r)){a b c d:Nat}{ea eb ec ed:Ent}(hn:0≠a/\0≠b/\0≠c/\0≠d) (ha:hp[a]?=some ea) (hb:hp[b]?=some eb) (hc:hp[c]?=some ec) (hd:hp[d]?=some ed) (h1:ea.fp J k) (h2:∀j,Z2 x.sv j->eb.fp J j) (h3:∀j,Z2 x.av j->ec.fp J j) (h4:∀j,Z2 x.ov j->ed.fp J j) : ∀j,Z2 (J.getD v (.i 0)).toV j->w.heap.size<=j:=λj hj=>by
  rcases h.own _ (qy6 h0) rfl j hj with g|g
  . exact g
  . exfalso;have key:∀(i:Nat) (e:Ent),hp[i]?=some e->0≠i->e.fp J j->False:=λi e he hi hf=>h.sep.disj (i:=0) (j:=i) h0 he hi (.inl rfl) hj hf;rcases List.mem_cons.1 (Zqp g)with g|g
    . exact key a _ ha hn.1 (by rw[g];exact h1)
    . rcases qy13.1 g with g|g
      . exact key b _ hb hn.2.1 (h2 j (Option.mem_toList.1 g))
      . rcases qy13.1 g with g|g
        . exact key c _ hc hn.2.2.1 (h3 j (Option.mem_toList.1 g))
        . rcases qy13.1 g with g|g
          . exact key d _ hd hn.2.2.2 (h4 j (Option.mem_toList.1 g))
          . cases g
theorem Zp1(c:List UInt8):∀(l:List Ak) (x:List Wt×List Int),(l.foldl (Z5b c) x).2.length=x.2.length+l.length
  | [],_=>rfl
  | a::l,x=>by rw[List.foldl_cons,Zp1 c l,Z5b];split<;>simp<;>omega
theorem Zh4(c:List UInt8)(kept:List Kp):∀(l:List Ak) (m:List Int) (i:Nat),i<l.length->i<m.length->Z69 c kept (l.take (i+1)) (m.take (i+1))=Z69 c kept (l.take i) (m.take i)++Zqo c kept (l.getD i aD) (m.getD i 0)
  | [],_,_,h,_=>by simp at h
  | _,[],_,_,h=>by simp at h
  | a::l,q::m,0,_,_=>by simp[Z69]
  | a::l,q::m,i+1,h1,h2=>by have:=Zh4 c kept l m i (by simpa using h1) (by simpa using h2);simp only[List.take_succ_cons,Z69,List.getD_cons_succ,List.append_assoc]at this⊢;rw[this]
def ackX(n:Int)(cs:List Int)(u:Value):Z5p:=({ pD_Q 9 with id:=n,codes:=cs },.slice none 0 0,u)
theorem Zvg{n:Int}{cs:List Int}{u:Value}{w:World}(h:Z64 w u cs):(Zq [ackX n cs u]).holds w:=by
  intro t ht;simp only[List.flatMap_cons,List.flatMap_nil,List.append_nil,Zip,ackX,List.mem_cons,List.not_mem_nil,or_false]at ht;rcases ht with rfl|rfl
  . exact Z9 _ _
  . exact h
theorem Zvh{n:Int}{cs:List Int}{u:Value}{j:Nat}(h:(Zq [ackX n cs u]).fp j):(cs.map Z1i).flatten≠[]/\Z2 u j:=by
  obtain⟨t,ht,h1,h2⟩:=h;simp only[List.flatMap_cons,List.flatMap_nil,List.append_nil,Zip,ackX,List.mem_cons,List.not_mem_nil,or_false]at ht;rcases ht with rfl|rfl
  . exact absurd rfl h1
  . exact⟨h1,h2⟩
def Zzh(k:Kp):Pkt:={ pD_Q 3 with retain:=true,topic:=k.1,payload:=k.2.1 }
set_option maxRecDepth 2000 in
theorem Zmr(w:World)(k:Nat)(x:TelX)(c:List UInt8)(p:Pkt)(va vc:Value)(hr:Rel ⟨Zi (tlA k x) tlH,w⟩ (tlA k x++Z6d c p va vc) (tlH++pkHp) w)(hb:BOk x.tel)(ho:x.ox.length<50000)(hc:Zz c=true)(hp:Zow p.asks)(hl:p.asks.length<=5) : Calls Tryz.prog 94 #[.pointer (some ⟨k,0,none⟩),.string ⟨c.toArray⟩,Zqv p va vc] w λe w'=>e=.returned (.tuple #[])/\Z7z w w' k x (λ_=>False) (Z8b c p x.tel):=by
  refine Z1 (Z3 (J:=tlA k x++Z6d c p va vc) (sxE_ok.joins _) Tryz.func94 Z43 rfl rfl hr rfl rfl ?_) rfl;simp only[Tree.goal,X.P,X.ev,SV.ev,CV.ev,Sc.ev,qz,QA,QB,QC,QD,QE,QF,QG,QH,QI,QJ,QK,QL,QM,Nat.reduceAdd,qy3,qy4,gA0,gA1,gI0,gK0,gK1];intro b30 b31;have hkt:chkK x.kept=0:=hb.kept;have hk16:x.kept.length<=16:=(Zu.1 hkt).1;have hol:x.tel.out.length=x.ox.length:=by simp[TelX.tel]
  have lenX:∀y:TelX,y.tel.out.length=y.ox.length:=λy=>by simp[TelX.tel]
  obtain⟨PF,hPF⟩:∃PF:Value->Prop,PF=λu=>∀j,Z2 u j->w.heap.size<=j:=⟨_,rfl⟩
  refine⟨Zbv (Z6 x.sx x.ox) (PF (.slice none 0 0)),λw hr=>⟨hr.at_ 7 rfl,by rw[hPF];exact Z89 _⟩,λj hj=>(qE 7 rfl rfl hj),?_⟩;refine⟨λvs=>∃(i:Nat) (W:List Wt) (v u:Value) (cs:List Int),vs=[.i i,.a (Zbv (Z6 x.sx x.ox) (PF u)),.i 9,.b false,.b false,.b false,.b false,.i 0,.i p.id,.i 0,.i 0,.s [],.s [],.s [],.v (.slice none 0 0),.r [],.v u,.r (cs.map Z1i),.v x.kv,.r (x.kept.map encK),.v v,.r (W.map Za),.v x.sv,.r (x.sx.map Zf),.v x.av,.r (x.wat.map Z7),.i x.next,.v x.ov,.r (x.ox.map Z12)]/\i<=p.asks.length/\(p.asks.take i).foldl (Z5b c) (x.wants,[])=(W,cs)/\(∀j,(W.map Za).flatten≠[]/\Z2 v j->w.heap.size<=j\/Zbs x j),
    λvs=>(p.asks.length - (vs.getD 0 (.i 0)).toI).toNat,⟨0,x.wants,x.wv,.slice none 0 0,[],rfl,by omega,rfl,λj hj=>.inr hj⟩,?_⟩
  rintro _ - ⟨i,W,v,u,cs,rfl,hi,hf,hwn⟩;simp only[Tree.goal,X.P,X.ev,SV.ev,CV.ev,Sc.ev,qz,QA,QB,QC,QD,QE,QF,QG,QH,QI,QJ,QK,QL,QM,Nat.reduceAdd,qy3,qy4,gA0,gA1,gI0,gK0,gK1];have hW:Zj W=0:=by have:=(Zv3 hc (p.asks.take i) (x:=(x.wants,[])) (λa ha=>hp a (List.mem_of_mem_take ha)) hb.wants).1;rw[hf]at this;exact this
  have hcl:cs.length=i:=by have:=Zp1 c (p.asks.take i) (x.wants,[]);rw[hf]at this;simp only[List.length_nil,List.length_take]at this;omega
  refine⟨λh1=>?_,λh1=>?_⟩
  . have hi':i<p.asks.length:=by omega
    have hstep:(p.asks.take (i+1)).foldl (Z5b c) (x.wants,[])=Z5b c (W,cs) (p.asks.getD i aD):=by rw[Zmn aD _ _ hi',List.foldl_append,hf];rfl
    refine⟨by omega,λb62=>?_⟩;intro w1 hr1;have hz1:=hr1.mod.size;refine(Z15c w1 v W (c,(p.asks.getD i aD).1,(p.asks.getD i aD).2) (hr1.at_ 5 rfl) (Z1e.1 hW).2.2 (Z1e.1 hW).1).mono ?_;obtain⟨R,hR⟩:∃R,R=rawW W (c,(p.asks.getD i aD).1,(p.asks.getD i aD).2):=⟨_,rfl⟩
    rw[<- hR];rintro e w2 ⟨v',rfl,a1,a2,am⟩;refine⟨[.v v',.r (R.1.map Za),.i R.2],rfl,rfl,am,qy5 _,qy2.2 ⟨⟨a1,λk hk=>.inl (a2 k hk.2)⟩,qy5 _⟩,Z5,?_⟩;simp only[Tree.goal,X.P,X.ev,SV.ev,CV.ev,Sc.ev,qz,QA,QB,QC,QD,QE,QF,QG,QH,QI,QJ,QK,QL,QM,Nat.reduceAdd,qy3,qy4,gA0,gA1,gI0,gK0,gK1];have hwn':∀j,(R.1.map Za).flatten≠[]/\Z2 v' j->w.heap.size<=j\/Zbs x j:=λj hj=>.inl (Nat.le_trans hz1 (a2 j hj.2));clear hr1 a1 am;refine⟨λh2=>?_,λh2=>?_⟩
    . intro v66;refine⟨by first|omega|(simp;omega),λv67=>⟨by omega,by omega,Zbv (Z6 x.sx x.ox) (PF v67),λw3 hr3=>⟨(hr3.at_ 4 rfl:(Zbv (Z6 x.sx x.ox) (PF u)).holds w3).1,?_⟩,λj hj=>(qE 4 rfl rfl hj),⟨i+1,R.1,v',v67,cs++[(p.asks.getD i aD).2],?_,by omega,?_,hwn'⟩,by omega⟩⟩
      . rw[hPF];exact Z10s hr3 rfl (a:=13) (b:=9) (c:=10) (d:=11) (by decide) rfl rfl rfl rfl rfl (λj h=>h) (λj h=>h) (λj h=>h)
      . rw[List.map_append];rfl
      . rw[hstep,Z5b]
        show(if(rawW W (c,(p.asks.getD i aD).1,(p.asks.getD i aD).2)).2=0 then _ else _)=_
        rw[<- hR,if_pos h2]
    . intro v66;refine⟨by first|omega|(simp;omega),λv67=>⟨by omega,by omega,Zbv (Z6 x.sx x.ox) (PF v67),λw3 hr3=>⟨(hr3.at_ 4 rfl:(Zbv (Z6 x.sx x.ox) (PF u)).holds w3).1,?_⟩,λj hj=>(qE 4 rfl rfl hj),⟨i+1,W,v,v67,cs++[128],?_,by omega,?_,hwn⟩,by omega⟩⟩
      . rw[hPF];exact Z10s hr3 rfl (a:=13) (b:=9) (c:=10) (d:=11) (by decide) rfl rfl rfl rfl rfl (λj h=>h) (λj h=>h) (λj h=>h)
      . rw[List.map_append];rfl
      . rw[hstep,Z5b]
        show(if(rawW W (c,(p.asks.getD i aD).1,(p.asks.getD i aD).2)).2=0 then _ else _)=_
        rw[<- hR,if_neg h2]
  . have hie:i=p.asks.length:=by omega
    subst hie;rw[List.take_length]at hf;have hA1:Zmd c x.wants p.asks=(W,cs):=hf;intro v62 w1 hr1;have hz1:=hr1.mod.size;have hu:∀j,Z2 u j->w.heap.size<=j:=by have:=(hr1.at_ 1 rfl:(Zbv (Z6 x.sx x.ox) (PF u)).holds w1).2;rw[hPF]at this;exact this
    have hg0:Grew w.heap.size (λ_=>False) x { x with wants:=W,wv:=v }:=⟨λj hj=>.inr hj,hwn,λj hj=>.inr (.inl hj)⟩
    refine(Z30 (k:=k) (x:={ x with wants:=W,wv:=v }) (F:=(Zq [ackX p.id cs u]).fp) (pre:=[]) hr1 63 0 [55,57,60]
      (Z1f w1 k { x with wants:=W,wv:=v } c v62 [ackX p.id cs u] (Z7b (toRd hr1) (by rfl) k { x with wants:=W,wv:=v } (Zq [ackX p.id cs u]) _ _ (hr1.at_ 1 rfl:(Zbv (Z6 x.sx x.ox) (PF u)).holds w1).1 (λj hj=>(qE 1 rfl rfl hj)) (Zvg (hr1.at_ 14 rfl)) (λj hj=>(qE 14 rfl rfl (Zvh hj))) [6,7,8,9,10,1,12,2,0] (by decide) rfl rfl) (show 1<1000000 by decide) (by show x.ox.length<1000000;omega))
      rfl rfl (Nat.succ_pos _) rfl (λj hj=>?_)).mono ?_
    . rcases hj with hj|hj|hj|hj
      . exact(qE 4 rfl rfl hj)
      . exact(qE 5 rfl rfl hj)
      . exact(qE 1 rfl rfl hj)
      . exact(qE 14 rfl rfl (Zvh hj))
    rintro e w2 ⟨y1,hy1,hs1,hg1,rfl,m1,m2,m3,m4⟩;refine⟨tlV y1,rfl,rfl,m1,m2,m3,m4,?_⟩;clear m1 m2 m3 m4;have G1:Grew w.heap.size (λ_=>False) x y1:=hg0.trans hg1 hz1 (λj h=>.inl (hu j (Zvh h).2));have ky1:y1.kept=x.kept:=congrArg Tel.kept hy1;have T1:y1.tel={ x.tel with wants:=W,out:=x.tel.out++[toC c { pD_Q 9 with id:=p.id,codes:=cs }] }:=hy1;have L1:y1.tel.out.length=x.ox.length+1:=by rw[T1];simp only[qy11,List.length_cons,List.length_nil,hol]
    clear hr1;refine⟨Z6 y1.sx y1.ox,λw hr=>hr.at_ 5 rfl,λj hj=>(qE 5 rfl rfl hj),?_⟩;refine⟨λvs=>∃(i:Nat) (z:TelX),vs=[.i i,.a (Z6 z.sx z.ox),.v z.kv,.r (z.kept.map encK),.v z.wv,.r (z.wants.map Za),.v z.sv,.r (z.sx.map Zf),.v z.av,.r (z.wat.map Z7),.i z.next,.v z.ov,.r (z.ox.map Z12)]/\i<=p.asks.length/\z.tel={ y1.tel with out:=y1.tel.out++Z69 c x.kept (p.asks.take i) (cs.take i) }/\Grew w.heap.size (λ_=>False) x z,
      λvs=>(p.asks.length - (vs.getD 0 (.i 0)).toI).toNat,⟨0,y1,rfl,by omega,by simp[Z69],G1⟩,?_⟩
    rintro _ - ⟨i,z,rfl,hi2,hzt,hgz⟩;simp only[Tree.goal,X.P,X.ev,SV.ev,CV.ev,Sc.ev,qz,QA,QB,QC,QD,QE,QF,QG,QH,QI,QJ,QK,QL,QM,Nat.reduceAdd,qy3,qy4,gA0,gA1,gI0,gK0,gK1];have zk:z.kept=x.kept:=by have:=congrArg Tel.kept hzt;exact this.trans ky1
    have zl:z.ox.length<=x.ox.length+81:=by have h5:=Zky c hkt (p.asks.take i) (cs.take i);have h6:=lenX z;rw[hzt]at h6;simp only[qy11,List.length_take]at h5 h6;omega
    refine⟨λh2=>?_,λh2 w3 hr3=>?_⟩
    . have hi3:i<p.asks.length:=by omega
      have hlt:=Zh4 c x.kept p.asks cs i hi3 (by omega);refine⟨by omega,λb89=>⟨by omega,λh3=>?_,λh3=>?_⟩⟩
      . refine⟨by omega,by omega,Z6 z.sx z.ox,λw hr=>hr.at_ 1 rfl,λj hj=>(qE 1 rfl rfl hj),⟨i+1,z,rfl,by omega,?_,hgz⟩,by omega⟩;rw[hlt,Zqo,if_pos h3,List.append_nil];exact hzt
      . intro w4 hr4;have hz4:=hr4.mod.size;have hak:=hp (p.asks.getD i aD) (by rw[qy1,qy7 hi3];exact List.getElem_mem hi3);refine(Z153 w4 z.kv z.kept (p.asks.getD i aD).1 (hr4.at_ 2 rfl) (by rw[zk];exact λy hy=>by have:=(Z4o.1 ((Zu.1 hkt).2.1 y hy).1).2.1.1;omega) (by rw[zk];omega) (by have:=(Z4o.1 hak.1).2.1.1;omega)).mono ?_;rintro e w5 ⟨v',rfl,a1,a2,am⟩;obtain⟨K,hK⟩:∃K,K=z.kept.filter (forF (p.asks.getD i aD).1):=⟨_,rfl⟩
        rw[<- hK]at a1;refine⟨[.v v',.r (K.map encK)],rfl,rfl,am,qy5 _,qy2.2 ⟨⟨a1,λk hk=>.inl (a2 k hk.2)⟩,qy5 _⟩,Z5,?_⟩;have hK16:K.length<=16:=by rw[hK,zk];exact Nat.le_trans (List.length_filter_le _ _) hk16
        clear hr4 a1 a2 am;refine⟨Z6 z.sx z.ox,λw hr=>hr.at_ 2 rfl,λj hj=>(qE 2 rfl rfl hj),?_⟩;refine⟨λvs=>∃(j:Nat) (y:TelX),vs=[.i j,.a (Z6 y.sx y.ox),.v y.kv,.r (y.kept.map encK),.v y.wv,.r (y.wants.map Za),.v y.sv,.r (y.sx.map Zf),.v y.av,.r (y.wat.map Z7),.i y.next,.v y.ov,.r (y.ox.map Z12)]/\j<=K.length/\y.tel={ z.tel with out:=z.tel.out++(K.take j).map λk=>toC c (Zzh k) }/\Grew w.heap.size (λ_=>False) x y,
          λvs=>(K.length - (vs.getD 0 (.i 0)).toI).toNat,⟨0,z,rfl,by omega,by simp,hgz⟩,?_⟩
        rintro _ - ⟨j,y,rfl,hj,hyt,hgy⟩;simp only[Tree.goal,X.P,X.ev,SV.ev,CV.ev,Sc.ev,qz,QA,QB,QC,QD,QE,QF,QG,QH,QI,QJ,QK,QL,QM,Nat.reduceAdd,qy3,qy4,gA0,gA1,gI0,gK0,gK1];have yl:y.ox.length<=x.ox.length+97:=by have h6:=lenX y;rw[hyt]at h6;simp only[qy11,qy3,List.length_take,lenX z]at h6;omega
        refine⟨λh4=>?_,λh4=>?_⟩
        . have hj':j<K.length:=by omega
          refine⟨by omega,λb106 v107 w6 hr6=>?_⟩;have hz6:=hr6.mod.size;refine(Z30 (k:=k) (x:=y) (F:=(Zq [pk1X (Zzh (K.getD j kD))]).fp) (pre:=[]) hr6 108 0 [99,101,104]
            (Z1f w6 k y c v107 [pk1X (Zzh (K.getD j kD))] (Z7b (toRd hr6) (by rfl) k y (Zq [pk1X (Zzh (K.getD j kD))]) _ _ (hr6.at_ 2 rfl) (λj hj=>(qE 2 rfl rfl hj)) (Z4s rfl rfl _) (λj hj=>absurd hj (Z2l rfl rfl)) [8,9,10,11,12,1,21,2,0] (by decide) rfl
              (Zg rfl (Zg rfl (Zg rfl (Zg rfl (Zg rfl (Zg rfl (Zg rfl (Zg (Zl4 rfl (by simp only[Tree.goal,X.P,X.ev,SV.ev,CV.ev,Sc.ev,qz,QA,QB,QC,QD,QE,QF,QG,QH,QI,QJ,QK,QL,QM,Nat.reduceAdd,qy3,qy4,gA0,gA1,gI0,gK0,gK1];rfl)) rfl))))))))) (show 1<1000000 by decide) (by omega))
            rfl rfl (Nat.succ_pos _) rfl (λj hj=>?_)).mono ?_
          . rcases hj with hj|hj|hj|hj
            . exact(qE 6 rfl rfl hj)
            . exact(qE 7 rfl rfl hj)
            . exact(qE 2 rfl rfl hj)
            . exact absurd hj (Z2l rfl rfl)
          rintro e w7 ⟨y2,hy2,hs2,hg2,rfl,m1,m2,m3,m4⟩;refine⟨tlV y2,rfl,rfl,m1,m2,m3,m4,?_⟩;refine⟨by omega,by omega,Z6 y2.sx y2.ox,λw hr=>hr.at_ 5 rfl,λj hj=>(qE 5 rfl rfl hj),⟨j+1,y2,rfl,by omega,?_,hgy.trans hg2 hz6 (λj h=>absurd h (Z2l rfl rfl))⟩,by omega⟩;rw[hy2,hyt,Zmn kD K j hj'];simp only[List.map_append,List.map_cons,List.map_nil,List.append_assoc];rfl
        . have hje:j=K.length:=by omega
          rw[hje,List.take_length]at hyt;refine⟨by omega,by omega,Z6 y.sx y.ox,λw hr=>hr.at_ 0 rfl,λj hj=>(qE 0 rfl rfl hj),⟨i+1,y,rfl,by omega,?_,hgy⟩,by omega⟩;rw[hyt,hzt,hlt,Zqo,if_neg h3,hK,zk];simp only[List.append_assoc];rfl
    . have hie:i=p.asks.length:=by omega
      refine⟨by trivial,z,?_,(hr3.pick [1,2,3,4,5,0,14] (by decide)).conv rfl,hgz⟩;rw[hzt,T1,hie,List.take_length,List.take_of_length_le (by omega),Z8b]
      show _=({ x.tel with wants:=(Zmd c x.wants p.asks).1,out:=x.tel.out++[toC c { pD_Q 9 with id:=p.id,codes:=(Zmd c x.wants p.asks).2 }]++Z69 c x.kept p.asks (Zmd c x.wants p.asks).2 }:Tel)
      rw[hA1]
theorem Zvi{w w1:World}{k:Nat}{x:TelX}{J:List V}{hp:List Ent}(h:Rel ⟨Zi (tlA k x) tlH,w⟩ J hp w1)(m:Nat){v ty:Nat}{ks:List Kd}{r:X}(h0:hp[m]?=some (.row v ty ks r)){a b c d:Nat}{ea eb ec ed:Ent}(hn:m≠a/\m≠b/\m≠c/\m≠d) (ha:hp[a]?=some ea) (hb:hp[b]?=some eb) (hc:hp[c]?=some ec) (hd:hp[d]?=some ed) (h1:ea.fp J k) (h2:∀j,Z2 x.sv j->eb.fp J j) (h3:∀j,Z2 x.av j->ec.fp J j) (h4:∀j,Z2 x.ov j->ed.fp J j) : ∀j,Z2 (J.getD v (.i 0)).toV j->w.heap.size<=j:=λj hj=>by
  rcases h.own _ (qy6 h0) rfl j hj with g|g
  . exact g
  . exfalso;have key:∀(i:Nat) (e:Ent),hp[i]?=some e->m≠i->e.fp J j->False:=λi e he hi hf=>h.sep.disj (i:=m) (j:=i) h0 he hi (.inl rfl) hj hf;rcases List.mem_cons.1 (Zqp g)with g|g
    . exact key a _ ha hn.1 (by rw[g];exact h1)
    . rcases qy13.1 g with g|g
      . exact key b _ hb hn.2.1 (h2 j (Option.mem_toList.1 g))
      . rcases qy13.1 g with g|g
        . exact key c _ hc hn.2.2.1 (h3 j (Option.mem_toList.1 g))
        . rcases qy13.1 g with g|g
          . exact key d _ hd hn.2.2.2 (h4 j (Option.mem_toList.1 g))
          . cases g
theorem Zp2{k:Nat}{g a:List Nat}:∀j∈k::a,j∈k::(g++a):=λj hj=>by
  rcases List.mem_cons.1 hj with rfl|h
  . exact qy8 ..
  . exact qy10 _ (List.mem_append_right _ h)
theorem Z10t{P:Program}{f:Nat}{args:Array Value}{w:World}{B:Base}{J:List V}{hp:List Ent}{k:Nat}{x:TelX}{F:Nat->Prop}{R:TelX->Prop}{pre:List V}{v:Value}(h0:Rel B J hp w)(n vk:Nat)(gone:List Nat) (h:Calls P f args w λe w1=>e=.returned v/\∃y:TelX,R y/\Rel ⟨Zi (tlA k x) tlH,w⟩ (tlA k y) tlH w1/\Grew w.heap.size F x y) (hn:J.length+pre.length=n) (hk:J.getD vk (.i 0)=.n k) (hv:vk<J.length) (hM:∀j∈k::(x.sv.ownBlock.toList++(x.av.ownBlock.toList++(x.ov.ownBlock.toList++[]))),j∈Zo J [vk] gone) (hO:∀j,(Zfw x j\/Zbs x j\/(Z6 x.sx x.ox).fp j\/F j)->(∃y∈hp,y.wr=false/\y.fp J j)\/j∈Zw J gone) : Calls P f args w λe w1=>∃y:TelX,R y/\w.heap.size<=w1.heap.size/\Grew w.heap.size F x y/\e=.returned v/\Mod (Zo J [vk] gone) w w1/\(∀x∈tlMs vk n,x.holds (J++(pre++tlV y)) w1) /\ (∀x∈tlEs n,x.holds (J++(pre++tlV y)) w1/\∀k,x.fp (J++(pre++tlV y)) k->w.heap.size<=k\/(x.wr=false/\∃y∈hp,y.wr=false/\y.fp J k)\/k∈Zw J gone)/\Z2o (J++(pre++tlV y)) (tlEs n):=by
  refine h.mono ?_;rintro e w1 ⟨he,y,hT,hq,hg⟩;have hs:=Zum (y:=y) hn hk hv;have hq':Rel ⟨Zo J [vk] gone,w⟩ (J++(pre++tlV y)) (tlEs n++tlMs vk n) w1:=Zio (hq.conv hs) rfl λj hj=>hM j (Zqp hj);refine⟨y,hT,hq.mod.size,hg,he,hq'.mod,λx hx=>hq'.holds x (List.mem_append_right _ hx),λx hx=>⟨hq'.holds x (List.mem_append_left _ hx),λj hj=>?_⟩,(List.pairwise_append.1 hq'.sep).1⟩;cases hw:x.wr with
  | false =>
    have h1:Ent.sem (J++(pre++tlV y)) x∈tlH.map (Ent.sem (tlA k y)):=by rw[hs];exact List.mem_map_of_mem (List.mem_append_left _ hx)
    obtain⟨e',he',hee⟩:=List.mem_map.1 h1;have hw':e'.wr=false:=(congrArg SEnt.wr hee).trans hw;have hj':e'.fp (tlA k y) j:=(congrFun (congrArg SEnt.fp hee) j).mpr hj;have key:∀j,(Zfw y j\/Zbs y j\/(Z6 y.sx y.ox).fp j)->w.heap.size<=j\/(∃y∈hp,y.wr=false/\y.fp J j)\/j∈Zw J gone:=by
      rintro j (h|h|h)
      . rcases hg.kept j h with h|h
        . exact .inl h
        . exact .inr (hO j (.inl h))
      . rcases hg.want j h with h|h
        . exact .inl h
        . exact .inr (hO j (.inr (.inl h)))
      . rcases hg.nest j h with h|h|h
        . exact .inl h
        . exact .inr (hO j (.inr (.inr (.inl h))))
        . exact .inr (hO j (.inr (.inr (.inr h))))
    have fin:w.heap.size<=j\/(∃y∈hp,y.wr=false/\y.fp J j)\/j∈Zw J gone:=by
      simp only[tlH,List.mem_cons,List.not_mem_nil,or_false]at he';rcases he' with rfl|rfl|rfl|rfl|rfl|rfl|rfl
      . exact key j (.inl hj')
      . exact key j (.inr (.inl hj'))
      . cases hw'
      . cases hw'
      . cases hw'
      . exact key j (.inr (.inr hj'))
      . cases hw'
    rcases fin with h|h|h
    . exact .inl h
    . exact .inr (.inl ⟨rfl,h⟩)
    . exact .inr (.inr h)
  | true =>
    rcases hq'.own x (List.mem_append_left _ hx) hw j hj with h5|h5
    . exact .inl h5
    . simp only[Zo,List.map_cons,List.map_nil,qy13,qy12]at h5;rcases h5 with h5|h5
      . exfalso;refine(List.pairwise_append.1 hq'.sep).2.2 x hx _ (qy12.2 rfl) (.inl hw) _ hj ?_;rw[h5];simp only[Ent.fp];rw[qy1 (l:=J++_),List.getElem?_append_left hv,<- qy1]
      . exact .inr (.inr h5)
def unK(c:List UInt8)(asks:List Ak)(w:Wt):Bool:=!(decide (w.1=c) && asks.any λa=>decide (a.1=w.2.1))
theorem Z10u{c:List UInt8}{asks:List Ak}{y:Wt}{m:Nat}(h:y.1=c)(hm:m<asks.length)(h2:(asks.getD m aD).1=y.2.1):¬unK c asks y=true:=by unfold unK;rw[qy1,qy7 hm]at h2;have:(asks.any λa=>decide (a.1=y.2.1))=true:=List.any_eq_true.2 ⟨asks[m],List.getElem_mem hm,by simpa using h2⟩;rw[this];simp[h]
theorem Z10v{c:List UInt8}{asks:List Ak}{y:Wt}(h:¬y.1=c):unK c asks y=true:=by unfold unK;simp[h]
theorem Zvj{c:List UInt8}{asks:List Ak}{y:Wt}(h:∀m,m<asks.length->¬(asks.getD m aD).1=y.2.1):unK c asks y=true:=by
  unfold unK;have:(asks.any λa=>decide (a.1=y.2.1))=false:=by rw[List.any_eq_false];intro a ha;obtain⟨m,hm,rfl⟩:=List.getElem_of_mem ha;have:=h m hm;rw[qy1,qy7 hm]at this;simpa using this
  rw[this];simp
set_option maxRecDepth 2000 in
theorem Ziv(w:World)(k:Nat)(x:TelX)(c:List UInt8)(p:Pkt)(va vc:Value)(hr:Rel ⟨Zi (tlA k x) tlH,w⟩ (tlA k x++Z6d c p va vc) (tlH++pkHp) w)(hlw:x.wants.length<1000000)(ho:x.ox.length<50000)(hl:p.asks.length<1000000) : Calls Tryz.prog 95 #[.pointer (some ⟨k,0,none⟩),.string ⟨c.toArray⟩,Zqv p va vc] w λe w'=>e=.returned (.tuple #[])/\Z7z w w' k x (λ_=>False) (Z5c c p x.tel):=by
  refine Z1 (Z3 (J:=tlA k x++Z6d c p va vc) sxE_ok Tryz.func95 Z3f rfl rfl hr rfl rfl ?_) rfl;simp only[Tree.goal,X.P,X.ev,SV.ev,CV.ev,Sc.ev,qz,QA,QB,QC,QD,QE,QF,QG,QH,QI,QJ,QK,QL,QM,Nat.reduceAdd,qy3,qy4,Z1k,Z1r,Z33,gA0];intro b30 b31 w1 hr1;obtain⟨l,hle⟩:∃l,l=x.wants:=⟨_,rfl⟩
  refine(Z4b w1 x.wv x.wants (hr1.at_ 4 rfl) (by omega)).mono ?_;rintro e w2 ⟨u,rfl,a1,f1,m1⟩;refine⟨[.v u,.r (x.wants.map Za)],rfl,rfl,m1,qy5 _,qy2.2 ⟨⟨a1,λk hk=>.inl (f1 k hk)⟩,qy5 _⟩,Z5,?_⟩;clear hr1 a1 f1 m1;rw[<- hle]at hlw;simp only[Tree.goal,X.P,X.ev,SV.ev,CV.ev,Sc.ev,qz,QA,QB,QC,QD,QE,QF,QG,QH,QI,QJ,QK,QL,QM,Nat.reduceAdd,qy3,qy4,Z1k,Z1r,Z33,gA0,<- hle];have hfin:∀(u':Value) (y1:TelX),y1.tel={ (TelX.tel { x with wants:=l.filter (unK c p.asks),wv:=u' })with out:=(TelX.tel { x with wants:=l.filter (unK c p.asks),wv:=u' }).out++[toC c { pD_Q 11 with id:=p.id }] }->y1.tel=Z5c c p x.tel:=λu' y1 h=>by rw[h,hle];rfl
  refine⟨λvs=>∃(y:V) (i:Nat),vs=[y,.i i,.i p.kind,.b p.dup,.b p.retain,.b p.clean,.b p.session,.i p.qos,.i p.id,.i p.keep,.i p.code,.s p.client,.s p.topic,.s p.payload,.v va,.r (p.asks.map encA),.v vc,.r (p.codes.map Z1i),.s c]/\i<=l.length/\∀j,j<i->unK c p.asks (l.getD j wD_V)=true,λvs=>(l.length - (vs.getD 1 (.i 0)).toI).toNat,⟨_,0,rfl,by omega,λj hj=>by omega⟩,?_⟩;rintro _ - ⟨y0,i,rfl,hi,hn⟩;simp only[Tree.goal,X.P,X.ev,SV.ev,CV.ev,Sc.ev,qz,QA,QB,QC,QD,QE,QF,QG,QH,QI,QJ,QK,QL,QM,Nat.reduceAdd,qy3,qy4,Z1k,Z1r,Z33,gA0];refine⟨λh1=>?_,λh1=>?_⟩
  . have hi':i<l.length:=by omega
    refine⟨by omega,λb55=>?_⟩;refine⟨λh2=>?_,λh2=>⟨by omega,by omega,⟨_,i+1,rfl,by omega,λj hj=>?_⟩,by omega⟩⟩
    . refine⟨λvs=>∃(y:V) (m:Nat),vs=[y,.i m,.s (l.getD i wD_V).1,.s (l.getD i wD_V).2.1,.i (l.getD i wD_V).2.2]/\m<=p.asks.length/\∀j,j<m->¬(p.asks.getD j aD).1=(l.getD i wD_V).2.1,λvs=>(p.asks.length - (vs.getD 1 (.i 0)).toI).toNat,⟨_,0,rfl,by omega,λj hj=>by omega⟩,?_⟩;rintro _ - ⟨y1,m,rfl,hm,hnm⟩;simp only[Tree.goal,X.P,X.ev,SV.ev,CV.ev,Sc.ev,qz,QA,QB,QC,QD,QE,QF,QG,QH,QI,QJ,QK,QL,QM,Nat.reduceAdd,qy3,qy4,Z1k,Z1r,Z33,gA0];refine⟨λh3=>⟨by omega,λb61=>⟨λh4=>⟨λh5=>by omega,λh5=>⟨by omega,by omega,?_⟩⟩,λh4=>⟨by omega,by omega,⟨_,m+1,rfl,by omega,λj hj=>?_⟩,by omega⟩⟩⟩,λh3=>⟨λh5=>by omega,λh5=>⟨by omega,by omega,⟨_,i+1,rfl,by omega,λj hj=>?_⟩,by omega⟩⟩⟩
      . refine⟨λvs=>∃(a j:Nat) (R:List Wt),vs=[.i a,.i j,.r (R.map Za),.i p.kind,.b p.dup,.b p.retain,.b p.clean,.b p.session,.i p.qos,.i p.id,.i p.keep,.i p.code,.s p.client,.s p.topic,.s p.payload,.v va,.r (p.asks.map encA),.v vc,.r (p.codes.map Z1i),.s c]/\a<j/\j<=l.length/\R.length=l.length/\R.take a=(l.take j).filter (unK c p.asks)/\R.drop j=l.drop j,λvs=>(l.length - (vs.getD 1 (.i 0)).toI).toNat,
          ⟨i,i+1,l,rfl,by omega,by omega,rfl,?_,rfl⟩,?_⟩
        . rw[Z65 (unK c p.asks) l i (by omega),if_neg (Z10u (m:=m) h2 (by omega) h4),List.append_nil,Zao hn]
        rintro _ - ⟨a,j,R,rfl,haj,hj,hR,ht,hd⟩;simp only[Tree.goal,X.P,X.ev,SV.ev,CV.ev,Sc.ev,qz,QA,QB,QC,QD,QE,QF,QG,QH,QI,QJ,QK,QL,QM,Nat.reduceAdd,qy3,qy4,Z1k,Z1r,Z33,gA0,hR];refine⟨λh6=>?_,λh6=>?_⟩
        . have hj':j<l.length:=by omega
          have hg:=Zkf hd;refine⟨by omega,λb82 b83=>?_⟩;refine⟨λh7=>?_,λh7=>?_⟩
          . refine⟨λvs=>∃(y:V) (m:Nat),vs=[y,.i m,.s (R.getD j wD_V).1,.s (R.getD j wD_V).2.1,.i (R.getD j wD_V).2.2]/\m<=p.asks.length/\∀i,i<m->¬(p.asks.getD i aD).1=(R.getD j wD_V).2.1,λvs=>(p.asks.length - (vs.getD 1 (.i 0)).toI).toNat,⟨_,0,rfl,by omega,λj hj=>by omega⟩,?_⟩;rintro _ - ⟨y3,m3,rfl,hm3,hnm3⟩;simp only[Tree.goal,X.P,X.ev,SV.ev,CV.ev,Sc.ev,qz,QA,QB,QC,QD,QE,QF,QG,QH,QI,QJ,QK,QL,QM,Nat.reduceAdd,qy3,qy4,Z1k,Z1r,Z33,gA0,hR];refine⟨λh8=>⟨by omega,λb89=>⟨λh9=>⟨by omega,by omega,⟨a,j+1,R,rfl,by omega,by omega,hR,?_,Z66 hd⟩,by omega⟩,λh9=>⟨by omega,by omega,⟨_,m3+1,rfl,by omega,λi hi=>?_⟩,by omega⟩⟩⟩,λh8=>⟨λh9=>?_,λh9=>by omega⟩⟩
            . rw[Z65 (unK c p.asks) l j (by omega),if_neg (Z10u (m:=m3) (by rw[<- hg];exact h7) (by omega) (by rw[<- hg];exact h9)),List.append_nil];exact ht
            . by_cases hij:i=m3
              . subst hij;exact h9
              . exact hnm3 i (by omega)
            . repeat (first|omega|refine⟨by omega,?_⟩)
              refine⟨⟨a+1,j+1,R.set a (R.getD j wD_V),?_,by omega,by omega,by simpa using hR,Zet haj (by omega) hR ht hd (by rw[<- hg];exact Zvj λm hm=>hnm3 m (by omega)),?_⟩,by omega⟩
              . rw[<- Zde];rfl
              . rw[List.drop_set_of_lt (by omega)];exact Z66 hd
          . repeat (first|omega|refine⟨by omega,?_⟩)
            refine⟨⟨a+1,j+1,R.set a (R.getD j wD_V),?_,by omega,by omega,by simpa using hR,Zet haj (by omega) hR ht hd (by rw[<- hg];exact Z10v h7),?_⟩,by omega⟩
            . rw[<- Zde];rfl
            . rw[List.drop_set_of_lt (by omega)];exact Z66 hd
        . have hje:j=l.length:=by omega
          subst hje;rw[List.take_length]at ht;refine⟨by omega,by omega,?_,λu' v83 w3 hr3=>?_⟩
          . simp only[qy11,List.length_take,List.length_replicate,qy3,hR];omega
          have hz3:=hr3.mod.size;have hnu:∀j,Z2 u' j->w.heap.size<=j:=Zvi hr3 1 rfl (a:=14) (b:=10) (c:=11) (d:=12) (by decide) rfl rfl rfl rfl rfl (λj h=>h) (λj h=>h) (λj h=>h);refine(Z10t (k:=k) (x:={ x with wants:=l.filter (unK c p.asks),wv:=u' }) (F:=(Zq [pk1X { pD_Q 11 with id:=p.id }]).fp) (pre:=[]) hr3 84 0 [82,5,7,10]
            (Z1f w3 k { x with wants:=l.filter (unK c p.asks),wv:=u' } c v83 [pk1X { pD_Q 11 with id:=p.id }] (Z7b (Z3q (v:=82) (Z3q (v:=83) hr3)) (by rfl) k { x with wants:=l.filter (unK c p.asks),wv:=u' } (Zq [pk1X { pD_Q 11 with id:=p.id }]) _ _ (hr3.at_ 13 rfl) (λj hj=>(qE 13 rfl rfl hj)) (Z4s rfl rfl _) (λj hj=>absurd hj (Z2l rfl rfl)) [10,3,12,13,14,1,16,2,0] (by decide) rfl
              (Zg rfl (Zg (Zl4 rfl (by simp only[Tree.goal,X.P,X.ev,SV.ev,CV.ev,Sc.ev,qz,QA,QB,QC,QD,QE,QF,QG,QH,QI,QJ,QK,QL,QM,Nat.reduceAdd,qy3,qy4,Z1k,Z1r,Z33,gA0];rw[List.take_append_of_le_length (by simp;omega),List.take_take,Nat.min_self,<- List.map_take,ht])) rfl))) (show 1<1000000 by decide) (by show x.ox.length<1000000;omega))
            rfl rfl (Nat.succ_pos _) Zp2 (λj hj=>?_)).mono ?_
          . rcases hj with hj|hj|hj|hj
            . exact .inl (qE 8 rfl rfl hj)
            . exact .inr (Z6u (i:=82) (qy8 ..) hj.2)
            . exact .inl (qE 13 rfl rfl hj)
            . exact absurd hj (Z2l rfl rfl)
          rintro e w4 ⟨y4,hy4,hs4,hg4,rfl,m1,m2,m3,m4⟩;refine⟨tlV y4,rfl,rfl,m1,m2,m3,m4,?_⟩;intro w7 hr7;exact⟨by trivial,y4,hfin u' y4 hy4,(hr7.pick [0,1,2,3,4,5,16] (by decide)).conv rfl,(show Grew w.heap.size (λ_=>False) x { x with wants:=l.filter (unK c p.asks),wv:=u' } from⟨λj hj=>.inr hj,λj hj=>.inl (hnu j hj.2),λj hj=>.inr (.inl hj)⟩).trans hg4 hz3 (λj h=>absurd h (Z2l rfl rfl))⟩
      . by_cases hij:j=m
        . subst hij;exact h4
        . exact hnm j (by omega)
      . by_cases hij:j=i
        . subst hij;exact Zvj λm' hm'=>hnm m' (by omega)
        . exact hn j (by omega)
    . by_cases hij:j=i
      . subst hij;exact Z10v h2
      . exact hn j (by omega)
  . have hie:i=l.length:=by omega
    subst hie;have e1:=Zao (p:=unK c p.asks) (l:=l) (i:=l.length) hn;rw[List.take_length]at e1;intro v55 w3 hr3;obtain⟨u',hu'⟩:∃u',u'=u:=⟨_,rfl⟩
    subst hu';have hz3:=hr3.mod.size;have hnu:∀j,Z2 u' j->w.heap.size<=j:=Zvi hr3 2 rfl (a:=12) (b:=8) (c:=9) (d:=10) (by decide) rfl rfl rfl rfl rfl (λj h=>h) (λj h=>h) (λj h=>h);refine(Z10t (k:=k) (x:={ x with wants:=l.filter (unK c p.asks),wv:=u' }) (F:=(Zq [pk1X { pD_Q 11 with id:=p.id }]).fp) (pre:=[]) hr3 56 0 [33,5,7,10]
      (Z1f w3 k { x with wants:=l.filter (unK c p.asks),wv:=u' } c v55 [pk1X { pD_Q 11 with id:=p.id }] (Z7b (Z3q (v:=33) (Z3q (v:=55) hr3)) (by rfl) k { x with wants:=l.filter (unK c p.asks),wv:=u' } (Zq [pk1X { pD_Q 11 with id:=p.id }]) _ _ (hr3.at_ 11 rfl) (λj hj=>(qE 11 rfl rfl hj)) (Z4s rfl rfl _) (λj hj=>absurd hj (Z2l rfl rfl)) [8,4,10,11,12,1,14,2,0] (by decide) rfl
        (Zg rfl (Zg (Zl4 rfl (by rw[e1];rfl)) rfl))) (show 1<1000000 by decide) (by show x.ox.length<1000000;omega))
      rfl rfl (Nat.succ_pos _) Zp2 (λj hj=>?_)).mono ?_
    . rcases hj with hj|hj|hj|hj
      . exact .inl (qE 6 rfl rfl hj)
      . exact .inr (Z6u (i:=33) (qy8 ..) hj.2)
      . exact .inl (qE 11 rfl rfl hj)
      . exact absurd hj (Z2l rfl rfl)
    rintro e w4 ⟨y4,hy4,hs4,hg4,rfl,m1,m2,m3,m4⟩;refine⟨tlV y4,rfl,rfl,m1,m2,m3,m4,?_⟩;intro w7 hr7;exact⟨by trivial,y4,hfin u' y4 hy4,(hr7.pick [0,1,2,3,4,5,14] (by decide)).conv rfl,(show Grew w.heap.size (λ_=>False) x { x with wants:=l.filter (unK c p.asks),wv:=u' } from⟨λj hj=>.inr hj,λj hj=>.inl (hnu j hj.2),λj hj=>.inr (.inl hj)⟩).trans hg4 hz3 (λj h=>absurd h (Z2l rfl rfl))⟩
