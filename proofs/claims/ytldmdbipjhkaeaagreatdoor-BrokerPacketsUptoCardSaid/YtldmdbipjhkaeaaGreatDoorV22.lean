/- By an AI agent. -/
import Derived.Test.YtldmdbipjhkaeaaGreatDoorV19
import Derived.Test.YtldmdbipjhkaeaaGreatDoorV11
import Derived.Test.YtldmdbipjhkaeaaGreatDoorV20
import Derived.Test.YtldmdbipjhkaeaaGreatDoorV21
import Derived.Test.YtldmdbipjhkaeaaGreatDoorV18
import Derived.Test.YtldmdbipjhkaeaaGreatDoorV10
import Derived.Test.YtldmdbipjhkaeaaGreatDoorV09
set_option linter.all false
set_option maxHeartbeats 20000000
namespace Go.Proofs.Y
open Go Go.Sx
def atS(l:List Ses)(n:List UInt8):Int:=if hasS l n=true then(idxS l n:Int)else -1
theorem Z31(w:World)(v:Value)(l:List SesX)(n:List UInt8)(hv:reads w v kSx (l.map Zc))(hs:Z5n (l.map (·.1)))(hl:l.length<1000000000) : Calls Tryz.prog 30 #[sc1 v,.string ⟨n.toArray⟩] w λe w'=>e=.returned (.int .i64 (atS (l.map (·.1)) n))/\Mod [] w w':=by
  refine Z1 (Z3 (J:=[.v v,.r (l.map Zc),.s n]) sxE_ok Tryz.func30 Z5x rfl rfl (Rel.start2 (by simp[Ent.holds,Ent.wr,hv,X.ev])) rfl rfl ?_) rfl;simp only[Tree.goal,X.P,X.ev,SV.ev,CV.ev,Sc.ev,qz,QA,QB,QC,QD,QE,QF,QG,QH,QI,QJ,QK,QL,QM,Nat.reduceAdd,qy3,qy4];refine⟨λvs=>∃(i:Nat) (x:V),vs=[x,.i i]/\i<=l.length/\∀j,j<i->¬(l.getD j sxD).1.cl=n,λvs=>l.length - (vs.getD 1 (.i 0)).toI.toNat,⟨0,_,rfl,by omega,λj hj=>by omega⟩,?_⟩;rintro _ - ⟨i,x,rfl,hi,hall⟩;simp only[Tree.goal,X.P,X.ev,SV.ev,CV.ev,Sc.ev,qz,QA,QB,QC,QD,QE,QF,QG,QH,QI,QJ,QK,QL,QM,Nat.reduceAdd,qy3,qy4,gSx0];refine⟨λh1=>⟨by omega,λh2 w' hr=>⟨?_,hr.mod⟩,λh2=>⟨by omega,by omega,⟨i+1,x,rfl,by omega,λj hj=>?_⟩,by omega⟩⟩,λh1 w' hr=>⟨?_,hr.mod⟩⟩
  . have hi':i<l.length:=by omega
    have e:=Zg2 (l:=l) (n:=n) (i:=i) (by omega) (λk hk=>by rw[<- h2];exact Zbp hs (i:=k) (j:=i) hk hi') (λk h3 h4=>by
      by_cases hk:k=i
      . rw[hk,h2];exact Z1o _
      . rw[<- h2];exact Z3l (Zbp hs (i:=i) (j:=k) (by omega) h4))
    have hh:hasS (l.map (·.1)) n=true:=decide_eq_true (by rw[<- e,Zcp,qy3];exact⟨hi',h2⟩);rw[atS,if_pos hh,<- e]
  . by_cases hji:j=i
    . rw[hji];exact h2
    . exact hall j (by omega)
  . have hie:i=l.length:=by omega
    have hh:¬hasS (l.map (·.1)) n=true:=λh=>by obtain⟨h3,h4⟩:=Z7s h;rw[qy3]at h3;rw[Zcp]at h4;exact hall _ (by omega) h4
    rw[atS,if_neg hh]
def Zo2(x y:Tel):Bool:=decide (x.next=y.next/\x.kept=y.kept/\x.wants=y.wants/\x.wat=y.wat/\x.sess=y.sess)
theorem Zx0{x y:Tel}:Zo2 x y=true↔{ x with out:=[] }={ y with out:=[] }:=by cases x;cases y;simp only[Zo2,decide_eq_true_eq,Tel.mk.injEq];exact⟨λ⟨a,b,c,d,e⟩=>⟨b,c,e,d,a,trivial⟩,λ⟨b,c,e,d,a,_⟩=>⟨a,b,c,d,e⟩⟩
theorem Z14z{a b:List SesX}(hl:a.length=b.length)(h:∀i,i<a.length->(a.getD i sxD).1=(b.getD i sxD).1):a.map (·.1)=b.map (·.1):=by refine List.ext_getElem (by simpa using hl) λi h1 h2=>?_;rw[qy3]at h1 h2;have:=h i h1;rw[qy1,qy1,qy7 h1,qy7 h2]at this;simpa using this
theorem Zme(w:World)(x y:TelX)(hx:RdX w x)(hy:RdX w y)(h1:x.kept.length<1000000000)(h2:x.wants.length<1000000000)(h3:x.wat.length<1000000000)(h4:x.sx.length<1000000000)(h5:∀t∈x.sx,t.1.fl.length<1000000000/\t.1.qu.length<1000000000) : Calls Tryz.prog 69 #[bkV x,bkV y] w λe w'=>e=.returned (.bool (Zo2 x.tel y.tel))/\Mod [] w w':=by
  refine Z1 (Z3 (J:=bkA x++bkA y) sxE_ok Tryz.func69 Z5j rfl rfl
    (Rel.start2 (qy2.2 ⟨⟨hx.kept,rfl⟩,qy2.2 ⟨⟨hx.want,rfl⟩,qy2.2 ⟨⟨hx.sess,rfl⟩,qy2.2 ⟨⟨hx.nest,rfl⟩,qy2.2 ⟨⟨hx.wat,rfl⟩,qy2.2 ⟨⟨hy.kept,rfl⟩,qy2.2 ⟨⟨hy.want,rfl⟩,qy2.2 ⟨⟨hy.sess,rfl⟩,qy2.2 ⟨⟨hy.nest,rfl⟩,qy2.2 ⟨⟨hy.wat,rfl⟩,qy5 _⟩⟩⟩⟩⟩⟩⟩⟩⟩⟩)) rfl rfl ?_) rfl
  simp only[Tree.goal,X.P,X.ev,SV.ev,CV.ev,Sc.ev,qz,QA,QB,QC,QD,QE,QF,QG,QH,QI,QJ,QK,QL,QM,Nat.reduceAdd,qy3,qy4];intro b20 b21;refine⟨[.b (decide (x.kept=y.kept))],rfl,λ_ w' hr=>Zrc w' x.kv y.kv _ _ (hr.at_ 2 rfl) (hr.at_ 7 rfl) h1,?_⟩;simp only[Tree.goal,X.P,X.ev,SV.ev,CV.ev,Sc.ev,qz,QA,QB,QC,QD,QE,QF,QG,QH,QI,QJ,QK,QL,QM,Nat.reduceAdd,qy3,qy4];refine⟨[.b (decide (x.wants=y.wants))],rfl,λ_ w' hr=>Zo1 w' x.wv y.wv _ _ (hr.at_ 3 rfl) (hr.at_ 8 rfl) h2,?_⟩;simp only[Tree.goal,X.P,X.ev,SV.ev,CV.ev,Sc.ev,qz,QA,QB,QC,QD,QE,QF,QG,QH,QI,QJ,QK,QL,QM,Nat.reduceAdd,qy3,qy4];refine⟨[.b (decide (x.wat=y.wat))],rfl,λ_ w' hr=>Zj8 w' x.av y.av _ _ (hr.at_ 6 rfl) (hr.at_ 11 rfl) (by omega),?_⟩;simp only[Tree.goal,X.P,X.ev,SV.ev,CV.ev,Sc.ev,qz,QA,QB,QC,QD,QE,QF,QG,QH,QI,QJ,QK,QL,QM,Nat.reduceAdd,qy3,qy4,decide_eq_true_eq];have hsl:x.tel.sess=y.tel.sess->x.sx.length=y.sx.length:=λe=>by have:=congrArg List.length e;simpa[TelX.tel]using this
  refine⟨λh w' hr=>⟨?_,hr.mod⟩,λh=>?_⟩
  . have:¬Zo2 x.tel y.tel=true:=λhh=>by
      obtain⟨a,b,c,d,e⟩:=of_decide_eq_true hh;have:=hsl e;rcases h with(((h|h)|h)|h)|h
      . exact h a
      . exact h b
      . exact h c
      . exact h d
      . omega
    rw[Bool.eq_false_iff.2 this]
  . have hn:x.next=y.next:=Classical.byContradiction λh6=>h (.inl (.inl (.inl (.inl h6))));have hk:x.kept=y.kept:=Classical.byContradiction λh6=>h (.inl (.inl (.inl (.inr h6))));have hw:x.wants=y.wants:=Classical.byContradiction λh6=>h (.inl (.inl (.inr h6)));have ha:x.wat=y.wat:=Classical.byContradiction λh6=>h (.inl (.inr h6));have hl:x.sx.length=y.sx.length:=by
      have:(x.sx.length:Int)=y.sx.length:=Classical.byContradiction λh6=>h (.inr h6);omega
    clear h;refine⟨λvs=>∃(i:Nat) (u:V),vs=[u,.i i]/\i<=x.sx.length/\∀j,j<i->(x.sx.getD j sxD).1=(y.sx.getD j sxD).1,λvs=>x.sx.length - (vs.getD 1 (.i 0)).toI.toNat,⟨0,_,rfl,by omega,λj hj=>by omega⟩,?_⟩;rintro _ - ⟨i,u,rfl,hi,hall⟩;simp only[Tree.goal,X.P,X.ev,SV.ev,CV.ev,Sc.ev,qz,QA,QB,QC,QD,QE,QF,QG,QH,QI,QJ,QK,QL,QM,Nat.reduceAdd,qy3,qy4];refine⟨λh6=>⟨by omega,by omega,?_⟩,λh6 w' hr=>⟨?_,hr.mod⟩⟩
    . have hi1:i<x.sx.length:=by omega
      have hi2:i<y.sx.length:=by omega
      have r1:=Z3n hi1;have r2:=Z3n hi2;have m1:=Z3u hi1;refine⟨[.b (decide ((x.sx.getD i sxD).1=(y.sx.getD i sxD).1))],rfl,λ_ w' hr=>?_,?_⟩
      . have n1:=Zn (hr.at_ 5 rfl:(Z6 x.sx x.ox).holds w') m1;have n2:=Zn (hr.at_ 10 rfl:(Z6 y.sx y.ox).holds w') (Z3u hi2);refine Z1 (Zjb w' (x.sx.getD i sxD).1 (y.sx.getD i sxD).1 (x.sx.getD i sxD).2.1 (x.sx.getD i sxD).2.2 (y.sx.getD i sxD).2.1 (y.sx.getD i sxD).2.2 n1.1 n1.2 n2.1 n2.2 (h5 _ m1).1 (h5 _ m1).2) ?_;simp only[Tree.goal,X.P,X.ev,SV.ev,CV.ev,Sc.ev,qz,QA,QB,QC,QD,QE,QF,QG,QH,QI,QJ,QK,QL,QM,Nat.reduceAdd,qy3,qy4,r1,r2,Zc,List.getD_cons_zero,List.getD_cons_succ,Value.gI,Value.gB,Value.gS,Zw,sesV]
      simp only[Tree.goal,X.P,X.ev,SV.ev,CV.ev,Sc.ev,qz,QA,QB,QC,QD,QE,QF,QG,QH,QI,QJ,QK,QL,QM,Nat.reduceAdd,qy3,qy4,decide_eq_true_eq];refine⟨λh7 w' hr=>⟨?_,hr.mod⟩,λh7=>⟨by omega,by omega,⟨i+1,u,rfl,by omega,λj hj=>?_⟩,by omega⟩⟩
      . have:¬Zo2 x.tel y.tel=true:=λhh=>by
          obtain⟨-,-,-,-,e⟩:=of_decide_eq_true hh;have e2:=congrArg (λl:List Ses=>l.getD i s0) e;simp only[TelX.tel,Zcp]at e2;exact h7 e2
        rw[Bool.eq_false_iff.2 this]
      . by_cases hji:j=i
        . rw[hji];exact qy9.1 h7
        . exact hall j (by omega)
    . have hie:i=x.sx.length:=by omega
      have:Zo2 x.tel y.tel=true:=decide_eq_true ⟨hn,hk,hw,ha,Z14z hl (λj hj=>hall j (by omega))⟩;rw[this]
theorem Zkc{α:Type}(f:α->List UInt8):∀l:List α,(∀a,1<=(f a).length)->l.length<=(l.map f).flatten.length
  | [],_=>by simp
  | a::l,h=>by have h1:=Zkc f l h;have h2:=h a;simp only[List.map_cons,List.flatten_cons,qy11,List.length_cons];omega
theorem Zs3{p:Pkt}(h:chkP p=0):SmallP p:=by obtain⟨hf,hl⟩:=Zzn h;simp only[Z13o,qy11]at hl;have h1:=Zkc (numB 1) p.codes (λa=>by rw[Z4i];exact Nat.le_refl _);have h2:=Zkc (Zln p.kind) p.asks (λa=>by unfold Zln txtB;split<;>simp[Z4i]<;>omega);exact⟨by have:=hf.client;omega,by have:=hf.topic;omega,by omega,by omega,by omega,λa ha=>by have:=(hf.asks a ha).1;omega⟩
theorem Snt.eq_iff{a b:Snt}:a=b↔a.client=b.client/\a.peer=b.peer/\a.pk=b.pk/\(a.msg.kind=b.msg.kind/\a.msg.code=b.msg.code/\a.msg.id=b.msg.id/\a.msg.tok=b.msg.tok/\a.msg.pay=b.msg.pay/\a.msg.opts=b.msg.opts):=by obtain⟨c,p,n,k,d,i,t,o,y⟩:=a;obtain⟨c',p',n',k',d',i',t',o',y'⟩:=b;simp only[Snt.mk.injEq,Msg.mk.injEq];exact⟨λ⟨a,b,c,d,e,f,g,h,i⟩=>⟨a,c,b,d,e,f,g,i,h⟩,λ⟨a,c,b,d,e,f,g,i,h⟩=>⟨a,b,c,d,e,f,g,h,i⟩⟩
noncomputable def Zx1(a b:List Snt):Bool:=@decide (a=b) (Classical.propDecidable _)
theorem Zgg{a b:List Snt}:Zx1 a b=true↔a=b:=@decide_eq_true_iff _ (Classical.propDecidable _)
def Zq9(l:List SntX):Prop:=∀t∈l,SmallP t.1.pk/\t.1.msg.opts.length<1099511627776
theorem Zx2{l:List SntX}(h:Z3e (l.map (·.1))):Zq9 l:=λt ht=>by
  rcases h t.1 (List.mem_map_of_mem ht)with⟨-,h1,h2⟩|⟨-,h1,h2,-⟩
  . have:=(Zpj.1 h1).2.2.1;exact⟨by rw[h2];exact⟨by decide,by decide,by decide,by decide,by decide,λa ha=>by cases ha⟩,by omega⟩
  . exact⟨Zs3 h1,by rw[h2];decide⟩
theorem Z150{a b:List SntX}(hl:a.length=b.length)(h:∀i,i<a.length->(a.getD i sntD).1=(b.getD i sntD).1):a.map (·.1)=b.map (·.1):=by refine List.ext_getElem (by simpa using hl) λi h1 h2=>?_;rw[qy3]at h1 h2;have:=h i h1;rw[qy1,qy1,qy7 h1,qy7 h2]at this;simpa using this
theorem Z176(l:List SntX)(i:Nat):(l.map (·.1)).getD i sntD.1=(l.getD i sntD).1:=by rw[qy1,qy1,List.getElem?_map];cases l[i]?<;>rfl
theorem Zs4(w:World)(x y:Value)(a b:List SntX)(sx sy:List SesX)(hx:reads w x kSn (a.map Z1a))(hy:reads w y kSn (b.map Z1a))(nx_Z:(Z6 sx a).holds w)(ny:(Z6 sy b).holds w)(hs:Zq9 a)(hl:a.length<1000000000) : Calls Tryz.prog 70 #[sc1 x,sc1 y] w λe w'=>e=.returned (.bool (Zx1 (a.map (·.1)) (b.map (·.1))))/\Mod [] w w':=by
  refine Z1 (Z3 (J:=[.v x,.r (a.map Z1a),.a (Z6 sx a),.v y,.r (b.map Z1a),.a (Z6 sy b)]) sxE_ok Tryz.func70 Z6h rfl rfl
    (Rel.start2 (qy2.2 ⟨⟨hx,rfl⟩,qy2.2 ⟨⟨nx_Z,rfl⟩,qy2.2 ⟨⟨hy,rfl⟩,qy2.2 ⟨⟨ny,rfl⟩,qy5 _⟩⟩⟩⟩)) rfl rfl ?_) rfl
  simp only[Tree.goal,X.P,X.ev,SV.ev,CV.ev,Sc.ev,qz,QA,QB,QC,QD,QE,QF,QG,QH,QI,QJ,QK,QL,QM,Nat.reduceAdd,qy3,qy4];have hlen:a.map (·.1)=b.map (·.1)->a.length=b.length:=λe=>by have:=congrArg List.length e;simpa using this
  have no:¬a.map (·.1)=b.map (·.1)->Zx1 (a.map (·.1)) (b.map (·.1))=false:=λh=>Bool.eq_false_iff.2 λh2=>h (Zgg.1 h2);refine⟨λh w' hr=>⟨by rw[no λe=>h (by rw[hlen e])],hr.mod⟩,λh=>?_⟩;have h:a.length=b.length:=by omega
  refine⟨λvs=>∃(i:Nat) (u:V),vs=[u,.i i]/\i<=a.length/\∀j,j<i->(a.getD j sntD).1=(b.getD j sntD).1,λvs=>a.length - (vs.getD 1 (.i 0)).toI.toNat,⟨0,_,rfl,by omega,λj hj=>by omega⟩,?_⟩;rintro _ - ⟨i,u,rfl,hi,hall⟩;simp only[Tree.goal,X.P,X.ev,SV.ev,CV.ev,Sc.ev,qz,QA,QB,QC,QD,QE,QF,QG,QH,QI,QJ,QK,QL,QM,Nat.reduceAdd,qy3,qy4];refine⟨λh6=>⟨by omega,by omega,?_⟩,λh6 w' hr=>⟨?_,hr.mod⟩⟩
  . have hi1:i<a.length:=by omega
    have hi2:i<b.length:=by omega
    have r1:=Zrz hi1;have r2:=Zrz hi2;have m1:=Z14p hi1;have m2:=Z14p hi2;have hne:¬(a.getD i sntD).1=(b.getD i sntD).1->Zx1 (a.map (·.1)) (b.map (·.1))=false:=λh7=>no λe=>h7 (by have e2:=congrArg (λl:List Snt=>l.getD i sntD.1) e;simp only[Z176]at e2;exact e2)
    simp only[r1,r2,Z1a,List.getD_cons_zero,List.getD_cons_succ,Value.gI,Value.gB,Value.gS,Zw];generalize ga:a.getD i sntD=ta at *
    generalize gb:b.getD i sntD=tb at *
    obtain⟨⟨ac,ap,an,am⟩,a1,a2,a3⟩:=ta;obtain⟨⟨bc,bp,bn,bm⟩,b1,b2,b3⟩:=tb;have hsm:=hs _ m1;simp only[Snt.eq_iff]at hne;simp only at hsm⊢;refine⟨[.b (decide (ap=bp))],rfl,λ_ w' hr=>?_,?_⟩
    . have n1:=Z8y (hr.at_ 1 rfl:(Z6 sx a).holds w') m1;have n2:=Z8y (hr.at_ 3 rfl:(Z6 sy b).holds w') m2;exact Z1 (Zh4 w' ap bp a1 a2 b1 b2 n1.1 n1.2.1 n2.1 n2.2.1 hsm.1) rfl
    simp only[Tree.goal,X.P,X.ev,SV.ev,CV.ev,Sc.ev,qz,QA,QB,QC,QD,QE,QF,QG,QH,QI,QJ,QK,QL,QM,Nat.reduceAdd,qy3,qy4];refine⟨[.b (decide (am.kind=bm.kind/\am.code=bm.code/\am.id=bm.id/\am.tok=bm.tok/\am.pay=bm.pay/\am.opts=bm.opts))],rfl,λ_ w' hr=>?_,?_⟩
    . have n1:=Z8y (hr.at_ 1 rfl:(Z6 sx a).holds w') m1;have n2:=Z8y (hr.at_ 3 rfl:(Z6 sy b).holds w') m2;exact Z1 (Zjr w' am bm a3 b3 n1.2.2 n2.2.2 hsm.2) rfl
    simp only[Tree.goal,X.P,X.ev,SV.ev,CV.ev,Sc.ev,qz,QA,QB,QC,QD,QE,QF,QG,QH,QI,QJ,QK,QL,QM,Nat.reduceAdd,qy3,qy4,decide_eq_true_eq];refine⟨λh7 w' hr=>⟨?_,hr.mod⟩,λh7=>⟨by omega,by omega,⟨i+1,u,rfl,by omega,λj hj=>?_⟩,by omega⟩⟩
    . rw[hne];rintro⟨q1,q2,q3,q4⟩;rcases h7 with((h7|h7)|h7)|h7
      . exact h7 q1
      . exact h7 q2
      . exact h7 q3
      . exact h7 q4
    . by_cases hji:j=i
      . rw[hji,ga,gb];exact Snt.eq_iff.2 ⟨Classical.byContradiction λh8=>h7 (.inl (.inl (.inl h8))),Classical.byContradiction λh8=>h7 (.inl (.inl (.inr h8))),Classical.byContradiction λh8=>h7 (.inl (.inr h8)),Classical.byContradiction λh8=>h7 (.inr h8)⟩
      . exact hall j (by omega)
  . have hie:i=a.length:=by omega
    rw[Zgg.2 (Z150 h (λj hj=>hall j (by omega)))]
theorem Zx3{s:Ses}{n p:List UInt8}{q:Int}(h:s.qu.length<=6)(hq:q=0\/q=1):Z2c s n p q=Zjf s n p q:=by
  unfold Z2c Zjf;rcases hq with rfl|rfl
  . by_cases h1:s.on=true
    . simp[h1]
    . simp[h1]
  . by_cases h1:s.on=true<;>by_cases h2:s.clean=true<;>simp[h1,h2]<;>split<;>(try rw[if_neg (by omega)])<;>(try rw[if_pos (by omega)])
theorem Za9{J J':List V}{v v':Nat}{ks:List Kd}{r r':X}(h1:J.getD v (.i 0)=J'.getD v' (.i 0))(h2:(r.ev J).toR=(r'.ev J').toR):Ent.sem J (.rd v ks r)=Ent.sem J' (.rd v' ks r'):=by simp only[Ent.sem,Ent.holds,Ent.fp,Ent.wr,h1,h2]
theorem Zkd{n m:Nat}{x y:TelX}{sv':Value}{i:Nat}{t:SesX}(h:GrwD n (λ_=>False) x y)(hm:n<=m)(hs:∀j,Z2 sv' j->n<=j\/Z2 x.ov j)(ht:∀j,sesF t j->m<=j\/(Z6 y.sx y.ox).fp j):GrwD n (λ_=>False) x { y with sx:=y.sx.set i t,sv:=sv' }:=λj hj=>by
  rcases hj with(hj|hj|hj|hj|hj)|hj
  . exact h j (.inl (.inl hj))
  . exact h j (.inl (.inr (.inl hj)))
  . rcases hs j hj.2 with h1|h1
    . exact .inl h1
    . exact .inr (.inl (.inr h1))
  . exact h j (.inl (.inr (.inr (.inr (.inl hj)))))
  . rcases Z1r hj with h1|h1
    . exact h j (.inl (.inr (.inr (.inr (.inr h1)))))
    . rcases ht j h1 with h2|h2
      . exact .inl (Nat.le_trans hm h2)
      . exact h j (.inl (.inr (.inr (.inr (.inr h2)))))
  . exact h j (.inr hj)
set_option maxRecDepth 2000 in
theorem Z151(w:World)(k:Nat)(x:TelX)(n p:List UInt8)(q:Int)(hr:Rel ⟨Zi (tlA k x) dlH,w⟩ (tlA k x++[.s n,.s p,.i q]) dlH w)(hb:BOk x.tel)(ho:x.ox.length<100000)(hsm:Z1y x.wants)(hp:flE (0,n,p)=0)(hq:0<=q/\q<=1) : Calls Tryz.prog 39 #[.pointer (some ⟨k,0,none⟩),.string ⟨n.toArray⟩,.string ⟨p.toArray⟩,.int .i64 q] w λe w'=>e=.returned (.tuple #[])/\Zgd w w' k x (λ_=>False) (Z6y n p q x.tel):=by
  refine Z1 (Z52 (J:=tlA k x++[.s n,.s p,.i q]) (sxE_ok.joins _) Tryz.func39 Z5v rfl rfl hr rfl rfl ?_) rfl;simp only[Tree.goal,X.P,X.ev,SV.ev,CV.ev,Sc.ev,qz,QA,QB,QC,QD,QE,QF,QG,QH,QI,QJ,QK,QL,QM,Nat.reduceAdd,qy3,qy4,gY0,gY1];have hn60:n.length<=60:=by
    have h1:chkT n false=0:=by
      unfold flE at hp;split at hp
      . assumption
      . exact absurd hp (by assumption)
    exact(Z5e.1 h1).2.1.1
  have hw20:x.wants.length<=20:=Zbr hb.wants;intro w1 hr1;refine(Zo0 w1 x.wv x.wants n (hr1.at_ 1 rfl) hsm (by omega) (by omega)).mono ?_;rintro e w2 ⟨v0,rfl,a1,a2,am⟩;obtain⟨rs,hrs⟩:∃rs,rs=rdOf n x.wants:=⟨_,rfl⟩
  rw[<- hrs]at a1;have hrl:rs.length<=20:=by rw[hrs];exact Zvz n hb.wants
  have hrd:∀r∈rs,hasS x.tel.sess r.1=true:=by rw[hrs];exact Z5f hb n
  refine⟨[.v v0,.r (rs.map encY)],rfl,rfl,am,qy5 _,qy2.2 ⟨⟨a1.reads,λk hk=>.inl (a2 k hk.2)⟩,qy5 _⟩,Z5,?_⟩;clear hr1 a1 a2 am hr;simp only[Tree.goal,X.P,X.ev,SV.ev,CV.ev,Sc.ev,qz,QA,QB,QC,QD,QE,QF,QG,QH,QI,QJ,QK,QL,QM,Nat.reduceAdd,qy3,qy4,gY0,gY1];refine⟨Z6 x.sx x.ox,λw hr=>hr.at_ 6 rfl,λj hj=>(qE 6 rfl rfl hj),?_⟩;refine⟨λvs=>∃(i:Nat) (y:TelX),vs=[.i i,.a (Z6 y.sx y.ox),.v y.kv,.r (y.kept.map encK),.v y.wv,.r (y.wants.map Z7),.v y.sv,.r (y.sx.map Zc),.v y.av,.r (y.wat.map Z8),.i y.next,.v y.ov,.r (y.ox.map Z1a)]/\i<=rs.length/\y.tel=(rs.take i).foldl (Z1g n p q) x.tel/\GrwD w.heap.size (λ_=>False) x y,
    λvs=>(rs.length - (vs.getD 0 (.i 0)).toI).toNat,⟨0,x,rfl,by omega,rfl,.refl _ _ _⟩,?_⟩
  rintro _ - ⟨i,y,rfl,hi,htel,hg⟩;simp only[Tree.goal,X.P,X.ev,SV.ev,CV.ev,Sc.ev,qz,QA,QB,QC,QD,QE,QF,QG,QH,QI,QJ,QK,QL,QM,Nat.reduceAdd,qy3,qy4,gY0,gY1];obtain⟨k1,k2,k3,k4,k5,k6,k7⟩:=Z8o (q:=q) hp (rs.take i) hb (λr hr=>hrd r (List.mem_of_mem_take hr));rw[<- htel]at k1 k2 k3 k4 k5 k6 k7;have hol:y.ox.length<=x.ox.length+140:=by
    have h1:y.tel.out.length=y.ox.length:=by simp[TelX.tel]
    have h2:x.tel.out.length=x.ox.length:=by simp[TelX.tel]
    have h3:(rs.take i).length<=20:=by simp;omega
    omega
  have hns:y.sx.length<=6:=by have:=k1.ns;rw[Z1m,qy3]at this;exact this
  refine⟨λh1=>?_,λh1=>?_⟩
  . have hi':i<rs.length:=by omega
    have hmem:rs.getD i yD∈rs:=memY rs i hi';have hh0:hasS y.tel.sess (rs.getD i yD).1=true:=by rw[Zcr hb.sort k2];exact hrd _ hmem
    obtain⟨hlt,hse⟩:=Zh3 hh0;have hok:SesOk (y.sx.getD (idxS y.tel.sess (rs.getD i yD).1) sxD).1:=by rw[hse];exact Z8n k1 hh0
    have hqr:0<=(rs.getD i yD).2/\(rs.getD i yD).2<=1:=by obtain⟨z,hz,-,-,e⟩:=Zjw (n:=n) hb.wants (y:=rs.getD i yD) (by show rs.getD i yD∈rdOf n x.wants;rw[<- hrs];exact hmem);have:=(Zlt hb.wants z hz).2.2;omega
    refine⟨by omega,λvs=>vs=[.i (min q (rs.getD i yD).2)],⟨λh2=>?_,λh2=>?_⟩,?_⟩
    . show[V.i q]=_
      rw[Int.min_eq_left (by omega)]
    . show[V.i (rs.getD i yD).2]=_
      rw[Int.min_eq_right (by omega)]
    rintro _ - rfl;have hat:atS y.tel.sess (rs.getD i yD).1=(idxS y.tel.sess (rs.getD i yD).1:Int):=if_pos hh0;refine⟨[.i (idxS y.tel.sess (rs.getD i yD).1)],rfl,λ_ w' hr=>?_,?_⟩
    . have h2:=Z31 w' y.sv y.sx (rs.getD i yD).1 (hr.at_ 4 rfl) k1.sort (by omega);rw[<- Z1m,hat]at h2;simp only[Tree.goal,X.P,X.ev,SV.ev,CV.ev,Sc.ev,qz,QA,QB,QC,QD,QE,QF,QG,QH,QI,QJ,QK,QL,QM,Nat.reduceAdd,qy3,qy4,gY0,gY1];exact h2
    generalize hix:idxS y.tel.sess (rs.getD i yD).1=ix at hlt hse hok
    simp only[Tree.goal,X.P,X.ev,SV.ev,CV.ev,Sc.ev,qz,QA,QB,QC,QD,QE,QF,QG,QH,QI,QJ,QK,QL,QM,Nat.reduceAdd,qy3,qy4,gY0,gY1];have hrow:=Z3n hlt;simp only[hrow,Zc,List.getD_cons_zero,List.getD_cons_succ,Value.gI,Value.gB,Value.gS,Zw];generalize hss:y.sx.getD ix sxD=ss at hok hse
    obtain⟨s,s',s''⟩:=ss;simp only at hok hse⊢;obtain⟨S,hS⟩:∃S,S=Z2c s n p (min q (rs.getD i yD).2):=⟨_,rfl⟩
    have hSs:Zjf s n p (min q (rs.getD i yD).2)=S:=by rw[hS];exact(Zx3 hok.nq (by omega)).symm
    have hcl':S.1.cl=s.cl/\S.1.on=s.on/\S.1.clean=s.clean:=by rw[hS];exact⟨Znm _ _ _ _,(Zjy _ _ _ _).1,(Zjy _ _ _ _).2⟩
    have hS7:S.2.length<=7:=by rw[hS];exact Zcs n p _ hok.nq
    have hT2:∀u1 u2 v:Value,Z1g n p q y.tel (rs.getD i yD)={ (TelX.tel { y with sx:=y.sx.set ix (S.1,u1,u2),sv:=v })with out:=(TelX.tel { y with sx:=y.sx.set ix (S.1,u1,u2),sv:=v }).out++(S.2.map pkN).map λt=>toC (rs.getD i yD).1 t.1 }:=λu1 u2 v=>by rw[Zcu,Z1g,hix,<- hse,<- hS];simp only[TelX.tel,List.map_set]
    refine⟨by omega,by omega,?_⟩;intro w1 hr1;have hs0:=Zn (hr1.at_ 0 rfl:(Z6 y.sx y.ox).holds w1) (Z3u hlt);rw[hss]at hs0;obtain⟨hs1,hs2⟩:=hs0;refine(Z1 (Zz5 w1 s s' s'' n p (min q (rs.getD i yD).2) hs1 hs2 hok.next (by have:=hok.nf;omega) (by have:=hok.nq;omega)) rfl).mono ?_;rw[hSs];rintro e w2 ⟨u1,u2,u3,rfl,g1,g2,g3,g4,g5,g6,gm⟩;have hnm:∀j,sesF (s,s',s'') j->(Z6 y.sx y.ox).fp j:=λj hj=>Zb.2 (.inl ⟨_,Z3u hlt,by rw[hss];exact hj⟩);refine⟨[.s s.cl,.b s.on,.b s.clean,.v u1,.r (S.1.fl.map encF),.v u2,.r (S.1.qu.map encF),.i S.1.next,.v u3,.r ((S.2.map pkN).map Z21)],rfl,?_,gm,qy5 _,qy2.2 ⟨⟨g1,λk hk=>(g4 k hk).elim .inl λh=>.inr (.inl ⟨rfl,_,qy6 (i:=0) rfl,rfl,hnm k h⟩)⟩,qy2.2 ⟨⟨g2,λk hk=>(g5 k hk).elim .inl λh=>.inr (.inl ⟨rfl,_,qy6 (i:=0) rfl,rfl,hnm k h⟩)⟩,qy2.2 ⟨⟨by show reads w2 u3 kP ((S.2.map pkN).map Z21);rw[Z63];exact g3,λk hk=>.inl (g6 k hk.2)⟩,qy5 _⟩⟩⟩,Z3d ..,?_⟩
    . simp only[Tree.goal,X.P,X.ev,SV.ev,CV.ev,Sc.ev,qz,QA,QB,QC,QD,QE,QF,QG,QH,QI,QJ,QK,QL,QM,Nat.reduceAdd,sesV,hcl'.1,hcl'.2.1,hcl'.2.2]
    have hnw:w.heap.size<=w1.heap.size:=hr1.mod.size;clear hr1;simp only[Tree.goal,X.P,X.ev,SV.ev,CV.ev,Sc.ev,qz,QA,QB,QC,QD,QE,QF,QG,QH,QI,QJ,QK,QL,QM,Nat.reduceAdd,qy3,qy4];refine λb44 b45 v46 o46=>⟨by(first|omega|(simp only[qy11,List.length_set,qy3,List.length_cons,List.length_nil];omega)),λv47 o47=>⟨by(first|omega|(simp only[qy11,List.length_set,qy3,List.length_cons,List.length_nil];omega)),?_⟩⟩
    intro w3 hr3;have hsz3:w.heap.size<=w3.heap.size:=hr3.mod.size;have hnew:=Zde hr3 0 14 rfl rfl (by decide) rfl;have hA3:(Z6 (y.sx.set ix (S.1,u1,u2)) y.ox).holds w3:=Z4n (hr3.at_ 6 rfl) (hr3.at_ 3 rfl) (hr3.at_ 4 rfl);have hf3:∀j,(Z6 (y.sx.set ix (S.1,u1,u2)) y.ox).fp j->(Z6 y.sx y.ox).fp j\/((S.1.fl.map encF).flatten≠[]/\Z2 u1 j)\/((S.1.qu.map encF).flatten≠[]/\Z2 u2 j):=λj hj=>(Z1r hj).elim (λh=>.inl h) (λh=>.inr h);refine(Zbu (k:=k) (x:={ y with sx:=y.sx.set ix (S.1,u1,u2),sv:=v47 }) (F:=(Zg (S.2.map pkN)).fp) (pre:=[]) hr3 48 0 [47,30]
      (Z22 w3 k { y with sx:=y.sx.set ix (S.1,u1,u2),sv:=v47 } (rs.getD i yD).1 u3 (S.2.map pkN) (Z9i (toRd hr3) (by rfl) k { y with sx:=y.sx.set ix (S.1,u1,u2),sv:=v47 } (Zg (S.2.map pkN)) _ _ hA3 (λj hj=>?_) (Z5h _ _) (λj hj=>absurd hj Z2t) [10,11,2,13,14,1,16,7,0] (by decide) rfl (Zh rfl (Zh rfl (Zh (Za9 rfl ?_) rfl)))) (by rw[qy3];omega) (by show y.ox.length<1000000;omega))
      rfl rfl (Nat.succ_pos _) 30 (by decide) rfl (λj hj=>?_)).mono ?_
    . rcases hf3 j hj with h|h|h
      . exact(qE 6 rfl rfl h)
      . exact(qE 3 rfl rfl h)
      . exact(qE 4 rfl rfl h)
    . simp only[Tree.goal,X.P,X.ev,SV.ev,CV.ev,Sc.ev,qz,QA,QB,QC,QD,QE,QF,QG,QH,QI,QJ,QK,QL,QM,Nat.reduceAdd,qy3,qy4];rw[<- Z1s];simp only[hcl'.1,hcl'.2.1,hcl'.2.2]
    . rcases hj with(hj|hj|hj|hj|hj)|hj
      . exact .inl (qE 8 rfl rfl hj)
      . exact .inl (qE 9 rfl rfl hj)
      . exact .inr (Zk2 (v:=47) (by decide) hj.2)
      . exact .inl (qE 11 rfl rfl hj)
      . rcases hf3 j hj with h|h|h
        . exact .inl (qE 6 rfl rfl h)
        . exact .inl (qE 3 rfl rfl h)
        . exact .inl (qE 4 rfl rfl h)
      . exact absurd hj Z2t
    rintro e w4 ⟨y2,hy2,hsz4,hgr,rfl,m1,m2,m3,m4⟩;refine⟨tlV y2,rfl,rfl,m1,m2,m3,m4,?_⟩;simp only[Tree.goal,X.P,X.ev,SV.ev,CV.ev,Sc.ev,qz,QA,QB,QC,QD,QE,QF,QG,QH,QI,QJ,QK,QL,QM,Nat.reduceAdd,qy3,qy4];refine⟨by omega,by omega,Z6 y2.sx y2.ox,λw hr=>hr.at_ 5 rfl,λj hj=>(qE 5 rfl rfl hj),⟨i+1,y2,rfl,by omega,?_,?_⟩,by omega⟩
    . rw[hy2,<- hT2 u1 u2 v47,htel,Zcv (f:=Z1g n p q) hi']
    . refine(Zkd hg hnw hnew (t:=(S.1,u1,u2)) λj hj=>?_).trans hgr hsz3 (λj h=>absurd h Z2t);rcases hj with h|h
      . exact(g4 j h).imp id (hnm j)
      . exact(g5 j h).imp id (hnm j)
  . have hil:i=rs.length:=by omega
    subst hil;rw[List.take_length]at htel;have hT1:y.tel=Z6x n p q x.tel:=by rw[htel,hrs];rfl
    have hwn:=watN k1.wat;have hw12:y.wat.length<=12:=(Z12.1 k1.wat).1;intro w1 hr1;refine(Zyt w1 y.av y.wat n (hr1.at_ 5 rfl) (by omega) hwn).mono ?_;rintro e w2 ⟨v1,v2,rfl,g1,g2,g3,g4,gm⟩;have hnw:w.heap.size<=w1.heap.size:=hr1.mod.size;obtain⟨W,hW⟩:∃W,W=Z2s n y.wat:=⟨_,rfl⟩
    obtain⟨Z,hZ⟩:∃Z,Z=Z39 n y.wat:=⟨_,rfl⟩
    rw[<- hW]at g1;rw[<- hZ]at g2;refine⟨[.v v1,.r (W.map Z8),.v v2,.r (Z.map Z8)],rfl,rfl,gm,qy5 _,qy2.2 ⟨⟨g1.reads,λk hk=>.inl (g3 k hk.2)⟩,qy2.2 ⟨⟨g2.reads,λk hk=>.inl (g4 k hk.2)⟩,qy5 _⟩⟩,Zfi ..,?_⟩;have hZ12:Z.length<=12:=by rw[hZ];exact Za8 n k1.wat
    have hZn:∀z∈Z,0<=z.2.2.2/\z.2.2.2<=16777215:=λz hz=>by
      rw[hZ,Z39]at hz;obtain⟨z0,hz0,rfl⟩:=List.mem_map.1 hz;have:=hwn z0 (List.mem_filter.1 hz0).1;unfold Z4d;split
      . show 0<=(if 16777215<z0.2.2.2+1 then 0 else z0.2.2.2+1)/\(if 16777215<z0.2.2.2+1 then 0 else z0.2.2.2+1)<=16777215
        split<;>omega
      . exact this
    have hv1:∀j,Z2 v1 j->w.heap.size<=j:=λj hj=>Nat.le_trans hnw (g3 j hj);clear hr1 g1 g2 g3 g4 gm;obtain⟨T0,hT0⟩:∃T0:Tel,T0=⟨y.kept,y.wants,y.sx.map (·.1),W,y.next,y.ox.map (·.1)⟩:=⟨_,rfl⟩
    have hTB:Z6y n p q x.tel=Z.foldl (Z4k p) T0:=by rw[Z6y,<- hT1,hZ,hT0,hW];rfl
    have hn0:0<=T0.next/\T0.next<=65535:=by rw[hT0];exact k1.next
    have hg0:GrwD w.heap.size (λ_=>False) x { y with wat:=W,av:=v1 }:=λj hj=>by
      rcases hj with(hj|hj|hj|hj|hj)|hj
      . exact hg j (.inl (.inl hj))
      . exact hg j (.inl (.inr (.inl hj)))
      . exact hg j (.inl (.inr (.inr (.inl hj))))
      . exact .inl (hv1 j hj.2)
      . exact hg j (.inl (.inr (.inr (.inr (.inr hj)))))
      . exact hg j (.inr hj)
    refine⟨Zcw (Z6 y.sx y.ox) (GrwD w.heap.size (λ_=>False) x { y with wat:=W,av:=v1 }),λw hr=>⟨hr.at_ 2 rfl,hg0⟩,λj hj=>(qE 2 rfl rfl hj),?_⟩;refine⟨λvs=>∃(i:Nat) (z:TelX),vs=[.i i,.a (Zcw (Z6 z.sx z.ox) (GrwD w.heap.size (λ_=>False) x z)),.v z.kv,.r (z.kept.map encK),.v z.wv,.r (z.wants.map Z7),.v z.sv,.r (z.sx.map Zc),.v z.av,.r (z.wat.map Z8),.i z.next,.v z.ov,.r (z.ox.map Z1a)]/\i<=Z.length/\z.tel=(Z.take i).foldl (Z4k p) T0,
      λvs=>(Z.length - (vs.getD 0 (.i 0)).toI).toNat,⟨0,{ y with wat:=W,av:=v1 },rfl,by omega,by rw[hT0];rfl⟩,?_⟩
    rintro _ - ⟨j,z,rfl,hj,hzt⟩;simp only[Tree.goal,X.P,X.ev,SV.ev,CV.ev,Sc.ev,qz,QA,QB,QC,QD,QE,QF,QG,QH,QI,QJ,QK,QL,QM,Nat.reduceAdd,qy3,qy4,Z2a,Z2b,Z1d,gW3];obtain⟨q1,q2,q3,q4,q5,q6⟩:=Zpx p (Z.take j) T0 hn0;rw[<- hzt]at q1 q2 q3 q4 q5 q6;have hzl:z.ox.length<=x.ox.length+152:=by
      have h1:z.tel.out.length=z.ox.length:=by simp[TelX.tel]
      have h2:T0.out.length=y.ox.length:=by rw[hT0];simp
      have h3:(Z.take j).length<=12:=by simp;omega
      omega
    have hzn:0<=z.next/\z.next<=65535:=q5;refine⟨λh1=>?_,λh1 w3 hr=>⟨by trivial,?_⟩⟩
    . have hj':j<Z.length:=by omega
      have hnum:=hZn (Z.getD j wD_K) (by rw[qy1,qy7 hj'];exact List.getElem_mem hj');obtain⟨sh,hsh⟩:∃sh,sh=Z24 (Z.getD j wD_K).2.2.2:=⟨_,rfl⟩
      have hcall:∀w':World,Calls Tryz.prog 109 #[.int .i64 (Z.getD j wD_K).2.2.2] w' λe w''=>e=.returned (.string ⟨sh.toArray⟩)/\Mod [] w' w'':=λw'=>by rw[hsh];exact Zvk w' _ hnum
      refine⟨λvs=>∃(u:Value) (c:Nat),vs=[.s sh,.v u,.n c,.r [[.int .i64 6,.string ⟨sh.toArray⟩]]]/\∀k',Z2 u k'->w.heap.size<=k'\/k'∈Zi (tlA k x) dlH,⟨by omega,⟨by omega,by omega,by omega,?_,?_⟩,?_⟩,?_⟩
      . refine⟨[.s sh],rfl,λ_ w' _=>hcall w',?_⟩;simp only[Tree.goal,X.P,X.ev,SV.ev,CV.ev,Sc.ev,qz,QA,QB,QC,QD,QE,QF,QG,QH,QI,QJ,QK,QL,QM,Nat.reduceAdd,qy3,qy4,Z2a,Z2b,Z1d,gW3];exact⟨λu o b=>⟨u,b,rfl,o⟩,λb u o=>⟨u,b,rfl,o⟩⟩
      . intro b;refine⟨[.s sh],rfl,λ_ w' _=>hcall w',?_⟩;simp only[Tree.goal,X.P,X.ev,SV.ev,CV.ev,Sc.ev,qz,QA,QB,QC,QD,QE,QF,QG,QH,QI,QJ,QK,QL,QM,Nat.reduceAdd,qy3,qy4,Z2a,Z2b,Z1d,gW3];exact λu o=>⟨u,b,rfl,o⟩
      . intro b;refine⟨by omega,by omega,by omega,[.s sh],rfl,λ_ w' _=>hcall w',?_⟩;simp only[Tree.goal,X.P,X.ev,SV.ev,CV.ev,Sc.ev,qz,QA,QB,QC,QD,QE,QF,QG,QH,QI,QJ,QK,QL,QM,Nat.reduceAdd,qy3,qy4,Z2a,Z2b,Z1d,gW3];exact λu o=>⟨u,b,rfl,o⟩
      rintro _ - ⟨u,c,rfl,hu⟩;simp only[Tree.goal,X.P,X.ev,SV.ev,CV.ev,Sc.ev,qz,QA,QB,QC,QD,QE,QF,QG,QH,QI,QJ,QK,QL,QM,Nat.reduceAdd,qy3,qy4,Z2a,Z2b,Z1d,gW3];obtain⟨m1,hm1⟩:∃m1:Msg,m1=⟨1,69,z.next,(Z.getD j wD_K).2.1,[(6,sh)],p⟩:=⟨_,rfl⟩
      have hput:putM ⟨1,69,z.next,(Z.getD j wD_K).2.1,[],p⟩ (Z.getD j wD_K).2.2.2=m1:=by rw[hm1,hsh];rfl
      have hstep:(Z.take (j+1)).foldl (Z4k p) T0=Z4k p ((Z.take j).foldl (Z4k p) T0) (Z.getD j wD_K):=by rw[Zh2 wD_K Z j hj',List.foldl_append];rfl
      refine⟨by omega,λv54 o54=>⟨by(first|omega|(simp only[qy11,List.length_set,qy3,List.length_cons,List.length_nil];omega)),λv55 o55=>⟨by omega,by omega,Zcw (Z6 z.sx (z.ox++[optX (toP (Z.getD j wD_K).1 m1) u])) (GrwD w.heap.size (λ_=>False) x { z with next:=nx_Z z.next,ox:=z.ox++[optX (toP (Z.getD j wD_K).1 m1) u],ov:=v55 }),λw4 hr=>?_,λi hi=>?_,⟨j+1,{ z with next:=nx_Z z.next,ox:=z.ox++[optX (toP (Z.getD j wD_K).1 m1) u],ov:=v55 },?_,by omega,?_⟩,by omega⟩⟩⟩
      . obtain⟨r1,r2⟩:=(hr.at_ 4 rfl:(Zcw (Z6 z.sx z.ox) (GrwD w.heap.size (λ_=>False) x z)).holds w4)
        have r3:=(hr.at_ 3 rfl:reads w4 u [.int .i64,.str] [[.int .i64 6,.string ⟨sh.toArray⟩]])
        refine⟨Z11 (l:=z.sx) (o:=z.ox) (λt ht=>.inl ht) (λt ht=>?_) r1,λi hi=>?_⟩
        . rcases qy13.1 ht with ht|ht
          . exact .inl ht
          . rw[qy12.1 ht,hm1];exact .inr ⟨Za _ _,Za _ _,r3⟩
        . rcases hi with(hi|hi|hi|hi|hi)|hi
          . exact r2 i (.inl (.inl hi))
          . exact r2 i (.inl (.inr (.inl hi)))
          . exact r2 i (.inl (.inr (.inr (.inl hi))))
          . exact r2 i (.inl (.inr (.inr (.inr (.inl hi)))))
          . rcases Zb.1 hi with h5|⟨t,ht,hk⟩
            . exact r2 i (.inl (.inr (.inr (.inr (.inr (Zb.2 (.inl h5)))))))
            . rcases qy13.1 ht with ht|ht
              . exact r2 i (.inl (.inr (.inr (.inr (.inr (Zb.2 (.inr ⟨t,ht,hk⟩)))))))
              . rw[qy12.1 ht]at hk;rcases hk with hk|hk|hk
                . exact absurd rfl hk.1
                . exact absurd rfl hk.1
                . rcases hu i hk.2 with h5|h5
                  . exact .inl h5
                  . rcases List.mem_cons.1 (Z10o h5)with h6|h6
                    . exact absurd h6 λh6=>hr.sep.disj (i:=14) (j:=3) rfl rfl (by decide) (.inl rfl) (k:=i) h6 ⟨show[Value.int .i64 6,.string ⟨sh.toArray⟩]≠[] from List.cons_ne_nil _ _,hk.2⟩
                    . rw[List.append_nil]at h6;exact .inr (.inl (.inr (Option.mem_toList.1 h6)))
          . rcases Zde hr 0 14 rfl rfl (by decide) rfl i hi with h5|h5
            . exact .inl h5
            . exact .inr (.inl (.inr h5))
      . rcases Zb.1 hi with h5|⟨t,ht,hk⟩
        . exact⟨_,qy6 (i:=4) rfl,rfl,Zb.2 (.inl h5)⟩
        . rcases qy13.1 ht with ht|ht
          . exact⟨_,qy6 (i:=4) rfl,rfl,Zb.2 (.inr ⟨t,ht,hk⟩)⟩
          . rw[qy12.1 ht,hm1]at hk;rcases hk with hk|hk|hk
            . exact absurd rfl hk.1
            . exact absurd rfl hk.1
            . exact(qE 3 rfl rfl hk)
      . simp only[List.map_append,List.map_cons,List.map_nil];rw[hm1];rfl
      . rw[hstep,<- hzt,<- hput];simp only[TelX.tel,Z4k,List.map_append,List.map_cons,List.map_nil]
    . have hil:j=Z.length:=by omega
      subst hil;rw[List.take_length]at hzt;obtain⟨r1,r2⟩:=(hr.at_ 0 rfl:(Zcw (Z6 z.sx z.ox) (GrwD w.heap.size (λ_=>False) x z)).holds w3)
      exact⟨z,by rw[hzt,hTB],Zm7 hr (by rfl) k z r1 (λj hj=>(qE 0 rfl rfl hj)) [6,7,8,2,10,0,12] (by decide) rfl,r2⟩
theorem Zs5{l l':List SesX}{o:List SntX}(h:∀t∈l',t∈l):(∀w,(Z6 l o).holds w->(Z6 l' o).holds w)/\∀j,(Z6 l' o).fp j->(Z6 l o).fp j :=
  ⟨λw hw=>Z11 (λt ht=>.inl (h t ht)) (λt ht=>.inl ht) hw,λj hj=>by
    rcases Zb.1 hj with⟨t,ht,hk⟩|h1
    . exact Zb.2 (.inl ⟨t,h t ht,hk⟩)
    . exact Zb.2 (.inr h1)⟩
theorem Zx4(w:World)(k:Nat)(x:TelX)(c:List UInt8)(hr:Rel ⟨Zi (tlA k x) dlH,w⟩ (tlA k x++[.s c]) dlH w)(hb:BOk x.tel) : Calls Tryz.prog 11 #[.pointer (some ⟨k,0,none⟩),.string ⟨c.toArray⟩] w λe w'=>e=.returned (.tuple #[])/\Zgd w w' k x (λ_=>False) (Z5o c x.tel):=by
  refine Z1 (Z3 (J:=tlA k x++[.s c]) (sxE_ok.joins _) Tryz.func11 Z5u rfl rfl hr rfl rfl ?_) rfl;simp only[Tree.goal,X.P,X.ev,SV.ev,CV.ev,Sc.ev,qz,QA,QB,QC,QD,QE,QF,QG,QH,QI,QJ,QK,QL,QM,Nat.reduceAdd,qy3,qy4];have hns:x.sx.length<=6:=by have:=hb.ns;rw[Z1m,qy3]at this;exact this
  have hwl:x.wants.length<=20:=Zbr hb.wants;refine⟨[.i (atS x.tel.sess c)],rfl,λ_ w' hr=>Z31 w' x.sv x.sx c (hr.at_ 2 rfl) hb.sort (by omega),?_⟩;simp only[Tree.goal,X.P,X.ev,SV.ev,CV.ev,Sc.ev,qz,QA,QB,QC,QD,QE,QF,QG,QH,QI,QJ,QK,QL,QM,Nat.reduceAdd,qy3,qy4];obtain⟨a0,ha0⟩:∃a0,a0=atS x.tel.sess c:=⟨_,rfl⟩
  rw[<- ha0];refine⟨λh1 w3 hr=>⟨by trivial,x,?_,(hr.pick [0,1,2,3,4,5,6] (by decide)).conv rfl,.refl _ _ _⟩,λh1=>?_⟩
  . rw[Z5o,if_neg];intro h2;rw[ha0,atS,if_pos h2]at h1;omega
  have hh0:hasS x.tel.sess c=true:=Classical.byContradiction λh2=>h1 (by rw[ha0,atS,if_neg h2];decide);obtain⟨hlt,hse⟩:=Zh3 hh0;have hat:a0=(idxS x.tel.sess c:Int):=by rw[ha0,atS,if_pos hh0]
  rw[hat];clear ha0 hat h1;obtain⟨ix,hix⟩:∃ix,ix=idxS x.tel.sess c:=⟨_,rfl⟩
  rw[<- hix]at hlt hse⊢;have hrow:=Z3n hlt;simp only[Tree.goal,X.P,X.ev,SV.ev,CV.ev,Sc.ev,qz,QA,QB,QC,QD,QE,QF,QG,QH,QI,QJ,QK,QL,QM,Nat.reduceAdd,qy3,qy4,hrow,Zc,List.getD_cons_zero,List.getD_cons_succ,Value.gI,Value.gB,Value.gS,Zw];obtain⟨ss,hss⟩:∃ss,ss=x.sx.getD ix sxD:=⟨_,rfl⟩
  have hm0:ss∈x.sx:=by rw[hss];exact Z3u hlt
  rw[<- hss]at hse⊢;obtain⟨s,s',s''⟩:=ss;simp only at hse⊢;have hgo:Z5o c x.tel=if s.clean=true then Zi3 c { x.tel with sess:=x.tel.sess.take ix++x.tel.sess.drop (ix+1) }else { x.tel with sess:=x.tel.sess.set ix (goR s) }:=by rw[Z5o,if_pos hh0,<- hix,<- hse];rfl
  rw[hgo];refine⟨by omega,by omega,λh1=>?_,λh1=>?_⟩
  . rw[if_neg h1];intro w1 hr1;have hs0:=Zn (hr1.at_ 5 rfl:(Z6 x.sx x.ox).holds w1) hm0;obtain⟨hs1,hs2⟩:=hs0;refine(Z1 (Z15s w1 s s' s'' hs1 hs2) rfl).mono ?_;obtain⟨S,hS⟩:∃S,S=goR s:=⟨_,rfl⟩
    rw[<- hS];have hcl':S.cl=s.cl/\S.on=false/\S.clean=s.clean/\S.next=s.next:=by rw[hS];exact⟨rfl,rfl,rfl,rfl⟩
    rintro e w2 ⟨u1,u2,rfl,g1,g2,g4,g5,gm⟩;have hnm:∀j,sesF (s,s',s'') j->(Z6 x.sx x.ox).fp j:=λj hj=>Zb.2 (.inl ⟨_,hm0,hj⟩);refine⟨[.s S.cl,.b S.on,.b S.clean,.v u1,.r (S.fl.map encF),.v u2,.r (S.qu.map encF),.i S.next],rfl,rfl,gm,qy5 _,qy2.2 ⟨⟨g1,λk hk=>(g4 k hk).elim .inl λh=>.inr (.inl ⟨rfl,_,qy6 (i:=5) rfl,rfl,hnm k h⟩)⟩,qy2.2 ⟨⟨g2,λk hk=>(g5 k hk).elim .inl λh=>.inr (.inl ⟨rfl,_,qy6 (i:=5) rfl,rfl,hnm k h⟩)⟩,qy5 _⟩⟩,Zfi ..,?_⟩;have hnw:w.heap.size<=w1.heap.size:=hr1.mod.size;clear hr1;simp only[Tree.goal,X.P,X.ev,SV.ev,CV.ev,Sc.ev,qz,QA,QB,QC,QD,QE,QF,QG,QH,QI,QJ,QK,QL,QM,Nat.reduceAdd,qy3,qy4];refine λb23 v24=>⟨by(first|omega|(simp only[qy11,List.length_set,qy3,List.length_cons,List.length_nil,List.length_take,List.length_drop];omega)),λv25=>⟨by(first|omega|(simp only[qy11,List.length_set,qy3,List.length_cons,List.length_nil,List.length_take,List.length_drop];omega)),λw3 hr=>⟨by trivial,?_⟩⟩⟩
    have hnew:=Zde hr 0 10 rfl rfl (by decide) rfl;have hA3:(Z6 (x.sx.set ix (S,u1,u2)) x.ox).holds w3:=Z4n (hr.at_ 9 rfl) (hr.at_ 2 rfl) (hr.at_ 3 rfl);refine Zge (y:={ x with sx:=x.sx.set ix (S,u1,u2),sv:=v25 }) ?_ (Zm7 (toRd hr) (by rfl) k { x with sx:=x.sx.set ix (S,u1,u2),sv:=v25 } hA3 (λj hj=>?_) [5,6,1,8,9,0,11] (by decide) (Zh rfl (Zh rfl (Zh (Za9 rfl ?_) rfl)))) λj hj=>?_
    . simp only[TelX.tel,List.map_set]
    . rcases Z1r hj with h|h|h
      . exact(qE 9 rfl rfl h)
      . exact(qE 2 rfl rfl h)
      . exact(qE 3 rfl rfl h)
    . simp only[Tree.goal,X.P,X.ev,SV.ev,CV.ev,Sc.ev,qz,QA,QB,QC,QD,QE,QF,QG,QH,QI,QJ,QK,QL,QM,Nat.reduceAdd,qy3,qy4];rw[<- Z1s]
    . refine Zkd (.refl _ _ _) hnw hnew (t:=(S,u1,u2)) (λj hj=>?_) j (.inl hj);rcases hj with h|h
      . exact(g4 j h).imp id (hnm j)
      . exact(g5 j h).imp id (hnm j)
  . have h1:=qy9.1 h1;rw[if_pos h1];refine⟨λvs=>∃a b c d e:Value,vs=[.v a,.v b,.v c,.v d,.v e],?_,?_⟩
    . repeat' (first|exact⟨_,_,_,_,_,rfl⟩|omega|(intro _)|(refine⟨?_,?_⟩)|(simp only[qy11,List.length_drop,List.length_take,qy3,List.length_nil];omega))
    rintro _ - ⟨v15,v16,v17,v18,v19,rfl⟩;simp only[Tree.goal,X.P,X.ev,SV.ev,CV.ev,Sc.ev,qz,QA,QB,QC,QD,QE,QF,QG,QH,QI,QJ,QK,QL,QM,Nat.reduceAdd,qy3,qy4];intro w1 hr1;refine(Zdh w1 x.wv x.wants c (hr1.at_ 4 rfl) (by omega)).mono ?_;obtain⟨L,hL⟩:∃L,L=x.wants.filter (λw:Wt=>decide (¬w.1=c)):=⟨_,rfl⟩
    rw[<- hL];rintro e w2 ⟨u,rfl,g1,g2,gm⟩;have hnu:∀j,Z2 u j->w.heap.size<=j:=λj hj=>Nat.le_trans hr1.mod.size (g2 j hj);refine⟨[.v u,.r (L.map Z7)],rfl,rfl,gm,qy5 _,qy2.2 ⟨⟨g1.reads,λk hk=>.inl (g2 k hk.2)⟩,qy5 _⟩,Z5,?_⟩;clear g1 g2 gm hr1;intro w3 hr;have hnew:=Zde hr 1 10 rfl rfl (by decide) rfl;obtain⟨r1,r2⟩:=Zs5 (l:=x.sx) (l':=x.sx.take ix++x.sx.drop (ix+1)) (o:=x.ox) λt ht=>(qy13.1 ht).elim (λh=>List.mem_of_mem_take h) (λh=>List.mem_of_mem_drop h);refine⟨by trivial,Zge (y:={ x with sx:=x.sx.take ix++x.sx.drop (ix+1),sv:=v19,wants:=L,wv:=u }) ?_ (Zm7 (toRd (hr.pick [1,0,4,7,8,9,10] (by decide))) (by rfl) k { x with sx:=x.sx.take ix++x.sx.drop (ix+1),sv:=v19,wants:=L,wv:=u } (r1 w3 (hr.at_ 9 rfl)) (λj hj=>(qE 5 rfl rfl (r2 j hj))) [3,2,1,4,5,0,7] (by decide) (Zh rfl (Zh rfl (Zh (Za9 rfl ?_) rfl)))) λj hj=>?_⟩
    . rw[hL];simp only[TelX.tel,Zi3,List.map_append,List.map_take,List.map_drop]
    . simp only[Tree.goal,X.P,X.ev,SV.ev,CV.ev,Sc.ev,qz,QA,QB,QC,QD,QE,QF,QG,QH,QI,QJ,QK,QL,QM,Nat.reduceAdd,qy3,qy4];rw[List.map_append,List.map_take,List.map_drop]
      show List.drop 0 (List.take ix (x.sx.map Zc))++List.drop ((ix:Int)+1).toNat (List.take x.sx.length (x.sx.map Zc))=_
      rw[List.drop_zero,List.take_of_length_le (l:=x.sx.map Zc) (i:=x.sx.length) (by rw[qy3];exact Nat.le_refl _),show((ix:Int)+1).toNat=ix+1 by omega]
    . rcases hj with hj|hj|hj|hj|hj
      . exact .inr (.inl (.inl (.inl hj)))
      . exact .inl (hnu j hj.2)
      . rcases hnew j hj.2 with h|h
        . exact .inl h
        . exact .inr (.inl (.inr h))
      . exact .inr (.inl (.inl (.inr (.inr (.inr (.inl hj))))))
      . exact .inr (.inl (.inl (.inr (.inr (.inr (.inr (r2 j hj)))))))
def insD(l:List SesX)(c:List UInt8):List SesX:=if hasS (l.map (·.1)) c=true then l else l.take (idxS (l.map (·.1)) c)++[freX c]++l.drop (idxS (l.map (·.1)) c)
theorem Z115{l:List SesX}{c:List UInt8}:∀t∈insD l c,t∈l\/t=freX c:=λt ht=>by
  unfold insD at ht;split at ht
  . exact .inl ht
  . rcases qy13.1 ht with ht|ht
    . rcases qy13.1 ht with ht|ht
      . exact .inl (List.mem_of_mem_take ht)
      . exact .inr (qy12.1 ht)
    . exact .inl (List.mem_of_mem_drop ht)
theorem Z116(l:List SesX)(c:List UInt8)(t:SesX):((insD l c).set (idxS (l.map (·.1)) c) t).map (·.1)=(insS (l.map (·.1)) c).set (idxS (l.map (·.1)) c) t.1:=by
  unfold insD;split
  . rename_i h;rw[Z92 h,List.map_set]
  . rename_i h;rw[(Zjz h t.1).1,List.map_set,List.map_append,List.map_append,List.map_take,List.map_drop];have hl:((l.map (·.1)).take (idxS (l.map (·.1)) c)).length=idxS (l.map (·.1)) c:=by
      rw[List.length_take];have:=Zcq (l.map (·.1)) c;omega
    generalize idxS (l.map (·.1)) c=i at hl
    rw[List.append_assoc,List.set_append_right _ _ (by omega),hl,Nat.sub_self,List.append_assoc];rfl
theorem Zx5{α:Type}:∀(p:List α) (z a:α) (q:List α),((p++z::a::q).set (p.length+1) z).set p.length a=p++a::z::q
  | [],_,_,_=>rfl
  | _::p,z,a,q=>by simpa using Zx5 p z a q
theorem Zx6{l:List SesX}{m:Nat}(h0:0<m)(h1:m<=l.length)(a:SesX) : ((l.take m++[a]++l.drop m).set m (l.getD (m - 1) sxD)).set (m - 1) a=l.take (m - 1)++[a]++l.drop (m - 1)/\(l.take m++[a]++l.drop m).getD m sxD=a/\(l.take m++[a]++l.drop m).getD (m - 1) sxD=l.getD (m - 1) sxD:=by
  obtain⟨i,rfl⟩:∃i,m=i+1:=⟨m - 1,by omega⟩
  have hi:i<l.length:=by omega
  have e1:l.take (i+1)=l.take i++[l.getD i sxD]:=by rw[List.take_add_one,qy1,qy7 hi];rfl
  have e2:l.drop i=l.getD i sxD::l.drop (i+1):=by rw[List.drop_eq_getElem_cons hi,qy1,qy7 hi];rfl
  have hl:(l.take i).length=i:=by rw[List.length_take];omega
  rw[Nat.add_sub_cancel,e1,e2];generalize l.getD i sxD=z at *
  generalize l.take i=p at *
  subst hl;refine⟨?_,?_,?_⟩
  . have:=Zx5 p z a (l.drop (p.length+1));simpa using this
  . simp[qy1,List.getElem?_append_right]
  . simp[qy1,List.getElem?_append_right]
structure CnD(x:TelX)(c:List UInt8)(kn:Bool)(S:Ses)(cl:Bool)(vs:List V)(f q wv:Value)(ws:List Wt):Prop where
  eq:vs=[.i 0,.i 0,.s S.cl,.b S.on,.b cl,.v f,.v q,.i S.next,.v wv,.r (ws.map Z7)]
  ses:(∃t∈x.sx,t.1.fl=S.fl/\t.1.qu=S.qu/\sc1 t.2.1=f/\sc1 t.2.2=q)\/(S.fl=[]/\S.qu=[]/\f=.slice none 0 0/\q=.slice none 0 0)
  ws:ws=if kn=true then x.wants else x.wants.filter λw=>decide (¬w.1=c)
set_option maxRecDepth 4000 in
theorem Zs6(w:World)(k:Nat)(x:TelX)(c:List UInt8)(p:Pkt)(va vc:Value)(hr:Rel ⟨Zi (tlA k x) dlH,w⟩ (tlA k x++Z3g c p va vc) (dlH++pkHp) w)(hb:BOk x.tel)(ho:x.ox.length<50000)(hc:Zk c=true) : Calls Tryz.prog 36 #[.pointer (some ⟨k,0,none⟩),.string ⟨c.toArray⟩,Zm9 p va vc] w λe w'=>e=.returned (.tuple #[])/\Zgd w w' k x (λ_=>False) (Z25 c p x.tel):=by
  refine Z1 (Z3 (J:=tlA k x++Z3g c p va vc) (sxE_ok.joins _) Tryz.func36 Z3z rfl rfl hr rfl rfl ?_) rfl;simp only[Tree.goal,X.P,X.ev,SV.ev,CV.ev,Sc.ev,qz,QA,QB,QC,QD,QE,QF,QG,QH,QI,QJ,QK,QL,QM,Nat.reduceAdd,qy3,qy4];have hns:x.sx.length<=6:=by have:=hb.ns;rw[Z1m,qy3]at this;exact this
  have hwl:x.wants.length<=20:=Zbr hb.wants;have hc20:c.length<=20:=by have h1:=(Bool.and_eq_true _ _▸hc:decide (1<=(c.length:Int)/\(c.length:Int)<=20)=true/\Z1v c=true).1;have:=of_decide_eq_true h1;omega
  have hxs:x.tel.sess=x.sx.map (·.1):=rfl;intro b30;refine⟨λh1 w3 hr=>⟨by trivial,x,by rw[Z25,if_pos h1],(hr.pick [1,2,3,4,5,6,7] (by decide)).conv rfl,.refl _ _ _⟩,λh1=>?_⟩;obtain⟨a0,ha0⟩:∃a0,a0=atS x.tel.sess c:=⟨_,rfl⟩
  refine⟨[.i a0],rfl,λ_ w' hr=>by rw[ha0];exact Z31 w' x.sv x.sx c (hr.at_ 3 rfl) hb.sort (by omega),?_⟩;simp only[Tree.goal,X.P,X.ev,SV.ev,CV.ev,Sc.ev,qz,QA,QB,QC,QD,QE,QF,QG,QH,QI,QJ,QK,QL,QM,Nat.reduceAdd,qy3,qy4];obtain⟨ix,hix⟩:∃ix,ix=idxS x.tel.sess c:=⟨_,rfl⟩
  have hat:(hasS x.tel.sess c=true/\a0=ix/\ix<x.sx.length)\/(¬hasS x.tel.sess c=true/\a0=-1/\ix<=x.sx.length):=by
    by_cases h2:hasS x.tel.sess c=true
    . exact .inl ⟨h2,by rw[ha0,atS,if_pos h2,hix],by rw[hix];exact(Zh3 h2).1⟩
    . exact .inr ⟨h2,by rw[ha0,atS,if_neg h2],by rw[hix];have:=Zcq x.tel.sess c;rw[hxs,qy3]at this;exact this⟩
  clear ha0;refine⟨λh2=>?_,λh2=>?_⟩
  . have h3:¬hasS x.tel.sess c=true:=by
      rcases hat with⟨-,h4,-⟩|⟨h4,-⟩
      . omega
      . exact h4
    intro b32 v33 w1 hr1;have hz1:=hr1.mod.size;refine(Zbu (k:=k) (x:=x) (F:=(Zg [pk1X { pD_Q 2 with code:=3 }]).fp) (pre:=[]) hr1 34 0 [10]
      (Z22 w1 k x c v33 [pk1X { pD_Q 2 with code:=3 }] (Z9i (toRd hr1) (by rfl) k x (Zg [pk1X { pD_Q 2 with code:=3 }]) _ _ (hr1.at_ 8 rfl) (λj hj=>(qE 8 rfl rfl hj)) (Z1t rfl rfl _) (λj hj=>absurd hj (Zt rfl rfl)) [5,6,7,8,9,1,11,2,0] (by decide) rfl rfl) (show 1<1000000 by decide) (by omega))
      rfl rfl (Nat.succ_pos _) 10 (by decide) rfl (λj hj=>.inl ?_)).mono ?_
    . rcases hj with(hj|hj|hj|hj|hj)|hj
      . exact(qE 3 rfl rfl hj)
      . exact(qE 4 rfl rfl hj)
      . exact(qE 5 rfl rfl hj)
      . exact(qE 6 rfl rfl hj)
      . exact(qE 8 rfl rfl hj)
      . exact absurd hj (Zt rfl rfl)
    rintro e w2 ⟨y1,hy1,hs1,hg1,rfl,m1,m2,m3,m4⟩;refine⟨tlV y1,rfl,rfl,m1,m2,m3,m4,?_⟩;clear m1 m2 m3 m4;intro w7 hr7;refine⟨by trivial,y1,?_,(hr7.pick [0,1,2,3,4,5,14] (by decide)).conv rfl,(GrwD.refl w.heap.size _ x).trans hg1 hz1 (λj h=>absurd h (Zt rfl rfl))⟩;rw[hy1,Z25,if_neg h1,if_pos ⟨h3,by rw[hxs,qy3];omega⟩];rfl
  have hroom:¬(¬hasS x.tel.sess c=true/\x.tel.sess.length=6):=by
    rw[hxs,qy3];rintro⟨h3,h4⟩;rcases hat with⟨h5,-⟩|⟨-,h5,-⟩
    . exact h3 h5
    . exact h2 ⟨by omega,by omega⟩
  intro b32;refine⟨by omega,by omega,λvs=>∃sv':Value,vs=[.i 0,.i 0,.i 0,.i 0,.i 0,.i 0,.i 0,.i ix,.v sv',.r ((insD x.sx c).map Zc)],⟨λh3=>?_,λh3=>?_⟩,?_⟩
  . have h4:¬hasS x.tel.sess c=true:=by
      rcases hat with⟨-,h5,-⟩|⟨h5,-⟩
      . omega
      . exact h5
    have hne:∀i,i<x.sx.length->¬(x.sx.getD i sxD).1.cl=c:=λi hi he=>h4 ((Z4m hb.sort).2 (by rw[hxs,clsS,List.map_map];exact List.mem_map.2 ⟨_,Z3u hi,he⟩))
    refine⟨λvs=>∃a b c d:Value,vs=[.v a,.v b,.v c,.v d],?_,?_⟩
    . repeat' (first|exact⟨_,_,_,_,rfl⟩|omega|(intro _)|(refine⟨?_,?_⟩)|(simp only[qy11,qy3,List.length_cons,List.length_nil];omega))
    rintro _ - ⟨v33,v34,v35,v36,rfl⟩;simp only[Tree.goal,X.P,X.ev,SV.ev,CV.ev,Sc.ev,qz,QA,QB,QC,QD,QE,QF,QG,QH,QI,QJ,QK,QL,QM,Nat.reduceAdd,qy3,qy4];refine⟨by(first|omega|(simp only[qy11,List.length_set,qy3,List.length_cons,List.length_nil,List.length_take,List.length_drop];omega)),by(first|omega|(simp only[qy11,List.length_set,qy3,List.length_cons,List.length_nil,List.length_take,List.length_drop];omega)),λvs=>∃m:Nat,vs=[.i m,.r ((x.sx.take m++[freX c]++x.sx.drop m).map Zc)]/\m<=x.sx.length/\∀j,m<=j->j<x.sx.length->Zd c (x.sx.getD j sxD).1.cl=true,λvs=>(vs.getD 0 (.i 0)).toI.toNat,⟨x.sx.length,?_,by omega,λj h5 h6=>by omega⟩,?_⟩
    . refine congr (congrArg List.cons (congrArg V.i ?_)) (congrArg (λz=>[V.r z]) ?_)
      . simp only[qy11,qy3,List.length_cons,List.length_nil];omega
      . rw[List.take_length,List.drop_length,List.append_nil,List.map_append];rfl
    rintro _ - ⟨m,rfl,hm,hall⟩;obtain⟨R,hR⟩:∃R,R=x.sx.take m++[freX c]++x.sx.drop m:=⟨_,rfl⟩
    have hRl:R.length=x.sx.length+1:=by rw[hR];simp;omega
    rw[<- hR];have e1:((m:Int) - 1).toNat=m - 1:=by omega
    have r0:=Z3n (l:=R) (i:=m) (by omega);have r1:=Z3n (l:=R) (i:=m - 1) (by omega);simp only[Tree.goal,X.P,X.ev,SV.ev,CV.ev,Sc.ev,qz,QA,QB,QC,QD,QE,QF,QG,QH,QI,QJ,QK,QL,QM,Nat.reduceAdd,qy3,qy4,e1,r0,r1,hRl,Zc,List.getD_cons_zero,List.getD_cons_succ,Value.gI,Value.gB,Value.gS,Zw,List.length_set];refine⟨by omega,by omega,by omega,by omega,by omega,by omega,[.b (Zd (R.getD m sxD).1.cl (R.getD (m - 1) sxD).1.cl)],rfl,λh5 w' _=>Z35 w' _ _ ?_,?_⟩
    . have:=(Zx6 (by omega) hm (freX c)).2.1;rw[<- hR]at this;rw[this]
      show c.length<_
      omega
    simp only[Tree.goal,X.P,X.ev,SV.ev,CV.ev,Sc.ev,qz,QA,QB,QC,QD,QE,QF,QG,QH,QI,QJ,QK,QL,QM,Nat.reduceAdd,qy3,qy4];refine⟨λh5=>?_,λh5=>?_⟩
    . obtain⟨g1,g2,g3⟩:=Zx6 (l:=x.sx) (m:=m) (by omega) hm (freX c);rw[<- hR]at g1 g2 g3;refine⟨λvs=>vs=[],⟨by omega,by omega,by omega,by omega,by omega,by omega,by omega,rfl⟩,?_⟩;rintro _ - rfl;refine⟨by omega,by omega,⟨m - 1,?_,by omega,λj h6 h7=>?_⟩,by omega⟩
      . rw[<- g1,<- g3];have g4:=Z1s R m (R.getD (m - 1) sxD);have g5:=Z1s (R.set m (R.getD (m - 1) sxD)) (m - 1) (freX c);rw[<- g4]at g5;rw[<- g5,<- g2];refine congr (congrArg List.cons (congrArg V.i ?_)) rfl;omega
      . by_cases h8:j=m - 1
        . rw[h8];have h9:=h5.2;rw[g2,g3]at h9;exact h9
        . exact hall j (by omega) h7
    . have e2:m=ix:=by
        rw[hix,hxs];refine Zg2 hm (λj hj=>?_) (λj h6 h7=>Z3l (hall j h6 h7));obtain⟨g1,g2,g3⟩:=Zx6 (l:=x.sx) (m:=m) (by omega) hm (freX c);rw[<- hR]at g1 g2 g3;have h6:Zd c (x.sx.getD (m - 1) sxD).1.cl=false:=Bool.eq_false_iff.2 λh7=>h5 ⟨by omega,by rw[g2,g3];exact h7⟩;have h7:Zd (x.sx.getD (m - 1) sxD).1.cl c=true:=by
          rcases Z5b.1 h6 with h7|h7
          . exact h7
          . exact absurd h7.symm λh8=>hne (m - 1) (by omega) h8.symm
        by_cases h8:j=m - 1
        . rw[h8];exact h7
        . exact Zy (Zbp hb.sort (i:=j) (j:=m - 1) (by omega) (by omega)) h7
      refine⟨v36,?_⟩;rw[insD,if_neg (show ¬hasS (x.sx.map (·.1)) c=true from h4),<- hxs,<- hix,<- e2,<- hR]
  . have h4:hasS x.tel.sess c=true/\a0=ix:=by
      rcases hat with⟨h4,h5,-⟩|⟨-,h5,-⟩
      . exact⟨h4,h5⟩
      . omega
    refine⟨x.sv,?_⟩;rw[insD,if_pos (show hasS (x.sx.map (·.1)) c=true from h4.1),h4.2]
  rintro _ - ⟨sv',rfl⟩;have hil:ix<(insD x.sx c).length:=by
    rcases hat with⟨h3,-,h4⟩|⟨h3,-,h4⟩
    . rw[insD,if_pos (show hasS (x.sx.map (·.1)) c=true from h3)];exact h4
    . rw[insD,if_neg (show ¬hasS (x.sx.map (·.1)) c=true from h3),<- hxs,<- hix];simp;omega
  have hil7:(insD x.sx c).length<=x.sx.length+1:=by
    rw[insD];split
    . omega
    . simp;omega
  have hrow:=Z3n hil;have hD:=Z116 x.sx c;have hmem:=Z115 (l:=x.sx) (c:=c);obtain⟨D,hDd⟩:∃D,D=insD x.sx c:=⟨_,rfl⟩
  have hDk:hasS x.tel.sess c=true->D=x.sx:=λh3=>by rw[hDd,insD,if_pos (show hasS (x.sx.map (·.1)) c=true from h3)]
  rw[<- hDd]at hil hil7 hrow hD hmem⊢;simp only[Tree.goal,X.P,X.ev,SV.ev,CV.ev,Sc.ev,qz,QA,QB,QC,QD,QE,QF,QG,QH,QI,QJ,QK,QL,QM,Nat.reduceAdd,qy3,qy4,hrow,Zc,List.getD_cons_zero,List.getD_cons_succ,Value.gI,Value.gB,Value.gS,Zw];refine⟨by omega,by omega,λb43=>?_⟩;obtain⟨kn,hkn⟩:∃kn,kn=Za0 x.tel.sess c p.clean:=⟨_,rfl⟩
  have hks:kn=true↔hasS x.tel.sess c=true/\(x.sx.getD ix sxD).1.clean=false/\p.clean=false:=by
    constructor
    . intro h3;rw[hkn]at h3;obtain⟨h4,h5,h6⟩:=Zm2 h3;rw[<- hix,hxs,Zcp]at h6;exact⟨h4,h6,h5⟩
    . rintro⟨h4,h5,h6⟩;rw[hkn,Za0,Z92 h4,<- hix,hxs,Zcp,h5,h6];rfl
  obtain⟨S1,hS1⟩:∃S1,S1=Z9h x.tel.sess c p.clean:=⟨_,rfl⟩
  obtain⟨hok,hcl⟩:=Zei hb hc p.clean;rw[<- hS1]at hok hcl;have hSk:kn=true->S1={ (x.sx.getD ix sxD).1 with clean:=p.clean }:=λh3=>by rw[hS1,Z9h,<- hkn,if_pos h3,Z92 (hks.1 h3).1,<- hix,hxs,Zcp]
  have hSn:¬kn=true->S1=⟨c,false,p.clean,[],[],1⟩:=λh3=>by rw[hS1,Z9h,<- hkn,if_neg h3]
  refine⟨λvs=>∃(cl:Bool) (f q wv:Value) (ws:List Wt),CnD x c kn S1 cl vs f q wv ws/\∀j,((ws.map Z7).flatten≠[]/\Z2 wv j)->w.heap.size<=j\/Z8l x j,⟨λh3=>?_,λh3=>?_⟩,?_⟩
  . have hn:¬kn=true:=λh4=>by
      obtain⟨h5,h6,h7⟩:=hks.1 h4;have h8:a0=ix:=by
        rcases hat with⟨-,h8,-⟩|⟨h8,-⟩
        . exact h8
        . exact absurd h5 h8
      exact h3 ⟨⟨by omega,by rw[h8,qy4];simp only[Z3n (show ix<x.sx.length by rw[<- hDk h5];exact hil),Zc,List.getD_cons_zero,List.getD_cons_succ,Value.gB,h6];decide⟩,by rw[h7];decide⟩
    intro w1 hr1;refine(Zdh w1 x.wv x.wants c (hr1.at_ 5 rfl) (by omega)).mono ?_;obtain⟨L,hL⟩:∃L,L=x.wants.filter (λw:Wt=>decide (¬w.1=c)):=⟨_,rfl⟩
    rw[<- hL];rintro e w2 ⟨u,rfl,g1,g2,gm⟩;refine⟨[.v u,.r (L.map Z7)],rfl,rfl,gm,qy5 _,qy2.2 ⟨⟨g1.reads,λk hk=>.inl (g2 k hk.2)⟩,qy5 _⟩,Z5,?_⟩;refine⟨false,.slice none 0 0,.slice none 0 0,u,L,⟨?_,.inr ?_,?_⟩,λj hj=>.inl (Nat.le_trans hr1.mod.size (g2 j hj.2))⟩
    . rw[hSn hn];rfl
    . rw[hSn hn];exact⟨rfl,rfl,rfl,rfl⟩
    . rw[if_neg hn];exact hL
  . have h3:=qy9.1 h3;have h4:hasS x.tel.sess c=true/\a0=ix/\ix<x.sx.length:=by
      rcases hat with h4|⟨-,h4,-⟩
      . exact h4
      . omega
    have hk:kn=true:=hks.2 ⟨h4.1,by have h5:=h3.1.2;rw[h4.2.1,qy4]at h5;simpa only[Z3n h4.2.2,Zc,List.getD_cons_zero,List.getD_cons_succ,Value.gB,Bool.not_eq_true]using h5,by simpa using h3.2⟩
    have h6:=hDk h4.1;refine⟨(x.sx.getD ix sxD).1.clean,sc1 (x.sx.getD ix sxD).2.1,sc1 (x.sx.getD ix sxD).2.2,x.wv,x.wants,⟨?_,.inl ?_,?_⟩,λj hj=>.inr hj⟩
    . rw[hSk hk,h6]
    . exact⟨_,Z3u h4.2.2,by rw[hSk hk],by rw[hSk hk],rfl,rfl⟩
    . rw[if_pos hk]
  rintro vs - ⟨cl,f,q,wv,ws,⟨hvs,hses,hws⟩,hwv⟩;subst hvs;simp only[Tree.goal,X.P,X.ev,SV.ev,CV.ev,Sc.ev,qz,QA,QB,QC,QD,QE,QF,QG,QH,QI,QJ,QK,QL,QM,Nat.reduceAdd,qy3,qy4];have hcl2:p.clean=S1.clean:=by
    by_cases h3:kn=true
    . rw[hSk h3]
    . rw[hSn h3]
  obtain⟨R,hR⟩:∃R,R=Zb4 S1:=⟨_,rfl⟩
  have hR9:R.2.length<=9:=by rw[hR];exact Zga hok
  intro w1 hr1;have hsz1:=hr1.mod.size;have hsr:Ze w1 f S1.fl/\Ze w1 q S1.qu/\∀j,(((S1.fl.map encF).flatten≠[]/\Z2 f j)\/((S1.qu.map encF).flatten≠[]/\Z2 q j))->(Z6 x.sx x.ox).fp j:=by
    rcases hses with⟨t,ht,e1,e2,e3,e4⟩|⟨e1,e2,e3,e4⟩
    . obtain⟨h5,h6⟩:=Zn (hr1.at_ 10 rfl:(Z6 x.sx x.ox).holds w1) ht;rw[h5.sc1]at e3;rw[h6.sc1]at e4;rw[<- e1,<- e2,<- e3,<- e4];exact⟨h5,h6,λj hj=>Zb.2 (.inl ⟨t,ht,hj⟩)⟩
    . rw[e1,e2,e3,e4];exact⟨Za _ _,Za _ _,λj hj=>by rcases hj with hj|hj<;>exact absurd rfl hj.1⟩
  obtain⟨hs1,hs2,hnm⟩:=hsr;refine(Z1 (Zz6 w1 S1 f q hs1 hs2 hok.next (by have:=hok.nf;omega) (by have:=hok.nq;omega)) (by rw[sesV,<- hcl2])).mono ?_;rw[<- hR];rintro e w2 ⟨u1,u2,u3,rfl,g1,g2,g3,g4,g5,g6,gm⟩;refine⟨[.s R.1.cl,.b R.1.on,.b R.1.clean,.v u1,.r (R.1.fl.map encF),.v u2,.r (R.1.qu.map encF),.i R.1.next,.v u3,.r ((R.2.map pkN).map Z21)],rfl,rfl,gm,qy5 _,qy2.2 ⟨⟨g1,λk hk=>(g4 k hk).elim .inl λh=>.inr (.inl ⟨rfl,_,qy6 (i:=10) rfl,rfl,hnm k h⟩)⟩,qy2.2 ⟨⟨g2,λk hk=>(g5 k hk).elim .inl λh=>.inr (.inl ⟨rfl,_,qy6 (i:=10) rfl,rfl,hnm k h⟩)⟩,qy2.2 ⟨⟨by show reads w2 u3 kP ((R.2.map pkN).map Z21);rw[Z63];exact g3,λk hk=>.inl (g6 k hk.2)⟩,qy5 _⟩⟩⟩,Z3d ..,?_⟩;clear hr1 hs1 hs2 g1 g2 g3 g6 gm;simp only[Tree.goal,X.P,X.ev,SV.ev,CV.ev,Sc.ev,qz,QA,QB,QC,QD,QE,QF,QG,QH,QI,QJ,QK,QL,QM,Nat.reduceAdd,qy3,qy4];refine λb64 v65=>⟨by(first|omega|(simp only[qy11,List.length_set,qy3,List.length_cons,List.length_nil,List.length_take,List.length_drop];omega)),λv66=>⟨by(first|omega|(simp only[qy11,List.length_set,qy3,List.length_cons,List.length_nil,List.length_take,List.length_drop];omega)),λb67 v68 w3 hr3=>?_⟩⟩
  have hsz3:=hr3.mod.size;have hnew:=Zde hr3 2 18 rfl rfl (by decide) rfl;obtain⟨q1,q2⟩:=Zk3 (l:=x.sx) (l':=D) (o:=x.ox) λt ht=>(hmem t ht).imp id λh=>by rw[h];exact⟨rfl,rfl,rfl,rfl⟩
  obtain⟨X3,hX3⟩:∃X3:TelX,X3={ x with wants:=ws,wv:=wv,sx:=D.set ix (R.1,u1,u2),sv:=v66 }:=⟨_,rfl⟩
  have hA3:(Z6 X3.sx X3.ox).holds w3:=by rw[hX3];exact Z4n (q1 w3 (hr3.at_ 17 rfl)) (hr3.at_ 4 rfl) (hr3.at_ 5 rfl)
  have hF3:∀j,(Z6 X3.sx X3.ox).fp j->(Z6 x.sx x.ox).fp j\/((R.1.fl.map encF).flatten≠[]/\Z2 u1 j)\/((R.1.qu.map encF).flatten≠[]/\Z2 u2 j):=λj hj=>by rw[hX3]at hj;exact(Z1r hj).imp (q2 j) id
  have hg3:GrwD w.heap.size (λ_=>False) x X3:=λj hj=>by
    rw[hX3]at hj;rcases hj with(hj|hj|hj|hj|hj)|hj
    . exact .inr (.inl (.inl (.inl hj)))
    . rcases hwv j hj with h|h
      . exact .inl h
      . exact .inr (.inl (.inl (.inr (.inl h))))
    . rcases hnew j hj.2 with h|h
      . exact .inl h
      . exact .inr (.inl (.inr h))
    . exact .inr (.inl (.inl (.inr (.inr (.inr (.inl hj))))))
    . have h5:(Z6 x.sx x.ox).fp j\/((R.1.fl.map encF).flatten≠[]/\Z2 u1 j)\/((R.1.qu.map encF).flatten≠[]/\Z2 u2 j):=(Z1r hj).imp (q2 j) id;have h6:w1.heap.size<=j\/(Z6 x.sx x.ox).fp j:=by
        rcases h5 with h5|h5|h5
        . exact .inr h5
        . exact(g4 j h5).imp id (hnm j)
        . exact(g5 j h5).imp id (hnm j)
      rcases h6 with h6|h6
      . exact .inl (Nat.le_trans hsz1 h6)
      . exact .inr (.inl (.inl (.inr (.inr (.inr (.inr h6))))))
    . exact .inr (.inl (.inr hj))
  have hXt:X3.tel={ x.tel with wants:=ws,sess:=(insS x.tel.sess c).set (idxS x.tel.sess c) R.1 }:=by rw[hX3];have h5:=hD (R.1,u1,u2);rw[<- hxs,<- hix]at h5;rw[<- hix];simp only[TelX.tel]at h5⊢;rw[h5]
  have hX0:X3.ox=x.ox:=by rw[hX3]
  refine(Zbu (k:=k) (x:=X3) (F:=(Zg [pk1X { pD_Q 2 with session:=kn }]).fp) (pre:=[]) hr3 69 0 [66,10]
    (Z22 w3 k X3 c v68 [pk1X { pD_Q 2 with session:=kn }] (Z9i (toRd ((toRd (hr3.pick [2,0,4,5,6,7,12,15,16,17,18] (by decide))).pick [1,0,2,3,4,5,6,7,8,9,10] (by decide))) (by rfl) k X3 (Zg [pk1X { pD_Q 2 with session:=kn }]) _ _ hA3 (λj hj=>?_) (Z1t rfl rfl _) (λj hj=>absurd hj (Zt rfl rfl)) [8,7,3,9,10,1,12,2,0] (by decide) rfl
      ?_)
      (show 1<1000000 by decide) (by rw[hX0];omega))
    rfl rfl (Nat.succ_pos _) 10 (by decide) (by rw[hX3];rfl) (λj hj=>?_)).mono ?_
  . rcases hF3 j hj with h|h|h
    . exact(qE 9 rfl rfl h)
    . exact(qE 2 rfl rfl h)
    . exact(qE 3 rfl rfl h)
  . rw[hX3];refine Zh rfl (Zh rfl (Zh (Za9 rfl ?_) (Zh rfl (Zh rfl (Zh rfl (Zh rfl (Zh (Za9 rfl ?_) rfl)))))))
    . simp only[Tree.goal,X.P,X.ev,SV.ev,CV.ev,Sc.ev,qz,QA,QB,QC,QD,QE,QF,QG,QH,QI,QJ,QK,QL,QM,Nat.reduceAdd,qy3,qy4];rw[<- Z1s]
    . simp only[Tree.goal,X.P,X.ev,SV.ev,CV.ev,Sc.ev,qz,QA,QB,QC,QD,QE,QF,QG,QH,QI,QJ,QK,QL,QM,Nat.reduceAdd,qy3,qy4];have hkb:(decide (0<=a0) && !Value.gB (((x.sx.map Zc).getD a0.toNat []).getD 2 undef) && !p.clean)=kn:=by
        rw[Bool.eq_iff_iff,hks];simp only[Bool.and_eq_true,decide_eq_true_eq,Bool.not_eq_true'];constructor
        . rintro⟨⟨h5,h6⟩,h7⟩;have h4:hasS x.tel.sess c=true/\a0=ix/\ix<x.sx.length:=by
            rcases hat with h4|⟨-,h4,-⟩
            . exact h4
            . omega
          rw[h4.2.1,qy4,Z3n h4.2.2]at h6;exact⟨h4.1,h6,h7⟩
        . rintro⟨h5,h6,h7⟩;have h4:hasS x.tel.sess c=true/\a0=ix/\ix<x.sx.length:=by
            rcases hat with h4|⟨h4,-⟩
            . exact h4
            . exact absurd h5 h4
          rw[h4.2.1,qy4,Z3n h4.2.2];exact⟨⟨by omega,h6⟩,h7⟩
      rw[hkb];rfl
  . rcases hj with(hj|hj|hj|hj|hj)|hj
    . rw[hX3]at hj;exact .inl (qE 12 rfl rfl hj)
    . rw[hX3]at hj;exact .inl (qE 7 rfl rfl hj)
    . rw[hX3]at hj;exact .inr (Zk2 (v:=66) (by decide) hj.2)
    . rw[hX3]at hj;exact .inl (qE 15 rfl rfl hj)
    . rcases hF3 j hj with h|h|h
      . exact .inl (qE 17 rfl rfl h)
      . exact .inl (qE 4 rfl rfl h)
      . exact .inl (qE 5 rfl rfl h)
    . exact absurd hj (Zt rfl rfl)
  rintro e w4 ⟨y1,hy1,hs1,hgr1,rfl,m1,m2,m3,m4⟩;refine⟨tlV y1,rfl,rfl,m1,m2,m3,m4,?_⟩;clear m1 m2 m3 m4 hr3;have l1:y1.ox.length<=x.ox.length+1:=by
    have h5:y1.tel.out.length=y1.ox.length:=by simp[TelX.tel]
    have h6:X3.tel.out.length=x.ox.length:=by rw[hXt];simp[TelX.tel]
    rw[hy1]at h5;simp only[qy11,qy3,List.length_cons,List.length_nil]at h5;omega
  intro w5 hr5;have hsz5:=hr5.mod.size;refine(Zbu (k:=k) (x:=y1) (F:=(Zg (R.2.map pkN)).fp) (pre:=[]) hr5 81 0 [78]
    (Z22 w5 k y1 c u3 (R.2.map pkN) (Z9i hr5 (by rfl) k y1 (Zg (R.2.map pkN)) _ _ (hr5.at_ 5 rfl) (λj hj=>(qE 5 rfl rfl hj)) (Z5h _ _) (λj hj=>absurd hj Z2t) [2,3,4,5,6,1,24,13,0] (by decide) rfl rfl) (by rw[qy3];omega) (by omega))
    rfl rfl (Nat.succ_pos _) 78 (by decide) rfl (λj hj=>.inl ?_)).mono ?_
  . rcases hj with(hj|hj|hj|hj|hj)|hj
    . exact(qE 0 rfl rfl hj)
    . exact(qE 1 rfl rfl hj)
    . exact(qE 2 rfl rfl hj)
    . exact(qE 3 rfl rfl hj)
    . exact(qE 5 rfl rfl hj)
    . exact absurd hj Z2t
  rintro e w6 ⟨y2,hy2,hs2,hgr2,rfl,m1,m2,m3,m4⟩;refine⟨tlV y2,rfl,rfl,m1,m2,m3,m4,?_⟩;intro w7 hr7;refine⟨by trivial,y2,?_,(hr7.pick [0,1,2,3,4,5,27] (by decide)).conv rfl,(hg3.trans hgr1 hsz3 (λj h=>absurd h (Zt rfl rfl))).trans hgr2 hsz5 (λj h=>absurd h Z2t)⟩;rw[hy2,hy1,hXt,Zcu,Z25,if_neg h1,if_neg hroom,<- hS1,<- hR,<- hkn,hws];rfl
