/- By an AI agent. -/
import Derived.Test.YtldmdbipjhkaeaaGreatDoorU18
import Derived.Test.YtldmdbipjhkaeaaGreatDoorU10
import Derived.Test.YtldmdbipjhkaeaaGreatDoorU19
import Derived.Test.YtldmdbipjhkaeaaGreatDoorU20
import Derived.Test.YtldmdbipjhkaeaaGreatDoorU17
import Derived.Test.YtldmdbipjhkaeaaGreatDoorU09
set_option linter.all false
set_option maxHeartbeats 20000000
namespace Go.Proofs.Y
open Go Go.Sx
def atS(l:List Ses)(n:List UInt8):Int:=if hasS l n=true then(idxS l n:Int)else -1
theorem Z76(w:World)(v:Value)(l:List SesX)(n:List UInt8)(hv:reads w v kSx (l.map Zf))(hs:Z67 (l.map (·.1)))(hl:l.length<1000000000) : Calls Tryz.prog 30 #[sc1 v,.string ⟨n.toArray⟩] w λe w'=>e=.returned (.int .i64 (atS (l.map (·.1)) n))/\Mod [] w w':=by
  refine Z1 (Z3 (J:=[.v v,.r (l.map Zf),.s n]) sxE_ok Tryz.func30 Z56 rfl rfl (Rel.start2 (by simp[Ent.holds,Ent.wr,hv,X.ev])) rfl rfl ?_) rfl;simp only[Tree.goal,X.P,X.ev,SV.ev,CV.ev,Sc.ev,qz,QA,QB,QC,QD,QE,QF,QG,QH,QI,QJ,QK,QL,QM,Nat.reduceAdd,qy3,qy4];refine⟨λvs=>∃(i:Nat) (x:V),vs=[x,.i i]/\i<=l.length/\∀j,j<i->¬(l.getD j sxD).1.cl=n,λvs=>l.length - (vs.getD 1 (.i 0)).toI.toNat,⟨0,_,rfl,by omega,λj hj=>by omega⟩,?_⟩;rintro _ - ⟨i,x,rfl,hi,hall⟩;simp only[Tree.goal,X.P,X.ev,SV.ev,CV.ev,Sc.ev,qz,QA,QB,QC,QD,QE,QF,QG,QH,QI,QJ,QK,QL,QM,Nat.reduceAdd,qy3,qy4,gSx0];refine⟨λh1=>⟨by omega,λh2 w' hr=>⟨?_,hr.mod⟩,λh2=>⟨by omega,by omega,⟨i+1,x,rfl,by omega,λj hj=>?_⟩,by omega⟩⟩,λh1 w' hr=>⟨?_,hr.mod⟩⟩
  . have hi':i<l.length:=by omega
    have e:=Zkr (l:=l) (n:=n) (i:=i) (by omega) (λk hk=>by rw[<- h2];exact Zdj hs (i:=k) (j:=i) hk hi') (λk h3 h4=>by
      by_cases hk:k=i
      . rw[hk,h2];exact Z1j _
      . rw[<- h2];exact Z4a (Zdj hs (i:=i) (j:=k) (by omega) h4))
    have hh:hasS (l.map (·.1)) n=true:=decide_eq_true (by rw[<- e,Zkq,qy3];exact⟨hi',h2⟩);rw[atS,if_pos hh,<- e]
  . by_cases hji:j=i
    . rw[hji];exact h2
    . exact hall j (by omega)
  . have hie:i=l.length:=by omega
    have hh:¬hasS (l.map (·.1)) n=true:=λh=>by obtain⟨h3,h4⟩:=Z80 h;rw[qy3]at h3;rw[Zkq]at h4;exact hall _ (by omega) h4
    rw[atS,if_neg hh]
def Zmx(x y:Tel):Bool:=decide (x.next=y.next/\x.kept=y.kept/\x.wants=y.wants/\x.wat=y.wat/\x.sess=y.sess)
theorem Zvz{x y:Tel}:Zmx x y=true↔{ x with out:=[] }={ y with out:=[] }:=by cases x;cases y;simp only[Zmx,decide_eq_true_eq,Tel.mk.injEq];exact⟨λ⟨a,b,c,d,e⟩=>⟨b,c,e,d,a,trivial⟩,λ⟨b,c,e,d,a,_⟩=>⟨a,b,c,d,e⟩⟩
theorem Z140{a b:List SesX}(hl:a.length=b.length)(h:∀i,i<a.length->(a.getD i sxD).1=(b.getD i sxD).1):a.map (·.1)=b.map (·.1):=by refine List.ext_getElem (by simpa using hl) λi h1 h2=>?_;rw[qy3]at h1 h2;have:=h i h1;rw[qy1,qy1,qy7 h1,qy7 h2]at this;simpa using this
theorem Zlc(w:World)(x y:TelX)(hx:RdX w x)(hy:RdX w y)(h1:x.kept.length<1000000000)(h2:x.wants.length<1000000000)(h3:x.wat.length<1000000000)(h4:x.sx.length<1000000000)(h5:∀t∈x.sx,t.1.fl.length<1000000000/\t.1.qu.length<1000000000) : Calls Tryz.prog 69 #[bkV x,bkV y] w λe w'=>e=.returned (.bool (Zmx x.tel y.tel))/\Mod [] w w':=by
  refine Z1 (Z3 (J:=bkA x++bkA y) sxE_ok Tryz.func69 Z4t rfl rfl
    (Rel.start2 (qy2.2 ⟨⟨hx.kept,rfl⟩,qy2.2 ⟨⟨hx.want,rfl⟩,qy2.2 ⟨⟨hx.sess,rfl⟩,qy2.2 ⟨⟨hx.nest,rfl⟩,qy2.2 ⟨⟨hx.wat,rfl⟩,qy2.2 ⟨⟨hy.kept,rfl⟩,qy2.2 ⟨⟨hy.want,rfl⟩,qy2.2 ⟨⟨hy.sess,rfl⟩,qy2.2 ⟨⟨hy.nest,rfl⟩,qy2.2 ⟨⟨hy.wat,rfl⟩,qy5 _⟩⟩⟩⟩⟩⟩⟩⟩⟩⟩)) rfl rfl ?_) rfl
  simp only[Tree.goal,X.P,X.ev,SV.ev,CV.ev,Sc.ev,qz,QA,QB,QC,QD,QE,QF,QG,QH,QI,QJ,QK,QL,QM,Nat.reduceAdd,qy3,qy4];intro b20 b21;refine⟨[.b (decide (x.kept=y.kept))],rfl,λ_ w' hr=>Zq8 w' x.kv y.kv _ _ (hr.at_ 2 rfl) (hr.at_ 7 rfl) h1,?_⟩;simp only[Tree.goal,X.P,X.ev,SV.ev,CV.ev,Sc.ev,qz,QA,QB,QC,QD,QE,QF,QG,QH,QI,QJ,QK,QL,QM,Nat.reduceAdd,qy3,qy4];refine⟨[.b (decide (x.wants=y.wants))],rfl,λ_ w' hr=>Zmw w' x.wv y.wv _ _ (hr.at_ 3 rfl) (hr.at_ 8 rfl) h2,?_⟩;simp only[Tree.goal,X.P,X.ev,SV.ev,CV.ev,Sc.ev,qz,QA,QB,QC,QD,QE,QF,QG,QH,QI,QJ,QK,QL,QM,Nat.reduceAdd,qy3,qy4];refine⟨[.b (decide (x.wat=y.wat))],rfl,λ_ w' hr=>Zi0 w' x.av y.av _ _ (hr.at_ 6 rfl) (hr.at_ 11 rfl) (by omega),?_⟩;simp only[Tree.goal,X.P,X.ev,SV.ev,CV.ev,Sc.ev,qz,QA,QB,QC,QD,QE,QF,QG,QH,QI,QJ,QK,QL,QM,Nat.reduceAdd,qy3,qy4,decide_eq_true_eq];have hsl:x.tel.sess=y.tel.sess->x.sx.length=y.sx.length:=λe=>by have:=congrArg List.length e;simpa[TelX.tel]using this
  refine⟨λh w' hr=>⟨?_,hr.mod⟩,λh=>?_⟩
  . have:¬Zmx x.tel y.tel=true:=λhh=>by
      obtain⟨a,b,c,d,e⟩:=of_decide_eq_true hh;have:=hsl e;rcases h with(((h|h)|h)|h)|h
      . exact h a
      . exact h b
      . exact h c
      . exact h d
      . omega
    rw[Bool.eq_false_iff.2 this]
  . have hn:x.next=y.next:=Classical.byContradiction λh6=>h (.inl (.inl (.inl (.inl h6))));have hk:x.kept=y.kept:=Classical.byContradiction λh6=>h (.inl (.inl (.inl (.inr h6))));have hw:x.wants=y.wants:=Classical.byContradiction λh6=>h (.inl (.inl (.inr h6)));have ha:x.wat=y.wat:=Classical.byContradiction λh6=>h (.inl (.inr h6));have hl:x.sx.length=y.sx.length:=by
      have:(x.sx.length:Int)=y.sx.length:=Classical.byContradiction λh6=>h (.inr h6);omega
    clear h;refine⟨λvs=>∃(i:Nat) (u:V),vs=[u,.i i]/\i<=x.sx.length/\∀j,j<i->(x.sx.getD j sxD).1=(y.sx.getD j sxD).1,λvs=>x.sx.length - (vs.getD 1 (.i 0)).toI.toNat,⟨0,_,rfl,by omega,λj hj=>by omega⟩,?_⟩;rintro _ - ⟨i,u,rfl,hi,hall⟩;simp only[Tree.goal,X.P,X.ev,SV.ev,CV.ev,Sc.ev,qz,QA,QB,QC,QD,QE,QF,QG,QH,QI,QJ,QK,QL,QM,Nat.reduceAdd,qy3,qy4];refine⟨λh6=>⟨by omega,by omega,?_⟩,λh6 w' hr=>⟨?_,hr.mod⟩⟩
    . have hi1:i<x.sx.length:=by omega
      have hi2:i<y.sx.length:=by omega
      have r1:=Z7y hi1;have r2:=Z7y hi2;have m1:=Z4z hi1;refine⟨[.b (decide ((x.sx.getD i sxD).1=(y.sx.getD i sxD).1))],rfl,λ_ w' hr=>?_,?_⟩
      . have n1:=Zp (hr.at_ 5 rfl:(Z6 x.sx x.ox).holds w') m1;have n2:=Zp (hr.at_ 10 rfl:(Z6 y.sx y.ox).holds w') (Z4z hi2);refine Z1 (Zi3 w' (x.sx.getD i sxD).1 (y.sx.getD i sxD).1 (x.sx.getD i sxD).2.1 (x.sx.getD i sxD).2.2 (y.sx.getD i sxD).2.1 (y.sx.getD i sxD).2.2 n1.1 n1.2 n2.1 n2.2 (h5 _ m1).1 (h5 _ m1).2) ?_;simp only[Tree.goal,X.P,X.ev,SV.ev,CV.ev,Sc.ev,qz,QA,QB,QC,QD,QE,QF,QG,QH,QI,QJ,QK,QL,QM,Nat.reduceAdd,qy3,qy4,r1,r2,Zf,List.getD_cons_zero,List.getD_cons_succ,Value.gI,Value.gB,Value.gS,Z1a,sesV]
      simp only[Tree.goal,X.P,X.ev,SV.ev,CV.ev,Sc.ev,qz,QA,QB,QC,QD,QE,QF,QG,QH,QI,QJ,QK,QL,QM,Nat.reduceAdd,qy3,qy4,decide_eq_true_eq];refine⟨λh7 w' hr=>⟨?_,hr.mod⟩,λh7=>⟨by omega,by omega,⟨i+1,u,rfl,by omega,λj hj=>?_⟩,by omega⟩⟩
      . have:¬Zmx x.tel y.tel=true:=λhh=>by
          obtain⟨-,-,-,-,e⟩:=of_decide_eq_true hh;have e2:=congrArg (λl:List Ses=>l.getD i s0) e;simp only[TelX.tel,Zkq]at e2;exact h7 e2
        rw[Bool.eq_false_iff.2 this]
      . by_cases hji:j=i
        . rw[hji];exact qy9.1 h7
        . exact hall j (by omega)
    . have hie:i=x.sx.length:=by omega
      have:Zmx x.tel y.tel=true:=decide_eq_true ⟨hn,hk,hw,ha,Z140 hl (λj hj=>hall j (by omega))⟩;rw[this]
theorem Ziz{α:Type}(f:α->List UInt8):∀l:List α,(∀a,1<=(f a).length)->l.length<=(l.map f).flatten.length
  | [],_=>by simp
  | a::l,h=>by have h1:=Ziz f l h;have h2:=h a;simp only[List.map_cons,List.flatten_cons,qy11,List.length_cons];omega
theorem Zqz{p:Pkt}(h:chkP p=0):SmallP p:=by obtain⟨hf,hl⟩:=Zyh h;simp only[Z12n,qy11]at hl;have h1:=Ziz (numB 1) p.codes (λa=>by rw[Z42];exact Nat.le_refl _);have h2:=Ziz (Zkd p.kind) p.asks (λa=>by unfold Zkd txtB;split<;>simp[Z42]<;>omega);exact⟨by have:=hf.client;omega,by have:=hf.topic;omega,by omega,by omega,by omega,λa ha=>by have:=(hf.asks a ha).1;omega⟩
theorem Snt.eq_iff{a b:Snt}:a=b↔a.client=b.client/\a.peer=b.peer/\a.pk=b.pk/\(a.msg.kind=b.msg.kind/\a.msg.code=b.msg.code/\a.msg.id=b.msg.id/\a.msg.tok=b.msg.tok/\a.msg.pay=b.msg.pay/\a.msg.opts=b.msg.opts):=by obtain⟨c,p,n,k,d,i,t,o,y⟩:=a;obtain⟨c',p',n',k',d',i',t',o',y'⟩:=b;simp only[Snt.mk.injEq,Msg.mk.injEq];exact⟨λ⟨a,b,c,d,e,f,g,h,i⟩=>⟨a,c,b,d,e,f,g,i,h⟩,λ⟨a,c,b,d,e,f,g,i,h⟩=>⟨a,b,c,d,e,f,g,h,i⟩⟩
noncomputable def Zw0(a b:List Snt):Bool:=@decide (a=b) (Classical.propDecidable _)
theorem Zfd{a b:List Snt}:Zw0 a b=true↔a=b:=@decide_eq_true_iff _ (Classical.propDecidable _)
def Zp7(l:List SntX):Prop:=∀t∈l,SmallP t.1.pk/\t.1.msg.opts.length<1099511627776
theorem Zw1{l:List SntX}(h:Z32 (l.map (·.1))):Zp7 l:=λt ht=>by
  rcases h t.1 (List.mem_map_of_mem ht)with⟨-,h1,h2⟩|⟨-,h1,h2,-⟩
  . have:=(Z7x.1 h1).2.2.1;exact⟨by rw[h2];exact⟨by decide,by decide,by decide,by decide,by decide,λa ha=>by cases ha⟩,by omega⟩
  . exact⟨Zqz h1,by rw[h2];decide⟩
theorem Z141{a b:List SntX}(hl:a.length=b.length)(h:∀i,i<a.length->(a.getD i sntD).1=(b.getD i sntD).1):a.map (·.1)=b.map (·.1):=by refine List.ext_getElem (by simpa using hl) λi h1 h2=>?_;rw[qy3]at h1 h2;have:=h i h1;rw[qy1,qy1,qy7 h1,qy7 h2]at this;simpa using this
theorem Z169(l:List SntX)(i:Nat):(l.map (·.1)).getD i sntD.1=(l.getD i sntD).1:=by rw[qy1,qy1,List.getElem?_map];cases l[i]?<;>rfl
theorem Zr0(w:World)(x y:Value)(a b:List SntX)(sx sy:List SesX)(hx:reads w x kSn (a.map Z12))(hy:reads w y kSn (b.map Z12))(nx_Z:(Z6 sx a).holds w)(ny:(Z6 sy b).holds w)(hs:Zp7 a)(hl:a.length<1000000000) : Calls Tryz.prog 70 #[sc1 x,sc1 y] w λe w'=>e=.returned (.bool (Zw0 (a.map (·.1)) (b.map (·.1))))/\Mod [] w w':=by
  refine Z1 (Z3 (J:=[.v x,.r (a.map Z12),.a (Z6 sx a),.v y,.r (b.map Z12),.a (Z6 sy b)]) sxE_ok Tryz.func70 Z5q rfl rfl
    (Rel.start2 (qy2.2 ⟨⟨hx,rfl⟩,qy2.2 ⟨⟨nx_Z,rfl⟩,qy2.2 ⟨⟨hy,rfl⟩,qy2.2 ⟨⟨ny,rfl⟩,qy5 _⟩⟩⟩⟩)) rfl rfl ?_) rfl
  simp only[Tree.goal,X.P,X.ev,SV.ev,CV.ev,Sc.ev,qz,QA,QB,QC,QD,QE,QF,QG,QH,QI,QJ,QK,QL,QM,Nat.reduceAdd,qy3,qy4];have hlen:a.map (·.1)=b.map (·.1)->a.length=b.length:=λe=>by have:=congrArg List.length e;simpa using this
  have no:¬a.map (·.1)=b.map (·.1)->Zw0 (a.map (·.1)) (b.map (·.1))=false:=λh=>Bool.eq_false_iff.2 λh2=>h (Zfd.1 h2);refine⟨λh w' hr=>⟨by rw[no λe=>h (by rw[hlen e])],hr.mod⟩,λh=>?_⟩;have h:a.length=b.length:=by omega
  refine⟨λvs=>∃(i:Nat) (u:V),vs=[u,.i i]/\i<=a.length/\∀j,j<i->(a.getD j sntD).1=(b.getD j sntD).1,λvs=>a.length - (vs.getD 1 (.i 0)).toI.toNat,⟨0,_,rfl,by omega,λj hj=>by omega⟩,?_⟩;rintro _ - ⟨i,u,rfl,hi,hall⟩;simp only[Tree.goal,X.P,X.ev,SV.ev,CV.ev,Sc.ev,qz,QA,QB,QC,QD,QE,QF,QG,QH,QI,QJ,QK,QL,QM,Nat.reduceAdd,qy3,qy4];refine⟨λh6=>⟨by omega,by omega,?_⟩,λh6 w' hr=>⟨?_,hr.mod⟩⟩
  . have hi1:i<a.length:=by omega
    have hi2:i<b.length:=by omega
    have r1:=Zms hi1;have r2:=Zms hi2;have m1:=Zzk hi1;have m2:=Zzk hi2;have hne:¬(a.getD i sntD).1=(b.getD i sntD).1->Zw0 (a.map (·.1)) (b.map (·.1))=false:=λh7=>no λe=>h7 (by have e2:=congrArg (λl:List Snt=>l.getD i sntD.1) e;simp only[Z169]at e2;exact e2)
    simp only[r1,r2,Z12,List.getD_cons_zero,List.getD_cons_succ,Value.gI,Value.gB,Value.gS,Z1a];generalize ga:a.getD i sntD=ta at *
    generalize gb:b.getD i sntD=tb at *
    obtain⟨⟨ac,ap,an,am⟩,a1,a2,a3⟩:=ta;obtain⟨⟨bc,bp,bn,bm⟩,b1,b2,b3⟩:=tb;have hsm:=hs _ m1;simp only[Snt.eq_iff]at hne;simp only at hsm⊢;refine⟨[.b (decide (ap=bp))],rfl,λ_ w' hr=>?_,?_⟩
    . have n1:=Z70 (hr.at_ 1 rfl:(Z6 sx a).holds w') m1;have n2:=Z70 (hr.at_ 3 rfl:(Z6 sy b).holds w') m2;exact Z1 (Zfx w' ap bp a1 a2 b1 b2 n1.1 n1.2.1 n2.1 n2.2.1 hsm.1) rfl
    simp only[Tree.goal,X.P,X.ev,SV.ev,CV.ev,Sc.ev,qz,QA,QB,QC,QD,QE,QF,QG,QH,QI,QJ,QK,QL,QM,Nat.reduceAdd,qy3,qy4];refine⟨[.b (decide (am.kind=bm.kind/\am.code=bm.code/\am.id=bm.id/\am.tok=bm.tok/\am.pay=bm.pay/\am.opts=bm.opts))],rfl,λ_ w' hr=>?_,?_⟩
    . have n1:=Z70 (hr.at_ 1 rfl:(Z6 sx a).holds w') m1;have n2:=Z70 (hr.at_ 3 rfl:(Z6 sy b).holds w') m2;exact Z1 (Zin w' am bm a3 b3 n1.2.2 n2.2.2 hsm.2) rfl
    simp only[Tree.goal,X.P,X.ev,SV.ev,CV.ev,Sc.ev,qz,QA,QB,QC,QD,QE,QF,QG,QH,QI,QJ,QK,QL,QM,Nat.reduceAdd,qy3,qy4,decide_eq_true_eq];refine⟨λh7 w' hr=>⟨?_,hr.mod⟩,λh7=>⟨by omega,by omega,⟨i+1,u,rfl,by omega,λj hj=>?_⟩,by omega⟩⟩
    . rw[hne];rintro⟨q1,q2,q3,q4⟩;rcases h7 with((h7|h7)|h7)|h7
      . exact h7 q1
      . exact h7 q2
      . exact h7 q3
      . exact h7 q4
    . by_cases hji:j=i
      . rw[hji,ga,gb];exact Snt.eq_iff.2 ⟨Classical.byContradiction λh8=>h7 (.inl (.inl (.inl h8))),Classical.byContradiction λh8=>h7 (.inl (.inl (.inr h8))),Classical.byContradiction λh8=>h7 (.inl (.inr h8)),Classical.byContradiction λh8=>h7 (.inr h8)⟩
      . exact hall j (by omega)
  . have hie:i=a.length:=by omega
    rw[Zfd.2 (Z141 h (λj hj=>hall j (by omega)))]
theorem Zw2{s:Ses}{n p:List UInt8}{q:Int}(h:s.qu.length<=6)(hq:q=0\/q=1):Z1v s n p q=Zi6 s n p q:=by
  unfold Z1v Zi6;rcases hq with rfl|rfl
  . by_cases h1:s.on=true
    . simp[h1]
    . simp[h1]
  . by_cases h1:s.on=true<;>by_cases h2:s.clean=true<;>simp[h1,h2]<;>split<;>(try rw[if_neg (by omega)])<;>(try rw[if_pos (by omega)])
theorem Z142{J J':List V}{v v':Nat}{ks:List Kd}{r r':X}(h1:J.getD v (.i 0)=J'.getD v' (.i 0))(h2:(r.ev J).toR=(r'.ev J').toR):Ent.sem J (.rd v ks r)=Ent.sem J' (.rd v' ks r'):=by simp only[Ent.sem,Ent.holds,Ent.fp,Ent.wr,h1,h2]
theorem Zzu{n m:Nat}{x y:TelX}{sv':Value}{i:Nat}{t:SesX}(h:GrwD n (λ_=>False) x y)(hm:n<=m)(hs:∀j,Z2 sv' j->n<=j\/Z2 x.ov j)(ht:∀j,sesF t j->m<=j\/(Z6 y.sx y.ox).fp j):GrwD n (λ_=>False) x { y with sx:=y.sx.set i t,sv:=sv' }:=λj hj=>by
  rcases hj with(hj|hj|hj|hj|hj)|hj
  . exact h j (.inl (.inl hj))
  . exact h j (.inl (.inr (.inl hj)))
  . rcases hs j hj.2 with h1|h1
    . exact .inl h1
    . exact .inr (.inl (.inr h1))
  . exact h j (.inl (.inr (.inr (.inr (.inl hj)))))
  . rcases Z3g hj with h1|h1
    . exact h j (.inl (.inr (.inr (.inr (.inr h1)))))
    . rcases ht j h1 with h2|h2
      . exact .inl (Nat.le_trans hm h2)
      . exact h j (.inl (.inr (.inr (.inr (.inr h2)))))
  . exact h j (.inr hj)
set_option maxRecDepth 2000 in
theorem Z143(w:World)(k:Nat)(x:TelX)(n p:List UInt8)(q:Int)(hr:Rel ⟨Zi (tlA k x) dlH,w⟩ (tlA k x++[.s n,.s p,.i q]) dlH w)(hb:BOk x.tel)(ho:x.ox.length<100000)(hsm:Z1n x.wants)(hp:flE (0,n,p)=0)(hq:0<=q/\q<=1) : Calls Tryz.prog 39 #[.pointer (some ⟨k,0,none⟩),.string ⟨n.toArray⟩,.string ⟨p.toArray⟩,.int .i64 q] w λe w'=>e=.returned (.tuple #[])/\Zl1 w w' k x (λ_=>False) (Z68 n p q x.tel):=by
  refine Z1 (Z7r (J:=tlA k x++[.s n,.s p,.i q]) (sxE_ok.joins _) Tryz.func39 Z54 rfl rfl hr rfl rfl ?_) rfl;simp only[Tree.goal,X.P,X.ev,SV.ev,CV.ev,Sc.ev,qz,QA,QB,QC,QD,QE,QF,QG,QH,QI,QJ,QK,QL,QM,Nat.reduceAdd,qy3,qy4,gY0,gY1];have hn60:n.length<=60:=by
    have h1:chkT n false=0:=by
      unfold flE at hp;split at hp
      . assumption
      . exact absurd hp (by assumption)
    exact(Z4o.1 h1).2.1.1
  have hw20:x.wants.length<=20:=Zku hb.wants;intro w1 hr1;refine(Zmv w1 x.wv x.wants n (hr1.at_ 1 rfl) hsm (by omega) (by omega)).mono ?_;rintro e w2 ⟨v0,rfl,a1,a2,am⟩;obtain⟨rs,hrs⟩:∃rs,rs=rdOf n x.wants:=⟨_,rfl⟩
  rw[<- hrs]at a1;have hrl:rs.length<=20:=by rw[hrs];exact Zuu n hb.wants
  have hrd:∀r∈rs,hasS x.tel.sess r.1=true:=by rw[hrs];exact Z4q hb n
  refine⟨[.v v0,.r (rs.map encY)],rfl,rfl,am,qy5 _,qy2.2 ⟨⟨a1.reads,λk hk=>.inl (a2 k hk.2)⟩,qy5 _⟩,Z5,?_⟩;clear hr1 a1 a2 am hr;simp only[Tree.goal,X.P,X.ev,SV.ev,CV.ev,Sc.ev,qz,QA,QB,QC,QD,QE,QF,QG,QH,QI,QJ,QK,QL,QM,Nat.reduceAdd,qy3,qy4,gY0,gY1];refine⟨Z6 x.sx x.ox,λw hr=>hr.at_ 6 rfl,λj hj=>(qE 6 rfl rfl hj),?_⟩;refine⟨λvs=>∃(i:Nat) (y:TelX),vs=[.i i,.a (Z6 y.sx y.ox),.v y.kv,.r (y.kept.map encK),.v y.wv,.r (y.wants.map Za),.v y.sv,.r (y.sx.map Zf),.v y.av,.r (y.wat.map Z7),.i y.next,.v y.ov,.r (y.ox.map Z12)]/\i<=rs.length/\y.tel=(rs.take i).foldl (Z19 n p q) x.tel/\GrwD w.heap.size (λ_=>False) x y,
    λvs=>(rs.length - (vs.getD 0 (.i 0)).toI).toNat,⟨0,x,rfl,by omega,rfl,.refl _ _ _⟩,?_⟩
  rintro _ - ⟨i,y,rfl,hi,htel,hg⟩;simp only[Tree.goal,X.P,X.ev,SV.ev,CV.ev,Sc.ev,qz,QA,QB,QC,QD,QE,QF,QG,QH,QI,QJ,QK,QL,QM,Nat.reduceAdd,qy3,qy4,gY0,gY1];obtain⟨k1,k2,k3,k4,k5,k6,k7⟩:=Z81 (q:=q) hp (rs.take i) hb (λr hr=>hrd r (List.mem_of_mem_take hr));rw[<- htel]at k1 k2 k3 k4 k5 k6 k7;have hol:y.ox.length<=x.ox.length+140:=by
    have h1:y.tel.out.length=y.ox.length:=by simp[TelX.tel]
    have h2:x.tel.out.length=x.ox.length:=by simp[TelX.tel]
    have h3:(rs.take i).length<=20:=by simp;omega
    omega
  have hns:y.sx.length<=6:=by have:=k1.ns;rw[Z1y,qy3]at this;exact this
  refine⟨λh1=>?_,λh1=>?_⟩
  . have hi':i<rs.length:=by omega
    have hmem:rs.getD i yD∈rs:=memY rs i hi';have hh0:hasS y.tel.sess (rs.getD i yD).1=true:=by rw[Zf8 hb.sort k2];exact hrd _ hmem
    obtain⟨hlt,hse⟩:=Zmo hh0;have hok:SesOk (y.sx.getD (idxS y.tel.sess (rs.getD i yD).1) sxD).1:=by rw[hse];exact Zcc k1 hh0
    have hqr:0<=(rs.getD i yD).2/\(rs.getD i yD).2<=1:=by obtain⟨z,hz,-,-,e⟩:=Zis (n:=n) hb.wants (y:=rs.getD i yD) (by show rs.getD i yD∈rdOf n x.wants;rw[<- hrs];exact hmem);have:=(Zkj hb.wants z hz).2.2;omega
    refine⟨by omega,λvs=>vs=[.i (min q (rs.getD i yD).2)],⟨λh2=>?_,λh2=>?_⟩,?_⟩
    . show[V.i q]=_
      rw[Int.min_eq_left (by omega)]
    . show[V.i (rs.getD i yD).2]=_
      rw[Int.min_eq_right (by omega)]
    rintro _ - rfl;have hat:atS y.tel.sess (rs.getD i yD).1=(idxS y.tel.sess (rs.getD i yD).1:Int):=if_pos hh0;refine⟨[.i (idxS y.tel.sess (rs.getD i yD).1)],rfl,λ_ w' hr=>?_,?_⟩
    . have h2:=Z76 w' y.sv y.sx (rs.getD i yD).1 (hr.at_ 4 rfl) k1.sort (by omega);rw[<- Z1y,hat]at h2;simp only[Tree.goal,X.P,X.ev,SV.ev,CV.ev,Sc.ev,qz,QA,QB,QC,QD,QE,QF,QG,QH,QI,QJ,QK,QL,QM,Nat.reduceAdd,qy3,qy4,gY0,gY1];exact h2
    generalize hix:idxS y.tel.sess (rs.getD i yD).1=ix at hlt hse hok
    simp only[Tree.goal,X.P,X.ev,SV.ev,CV.ev,Sc.ev,qz,QA,QB,QC,QD,QE,QF,QG,QH,QI,QJ,QK,QL,QM,Nat.reduceAdd,qy3,qy4,gY0,gY1];have hrow:=Z7y hlt;simp only[hrow,Zf,List.getD_cons_zero,List.getD_cons_succ,Value.gI,Value.gB,Value.gS,Z1a];generalize hss:y.sx.getD ix sxD=ss at hok hse
    obtain⟨s,s',s''⟩:=ss;simp only at hok hse⊢;obtain⟨S,hS⟩:∃S,S=Z1v s n p (min q (rs.getD i yD).2):=⟨_,rfl⟩
    have hSs:Zi6 s n p (min q (rs.getD i yD).2)=S:=by rw[hS];exact(Zw2 hok.nq (by omega)).symm
    have hcl':S.1.cl=s.cl/\S.1.on=s.on/\S.1.clean=s.clean:=by rw[hS];exact⟨Zmj _ _ _ _,(Zit _ _ _ _).1,(Zit _ _ _ _).2⟩
    have hS7:S.2.length<=7:=by rw[hS];exact Zbt n p _ hok.nq
    have hT2:∀u1 u2 v:Value,Z19 n p q y.tel (rs.getD i yD)={ (TelX.tel { y with sx:=y.sx.set ix (S.1,u1,u2),sv:=v })with out:=(TelX.tel { y with sx:=y.sx.set ix (S.1,u1,u2),sv:=v }).out++(S.2.map pkN).map λt=>toC (rs.getD i yD).1 t.1 }:=λu1 u2 v=>by rw[Ziu,Z19,hix,<- hse,<- hS];simp only[TelX.tel,List.map_set]
    refine⟨by omega,by omega,?_⟩;intro w1 hr1;have hs0:=Zp (hr1.at_ 0 rfl:(Z6 y.sx y.ox).holds w1) (Z4z hlt);rw[hss]at hs0;obtain⟨hs1,hs2⟩:=hs0;refine(Z1 (Zxz w1 s s' s'' n p (min q (rs.getD i yD).2) hs1 hs2 hok.next (by have:=hok.nf;omega) (by have:=hok.nq;omega)) rfl).mono ?_;rw[hSs];rintro e w2 ⟨u1,u2,u3,rfl,g1,g2,g3,g4,g5,g6,gm⟩;have hnm:∀j,sesF (s,s',s'') j->(Z6 y.sx y.ox).fp j:=λj hj=>Zb.2 (.inl ⟨_,Z4z hlt,by rw[hss];exact hj⟩);refine⟨[.s s.cl,.b s.on,.b s.clean,.v u1,.r (S.1.fl.map encF),.v u2,.r (S.1.qu.map encF),.i S.1.next,.v u3,.r ((S.2.map pkN).map Z31)],rfl,?_,gm,qy5 _,qy2.2 ⟨⟨g1,λk hk=>(g4 k hk).elim .inl λh=>.inr (.inl ⟨rfl,_,qy6 (i:=0) rfl,rfl,hnm k h⟩)⟩,qy2.2 ⟨⟨g2,λk hk=>(g5 k hk).elim .inl λh=>.inr (.inl ⟨rfl,_,qy6 (i:=0) rfl,rfl,hnm k h⟩)⟩,qy2.2 ⟨⟨by show reads w2 u3 kP ((S.2.map pkN).map Z31);rw[Z8f];exact g3,λk hk=>.inl (g6 k hk.2)⟩,qy5 _⟩⟩⟩,Z6c ..,?_⟩
    . simp only[Tree.goal,X.P,X.ev,SV.ev,CV.ev,Sc.ev,qz,QA,QB,QC,QD,QE,QF,QG,QH,QI,QJ,QK,QL,QM,Nat.reduceAdd,sesV,hcl'.1,hcl'.2.1,hcl'.2.2]
    have hnw:w.heap.size<=w1.heap.size:=hr1.mod.size;clear hr1;simp only[Tree.goal,X.P,X.ev,SV.ev,CV.ev,Sc.ev,qz,QA,QB,QC,QD,QE,QF,QG,QH,QI,QJ,QK,QL,QM,Nat.reduceAdd,qy3,qy4];refine λb44 b45 v46 o46=>⟨by(first|omega|(simp only[qy11,List.length_set,qy3,List.length_cons,List.length_nil];omega)),λv47 o47=>⟨by(first|omega|(simp only[qy11,List.length_set,qy3,List.length_cons,List.length_nil];omega)),?_⟩⟩
    intro w3 hr3;have hsz3:w.heap.size<=w3.heap.size:=hr3.mod.size;have hnew:=Zf9 hr3 0 14 rfl rfl (by decide) rfl;have hA3:(Z6 (y.sx.set ix (S.1,u1,u2)) y.ox).holds w3:=Z8g (hr3.at_ 6 rfl) (hr3.at_ 3 rfl) (hr3.at_ 4 rfl);have hf3:∀j,(Z6 (y.sx.set ix (S.1,u1,u2)) y.ox).fp j->(Z6 y.sx y.ox).fp j\/((S.1.fl.map encF).flatten≠[]/\Z2 u1 j)\/((S.1.qu.map encF).flatten≠[]/\Z2 u2 j):=λj hj=>(Z3g hj).elim (λh=>.inl h) (λh=>.inr h);refine(Zzc (k:=k) (x:={ y with sx:=y.sx.set ix (S.1,u1,u2),sv:=v47 }) (F:=(Zq (S.2.map pkN)).fp) (pre:=[]) hr3 48 0 [47,30]
      (Zqt w3 k { y with sx:=y.sx.set ix (S.1,u1,u2),sv:=v47 } (rs.getD i yD).1 u3 (S.2.map pkN) (Z15t (toRd hr3) (by rfl) k { y with sx:=y.sx.set ix (S.1,u1,u2),sv:=v47 } (Zq (S.2.map pkN)) _ _ hA3 (λj hj=>?_) (Z82 _ _) (λj hj=>absurd hj Z4r) [10,11,2,13,14,1,16,7,0] (by decide) rfl (Zg rfl (Zg rfl (Zg (Z142 rfl ?_) rfl)))) (by rw[qy3];omega) (by show y.ox.length<1000000;omega))
      rfl rfl (Nat.succ_pos _) 30 (by decide) rfl (λj hj=>?_)).mono ?_
    . rcases hf3 j hj with h|h|h
      . exact(qE 6 rfl rfl h)
      . exact(qE 3 rfl rfl h)
      . exact(qE 4 rfl rfl h)
    . simp only[Tree.goal,X.P,X.ev,SV.ev,CV.ev,Sc.ev,qz,QA,QB,QC,QD,QE,QF,QG,QH,QI,QJ,QK,QL,QM,Nat.reduceAdd,qy3,qy4];rw[<- Z3h];simp only[hcl'.1,hcl'.2.1,hcl'.2.2]
    . rcases hj with(hj|hj|hj|hj|hj)|hj
      . exact .inl (qE 8 rfl rfl hj)
      . exact .inl (qE 9 rfl rfl hj)
      . exact .inr (Zv7 (v:=47) (by decide) hj.2)
      . exact .inl (qE 11 rfl rfl hj)
      . rcases hf3 j hj with h|h|h
        . exact .inl (qE 6 rfl rfl h)
        . exact .inl (qE 3 rfl rfl h)
        . exact .inl (qE 4 rfl rfl h)
      . exact absurd hj Z4r
    rintro e w4 ⟨y2,hy2,hsz4,hgr,rfl,m1,m2,m3,m4⟩;refine⟨tlV y2,rfl,rfl,m1,m2,m3,m4,?_⟩;simp only[Tree.goal,X.P,X.ev,SV.ev,CV.ev,Sc.ev,qz,QA,QB,QC,QD,QE,QF,QG,QH,QI,QJ,QK,QL,QM,Nat.reduceAdd,qy3,qy4];refine⟨by omega,by omega,Z6 y2.sx y2.ox,λw hr=>hr.at_ 5 rfl,λj hj=>(qE 5 rfl rfl hj),⟨i+1,y2,rfl,by omega,?_,?_⟩,by omega⟩
    . rw[hy2,<- hT2 u1 u2 v47,htel,Zbu (f:=Z19 n p q) hi']
    . refine(Zzu hg hnw hnew (t:=(S.1,u1,u2)) λj hj=>?_).trans hgr hsz3 (λj h=>absurd h Z4r);rcases hj with h|h
      . exact(g4 j h).imp id (hnm j)
      . exact(g5 j h).imp id (hnm j)
  . have hil:i=rs.length:=by omega
    subst hil;rw[List.take_length]at htel;have hT1:y.tel=Z5a n p q x.tel:=by rw[htel,hrs];rfl
    have hwn:=watN k1.wat;have hw12:y.wat.length<=12:=(Zr.1 k1.wat).1;intro w1 hr1;refine(Zxm w1 y.av y.wat n (hr1.at_ 5 rfl) (by omega) hwn).mono ?_;rintro e w2 ⟨v1,v2,rfl,g1,g2,g3,g4,gm⟩;have hnw:w.heap.size<=w1.heap.size:=hr1.mod.size;obtain⟨W,hW⟩:∃W,W=Z28 n y.wat:=⟨_,rfl⟩
    obtain⟨Z,hZ⟩:∃Z,Z=Z2k n y.wat:=⟨_,rfl⟩
    rw[<- hW]at g1;rw[<- hZ]at g2;refine⟨[.v v1,.r (W.map Z7),.v v2,.r (Z.map Z7)],rfl,rfl,gm,qy5 _,qy2.2 ⟨⟨g1.reads,λk hk=>.inl (g3 k hk.2)⟩,qy2.2 ⟨⟨g2.reads,λk hk=>.inl (g4 k hk.2)⟩,qy5 _⟩⟩,Zjx ..,?_⟩;have hZ12:Z.length<=12:=by rw[hZ];exact Z9h n k1.wat
    have hZn:∀z∈Z,0<=z.2.2.2/\z.2.2.2<=16777215:=λz hz=>by
      rw[hZ,Z2k]at hz;obtain⟨z0,hz0,rfl⟩:=List.mem_map.1 hz;have:=hwn z0 (List.mem_filter.1 hz0).1;unfold Z3x;split
      . show 0<=(if 16777215<z0.2.2.2+1 then 0 else z0.2.2.2+1)/\(if 16777215<z0.2.2.2+1 then 0 else z0.2.2.2+1)<=16777215
        split<;>omega
      . exact this
    have hv1:∀j,Z2 v1 j->w.heap.size<=j:=λj hj=>Nat.le_trans hnw (g3 j hj);clear hr1 g1 g2 g3 g4 gm;obtain⟨T0,hT0⟩:∃T0:Tel,T0=⟨y.kept,y.wants,y.sx.map (·.1),W,y.next,y.ox.map (·.1)⟩:=⟨_,rfl⟩
    have hTB:Z68 n p q x.tel=Z.foldl (Z39 p) T0:=by rw[Z68,<- hT1,hZ,hT0,hW];rfl
    have hn0:0<=T0.next/\T0.next<=65535:=by rw[hT0];exact k1.next
    have hg0:GrwD w.heap.size (λ_=>False) x { y with wat:=W,av:=v1 }:=λj hj=>by
      rcases hj with(hj|hj|hj|hj|hj)|hj
      . exact hg j (.inl (.inl hj))
      . exact hg j (.inl (.inr (.inl hj)))
      . exact hg j (.inl (.inr (.inr (.inl hj))))
      . exact .inl (hv1 j hj.2)
      . exact hg j (.inl (.inr (.inr (.inr (.inr hj)))))
      . exact hg j (.inr hj)
    refine⟨Zbv (Z6 y.sx y.ox) (GrwD w.heap.size (λ_=>False) x { y with wat:=W,av:=v1 }),λw hr=>⟨hr.at_ 2 rfl,hg0⟩,λj hj=>(qE 2 rfl rfl hj),?_⟩;refine⟨λvs=>∃(i:Nat) (z:TelX),vs=[.i i,.a (Zbv (Z6 z.sx z.ox) (GrwD w.heap.size (λ_=>False) x z)),.v z.kv,.r (z.kept.map encK),.v z.wv,.r (z.wants.map Za),.v z.sv,.r (z.sx.map Zf),.v z.av,.r (z.wat.map Z7),.i z.next,.v z.ov,.r (z.ox.map Z12)]/\i<=Z.length/\z.tel=(Z.take i).foldl (Z39 p) T0,
      λvs=>(Z.length - (vs.getD 0 (.i 0)).toI).toNat,⟨0,{ y with wat:=W,av:=v1 },rfl,by omega,by rw[hT0];rfl⟩,?_⟩
    rintro _ - ⟨j,z,rfl,hj,hzt⟩;simp only[Tree.goal,X.P,X.ev,SV.ev,CV.ev,Sc.ev,qz,QA,QB,QC,QD,QE,QF,QG,QH,QI,QJ,QK,QL,QM,Nat.reduceAdd,qy3,qy4,Z1z,Z20,Z1b,gW3];obtain⟨q1,q2,q3,q4,q5,q6⟩:=Zos p (Z.take j) T0 hn0;rw[<- hzt]at q1 q2 q3 q4 q5 q6;have hzl:z.ox.length<=x.ox.length+152:=by
      have h1:z.tel.out.length=z.ox.length:=by simp[TelX.tel]
      have h2:T0.out.length=y.ox.length:=by rw[hT0];simp
      have h3:(Z.take j).length<=12:=by simp;omega
      omega
    have hzn:0<=z.next/\z.next<=65535:=q5;refine⟨λh1=>?_,λh1 w3 hr=>⟨by trivial,?_⟩⟩
    . have hj':j<Z.length:=by omega
      have hnum:=hZn (Z.getD j wD_K) (by rw[qy1,qy7 hj'];exact List.getElem_mem hj');obtain⟨sh,hsh⟩:∃sh,sh=Z1x (Z.getD j wD_K).2.2.2:=⟨_,rfl⟩
      have hcall:∀w':World,Calls Tryz.prog 109 #[.int .i64 (Z.getD j wD_K).2.2.2] w' λe w''=>e=.returned (.string ⟨sh.toArray⟩)/\Mod [] w' w'':=λw'=>by rw[hsh];exact Zug w' _ hnum
      refine⟨λvs=>∃(u:Value) (c:Nat),vs=[.s sh,.v u,.n c,.r [[.int .i64 6,.string ⟨sh.toArray⟩]]]/\∀k',Z2 u k'->w.heap.size<=k'\/k'∈Zi (tlA k x) dlH,⟨by omega,⟨by omega,by omega,by omega,?_,?_⟩,?_⟩,?_⟩
      . refine⟨[.s sh],rfl,λ_ w' _=>hcall w',?_⟩;simp only[Tree.goal,X.P,X.ev,SV.ev,CV.ev,Sc.ev,qz,QA,QB,QC,QD,QE,QF,QG,QH,QI,QJ,QK,QL,QM,Nat.reduceAdd,qy3,qy4,Z1z,Z20,Z1b,gW3];exact⟨λu o b=>⟨u,b,rfl,o⟩,λb u o=>⟨u,b,rfl,o⟩⟩
      . intro b;refine⟨[.s sh],rfl,λ_ w' _=>hcall w',?_⟩;simp only[Tree.goal,X.P,X.ev,SV.ev,CV.ev,Sc.ev,qz,QA,QB,QC,QD,QE,QF,QG,QH,QI,QJ,QK,QL,QM,Nat.reduceAdd,qy3,qy4,Z1z,Z20,Z1b,gW3];exact λu o=>⟨u,b,rfl,o⟩
      . intro b;refine⟨by omega,by omega,by omega,[.s sh],rfl,λ_ w' _=>hcall w',?_⟩;simp only[Tree.goal,X.P,X.ev,SV.ev,CV.ev,Sc.ev,qz,QA,QB,QC,QD,QE,QF,QG,QH,QI,QJ,QK,QL,QM,Nat.reduceAdd,qy3,qy4,Z1z,Z20,Z1b,gW3];exact λu o=>⟨u,b,rfl,o⟩
      rintro _ - ⟨u,c,rfl,hu⟩;simp only[Tree.goal,X.P,X.ev,SV.ev,CV.ev,Sc.ev,qz,QA,QB,QC,QD,QE,QF,QG,QH,QI,QJ,QK,QL,QM,Nat.reduceAdd,qy3,qy4,Z1z,Z20,Z1b,gW3];obtain⟨m1,hm1⟩:∃m1:Msg,m1=⟨1,69,z.next,(Z.getD j wD_K).2.1,[(6,sh)],p⟩:=⟨_,rfl⟩
      have hput:putM ⟨1,69,z.next,(Z.getD j wD_K).2.1,[],p⟩ (Z.getD j wD_K).2.2.2=m1:=by rw[hm1,hsh];rfl
      have hstep:(Z.take (j+1)).foldl (Z39 p) T0=Z39 p ((Z.take j).foldl (Z39 p) T0) (Z.getD j wD_K):=by rw[Zmn wD_K Z j hj',List.foldl_append];rfl
      refine⟨by omega,λv54 o54=>⟨by(first|omega|(simp only[qy11,List.length_set,qy3,List.length_cons,List.length_nil];omega)),λv55 o55=>⟨by omega,by omega,Zbv (Z6 z.sx (z.ox++[optX (toP (Z.getD j wD_K).1 m1) u])) (GrwD w.heap.size (λ_=>False) x { z with next:=nx_Z z.next,ox:=z.ox++[optX (toP (Z.getD j wD_K).1 m1) u],ov:=v55 }),λw4 hr=>?_,λi hi=>?_,⟨j+1,{ z with next:=nx_Z z.next,ox:=z.ox++[optX (toP (Z.getD j wD_K).1 m1) u],ov:=v55 },?_,by omega,?_⟩,by omega⟩⟩⟩
      . obtain⟨r1,r2⟩:=(hr.at_ 4 rfl:(Zbv (Z6 z.sx z.ox) (GrwD w.heap.size (λ_=>False) x z)).holds w4)
        have r3:=(hr.at_ 3 rfl:reads w4 u [.int .i64,.str] [[.int .i64 6,.string ⟨sh.toArray⟩]])
        refine⟨Z11 (l:=z.sx) (o:=z.ox) (λt ht=>.inl ht) (λt ht=>?_) r1,λi hi=>?_⟩
        . rcases qy13.1 ht with ht|ht
          . exact .inl ht
          . rw[qy12.1 ht,hm1];exact .inr ⟨Z9 _ _,Z9 _ _,r3⟩
        . rcases hi with(hi|hi|hi|hi|hi)|hi
          . exact r2 i (.inl (.inl hi))
          . exact r2 i (.inl (.inr (.inl hi)))
          . exact r2 i (.inl (.inr (.inr (.inl hi))))
          . exact r2 i (.inl (.inr (.inr (.inr (.inl hi)))))
          . rcases Zb.1 hi with h5|⟨t,ht,hk⟩
            . exact r2 i (.inl (.inr (.inr (.inr (.inr (Zb.2 (.inl h5)))))))
            . rcases qy13.1 ht with ht|ht
              . exact r2 i (.inl (.inr (.inr (.inr (.inr (Zb.2 (.inr ⟨t,ht,hk⟩)))))))
              . rw[qy12.1 ht]at hk;rcases hk with hk|hk|hk
                . exact absurd rfl hk.1
                . exact absurd rfl hk.1
                . rcases hu i hk.2 with h5|h5
                  . exact .inl h5
                  . rcases List.mem_cons.1 (Z13l h5)with h6|h6
                    . exact absurd h6 λh6=>hr.sep.disj (i:=14) (j:=3) rfl rfl (by decide) (.inl rfl) (k:=i) h6 ⟨show[Value.int .i64 6,.string ⟨sh.toArray⟩]≠[] from List.cons_ne_nil _ _,hk.2⟩
                    . rw[List.append_nil]at h6;exact .inr (.inl (.inr (Option.mem_toList.1 h6)))
          . rcases Zf9 hr 0 14 rfl rfl (by decide) rfl i hi with h5|h5
            . exact .inl h5
            . exact .inr (.inl (.inr h5))
      . rcases Zb.1 hi with h5|⟨t,ht,hk⟩
        . exact⟨_,qy6 (i:=4) rfl,rfl,Zb.2 (.inl h5)⟩
        . rcases qy13.1 ht with ht|ht
          . exact⟨_,qy6 (i:=4) rfl,rfl,Zb.2 (.inr ⟨t,ht,hk⟩)⟩
          . rw[qy12.1 ht,hm1]at hk;rcases hk with hk|hk|hk
            . exact absurd rfl hk.1
            . exact absurd rfl hk.1
            . exact(qE 3 rfl rfl hk)
      . simp only[List.map_append,List.map_cons,List.map_nil];rw[hm1];rfl
      . rw[hstep,<- hzt,<- hput];simp only[TelX.tel,Z39,List.map_append,List.map_cons,List.map_nil]
    . have hil:j=Z.length:=by omega
      subst hil;rw[List.take_length]at hzt;obtain⟨r1,r2⟩:=(hr.at_ 0 rfl:(Zbv (Z6 z.sx z.ox) (GrwD w.heap.size (λ_=>False) x z)).holds w3)
      exact⟨z,by rw[hzt,hTB],Zl2 hr (by rfl) k z r1 (λj hj=>(qE 0 rfl rfl hj)) [6,7,8,2,10,0,12] (by decide) rfl,r2⟩
