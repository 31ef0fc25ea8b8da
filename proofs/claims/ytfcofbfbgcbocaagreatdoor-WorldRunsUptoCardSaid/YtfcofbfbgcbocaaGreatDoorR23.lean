/- By an AI agent. -/
import Derived.Test.YtfcofbfbgcbocaaGreatDoorR21
import Derived.Test.YtfcofbfbgcbocaaGreatDoorR22
set_option linter.all false
set_option maxHeartbeats 20000000
namespace Go.Proofs.Y
open Go Go.Sx
def atS(l:List Ses)(n:List UInt8):Int:=if hasS l n=true then(idxS l n:Int)else -1
theorem Zaf(w:World)(v:Value)(l:List SesX)(n:List UInt8)(hv:reads w v kSx (l.map Zg))(hs:Z5e (l.map (·.1)))(hl:l.length<1000000000) : Calls Tryz.prog 15 #[sc1 v,.string ⟨n.toArray⟩] w λe w'=>e=.returned (.int .i64 (atS (l.map (·.1)) n))/\Mod [] w w':=by
 refine Z1 (Z3 (J:=[.v v,.r (l.map Zg),.s n]) sxE_ok Tryz.func15 Z5m rfl rfl (Rel.start2 (by simp[Ent.holds,Ent.wr,hv,X.ev])) rfl rfl ?_) rfl;simp only[QQ,Nat.reduceAdd,qy3,qy4];refine⟨λvs=>∃(i:Nat) (x:V),vs=[x,.i i]/\i<=l.length/\∀j,j<i->¬(l.getD j sxD).1.cl=n,λvs=>l.length - (vs.getD 1 (.i 0)).toI.toNat,⟨0,_,rfl,by omega,λj hj=>by omega⟩,?_⟩;rintro _ - ⟨i,x,rfl,hi,hall⟩;simp only[QQ,Nat.reduceAdd,qy3,qy4,gSx0];refine⟨λh1=>⟨by omega,λh2 w' hr=>⟨?_,hr.mod⟩,λh2=>⟨by omega,by omega,⟨i+1,x,rfl,by omega,λj hj=>?_⟩,by omega⟩⟩,λh1 w' hr=>⟨?_,hr.mod⟩⟩
 ·have hi':i<l.length:=by omega
  have e:=Znc (l:=l) (n:=n) (i:=i) (by omega) (λk hk=>by rw[<- h2];exact Zes hs (i:=k) (j:=i) hk hi') (λk h3 h4=>by
   by_cases hk:k=i
   ·rw[hk,h2];exact Z14 _
   ·rw[<- h2];exact Z4q (Zes hs (i:=i) (j:=k) (by omega) h4))
  have hh:hasS (l.map (·.1)) n=true:=decide_eq_true (by rw[<- e,Zpy,qy3];exact⟨hi',h2⟩);rw[atS,if_pos hh,<- e]
 ·by_cases hji:j=i
  ·rw[hji];exact h2
  ·exact hall j (by omega)
 ·have hie:i=l.length:=by omega
  have hh:¬hasS (l.map (·.1)) n=true:=λh=>by obtain⟨h3,h4⟩:=Z7n h;rw[qy3]at h3;rw[Zpy]at h4;exact hall _ (by omega) h4
  rw[atS,if_neg hh]
def Zoj(x y:Tel):Bool:=decide (x.next=y.next/\x.kept=y.kept/\x.wants=y.wants/\x.wat=y.wat/\x.sess=y.sess)
theorem Zok{x y:Tel}:Zoj x y=true↔{ x with out:=[] }={ y with out:=[] }:=by cases x;cases y;simp only[Zoj,decide_eq_true_eq,Tel.mk.injEq];exact⟨λ⟨a,b,c,d,e⟩=>⟨b,c,e,d,a,trivial⟩,λ⟨b,c,e,d,a,_⟩=>⟨a,b,c,d,e⟩⟩
theorem Z1bh{a b:List SesX}(hl:a.length=b.length)(h:∀i,i<a.length->(a.getD i sxD).1=(b.getD i sxD).1):a.map (·.1)=b.map (·.1):=by refine List.ext_getElem (by simpa using hl) λi h1 h2=>?_;rw[qy3]at h1 h2;have:=h i h1;rw[qy1,qy1,qy7 h1,qy7 h2]at this;simpa using this
theorem Zdp(w:World)(x y:TelX)(hx:RdX w x)(hy:RdX w y)(h1:x.kept.length<1000000000)(h2:x.wants.length<1000000000)(h3:x.wat.length<1000000000)(h4:x.sx.length<1000000000)(h5:∀t∈x.sx,t.1.fl.length<1000000000/\t.1.qu.length<1000000000) : Calls Tryz.prog 11 #[bkV x,bkV y] w λe w'=>e=.returned (.bool (Zoj x.tel y.tel))/\Mod [] w w':=by
  refine Z1 (Z3 (J:=bkA x++bkA y) sxE_ok Tryz.func11 Z57 rfl rfl
    (Rel.start2 (qy2.2 ⟨⟨hx.kept,rfl⟩,qy2.2 ⟨⟨hx.want,rfl⟩,qy2.2 ⟨⟨hx.sess,rfl⟩,qy2.2 ⟨⟨hx.nest,rfl⟩,qy2.2 ⟨⟨hx.wat,rfl⟩,qy2.2 ⟨⟨hy.kept,rfl⟩,qy2.2 ⟨⟨hy.want,rfl⟩,qy2.2 ⟨⟨hy.sess,rfl⟩,qy2.2 ⟨⟨hy.nest,rfl⟩,qy2.2 ⟨⟨hy.wat,rfl⟩,qy5 _⟩⟩⟩⟩⟩⟩⟩⟩⟩⟩)) rfl rfl ?_) rfl
  simp only[QQ,Nat.reduceAdd,qy3,qy4];intro b20 b21;refine⟨[.b (decide (x.kept=y.kept))],rfl,λ_ w' hr=>Zv2 w' x.kv y.kv _ _ (hr.at_ 2 rfl) (hr.at_ 7 rfl) h1,?_⟩;simp only[QQ,Nat.reduceAdd,qy3,qy4];refine⟨[.b (decide (x.wants=y.wants))],rfl,λ_ w' hr=>Zqn w' x.wv y.wv _ _ (hr.at_ 3 rfl) (hr.at_ 8 rfl) h2,?_⟩;simp only[QQ,Nat.reduceAdd,qy3,qy4];refine⟨[.b (decide (x.wat=y.wat))],rfl,λ_ w' hr=>Zka w' x.av y.av _ _ (hr.at_ 6 rfl) (hr.at_ 11 rfl) (by omega),?_⟩;simp only[QQ,Nat.reduceAdd,qy3,qy4,decide_eq_true_eq];have hsl:x.tel.sess=y.tel.sess->x.sx.length=y.sx.length:=λe=>by have:=congrArg List.length e;simpa[TelX.tel]using this
  refine⟨λh w' hr=>⟨?_,hr.mod⟩,λh=>?_⟩
  . have:¬Zoj x.tel y.tel=true:=λhh=>by
      obtain⟨a,b,c,d,e⟩:=of_decide_eq_true hh;have:=hsl e;rcases h with(((h|h)|h)|h)|h
      . exact h a
      . exact h b
      . exact h c
      . exact h d
      . omega
    rw[Bool.eq_false_iff.2 this]
  . have hn:x.next=y.next:=Classical.byContradiction λh6=>h (.inl (.inl (.inl (.inl h6))));have hk:x.kept=y.kept:=Classical.byContradiction λh6=>h (.inl (.inl (.inl (.inr h6))));have hw:x.wants=y.wants:=Classical.byContradiction λh6=>h (.inl (.inl (.inr h6)));have ha:x.wat=y.wat:=Classical.byContradiction λh6=>h (.inl (.inr h6));have hl:x.sx.length=y.sx.length:=by
      have:(x.sx.length:Int)=y.sx.length:=Classical.byContradiction λh6=>h (.inr h6);omega
    clear h;refine⟨λvs=>∃(i:Nat) (u:V),vs=[u,.i i]/\i<=x.sx.length/\∀j,j<i->(x.sx.getD j sxD).1=(y.sx.getD j sxD).1,λvs=>x.sx.length - (vs.getD 1 (.i 0)).toI.toNat,⟨0,_,rfl,by omega,λj hj=>by omega⟩,?_⟩;rintro _ - ⟨i,u,rfl,hi,hall⟩;simp only[QQ,Nat.reduceAdd,qy3,qy4];refine⟨λh6=>⟨by omega,by omega,?_⟩,λh6 w' hr=>⟨?_,hr.mod⟩⟩
    . have hi1:i<x.sx.length:=by omega
      have hi2:i<y.sx.length:=by omega
      have r1:=Zbt hi1;have r2:=Zbt hi2;have m1:=Z7i hi1;refine⟨[.b (decide ((x.sx.getD i sxD).1=(y.sx.getD i sxD).1))],rfl,λ_ w' hr=>?_,?_⟩
      . have n1:=Zz (hr.at_ 5 rfl:(Z6 x.sx x.ox).holds w') m1;have n2:=Zz (hr.at_ 10 rfl:(Z6 y.sx y.ox).holds w') (Z7i hi2);refine Z1 (Zkb w' (x.sx.getD i sxD).1 (y.sx.getD i sxD).1 (x.sx.getD i sxD).2.1 (x.sx.getD i sxD).2.2 (y.sx.getD i sxD).2.1 (y.sx.getD i sxD).2.2 n1.1 n1.2 n2.1 n2.2 (h5 _ m1).1 (h5 _ m1).2) ?_;simp only[QQ,Nat.reduceAdd,qy3,qy4,r1,r2,Zg,List.getD_cons_zero,List.getD_cons_succ,Value.gI,Value.gB,Value.gS,Z1p,sesV]
      simp only[QQ,Nat.reduceAdd,qy3,qy4,decide_eq_true_eq];refine⟨λh7 w' hr=>⟨?_,hr.mod⟩,λh7=>⟨by omega,by omega,⟨i+1,u,rfl,by omega,λj hj=>?_⟩,by omega⟩⟩
      . have:¬Zoj x.tel y.tel=true:=λhh=>by
          obtain⟨-,-,-,-,e⟩:=of_decide_eq_true hh;have e2:=congrArg (λl:List Ses=>l.getD i s0) e;simp only[TelX.tel,Zpy]at e2;exact h7 e2
        rw[Bool.eq_false_iff.2 this]
      . by_cases hji:j=i
        . rw[hji];exact qy9.1 h7
        . exact hall j (by omega)
    . have hie:i=x.sx.length:=by omega
      have:Zoj x.tel y.tel=true:=decide_eq_true ⟨hn,hk,hw,ha,Z1bh hl (λj hj=>hall j (by omega))⟩;rw[this]
theorem Zln{α:Type}(f:α->List UInt8):∀l:List α,(∀a,1<=(f a).length)->l.length<=(l.map f).flatten.length
 | [],_=>by simp
 | a::l,h=>by have h1:=Zln f l h;have h2:=h a;simp only[List.map_cons,List.flatten_cons,qy11,List.length_cons];omega
theorem Zda{p:Pkt}(h:chkP p=0):SmallP p:=by obtain⟨hf,hl⟩:=Zsb h;simp only[Z7e,qy11]at hl;have h1:=Zln (numB 1) p.codes (λa=>by rw[Zw];exact Nat.le_refl _);have h2:=Zln (Z2v p.kind) p.asks (λa=>by unfold Z2v txtB;split<;>simp[Zw]<;>omega);exact⟨by have:=hf.client;omega,by have:=hf.topic;omega,by omega,by omega,by omega,λa ha=>by have:=(hf.asks a ha).1;omega⟩
theorem Snt.eq_iff{a b:Snt}:a=b↔a.client=b.client/\a.peer=b.peer/\a.pk=b.pk/\(a.msg.kind=b.msg.kind/\a.msg.code=b.msg.code/\a.msg.id=b.msg.id/\a.msg.tok=b.msg.tok/\a.msg.pay=b.msg.pay/\a.msg.opts=b.msg.opts):=by obtain⟨c,p,n,k,d,i,t,o,y⟩:=a;obtain⟨c',p',n',k',d',i',t',o',y'⟩:=b;simp only[Snt.mk.injEq,Msg.mk.injEq];exact⟨λ⟨a,b,c,d,e,f,g,h,i⟩=>⟨a,c,b,d,e,f,g,i,h⟩,λ⟨a,c,b,d,e,f,g,i,h⟩=>⟨a,b,c,d,e,f,g,h,i⟩⟩
noncomputable def Z16m(a b:List Snt):Bool:=@decide (a=b) (Classical.propDecidable _)
theorem Zha{a b:List Snt}:Z16m a b=true↔a=b:=@decide_eq_true_iff _ (Classical.propDecidable _)
def Z17p(l:List SntX):Prop:=∀t∈l,SmallP t.1.pk/\t.1.msg.opts.length<1099511627776
theorem Z12g{l:List SntX}(h:Z1q (l.map (·.1))):Z17p l:=λt ht=>by
 rcases h t.1 (List.mem_map_of_mem ht)with⟨-,h1,h2⟩|⟨-,h1,h2,-⟩
 ·have:=(Z9k.1 h1).2.2.1;exact⟨by rw[h2];exact⟨by decide,by decide,by decide,by decide,by decide,λa ha=>by cases ha⟩,by omega⟩
 ·exact⟨Zda h1,by rw[h2];decide⟩
theorem Z1bi{a b:List SntX}(hl:a.length=b.length)(h:∀i,i<a.length->(a.getD i sntD).1=(b.getD i sntD).1):a.map (·.1)=b.map (·.1):=by refine List.ext_getElem (by simpa using hl) λi h1 h2=>?_;rw[qy3]at h1 h2;have:=h i h1;rw[qy1,qy1,qy7 h1,qy7 h2]at this;simpa using this
theorem Z1fm(l:List SntX)(i:Nat):(l.map (·.1)).getD i sntD.1=(l.getD i sntD).1:=by rw[qy1,qy1,List.getElem?_map];cases l[i]?<;>rfl
theorem Zwe(w:World)(x y:Value)(a b:List SntX)(sx sy:List SesX)(hx:reads w x kSn (a.map Z1r))(hy:reads w y kSn (b.map Z1r))(nx_Z:(Z6 sx a).holds w)(ny:(Z6 sy b).holds w)(hs:Z17p a)(hl:a.length<1000000000) : Calls Tryz.prog 19 #[sc1 x,sc1 y] w λe w'=>e=.returned (.bool (Z16m (a.map (·.1)) (b.map (·.1))))/\Mod [] w w':=by
  refine Z1 (Z3 (J:=[.v x,.r (a.map Z1r),.a (Z6 sx a),.v y,.r (b.map Z1r),.a (Z6 sy b)]) sxE_ok Tryz.func19 Z67 rfl rfl
    (Rel.start2 (qy2.2 ⟨⟨hx,rfl⟩,qy2.2 ⟨⟨nx_Z,rfl⟩,qy2.2 ⟨⟨hy,rfl⟩,qy2.2 ⟨⟨ny,rfl⟩,qy5 _⟩⟩⟩⟩)) rfl rfl ?_) rfl
  simp only[QQ,Nat.reduceAdd,qy3,qy4];have hlen:a.map (·.1)=b.map (·.1)->a.length=b.length:=λe=>by have:=congrArg List.length e;simpa using this
  have no:¬a.map (·.1)=b.map (·.1)->Z16m (a.map (·.1)) (b.map (·.1))=false:=λh=>Bool.eq_false_iff.2 λh2=>h (Zha.1 h2);refine⟨λh w' hr=>⟨by rw[no λe=>h (by rw[hlen e])],hr.mod⟩,λh=>?_⟩;have h:a.length=b.length:=by omega
  refine⟨λvs=>∃(i:Nat) (u:V),vs=[u,.i i]/\i<=a.length/\∀j,j<i->(a.getD j sntD).1=(b.getD j sntD).1,λvs=>a.length - (vs.getD 1 (.i 0)).toI.toNat,⟨0,_,rfl,by omega,λj hj=>by omega⟩,?_⟩;rintro _ - ⟨i,u,rfl,hi,hall⟩;simp only[QQ,Nat.reduceAdd,qy3,qy4];refine⟨λh6=>⟨by omega,by omega,?_⟩,λh6 w' hr=>⟨?_,hr.mod⟩⟩
  . have hi1:i<a.length:=by omega
    have hi2:i<b.length:=by omega
    have r1:=Z1ap hi1;have r2:=Z1ap hi2;have m1:=Z1aq hi1;have m2:=Z1aq hi2;have hne:¬(a.getD i sntD).1=(b.getD i sntD).1->Z16m (a.map (·.1)) (b.map (·.1))=false:=λh7=>no λe=>h7 (by have e2:=congrArg (λl:List Snt=>l.getD i sntD.1) e;simp only[Z1fm]at e2;exact e2)
    simp only[r1,r2,Z1r,List.getD_cons_zero,List.getD_cons_succ,Value.gI,Value.gB,Value.gS,Z1p];generalize ga:a.getD i sntD=ta at *
    generalize gb:b.getD i sntD=tb at *
    obtain⟨⟨ac,ap,an,am⟩,a1,a2,a3⟩:=ta;obtain⟨⟨bc,bp,bn,bm⟩,b1,b2,b3⟩:=tb;have hsm:=hs _ m1;simp only[Snt.eq_iff]at hne;simp only at hsm⊢;refine⟨[.b (decide (ap=bp))],rfl,λ_ w' hr=>?_,?_⟩
    . have n1:=Z7h (hr.at_ 1 rfl:(Z6 sx a).holds w') m1;have n2:=Z7h (hr.at_ 3 rfl:(Z6 sy b).holds w') m2;exact Z1 (Zhx w' ap bp a1 a2 b1 b2 n1.1 n1.2.1 n2.1 n2.2.1 hsm.1) rfl
    simp only[QQ,Nat.reduceAdd,qy3,qy4];refine⟨[.b (decide (am.kind=bm.kind/\am.code=bm.code/\am.id=bm.id/\am.tok=bm.tok/\am.pay=bm.pay/\am.opts=bm.opts))],rfl,λ_ w' hr=>?_,?_⟩
    . have n1:=Z7h (hr.at_ 1 rfl:(Z6 sx a).holds w') m1;have n2:=Z7h (hr.at_ 3 rfl:(Z6 sy b).holds w') m2;exact Z1 (Zku w' am bm a3 b3 n1.2.2 n2.2.2 hsm.2) rfl
    simp only[QQ,Nat.reduceAdd,qy3,qy4,decide_eq_true_eq];refine⟨λh7 w' hr=>⟨?_,hr.mod⟩,λh7=>⟨by omega,by omega,⟨i+1,u,rfl,by omega,λj hj=>?_⟩,by omega⟩⟩
    . rw[hne];rintro⟨q1,q2,q3,q4⟩;rcases h7 with((h7|h7)|h7)|h7
      . exact h7 q1
      . exact h7 q2
      . exact h7 q3
      . exact h7 q4
    . by_cases hji:j=i
      . rw[hji,ga,gb];exact Snt.eq_iff.2 ⟨Classical.byContradiction λh8=>h7 (.inl (.inl (.inl h8))),Classical.byContradiction λh8=>h7 (.inl (.inl (.inr h8))),Classical.byContradiction λh8=>h7 (.inl (.inr h8)),Classical.byContradiction λh8=>h7 (.inr h8)⟩
      . exact hall j (by omega)
  . have hie:i=a.length:=by omega
    rw[Zha.2 (Z1bi h (λj hj=>hall j (by omega)))]
end Go.Proofs.Y
namespace Go.Proofs.Y
open Go.Sx
def sA:Ses:=⟨[97,110,110],true,false,[],[],65535⟩
theorem Z1e7(w:World):Calls Tryz.prog 52 #[] w λe w'=>e=.returned (sesV sA (.slice none 0 0) (.slice none 0 0))/\Mod [] w w':=by refine Z1 (Z7 (J:=[]) sxE_ok Tryz.func52 Z8h rfl rfl rfl ?_) rfl;simp only[QQ,Nat.reduceAdd];exact λb w' hr=>⟨rfl,hr.mod⟩
open Go
structure SmlT(t:Tel):Prop where
 kept:Zfz t.kept
 keptL:t.kept.length<1000000000
 wants:Z30 t.wants
 wantsL:t.wants.length<1000000000
 sess:∀s∈t.sess,Zgu s
 sessL:t.sess.length<1000000
 wat:Z78 t.wat
 watL:t.wat.length<1000000000
theorem SmlT.b{x:TelX}(h:SmlT x.tel):SmlB x :=
 ⟨h.kept,h.keptL,h.wants,h.wantsL,λt ht=>h.sess _ (List.mem_map_of_mem ht),by have:=h.sessL;rw[show x.tel.sess.length=x.sx.length by simp[TelX.tel]]at this;exact this,h.wat,h.watL⟩
theorem SmlT.f{x:TelX}(h:SmlT x.tel):∀t∈x.sx,t.1.fl.length<1000000000/\t.1.qu.length<1000000000:=λt ht=>by have:=h.sess _ (List.mem_map_of_mem ht);exact⟨this.2.2.1,this.2.2.2.1⟩
theorem Zhb{f:Fl}(h:flE f=0):f.2.1.length<4294967281:=by
 unfold flE at h;split at h
 ·rename_i h1;have:=(Za3.1 h1).2.1.1;omega
 ·exact absurd h (by assumption)
theorem Z12h{s:Ses}(h:SesOk s):Zgu s:=by have h1:=h.nf;have h2:=h.nq;have h3:=h.cl;unfold Zd at h3;rw[Bool.and_eq_true,decide_eq_true_eq]at h3;exact⟨λx hx=>Zhb (h.fl.each x hx).1,λx hx=>Zhb (h.qu x hx).1,by omega,by omega,by omega⟩
theorem Z12i{l:List Wat}(h:Z10 l=0):Z78 l:=λx hx=>by
 have h1:=((Z1a.1 h).2.1 x hx).1;unfold Z3w at h1
 (repeat' split at h1)<;>first|(have:=(Za3.1 h1).2.1.1;omega)|simp at h1
theorem SmlT.of{t:Tel}(h:BOk t):SmlT t:=by obtain⟨k1,k2,-⟩:=Z17.1 h.kept;have h3:=(Z1i.1 h.wants).1;have h4:=(Z1a.1 h.wat).1;have h5:=h.ns;exact⟨λx hx=>by have:=(Za3.1 (k2 x hx).1).2.1.1;omega,by omega,Zd3 h.wants,by omega,λs hs=>Z12h (h.ses s hs),by omega,Z12i h.wat,by omega⟩
abbrev TelX.bare(y:TelX):TelX:={ y with ox:=[],ov:=.slice none 0 0 }
theorem Z1c{w:World}{y:TelX}(h:(Z6 y.sx y.ox).holds w):(Z6 y.sx []).holds w:=Z19 (λt ht=>.inl ht) (λt ht=>(List.not_mem_nil ht).elim) h
theorem Z7v(y:TelX):y.bare.tel={ y.tel with out:=[] }:=rfl
theorem Z7w{J:List V}{es:List Ent}(h:∀e∈es,e.wr=false):Zp J es:=by
 induction es with
 | nil=>exact List.Pairwise.nil
 | cons a es ih =>
  refine List.pairwise_cons.2 ⟨λb hb hw=>?_,ih λe he=>h e (qy10 _ he)⟩;rw[h a (qy8 ..),h b (qy10 _ hb)]at hw;rcases hw with hw|hw<;>cases hw
abbrev brV(y:TelX)(e:Int):List V:=[.v y.kv,.r (y.kept.map encK),.v y.wv,.r (y.wants.map Zb),.v y.sv,.r (y.sx.map Zg),.v y.av,.r (y.wat.map Z8),.i y.next,.v y.ov,.r (y.ox.map Z1r),.i e,.a (Z6 y.sx y.ox)]
abbrev brEs(n:Nat):List Ent:=[.rd n kK (.var (n+1)),.rd (n+2) kW_V (.var (n+3)),.rd (n+4) kSx (.var (n+5)),.rd (n+6) kW_K (.var (n+7)),.rd (n+9) kSn (.var (n+10)),.st (n+12)]
abbrev gnV(y:TelX)(e:Int):List V:=[.v y.kv,.r (y.kept.map encK),.v y.wv,.r (y.wants.map Zb),.v y.sv,.r (y.sx.map Zg),.v y.av,.r (y.wat.map Z8),.i y.next,.i e,.a (Z6 y.sx y.ox)]
abbrev gnEs(n:Nat):List Ent:=[.rd n kK (.var (n+1)),.rd (n+2) kW_V (.var (n+3)),.rd (n+4) kSx (.var (n+5)),.rd (n+6) kW_K (.var (n+7)),.st (n+10)]
abbrev smV(y:TelX):List V:=[.v y.kv,.r (y.kept.map encK),.v y.wv,.r (y.wants.map Zb),.v y.sv,.r (y.sx.map Zg),.v y.av,.r (y.wat.map Z8),.i y.next,.a (Z6 y.sx y.ox)]
abbrev smEs(n:Nat):List Ent:=[.rd n kK (.var (n+1)),.rd (n+2) kW_V (.var (n+3)),.rd (n+4) kSx (.var (n+5)),.rd (n+6) kW_K (.var (n+7)),.st (n+9)]
section
variable {P:Program} {f:Nat} {args:Array Value} {w:World} {B:Base} {J:List V} {hp:List Ent}
theorem Z1e8{y:TelX}{e:Int}{n m:Nat}{w1:World}{Q:Ent->Nat->Prop}(hn:J.length=n)(h:RdB m w1 y):∀x∈brEs n,x.holds (J++brV y e) w1/\∀k,x.fp (J++brV y e) k->m<=k\/Q x k:=by
 have g:=Zd6 (vs:=brV y e) hn;have g0:(J++brV y e).getD n (.i 0)=.v y.kv:=g 0;refine qy2.2 ⟨⟨?_,λk hk=>.inl ?_⟩,qy2.2 ⟨⟨?_,λk hk=>.inl ?_⟩,qy2.2 ⟨⟨?_,λk hk=>.inl ?_⟩,qy2.2 ⟨⟨?_,λk hk=>.inl ?_⟩,qy2.2 ⟨⟨?_,λk hk=>.inl ?_⟩,qy2.2 ⟨⟨?_,λk hk=>.inl ?_⟩,qy5 _⟩⟩⟩⟩⟩⟩ <;>
  simp only[Ent.holds,Ent.fp,X.ev,g0,g 1,g 2,g 3,g 4,g 5,g 6,g 7,g 9,g 10,g 12]at *
 ·exact h.kept
 ·exact h.nk k hk.1 hk.2
 ·exact h.want
 ·exact h.nw k hk.1 hk.2
 ·exact h.sess
 ·exact h.ns k hk.1 hk.2
 ·exact h.wat
 ·exact h.na k hk.1 hk.2
 ·exact h.out
 ·exact h.no k hk.1 hk.2
 ·exact h.nest
 ·exact h.nn k hk
theorem Z1e9{y:TelX}{e:Int}{n m:Nat}{w1:World}{Q:Ent->Nat->Prop}(hn:J.length=n)(h:RdB m w1 y):∀x∈gnEs n,x.holds (J++gnV y e) w1/\∀k,x.fp (J++gnV y e) k->m<=k\/Q x k:=by
 have g:=Zd6 (vs:=gnV y e) hn;have g0:(J++gnV y e).getD n (.i 0)=.v y.kv:=g 0;refine qy2.2 ⟨⟨?_,λk hk=>.inl ?_⟩,qy2.2 ⟨⟨?_,λk hk=>.inl ?_⟩,qy2.2 ⟨⟨?_,λk hk=>.inl ?_⟩,qy2.2 ⟨⟨?_,λk hk=>.inl ?_⟩,qy2.2 ⟨⟨?_,λk hk=>.inl ?_⟩,qy5 _⟩⟩⟩⟩⟩ <;>
  simp only[Ent.holds,Ent.fp,X.ev,g0,g 1,g 2,g 3,g 4,g 5,g 6,g 7,g 10]at *
 ·exact h.kept
 ·exact h.nk k hk.1 hk.2
 ·exact h.want
 ·exact h.nw k hk.1 hk.2
 ·exact h.sess
 ·exact h.ns k hk.1 hk.2
 ·exact h.wat
 ·exact h.na k hk.1 hk.2
 ·exact h.nest
 ·exact h.nn k hk
theorem Z1ea{y:TelX}{n m:Nat}{w1:World}{Q:Ent->Nat->Prop}(hn:J.length=n)(h:RdB m w1 y):∀x∈smEs n,x.holds (J++smV y) w1/\∀k,x.fp (J++smV y) k->m<=k\/Q x k:=by
 have g:=Zd6 (vs:=smV y) hn;have g0:(J++smV y).getD n (.i 0)=.v y.kv:=g 0;refine qy2.2 ⟨⟨?_,λk hk=>.inl ?_⟩,qy2.2 ⟨⟨?_,λk hk=>.inl ?_⟩,qy2.2 ⟨⟨?_,λk hk=>.inl ?_⟩,qy2.2 ⟨⟨?_,λk hk=>.inl ?_⟩,qy2.2 ⟨⟨?_,λk hk=>.inl ?_⟩,qy5 _⟩⟩⟩⟩⟩ <;>
  simp only[Ent.holds,Ent.fp,X.ev,g0,g 1,g 2,g 3,g 4,g 5,g 6,g 7,g 9]at *
 ·exact h.kept
 ·exact h.nk k hk.1 hk.2
 ·exact h.want
 ·exact h.nw k hk.1 hk.2
 ·exact h.sess
 ·exact h.ns k hk.1 hk.2
 ·exact h.wat
 ·exact h.na k hk.1 hk.2
 ·exact h.nest
 ·exact h.nn k hk
theorem Ztw{e:Int}{t:Tel}(h0:Rel B J hp w)(n:Nat)(h:Calls P f args w λr w1=>Zl7 w w1 r e t)(hn:J.length=n) : Calls P f args w λr w1=>∃y:TelX,y.tel=t/\RdB w.heap.size w1 y/\r=.returned (.tuple #[bkV y,sc1 y.ov,.int .i64 e])/\Mod (Zm J [] []) w w1 /\ (∀x∈brEs n,x.holds (J++brV y e) w1/\∀k,x.fp (J++brV y e) k->w.heap.size<=k\/(x.wr=false/\∃y∈hp,y.wr=false/\y.fp J k)\/k∈Zt J [])/\Zp (J++brV y e) (brEs n):=by refine h.mono ?_;rintro r w1 ⟨y,hr,hy,hd,hm⟩;exact⟨y,hy,hd,hr,hm,Z1e8 hn hd,Z7w (by intro e he;simp only[List.mem_cons,List.not_mem_nil,or_false]at he;rcases he with rfl|rfl|rfl|rfl|rfl|rfl<;>rfl)⟩
theorem Z1eb{e:Int}{t:Tel}(h0:Rel B J hp w)(n:Nat)(h:Calls P f args w λr w1=>Zqc w w1 r e t)(hn:J.length=n) : Calls P f args w λr w1=>∃y:TelX,y.tel=t/\y.ox=[]/\RdB w.heap.size w1 y/\r=.returned (.tuple #[bkV y,.int .i64 e])/\Mod (Zm J [] []) w w1 /\ (∀x∈gnEs n,x.holds (J++gnV y e) w1/\∀k,x.fp (J++gnV y e) k->w.heap.size<=k\/(x.wr=false/\∃y∈hp,y.wr=false/\y.fp J k)\/k∈Zt J [])/\Zp (J++gnV y e) (gnEs n):=by refine h.mono ?_;rintro r w1 ⟨y,hr,ho,hy,hd,hm⟩;exact⟨y,hy,ho,hd,hr,hm,Z1e9 hn hd,Z7w (by intro e he;simp only[List.mem_cons,List.not_mem_nil,or_false]at he;rcases he with rfl|rfl|rfl|rfl|rfl<;>rfl)⟩
def Z12j(w w':World)(r:Ending)(t:Tel):Prop:=∃y:TelX,r=.returned (bkV y)/\y.ox=[]/\y.tel=t/\RdB w.heap.size w' y/\Mod [] w w'
theorem Zhc{t:Tel}(h0:Rel B J hp w)(n:Nat)(h:Calls P f args w λr w1=>Z12j w w1 r t)(hn:J.length=n) : Calls P f args w λr w1=>∃y:TelX,y.tel=t/\y.ox=[]/\RdB w.heap.size w1 y/\r=.returned (bkV y)/\Mod (Zm J [] []) w w1 /\ (∀x∈smEs n,x.holds (J++smV y) w1/\∀k,x.fp (J++smV y) k->w.heap.size<=k\/(x.wr=false/\∃y∈hp,y.wr=false/\y.fp J k)\/k∈Zt J [])/\Zp (J++smV y) (smEs n):=by refine h.mono ?_;rintro r w1 ⟨y,hr,ho,hy,hd,hm⟩;exact⟨y,hy,ho,hd,hr,hm,Z1ea hn hd,Z7w (by intro e he;simp only[List.mem_cons,List.not_mem_nil,or_false]at he;rcases he with rfl|rfl|rfl|rfl|rfl<;>rfl)⟩
end
theorem Z17q{w:World}{x:TelX}{c:List UInt8}{p:Pkt}{va vc:Value}(h:RdX w x)(ha:reads w va [.str,.int .i64] (p.asks.map encA))(hc:reads w vc [.int .i64] (p.codes.map Zh)) : Rel ⟨[],w⟩ (bkA x++Z6s c p va vc) (bkH++[.rd 23 [.str,.int .i64] (.var 24),.rd 25 [.int .i64] (.var 26)]) w :=
 Rel.start2 (qy2.2 ⟨⟨h.kept,rfl⟩,qy2.2 ⟨⟨h.want,rfl⟩,qy2.2 ⟨⟨h.sess,rfl⟩,qy2.2 ⟨⟨h.nest,rfl⟩,qy2.2 ⟨⟨h.wat,rfl⟩,qy2.2 ⟨⟨ha,rfl⟩,qy2.2 ⟨⟨hc,rfl⟩,qy5 _⟩⟩⟩⟩⟩⟩⟩)
theorem Z17r{w:World}{x:TelX}{n:Int}{m:Msg}{mv:Value}(h:RdX w x)(ha:reads w mv [.int .i64,.str] (m.opts.map encO)):Rel ⟨[],w⟩ (bkA x++([.i n]++mgV m mv)) (bkH++[.rd 15 [.int .i64,.str] (.var 16)]) w :=
 Rel.start2 (qy2.2 ⟨⟨h.kept,rfl⟩,qy2.2 ⟨⟨h.want,rfl⟩,qy2.2 ⟨⟨h.sess,rfl⟩,qy2.2 ⟨⟨h.nest,rfl⟩,qy2.2 ⟨⟨h.wat,rfl⟩,qy2.2 ⟨⟨ha,rfl⟩,qy5 _⟩⟩⟩⟩⟩⟩)
theorem Z1ec{w:World}{x:TelX}{c:List UInt8}(h:RdX w x):Rel ⟨[],w⟩ (bkA x++[.s c]) bkH w :=
 Rel.start2 (qy2.2 ⟨⟨h.kept,rfl⟩,qy2.2 ⟨⟨h.want,rfl⟩,qy2.2 ⟨⟨h.sess,rfl⟩,qy2.2 ⟨⟨h.nest,rfl⟩,qy2.2 ⟨⟨h.wat,rfl⟩,qy5 _⟩⟩⟩⟩⟩)
def smT:Tel:=⟨kA,wA.take 2,[sA],wL.take 1,0,[]⟩
theorem Z1bj(w:World):(Z6 [((sA,.slice none 0 0,.slice none 0 0):SesX)] []).holds w :=
 Z19 (l:=[]) (o:=[]) (λt ht=>.inr (by rw[qy12.1 ht];exact⟨Z9 w _,Z9 w _⟩)) (λt ht=>.inl ht) (Z7q w)
theorem Zwf:∀j,¬(Z6 [((sA,.slice none 0 0,.slice none 0 0):SesX)] []).fp j:=λj hj=>by
 rcases Zc.1 hj with⟨t,ht,h⟩|⟨t,ht,-⟩
 ·rw[qy12.1 ht]at h;rcases h with h|h<;>exact h.1 rfl
 ·cases ht
theorem Zag(w:World):Calls Tryz.prog 22 #[] w λr w'=>Z12j w w' r smT:=by
 refine Z1 (Zmk (J:=[]) (sxE_ok.joins _) Tryz.func22 Z8d rfl rfl (Rel.start w []) rfl rfl ?_) rfl;simp only[QQ,Nat.reduceAdd,qy3,qy4];intro b0;refine⟨λvs=>∃u1 u3 u5 u14 u15 u17:Value,vs=[.v u1,.r (kA.map encK),.v u3,.r (wA.map Zb),.v u5,.s sA.cl,.b sA.on,.b sA.clean,.v (.slice none 0 0),.r [],.v (.slice none 0 0),.r [],.i sA.next,.v u14,.v u15,.r (wL.map Z8),.v u17,.r ((wL.take 1).map Z8),.r [Zg (sA,.slice none 0 0,.slice none 0 0)],.r ((wA.take 2).map Zb)] /\
  (∀k,Z2 u1 k->w.heap.size<=k)/\(∀k,Z2 u5 k->w.heap.size<=k)/\(∀k,Z2 u17 k->w.heap.size<=k),?_,?_⟩
 ·repeat' first
   | (intro w1 hr1;refine(Z1d6 w1).mono ?_;rintro e w2 ⟨u1,rfl,a1,f1,m1⟩;refine⟨[.v u1,.r (kA.map encK)],rfl,rfl,m1,qy5 _,qy2.2 ⟨⟨a1,λk hk=>.inl (f1 k hk.2)⟩,qy5 _⟩,Z5,?_⟩;have g1:∀k,Z2 u1 k->w.heap.size<=k:=λk hk=>Nat.le_trans hr1.mod.size (f1 k hk);clear hr1 a1 f1 m1)
   | (intro w1 hr1;refine(Z19p w1).mono ?_;rintro e w2 ⟨u3,rfl,a1,f1,m1⟩;refine⟨[.v u3,.r (wA.map Zb)],rfl,rfl,m1,qy5 _,qy2.2 ⟨⟨a1,λk hk=>.inl (f1 k hk.2)⟩,qy5 _⟩,Z5,?_⟩;have g3:∀k,Z2 u3 k->w.heap.size<=k:=λk hk=>Nat.le_trans hr1.mod.size (f1 k hk);clear hr1 a1 f1 m1)
   | (intro w1 hr1;refine(Z10d w1).mono ?_;rintro e w2 ⟨u15,rfl,a1,f1,m1⟩;refine⟨[.v u15,.r (wL.map Z8)],rfl,rfl,m1,qy5 _,qy2.2 ⟨⟨a1,λk hk=>.inl (f1 k hk.2)⟩,qy5 _⟩,Z5,?_⟩;have g15:∀k,Z2 u15 k->w.heap.size<=k:=λk hk=>Nat.le_trans hr1.mod.size (f1 k hk);clear hr1 a1 f1 m1)
   | (intro w1 hr1;refine(Z1e7 w1).mono ?_;rintro e w2 ⟨rfl,m1⟩;refine⟨[.s sA.cl,.b sA.on,.b sA.clean,.v (.slice none 0 0),.r [],.v (.slice none 0 0),.r [],.i sA.next],rfl,rfl,m1,qy5 _,qy2.2 ⟨⟨Z9 w2 _,λk hk=>absurd rfl hk.1⟩,qy2.2 ⟨⟨Z9 w2 _,λk hk=>absurd rfl hk.1⟩,qy5 _⟩⟩,Z7w (by simp[Ent.wr]),?_⟩;clear hr1 m1)
   | (refine⟨(by show(2:Int)<=((wA.map Zb).length:Int);decide),?_⟩)
   | (refine⟨(by show(1:Int)<=((wL.map Z8).length:Int);decide),?_⟩)
   | (refine And.intro ?_ ?_)
   | (intro u5 h5;have g5:∀k,Z2 u5 k->w.heap.size<=k:=λk hk=>g3 k (h5 k hk);clear h5)
   | (intro u17 h17;have g17:∀k,Z2 u17 k->w.heap.size<=k:=λk hk=>g15 k (h17 k hk);clear h17)
   | (intro u14 h14;clear h14)
   | exact⟨_,_,_,_,_,_,rfl,g1,g5,g17⟩
 ·rintro _ - ⟨u1,u3,u5,u14,u15,u17,rfl,g1,g5,g17⟩;simp only[QQ,Nat.reduceAdd,qy3,qy4];intro w3 hr3;refine⟨⟨kA,wA.take 2,[(sA,.slice none 0 0,.slice none 0 0)],wL.take 1,0,[],u1,u5,u14,u17,.slice none 0 0⟩,rfl,rfl,rfl,⟨hr3.at_ 7 rfl,hr3.at_ 5 rfl,(hr3.at_ 2 rfl:owns _ _ _ _ _).reads,hr3.at_ 0 rfl,Z9 _ _,Z1bj _,λj _ h=>g1 j h,λj _ h=>g5 j h,λj _ h=>Z20 hr3 2 rfl j h,λj _ h=>g17 j h,λj h=>absurd rfl h,λj hj=>absurd hj (Zwf j)⟩,hr3.mod⟩
end Go.Proofs.Y
namespace Go.Proofs.Y
open Go Go.Sx
def runA(l:List SesX)(L:List AllX):Asrt:=rdsZ (nest l []++L.flatMap allT)
theorem Z2i{l:List SesX}{L:List AllX}{w:World}:(runA l L).holds w↔(Z6 l []).holds w/\(allA L).holds w :=
 ⟨λh=>⟨λt ht=>h t (List.mem_append_left _ ht),λt ht=>h t (List.mem_append_right _ ht)⟩,λh t ht=>(qy13.1 ht).elim (h.1 t) (h.2 t)⟩
theorem Z7x{l:List SesX}{L:List AllX}{k:Nat}:(runA l L).fp k↔(Z6 l []).fp k\/(allA L).fp k :=
 ⟨λ⟨t,ht,hk⟩=>(qy13.1 ht).imp (λh=>⟨t,h,hk⟩) (λh=>⟨t,h,hk⟩),λh=>h.elim (λ⟨t,ht,hk⟩=>⟨t,List.mem_append_left _ ht,hk⟩) (λ⟨t,ht,hk⟩=>⟨t,List.mem_append_right _ ht,hk⟩)⟩
theorem Z1fn{B:Base}{J:List V}{v ty v' ty':Nat}{ks ks':List Kd}{r r':X}{hp:List Ent}{w:World}(h:Rel B J (.row v ty ks r::.row v' ty' ks' r'::hp) w):Rel B J (.rd v ks r::.rd v' ks' r'::hp) w :=
  (toRd h.tl).cons (owns.reads h.hd) (λhw=>Bool.noConfusion hw) (λe' he' _ k hk hk'=>by
    rcases List.mem_cons.1 he' with rfl|he'
    . exact(List.pairwise_cons.1 h.sep).1 _ (qy8 ..) (.inl rfl) k hk.2 hk'.2
    . exact(List.pairwise_cons.1 h.sep).1 e' (qy10 _ he') (.inl rfl) k hk.2 hk')
theorem Ztx{B:Base}{J:List V}{hp:List Ent}{w:World}(h:Rel B J hp w)(hb:hp.all (Ent.bd J.length)=true)(ty:Nat)(ks:List Kd):Rel B (J++[.v (.slice none 0 0),.r []]) (.row J.length ty ks (.var (J.length+1))::hp) w:=by
 have g0:(J++[V.v (.slice none 0 0),.r []]).getD J.length (.i 0)=.v (.slice none 0 0):=by simp[qy1]
 have g1:(J++[V.v (.slice none 0 0),.r []]).getD (J.length+1) (.i 0)=.r []:=by simp[qy1]
 have hf:∀k,¬Ent.fp (J++[V.v (.slice none 0 0),.r []]) k (.row J.length ty ks (.var (J.length+1))):=λk hk=>by simp only[Ent.fp,g0,V.toV_v,Z2,Value.ownBlock]at hk;cases hk
 refine(h.ext (Zx.app J _) hb).cons ?_ (λ_ k hk=>absurd hk (hf k)) (λ_ _ _ k hk _=>absurd hk (hf k));simp only[Ent.holds,X.ev,g0,g1,V.toV_v,V.toR_r];exact⟨by simp,World.ownsRow_nil _ _ _ _⟩
def Zlo(w w':World)(e:Ending)(f:Int)(t:Tel×List Rst):Prop :=
 ∃(y:TelX) (r:List Rst) (rv:Value),e=.returned (.tuple #[bkV y,sc1 rv,sc1 y.ov,.int .i64 f])/\(y.tel,r)=t/\RdB w.heap.size w' y/\reads w' rv kR (r.map Z5l)/\(∀j,(r.map Z5l).flatten≠[]->Z2 rv j->w.heap.size<=j)/\Mod [] w w'
abbrev spV(y:TelX)(r:List Rst)(rv:Value)(f:Int):List V:=[.v y.kv,.r (y.kept.map encK),.v y.wv,.r (y.wants.map Zb),.v y.sv,.r (y.sx.map Zg),.v y.av,.r (y.wat.map Z8),.i y.next,.v rv,.r (r.map Z5l),.v y.ov,.r (y.ox.map Z1r),.i f,.a (Z6 y.sx y.ox)]
abbrev spEs(n:Nat):List Ent:=[.rd n kK (.var (n+1)),.rd (n+2) kW_V (.var (n+3)),.rd (n+4) kSx (.var (n+5)),.rd (n+6) kW_K (.var (n+7)),.rd (n+9) kR (.var (n+10)),.rd (n+11) kSn (.var (n+12)),.st (n+14)]
structure RdR(n:Nat)(w:World)(y:TelX)(L:List AllX)(av:Value):Prop where
 rd:RdB n w y
 none:y.ox=[]
 all:reads w av kAl (L.map Zog)
 new:∀j,(L.map Zog).flatten≠[]->Z2 av j->n<=j
 nest:(runA y.sx L).holds w
 nn:∀j,(runA y.sx L).fp j->n<=j
def Zqo(w w':World)(e:Ending)(f:Int)(t:Tel)(T:List (List Snt)):Prop :=
 ∃(y:TelX) (L:List AllX) (av:Value),e=.returned (.tuple #[bkV y,sc1 av,.int .i64 f])/\y.tel=t/\L.map (λt=>t.1.map (·.1))=T/\RdR w.heap.size w' y L av/\Mod [] w w'
abbrev rnV(y:TelX)(L:List AllX)(av:Value)(f:Int):List V:=[.v y.kv,.r (y.kept.map encK),.v y.wv,.r (y.wants.map Zb),.v y.sv,.r (y.sx.map Zg),.v y.av,.r (y.wat.map Z8),.i y.next,.v av,.r (L.map Zog),.i f,.a (runA y.sx L)]
abbrev rnEs(n:Nat):List Ent:=[.rd n kK (.var (n+1)),.rd (n+2) kW_V (.var (n+3)),.rd (n+4) kSx (.var (n+5)),.rd (n+6) kW_K (.var (n+7)),.rd (n+9) kAl (.var (n+10)),.st (n+12)]
section
variable {P:Program} {f:Nat} {args:Array Value} {w:World} {B:Base} {J:List V} {hp:List Ent}
theorem Zhd{e:Int}{t:Tel×List Rst}(h0:Rel B J hp w)(n:Nat)(h:Calls P f args w λr w1=>Zlo w w1 r e t)(hn:J.length=n) : Calls P f args w λq w1=>∃(y:TelX) (r:List Rst) (rv:Value),(y.tel,r)=t/\RdB w.heap.size w1 y/\q=.returned (.tuple #[bkV y,sc1 rv,sc1 y.ov,.int .i64 e])/\Mod (Zm J [] []) w w1 /\ (∀x∈spEs n,x.holds (J++spV y r rv e) w1/\∀k,x.fp (J++spV y r rv e) k->w.heap.size<=k\/(x.wr=false/\∃y∈hp,y.wr=false/\y.fp J k)\/k∈Zt J [])/\Zp (J++spV y r rv e) (spEs n):=by
 refine h.mono ?_;rintro q w1 ⟨y,r,rv,hr,hy,hd,h1,h2,hm⟩;refine⟨y,r,rv,hy,hd,hr,hm,?_,Z7w (by intro e he;simp only[List.mem_cons,List.not_mem_nil,or_false]at he;rcases he with rfl|rfl|rfl|rfl|rfl|rfl|rfl<;>rfl)⟩;have g:=Zd6 (vs:=spV y r rv e) hn;have g0:(J++spV y r rv e).getD n (.i 0)=.v y.kv:=g 0;refine qy2.2 ⟨⟨?_,λk hk=>.inl ?_⟩,qy2.2 ⟨⟨?_,λk hk=>.inl ?_⟩,qy2.2 ⟨⟨?_,λk hk=>.inl ?_⟩,qy2.2 ⟨⟨?_,λk hk=>.inl ?_⟩,qy2.2 ⟨⟨?_,λk hk=>.inl ?_⟩,qy2.2 ⟨⟨?_,λk hk=>.inl ?_⟩,qy2.2 ⟨⟨?_,λk hk=>.inl ?_⟩,qy5 _⟩⟩⟩⟩⟩⟩⟩ <;>
  simp only[Ent.holds,Ent.fp,X.ev,g0,g 1,g 2,g 3,g 4,g 5,g 6,g 7,g 9,g 10,g 11,g 12,g 14]at *
 ·exact hd.kept
 ·exact hd.nk k hk.1 hk.2
 ·exact hd.want
 ·exact hd.nw k hk.1 hk.2
 ·exact hd.sess
 ·exact hd.ns k hk.1 hk.2
 ·exact hd.wat
 ·exact hd.na k hk.1 hk.2
 ·exact h1
 ·exact h2 k hk.1 hk.2
 ·exact hd.out
 ·exact hd.no k hk.1 hk.2
 ·exact hd.nest
 ·exact hd.nn k hk
theorem Zc5{e:Int}{t:Tel}{T:List (List Snt)}(h0:Rel B J hp w)(n:Nat)(h:Calls P f args w λr w1=>Zqo w w1 r e t T)(hn:J.length=n) : Calls P f args w λq w1=>∃(y:TelX) (L:List AllX) (av:Value),y.tel=t/\L.map (λt=>t.1.map (·.1))=T/\y.ox=[]/\q=.returned (.tuple #[bkV y,sc1 av,.int .i64 e])/\Mod (Zm J [] []) w w1 /\ (∀x∈rnEs n,x.holds (J++rnV y L av e) w1/\∀k,x.fp (J++rnV y L av e) k->w.heap.size<=k\/(x.wr=false/\∃y∈hp,y.wr=false/\y.fp J k)\/k∈Zt J [])/\Zp (J++rnV y L av e) (rnEs n):=by
 refine h.mono ?_;rintro q w1 ⟨y,L,av,hr,hy,hT,hd,hm⟩;refine⟨y,L,av,hy,hT,hd.none,hr,hm,?_,Z7w (by intro e he;simp only[List.mem_cons,List.not_mem_nil,or_false]at he;rcases he with rfl|rfl|rfl|rfl|rfl|rfl<;>rfl)⟩;have g:=Zd6 (vs:=rnV y L av e) hn;have g0:(J++rnV y L av e).getD n (.i 0)=.v y.kv:=g 0;refine qy2.2 ⟨⟨?_,λk hk=>.inl ?_⟩,qy2.2 ⟨⟨?_,λk hk=>.inl ?_⟩,qy2.2 ⟨⟨?_,λk hk=>.inl ?_⟩,qy2.2 ⟨⟨?_,λk hk=>.inl ?_⟩,qy2.2 ⟨⟨?_,λk hk=>.inl ?_⟩,qy2.2 ⟨⟨?_,λk hk=>.inl ?_⟩,qy5 _⟩⟩⟩⟩⟩⟩ <;>
  simp only[Ent.holds,Ent.fp,X.ev,g0,g 1,g 2,g 3,g 4,g 5,g 6,g 7,g 9,g 10,g 12]at *
 ·exact hd.rd.kept
 ·exact hd.rd.nk k hk.1 hk.2
 ·exact hd.rd.want
 ·exact hd.rd.nw k hk.1 hk.2
 ·exact hd.rd.sess
 ·exact hd.rd.ns k hk.1 hk.2
 ·exact hd.rd.wat
 ·exact hd.rd.na k hk.1 hk.2
 ·exact hd.all
 ·exact hd.new k hk.1 hk.2
 ·exact hd.nest
 ·exact hd.nn k hk
end
end Go.Proofs.Y
namespace Go.Proofs.Y
open Go.Sx
end Go.Proofs.Y
namespace Go.Proofs.Y
open Go.Sx
set_option maxRecDepth 10000 in
theorem Z16n(w:World)(s:List UInt8)(hs:s.length<1099511627776):Calls Tryz.prog 10 #[.string ⟨s.toArray⟩] w λe w'=>Z17n w w' e (dec s):=by
  refine Z1 (Z7 (J:=[.s s]) sxE_ok Tryz.func10 Z9y rfl rfl rfl ?_) rfl;simp only[QQ,Nat.reduceAdd];intro b1 b;have hh:=Z1ba s;generalize hR1:numM 1 s false=R1 at hh
  generalize hR2:numM 1 R1.2.1 R1.2.2=R2 at hh
  generalize hR3:numM 2 R2.2.1 R2.2.2=R3 at hh
  simp only[hR1,hR2,hR3]at hh;have hb1:0<=R1.1/\R1.1<256:=by have:=Zh6 (k:=1) s false (by omega);rw[hR1]at this;omega
  have hl1:R1.2.1.length<=s.length:=by rw[<- hR1];exact Zc4 _ _ _
  have hl2:R2.2.1.length<=R1.2.1.length:=by rw[<- hR2];exact Zc4 _ _ _
  have hl3:R3.2.1.length<=R2.2.1.length:=by rw[<- hR3];exact Zc4 _ _ _
  obtain⟨x,hx⟩:∃x:Nat,R1.1=x:=⟨R1.1.toNat,by omega⟩
  have hxb:x<256:=by omega
  intro w1 hr;refine(Z96 w1 b s false 1 (by omega) hs (hr.at_ 0 rfl)).mono ?_;rintro e w2 ⟨rfl,c1,c2⟩;rw[hR1]at c1;refine⟨[.i R1.1,.s R1.2.1,.b R1.2.2],rfl,by rw[hR1];rfl,c2,qy2.2 ⟨c1,qy5 _⟩,qy5 _,Ze,?_⟩;simp only[QQ,Nat.reduceAdd];intro w1 hr;refine(Z96 w1 b R1.2.1 R1.2.2 1 (by omega) (by omega) (hr.at_ 0 rfl)).mono ?_;rintro e w2 ⟨rfl,c1,c2⟩;rw[hR2]at c1;refine⟨[.i R2.1,.s R2.2.1,.b R2.2.2],rfl,by rw[hR2];rfl,c2,qy2.2 ⟨c1,qy5 _⟩,qy5 _,Ze,?_⟩;simp only[QQ,Nat.reduceAdd];intro b9;intro w1 hr;refine(Z96 w1 b R2.2.1 R2.2.2 2 (by omega) (by omega) (hr.at_ 1 rfl)).mono ?_;rintro e w2 ⟨rfl,c1,c2⟩;rw[hR3]at c1;refine⟨[.i R3.1,.s R3.2.1,.b R3.2.2],rfl,by rw[hR3];rfl,c2,qy2.2 ⟨c1,qy5 _⟩,qy5 _,Ze,?_⟩;simp only[QQ,Nat.reduceAdd];rw[hx,Z17m x hxb];intro w1 hr;refine(Ztq w1 b R3.2.1 R3.2.2 ((x % 16:Nat):Int) (by omega) (hr.at_ 1 rfl)).mono ?_;rintro e w2 ⟨rfl,c1,c2⟩;generalize hT4:Z3h ((x % 16:Nat):Int) R3.2.1 R3.2.2=T4 at c1⊢
  have hl4:T4.2.1.length<=s.length/\T4.1.length<=s.length:=by have:=Zoa ((x % 16:Nat):Int) R3.2.1 R3.2.2;rw[hT4]at this;omega
  have hsh4:T4.2.2=true->T4.2.1=[]:=by
    rcases hh with⟨_,h5,h6⟩|⟨h5,_,_,_,_,h6⟩
    . rw[h5,h6]at hT4;subst hT4;intro _;unfold Z3h;split<;>simp
    . rw[h6]at hT4;subst hT4;unfold Z3h;split
      . intro _;rfl
      . intro h;cases h
  refine⟨[.s T4.1,.s T4.2.1,.b T4.2.2],rfl,rfl,c2,qy2.2 ⟨c1,qy5 _⟩,qy5 _,Ze,?_⟩;simp only[QQ,Nat.reduceAdd];intro w1 hr;refine(Zw9 w1 b T4.2.1 T4.2.2 (by omega) hsh4 (hr.at_ 1 rfl)).mono ?_;rintro e w2 ⟨v,os,s',sh',rfl,hrd,hfr,c1,c2,hlo,hT⟩;have hfr1:Zga w.heap.size v os:=hfr.mono hr.mod.size;refine⟨[.v v,.r (os.map encO),.s s',.b sh'],rfl,rfl,c2,qy2.2 ⟨c1,qy5 _⟩,qy2.2 ⟨⟨hrd,λk hk=>.inl (hfr k hk)⟩,qy5 _⟩,Z5,?_⟩;have hfin:((sh'=true\/¬(x / 64=1)\/8<T4.1.length)->dec s=(mNil,1))/\(¬(sh'=true\/¬(x / 64=1)\/8<T4.1.length)->dec s=finM ⟨((x / 16 % 4:Nat):Int),R2.1,R3.1,T4.1,os,[]⟩ s'):=by
    rcases hh with⟨h4,h5,h6⟩|⟨h4,h5,h6,h7,h8,h9⟩
    . have hsh:T4.2.2=true:=by rw[h6]at hT4;rw[<- hT4];exact Z7u _ _
      rw[hsh,if_pos rfl]at hT;have hs':sh'=true:=by
        rcases hT with hT|hT
        . exact hT.1
        . exact absurd hT.2 (by simp)
      exact⟨λ_=>by rw[dec,if_pos h4],λh=>absurd (.inl hs') h⟩
    . have hx0:(s.getD 0 0).toNat=x:=by rw[hx]at h5;omega
      rw[h8,h9,Z3h,List.length_drop]at hT4;by_cases hn:s.length<4+x % 16
      . rw[if_pos (by omega)]at hT4;subst hT4;simp only[if_true]at hT;have hs':sh'=true:=by
          rcases hT with hT|hT
          . exact hT.1
          . exact absurd hT.2 (by simp)
        exact⟨λ_=>Zlk h4 (.inl (by rw[hx0];exact .inr (.inr hn))),λh=>absurd (.inl hs') h⟩
      . rw[if_neg (by omega)]at hT4;subst hT4;simp only[qy4,List.drop_drop,Bool.false_eq_true,if_false]at hT⊢;have hlen:(List.take (x % 16) (List.drop 4 s)).length=x % 16:=by simp;omega
        rw[hlen];have hcond:∀y:Prop,(¬(x / 64=1)\/8<x % 16->y)->(¬((s.getD 0 0).toNat / 64=1)\/8<(s.getD 0 0).toNat % 16\/s.length<4+(s.getD 0 0).toNat % 16)->y:=λy hy h=>by
          rw[hx0]at h;rcases h with h|h|h
          . exact hy (.inl h)
          . exact hy (.inr h)
          . exact absurd h hn
        refine⟨λh=>?_,λh=>?_⟩
        . by_cases hb:¬(x / 64=1)\/8<x % 16
          . refine Zlk h4 (.inl ?_);rw[hx0];rcases hb with hb|hb
            . exact .inl hb
            . exact .inr (.inl hb)
          . have hs':=h.resolve_right hb;refine Zlk h4 (.inr ?_);rw[hx0];rcases hT with hT|hT
            . exact hT.2
            . rw[hs']at hT;exact absurd hT.1 (by decide)
        . rcases hT with hT|hT
          . exact absurd (.inl hT.1) h
          . have:=Z16f h4 (λh2=>hcond _ id h2 |> λh3=>h (.inr h3)) (by rw[hx0];exact hT.2);rw[this,hx0,h6,h7]
  clear hT hh hT4 hR1 hR2 hR3;simp only[QQ,Nat.reduceAdd,qy3];rw[Z1e6 x hxb,Z1fj x hxb,Z1fi x hxb];refine⟨λh1=>?_,λh1=>?_⟩
  . obtain⟨c,p,rfl⟩:∃c p,s'=c::p:=by
      rcases s' with _|⟨c,p⟩
      . exact absurd rfl h1
      . exact⟨c,p,rfl⟩
    intro w1 hr;refine(Ztq w1 b (c::p) sh' 1 (by omega) (hr.at_ 2 rfl)).mono ?_;rintro e w2 ⟨rfl,c1,c2⟩;have e5:Z3h 1 (c::p) sh'=([c],p,sh'):=by rw[Z3h,if_neg (by simp only[List.length_cons];omega)];rfl
    rw[e5]at c1;refine⟨[.s [c],.s p,.b sh'],rfl,by rw[e5];rfl,c2,qy2.2 ⟨c1,qy5 _⟩,qy5 _,Ze,?_⟩;simp only[QQ,Nat.reduceAdd,qy3];refine⟨λh2 w' hr=>?_,λh2=>?_⟩
    . have:dec s=(mNil,1):=by
        by_cases h3:sh'=true\/¬(x / 64=1)\/8<T4.1.length
        . exact hfin.1 h3
        . rw[hfin.2 h3];have:p=[]:=by
            rcases h2 with((h2|h2)|h2)|h2
            . exact absurd (.inl h2) h3
            . exact h2
            . exact absurd (.inr (.inl (by omega))) h3
            . exact absurd (.inr (.inr (by omega))) h3
          rw[this];rfl
      rw[this];exact Z97 1 hr.mod
    . have hd:dec s=chkd ⟨((x / 16 % 4:Nat):Int),R2.1,R3.1,T4.1,os,p⟩:=by
        rw[hfin.2 (λh3=>h2 (by
          rcases h3 with h3|h3|h3
          . exact .inl (.inl (.inl h3))
          . exact .inl (.inr (by omega))
          . exact .inr (by omega)))]
        simp only[finM];rw[if_neg (λh3=>h2 (.inl (.inl (.inr h3))))]
      refine⟨[.i (chk ⟨((x / 16 % 4:Nat):Int),R2.1,R3.1,T4.1,os,p⟩)],rfl,λ_ w' hr=>Zpv w' ⟨((x / 16 % 4:Nat):Int),R2.1,R3.1,T4.1,os,p⟩ v (hr.at_ 0 rfl) ?_ ?_ ?_,?_⟩
      . simp only[List.length_cons]at hlo⊢;omega
      . simp only;omega
      . simp only[List.length_cons]at hlo⊢;omega
      simp only[QQ,Nat.reduceAdd,qy3];refine⟨λh3 w' hr=>?_,λh3 w' hr=>?_⟩
      . rw[hd,Z121 h3];exact Z97 _ hr.mod
      . rw[hd,Z120 (qy9.1 h3)];exact⟨v,rfl,hr.at_ 0 rfl,hfr1,hr.mod⟩
  . have hs':=qy9.1 h1;subst hs';refine⟨λh2 w' hr=>?_,λh2=>?_⟩
    . rw[hfin.1 (by
        rcases h2 with(h2|h2)|h2
        . exact .inl h2
        . exact .inr (.inl (by omega))
        . exact .inr (.inr (by omega)))]
      exact Z97 1 hr.mod
    . have hd:dec s=chkd ⟨((x / 16 % 4:Nat):Int),R2.1,R3.1,T4.1,os,[]⟩:=hfin.2 (λh3=>h2 (by
          rcases h3 with h3|h3|h3
          . exact .inl (.inl h3)
          . exact .inl (.inr (by omega))
          . exact .inr (by omega)))
      refine⟨[.i (chk ⟨((x / 16 % 4:Nat):Int),R2.1,R3.1,T4.1,os,[]⟩)],rfl,λ_ w' hr=>Zpv w' ⟨((x / 16 % 4:Nat):Int),R2.1,R3.1,T4.1,os,[]⟩ v (hr.at_ 0 rfl) ?_ ?_ ?_,?_⟩
      . simp only[List.length_nil]at hlo⊢;omega
      . simp only;omega
      . simp
      simp only[QQ,Nat.reduceAdd,qy3];refine⟨λh3 w' hr=>?_,λh3 w' hr=>?_⟩
      . rw[hd,Z121 h3];exact Z97 _ hr.mod
      . rw[hd,Z120 (qy9.1 h3)];exact⟨v,rfl,hr.at_ 0 rfl,hfr1,hr.mod⟩
open Go
theorem Zhe{n m:Nat}{w:World}{y:TelX}(h:RdB n w y)(hm:m<=n):∀j,wlF y j->m<=j:=λj hj=>by
 rcases hj with hj|hj|hj|hj|hj
 ·exact Nat.le_trans hm (h.nk j hj.1 hj.2)
 ·exact Nat.le_trans hm (h.nw j hj.1 hj.2)
 ·exact Nat.le_trans hm (h.ns j hj.1 hj.2)
 ·exact Nat.le_trans hm (h.na j hj.1 hj.2)
 ·exact Nat.le_trans hm (h.nn j hj)
theorem Zqp{y z:TelX}{ov:Value}{j:Nat}(h:wlF { z with ox:=y.ox++z.ox,ov:=ov } j):wlF z j\/wlF y j:=by
 rcases h with h|h|h|h|h
 ·exact .inl (.inl h)
 ·exact .inl (.inr (.inl h))
 ·exact .inl (.inr (.inr (.inl h)))
 ·exact .inl (.inr (.inr (.inr (.inl h))))
 ·rcases Z12e h with h|h
  ·rcases Zc.1 h with⟨t,ht,hk⟩|⟨t,ht,hk⟩
   ·exact .inl (.inr (.inr (.inr (.inr (Zc.2 (.inl ⟨t,ht,hk⟩))))))
   ·exact .inr (.inr (.inr (.inr (.inr (Zc.2 (.inr ⟨t,ht,hk⟩))))))
  ·rcases Zc.1 h with⟨t,ht,-⟩|⟨t,ht,hk⟩
   ·cases ht
   ·exact .inl (.inr (.inr (.inr (.inr (Zc.2 (.inr ⟨t,ht,hk⟩))))))
theorem Zlp{l l':List SesX}{a b:List SntX}{w:World}(h1:(Z6 l' b).holds w)(h2:(Z6 l a).holds w):(Z6 l' (a++b)).holds w :=
 Z19 (λt ht=>.inl ht) (λt ht=>(qy13.1 ht).elim (λh=>.inr (Z7h h2 h)) .inl) h1
theorem Zhf{l l':List SesX}{a b:List SntX}{k:Nat}(h:(Z6 l' (a++b)).fp k):(Z6 l' b).fp k\/(Z6 l a).fp k:=by
 rcases Zc.1 h with⟨t,ht,hk⟩|⟨t,ht,hk⟩
 ·exact .inl (Zc.2 (.inl ⟨t,ht,hk⟩))
 ·rcases qy13.1 ht with ht|ht
  ·exact .inr (Zc.2 (.inr ⟨t,ht,hk⟩))
  ·exact .inl (Zc.2 (.inr ⟨t,ht,hk⟩))
theorem Z1ed{n:Int}{m:Msg}{t:Tel}(h:BOk t)(hn:0<=n/\n<=9)(hm:chk m=0):msgE n m t=0:=by rw[msgE,if_neg (qy9.2 (Z1z.2 h)),if_neg (qy9.2 hn),hm]
theorem Z1ee{c:List UInt8}{p:Pkt}{t:Tel}(h:BOk t)(hc:Zd c=true)(hp:chkP p=0):pktE c p t=0:=by rw[pktE,if_neg (qy9.2 (Z1z.2 h)),if_neg (qy9.2 hc),hp]
theorem Z1ef{c:List UInt8}{t:Tel}(h:BOk t)(hc:Zd c=true):gonE c t=0:=by rw[gonE,if_neg (qy9.2 (Z1z.2 h)),if_neg (qy9.2 hc)]
theorem Zol(t:Tel):resB 0 t=t:=if_pos rfl
theorem Zqq(y z:TelX)(ov:Value){f:Tel->Tel}(hf:Outs f)(h:z.tel=f y.bare.tel):TelX.tel { z with ox:=y.ox++z.ox,ov:=ov }=f y.tel:=by rw[Z1bc hf y.tel];have e:f { y.tel with out:=[] }=z.tel:=h.symm;rw[e];simp only[TelX.tel,List.map_append]
theorem Zty{l:List Rst}{c:List UInt8}{i:Nat}(hi:i=idxR l c)(h:i<l.length):decide (Z2d (l.getD i rstD).1 c=0)=hasR l c:=by
 rw[hasR,<- hi];simp only[Z37];congr 1
 simp[h]
theorem Z12k{l:List Rst}{c:List UInt8}{i:Nat}(hi:i=idxR l c)(h:¬i<l.length):false=hasR l c:=by rw[hasR,<- hi];simp[h]
set_option maxRecDepth 4000 in
theorem Z17s(w:World)(k:Nat)(x:TelX)(r:List Rst)(rv:Value)(e:Evt)(hr:Rel ⟨Zl (wlA k x r rv) wlH,w⟩ (wlA k x r rv++[.s e.client,.i e.peer,.s e.bytes]) wlH w)(hb:BOk x.tel)(hw:ROk r)(he:Z1t e=0)(hrl:r.length<1000000)(hol:x.ox.length<10000000000)(hl:e.bytes.length<=30000000) : Calls Tryz.prog 33 #[.pointer (some ⟨k,0,none⟩),.agg #[.string ⟨e.client.toArray⟩,.int .i64 e.peer,.string ⟨e.bytes.toArray⟩]] w λq w'=>q=.returned (.tuple #[])/\Z11f w w' k x r rv (Z8s e (x.tel,r)):=by
  refine Z1 (Z3 (J:=wlA k x r rv++[.s e.client,.i e.peer,.s e.bytes]) (sxE_ok.joins _) Tryz.func33 Z8t rfl rfl hr rfl rfl ?_) rfl;simp only[QQ,Nat.reduceAdd,qy3,qy4];have hb0:BOk x.bare.tel:=hb.out [];have hsm:=SmlT.of hb0;intro b18;refine⟨λh0=>?_,λh0=>?_⟩
  . have hev:0<=e.peer/\e.peer<=9:=by
      rcases Zld.1 he with h|h
      . exact h.2
      . exact absurd h0 h.1
    have hst:Z8s e (x.tel,r)=Zvy dec e.peer e.bytes (x.tel,r):=by rw[Z8s,Zad,if_pos h0]
    rw[hst];intro w1 hr1;refine(Z16n w1 e.bytes (by omega)).mono ?_;obtain⟨D,hD⟩:∃D,D=dec e.bytes:=⟨_,rfl⟩
    have hdc:D.2=0->chk D.1=0:=by rw[hD];exact Zh7
    have hpw:Zvy dec e.peer e.bytes (x.tel,r)=if D.2=0 then(Z1e e.peer D.1 x.tel,r)else(x.tel,r):=by rw[Zvy,hD]
    rw[hpw,<- hD];obtain⟨m,er⟩:=D;simp only at hdc;rintro q w2 ⟨mv,rfl,rm,fm,mm⟩;refine⟨[.i m.kind,.i m.code,.i m.id,.s m.tok,.v mv,.r (m.opts.map encO),.s m.pay,.i er],rfl,rfl,mm,qy5 _,qy2.2 ⟨⟨rm,λk hk=>.inl (fm k hk)⟩,qy5 _⟩,Z5,?_⟩;clear hD hpw mm rm fm hr1;simp only[QQ,Nat.reduceAdd,qy3,qy4];intro b27;refine⟨λh1 w3 hr3=>?_,λh1=>?_⟩
    . rw[if_neg h1];exact⟨by trivial,x,r,rv,rfl,(hr3.pick [3,4,5,6,7,8,9,10] (by decide)).conv rfl,λj hj=>.inr hj⟩
    have h1:er=0:=qy9.1 h1;rw[if_pos h1];have hcm:=hdc h1;obtain⟨-,-,⟨m1',m2',m3'⟩,-⟩:=Z9k.1 hcm;have hme:msgE e.peer m x.bare.tel=0:=Z1ed hb0 hev hcm;have hlen:=(Zgt hb0 hev hcm).2;refine⟨λvs=>∃(y:TelX) (b:Nat),vs=brV y 0++[.n b]/\y.tel=Z1e e.peer m x.bare.tel/\∀j,wlF y j->w.heap.size<=j,⟨?_,?_⟩,?_⟩
    . intro w3 hr3;have hq:=Zj7 w3 x.bare e.peer m mv (Z17r ⟨hr3.at_ 3 rfl,hr3.at_ 4 rfl,hr3.at_ 5 rfl,Z1c (y:=x) (hr3.at_ 9 rfl),hr3.at_ 6 rfl⟩ (hr3.at_ 1 rfl)) rfl hsm.b hsm.f (by omega) (by omega) (by omega);rw[hme,Zol]at hq;refine(Ztw hr3 28 hq rfl).mono ?_;rintro q w4 ⟨y,ty,hd,rfl,m1,m3,m4⟩;refine⟨brV y 0,rfl,rfl,m1,qy5 _,m3,m4,?_⟩;intro b;exact⟨y,b,rfl,ty,Zhe hd hr3.mod.size⟩
    . intro b w3 hr3;have hq:=Zj7 w3 x.bare e.peer m mv (Z17r ⟨hr3.at_ 4 rfl,hr3.at_ 5 rfl,hr3.at_ 6 rfl,Z1c (y:=x) (hr3.at_ 10 rfl),hr3.at_ 7 rfl⟩ (hr3.at_ 2 rfl)) rfl hsm.b hsm.f (by omega) (by omega) (by omega);rw[hme,Zol]at hq;refine(Ztw hr3 29 hq rfl).mono ?_;rintro q w4 ⟨y,ty,hd,rfl,m1,m3,m4⟩;exact⟨brV y 0,rfl,rfl,m1,qy5 _,m3,m4,y,b,rfl,ty,Zhe hd hr3.mod.size⟩
    rintro _ - ⟨y,b,rfl,ty,hnew⟩;have hyl:y.ox.length<=200:=by
      have e1:y.tel.out.length=(Z1e e.peer m x.bare.tel).out.length:=by rw[ty]
      have e2:y.tel.out.length=y.ox.length:=by simp[TelX.tel]
      have e3:x.bare.tel.out.length=0:=rfl;omega
    simp only[QQ,Nat.reduceAdd,qy3,qy4];refine⟨by(first|omega|(simp only[qy11,qy3,List.length_cons,List.length_nil];omega)),λv42 w3 hr3=>⟨by trivial,?_⟩⟩;have hox:x.ox.map Z1r++y.ox.map Z1r=(x.ox++y.ox).map Z1r:=by rw[List.map_append]
    refine Zqg (y:={ y with ox:=x.ox++y.ox,ov:=v42 }) (r':=r) (rv':=rv) (by rw[Zqq x y v42 (Zlm e.peer m) ty]) (Z1dt hr3 (by rfl) k { y with ox:=x.ox++y.ox,ov:=v42 } r rv (Zlp (hr3.at_ 7 rfl) (hr3.at_ 16 rfl)) (λj hj=>?_) [3,4,5,6,16,1,0,18] (by decide) (Zo rfl (Zo rfl (Zo rfl (Zo rfl (Zo rfl (Zo (Z46 rfl hox) rfl))))))) λj hj=>?_
    . rcases Zhf (l:=x.sx) hj with h|h
      . exact(qE 7 rfl rfl h)
      . exact(qE 16 rfl rfl h)
    . rcases Zqp hj with h|h
      . exact .inl (hnew j h)
      . exact .inr (.inl h)
  . have hev:¬e.client=[]/\Zd e.client=true:=by
      rcases Zld.1 he with h|h
      . exact absurd h.1 h0
      . exact⟨h.1,h.2.1⟩
    have hcb:=hev.2;have hcl:e.client.length<1099511627776:=by have:=hcb;unfold Zd at this;rw[Bool.and_eq_true,decide_eq_true_eq]at this;omega
    have hst:Z8s e (x.tel,r)=Zac feed e.client e.bytes (x.tel,r):=by rw[Z8s,Zad,if_neg h0]
    rw[hst];obtain⟨tk1,tk2,tk3⟩:=Ztc hw e.client;have tk4:=Ztt r e.client;obtain⟨T,hT⟩:∃T,T=takW r e.client:=⟨_,rfl⟩
    rw[<- hT]at tk1 tk2 tk3 tk4;obtain⟨F,hF⟩:∃F,F=feed (T.1++e.bytes):=⟨_,rfl⟩
    have hcw:Zac feed e.client e.bytes (x.tel,r)=(if ¬F.2.2=0 then Z5f e.client (Zoe e.client F.1 x.tel)else Zoe e.client F.1 x.tel,Ze7 T.2 e.client F.2.1):=by rw[Zac,hF,hT];rfl
    rw[hcw];have hFok:=Zqk (T.1++e.bytes);rw[<- hF,qy11]at hFok;obtain⟨fk1,fk2,fk3⟩:=hFok;have hsR:=hw.sort;refine⟨λvs=>∃(l:List Z9c) (lv rv':Value),vs=[.i 0,.i 0,.i 0,.i 0,.i 0,.i 0,.i 0,.i 0,.i 0,.i 0,.i 0,.i 0,.v lv,.s F.2.1,.i F.2.2,.s T.1,.v rv',.r (l.map Zc3),.r (T.2.map Z5l),.a (Z39 l)]/\l.map (·.1)=F.1,?_,?_⟩
    . refine⟨λvs=>vs=[.i (idxR r e.client),.i 0,.i 0,.i 0,.b (hasR r e.client)],?_,?_⟩
      . refine⟨λvs=>∃i j:Nat,vs=[.i i,.i j]/\invR r e.client i j,λvs=>(vs.getD 1 (.i 0)).toI.toNat - (vs.getD 0 (.i 0)).toI.toNat,⟨0,_,rfl,Z17o _ _⟩,?_⟩;rintro _ - ⟨i,j,rfl,hv⟩;obtain⟨hv1,hv2⟩:i<=j/\j<=r.length:=⟨hv.1,hv.2.1⟩;simp only[QQ,Nat.reduceAdd,qy3,qy4,gR0];refine⟨λh1=>?_,λh1=>?_⟩;(· rw[half i j (by omega)];obtain⟨h,hh⟩:∃h,h=(i+j) / 2:=⟨_,rfl⟩;rw[<- hh];have hh1:i<=h/\h<j:=(by omega);simp only[qy4,gR0];refine⟨by omega,by omega,by omega,by omega,by omega,by omega,λb=>?_⟩;refine⟨[.i (Z2d (r.getD h rstD).1 e.client)],rfl,λ_ w' _=>Z2e w' _ _,?_⟩;simp only[QQ,Nat.reduceAdd,qy3,qy4,gR0];rw[Z6h];exact⟨λh2=>⟨by omega,by omega,⟨h+1,j,rfl,Z125 hsR hv hh1.2 h2⟩,by omega⟩,λh2=>⟨⟨i,h,rfl,Z126 hsR hv hh1.1 hh1.2 h2⟩,by omega⟩⟩);(· obtain rfl:i=j:=(by omega);have hix:=Ztu hv;refine⟨λh2=>⟨by omega,λb=>?_⟩,λh2=>?_⟩;(· refine⟨[.i (Z2d (r.getD i rstD).1 e.client)],rfl,λ_ w' _=>Z2e w' _ _,?_⟩;simp only[QQ,Nat.reduceAdd,qy3,qy4,gR0];rw[Zty hix (by omega),<- hix]);(· rw[<- Z12k hix (by omega),<- hix]))
      rintro _ - rfl;simp only[QQ,Nat.reduceAdd,qy3,qy4,gR0,gR1];refine⟨λhno=>?_,λhyes=>?_⟩
      . have hT2:T=([],r):=by rw[hT,takW,if_neg hno]
        intro w1 hr1;refine(Z17l w1 [] e.bytes (by simp;omega)).mono ?_;rw[show([]:List UInt8)++e.bytes=T.1++e.bytes by rw[hT2],<- hF];rintro q w2 ⟨lv,l,rfl,hlF,m1,rX,pX,fX,fP⟩;refine⟨[.v lv,.r (l.map Zc3),.s F.2.1,.i F.2.2,.a (Z39 l)],rfl,rfl,m1,qy5 _,qy2.2 ⟨⟨rX,λk hk=>.inl (fX k hk.2)⟩,qy2.2 ⟨⟨pX,λk hk=>.inl (fP k hk)⟩,qy5 _⟩⟩,Z6n (by simp[Ent.wr]),?_⟩;clear m1 rX pX fX fP hr1;simp only[QQ,Nat.reduceAdd,qy3,qy4];refine⟨Z39 l,λw hr=>hr.at_ 1 rfl,λj hj=>(qE 1 rfl rfl hj),?_⟩;exact⟨l,lv,rv,by rw[hT2],hlF⟩
      . have hyes:hasR r e.client=true:=qy9.1 hyes;have hlt:idxR r e.client<r.length:=(of_decide_eq_true hyes).1;have hT2:T=((r.getD (idxR r e.client) rstD).2,r.take (idxR r e.client)++r.drop (idxR r e.client+1)):=by rw[hT,takW,if_pos hyes]
        refine⟨by omega,by omega,by omega,by omega,?_⟩;intro w1 hr1;refine(Z16k w1 rv r (idxR r e.client) (hr1.at_ 5 rfl) hlt).mono ?_;rintro q w2 ⟨rv',rfl,g1,g2,g3⟩;rw[show r.take (idxR r e.client)++r.drop (idxR r e.client+1)=T.2 by rw[hT2]]at g1;refine⟨[.v rv',.r (T.2.map Z5l)],rfl,rfl,g3.mono λk hk=>.inl (by simpa[Zm,Zt]using hk),qy5 _,qy2.2 ⟨⟨g1,λk hk=>?_⟩,qy5 _⟩,Z5,?_⟩
        . rcases g2 k hk with h|h
          . exact .inr (.inr (Z26 (i:=10) (qy8 ..) h))
          . exact .inl h
        clear g1 g2 g3 hr1;simp only[QQ,Nat.reduceAdd,qy3,qy4,gR0,gR1];intro w1 hr1;refine(Z17l w1 (r.getD (idxR r e.client) rstD).2 e.bytes (by rw[hT2]at tk3;simp only at tk3;omega)).mono ?_;rw[show(r.getD (idxR r e.client) rstD).2++e.bytes=T.1++e.bytes by rw[hT2],<- hF];rintro q w2 ⟨lv,l,rfl,hlF,m1,rX,pX,fX,fP⟩;refine⟨[.v lv,.r (l.map Zc3),.s F.2.1,.i F.2.2,.a (Z39 l)],rfl,rfl,m1,qy5 _,qy2.2 ⟨⟨rX,λk hk=>.inl (fX k hk.2)⟩,qy2.2 ⟨⟨pX,λk hk=>.inl (fP k hk)⟩,qy5 _⟩⟩,Z6n (by simp[Ent.wr]),?_⟩;clear m1 rX pX fX fP hr1;simp only[QQ,Nat.reduceAdd,qy3,qy4,gR0,gR1];refine⟨Z39 l,λw hr=>hr.at_ 1 rfl,λj hj=>(qE 1 rfl rfl hj),?_⟩;exact⟨l,lv,rv',by rw[hT2],hlF⟩
    rintro _ - ⟨l,lv,rv',rfl,hlF⟩;simp only[QQ,Nat.reduceAdd,qy3,qy4];refine⟨Z6 x.sx x.ox,λw hr=>hr.at_ 9 rfl,λj hj=>(qE 9 rfl rfl hj),?_⟩;have hll:l.length=F.1.length:=by rw[<- hlF,qy3]
    have hpo:∀i,i<=l.length->BOk (Zoe e.client (F.1.take i) x.tel)/\(Zoe e.client (F.1.take i) x.tel).out.length<=x.ox.length+200*i:=λi hi=>by
      have h1:=Zd8 hcb (F.1.take i) hb λp hp=>fk1 p (List.mem_of_mem_take hp);have h2:x.tel.out.length=x.ox.length:=by simp[TelX.tel]
      rw[h2,List.length_take,Nat.min_eq_left (by omega)]at h1;exact h1
    refine⟨λvs=>∃(i:Nat) (y:TelX),vs=[.i i,.a (Z6 y.sx y.ox),.v y.kv,.r (y.kept.map encK),.v y.wv,.r (y.wants.map Zb),.v y.sv,.r (y.sx.map Zg),.v y.av,.r (y.wat.map Z8),.i y.next,.v rv',.r (T.2.map Z5l),.v y.ov,.r (y.ox.map Z1r)]/\i<=l.length/\y.tel=Zoe e.client (F.1.take i) x.tel/\∀j,wlF y j->w.heap.size<=j\/wlG x rv j,
      λvs=>l.length - (vs.getD 0 (.i 0)).toI.toNat,⟨0,x,rfl,Nat.zero_le _,rfl,λj hj=>.inr (.inl hj)⟩,?_⟩
    rintro _ - ⟨i,y,rfl,hi,hty,hwy⟩;obtain⟨hby,hlo⟩:=hpo i hi;rw[<- hty]at hby hlo;have hyl:y.tel.out.length=y.ox.length:=by simp[TelX.tel]
    rw[hyl]at hlo;have hby0:BOk y.bare.tel:=hby.out [];have hsy:=SmlT.of hby0;simp only[QQ,Nat.reduceAdd,qy3,qy4];refine⟨λh1=>?_,λh1=>?_⟩
    . have hi':i<l.length:=by omega
      have hrow:=Z1e3 hi';have hmm:l.getD i xD∈l:=by rw[qy1,qy7 hi'];exact List.getElem_mem hi'
      have hpi:F.1.getD i (l.getD i xD).1=(l.getD i xD).1:=by rw[<- hlF,qy1,List.getElem?_map,qy1,qy7 hi'];rfl
      have hps:=Zwa (c:=e.client) (l:=F.1) (i:=i) (by omega) (l.getD i xD).1 x.tel;rw[hpi,<- hty]at hps;have hpc:chkP (l.getD i xD).1=0:=fk1 _ (by rw[<- hlF];exact List.mem_map_of_mem hmm);simp only[hrow,Zc3,List.getD_cons_zero,List.getD_cons_succ,Value.gI,Value.gB,Value.gS,Z1p];generalize hgt:l.getD i xD=tp at hpi hmm hps hpc⊢
      obtain⟨p,va,vc⟩:=tp;simp only at hpi hps hpc⊢;have hpe:pktE e.client p y.bare.tel=0:=Z1ee hby0 hcb hpc;refine⟨by omega,λb55=>?_⟩;refine⟨λvs=>∃(z:TelX) (b:Nat),vs=brV z 0++[.n b]/\z.tel=Zy e.client p y.bare.tel/\∀j,wlF z j->w.heap.size<=j,⟨?_,?_⟩,?_⟩
      . intro w3 hr3;have hpk:=Zo5 (hr3.at_ 2 rfl:(Z39 l).holds w3) hmm;have hq:=Zns w3 y.bare e.client p va vc (Z17q ⟨hr3.at_ 6 rfl,hr3.at_ 7 rfl,hr3.at_ 8 rfl,Z1c (y:=y) (hr3.at_ 1 rfl),hr3.at_ 9 rfl⟩ hpk.1 hpk.2) rfl hsy.b hsy.f hcl (Zda hpc);rw[hpe,Zol]at hq;refine(Ztw hr3 56 hq rfl).mono ?_;rintro q w4 ⟨z,tz,hd,rfl,m1,m3,m4⟩;refine⟨brV z 0,rfl,rfl,m1,qy5 _,m3,m4,?_⟩;intro b;exact⟨z,b,rfl,tz,Zhe hd hr3.mod.size⟩
      . intro b w3 hr3;have hpk:=Zo5 (hr3.at_ 3 rfl:(Z39 l).holds w3) hmm;have hq:=Zns w3 y.bare e.client p va vc (Z17q ⟨hr3.at_ 7 rfl,hr3.at_ 8 rfl,hr3.at_ 9 rfl,Z1c (y:=y) (hr3.at_ 2 rfl),hr3.at_ 10 rfl⟩ hpk.1 hpk.2) rfl hsy.b hsy.f hcl (Zda hpc);rw[hpe,Zol]at hq;refine(Ztw hr3 57 hq rfl).mono ?_;rintro q w4 ⟨z,tz,hd,rfl,m1,m3,m4⟩;exact⟨brV z 0,rfl,rfl,m1,qy5 _,m3,m4,z,b,rfl,tz,Zhe hd hr3.mod.size⟩
      rintro _ - ⟨z,b,rfl,tz,hnew⟩;have hzl:z.ox.length<=200:=by
        have e1:z.tel.out.length=(Zy e.client p y.bare.tel).out.length:=by rw[tz]
        have e2:z.tel.out.length=z.ox.length:=by simp[TelX.tel]
        have e3:y.bare.tel.out.length=0:=rfl;have:=(Z94 hby0 hcb hpc).2;omega
      simp only[QQ,Nat.reduceAdd,qy3,qy4];refine⟨by(first|omega|(simp only[qy11,qy3,List.length_cons,List.length_nil];omega)),λv70=>⟨by omega,by omega,?_⟩⟩;refine⟨Z6 z.sx (y.ox++z.ox),λw hr=>Zlp (hr.at_ 7 rfl) (hr.at_ 9 rfl),λj hj=>?_,⟨i+1,{ z with ox:=y.ox++z.ox,ov:=v70 },by rw[<- List.map_append];rfl,by omega,?_,λj hj=>?_⟩,?_⟩
      . rcases Zhf (l:=y.sx) hj with h|h
        . exact(qE 7 rfl rfl h)
        . exact(qE 9 rfl rfl h)
      . rw[hps,Zqq y z v70 (Zny e.client p) tz]
      . rcases Zqp hj with h|h
        . exact .inl (hnew j h)
        . exact hwy j h
      . omega
    . obtain rfl:i=l.length:=by omega
      rw[hll,List.take_length]at hty;have hgo:=Z7p hby0 e.client;refine⟨λvs=>∃z:TelX,vs=[.i 0,.i 0,.i 0,.i 0,.i 0,.i 0,.i 0,.i 0,.i 0,.i 0,.i 0,.v z.kv,.v z.wv,.v z.sv,.v z.av,.i z.next,.r (z.kept.map encK),.r (z.wants.map Zb),.r (z.sx.map Zg),.r (z.wat.map Z8),.a (Z6 z.sx z.ox)]/\z.ox=y.ox/\z.ov=y.ov/\z.tel=(if ¬F.2.2=0 then Z5f e.client y.tel else y.tel)/\∀j,wlF z j->w.heap.size<=j\/wlG x rv j,⟨λh2=>?_,λh2=>?_⟩,?_⟩
      . intro w3 hr3;have hge:gonE e.client y.bare.tel=0:=Z1ef hby0 hcb;have hq:=Z1at w3 y.bare e.client (Z1ec ⟨hr3.at_ 5 rfl,hr3.at_ 6 rfl,hr3.at_ 7 rfl,Z1c (y:=y) (hr3.at_ 0 rfl),hr3.at_ 8 rfl⟩) rfl hsy.b hsy.f hcl;rw[hge,Zol]at hq;refine(Z1eb hr3 55 hq rfl).mono ?_;rintro q w4 ⟨z,tz,hzo,hd,rfl,m1,m3,m4⟩;refine⟨gnV z 0,rfl,rfl,m1,qy5 _,m3,m4,?_⟩;refine⟨Z6 z.sx y.ox,λw hr=>?_,λj hj=>?_,{ z with ox:=y.ox,ov:=y.ov },rfl,rfl,rfl,?_,λj hj=>?_⟩
        . have:=Zlp (a:=y.ox) (b:=z.ox) (hr.at_ 4 rfl:(Z6 z.sx z.ox).holds w) (hr.at_ 5 rfl:(Z6 y.sx y.ox).holds w);rw[hzo,List.append_nil]at this;exact this
        . have h:(Z6 z.sx (y.ox++z.ox)).fp j:=by rw[hzo,List.append_nil];exact hj
          rcases Zhf (l:=y.sx) h with h|h
          . exact(qE 4 rfl rfl h)
          . exact(qE 5 rfl rfl h)
        . rw[if_pos h2,<- Zqq y z y.ov (Zje e.client) tz,hzo,List.append_nil]
        . have h:wlF { z with ox:=y.ox++z.ox,ov:=y.ov } j:=by rw[hzo,List.append_nil];exact hj
          rcases Zqp h with h|h
          . exact .inl (Zhe hd hr3.mod.size j h)
          . exact hwy j h
      . refine⟨Z6 y.sx y.ox,λw hr=>hr.at_ 0 rfl,λj hj=>(qE 0 rfl rfl hj),y,rfl,rfl,rfl,by rw[if_neg h2],hwy⟩
      rintro _ - ⟨z,rfl,hzo,hzv,htz,hwz⟩;rw[<- hty];simp only[QQ,Nat.reduceAdd,qy3,qy4];have hoz:y.ox=z.ox:=hzo.symm;have hvz:y.ov=z.ov:=hzv.symm;refine⟨λh2 w3 hr3=>⟨by trivial,?_⟩,λh2=>?_⟩
      . rw[Ze7,if_pos h2];exact Zqg (y:=z) (r':=T.2) (rv':=rv') (by rw[htz]) ((hr3.pick [1,2,3,4,8,14,0,16] (by decide)).conv (by rw[hoz,hvz];rfl)) hwz
      . have hsT:=tk1.sort;refine⟨λvs=>vs=[.i (idxR T.2 e.client),.i 0,.i 0,.i 0,.b (hasR T.2 e.client)],?_,?_⟩
        . refine⟨λvs=>∃i j:Nat,vs=[.i i,.i j]/\invR T.2 e.client i j,λvs=>(vs.getD 1 (.i 0)).toI.toNat - (vs.getD 0 (.i 0)).toI.toNat,⟨0,_,rfl,Z17o _ _⟩,?_⟩;rintro _ - ⟨i,j,rfl,hv⟩;obtain⟨hv1,hv2⟩:i<=j/\j<=T.2.length:=⟨hv.1,hv.2.1⟩;simp only[QQ,Nat.reduceAdd,qy3,qy4,gR0];refine⟨λh1=>?_,λh1=>?_⟩;(· rw[half i j (by omega)];obtain⟨h,hh⟩:∃h,h=(i+j) / 2:=⟨_,rfl⟩;rw[<- hh];have hh1:i<=h/\h<j:=(by omega);simp only[qy4,gR0];refine⟨by omega,by omega,by omega,by omega,by omega,by omega,λb=>?_⟩;refine⟨[.i (Z2d (T.2.getD h rstD).1 e.client)],rfl,λ_ w' _=>Z2e w' _ _,?_⟩;simp only[QQ,Nat.reduceAdd,qy3,qy4,gR0];rw[Z6h];exact⟨λh2=>⟨by omega,by omega,⟨h+1,j,rfl,Z125 hsT hv hh1.2 h2⟩,by omega⟩,λh2=>⟨⟨i,h,rfl,Z126 hsT hv hh1.1 hh1.2 h2⟩,by omega⟩⟩);(· obtain rfl:i=j:=(by omega);have hix:=Ztu hv;refine⟨λh2=>⟨by omega,λb=>?_⟩,λh2=>?_⟩;(· refine⟨[.i (Z2d (T.2.getD i rstD).1 e.client)],rfl,λ_ w' _=>Z2e w' _ _,?_⟩;simp only[QQ,Nat.reduceAdd,qy3,qy4,gR0];rw[Zty hix (by omega),<- hix]);(· rw[<- Z12k hix (by omega),<- hix]))
        rintro _ - rfl;have hile:idxR T.2 e.client<=T.2.length:=List.length_filter_le ..;simp only[QQ,Nat.reduceAdd,qy3,qy4,gR0];intro v81 w3 hr3;refine(Z16j w3 rv' v81 T.2 (e.client,F.2.1) (idxR T.2 e.client) (hr3.at_ 9 rfl) (hr3.at_ 0 rfl) (λj h1 h2=>hr3.sep.disj (i:=0) (j:=9) rfl rfl (by decide) (.inl rfl) h2 h1) hile (by omega)).mono ?_;rintro q w4 ⟨v',rfl,g1,g2,g3⟩;rw[show T.2.take (idxR T.2 e.client)++[(e.client,F.2.1)]++T.2.drop (idxR T.2 e.client)=Ze7 T.2 e.client F.2.1 by rw[Ze7,if_neg h2]]at g1;refine⟨[.v v',.r ((Ze7 T.2 e.client F.2.1).map Z5l)],rfl,rfl,g3.mono λk hk=>.inl (List.mem_append_right _ (Z26 (i:=51) (qy8 ..) (Option.mem_toList.1 hk))),qy5 _,qy2.2 ⟨⟨g1,λk hk=>?_⟩,qy5 _⟩,Z5,?_⟩
        . rcases g2 k hk with h|h
          . exact .inr (.inr (Z26 (i:=51) (qy8 ..) h))
          . exact .inl h
        clear g1 g2 g3 hr3;intro w5 hr5;refine⟨by trivial,Zqg (y:=z) (r':=Ze7 T.2 e.client F.2.1) (rv':=v') (by rw[htz]) ((hr5.pick [2,3,4,5,0,14,1,16] (by decide)).conv (by rw[hoz,hvz];rfl)) hwz⟩
def stpE(t:Tel)(r:List Rst)(e:Evt):Int:=if ¬chkB t=0 then chkB t else if ¬chkR r=0 then chkR r else Z1t e
def evsE:List Evt->Int
 | []=>0
 | e::l=>if ¬Z1t e=0 then Z1t e else evsE l
def runE(t:Tel)(l:List Evt):Int:=if ¬chkB t=0 then chkB t else if 60<(l.length:Int)then 2 else evsE l
def resW(f:Int)(x:Tel×List Rst):Tel×List Rst:=if f=0 then x else(telN,[])
theorem Zlq:∀{l:List Evt},evsE l=0↔∀e∈l,Z1t e=0
 | []=>by simp[evsE]
 | e::l=>by
  rw[evsE];by_cases h:Z1t e=0
  ·rw[if_neg (qy9.2 h),Zlq];exact⟨λh2 x hx=>(List.mem_cons.1 hx).elim (λe=>by rw[e];exact h) (h2 x),λh2 x hx=>h2 x (qy10 _ hx)⟩
  ·rw[if_pos h];exact⟨λh2=>absurd h2 h,λh2=>h2 e (qy8 ..)⟩
theorem Z1eg(l:List Evt)(i:Nat)(h:i<l.length):l.drop i=l.getD i evD::l.drop (i+1):=by rw[List.drop_eq_getElem_cons h,qy1,qy7 h];rfl
theorem Zhg{l:List Evt}{i:Nat}(h:i<l.length):evsE (l.drop i)=if ¬Z1t (l.getD i evD)=0 then Z1t (l.getD i evD)else evsE (l.drop (i+1)):=by rw[Z1eg l i h,evsE]
theorem Zqr{t:Tel}{r:List Rst}{e:Evt}(h:BOk t)(hr:ROk r):stpE t r e=Z1t e:=by rw[stpE,if_neg (qy9.2 (Z1z.2 h)),if_neg (qy9.2 (Z7r.2 hr))]
theorem Z1bk{t:Tel}{r:List Rst}{e:Evt}(h:stpE t r e=0):BOk t/\ROk r/\Z1t e=0:=by
 unfold stpE at h;split at h
 ·exact absurd h (by assumption)
 rename_i h1;split at h
 ·exact absurd h (by assumption)
 rename_i h2;exact⟨Z1z.1 (qy9.1 h1),Z7r.1 (qy9.1 h2),h⟩
abbrev runF(l:List Evt)(x:Tel×List Rst):Tel×List Rst:=runW feed dec l x
abbrev Zqs(l:List Evt)(x:Tel×List Rst):List (List Snt):=Zle feed dec l x
theorem Zqt(l:List Evt){x:Tel×List Rst}(he:∀e∈l,Z1t e=0)(h:BOk x.1)(hr:ROk x.2):BOk (runF l x).1/\ROk (runF l x).2 :=
 Z11e (λs=>Zqk s) (λs=>Zh7) l he h hr
theorem Zlr:∀(l:List Evt) (x:Tel×List Rst),(runF l x).2.length<=x.2.length+l.length
 | [],x=>Nat.le_refl _
 | e::l,x=>by
  have h1:=Zlr l (oneW feed dec x e);have h2:(oneW feed dec x e).2.length<=x.2.length+1:=Z124 e ({ x.1 with out:=[] },x.2)
  show(runF l (oneW feed dec x e)).2.length<=_
  rw[List.length_cons];omega
theorem Z1bl{t:Tel}{l:List Evt}(h:runE t l=0):BOk t/\l.length<=60/\∀e∈l,Z1t e=0:=by
 unfold runE at h;split at h
 ·exact absurd h (by assumption)
 rename_i h1;split at h
 ·exact absurd h (by decide)
 rename_i h2;exact⟨Z1z.1 (qy9.1 h1),by omega,Zlq.1 h⟩
theorem Z12l(l:List Evt){x:Tel×List Rst}(he:∀e∈l,Z1t e=0)(h:BOk x.1)(hr:ROk x.2){i:Nat}(hi:i<l.length):Z1q (runF (l.take (i+1)) x).1.out/\(runF (l.take (i+1)) x).1.out.length<=200*((l.getD i evD).bytes.length+601):=by
 have hk:=Zqt (l.take i) (x:=x) (λe hx=>he e (List.mem_of_mem_take hx)) h hr
 show Z1q (runW feed dec (l.take (i+1)) x).1.out/\(runW feed dec (l.take (i+1)) x).1.out.length<=_
 rw[Zh1 hi];have hm:l.getD i evD∈l:=by rw[qy1,qy7 hi];exact List.getElem_mem hi
 have h1:=Z16g (he _ hm) (x:=({ (runF (l.take i) x).1 with out:=[] },(runF (l.take i) x).2)) (hk.1.out []) hk.2;refine⟨h1.2.2.2 .nil,?_⟩;exact Nat.le_trans h1.2.2.1 (Nat.le_of_eq (Nat.zero_add _))
abbrev annC:List UInt8:=[97,110,110]
abbrev ev1:Evt:=⟨annC,0,[50,9,0,3]⟩
abbrev ev2:Evt:=⟨annC,0,[97,47,98,0,10,104,105]⟩
theorem Zdb:chkB smT=0:=by decide +kernel
theorem Zls:SmlT smT:=.of (Z1z.1 Zdb)
theorem Z1bm:feed [50,9,0,3]=([],[50,9,0,3],0):=by decide +kernel
theorem Z1bn:feed ([50,9,0,3]++[97,47,98,0,10,104,105])=([pubP],[],0):=by decide +kernel
theorem beg1(t:Tel):Z8s ev1 (t,[])=(t,[(annC,[50,9,0,3])]):=by
 have k0:takW [] annC=([],[]):=by simp[takW,hasR]
 show Zad feed dec ev1 (t,[])=_
 rw[Zad,if_neg (by decide),Zac];simp only[k0,List.nil_append,Z1bm];rfl
theorem beg2(t:Tel):Z8s ev2 (t,[(annC,[50,9,0,3])])=(Zy annC pubP t,[]):=by
 have k0:takW [(annC,[50,9,0,3])] annC=([50,9,0,3],[]):=by decide +kernel
 show Zad feed dec ev2 (t,[(annC,[50,9,0,3])])=_
 rw[Zad,if_neg (by decide),Zac];simp only[k0,Z1bn];rfl
theorem Z1bo:(Zy annC pubP smT).out.length=3:=by decide +kernel
theorem Zom:Z1t ev1=0/\Z1t ev2=0/\chkR [(annC,[50,9,0,3])]=0:=by decide +kernel
abbrev evV(e:Evt):Value:=.agg #[.string ⟨e.client.toArray⟩,.int .i64 e.peer,.string ⟨e.bytes.toArray⟩]
theorem Ztz(t:Tel)(r:List Rst)(e:Evt):stpE t r e=if ¬(if ¬chkB t=0 then chkB t else chkR r)=0 then(if ¬chkB t=0 then chkB t else chkR r)else Z1t e:=by
 unfold stpE;by_cases h1:chkB t=0
 ·rw[if_neg (qy9.2 h1),if_neg (qy9.2 h1)]
 ·rw[if_pos h1,if_pos h1,if_pos h1]
theorem Z12m{n:Nat}{z:TelX}{rw:Value}(h:∀j,wlG z rw j->n<=j){w:World}(h1:reads w z.kv kK (z.kept.map encK))(h2:reads w z.wv kW_V (z.wants.map Zb))(h3:reads w z.sv kSx (z.sx.map Zg))(h4:reads w z.av kW_K (z.wat.map Z8))(h5:reads w z.ov kSn (z.ox.map Z1r))(h6:(Z6 z.sx z.ox).holds w):RdB n w z :=
 ⟨h1,h2,h3,h4,h5,h6,λj a b=>h j (.inl (.inl ⟨a,b⟩)),λj a b=>h j (.inl (.inr (.inl ⟨a,b⟩))),λj a b=>h j (.inl (.inr (.inr (.inl ⟨a,b⟩)))),λj a b=>h j (.inl (.inr (.inr (.inr (.inl ⟨a,b⟩))))),λj _ b=>h j (.inr (.inr b)),λj a=>h j (.inl (.inr (.inr (.inr (.inr a)))))⟩
theorem Zu0{n:Nat}{x:TelX}{rv:Value}(ho:∀j,¬Z2 x.ov j)(h1:∀j,Z2 x.kv j->n<=j)(h2:∀j,Z2 x.wv j->n<=j)(h3:∀j,Z2 x.sv j->n<=j)(h4:∀j,Z2 x.av j->n<=j)(h5:∀j,(Z6 x.sx x.ox).fp j->n<=j)(h6:∀j,Z2 rv j->n<=j):∀j,wlG x rv j->n<=j:=λj hj=>by
 rcases hj with(hj|hj|hj|hj|hj)|hj|hj
 ·exact h1 j hj.2
 ·exact h2 j hj.2
 ·exact h3 j hj.2
 ·exact h4 j hj.2
 ·exact h5 j hj
 ·exact h6 j hj
 ·exact absurd hj (ho j)
theorem Z3r(j:Nat):¬Z2 (.slice none 0 0) j:=λh=>by cases h
theorem Zu1(w:World)(x:TelX)(rv:Value)(r:List Rst)(e:Evt)(hx:RdX w x)(hr:Zte w rv r)(ho:x.ox=[])(hs:SmlT x.tel)(hrs:∀a∈r,a.1.length<1099511627776)(hrl:r.length<1000000)(hc:e.client.length<1099511627776)(hl:e.bytes.length<=30000000) : Calls Tryz.prog 9 #[bkV x,sc1 rv,evV e] w λq w'=>Zlo w w' q (stpE x.tel r e) (resW (stpE x.tel r e) (Z8s e (x.tel,r))):=by
 have hr0:Rel ⟨[],w⟩ (bkA x++[.v rv,.r (r.map Z5l),.s e.client,.i e.peer,.s e.bytes]) (bkH++[.rd 10 kR (.var 11)]) w:=Rel.start2 (qy2.2 ⟨⟨hx.kept,rfl⟩,qy2.2 ⟨⟨hx.want,rfl⟩,qy2.2 ⟨⟨hx.sess,rfl⟩,qy2.2 ⟨⟨hx.nest,rfl⟩,qy2.2 ⟨⟨hx.wat,rfl⟩,qy2.2 ⟨⟨hr,rfl⟩,qy5 _⟩⟩⟩⟩⟩⟩);refine Z1 (Z3 (J:=bkA x++[.v rv,.r (r.map Z5l),.s e.client,.i e.peer,.s e.bytes]) (sxE_ok.joins _) Tryz.func9 Zh8 rfl rfl hr0 rfl rfl ?_) rfl;simp only[QQ,Nat.reduceAdd,qy3,qy4];intro b15 b16 b17;refine⟨[.i (chkB x.tel)],rfl,λ_ w' hr=>Z6t w' x (RdX.rel ⟨hr.at_ 5 rfl,hr.at_ 6 rfl,hr.at_ 7 rfl,hr.at_ 8 rfl,hr.at_ 9 rfl⟩) ho hs.b,?_⟩;simp only[QQ,Nat.reduceAdd,qy3,qy4];rw[Ztz];obtain⟨n1,hn1⟩:∃n1,n1=if ¬chkB x.tel=0 then chkB x.tel else chkR r:=⟨_,rfl⟩
 rw[<- hn1];refine⟨λvs=>vs=[.i n1],⟨λh=>?_,λh=>?_⟩,?_⟩
 ·refine⟨[.i (chkR r)],rfl,λ_ w' hr=>Z1be w' rv r (hr.at_ 10 rfl) hrs (by omega),?_⟩;simp only[QQ,Nat.reduceAdd,qy3,qy4];rw[hn1,if_neg (qy9.2 h)]
 ·rw[hn1,if_pos h]
 rintro _ - rfl;simp only[QQ,Nat.reduceAdd,qy3,qy4];obtain⟨n2,hn2⟩:∃n2,n2=if ¬n1=0 then n1 else Z1t e:=⟨_,rfl⟩
 rw[<- hn2];refine⟨λvs=>vs=[.i n2],⟨λh=>?_,λh=>?_⟩,?_⟩
 ·refine⟨[.i (Z1t e)],rfl,λ_ w' hr=>Z12b w' e hc,?_⟩;simp only[QQ,Nat.reduceAdd,qy3,qy4];rw[hn2,if_neg (qy9.2 h)]
 ·rw[hn2,if_pos h]
 rintro _ - rfl;simp only[QQ,Nat.reduceAdd,qy3,qy4];refine⟨λh w3 hr3=>?_,λh=>?_⟩
 ·exact⟨Znp,[],.slice none 0 0,rfl,by rw[resW,if_neg h];rfl,Zl8 _ _,Z9 _ _,λj h=>absurd rfl h,hr3.mod⟩
 have h:n2=0:=qy9.1 h;obtain⟨hB,hR,hE⟩:=Z1bk (t:=x.tel) (r:=r) (e:=e) (by rw[Ztz,<- hn1,<- hn2,h]);rw[h,resW,if_pos rfl];clear hn1 hn2 h;intro w1 hr1;refine(Znr hr1 23 (Z117 w1 x (RdX.rel ⟨hr1.at_ 5 rfl,hr1.at_ 6 rfl,hr1.at_ 7 rfl,hr1.at_ 8 rfl,hr1.at_ 9 rfl⟩) hs.b.keptL hs.b.wantsL hs.b.watL hs.b.sessL hs.f) rfl).mono ?_;rintro q w2 ⟨⟨yk,yw,ys,ya,yn,yo,v1,v2,v3,v4,v5⟩,y1,y2,yf,rfl,m1,m3,m4⟩;simp only at y1;subst y1;refine⟨owA ⟨yk,yw,ys,ya,yn,[],v1,v2,v3,v4,v5⟩,rfl,rfl,m1,qy5 _,m3,m4,?_⟩;have hz1:=hr1.mod.size;clear m1 m3 m4;have hyt:TelX.tel (⟨yk,yw,ys,ya,yn,[],v1,v2,v3,v4,.slice none 0 0⟩:TelX)=x.tel:=by rw[show TelX.tel (⟨yk,yw,ys,ya,yn,[],v1,v2,v3,v4,.slice none 0 0⟩:TelX)=TelX.tel ⟨yk,yw,ys,ya,yn,[],v1,v2,v3,v4,v5⟩ from rfl,y2];simp only[TelX.tel,ho,List.map_nil]
 intro w3 hr3;refine(Z16i w3 rv r (hr3.at_ 15 rfl) (by omega)).mono ?_;rintro q w4 ⟨rv',rfl,g1,g2,gm⟩;refine⟨[.v rv',.r (r.map Z5l)],rfl,rfl,gm,qy5 _,qy2.2 ⟨⟨g1,λk hk=>.inl (g2 k hk)⟩,qy5 _⟩,Z5,?_⟩;clear g1 g2 gm hr3;intro b35 w5 hr5;have hz5:=hr5.mod.size;have hc5:=Z17s w5 b35 (⟨yk,yw,ys,ya,yn,[],v1,v2,v3,v4,.slice none 0 0⟩:TelX) r rv' e ((((Ztx (Z1fn (hr5.pick [4,5,2,3,1,6,0] (by decide))) (by rfl) 111 kSn).pick [3,4,1,2,5,0,6,7] (by decide)).conv rfl).base.conv rfl) (by rw[hyt];exact hB) hR hE hrl (show 0<10000000000 by decide) hl;rw[hyt]at hc5;have nb:∀j,wlG (⟨yk,yw,ys,ya,yn,[],v1,v2,v3,v4,.slice none 0 0⟩:TelX) rv' j->w.heap.size<=j:=Zu0 Z3r (λj h=>Nat.le_trans hz1 (yf.1 j h)) (λj h=>Nat.le_trans hz1 (yf.2.1 j h)) (Z20 hr5 4 rfl) (Z20 hr5 5 rfl) (λj h=>Nat.le_trans hz1 (yf.2.2 j h)) (Z20 hr5 1 rfl);refine(Z1dv (k:=b35) (x:=(⟨yk,yw,ys,ya,yn,[],v1,v2,v3,v4,.slice none 0 0⟩:TelX)) hr5 36 35 [27,29,33] hc5 rfl rfl (by show 35<36;decide) (λj hj=>?_) (λj hj=>?_)).mono ?_
 ·rcases hj with hj|hj
  ·exact Z26 (i:=33) (by simp) hj
  ·exact absurd hj (Z3r j)
 ·rcases hj with hj|hj|hj|hj|hj
  ·exact .inl (qE 2 rfl rfl hj)
  ·exact .inl (qE 3 rfl rfl hj)
  ·exact .inr (Z26 (i:=27) (by simp) hj.2)
  ·exact .inr (Z26 (i:=29) (by simp) hj.2)
  ·exact .inl (qE 6 rfl rfl hj)
 rintro q w6 ⟨z,r',rw',hz,hsz,hg,rfl,m1,m2,m3,m4⟩;refine⟨wlV z r' rw',rfl,rfl,m1,m2,m3,m4,?_⟩;clear m1 m2 m3 m4 hc5;intro w7 hr7;have hn:∀j,wlG z rw' j->w.heap.size<=j:=λj hj=>(hg j hj).elim (λh=>Nat.le_trans hz5 h) (nb j);exact⟨z,r',rw',rfl,hz,Z12m hn (hr7.at_ 0 rfl) (hr7.at_ 1 rfl) (hr7.at_ 2 rfl) (hr7.at_ 3 rfl) (hr7.at_ 5 rfl:owns _ _ _ _ _).reads (hr7.at_ 6 rfl),(hr7.at_ 4 rfl:owns _ _ _ _ _).reads,λj _ h=>hn j (.inr (.inl h)),hr7.mod⟩
theorem Zu2(t:Tel)(l:List Evt):runE t l=if ¬(if chkB t=0/\60<(l.length:Int)then 2 else chkB t)=0 then(if chkB t=0/\60<(l.length:Int)then 2 else chkB t)else evsE l:=by unfold runE;by_cases h1:chkB t=0<;>by_cases h2:60<(l.length:Int)<;>simp[h1,h2]
theorem Z16o{y:TelX}{rv:Value}{j:Nat}(h:wlG y.bare rv j):wlG y rv j:=by
  rcases h with(h|h|h|h|h)|h|h
  . exact .inl (.inl h)
  . exact .inl (.inr (.inl h))
  . exact .inl (.inr (.inr (.inl h)))
  . exact .inl (.inr (.inr (.inr (.inl h))))
  . exact .inl (.inr (.inr (.inr (.inr (by
      rcases Zc.1 h with⟨t,ht,hk⟩|⟨t,ht,-⟩
      . exact Zc.2 (.inl ⟨t,ht,hk⟩)
      . cases ht)))))
  . exact .inr (.inl h)
  . exact absurd h (Z3r j)
theorem Z12n{l:List SesX}{o:List SntX}{w:World}(h:(Z6 l o).holds w):(Z6 [] o).holds w:=Z19 (λt ht=>(List.not_mem_nil ht).elim) (λt ht=>.inl ht) h
theorem Zjj{l:List SesX}{o:List SntX}{j:Nat}(h:(Z6 [] o).fp j):(Z6 l o).fp j:=by
 rcases Zc.1 h with⟨t,ht,-⟩|⟨t,ht,hk⟩
 ·cases ht
 ·exact Zc.2 (.inr ⟨t,ht,hk⟩)
theorem Zjk{l:List SesX}{o:List SntX}{j:Nat}(h:(Z6 l []).fp j):(Z6 l o).fp j:=by
 rcases Zc.1 h with⟨t,ht,hk⟩|⟨t,ht,-⟩
 ·exact Zc.2 (.inl ⟨t,ht,hk⟩)
 ·cases ht
theorem Z1fo{B:Base}{J:List V}{hp:List Ent}{w:World}(h:Rel B J hp w)(hb:hp.all (Ent.bd J.length)=true)(k:Nat)(x:TelX)(r:List Rst)(rv:Value)(Jx:List V)(hA:(Z6 x.sx x.ox).holds w)(hf:∀j,(Z6 x.sx x.ox).fp j->∃e∈hp,e.wr=false/\e.fp J j)(is:List Nat)(hn:is.Nodup) (hfp:Zl (wlA k x r rv++Jx) wlH=Zl (wlA k x r rv) wlH) (hs:(is.filterMap λi=>(Ent.st J.length::hp)[i]?).map (Ent.sem (J++[.a (Z6 x.sx x.ox)]))=wlH.map (Ent.sem (wlA k x r rv++Jx))):Rel ⟨Zl (wlA k x r rv) wlH,w⟩ (wlA k x r rv++Jx) wlH w:=by have h3:=(((h.gather hb _ hA hf).pick is hn).conv hs).base;rw[hfp]at h3;exact h3
theorem Z1bp(n:Nat)(w:World):RdR n w Znp [] (.slice none 0 0) :=
 ⟨Zl8 _ _,rfl,Z9 _ _,λj h=>absurd rfl h,Z2i.2 ⟨Z7q w,Ztv w⟩,λj h=>(Z7x.1 h).elim (λh=>absurd h (Znq j)) (λh=>absurd h (Zh9 j))⟩
set_option maxRecDepth 4000 in
theorem Z1eh(w:World)(x:TelX)(lv:Value)(l:List Evt)(hx:RdX w x)(hr:Zqf w lv l)(ho:x.ox=[])(hs:SmlT x.tel)(hcl:∀e∈l,e.client.length<1099511627776)(hbl:∀e∈l,e.bytes.length<=30000000)(hll:l.length<1000000000) : Calls Tryz.prog 17 #[bkV x,sc1 lv] w λq w'=>Zqo w w' q (runE x.tel l) (if runE x.tel l=0 then { (runF l (x.tel,[])).1 with out:=[] }else telN) (if runE x.tel l=0 then Zqs l (x.tel,[])else[]):=by
  have hr0:Rel ⟨[],w⟩ (bkA x++[.v lv,.r (l.map Ze8)]) (bkH++[.rd 10 kEv (.var 11)]) w:=Rel.start2 (qy2.2 ⟨⟨hx.kept,rfl⟩,qy2.2 ⟨⟨hx.want,rfl⟩,qy2.2 ⟨⟨hx.sess,rfl⟩,qy2.2 ⟨⟨hx.nest,rfl⟩,qy2.2 ⟨⟨hx.wat,rfl⟩,qy2.2 ⟨⟨hr,rfl⟩,qy5 _⟩⟩⟩⟩⟩⟩);refine Z1 (Z3 (J:=bkA x++[.v lv,.r (l.map Ze8)]) (sxE_ok.joins _) Tryz.func17 Zhy rfl rfl hr0 rfl rfl ?_) rfl;simp only[QQ,Nat.reduceAdd,qy3,qy4];intro b12 b13;refine⟨[.i (chkB x.tel)],rfl,λ_ w' hr=>Z6t w' x (RdX.rel ⟨hr.at_ 3 rfl,hr.at_ 4 rfl,hr.at_ 5 rfl,hr.at_ 6 rfl,hr.at_ 7 rfl⟩) ho hs.b,?_⟩;simp only[QQ,Nat.reduceAdd,qy3,qy4];have hE:=Zu2 x.tel l;obtain⟨E,hEE⟩:∃E,E=runE x.tel l:=⟨_,rfl⟩
  rw[<- hEE]at hE⊢;obtain⟨n1,hn1⟩:∃n1,n1=if chkB x.tel=0/\60<(l.length:Int)then 2 else chkB x.tel:=⟨_,rfl⟩
  rw[<- hn1]at hE;refine⟨λvs=>vs=[.i n1],⟨λh=>by rw[hn1,if_pos h],λh=>by rw[hn1,if_neg h]⟩,?_⟩;rintro _ - rfl;simp only[QQ,Nat.reduceAdd,qy3,qy4];refine⟨λvs=>∃(n:Int) (i:Nat),vs=[.i n,.i i]/\i<=l.length/\(¬n=0->E=n)/\(n=0->E=evsE (l.drop i)),λvs=>l.length - (vs.getD 1 (.i 0)).toI.toNat,⟨n1,0,rfl,Nat.zero_le _,λh=>by rw[hE,if_pos h],λh=>by rw[hE,if_neg (qy9.2 h)];rfl⟩,?_⟩;rintro _ - ⟨n,i,rfl,hi,he1,he2⟩;simp only[QQ,Nat.reduceAdd,qy3,qy4,gEv0,gEv1,gEv2];refine⟨λh1=>?_,λh1=>?_⟩
  . have hi':i<l.length:=by omega
    have hm:l.getD i evD∈l:=by rw[qy1,qy7 hi'];exact List.getElem_mem hi'
    have hev:=he2 h1.2;rw[Zhg hi']at hev;refine⟨by omega,[.i (Z1t (l.getD i evD))],rfl,λ_ w' hr=>Z12b w' (l.getD i evD) (hcl _ hm),?_⟩;simp only[QQ,Nat.reduceAdd,qy3,qy4];refine⟨by omega,by omega,⟨_,i+1,rfl,by omega,λh=>by rw[hev,if_pos h],λh=>by rw[hev,if_neg (qy9.2 h)]⟩,by omega⟩
  refine⟨λh2 w3 hr3=>?_,λh2=>?_⟩
  . have hEn:=he1 h2;rw[hEn,if_neg h2,if_neg h2];exact⟨Znp,[],.slice none 0 0,rfl,rfl,rfl,Z1bp _ _,hr3.mod⟩
  have h2:n=0:=qy9.1 h2;have hE0:E=0:=by rw[he2 h2,show i=l.length by omega,List.drop_length];rfl
  obtain⟨hB,h60,hall⟩:=Z1bl (hEE.symm.trans hE0);rw[hE0,if_pos rfl,if_pos rfl];clear hn1 he1 he2 hE hEE hE0;intro w1 hr1;refine(Znr hr1 19 (Z117 w1 x (RdX.rel ⟨hr1.at_ 3 rfl,hr1.at_ 4 rfl,hr1.at_ 5 rfl,hr1.at_ 6 rfl,hr1.at_ 7 rfl⟩) hs.b.keptL hs.b.wantsL hs.b.watL hs.b.sessL hs.f) rfl).mono ?_;rintro q w2 ⟨⟨yk,yw,ys,ya,yn,yo,v1,v2,v3,v4,v5⟩,y1,y2,yf,rfl,m1,m3,m4⟩;simp only at y1;subst y1;have hz1:=hr1.mod.size;have hsn:∀j,Z2 v3 j->w.heap.size<=j:=λj hj=>((m3 (.row 23 50 kSx (.var 24)) (by simp[owEs])).2 j hj).elim (λh=>Nat.le_trans hz1 h) (λh=>h.elim (λh=>by cases h.1) (λh=>by cases h));have han:∀j,Z2 v4 j->w.heap.size<=j:=λj hj=>((m3 (.row 25 97 kW_K (.var 26)) (by simp[owEs])).2 j hj).elim (λh=>Nat.le_trans hz1 h) (λh=>h.elim (λh=>by cases h.1) (λh=>by cases h));refine⟨owA ⟨yk,yw,ys,ya,yn,[],v1,v2,v3,v4,v5⟩,rfl,rfl,m1,qy5 _,m3,m4,?_⟩;clear m1 m3 m4;have hyt:TelX.tel (⟨yk,yw,ys,ya,yn,[],v1,v2,v3,v4,.slice none 0 0⟩:TelX)=x.tel:=by rw[show TelX.tel (⟨yk,yw,ys,ya,yn,[],v1,v2,v3,v4,.slice none 0 0⟩:TelX)=TelX.tel ⟨yk,yw,ys,ya,yn,[],v1,v2,v3,v4,v5⟩ from rfl,y2];simp only[TelX.tel,ho,List.map_nil]
  intro b29;refine⟨runA ys [],λw hr=>Z2i.2 ⟨hr.at_ 6 rfl,Ztv w⟩,λj hj=>⟨_,qy6 (i:=6) rfl,rfl,(Z7x.1 hj).elim id (λh=>absurd h (Zh9 j))⟩,?_⟩;refine⟨λvs=>∃(i:Nat) (y:TelX) (L:List AllX) (av:Value) (r:List Rst) (rv:Value),vs=[.v av,.r (L.map Zog),.i i,.a (runA y.sx L),.v y.kv,.r (y.kept.map encK),.v y.wv,.r (y.wants.map Zb),.v y.sv,.r (y.sx.map Zg),.v y.av,.r (y.wat.map Z8),.i y.next,.v rv,.r (r.map Z5l),.v y.ov,.r (y.ox.map Z1r)]/\i<=l.length/\(y.tel,r)=runF (l.take i) (x.tel,[])/\L.map (λt=>t.1.map (·.1))=Zqs (l.take i) (x.tel,[])/\(∀j,wlG y.bare rv j->w.heap.size<=j)/\∀j,(runA y.sx L).fp j->w.heap.size<=j,
    λvs=>l.length - (vs.getD 2 (.i 0)).toI.toNat,⟨0,(⟨yk,yw,ys,ya,yn,[],v1,v2,v3,v4,.slice none 0 0⟩:TelX),[],.slice none 0 0,[],.slice none 0 0,rfl,Nat.zero_le _,by rw[hyt];rfl,rfl,Zu0 Z3r (λj h=>Nat.le_trans hz1 (yf.1 j h)) (λj h=>Nat.le_trans hz1 (yf.2.1 j h)) hsn han (λj h=>Nat.le_trans hz1 (yf.2.2 j h)) (λj h=>absurd h (Z3r j)),λj hj=>(Z7x.1 hj).elim (λh=>Nat.le_trans hz1 (yf.2.2 j h)) (λh=>absurd h (Zh9 j))⟩,?_⟩
  rintro _ - ⟨i,y,L,av,r,rv,rfl,hi,hty,hsL,hnw,hnA⟩;have hrun:=Zqt (l.take i) (x:=(x.tel,[])) (λe he=>hall e (List.mem_of_mem_take he)) hB (Z7r.1 rfl);have hrln:=Zlr (l.take i) (x.tel,[]);rw[<- hty,List.length_take]at hrln;rw[<- hty]at hrun;obtain⟨hby,hry⟩:=hrun;have hLl:L.length<=60:=by have:=congrArg List.length hsL;rw[qy3,Zh0,List.length_take]at this;omega
  simp only[QQ,Nat.reduceAdd,qy3,qy4,gEv0,gEv1,gEv2];refine⟨λh3=>?_,λh3 w5 hr5=>?_⟩
  . have hi':i<l.length:=by omega
    have hm:l.getD i evD∈l:=by rw[qy1,qy7 hi'];exact List.getElem_mem hi'
    have hrs:=Zh1 (fd:=feed) (dm:=dec) hi' (x.tel,[]);have hss:=Zw1 (fd:=feed) (dm:=dec) hi' (x.tel,[]);rw[show runW feed dec (l.take i) (x.tel,[])=(y.tel,r) from hty.symm]at hrs;rw[show Zle feed dec (l.take i) (x.tel,[])=L.map (λt=>t.1.map (·.1)) from hsL.symm,hrs]at hss;refine⟨by omega,λb49 w3 hr3=>?_⟩;have hc5:=Z17s w3 b29 y.bare r rv (l.getD i evD) (Z1fo (Ztx (hr3.pick [4,5,6,7,18,1,3] (by decide)) (by rfl) 111 kSn) (by rfl) b29 y.bare r rv [.s (l.getD i evD).client,.i (l.getD i evD).peer,.s (l.getD i evD).bytes] (Z2i.1 (hr3.at_ 1 rfl:(runA y.sx L).holds w3)).1 (λj hj=>⟨_,qy6 (i:=6) rfl,rfl,Z7x.2 (.inl hj)⟩) [2,3,4,5,6,1,0,8] (by decide) rfl rfl) (hby.out []) hry (hall _ hm) (by simp only[List.length_nil]at hrln;omega) (show 0<10000000000 by decide) (hbl _ hm);refine(Z1dv (k:=b29) (x:=y.bare) hr3 50 29 [45] hc5 rfl rfl (by show 29<50;decide) (λj hj=>?_) (λj hj=>?_)).mono ?_
    . rcases hj with hj|hj
      . exact Z26 (i:=45) (by simp) hj
      . exact absurd hj (Z3r j)
    . rcases hj with hj|hj|hj|hj|hj
      . exact .inl (qE 4 rfl rfl hj)
      . exact .inl (qE 5 rfl rfl hj)
      . exact .inl (qE 6 rfl rfl hj)
      . exact .inl (qE 7 rfl rfl hj)
      . exact .inl ⟨_,qy6 (i:=1) rfl,rfl,Z7x.2 (.inl hj)⟩
    rintro q w6 ⟨z,r',rw',hz,hsz,hg,rfl,m1,m2,m3,m4⟩;refine⟨wlV z r' rw',rfl,rfl,m1,m2,m3,m4,?_⟩;have hz3:=hr3.mod.size;clear m1 m2 m3 m4 hc5;have hn:∀j,wlG z rw' j->w.heap.size<=j:=λj hj=>(hg j hj).elim (λh=>Nat.le_trans hz3 h) (hnw j);have hz':(z.tel,r')=oneW feed dec (y.tel,r) (l.getD i evD):=hz;intro v64;refine⟨by(first|omega|(simp only[qy11,qy3,List.length_cons,List.length_nil];omega)),λv65=>⟨by omega,by omega,?_⟩⟩;refine⟨runA z.sx (L++[(z.ox,z.ov)]),λw hr=>Z2i.2 ⟨Z1c (y:=z) (hr.at_ 8 rfl),Z12c (t:=(z.ox,z.ov)) (Z2i.1 (hr.at_ 10 rfl:(runA y.sx L).holds w)).2 (hr.at_ 7 rfl) (Z12n (hr.at_ 8 rfl))⟩,λj hj=>?_,⟨i+1,z,L++[(z.ox,z.ov)],v65,r',rw',by rw[List.map_append];rfl,by omega,hz'.trans hrs.symm,?_,λj hj=>hn j (Z16o hj),λj hj=>?_⟩,by omega⟩
    . rcases Z7x.1 hj with h|h
      . exact(qE 8 rfl rfl (Zjk h))
      . rcases Z12d h with h|h|h
        . exact⟨_,qy6 (i:=10) rfl,rfl,Z7x.2 (.inr h)⟩
        . exact(qE 7 rfl rfl h)
        . exact(qE 8 rfl rfl (Zjj h))
    . rw[show Zqs (l.take (i+1)) (x.tel,[])=_ from hss,<- hz'];simp only[List.map_append,List.map_cons,List.map_nil];rfl
    . rcases Z7x.1 hj with h|h
      . exact hn j (.inl (.inr (.inr (.inr (.inr (Zjk h))))))
      . rcases Z12d h with h|h|h
        . exact hnA j (Z7x.2 (.inr h))
        . exact hn j (.inr (.inr h.2))
        . exact hn j (.inl (.inr (.inr (.inr (.inr (Zjj h))))))
  . obtain rfl:i=l.length:=by omega
    rw[List.take_length]at hty hsL;exact⟨y.bare,L,av,rfl,by rw[Z7v,<- hty],hsL,⟨Z12m (z:=y.bare) hnw (hr5.at_ 3 rfl) (hr5.at_ 4 rfl) (hr5.at_ 5 rfl) (hr5.at_ 6 rfl) (Z9 _ _) (Z2i.1 (hr5.at_ 0 rfl:(runA y.sx L).holds w5)).1,rfl,(hr5.at_ 1 rfl:owns _ _ _ _ _).reads,λj _ h=>Z20 hr5 1 rfl j h,hr5.at_ 0 rfl,hnA⟩,hr5.mod⟩
