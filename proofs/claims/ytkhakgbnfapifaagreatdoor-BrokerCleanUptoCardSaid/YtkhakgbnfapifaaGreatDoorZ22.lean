/-
  Texts of mine, one behind the other. By an AI agent.
-/
import Derived.Test.YtkhakgbnfapifaaGreatDoorZ20
import Derived.Test.YtkhakgbnfapifaaGreatDoorZ21
import Derived.Test.YtkhakgbnfapifaaGreatDoorZ01
import Derived.WalkKit
import Derived.ProofKit
import Derived.OpenShut
import Derived.JoinedCond
import Derived.ChangeStays
import Derived.Test.YtkhakgbnfapifaaGreatDoorZ05
import Derived.Test.YtkhakgbnfapifaaGreatDoorZ11
import Derived.Test.YtkhakgbnfapifaaGreatDoorZ09
import Derived.Test.YtkhakgbnfapifaaGreatDoorZ10
set_option linter.unusedSimpArgs false
set_option linter.unusedVariables false
set_option maxHeartbeats 20000000
namespace Go.Proofs.YtkhakgbnfapifaaGreatDoor
open Go Go.Sx
theorem Z92 {l:List SntX} {s:Snt} {r:List Snt} (h:l.map (·.1)=s::r):0<l.length/\(l.getD 0 sntD).1=s:=by
  cases l with
  | nil=>cases h
  | cons a l=>exact⟨Nat.succ_pos _,(List.cons.inj h).1⟩
theorem Zi0 (n:Int):SmallP { pD_Q 4 with id:=n }:=⟨(by decide:(0:Nat)<1000000000),(by decide:(0:Nat)<1000000000),(by decide:(0:Nat)<1000000000),(by decide:(0:Nat)<1000000000),(by decide:(0:Nat)<1000000000),fun a ha=>by cases ha⟩
theorem Zi1 {t X:Tel} (ht:BOk t) {c:List UInt8} (hc:Zn c=true) (hX:BOk X) (hs:X.sess=t.sess.take (idxS t.sess c)++[clnS c]++t.sess.drop (idxS t.sess c)) (hg:Z5b c X={ t with out:=[] }) (ho:X.out=[]) (p:Pkt) :
    gonE c X=0/\Z5b c X={ t with out:=[] }/\(pktE c p X=0->p.kind=3->¬p.qos=0->[toC c { pD_Q 4 with id:=p.id }] <+: (Zq c p X).out):=by
  refine⟨?_,hg,fun h1 h2 h3=>?_⟩
  . rw[gonE,if_neg (qy9.2 (Z6l.2 hX)),if_neg (qy9.2 hc)]
  . have h4:=Zro ((Zcr (Z7r h1).2.2).2.1 h2);refine Zzj ?_ ?_ h2 (by omega) ho
    . rw[hs];exact Zlq (c:=c) (s:=clnS c) ht.sort rfl
    . rw[hs,Zlr (c:=c) (s:=clnS c) ht.sort rfl];rfl
theorem Z11t {l:List Ses} {c:List UInt8}:¬0<=atS l c↔¬hasS l c=true:=by
  unfold atS;split
  . rename_i h;simp[h]
  . rename_i h;simp[h]
abbrev pkB (p:Pkt) (va vc:Value):List V:=[.i p.kind,.b p.dup,.b p.retain,.b p.clean,.b p.session,.i p.qos,.i p.id,.i p.keep,.i p.code,.s p.client,.s p.topic,.s p.payload,.v va,.r (p.asks.map encA),.v vc,.r (p.codes.map Z11)]
theorem Zg3 (w:World) (x:TelX) (c:List UInt8) (av:Value) (asks:List Ak) (p:Pkt) (va vc:Value) (hx:RdX w x) (hk:Z4b w av asks) (ha:Z4b w va p.asks) (hc:Z4c w vc p.codes) (ho:x.ox=[]) (hs:SmlT x.tel) (hcn:c.length<1000000000) (hp:SmallP p) (hka:asks.length<1000000000) (hkf:∀a∈asks,a.1.length<1000000000) : Calls Tryz.prog 5 #[bkV x,.string ⟨c.toArray⟩,sc1 av,pV p va vc] w fun e w'=>e=.returned (.bool true)/\Mod [] w w':=by
  refine Z2 (Z3 (ρ:=bkA x++([V.s c,V.v av,V.r (asks.map encA)]++pkB p va vc)) sxE_ok Tryz.func5 Z3g rfl rfl
    (Rel.start2 (qy2.2 ⟨⟨hx.kept,rfl⟩,qy2.2 ⟨⟨hx.want,rfl⟩,qy2.2 ⟨⟨hx.sess,rfl⟩,qy2.2 ⟨⟨hx.nest,rfl⟩,qy2.2 ⟨⟨hx.wat,rfl⟩,qy2.2 ⟨⟨hk,rfl⟩,qy2.2 ⟨⟨ha,rfl⟩,qy2.2 ⟨⟨hc,rfl⟩,qy5 _⟩⟩⟩⟩⟩⟩⟩⟩)) rfl rfl ?_) rfl
  simp only[Tree.goal,X.P,X.ev,SV.ev,CV.ev,Sc.ev,qz,QA,QB,QC,QD,QE,QF,QG,QH,QI,QJ,QK,QL,QM,Nat.reduceAdd,qy3,qy4];have hxo:x.tel.out=[]:=by simp[TelX.tel,ho]
  have hcl:c.length<1099511627776:=by omega
  have hs0:SmlT { ({ x.tel with out:=[] }:Tel) with out:=[] }:=⟨hs.kept,hs.keptL,hs.wants,hs.wantsL,hs.sess,hs.sessL,hs.wat,hs.watL⟩
  have hsx:x.tel.sess=x.sx.map (·.1):=rfl;intro b29 b30;refine⟨[.b true],rfl,fun _ w' _=>Zg1 w',?_⟩;simp only[Tree.goal,X.P,X.ev,SV.ev,CV.ev,Sc.ev,qz,QA,QB,QC,QD,QE,QF,QG,QH,QI,QJ,QK,QL,QM,Nat.reduceAdd,qy3,qy4];refine⟨fun h=>absurd h (by simp),fun _=>?_⟩;intro w1 hr1;have scon:SmallP (conP c):=⟨hcn,(by decide:(0:Nat)<1000000000),(by decide:(0:Nat)<1000000000),(by decide:(0:Nat)<1000000000),(by decide:(0:Nat)<1000000000),fun a ha=>by cases ha⟩
  have hq:=Z69 w1 x c (conP c) (.slice none 0 0) (.slice none 0 0) (Zhx ⟨hr1.at_ 2 rfl,hr1.at_ 3 rfl,hr1.at_ 4 rfl,hr1.at_ 5 rfl,hr1.at_ 6 rfl⟩ (Z7 w1 _) (Z7 w1 _)) ho hs.b hs.f hcl scon;obtain⟨e1,he1⟩:∃e,pktE c (conP c) x.tel=e:=⟨_,rfl⟩
  rw[he1]at hq;refine(Zei hr1 32 hq rfl).mono ?_;rintro r w2 ⟨y1,t1,-,rfl,m1,m3,m4⟩;refine⟨brV y1 e1,rfl,rfl,m1,qy5 _,m3,m4,?_⟩;clear m1 m3 m4 hr1 hq;intro b45;refine⟨[.i (atS x.tel.sess c)],rfl,fun h w' hr=>?_,?_⟩
  . have hB:=(Z7r (he1.trans h)).1;exact Zjh w' x.sv x.sx c (hr.at_ 11 rfl) hB.sort (by have:=hs.b.sessL;omega)
  simp only[Tree.goal,X.P,X.ev,SV.ev,CV.ev,Sc.ev,qz,QA,QB,QC,QD,QE,QF,QG,QH,QI,QJ,QK,QL,QM,Nat.reduceAdd,qy3,qy4];refine⟨fun h w' hr=>⟨?_,hr.mod⟩,fun h=>?_⟩
  . by_cases h1:e1=0
    . simp[h1]
    . have:y1.ox=[]:=by
        have:=congrArg Tel.out t1;rw[resB,if_neg h1]at this;simpa [TelX.tel,telN]using this
      simp[this]
  have h1:e1=0:=Classical.byContradiction fun h2=>h (.inl h2);have hno:¬hasS x.tel.sess c=true:=Z11t.1 fun h2=>h (.inr h2);obtain⟨hB,hcb,-⟩:=Z7r (he1.trans h1);rw[h1,Zg0]at t1;clear h;refine⟨fun h6=>?_,fun h6=>?_⟩
  . have h6':x.tel.sess.length=6:=by rw[hsx,qy3];omega
    rw[Znn hno h6',hxo,List.nil_append]at t1;have ho1:y1.ox.map (·.1)=[toC c { pD_Q 2 with code:=3 }]:=congrArg Tel.out t1;have hl1:y1.ox.length=1:=by have:=congrArg List.length ho1;simpa using this
    obtain⟨-,hf1⟩:=Z92 ho1;have r1:=Zfu (l:=y1.ox) (i:=0) (by omega);have hcode:Value.gI (((y1.ox.map Z22).getD (Int.toNat 0) []).getD 9 undef)=3:=by
      rw[Int.toNat_zero,r1]
      show (y1.ox.getD 0 sntD).1.pk.code=3
      rw[hf1]
    have hsm1:SmlT y1.bare.tel:=by rw[Z1l,t1];exact⟨hs.kept,hs.keptL,hs.wants,hs.wantsL,hs.sess,hs.sessL,hs.wat,hs.watL⟩
    refine⟨.inr (by omega),?_⟩;refine⟨[.b true],rfl,fun _ w' hr=>?_,?_⟩
    . have hc:=Z6a w' y1.bare x ⟨hr.at_ 1 rfl,hr.at_ 2 rfl,hr.at_ 3 rfl,Z31 (y:=y1) (hr.at_ 6 rfl),hr.at_ 4 rfl⟩ ⟨hr.at_ 9 rfl,hr.at_ 10 rfl,hr.at_ 11 rfl,hr.at_ 12 rfl,hr.at_ 13 rfl⟩ hsm1.b.keptL hsm1.b.wantsL hsm1.b.watL (by have:=hsm1.b.sessL;omega) hsm1.f;rw[show Zfy y1.bare.tel x.tel=true from Zct.2 (by rw[Z1l,t1])]at hc;exact hc
    simp only[Tree.goal,X.P,X.ev,SV.ev,CV.ev,Sc.ev,qz,QA,QB,QC,QD,QE,QF,QG,QH,QI,QJ,QK,QL,QM,Nat.reduceAdd,qy3,qy4];intro w' hr;refine⟨?_,hr.mod⟩;rw[hcode,hl1];rfl
  have h6':¬x.tel.sess.length=6:=by rw[hsx,qy3];omega
  rw[Zhy hB hno h6',hxo,List.nil_append]at t1;have ho1:y1.ox.map (·.1)=[toC c (pD_Q 2)]:=congrArg Tel.out t1;have hl1:y1.ox.length=1:=by have:=congrArg List.length ho1;simpa using this
  obtain⟨-,hf1⟩:=Z92 ho1;have r1:=Zfu (l:=y1.ox) (i:=0) (by omega);have mm1:=Zs5 (l:=y1.ox) (i:=0) (by omega);have hcli:Value.gS (((y1.ox.map Z22).getD (Int.toNat 0) []).getD 0 undef)=c:=by
    rw[Int.toNat_zero,r1]
    show (y1.ox.getD 0 sntD).1.client=c
    rw[hf1]
  have X1e:y1.bare.tel={ x.tel with sess:=x.tel.sess.take (idxS x.tel.sess c)++[clnS c]++x.tel.sess.drop (idxS x.tel.sess c),out:=[] }:=by rw[Z1l,t1]
  have X1B:BOk y1.bare.tel:=by have:=(Zed hB hcb (Z7r (he1.trans h1)).2.2).1;rw[Zhy hB hno h6']at this;rw[X1e];exact this.out []
  have X1s:SmlT y1.bare.tel:=.of X1B;have X1t:=Zi1 hB hcb X1B (by rw[X1e]) ((by rw[X1e];exact(Zej hB hcb hno rfl [] (fun a ha=>by cases ha)).1)) (by rw[X1e]) p;refine⟨.inr (by omega),.inr (by omega),?_⟩;refine⟨[.b true],rfl,fun _ w' hr=>?_,?_⟩
  . have n1:=Z6k (hr.at_ 6 rfl:(Z6 y1.sx y1.ox).holds w') mm1;simp only[Int.toNat_zero,r1,Z22,List.getD_cons_zero,List.getD_cons_succ,Value.gI,Value.gB,Value.gS,Z1k];generalize y1.ox.getD 0 sntD=ta at hf1 n1 ⊢
    obtain⟨⟨tc,tp,tn,tm⟩,a1,a2,a3⟩:=ta;simp only[Snt.mk.injEq]at hf1;obtain⟨rfl,rfl,rfl,rfl⟩:=hf1;have hc:=Z4k w' (pD_Q 2) (pD_Q 2) a1 a2 (.slice none 0 0) (.slice none 0 0) n1.1 n1.2.1 (Z7 w' _) (Z7 w' _) ⟨by decide,by decide,by decide,by decide,by decide,fun a ha=>by cases ha⟩;rw[decide_eq_true rfl]at hc;exact Z2 hc rfl
  simp only[Tree.goal,X.P,X.ev,SV.ev,CV.ev,Sc.ev,qz,QA,QB,QC,QD,QE,QF,QG,QH,QI,QJ,QK,QL,QM,Nat.reduceAdd,qy3,qy4,hcli];refine⟨fun h=>absurd h (by simp[hl1]),fun _=>?_⟩;intro w5 hr5;have ssub:SmallP (subP asks):=⟨(by decide:(0:Nat)<1000000000),(by decide:(0:Nat)<1000000000),(by decide:(0:Nat)<1000000000),hka,(by decide:(0:Nat)<1000000000),hkf⟩
  have hq:=Z69 w5 y1.bare c (subP asks) av (.slice none 0 0) (Zhx ⟨hr5.at_ 1 rfl,hr5.at_ 2 rfl,hr5.at_ 3 rfl,Z31 (y:=y1) (hr5.at_ 6 rfl),hr5.at_ 4 rfl⟩ (hr5.at_ 14 rfl) (Z7 w5 _)) rfl X1s.b X1s.f hcl ssub;obtain⟨e2,he2⟩:∃e,pktE c (subP asks) y1.bare.tel=e:=⟨_,rfl⟩
  rw[he2]at hq;refine(Zei hr5 48 hq rfl).mono ?_;rintro r w6 ⟨y2,t2,-,rfl,m1,m3,m4⟩;refine⟨brV y2 e2,rfl,rfl,m1,qy5 _,m3,m4,?_⟩;clear m1 m3 m4 hr5 hq;intro b61;simp only[Tree.goal,X.P,X.ev,SV.ev,CV.ev,Sc.ev,qz,QA,QB,QC,QD,QE,QF,QG,QH,QI,QJ,QK,QL,QM,Nat.reduceAdd,qy3,qy4];refine⟨fun h2=>?_,fun h2=>?_⟩
  . have hpo:=(Z7r (he2.trans h2)).2.2;have hask:=(Zlf hpo rfl).1;rw[h2,Zg0]at t2;have hh1:hasS y1.bare.tel.sess c=true:=by rw[X1e];exact Zlq (c:=c) (s:=clnS c) hB.sort rfl
    have hh2:(y1.bare.tel.sess.getD (idxS y1.bare.tel.sess c) s0).on=true:=by rw[X1e];simp only[];rw[Zlr (c:=c) (s:=clnS c) hB.sort rfl];rfl
    have X2B:BOk y2.bare.tel:=by rw[Z1l,t2];exact(Zed X1B hcb hpo).1.out []
    have X2s:SmlT y2.bare.tel:=.of X2B;have X2g:Z5b c y2.bare.tel={ x.tel with out:=[] }:=by rw[Z1l,t2];exact(Zej hB hcb hno X1e asks hask).2
    rw[Z11s hh1 hh2]at t2;have X2t:=Zi1 hB hcb X2B (by rw[Z1l,t2];show y1.bare.tel.sess=_;rw[X1e]) X2g rfl p;obtain⟨so,sl⟩:=Zso (t:=y1.bare.tel) (c:=c) (asks:=asks) (by rw[X1e]);have ho2:y2.ox.map (·.1)=_:=(congrArg Tel.out t2).trans so;obtain⟨hl2,hf2⟩:=Z92 ho2;have r2:=Zfu hl2;have mm2:=Zs5 hl2;generalize (Z7g c y1.bare.tel.wants asks).2=codes at sl hf2
    have hkind:Value.gI (((y2.ox.map Z22).getD (Int.toNat 0) []).getD 1 undef)=9:=by
      rw[Int.toNat_zero,r2]
      show (y2.ox.getD 0 sntD).1.pk.kind=9
      rw[hf2]
    have hcod:(y2.ox.getD 0 sntD).1.pk.codes=codes:=by rw[hf2]
    refine⟨.inr (by omega),.inr (by omega),fun h3=>absurd h3 (by rintro(h3|h3);omega;exact h3 hkind),fun _=>?_⟩;refine⟨codes.map Z11,fun w' hr=>?_,?_⟩
    . have hnn:=Z6k (hr.at_ 6 rfl:(Z6 y2.sx y2.ox).holds w') mm2;rw[hcod]at hnn;have hv':(((y2.ox.map Z22).getD (Int.toNat 0) []).getD 14 undef)=(y2.ox.getD 0 sntD).2.2.1:=by rw[Int.toNat_zero,r2];exact hnn.2.1.sc1
      refine⟨by rw[hv'];exact hnn.2.1,fun hne k hk e he hw hf=>?_⟩;have hk':Z1 (y2.ox.getD 0 sntD).2.2.1 k:=by rw[<- hv'];exact hk
      exact hr.disj (qy6 (i:=6) rfl) he (fun h=>by subst h;cases hw) (.inr hw) (Ze.2 (.inr ⟨_,mm2,.inr (.inl ⟨by rw[hcod];exact hne,hk'⟩)⟩)) hf
    simp only[Tree.goal,X.P,X.ev,SV.ev,CV.ev,Sc.ev,qz,QA,QB,QC,QD,QE,QF,QG,QH,QI,QJ,QK,QL,QM,Nat.reduceAdd,qy3,qy4];refine⟨fun h3=>absurd h3 (by omega),fun _=>?_⟩;intro w9 hr9;have hq:=Zjf w9 y2.bare c (Zsj ⟨hr9.at_ 2 rfl,hr9.at_ 3 rfl,hr9.at_ 4 rfl,Z31 (y:=y2) (hr9.at_ 7 rfl),hr9.at_ 5 rfl⟩) rfl X2s.b X2s.f hcl;rw[X2t.1,X2t.2.1,Zg0]at hq;refine(Zsh hr9 64 hq rfl).mono ?_;rintro r w10 ⟨y3,t3,-,-,rfl,m1,m3,m4⟩;refine⟨gnV y3 0,rfl,rfl,m1,qy5 _,m3,m4,?_⟩;clear m1 m3 m4 hr9 hq;intro b75;have sm3:SmlT y3.bare.tel:=by rw[Z1l,t3];exact hs0
    refine⟨[.b true],rfl,fun _ w' hr=>?_,?_⟩
    . have hc:=Z6a w' y3.bare x ⟨hr.at_ 1 rfl,hr.at_ 2 rfl,hr.at_ 3 rfl,Z31 (y:=y3) (hr.at_ 5 rfl),hr.at_ 4 rfl⟩ ⟨hr.at_ 23 rfl,hr.at_ 24 rfl,hr.at_ 25 rfl,hr.at_ 26 rfl,hr.at_ 27 rfl⟩ sm3.b.keptL sm3.b.wantsL sm3.b.watL (by have:=sm3.b.sessL;omega) sm3.f;rw[show Zfy y3.bare.tel x.tel=true from Zct.2 (by rw[Z1l,t3])]at hc;exact hc
    simp only[Tree.goal,X.P,X.ev,SV.ev,CV.ev,Sc.ev,qz,QA,QB,QC,QD,QE,QF,QG,QH,QI,QJ,QK,QL,QM,Nat.reduceAdd,qy3,qy4];refine⟨fun h=>absurd h (by simp),fun _=>?_⟩;intro w11 hr11;have hq:=Z69 w11 y2.bare c p va vc (Zhx ⟨hr11.at_ 8 rfl,hr11.at_ 9 rfl,hr11.at_ 10 rfl,Z31 (y:=y2) (hr11.at_ 13 rfl),hr11.at_ 11 rfl⟩ (hr11.at_ 29 rfl) (hr11.at_ 30 rfl)) rfl X2s.b X2s.f hcl hp;have ack:=X2t.2.2;have pok:=fun h=>(Z7r (c:=c) (p:=p) (t:=y2.bare.tel) h).2.2;generalize pktE c p y2.bare.tel=e4 at hq ack pok
    generalize Zq c p y2.bare.tel=T4 at hq ack
    refine(Zei hr11 77 hq rfl).mono ?_;rintro r w12 ⟨y4,t4,-,rfl,m1,m3,m4⟩;refine⟨brV y4 e4,rfl,rfl,m1,qy5 _,m3,m4,?_⟩;clear m1 m3 m4 hr11 hq;intro b90;simp only[Tree.goal,X.P,X.ev,SV.ev,CV.ev,Sc.ev,qz,QA,QB,QC,QD,QE,QF,QG,QH,QI,QJ,QK,QL,QM,Nat.reduceAdd,qy3,qy4];refine⟨fun _ w' hr=>⟨by trivial,hr.mod⟩,fun h=>?_⟩;have he4:e4=0:=Classical.byContradiction fun h1=>h (.inl (.inl h1));have hk3:p.kind=3:=Classical.byContradiction fun h1=>h (.inl (.inr h1));have hq0:¬p.qos=0:=fun h1=>h (.inr h1);obtain⟨rest,hrest⟩:=ack he4 hk3 hq0;have ho4:y4.ox.map (·.1)=toC c { pD_Q 4 with id:=p.id }::rest:=by have:=congrArg Tel.out t4;rw[he4,Zg0,<- hrest]at this;exact this
    obtain⟨hl4,hf4⟩:=Z92 ho4;have r4:=Zfu hl4;have m4:=Zs5 hl4;simp only[Int.toNat_zero,r4,Z22,List.getD_cons_zero,List.getD_cons_succ,Value.gI,Value.gB,Value.gS,Z1k];generalize y4.ox.getD 0 sntD=ta at hf4 m4 ⊢
    obtain⟨⟨tc,tp,tn,tm⟩,a1,a2,a3⟩:=ta;simp only[Snt.mk.injEq]at hf4;obtain⟨rfl,rfl,rfl,rfl⟩:=hf4;simp only;refine⟨.inr (by omega),.inr (by omega),?_⟩;refine⟨[.b true],rfl,fun _ w' hr=>?_,?_⟩
    . have n1:=Z6k (hr.at_ 6 rfl:(Z6 y4.sx y4.ox).holds w') m4;have hc:=Z4k w' { pD_Q 4 with id:=p.id } { pD_Q 4 with id:=p.id } a1 a2 (.slice none 0 0) (.slice none 0 0) n1.1 n1.2.1 (Z7 w' _) (Z7 w' _) (Zi0 p.id);rw[decide_eq_true rfl]at hc;exact Z2 hc rfl
    simp only[Tree.goal,X.P,X.ev,SV.ev,CV.ev,Sc.ev,qz,QA,QB,QC,QD,QE,QF,QG,QH,QI,QJ,QK,QL,QM,Nat.reduceAdd,qy3,qy4];intro w' hr;refine⟨?_,hr.mod⟩;simp;omega
  . have X1g:=X1t;intro w9 hr9;have hq:=Zjf w9 y1.bare c (Zsj ⟨hr9.at_ 8 rfl,hr9.at_ 9 rfl,hr9.at_ 10 rfl,Z31 (y:=y1) (hr9.at_ 13 rfl),hr9.at_ 11 rfl⟩) rfl X1s.b X1s.f hcl;rw[X1t.1,X1t.2.1,Zg0]at hq;refine(Zsh hr9 62 hq rfl).mono ?_;rintro r w10 ⟨y3,t3,-,-,rfl,m1,m3,m4⟩;refine⟨gnV y3 0,rfl,rfl,m1,qy5 _,m3,m4,?_⟩;clear m1 m3 m4 hr9 hq;intro b75;have sm3:SmlT y3.bare.tel:=by rw[Z1l,t3];exact hs0
    refine⟨[.b true],rfl,fun _ w' hr=>?_,?_⟩
    . have hc:=Z6a w' y3.bare x ⟨hr.at_ 1 rfl,hr.at_ 2 rfl,hr.at_ 3 rfl,Z31 (y:=y3) (hr.at_ 5 rfl),hr.at_ 4 rfl⟩ ⟨hr.at_ 22 rfl,hr.at_ 23 rfl,hr.at_ 24 rfl,hr.at_ 25 rfl,hr.at_ 26 rfl⟩ sm3.b.keptL sm3.b.wantsL sm3.b.watL (by have:=sm3.b.sessL;omega) sm3.f;rw[show Zfy y3.bare.tel x.tel=true from Zct.2 (by rw[Z1l,t3])]at hc;exact hc
    simp only[Tree.goal,X.P,X.ev,SV.ev,CV.ev,Sc.ev,qz,QA,QB,QC,QD,QE,QF,QG,QH,QI,QJ,QK,QL,QM,Nat.reduceAdd,qy3,qy4];refine⟨fun h=>absurd h (by simp),fun _=>?_⟩;intro w11 hr11;have hq:=Z69 w11 y1.bare c p va vc (Zhx ⟨hr11.at_ 14 rfl,hr11.at_ 15 rfl,hr11.at_ 16 rfl,Z31 (y:=y1) (hr11.at_ 19 rfl),hr11.at_ 17 rfl⟩ (hr11.at_ 28 rfl) (hr11.at_ 29 rfl)) rfl X1s.b X1s.f hcl hp;have ack:=X1t.2.2;have pok:=fun h=>(Z7r (c:=c) (p:=p) (t:=y1.bare.tel) h).2.2;generalize pktE c p y1.bare.tel=e4 at hq ack pok
    generalize Zq c p y1.bare.tel=T4 at hq ack
    refine(Zei hr11 75 hq rfl).mono ?_;rintro r w12 ⟨y4,t4,-,rfl,m1,m3,m4⟩;refine⟨brV y4 e4,rfl,rfl,m1,qy5 _,m3,m4,?_⟩;clear m1 m3 m4 hr11 hq;intro b90;simp only[Tree.goal,X.P,X.ev,SV.ev,CV.ev,Sc.ev,qz,QA,QB,QC,QD,QE,QF,QG,QH,QI,QJ,QK,QL,QM,Nat.reduceAdd,qy3,qy4];refine⟨fun _ w' hr=>⟨by trivial,hr.mod⟩,fun h=>?_⟩;have he4:e4=0:=Classical.byContradiction fun h1=>h (.inl (.inl h1));have hk3:p.kind=3:=Classical.byContradiction fun h1=>h (.inl (.inr h1));have hq0:¬p.qos=0:=fun h1=>h (.inr h1);obtain⟨rest,hrest⟩:=ack he4 hk3 hq0;have ho4:y4.ox.map (·.1)=toC c { pD_Q 4 with id:=p.id }::rest:=by have:=congrArg Tel.out t4;rw[he4,Zg0,<- hrest]at this;exact this
    obtain⟨hl4,hf4⟩:=Z92 ho4;have r4:=Zfu hl4;have m4:=Zs5 hl4;simp only[Int.toNat_zero,r4,Z22,List.getD_cons_zero,List.getD_cons_succ,Value.gI,Value.gB,Value.gS,Z1k];generalize y4.ox.getD 0 sntD=ta at hf4 m4 ⊢
    obtain⟨⟨tc,tp,tn,tm⟩,a1,a2,a3⟩:=ta;simp only[Snt.mk.injEq]at hf4;obtain⟨rfl,rfl,rfl,rfl⟩:=hf4;simp only;refine⟨.inr (by omega),.inr (by omega),?_⟩;refine⟨[.b true],rfl,fun _ w' hr=>?_,?_⟩
    . have n1:=Z6k (hr.at_ 6 rfl:(Z6 y4.sx y4.ox).holds w') m4;have hc:=Z4k w' { pD_Q 4 with id:=p.id } { pD_Q 4 with id:=p.id } a1 a2 (.slice none 0 0) (.slice none 0 0) n1.1 n1.2.1 (Z7 w' _) (Z7 w' _) (Zi0 p.id);rw[decide_eq_true rfl]at hc;exact Z2 hc rfl
    simp only[Tree.goal,X.P,X.ev,SV.ev,CV.ev,Sc.ev,qz,QA,QB,QC,QD,QE,QF,QG,QH,QI,QJ,QK,QL,QM,Nat.reduceAdd,qy3,qy4];intro w' hr;refine⟨?_,hr.mod⟩;simp;omega
end Go.Proofs.YtkhakgbnfapifaaGreatDoor
namespace Go.Sx
open Go Go.ChangeShapes Go.WideShapes Go.ChangeAt Go.RowKit
section
variable {H:Type} {enc:TypeId×Value->H} {P:Program}
def Z11u (P:Program) (ts:List TypeId):Bool:=ts.all fun t=>match P.underlying t with|some (.slice e)=>decide (0<P.cellsOf e)|_=>true
def Zsp (P:Program) (ts:List TypeId):Bool:=ts.all fun t=>match P.underlying t with
 | some (.slice e)=>ts.contains e
 | some (.pointer e)=>ts.contains e
 | some (.array _ e)=>ts.contains e
 | some (.map _ e)=>ts.contains e
 | some (.struct fs)=>fs.toList.all fun f=>ts.contains f.type
 | _=>true
theorem Zzk (hl:laidOutB P=true) (hm:mapsRowed P=true) {ts:List TypeId} (hc:Zsp P ts=true) (hs:ts.all (fun t=>decide (t<P.types.size))=true):Kids P (·∈ts):=by
 have K:=kids_rows hl hm;have hs':∀t∈ts,t<P.types.size:=fun t ht=>by simpa using List.all_eq_true.1 hs t ht
 have hc':=fun t ht=>List.all_eq_true.1 hc t ht;refine⟨fun {t e} ht hu=>?_,fun {t e} ht hu=>?_,fun {t e n} ht hu=>⟨?_,(K.array (hs' t ht) hu).2⟩,fun {t fs} ht hu=>⟨?_,(K.struct (hs' t ht) hu).2⟩,fun {t k e} ht hu=>?_⟩
 ·have:=hc' t ht;rw[hu]at this;simpa using this
 ·have:=hc' t ht;rw[hu]at this;simpa using this
 ·have:=hc' t ht;rw[hu]at this;simpa using this
 ·have:=hc' t ht;rw[hu]at this;simp only[List.all_eq_true]at this;exact fun f hf=>by simpa using this f hf
 ·have:=hc' t ht;rw[hu]at this;simpa using this
theorem Zcv {w w':World} {p:MemPlace} (h:w'.heap[p.block]?=w.heap[p.block]?):w.sameAt w' p:=by
 cases p with
 | cell b off=>exact World.cell?_of_block h
 | map b=>exact h
theorem Z93 {w w':World} {sp:Nat->Bool} {T:TypeId->Prop} (K:Kids P T) (hsz:∀{t e:TypeId},T t->P.underlying t=some (.slice e)->0<P.cellsOf e) : ∀{ts:List TypeId} {vs:List Value} {ds:List (DataW H)} {ps:List MemPlace},(∀t∈ts,T t)->DataW.TrodAll enc P w 0 (fun _=>true) true ts vs ds ps -> (∀p∈ps,w.sameAt w' p)->(∀p∈ps,sp p.block=true)->DataW.TrodAll enc P w' 0 sp true ts vs ds ps
 | [],_,_,_,_,h,_,_=>by obtain⟨rfl,rfl,rfl⟩:=trodAll_nil h;exact trodAll_mk0
 | t::ts,_,_,_,ht,h,hs,hp=>by
  obtain⟨v,vs1,d,ds1,a,b,rfl,rfl,rfl,h1,h2⟩:=trodAll_cons h;obtain⟨n,h1⟩:=h1;exact⟨a,b,⟨n,DataW.trod_stays K hsz (fun h=>by cases h) (ht t (qy8 ..)) h1 (fun p hp'=>hs p (List.mem_append_left _ hp')) (fun p hp'=>hp p (List.mem_append_left _ hp'))⟩,
   Z93 K hsz (fun u hu=>ht u (qy10 _ hu)) h2 (fun p hp'=>hs p (List.mem_append_right _ hp')) (fun p hp'=>hp p (List.mem_append_right _ hp')),rfl⟩
theorem Zvw {f:Func} {s:ChangeSpec} {fresh handsOn again:Bool} {W W':World} {args:Array Value} {ds gs:List (DataW H)} {before:List MemPlace} {tb:TypeId} (ts:List TypeId) (hW:DataW.Whole enc P f.params.toList s.vars false W args.toList ds gs before) (hv:s.vars=[]) (hr:f.resultTypes=#[tb]) (htb:P.underlying tb=some .bool) (hfn:gs=[]->(s.fn H ds).results=[.lit (.bool true)]/\(s.fn H ds).args=ds/\(s.fn H ds).vars=[]) (hl:laidOutB P=true) (hm:mapsRowed P=true) (hc:Zsp P ts=true) (hs:ts.all (fun t=>decide (t<P.types.size))=true) (hz:Z11u P ts=true) (hp:f.params.toList.all ts.contains=true) (h:Mod [] W W'):s.post enc P f false fresh handsOn again W args (.bool true) W':=by
 have hW':=hW;have hlt:=hW.lt;obtain⟨p,q,hA,hV,rfl,hfz,hn⟩:=hW;rw[hv]at hV;obtain⟨rfl,rfl⟩:=trodVars_none hV;obtain⟨f1,f2,f3⟩:=hfn rfl;have K:=Zzk hl hm hc hs;have hsz:∀{t e:TypeId},t∈ts->P.underlying t=some (.slice e)->0<P.cellsOf e:=fun {t e} ht hu=>by have:=List.all_eq_true.1 hz t ht;rw[hu]at this;simpa using this
 have hT:∀t∈f.params.toList,t∈ts:=fun t ht=>by simpa using List.all_eq_true.1 hp t ht
 have hblk:∀k,k<W.heap.size->W'.heap[k]?=W.heap[k]?:=fun k hk=>h.block k hk (by simp);have hsame:∀x∈p,W.sameAt W' x:=fun x hx=>Zcv (hblk _ (hlt x (by simpa using hx)));have hargs:∀sp:Nat->Bool,(∀x∈p,sp x.block=true)->DataW.TrodAll enc P W' 0 sp true f.params.toList args.toList (s.fn H (ds++[])).args p:=fun sp hsp=>by rw[List.append_nil,f2];exact Z93 K hsz hT hA hsame hsp
 have hres:∀(b:Nat) (sp:Nat->Bool) (hd:Bool),DataW.TrodAll enc P W' b sp hd f.resultTypes.toList ((Value.bool true).resultList f.resultTypes.size) (s.fn H (ds++[])).results []:=fun b sp hd=>by rw[List.append_nil,f1,hr];exact trodAll_cons_mk (shut_bool htb _) trodAll_mk0
 have hvars:∀sp:Nat->Bool,DataW.TrodVars enc P W' sp s.vars (s.fn H (ds++[])).vars []:=fun sp=>by rw[List.append_nil,f3,hv];rfl
 have hold:∀x∈p,(fun b=>decide (b<W.heap.size)) x.block=true:=fun x hx=>by simpa using hlt x (by simpa using hx)
 refine⟨ds,[],p++[],[],p,[],hW',hres _ _ _,hargs _ hold,hvars _,⟨h.os,h.output,fun i hi=>?_⟩,fun _=>⟨?_,[.lit (.bool true)]++ds,[],([]++p)++[],⟨[]++p,[],trodAll_append (by have:=hargs (fun _=>true) (fun _ _=>rfl);rw[List.append_nil,f2]at this;exact this) (by have:=hres 0 (fun _=>true) true;rw[List.append_nil,f1]at this;exact this),by rw[hv];rfl,rfl,?_,by simp⟩,?_⟩⟩
 ·have e:=hblk i hi;rw[e];cases W.heap[i]? with
  | none=>rfl
  | some o=>cases o<;>simp
 ·exact ok_one hr rfl (okWide_bool_mk htb _)
 ·intro b off hb;have hb:MemPlace.cell b off∈p:=by simpa using hb
  have hlt':=hlt _ (show MemPlace.cell b off∈p++[] by simpa using hb);have:=hfz b off (by simpa using hb);simp only[World.frozen?,hblk b hlt']at this ⊢;exact this
 ·intro x hx _;simpa using hx
end
end Go.Sx
namespace Go.Sx
open Go Go.ChangeShapes Go.WideShapes Go.ChangeAt Go.RowKit
section
variable {H:Type} {enc:TypeId×Value->H} {P:Program} {w:World} {sp:Nat->Bool}
structure Bulk (B:DataW H->Nat):Prop where
 agg:∀l:List (DataW H),(l.map B).sum<=B (.agg l)
 slice:∀l r:List (DataW H),(l.map B).sum+1<=B (.slice l r)
 str:∀s:List UInt8,s.length+1<=B (.lit (.string s))
 one:∀d:DataW H,1<=B d
def Zcw (P:Program) (g:TypeId->Option (List (TypeId×Kd))):List Field->Nat->Option (List (TypeId×Kd))
 | [],_=>some []
 | f::fs,off=>do
  let l <- g f.type
  let r <- Zcw P g fs (off+l.length)
  if f.offset=off/\P.cellsOf f.type=l.length then some (l++r) else none
def Z2p (P:Program):Nat->TypeId->Option (List (TypeId×Kd))
 | 0,_=>none
 | f+1,t=>match P.underlying t with
  | some .bool=>some [(t,.bool)]
  | some (.int k)=>some [(t,.int k)]
  | some .string=>some [(t,.str)]
  | some (.slice _)=>some [(t,.oth)]
  | some (.struct fs)=>match Zcw P (Z2p P f) fs.toList 0 with
   | some l=>if P.cellsOf t=l.length then some l else none
   | none=>none
  | _=>none
def Z35 (enc:TypeId×Value->H) (P:Program) (w:World) (sp:Nat->Bool) (B:DataW H->Nat) (l:TypeId×Kd) (c:Value) (b:Nat):Prop :=
 l.2.ok c/\∃n d ps,DataW.trod enc P w 0 sp true n l.1 [c]=some (d,ps)/\B d<=b
inductive Lv (enc:TypeId×Value->H) (P:Program) (w:World) (sp:Nat->Bool) (B:DataW H->Nat):List (TypeId×Kd)->List Value->Nat->Prop
 | nil (b:Nat):Lv enc P w sp B [] [] b
 | cons {l:TypeId×Kd} {ls:List (TypeId×Kd)} {c:Value} {cs:List Value} {b1 b2 b:Nat}:Z35 enc P w sp B l c b1->Lv enc P w sp B ls cs b2->b1+b2<=b->Lv enc P w sp B (l::ls) (c::cs) b
variable {B:DataW H->Nat}
theorem Lv.mono {ls:List (TypeId×Kd)} {cs:List Value} {b b':Nat} (h:Lv enc P w sp B ls cs b) (hb:b<=b'):Lv enc P w sp B ls cs b':=by
 cases h with
 | nil=>exact .nil _
 | cons h1 h2 h3=>exact .cons h1 h2 (by omega)
theorem Lv.append {l2:List (TypeId×Kd)} {c2:List Value} {b2:Nat} (h':Lv enc P w sp B l2 c2 b2):∀{l1:List (TypeId×Kd)} {c1:List Value} {b1:Nat},Lv enc P w sp B l1 c1 b1->Lv enc P w sp B (l1++l2) (c1++c2) (b1+b2):=by
 intro l1 c1 b1 h;induction h with
 | nil b=>exact h'.mono (by omega)
 | cons h1 h2 h3 ih=>exact .cons h1 ih (by omega)
theorem Lv.rowOk {ls:List (TypeId×Kd)} {cs:List Value} {b:Nat} (h:Lv enc P w sp B ls cs b):rowOk (ls.map (·.2)) cs:=by
 induction h with
 | nil=>trivial
 | cons h1 h2 h3 ih=>exact⟨h1.1,ih⟩
theorem Zek {g:TypeId->Option (List (TypeId×Kd))} {cs:List Value} {n:Nat} (hg:∀t l cs x,g t=some l->DataW.trod enc P w 0 sp true n t cs=some x->Lv enc P w sp B l cs (B x.1)) : ∀{fs:List Field} {xs:List (DataW H×List MemPlace)} {off:Nat} {l:List (TypeId×Kd)},Zcw P g fs off=some l->xs.length=fs.length -> (∀(i:Nat) (f:Field),fs[i]?=some f->DataW.trod enc P w 0 sp true n f.type ((cs.drop f.offset).take (P.cellsOf f.type))=xs[i]?)->off+l.length<=cs.length -> Lv enc P w sp B l ((cs.drop off).take l.length) ((xs.map fun x=>B x.1).sum)
 | [],[],off,l,h,_,_,_=>by simp[Zcw]at h;subst h;simp;exact .nil _
 | f::fs,[],off,l,h,hl,_,_=>by simp at hl
 | [],x::xs,off,l,h,hl,_,_=>by simp at hl
 | f::fs,x::xs,off,l,h,hl,hx,hc=>by
  simp only[Zcw,Option.bind_eq_bind,Option.bind_eq_some_iff,Option.ite_none_right_eq_some,Option.some.injEq]at h;obtain⟨l1,h1,l2,h2,⟨ho,hcs⟩,rfl⟩:=h;have hx0:=hx 0 f rfl;simp only[List.getElem?_cons_zero]at hx0;rw[ho,hcs]at hx0;have i1:=hg _ _ _ _ h1 hx0;simp only[qy11]at hc;have i2:=Zek hg (xs:=xs) h2 (by simpa using hl) (fun i f' hf=>by have:=hx (i+1) f' (by simpa using hf);simpa using this) (by omega);have e:(cs.drop off).take (l1++l2).length=(cs.drop off).take l1.length++(cs.drop (off+l1.length)).take l2.length:=by rw[qy11,<- List.drop_drop,List.take_add]
  rw[e];exact i2.append i1
theorem Z94 (hB:Bulk B):∀(f:Nat) {t:TypeId} {l:List (TypeId×Kd)} {n:Nat} {cs:List Value} {x:DataW H×List MemPlace},Z2p P f t=some l->DataW.trod enc P w 0 sp true n t cs=some x->Lv enc P w sp B l cs (B x.1)
 | 0,t,l,n,cs,x,h,_=>by simp[Z2p]at h
 | f+1,t,l,n,cs,x,h,hx=>by
  simp only[Z2p]at h;have one:∀(k:Kd) (c:Value),cs=[c]->k.ok c->Lv enc P w sp B [(t,k)] cs (B x.1):=fun k c hc hk=>by subst hc;exact .cons ⟨hk,n,x.1,x.2,hx,Nat.le_refl _⟩ (.nil 0) (by omega)
  split at h
  ·rename_i hu;simp at h;subst h;obtain⟨b,rfl,-⟩:=DataW.trod_bool hu hx;exact one _ _ rfl ⟨b,rfl⟩
  ·rename_i k hu;simp at h;subst h;obtain⟨m,rfl,-⟩:=DataW.trod_int hu hx;exact one _ _ rfl ⟨m,rfl⟩
  ·rename_i hu;simp at h;subst h;obtain⟨⟨⟨s⟩⟩,rfl,-⟩:=DataW.trod_string hu hx;exact one _ _ rfl ⟨s,rfl⟩
  ·rename_i e hu;simp at h;subst h;rcases DataW.trod_slice hu hx with ⟨rfl,-⟩|⟨a,len,cap,elems,rest,m,-,rfl,-⟩
   ·exact one _ _ rfl rfl
   ·exact one _ _ rfl rfl
  ·rename_i fs hu;split at h
   ·rename_i l' hl;split at h
    ·rename_i hc;simp at h;subst h;obtain⟨xs,m,rfl,rfl,hcl,hxl,hf⟩:=DataW.trod_struct hu hx;have:=Zek (cs:=cs) (fun t l cs x=>Z94 hB f (t:=t) (l:=l) (n:=m) (cs:=cs) (x:=x)) hl (by simpa using hxl) (fun i f hi=>hf i f (by simpa using hi)) (by omega);rw[List.drop_zero,List.take_of_length_le (by omega)]at this;refine this.mono ?_;have:=hB.agg (xs.map (·.1));rw[List.map_map]at this;exact this
    ·cases h
   ·cases h
  ·cases h
theorem Z3h (hB:Bulk B) {f n:Nat} {t e:TypeId} {ls:List (TypeId×Kd)} {v:Value} {x:DataW H×List MemPlace} (hu:P.underlying t=some (.slice e)) (hl:Z2p P f e=some ls) (hc:P.cellsOf e=ls.length) (hpos:0<ls.length) (hx:DataW.trod enc P w 0 sp true n t [v]=some x) : ∃(rows:List (List Value)) (bs:List Nat),reads w v (ls.map (·.2)) rows/\bs.length=rows.length/\(∀(i:Nat) r b,rows[i]?=some r->bs[i]?=some b->Lv enc P w sp B ls r b)/\bs.sum+1<=B x.1:=by
 rcases DataW.trod_slice hu hx with ⟨hv,rfl⟩|⟨a,len,cap,elems,rest,m,-,hv,rfl,-,hlc,hcm,hel,hget,-⟩
 ·simp only[List.cons.injEq,and_true]at hv;subst hv;exact⟨[],[],⟨by simp,none,0,rfl,⟨fun _=>rfl,by simp⟩,by simp⟩,rfl,by simp,by simpa using hB.one _⟩
 ·simp only[List.cons.injEq,and_true]at hv;subst hv;rw[hc]at hget;have hrow:∀i,i<len->∃r y,w.cells? 0 (a.add (i*ls.length)) ls.length=some r/\elems[i]?=some y/\DataW.trod enc P w 0 sp true m e r=some y:=fun i hi=>by
   have h1:=hget i hi;have h2:elems[i]?=some (elems[i]'(by omega)):=qy7 (by omega);rw[h2,Option.bind_eq_some_iff]at h1;obtain⟨r,h3,h4⟩:=h1;exact⟨r,_,h3,h2,h4⟩
  let rows:=(List.range len).map fun i=>(w.cells? 0 (a.add (i*ls.length)) ls.length).getD []
  have hrl:rows.length=len:=by simp[rows]
  have hri:∀i,i<len->∃r y,rows[i]?=some r/\w.cells? 0 (a.add (i*ls.length)) ls.length=some r/\elems[i]?=some y/\Lv enc P w sp B ls r (B y.1):=fun i hi=>by obtain⟨r,y,h1,h2,h3⟩:=hrow i hi;exact⟨r,y,by simp[rows,List.getElem?_range hi,h1],h1,h2,Z94 hB f hl h3⟩
  have hlen:∀r∈rows,r.length=(ls.map (·.2)).length/\rowOk (ls.map (·.2)) r:=fun r hr=>by obtain⟨i,hi,hri'⟩:=List.getElem_of_mem hr;obtain⟨r',y,h1,h2,h3,h4⟩:=hri i (by omega);rw[qy7 hi,hri']at h1;simp at h1;subst h1;exact⟨h4.rowOk.length,h4.rowOk⟩
  refine⟨rows,elems.map fun y=>B y.1,⟨fun r hr=>(hlen r hr).2,some a,cap,by rw[hrl],⟨(fun h=>by cases h),by omega⟩,fun hne=>⟨a,rfl,fun j u hj=>?_⟩⟩,by simp[hrl,hel],fun i r b hr hb=>?_,?_⟩
  ·have hL:(ls.map (·.2)).length=ls.length:=by simp
   have hfl:=Z9 (fun r hr=>(hlen r hr).1);have hjl:j<rows.length*ls.length:=by have:=(List.getElem?_eq_some_iff.1 hj).1;rw[hfl,hL]at this;exact this
   have hi:j / ls.length<len:=by rw[<- hrl];exact Nat.div_lt_of_lt_mul (by rw[Nat.mul_comm];exact hjl)
   obtain⟨r,y,h1,h2,h3,h4⟩:=hri _ hi;have hk:=Nat.mod_lt j hpos;have hjj:j=j / ls.length*ls.length+j % ls.length:=by rw[Nat.mul_comm];exact(Nat.div_add_mod j _).symm
   have:=Z71 (fun r hr=>by rw[<- hL];exact(hlen r hr).1) (i:=j / ls.length) (c:=j % ls.length) hk;rw[<- hjj,hj,h1]at this;obtain⟨c1,c2⟩:=World.cells?_some h2;have c3:=c2.2 _ hk;rw[Zal,<- hjj]at c3;rw[c3];exact this.symm
  ·obtain⟨r',y,h1,h2,h3,h4⟩:=hri i (by rw[<- hrl];exact(List.getElem?_eq_some_iff.1 hr).1);rw[h1]at hr;simp at hr;subst hr;rw[List.getElem?_map,h3]at hb;simp at hb;subst hb;exact h4
  ·have:=hB.slice (elems.map (·.1)) (rest.map (·.1));rw[List.map_map]at this;exact this
theorem Zno {r:Reach} {b0 base:Nat} {held:Bool} {t e:TypeId} {v:Value} {d:DataW H} {ps:List MemPlace} (ht:P.underlying t=some (.slice e)) (hval:Value.okWide P w r b0 t v) (hd:DataW.Trod enc P w base sp held t v d ps) : ∃n,DataW.trod enc P w base sp held n t [v]=some (d,ps):=by
 obtain⟨n,hd⟩:=hd;refine⟨n,?_⟩;have:v.cells.toList=[v]:=by simp only[Value.okWide,ht,Cell.okWide]at hval;cases v<;>first|rfl|(simp[Cell.ok]at hval)
 rw[<- this];exact hd
theorem Zji {r:Reach} {b0 base:Nat} {held:Bool} {t:TypeId} {fs:Array Field} {v:Value} {d:DataW H} {ps:List MemPlace} (ht:P.underlying t=some (.struct fs)) (hval:Value.okWide P w r b0 t v) (hd:DataW.Trod enc P w base sp held t v d ps) : ∃(cs:List Value) (n:Nat),v=.agg cs.toArray/\DataW.trod enc P w base sp held n t cs=some (d,ps):=by obtain⟨n,hd⟩:=hd;simp only[Value.okWide,ht]at hval;obtain⟨cs,rfl,-⟩:=hval;exact⟨cs.toList,n,by simp,by simpa [Value.cells]using hd⟩
theorem Zwp {α:Type} {g:α->Nat}:∀{rows:List α} {bs:List Nat},bs.length=rows.length->(∀(i:Nat) r b,rows[i]?=some r->bs[i]?=some b->g r<=b)->(rows.map g).sum<=bs.sum
 | [],[],_,_=>by simp
 | r::rows,b::bs,hl,h=>by have h0:=h 0 r b rfl rfl;have:=Zwp (rows:=rows) (bs:=bs) (by simpa using hl) (fun i r' b' hr hb=>h (i+1) r' b' (by simpa using hr) (by simpa using hb));simp only[List.map_cons,List.sum_cons];omega
 | [],_::_,hl,_=>by simp at hl
 | _::_,[],hl,_=>by simp at hl
theorem Z6b (hB:Bulk B) {ls:List (TypeId×Kd)} (h0:ls≠[]) {rows:List (List Value)} {bs:List Nat} (hl:bs.length=rows.length) (h:∀(i:Nat) r b,rows[i]?=some r->bs[i]?=some b->Lv enc P w sp B ls r b):rows.length<=bs.sum:=by
 have:=Zwp (g:=fun _:List Value=>1) hl (fun i r b hr hb=>by
  cases h i r b hr hb with
  | nil b=>exact absurd rfl h0
  | cons h1 h2 h3=>obtain⟨-,n,d,q,-,h5⟩:=h1;have:=hB.one d;omega)
 have e:(rows.map fun _=>1).sum=rows.length:=by
  clear hl h this;induction rows with
  | nil=>rfl
  | cons r rows ih=>simp only[List.map_cons,List.sum_cons,List.length_cons,ih];omega
 omega
theorem Z35.str (hB:Bulk B) {t:TypeId} (ht:P.underlying t=some .string) {s:List UInt8} {b:Nat} (h:Z35 enc P w sp B (t,.str) (.string ⟨s.toArray⟩) b):s.length+1<=b:=by obtain⟨-,n,d,ps,h1,h2⟩:=h;obtain⟨s',h3,h4⟩:=DataW.trod_string ht h1;simp only[List.cons.injEq,Value.string.injEq,and_true]at h3;subst h3;simp only[Prod.mk.injEq]at h4;obtain⟨⟨rfl,-⟩,-⟩:=h4;have:=hB.str s;omega
end
end Go.Sx
namespace Go.Proofs.YtkhakgbnfapifaaGreatDoor
open Go Go.Sx Go.ChangeShapes Go.WideShapes Go.ChangeAt Go.RowKit
section
variable {H:Type} {enc:TypeId×Value->H} {w:World} {sp:Nat->Bool} {B:DataW H->Nat}
def Zb6 (P:Program) (t:TypeId):Bool:=match P.underlying t with|some (.struct _)=>true|_=>false
theorem Za5 {P:Program} {r:Reach} {b0 base:Nat} {held:Bool} {t:TypeId} {v:Value} {d:DataW H} {ps:List MemPlace} (ht:Zb6 P t=true) (hval:Value.okWide P w r b0 t v) (hd:DataW.Trod enc P w base sp held t v d ps) : ∃(cs:List Value) (n:Nat),v=.agg cs.toArray/\DataW.trod enc P w base sp held n t cs=some (d,ps):=by
 unfold Zb6 at ht;split at ht
 ·exact Zji (by assumption) hval hd
 ·cases ht
theorem Z11v (hB:Bulk B) {cs:List Value} {b:Nat} (h:Lv enc Tryz.prog w sp B [(9,.str),(3,.int .i64)] cs b):∃o:Ak,cs=encA o/\o.1.length+1<=b:=by
 cases h with
 | cons c1 h e1 =>
 cases h with
 | cons c2 h e2 =>
 cases h;obtain⟨s,rfl⟩:=c1.1;obtain⟨n,rfl⟩:=c2.1;have q1:=Z35.str hB Tryz.underlying9 c1;exact⟨(s,n),rfl,by simp only;omega⟩
theorem Zwq (hB:Bulk B):∀{rows:List (List Value)} {bs:List Nat},bs.length=rows.length->(∀(i:Nat) r b,rows[i]?=some r->bs[i]?=some b->Lv enc Tryz.prog w sp B [(9,.str),(3,.int .i64)] r b) -> ∃l:List Ak,rows=l.map encA/\∀x∈l,x.1.length<=bs.sum:=by
 intro rows;induction rows with
 | nil=>exact fun _ _=>⟨[],rfl,by simp⟩
 | cons r rows ih =>
  intro bs hl h
  match bs,hl with
  | b::bs,hl =>
   obtain⟨l,e,hb⟩:=ih (bs:=bs) (by simpa using hl) (fun i r' b' h1 h2=>h (i+1) r' b' (by simpa using h1) (by simpa using h2));obtain⟨o,rfl,hob⟩:=Z11v hB (h 0 r b rfl rfl);refine⟨o::l,by rw[e];rfl,?_⟩;intro x hx;rw[List.sum_cons];rcases List.mem_cons.1 hx with rfl|hx
   ·omega
   ·have:=hb x hx;omega
theorem Z11w {rows:List (List Value)} (h:∀r∈rows,rowOk [.int .i64] r):∃l,rows=List.map Z11 l:=by
 induction rows with
 | nil=>exact⟨[],rfl⟩
 | cons r rows ih =>
  obtain⟨ps,hps⟩:=ih fun r hr=>h r (qy10 _ hr);have h0:=h r (qy8 ..)
  match r,h0 with
  | [_],⟨⟨a,rfl⟩,_⟩=>exact⟨a::ps,by rw[hps];rfl⟩
theorem Z11x (hB:Bulk B) (h1:Tryz.prog.underlying 28=some (.slice 88)) (h2:Z2p Tryz.prog 8 88=some [(9,.str),(3,.int .i64)]) (h3:Tryz.prog.cellsOf 88=2) (i1:Tryz.prog.underlying 29=some (.slice 3)) (i2:Z2p Tryz.prog 8 3=some [(3,.int .i64)]) (i3:Tryz.prog.cellsOf 3=1) {cs:List Value} {b:Nat} (h:Lv enc Tryz.prog w (fun _=>true) B [(3,.int .i64),(4,.bool),(4,.bool),(4,.bool),(4,.bool),(3,.int .i64),(3,.int .i64),(3,.int .i64),(3,.int .i64),(9,.str),(9,.str),(9,.str),(28,.oth),(29,.oth)] cs b) : ∃(p:Pkt) (u v:Value),Value.agg cs.toArray=pV p u v/\cs=[.int .i64 p.kind,.bool p.dup,.bool p.retain,.bool p.clean,.bool p.session,.int .i64 p.qos,.int .i64 p.id,.int .i64 p.keep,.int .i64 p.code,.string ⟨p.client.toArray⟩,.string ⟨p.topic.toArray⟩,.string ⟨p.payload.toArray⟩,u,v] /\ Z4b w u p.asks/\Z4c w v p.codes/\p.client.length+p.topic.length+p.payload.length+p.asks.length+p.codes.length<=b/\∀a∈p.asks,a.1.length<=b:=by
 cases h with
 | cons c1 h e1 =>
 cases h with
 | cons c2 h e2 =>
 cases h with
 | cons c3 h e3 =>
 cases h with
 | cons c4 h e4 =>
 cases h with
 | cons c5 h e5 =>
 cases h with
 | cons c6 h e6 =>
 cases h with
 | cons c7 h e7 =>
 cases h with
 | cons c8 h e8 =>
 cases h with
 | cons c9 h e9 =>
 cases h with
 | cons c10 h e10 =>
 cases h with
 | cons c11 h e11 =>
 cases h with
 | cons c12 h e12 =>
 cases h with
 | cons c13 h e13 =>
 cases h with
 | cons c14 h e14 =>
 cases h;obtain⟨kd,rfl⟩:=c1.1;obtain⟨b1,rfl⟩:=c2.1;obtain⟨b2,rfl⟩:=c3.1;obtain⟨b3,rfl⟩:=c4.1;obtain⟨b4,rfl⟩:=c5.1;obtain⟨n1,rfl⟩:=c6.1;obtain⟨n2,rfl⟩:=c7.1;obtain⟨n3,rfl⟩:=c8.1;obtain⟨n4,rfl⟩:=c9.1;obtain⟨s1,rfl⟩:=c10.1;obtain⟨s2,rfl⟩:=c11.1;obtain⟨s3,rfl⟩:=c12.1;have q1:=Z35.str hB Tryz.underlying9 c10;have q2:=Z35.str hB Tryz.underlying9 c11;have q3:=Z35.str hB Tryz.underlying9 c12;obtain⟨-,n,d,ps,hx,hb⟩:=c13;obtain⟨rows,bs,rd,bl,lv,bk⟩:=Z3h hB (f:=8) h1 h2 h3 (by decide) hx;have rl:=Z6b hB (by decide) bl lv;obtain⟨l,rfl,hs⟩:=Zwq hB bl lv;obtain⟨-,n',d',ps',hx',hb'⟩:=c14;obtain⟨rows',bs',rd',bl',lv',bk'⟩:=Z3h hB (f:=8) i1 i2 i3 (by decide) hx';have rl':=Z6b hB (by decide) bl' lv';obtain⟨l',rfl⟩:=Z11w rd'.1;rw[qy3]at rl rl';simp only at bk bk';exact⟨⟨kd,b1,b2,b3,b4,n1,n2,n3,n4,s1,s2,s3,l,l'⟩,_,_,by rw[pV,rd.sc1,rd'.sc1],rfl,rd,rd',by simp only;omega,fun x hx=>by have:=hs x hx;omega⟩
end
end Go.Proofs.YtkhakgbnfapifaaGreatDoor
namespace Go.Proofs.YtkhakgbnfapifaaGreatDoor
open Go Go.Sx Go.ChangeShapes Go.WideShapes Go.ChangeAt Go.RowKit
section
variable {H:Type} {enc:TypeId×Value->H} {w:World} {sp:Nat->Bool} {B:DataW H->Nat}
end
end Go.Proofs.YtkhakgbnfapifaaGreatDoor
namespace Go.Proofs.YtkhakgbnfapifaaGreatDoor
open Go Go.Sx Go.ChangeShapes Go.WideShapes Go.ChangeAt Go.RowKit
section
variable {H:Type} {enc:TypeId×Value->H} {w:World} {sp:Nat->Bool} {B:DataW H->Nat}
theorem Z12v (hB:Bulk B) {cs:List Value} {b:Nat} (h:Lv enc Tryz.prog w sp B [(3,.int .i64),(9,.str),(9,.str)] cs b):∃o:Fl,cs=encF o/\o.2.1.length+o.2.2.length+1<=b:=by
 cases h with
 | cons c1 h e1 =>
 cases h with
 | cons c2 h e2 =>
 cases h with
 | cons c3 h e3 =>
 cases h;obtain⟨p,rfl⟩:=c1.1;obtain⟨t,rfl⟩:=c2.1;obtain⟨n,rfl⟩:=c3.1;have q2:=Z35.str hB Tryz.underlying9 c2;have q3:=Z35.str hB Tryz.underlying9 c3;exact⟨(p,t,n),rfl,by simp only;omega⟩
theorem Zwr (hB:Bulk B):∀{rows:List (List Value)} {bs:List Nat},bs.length=rows.length->(∀(i:Nat) r b,rows[i]?=some r->bs[i]?=some b->Lv enc Tryz.prog w sp B [(3,.int .i64),(9,.str),(9,.str)] r b) -> ∃l:List Fl,rows=l.map encF/\∀x∈l,x.2.1.length<=bs.sum:=by
 intro rows;induction rows with
 | nil=>exact fun _ _=>⟨[],rfl,by simp⟩
 | cons r rows ih =>
  intro bs hl h
  match bs,hl with
  | b::bs,hl =>
   obtain⟨l,e,hb⟩:=ih (bs:=bs) (by simpa using hl) (fun i r' b' h1 h2=>h (i+1) r' b' (by simpa using h1) (by simpa using h2));obtain⟨o,rfl,hob⟩:=Z12v hB (h 0 r b rfl rfl);refine⟨o::l,by rw[e];rfl,?_⟩;intro x hx;rw[List.sum_cons];rcases List.mem_cons.1 hx with rfl|hx
   ·omega
   ·have:=hb x hx;omega
theorem Z11y (hB:Bulk B) (h1:Tryz.prog.underlying 61=some (.slice 172)) (h2:Z2p Tryz.prog 8 172=some [(3,.int .i64),(9,.str),(9,.str)]) (h3:Tryz.prog.cellsOf 172=3) {cs:List Value} {b:Nat} (h:Lv enc Tryz.prog w (fun _=>true) B [(9,.str),(4,.bool),(4,.bool),(61,.oth),(61,.oth),(3,.int .i64)] cs b) : ∃(s:Ses) (u v:Value),Value.agg cs.toArray=sesV s u v/\Zo w u s.fl/\Zo w v s.qu/\s.cl.length+s.fl.length+s.qu.length<=b/\(∀x∈s.fl,x.2.1.length<=b)/\(∀x∈s.qu,x.2.1.length<=b):=by
 cases h with
 | cons c1 h e1 =>
 cases h with
 | cons c2 h e2 =>
 cases h with
 | cons c3 h e3 =>
 cases h with
 | cons c4 h e4 =>
 cases h with
 | cons c5 h e5 =>
 cases h with
 | cons c6 h e6 =>
 cases h;obtain⟨k,rfl⟩:=c1.1;obtain⟨c,rfl⟩:=c2.1;obtain⟨j,rfl⟩:=c3.1;obtain⟨p,rfl⟩:=c6.1;have q1:=Z35.str hB Tryz.underlying9 c1;obtain⟨-,n,d,ps,hx,hb⟩:=c4;obtain⟨rows,bs,rd,bl,lv,bk⟩:=Z3h hB (f:=8) h1 h2 h3 (by decide) hx;have rl:=Z6b hB (by decide) bl lv;obtain⟨l,rfl,hs⟩:=Zwr hB bl lv;obtain⟨-,n',d',ps',hx',hb'⟩:=c5;obtain⟨rows',bs',rd',bl',lv',bk'⟩:=Z3h hB (f:=8) h1 h2 h3 (by decide) hx';have rl':=Z6b hB (by decide) bl' lv';obtain⟨l',rfl,hs'⟩:=Zwr hB bl' lv';rw[qy3]at rl rl';simp only at bk bk';exact⟨⟨k,c,j,l,l',p⟩,_,_,by rw[sesV,rd.sc1,rd'.sc1],rd,rd',by simp only;omega,fun x hx=>by have:=hs x hx;omega,fun x hx=>by have:=hs' x hx;omega⟩
end
end Go.Proofs.YtkhakgbnfapifaaGreatDoor
namespace Go.Proofs.YtkhakgbnfapifaaGreatDoor
open Go Go.Sx Go.ChangeShapes Go.WideShapes Go.ChangeAt Go.RowKit
section
variable {H:Type} {enc:TypeId×Value->H} {w:World} {sp:Nat->Bool} {B:DataW H->Nat}
theorem Zzl (hB:Bulk B) {cs:List Value} {b:Nat} (h:Lv enc Tryz.prog w sp B [(9,.str),(9,.str),(3,.int .i64)] cs b):∃o:Kp,cs=encK o/\o.1.length+o.2.1.length+1<=b:=by
 cases h with
 | cons c1 h e1 =>
 cases h with
 | cons c2 h e2 =>
 cases h with
 | cons c3 h e3 =>
 cases h;obtain⟨p,rfl⟩:=c1.1;obtain⟨t,rfl⟩:=c2.1;obtain⟨n,rfl⟩:=c3.1;have q1:=Z35.str hB Tryz.underlying9 c1;have q2:=Z35.str hB Tryz.underlying9 c2;exact⟨(p,t,n),rfl,by simp only;omega⟩
theorem Z11z (hB:Bulk B):∀{rows:List (List Value)} {bs:List Nat},bs.length=rows.length->(∀(i:Nat) r b,rows[i]?=some r->bs[i]?=some b->Lv enc Tryz.prog w sp B [(9,.str),(9,.str),(3,.int .i64)] r b) -> ∃l:List Kp,rows=l.map encK/\∀x∈l,x.1.length<=bs.sum:=by
 intro rows;induction rows with
 | nil=>exact fun _ _=>⟨[],rfl,by simp⟩
 | cons r rows ih =>
  intro bs hl h
  match bs,hl with
  | b::bs,hl =>
   obtain⟨l,e,hb⟩:=ih (bs:=bs) (by simpa using hl) (fun i r' b' h1 h2=>h (i+1) r' b' (by simpa using h1) (by simpa using h2));obtain⟨o,rfl,hob⟩:=Zzl hB (h 0 r b rfl rfl);refine⟨o::l,by rw[e];rfl,?_⟩;intro x hx;rw[List.sum_cons];rcases List.mem_cons.1 hx with rfl|hx
   ·omega
   ·have:=hb x hx;omega
end
end Go.Proofs.YtkhakgbnfapifaaGreatDoor
namespace Go.Proofs.YtkhakgbnfapifaaGreatDoor
open Go Go.Sx Go.ChangeShapes Go.WideShapes Go.ChangeAt Go.RowKit
section
variable {H:Type} {enc:TypeId×Value->H} {w:World} {sp:Nat->Bool} {B:DataW H->Nat}
theorem Zzm (hB:Bulk B) {cs:List Value} {b:Nat} (h:Lv enc Tryz.prog w sp B [(9,.str),(9,.str),(3,.int .i64)] cs b):∃o:Wt,cs=Zb o/\o.1.length+o.2.1.length+1<=b:=by
 cases h with
 | cons c1 h e1 =>
 cases h with
 | cons c2 h e2 =>
 cases h with
 | cons c3 h e3 =>
 cases h;obtain⟨p,rfl⟩:=c1.1;obtain⟨t,rfl⟩:=c2.1;obtain⟨n,rfl⟩:=c3.1;have q1:=Z35.str hB Tryz.underlying9 c1;have q2:=Z35.str hB Tryz.underlying9 c2;exact⟨(p,t,n),rfl,by simp only;omega⟩
theorem Z120 (hB:Bulk B):∀{rows:List (List Value)} {bs:List Nat},bs.length=rows.length->(∀(i:Nat) r b,rows[i]?=some r->bs[i]?=some b->Lv enc Tryz.prog w sp B [(9,.str),(9,.str),(3,.int .i64)] r b) -> ∃l:List Wt,rows=l.map Zb/\∀x∈l,x.1.length<=bs.sum/\x.2.1.length<=bs.sum:=by
 intro rows;induction rows with
 | nil=>exact fun _ _=>⟨[],rfl,by simp⟩
 | cons r rows ih =>
  intro bs hl h
  match bs,hl with
  | b::bs,hl =>
   obtain⟨l,e,hb⟩:=ih (bs:=bs) (by simpa using hl) (fun i r' b' h1 h2=>h (i+1) r' b' (by simpa using h1) (by simpa using h2));obtain⟨o,rfl,hob⟩:=Zzm hB (h 0 r b rfl rfl);refine⟨o::l,by rw[e];rfl,?_⟩;intro x hx;rw[List.sum_cons];rcases List.mem_cons.1 hx with rfl|hx
   ·omega
   ·have:=hb x hx;omega
end
end Go.Proofs.YtkhakgbnfapifaaGreatDoor
namespace Go.Proofs.YtkhakgbnfapifaaGreatDoor
open Go Go.Sx Go.ChangeShapes Go.WideShapes Go.ChangeAt Go.RowKit
section
variable {H:Type} {enc:TypeId×Value->H} {w:World} {sp:Nat->Bool} {B:DataW H->Nat}
theorem Z121 (hB:Bulk B) {cs:List Value} {b:Nat} (h:Lv enc Tryz.prog w sp B [(3,.int .i64),(9,.str),(9,.str),(3,.int .i64)] cs b):∃o:Wat,cs=Z8 o/\o.2.1.length+o.2.2.1.length+2<=b:=by
 cases h with
 | cons c1 h e1 =>
 cases h with
 | cons c2 h e2 =>
 cases h with
 | cons c3 h e3 =>
 cases h with
 | cons c4 h e4 =>
 cases h;obtain⟨p,rfl⟩:=c1.1;obtain⟨t,rfl⟩:=c2.1;obtain⟨n,rfl⟩:=c3.1;obtain⟨k,rfl⟩:=c4.1;have q2:=Z35.str hB Tryz.underlying9 c2;have q3:=Z35.str hB Tryz.underlying9 c3;exact⟨(p,t,n,k),rfl,by simp only;omega⟩
theorem Z122 (hB:Bulk B):∀{rows:List (List Value)} {bs:List Nat},bs.length=rows.length->(∀(i:Nat) r b,rows[i]?=some r->bs[i]?=some b->Lv enc Tryz.prog w sp B [(3,.int .i64),(9,.str),(9,.str),(3,.int .i64)] r b) -> ∃l:List Wat,rows=l.map Z8/\∀x∈l,x.2.2.1.length<=bs.sum:=by
 intro rows;induction rows with
 | nil=>exact fun _ _=>⟨[],rfl,by simp⟩
 | cons r rows ih =>
  intro bs hl h
  match bs,hl with
  | b::bs,hl =>
   obtain⟨l,e,hb⟩:=ih (bs:=bs) (by simpa using hl) (fun i r' b' h1 h2=>h (i+1) r' b' (by simpa using h1) (by simpa using h2));obtain⟨o,rfl,hob⟩:=Z121 hB (h 0 r b rfl rfl);refine⟨o::l,by rw[e];rfl,?_⟩;intro x hx;rw[List.sum_cons];rcases List.mem_cons.1 hx with rfl|hx
   ·omega
   ·have:=hb x hx;omega
end
end Go.Proofs.YtkhakgbnfapifaaGreatDoor
namespace Go.Proofs.YtkhakgbnfapifaaGreatDoor
open Go Go.Sx Go.ChangeShapes Go.WideShapes Go.ChangeAt Go.RowKit
theorem tyk1:Tryz.prog.underlying 22=some (.slice 106):=by kernel_rfl
theorem tyk2:Z2p Tryz.prog 8 106=some [(9,.str),(9,.str),(3,.int .i64)]:=by kernel_rfl
theorem tyk3:Tryz.prog.cellsOf 106=3:=by kernel_rfl
theorem tyw1:Tryz.prog.underlying 23=some (.slice 90):=by kernel_rfl
theorem tyw2:Z2p Tryz.prog 8 90=some [(9,.str),(9,.str),(3,.int .i64)]:=by kernel_rfl
theorem tyw3:Tryz.prog.cellsOf 90=3:=by kernel_rfl
theorem tys1:Tryz.prog.underlying 24=some (.slice 63):=by kernel_rfl
theorem tys2:Z2p Tryz.prog 8 63=some [(9,.str),(4,.bool),(4,.bool),(61,.oth),(61,.oth),(3,.int .i64)]:=by kernel_rfl
theorem tys3:Tryz.prog.cellsOf 63=6:=by kernel_rfl
theorem tyf1:Tryz.prog.underlying 61=some (.slice 172):=by kernel_rfl
theorem tyf2:Z2p Tryz.prog 8 172=some [(3,.int .i64),(9,.str),(9,.str)]:=by kernel_rfl
theorem tyf3:Tryz.prog.cellsOf 172=3:=by kernel_rfl
theorem tya1:Tryz.prog.underlying 25=some (.slice 68):=by kernel_rfl
theorem tya2:Z2p Tryz.prog 8 68=some [(3,.int .i64),(9,.str),(9,.str),(3,.int .i64)]:=by kernel_rfl
theorem tya3:Tryz.prog.cellsOf 68=4:=by kernel_rfl
section
variable {H:Type} {enc:TypeId×Value->H} {w:World} {B:DataW H->Nat}
theorem Zzn (hB:Bulk B) {P:Program} {sp:Nat->Bool} {ls:List (TypeId×Kd)} {cs:List Value} {b:Nat} (h:Lv enc P w sp B ls cs b):ls.length<=b:=by
 induction h with
 | nil b=>exact Nat.zero_le _
 | cons h1 h2 h3 ih =>
  obtain⟨-,n,d,ps,-,h5⟩:=h1;have:=hB.one d;rw[List.length_cons];omega
theorem Zzo (hB:Bulk B):∀{rows:List (List Value)} {bs:List Nat},bs.length=rows.length->(∀(i:Nat) r b,rows[i]?=some r->bs[i]?=some b->Lv enc Tryz.prog w (fun _=>true) B [(9,.str),(4,.bool),(4,.bool),(61,.oth),(61,.oth),(3,.int .i64)] r b) -> ∃l:List SesX,rows=l.map Zg/\(Z6 l []).holds w/\(∀t∈l,t.1.cl.length+t.1.fl.length+t.1.qu.length<=bs.sum/\(∀x∈t.1.fl,x.2.1.length<=bs.sum)/\∀x∈t.1.qu,x.2.1.length<=bs.sum)/\6*l.length<=bs.sum:=by
 intro rows;induction rows with
 | nil=>exact fun _ _=>⟨[],rfl,Z7p w,by simp,by simp⟩
 | cons r rows ih =>
  intro bs hl h
  match bs,hl with
  | b::bs,hl =>
   obtain⟨l,e,hp,hb,hn⟩:=ih (bs:=bs) (by simpa using hl) (fun i r' b' h1 h2=>h (i+1) r' b' (by simpa using h1) (by simpa using h2));have hlv:=h 0 r b rfl rfl;have hle:=Zzn hB hlv;obtain⟨s,u,v,e2,ru,rv,z1,z2,z3⟩:=Z11y hB tyf1 tyf2 tyf3 hlv;have e3:r=Zg (s,u,v):=by have e4:=Value.agg.inj e2;have e5:=congrArg Array.toList e4;exact e5
   refine⟨(s,u,v)::l,by rw[e,e3];rfl,?_,?_,?_⟩
   ·refine Z18 (l:=l) (o:=[]) (fun t ht=>?_) (fun t ht=>.inl ht) hp;rcases List.mem_cons.1 ht with rfl|ht
    ·exact .inr ⟨ru,rv⟩
    ·exact .inl ht
   ·intro t ht;rw[List.sum_cons];rcases List.mem_cons.1 ht with rfl|ht
    ·exact⟨by simp only;omega,fun x hx=>by have:=z2 x hx;omega,fun x hx=>by have:=z3 x hx;omega⟩
    ·obtain⟨q1,q2,q3⟩:=hb t ht;exact⟨by omega,fun x hx=>by have:=q2 x hx;omega,fun x hx=>by have:=q3 x hx;omega⟩
   ·simp only[List.length_cons,List.length_nil]at hle;rw[List.sum_cons,List.length_cons];omega
theorem Z123 (hB:Bulk B) {cs:List Value} {b:Nat} (h:Lv enc Tryz.prog w (fun _=>true) B [(22,.oth),(23,.oth),(24,.oth),(25,.oth),(3,.int .i64)] cs b) (hb:b<=4000000) : ∃x:TelX,Value.agg cs.toArray=bkV x/\x.ox=[]/\RdX w x/\SmlT x.tel:=by
 cases h with
 | cons c1 h e1 =>
 cases h with
 | cons c2 h e2 =>
 cases h with
 | cons c3 h e3 =>
 cases h with
 | cons c4 h e4 =>
 cases h with
 | cons c5 h e5 =>
 cases h;obtain⟨n,rfl⟩:=c5.1;obtain⟨-,n1,d1,ps1,hx1,hb1⟩:=c1;obtain⟨rows1,bs1,rd1,bl1,lv1,bk1⟩:=Z3h hB (f:=8) tyk1 tyk2 tyk3 (by decide) hx1;have rl1:=Z6b hB (by decide) bl1 lv1;obtain⟨l1,rfl,s1⟩:=Z11z hB bl1 lv1;obtain⟨-,n2,d2,ps2,hx2,hb2⟩:=c2;obtain⟨rows2,bs2,rd2,bl2,lv2,bk2⟩:=Z3h hB (f:=8) tyw1 tyw2 tyw3 (by decide) hx2;have rl2:=Z6b hB (by decide) bl2 lv2;obtain⟨l2,rfl,s2⟩:=Z120 hB bl2 lv2;obtain⟨-,n3,d3,ps3,hx3,hb3⟩:=c3;obtain⟨rows3,bs3,rd3,bl3,lv3,bk3⟩:=Z3h hB (f:=8) tys1 tys2 tys3 (by decide) hx3;obtain⟨l3,rfl,p3,s3,k3⟩:=Zzo hB bl3 lv3;obtain⟨-,n4,d4,ps4,hx4,hb4⟩:=c4;obtain⟨rows4,bs4,rd4,bl4,lv4,bk4⟩:=Z3h hB (f:=8) tya1 tya2 tya3 (by decide) hx4;have rl4:=Z6b hB (by decide) bl4 lv4;obtain⟨l4,rfl,s4⟩:=Z122 hB bl4 lv4;rw[qy3]at rl1 rl2 rl4;simp only at bk1 bk2 bk3 bk4;refine⟨⟨l1,l2,l3,l4,n,[],_,_,_,_,.slice none 0 0⟩,by rw[bkV,rd1.sc1,rd2.sc1,rd3.sc1,rd4.sc1],rfl,⟨rd1,rd2,rd3,p3,rd4⟩,?_⟩;refine⟨fun x hx=>by have:=s1 x hx;omega,by show l1.length<_;omega,fun x hx=>?_,by show l2.length<_;omega,fun s hs=>?_,?_,fun x hx=>?_,by show l4.length<_;omega⟩
 ·have:=s2 x hx;exact⟨by omega,by omega⟩
 ·obtain⟨t,ht,rfl⟩:=List.mem_map.1 hs;obtain⟨q1,q2,q3⟩:=s3 t ht;exact⟨fun x hx=>by have:=q2 x hx;omega,fun x hx=>by have:=q3 x hx;omega,by omega,by omega,by omega⟩
 ·show (l3.map (·.1)).length<_
  rw[qy3];omega
 ·have:=s4 x hx;omega
end
end Go.Proofs.YtkhakgbnfapifaaGreatDoor
