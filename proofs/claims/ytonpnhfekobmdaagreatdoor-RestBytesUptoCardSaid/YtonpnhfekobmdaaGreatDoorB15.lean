/- By an AI agent. -/
import Derived.Test.YtonpnhfekobmdaaGreatDoorB14
set_option linter.all false
set_option maxHeartbeats 20000000
namespace Go.Proofs.Y
open Go.Sx
section
variable {s:List UInt8} (hl0:(getL s 1).2.2=0) (hs:s.length<=60000000)
include hl0
theorem s_ne:¬(s=[]\/(getL s 1).2.2≠0):=by
 rintro(rfl|h)
 ·revert hl0;decide +kernel
 ·exact h hl0
theorem Ziq(hB:(Zo s).2.2=true\/Z1h (Zo s).1.kind=false\/1<(Zo s).1.qos\/Zi (Zo s).1≠s):decD s=(pD_Q 0,1):=by rw[decD,if_neg (s_ne hl0),if_pos hB]
include hs
theorem Zfc(h:Zi (Zo s).1=s):1+(getL s 1).2.1+(getL s 1).1=s.length:=by
 have hb:=((Z7f hl0).1.byte hs).body;have hg:=Z8b hb [];rw[List.append_nil,h]at hg;have hl:s.length=1+(lngB 3 (Zu (Zo s).1).length).length+(Zu (Zo s).1).length:=by
  conv=>lhs;rw[<- h]
  simp only[Zi,qy11,Z8]
 rw[hg];simp only;omega
theorem Zq7(h:1+(getL s 1).2.1+(getL s 1).1≠s.length):decD s=(pD_Q 0,1) :=
 Ziq hl0 (.inr (.inr (.inr λhh=>h (Zfc hl0 hs hh))))
end
def finI(s:List UInt8):List V->Prop:=λvs=>∃(q:Pkt) (a:Nat) (bad:Bool) (x y:Value),vs=[.i 0,.s s,.i a,.b bad,.i q.kind,.b q.dup,.b q.retain,.b q.clean,.b q.session,.i q.qos,.i q.id,.i q.keep,.i q.code,.s q.client,.s q.topic,.s q.payload,.v x,.r (q.asks.map encA),.v y,.r (q.codes.map Za),.i 0,.b false,.b false,.b false,.b false,.i 0,.i 0,.i 0,.i 0,.s [],.s [],.s [],.v nilV,.r [],.v nilV,.r []] /\
 bad=(Zo s).2.2/\(bad=true\/q=(Zo s).1)/\¬1<(Zo s).1.qos
def tkI(s:List UInt8)(r:RS):List V->Prop:=λvs=>∃(q q0:Pkt) (a a0:Nat) (bad:Bool) (x y:Value),vs=[.s s,.i a,.b bad,.i q.kind,.b q.dup,.b q.retain,.b q.clean,.b q.session,.i q.qos,.i q.id,.i q.keep,.i q.code,.s q.client,.s q.topic,.s q.payload,.v x,.r (q.asks.map encA),.v y,.r (q.codes.map Za)] /\
 a<=s.length/\a0<=s.length/\(bad=true\/q=q0/\a=a0)/\(bad=false->q.asks.length<=a/\q.codes.length<=a)/\Z1c s (q0,a0,bad)=Z1c s r/\q0.kind=r.1.kind
set_option maxRecDepth 10000 in
theorem Zk7(w:World)(s:List UInt8)(hs:s.length<=60000000):Calls Tryz.prog 8 #[.string ⟨s.toArray⟩] w λe w'=>∃x y,e=.returned (.tuple #[pV (decD s).1 x y,.int .i64 (decD s).2])/\Zd2 w w' (decD s).1 x y:=by
  refine Z1 (Z5 (J:=[.s s]) (sxE_ok.joins _) Tryz.func8 Z3t rfl rfl (Rel.start w _) rfl rfl ?_) rfl;have hz:Int.toNat 0=0:=rfl;have hs1:s.length<1000000000:=by omega
  have ek:(((s.getD 0 0).toNat:Nat):Int) / 16=((knd s:Nat):Int):=by unfold knd;omega
  have hc:=Z60 (s.getD 0 0);have hgb:=Zab s 1;simp only[QQ,Nat.reduceAdd];intro b1;refine⟨λh w' hr=>⟨nilV,nilV,?_⟩,λh0=>?_⟩
  . rw[decD,if_pos (.inl h)];exact⟨rfl,Z13 hr.mod 0⟩
  have hlen:0<s.length:=List.length_pos_iff.2 h0;refine⟨[.i (getL s 1).1,.i (getL s 1).2.1,.i (getL s 1).2.2],rfl,λ_ w' _=>Zg5 w' s 1 (by omega),?_⟩;simp only[QQ,Nat.reduceAdd,hz,ek];refine⟨by omega,?_⟩;refine⟨λvs=>(vs.getD 1 (.i 0)).toB=true↔((getL s 1).2.2≠0\/1+(getL s 1).2.1+(getL s 1).1≠s.length\/¬Z1h (knd s:Nat)=true),?_,?_⟩
  . (repeat refine⟨by omega,?_⟩)
    refine⟨λh=>?_,λh=>⟨λh1=>?_,λh1=>?_⟩⟩
    . simp only[List.getD_cons_succ,List.getD_cons_zero,V.toB_b];refine⟨λ_=>?_,λ_=>by trivial⟩;rcases h with h|h
      . exact .inl h
      . exact .inr (.inl h)
    . have h2:¬(getL s 1).2.2≠0/\¬1+(getL s 1).2.1+(getL s 1).1≠s.length:=⟨λhh=>h (.inl hh),λhh=>h (.inr hh)⟩
      simp only[List.getD_cons_succ,List.getD_cons_zero,V.toB_b,h2.1,h2.2,false_or,Z1h,decide_eq_true_eq,Bool.not_eq_true',Bool.and_eq_false_iff,decide_eq_false_iff_not];omega
    . have h2:¬(getL s 1).2.2≠0/\¬1+(getL s 1).2.1+(getL s 1).1≠s.length:=⟨λhh=>h (.inl hh),λhh=>h (.inr hh)⟩
      simp only[List.getD_cons_succ,List.getD_cons_zero,V.toB_b,h2.1,h2.2,false_or,Z1h,decide_eq_true_eq,Bool.false_eq_true,false_iff];omega
  intro vs hl hI
  match vs,hl,hI with
  | [x0,x1],_,hI =>
  simp only[QQ,Nat.reduceAdd,hz,ek]at hI⊢;refine⟨λh w' hr=>⟨nilV,nilV,?_⟩,λh=>?_⟩
  . have hd:decD s=(pD_Q 0,1):=by
      by_cases he:(getL s 1).2.2=0
      . rcases hI.1 h with h|h|h
        . exact absurd he h
        . exact Zq7 he hs h
        . exact Ziq he (.inr (.inl (by rw[Zfb];simpa using h)))
      . rw[decD,if_pos (.inr he)]
    rw[hd];exact⟨rfl,Z13 hr.mod 0⟩
  have hI:¬((getL s 1).2.2≠0\/1+(getL s 1).2.1+(getL s 1).1≠s.length\/¬Z1h (knd s:Nat)=true):=λhh=>h (hI.2 hh);have hl0:(getL s 1).2.2=0:=qy9.1 λhh=>hI (.inl hh);have hlen2:1+(getL s 1).2.1+(getL s 1).1=s.length:=qy9.1 λhh=>hI (.inr (.inl hh));have hkb:Z1h (knd s:Nat)=true:=qy9.1 λhh=>hI (.inr (.inr hh));clear h hI;have hk:=hkb;simp only[Z1h,decide_eq_true_eq]at hk;have hat:=Zd0 (a:=1) hl0;have hln:at0 s<=s.length:=hat.2.1;have ha0:1+(getL s 1).2.1=((at0 s:Nat):Int):=by unfold at0;omega
  intro b8
  (repeat refine⟨by omega,?_⟩)
  intro b9;refine⟨finI s,⟨λk1=>?_,λk1=>⟨λk2=>?_,λk2=>⟨λk3=>?_,λk3=>?_⟩⟩⟩,?_⟩
  . have k1:knd s=1:=by omega
    have hq0:¬1<(Zo s).1.qos:=by rw[Zb1.2,Zgl (by omega)];simp
    rw[Zip k1]at hq0;have t1:=Z3o s (at0 s) false hln;intro w1 hr;have hc0:=hr.at_ 0 rfl;simp only[Ent.holds,QQ,Nat.reduceAdd]at hc0;rw[ha0]at hc0;refine(Zdj w1 b9 s (at0 s) (at0 s) false hc0 hln hln hs1 (.inr rfl)).mono ?_;rintro e w2 ⟨n1,a1,rfl,h1,hle1,q1,m1⟩;refine⟨[.s n1,.s s,.i a1,.b _],rfl,rfl,m1,qy2.2 ⟨h1,qy5 _⟩,(λx hx=>absurd hx List.not_mem_nil),Z7,?_⟩;simp only[QQ,Nat.reduceAdd];clear m1 h1 hr hc0;generalize hT1:rdT s (at0 s) false=T1 at t1 q1⊢
    have t2:=Z1e s 1 T1.2.1 T1.2.2 t1.2.1;intro w1 hr;refine(Z1v w1 b9 s a1 T1.2.1 T1.2.2 (hr.at_ 0 rfl) hle1 t1.2.1 hs1 (q1.imp id (·.2)) 1 (by omega)).mono ?_;rintro e w2 ⟨n2,a2,rfl,h1,hle2,q2,m1⟩;refine⟨[.i n2,.s s,.i a2,.b _],rfl,rfl,m1,qy2.2 ⟨h1,qy5 _⟩,(λx hx=>absurd hx List.not_mem_nil),Z7,?_⟩;simp only[QQ,Nat.reduceAdd];clear m1 h1 hr;generalize hT2:rdN s 1 T1.2.1 T1.2.2=T2 at t2 q2⊢
    have t3:=Z1e s 1 T2.2.1 T2.2.2 t2.2.2.2.1;intro w1 hr;refine(Z1v w1 b9 s a2 T2.2.1 T2.2.2 (hr.at_ 0 rfl) hle2 t2.2.2.2.1 hs1 (q2.imp id (·.2)) 1 (by omega)).mono ?_;rintro e w2 ⟨n3,a3,rfl,h1,hle3,q3,m1⟩;refine⟨[.i n3,.s s,.i a3,.b _],rfl,rfl,m1,qy2.2 ⟨h1,qy5 _⟩,(λx hx=>absurd hx List.not_mem_nil),Z7,?_⟩;simp only[QQ,Nat.reduceAdd];clear m1 h1 hr;generalize hT3:rdN s 1 T2.2.1 T2.2.2=T3 at t3 q3⊢
    have t4:=Z1e s 2 T3.2.1 T3.2.2 t3.2.2.2.1;intro w1 hr;refine(Z1v w1 b9 s a3 T3.2.1 T3.2.2 (hr.at_ 0 rfl) hle3 t3.2.2.2.1 hs1 (q3.imp id (·.2)) 2 (by omega)).mono ?_;rintro e w2 ⟨n4,a4,rfl,h1,hle4,q4,m1⟩;refine⟨[.i n4,.s s,.i a4,.b _],rfl,rfl,m1,qy2.2 ⟨h1,qy5 _⟩,(λx hx=>absurd hx List.not_mem_nil),Z7,?_⟩;simp only[QQ,Nat.reduceAdd];clear m1 h1 hr;generalize hT4:rdN s 2 T3.2.1 T3.2.2=T4 at t4 q4⊢
    have t5:=Z3o s T4.2.1 T4.2.2 t4.2.2.2.1;intro w1 hr;refine(Zdj w1 b9 s a4 T4.2.1 T4.2.2 (hr.at_ 0 rfl) hle4 t4.2.2.2.1 hs1 (q4.imp id (·.2))).mono ?_;rintro e w2 ⟨n5,a5,rfl,h1,hle5,q5,m1⟩;refine⟨[.s n5,.s s,.i a5,.b _],rfl,rfl,m1,qy2.2 ⟨h1,qy5 _⟩,(λx hx=>absurd hx List.not_mem_nil),Z7,?_⟩;simp only[QQ,Nat.reduceAdd];clear m1 h1 hr;generalize hT5:rdT s T4.2.1 T4.2.2=T5 at t5 q5⊢
    simp only[hz,ek,k1];have hc5:Z61 s (pD_Q 1) (at0 s) false=({ pD_Q 1 with clean:=decide (T3.1=2),keep:=T4.1,client:=T5.1 },T5.2):=by rw[Z61];simp only[hT1,hT2,hT3,hT4,hT5]
    refine⟨{ pD_Q 1 with clean:=decide (n3=2),keep:=n4,client:=n5 },a5,T5.2.2,nilV,nilV,rfl,?_,?_,by rw[Zip k1];exact hq0⟩
    . rw[Zip k1,hc5]
    . rw[Zip k1,hc5];cases hb:T5.2.2 with
      | true=>exact .inl rfl
      | false =>
        right;obtain⟨b5,-⟩:=t5.2.2.2.2 hb;obtain⟨b4,-⟩:=t4.2.2.2.2.2 b5;obtain⟨b3,-⟩:=t3.2.2.2.2.2 b4;rw[(q5.resolve_left (by rw[hb];simp)).1,(q4.resolve_left (by rw[b5];simp)).1,(q3.resolve_left (by rw[b4];simp)).1]
  . have k2:knd s=2:=by omega
    have hq0:¬1<(Zo s).1.qos:=by rw[Zb1.2,Zgl (by omega)];simp
    have t1:=Z1e s 1 (at0 s) false hln;intro w1 hr;have hc0:=hr.at_ 0 rfl;simp only[Ent.holds,QQ,Nat.reduceAdd]at hc0;rw[ha0]at hc0;refine(Z1v w1 b9 s (at0 s) (at0 s) false hc0 hln hln hs1 (.inr rfl) 1 (by omega)).mono ?_;rintro e w2 ⟨n1,a1,rfl,h1,hle1,q1,m1⟩;refine⟨[.i n1,.s s,.i a1,.b _],rfl,rfl,m1,qy2.2 ⟨h1,qy5 _⟩,(λx hx=>absurd hx List.not_mem_nil),Z7,?_⟩;simp only[QQ,Nat.reduceAdd];clear m1 h1 hr hc0;have hr2:=Zu7 k2;generalize hT1:rdN s 1 (at0 s) false=T1 at t1 q1 hr2⊢
    have t2:=Z1e s 1 T1.2.1 T1.2.2 t1.2.2.2.1;intro w1 hr;refine(Z1v w1 b9 s a1 T1.2.1 T1.2.2 (hr.at_ 0 rfl) hle1 t1.2.2.2.1 hs1 (q1.imp id (·.2)) 1 (by omega)).mono ?_;rintro e w2 ⟨n2,a2,rfl,h1,hle2,q2,m1⟩;refine⟨[.i n2,.s s,.i a2,.b _],rfl,rfl,m1,qy2.2 ⟨h1,qy5 _⟩,(λx hx=>absurd hx List.not_mem_nil),Z7,?_⟩;simp only[QQ,Nat.reduceAdd];clear m1 h1 hr;generalize hT2:rdN s 1 T1.2.1 T1.2.2=T2 at t2 q2 hr2⊢
    simp only[hz,ek,k2];refine⟨{ pD_Q 2 with session:=decide (n1=1),code:=n2 },a2,T2.2.2,nilV,nilV,rfl,?_,?_,hq0⟩
    . rw[hr2]
    . rw[hr2];cases hb:T2.2.2 with
      | true=>exact .inl rfl
      | false =>
        right;obtain⟨b2,-⟩:=t2.2.2.2.2.2 hb;rw[(q2.resolve_left (by rw[hb];simp)).1,(q1.resolve_left (by rw[b2];simp)).1]
  . have k3:knd s=3:=by omega
    generalize hcc:(s.getD 0 0).toNat=c at hc
    have hbeg:begP c={ pD_Q 3 with dup:=decide (c / 8 % 2=1),qos:=((c / 2 % 4:Nat):Int),retain:=decide (c % 2=1) }:=by rw[<- hcc,begP,if_pos (show(s.getD 0 0).toNat / 16=3 from k3),hcc];rfl
    have hqos:(Zo s).1.qos=((c / 2 % 4:Nat):Int):=by rw[Zb1.2,hcc,hbeg]
    refine⟨by omega,?_⟩;have eq1:((c:Int) % 16 / 2) % 4=((c / 2 % 4:Nat):Int):=by omega
    rw[eq1];refine⟨λh w' hr=>⟨nilV,nilV,?_⟩,λhqn=>?_⟩
    . rw[Ziq hl0 (.inr (.inr (.inl (by rw[hqos];exact h))))];exact⟨rfl,Z13 hr.mod 0⟩
    have hq0:¬1<(Zo s).1.qos:=by rw[hqos];exact hqn
    have hr3:=Zu8 k3;rw[hcc,hbeg]at hr3;have ed:decide (8<=(c:Int) % 16)=decide (c / 8 % 2=1):=decide_eq_decide.2 (by omega);have er:decide ((c:Int) % 16 % 2=1)=decide (c % 2=1):=decide_eq_decide.2 (by omega);have t1:=Z3o s (at0 s) false hln;intro w1 hr;have hc0:=hr.at_ 0 rfl;simp only[Ent.holds,QQ,Nat.reduceAdd]at hc0;rw[ha0]at hc0;refine(Zdj w1 b9 s (at0 s) (at0 s) false hc0 hln hln hs1 (.inr rfl)).mono ?_;rintro e w2 ⟨n1,a1,rfl,h1,hle1,q1,m1⟩;refine⟨[.s n1,.s s,.i a1,.b _],rfl,rfl,m1,qy2.2 ⟨h1,qy5 _⟩,(λx hx=>absurd hx List.not_mem_nil),Z7,?_⟩;simp only[QQ,Nat.reduceAdd,hz,hcc,eq1];clear m1 h1 hr hc0;generalize hT1:rdT s (at0 s) false=T1 at t1 q1 hr3⊢
    refine⟨λhq=>?_,λhq=>?_⟩
    . have hid:idB { pD_Q 3 with dup:=decide (c / 8 % 2=1),qos:=((c / 2 % 4:Nat):Int),retain:=decide (c % 2=1),topic:=T1.1 }=true:=by simp only[idB,hq];decide
      rw[idD,if_pos hid]at hr3;have t2:=Z1e s 2 T1.2.1 T1.2.2 t1.2.1;intro w1 hr;refine(Z1v w1 b9 s a1 T1.2.1 T1.2.2 (hr.at_ 0 rfl) hle1 t1.2.1 hs1 (q1.imp id (·.2)) 2 (by omega)).mono ?_;rintro e w2 ⟨n2,a2,rfl,h1,hle2,q2,m1⟩;refine⟨[.i n2,.s s,.i a2,.b _],rfl,rfl,m1,qy2.2 ⟨h1,qy5 _⟩,(λx hx=>absurd hx List.not_mem_nil),Z7,?_⟩;simp only[QQ,Nat.reduceAdd,hz,hcc,eq1,ed,er];clear m1 h1 hr;simp only at hr3;generalize hT2:rdN s 2 T1.2.1 T1.2.2=T2 at t2 q2 hr3⊢
      rw[Z1c,if_pos rfl]at hr3;simp only at hr3;refine⟨λhb=>?_,λhb=>?_⟩
      . have hb:T2.2.2=false:=by simpa using hb
        obtain⟨b2,-⟩:=t2.2.2.2.2.2 hb;obtain⟨e1,e2⟩:=q2.resolve_left (by rw[hb];simp);obtain⟨e3,-⟩:=q1.resolve_left (by rw[b2];simp);refine⟨by omega,by omega,?_⟩;refine⟨{ pD_Q 3 with dup:=decide (c / 8 % 2=1),qos:=((c / 2 % 4:Nat):Int),retain:=decide (c % 2=1),topic:=n1,id:=n2,payload:=s.drop a2 },a2,T2.2.2,nilV,nilV,?_,by rw[hr3],.inr (by rw[hr3,e1,e2,e3]),hq0⟩;have e5:((knd s:Nat):Int)=3:=by omega
        have e6:(c:Int) / 16=3:=by unfold knd at k3;omega
        have e5:((knd s:Nat):Int)=3:=by omega
        (try simp only[QQ,Nat.reduceAdd,hz,hcc,eq1,ed,er,e6,e5])
        (try simp[hb])
      . have hb:T2.2.2=true:=by simpa using hb
        refine⟨{ pD_Q 3 with dup:=decide (c / 8 % 2=1),qos:=((c / 2 % 4:Nat):Int),retain:=decide (c % 2=1),topic:=n1,id:=n2 },a2,T2.2.2,nilV,nilV,?_,by rw[hr3],.inl hb,hq0⟩;have e6:(c:Int) / 16=3:=by unfold knd at k3;omega
        have e5:((knd s:Nat):Int)=3:=by omega
        (try simp only[QQ,Nat.reduceAdd,hz,hcc,eq1,ed,er,e6,e5])
        (try simp)
    . have hid:¬idB { pD_Q 3 with dup:=decide (c / 8 % 2=1),qos:=((c / 2 % 4:Nat):Int),retain:=decide (c % 2=1),topic:=T1.1 }=true:=by
        simp only[idB,decide_eq_true_eq];omega
      rw[idD,if_neg hid,Z1c,if_pos rfl]at hr3;simp only at hr3;simp only[ed,er];have e6:(c:Int) / 16=3:=by unfold knd at k3;omega
      refine⟨λhb=>?_,λhb=>?_⟩
      . have hb:T1.2.2=false:=by simpa using hb
        obtain⟨e3,e2⟩:=q1.resolve_left (by rw[hb];simp);refine⟨by omega,by omega,?_⟩;refine⟨{ pD_Q 3 with dup:=decide (c / 8 % 2=1),qos:=((c / 2 % 4:Nat):Int),retain:=decide (c % 2=1),topic:=n1,payload:=s.drop a1 },a1,T1.2.2,nilV,nilV,?_,by rw[hr3],.inr (by rw[hr3,e2,e3]),hq0⟩;have e5:((knd s:Nat):Int)=3:=by omega
        (try simp only[QQ,Nat.reduceAdd,hz,hcc,eq1,ed,er,e6,e5])
        (try simp[hb])
      . have hb:T1.2.2=true:=by simpa using hb
        refine⟨{ pD_Q 3 with dup:=decide (c / 8 % 2=1),qos:=((c / 2 % 4:Nat):Int),retain:=decide (c % 2=1),topic:=n1 },a1,T1.2.2,nilV,nilV,?_,by rw[hr3],.inl hb,hq0⟩;have e5:((knd s:Nat):Int)=3:=by omega
        (try simp only[QQ,Nat.reduceAdd,hz,hcc,eq1,ed,er,e6,e5])
        (try simp)
  . refine⟨λvs=>(vs.getD 0 (.i 0)).toB=true↔(knd s=4\/(8<=knd s/\knd s<=11)),⟨λh4=>?_,λh4=>⟨λh8=>?_,λh8=>⟨λh9=>?_,λh9=>⟨λh10=>?_,λh10=>?_⟩⟩⟩⟩,?_⟩;any_goals (simp only[List.getD_cons_zero,V.toB_b,decide_eq_true_eq];omega)
    intro vs hl hI
    match vs,hl,hI with
    | [x4],_,hI =>
    simp only[QQ,Nat.reduceAdd,hz,ek]at hI⊢;have hqk:(Zo s).1.qos=0:=by rw[Zb1.2,Zgl (by omega)]
    refine⟨λh=>?_,λh=>?_⟩
    . have hko:=hI.1 h;have hro:=Zu9 hko;clear h hI;have t1:=Z1e s 2 (at0 s) false hln;intro w1 hr;have hc0:=hr.at_ 0 rfl;simp only[Ent.holds,QQ,Nat.reduceAdd]at hc0;rw[ha0]at hc0;refine(Z1v w1 b9 s (at0 s) (at0 s) false hc0 hln hln hs1 (.inr rfl) 2 (by omega)).mono ?_;rintro e w2 ⟨n1,a1,rfl,h1,hle1,q1,m1⟩;refine⟨[.i n1,.s s,.i a1,.b _],rfl,rfl,m1,qy2.2 ⟨h1,qy5 _⟩,(λx hx=>absurd hx List.not_mem_nil),Z7,?_⟩;simp only[QQ,Nat.reduceAdd,hz,ek];clear m1 h1 hr hc0;generalize hT1:rdN s 2 (at0 s) false=T1 at t1 q1 hro⊢
      generalize hr0:(({ pD_Q ((knd s:Nat):Int)with id:=T1.1 },T1.2):RS)=r at hro
      have hrk:r.1.kind=((knd s:Nat):Int):=by rw[<- hr0]
      refine⟨tkI s r,Zpg s,⟨{ pD_Q ((knd s:Nat):Int)with id:=n1 },{ pD_Q ((knd s:Nat):Int)with id:=T1.1 },a1,T1.2.1,T1.2.2,nilV,nilV,rfl,hle1,t1.2.2.2.1,q1.imp id (λh=>⟨by rw[h.1],h.2⟩),λ_=>⟨by simp,by simp⟩,by rw[<- hr0],by rw[hrk]⟩,?_⟩;rintro _ - ⟨q,q0,a,a0,bad,x,y,rfl,ha,hha0,hsim,hln1,htl,hqk0⟩;rw[hrk]at hqk0;simp only[QQ,Nat.reduceAdd,hz,ek,qy4];refine⟨λhcond=>?_,λhcond=>?_⟩
      . obtain⟨⟨⟨c1,c2⟩,c3⟩,c4⟩:=hcond;have hb:bad=false:=by simpa using c3
        subst hb;obtain⟨rfl,rfl⟩:=hsim.resolve_left (by simp);obtain⟨l1,l2⟩:=hln1 rfl;have c4:a<s.length:=by omega
        refine⟨λk9=>⟨?_,?_⟩,λk9=>?_⟩
        . have t2:=Z1e s 1 a false ha;have htC:=Zb0 (s:=s) (q:=q) (a:=a) (by omega) c4;rw[htl]at htC;intro w1 hr;refine(Z1v w1 b9 s a a false (hr.at_ 0 rfl) ha ha hs1 (.inr rfl) 1 (by omega)).mono ?_;rintro e w2 ⟨n2,a2,rfl,h1,hle2,q2,m1⟩;refine⟨[.i n2,.s s,.i a2,.b _],rfl,rfl,m1,qy2.2 ⟨h1,qy5 _⟩,(λx hx=>absurd hx List.not_mem_nil),Z7,?_⟩;simp only[QQ,Nat.reduceAdd,hz,ek,qy4];clear m1 h1 hr;(generalize rdN s 1 a false=M at t2 q2 htC⊢);intro z1;refine⟨by(try simp only[qy3,List.length_nil,List.length_cons]);omega,λz2=>⟨⟨{ q with codes:=q.codes++[n2] },{ q with codes:=q.codes++[M.1] },a2,M.2.1,M.2.2,x,z2,by simp[Za],hle2,t2.2.2.2.1,q2.imp id λh=>⟨by rw[h.1],h.2⟩,λhb=>?_,htC.symm,by rw[hrk];exact hqk0⟩,?_⟩⟩;(· have e5:=(t2.2.2.2.2.2 hb).2;have e2:=(q2.resolve_left (by rw[hb];simp)).2;simp only[qy11,List.length_cons,List.length_nil];omega);(· show Zf s a2 M.2.2<Zf s a false;refine Z39 c4 rfl λhb=>?_;have e5:=(t2.2.2.2.2.2 hb).2;have e2:=(q2.resolve_left (by rw[hb];simp)).2;omega)
        . have t2:=Z1e s 1 a false ha;have htC:=Zb0 (s:=s) (q:=q) (a:=a) (by omega) c4;rw[htl]at htC;intro w1 hr;refine(Z1v w1 b9 s a a false (hr.at_ 0 rfl) ha ha hs1 (.inr rfl) 1 (by omega)).mono ?_;rintro e w2 ⟨n2,a2,rfl,h1,hle2,q2,m1⟩;refine⟨[.i n2,.s s,.i a2,.b _],rfl,rfl,m1,qy2.2 ⟨h1,qy5 _⟩,(λx hx=>absurd hx List.not_mem_nil),Z7,?_⟩;simp only[QQ,Nat.reduceAdd,hz,ek,qy4];clear m1 h1 hr;(generalize rdN s 1 a false=M at t2 q2 htC⊢);refine⟨?_,?_⟩
          . intro z1;refine⟨by(try simp only[qy3,List.length_nil,List.length_cons]);omega,λz2=>⟨⟨{ q with codes:=q.codes++[n2] },{ q with codes:=q.codes++[M.1] },a2,M.2.1,M.2.2,x,z2,by simp[Za],hle2,t2.2.2.2.1,q2.imp id λh=>⟨by rw[h.1],h.2⟩,λhb=>?_,htC.symm,by rw[hrk];exact hqk0⟩,?_⟩⟩;(· have e5:=(t2.2.2.2.2.2 hb).2;have e2:=(q2.resolve_left (by rw[hb];simp)).2;simp only[qy11,List.length_cons,List.length_nil];omega);(· show Zf s a2 M.2.2<Zf s a false;refine Z39 c4 rfl λhb=>?_;have e5:=(t2.2.2.2.2.2 hb).2;have e2:=(q2.resolve_left (by rw[hb];simp)).2;omega)
          . intro z1;refine⟨by(try simp only[qy3,List.length_nil,List.length_cons]);omega,λz2=>⟨⟨{ q with codes:=q.codes++[n2] },{ q with codes:=q.codes++[M.1] },a2,M.2.1,M.2.2,x,z2,by simp[Za],hle2,t2.2.2.2.1,q2.imp id λh=>⟨by rw[h.1],h.2⟩,λhb=>?_,htC.symm,by rw[hrk];exact hqk0⟩,?_⟩⟩;(· have e5:=(t2.2.2.2.2.2 hb).2;have e2:=(q2.resolve_left (by rw[hb];simp)).2;simp only[qy11,List.length_cons,List.length_nil];omega);(· show Zf s a2 M.2.2<Zf s a false;refine Z39 c4 rfl λhb=>?_;have e5:=(t2.2.2.2.2.2 hb).2;have e2:=(q2.resolve_left (by rw[hb];simp)).2;omega)
        . have hk8:q.kind=8\/q.kind=10:=by omega
          have t2:=Z3o s a false ha;have htA:=Zk6 hk8 c4;rw[htl]at htA;intro w1 hr;refine(Zdj w1 b9 s a a false (hr.at_ 0 rfl) ha ha hs1 (.inr rfl)).mono ?_;rintro e w2 ⟨n2,a2,rfl,h1,hle2,q2,m1⟩;refine⟨[.s n2,.s s,.i a2,.b _],rfl,rfl,m1,qy2.2 ⟨h1,qy5 _⟩,(λx hx=>absurd hx List.not_mem_nil),Z7,?_⟩;simp only[QQ,Nat.reduceAdd,hz,ek,qy4];clear m1 h1 hr;have hT2:rdT s a false=rdT s a false:=rfl;generalize hT:rdT s a false=T at t2 q2 htA⊢
          intro b10;refine⟨λk8=>?_,λk8=>?_⟩
          . have hk8':q.kind=8:=by omega
            have t3:=Z1e s 1 T.2.1 T.2.2 t2.2.1;have hA:Zr s q.kind a false=((T.1,(rdN s 1 T.2.1 T.2.2).1),(rdN s 1 T.2.1 T.2.2).2):=by rw[Zr,if_pos hk8',hT]
            rw[hA]at htA;intro w1 hr;refine(Z1v w1 b9 s a2 T.2.1 T.2.2 (hr.at_ 1 rfl) hle2 t2.2.1 hs1 (q2.imp id (·.2)) 1 (by omega)).mono ?_;rintro e w2 ⟨n3,a3,rfl,h1,hle3,q3,m1⟩;refine⟨[.i n3,.s s,.i a3,.b _],rfl,rfl,m1,qy2.2 ⟨h1,qy5 _⟩,(λx hx=>absurd hx List.not_mem_nil),Z7,?_⟩;simp only[QQ,Nat.reduceAdd,hz,ek,qy4];clear m1 h1 hr;generalize rdN s 1 T.2.1 T.2.2=M at t3 q3 htA⊢
            intro z1;refine⟨by(try simp only[qy3,List.length_nil,List.length_cons]);omega,λz2=>⟨⟨{ q with asks:=q.asks++[(n2,n3)] },{ q with asks:=q.asks++[(T.1,M.1)] },a3,M.2.1,M.2.2,z2,y,by simp[encA],hle3,t3.2.2.2.1,?_,λhb=>?_,htA.symm,by rw[hrk];exact hqk0⟩,?_⟩⟩
            . cases hb:M.2.2 with
              | true=>exact .inl rfl
              | false =>
                obtain⟨b2,-⟩:=t3.2.2.2.2.2 hb;obtain⟨e1,-⟩:=q2.resolve_left (by rw[b2];simp);obtain⟨e3,e4⟩:=q3.resolve_left (by rw[hb];simp);exact .inr ⟨by rw[e3,e1],e4⟩
            . obtain⟨b2,e5⟩:=t3.2.2.2.2.2 hb;obtain⟨-,e4⟩:=t2.2.2.2.2 b2;obtain⟨e3,e2⟩:=q3.resolve_left (by rw[hb];simp);simp only[qy11,List.length_cons,List.length_nil];omega
            . show Zf s a3 M.2.2<Zf s a false
              refine Z39 c4 rfl λhb=>?_;obtain⟨b2,e5⟩:=t3.2.2.2.2.2 hb;obtain⟨-,e4⟩:=t2.2.2.2.2 b2;obtain⟨e3,e2⟩:=q3.resolve_left (by rw[hb];simp);omega
          . have hA:Zr s q.kind a false=((T.1,0),T.2):=by rw[Zr,if_neg (by omega),hT]
            rw[hA]at htA;intro z1;refine⟨by(try simp only[qy3,List.length_nil,List.length_cons]);omega,λz2=>⟨⟨{ q with asks:=q.asks++[(n2,0)] },{ q with asks:=q.asks++[(T.1,0)] },a2,T.2.1,T.2.2,z2,y,by simp[encA],hle2,t2.2.1,q2.imp id λh=>⟨by rw[h.1],h.2⟩,λhb=>?_,htA.symm,by rw[hrk];exact hqk0⟩,?_⟩⟩
            . obtain⟨-,e4⟩:=t2.2.2.2.2 hb;obtain⟨e3,e2⟩:=q2.resolve_left (by rw[hb];simp);simp only[qy11,List.length_cons,List.length_nil];omega
            . show Zf s a2 T.2.2<Zf s a false
              refine Z39 c4 rfl λhb=>?_;obtain⟨-,e4⟩:=t2.2.2.2.2 hb;obtain⟨e3,e2⟩:=q2.resolve_left (by rw[hb];simp);omega
      . have hend:Z1c s (q0,a0,bad)=(q0,a0,bad):=by
          refine Znn (by omega) λhh=>?_;obtain⟨c1,c2,c3,c4⟩:=hh;subst c3;obtain⟨rfl,rfl⟩:=hsim.resolve_left (by simp);exact hcond ⟨⟨⟨by omega,by omega⟩,by simp⟩,by omega⟩
        rw[hend,<- hro]at htl;refine⟨q,a,bad,x,y,rfl,by rw[<- htl],?_,by rw[hqk];decide⟩;rw[<- htl];exact hsim.imp id (·.1)
    . have hkx:12<=knd s/\knd s<=14:=by
        have:¬(knd s=4\/(8<=knd s/\knd s<=11)):=λhh=>h (hI.2 hh);omega
      rw[ha0];refine⟨pD_Q ((knd s:Nat):Int),at0 s,false,nilV,nilV,rfl,?_,.inr ?_,by rw[hqk];decide⟩<;>rw[Zua hkx]
  rintro _ - ⟨q,a,bad,x,y,rfl,hbad,hsim,hq1⟩;simp only[QQ,Nat.reduceAdd];have hbd:=(Z7f hl0).1;refine⟨[.s (Zi q)],rfl,λhg w' hr=>?_,?_⟩
  . have hb:bad=false:=by simpa using hg
    have hq:=hsim.resolve_left (by rw[hb];simp);exact Zbd w' q x y (owns.reads (hr.at_ 3 rfl)) (owns.reads (hr.at_ 4 rfl)) (by rw[hq];exact hbd.byte hs) (by rw[hq];exact Znq)
  simp only[QQ,Nat.reduceAdd];refine⟨λh w' hr=>⟨nilV,nilV,?_⟩,λh=>?_⟩
  . have hB:(Zo s).2.2=true\/Z1h (Zo s).1.kind=false\/1<(Zo s).1.qos\/Zi (Zo s).1≠s:=by
      cases hb:bad with
      | true=>exact .inl (by rw[<- hbad,hb])
      | false =>
        have hq:=hsim.resolve_left (by rw[hb];simp);rw[hb]at h;rw[<- hq];exact .inr (.inr (.inr (h.resolve_left (by simp))))
    rw[Ziq hl0 hB];exact⟨rfl,Z13 hr.mod 0⟩
  have hb:bad=false:=by
    cases hb:bad with
    | true=>exact absurd (.inl hb) h
    | false=>rfl
  have hq:=hsim.resolve_left (by rw[hb];simp);have hby:Zi (Zo s).1=s:=by rw[<- hq];exact qy9.1 λhh=>h (.inr hh)
  have hnB:¬((Zo s).2.2=true\/Z1h (Zo s).1.kind=false\/1<(Zo s).1.qos\/Zi (Zo s).1≠s):=by
    rintro(hh|hh|hh|hh)
    . rw[<- hbad,hb]at hh;cases hh
    . rw[Zfb,hkb]at hh;cases hh
    . exact hq1 hh
    . exact hh hby
  have hd:decD s=if chkP q=0 then(q,0)else(pD_Q 0,chkP q):=by rw[decD,if_neg (s_ne hl0),if_neg hnB,<- hq]
  refine⟨[.i (chkP q)],rfl,λ_ w' hr=>Zdi w' q x y (owns.reads (hr.at_ 3 rfl)) (owns.reads (hr.at_ 4 rfl)) (by rw[hq];exact hbd.small hs),?_⟩;simp only[QQ,Nat.reduceAdd];refine⟨λh w' hr=>⟨nilV,nilV,?_⟩,λh w' hr=>⟨x,y,?_⟩⟩
  . rw[hd,if_neg h];exact⟨rfl,Z13 hr.mod 0⟩
  . have h:=qy9.1 h;rw[hd,if_pos h,h];exact⟨rfl,hr.mod,owns.reads (hr.at_ 3 rfl),owns.reads (hr.at_ 4 rfl),λk hk=>(hr.own _ (qy6 (i:=3) rfl) rfl k hk).resolve_right (by simp),λk hk=>(hr.own _ (qy6 (i:=4) rfl) rfl k hk).resolve_right (by simp)⟩
end Go.Proofs.Y
namespace Go.Proofs.Y
open Go.Sx
def Z3d(s:List UInt8)(a:Nat)(n:Int):Int×Int×Bool :=
 if n<13 then(n,a,true)else if n=15 then(0,a,false)
 else if n=14 then((getR s a 2).1+269,a+2,decide ((getR s a 2).2=0))else((getR s a 1).1+13,a+1,decide ((getR s a 1).2=0))
theorem Zir(s:List UInt8)(a:Nat)(n:Int)(h:0<=n):0<=(Z3d s a n).1/\(Z3d s a n).1<4294967600/\(a:Int)<=(Z3d s a n).2.1/\(Z3d s a n).2.1<=a+2:=by
 have h1:=Z89 s a 1;have h2:=Z89 s a 2;unfold Z3d;split
 ·simp only;omega
 ·split
  ·simp only;omega
  ·split<;>simp only<;>omega
theorem Znr(s:List UInt8)(a:Nat)(n:Int)(ha:a<=s.length)(hn:n<=15):match Z4y n (s.drop a)with
  | none=>(Z3d s a n).2.2=false
  | some p=>∃a':Nat,a<=a'/\a'<=s.length/\p.2=s.drop a'/\Z3d s a n=(p.1,(a':Int),true):=by
 unfold Z4y Z3d;by_cases h1:n<13
 ·rw[if_pos h1,if_pos h1];exact⟨a,Nat.le_refl _,ha,rfl,rfl⟩
 ·rw[if_neg h1,if_neg h1];by_cases h2:n=15
  ·rw[if_pos h2,if_pos h2]
  ·rw[if_neg h2,if_neg h2];by_cases h3:n=14
   ·rw[if_pos h3,if_pos h3];by_cases h4:(s.drop a).length<2
    ·rw[if_pos h4];rw[List.length_drop]at h4;rw[Z1m (by omega) (by omega) (by omega)];rfl
    ·rw[if_neg h4];rw[List.length_drop]at h4;refine⟨a+2,by omega,by omega,by rw[List.drop_drop],?_⟩;rw[Z4r (by omega) (by omega) (by omega)];simp[Int.add_comm]
   ·rw[if_neg h3,if_neg h3];by_cases h4:(s.drop a).length<1
    ·rw[if_pos h4];rw[List.length_drop]at h4;rw[Z1m (by omega) (by omega) (by omega)];rfl
    ·rw[if_neg h4];rw[List.length_drop]at h4;refine⟨a+1,by omega,by omega,by rw[List.drop_drop],?_⟩;rw[Z4r (by omega) (by omega) (by omega)];simp[Int.add_comm]
theorem Zq8{was:Int}{c:UInt8}{l:List UInt8}(h:Z4y ((c.toNat / 16:Nat):Int) l=none):Z3j was c l=none:=by unfold Z3j;rw[h]
theorem Zq9{was m:Int}{c:UInt8}{l l1:List UInt8}(h:Z4y ((c.toNat / 16:Nat):Int) l=some (m,l1))(h2:Z4y ((c.toNat % 16:Nat):Int) l1=none):Z3j was c l=none:=by unfold Z3j;rw[h];simp only;rw[h2]
theorem Zqa{was m n:Int}{c:UInt8}{l l1 l2:List UInt8}(h:Z4y ((c.toNat / 16:Nat):Int) l=some (m,l1))(h2:Z4y ((c.toNat % 16:Nat):Int) l1=some (n,l2))(h3:(l2.length:Int)<n):Z3j was c l=none:=by unfold Z3j;rw[h];simp only;rw[h2];simp only;rw[if_pos h3]
theorem Zt4{was m n:Int}{c:UInt8}{l l1 l2:List UInt8}(h:Z4y ((c.toNat / 16:Nat):Int) l=some (m,l1))(h2:Z4y ((c.toNat % 16:Nat):Int) l1=some (n,l2))(h3:¬(l2.length:Int)<n):Z3j was c l=some ((was+m,l2.take n.toNat),l2.drop n.toNat):=by unfold Z3j;rw[h];simp only;rw[h2];simp only;rw[if_neg h3]
theorem Zis(w:World)(s:List UInt8)(a:Nat)(n:Int)(ha:a<=s.length+2)(hn:0<=n/\n<=15)(hs:s.length<1099511627776):Calls Tryz.prog 37 #[.string ⟨s.toArray⟩,.int .i64 a,.int .i64 n] w λe w'=>e=.returned (.tuple #[.int .i64 (Z3d s a n).1,.int .i64 (Z3d s a n).2.1,.bool (Z3d s a n).2.2])/\Mod [] w w':=by
 refine Z1 (Z4 (J:=[.s s,.i a,.i n]) sxE_ok Tryz.func37 Z4q rfl rfl rfl ?_) rfl;simp only[QQ,Nat.reduceAdd];have h1:=Z89 s a 1;have h2:=Z89 s a 2;refine⟨λh w' hr=>⟨by rw[Z3d,if_pos h],hr.mod⟩,λh=>⟨λh3 w' hr=>⟨by rw[Z3d,if_neg h,if_pos h3],hr.mod⟩,λh3=>⟨λh4=>?_,λh4=>?_⟩⟩⟩
 ·refine⟨[.i (getR s a 2).1,.i (getR s a 2).2],rfl,λ_ w' _=>Zcr w' s a 2 (by omega),?_⟩;simp only[QQ,Nat.reduceAdd]
  (repeat refine⟨by omega,?_⟩)
  exact λw' hr=>⟨by rw[Z3d,if_neg h,if_neg h3,if_pos h4],hr.mod⟩
 ·refine⟨[.i (getR s a 1).1,.i (getR s a 1).2],rfl,λ_ w' _=>Zcr w' s a 1 (by omega),?_⟩;simp only[QQ,Nat.reduceAdd]
  (repeat refine⟨by omega,?_⟩)
  exact λw' hr=>⟨by rw[Z3d,if_neg h,if_neg h3,if_neg h4],hr.mod⟩
set_option maxRecDepth 10000 in
theorem Zgm(w:World)(s:List UInt8)(hs:s.length<1099511627776):Calls Tryz.prog 9 #[.string ⟨s.toArray⟩] w λe w'=>Zmx w w' e (dec s):=by
 refine Z1 (Z4 (J:=[.s s]) sxE_ok Tryz.func9 Z3h rfl rfl rfl ?_) rfl;simp only[QQ,Nat.reduceAdd];intro b1;refine⟨λh w' hr=>?_,λh=>⟨by omega,?_⟩⟩
 ·have:dec s=(mNil,1):=by rw[dec,if_pos (by omega)]
  rw[this];exact Z16 1 hr.mod
 have u0:=Z60 (s.getD 0 0);have u1:=Z60 (s.getD 1 0);have u2:=Z60 (s.getD 2 0);have u3:=Z60 (s.getD 3 0);have i0:Int.toNat 0=0:=rfl;have i1:Int.toNat 1=1:=rfl;have i2:Int.toNat 2=2:=rfl;have i3:Int.toNat 3=3:=rfl;have i4:Int.toNat 4=4:=rfl;simp only[i0,i1,i2,i3,i4];refine⟨λh1 w' hr=>?_,λh1=>?_⟩
 ·have:dec s=(mNil,1):=Z3r (by omega) (.inl (by omega));rw[this];exact Z16 1 hr.mod
 obtain⟨a0,ha0⟩:∃a0:Nat,a0=4+(s.getD 0 0).toNat % 16:=⟨_,rfl⟩
 have ea0:(4:Int)+((s.getD 0 0).toNat:Int) % 16=(a0:Int):=by omega
 rw[ea0];simp only[qy4]
 (repeat refine⟨by omega,?_⟩)
 intro b2;have hno:¬(¬((s.getD 0 0).toNat / 64=1)\/8<(s.getD 0 0).toNat % 16\/s.length<4+(s.getD 0 0).toNat % 16):=by omega
 obtain⟨T,hT⟩:∃T,T=Z49 (s.drop (4+(s.getD 0 0).toNat % 16)).length 0 (s.drop (4+(s.getD 0 0).toNat % 16)):=⟨_,rfl⟩
 have hbad:T=none->dec s=(mNil,1):=λh5=>Z3r (by omega) (.inr (by rw[<- hT];exact h5));have hgood:∀os r,T=some (os,r)->dec s=finM ⟨((s.getD 0 0).toNat / 16 % 4:Nat),(s.getD 1 0).toNat,((256*(s.getD 2 0).toNat+(s.getD 3 0).toNat:Nat)),(s.drop 4).take ((s.getD 0 0).toNat % 16),os,[]⟩ r:=λos r h5=>Zdd (by omega) hno (by rw[<- hT];exact h5);have e1:(((s.getD 0 0).toNat:Int) / 16) % 4=((((s.getD 0 0).toNat / 16 % 4:Nat)):Int):=by omega
 have e2:(256:Int)*((s.getD 2 0).toNat:Int)+((s.getD 3 0).toNat:Int)=((256*(s.getD 2 0).toNat+(s.getD 3 0).toNat:Nat):Int):=by omega
 have e3:List.drop 4 (List.take a0 s)=List.take ((s.getD 0 0).toNat % 16) (List.drop 4 s):=by rw[List.drop_take];congr 1;omega
 rw[e1,e2,e3];generalize hk0:((((s.getD 0 0).toNat / 16 % 4:Nat)):Int)=k0 at hgood⊢
 generalize hc0:((s.getD 1 0).toNat:Int)=c0 at hgood⊢
 generalize hi0:((256*(s.getD 2 0).toNat+(s.getD 3 0).toNat:Nat):Int)=j0 at hgood⊢
 generalize ht0:List.take ((s.getD 0 0).toNat % 16) (List.drop 4 s)=t0 at hgood⊢
 refine⟨λvs=>∃(x:V) (a:Nat) (was:Int) (v:Value) (acc:List Opt) (y1 y2 y3 y4:V) (q:Value) (y6 y7:V),vs=[x,.i a,.i was,.i k0,.i c0,.i j0,.s t0,.v v,.r (acc.map encO),.s [],y1,y2,y3,y4,.v q,y6,y7] /\
   a<=s.length/\0<=was/\was<=70000*acc.length/\acc.length<=a/\(∃f,s.length - a<=f/\Z6m acc (Z49 f was (s.drop a))=T),λvs=>s.length - (vs.getD 1 (.i 0)).toI.toNat,
  ⟨_,a0,0,_,[],_,_,_,_,_,_,_,rfl,by omega,by omega,by simp,by simp,(s.drop a0).length,by simp,?_⟩,?_⟩
 ·rw[Zex,hT,ha0]
 rintro _ - ⟨x,a,was,v,acc,y1,y2,y3,y4,q,y6,y7,rfl,hal,hw0,hw1,haa,f,hf,hinv⟩;simp only[QQ,Nat.reduceAdd,qy3,qy4];refine⟨λh2=>⟨by omega,λh3=>?_,λh3=>?_⟩,λh2=>?_⟩
 ·have hd:=Zaa s a (by omega);have hc:s.getD a 0=255:=by
   have:(s.getD a 0).toNat=255:=by omega
   exact UInt8.toNat_inj.1 this
  rw[hd,hc]at hinv;obtain⟨g,rfl⟩:∃g,f=g+1:=⟨f - 1,by omega⟩
  rw[Zc6]at hinv;have e4:((a:Int)+1).toNat=a+1:=by omega
  have e5:List.drop (a+1) (List.take s.length s)=s.drop (a+1):=by rw[List.take_length]
  rw[e4,e5];have hg:=hgood _ _ hinv.symm;simp only[List.append_nil,finM]at hg
  (repeat refine⟨by omega,?_⟩)
  refine⟨λh4 w' hr=>?_,λh4=>?_⟩
  ·rw[hg,if_pos h4];exact Z16 1 hr.mod
  ·rw[if_neg h4]at hg;refine⟨[.i (chk ⟨k0,c0,j0,t0,acc,s.drop (a+1)⟩)],rfl,λ_ w' hr=>Z66 w' ⟨k0,c0,j0,t0,acc,s.drop (a+1)⟩ v (owns.reads (hr.at_ 2 rfl)) (by simp only;omega),?_⟩;simp only[QQ,Nat.reduceAdd,qy3,qy4];refine⟨λh5 w' hr=>?_,λh5 w' hr=>?_⟩
   ·rw[hg,Z8h h5];exact Z16 _ hr.mod
   ·have h5:=qy9.1 h5;rw[hg,Z8g h5,h5];refine⟨v,rfl,owns.reads (hr.at_ 2 rfl),λk hk=>?_,hr.mod⟩;rcases hr.own _ (qy10 _ (qy10 _ (qy8 ..))) rfl k hk.2 with h6|h6
    ·exact h6
    ·simp at h6
 ·have hd:=Zaa s a (by omega);rw[hd]at hinv;obtain⟨g,rfl⟩:∃g,f=g+1:=⟨f - 1,by omega⟩
  have uc:=Z60 (s.getD a 0);generalize hcc:s.getD a 0=c at hinv h3 uc⊢
  have hc255:c≠255:=λh=>h3 (by rw[h];rfl);have e6:((a:Int)+1)=((a+1:Nat):Int):=by omega
  have e7:((c.toNat:Int) / 16)=((c.toNat / 16:Nat):Int):=by omega
  have e8:((c.toNat:Int) % 16)=((c.toNat % 16:Nat):Int):=by omega
  rw[e6,e7,e8]
  (repeat refine⟨by omega,?_⟩)
  have B1:=Zir s (a+1) ((c.toNat / 16:Nat):Int) (by omega);have Q1:=Znr s (a+1) ((c.toNat / 16:Nat):Int) (by omega) (by omega);refine⟨[.i (Z3d s (a+1) ((c.toNat / 16:Nat):Int)).1,.i (Z3d s (a+1) ((c.toNat / 16:Nat):Int)).2.1,.b (Z3d s (a+1) ((c.toNat / 16:Nat):Int)).2.2],rfl,λ_ w' _=>Zis w' s (a+1) _ (by omega) (by omega) hs,?_⟩;simp only[QQ,Nat.reduceAdd,qy3,qy4];generalize Z3d s (a+1) ((c.toNat / 16:Nat):Int)=H1 at B1 Q1⊢
  cases hq1:Z4y ((c.toNat / 16:Nat):Int) (s.drop (a+1))with
  | none =>
   rw[hq1]at Q1;simp only at Q1;have hst:Z3j was c (s.drop (a+1))=none:=Zq8 hq1;rw[Z7i hc255 hst]at hinv;refine⟨λh4 w' hr=>?_,λh4=>absurd (by simp[Q1]) h4⟩;rw[hbad hinv.symm];exact Z16 1 hr.mod
  | some p =>
   obtain⟨more,l1⟩:=p;rw[hq1]at Q1;obtain⟨a1,h11,h12,h13,rfl⟩:=Q1;simp only at h13 B1⊢;subst h13;refine⟨λh4=>absurd trivial h4,λh4=>?_⟩;have B2:=Zir s a1 ((c.toNat % 16:Nat):Int) (by omega);have Q2:=Znr s a1 ((c.toNat % 16:Nat):Int) (by omega) (by omega);refine⟨[.i (Z3d s a1 ((c.toNat % 16:Nat):Int)).1,.i (Z3d s a1 ((c.toNat % 16:Nat):Int)).2.1,.b (Z3d s a1 ((c.toNat % 16:Nat):Int)).2.2],rfl,λ_ w' _=>?_,?_⟩
   ·exact Zis w' s a1 _ (by omega) (by omega) hs
   simp only[QQ,Nat.reduceAdd,qy3,qy4];generalize Z3d s a1 ((c.toNat % 16:Nat):Int)=H2 at B2 Q2⊢
   cases hq2:Z4y ((c.toNat % 16:Nat):Int) (s.drop a1)with
   | none =>
    rw[hq2]at Q2;simp only at Q2;have hst:Z3j was c (s.drop (a+1))=none:=Zq9 hq1 hq2;rw[Z7i hc255 hst]at hinv;rw[Q2];refine⟨.inl (by simp),.inl (by simp),λh5 w' hr=>?_,λh5=>absurd (.inl (by simp)) h5⟩;rw[hbad hinv.symm];exact Z16 1 hr.mod
   | some p =>
    obtain⟨long,l2⟩:=p;rw[hq2]at Q2;obtain⟨a2,h21,h22,h23,rfl⟩:=Q2;simp only at h23 B2⊢;subst h23;refine⟨.inr (by omega),.inr (by omega),λh5 w' hr=>?_,λh5=>?_⟩
    ·have hlo:(s.length:Int) - a2<long:=by
      rcases h5 with h5|h5
      ·exact absurd trivial h5
      ·exact h5
     have hst:Z3j was c (s.drop (a+1))=none:=Zqa hq1 hq2 (by rw[List.length_drop];omega);rw[Z7i hc255 hst]at hinv;rw[hbad hinv.symm];exact Z16 1 hr.mod
    ·have hlo:¬((s.length:Int) - a2<long):=λh6=>h5 (.inr h6);obtain⟨lg,rfl⟩:∃lg:Nat,long=lg:=⟨long.toNat,by omega⟩
     have hst:Z3j was c (s.drop (a+1))=some ((was+more,(s.drop a2).take lg),s.drop (a2+lg)):=by rw[Zt4 hq1 hq2 (by rw[List.length_drop];omega),List.drop_drop];rfl
     rw[Zc7 hc255 hst,Zau]at hinv;have e9:((a2:Int)+(lg:Int)).toNat=a2+lg:=by omega
     have e10:List.drop a2 (List.take (a2+lg) s)=(s.drop a2).take lg:=by rw[List.drop_take];congr 1;omega
     rw[e9];simp only[qy4];rw[e10];have fin:∀v':Value,(∃(x':V) (a':Nat) (was':Int) (v:Value) (acc':List Opt) (y1' y2' y3' y4':V) (q':Value) (y6' y7':V),([x,.i ((a2:Int)+(lg:Int)),.i (was+more),.i k0,.i c0,.i j0,.s t0,.v v',.r (acc.map encO++[[.int .i64 (was+more),.string ⟨((s.drop a2).take lg).toArray⟩]]),.s [],y1,y2,y3,y4,.v q,y6,y7]:List V) =
       [x',.i a',.i was',.i k0,.i c0,.i j0,.s t0,.v v,.r (acc'.map encO),.s [],y1',y2',y3',y4',.v q',y6',y7'] /\
       a'<=s.length/\0<=was'/\was'<=70000*acc'.length/\acc'.length<=a'/\(∃f,s.length - a'<=f/\Z6m acc' (Z49 f was' (s.drop a'))=T)):=λv'=>by
      refine⟨x,a2+lg,was+more,v',acc++[(was+more,(s.drop a2).take lg)],y1,y2,y3,y4,q,y6,y7,by simp[encO],by omega,by omega,?_,by simp;omega,g,by omega,hinv⟩;have hm:more<=65805:=by have:=(Zmz hst).2.2;simp only at this;omega
      simp only[qy11,List.length_cons,List.length_nil];omega
     (repeat refine⟨by omega,?_⟩)
     refine⟨?_,?_⟩<;>((repeat refine⟨by omega,?_⟩);first|exact λv1=>⟨by omega,λv2=>⟨fin v2,by omega⟩⟩|exact⟨λv1=>⟨by omega,λv2=>⟨fin v2,by omega⟩⟩,λv1=>⟨by omega,λv2=>⟨fin v2,by omega⟩⟩⟩)
 ·have:a=s.length:=by omega
  subst this;rw[List.drop_length,Zew]at hinv;have hg:=hgood _ _ hinv.symm;simp only[List.append_nil,finM]at hg;refine⟨[.i (chk ⟨k0,c0,j0,t0,acc,[]⟩)],rfl,λ_ w' hr=>Z66 w' ⟨k0,c0,j0,t0,acc,[]⟩ v (owns.reads (hr.at_ 2 rfl)) (by simp only;omega),?_⟩;simp only[QQ,Nat.reduceAdd,qy3,qy4];refine⟨λh5 w' hr=>?_,λh5 w' hr=>?_⟩
  ·rw[hg,Z8h h5];exact Z16 _ hr.mod
  ·have h5:=qy9.1 h5;rw[hg,Z8g h5,h5];refine⟨v,rfl,owns.reads (hr.at_ 2 rfl),λk hk=>?_,hr.mod⟩;rcases hr.own _ (qy10 _ (qy10 _ (qy8 ..))) rfl k hk.2 with h6|h6
   ·exact h6
   ·simp at h6
theorem Zns(s:List UInt8):((dec s).2=0/\chk (dec s).1=0)\/((dec s).2≠0/\(dec s).1=mNil):=by
 have hc:∀m:Msg,((chkd m).2=0/\chk (chkd m).1=0)\/((chkd m).2≠0/\(chkd m).1=mNil):=λm=>by
  unfold chkd;by_cases h:chk m=0
  ·rw[if_pos h];exact .inl ⟨rfl,h⟩
  ·rw[if_neg h];exact .inr ⟨h,rfl⟩
 unfold dec;split
 ·exact .inr ⟨by decide,rfl⟩
 ·split
  ·exact .inr ⟨by decide,rfl⟩
  ·split
   ·exact .inr ⟨by decide,rfl⟩
   ·rename_i os r _;rcases r with _|⟨c,p⟩
    ·exact hc _
    ·simp only[finM];split
     ·exact .inr ⟨by decide,rfl⟩
     ·exact hc _
theorem Zt5(s:List UInt8):(dec s).1.opts.length<=12/\(dec s).1.tok.length<=8/\(dec s).1.pay.length<=200:=by
 rcases Zns s with h|h
 ·have:=(Zas.1 h.2).2.2.1;omega
 ·rw[h.2];exact⟨by decide,by decide,by decide⟩
abbrev decV(s:List UInt8)(v:Value):List V:=[.i (dec s).1.kind,.i (dec s).1.code,.i (dec s).1.id,.s (dec s).1.tok,.v v,.r ((dec s).1.opts.map encO),.s (dec s).1.pay,.i (dec s).2]
abbrev getV(v:Value):List V:=[.i mGet.kind,.i mGet.code,.i mGet.id,.s mGet.tok,.v v,.r (mGet.opts.map encO),.s mGet.pay]
theorem Zub:encR mGet=([65,1,1,2,116,96,81,97,1,98],0):=by rw[encR,if_pos Zid,Zjy]
set_option maxRecDepth 10000 in
theorem Zbe(w:World):Calls Tryz.prog 5 #[] w λe w'=>e=.returned (.bool true)/\Mod [] w w':=by
 refine Z1 (Z4 (J:=[]) sxE_ok Tryz.func5 Z2f rfl rfl rfl ?_) rfl;simp only[QQ,Nat.reduceAdd];intro w1 hr;refine(Z5j w1).mono ?_;rintro e w2 ⟨v1,rfl,r1,f1,m1⟩;refine⟨getV v1,rfl,rfl,m1,qy5 _,qy2.2 ⟨⟨r1,λk hk=>.inl (f1 k hk)⟩,qy5 _⟩,Z6,?_⟩;simp only[QQ,Nat.reduceAdd,getV];refine⟨[.s (encR mGet).1,.i (encR mGet).2],rfl,λ_ w' hr=>Zpp w' mGet v1 (hr.at_ 0 rfl) (by decide) (by decide) (by decide),?_⟩;simp only[QQ,Nat.reduceAdd,Zub];intro w3 hr3;refine(Zpq w3 [65,1,1,2,116,96,81,97,1,98] (by decide)).mono ?_;rintro e w4 ⟨v2,rfl,r1,f1,m1⟩;refine⟨decV [65,1,1,2,116,96,81,97,1,98] v2,rfl,rfl,m1,qy5 _,qy2.2 ⟨⟨r1,λk hk=>.inl (f1 k hk)⟩,qy5 _⟩,Z6,?_⟩;simp only[QQ,Nat.reduceAdd,decV,Zpr];intro b;refine⟨λ_=>?_,λh=>absurd ⟨trivial,trivial⟩ h⟩;intro w5 hr5;refine(Z5j w5).mono ?_;rintro e w6 ⟨v3,rfl,r1,f1,m1⟩;refine⟨getV v3,rfl,rfl,m1,qy5 _,qy2.2 ⟨⟨r1,λk hk=>.inl (f1 k hk)⟩,qy5 _⟩,Z6,?_⟩;simp only[QQ,Nat.reduceAdd,getV];refine⟨[.i (chk mGet)],rfl,λ_ w' hr=>Z6l w' mGet v3 (hr.at_ 0 rfl) (by decide) (by decide) (by decide),?_⟩;simp only[QQ,Nat.reduceAdd,Zid];have both1:∀{p:Prop},p->p/\p:=λh=>⟨h,h⟩
 try refine both1 ?_
 refine⟨λ_=>?_,λh=>absurd ⟨trivial,trivial⟩ h⟩;intro w7 hr7;refine(Z5j w7).mono ?_;rintro e w8 ⟨v4,rfl,r1,f1,m1⟩;refine⟨getV v4,rfl,rfl,m1,qy5 _,qy2.2 ⟨⟨r1,λk hk=>.inl (f1 k hk)⟩,qy5 _⟩,Z6,?_⟩;simp only[QQ,Nat.reduceAdd,getV];refine⟨[.b true],rfl,λ_ w' hr=>Z4x w' mGet mGet v2 v4 (hr.at_ 3 rfl) (hr.at_ 0 rfl) (by decide),?_⟩;simp only[QQ,Nat.reduceAdd];exact λw' hr=>⟨by trivial,hr.mod⟩
theorem Zfd:bdM mGet:=⟨by decide,by decide,by decide⟩
theorem og1:Zgg mGet=([97,47,98],0):=by decide +kernel
theorem og2:(Z1b mGet [120,47,121,47,122]).2=0/\(Z1b mGet [120,47,121,47,122]).1.opts.length=4:=by decide +kernel
theorem og3:Z2s mGet 6=(0,0):=by decide +kernel
theorem og4:(Zb mGet 6 300).2=0:=by decide +kernel
theorem og5:Z2s (Zb mGet 6 300).1 6=(300,0):=by decide +kernel
theorem og6:(Ze mGet (3,true,2)).2=0:=by decide +kernel
theorem og7:Z67 (Ze mGet (3,true,2)).1=((3,true,2),0):=by decide +kernel
theorem og8:(Zb mGet 6 300).1.opts.length<1000000000/\(Zb mGet 6 300).1.tok.length<1099511627776/\(Zb mGet 6 300).1.pay.length<1099511627776:=by decide +kernel
theorem og9:(Ze mGet (3,true,2)).1.opts.length<1000000000/\(Ze mGet (3,true,2)).1.tok.length<1099511627776/\(Ze mGet (3,true,2)).1.pay.length<1099511627776:=by decide +kernel
set_option maxRecDepth 10000 in
theorem Zdk(w:World):Calls Tryz.prog 6 #[] w λe w'=>e=.returned (.bool true)/\Mod [] w w':=by refine Z1 (Z4 (J:=[]) sxE_ok Tryz.func6 Z2j rfl rfl rfl ?_) rfl;simp only[QQ,Nat.reduceAdd];intro w1 hr;refine(Z5j w1).mono ?_;rintro e w2 ⟨v1,rfl,r1,f1,m1⟩;refine⟨mVs mGet v1,rfl,rfl,m1,qy5 _,qy2.2 ⟨⟨r1,λk hk=>.inl (f1 k hk)⟩,qy5 _⟩,Z6,?_⟩;clear hr r1 f1 m1;simp only[QQ,Nat.reduceAdd,mVs];refine⟨[.s (Zgg mGet).1,.i (Zgg mGet).2],rfl,λ_ w' hr=>Zu5 w' mGet v1 ((by first|exact hr.at_ 0 rfl|exact hr.at_ 1 rfl|exact hr.at_ 2 rfl|exact hr.at_ 3 rfl|exact hr.at_ 4 rfl|exact hr.at_ 5 rfl|exact hr.at_ 6 rfl|exact hr.at_ 7 rfl|exact hr.at_ 8 rfl|exact hr.at_ 9 rfl|exact hr.at_ 10 rfl|exact hr.at_ 11 rfl)) Zfd,?_⟩;simp only[QQ,Nat.reduceAdd];intro w1 hr;refine(Z5j w1).mono ?_;rintro e w2 ⟨v2,rfl,r1,f1,m1⟩;refine⟨mVs mGet v2,rfl,rfl,m1,qy5 _,qy2.2 ⟨⟨r1,λk hk=>.inl (f1 k hk)⟩,qy5 _⟩,Z6,?_⟩;clear hr r1 f1 m1;simp only[QQ,Nat.reduceAdd,mVs];intro w1 hr;refine(Zk4 w1 mGet v2 [120,47,121,47,122] ((by first|exact hr.at_ 0 rfl|exact hr.at_ 1 rfl|exact hr.at_ 2 rfl|exact hr.at_ 3 rfl|exact hr.at_ 4 rfl|exact hr.at_ 5 rfl|exact hr.at_ 6 rfl|exact hr.at_ 7 rfl|exact hr.at_ 8 rfl|exact hr.at_ 9 rfl|exact hr.at_ 10 rfl|exact hr.at_ 11 rfl)) Zfd (by decide)).mono ?_;rintro e w2 ⟨v3,rfl,r1,f1,m1⟩;refine⟨mEV (Z1b mGet [120,47,121,47,122]) v3,rfl,rfl,m1,qy5 _,qy2.2 ⟨⟨r1,λk hk=>.inl (f1 k hk)⟩,qy5 _⟩,Z6,?_⟩;clear hr r1 f1 m1;simp only[QQ,Nat.reduceAdd,mEV];intro b1 w1 hr;refine(Z5j w1).mono ?_;rintro e w2 ⟨v4,rfl,r1,f1,m1⟩;refine⟨mVs mGet v4,rfl,rfl,m1,qy5 _,qy2.2 ⟨⟨r1,λk hk=>.inl (f1 k hk)⟩,qy5 _⟩,Z6,?_⟩;clear hr r1 f1 m1;simp only[QQ,Nat.reduceAdd,mVs];refine⟨[.i (Z2s mGet 6).1,.i (Z2s mGet 6).2],rfl,λ_ w' hr=>Znh w' mGet v4 6 ((by first|exact hr.at_ 0 rfl|exact hr.at_ 1 rfl|exact hr.at_ 2 rfl|exact hr.at_ 3 rfl|exact hr.at_ 4 rfl|exact hr.at_ 5 rfl|exact hr.at_ 6 rfl|exact hr.at_ 7 rfl|exact hr.at_ 8 rfl|exact hr.at_ 9 rfl|exact hr.at_ 10 rfl|exact hr.at_ 11 rfl)) Zfd,?_⟩;simp only[QQ,Nat.reduceAdd];intro w1 hr;refine(Z5j w1).mono ?_;rintro e w2 ⟨v5,rfl,r1,f1,m1⟩;refine⟨mVs mGet v5,rfl,rfl,m1,qy5 _,qy2.2 ⟨⟨r1,λk hk=>.inl (f1 k hk)⟩,qy5 _⟩,Z6,?_⟩;clear hr r1 f1 m1;simp only[QQ,Nat.reduceAdd,mVs];intro w1 hr;refine(Zc9 w1 mGet v5 6 300 ((by first|exact hr.at_ 0 rfl|exact hr.at_ 1 rfl|exact hr.at_ 2 rfl|exact hr.at_ 3 rfl|exact hr.at_ 4 rfl|exact hr.at_ 5 rfl|exact hr.at_ 6 rfl|exact hr.at_ 7 rfl|exact hr.at_ 8 rfl|exact hr.at_ 9 rfl|exact hr.at_ 10 rfl|exact hr.at_ 11 rfl)) Zfd).mono ?_;rintro e w2 ⟨v6,rfl,r1,f1,m1⟩;refine⟨mEV (Zb mGet 6 300) v6,rfl,rfl,m1,qy5 _,qy2.2 ⟨⟨r1,λk hk=>.inl (f1 k hk)⟩,qy5 _⟩,Z6,?_⟩;clear hr r1 f1 m1;simp only[QQ,Nat.reduceAdd,mEV];intro b2;refine⟨[.i (Z2s (Zb mGet 6 300).1 6).1,.i (Z2s (Zb mGet 6 300).1 6).2],rfl,λ_ w' hr=>Znh w' (Zb mGet 6 300).1 v6 6 ((by first|exact hr.at_ 0 rfl|exact hr.at_ 1 rfl|exact hr.at_ 2 rfl|exact hr.at_ 3 rfl|exact hr.at_ 4 rfl|exact hr.at_ 5 rfl|exact hr.at_ 6 rfl|exact hr.at_ 7 rfl|exact hr.at_ 8 rfl|exact hr.at_ 9 rfl|exact hr.at_ 10 rfl|exact hr.at_ 11 rfl)) og8,?_⟩;simp only[QQ,Nat.reduceAdd];intro w1 hr;refine(Z5j w1).mono ?_;rintro e w2 ⟨v7,rfl,r1,f1,m1⟩;refine⟨mVs mGet v7,rfl,rfl,m1,qy5 _,qy2.2 ⟨⟨r1,λk hk=>.inl (f1 k hk)⟩,qy5 _⟩,Z6,?_⟩;clear hr r1 f1 m1;simp only[QQ,Nat.reduceAdd,mVs];intro w1 hr;refine(Zgj w1 mGet v7 (3,true,2) ((by first|exact hr.at_ 0 rfl|exact hr.at_ 1 rfl|exact hr.at_ 2 rfl|exact hr.at_ 3 rfl|exact hr.at_ 4 rfl|exact hr.at_ 5 rfl|exact hr.at_ 6 rfl|exact hr.at_ 7 rfl|exact hr.at_ 8 rfl|exact hr.at_ 9 rfl|exact hr.at_ 10 rfl|exact hr.at_ 11 rfl)) Zfd).mono ?_;rintro e w2 ⟨v8,rfl,r1,f1,m1⟩;refine⟨mEV (Ze mGet (3,true,2)) v8,rfl,rfl,m1,qy5 _,qy2.2 ⟨⟨r1,λk hk=>.inl (f1 k hk)⟩,qy5 _⟩,Z6,?_⟩;clear hr r1 f1 m1;simp only[QQ,Nat.reduceAdd,mEV];intro b3;refine⟨[.i (Z67 (Ze mGet (3,true,2)).1).1.1,.b (Z67 (Ze mGet (3,true,2)).1).1.2.1,.i (Z67 (Ze mGet (3,true,2)).1).1.2.2,.i (Z67 (Ze mGet (3,true,2)).1).2],rfl,λ_ w' hr=>Zt1 w' (Ze mGet (3,true,2)).1 v8 ((by first|exact hr.at_ 0 rfl|exact hr.at_ 1 rfl|exact hr.at_ 2 rfl|exact hr.at_ 3 rfl|exact hr.at_ 4 rfl|exact hr.at_ 5 rfl|exact hr.at_ 6 rfl|exact hr.at_ 7 rfl|exact hr.at_ 8 rfl|exact hr.at_ 9 rfl|exact hr.at_ 10 rfl|exact hr.at_ 11 rfl)) og9,?_⟩;simp only[QQ,Nat.reduceAdd];intro b4 w' hr;refine⟨?_,hr.mod⟩;rw[og1,og2.1,qy3,og2.2,og3,og4,og5,og6,og7];rfl
theorem Zb2:∀(f:Nat) (s:List UInt8) (out:List Pkt),Z40 f s out=(out++(Z40 f s []).1,(Z40 f s []).2)
 | 0,s,out=>by simp[Z40]
 | f+1,s,out=>by
  rw[Z40,Z40];split
  ·rw[Zb2 f _ (out++_),Zb2 f _ ([]++_)];simp
  ·split<;>simp
theorem Znt{s:List UInt8}(h:(Z14 s).2.2=0):feed s=((Z14 s).1::(feed (s.drop (Z14 s).2.1.toNat)).1,(feed (s.drop (Z14 s).2.1.toNat)).2):=by rw[feed,Z8e h,Zb2];rfl
theorem Zk8{s:List UInt8}(h:(Z14 s).2.2=8):feed s=([],s,0):=by rw[feed,Z40,if_neg (by rw[h];decide),if_pos h]
theorem Zqb{s:List UInt8}(h:(Z14 s).2.2≠0)(h8:(Z14 s).2.2≠8):feed s=([],[],(Z14 s).2.2):=by rw[feed,Z40,if_neg h,if_neg h8]
theorem Zca:∀(k:Nat) (s:List UInt8),s.length<=k->s.length<=60000000->(∀p∈(feed s).1,SmallP p)/\(feed s).1.length<=s.length
 | k,s,hk,hs=>by
  by_cases h0:(Z14 s).2.2=0
  ·have hb:=Z7g h0;obtain⟨k',rfl⟩:∃k',k=k'+1:=⟨k - 1,by omega⟩
   obtain⟨i1,i2⟩:=Zca k' (s.drop (Z14 s).2.1.toNat) (by rw[List.length_drop];omega) (by rw[List.length_drop];omega);rw[Znt h0];refine⟨λp hp=>?_,?_⟩
   ·rcases List.mem_cons.1 hp with rfl|hp
    ·rw[(Zi8 h0).2.2.1];exact Zc0 (by rw[List.length_take];omega)
    ·exact i1 p hp
   ·rw[List.length_drop]at i2;simp only[List.length_cons];omega
  ·by_cases h8:(Z14 s).2.2=8
   ·rw[Zk8 h8];simp
   ·rw[Zqb h0 h8];simp
theorem Zqc{l:List Z24}{s:List UInt8}(h:l.map (·.1)=(feed s).1)(hs:s.length<=60000000):(∀t∈l,SmallP t.1)/\l.length<1000000000:=by obtain⟨h1,h2⟩:=Zca _ s (Nat.le_refl _) hs;refine⟨λt ht=>h1 _ (by rw[<- h];exact List.mem_map_of_mem ht),?_⟩;have:=congrArg List.length h;rw[qy3]at this;omega
theorem Zit:feed ([50,9,0]++([3,97,47,98,0,10,104,105]++[50,9,0,3,97,47,98,0,10,104,105]++[48]))=([pubP,pubP],[48],0):=by decide +kernel
theorem Zfe(w:World):Calls Tryz.prog 7 #[] w λe w'=>e=.returned (.bool true)/\Mod [] w w':=by
 refine Z1 (Z4 (J:=[]) sxE_ok Tryz.func7 Z34 rfl rfl rfl ?_) rfl;simp only[QQ,Nat.reduceAdd];intro w1 hr;refine(Zju w1).mono ?_;rintro e w2 ⟨rfl,m⟩;refine⟨[.i 3,.b false,.b false,.b false,.b false,.i 1,.i 10,.i 0,.i 0,.s [],.s [97,47,98],.s [104,105],.v nilV,.r [],.v nilV,.r []],rfl,rfl,m,qy5 _,qy2.2 ⟨⟨Zt _,λk hk=>absurd rfl hk.1⟩,qy2.2 ⟨⟨Zx _,λk hk=>absurd rfl hk.1⟩,qy5 _⟩⟩,Zp (by simp[Ent.wr]),?_⟩;simp only[QQ,Nat.reduceAdd];clear m hr;refine⟨[.s (if chkP pubP=0 then Zi pubP else[]),.i (chkP pubP)],rfl,λ_ w' hr=>Zek w' pubP nilV nilV (Zt _) (Zx _) Z5t,?_⟩;simp only[QQ,Nat.reduceAdd,Zd5,if_true,Z8d];refine⟨λh=>absurd h (by decide),λ_=>⟨by decide,by decide,by decide,?_⟩⟩;intro w1 hr;refine(Ztx w1 [50,9,0] ([3,97,47,98,0,10,104,105]++[50,9,0,3,97,47,98,0,10,104,105]++[48]) (by decide)).mono ?_;rw[Zit];rintro e w2 ⟨x,l,rfl,hl,m,rX,pX,fX,fP⟩;refine⟨[.v x,.r (l.map Z3a),.s _,.i _,.a (Z20 l)],rfl,rfl,m,qy5 _,qy2.2 ⟨⟨rX,λk hk=>.inl (fX k hk.2)⟩,qy2.2 ⟨⟨pX,λk hk=>.inl (fP k hk)⟩,qy5 _⟩⟩,Zp (by simp[Ent.wr]),?_⟩;simp only[QQ,Nat.reduceAdd];clear m hr rX pX fX fP;refine⟨λ_=>?_,λh=>absurd ⟨trivial,trivial⟩ h⟩;intro w1 hr;refine(Zju w1).mono ?_;rintro e w2 ⟨rfl,m⟩;refine⟨[.i 3,.b false,.b false,.b false,.b false,.i 1,.i 10,.i 0,.i 0,.s [],.s [97,47,98],.s [104,105],.v nilV,.r [],.v nilV,.r []],rfl,rfl,m,qy5 _,qy2.2 ⟨⟨Zt _,λk hk=>absurd rfl hk.1⟩,qy2.2 ⟨⟨Zx _,λk hk=>absurd rfl hk.1⟩,qy5 _⟩⟩,Zp (by simp[Ent.wr]),?_⟩;simp only[QQ,Nat.reduceAdd];clear m hr;intro w1 hr;refine(Zju w1).mono ?_;rintro e w2 ⟨rfl,m⟩;refine⟨[.i 3,.b false,.b false,.b false,.b false,.i 1,.i 10,.i 0,.i 0,.s [],.s [97,47,98],.s [104,105],.v nilV,.r [],.v nilV,.r []],rfl,rfl,m,qy5 _,qy2.2 ⟨⟨Zt _,λk hk=>absurd rfl hk.1⟩,qy2.2 ⟨⟨Zx _,λk hk=>absurd rfl hk.1⟩,qy5 _⟩⟩,Zp (by simp[Ent.wr]),?_⟩;simp only[QQ,Nat.reduceAdd];clear m hr;intro z1;have hsm:=Zqc (s:=[50,9,0]++([3,97,47,98,0,10,104,105]++[50,9,0,3,97,47,98,0,10,104,105]++[48])) (l:=l) (by rw[Zit];exact hl) (by decide);refine⟨[.b (decide (l.map (·.1)=[(pubP,nilV,nilV),(pubP,nilV,nilV)].map (·.1)))],rfl,λ_ w' hr=>Zaq w' x z1 l [(pubP,nilV,nilV),(pubP,nilV,nilV)] (by first|exact hr.at_ 0 rfl|exact hr.at_ 1 rfl|exact hr.at_ 2 rfl|exact hr.at_ 3 rfl|exact hr.at_ 4 rfl|exact hr.at_ 5 rfl|exact hr.at_ 6 rfl|exact hr.at_ 7 rfl|exact hr.at_ 8 rfl|exact hr.at_ 9 rfl|exact hr.at_ 10 rfl|exact hr.at_ 11 rfl) (owns.reads (hr.at_ 0 rfl)) (by first|exact hr.at_ 0 rfl|exact hr.at_ 1 rfl|exact hr.at_ 2 rfl|exact hr.at_ 3 rfl|exact hr.at_ 4 rfl|exact hr.at_ 5 rfl|exact hr.at_ 6 rfl|exact hr.at_ 7 rfl|exact hr.at_ 8 rfl|exact hr.at_ 9 rfl|exact hr.at_ 10 rfl|exact hr.at_ 11 rfl) ?_ hsm.1 hsm.2,?_⟩
 ·exact Zap (l:=[(pubP,nilV,nilV)]) (Zap (l:=[]) (Zi7 _) (Zt _) (Zx _)) (Zt _) (Zx _)
 simp only[QQ,Nat.reduceAdd];exact λw' hr=>⟨by simp[hl],hr.mod⟩
