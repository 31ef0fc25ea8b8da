/- By an AI agent. -/
import Derived.Test.YtfcofbfbgcbocaaGreatDoorR12
set_option linter.all false
set_option maxHeartbeats 20000000
namespace Go.Proofs.Y
open Go.Sx
theorem Z1b2(k:Int)(h:0<=k/\k<=15):IntKind.i64.wrap (k*2 ^ (Nat.min (Int.toNat 4) IntKind.i64.bits))=16*k:=by
 have:∀x:Fin 16,IntKind.i64.wrap ((x.val:Int)*2 ^ (Nat.min (Int.toNat 4) IntKind.i64.bits))=16*(x.val:Int):=by decide +kernel
 have:=this ⟨k.toNat,by omega⟩;simpa only[Int.toNat_of_nonneg h.1]using this
theorem Z11h(k:Int)(h:k=8\/k=10):Z1v .or .i64 (16*k) 2=16*k+2:=by rcases h with rfl|rfl<;>decide +kernel
theorem Z1b3(q:Int)(h:0<=q/\q<=3)(d r:Bool):Z1v .or .i64 (16*3) (Z1v .or .i64 (Z1v .or .i64 (bit d 8) (IntKind.i64.wrap (q*2 ^ (Nat.min (Int.toNat 1) IntKind.i64.bits)))) (bit r 1))=16*3+(bit d 8+2*q+bit r 1):=by
 have:∀(x:Fin 4) (d r:Bool),Z1v .or .i64 (16*3) (Z1v .or .i64 (Z1v .or .i64 (bit d 8) (IntKind.i64.wrap ((x.val:Int)*2 ^ (Nat.min (Int.toNat 1) IntKind.i64.bits)))) (bit r 1))=16*3+(bit d 8+2*(x.val:Int)+bit r 1):=by decide +kernel
 have:=this ⟨q.toNat,by omega⟩ d r;simpa only[Int.toNat_of_nonneg h.1]using this
section
variable (w:World) (p:Pkt) (u v:Value)
theorem Z165(hu:Z3i w u p.asks)(hv:Z2w w v p.codes)(hk:0<=p.kind/\p.kind<=15)(hq:0<=p.qos/\p.qos<=3):Calls Tryz.prog 102 #[pV p u v] w λe w'=>e=.returned (.int .i64 (Z81 p))/\Mod [] w w':=by
 refine Z1 (Z3 (J:=[.i p.kind,.b p.dup,.b p.retain,.b p.clean,.b p.session,.i p.qos,.i p.id,.i p.keep,.i p.code,.s p.client,.s p.topic,.s p.payload,.v u,.r (p.asks.map encA),.v v,.r (p.codes.map Zh)]) sxE_ok Tryz.func102 Zcl rfl rfl (Rel.start2 (by simp[Ent.holds,Ent.wr,hu,hv,X.ev])) rfl rfl ?_) rfl;simp only[QQ,Nat.reduceAdd];rw[Z1b2 _ hk];intro b;have pub:p.kind=3->∀d r:Int,d=bit p.dup 8->r=bit p.retain 1->Value.int .i64 (Z1v .or .i64 (16*p.kind) (Z1v .or .i64 (Z1v .or .i64 d (IntKind.i64.wrap (p.qos*2 ^ (Nat.min (Int.toNat 1) IntKind.i64.bits)))) r))=.int .i64 (Z81 p):=λh d r hd hr=>by rw[hd,hr,h,Z1b3 _ hq,Z81,if_pos h,h]
 have d1:p.dup=true->(8:Int)=bit p.dup 8:=λh=>by simp[bit,h]
 have d0:¬p.dup=true->(0:Int)=bit p.dup 8:=λh=>by simp[bit,h]
 have r1:p.retain=true->(1:Int)=bit p.retain 1:=λh=>by simp[bit,h]
 have r0:¬p.retain=true->(0:Int)=bit p.retain 1:=λh=>by simp[bit,h]
 refine⟨λh=>?_,λh=>⟨λh1 w' hr=>⟨?_,hr.mod⟩,λh1=>⟨λh2 w' hr=>⟨?_,hr.mod⟩,λh2 w' hr=>⟨?_,hr.mod⟩⟩⟩⟩
 ·have pub:=pub h;repeat' (first|(intro _)|(apply And.intro))
  all_goals (first|exact Rel.mod ‹_› | exact congrArg _ (pub _ _ (d1 ‹_›) (r1 ‹_›))|exact congrArg _ (pub _ _ (d1 ‹_›) (r0 ‹_›))|exact congrArg _ (pub _ _ (d0 ‹_›) (r1 ‹_›))|exact congrArg _ (pub _ _ (d0 ‹_›) (r0 ‹_›)))
 ·rw[Z11h _ (.inl h1),Z81,if_neg h,if_pos (.inl h1)]
 ·rw[Z11h _ (.inr h2),Z81,if_neg h,if_pos (.inr h2)]
 ·rw[Z81,if_neg h,if_neg (by omega),Int.add_zero]
theorem Z11i{p:Pkt}(hk:0<=p.kind/\p.kind<=15)(hq:0<=p.qos/\p.qos<=3):0<=Z81 p/\Z81 p<1000:=by
 unfold Z81 bit;split
 ·split<;>split<;>omega
 ·split<;>omega
theorem Zlh(hu:Z3i w u p.asks)(hv:Z2w w v p.codes)(hB:ByteP p):Calls Tryz.prog 49 #[pV p u v] w λe w'=>e=.returned (.string ⟨(Z6j p).toArray⟩)/\Mod [] w w':=by
  refine Z1 (Zmk (J:=[.i p.kind,.b p.dup,.b p.retain,.b p.clean,.b p.session,.i p.qos,.i p.id,.i p.keep,.i p.code,.s p.client,.s p.topic,.s p.payload,.v u,.r (p.asks.map encA),.v v,.r (p.codes.map Zh)]) sxE_ok Tryz.func49 Zcp rfl rfl (Rel.start2 (by simp[Ent.holds,Ent.wr,hu,hv,X.ev])) rfl rfl ?_) rfl;have hb:=hB.body;have hf:=Z11i hB.kind hB.qos;simp only[QQ,Nat.reduceAdd];intro bc bw w1 hr;refine(Z1a3 w1 bw p u v (.pointer none) (.slice none 0 0) (hr.at_ 2 rfl) (hr.at_ 3 rfl) hB ⟨hr.at_ 0 rfl,.inl rfl,⟨by simp[byW],World.ownsRow_nil _ _ _ _⟩⟩
    (λk hk=>⟨λe=>Zp.disj hr.sep (i:=2) (j:=0) rfl rfl (by decide) (.inr rfl) (k:=k) hk e,λhb=>by cases hb⟩)
    (λk hk=>⟨λe=>Zp.disj hr.sep (i:=3) (j:=0) rfl rfl (by decide) (.inr rfl) (k:=k) hk e,λhb=>by cases hb⟩)).mono ?_
  rintro e w2 ⟨rfl,p1,q1,s1,m1,f1⟩;refine⟨[.v p1,.v q1,.r (byW _)],rfl,rfl,m1,qy2.2 ⟨s1.cells,qy5 _⟩,qy2.2 ⟨⟨s1.own,λz hz=>.inl ((f1 z hz).resolve_right (by simp[Value.ownBlock]))⟩,qy5 _⟩,Z5,?_⟩;simp only[QQ,Nat.reduceAdd];refine⟨[.i (Z81 p)],rfl,λ_ w' hr=>Z165 w' p u v (hr.at_ 3 rfl) (hr.at_ 4 rfl) hB.kind hB.qos,?_⟩;simp only[QQ,Nat.reduceAdd];refine⟨[.s (numB 1 (Z81 p))],rfl,λ_ w' _=>Zkm w' _ 1 (by omega) (by omega) (by omega),?_⟩;simp only[QQ,Nat.reduceAdd];intro w3 hr;have hq1:=s1.own.reads.sc1;have hc:=hr.at_ 1 rfl;simp only[Ent.holds,QQ,Nat.reduceAdd,s1.ok.sc1,hq1]at hc;have hlen:(byW (Z7e p)).length=(Z7e p).length:=by simp[byW]
  refine(Z19w 162 bw p1 q1 [] (byW (Z7e p)) w3 hc (hr.at_ 0 rfl)).mono ?_;rintro e w4 ⟨rfl,rfl⟩;rw[hlen];have cells1:=hr.at_ 1 rfl;have own1:=hr.at_ 0 rfl;refine⟨[.i ((Z7e p).length:Nat),.v p1,.v q1,.r (byW (Z7e p))],rfl,rfl,Mod.refl _ _,qy2.2 ⟨cells1,qy5 _⟩,qy2.2 ⟨⟨own1,λz hz=>.inr (.inr ?_)⟩,qy5 _⟩,Z5,?_⟩
  . have hz:q1.ownBlock=some z:=hz;simp only[Zt,List.flatMap_cons,List.flatMap_nil,List.append_nil,QQ,Nat.reduceAdd];rw[hz];simp
  simp only[QQ,Nat.reduceAdd];refine⟨[.s (lngB 3 (Z7e p).length)],rfl,λ_ w' _=>Zpm w' 3 _ (by omega) (by show _<268435456;exact hb),?_⟩;simp only[QQ,Nat.reduceAdd,qy11,Zw];have hll:(lngB 3 (Z7e p).length).length<=4:=Zs8 3 _;refine⟨by omega,?_⟩;intro w5 hr;have hc:=hr.at_ 1 rfl;simp only[Ent.holds,QQ,Nat.reduceAdd,s1.ok.sc1,hq1]at hc;refine(Zvm 162 bw p1 q1 [] (Z7e p) w5 hc (hr.at_ 0 rfl)).mono ?_;rintro e w6 ⟨rfl,hm⟩;have hjq:bw ∉ q1.ownBlock.toList:=λhmem=>by
    have h9:q1.ownBlock=some bw:=by simpa using hmem
    exact s1.ne (show Z2 q1 bw from h9) rfl
  refine⟨[.s (Z7e p),.v p1,.v q1],rfl,rfl,?_,?_,λz hz=>absurd hz List.not_mem_nil,Ze,?_⟩
  . refine hm.mono λz hz=>.inl ?_;simp only[Zm,Zt,List.map_cons,List.map_nil,List.flatMap_cons,List.flatMap_nil,List.append_nil,QQ,Nat.reduceAdd];exact qy10 _ hz
  . refine qy2.2 ⟨?_,qy5 _⟩;simp only[Ent.holds,QQ,Nat.reduceAdd,s1.ok.sc1,hq1];rw[hm.block bw (Array.getElem?_eq_some_iff.1 hc).1 hjq];exact hc
  . simp only[QQ,Nat.reduceAdd,qy11,Zw];exact⟨by omega,λw' hr=>⟨by rw[Z6j],hr.mod⟩⟩
theorem Z1b4{p:Pkt}(h:chkP p=0)(hs:SmallP p):ByteP p:=by obtain⟨hf,hl⟩:=Zsb h;have hk:=hf.kind;simp only[Z7d,decide_eq_true_eq]at hk;have hq:=hf.qos;have hi:=hf.id;have hke:=hf.keep;have hc:=hf.code;exact⟨by omega,by omega,by omega,by omega,by omega,λa ha=>by have:=hf.asks a ha;omega,λc hc=>by have:=hf.codes c hc;omega,hs,by omega⟩
theorem Z11j(hu:Z3i w u p.asks)(hv:Z2w w v p.codes)(hs:SmallP p):Calls Tryz.prog 20 #[pV p u v] w λe w'=>e=.returned (.tuple #[.string ⟨(if chkP p=0 then Z6j p else[]).toArray⟩,.int .i64 (chkP p)])/\Mod [] w w':=by refine Z1 (Z3 (J:=[.i p.kind,.b p.dup,.b p.retain,.b p.clean,.b p.session,.i p.qos,.i p.id,.i p.keep,.i p.code,.s p.client,.s p.topic,.s p.payload,.v u,.r (p.asks.map encA),.v v,.r (p.codes.map Zh)]) sxE_ok Tryz.func20 Zb2 rfl rfl (Rel.start2 (by simp[Ent.holds,Ent.wr,hu,hv,X.ev])) rfl rfl ?_) rfl;simp only[QQ,Nat.reduceAdd];intro bc;refine⟨[.i (chkP p)],rfl,λ_ w' hr=>Zer w' p u v (hr.at_ 1 rfl) (hr.at_ 2 rfl) hs,?_⟩;simp only[QQ,Nat.reduceAdd];refine⟨λh w' hr=>⟨by rw[if_neg h],hr.mod⟩,λh=>?_⟩;have h:=qy9.1 h;refine⟨[.s (Z6j p)],rfl,λ_ w' hr=>Zlh w' p u v (hr.at_ 1 rfl) (hr.at_ 2 rfl) (Z1b4 h hs),?_⟩;simp only[QQ,Nat.reduceAdd];exact λw' hr=>⟨by rw[if_pos h,h],hr.mod⟩
end
section
variable (w:World) (p q:Pkt) (u v x y:Value)
theorem Z1b5{a b:List Ak}(hl:a.length=b.length)(h:∀i,i<a.length->a.getD i aD=b.getD i aD):a=b:=by refine List.ext_getElem hl λi h1 h2=>?_;have:=h i h1;rw[qy1,qy1,qy7 h1,qy7 h2]at this;exact this
theorem Z166{a b:List Int}(hl:a.length=b.length)(h:∀i,i<a.length->a.getD i 0=b.getD i 0):a=b:=by refine List.ext_getElem hl λi h1 h2=>?_;have:=h i h1;rw[qy1,qy1,qy7 h1,qy7 h2]at this;exact this
theorem Zhx(hu:Z3i w u p.asks)(hv:Z2w w v p.codes)(hx:Z3i w x q.asks)(hy:Z2w w y q.codes)(hs:SmallP p) : Calls Tryz.prog 47 #[pV p u v,pV q x y] w λe w'=>e=.returned (.bool (decide (p=q)))/\Mod [] w w':=by
 refine Z1 (Z3 (J:=[.i p.kind,.b p.dup,.b p.retain,.b p.clean,.b p.session,.i p.qos,.i p.id,.i p.keep,.i p.code,.s p.client,.s p.topic,.s p.payload,.v u,.r (p.asks.map encA),.v v,.r (p.codes.map Zh),.i q.kind,.b q.dup,.b q.retain,.b q.clean,.b q.session,.i q.qos,.i q.id,.i q.keep,.i q.code,.s q.client,.s q.topic,.s q.payload,.v x,.r (q.asks.map encA),.v y,.r (q.codes.map Zh)]) sxE_ok Tryz.func47 Z4y rfl rfl (Rel.start2 (by simp[Ent.holds,Ent.wr,hu,hv,hx,hy,X.ev])) rfl rfl ?_) rfl;have h4:=hs.asks;have h5:=hs.codes;simp only[QQ,Nat.reduceAdd,qy3];intro b1 b2;refine⟨λh w' hr=>⟨?_,hr.mod⟩,λh=>?_⟩
 ·have:¬p=q:=λe=>by subst e;simp at h
  simp[this]
 simp only[not_or,qy9]at h;obtain⟨⟨⟨⟨⟨⟨⟨⟨⟨⟨⟨⟨⟨e1,e2⟩,e3⟩,e4⟩,e5⟩,e6⟩,e7⟩,e8⟩,e9⟩,e10⟩,e11⟩,e12⟩,e13⟩,e14⟩:=h;refine⟨λvs=>∃(i:Nat) (b:V),vs=[b,.i i]/\i<=p.asks.length/\∀j,j<i->p.asks.getD j aD=q.asks.getD j aD,λvs=>p.asks.length - (vs.getD 1 (.i 0)).toI.toNat,⟨0,_,rfl,by omega,by omega⟩,?_⟩;rintro _ - ⟨i,vb,rfl,hi,hg⟩;simp only[QQ,Nat.reduceAdd,qy3,qy4,gA0,gA1];refine⟨λh2=>⟨by omega,by omega,λh3 w' hr=>⟨?_,hr.mod⟩,λh3=>⟨by omega,by omega,⟨i+1,vb,rfl,by omega,λj hj=>?_⟩,by omega⟩⟩,λh2=>?_⟩
 ·have:¬p=q:=λe=>h3 (by subst e;exact⟨rfl,rfl⟩);simp[this]
 ·by_cases hji:j=i
  ·subst hji;have h3:=qy9.1 h3;exact Prod.ext h3.1 h3.2
  ·exact hg j (by omega)
 have ea:=Z1b5 (a:=p.asks) (b:=q.asks) (by omega) (λj hj=>hg j (by omega));refine⟨λvs=>∃(i:Nat) (b:V),vs=[b,.i i]/\i<=p.codes.length/\∀j,j<i->p.codes.getD j 0=q.codes.getD j 0,λvs=>p.codes.length - (vs.getD 1 (.i 0)).toI.toNat,⟨0,_,rfl,by omega,by omega⟩,?_⟩;rintro _ - ⟨k,vc,rfl,hk,hgk⟩;simp only[QQ,Nat.reduceAdd,qy3,qy4,gI0];refine⟨λh3=>⟨by omega,by omega,λh4 w' hr=>⟨?_,hr.mod⟩,λh4=>⟨by omega,by omega,⟨k+1,vc,rfl,by omega,λj hj=>?_⟩,by omega⟩⟩,λh3 w' hr=>⟨?_,hr.mod⟩⟩
 ·have:¬p=q:=λe=>h4 (by subst e;rfl);simp[this]
 ·by_cases hjk:j=k
  ·subst hjk;exact qy9.1 h4
  ·exact hgk j (by omega)
 ·have ec:=Z166 (a:=p.codes) (b:=q.codes) (by omega) (λj hj=>hgk j (by omega));have:p=q:=by
   cases p;cases q;simp only at *;simp_all
  simp[this]
end
end Go.Proofs.Y
namespace Go.Proofs.Y
open Go.Sx
theorem Z56(s:List UInt8)(k a:Nat)(b:Bool)(ha:a<=s.length):0<=(rdN s k a b).1/\(rdN s k a b).1<pw k/\a<=(rdN s k a b).2.1/\(rdN s k a b).2.1<=s.length /\ (b=true->(rdN s k a b).2.2=true)/\((rdN s k a b).2.2=false->b=false/\(rdN s k a b).2.1=a+k):=by
 have hp:=Z1cs k;unfold rdN;split
 ·have:=Zz7 ((s.drop a).take k) 0;have e:((s.drop a).take k).length=k:=by simp;omega
  rw[e]at this;refine⟨by simp only;omega,by simp only;omega,by simp only;omega,by simp only;omega,λh=>h,λh=>⟨h,rfl⟩⟩
 ·exact⟨by simp only;omega,by simp only;omega,ha,Nat.le_refl _,λ_=>rfl,λh=>by cases h⟩
theorem Zdo(s:List UInt8)(a:Nat)(b:Bool)(ha:a<=s.length):a<=(rdT s a b).2.1/\(rdT s a b).2.1<=s.length/\(rdT s a b).1.length<=(rdT s a b).2.1 - a /\ (b=true->(rdT s a b).2.2=true)/\((rdT s a b).2.2=false->b=false/\(rdT s a b).2.1=a+2+(rdT s a b).1.length):=by
 unfold rdT;split
 ·refine⟨by simp only;omega,by simp only;omega,by simp;omega,λh=>h,λh=>⟨h,by simp;omega⟩⟩
 ·exact⟨Nat.le_refl _,ha,by simp,λ_=>rfl,λh=>by cases h⟩
theorem Ztg(s:List UInt8)(k:Int)(a:Nat)(b:Bool)(ha:a<=s.length):a<=(Z1b s k a b).2.1/\(Z1b s k a b).2.1<=s.length/\(Z1b s k a b).1.1.length<=s.length/\0<=(Z1b s k a b).1.2/\(Z1b s k a b).1.2<256 /\ (Z2v k (Z1b s k a b).1).length+a<=(Z1b s k a b).2.1+3/\((Z1b s k a b).2.2=false->b=false/\(Z2v k (Z1b s k a b).1).length+a=(Z1b s k a b).2.1/\a+2<=(Z1b s k a b).2.1):=by
 obtain⟨t1,t2,t3,t4,t5⟩:=Zdo s a b ha;by_cases hk:k=8
 ·obtain⟨n1,n2,n3,n4,n5,n6⟩:=Z56 s 1 (rdT s a b).2.1 (rdT s a b).2.2 t2;have n2:(rdN s 1 (rdT s a b).2.1 (rdT s a b).2.2).1<256:=n2;have hl:∀(x:List UInt8) (n:Int),(Z2v k (x,n)).length=x.length+3:=λx n=>by simp[Z2v,hk,Z28,Zw]
  rw[Z1b,if_pos hk];simp only[hl];refine⟨by omega,n4,by omega,n1,n2,?_,λh=>?_⟩
  ·by_cases hs:(rdT s a b).2.2=true
   ·omega
   ·have:=t5 (by simpa using hs);omega
  ·obtain⟨h1,h2⟩:=n6 h;obtain⟨h3,h4⟩:=t5 h1;exact⟨h3,by omega,by omega⟩
 ·have hl:∀(x:List UInt8) (n:Int),(Z2v k (x,n)).length=x.length+2:=λx n=>by simp[Z2v,hk,Z28]
  rw[Z1b,if_neg hk];simp only[hl];refine⟨t1,t2,by omega,by omega,by omega,by omega,λh=>?_⟩;obtain⟨h3,h4⟩:=t5 h;exact⟨h3,by omega,by omega⟩
theorem Znz{s:List UInt8}{a a':Nat}{b b':Bool}(h:a<s.length)(hb:b=false)(hs:b'=false->a+1<=a'):Z15 s a' b'<Z15 s a b:=by
 subst hb;unfold Z15;cases b' with
 | true=>simp;omega
 | false=>have:=hs rfl;simp;omega
theorem Zth{s:List UInt8}{k:Int}{a:Nat}{b:Bool}(h:a<s.length)(hb:b=false):Z15 s (Z1b s k a b).2.1 (Z1b s k a b).2.2<Z15 s a b :=
 Znz h hb λh2=>by have:=((Ztg s k a b (by omega)).2.2.2.2.2.2 h2).2.2;omega
theorem Zti{s:List UInt8}{a:Nat}{b:Bool}(h:a<s.length)(hb:b=false):Z15 s (rdN s 1 a b).2.1 (rdN s 1 a b).2.2<Z15 s a b :=
 Znz h hb λh2=>by have:=((Z56 s 1 a b (by omega)).2.2.2.2.2 h2).2;omega
theorem Z7s{s:List UInt8}{a:Nat}{b:Bool}(h:Z15 s a b=0):¬(a<s.length/\b=false):=by
 unfold Z15 at h;split at h
 ·rename_i hb;exact λhh=>by rw[hb]at hh;cases hh.2
 ·omega
theorem Zo0{s:List UInt8}{k:Int}:∀(f g a:Nat) (b:Bool) (l:List Ak),Z15 s a b<=f->Z15 s a b<=g->rdAs s k f a b l=rdAs s k g a b l
 | 0,0,a,b,l,_,_=>rfl
 | 0,g+1,a,b,l,h,_=>by rw[rdAs,rdAs,if_neg (Z7s (by omega))]
 | f+1,0,a,b,l,_,h=>by rw[rdAs,rdAs,if_neg (Z7s (by omega))]
 | f+1,g+1,a,b,l,h1,h2=>by
  rw[rdAs,rdAs];split
  ·rename_i h;have:=Zth (k:=k) h.1 h.2;exact Zo0 f g _ _ _ (by omega) (by omega)
  ·rfl
theorem Zo1{s:List UInt8}:∀(f g a:Nat) (b:Bool) (l:List Int),Z15 s a b<=f->Z15 s a b<=g->rdCs s f a b l=rdCs s g a b l
 | 0,0,a,b,l,_,_=>rfl
 | 0,g+1,a,b,l,h,_=>by rw[rdCs,rdCs,if_neg (Z7s (by omega))]
 | f+1,0,a,b,l,_,h=>by rw[rdCs,rdCs,if_neg (Z7s (by omega))]
 | f+1,g+1,a,b,l,h1,h2=>by
  rw[rdCs,rdCs];split
  ·rename_i h;have:=Zti h.1 h.2;exact Zo1 f g _ _ _ (by omega) (by omega)
  ·rfl
theorem Zo2{s:List UInt8}{k:Int}{a:Nat}{b:Bool}{l:List Ak}(h:a<s.length/\b=false) : rdAs s k (Z15 s a b) a b l=rdAs s k (Z15 s (Z1b s k a b).2.1 (Z1b s k a b).2.2) (Z1b s k a b).2.1 (Z1b s k a b).2.2 (l++[(Z1b s k a b).1]):=by
 have h1:=Zth (k:=k) h.1 h.2;obtain⟨f,hf⟩:∃f,Z15 s a b=f+1:=⟨Z15 s a b - 1,by omega⟩
 rw[hf,rdAs,if_pos h];exact Zo0 _ _ _ _ _ (by omega) (Nat.le_refl _)
theorem Zo3{s:List UInt8}{a:Nat}{b:Bool}{l:List Int}(h:a<s.length/\b=false) : rdCs s (Z15 s a b) a b l=rdCs s (Z15 s (rdN s 1 a b).2.1 (rdN s 1 a b).2.2) (rdN s 1 a b).2.1 (rdN s 1 a b).2.2 (l++[(rdN s 1 a b).1]):=by
 have h1:=Zti h.1 h.2;obtain⟨f,hf⟩:∃f,Z15 s a b=f+1:=⟨Z15 s a b - 1,by omega⟩
 rw[hf,rdCs,if_pos h];exact Zo1 _ _ _ _ _ (by omega) (Nat.le_refl _)
theorem Zli{s:List UInt8}{k:Int}{f a:Nat}{b:Bool}{l:List Ak}(h:¬(a<s.length/\b=false)):rdAs s k f a b l=(l,a,b):=by
 cases f with
 | zero=>rfl
 | succ f=>rw[rdAs,if_neg h]
theorem Ztj{s:List UInt8}{f a:Nat}{b:Bool}{l:List Int}(h:¬(a<s.length/\b=false)):rdCs s f a b l=(l,a,b):=by
 cases f with
 | zero=>rfl
 | succ f=>rw[rdCs,if_neg h]
abbrev totA(k:Int)(l:List Ak):Nat:=(l.map (Z2v k)).flatten.length
theorem Zo4(k:Int)(l:List Ak)(x:Ak):totA k (l++[x])=totA k l+(Z2v k x).length:=by simp[totA]
theorem Z11k{s:List UInt8}{k:Int}:∀(f a:Nat) (b:Bool) (l:List Ak),a<=s.length->a<=(rdAs s k f a b l).2.1/\(rdAs s k f a b l).2.1<=s.length /\ (∀x∈(rdAs s k f a b l).1,x∈l\/(x.1.length<=s.length/\0<=x.2/\x.2<256))/\totA k (rdAs s k f a b l).1+a<=totA k l+(rdAs s k f a b l).2.1+3
 | 0,a,b,l,h=>⟨Nat.le_refl _,h,λx hx=>.inl hx,by simp only[rdAs];omega⟩
 | f+1,a,b,l,h=>by
  rw[rdAs];split
  ·obtain⟨h1,h2,h3,h4,h5,h6,h7⟩:=Ztg s k a b h;by_cases hb:(Z1b s k a b).2.2=true
   ·rw[Zli (by rw[hb];simp)];refine⟨h1,h2,λx hx=>?_,?_⟩
    ·rcases qy13.1 hx with hx|hx
     ·exact .inl hx
     ·rw[qy12.1 hx];exact .inr ⟨h3,h4,h5⟩
    ·simp only[Zo4];omega
   ·have h7:=h7 (by simpa using hb);obtain⟨i1,i2,i3,i4⟩:=Z11k f (Z1b s k a b).2.1 (Z1b s k a b).2.2 (l++[(Z1b s k a b).1]) h2;refine⟨by omega,i2,λx hx=>?_,?_⟩
    ·rcases i3 x hx with hx|hx
     ·rcases qy13.1 hx with hx|hx
      ·exact .inl hx
      ·rw[qy12.1 hx];exact .inr ⟨h3,h4,h5⟩
     ·exact .inr hx
    ·rw[Zo4]at i4;omega
  ·exact⟨Nat.le_refl _,h,λx hx=>.inl hx,by simp only;omega⟩
theorem Z11l{s:List UInt8}:∀(f a:Nat) (b:Bool) (l:List Int),a<=s.length->a<=(rdCs s f a b l).2.1/\(rdCs s f a b l).2.1<=s.length /\ (∀x∈(rdCs s f a b l).1,x∈l\/(0<=x/\x<256))/\(rdCs s f a b l).1.length+a<=l.length+(rdCs s f a b l).2.1+1
 | 0,a,b,l,h=>⟨Nat.le_refl _,h,λx hx=>.inl hx,by simp only[rdCs];omega⟩
 | f+1,a,b,l,h=>by
  rw[rdCs];split
  ·obtain⟨h1,h2,h3,h4,h5,h6⟩:=Z56 s 1 a b h;have h2:(rdN s 1 a b).1<256:=h2;by_cases hb:(rdN s 1 a b).2.2=true
   ·rw[Ztj (by rw[hb];simp)];refine⟨h3,h4,λx hx=>?_,?_⟩
    ·rcases qy13.1 hx with hx|hx
     ·exact .inl hx
     ·rw[qy12.1 hx];exact .inr ⟨h1,h2⟩
    ·simp only[qy11,List.length_cons,List.length_nil];omega
   ·have h7:=(h6 (by simpa using hb)).2;obtain⟨i1,i2,i3,i4⟩:=Z11l f (rdN s 1 a b).2.1 (rdN s 1 a b).2.2 (l++[(rdN s 1 a b).1]) h4;refine⟨by omega,i2,λx hx=>?_,?_⟩
    ·rcases i3 x hx with hx|hx
     ·rcases qy13.1 hx with hx|hx
      ·exact .inl hx
      ·rw[qy12.1 hx];exact .inr ⟨h1,h2⟩
     ·exact .inr hx
    ·simp only[qy11,List.length_cons,List.length_nil]at i4;omega
  ·exact⟨Nat.le_refl _,h,λx hx=>.inl hx,by simp only;omega⟩
structure BdP(s:List UInt8)(p:Pkt):Prop where
 kind:0<=p.kind/\p.kind<=15
 qos:0<=p.qos/\p.qos<=3
 id:0<=p.id/\p.id<=65535
 keep:0<=p.keep/\p.keep<=65535
 code:0<=p.code/\p.code<=65535
 asks:∀a∈p.asks,a.1.length<=s.length/\0<=a.2/\a.2<256
 codes:∀c∈p.codes,0<=c/\c<256
 client:p.client.length<=s.length
 topic:p.topic.length<=s.length
 payload:p.payload.length<=s.length
 total:totA p.kind p.asks<=s.length+3
 ncodes:p.codes.length<=s.length+1
theorem Zh2(k:Int):∀l:List Ak,l.length<=totA k l
 | []=>by simp
 | x::l=>by
  have:=Zh2 k l;have h2:2<=(Z2v k x).length:=by unfold Z2v;rw[qy11,Z28];omega
  simp only[totA,List.map_cons,List.flatten_cons,qy11,List.length_cons]at *;omega
theorem BdP.small{s:List UInt8}{p:Pkt}(h:BdP s p)(hs:s.length<=60000000):SmallP p:=by have h1:=h.client;have h2:=h.topic;have h3:=h.payload;have h4:=h.total;have h5:=h.ncodes;have h6:=Zh2 p.kind p.asks;exact⟨by omega,by omega,by omega,by omega,by omega,λa ha=>by have:=(h.asks a ha).1;omega⟩
theorem BdP.byte{s:List UInt8}{p:Pkt}(h:BdP s p)(hs:s.length<=60000000):ByteP p:=by
 refine⟨h.kind,h.qos,h.id,h.keep,h.code,λa ha=>by have:=h.asks a ha;omega,λc hc=>by have:=h.codes c hc;omega,h.small hs,?_⟩;have h1:=h.client;have h2:=h.topic;have h3:=h.payload;have h4:=h.total;have h5:=h.ncodes;have e1:(Z8a p).length<=s.length+64:=by
  unfold Z8a;split
  ·simp only[qy11,Z28,Zw,List.length_cons,List.length_nil];omega
  ·split
   ·simp only[qy11,Zw];omega
   ·split
    ·rw[Z28];omega
    ·simp
 have e2:(if idB p=true then numB 2 p.id else[]).length<=2:=by
  split
  ·rw[Zw];omega
  ·simp
 have e4:=Zna 1 p.codes;unfold Z7e;simp only[qy11];unfold totA at h4;omega
theorem Z11m(s:List UInt8)(c:Nat)(hc:c<256):BdP s (begP c):=by
 unfold begP;split
 ·exact⟨by simp,by simp;omega,by simp,by simp,by simp,by simp,by simp,by simp,by simp,by simp,by simp,by simp⟩
 ·exact⟨by simp;omega,by simp,by simp,by simp,by simp,by simp,by simp,by simp,by simp,by simp,by simp,by simp⟩
theorem pw2:pw 2=65536:=rfl
theorem pw1:pw 1=256:=rfl
theorem Ztk{s:List UInt8}{p:Pkt}{a:Nat}{b:Bool}(h:BdP s p)(ha:a<=s.length):BdP s (headD s p a b).1/\(headD s p a b).2.1<=s.length/\(headD s p a b).1.asks=p.asks/\(headD s p a b).1.codes=p.codes:=by
 obtain⟨h1,h2,h3,h4,h5,h6,h7,h8,h9,h10,h11,h12⟩:=h;unfold headD;split
 ·rename_i hk;have t1:=Zdo s a b ha;have n1:=Z56 s 1 (rdT s a b).2.1 (rdT s a b).2.2 t1.2.1;have n2:=Z56 s 1 (rdN s 1 (rdT s a b).2.1 (rdT s a b).2.2).2.1 (rdN s 1 (rdT s a b).2.1 (rdT s a b).2.2).2.2 n1.2.2.2.1;unfold Zkr;simp only;generalize rdN s 1 (rdN s 1 (rdT s a b).2.1 (rdT s a b).2.2).2.1 (rdN s 1 (rdT s a b).2.1 (rdT s a b).2.2).2.2=x at n2⊢
  have n3:=Z56 s 2 x.2.1 x.2.2 n2.2.2.2.1;generalize rdN s 2 x.2.1 x.2.2=y at n3⊢
  have t2:=Zdo s y.2.1 y.2.2 n3.2.2.2.1;rw[pw2]at n3;exact⟨⟨h1,h2,h3,by simp only;omega,h5,h6,h7,by simp only;omega,h9,h10,h11,h12⟩,t2.2.1,trivial,trivial⟩
 ·split
  ·have n1:=Z56 s 1 a b ha;have n2:=Z56 s 1 (rdN s 1 a b).2.1 (rdN s 1 a b).2.2 n1.2.2.2.1;rw[pw1]at n2;exact⟨⟨h1,h2,h3,h4,by simp only;omega,h6,h7,h8,h9,h10,h11,h12⟩,n2.2.2.2.1,rfl,rfl⟩
  ·split
   ·have t1:=Zdo s a b ha;exact⟨⟨h1,h2,h3,h4,h5,h6,h7,h8,by simp only;omega,h10,h11,h12⟩,t1.2.1,rfl,rfl⟩
   ·exact⟨⟨h1,h2,h3,h4,h5,h6,h7,h8,h9,h10,h11,h12⟩,ha,rfl,rfl⟩
theorem Z17i{s:List UInt8}{q:RS}(h:BdP s q.1)(ha:q.2.1<=s.length):BdP s (idD s q).1/\(idD s q).2.1<=s.length/\(idD s q).1.asks=q.1.asks/\(idD s q).1.codes=q.1.codes:=by
 obtain⟨h1,h2,h3,h4,h5,h6,h7,h8,h9,h10,h11,h12⟩:=h;unfold idD;split
 ·have n1:=Z56 s 2 q.2.1 q.2.2 ha;rw[pw2]at n1;exact⟨⟨h1,h2,by simp only;omega,h4,h5,h6,h7,h8,h9,h10,h11,h12⟩,n1.2.2.2.1,rfl,rfl⟩
 ·exact⟨⟨h1,h2,h3,h4,h5,h6,h7,h8,h9,h10,h11,h12⟩,ha,rfl,rfl⟩
theorem Z167{s:List UInt8}{q:RS}(h:BdP s q.1)(ha:q.2.1<=s.length)(e1:q.1.asks=[])(e2:q.1.codes=[]):BdP s (Ze3 s q).1/\(Ze3 s q).2.1<=s.length:=by
 obtain⟨h1,h2,h3,h4,h5,h6,h7,h8,h9,h10,h11,h12⟩:=h;unfold Ze3;split
 ·exact⟨⟨h1,h2,h3,h4,h5,h6,h7,h8,h9,by simp,h11,h12⟩,Nat.le_refl _⟩
 ·split
  ·obtain⟨i1,i2,i3,i4⟩:=Z11k (s:=s) (k:=q.1.kind) (Z15 s q.2.1 q.2.2) q.2.1 q.2.2 q.1.asks ha;rw[e1]at i3 i4⊢;refine⟨⟨h1,h2,h3,h4,h5,λx hx=>?_,h7,h8,h9,h10,?_,h12⟩,?_⟩
   ·rcases i3 x hx with hx|hx
    ·cases hx
    ·exact hx
   ·simp only;rw[e1]at i2;have e0:totA q.1.kind []=0:=rfl;rw[e0]at i4;omega
   ·rw[e1]at i2;exact i2
  ·split
   ·obtain⟨i1,i2,i3,i4⟩:=Z11l (s:=s) (Z15 s q.2.1 q.2.2) q.2.1 q.2.2 q.1.codes ha;rw[e2]at i3 i4⊢;refine⟨⟨h1,h2,h3,h4,h5,h6,λx hx=>?_,h8,h9,h10,h11,?_⟩,?_⟩
    ·rcases i3 x hx with hx|hx
     ·cases hx
     ·exact hx
    ·rw[e2]at i2;simp only[List.length_nil]at i4⊢;omega
    ·rw[e2]at i2;exact i2
   ·exact⟨⟨h1,h2,h3,h4,h5,h6,h7,h8,h9,h10,h11,h12⟩,ha⟩
theorem Z11n{s:List UInt8}{a:Nat}(h:(getL s a).2.2=0):a<=s.length/\(a+(getL s a).2.1).toNat<=s.length/\0<=(getL s a).2.1:=by
 unfold getL at h⊢;split at h
 ·rename_i h0;rw[if_pos h0];have:=Zzb 4 0 0 (s.drop (a:Int).toNat) (by decide);rw[List.length_drop]at this;omega
 ·simp at h
theorem Z168{s:List UInt8}(h:(getL s 1).2.2=0):BdP s (Za2 s).1/\(Za2 s).2.1<=s.length:=by
 have h1:=Z11n (a:=1) h;have h2:(1+(getL s 1).2.1).toNat<=s.length:=h1.2.1;unfold Za2 Zze;obtain⟨a1,a2,a3,a4⟩:=Ztk (b:=false) (Z11m s (s.getD 0 0).toNat (Zv5 _)) h2;obtain⟨b1,b2,b3,b4⟩:=Z17i a1 a2;have e:(begP (s.getD 0 0).toNat).asks=[]/\(begP (s.getD 0 0).toNat).codes=[]:=by unfold begP;split<;>exact⟨rfl,rfl⟩
 exact Z167 b1 b2 (by rw[b3,a3,e.1]) (by rw[b4,a4,e.2])
def rdV(s:List UInt8)(a:Nat)(sh:Bool):List Value:=[.string ⟨s.toArray⟩,.int .i64 a,.bool sh]
abbrev rdAt(w:World)(b:Nat)(s:List UInt8)(a:Nat)(sh:Bool):Prop:=w.heap[b]?=some (.cells (rdV s a sh).toArray 194 (0,0))
def pC(p:Pkt)(u v:Value):List Value:=[.int .i64 p.kind,.bool p.dup,.bool p.retain,.bool p.clean,.bool p.session,.int .i64 p.qos,.int .i64 p.id,.int .i64 p.keep,.int .i64 p.code,.string ⟨p.client.toArray⟩,.string ⟨p.topic.toArray⟩,.string ⟨p.payload.toArray⟩,Go.Sx.sc1 u,Go.Sx.sc1 v]
abbrev pAt(w:World)(b:Nat)(p:Pkt)(u v:Value):Prop:=w.heap[b]?=some (.cells (pC p u v).toArray 66 (0,0))
theorem Z11o{w:World}{J:List V}{hp:List Ent}{fp:List Nat}(hh:∀e∈hp,e.holds J w)(ho:∀e∈hp,e.wr=true->∀k,e.fp J k->k∈fp)(hs:Zp J hp):Rel ⟨fp,w⟩ J hp w :=
 ⟨Mod.refl _ _,hh,λe he hw k hk=>.inr (ho e he hw k hk),hs⟩
section
variable (w:World) (b:Nat) (s:List UInt8) (a:Nat) (sh:Bool) (h:rdAt w b s a sh) (ha:a<=s.length) (hs:s.length<1000000000)
include h
theorem Z1fg{k:V}:Rel ⟨[b],w⟩ [.n b,.s s,.i a,.b sh,k] [.cells 0 194 [.str (.var 1),.int .i64 (.var 2),.bool (.var 3)]] w :=
 Z11o (qy2.2 ⟨h,qy5 _⟩) (qy2.2 ⟨λ_ k hk=>by simp only[Ent.fp,QQ,Nat.reduceAdd]at hk;simp[hk],qy5 _⟩) Z5
theorem Z17j:Rel ⟨[b],w⟩ [.n b,.s s,.i a,.b sh] [.cells 0 194 [.str (.var 1),.int .i64 (.var 2),.bool (.var 3)]] w :=
 Z11o (qy2.2 ⟨h,qy5 _⟩) (qy2.2 ⟨λ_ k hk=>by simp only[Ent.fp,QQ,Nat.reduceAdd]at hk;simp[hk],qy5 _⟩) Z5
include ha
theorem Z1b6:Calls Tryz.prog 168 #[.pointer (some ⟨b,0,none⟩)] w λe w'=>e=.returned (.string ⟨(s.drop a).toArray⟩)/\rdAt w' b s s.length sh/\Mod [b] w w':=by refine Z1 (Z3 (J:=[.n b,.s s,.i a,.b sh]) sxE_ok Tryz.func168 Z75 rfl rfl (Z17j w b s a sh h) rfl rfl ?_) rfl;simp only[QQ,Nat.reduceAdd];refine⟨by omega,by omega,λw' hr=>⟨by simp,hr.at_ 0 rfl,hr.mod⟩⟩
include hs
theorem Z2y(k:Nat)(hk:1<=k/\k<=4):Calls Tryz.prog 166 #[.pointer (some ⟨b,0,none⟩),.int .i64 k] w λe w'=>e=.returned (.int .i64 (rdN s k a sh).1)/\rdAt w' b s (rdN s k a sh).2.1 (rdN s k a sh).2.2/\Mod [b] w w':=by
 refine Z1 (Z3 (J:=[.n b,.s s,.i a,.b sh,.i k]) sxE_ok Tryz.func166 Z5z rfl rfl (Z1fg w b s a sh h) rfl rfl ?_) rfl;simp only[QQ,Nat.reduceAdd];refine⟨[.i (getR s a k).1,.i (getR s a k).2],rfl,λ_ w' _=>Zko w' s a k (by omega),?_⟩;simp only[QQ,Nat.reduceAdd];refine⟨by omega,by omega,λw' hr=>?_⟩;have hc:=hr.at_ 0 rfl;simp only[Ent.holds,QQ,Nat.reduceAdd]at hc;by_cases hh:a+k<=s.length
 ·have e1:getR s a k=(((beN ((s.drop a).take k) 0:Nat):Int),0):=by
   have:=Zkn (s:=s) (at_:=a) (b:=k) (by omega) (by omega) (by omega);simpa using this
  have e2:rdN s k a sh=(((beN ((s.drop a).take k) 0:Nat):Int),a+k,sh):=by rw[rdN,if_pos hh]
  rw[e1]at hc⊢;rw[e2];refine⟨rfl,?_,hr.mod⟩;have e3:(if(a:Int)+(k:Int)<(s.length:Int)then(a:Int)+(k:Int)else(s.length:Int))=((a+k:Nat):Int):=by split<;>omega
  rw[e3]at hc;rw[rdAt,hc];simp[rdV]
 ·have e1:getR s a k=(0,8):=Z91 (by omega) (by omega) (by omega);have e2:rdN s k a sh=(0,s.length,true):=by rw[rdN,if_neg hh]
  rw[e1]at hc⊢;rw[e2];refine⟨rfl,?_,hr.mod⟩;have e3:(if(a:Int)+(k:Int)<(s.length:Int)then(a:Int)+(k:Int)else(s.length:Int))=((s.length:Nat):Int):=by split<;>omega
  rw[e3]at hc;rw[rdAt,hc];simp[rdV]
theorem Zh3:Calls Tryz.prog 167 #[.pointer (some ⟨b,0,none⟩)] w λe w'=>e=.returned (.string ⟨(rdT s a sh).1.toArray⟩)/\rdAt w' b s (rdT s a sh).2.1 (rdT s a sh).2.2/\Mod [b] w w':=by
 refine Z1 (Z3 (J:=[.n b,.s s,.i a,.b sh]) sxE_ok Tryz.func167 Z72 rfl rfl (Z17j w b s a sh h) rfl rfl ?_) rfl;simp only[QQ,Nat.reduceAdd];refine⟨[.s (getT s a).1,.i (getT s a).2.1,.i (getT s a).2.2],rfl,λ_ w' _=>Zzd w' s a (by omega),?_⟩;simp only[QQ,Nat.reduceAdd];have key:((a:Int)+(getT s a).2.1=((rdT s a sh).2.1:Nat))/\(getT s a).1=(rdT s a sh).1/\(sh || !decide ((getT s a).2.2=0))=(rdT s a sh).2.2:=by
  by_cases h2:a+2<=s.length
  ·have e1:getR s a 2=(((beN ((s.drop a).take 2) 0:Nat):Int),0):=by
    have:=Zkn (s:=s) (at_:=a) (b:=2) (by omega) (by omega) (by omega);simpa using this
   rw[getT,e1,if_pos rfl,rdT];simp only;by_cases h3:a+2+beN ((s.drop a).take 2) 0<=s.length
   ·rw[if_neg (by omega),if_pos ⟨h2,h3⟩];refine⟨by simp only;omega,?_,by simp⟩;have e3:((a:Int)+2+((beN ((s.drop a).take 2) 0:Nat):Int)).toNat=a+2+beN ((s.drop a).take 2) 0:=by omega
    have e4:((a:Int)+2).toNat=a+2:=by omega
    simp only[e3,e4];rw[List.drop_take];congr 1
    omega
   ·rw[if_pos (by omega),if_neg (by omega)];exact⟨by simp,rfl,by simp⟩
  ·have e1:getR s a 2=(0,8):=Z91 (by omega) (by omega) (by omega);rw[getT,e1,if_neg (by simp),rdT,if_neg (by omega)];exact⟨by simp,rfl,by simp⟩
 obtain⟨k1,k2,k3⟩:=key;have kb:=Zdo s a sh ha;rw[k1];refine⟨by omega,by omega,λw' hr=>?_⟩;have hc:=hr.at_ 0 rfl;simp only[Ent.holds,QQ,Nat.reduceAdd]at hc;rw[k1,k3]at hc;exact⟨by rw[k2],hc,hr.mod⟩
end
end Go.Proofs.Y
namespace Go.Proofs.Y
open Go.Sx
abbrev nilV:Value:=.slice none 0 0
theorem Ztl(w:World)(ty:Nat)(ks:List Kd):owns w nilV ty ks []:=⟨by simp,World.ownsRow_nil _ _ _ _⟩
section
variable (w:World) (b c:Nat) (s:List UInt8) (a:Nat) (sh:Bool) (p:Pkt) (h:rdAt w b s a sh) (hp:pAt w c p nilV nilV) (hbc:b≠c) (ha:a<=s.length) (hs:s.length<1000000000)
include h hp hbc
theorem Z17k:Rel ⟨[b,c],w⟩ [.n b,.s s,.i a,.b sh,.n c,.i p.kind,.b p.dup,.b p.retain,.b p.clean,.b p.session,.i p.qos,.i p.id,.i p.keep,.i p.code,.s p.client,.s p.topic,.s p.payload] [.cells 0 194 [.str (.var 1),.int .i64 (.var 2),.bool (.var 3)],.cells 4 66 [.int .i64 (.var 5),.bool (.var 6),.bool (.var 7),.bool (.var 8),.bool (.var 9),.int .i64 (.var 10),.int .i64 (.var 11),.int .i64 (.var 12),.int .i64 (.var 13),.str (.var 14),.str (.var 15),.str (.var 16),.nils,.nils]] w:=by
 refine Z11o (qy2.2 ⟨h,qy2.2 ⟨hp,qy5 _⟩⟩) (qy2.2 ⟨λ_ k hk=>?_,qy2.2 ⟨λ_ k hk=>?_,qy5 _⟩⟩) (List.pairwise_cons.2 ⟨λe he _ k h1 h2=>?_,List.pairwise_singleton _ _⟩)
 ·simp only[Ent.fp,QQ,Nat.reduceAdd]at hk;simp[hk]
 ·simp only[Ent.fp,QQ,Nat.reduceAdd]at hk;simp[hk]
 ·rw[qy12]at he;subst he;simp only[Ent.fp,QQ,Nat.reduceAdd]at h1 h2;exact hbc (h1.symm.trans h2)
include ha hs
theorem Zw2:Calls Tryz.prog 165 #[.pointer (some ⟨b,0,none⟩),.pointer (some ⟨c,0,none⟩)] w λe w'=>e=.returned (.tuple #[])/\rdAt w' b s (Zkr s p a sh).2.1 (Zkr s p a sh).2.2/\pAt w' c (Zkr s p a sh).1 nilV nilV/\Mod [b,c] w w':=by refine Z1 (Z3 (J:=[.n b,.s s,.i a,.b sh,.n c,.i p.kind,.b p.dup,.b p.retain,.b p.clean,.b p.session,.i p.qos,.i p.id,.i p.keep,.i p.code,.s p.client,.s p.topic,.s p.payload]) sxE_ok Tryz.func165 Z5a rfl rfl (Z17k w b c s a sh p h hp hbc) rfl rfl ?_) rfl;simp only[QQ,Nat.reduceAdd];have t1:=Zdo s a sh ha;intro w1 hr;refine(Zh3 w1 b s a sh (hr.at_ 0 rfl) ha hs).mono ?_;rintro e w2 ⟨rfl,h1,m1⟩;refine⟨[.s _,.s s,.i (_:Nat),.b _],rfl,rfl,m1,qy2.2 ⟨h1,qy5 _⟩,(λx hx=>absurd hx List.not_mem_nil),Ze,?_⟩;(try simp only[QQ,Nat.reduceAdd]);have n1:=Z56 s 1 (rdT s a sh).2.1 (rdT s a sh).2.2 t1.2.1;clear m1 h1 hr;intro w1 hr;refine(Z2y w1 b s _ _ (hr.at_ 0 rfl) t1.2.1 hs 1 (by omega)).mono ?_;rintro e w2 ⟨rfl,h1,m1⟩;refine⟨[.i _,.s s,.i (_:Nat),.b _],rfl,rfl,m1,qy2.2 ⟨h1,qy5 _⟩,(λx hx=>absurd hx List.not_mem_nil),Ze,?_⟩;(try simp only[QQ,Nat.reduceAdd]);have n2:=Z56 s 1 _ (rdN s 1 (rdT s a sh).2.1 (rdT s a sh).2.2).2.2 n1.2.2.2.1;clear m1 h1 hr;intro w1 hr;refine(Z2y w1 b s _ _ (hr.at_ 0 rfl) n1.2.2.2.1 hs 1 (by omega)).mono ?_;rintro e w2 ⟨rfl,h1,m1⟩;refine⟨[.i _,.s s,.i (_:Nat),.b _],rfl,rfl,m1,qy2.2 ⟨h1,qy5 _⟩,(λx hx=>absurd hx List.not_mem_nil),Ze,?_⟩;(try simp only[QQ,Nat.reduceAdd]);have n3:=Z56 s 2 _ (rdN s 1 (rdN s 1 (rdT s a sh).2.1 (rdT s a sh).2.2).2.1 (rdN s 1 (rdT s a sh).2.1 (rdT s a sh).2.2).2.2).2.2 n2.2.2.2.1;clear m1 h1 hr;intro w1 hr;refine(Z2y w1 b s _ _ (hr.at_ 0 rfl) n2.2.2.2.1 hs 2 (by omega)).mono ?_;rintro e w2 ⟨rfl,h1,m1⟩;refine⟨[.i _,.s s,.i (_:Nat),.b _],rfl,rfl,m1,qy2.2 ⟨h1,qy5 _⟩,(λx hx=>absurd hx List.not_mem_nil),Ze,?_⟩;(try simp only[QQ,Nat.reduceAdd]);clear m1 h1 hr;intro w1 hr;refine(Zh3 w1 b s _ _ (hr.at_ 0 rfl) n3.2.2.2.1 hs).mono ?_;rintro e w2 ⟨rfl,h1,m1⟩;refine⟨[.s _,.s s,.i (_:Nat),.b _],rfl,rfl,m1,qy2.2 ⟨h1,qy5 _⟩,(λx hx=>absurd hx List.not_mem_nil),Ze,?_⟩;(try simp only[QQ,Nat.reduceAdd]);clear m1 h1 hr;exact λw' hr=>⟨by trivial,hr.at_ 0 rfl,hr.at_ 1 rfl,hr.mod⟩
end
def Ztm(w w':World)(b c:Nat)(s:List UInt8)(r:RS):Prop:=rdAt w' b s r.2.1 r.2.2/\Mod [b,c] w w'/\∃x y,pAt w' c r.1 x y/\owns w' x 105 [.str,.int .i64] (r.1.asks.map encA)/\owns w' y 3 [.int .i64] (r.1.codes.map Zh) /\
 (∀k,Z2 x k->w.heap.size<=k)/\(∀k,Z2 y k->w.heap.size<=k)/\∀k,Z2 x k->Z2 y k->False
theorem Zh4{w w':World}{b c:Nat}{s:List UInt8}{r:RS}{J:List V}{hp:List Ent}{x y:Value}(hr:Rel ⟨[b,c],w⟩ J hp w')(h0:rdAt w' b s r.2.1 r.2.2)(h1:pAt w' c r.1 x y) (o1:owns w' x 105 [.str,.int .i64] (r.1.asks.map encA)) (o2:owns w' y 3 [.int .i64] (r.1.codes.map Zh)) {vx tx vy ty vb tb vc tc:Nat} {kx ky:List Kd} {rx ry:X} {cb cc:List Sc} (e2:hp[2]?=some (.cells vb tb cb)) (e3:hp[3]?=some (.cells vc tc cc)) (e4:hp[4]?=some (.row vx tx kx rx)) (e5:hp[5]?=some (.row vy ty ky ry)) (q2:(J.getD vb (.i 0)).toN=b) (q3:(J.getD vc (.i 0)).toN=c) (q4:(J.getD vx (.i 0)).toV=x) (q5:(J.getD vy (.i 0)).toV=y):Ztm w w' b c s r:=by
 subst q2 q3 q4 q5;refine⟨h0,hr.mod,_,_,h1,o1,o2,λk hk=>?_,λk hk=>?_,λk hk hk'=>Zp.disj hr.sep e4 e5 (by decide) (.inl rfl) hk hk'⟩
 ·rcases hr.own _ (qy6 e4) rfl k hk with h|h
  ·exact h
  ·rcases List.mem_cons.1 h with h|h
   ·exact(Zp.disj hr.sep e4 e2 (by decide) (.inl rfl) hk h).elim
   ·rw[qy12]at h;exact(Zp.disj hr.sep e4 e3 (by decide) (.inl rfl) hk h).elim
 ·rcases hr.own _ (qy6 e5) rfl k hk with h|h
  ·exact h
  ·rcases List.mem_cons.1 h with h|h
   ·exact(Zp.disj hr.sep e5 e2 (by decide) (.inl rfl) hk h).elim
   ·rw[qy12]at h;exact(Zp.disj hr.sep e5 e3 (by decide) (.inl rfl) hk h).elim
def Z1dw(s:List UInt8)(q:RS):List V->Prop:=λvs=>∃x y,vs=[.s s,.i q.2.1,.b q.2.2,.i q.1.kind,.b q.1.dup,.b q.1.retain,.b q.1.clean,.b q.1.session,.i q.1.qos,.i q.1.id,.i q.1.keep,.i q.1.code,.s q.1.client,.s q.1.topic,.s q.1.payload,.v x,.r (q.1.asks.map encA),.v y,.r (q.1.codes.map Zh)]
def Z1dx(s:List UInt8)(q:RS):List V->Prop:=λvs=>∃(l:List Ak) (a:Nat) (b:Bool) (x y:Value),vs=[.s s,.i a,.b b,.i q.1.kind,.b q.1.dup,.b q.1.retain,.b q.1.clean,.b q.1.session,.i q.1.qos,.i q.1.id,.i q.1.keep,.i q.1.code,.s q.1.client,.s q.1.topic,.s q.1.payload,.v x,.r (l.map encA),.v y,.r (q.1.codes.map Zh)]/\a<=s.length /\
 (b=false->l.length<=a)/\rdAs s q.1.kind (Z15 s a b) a b l=rdAs s q.1.kind (Z15 s q.2.1 q.2.2) q.2.1 q.2.2 q.1.asks
def Z1dy(s:List UInt8)(q:RS):List V->Prop:=λvs=>∃(l:List Int) (a:Nat) (b:Bool) (x y:Value),vs=[.s s,.i a,.b b,.i q.1.kind,.b q.1.dup,.b q.1.retain,.b q.1.clean,.b q.1.session,.i q.1.qos,.i q.1.id,.i q.1.keep,.i q.1.code,.s q.1.client,.s q.1.topic,.s q.1.payload,.v x,.r (q.1.asks.map encA),.v y,.r (l.map Zh)]/\a<=s.length /\
 (b=false->l.length<=a)/\rdCs s (Z15 s a b) a b l=rdCs s (Z15 s q.2.1 q.2.2) q.2.1 q.2.2 q.1.codes
def Z1b7(s:List UInt8)(vs:List V):Nat:=Z15 s (vs.getD 1 (.i 0)).toI.toNat (vs.getD 2 (.i 0)).toB
section
variable (w:World) (b c:Nat) (s:List UInt8) (a:Nat) (sh:Bool) (p:Pkt) (h:rdAt w b s a sh) (hp:pAt w c p nilV nilV) (hbc:b≠c) (ha:a<=s.length) (hs:s.length<1000000000) (pz:p.asks=[]/\p.codes=[]) (hB:BdP s p)
include h hp hbc ha hs pz hB
theorem Z11p:Calls Tryz.prog 131 #[.pointer (some ⟨b,0,none⟩),.pointer (some ⟨c,0,none⟩)] w λe w'=>e=.returned (.tuple #[])/\Ztm w w' b c s (Zze s p a sh):=by
  refine Z1 (Z3 (J:=[.n b,.s s,.i a,.b sh,.n c,.i p.kind,.b p.dup,.b p.retain,.b p.clean,.b p.session,.i p.qos,.i p.id,.i p.keep,.i p.code,.s p.client,.s p.topic,.s p.payload]) (sxE_ok.joins _) Tryz.func131 Z71 rfl rfl (Z17k w b c s a sh p h hp hbc) rfl rfl ?_) rfl;simp only[QQ,Nat.reduceAdd];intro b1 b2;refine⟨Z1dw s (headD s p a sh),⟨λh1=>?_,λh1=>⟨λh2=>?_,λh2=>⟨λh3=>?_,λh3=>?_⟩⟩⟩,?_⟩
  . intro w1 hr;refine(Zw2 w1 b c s a sh p (hr.at_ 2 rfl) (hr.at_ 3 rfl) hbc ha hs).mono ?_;rintro e w2 ⟨rfl,g1,g2,m1⟩;have hq:headD s p a sh=Zkr s p a sh:=by rw[headD,if_pos h1]
    rw[hq];have za:(Zkr s p a sh).1.asks=[]:=pz.1;have zc:(Zkr s p a sh).1.codes=[]:=pz.2;generalize Zkr s p a sh=q at g1 g2 za zc⊢
    refine⟨[.s s,.i q.2.1,.b q.2.2,.i q.1.kind,.b q.1.dup,.b q.1.retain,.b q.1.clean,.b q.1.session,.i q.1.qos,.i q.1.id,.i q.1.keep,.i q.1.code,.s q.1.client,.s q.1.topic,.s q.1.payload,.v nilV,.r [],.v nilV,.r []],rfl,rfl,m1,qy2.2 ⟨g1,qy2.2 ⟨g2,qy5 _⟩⟩,
      qy2.2 ⟨⟨Ztl _ _ _,λz hz=>by cases hz⟩,qy2.2 ⟨⟨Ztl _ _ _,λz hz=>by cases hz⟩,qy5 _⟩⟩,List.pairwise_cons.2 ⟨λe he _ k hk _=>(by cases hk),List.pairwise_singleton _ _⟩,?_⟩
    simp only[QQ,Nat.reduceAdd];exact⟨nilV,nilV,by rw[za,zc];rfl⟩
  . have n1:=Z56 s 1 a sh ha;intro w1 hr;refine(Z2y w1 b s a sh (hr.at_ 2 rfl) ha hs 1 (by omega)).mono ?_;rintro e w2 ⟨rfl,h1,m1⟩;refine⟨[.i _,.s s,.i (_:Nat),.b _],rfl,rfl,m1,qy2.2 ⟨h1,qy5 _⟩,(λx hx=>absurd hx List.not_mem_nil),Ze,?_⟩;(try simp only[QQ,Nat.reduceAdd]);clear m1 h1 hr;intro w1 hr;refine(Z2y w1 b s _ _ (hr.at_ 2 rfl) n1.2.2.2.1 hs 1 (by omega)).mono ?_;rintro e w2 ⟨rfl,h1,m1⟩;refine⟨[.i _,.s s,.i (_:Nat),.b _],rfl,rfl,m1,qy2.2 ⟨h1,qy5 _⟩,(λx hx=>absurd hx List.not_mem_nil),Ze,?_⟩;(try simp only[QQ,Nat.reduceAdd]);rw[headD,if_neg (show ¬p.kind=1 by assumption),if_pos h2];exact⟨nilV,nilV,by simp only[pz.1,pz.2];rfl⟩
  . intro w1 hr;refine(Zh3 w1 b s a sh (hr.at_ 2 rfl) ha hs).mono ?_;rintro e w2 ⟨rfl,h1,m1⟩;refine⟨[.s _,.s s,.i (_:Nat),.b _],rfl,rfl,m1,qy2.2 ⟨h1,qy5 _⟩,(λx hx=>absurd hx List.not_mem_nil),Ze,?_⟩;(try simp only[QQ,Nat.reduceAdd]);rw[headD,if_neg (show ¬p.kind=1 by assumption),if_neg (show ¬p.kind=2 by assumption),if_pos h3];exact⟨nilV,nilV,by simp only[pz.1,pz.2];rfl⟩
  . rw[headD,if_neg (show ¬p.kind=1 by assumption),if_neg (show ¬p.kind=2 by assumption),if_neg (show ¬p.kind=3 by assumption)];exact⟨nilV,nilV,by simp only[pz.1,pz.2];rfl⟩
  obtain⟨d1,d2,d3,d4⟩:=Ztk (b:=sh) hB ha;rw[Zze];rw[pz.1]at d3;rw[pz.2]at d4;generalize headD s p a sh=q at d1 d2 d3 d4⊢
  rintro _ - ⟨x1,y1,rfl⟩;simp only[QQ,Nat.reduceAdd];refine⟨[.b (idB q.1)],rfl,λ_ w' hr=>Z14s w' q.1 x1 y1 (owns.reads (hr.at_ 4 rfl)) (owns.reads (hr.at_ 5 rfl)),?_⟩;simp only[QQ,Nat.reduceAdd];refine⟨Z1dw s (idD s q),⟨λh1=>?_,λh1=>?_⟩,?_⟩
  . intro w1 hr;refine(Z2y w1 b s _ _ (hr.at_ 2 rfl) d2 hs 2 (by omega)).mono ?_;have h1':=h1;rintro e w2 ⟨rfl,h1,m1⟩;refine⟨[.i _,.s s,.i (_:Nat),.b _],rfl,rfl,m1,qy2.2 ⟨h1,qy5 _⟩,(λx hx=>absurd hx List.not_mem_nil),Ze,?_⟩;(try simp only[QQ,Nat.reduceAdd]);rw[idD,if_pos h1'];exact⟨x1,y1,rfl⟩
  . rw[idD,if_neg h1];exact⟨x1,y1,rfl⟩
  obtain⟨f1,hqa,f3,f4⟩:=Z17i d1 d2;have hqz:(idD s q).1.asks=[]/\(idD s q).1.codes=[]:=⟨by rw[f3,d3],by rw[f4,d4]⟩
  generalize idD s q=q at f1 hqa hqz⊢
  rintro _ - ⟨x2,y2,rfl⟩;simp only[QQ,Nat.reduceAdd];refine⟨λk3=>?_,λk3=>⟨λk8=>?_,λk8=>⟨λk10=>?_,λk10=>⟨λk9=>?_,λk9 w' hr=>?_⟩⟩⟩⟩
  . intro w1 hr;refine(Z1b6 w1 b s _ _ (hr.at_ 2 rfl) hqa).mono ?_;rintro e w2 ⟨rfl,h1,m1⟩;refine⟨[.s _,.s s,.i (_:Nat),.b _],rfl,rfl,m1,qy2.2 ⟨h1,qy5 _⟩,(λx hx=>absurd hx List.not_mem_nil),Ze,?_⟩;(try simp only[QQ,Nat.reduceAdd]);intro w' hr;rw[Ze3,if_pos k3];exact⟨by trivial,Zh4 hr (hr.at_ 2 rfl) (hr.at_ 3 rfl) (hr.at_ 4 rfl) (hr.at_ 5 rfl) rfl rfl rfl rfl rfl rfl rfl rfl⟩
  . refine⟨Z1dx s q,Z1b7 s,⟨q.1.asks,q.2.1,q.2.2,x2,y2,rfl,hqa,λ_=>by rw[hqz.1];simp,rfl⟩,?_⟩;rintro _ - ⟨l,a',b',x3,y3,rfl,ha',hl',hg⟩;simp only[QQ,Nat.reduceAdd,qy4,qy3];refine⟨λhc=>?_,λhc w' hr=>?_⟩;(· have hc':a'<s.length/\b'=false:=⟨by have:=hc.1;omega,by simpa using hc.2⟩;have hll:=hl' hc'.2;have hA:=Ztg s q.1.kind a' b' ha';have hT:=Zdo s a' b' ha';have hst:=Zo2 (k:=q.1.kind) (l:=l) hc';have hlt:=Zth (k:=q.1.kind) hc'.1 hc'.2;intro w1 hr;refine(Zh3 w1 b s a' b' (hr.at_ 2 rfl) ha' hs).mono ?_;rintro e w2 ⟨rfl,h1,m1⟩;refine⟨[.s _,.s s,.i (_:Nat),.b _],rfl,rfl,m1,qy2.2 ⟨h1,qy5 _⟩,(λx hx=>absurd hx List.not_mem_nil),Ze,?_⟩;(try simp only[QQ,Nat.reduceAdd]);clear m1 h1 hr;intro ba;refine⟨λhk=>?_,λhk=>?_⟩;(· have e8:Z1b s q.1.kind a' b'=(((rdT s a' b').1,(rdN s 1 (rdT s a' b').2.1 (rdT s a' b').2.2).1),(rdN s 1 (rdT s a' b').2.1 (rdT s a' b').2.2).2):=by { rw[Z1b,if_pos hk] };intro w1 hr;refine(Z2y w1 b s _ _ (hr.at_ 3 rfl) hT.2.1 hs 1 (by omega)).mono ?_;rintro e w2 ⟨rfl,h1,m1⟩;refine⟨[.i _,.s s,.i (_:Nat),.b _],rfl,rfl,m1,qy2.2 ⟨h1,qy5 _⟩,(λx hx=>absurd hx List.not_mem_nil),Ze,?_⟩;(try simp only[QQ,Nat.reduceAdd]);clear m1 h1 hr;intro z1;refine⟨by(try simp only[qy3,List.length_nil,List.length_cons]);omega,λz2=>⟨⟨l++[(Z1b s q.1.kind a' b').1],(Z1b s q.1.kind a' b').2.1,(Z1b s q.1.kind a' b').2.2,z2,y3,by rw[e8];simp[encA],hA.2.1,λh0=>?_,by rw[<- hst];exact hg⟩,by rw[e8]at hlt;exact hlt⟩⟩;have:=(hA.2.2.2.2.2.2 h0).2.2;simp only[qy11,List.length_cons,List.length_nil];omega);(· have e8:Z1b s q.1.kind a' b'=(((rdT s a' b').1,0),(rdT s a' b').2):=by { rw[Z1b,if_neg hk] };intro z1;refine⟨by(try simp only[qy3,List.length_nil,List.length_cons]);omega,λz2=>⟨⟨l++[(Z1b s q.1.kind a' b').1],(Z1b s q.1.kind a' b').2.1,(Z1b s q.1.kind a' b').2.2,z2,y3,by rw[e8];simp[encA],hA.2.1,λh0=>?_,by rw[<- hst];exact hg⟩,by rw[e8]at hlt;exact hlt⟩⟩;have:=(hA.2.2.2.2.2.2 h0).2.2;simp only[qy11,List.length_cons,List.length_nil];omega));(· have hc':¬(a'<s.length/\b'=false):=λhh=>hc ⟨by have:=hh.1;omega,by simp[hh.2]⟩;rw[Zli hc']at hg;have hrr:Ze3 s q=({ q.1 with asks:=l },a',b'):=by { unfold Ze3;rw[if_neg k3,if_pos (by omega),<- hg] };rw[hrr];exact⟨by trivial,Zh4 hr (hr.at_ 2 rfl) (hr.at_ 3 rfl) (hr.at_ 4 rfl) (hr.at_ 5 rfl) rfl rfl rfl rfl rfl rfl rfl rfl⟩)
  . refine⟨Z1dx s q,Z1b7 s,⟨q.1.asks,q.2.1,q.2.2,x2,y2,rfl,hqa,λ_=>by rw[hqz.1];simp,rfl⟩,?_⟩;rintro _ - ⟨l,a',b',x3,y3,rfl,ha',hl',hg⟩;simp only[QQ,Nat.reduceAdd,qy4,qy3];refine⟨λhc=>?_,λhc w' hr=>?_⟩;(· have hc':a'<s.length/\b'=false:=⟨by have:=hc.1;omega,by simpa using hc.2⟩;have hll:=hl' hc'.2;have hA:=Ztg s q.1.kind a' b' ha';have hT:=Zdo s a' b' ha';have hst:=Zo2 (k:=q.1.kind) (l:=l) hc';have hlt:=Zth (k:=q.1.kind) hc'.1 hc'.2;intro w1 hr;refine(Zh3 w1 b s a' b' (hr.at_ 2 rfl) ha' hs).mono ?_;rintro e w2 ⟨rfl,h1,m1⟩;refine⟨[.s _,.s s,.i (_:Nat),.b _],rfl,rfl,m1,qy2.2 ⟨h1,qy5 _⟩,(λx hx=>absurd hx List.not_mem_nil),Ze,?_⟩;(try simp only[QQ,Nat.reduceAdd]);clear m1 h1 hr;intro ba;refine⟨λhk=>?_,λhk=>?_⟩;(· have e8:Z1b s q.1.kind a' b'=(((rdT s a' b').1,(rdN s 1 (rdT s a' b').2.1 (rdT s a' b').2.2).1),(rdN s 1 (rdT s a' b').2.1 (rdT s a' b').2.2).2):=by { rw[Z1b,if_pos hk] };intro w1 hr;refine(Z2y w1 b s _ _ (hr.at_ 3 rfl) hT.2.1 hs 1 (by omega)).mono ?_;rintro e w2 ⟨rfl,h1,m1⟩;refine⟨[.i _,.s s,.i (_:Nat),.b _],rfl,rfl,m1,qy2.2 ⟨h1,qy5 _⟩,(λx hx=>absurd hx List.not_mem_nil),Ze,?_⟩;(try simp only[QQ,Nat.reduceAdd]);clear m1 h1 hr;intro z1;refine⟨by(try simp only[qy3,List.length_nil,List.length_cons]);omega,λz2=>⟨⟨l++[(Z1b s q.1.kind a' b').1],(Z1b s q.1.kind a' b').2.1,(Z1b s q.1.kind a' b').2.2,z2,y3,by rw[e8];simp[encA],hA.2.1,λh0=>?_,by rw[<- hst];exact hg⟩,by rw[e8]at hlt;exact hlt⟩⟩;have:=(hA.2.2.2.2.2.2 h0).2.2;simp only[qy11,List.length_cons,List.length_nil];omega);(· have e8:Z1b s q.1.kind a' b'=(((rdT s a' b').1,0),(rdT s a' b').2):=by { rw[Z1b,if_neg hk] };intro z1;refine⟨by(try simp only[qy3,List.length_nil,List.length_cons]);omega,λz2=>⟨⟨l++[(Z1b s q.1.kind a' b').1],(Z1b s q.1.kind a' b').2.1,(Z1b s q.1.kind a' b').2.2,z2,y3,by rw[e8];simp[encA],hA.2.1,λh0=>?_,by rw[<- hst];exact hg⟩,by rw[e8]at hlt;exact hlt⟩⟩;have:=(hA.2.2.2.2.2.2 h0).2.2;simp only[qy11,List.length_cons,List.length_nil];omega));(· have hc':¬(a'<s.length/\b'=false):=λhh=>hc ⟨by have:=hh.1;omega,by simp[hh.2]⟩;rw[Zli hc']at hg;have hrr:Ze3 s q=({ q.1 with asks:=l },a',b'):=by { unfold Ze3;rw[if_neg k3,if_pos (by omega),<- hg] };rw[hrr];exact⟨by trivial,Zh4 hr (hr.at_ 2 rfl) (hr.at_ 3 rfl) (hr.at_ 4 rfl) (hr.at_ 5 rfl) rfl rfl rfl rfl rfl rfl rfl rfl⟩)
  . refine⟨Z1dy s q,Z1b7 s,⟨q.1.codes,q.2.1,q.2.2,x2,y2,rfl,hqa,λ_=>by rw[hqz.2];simp,rfl⟩,?_⟩;rintro _ - ⟨l,a',b',x3,y3,rfl,ha',hl',hg⟩;simp only[QQ,Nat.reduceAdd,qy4,qy3];refine⟨λhc=>⟨?_,?_⟩,λhc w' hr=>?_⟩;(· have hc':a'<s.length/\b'=false:=⟨by have:=hc.1;omega,by simpa using hc.2⟩;have hll:=hl' hc'.2;have hA:=Z56 s 1 a' b' ha';have hst:=Zo3 (l:=l) hc';have hlt:=Zti hc'.1 hc'.2;intro w1 hr;refine(Z2y w1 b s a' b' (hr.at_ 2 rfl) ha' hs 1 (by omega)).mono ?_;rintro e w2 ⟨rfl,h1,m1⟩;refine⟨[.i _,.s s,.i (_:Nat),.b _],rfl,rfl,m1,qy2.2 ⟨h1,qy5 _⟩,(λx hx=>absurd hx List.not_mem_nil),Ze,?_⟩;(try simp only[QQ,Nat.reduceAdd]);clear m1 h1 hr;intro z1;refine⟨by(try simp only[qy3,List.length_nil,List.length_cons]);omega,λz2=>⟨⟨l++[(rdN s 1 a' b').1],(rdN s 1 a' b').2.1,(rdN s 1 a' b').2.2,x3,z2,by simp[Zh],hA.2.2.2.1,λh0=>?_,by rw[<- hst];exact hg⟩,hlt⟩⟩;have:=(hA.2.2.2.2.2 h0).2;simp only[qy11,List.length_cons,List.length_nil];omega);(· have hc':a'<s.length/\b'=false:=⟨by have:=hc.1;omega,by simpa using hc.2⟩;have hll:=hl' hc'.2;have hA:=Z56 s 1 a' b' ha';have hst:=Zo3 (l:=l) hc';have hlt:=Zti hc'.1 hc'.2;intro w1 hr;refine(Z2y w1 b s a' b' (hr.at_ 2 rfl) ha' hs 1 (by omega)).mono ?_;rintro e w2 ⟨rfl,h1,m1⟩;refine⟨[.i _,.s s,.i (_:Nat),.b _],rfl,rfl,m1,qy2.2 ⟨h1,qy5 _⟩,(λx hx=>absurd hx List.not_mem_nil),Ze,?_⟩;(try simp only[QQ,Nat.reduceAdd]);clear m1 h1 hr;refine⟨?_,?_⟩;(· intro z1;refine⟨by(try simp only[qy3,List.length_nil,List.length_cons]);omega,λz2=>⟨⟨l++[(rdN s 1 a' b').1],(rdN s 1 a' b').2.1,(rdN s 1 a' b').2.2,x3,z2,by simp[Zh],hA.2.2.2.1,λh0=>?_,by rw[<- hst];exact hg⟩,hlt⟩⟩;have:=(hA.2.2.2.2.2 h0).2;simp only[qy11,List.length_cons,List.length_nil];omega);(· intro z1;refine⟨by(try simp only[qy3,List.length_nil,List.length_cons]);omega,λz2=>⟨⟨l++[(rdN s 1 a' b').1],(rdN s 1 a' b').2.1,(rdN s 1 a' b').2.2,x3,z2,by simp[Zh],hA.2.2.2.1,λh0=>?_,by rw[<- hst];exact hg⟩,hlt⟩⟩;have:=(hA.2.2.2.2.2 h0).2;simp only[qy11,List.length_cons,List.length_nil];omega));(· have hc':¬(a'<s.length/\b'=false):=λhh=>hc ⟨by have:=hh.1;omega,by simp[hh.2]⟩;rw[Ztj hc']at hg;have hrr:Ze3 s q=({ q.1 with codes:=l },a',b'):=by { unfold Ze3;rw[if_neg k3,if_neg (by omega),if_pos k9,<- hg] };rw[hrr];exact⟨by trivial,Zh4 hr (hr.at_ 2 rfl) (hr.at_ 3 rfl) (hr.at_ 4 rfl) (hr.at_ 5 rfl) rfl rfl rfl rfl rfl rfl rfl rfl⟩)
  . rw[Ze3,if_neg k3,if_neg (by omega),if_neg k9];exact⟨by trivial,Zh4 hr (hr.at_ 2 rfl) (hr.at_ 3 rfl) (hr.at_ 4 rfl) (hr.at_ 5 rfl) rfl rfl rfl rfl rfl rfl rfl rfl⟩
end
end Go.Proofs.Y
namespace Go.Proofs.Y
open Go.Sx
theorem Z169(c k:Nat)(hk:k<64):((c:Nat):Int).fdiv (2 ^ (Nat.min k IntKind.i64.bits))=((c / 2 ^ k:Nat):Int):=by rw[Zpl _ k hk,Int.natCast_ediv]
theorem Z1dz(c:Nat)(h:c<256):(!decide (Z1v .and .i64 (c:Int) 8=0))=decide (c / 8 % 2=1):=by
 have:∀x:Fin 256,(!decide (Z1v .and .i64 ((x.val:Nat):Int) 8=0))=decide (x.val / 8 % 2=1):=by decide +kernel
 exact this ⟨c,h⟩
theorem Z1e0(c:Nat)(h:c<256):(!decide (Z1v .and .i64 (c:Int) 1=0))=decide (c % 2=1):=by
 have:∀x:Fin 256,(!decide (Z1v .and .i64 ((x.val:Nat):Int) 1=0))=decide (x.val % 2=1):=by decide +kernel
 exact this ⟨c,h⟩
theorem Z1e1(c:Nat)(h:c<256):Z1v .and .i64 ((c / 2 ^ 1:Nat):Int) 3=((c / 2 % 4:Nat):Int):=by
 have:∀x:Fin 256,Z1v .and .i64 ((x.val / 2 ^ 1:Nat):Int) 3=((x.val / 2 % 4:Nat):Int):=by decide +kernel
 exact this ⟨c,h⟩
def Zqh(w w':World)(p:Pkt)(x y:Value):Prop:=Mod [] w w'/\Z3i w' x p.asks/\Z2w w' y p.codes/\(∀k,Z2 x k->w.heap.size<=k)/\(∀k,Z2 y k->w.heap.size<=k)
theorem Z3p{w w':World}(h:Mod [] w w')(k:Int):Zqh w w' (pD_Q k) nilV nilV:=⟨h,Z92 _,Zcw _,λk hk=>(by cases hk),λk hk=>(by cases hk)⟩
theorem Z11q(w:World)(s:List UInt8)(hs:s.length<=60000000):Calls Tryz.prog 86 #[.string ⟨s.toArray⟩] w λe w'=>∃x y,e=.returned (.tuple #[pV (decD s).1 x y,.int .i64 (decD s).2])/\Zqh w w' (decD s).1 x y:=by
 refine Z1 (Z7 (J:=[.s s]) sxE_ok Tryz.func86 Zaz rfl rfl rfl ?_) rfl;simp only[QQ,Nat.reduceAdd];intro b1;refine⟨[.i (getL s 1).1,.i (getL s 1).2.1,.i (getL s 1).2.2],rfl,λ_ w' _=>Zn2 w' s 1 (by omega),?_⟩;simp only[QQ,Nat.reduceAdd];have hgb:=Zpn s 1;refine⟨λh w' hr=>?_,λh=>?_⟩
 ·refine⟨nilV,nilV,?_⟩;rw[decD,if_pos h];exact⟨rfl,Z3p hr.mod 0⟩
 have hL:=h;have hl0:(getL s 1).2.2=0:=qy9.1 λhh=>h (.inr hh);have hbd:=(Z168 hl0).1;have hat:=Z11n (a:=1) hl0;have hln:(1+(getL s 1).2.1).toNat<=s.length:=hat.2.1;have hz:Int.toNat 0=0:=rfl;have h4:(Int.toNat 4)=4:=rfl;have h1:(Int.toNat 1)=1:=rfl;simp only[hz,h4,h1];have hc:=Zv5 (s.getD 0 0);generalize hcc:(s.getD 0 0).toNat=c at hc⊢
 have hrd:Zze s (begP c) (1+(getL s 1).2.1).toNat false=Za2 s:=by rw[Za2,hcc]
 have hbg:=Z11m s c hc;have hbz:(begP c).asks=[]/\(begP c).codes=[]:=by unfold begP;split<;>exact⟨rfl,rfl⟩
 have hat1:(1+(getL s 1).2.1)=((1+(getL s 1).2.1).toNat:Nat):=by omega
 refine⟨by have:=hat.1;omega,λb5=>?_⟩;rw[Z169 c 4 (by omega)];have e16:c / 2 ^ 4=c / 16:=rfl;rw[e16];refine⟨λh3=>⟨by omega,by omega,λb6=>?_⟩,λh3=>⟨by omega,by omega,λb6=>?_⟩⟩
 ·have eb:begP c={ pD_Q 3 with dup:=decide (c / 8 % 2=1),qos:=((c / 2 % 4:Nat):Int),retain:=decide (c % 2=1) }:=by rw[begP,if_pos (by omega)];rfl
  intro w1 hr;have q1:rdAt w1 b6 s (1+(getL s 1).2.1).toNat false:=by have:=hr.at_ 0 rfl;simp only[Ent.holds,QQ,Nat.reduceAdd]at this;rw[hat1]at this;exact this
  have q2:pAt w1 b5 (begP c) nilV nilV:=by have:=hr.at_ 1 rfl;simp only[Ent.holds,QQ,Nat.reduceAdd,hz,h4,h1]at this;rw[hcc,Z169 c 4 (by omega),Z169 c 1 (by omega),Z1dz c hc,Z1e0 c hc,Z1e1 c hc,e16,h3]at this;rw[eb];exact this
  refine(Z11p w1 b6 b5 s _ false (begP c) q1 q2 (λe=>Zp.disj hr.sep (i:=0) (j:=1) rfl rfl (by decide) (.inl rfl) (k:=b6) (by simp only[Ent.fp,QQ,Nat.reduceAdd]) (by simp only[Ent.fp,QQ,Nat.reduceAdd];exact e)) hln (by omega) hbz hbg).mono ?_;rintro e w2 ⟨rfl,g1,m1,x,y,g2,o1,o2,fx,fy,fxy⟩;rw[hrd]at g1 g2 o1 o2;(generalize hr0:Za2 s=r at g1 g2 o1 o2 hbd⊢);refine⟨[.s s,.i r.2.1,.b r.2.2,.i r.1.kind,.b r.1.dup,.b r.1.retain,.b r.1.clean,.b r.1.session,.i r.1.qos,.i r.1.id,.i r.1.keep,.i r.1.code,.s r.1.client,.s r.1.topic,.s r.1.payload,.v x,.r (r.1.asks.map encA),.v y,.r (r.1.codes.map Zh)],rfl,rfl,m1,qy2.2 ⟨g1,qy2.2 ⟨g2,qy5 _⟩⟩,qy2.2 ⟨⟨o1,λk hk=>.inl (fx k hk)⟩,qy2.2 ⟨⟨o2,λk hk=>.inl (fy k hk)⟩,qy5 _⟩⟩,List.pairwise_cons.2 ⟨λe he _ k hk hk'=>by { rw[qy12]at he;subst he;exact fxy k hk hk' },List.pairwise_singleton _ _⟩,?_⟩;simp only[QQ,Nat.reduceAdd];refine⟨[.b (Z7d r.1.kind)],rfl,λ_ w' _=>Zpq w' _,?_⟩;simp only[QQ,Nat.reduceAdd];refine⟨[.s (Z6j r.1)],rfl,λ_ w' hr=>Zlh w' r.1 x y (owns.reads (hr.at_ 0 rfl)) (owns.reads (hr.at_ 1 rfl)) (hbd.byte hs),?_⟩;simp only[QQ,Nat.reduceAdd];refine⟨λh w' hr=>?_,λh=>?_⟩;(· have hn:r.2.2=true\/Z7d r.1.kind=false\/1<r.1.qos\/Z6j r.1≠s:=h.elim (λh=>h.elim (λh=>h.elim .inl (λh=>.inr (.inl (by simpa using h)))) (λh=>.inr (.inr (.inl h)))) (λh=>.inr (.inr (.inr h)));refine⟨nilV,nilV,?_⟩;rw[decD,if_neg hL,hr0,if_pos hn];exact⟨rfl,Z3p hr.mod 0⟩);have hn:¬(r.2.2=true\/Z7d r.1.kind=false\/1<r.1.qos\/Z6j r.1≠s):=(λhh=>hh.elim (λa=>h (.inl (.inl (.inl a)))) (λhh=>hh.elim (λa=>h (.inl (.inl (.inr (by simp[a]))))) (λhh=>hh.elim (λa=>h (.inl (.inr a))) (λa=>h (.inr a)))));refine⟨[.i (chkP r.1)],rfl,λ_ w' hr=>Zer w' r.1 x y (owns.reads (hr.at_ 0 rfl)) (owns.reads (hr.at_ 1 rfl)) (hbd.small hs),?_⟩;simp only[QQ,Nat.reduceAdd];refine⟨λh2 w' hr=>?_,λh2 w' hr=>?_⟩;(· refine⟨nilV,nilV,?_⟩;rw[decD,if_neg hL,hr0,if_neg hn,if_neg h2];exact⟨rfl,Z3p hr.mod 0⟩);(· refine⟨x,y,?_⟩;rw[decD,if_neg hL,hr0,if_neg hn,if_pos (qy9.1 h2)];exact⟨rfl,hr.mod,owns.reads (hr.at_ 0 rfl),owns.reads (hr.at_ 1 rfl),λk hk=>(hr.own _ (qy6 (i:=0) rfl) rfl k hk).resolve_right (by simp),λk hk=>(hr.own _ (qy6 (i:=1) rfl) rfl k hk).resolve_right (by simp)⟩)
 ·have eb:begP c=pD_Q ((c / 16:Nat):Int):=by rw[begP,if_neg (by omega)]
  intro w1 hr;have q1:rdAt w1 b6 s (1+(getL s 1).2.1).toNat false:=by have:=hr.at_ 0 rfl;simp only[Ent.holds,QQ,Nat.reduceAdd]at this;rw[hat1]at this;exact this
  have q2:pAt w1 b5 (begP c) nilV nilV:=by have:=hr.at_ 1 rfl;simp only[Ent.holds,QQ,Nat.reduceAdd,hz,h4,h1]at this;rw[hcc,Z169 c 4 (by omega),e16]at this;rw[eb];exact this
  refine(Z11p w1 b6 b5 s _ false (begP c) q1 q2 (λe=>Zp.disj hr.sep (i:=0) (j:=1) rfl rfl (by decide) (.inl rfl) (k:=b6) (by simp only[Ent.fp,QQ,Nat.reduceAdd]) (by simp only[Ent.fp,QQ,Nat.reduceAdd];exact e)) hln (by omega) hbz hbg).mono ?_;rintro e w2 ⟨rfl,g1,m1,x,y,g2,o1,o2,fx,fy,fxy⟩;rw[hrd]at g1 g2 o1 o2;(generalize hr0:Za2 s=r at g1 g2 o1 o2 hbd⊢);refine⟨[.s s,.i r.2.1,.b r.2.2,.i r.1.kind,.b r.1.dup,.b r.1.retain,.b r.1.clean,.b r.1.session,.i r.1.qos,.i r.1.id,.i r.1.keep,.i r.1.code,.s r.1.client,.s r.1.topic,.s r.1.payload,.v x,.r (r.1.asks.map encA),.v y,.r (r.1.codes.map Zh)],rfl,rfl,m1,qy2.2 ⟨g1,qy2.2 ⟨g2,qy5 _⟩⟩,qy2.2 ⟨⟨o1,λk hk=>.inl (fx k hk)⟩,qy2.2 ⟨⟨o2,λk hk=>.inl (fy k hk)⟩,qy5 _⟩⟩,List.pairwise_cons.2 ⟨λe he _ k hk hk'=>by { rw[qy12]at he;subst he;exact fxy k hk hk' },List.pairwise_singleton _ _⟩,?_⟩;simp only[QQ,Nat.reduceAdd];refine⟨[.b (Z7d r.1.kind)],rfl,λ_ w' _=>Zpq w' _,?_⟩;simp only[QQ,Nat.reduceAdd];refine⟨[.s (Z6j r.1)],rfl,λ_ w' hr=>Zlh w' r.1 x y (owns.reads (hr.at_ 0 rfl)) (owns.reads (hr.at_ 1 rfl)) (hbd.byte hs),?_⟩;simp only[QQ,Nat.reduceAdd];refine⟨λh w' hr=>?_,λh=>?_⟩;(· have hn:r.2.2=true\/Z7d r.1.kind=false\/1<r.1.qos\/Z6j r.1≠s:=h.elim (λh=>h.elim (λh=>h.elim .inl (λh=>.inr (.inl (by simpa using h)))) (λh=>.inr (.inr (.inl h)))) (λh=>.inr (.inr (.inr h)));refine⟨nilV,nilV,?_⟩;rw[decD,if_neg hL,hr0,if_pos hn];exact⟨rfl,Z3p hr.mod 0⟩);have hn:¬(r.2.2=true\/Z7d r.1.kind=false\/1<r.1.qos\/Z6j r.1≠s):=(λhh=>hh.elim (λa=>h (.inl (.inl (.inl a)))) (λhh=>hh.elim (λa=>h (.inl (.inl (.inr (by simp[a]))))) (λhh=>hh.elim (λa=>h (.inl (.inr a))) (λa=>h (.inr a)))));refine⟨[.i (chkP r.1)],rfl,λ_ w' hr=>Zer w' r.1 x y (owns.reads (hr.at_ 0 rfl)) (owns.reads (hr.at_ 1 rfl)) (hbd.small hs),?_⟩;simp only[QQ,Nat.reduceAdd];refine⟨λh2 w' hr=>?_,λh2 w' hr=>?_⟩;(· refine⟨nilV,nilV,?_⟩;rw[decD,if_neg hL,hr0,if_neg hn,if_neg h2];exact⟨rfl,Z3p hr.mod 0⟩);(· refine⟨x,y,?_⟩;rw[decD,if_neg hL,hr0,if_neg hn,if_pos (qy9.1 h2)];exact⟨rfl,hr.mod,owns.reads (hr.at_ 0 rfl),owns.reads (hr.at_ 1 rfl),λk hk=>(hr.own _ (qy6 (i:=0) rfl) rfl k hk).resolve_right (by simp),λk hk=>(hr.own _ (qy6 (i:=1) rfl) rfl k hk).resolve_right (by simp)⟩)
def pubP:Pkt:=⟨3,false,false,false,false,1,10,0,0,[],[97,47,98],[104,105],[],[]⟩
theorem Zqi:chkP pubP=0:=by decide +kernel
theorem Zw3:Z6j pubP=[50,9,0,3,97,47,98,0,10,104,105]:=by decide +kernel
theorem Zw4:SmallP pubP:=⟨by decide,by decide,by decide,by decide,by decide,by decide⟩
theorem Z1fh(w:World):Calls Tryz.prog 21 #[] w λe w'=>e=.returned (pV pubP nilV nilV)/\Mod [] w w':=by refine Z1 (Z7 (J:=[]) sxE_ok Tryz.func21 Z99 rfl rfl rfl ?_) rfl;simp only[QQ,Nat.reduceAdd];exact λb w' hr=>⟨rfl,hr.mod⟩
section
variable (w:World) (p q:Pkt) (u v x y:Value)
end
end Go.Proofs.Y
namespace Go.Proofs.Y
open Go.Sx
def rdsA(l:List (Value×List Kd×List (List Value))):Asrt where
 holds w:=∀t∈l,reads w t.1 t.2.1 t.2.2
 fp k:=∃t∈l,t.2.2.flatten≠[]/\Z2 t.1 k
 stable:=λw w' h hh t ht=>(hh t ht).stable λk hk=>h k ⟨t,ht,hk⟩
 bound:=λw hh k ⟨t,ht,hk⟩=>Ent.bound (J:=[.v t.1,.r t.2.2]) (e:=.rd 0 t.2.1 (.var 1)) (hh t ht) hk
abbrev Z9c:=Pkt×Value×Value
abbrev xD:Z9c:=(pD_Q 0,nilV,nilV)
def Zc3(t:Z9c):List Value:=[.int .i64 t.1.kind,.bool t.1.dup,.bool t.1.retain,.bool t.1.clean,.bool t.1.session,.int .i64 t.1.qos,.int .i64 t.1.id,.int .i64 t.1.keep,.int .i64 t.1.code,.string ⟨t.1.client.toArray⟩,.string ⟨t.1.topic.toArray⟩,.string ⟨t.1.payload.toArray⟩,t.2.1,t.2.2]
abbrev KP:List Kd:=[.int .i64,.bool,.bool,.bool,.bool,.int .i64,.int .i64,.int .i64,.int .i64,.str,.str,.str,.oth,.oth]
abbrev Z1e2(w:World)(v:Value)(l:List Z9c):Prop:=reads w v KP (l.map Zc3)
def Z11r(t:Z9c):List (Value×List Kd×List (List Value)):=[(t.2.1,[.str,.int .i64],t.1.asks.map encA),(t.2.2,[.int .i64],t.1.codes.map Zh)]
def Z39(l:List Z9c):Asrt:=rdsA (l.flatMap Z11r)
theorem Zo5{l:List Z9c}{w:World}(h:(Z39 l).holds w){t:Z9c}(ht:t∈l):Z3i w t.2.1 t.1.asks/\Z2w w t.2.2 t.1.codes :=
 ⟨h (t.2.1,[.str,.int .i64],t.1.asks.map encA) (List.mem_flatMap.2 ⟨t,ht,by simp[Z11r]⟩),h (t.2.2,[.int .i64],t.1.codes.map Zh) (List.mem_flatMap.2 ⟨t,ht,by simp[Z11r]⟩)⟩
theorem Z16a(w:World):(Z39 []).holds w:=λt ht=>by cases ht
theorem Zo6(k:Nat):¬(Z39 []).fp k:=λ⟨t,ht,_⟩=>by cases ht
theorem Z11s{l:List Z9c}{t:Z9c}{w:World}(h:(Z39 l).holds w)(h1:Z3i w t.2.1 t.1.asks)(h2:Z2w w t.2.2 t.1.codes):(Z39 (l++[t])).holds w:=by
 intro x hx;rw[List.flatMap_append,qy13]at hx;rcases hx with hx|hx
 ·exact h x hx
 ·simp only[List.flatMap_cons,List.flatMap_nil,List.append_nil,Z11r,List.mem_cons,List.not_mem_nil,or_false]at hx;rcases hx with rfl|rfl
  ·exact h1
  ·exact h2
theorem Zo7{l:List Z9c}{t:Z9c}{k:Nat}(h:(Z39 (l++[t])).fp k):(Z39 l).fp k\/((t.1.asks.map encA).flatten≠[]/\Z2 t.2.1 k)\/((t.1.codes.map Zh).flatten≠[]/\Z2 t.2.2 k):=by
 obtain⟨x,hx,hk⟩:=h;rw[List.flatMap_append,qy13]at hx;rcases hx with hx|hx
 ·exact .inl ⟨x,hx,hk⟩
 ·simp only[List.flatMap_cons,List.flatMap_nil,List.append_nil,Z11r,List.mem_cons,List.not_mem_nil,or_false]at hx;rcases hx with rfl|rfl
  ·exact .inr (.inl hk)
  ·exact .inr (.inr hk)
theorem Z1e3{l:List Z9c}{i:Nat}(h:i<l.length):(l.map Zc3).getD i []=Zc3 (l.getD i xD):=by rw[qy1,qy1,List.getElem?_map,qy7 h];rfl
def Z3q(s:List UInt8):Int×Int :=
 if s=[]then(0,8)
 else if(getL s 1).2.2≠0 then(0,(getL s 1).2.2)
 else if 600<1+(getL s 1).2.1+(getL s 1).1 then(0,2)
 else if(s.length:Int)<1+(getL s 1).2.1+(getL s 1).1 then(0,8)
 else(1+(getL s 1).2.1+(getL s 1).1,0)
def Z1u(s:List UInt8):Pkt×Int×Int :=
 if(Z3q s).2≠0 then(pD_Q 0,0,(Z3q s).2)else((decD (s.take (Z3q s).1.toNat)).1,(Z3q s).1,(decD (s.take (Z3q s).1.toNat)).2)
def Z7t:Nat->List UInt8->List Pkt->List Pkt×List UInt8×Int
 | 0,s,out=>(out,s,0)
 | f+1,s,out =>
  if(Z1u s).2.2=0 then Z7t f (s.drop (Z1u s).2.1.toNat) (out++[(Z1u s).1])
  else if(Z1u s).2.2=8 then(out,s,0)else(out,[],(Z1u s).2.2)
def feed(s:List UInt8):List Pkt×List UInt8×Int:=Z7t (s.length+1) s []
theorem Ztn{s:List UInt8}(h:(Z3q s).2=0):s≠[]/\(getL s 1).2.2=0/\(Z3q s).1=1+(getL s 1).2.1+(getL s 1).1/\1<=(Z3q s).1/\(Z3q s).1<=s.length/\(Z3q s).1<=600:=by
 have hb:=Zpn s 1;unfold Z3q at h⊢;split at h
 ·simp at h
 ·rename_i h0;rw[if_neg h0];split at h
  ·rename_i h1;exact absurd h h1
  ·rename_i h1;rw[if_neg h1];split at h
   ·simp at h
   ·rename_i h2;rw[if_neg h2];split at h
    ·simp at h
    ·rename_i h3;rw[if_neg h3];exact⟨h0,by omega,rfl,by simp only;omega,by simp only;omega,by simp only;omega⟩
theorem Zto{s:List UInt8}(h:(Z1u s).2.2=0):(Z3q s).2=0/\(Z1u s).2.1=(Z3q s).1/\(Z1u s).1=(decD (s.take (Z3q s).1.toNat)).1/\(decD (s.take (Z3q s).1.toNat)).2=0:=by
 unfold Z1u at h⊢;split at h
 ·rename_i h0;exact absurd h h0
 ·rename_i h0;rw[if_neg h0];exact⟨by omega,rfl,rfl,h⟩
theorem Zex{s:List UInt8}(h:(Z1u s).2.2=0):1<=(Z1u s).2.1/\(Z1u s).2.1<=s.length:=by obtain⟨h1,h2,-,-⟩:=Zto h;have:=Ztn h1;omega
theorem Zjf:∀(f g:Nat) (s:List UInt8) (out:List Pkt),s.length<f->s.length<g->Z7t f s out=Z7t g s out
 | 0,_,s,_,h,_=>by omega
 | _+1,0,s,_,_,h=>by omega
 | f+1,g+1,s,out,h1,h2=>by
  rw[Z7t,Z7t];split
  ·rename_i h;have hb:=Zex h;exact Zjf f g _ _ (by rw[List.length_drop];omega) (by rw[List.length_drop];omega)
  ·rfl
theorem Zjg{s:List UInt8}{out:List Pkt}(h:(Z1u s).2.2=0):Z7t (s.length+1) s out=Z7t ((s.drop (Z1u s).2.1.toNat).length+1) (s.drop (Z1u s).2.1.toNat) (out++[(Z1u s).1]):=by have hb:=Zex h;rw[Z7t,if_pos h];exact Zjf _ _ _ _ (by rw[List.length_drop];omega) (by omega)
theorem Z1e4(w:World)(s:List UInt8)(hs:s.length<4611686018427387904):Calls Tryz.prog 85 #[.string ⟨s.toArray⟩] w λe w'=>e=.returned (.tuple #[.int .i64 (Z3q s).1,.int .i64 (Z3q s).2])/\Mod [] w w':=by refine Z1 (Z7 (J:=[.s s]) sxE_ok Tryz.func85 Zfm rfl rfl rfl ?_) rfl;have hb:=Zpn s 1;simp only[QQ,Nat.reduceAdd];refine⟨λh w' hr=>⟨by rw[Z3q,if_pos h],hr.mod⟩,λh=>?_⟩;rw[Z3q,if_neg h];refine⟨[.i (getL s 1).1,.i (getL s 1).2.1,.i (getL s 1).2.2],rfl,λ_ w' _=>Zn2 w' s 1 (by omega),?_⟩;simp only[QQ,Nat.reduceAdd];refine⟨by omega,by omega,by omega,by omega,λh1 w' hr=>⟨by rw[if_pos h1],hr.mod⟩,λh1=>?_⟩;rw[if_neg h1];refine⟨λh2 w' hr=>⟨by rw[if_pos h2],hr.mod⟩,λh2=>?_⟩;rw[if_neg h2];exact⟨λh3 w' hr=>⟨by rw[if_pos h3],hr.mod⟩,λh3 w' hr=>⟨by rw[if_neg h3],hr.mod⟩⟩
theorem Z1e5(w:World)(s:List UInt8)(hs:s.length<=60000000):Calls Tryz.prog 38 #[.string ⟨s.toArray⟩] w λe w'=>∃x y,e=.returned (.tuple #[pV (Z1u s).1 x y,.int .i64 (Z1u s).2.1,.int .i64 (Z1u s).2.2])/\Zqh w w' (Z1u s).1 x y:=by
 refine Z1 (Z7 (J:=[.s s]) sxE_ok Tryz.func38 Zfl rfl rfl rfl ?_) rfl;simp only[QQ,Nat.reduceAdd];intro b1;refine⟨[.i (Z3q s).1,.i (Z3q s).2],rfl,λ_ w' _=>Z1e4 w' s (by omega),?_⟩;simp only[QQ,Nat.reduceAdd];refine⟨λh w' hr=>⟨nilV,nilV,?_⟩,λh=>?_⟩
 ·rw[Z1u,if_pos h];exact⟨rfl,Z3p hr.mod 0⟩
 have hz:=Ztn (qy9.1 h);rw[Z1u,if_neg h];refine⟨by omega,by omega,?_⟩;have hlt:(s.take (Z3q s).1.toNat).length<=60000000:=by rw[List.length_take];omega
 intro w1 hr;refine(Z11q w1 (s.take (Z3q s).1.toNat) hlt).mono ?_;generalize decD (s.take (Z3q s).1.toNat)=r
 obtain⟨q,er⟩:=r;rintro e w2 ⟨x,y,rfl,m,rx,ry,fx,fy⟩;refine⟨[.i q.kind,.b q.dup,.b q.retain,.b q.clean,.b q.session,.i q.qos,.i q.id,.i q.keep,.i q.code,.s q.client,.s q.topic,.s q.payload,.v x,.r (q.asks.map encA),.v y,.r (q.codes.map Zh),.i er],rfl,rfl,m,qy5 _,qy2.2 ⟨⟨rx,λk hk=>.inl (fx k hk.2)⟩,qy2.2 ⟨⟨ry,λk hk=>.inl (fy k hk.2)⟩,qy5 _⟩⟩,Z6n (by simp[Ent.wr]),?_⟩;simp only[QQ,Nat.reduceAdd];have hw:=hr.mod.size;clear m hr;intro b2;exact λw' hr=>⟨x,y,rfl,hr.mod,hr.at_ 1 rfl,hr.at_ 2 rfl,λk hk=>Nat.le_trans hw (fx k hk),λk hk=>Nat.le_trans hw (fy k hk)⟩
def Z16b(w w':World)(x:Value)(l:List Z9c):Prop:=Mod [] w w'/\Z1e2 w' x l/\(Z39 l).holds w'/\(∀k,Z2 x k->w.heap.size<=k)/\∀k,(Z39 l).fp k->w.heap.size<=k
