/-
  Texts of mine, one behind the other. By an AI agent.
-/
import Derived.Test.YtkhakgbnfapifaaGreatDoorY19
import Derived.Test.YtkhakgbnfapifaaGreatDoorY20
import Derived.Test.YtkhakgbnfapifaaGreatDoorY01
import Derived.WalkKit
import Derived.ProofKit
import Derived.OpenShut
import Derived.JoinedCond
import Derived.ChangeStays
import Derived.Test.YtkhakgbnfapifaaGreatDoorY05
import Derived.Test.YtkhakgbnfapifaaGreatDoorY11
import Derived.Test.YtkhakgbnfapifaaGreatDoorY09
import Derived.Test.YtkhakgbnfapifaaGreatDoorY10
set_option linter.unusedSimpArgs false
set_option linter.unusedVariables false
set_option maxHeartbeats 20000000
namespace Go.Proofs.YtkhakgbnfapifaaGreatDoor
open Go Go.Sx
end Go.Proofs.YtkhakgbnfapifaaGreatDoor
namespace Go.Proofs.YtkhakgbnfapifaaGreatDoor
open Go.Sx
def pub0 (n p:List UInt8):Pkt:={ pD_Q 3 with topic:=n,payload:=p }
theorem Z11r {c n p:List UInt8} {t:Tel} (h1:hasS t.sess c=true) (h2:(t.sess.getD (idxS t.sess c) s0).on=true):Z1l c (pub0 n p) t=Z5q n p 0 t:=by
 rw[Z1l,if_neg,if_neg (show ¬(pub0 n p).kind=1 from (by show ¬(3:Int)=1;decide)),if_pos (show (pub0 n p).kind=3 from rfl),Z3j]
 ·rfl
 ·rintro⟨-,h|h⟩
  ·exact h h1
  ·exact h h2
theorem Zzg {c n p:List UInt8} {t:Tel} (h:¬hasS t.sess c=true\/¬(t.sess.getD (idxS t.sess c) s0).on=true):Z1l c (pub0 n p) t=t:=by rw[Z1l,if_pos ⟨(by show ¬(3:Int)=1;decide),h⟩]
def Zd3 (n p:List UInt8) (t:Tel) (r:Rd):List Snt:=if (t.sess.getD (idxS t.sess r.1) s0).on=true then [toC r.1 (pkOf (pk0 n p))] else []
theorem Zlj {n p:List UInt8} {t:Tel} {r:Rd}:∀s∈Zd3 n p t r,s=toC r.1 (pkOf (pk0 n p)):=by
 intro s hs;unfold Zd3 at hs;split at hs
 ·exact qy12.1 hs
 ·cases hs
theorem Zvo (l:List Ses) (i:Nat):l.set i (l.getD i s0)=l:=by
 apply List.ext_getElem?;intro j;rw[List.getElem?_set];split
 ·rename_i h;subst h;split
  ·rename_i h2;rw[qy1,qy7 h2];rfl
  ·rename_i h2;rw[List.getElem?_eq_none (by omega)]
 ·rfl
theorem Z11s {n p:List UInt8} {t:Tel} {r:Rd} (hq:0<=r.2):Z1c n p 0 t r={ t with out:=t.out++Zd3 n p t r }:=by
 have hm:min (0:Int) r.2=0:=by omega
 have e:Z2h (t.sess.getD (idxS t.sess r.1) s0) n p 0=(t.sess.getD (idxS t.sess r.1) s0,if (t.sess.getD (idxS t.sess r.1) s0).on=true then [pk0 n p] else []):=by
  unfold Z2h;by_cases h:(t.sess.getD (idxS t.sess r.1) s0).on=true
  ·rw[if_pos ⟨rfl,h⟩,if_pos h]
  ·rw[if_neg (fun h2=>h h2.2),if_neg (fun h2=>absurd h2.1.1 (by decide)),if_neg h]
 simp only[Z1c,hm,e,Zvo,Zd3];congr 2
 split<;>rfl
theorem Zsb {n p:List UInt8}:∀(rs:List Rd) {t:Tel},(∀r∈rs,0<=r.2)->rs.foldl (Z1c n p 0) t={ t with out:=t.out++rs.flatMap (Zd3 n p t) }
 | [],t,_=>by simp
 | r::rs,t,h=>by rw[List.foldl_cons,Z11s (h r (qy8 ..)),Zsb rs (fun x hx=>h x (qy10 _ hx)),List.flatMap_cons];simp only[List.append_assoc];rfl
def isW (p:List UInt8) (s:Snt) (w:Wat):Prop:=s.client=[]/\s.pk=pD_Q 0/\s.peer=w.1/\s.msg.tok=w.2.1/\s.msg.pay=p/\s.msg.code=69
theorem Zck {p:List UInt8}:∀(l:List Wat) (t:Tel),∃O:List Snt,(l.foldl (Z4q p) t).out=t.out++O/\O.length=l.length/\∀s∈O,∃w∈l,isW p s w
 | [],t=>⟨[],by simp,rfl,by simp⟩
 | w::l,t=>by
  obtain⟨O,h1,h2,h3⟩:=Zck l (Z4q p t w);refine⟨toP w.1 (putM ⟨1,69,t.next,w.2.1,[],p⟩ w.2.2.2)::O,?_,by simp[h2],fun s hs=>?_⟩
  ·rw[List.foldl_cons,h1];simp[Z4q]
  ·rcases List.mem_cons.1 hs with rfl|hs
   ·exact⟨w,qy8 ..,rfl,rfl,rfl,rfl,rfl,rfl⟩
   ·obtain⟨x,hx,e⟩:=h3 s hs;exact⟨x,qy10 _ hx,e⟩
theorem Zsc {n:List UInt8} {l:List Wat} {w:Wat} (h:w∈Z33 n l):∃x∈l,x.1=w.1/\x.2.1=w.2.1/\x.2.2.1=n:=by
 obtain⟨x,hx,rfl⟩:=List.mem_map.1 h;obtain⟨h1,h2⟩:=List.mem_filter.1 hx;refine⟨x,h1,?_,?_,of_decide_eq_true h2⟩
 ·unfold Z5o;split<;>rfl
 ·unfold Z5o;split<;>rfl
theorem Zsd {t:Tel} (h:BOk t) (ho:t.out=[]) (n p:List UInt8):∃O:List Snt,(Z5q n p 0 t).out=(rdOf n t.wants).flatMap (Zd3 n p t)++O /\ O.length=(t.wat.filter fun w=>decide (w.2.2.1=n)).length/\∀s∈O,∃w∈t.wat,isW p s w/\w.2.2.1=n:=by
 have hq:∀r∈rdOf n t.wants,0<=r.2:=fun r hr=>by obtain⟨x,hx,-,e,h4⟩:=Zas h.wants hr;have:=(Zqg ((Zk.1 h.wants).2.1 x hx)).2.2.1;omega
 have e1:Z38 n p 0 t={ t with out:=(rdOf n t.wants).flatMap (Zd3 n p t) }:=by rw[Z38,Zsb _ hq,ho,List.nil_append]
 obtain⟨O,h1,h2,h3⟩:=Zck (p:=p) (Z33 n t.wat) { Z38 n p 0 t with wat:=Z2r n (Z38 n p 0 t).wat };refine⟨O,?_,?_,fun s hs=>?_⟩
 ·rw[Z5q,e1];rw[e1]at h1;exact h1
 ·rw[h2,Z33,qy3]
 ·obtain⟨w,hw,hi⟩:=h3 s hs;obtain⟨x,hx,a,b,c⟩:=Zsc hw;exact⟨x,hx,⟨hi.1,hi.2.1,by rw[a];exact hi.2.2.1,by rw[b];exact hi.2.2.2.1,hi.2.2.2.2⟩,c⟩
theorem Zse {f:Rd->List Snt} (hf:∀r,∀s∈f r,s.client=r.1):∀(rs:List Rd),(rs.map (·.1)).Nodup->∀r∈rs,(rs.flatMap f).filter (fun s=>decide (s.client=r.1))=f r
 | [],_,_,hr=>by cases hr
 | x::rs,hn,r,hr=>by
  rw[List.map_cons,List.nodup_cons]at hn;obtain⟨h1,h2⟩:=hn;rw[List.flatMap_cons,List.filter_append];rcases List.mem_cons.1 hr with rfl|hr
  ·have e1:(f r).filter (fun s=>decide (s.client=r.1))=f r:=List.filter_eq_self.2 fun s hs=>decide_eq_true (hf r s hs);have e2:(rs.flatMap f).filter (fun s=>decide (s.client=r.1))=[]:=by
    rw[List.filter_eq_nil_iff];intro s hs;obtain⟨y,hy,hsy⟩:=List.mem_flatMap.1 hs;have e:=hf y s hsy;intro h3;have h3:=of_decide_eq_true h3;exact h1 (List.mem_map.2 ⟨y,hy,by rw[<- e,h3]⟩)
   rw[e1,e2,List.append_nil]
  ·have e1:(f x).filter (fun s=>decide (s.client=r.1))=[]:=by
    rw[List.filter_eq_nil_iff];intro s hs h3;have h3:=of_decide_eq_true h3;exact h1 (List.mem_map.2 ⟨r,hr,by rw[<- h3,hf x s hs]⟩)
   rw[e1,List.nil_append];exact Zse hf rs h2 r hr
theorem Zvp {t:Tel} (h:BOk t) (n:List UInt8):((rdOf n t.wants).map (·.1)).Nodup:=by have hs:=(Zf4 (n:=n) (Z6d (Zk.1 h.wants).2.2)).1;rw[List.nodup_iff_pairwise_ne,List.pairwise_map];refine List.Pairwise.imp (fun {a b} h2 e=>?_) hs;rw[e,Z1a]at h2;cases h2
theorem Zzh {t:Tel} (h:BOk t) {n:List UInt8} {r:Rd} (hr:r∈rdOf n t.wants):¬r.1=[]:=fun e=>by have h1:=Z5c h n r hr;obtain⟨h2,h3⟩:=Z5b h1;have h4:=(h.ses _ (Zfc h2)).cl;rw[h3,e]at h4;exact absurd h4 (by decide)
structure ToldOk (t:Tel) (n p:List UInt8) (out:List Snt):Prop where
 each:∀s∈out,(s.client=[]/\∃w∈t.wat,isW p s w/\w.2.2.1=n)\/(¬s.client=[]/\(∃q,(s.client,q)∈rdOf n t.wants)/\s.pk=pkOf (pk0 n p))
 cnt:(out.filter fun s=>decide (s.client=[])).length=(t.wat.filter fun w=>decide (w.2.2.1=n)).length
 rds:∀r∈rdOf n t.wants,hasS t.sess r.1=true/\(out.filter fun s=>decide (s.client=r.1)).length=if (t.sess.getD (idxS t.sess r.1) s0).on=true then 1 else 0
theorem Zzi {t:Tel} (h:BOk t) (ho:t.out=[]) (n p:List UInt8):ToldOk t n p (Z5q n p 0 t).out:=by
 obtain⟨O,e,hl,hO⟩:=Zsd h ho n p;have hf:∀r,∀s∈Zd3 n p t r,s.client=r.1:=fun r s hs=>by rw[Zlj s hs]
 have hOc:∀s∈O,s.client=[]:=fun s hs=>by obtain⟨w,-,hi,-⟩:=hO s hs;exact hi.1
 rw[e];refine⟨fun s hs=>?_,?_,fun r hr=>⟨Z5c h n r hr,?_⟩⟩
 ·rcases qy13.1 hs with hs|hs
  ·obtain⟨r,hr,hsr⟩:=List.mem_flatMap.1 hs;have e2:=Zlj s hsr;subst e2;exact .inr ⟨Zzh h hr,⟨r.2,hr⟩,rfl⟩
  ·exact .inl ⟨hOc s hs,hO s hs⟩
 ·rw[List.filter_append];have e1:((rdOf n t.wants).flatMap (Zd3 n p t)).filter (fun s=>decide (s.client=[]))=[]:=by
   rw[List.filter_eq_nil_iff];intro s hs h3;obtain⟨r,hr,hsr⟩:=List.mem_flatMap.1 hs;have h3:=of_decide_eq_true h3;rw[hf r s hsr]at h3;exact Zzh h hr h3
  have e2:O.filter (fun s=>decide (s.client=[]))=O:=List.filter_eq_self.2 fun s hs=>decide_eq_true (hOc s hs);rw[e1,e2,List.nil_append,hl]
 ·rw[List.filter_append,Zse hf _ (Zvp h n) r hr];have e2:O.filter (fun s=>decide (s.client=r.1))=[]:=by
   rw[List.filter_eq_nil_iff];intro s hs h3;have h3:=of_decide_eq_true h3;rw[hOc s hs]at h3;exact Zzh h hr h3.symm
  rw[e2,List.append_nil,Zd3];split<;>rfl
end Go.Proofs.YtkhakgbnfapifaaGreatDoor
namespace Go.Proofs.YtkhakgbnfapifaaGreatDoor
open Go Go.Sx
theorem Zfp {α:Type} (p:α->Bool) (d:α) (l:List α) {i:Nat} (h:i<l.length):((l.take (i+1)).filter p).length=((l.take i).filter p).length+(if p (l.getD i d)=true then 1 else 0):=by rw[List.take_add_one,qy7 h,List.filter_append,qy11,qy1,qy7 h];cases hp:p l[i]<;>simp[hp,List.filter]
theorem Zvq {α:Type} (p:α->Bool) (d:α) (l:List α) {i:Nat} (h:i<l.length):(l.take (i+1)).any p=((l.take i).any p || p (l.getD i d)):=by rw[List.take_add_one,qy7 h,List.any_append,qy1,qy7 h];simp
theorem Zsf (p:Snt->Bool) (l:List SntX):((l.map (·.1)).filter p).length=(l.filter fun t=>p t.1).length:=by rw[List.filter_map,qy3];rfl
theorem Zja {l:List Ses} {c:List UInt8} (h:hasS l c=true):atS l c=idxS l c:=if_pos h
theorem Zvr {x:TelX} {c:List UInt8} (h:hasS x.tel.sess c=true):Value.gB (((x.sx.map Zh).getD (atS x.tel.sess c).toNat []).getD 1 undef)=(x.tel.sess.getD (idxS x.tel.sess c) s0).on/\atS x.tel.sess c<x.sx.length:=by have h1:=(Zhl h).1;rw[Zja h,qy4,Za9 h1,<- (Zhl h).2];exact⟨rfl,by omega⟩
theorem Zhq (w:World) (x:TelX) (c nm pay:List UInt8) (hx:RdX w x) (ho:x.ox=[]) (hs:SmlT x.tel) (hcn:c.length<1000000000) (hnn:nm.length<1000000000) (hpn:pay.length<1000000000) : Calls Tryz.prog 6 #[bkV x,.string ⟨c.toArray⟩,.string ⟨nm.toArray⟩,.string ⟨pay.toArray⟩] w fun e w'=>e=.returned (.bool true)/\Mod [] w w':=by
  refine Z2 (Z4 (ρ:=bkA x++[V.s c,V.s nm,V.s pay]) sxE_ok Tryz.func6 Z3z rfl rfl
    (Rel.start2 (qy2.2 ⟨⟨hx.kept,rfl⟩,qy2.2 ⟨⟨hx.want,rfl⟩,qy2.2 ⟨⟨hx.sess,rfl⟩,qy2.2 ⟨⟨hx.nest,rfl⟩,qy2.2 ⟨⟨hx.wat,rfl⟩,qy5 _⟩⟩⟩⟩⟩)) rfl rfl ?_) rfl
  simp only[Tree.goal,X.P,X.ev,SV.ev,CV.ev,Sc.ev,qz,QA,QB,QC,QD,QE,QF,QG,QH,QI,QJ,QK,QL,QM,Nat.reduceAdd,qy3,qy4,Z1t,Z1u,Z17,gY0];have hxo:x.tel.out=[]:=by simp[TelX.tel,ho]
  have hcl:c.length<1099511627776:=by omega
  intro b13;refine⟨[.b true],rfl,fun _ w' _=>Zfo w',?_⟩;simp only[Tree.goal,X.P,X.ev,SV.ev,CV.ev,Sc.ev,qz,QA,QB,QC,QD,QE,QF,QG,QH,QI,QJ,QK,QL,QM,Nat.reduceAdd,qy3,qy4,Z1t,Z1u,Z17,gY0];refine⟨[.b true],rfl,fun _ w' _=>Zit w',?_⟩;simp only[Tree.goal,X.P,X.ev,SV.ev,CV.ev,Sc.ev,qz,QA,QB,QC,QD,QE,QF,QG,QH,QI,QJ,QK,QL,QM,Nat.reduceAdd,qy3,qy4,Z1t,Z1u,Z17,gY0];refine⟨fun h=>absurd h (by simp),fun _=>?_⟩;intro b16 w1 hr1;have spub:SmallP (pub0 nm pay):=⟨(by decide:(0:Nat)<1000000000),hnn,hpn,(by decide:(0:Nat)<1000000000),(by decide:(0:Nat)<1000000000),fun a ha=>by cases ha⟩
  have hq:=Zhp w1 x c (pub0 nm pay) (.slice none 0 0) (.slice none 0 0) (Zwk ⟨hr1.at_ 2 rfl,hr1.at_ 3 rfl,hr1.at_ 4 rfl,hr1.at_ 5 rfl,hr1.at_ 6 rfl⟩ (Z8 w1 _) (Z8 w1 _)) ho hs.b hs.f hcl spub;obtain⟨e1,he1⟩:∃e,pktE c (pub0 nm pay) x.tel=e:=⟨_,rfl⟩
  rw[he1]at hq;refine(Zs7 hr1 17 hq rfl).mono ?_;rintro r w2 ⟨y1,t1,-,rfl,m1,m3,m4⟩;refine⟨brV y1 e1,rfl,rfl,m1,qy5 _,m3,m4,?_⟩;clear m1 m3 m4 hr1 hq;intro b30;simp only[Tree.goal,X.P,X.ev,SV.ev,CV.ev,Sc.ev,qz,QA,QB,QC,QD,QE,QF,QG,QH,QI,QJ,QK,QL,QM,Nat.reduceAdd,qy3,qy4,Z1t,Z1u,Z17,gY0];refine⟨fun h w' hr=>⟨?_,hr.mod⟩,fun h=>?_⟩
  . have:y1.ox=[]:=by
      have:=congrArg Tel.out t1;rw[resB,if_neg h]at this;simpa [TelX.tel,telN]using this
    simp[this]
  have h1:e1=0:=qy9.1 h;clear h;obtain⟨hB,hcb,hpo⟩:=Zzf (he1.trans h1);rw[h1,Zvn]at t1;have lo:y1.ox.length<=1000:=by have h1:=(Zn1 hB hcb hpo).2;rw[<- t1,hxo]at h1;simp[TelX.tel]at h1;omega
  have hn0:chkT nm false=0:=(Zre ((Zcg hpo).2.1 rfl)).1;refine⟨[.i (atS x.tel.sess c)],rfl,fun _ w' hr=>Zci w' x.sv x.sx c (hr.at_ 11 rfl) hB.sort (by have:=hs.b.sessL;omega),?_⟩;simp only[Tree.goal,X.P,X.ev,SV.ev,CV.ev,Sc.ev,qz,QA,QB,QC,QD,QE,QF,QG,QH,QI,QJ,QK,QL,QM,Nat.reduceAdd,qy3,qy4,Z1t,Z1u,Z17,gY0];have hlt:atS x.tel.sess c<0\/atS x.tel.sess c<x.sx.length:=by
    by_cases h:hasS x.tel.sess c=true
    . exact .inr (Zvr h).2
    . left;rw[atS,if_neg h];decide
  refine⟨by omega,hlt,fun h w' hr=>⟨?_,hr.mod⟩,fun h=>?_⟩
  . have:y1.ox=[]:=by
      have h2:y1.tel=x.tel:=by
        rw[t1];refine Zzg ?_;by_cases hh:hasS x.tel.sess c=true
        . right;rcases h with h|h
          . rw[Zja hh]at h;omega
          . rw[(Zvr hh).1]at h;exact h
        . exact .inl hh
      have:=congrArg Tel.out h2;rw[hxo]at this;simpa [TelX.tel]using this
    simp[this]
  have hh:hasS x.tel.sess c=true:=Classical.byContradiction fun h2=>h (.inl (by rw[atS,if_neg h2];decide));have hon:(x.tel.sess.getD (idxS x.tel.sess c) s0).on=true:=Classical.byContradiction fun h2=>h (.inr (by rw[(Zvr hh).1];exact h2));clear h;rw[Z11r hh hon]at t1;have TK:=Zzi hB hxo nm pay;rw[<- t1]at TK;have hout:y1.tel.out=y1.ox.map (·.1):=rfl;rw[hout]at TK;clear t1 hlt;intro w3 hr3;have hrd:Zh5 x.wants nm=(rdOf nm x.wants,0):=by
    have:Zh4 x.wants nm=0:=by rw[Zh4,if_pos (show Ze x.wants=0 from hB.wants)];exact hn0
    rw[Zh5,if_pos this]
  have hcR:=Zh6 w3 x.wv x.wants nm (hr3.at_ 10 rfl) hs.wants hs.wantsL hnn;rw[hrd]at hcR;refine hcR.mono ?_;rintro r w4 ⟨v',rfl,g1,g2,g3⟩;have hw20:(rdOf nm x.wants).length<=20:=Zr5 nm hB.wants;obtain⟨rds,hrds⟩:∃l,rdOf nm x.wants=l:=⟨_,rfl⟩
  have hsr:Zim rds:=by rw[<- hrds];exact(Zf4 (n:=nm) (Z6d (Zk.1 hB.wants).2.2)).1
  have hrq:∀r∈rds,0<=r.2:=fun r hr=>by rw[<- hrds]at hr;obtain⟨z,hz,-,-,h4⟩:=Zas hB.wants hr;have:=(Zqg ((Zk.1 hB.wants).2.1 z hz)).2.2.1;omega
  have TKe:=TK.each;have TKr:=TK.rds;have TKc:=TK.cnt;simp only[show x.tel.wants=x.wants from rfl,show x.tel.wat=x.wat from rfl,hrds]at TKe TKr TKc;rw[hrds]at g1 hw20;simp only[hrds];refine⟨[.v v',.r (rds.map encY),.i 0],rfl,rfl,g3,qy5 _,qy2.2 ⟨⟨g1,fun k hk=>.inl (g2 k hk.2)⟩,qy5 _⟩,Z3,?_⟩;clear g1 g2 g3 hr3 hcR;simp only[Tree.goal,X.P,X.ev,SV.ev,CV.ev,Sc.ev,qz,QA,QB,QC,QD,QE,QF,QG,QH,QI,QJ,QK,QL,QM,Nat.reduceAdd,qy3,qy4,Z1t,Z1u,Z17,gY0];refine⟨fun h=>absurd trivial h,fun _=>?_⟩;have w12:x.wat.length<=12:=(Z13.1 hB.wat).1;refine⟨fun vs=>∃(u:V) (i:Nat),vs=[u,.i (((y1.ox.take i).filter fun t=>decide (t.1.client=[])).length:Nat),.i i]/\i<=y1.ox.length,fun vs=>y1.ox.length - (vs.getD 2 (.i 0)).toI.toNat,⟨_,0,rfl,by omega⟩,?_⟩;rintro _ - ⟨u,i,rfl,hi⟩;simp only[Tree.goal,X.P,X.ev,SV.ev,CV.ev,Sc.ev,qz,QA,QB,QC,QD,QE,QF,QG,QH,QI,QJ,QK,QL,QM,Nat.reduceAdd,qy3,qy4,Z1t,Z1u,Z17,gY0];refine⟨fun h6=>⟨by omega,fun b38=>?_⟩,fun h6=>?_⟩
  . have hi1:i<y1.ox.length:=by omega
    have r1:=Zn6 hi1;have m1:=Z117 hi1;have hct:=Zfp (fun t:SntX=>decide (t.1.client=[])) sntD y1.ox hi1;have he:=TKe _ (List.mem_map_of_mem m1);have hle:((y1.ox.take i).filter fun t=>decide (t.1.client=[])).length<=y1.ox.length:=Nat.le_trans (List.length_filter_le _ _) (by rw[List.length_take];omega);simp only[r1,Z30,List.getD_cons_zero,List.getD_cons_succ,Value.gI,Value.gB,Value.gS,Z2p];generalize ga:y1.ox.getD i sntD=ta at *
    obtain⟨⟨sc,sp,sn,sm⟩,a1,a2,a3⟩:=ta;simp only at he hct ⊢;generalize hT:((y1.ox.take i).filter fun t=>decide (t.1.client=[])).length=T at hct hle ⊢
    refine⟨fun h7=>?_,fun h7=>?_⟩
    . rw[decide_eq_true h7,if_pos rfl]at hct;refine⟨fun vs=>∃k:Nat,vs=[.b ((x.wat.take k).any fun w=>decide ((w.1=sn/\w.2.1=sm.tok)/\w.2.2.1=nm)),.i k]/\k<=x.wat.length,fun vs=>x.wat.length - (vs.getD 1 (.i 0)).toI.toNat,⟨0,rfl,by omega⟩,?_⟩;rintro _ - ⟨k,rfl,hk⟩;simp only[Tree.goal,X.P,X.ev,SV.ev,CV.ev,Sc.ev,qz,QA,QB,QC,QD,QE,QF,QG,QH,QI,QJ,QK,QL,QM,Nat.reduceAdd,qy3,qy4,Z1t,Z1u,Z17,gY0];refine⟨fun h8=>⟨.inr (by omega),.inr (by omega),.inr (by omega),by omega,by omega,⟨k+1,?_,by omega⟩,by omega⟩,fun h8=>⟨fun h9=>?_,fun _=>⟨by omega,by omega,by omega,by omega,⟨u,i+1,?_,by omega⟩,by omega⟩⟩⟩
      . rw[Zvq _ wD_K _ (by omega)];simp only[Bool.decide_and];rfl
      . exfalso;rcases he with ⟨-,z,hz,hw,ht⟩|⟨h10,-⟩
        . have hk':k=x.wat.length:=by omega
          rw[hk',List.take_length]at h9;rcases h9 with (h9|h9)|h9
          . exact h9 (List.any_eq_true.2 ⟨z,hz,decide_eq_true ⟨⟨hw.2.2.1.symm,hw.2.2.2.1.symm⟩,ht⟩⟩)
          . exact h9 hw.2.2.2.2.1
          . exact h9 hw.2.2.2.2.2
        . exact h10 h7
      . rw[hct];rfl
    . rw[decide_eq_false h7,if_neg Bool.false_ne_true]at hct;rcases he with ⟨h10,-⟩|⟨-,⟨q,hq⟩,hpk⟩
      . exact absurd h10 h7
      have hqe:=Zpy hsr hq;have hq0:=hrq _ hq;simp only at hq0 hpk;refine⟨[.i (qosY rds sc)],rfl,fun _ w' hr=>Zyh w' v' rds sc (hr.at_ 1 rfl) (by omega),?_⟩;simp only[Tree.goal,X.P,X.ev,SV.ev,CV.ev,Sc.ev,qz,QA,QB,QC,QD,QE,QF,QG,QH,QI,QJ,QK,QL,QM,Nat.reduceAdd,qy3,qy4,Z1t,Z1u,Z17,gY0];refine⟨fun h8=>?_,fun _=>⟨by omega,by omega,⟨u,i+1,?_,by omega⟩,by omega⟩⟩
      . exfalso;rw[hpk,hqe]at h8;rcases h8 with (((h8|h8)|h8)|h8)|h8
        . omega
        . exact h8 rfl
        . exact h8 rfl
        . exact h8 rfl
        . exact absurd h8 (by simp[pkOf])
      . rw[hct];rfl
  obtain rfl:i=y1.ox.length:=by omega
  rw[List.take_length];have hTW:=TKc;rw[Zsf]at hTW;have hWle:(x.wat.filter fun w=>decide (w.2.2.1=nm)).length<=12:=Nat.le_trans (List.length_filter_le _ _) w12;generalize (y1.ox.filter fun t=>decide (t.1.client=[])).length=T at hTW ⊢
  refine⟨fun vs=>∃k:Nat,vs=[.i ((T:Int) - (((x.wat.take k).filter fun w=>decide (w.2.2.1=nm)).length:Nat)),.i k]/\k<=x.wat.length,fun vs=>x.wat.length - (vs.getD 1 (.i 0)).toI.toNat,⟨0,by simp,by omega⟩,?_⟩;rintro _ - ⟨k,rfl,hk⟩;simp only[Tree.goal,X.P,X.ev,SV.ev,CV.ev,Sc.ev,qz,QA,QB,QC,QD,QE,QF,QG,QH,QI,QJ,QK,QL,QM,Nat.reduceAdd,qy3,qy4,Z1t,Z1u,Z17,gY0];have hle:((x.wat.take k).filter fun w=>decide (w.2.2.1=nm)).length<=12:=Nat.le_trans (List.length_filter_le _ _) (by rw[List.length_take];omega);refine⟨fun h7=>?_,fun h7=>?_⟩
  . have hk1:k<x.wat.length:=by omega
    have hct:=Zfp (fun w:Wat=>decide (w.2.2.1=nm)) wD_K x.wat hk1;refine⟨by omega,fun h8=>?_,fun h8=>?_⟩
    . rw[decide_eq_true h8,if_pos rfl]at hct;refine⟨by omega,by omega,by omega,by omega,⟨k+1,?_,by omega⟩,by omega⟩;rw[hct];congr 2
      omega
    . rw[decide_eq_false h8,if_neg Bool.false_ne_true]at hct;refine⟨by omega,by omega,⟨k+1,?_,by omega⟩,by omega⟩;rw[hct];rfl
  obtain rfl:k=x.wat.length:=by omega
  rw[List.take_length];have hz:(T:Int) - ((x.wat.filter fun w=>decide (w.2.2.1=nm)).length:Nat)=0:=by omega
  rw[hz];clear hz hle hk h7;refine⟨fun vs=>∃(u:V) (k:Nat),vs=[u,.i k]/\k<=rds.length,fun vs=>rds.length - (vs.getD 1 (.i 0)).toI.toNat,⟨_,0,rfl,by omega⟩,?_⟩;rintro _ - ⟨u2,k,rfl,hk⟩;simp only[Tree.goal,X.P,X.ev,SV.ev,CV.ev,Sc.ev,qz,QA,QB,QC,QD,QE,QF,QG,QH,QI,QJ,QK,QL,QM,Nat.reduceAdd,qy3,qy4,Z1t,Z1u,Z17,gY0];refine⟨fun h7=>⟨by omega,?_⟩,fun h7 w' hr=>⟨by simp,hr.mod⟩⟩;have hk1:k<rds.length:=by omega
  have hmr:rds.getD k yD∈rds:=memY rds k hk1;obtain⟨ht1,ht2⟩:=TKr _ hmr;rw[Zsf]at ht2;generalize rds.getD k yD=rd at hmr ht1 ht2 ⊢
  have hon:=Zvr ht1;refine⟨[.i (atS x.tel.sess rd.1)],rfl,fun _ w' hr=>Zci w' x.sv x.sx rd.1 (hr.at_ 12 rfl) hB.sort (by have:=hs.b.sessL;omega),?_⟩;simp only[Tree.goal,X.P,X.ev,SV.ev,CV.ev,Sc.ev,qz,QA,QB,QC,QD,QE,QF,QG,QH,QI,QJ,QK,QL,QM,Nat.reduceAdd,qy3,qy4,Z1t,Z1u,Z17,gY0];refine⟨fun vs=>∃j:Nat,vs=[.i (((y1.ox.take j).filter fun t=>decide (t.1.client=rd.1)).length:Nat),.i j]/\j<=y1.ox.length,fun vs=>y1.ox.length - (vs.getD 1 (.i 0)).toI.toNat,⟨0,rfl,by omega⟩,?_⟩;rintro _ - ⟨j,rfl,hj⟩;simp only[Tree.goal,X.P,X.ev,SV.ev,CV.ev,Sc.ev,qz,QA,QB,QC,QD,QE,QF,QG,QH,QI,QJ,QK,QL,QM,Nat.reduceAdd,qy3,qy4,Z1t,Z1u,Z17,gY0];have hle:((y1.ox.take j).filter fun t=>decide (t.1.client=rd.1)).length<=y1.ox.length:=Nat.le_trans (List.length_filter_le _ _) (by rw[List.length_take];omega);refine⟨fun h8=>?_,fun h8=>?_⟩
  . have hj1:j<y1.ox.length:=by omega
    have hct:=Zfp (fun t:SntX=>decide (t.1.client=rd.1)) sntD y1.ox hj1;have r1:=Zn6 hj1;have hcl':Value.gS (((y1.ox.map Z30).getD j []).getD 0 undef)=(y1.ox.getD j sntD).1.client:=by rw[r1];rfl
    rw[hcl'];refine⟨by omega,fun h9=>?_,fun h9=>?_⟩
    . rw[decide_eq_true h9,if_pos rfl]at hct;refine⟨by omega,by omega,by omega,by omega,⟨j+1,?_,by omega⟩,by omega⟩;rw[hct];rfl
    . rw[decide_eq_false h9,if_neg Bool.false_ne_true]at hct;refine⟨by omega,by omega,⟨j+1,?_,by omega⟩,by omega⟩;rw[hct];rfl
  obtain rfl:j=y1.ox.length:=by omega
  rw[List.take_length,ht2,hon.1];have hlt:=hon.2;have h0:0<=atS x.tel.sess rd.1:=by rw[Zja ht1];omega
  refine⟨.inr h0,.inr hlt,.inr h0,.inr hlt,fun h9=>?_,fun _=>⟨by omega,by omega,⟨u2,k+1,rfl,by omega⟩,by omega⟩⟩;exfalso;rcases h9 with (h9|⟨h9,h10⟩)|⟨h9,h10⟩
  . omega
  . exact h10 (by rw[if_pos h9];rfl)
  . exact h10 (by rw[if_neg h9];rfl)
end Go.Proofs.YtkhakgbnfapifaaGreatDoor
namespace Go.Sx
open Go Go.ChangeShapes Go.WideShapes Go.ChangeAt Go.RowKit
section
variable {H:Type} {enc:TypeId×Value->H} {P:Program}
def Z11t (P:Program) (ts:List TypeId):Bool:=ts.all fun t=>match P.underlying t with|some (.slice e)=>decide (0<P.cellsOf e)|_=>true
def Zsg (P:Program) (ts:List TypeId):Bool:=ts.all fun t=>match P.underlying t with
 | some (.slice e)=>ts.contains e
 | some (.pointer e)=>ts.contains e
 | some (.array _ e)=>ts.contains e
 | some (.map _ e)=>ts.contains e
 | some (.struct fs)=>fs.toList.all fun f=>ts.contains f.type
 | _=>true
theorem Zzj (hl:laidOutB P=true) (hm:mapsRowed P=true) {ts:List TypeId} (hc:Zsg P ts=true) (hs:ts.all (fun t=>decide (t<P.types.size))=true):Kids P (·∈ts):=by
 have K:=kids_rows hl hm;have hs':∀t∈ts,t<P.types.size:=fun t ht=>by simpa using List.all_eq_true.1 hs t ht
 have hc':=fun t ht=>List.all_eq_true.1 hc t ht;refine⟨fun {t e} ht hu=>?_,fun {t e} ht hu=>?_,fun {t e n} ht hu=>⟨?_,(K.array (hs' t ht) hu).2⟩,fun {t fs} ht hu=>⟨?_,(K.struct (hs' t ht) hu).2⟩,fun {t k e} ht hu=>?_⟩
 ·have:=hc' t ht;rw[hu]at this;simpa using this
 ·have:=hc' t ht;rw[hu]at this;simpa using this
 ·have:=hc' t ht;rw[hu]at this;simpa using this
 ·have:=hc' t ht;rw[hu]at this;simp only[List.all_eq_true]at this;exact fun f hf=>by simpa using this f hf
 ·have:=hc' t ht;rw[hu]at this;simpa using this
theorem Zcl {w w':World} {p:MemPlace} (h:w'.heap[p.block]?=w.heap[p.block]?):w.sameAt w' p:=by
 cases p with
 | cell b off=>exact World.cell?_of_block h
 | map b=>exact h
theorem Z8u {w w':World} {sp:Nat->Bool} {T:TypeId->Prop} (K:Kids P T) (hsz:∀{t e:TypeId},T t->P.underlying t=some (.slice e)->0<P.cellsOf e) : ∀{ts:List TypeId} {vs:List Value} {ds:List (DataW H)} {ps:List MemPlace},(∀t∈ts,T t)->DataW.TrodAll enc P w 0 (fun _=>true) true ts vs ds ps -> (∀p∈ps,w.sameAt w' p)->(∀p∈ps,sp p.block=true)->DataW.TrodAll enc P w' 0 sp true ts vs ds ps
 | [],_,_,_,_,h,_,_=>by obtain⟨rfl,rfl,rfl⟩:=trodAll_nil h;exact trodAll_mk0
 | t::ts,_,_,_,ht,h,hs,hp=>by
  obtain⟨v,vs1,d,ds1,a,b,rfl,rfl,rfl,h1,h2⟩:=trodAll_cons h;obtain⟨n,h1⟩:=h1;exact⟨a,b,⟨n,DataW.trod_stays K hsz (fun h=>by cases h) (ht t (qy8 ..)) h1 (fun p hp'=>hs p (List.mem_append_left _ hp')) (fun p hp'=>hp p (List.mem_append_left _ hp'))⟩,
   Z8u K hsz (fun u hu=>ht u (qy10 _ hu)) h2 (fun p hp'=>hs p (List.mem_append_right _ hp')) (fun p hp'=>hp p (List.mem_append_right _ hp')),rfl⟩
theorem Zvs {f:Func} {s:ChangeSpec} {fresh handsOn again:Bool} {W W':World} {args:Array Value} {ds gs:List (DataW H)} {before:List MemPlace} {tb:TypeId} (ts:List TypeId) (hW:DataW.Whole enc P f.params.toList s.vars false W args.toList ds gs before) (hv:s.vars=[]) (hr:f.resultTypes=#[tb]) (htb:P.underlying tb=some .bool) (hfn:gs=[]->(s.fn H ds).results=[.lit (.bool true)]/\(s.fn H ds).args=ds/\(s.fn H ds).vars=[]) (hl:laidOutB P=true) (hm:mapsRowed P=true) (hc:Zsg P ts=true) (hs:ts.all (fun t=>decide (t<P.types.size))=true) (hz:Z11t P ts=true) (hp:f.params.toList.all ts.contains=true) (h:Mod [] W W'):s.post enc P f false fresh handsOn again W args (.bool true) W':=by
 have hW':=hW;have hlt:=hW.lt;obtain⟨p,q,hA,hV,rfl,hfz,hn⟩:=hW;rw[hv]at hV;obtain⟨rfl,rfl⟩:=trodVars_none hV;obtain⟨f1,f2,f3⟩:=hfn rfl;have K:=Zzj hl hm hc hs;have hsz:∀{t e:TypeId},t∈ts->P.underlying t=some (.slice e)->0<P.cellsOf e:=fun {t e} ht hu=>by have:=List.all_eq_true.1 hz t ht;rw[hu]at this;simpa using this
 have hT:∀t∈f.params.toList,t∈ts:=fun t ht=>by simpa using List.all_eq_true.1 hp t ht
 have hblk:∀k,k<W.heap.size->W'.heap[k]?=W.heap[k]?:=fun k hk=>h.block k hk (by simp);have hsame:∀x∈p,W.sameAt W' x:=fun x hx=>Zcl (hblk _ (hlt x (by simpa using hx)));have hargs:∀sp:Nat->Bool,(∀x∈p,sp x.block=true)->DataW.TrodAll enc P W' 0 sp true f.params.toList args.toList (s.fn H (ds++[])).args p:=fun sp hsp=>by rw[List.append_nil,f2];exact Z8u K hsz hT hA hsame hsp
 have hres:∀(b:Nat) (sp:Nat->Bool) (hd:Bool),DataW.TrodAll enc P W' b sp hd f.resultTypes.toList ((Value.bool true).resultList f.resultTypes.size) (s.fn H (ds++[])).results []:=fun b sp hd=>by rw[List.append_nil,f1,hr];exact trodAll_cons_mk (shut_bool htb _) trodAll_mk0
 have hvars:∀sp:Nat->Bool,DataW.TrodVars enc P W' sp s.vars (s.fn H (ds++[])).vars []:=fun sp=>by rw[List.append_nil,f3,hv];rfl
 have hold:∀x∈p,(fun b=>decide (b<W.heap.size)) x.block=true:=fun x hx=>by simpa using hlt x (by simpa using hx)
 refine⟨ds,[],p++[],[],p,[],hW',hres _ _ _,hargs _ hold,hvars _,⟨h.os,h.output,fun i hi=>?_⟩,fun _=>⟨?_,[.lit (.bool true)]++ds,[],([]++p)++[],⟨[]++p,[],trodAll_append (by have:=hargs (fun _=>true) (fun _ _=>rfl);rw[List.append_nil,f2]at this;exact this) (by have:=hres 0 (fun _=>true) true;rw[List.append_nil,f1]at this;exact this),by rw[hv];rfl,rfl,?_,by simp⟩,?_⟩⟩
 ·have e:=hblk i hi;rw[e];cases W.heap[i]? with
  | none=>rfl
  | some o=>cases o<;>simp
 ·exact ok_one hr rfl (okWide_bool_mk htb _)
 ·intro b off hb;have hb:MemPlace.cell b off∈p:=by simpa using hb
  have hlt':=hlt _ (show MemPlace.cell b off∈p++[] by simpa using hb);have:=hfz b off (by simpa using hb);simp only[World.frozen?,hblk b hlt']at this ⊢;exact this
 ·intro x hx _;simpa using hx
end
end Go.Sx
namespace Go.Sx
open Go Go.ChangeShapes Go.WideShapes Go.ChangeAt Go.RowKit
section
variable {H:Type} {enc:TypeId×Value->H} {P:Program} {w:World} {sp:Nat->Bool}
structure Bulk (B:DataW H->Nat):Prop where
 agg:∀l:List (DataW H),(l.map B).sum<=B (.agg l)
 slice:∀l r:List (DataW H),(l.map B).sum+1<=B (.slice l r)
 str:∀s:List UInt8,s.length+1<=B (.lit (.string s))
 one:∀d:DataW H,1<=B d
def Zcm (P:Program) (g:TypeId->Option (List (TypeId×Kd))):List Field->Nat->Option (List (TypeId×Kd))
 | [],_=>some []
 | f::fs,off=>do
  let l <- g f.type
  let r <- Zcm P g fs (off+l.length)
  if f.offset=off/\P.cellsOf f.type=l.length then some (l++r) else none
def Z3a (P:Program):Nat->TypeId->Option (List (TypeId×Kd))
 | 0,_=>none
 | f+1,t=>match P.underlying t with
  | some .bool=>some [(t,.bool)]
  | some (.int k)=>some [(t,.int k)]
  | some .string=>some [(t,.str)]
  | some (.slice _)=>some [(t,.oth)]
  | some (.struct fs)=>match Zcm P (Z3a P f) fs.toList 0 with
   | some l=>if P.cellsOf t=l.length then some l else none
   | none=>none
  | _=>none
def Z3b (enc:TypeId×Value->H) (P:Program) (w:World) (sp:Nat->Bool) (B:DataW H->Nat) (l:TypeId×Kd) (c:Value) (b:Nat):Prop :=
 l.2.ok c/\∃n d ps,DataW.trod enc P w 0 sp true n l.1 [c]=some (d,ps)/\B d<=b
inductive Lv (enc:TypeId×Value->H) (P:Program) (w:World) (sp:Nat->Bool) (B:DataW H->Nat):List (TypeId×Kd)->List Value->Nat->Prop
 | nil (b:Nat):Lv enc P w sp B [] [] b
 | cons {l:TypeId×Kd} {ls:List (TypeId×Kd)} {c:Value} {cs:List Value} {b1 b2 b:Nat}:Z3b enc P w sp B l c b1->Lv enc P w sp B ls cs b2->b1+b2<=b->Lv enc P w sp B (l::ls) (c::cs) b
variable {B:DataW H->Nat}
theorem Lv.mono {ls:List (TypeId×Kd)} {cs:List Value} {b b':Nat} (h:Lv enc P w sp B ls cs b) (hb:b<=b'):Lv enc P w sp B ls cs b':=by
 cases h with
 | nil=>exact .nil _
 | cons h1 h2 h3=>exact .cons h1 h2 (by omega)
theorem Lv.append {l2:List (TypeId×Kd)} {c2:List Value} {b2:Nat} (h':Lv enc P w sp B l2 c2 b2):∀{l1:List (TypeId×Kd)} {c1:List Value} {b1:Nat},Lv enc P w sp B l1 c1 b1->Lv enc P w sp B (l1++l2) (c1++c2) (b1+b2):=by
 intro l1 c1 b1 h;induction h with
 | nil b=>exact h'.mono (by omega)
 | cons h1 h2 h3 ih=>exact .cons h1 ih (by omega)
theorem Lv.rowOk {ls:List (TypeId×Kd)} {cs:List Value} {b:Nat} (h:Lv enc P w sp B ls cs b):rowOk (ls.map (·.2)) cs:=by
 induction h with
 | nil=>trivial
 | cons h1 h2 h3 ih=>exact⟨h1.1,ih⟩
theorem Zea {g:TypeId->Option (List (TypeId×Kd))} {cs:List Value} {n:Nat} (hg:∀t l cs x,g t=some l->DataW.trod enc P w 0 sp true n t cs=some x->Lv enc P w sp B l cs (B x.1)) : ∀{fs:List Field} {xs:List (DataW H×List MemPlace)} {off:Nat} {l:List (TypeId×Kd)},Zcm P g fs off=some l->xs.length=fs.length -> (∀(i:Nat) (f:Field),fs[i]?=some f->DataW.trod enc P w 0 sp true n f.type ((cs.drop f.offset).take (P.cellsOf f.type))=xs[i]?)->off+l.length<=cs.length -> Lv enc P w sp B l ((cs.drop off).take l.length) ((xs.map fun x=>B x.1).sum)
 | [],[],off,l,h,_,_,_=>by simp[Zcm]at h;subst h;simp;exact .nil _
 | f::fs,[],off,l,h,hl,_,_=>by simp at hl
 | [],x::xs,off,l,h,hl,_,_=>by simp at hl
 | f::fs,x::xs,off,l,h,hl,hx,hc=>by
  simp only[Zcm,Option.bind_eq_bind,Option.bind_eq_some_iff,Option.ite_none_right_eq_some,Option.some.injEq]at h;obtain⟨l1,h1,l2,h2,⟨ho,hcs⟩,rfl⟩:=h;have hx0:=hx 0 f rfl;simp only[List.getElem?_cons_zero]at hx0;rw[ho,hcs]at hx0;have i1:=hg _ _ _ _ h1 hx0;simp only[qy11]at hc;have i2:=Zea hg (xs:=xs) h2 (by simpa using hl) (fun i f' hf=>by have:=hx (i+1) f' (by simpa using hf);simpa using this) (by omega);have e:(cs.drop off).take (l1++l2).length=(cs.drop off).take l1.length++(cs.drop (off+l1.length)).take l2.length:=by rw[qy11,<- List.drop_drop,List.take_add]
  rw[e];exact i2.append i1
theorem Zcn (hB:Bulk B):∀(f:Nat) {t:TypeId} {l:List (TypeId×Kd)} {n:Nat} {cs:List Value} {x:DataW H×List MemPlace},Z3a P f t=some l->DataW.trod enc P w 0 sp true n t cs=some x->Lv enc P w sp B l cs (B x.1)
 | 0,t,l,n,cs,x,h,_=>by simp[Z3a]at h
 | f+1,t,l,n,cs,x,h,hx=>by
  simp only[Z3a]at h;have one:∀(k:Kd) (c:Value),cs=[c]->k.ok c->Lv enc P w sp B [(t,k)] cs (B x.1):=fun k c hc hk=>by subst hc;exact .cons ⟨hk,n,x.1,x.2,hx,Nat.le_refl _⟩ (.nil 0) (by omega)
  split at h
  ·rename_i hu;simp at h;subst h;obtain⟨b,rfl,-⟩:=DataW.trod_bool hu hx;exact one _ _ rfl ⟨b,rfl⟩
  ·rename_i k hu;simp at h;subst h;obtain⟨m,rfl,-⟩:=DataW.trod_int hu hx;exact one _ _ rfl ⟨m,rfl⟩
  ·rename_i hu;simp at h;subst h;obtain⟨⟨⟨s⟩⟩,rfl,-⟩:=DataW.trod_string hu hx;exact one _ _ rfl ⟨s,rfl⟩
  ·rename_i e hu;simp at h;subst h;rcases DataW.trod_slice hu hx with ⟨rfl,-⟩|⟨a,len,cap,elems,rest,m,-,rfl,-⟩
   ·exact one _ _ rfl rfl
   ·exact one _ _ rfl rfl
  ·rename_i fs hu;split at h
   ·rename_i l' hl;split at h
    ·rename_i hc;simp at h;subst h;obtain⟨xs,m,rfl,rfl,hcl,hxl,hf⟩:=DataW.trod_struct hu hx;have:=Zea (cs:=cs) (fun t l cs x=>Zcn hB f (t:=t) (l:=l) (n:=m) (cs:=cs) (x:=x)) hl (by simpa using hxl) (fun i f hi=>hf i f (by simpa using hi)) (by omega);rw[List.drop_zero,List.take_of_length_le (by omega)]at this;refine this.mono ?_;have:=hB.agg (xs.map (·.1));rw[List.map_map]at this;exact this
    ·cases h
   ·cases h
  ·cases h
theorem Z4d (hB:Bulk B) {f n:Nat} {t e:TypeId} {ls:List (TypeId×Kd)} {v:Value} {x:DataW H×List MemPlace} (hu:P.underlying t=some (.slice e)) (hl:Z3a P f e=some ls) (hc:P.cellsOf e=ls.length) (hpos:0<ls.length) (hx:DataW.trod enc P w 0 sp true n t [v]=some x) : ∃(rows:List (List Value)) (bs:List Nat),reads w v (ls.map (·.2)) rows/\bs.length=rows.length/\(∀(i:Nat) r b,rows[i]?=some r->bs[i]?=some b->Lv enc P w sp B ls r b)/\bs.sum+1<=B x.1:=by
 rcases DataW.trod_slice hu hx with ⟨hv,rfl⟩|⟨a,len,cap,elems,rest,m,-,hv,rfl,-,hlc,hcm,hel,hget,-⟩
 ·simp only[List.cons.injEq,and_true]at hv;subst hv;exact⟨[],[],⟨by simp,none,0,rfl,⟨fun _=>rfl,by simp⟩,by simp⟩,rfl,by simp,by simpa using hB.one _⟩
 ·simp only[List.cons.injEq,and_true]at hv;subst hv;rw[hc]at hget;have hrow:∀i,i<len->∃r y,w.cells? 0 (a.add (i*ls.length)) ls.length=some r/\elems[i]?=some y/\DataW.trod enc P w 0 sp true m e r=some y:=fun i hi=>by
   have h1:=hget i hi;have h2:elems[i]?=some (elems[i]'(by omega)):=qy7 (by omega);rw[h2,Option.bind_eq_some_iff]at h1;obtain⟨r,h3,h4⟩:=h1;exact⟨r,_,h3,h2,h4⟩
  let rows:=(List.range len).map fun i=>(w.cells? 0 (a.add (i*ls.length)) ls.length).getD []
  have hrl:rows.length=len:=by simp[rows]
  have hri:∀i,i<len->∃r y,rows[i]?=some r/\w.cells? 0 (a.add (i*ls.length)) ls.length=some r/\elems[i]?=some y/\Lv enc P w sp B ls r (B y.1):=fun i hi=>by obtain⟨r,y,h1,h2,h3⟩:=hrow i hi;exact⟨r,y,by simp[rows,List.getElem?_range hi,h1],h1,h2,Zcn hB f hl h3⟩
  have hlen:∀r∈rows,r.length=(ls.map (·.2)).length/\rowOk (ls.map (·.2)) r:=fun r hr=>by obtain⟨i,hi,hri'⟩:=List.getElem_of_mem hr;obtain⟨r',y,h1,h2,h3,h4⟩:=hri i (by omega);rw[qy7 hi,hri']at h1;simp at h1;subst h1;exact⟨h4.rowOk.length,h4.rowOk⟩
  refine⟨rows,elems.map fun y=>B y.1,⟨fun r hr=>(hlen r hr).2,some a,cap,by rw[hrl],⟨(fun h=>by cases h),by omega⟩,fun hne=>⟨a,rfl,fun j u hj=>?_⟩⟩,by simp[hrl,hel],fun i r b hr hb=>?_,?_⟩
  ·have hL:(ls.map (·.2)).length=ls.length:=by simp
   have hfl:=Za (fun r hr=>(hlen r hr).1);have hjl:j<rows.length*ls.length:=by have:=(List.getElem?_eq_some_iff.1 hj).1;rw[hfl,hL]at this;exact this
   have hi:j / ls.length<len:=by rw[<- hrl];exact Nat.div_lt_of_lt_mul (by rw[Nat.mul_comm];exact hjl)
   obtain⟨r,y,h1,h2,h3,h4⟩:=hri _ hi;have hk:=Nat.mod_lt j hpos;have hjj:j=j / ls.length*ls.length+j % ls.length:=by rw[Nat.mul_comm];exact(Nat.div_add_mod j _).symm
   have:=Z6w (fun r hr=>by rw[<- hL];exact(hlen r hr).1) (i:=j / ls.length) (c:=j % ls.length) hk;rw[<- hjj,hj,h1]at this;obtain⟨c1,c2⟩:=World.cells?_some h2;have c3:=c2.2 _ hk;rw[Zad,<- hjj]at c3;rw[c3];exact this.symm
  ·obtain⟨r',y,h1,h2,h3,h4⟩:=hri i (by rw[<- hrl];exact(List.getElem?_eq_some_iff.1 hr).1);rw[h1]at hr;simp at hr;subst hr;rw[List.getElem?_map,h3]at hb;simp at hb;subst hb;exact h4
  ·have:=hB.slice (elems.map (·.1)) (rest.map (·.1));rw[List.map_map]at this;exact this
theorem Zjb {r:Reach} {b0 base:Nat} {held:Bool} {t:TypeId} {fs:Array Field} {v:Value} {d:DataW H} {ps:List MemPlace} (ht:P.underlying t=some (.struct fs)) (hval:Value.okWide P w r b0 t v) (hd:DataW.Trod enc P w base sp held t v d ps) : ∃(cs:List Value) (n:Nat),v=.agg cs.toArray/\DataW.trod enc P w base sp held n t cs=some (d,ps):=by obtain⟨n,hd⟩:=hd;simp only[Value.okWide,ht]at hval;obtain⟨cs,rfl,-⟩:=hval;exact⟨cs.toList,n,by simp,by simpa [Value.cells]using hd⟩
theorem Zwm {α:Type} {g:α->Nat}:∀{rows:List α} {bs:List Nat},bs.length=rows.length->(∀(i:Nat) r b,rows[i]?=some r->bs[i]?=some b->g r<=b)->(rows.map g).sum<=bs.sum
 | [],[],_,_=>by simp
 | r::rows,b::bs,hl,h=>by have h0:=h 0 r b rfl rfl;have:=Zwm (rows:=rows) (bs:=bs) (by simpa using hl) (fun i r' b' hr hb=>h (i+1) r' b' (by simpa using hr) (by simpa using hb));simp only[List.map_cons,List.sum_cons];omega
 | [],_::_,hl,_=>by simp at hl
 | _::_,[],hl,_=>by simp at hl
theorem Z7j (hB:Bulk B) {ls:List (TypeId×Kd)} (h0:ls≠[]) {rows:List (List Value)} {bs:List Nat} (hl:bs.length=rows.length) (h:∀(i:Nat) r b,rows[i]?=some r->bs[i]?=some b->Lv enc P w sp B ls r b):rows.length<=bs.sum:=by
 have:=Zwm (g:=fun _:List Value=>1) hl (fun i r b hr hb=>by
  cases h i r b hr hb with
  | nil b=>exact absurd rfl h0
  | cons h1 h2 h3=>obtain⟨-,n,d,q,-,h5⟩:=h1;have:=hB.one d;omega)
 have e:(rows.map fun _=>1).sum=rows.length:=by
  clear hl h this;induction rows with
  | nil=>rfl
  | cons r rows ih=>simp only[List.map_cons,List.sum_cons,List.length_cons,ih];omega
 omega
theorem Z3b.str (hB:Bulk B) {t:TypeId} (ht:P.underlying t=some .string) {s:List UInt8} {b:Nat} (h:Z3b enc P w sp B (t,.str) (.string ⟨s.toArray⟩) b):s.length+1<=b:=by obtain⟨-,n,d,ps,h1,h2⟩:=h;obtain⟨s',h3,h4⟩:=DataW.trod_string ht h1;simp only[List.cons.injEq,Value.string.injEq,and_true]at h3;subst h3;simp only[Prod.mk.injEq]at h4;obtain⟨⟨rfl,-⟩,-⟩:=h4;have:=hB.str s;omega
end
end Go.Sx
namespace Go.Proofs.YtkhakgbnfapifaaGreatDoor
open Go Go.Sx Go.ChangeShapes Go.WideShapes Go.ChangeAt Go.RowKit
section
variable {H:Type} {enc:TypeId×Value->H} {w:World} {sp:Nat->Bool} {B:DataW H->Nat}
def Zfq (P:Program) (t:TypeId):Bool:=match P.underlying t with|some (.struct _)=>true|_=>false
theorem Zhr {P:Program} {r:Reach} {b0 base:Nat} {held:Bool} {t:TypeId} {v:Value} {d:DataW H} {ps:List MemPlace} (ht:Zfq P t=true) (hval:Value.okWide P w r b0 t v) (hd:DataW.Trod enc P w base sp held t v d ps) : ∃(cs:List Value) (n:Nat),v=.agg cs.toArray/\DataW.trod enc P w base sp held n t cs=some (d,ps):=by
 unfold Zfq at ht;split at ht
 ·exact Zjb (by assumption) hval hd
 ·cases ht
theorem Z11u (hB:Bulk B) {cs:List Value} {b:Nat} (h:Lv enc Tryz.prog w sp B [(9,.str),(3,.int .i64)] cs b):∃o:Ak,cs=encA o/\o.1.length+1<=b:=by
 cases h with
 | cons c1 h e1 =>
 cases h with
 | cons c2 h e2 =>
 cases h;obtain⟨s,rfl⟩:=c1.1;obtain⟨n,rfl⟩:=c2.1;have q1:=Z3b.str hB Tryz.underlying9 c1;exact⟨(s,n),rfl,by simp only;omega⟩
theorem Z11v (hB:Bulk B):∀{rows:List (List Value)} {bs:List Nat},bs.length=rows.length->(∀(i:Nat) r b,rows[i]?=some r->bs[i]?=some b->Lv enc Tryz.prog w sp B [(9,.str),(3,.int .i64)] r b) -> ∃l:List Ak,rows=l.map encA/\∀x∈l,x.1.length<=bs.sum:=by
 intro rows;induction rows with
 | nil=>exact fun _ _=>⟨[],rfl,by simp⟩
 | cons r rows ih =>
  intro bs hl h
  match bs,hl with
  | b::bs,hl =>
   obtain⟨l,e,hb⟩:=ih (bs:=bs) (by simpa using hl) (fun i r' b' h1 h2=>h (i+1) r' b' (by simpa using h1) (by simpa using h2));obtain⟨o,rfl,hob⟩:=Z11u hB (h 0 r b rfl rfl);refine⟨o::l,by rw[e];rfl,?_⟩;intro x hx;rw[List.sum_cons];rcases List.mem_cons.1 hx with rfl|hx
   ·omega
   ·have:=hb x hx;omega
theorem Z11w {rows:List (List Value)} (h:∀r∈rows,rowOk [.int .i64] r):∃l,rows=List.map Z1b l:=by
 induction rows with
 | nil=>exact⟨[],rfl⟩
 | cons r rows ih =>
  obtain⟨ps,hps⟩:=ih fun r hr=>h r (qy10 _ hr);have h0:=h r (qy8 ..)
  match r,h0 with
  | [_],⟨⟨a,rfl⟩,_⟩=>exact⟨a::ps,by rw[hps];rfl⟩
theorem Z131 (hB:Bulk B) (h1:Tryz.prog.underlying 28=some (.slice 88)) (h2:Z3a Tryz.prog 8 88=some [(9,.str),(3,.int .i64)]) (h3:Tryz.prog.cellsOf 88=2) (i1:Tryz.prog.underlying 29=some (.slice 3)) (i2:Z3a Tryz.prog 8 3=some [(3,.int .i64)]) (i3:Tryz.prog.cellsOf 3=1) {cs:List Value} {b:Nat} (h:Lv enc Tryz.prog w (fun _=>true) B [(3,.int .i64),(4,.bool),(4,.bool),(4,.bool),(4,.bool),(3,.int .i64),(3,.int .i64),(3,.int .i64),(3,.int .i64),(9,.str),(9,.str),(9,.str),(28,.oth),(29,.oth)] cs b) : ∃(p:Pkt) (u v:Value),Value.agg cs.toArray=pV p u v/\cs=[.int .i64 p.kind,.bool p.dup,.bool p.retain,.bool p.clean,.bool p.session,.int .i64 p.qos,.int .i64 p.id,.int .i64 p.keep,.int .i64 p.code,.string ⟨p.client.toArray⟩,.string ⟨p.topic.toArray⟩,.string ⟨p.payload.toArray⟩,u,v] /\ Z6t w u p.asks/\Z60 w v p.codes/\p.client.length+p.topic.length+p.payload.length+p.asks.length+p.codes.length<=b/\∀a∈p.asks,a.1.length<=b:=by
 cases h with
 | cons c1 h e1 =>
 cases h with
 | cons c2 h e2 =>
 cases h with
 | cons c3 h e3 =>
 cases h with
 | cons c4 h e4 =>
 cases h with
 | cons c5 h e5 =>
 cases h with
 | cons c6 h e6 =>
 cases h with
 | cons c7 h e7 =>
 cases h with
 | cons c8 h e8 =>
 cases h with
 | cons c9 h e9 =>
 cases h with
 | cons c10 h e10 =>
 cases h with
 | cons c11 h e11 =>
 cases h with
 | cons c12 h e12 =>
 cases h with
 | cons c13 h e13 =>
 cases h with
 | cons c14 h e14 =>
 cases h;obtain⟨kd,rfl⟩:=c1.1;obtain⟨b1,rfl⟩:=c2.1;obtain⟨b2,rfl⟩:=c3.1;obtain⟨b3,rfl⟩:=c4.1;obtain⟨b4,rfl⟩:=c5.1;obtain⟨n1,rfl⟩:=c6.1;obtain⟨n2,rfl⟩:=c7.1;obtain⟨n3,rfl⟩:=c8.1;obtain⟨n4,rfl⟩:=c9.1;obtain⟨s1,rfl⟩:=c10.1;obtain⟨s2,rfl⟩:=c11.1;obtain⟨s3,rfl⟩:=c12.1;have q1:=Z3b.str hB Tryz.underlying9 c10;have q2:=Z3b.str hB Tryz.underlying9 c11;have q3:=Z3b.str hB Tryz.underlying9 c12;obtain⟨-,n,d,ps,hx,hb⟩:=c13;obtain⟨rows,bs,rd,bl,lv,bk⟩:=Z4d hB (f:=8) h1 h2 h3 (by decide) hx;have rl:=Z7j hB (by decide) bl lv;obtain⟨l,rfl,hs⟩:=Z11v hB bl lv;obtain⟨-,n',d',ps',hx',hb'⟩:=c14;obtain⟨rows',bs',rd',bl',lv',bk'⟩:=Z4d hB (f:=8) i1 i2 i3 (by decide) hx';have rl':=Z7j hB (by decide) bl' lv';obtain⟨l',rfl⟩:=Z11w rd'.1;rw[qy3]at rl rl';simp only at bk bk';exact⟨⟨kd,b1,b2,b3,b4,n1,n2,n3,n4,s1,s2,s3,l,l'⟩,_,_,by rw[pV,rd.sc1,rd'.sc1],rfl,rd,rd',by simp only;omega,fun x hx=>by have:=hs x hx;omega⟩
end
end Go.Proofs.YtkhakgbnfapifaaGreatDoor
namespace Go.Proofs.YtkhakgbnfapifaaGreatDoor
open Go Go.Sx Go.ChangeShapes Go.WideShapes Go.ChangeAt Go.RowKit
section
variable {H:Type} {enc:TypeId×Value->H} {w:World} {sp:Nat->Bool} {B:DataW H->Nat}
end
end Go.Proofs.YtkhakgbnfapifaaGreatDoor
namespace Go.Proofs.YtkhakgbnfapifaaGreatDoor
open Go Go.Sx Go.ChangeShapes Go.WideShapes Go.ChangeAt Go.RowKit
section
variable {H:Type} {enc:TypeId×Value->H} {w:World} {sp:Nat->Bool} {B:DataW H->Nat}
theorem Z130 (hB:Bulk B) {cs:List Value} {b:Nat} (h:Lv enc Tryz.prog w sp B [(3,.int .i64),(9,.str),(9,.str)] cs b):∃o:Fl,cs=encF o/\o.2.1.length+o.2.2.length+1<=b:=by
 cases h with
 | cons c1 h e1 =>
 cases h with
 | cons c2 h e2 =>
 cases h with
 | cons c3 h e3 =>
 cases h;obtain⟨p,rfl⟩:=c1.1;obtain⟨t,rfl⟩:=c2.1;obtain⟨n,rfl⟩:=c3.1;have q2:=Z3b.str hB Tryz.underlying9 c2;have q3:=Z3b.str hB Tryz.underlying9 c3;exact⟨(p,t,n),rfl,by simp only;omega⟩
theorem Zwn (hB:Bulk B):∀{rows:List (List Value)} {bs:List Nat},bs.length=rows.length->(∀(i:Nat) r b,rows[i]?=some r->bs[i]?=some b->Lv enc Tryz.prog w sp B [(3,.int .i64),(9,.str),(9,.str)] r b) -> ∃l:List Fl,rows=l.map encF/\∀x∈l,x.2.1.length<=bs.sum:=by
 intro rows;induction rows with
 | nil=>exact fun _ _=>⟨[],rfl,by simp⟩
 | cons r rows ih =>
  intro bs hl h
  match bs,hl with
  | b::bs,hl =>
   obtain⟨l,e,hb⟩:=ih (bs:=bs) (by simpa using hl) (fun i r' b' h1 h2=>h (i+1) r' b' (by simpa using h1) (by simpa using h2));obtain⟨o,rfl,hob⟩:=Z130 hB (h 0 r b rfl rfl);refine⟨o::l,by rw[e];rfl,?_⟩;intro x hx;rw[List.sum_cons];rcases List.mem_cons.1 hx with rfl|hx
   ·omega
   ·have:=hb x hx;omega
theorem Z11x (hB:Bulk B) (h1:Tryz.prog.underlying 61=some (.slice 172)) (h2:Z3a Tryz.prog 8 172=some [(3,.int .i64),(9,.str),(9,.str)]) (h3:Tryz.prog.cellsOf 172=3) {cs:List Value} {b:Nat} (h:Lv enc Tryz.prog w (fun _=>true) B [(9,.str),(4,.bool),(4,.bool),(61,.oth),(61,.oth),(3,.int .i64)] cs b) : ∃(s:Ses) (u v:Value),Value.agg cs.toArray=sesV s u v/\Z12 w u s.fl/\Z12 w v s.qu/\s.cl.length+s.fl.length+s.qu.length<=b/\(∀x∈s.fl,x.2.1.length<=b)/\(∀x∈s.qu,x.2.1.length<=b):=by
 cases h with
 | cons c1 h e1 =>
 cases h with
 | cons c2 h e2 =>
 cases h with
 | cons c3 h e3 =>
 cases h with
 | cons c4 h e4 =>
 cases h with
 | cons c5 h e5 =>
 cases h with
 | cons c6 h e6 =>
 cases h;obtain⟨k,rfl⟩:=c1.1;obtain⟨c,rfl⟩:=c2.1;obtain⟨j,rfl⟩:=c3.1;obtain⟨p,rfl⟩:=c6.1;have q1:=Z3b.str hB Tryz.underlying9 c1;obtain⟨-,n,d,ps,hx,hb⟩:=c4;obtain⟨rows,bs,rd,bl,lv,bk⟩:=Z4d hB (f:=8) h1 h2 h3 (by decide) hx;have rl:=Z7j hB (by decide) bl lv;obtain⟨l,rfl,hs⟩:=Zwn hB bl lv;obtain⟨-,n',d',ps',hx',hb'⟩:=c5;obtain⟨rows',bs',rd',bl',lv',bk'⟩:=Z4d hB (f:=8) h1 h2 h3 (by decide) hx';have rl':=Z7j hB (by decide) bl' lv';obtain⟨l',rfl,hs'⟩:=Zwn hB bl' lv';rw[qy3]at rl rl';simp only at bk bk';exact⟨⟨k,c,j,l,l',p⟩,_,_,by rw[sesV,rd.sc1,rd'.sc1],rd,rd',by simp only;omega,fun x hx=>by have:=hs x hx;omega,fun x hx=>by have:=hs' x hx;omega⟩
end
end Go.Proofs.YtkhakgbnfapifaaGreatDoor
namespace Go.Proofs.YtkhakgbnfapifaaGreatDoor
open Go Go.Sx Go.ChangeShapes Go.WideShapes Go.ChangeAt Go.RowKit
section
variable {H:Type} {enc:TypeId×Value->H} {w:World} {sp:Nat->Bool} {B:DataW H->Nat}
theorem Zzk (hB:Bulk B) {cs:List Value} {b:Nat} (h:Lv enc Tryz.prog w sp B [(9,.str),(9,.str),(3,.int .i64)] cs b):∃o:Kp,cs=encK o/\o.1.length+o.2.1.length+1<=b:=by
 cases h with
 | cons c1 h e1 =>
 cases h with
 | cons c2 h e2 =>
 cases h with
 | cons c3 h e3 =>
 cases h;obtain⟨p,rfl⟩:=c1.1;obtain⟨t,rfl⟩:=c2.1;obtain⟨n,rfl⟩:=c3.1;have q1:=Z3b.str hB Tryz.underlying9 c1;have q2:=Z3b.str hB Tryz.underlying9 c2;exact⟨(p,t,n),rfl,by simp only;omega⟩
theorem Z11y (hB:Bulk B):∀{rows:List (List Value)} {bs:List Nat},bs.length=rows.length->(∀(i:Nat) r b,rows[i]?=some r->bs[i]?=some b->Lv enc Tryz.prog w sp B [(9,.str),(9,.str),(3,.int .i64)] r b) -> ∃l:List Kp,rows=l.map encK/\∀x∈l,x.1.length<=bs.sum:=by
 intro rows;induction rows with
 | nil=>exact fun _ _=>⟨[],rfl,by simp⟩
 | cons r rows ih =>
  intro bs hl h
  match bs,hl with
  | b::bs,hl =>
   obtain⟨l,e,hb⟩:=ih (bs:=bs) (by simpa using hl) (fun i r' b' h1 h2=>h (i+1) r' b' (by simpa using h1) (by simpa using h2));obtain⟨o,rfl,hob⟩:=Zzk hB (h 0 r b rfl rfl);refine⟨o::l,by rw[e];rfl,?_⟩;intro x hx;rw[List.sum_cons];rcases List.mem_cons.1 hx with rfl|hx
   ·omega
   ·have:=hb x hx;omega
end
end Go.Proofs.YtkhakgbnfapifaaGreatDoor
namespace Go.Proofs.YtkhakgbnfapifaaGreatDoor
open Go Go.Sx Go.ChangeShapes Go.WideShapes Go.ChangeAt Go.RowKit
section
variable {H:Type} {enc:TypeId×Value->H} {w:World} {sp:Nat->Bool} {B:DataW H->Nat}
theorem Zzl (hB:Bulk B) {cs:List Value} {b:Nat} (h:Lv enc Tryz.prog w sp B [(9,.str),(9,.str),(3,.int .i64)] cs b):∃o:Wt,cs=Z7 o/\o.1.length+o.2.1.length+1<=b:=by
 cases h with
 | cons c1 h e1 =>
 cases h with
 | cons c2 h e2 =>
 cases h with
 | cons c3 h e3 =>
 cases h;obtain⟨p,rfl⟩:=c1.1;obtain⟨t,rfl⟩:=c2.1;obtain⟨n,rfl⟩:=c3.1;have q1:=Z3b.str hB Tryz.underlying9 c1;have q2:=Z3b.str hB Tryz.underlying9 c2;exact⟨(p,t,n),rfl,by simp only;omega⟩
theorem Z11z (hB:Bulk B):∀{rows:List (List Value)} {bs:List Nat},bs.length=rows.length->(∀(i:Nat) r b,rows[i]?=some r->bs[i]?=some b->Lv enc Tryz.prog w sp B [(9,.str),(9,.str),(3,.int .i64)] r b) -> ∃l:List Wt,rows=l.map Z7/\∀x∈l,x.1.length<=bs.sum/\x.2.1.length<=bs.sum:=by
 intro rows;induction rows with
 | nil=>exact fun _ _=>⟨[],rfl,by simp⟩
 | cons r rows ih =>
  intro bs hl h
  match bs,hl with
  | b::bs,hl =>
   obtain⟨l,e,hb⟩:=ih (bs:=bs) (by simpa using hl) (fun i r' b' h1 h2=>h (i+1) r' b' (by simpa using h1) (by simpa using h2));obtain⟨o,rfl,hob⟩:=Zzl hB (h 0 r b rfl rfl);refine⟨o::l,by rw[e];rfl,?_⟩;intro x hx;rw[List.sum_cons];rcases List.mem_cons.1 hx with rfl|hx
   ·omega
   ·have:=hb x hx;omega
end
end Go.Proofs.YtkhakgbnfapifaaGreatDoor
namespace Go.Proofs.YtkhakgbnfapifaaGreatDoor
open Go Go.Sx Go.ChangeShapes Go.WideShapes Go.ChangeAt Go.RowKit
section
variable {H:Type} {enc:TypeId×Value->H} {w:World} {sp:Nat->Bool} {B:DataW H->Nat}
theorem Z120 (hB:Bulk B) {cs:List Value} {b:Nat} (h:Lv enc Tryz.prog w sp B [(3,.int .i64),(9,.str),(9,.str),(3,.int .i64)] cs b):∃o:Wat,cs=Z9 o/\o.2.1.length+o.2.2.1.length+2<=b:=by
 cases h with
 | cons c1 h e1 =>
 cases h with
 | cons c2 h e2 =>
 cases h with
 | cons c3 h e3 =>
 cases h with
 | cons c4 h e4 =>
 cases h;obtain⟨p,rfl⟩:=c1.1;obtain⟨t,rfl⟩:=c2.1;obtain⟨n,rfl⟩:=c3.1;obtain⟨k,rfl⟩:=c4.1;have q2:=Z3b.str hB Tryz.underlying9 c2;have q3:=Z3b.str hB Tryz.underlying9 c3;exact⟨(p,t,n,k),rfl,by simp only;omega⟩
theorem Z121 (hB:Bulk B):∀{rows:List (List Value)} {bs:List Nat},bs.length=rows.length->(∀(i:Nat) r b,rows[i]?=some r->bs[i]?=some b->Lv enc Tryz.prog w sp B [(3,.int .i64),(9,.str),(9,.str),(3,.int .i64)] r b) -> ∃l:List Wat,rows=l.map Z9/\∀x∈l,x.2.2.1.length<=bs.sum:=by
 intro rows;induction rows with
 | nil=>exact fun _ _=>⟨[],rfl,by simp⟩
 | cons r rows ih =>
  intro bs hl h
  match bs,hl with
  | b::bs,hl =>
   obtain⟨l,e,hb⟩:=ih (bs:=bs) (by simpa using hl) (fun i r' b' h1 h2=>h (i+1) r' b' (by simpa using h1) (by simpa using h2));obtain⟨o,rfl,hob⟩:=Z120 hB (h 0 r b rfl rfl);refine⟨o::l,by rw[e];rfl,?_⟩;intro x hx;rw[List.sum_cons];rcases List.mem_cons.1 hx with rfl|hx
   ·omega
   ·have:=hb x hx;omega
end
end Go.Proofs.YtkhakgbnfapifaaGreatDoor
namespace Go.Proofs.YtkhakgbnfapifaaGreatDoor
open Go Go.Sx Go.ChangeShapes Go.WideShapes Go.ChangeAt Go.RowKit
theorem tyk1:Tryz.prog.underlying 22=some (.slice 106):=by kernel_rfl
theorem tyk2:Z3a Tryz.prog 8 106=some [(9,.str),(9,.str),(3,.int .i64)]:=by kernel_rfl
theorem tyk3:Tryz.prog.cellsOf 106=3:=by kernel_rfl
theorem tyw1:Tryz.prog.underlying 23=some (.slice 90):=by kernel_rfl
theorem tyw2:Z3a Tryz.prog 8 90=some [(9,.str),(9,.str),(3,.int .i64)]:=by kernel_rfl
theorem tyw3:Tryz.prog.cellsOf 90=3:=by kernel_rfl
theorem tys1:Tryz.prog.underlying 24=some (.slice 63):=by kernel_rfl
theorem tys2:Z3a Tryz.prog 8 63=some [(9,.str),(4,.bool),(4,.bool),(61,.oth),(61,.oth),(3,.int .i64)]:=by kernel_rfl
theorem tys3:Tryz.prog.cellsOf 63=6:=by kernel_rfl
theorem tyf1:Tryz.prog.underlying 61=some (.slice 172):=by kernel_rfl
theorem tyf2:Z3a Tryz.prog 8 172=some [(3,.int .i64),(9,.str),(9,.str)]:=by kernel_rfl
theorem tyf3:Tryz.prog.cellsOf 172=3:=by kernel_rfl
theorem tya1:Tryz.prog.underlying 25=some (.slice 68):=by kernel_rfl
theorem tya2:Z3a Tryz.prog 8 68=some [(3,.int .i64),(9,.str),(9,.str),(3,.int .i64)]:=by kernel_rfl
theorem tya3:Tryz.prog.cellsOf 68=4:=by kernel_rfl
section
variable {H:Type} {enc:TypeId×Value->H} {w:World} {B:DataW H->Nat}
theorem Zzm (hB:Bulk B) {P:Program} {sp:Nat->Bool} {ls:List (TypeId×Kd)} {cs:List Value} {b:Nat} (h:Lv enc P w sp B ls cs b):ls.length<=b:=by
 induction h with
 | nil b=>exact Nat.zero_le _
 | cons h1 h2 h3 ih =>
  obtain⟨-,n,d,ps,-,h5⟩:=h1;have:=hB.one d;rw[List.length_cons];omega
theorem Zzn (hB:Bulk B):∀{rows:List (List Value)} {bs:List Nat},bs.length=rows.length->(∀(i:Nat) r b,rows[i]?=some r->bs[i]?=some b->Lv enc Tryz.prog w (fun _=>true) B [(9,.str),(4,.bool),(4,.bool),(61,.oth),(61,.oth),(3,.int .i64)] r b) -> ∃l:List SesX,rows=l.map Zh/\(Z6 l []).holds w/\(∀t∈l,t.1.cl.length+t.1.fl.length+t.1.qu.length<=bs.sum/\(∀x∈t.1.fl,x.2.1.length<=bs.sum)/\∀x∈t.1.qu,x.2.1.length<=bs.sum)/\6*l.length<=bs.sum:=by
 intro rows;induction rows with
 | nil=>exact fun _ _=>⟨[],rfl,Z7h w,by simp,by simp⟩
 | cons r rows ih =>
  intro bs hl h
  match bs,hl with
  | b::bs,hl =>
   obtain⟨l,e,hp,hb,hn⟩:=ih (bs:=bs) (by simpa using hl) (fun i r' b' h1 h2=>h (i+1) r' b' (by simpa using h1) (by simpa using h2));have hlv:=h 0 r b rfl rfl;have hle:=Zzm hB hlv;obtain⟨s,u,v,e2,ru,rv,z1,z2,z3⟩:=Z11x hB tyf1 tyf2 tyf3 hlv;have e3:r=Zh (s,u,v):=by have e4:=Value.agg.inj e2;have e5:=congrArg Array.toList e4;exact e5
   refine⟨(s,u,v)::l,by rw[e,e3];rfl,?_,?_,?_⟩
   ·refine Z1d (l:=l) (o:=[]) (fun t ht=>?_) (fun t ht=>.inl ht) hp;rcases List.mem_cons.1 ht with rfl|ht
    ·exact .inr ⟨ru,rv⟩
    ·exact .inl ht
   ·intro t ht;rw[List.sum_cons];rcases List.mem_cons.1 ht with rfl|ht
    ·exact⟨by simp only;omega,fun x hx=>by have:=z2 x hx;omega,fun x hx=>by have:=z3 x hx;omega⟩
    ·obtain⟨q1,q2,q3⟩:=hb t ht;exact⟨by omega,fun x hx=>by have:=q2 x hx;omega,fun x hx=>by have:=q3 x hx;omega⟩
   ·simp only[List.length_cons,List.length_nil]at hle;rw[List.sum_cons,List.length_cons];omega
theorem Z122 (hB:Bulk B) {cs:List Value} {b:Nat} (h:Lv enc Tryz.prog w (fun _=>true) B [(22,.oth),(23,.oth),(24,.oth),(25,.oth),(3,.int .i64)] cs b) (hb:b<=4000000) : ∃x:TelX,Value.agg cs.toArray=bkV x/\x.ox=[]/\RdX w x/\SmlT x.tel:=by
 cases h with
 | cons c1 h e1 =>
 cases h with
 | cons c2 h e2 =>
 cases h with
 | cons c3 h e3 =>
 cases h with
 | cons c4 h e4 =>
 cases h with
 | cons c5 h e5 =>
 cases h;obtain⟨n,rfl⟩:=c5.1;obtain⟨-,n1,d1,ps1,hx1,hb1⟩:=c1;obtain⟨rows1,bs1,rd1,bl1,lv1,bk1⟩:=Z4d hB (f:=8) tyk1 tyk2 tyk3 (by decide) hx1;have rl1:=Z7j hB (by decide) bl1 lv1;obtain⟨l1,rfl,s1⟩:=Z11y hB bl1 lv1;obtain⟨-,n2,d2,ps2,hx2,hb2⟩:=c2;obtain⟨rows2,bs2,rd2,bl2,lv2,bk2⟩:=Z4d hB (f:=8) tyw1 tyw2 tyw3 (by decide) hx2;have rl2:=Z7j hB (by decide) bl2 lv2;obtain⟨l2,rfl,s2⟩:=Z11z hB bl2 lv2;obtain⟨-,n3,d3,ps3,hx3,hb3⟩:=c3;obtain⟨rows3,bs3,rd3,bl3,lv3,bk3⟩:=Z4d hB (f:=8) tys1 tys2 tys3 (by decide) hx3;obtain⟨l3,rfl,p3,s3,k3⟩:=Zzn hB bl3 lv3;obtain⟨-,n4,d4,ps4,hx4,hb4⟩:=c4;obtain⟨rows4,bs4,rd4,bl4,lv4,bk4⟩:=Z4d hB (f:=8) tya1 tya2 tya3 (by decide) hx4;have rl4:=Z7j hB (by decide) bl4 lv4;obtain⟨l4,rfl,s4⟩:=Z121 hB bl4 lv4;rw[qy3]at rl1 rl2 rl4;simp only at bk1 bk2 bk3 bk4;refine⟨⟨l1,l2,l3,l4,n,[],_,_,_,_,.slice none 0 0⟩,by rw[bkV,rd1.sc1,rd2.sc1,rd3.sc1,rd4.sc1],rfl,⟨rd1,rd2,rd3,p3,rd4⟩,?_⟩;refine⟨fun x hx=>by have:=s1 x hx;omega,by show l1.length<_;omega,fun x hx=>?_,by show l2.length<_;omega,fun s hs=>?_,?_,fun x hx=>?_,by show l4.length<_;omega⟩
 ·have:=s2 x hx;exact⟨by omega,by omega⟩
 ·obtain⟨t,ht,rfl⟩:=List.mem_map.1 hs;obtain⟨q1,q2,q3⟩:=s3 t ht;exact⟨fun x hx=>by have:=q2 x hx;omega,fun x hx=>by have:=q3 x hx;omega,by omega,by omega,by omega⟩
 ·show (l3.map (·.1)).length<_
  rw[qy3];omega
 ·have:=s4 x hx;omega
end
end Go.Proofs.YtkhakgbnfapifaaGreatDoor
