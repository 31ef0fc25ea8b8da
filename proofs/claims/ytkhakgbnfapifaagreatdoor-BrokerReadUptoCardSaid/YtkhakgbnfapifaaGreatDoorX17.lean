/-
  Texts of mine, one behind the other. By an AI agent.
-/
import Derived.Test.YtkhakgbnfapifaaGreatDoorX16
import Derived.Test.YtkhakgbnfapifaaGreatDoorX10
import Derived.WalkKit
import Derived.LoopN
import Derived.Test.YtkhakgbnfapifaaGreatDoorX15
import Derived.Test.YtkhakgbnfapifaaGreatDoorX12
set_option linter.unusedSimpArgs false
set_option linter.unusedVariables false
set_option maxHeartbeats 20000000
namespace Go.Proofs.YtkhakgbnfapifaaGreatDoor
open Go Go.Sx
theorem Ztx {w w1:World} {k:Nat} {x:TelX} {ρ:List V} {hp:List Ent} (h:Rel ⟨Zr (tlA k x) tlH,w⟩ ρ hp w1) (m:Nat) {v ty:Nat} {ks:List Kd} {r:X} (h0:hp[m]?=some (.row v ty ks r)) {a b c d:Nat} {ea eb ec ed:Ent} (hn:m≠a/\m≠b/\m≠c/\m≠d) (ha:hp[a]?=some ea) (hb:hp[b]?=some eb) (hc:hp[c]?=some ec) (hd:hp[d]?=some ed) (h1:ea.fp ρ k) (h2:∀j,Z2 x.sv j->eb.fp ρ j) (h3:∀j,Z2 x.av j->ec.fp ρ j) (h4:∀j,Z2 x.ov j->ed.fp ρ j) : ∀j,Z2 (ρ.getD v (.i 0)).toV j->w.heap.size<=j:=fun j hj=>by
  rcases h.own _ (qy6 h0) rfl j hj with g|g
  . exact g
  . exfalso;have key:∀(i:Nat) (e:Ent),hp[i]?=some e->m≠i->e.fp ρ j->False:=fun i e he hi hf=>h.sep.disj (i:=m) (j:=i) h0 he hi (.inl rfl) hj hf;rcases List.mem_cons.1 (Zot g) with g|g
    . exact key a _ ha hn.1 (by rw[g];exact h1)
    . rcases qy13.1 g with g|g
      . exact key b _ hb hn.2.1 (h2 j (Option.mem_toList.1 g))
      . rcases qy13.1 g with g|g
        . exact key c _ hc hn.2.2.1 (h3 j (Option.mem_toList.1 g))
        . rcases qy13.1 g with g|g
          . exact key d _ hd hn.2.2.2 (h4 j (Option.mem_toList.1 g))
          . cases g
theorem Zn5 {k:Nat} {g a:List Nat}:∀j∈k::a,j∈k::(g++a):=fun j hj=>by
  rcases List.mem_cons.1 hj with rfl|h
  . exact qy8 ..
  . exact qy10 _ (List.mem_append_right _ h)
theorem Zyj {P:Program} {f:Nat} {args:Array Value} {w:World} {B:Base} {ρ:List V} {hp:List Ent} {k:Nat} {x:TelX} {F:Nat->Prop} {R:TelX->Prop} {pre:List V} {v:Value} (h0:Rel B ρ hp w) (n vk:Nat) (gone:List Nat) (h:Calls P f args w fun e w1=>e=.returned v/\∃y:TelX,R y/\Rel ⟨Zr (tlA k x) tlH,w⟩ (tlA k y) tlH w1/\Grew w.heap.size F x y) (hn:ρ.length+pre.length=n) (hk:ρ.getD vk (.i 0)=.n k) (hv:vk<ρ.length) (hM:∀j∈k::(x.sv.ownBlock.toList++(x.av.ownBlock.toList++(x.ov.ownBlock.toList++[]))),j∈Zv ρ [vk] gone) (hO:∀j,(Zh3 x j\/Zc3 x j\/(Z6 x.sx x.ox).fp j\/F j)->(∃y∈hp,y.wr=false/\y.fp ρ j)\/j∈Z16 ρ gone) : Calls P f args w fun e w1=>∃y:TelX,R y/\w.heap.size<=w1.heap.size/\Grew w.heap.size F x y/\e=.returned v/\Mod (Zv ρ [vk] gone) w w1/\(∀x∈tlMs vk n,x.holds (ρ++(pre++tlV y)) w1) /\ (∀x∈tlEs n,x.holds (ρ++(pre++tlV y)) w1/\∀k,x.fp (ρ++(pre++tlV y)) k->w.heap.size<=k\/(x.wr=false/\∃y∈hp,y.wr=false/\y.fp ρ k)\/k∈Z16 ρ gone)/\Z2s (ρ++(pre++tlV y)) (tlEs n):=by
  refine h.mono ?_;rintro e w1 ⟨he,y,hT,hq,hg⟩;have hs:=Zt0 (y:=y) hn hk hv;have hq':Rel ⟨Zv ρ [vk] gone,w⟩ (ρ++(pre++tlV y)) (tlEs n++tlMs vk n) w1:=Zko (hq.conv hs) rfl fun j hj=>hM j (Zot hj);refine⟨y,hT,hq.mod.size,hg,he,hq'.mod,fun x hx=>hq'.holds x (List.mem_append_right _ hx),fun x hx=>⟨hq'.holds x (List.mem_append_left _ hx),fun j hj=>?_⟩,(List.pairwise_append.1 hq'.sep).1⟩;cases hw:x.wr with
  | false =>
    have h1:Ent.sem (ρ++(pre++tlV y)) x∈tlH.map (Ent.sem (tlA k y)):=by rw[hs];exact List.mem_map_of_mem (List.mem_append_left _ hx)
    obtain⟨e',he',hee⟩:=List.mem_map.1 h1;have hw':e'.wr=false:=(congrArg SEnt.wr hee).trans hw;have hj':e'.fp (tlA k y) j:=(congrFun (congrArg SEnt.fp hee) j).mpr hj;have key:∀j,(Zh3 y j\/Zc3 y j\/(Z6 y.sx y.ox).fp j)->w.heap.size<=j\/(∃y∈hp,y.wr=false/\y.fp ρ j)\/j∈Z16 ρ gone:=by
      rintro j (h|h|h)
      . rcases hg.kept j h with h|h
        . exact .inl h
        . exact .inr (hO j (.inl h))
      . rcases hg.want j h with h|h
        . exact .inl h
        . exact .inr (hO j (.inr (.inl h)))
      . rcases hg.nest j h with h|h|h
        . exact .inl h
        . exact .inr (hO j (.inr (.inr (.inl h))))
        . exact .inr (hO j (.inr (.inr (.inr h))))
    have fin:w.heap.size<=j\/(∃y∈hp,y.wr=false/\y.fp ρ j)\/j∈Z16 ρ gone:=by
      simp only[tlH,List.mem_cons,List.not_mem_nil,or_false]at he';rcases he' with rfl|rfl|rfl|rfl|rfl|rfl|rfl
      . exact key j (.inl hj')
      . exact key j (.inr (.inl hj'))
      . cases hw'
      . cases hw'
      . cases hw'
      . exact key j (.inr (.inr hj'))
      . cases hw'
    rcases fin with h|h|h
    . exact .inl h
    . exact .inr (.inl ⟨rfl,h⟩)
    . exact .inr (.inr h)
  | true =>
    rcases hq'.own x (List.mem_append_left _ hx) hw j hj with h5|h5
    . exact .inl h5
    . simp only[Zv,List.map_cons,List.map_nil,qy13,qy12]at h5;rcases h5 with h5|h5
      . exfalso;refine(List.pairwise_append.1 hq'.sep).2.2 x hx _ (qy12.2 rfl) (.inl hw) _ hj ?_;rw[h5];simp only[Ent.fp];rw[qy1 (l:=ρ++_),List.getElem?_append_left hv,<- qy1]
      . exact .inr (.inr h5)
def unK (c:List UInt8) (asks:List Ak) (w:Wt):Bool:=!(decide (w.1=c) && asks.any fun a=>decide (a.1=w.2.1))
theorem Zyk {c:List UInt8} {asks:List Ak} {y:Wt} {m:Nat} (h:y.1=c) (hm:m<asks.length) (h2:(asks.getD m aD).1=y.2.1):¬unK c asks y=true:=by unfold unK;rw[qy1,qy7 hm]at h2;have:(asks.any fun a=>decide (a.1=y.2.1))=true:=List.any_eq_true.2 ⟨asks[m],List.getElem_mem hm,by simpa using h2⟩;rw[this];simp[h]
theorem Zyl {c:List UInt8} {asks:List Ak} {y:Wt} (h:¬y.1=c):unK c asks y=true:=by unfold unK;simp[h]
theorem Zty {c:List UInt8} {asks:List Ak} {y:Wt} (h:∀m,m<asks.length->¬(asks.getD m aD).1=y.2.1):unK c asks y=true:=by
  unfold unK;have:(asks.any fun a=>decide (a.1=y.2.1))=false:=by rw[List.any_eq_false];intro a ha;obtain⟨m,hm,rfl⟩:=List.getElem_of_mem ha;have:=h m hm;rw[qy1,qy7 hm]at this;simpa using this
  rw[this];simp
set_option maxRecDepth 2000 in
theorem Zhb (w:World) (k:Nat) (x:TelX) (c:List UInt8) (p:Pkt) (va vc:Value) (hr:Rel ⟨Zr (tlA k x) tlH,w⟩ (tlA k x++Z5t c p va vc) (tlH++pkHp) w) (hlw:x.wants.length<1000000) (ho:x.ox.length<50000) (hl:p.asks.length<1000000) : Calls Tryz.prog 132 #[.pointer (some ⟨k,0,none⟩),.string ⟨c.toArray⟩,Zp1 p va vc] w fun e w'=>e=.returned (.tuple #[])/\Z78 w w' k x (fun _=>False) (Z53 c p x.tel):=by
  refine Z1 (Z3 (ρ:=tlA k x++Z5t c p va vc) sxE_ok Tryz.func132 Z38 rfl rfl hr rfl rfl ?_) rfl;simp only[Tree.goal,X.P,X.ev,SV.ev,CV.ev,Sc.ev,qz,QA,QB,QC,QD,QE,QF,QG,QH,QI,QJ,QK,QL,QM,Nat.reduceAdd,qy3,qy4,Z1u,Z25,Z3c,gA0];intro b30 b31 w1 hr1;obtain⟨l,hle⟩:∃l,l=x.wants:=⟨_,rfl⟩
  refine(Z44 w1 x.wv x.wants (hr1.at_ 4 rfl) (by omega)).mono ?_;rintro e w2 ⟨u,rfl,a1,f1,m1⟩;refine⟨[.v u,.r (x.wants.map Zb)],rfl,rfl,m1,qy5 _,qy2.2 ⟨⟨a1,fun k hk=>.inl (f1 k hk)⟩,qy5 _⟩,Z4,?_⟩;clear hr1 a1 f1 m1;rw[<- hle]at hlw;simp only[Tree.goal,X.P,X.ev,SV.ev,CV.ev,Sc.ev,qz,QA,QB,QC,QD,QE,QF,QG,QH,QI,QJ,QK,QL,QM,Nat.reduceAdd,qy3,qy4,Z1u,Z25,Z3c,gA0,<- hle];have hfin:∀(u':Value) (y1:TelX),y1.tel={ (TelX.tel { x with wants:=l.filter (unK c p.asks),wv:=u' }) with out:=(TelX.tel { x with wants:=l.filter (unK c p.asks),wv:=u' }).out++[toC c { pD_Q 11 with id:=p.id }] }->y1.tel=Z53 c p x.tel:=fun u' y1 h=>by rw[h,hle];rfl
  refine⟨fun vs=>∃(y:V) (i:Nat),vs=[y,.i i,.i p.kind,.b p.dup,.b p.retain,.b p.clean,.b p.session,.i p.qos,.i p.id,.i p.keep,.i p.code,.s p.client,.s p.topic,.s p.payload,.v va,.r (p.asks.map encA),.v vc,.r (p.codes.map Z1h),.s c]/\i<=l.length/\∀j,j<i->unK c p.asks (l.getD j wD_V)=true,fun vs=>(l.length - (vs.getD 1 (.i 0)).toI).toNat,⟨_,0,rfl,by omega,fun j hj=>by omega⟩,?_⟩;rintro _ - ⟨y0,i,rfl,hi,hn⟩;simp only[Tree.goal,X.P,X.ev,SV.ev,CV.ev,Sc.ev,qz,QA,QB,QC,QD,QE,QF,QG,QH,QI,QJ,QK,QL,QM,Nat.reduceAdd,qy3,qy4,Z1u,Z25,Z3c,gA0];refine⟨fun h1=>?_,fun h1=>?_⟩
  . have hi':i<l.length:=by omega
    refine⟨by omega,fun b55=>?_⟩;refine⟨fun h2=>?_,fun h2=>⟨by omega,by omega,⟨_,i+1,rfl,by omega,fun j hj=>?_⟩,by omega⟩⟩
    . refine⟨fun vs=>∃(y:V) (m:Nat),vs=[y,.i m,.s (l.getD i wD_V).1,.s (l.getD i wD_V).2.1,.i (l.getD i wD_V).2.2]/\m<=p.asks.length/\∀j,j<m->¬(p.asks.getD j aD).1=(l.getD i wD_V).2.1,fun vs=>(p.asks.length - (vs.getD 1 (.i 0)).toI).toNat,⟨_,0,rfl,by omega,fun j hj=>by omega⟩,?_⟩;rintro _ - ⟨y1,m,rfl,hm,hnm⟩;simp only[Tree.goal,X.P,X.ev,SV.ev,CV.ev,Sc.ev,qz,QA,QB,QC,QD,QE,QF,QG,QH,QI,QJ,QK,QL,QM,Nat.reduceAdd,qy3,qy4,Z1u,Z25,Z3c,gA0];refine⟨fun h3=>⟨by omega,fun b61=>⟨fun h4=>⟨fun h5=>by omega,fun h5=>⟨by omega,by omega,?_⟩⟩,fun h4=>⟨by omega,by omega,⟨_,m+1,rfl,by omega,fun j hj=>?_⟩,by omega⟩⟩⟩,fun h3=>⟨fun h5=>by omega,fun h5=>⟨by omega,by omega,⟨_,i+1,rfl,by omega,fun j hj=>?_⟩,by omega⟩⟩⟩
      . refine⟨fun vs=>∃(a j:Nat) (R:List Wt),vs=[.i a,.i j,.r (R.map Zb),.i p.kind,.b p.dup,.b p.retain,.b p.clean,.b p.session,.i p.qos,.i p.id,.i p.keep,.i p.code,.s p.client,.s p.topic,.s p.payload,.v va,.r (p.asks.map encA),.v vc,.r (p.codes.map Z1h),.s c]/\a<j/\j<=l.length/\R.length=l.length/\R.take a=(l.take j).filter (unK c p.asks)/\R.drop j=l.drop j,fun vs=>(l.length - (vs.getD 1 (.i 0)).toI).toNat,
          ⟨i,i+1,l,rfl,by omega,by omega,rfl,?_,rfl⟩,?_⟩
        . rw[Z5l (unK c p.asks) l i (by omega),if_neg (Zyk (m:=m) h2 (by omega) h4),List.append_nil,Za1 hn]
        rintro _ - ⟨a,j,R,rfl,haj,hj,hR,ht,hd⟩;simp only[Tree.goal,X.P,X.ev,SV.ev,CV.ev,Sc.ev,qz,QA,QB,QC,QD,QE,QF,QG,QH,QI,QJ,QK,QL,QM,Nat.reduceAdd,qy3,qy4,Z1u,Z25,Z3c,gA0,hR];refine⟨fun h6=>?_,fun h6=>?_⟩
        . have hj':j<l.length:=by omega
          have hg:=Ziw hd;refine⟨by omega,fun b82 b83=>?_⟩;refine⟨fun h7=>?_,fun h7=>?_⟩
          . refine⟨fun vs=>∃(y:V) (m:Nat),vs=[y,.i m,.s (R.getD j wD_V).1,.s (R.getD j wD_V).2.1,.i (R.getD j wD_V).2.2]/\m<=p.asks.length/\∀i,i<m->¬(p.asks.getD i aD).1=(R.getD j wD_V).2.1,fun vs=>(p.asks.length - (vs.getD 1 (.i 0)).toI).toNat,⟨_,0,rfl,by omega,fun j hj=>by omega⟩,?_⟩;rintro _ - ⟨y3,m3,rfl,hm3,hnm3⟩;simp only[Tree.goal,X.P,X.ev,SV.ev,CV.ev,Sc.ev,qz,QA,QB,QC,QD,QE,QF,QG,QH,QI,QJ,QK,QL,QM,Nat.reduceAdd,qy3,qy4,Z1u,Z25,Z3c,gA0,hR];refine⟨fun h8=>⟨by omega,fun b89=>⟨fun h9=>⟨by omega,by omega,⟨a,j+1,R,rfl,by omega,by omega,hR,?_,Z5m hd⟩,by omega⟩,fun h9=>⟨by omega,by omega,⟨_,m3+1,rfl,by omega,fun i hi=>?_⟩,by omega⟩⟩⟩,fun h8=>⟨fun h9=>?_,fun h9=>by omega⟩⟩
            . rw[Z5l (unK c p.asks) l j (by omega),if_neg (Zyk (m:=m3) (by rw[<- hg];exact h7) (by omega) (by rw[<- hg];exact h9)),List.append_nil];exact ht
            . by_cases hij:i=m3
              . subst hij;exact h9
              . exact hnm3 i (by omega)
            . repeat (first|omega|refine⟨by omega,?_⟩)
              refine⟨⟨a+1,j+1,R.set a (R.getD j wD_V),?_,by omega,by omega,by simpa using hR,Zdr haj (by omega) hR ht hd (by rw[<- hg];exact Zty fun m hm=>hnm3 m (by omega)),?_⟩,by omega⟩
              . rw[<- Zcg];rfl
              . rw[List.drop_set_of_lt (by omega)];exact Z5m hd
          . repeat (first|omega|refine⟨by omega,?_⟩)
            refine⟨⟨a+1,j+1,R.set a (R.getD j wD_V),?_,by omega,by omega,by simpa using hR,Zdr haj (by omega) hR ht hd (by rw[<- hg];exact Zyl h7),?_⟩,by omega⟩
            . rw[<- Zcg];rfl
            . rw[List.drop_set_of_lt (by omega)];exact Z5m hd
        . have hje:j=l.length:=by omega
          subst hje;rw[List.take_length]at ht;refine⟨by omega,by omega,?_,fun u' v83 w3 hr3=>?_⟩
          . simp only[qy11,List.length_take,List.length_replicate,qy3,hR];omega
          have hz3:=hr3.mod.size;have hnu:∀j,Z2 u' j->w.heap.size<=j:=Ztx hr3 1 rfl (a:=14) (b:=10) (c:=11) (d:=12) (by decide) rfl rfl rfl rfl rfl (fun j h=>h) (fun j h=>h) (fun j h=>h);refine(Zyj (k:=k) (x:={ x with wants:=l.filter (unK c p.asks),wv:=u' }) (F:=(Zu [pk1X { pD_Q 11 with id:=p.id }]).fp) (pre:=[]) hr3 84 0 [82,5,7,10]
            (Z1a w3 k { x with wants:=l.filter (unK c p.asks),wv:=u' } c v83 [pk1X { pD_Q 11 with id:=p.id }] (Z6j (Z3k (v:=82) (Z3k (v:=83) hr3)) (by rfl) k { x with wants:=l.filter (unK c p.asks),wv:=u' } (Zu [pk1X { pD_Q 11 with id:=p.id }]) _ _ (hr3.at_ 13 rfl) (fun j hj=>⟨_,qy6 (i:=13) rfl,rfl,hj⟩) (Z4k rfl rfl _) (fun j hj=>absurd hj (Z2f rfl rfl)) [10,3,12,13,14,1,16,2,0] (by decide) rfl
              (Zp rfl (Zp (Zjd rfl (by simp only[Tree.goal,X.P,X.ev,SV.ev,CV.ev,Sc.ev,qz,QA,QB,QC,QD,QE,QF,QG,QH,QI,QJ,QK,QL,QM,Nat.reduceAdd,qy3,qy4,Z1u,Z25,Z3c,gA0];rw[List.take_append_of_le_length (by simp;omega),List.take_take,Nat.min_self,<- List.map_take,ht])) rfl))) (show 1<1000000 by decide) (by show x.ox.length<1000000;omega))
            rfl rfl (Nat.succ_pos _) Zn5 (fun j hj=>?_)).mono ?_
          . rcases hj with hj|hj|hj|hj
            . exact .inl ⟨_,qy6 (i:=8) rfl,rfl,hj⟩
            . exact .inr (Z68 (i:=82) (qy8 ..) hj.2)
            . exact .inl ⟨_,qy6 (i:=13) rfl,rfl,hj⟩
            . exact absurd hj (Z2f rfl rfl)
          rintro e w4 ⟨y4,hy4,hs4,hg4,rfl,m1,m2,m3,m4⟩;refine⟨tlV y4,rfl,rfl,m1,m2,m3,m4,?_⟩;intro w7 hr7;exact⟨by trivial,y4,hfin u' y4 hy4,(hr7.pick [0,1,2,3,4,5,16] (by decide)).conv rfl,(show Grew w.heap.size (fun _=>False) x { x with wants:=l.filter (unK c p.asks),wv:=u' } from ⟨fun j hj=>.inr hj,fun j hj=>.inl (hnu j hj.2),fun j hj=>.inr (.inl hj)⟩).trans hg4 hz3 (fun j h=>absurd h (Z2f rfl rfl))⟩
      . by_cases hij:j=m
        . subst hij;exact h4
        . exact hnm j (by omega)
      . by_cases hij:j=i
        . subst hij;exact Zty fun m' hm'=>hnm m' (by omega)
        . exact hn j (by omega)
    . by_cases hij:j=i
      . subst hij;exact Zyl h2
      . exact hn j (by omega)
  . have hie:i=l.length:=by omega
    subst hie;have e1:=Za1 (p:=unK c p.asks) (l:=l) (i:=l.length) hn;rw[List.take_length]at e1;intro v55 w3 hr3;obtain⟨u',hu'⟩:∃u',u'=u:=⟨_,rfl⟩
    subst hu';have hz3:=hr3.mod.size;have hnu:∀j,Z2 u' j->w.heap.size<=j:=Ztx hr3 2 rfl (a:=12) (b:=8) (c:=9) (d:=10) (by decide) rfl rfl rfl rfl rfl (fun j h=>h) (fun j h=>h) (fun j h=>h);refine(Zyj (k:=k) (x:={ x with wants:=l.filter (unK c p.asks),wv:=u' }) (F:=(Zu [pk1X { pD_Q 11 with id:=p.id }]).fp) (pre:=[]) hr3 56 0 [33,5,7,10]
      (Z1a w3 k { x with wants:=l.filter (unK c p.asks),wv:=u' } c v55 [pk1X { pD_Q 11 with id:=p.id }] (Z6j (Z3k (v:=33) (Z3k (v:=55) hr3)) (by rfl) k { x with wants:=l.filter (unK c p.asks),wv:=u' } (Zu [pk1X { pD_Q 11 with id:=p.id }]) _ _ (hr3.at_ 11 rfl) (fun j hj=>⟨_,qy6 (i:=11) rfl,rfl,hj⟩) (Z4k rfl rfl _) (fun j hj=>absurd hj (Z2f rfl rfl)) [8,4,10,11,12,1,14,2,0] (by decide) rfl
        (Zp rfl (Zp (Zjd rfl (by rw[e1];rfl)) rfl))) (show 1<1000000 by decide) (by show x.ox.length<1000000;omega))
      rfl rfl (Nat.succ_pos _) Zn5 (fun j hj=>?_)).mono ?_
    . rcases hj with hj|hj|hj|hj
      . exact .inl ⟨_,qy6 (i:=6) rfl,rfl,hj⟩
      . exact .inr (Z68 (i:=33) (qy8 ..) hj.2)
      . exact .inl ⟨_,qy6 (i:=11) rfl,rfl,hj⟩
      . exact absurd hj (Z2f rfl rfl)
    rintro e w4 ⟨y4,hy4,hs4,hg4,rfl,m1,m2,m3,m4⟩;refine⟨tlV y4,rfl,rfl,m1,m2,m3,m4,?_⟩;intro w7 hr7;exact⟨by trivial,y4,hfin u' y4 hy4,(hr7.pick [0,1,2,3,4,5,14] (by decide)).conv rfl,(show Grew w.heap.size (fun _=>False) x { x with wants:=l.filter (unK c p.asks),wv:=u' } from ⟨fun j hj=>.inr hj,fun j hj=>.inl (hnu j hj.2),fun j hj=>.inr (.inl hj)⟩).trans hg4 hz3 (fun j h=>absurd h (Z2f rfl rfl))⟩
theorem Zb2 {l:List Wt} (h:Zf l=0):Z2i l:=fun y hy=>by obtain⟨h1,h2,-⟩:=Zmc h y hy;have h3:=(Z73.1 h2).2.1.1;unfold cliB at h1;rw[Bool.and_eq_true,decide_eq_true_eq]at h1;exact⟨by omega,by omega⟩
theorem Z14x {p:Pkt} (h:chkP p=0) (hk:p.kind=10):p.asks.length<=5:=by
 have h1:=(Zkt h).1;unfold Z3f at h1;rw[if_neg (by omega),if_neg (by omega),if_neg (by omega),if_pos (.inr hk),Zit]at h1;split at h1
 ·rename_i h2;exact(Zn0 h2).2
 ·exact absurd h1 (by assumption)
theorem Zxo (w:World) (k:Nat) (x:TelX) (c:List UInt8) (p:Pkt) (va vc:Value) (hr:Rel ⟨Zr (tlA k x) tlH,w⟩ (tlA k x++Z5t c p va vc) (tlH++pkHp) w) (hb:BOk x.tel) (ho:x.ox.length<40000) (hc:Z12 c=true) (hp:chkP p=0) : Calls Tryz.prog 37 #[.pointer (some ⟨k,0,none⟩),.string ⟨c.toArray⟩,Zp1 p va vc] w fun e w'=>e=.returned (.tuple #[])/\Z78 w w' k x (fun _=>False) (Z4h c p x.tel):=by
 refine Z1 (Z3 (ρ:=tlA k x++Z5t c p va vc) (sxE_ok.joins _) Tryz.func37 Z5c rfl rfl hr rfl rfl ?_) rfl;simp only[Tree.goal,X.P,X.ev,SV.ev,CV.ev,Sc.ev,qz,QA,QB,QC,QD,QE,QF,QG,QH,QI,QJ,QK,QL,QM,Nat.reduceAdd,qy3,qy4];have hn6:x.sx.length<=6:=by have:=hb.ns;rw[Z2j,qy3]at this;exact this
 have hw20:x.wants.length<=20:=Zmr hb.wants;intro b30;refine⟨[.i (idxS x.tel.sess c),.b (hasS x.tel.sess c)],rfl,fun _ w' hr=>Ze1 w' x.sv x.sx c (hr.at_ 3 rfl).reads hb.sort (by omega),?_⟩;simp only[Tree.goal,X.P,X.ev,SV.ev,CV.ev,Sc.ev,qz,QA,QB,QC,QD,QE,QF,QG,QH,QI,QJ,QK,QL,QM,Nat.reduceAdd,qy3,qy4];have hat:hasS x.tel.sess c=true->idxS x.tel.sess c<x.sx.length:=fun h=>(Zoz h).1;have hon:hasS x.tel.sess c=true->Value.gB (((x.sx.map Zh).getD (idxS x.tel.sess c) []).getD 1 undef)=(x.tel.sess.getD (idxS x.tel.sess c) s0).on:=fun h=>by rw[Z7x (Zoz h).1,<- (Zoz h).2];rfl
 refine⟨.inr (by omega),?_,?_⟩
 ·by_cases h:hasS x.tel.sess c=true
  ·exact .inr (by have:=hat h;omega)
  ·exact .inl fun h2=>h h2.2
 have hif:(¬p.kind=1/\(¬hasS x.tel.sess c=true\/¬Value.gB (((x.sx.map Zh).getD (idxS x.tel.sess c) []).getD 1 undef)=true))↔(¬p.kind=1/\(¬hasS x.tel.sess c=true\/¬(x.tel.sess.getD (idxS x.tel.sess c) s0).on=true)):=by
  by_cases h:hasS x.tel.sess c=true
  ·rw[hon h]
  ·simp[h]
 rw[hif];have hfin:∀{w1:World} {y:TelX} {t:Tel},w.heap.size<=w1.heap.size->Grew w1.heap.size (fun _=>False) x y->Grew w.heap.size (fun _=>False) x y:=fun h1 h2=>(Grew.refl _ _ x).trans h2 h1 (fun _ h=>h.elim);refine⟨fun h1 w3 hr=>⟨by trivial,x,by rw[Z4h,if_pos h1],(hr.pick [1,2,3,4,5,6,7] (by decide)).conv rfl,.refl _ _ _⟩,fun h1=>?_⟩;have hpk:Z4h c p x.tel=if p.kind=1 then Z7k c p x.tel
   else if p.kind=3 then Zck c p x.tel
   else if p.kind=4 then Z10o c p x.tel
   else if p.kind=8 then Z7l c p x.tel
   else if p.kind=10 then Z53 c p x.tel
   else if p.kind=12 then { x.tel with out:=x.tel.out++[toC c (pD_Q 13)] }
   else if p.kind=14 then Zbz c x.tel
   else x.tel:=by rw[Z4h,if_neg h1]
 have hhas:¬p.kind=1->hasS x.tel.sess c=true/\(x.tel.sess.getD (idxS x.tel.sess c) s0).on=true:=fun h2=>⟨Classical.byContradiction fun h4=>h1 ⟨h2,.inl h4⟩,Classical.byContradiction fun h4=>h1 ⟨h2,.inr h4⟩⟩
 refine⟨fun hq1=>?_,fun hq1=>?_⟩
 ·intro w1 hr1;refine(Z2r (k:=k) (x:=x) (F:=fun _=>False) (pre:=[]) hr1 33 0 [5,7,10]
   (Ztu w1 k x c p va vc (((hr1.pick [1,2,3,4,5,6,7,8,9] (by decide)).conv rfl).base.conv rfl) hb (by omega) hc)
   rfl rfl (Nat.succ_pos _) rfl (fun j hj=>?_)).mono ?_
  ·rcases hj with hj|hj|hj|hj
   ·exact⟨_,qy6 (i:=1) rfl,rfl,hj⟩
   ·exact⟨_,qy6 (i:=2) rfl,rfl,hj⟩
   ·exact⟨_,qy6 (i:=6) rfl,rfl,hj⟩
   ·exact hj.elim
  rintro e w2 ⟨y,hy,hs,hg,rfl,m1,m2,m3,m4⟩;refine⟨tlV y,rfl,rfl,m1,m2,m3,m4,?_⟩;intro w3 hr3;exact⟨by trivial,y,by rw[hy,hpk,if_pos hq1],(hr3.pick [0,1,2,3,4,5,10] (by decide)).conv rfl,(Grew.refl _ _ x).trans hg hr1.mod.size (fun _ h=>h.elim)⟩
 refine⟨fun h3=>?_,fun h3=>?_⟩
 ·intro w1 hr1;refine(Z2r (k:=k) (x:=x) (F:=fun _=>False) (pre:=[]) hr1 33 0 [5,7,10]
   (Ztt w1 k x c p va vc (((hr1.pick [1,2,3,4,5,6,7,8,9] (by decide)).conv rfl).base.conv rfl) hb (by omega) (Zb2 hb.wants) ((Zkt hp).2.1 h3))
   rfl rfl (Nat.succ_pos _) rfl (fun j hj=>?_)).mono ?_
  ·rcases hj with hj|hj|hj|hj
   ·exact⟨_,qy6 (i:=1) rfl,rfl,hj⟩
   ·exact⟨_,qy6 (i:=2) rfl,rfl,hj⟩
   ·exact⟨_,qy6 (i:=6) rfl,rfl,hj⟩
   ·exact hj.elim
  rintro e w2 ⟨y,hy,hs,hg,rfl,m1,m2,m3,m4⟩;refine⟨tlV y,rfl,rfl,m1,m2,m3,m4,?_⟩;intro w3 hr3;exact⟨by trivial,y,by rw[hy,hpk,if_neg hq1,if_pos h3],(hr3.pick [0,1,2,3,4,5,10] (by decide)).conv rfl,(Grew.refl _ _ x).trans hg hr1.mod.size (fun _ h=>h.elim)⟩
 refine⟨fun h4=>?_,fun h4=>?_⟩
 ·obtain⟨hh,hon1⟩:=hhas hq1;obtain⟨hlt,hse⟩:=Zoz hh;have hok:SesOk (x.sx.getD (idxS x.tel.sess c) sxD).1:=by rw[hse];exact Zfr hb hh
  have hT:∀u1 u2:Value,Z4h c p x.tel={ (TelX.tel { x with sx:=x.sx.set (idxS x.tel.sess c) ((Z6q (x.sx.getD (idxS x.tel.sess c) sxD).1 p.id).1,u1,u2) }) with out:=(TelX.tel { x with sx:=x.sx.set (idxS x.tel.sess c) ((Z6q (x.sx.getD (idxS x.tel.sess c) sxD).1 p.id).1,u1,u2) }).out++((Z6q (x.sx.getD (idxS x.tel.sess c) sxD).1 p.id).2.map pkN).map fun t=>toC c t.1 }:=fun u1 u2=>by rw[hpk,if_neg hq1,if_neg h3,if_pos h4,Z10o,Zkv,<- hse];simp only[TelX.tel,List.map_set]
  clear hif hon hat;generalize idxS x.tel.sess c=ix at hlt hse hok hT ⊢
  have hrow:=Z7x hlt;simp only[hrow,Zh,List.getD_cons_zero,List.getD_cons_succ,Value.gI,Value.gB,Value.gS,Z1x];have hmm:=Z5p hlt;generalize hss:x.sx.getD ix sxD=ss at hok hse hmm hT
  obtain⟨s,s',s''⟩:=ss;simp only at hok hse hT ⊢;obtain⟨S,hS⟩:∃S,S=Z6q s p.id:=⟨_,rfl⟩
  have hS7:S.2.length<=6:=by rw[hS];exact Ztj p.id hok
  rw[<- hS]at hT;refine⟨fun vs=>∃(u1 u2 u3:Value) (b:Nat),vs=[.s S.1.cl,.b S.1.on,.b S.1.clean,.v u1,.r (S.1.fl.map encF),.v u2,.r (S.1.qu.map encF),.i S.1.next,.v u3,.r ((S.2.map pkN).map Z3g),.n b]/\newV w.heap.size u1/\newV w.heap.size u2,⟨by omega,by omega,?_,?_⟩,?_⟩
  ·intro w1 hr1;have hsz:=hr1.mod.size;obtain⟨hs1,hs2⟩:=Zq (hr1.at_ 6 rfl:(Z6 x.sx x.ox).holds w1) hmm;refine(Z1 (Zy2 w1 s s' s'' p.id hs1 hs2 hok.next (by have:=hok.nf;omega) (by have:=hok.nq;omega)) rfl).mono ?_;rw[<- hS];rintro e w2 ⟨u1,u2,u3,rfl,g1,g2,g3,g4,g5,g6,gm⟩;refine⟨[.s S.1.cl,.b S.1.on,.b S.1.clean,.v u1,.r (S.1.fl.map encF),.v u2,.r (S.1.qu.map encF),.i S.1.next,.v u3,.r ((S.2.map pkN).map Z3g)],rfl,rfl,gm,qy5 _,qy2.2 ⟨⟨g1,fun k hk=>.inl (g4 k hk.2)⟩,qy2.2 ⟨⟨g2,fun k hk=>.inl (g5 k hk.2)⟩,qy2.2 ⟨⟨by show reads w2 u3 kP ((S.2.map pkN).map Z3g);rw[Za6];exact g3,fun k hk=>.inl (g6 k hk.2)⟩,qy5 _⟩⟩⟩,Z7b ..,fun b=>⟨u1,u2,u3,b,rfl,fun k hk=>Nat.le_trans hsz (g4 k hk),fun k hk=>Nat.le_trans hsz (g5 k hk)⟩⟩
  ·intro b w1 hr1;have hsz:=hr1.mod.size;obtain⟨hs1,hs2⟩:=Zq (hr1.at_ 7 rfl:(Z6 x.sx x.ox).holds w1) hmm;refine(Z1 (Zy2 w1 s s' s'' p.id hs1 hs2 hok.next (by have:=hok.nf;omega) (by have:=hok.nq;omega)) rfl).mono ?_;rw[<- hS];rintro e w2 ⟨u1,u2,u3,rfl,g1,g2,g3,g4,g5,g6,gm⟩;refine⟨[.s S.1.cl,.b S.1.on,.b S.1.clean,.v u1,.r (S.1.fl.map encF),.v u2,.r (S.1.qu.map encF),.i S.1.next,.v u3,.r ((S.2.map pkN).map Z3g)],rfl,rfl,gm,qy5 _,qy2.2 ⟨⟨g1,fun k hk=>.inl (g4 k hk.2)⟩,qy2.2 ⟨⟨g2,fun k hk=>.inl (g5 k hk.2)⟩,qy2.2 ⟨⟨by show reads w2 u3 kP ((S.2.map pkN).map Z3g);rw[Za6];exact g3,fun k hk=>.inl (g6 k hk.2)⟩,qy5 _⟩⟩⟩,Z7b ..,⟨u1,u2,u3,b,rfl,fun k hk=>Nat.le_trans hsz (g4 k hk),fun k hk=>Nat.le_trans hsz (g5 k hk)⟩⟩
  rintro _ - ⟨u1,u2,u3,b,rfl,n1,n2⟩;refine⟨fun vs=>vs=[],⟨by omega,by omega,rfl⟩,?_⟩;rintro _ - rfl;simp only[Tree.goal,X.P,X.ev,SV.ev,CV.ev,Sc.ev,qz,QA,QB,QC,QD,QE,QF,QG,QH,QI,QJ,QK,QL,QM,Nat.reduceAdd,qy3,qy4];intro w3 hr3;have hsz3:w.heap.size<=w3.heap.size:=hr3.mod.size;have hA3:(Z6 (x.sx.set ix (S.1,u1,u2)) x.ox).holds w3:=Za8 (hr3.at_ 10 rfl) (hr3.at_ 1 rfl) (hr3.at_ 2 rfl);have hf3:∀j,(Z6 (x.sx.set ix (S.1,u1,u2)) x.ox).fp j->(Z6 x.sx x.ox).fp j\/((S.1.fl.map encF).flatten≠[]/\Z2 u1 j)\/((S.1.qu.map encF).flatten≠[]/\Z2 u2 j):=fun j hj=>(Z5s hj).elim (fun h=>.inl h) (fun h=>.inr h);refine(Z2r (k:=k) (x:={ x with sx:=x.sx.set ix (S.1,u1,u2) }) (F:=(Zu (S.2.map pkN)).fp) (pre:=[]) hr3 44 0 [5,7,10]
   (Z1a w3 k { x with sx:=x.sx.set ix (S.1,u1,u2) } c u3 (S.2.map pkN) (Z6j hr3 (by rfl) k { x with sx:=x.sx.set ix (S.1,u1,u2) } (Zu (S.2.map pkN)) _ _ hA3 (fun j hj=>?_) (Za7 _ _) (fun j hj=>absurd hj Z6k) [7,8,9,10,11,1,13,5,0] (by decide) rfl (Zp rfl (Zp rfl (Zp (Z4i rfl ?_) rfl)))) (by rw[qy3];omega) (by show x.ox.length<1000000;omega))
   rfl rfl (Nat.succ_pos _) rfl (fun j hj=>?_)).mono ?_
  ·rcases hf3 j hj with h|h|h
   ·exact⟨_,qy6 (i:=10) rfl,rfl,h⟩
   ·exact⟨_,qy6 (i:=1) rfl,rfl,h⟩
   ·exact⟨_,qy6 (i:=2) rfl,rfl,h⟩
  ·simp only[Tree.goal,X.P,X.ev,SV.ev,CV.ev,Sc.ev,qz,QA,QB,QC,QD,QE,QF,QG,QH,QI,QJ,QK,QL,QM,Nat.reduceAdd,qy3,qy4];rw[<- Z4j]
  ·rcases hj with hj|hj|hj|hj
   ·exact⟨_,qy6 (i:=5) rfl,rfl,hj⟩
   ·exact⟨_,qy6 (i:=6) rfl,rfl,hj⟩
   ·rcases hf3 j hj with h|h|h
    ·exact⟨_,qy6 (i:=10) rfl,rfl,h⟩
    ·exact⟨_,qy6 (i:=1) rfl,rfl,h⟩
    ·exact⟨_,qy6 (i:=2) rfl,rfl,h⟩
   ·exact absurd hj Z6k
  rintro e w4 ⟨y2,hy2,hsz4,hgr,rfl,m1,m2,m3,m4⟩;refine⟨tlV y2,rfl,rfl,m1,m2,m3,m4,?_⟩;intro w5 hr5;exact⟨by trivial,y2,by rw[hy2,<- hT u1 u2],(hr5.pick [0,1,2,3,4,5,14] (by decide)).conv rfl,(Zco (Grew.refl w.heap.size _ x) (Nat.le_refl _) (fun j h=>n1 j h) (fun j h=>n2 j h)).trans hgr hsz3 (fun j h=>absurd h Z6k)⟩
 refine⟨fun h8=>?_,fun h8=>?_⟩
 ·intro w1 hr1;refine(Z2r (k:=k) (x:=x) (F:=fun _=>False) (pre:=[]) hr1 33 0 [5,7,10]
   (Zkx w1 k x c p va vc (((hr1.pick [1,2,3,4,5,6,7,8,9] (by decide)).conv rfl).base.conv rfl) hb (by omega) hc (Zyf hp h8).1 (Zyf hp h8).2.2)
   rfl rfl (Nat.succ_pos _) rfl (fun j hj=>?_)).mono ?_
  ·rcases hj with hj|hj|hj|hj
   ·exact⟨_,qy6 (i:=1) rfl,rfl,hj⟩
   ·exact⟨_,qy6 (i:=2) rfl,rfl,hj⟩
   ·exact⟨_,qy6 (i:=6) rfl,rfl,hj⟩
   ·exact hj.elim
  rintro e w2 ⟨y,hy,hs,hg,rfl,m1,m2,m3,m4⟩;refine⟨tlV y,rfl,rfl,m1,m2,m3,m4,?_⟩;intro w3 hr3;exact⟨by trivial,y,by rw[hy,hpk,if_neg hq1,if_neg h3,if_neg h4,if_pos h8],(hr3.pick [0,1,2,3,4,5,10] (by decide)).conv rfl,(Grew.refl _ _ x).trans hg hr1.mod.size (fun _ h=>h.elim)⟩
 refine⟨fun h10=>?_,fun h10=>?_⟩
 ·intro w1 hr1;refine(Z2r (k:=k) (x:=x) (F:=fun _=>False) (pre:=[]) hr1 33 0 [5,7,10]
   (Zhb w1 k x c p va vc (((hr1.pick [1,2,3,4,5,6,7,8,9] (by decide)).conv rfl).base.conv rfl) (by omega) (by omega) (by have:=Z14x hp h10;omega))
   rfl rfl (Nat.succ_pos _) rfl (fun j hj=>?_)).mono ?_
  ·rcases hj with hj|hj|hj|hj
   ·exact⟨_,qy6 (i:=1) rfl,rfl,hj⟩
   ·exact⟨_,qy6 (i:=2) rfl,rfl,hj⟩
   ·exact⟨_,qy6 (i:=6) rfl,rfl,hj⟩
   ·exact hj.elim
  rintro e w2 ⟨y,hy,hs,hg,rfl,m1,m2,m3,m4⟩;refine⟨tlV y,rfl,rfl,m1,m2,m3,m4,?_⟩;intro w3 hr3;exact⟨by trivial,y,by rw[hy,hpk,if_neg hq1,if_neg h3,if_neg h4,if_neg h8,if_pos h10],(hr3.pick [0,1,2,3,4,5,10] (by decide)).conv rfl,(Grew.refl _ _ x).trans hg hr1.mod.size (fun _ h=>h.elim)⟩
 refine⟨fun h12=>?_,fun h12=>?_⟩
 ·intro v33 w1 hr1;refine(Z2r (k:=k) (x:=x) (F:=(Zu [pk1X (pD_Q 13)]).fp) (pre:=[]) hr1 34 0 [5,7,10]
   (Z1a w1 k x c v33 [pk1X (pD_Q 13)] (Z6j (toRd hr1) (by rfl) k x (Zu [pk1X (pD_Q 13)]) _ _ (hr1.at_ 7 rfl) (fun j hj=>⟨_,qy6 (i:=7) rfl,rfl,hj⟩) (Z4k rfl rfl _) (fun j hj=>absurd hj (Z2f rfl rfl)) [4,5,6,7,8,1,10,2,0] (by decide) rfl rfl) (show 1<1000000 by decide) (by omega))
   rfl rfl (Nat.succ_pos _) rfl (fun j hj=>?_)).mono ?_
  ·rcases hj with hj|hj|hj|hj
   ·exact⟨_,qy6 (i:=2) rfl,rfl,hj⟩
   ·exact⟨_,qy6 (i:=3) rfl,rfl,hj⟩
   ·exact⟨_,qy6 (i:=7) rfl,rfl,hj⟩
   ·exact absurd hj (Z2f rfl rfl)
  rintro e w2 ⟨y,hy,hs,hg,rfl,m1,m2,m3,m4⟩;refine⟨tlV y,rfl,rfl,m1,m2,m3,m4,?_⟩;intro w3 hr3;exact⟨by trivial,y,by rw[hy,hpk,if_neg hq1,if_neg h3,if_neg h4,if_neg h8,if_neg h10,if_pos h12];rfl,(hr3.pick [0,1,2,3,4,5,11] (by decide)).conv rfl,(Grew.refl _ _ x).trans hg hr1.mod.size (fun j h=>absurd h (Z2f rfl rfl))⟩
 refine⟨fun h14=>?_,fun h14=>?_⟩
 ·intro w1 hr1;refine(Z2r (k:=k) (x:=x) (F:=fun _=>False) (pre:=[]) hr1 33 0 [5,7,10]
   (Zyh w1 k x c (((hr1.pick [1,2,3,4,5,6,7] (by decide)).conv rfl).base.conv rfl) hb (by omega))
   rfl rfl (Nat.succ_pos _) rfl (fun j hj=>?_)).mono ?_
  ·rcases hj with hj|hj|hj|hj
   ·exact⟨_,qy6 (i:=1) rfl,rfl,hj⟩
   ·exact⟨_,qy6 (i:=2) rfl,rfl,hj⟩
   ·exact⟨_,qy6 (i:=6) rfl,rfl,hj⟩
   ·exact hj.elim
  rintro e w2 ⟨y,hy,hs,hg,rfl,m1,m2,m3,m4⟩;refine⟨tlV y,rfl,rfl,m1,m2,m3,m4,?_⟩;intro w3 hr3;exact⟨by trivial,y,by rw[hy,hpk,if_neg hq1,if_neg h3,if_neg h4,if_neg h8,if_neg h10,if_neg h12,if_pos h14],(hr3.pick [0,1,2,3,4,5,10] (by decide)).conv rfl,(Grew.refl _ _ x).trans hg hr1.mod.size (fun _ h=>h.elim)⟩
 intro w3 hr;exact⟨by trivial,x,by rw[hpk,if_neg hq1,if_neg h3,if_neg h4,if_neg h8,if_neg h10,if_neg h12,if_neg h14],(hr.pick [1,2,3,4,5,6,7] (by decide)).conv rfl,.refl _ _ _⟩
abbrev mgV (m:Msg) (v:Value):List V:=[.i m.kind,.i m.code,.i m.id,.s m.tok,.v v,.r (m.opts.map encO),.s m.pay]
def Ztz (w w':World) (e:Ending) (k:Nat) (x:TelX) (av:Value) (t:Tel) (a:Msg):Prop :=
 ∃(y:TelX) (v:Value),e=.returned (mV a (sc1 v))/\y.tel=t/\Rel ⟨Zr (tlA k x) tlH,w⟩ (tlA k y++[.v v,.r (a.opts.map encO)]) (tlH++[.rd 13 [.int .i64,.str] (.var 14)]) w'/\Grew w.heap.size (fun _=>False) x y/\(v=av\/∀j,Z2 v j->w.heap.size<=j)
theorem Z11b (w:World) (k:Nat) (x:TelX) (n:Int) (m a:Msg) (mv av:Value) (name:List UInt8) (hr:Rel ⟨Zr (tlA k x) tlH,w⟩ (tlA k x++([.i n]++mgV m mv++mgV a av++[.s name])) (tlH++[.rd 18 [.int .i64,.str] (.var 19),.rd 25 [.int .i64,.str] (.var 26)]) w) (hb:BOk x.tel) (hml:m.opts.length<1000000000) (hal:a.opts.length<1000000000) : Calls Tryz.prog 170 #[.pointer (some ⟨k,0,none⟩),.int .i64 n,mV m (sc1 mv),mV a (sc1 av),.string ⟨name.toArray⟩] w fun e w'=>Ztz w w' e k x av (getB n m a name x.tel).1 (getB n m a name x.tel).2:=by
 refine Z1 (Z3 (ρ:=tlA k x++([.i n]++mgV m mv++mgV a av++[.s name])) (sxE_ok.joins _) Tryz.func170 Z6r rfl rfl hr rfl rfl ?_) rfl;simp only[Tree.goal,X.P,X.ev,SV.ev,CV.ev,Sc.ev,qz,QA,QB,QC,QD,QE,QF,QG,QH,QI,QJ,QK,QL,QM,Nat.reduceAdd,qy3,qy4,gK1];have hkt:chkK x.kept=0:=hb.kept;have hk16:x.kept.length<=16:=(Z15.1 hkt).1;have hw12:x.wat.length<=12:=(Z19.1 hb.wat).1;intro b29 b30 b31;refine⟨[.i (idx x.kept name),.b (hasK x.kept name)],rfl,fun _ w' hr=>Zrh w' x.kv x.kept name (hr.at_ 3 rfl) (Z15.1 hkt).2.2 (by omega),?_⟩;simp only[Tree.goal,X.P,X.ev,SV.ev,CV.ev,Sc.ev,qz,QA,QB,QC,QD,QE,QF,QG,QH,QI,QJ,QK,QL,QM,Nat.reduceAdd,qy3,qy4,gK1];refine⟨fun h1 w3 hr=>?_,fun h1=>?_⟩
 ·have hg:getB n m a name x.tel=(x.tel,{ a with code:=132 }):=by rw[getB,if_pos (show ¬hasK x.tel.kept name=true from h1)]
  rw[hg];exact⟨x,av,rfl,rfl,(hr.pick [3,4,5,6,7,8,9,11] (by decide)).conv rfl,.refl _ _ _,.inl rfl⟩
 have h1':=qy9.1 h1;have hlt:idx x.kept name<x.kept.length:=(of_decide_eq_true h1').1;refine⟨fun vs=>vs=[],⟨by omega,by omega,rfl⟩,?_⟩;rintro _ - rfl;refine⟨[.i (Z4g 6 m.opts).1,.i (Z4g 6 m.opts).2],rfl,fun _ w' hr=>Zmh w' m mv 6 (hr.at_ 10 rfl) hml,?_⟩;simp only[Tree.goal,X.P,X.ev,SV.ev,CV.ev,Sc.ev,qz,QA,QB,QC,QD,QE,QF,QG,QH,QI,QJ,QK,QL,QM,Nat.reduceAdd,qy3,qy4,gK1];obtain⟨a1,ha1⟩:∃a1:Msg,a1={ a with code:=69,pay:=(x.kept.getD (idx x.kept name) kD).2.1 }:=⟨_,rfl⟩
 have hg0:getB n m a name x.tel=if (Z4g 6 m.opts).2=0/\(Z4g 6 m.opts).1=0 then
   if (Z50 x.wat (n,m.tok,name,1)).2=0 then ({ x.tel with wat:=(Z50 x.wat (n,m.tok,name,1)).1 },putM a1 1) else (x.tel,a1)
  else if (Z4g 6 m.opts).2=0/\(Z4g 6 m.opts).1=1 then ({ x.tel with wat:=filt n m.tok x.wat },a1)
  else (x.tel,a1):=by rw[getB,if_neg (show ¬¬hasK x.tel.kept name=true from h1),ha1];rfl
 refine⟨fun h2=>?_,fun h2=>?_⟩
 ·rw[if_pos h2]at hg0;obtain⟨R,hR⟩:∃R,R=Z50 x.wat (n,m.tok,name,1):=⟨_,rfl⟩
  rw[<- hR]at hg0;refine⟨fun vs=>∃v':Value,vs=[.v v',.r (R.1.map Z8),.i R.2],?_,?_⟩
  ·intro w1 hr1;refine(Z126 w1 x.av x.wat (n,m.tok,name,1) (hr1.at_ 6 rfl).reads (by omega)).mono ?_;rw[<- hR];rintro e w2 ⟨v',rfl,g1,g2,gm⟩;exact⟨[.v v',.r (R.1.map Z8),.i R.2],rfl,rfl,gm,qy5 _,qy2.2 ⟨⟨g1,fun k hk=>.inl (g2 k hk)⟩,qy5 _⟩,Z4,⟨v',rfl⟩⟩
  rintro _ - ⟨v1,rfl⟩;simp only[Tree.goal,X.P,X.ev,SV.ev,CV.ev,Sc.ev,qz,QA,QB,QC,QD,QE,QF,QG,QH,QI,QJ,QK,QL,QM,Nat.reduceAdd,qy3,qy4,gK1];refine⟨fun h3=>?_,fun h3=>?_⟩
  ·have hgp:({ x.tel with wat:=R.1 },putM a1 1)=getB n m a name x.tel:=by rw[hg0,if_pos h3]
   rw[<- hgp];intro b39 b40;refine⟨?_,?_⟩
   ·refine⟨[.s (Z1l 1)],rfl,fun _ w' _=>Z8j w' 1 (by decide),?_⟩;simp only[Tree.goal,X.P,X.ev,SV.ev,CV.ev,Sc.ev,qz,QA,QB,QC,QD,QE,QF,QG,QH,QI,QJ,QK,QL,QM,Nat.reduceAdd,qy3,qy4,gK1];intro v42 w1 hr1;have hz1:=hr1.mod.size;refine(Z1 (Z76 w1 a1 av v42 6 [Z1l 1] (by rw[ha1];exact hr1.at_ 15 rfl) (hr1.at_ 0 rfl).reads (by rw[ha1];exact hal) (show 1<1000000000 by decide)) (by rw[ha1];rfl)).mono ?_;rintro e w5 ⟨v',rfl,q1,q2,qm⟩;refine⟨[.i a1.kind,.i a1.code,.i a1.id,.s a1.tok,.v v',.r ((putM a1 1).opts.map encO),.s a1.pay],rfl,rfl,qm,qy5 _,qy2.2 ⟨⟨q1,fun k hk=>.inl (q2 k hk.2)⟩,qy5 _⟩,Z4,?_⟩;intro w6 hr6;exact⟨{ x with wat:=R.1,av:=v1 },v',rfl,rfl,(hr6.pick [8,9,10,4,12,13,14,0] (by decide)).conv rfl,⟨fun j hj=>.inr hj,fun j hj=>.inr hj,fun j hj=>.inr (.inl hj)⟩,.inr fun j hj=>Nat.le_trans hz1 (q2 j hj)⟩
   ·refine⟨[.s (Z1l 1)],rfl,fun _ w' _=>Z8j w' 1 (by decide),?_⟩;simp only[Tree.goal,X.P,X.ev,SV.ev,CV.ev,Sc.ev,qz,QA,QB,QC,QD,QE,QF,QG,QH,QI,QJ,QK,QL,QM,Nat.reduceAdd,qy3,qy4,gK1];refine⟨?_,?_⟩
    ·intro v42 w1 hr1;have hz1:=hr1.mod.size;refine(Z1 (Z76 w1 a1 av v42 6 [Z1l 1] (by rw[ha1];exact hr1.at_ 15 rfl) (hr1.at_ 0 rfl).reads (by rw[ha1];exact hal) (show 1<1000000000 by decide)) (by rw[ha1];rfl)).mono ?_;rintro e w5 ⟨v',rfl,q1,q2,qm⟩;refine⟨[.i a1.kind,.i a1.code,.i a1.id,.s a1.tok,.v v',.r ((putM a1 1).opts.map encO),.s a1.pay],rfl,rfl,qm,qy5 _,qy2.2 ⟨⟨q1,fun k hk=>.inl (q2 k hk.2)⟩,qy5 _⟩,Z4,?_⟩;intro w6 hr6;exact⟨{ x with wat:=R.1,av:=v1 },v',rfl,rfl,(hr6.pick [8,9,10,4,12,13,14,0] (by decide)).conv rfl,⟨fun j hj=>.inr hj,fun j hj=>.inr hj,fun j hj=>.inr (.inl hj)⟩,.inr fun j hj=>Nat.le_trans hz1 (q2 j hj)⟩
    ·intro v42 w1 hr1;have hz1:=hr1.mod.size;refine(Z1 (Z76 w1 a1 av v42 6 [Z1l 1] (by rw[ha1];exact hr1.at_ 15 rfl) (hr1.at_ 0 rfl).reads (by rw[ha1];exact hal) (show 1<1000000000 by decide)) (by rw[ha1];rfl)).mono ?_;rintro e w5 ⟨v',rfl,q1,q2,qm⟩;refine⟨[.i a1.kind,.i a1.code,.i a1.id,.s a1.tok,.v v',.r ((putM a1 1).opts.map encO),.s a1.pay],rfl,rfl,qm,qy5 _,qy2.2 ⟨⟨q1,fun k hk=>.inl (q2 k hk.2)⟩,qy5 _⟩,Z4,?_⟩;intro w6 hr6;exact⟨{ x with wat:=R.1,av:=v1 },v',rfl,rfl,(hr6.pick [8,9,10,4,12,13,14,0] (by decide)).conv rfl,⟨fun j hj=>.inr hj,fun j hj=>.inr hj,fun j hj=>.inr (.inl hj)⟩,.inr fun j hj=>Nat.le_trans hz1 (q2 j hj)⟩
  ·rw[if_neg h3]at hg0;rw[hg0];intro w3 hr;exact⟨x,av,by rw[ha1];rfl,rfl,by rw[ha1];exact(hr.pick [4,5,6,7,8,9,10,12] (by decide)).conv rfl,.refl _ _ _,.inl rfl⟩
 ·rw[if_neg h2]at hg0;refine⟨fun h3=>?_,fun h3 w3 hr=>?_⟩
  ·rw[if_pos h3]at hg0;rw[hg0];refine⟨fun vs=>∃v':Value,vs=[.v v',.r ((filt n m.tok x.wat).map Z8)],?_,?_⟩
   ·intro w1 hr1;refine(Z9m w1 x.av x.wat n m.tok (hr1.at_ 6 rfl).reads (by omega)).mono ?_;rintro e w2 ⟨v',rfl,g1,g2,gm⟩;exact⟨[.v v',.r ((filt n m.tok x.wat).map Z8)],rfl,rfl,gm,qy5 _,qy2.2 ⟨⟨g1,fun k hk=>.inl (g2 k hk)⟩,qy5 _⟩,Z4,⟨v',rfl⟩⟩
   rintro _ - ⟨v1,rfl⟩;simp only[Tree.goal,X.P,X.ev,SV.ev,CV.ev,Sc.ev,qz,QA,QB,QC,QD,QE,QF,QG,QH,QI,QJ,QK,QL,QM,Nat.reduceAdd,qy3,qy4,gK1];intro w3 hr;exact⟨{ x with wat:=filt n m.tok x.wat,av:=v1 },av,by rw[ha1];rfl,rfl,by rw[ha1];exact(hr.pick [4,5,6,0,8,9,10,12] (by decide)).conv rfl,⟨fun j hj=>.inr hj,fun j hj=>.inr hj,fun j hj=>.inr (.inl hj)⟩,.inl rfl⟩
  ·rw[if_neg h3]at hg0;rw[hg0];exact⟨x,av,by rw[ha1];rfl,rfl,by rw[ha1];exact(hr.pick [3,4,5,6,7,8,9,11] (by decide)).conv rfl,.refl _ _ _,.inl rfl⟩
theorem Z138 {B:Base} {ρ:List V} {hp:List Ent} {w:World} (h:Rel B ρ hp w) (hb:hp.all (Ent.bd ρ.length)=true) (k:Nat) (x:TelX) (ρx:List V) (hx:List Ent) (hA:(Z6 x.sx x.ox).holds w) (hf:∀j,(Z6 x.sx x.ox).fp j->∃e∈hp,e.wr=false/\e.fp ρ j) (is:List Nat) (hn:is.Nodup) (hfp:Zr (tlA k x++ρx) (tlH++hx)=Zr (tlA k x) tlH) (hs:(is.filterMap fun i=>(Ent.st ρ.length::hp)[i]?).map (Ent.sem (ρ++[.a (Z6 x.sx x.ox)]))=(tlH++hx).map (Ent.sem (tlA k x++ρx))) : Rel ⟨Zr (tlA k x) tlH,w⟩ (tlA k x++ρx) (tlH++hx) w:=by have h3:=(((h.gather hb _ hA hf).pick is hn).conv hs).base;rw[hfp]at h3;exact h3
theorem Z139 {P:Program} {f:Nat} {args:Array Value} {w:World} {B:Base} {ρ:List V} {hp:List Ent} {k:Nat} {x:TelX} {av:Value} {t:Tel} {a:Msg} (h0:Rel B ρ hp w) (n vk:Nat) (gone:List Nat) (h:Calls P f args w fun e w1=>Ztz w w1 e k x av t a) (hav:∀j,¬Z2 av j) (hn:ρ.length+7=n) (hk:ρ.getD vk (.i 0)=.n k) (hv:vk<ρ.length) (hM:Zv ρ [vk] gone=k::(x.sv.ownBlock.toList++(x.av.ownBlock.toList++(x.ov.ownBlock.toList++[])))) (hO:∀j,(Zh3 x j\/Zc3 x j\/(Z6 x.sx x.ox).fp j)->∃y∈hp,y.wr=false/\y.fp ρ j) : Calls P f args w fun e w1=>∃(y:TelX) (v:Value),y.tel=t/\w.heap.size<=w1.heap.size/\Grew w.heap.size (fun _=>False) x y/\(∀j,Z2 v j->w.heap.size<=j)/\e=.returned (mV a (sc1 v))/\Mod (Zv ρ [vk] gone) w w1/\(∀x∈tlMs vk n,x.holds (ρ++(mgV a v++tlV y)) w1) /\ (∀x∈Ent.rd (ρ.length+4) [.int .i64,.str] (.var (ρ.length+5))::tlEs n,x.holds (ρ++(mgV a v++tlV y)) w1/\∀k,x.fp (ρ++(mgV a v++tlV y)) k->w.heap.size<=k\/(x.wr=false/\∃y∈hp,y.wr=false/\y.fp ρ k)\/k∈Z16 ρ gone)/\Z2s (ρ++(mgV a v++tlV y)) (Ent.rd (ρ.length+4) [.int .i64,.str] (.var (ρ.length+5))::tlEs n):=by
 refine h.mono ?_;rintro e w1 ⟨y,v,he,hT,hq,hg,hvv⟩;have hvn:∀j,Z2 v j->w.heap.size<=j:=fun j hj=>by
  rcases hvv with rfl|h
  ·exact absurd hj (hav j)
  ·exact h j hj
 have hs:=Zt0 (y:=y) (pre:=mgV a v) (show ρ.length+7=n from hn) hk hv;have ge:∀i,(ρ++(mgV a v++tlV y)).getD (ρ.length+i) (.i 0)=(mgV a v++tlV y).getD i (.i 0):=fun i=>by rw[qy1,qy1,List.getElem?_append_right (by omega),Nat.add_sub_cancel_left]
 have hs2:(tlH++[Ent.rd 13 [.int .i64,.str] (.var 14)]).map (Ent.sem (tlA k y++[.v v,.r (a.opts.map encO)]))=((tlEs n++tlMs vk n)++[Ent.rd (ρ.length+4) [.int .i64,.str] (.var (ρ.length+5))]).map (Ent.sem (ρ++(mgV a v++tlV y))):=by
  rw[List.map_append,List.map_append,<- hs];congr 1
  simp only[List.map_cons,List.map_nil];exact congrArg (fun z=>[z]) (Zjd (r:=.var 14) (r':=.var (ρ.length+5)) (by rw[ge 4];rfl) (by simp only[X.ev];rw[ge 5];rfl))
 have hfull:Rel ⟨Zv ρ [vk] gone,w⟩ (ρ++(mgV a v++tlV y)) ((tlEs n++tlMs vk n)++[Ent.rd (ρ.length+4) [.int .i64,.str] (.var (ρ.length+5))]) w1:=Zko (hq.conv hs2) rfl fun j hj=>by rw[show (Base.fp ⟨Zv ρ [vk] gone,w⟩)=Zv ρ [vk] gone from rfl,hM];exact Zot hj
 have hq':Rel ⟨Zv ρ [vk] gone,w⟩ (ρ++(mgV a v++tlV y)) (tlEs n++tlMs vk n) w1:=(hfull.pick [0,1,2,3,4,5,6] (by decide)).conv rfl;have hrd:Rel ⟨Zv ρ [vk] gone,w⟩ (ρ++(mgV a v++tlV y)) (Ent.rd (ρ.length+4) [.int .i64,.str] (.var (ρ.length+5))::tlEs n) w1:=(hfull.pick [7,0,1,2,3,4,5] (by decide)).conv rfl;refine⟨y,v,hT,hq.mod.size,hg,hvn,he,hq'.mod,fun x hx=>hq'.holds x (List.mem_append_right _ hx),fun x hx=>⟨hrd.holds x hx,fun j hj=>?_⟩,hrd.sep⟩;rcases List.mem_cons.1 hx with rfl|hx
 ·refine .inl (hvn j ?_);have:=hj.2;rw[ge 4]at this;exact this
 cases hw:x.wr with
 | false =>
  have h1:Ent.sem (ρ++(mgV a v++tlV y)) x∈tlH.map (Ent.sem (tlA k y)):=by rw[hs];exact List.mem_map_of_mem (List.mem_append_left _ hx)
  obtain⟨e',he',hee⟩:=List.mem_map.1 h1;have hw':e'.wr=false:=(congrArg SEnt.wr hee).trans hw;have hj':e'.fp (tlA k y) j:=(congrFun (congrArg SEnt.fp hee) j).mpr hj;have key:∀j,(Zh3 y j\/Zc3 y j\/(Z6 y.sx y.ox).fp j)->w.heap.size<=j\/∃y∈hp,y.wr=false/\y.fp ρ j:=by
   rintro j (h|h|h)
   ·rcases hg.kept j h with h|h
    ·exact .inl h
    ·exact .inr (hO j (.inl h))
   ·rcases hg.want j h with h|h
    ·exact .inl h
    ·exact .inr (hO j (.inr (.inl h)))
   ·rcases hg.nest j h with h|h|h
    ·exact .inl h
    ·exact .inr (hO j (.inr (.inr h)))
    ·exact h.elim
  have fin:w.heap.size<=j\/∃y∈hp,y.wr=false/\y.fp ρ j:=by
   simp only[tlH,List.mem_cons,List.not_mem_nil,or_false]at he';rcases he' with rfl|rfl|rfl|rfl|rfl|rfl|rfl
   ·exact key j (.inl hj')
   ·exact key j (.inr (.inl hj'))
   ·cases hw'
   ·cases hw'
   ·cases hw'
   ·exact key j (.inr (.inr hj'))
   ·cases hw'
  rcases fin with h|h
  ·exact .inl h
  ·exact .inr (.inl ⟨rfl,h⟩)
 | true =>
  rcases hq'.own x (List.mem_append_left _ hx) hw j hj with h5|h5
  ·exact .inl h5
  ·simp only[Zv,List.map_cons,List.map_nil,qy13,qy12]at h5;rcases h5 with h5|h5
   ·exfalso;refine(List.pairwise_append.1 hq'.sep).2.2 x hx _ (qy12.2 rfl) (.inl hw) _ hj ?_;rw[h5];simp only[Ent.fp];rw[qy1 (l:=ρ++_),List.getElem?_append_left hv,<- qy1]
   ·exact .inr (.inr h5)
theorem Zcq {α:Type} {f:Tel->α->Tel} (h:∀t a,t.out <+: (f t a).out):∀(l:List α) (t:Tel),t.out <+: (l.foldl f t).out
 | [],_=>List.prefix_rfl
 | a::l,t=>(h t a).trans (Zcq h l (f t a))
theorem Zn6 (n p:List UInt8) (q:Int) (t:Tel):t.out <+: (Za3 n p q t).out:=by have h1:t.out <+: (Z6i n p q t).out:=Zcq (fun t r=>⟨_,rfl⟩) _ _;exact h1.trans (Zcq (f:=Z77 p) (fun t r=>⟨_,rfl⟩) (Z4z n (Z6i n p q t).wat) { Z6i n p q t with wat:=Z2y n (Z6i n p q t).wat })
theorem Zhc (n p:List UInt8) (t:Tel):t.out <+: (Z1i n p t).1.out:=by
 unfold Z1i;split
 ·exact List.prefix_rfl
 split
 ·exact List.prefix_rfl
 ·exact Zcq (f:=Zb0) (fun t r=>⟨_,rfl⟩) (t.wat.filter (ofT n)) { t with kept:=(rawK t.kept n p).1 }
theorem Z11c (n:Int) (m a:Msg) (name:List UInt8) (t:Tel):t.out <+: (getB n m a name t).1.out:=by
 unfold getB;split
 ·exact List.prefix_rfl
 simp only;split
 ·split<;>exact List.prefix_rfl
 ·split<;>exact List.prefix_rfl
theorem Z13a (n:Int) (m a:Msg) (t:Tel):t.out <+: (doB n m a t).1.out:=by
 unfold doB;split
 ·exact List.prefix_rfl
 split
 ·exact Z11c ..
 split
 ·split
  ·exact(Zhc ..).trans (Zn6 ..)
  ·exact List.prefix_rfl
 split
 ·exact Zhc ..
 ·exact List.prefix_rfl
def sntD:SntX:=nilX (toP 0 ⟨0,0,0,[],[],[]⟩)
theorem Zhd {l:List SntX} {i:Nat} (h:i<l.length):(l.map Z1q).getD i []=Z1q (l.getD i sntD):=by rw[qy1,qy1,List.getElem?_map,qy7 h];rfl
theorem Z14y {l:List SntX} {i:Nat} (h:i<l.length):l.getD i sntD∈l:=by rw[qy1,qy7 h];exact List.getElem_mem h
theorem Z13b {l:List SntX} {o r:List Snt} {s:Snt} (h:(o++[s])++r=l.map (·.1)):o.length<l.length/\(l.getD o.length sntD).1=s:=by
 have hl:=congrArg List.length h;simp only[qy11,List.length_cons,List.length_nil,qy3]at hl;refine⟨by omega,?_⟩;have h1:=congrArg (fun m=>m[o.length]?) h;simp only[List.append_assoc,List.getElem?_append_right (Nat.le_refl _),Nat.sub_self,List.getElem?_map,List.singleton_append,List.getElem?_cons_zero]at h1;rw[qy1];cases hh:l[o.length]? with
 | none=>rw[hh]at h1;cases h1
 | some t=>rw[hh]at h1;simpa using h1.symm
theorem Z11d {n p:List UInt8} {t:Tel} (h:¬(Z1i n p t).2=true):(Z1i n p t).1=t:=by
  unfold Z1i at h ⊢;split
  . rfl
  . rename_i h1;rw[if_neg h1]at h;split at h<;>exact absurd rfl h
set_option maxRecDepth 2000 in
theorem Zu0 (w:World) (k:Nat) (x:TelX) (n:Int) (m:Msg) (mv:Value) (hr:Rel ⟨Zr (tlA k x) tlH,w⟩ (tlA k x++([.i n]++mgV m mv)) (tlH++[.rd 18 [.int .i64,.str] (.var 19)]) w) (hb:BOk x.tel) (ho:x.ox.length<40000) (hn:0<=n/\n<=9) (hm:chk m=0) : Calls Tryz.prog 88 #[.pointer (some ⟨k,0,none⟩),.int .i64 n,mV m (sc1 mv)] w fun e w'=>e=.returned (.tuple #[])/\Z78 w w' k x (fun _=>False) (Z3u n m x.tel):=by
  refine Z1 (Z3 (ρ:=tlA k x++([.i n]++mgV m mv)) (sxE_ok.joins _) Tryz.func88 Z4s rfl rfl hr rfl rfl ?_) rfl;simp only[Tree.goal,X.P,X.ev,SV.ev,CV.ev,Sc.ev,qz,QA,QB,QC,QD,QE,QF,QG,QH,QI,QJ,QK,QL,QM,Nat.reduceAdd,qy3,qy4];have hzn:0<=x.next/\x.next<=65535:=hb.next;obtain⟨-,-,⟨m1,mo,mp⟩,-⟩:=Zbf.1 hm;obtain⟨AK,hAK⟩:∃AK:Int,AK=if m.kind=1 then 1 else 2:=⟨_,rfl⟩
  obtain⟨AI,hAI⟩:∃AI:Int,AI=if m.kind=1 then x.next else m.id:=⟨_,rfl⟩
  obtain⟨N,hN⟩:∃N:Int,N=if m.kind=1 then nx_Z x.next else x.next:=⟨_,rfl⟩
  have hans:Z8k m x.next=(⟨AK,133,AI,m.tok,[],[]⟩:Msg):=by rw[Z8k,hAK,hAI];split<;>rfl
  have hnil:∀s∈[toP n (⟨AK,133,AI,m.tok,[],[]⟩:Msg)],nilS s:=fun s hs=>by rw[qy12.1 hs];exact⟨rfl,rfl,rfl⟩
  obtain⟨q1,q2⟩:=Zha (l:=x.sx) (o:=x.ox) hnil;simp only[List.map_cons,List.map_nil]at q1 q2;have hox:x.ox.map Z1q++[Z1q (nilX (toP n (⟨AK,133,AI,m.tok,[],[]⟩:Msg)))]=(x.ox++[nilX (toP n (⟨AK,133,AI,m.tok,[],[]⟩:Msg))]).map Z1q:=by rw[List.map_append];rfl
  intro b21 b22;refine⟨fun vs=>vs=[.i AK,.i AI,.i N],⟨fun h=>⟨by omega,by omega,?_⟩,fun h=>?_⟩,?_⟩
  . rw[Ztn _ hzn,hAK,hAI,hN,if_pos h,if_pos h,if_pos h]
  . rw[hAK,hAI,hN,if_neg h,if_neg h,if_neg h]
  rintro _ - rfl;simp only[Tree.goal,X.P,X.ev,SV.ev,CV.ev,Sc.ev,qz,QA,QB,QC,QD,QE,QF,QG,QH,QI,QJ,QK,QL,QM,Nat.reduceAdd,qy3,qy4];intro b26 v27;refine⟨by first|omega|(simp;omega),fun v28=>?_⟩;refine⟨[.s (Z1p m.opts).1,.i (Z1p m.opts).2],rfl,fun _ w' hr=>Zmj w' m mv (hr.at_ 11 rfl) hm,?_⟩;simp only[Tree.goal,X.P,X.ev,SV.ev,CV.ev,Sc.ev,qz,QA,QB,QC,QD,QE,QF,QG,QH,QI,QJ,QK,QL,QM,Nat.reduceAdd,qy3,qy4];obtain⟨T1,hT1⟩:∃T1:Tel,T1=TelX.tel { x with next:=N,ox:=x.ox++[nilX (toP n (⟨AK,133,AI,m.tok,[],[]⟩:Msg))],ov:=v28 }:=⟨_,rfl⟩
  have hT1':T1={ x.tel with next:=N,out:=x.tel.out++[toP n (⟨AK,133,AI,m.tok,[],[]⟩:Msg)] }:=by rw[hT1];simp only[TelX.tel,List.map_append,List.map_cons,List.map_nil];rfl
  have hB1:BOk T1:=by
    rw[hT1'];refine⟨hb.kept,hb.wants,hb.ns,hb.ses,hb.sort,hb.wat,hb.has,hb.kpt,?_⟩
    show 0<=N/\N<=65535
    rw[hN];split
    . exact Zmv _ hzn.1
    . exact hzn
  have hG1:∀w0:Nat,Grew w0 (fun _=>False) x { x with next:=N,ox:=x.ox++[nilX (toP n (⟨AK,133,AI,m.tok,[],[]⟩:Msg))],ov:=v28 }:=fun w0=>⟨fun j hj=>.inr hj,fun j hj=>.inr hj,fun j hj=>.inr (.inl (q2 j hj))⟩
  have hol:x.tel.out.length=x.ox.length:=by simp[TelX.tel]
  have lenX:∀y:TelX,y.tel.out.length=y.ox.length:=fun y=>by simp[TelX.tel]
  have l1:T1.out.length=x.ox.length+1:=by rw[hT1'];simp only[qy11,List.length_cons,List.length_nil,hol]
  have hpn:(Z1p m.opts).2=0->chkT (Z1p m.opts).1 false=0:=Zj9;refine⟨fun vs=>∃(y:TelX) (a':Msg) (u:Value),vs=[.i 0,.i 0,.i 0,.i 0,.i 0,.i 0,.i 0,.i 0,.i 0,.i 0,.i 0,.i 0,.i 0,.i 0,.i 0,.i 0,.i 0,.i 0,.i 0,.i 0,.i 0,.i 0,.i 0,.i 0,.i 0,.i a'.kind,.i a'.code,.i a'.id,.s a'.tok,.v u,.s a'.pay,.v y.kv,.v y.wv,.v y.sv,.v y.av,.i y.next,.v y.ov,.r (a'.opts.map encO),.r (y.kept.map encK),.r (y.wants.map Zb),.r (y.sx.map Zh),.r (y.wat.map Z8),.r (y.ox.map Z1q),.a (Z6 y.sx y.ox)]/\(y.tel,a')=doB n m (⟨AK,133,AI,m.tok,[],[]⟩:Msg) T1/\Grew w.heap.size (fun _=>False) x y/\(∀j,Z2 u j->w.heap.size<=j),⟨fun h1=>?_,fun h1=>⟨fun h2=>?_,fun h2=>⟨fun h3=>⟨fun h4=>?_,fun h4=>?_⟩,fun h3=>⟨fun h4=>?_,fun h4=>?_⟩⟩⟩⟩,?_⟩
  . refine⟨Z6 x.sx (x.ox++[nilX (toP n (⟨AK,133,AI,m.tok,[],[]⟩:Msg))]),fun w hr=>q1 w (hr.at_ 9 rfl),fun j hj=>⟨_,qy6 (i:=9) rfl,rfl,q2 j hj⟩,⟨{ x with next:=N,ox:=x.ox++[nilX (toP n (⟨AK,133,AI,m.tok,[],[]⟩:Msg))],ov:=v28 },{ (⟨AK,133,AI,m.tok,[],[]⟩:Msg) with code:=128 },.slice none 0 0,?_,?_,hG1 _,fun j hj=>absurd hj (by simp[Z2,Value.ownBlock])⟩⟩
    . rw[<- hox];rfl
    . rw[doB,if_pos h1,hT1]
  . have h1':=qy9.1 h1;intro w1 hr1;have hz1:=hr1.mod.size;have hq:=Z138 hr1 (by rfl) k { x with next:=N,ox:=x.ox++[nilX (toP n (⟨AK,133,AI,m.tok,[],[]⟩:Msg))],ov:=v28 } ([.i n]++mgV m mv++mgV (⟨AK,133,AI,m.tok,[],[]⟩:Msg) (.slice none 0 0)++[.s (Z1p m.opts).1]) [.rd 18 [.int .i64,.str] (.var 19)] (q1 _ (hr1.at_ 9 rfl)) (fun j hj=>⟨_,qy6 (i:=9) rfl,rfl,q2 j hj⟩) [6,7,8,9,1,0,11,12] (by decide) rfl (Zp rfl (Zp rfl (Zp rfl (Zp rfl (Zp (Z4i rfl hox) rfl)))));have hq1:=hq.cons (e:=.rd 25 [.int .i64,.str] (.var 26)) (show reads w1 (.slice none 0 0) [.int .i64,.str] [] from Z9 _ _) (fun h=>Bool.noConfusion h) (fun e' _ _ k hk _=>hk.1 rfl);have hq2:Rel ⟨Zr (tlA k { x with next:=N,ox:=x.ox++[nilX (toP n (⟨AK,133,AI,m.tok,[],[]⟩:Msg))],ov:=v28 }) tlH,w1⟩ (tlA k { x with next:=N,ox:=x.ox++[nilX (toP n (⟨AK,133,AI,m.tok,[],[]⟩:Msg))],ov:=v28 }++([.i n]++mgV m mv++mgV (⟨AK,133,AI,m.tok,[],[]⟩:Msg) (.slice none 0 0)++[.s (Z1p m.opts).1])) (tlH++[.rd 18 [.int .i64,.str] (.var 19),.rd 25 [.int .i64,.str] (.var 26)]) w1:=(hq1.pick [1,2,3,4,5,6,7,8,0] (by decide)).conv rfl;clear hq hq1;have hc:=Z11b w1 k { x with next:=N,ox:=x.ox++[nilX (toP n (⟨AK,133,AI,m.tok,[],[]⟩:Msg))],ov:=v28 } n m (⟨AK,133,AI,m.tok,[],[]⟩:Msg) mv (.slice none 0 0) (Z1p m.opts).1 hq2 (by rw[<- hT1];exact hB1) (by omega) (show 0<1000000000 by decide);rw[<- hT1]at hc;obtain⟨G,hG⟩:∃G,G=getB n m (⟨AK,133,AI,m.tok,[],[]⟩:Msg) (Z1p m.opts).1 T1:=⟨_,rfl⟩
    rw[<- hG]at hc;refine(Z139 (x:={ x with next:=N,ox:=x.ox++[nilX (toP n (⟨AK,133,AI,m.tok,[],[]⟩:Msg))],ov:=v28 }) hr1 38 0 [5,7,28] hc
      (fun j hj=>by simp[Z2,Value.ownBlock]at hj) rfl rfl (Nat.succ_pos _) rfl (fun j hj=>?_)).mono ?_
    . rcases hj with hj|hj|hj
      . exact⟨_,qy6 (i:=5) rfl,rfl,hj⟩
      . exact⟨_,qy6 (i:=6) rfl,rfl,hj⟩
      . exact⟨_,qy6 (i:=9) rfl,rfl,q2 j hj⟩
    rintro e w2 ⟨y,v,hy,hsz,hg,hv,rfl,m1,m2,m3,m4⟩;refine⟨mgV G.2 v++tlV y,rfl,rfl,m1,m2,m3,m4,?_⟩;refine⟨Z6 y.sx y.ox,fun w hr=>hr.at_ 6 rfl,fun j hj=>⟨_,qy6 (i:=6) rfl,rfl,hj⟩,⟨y,G.2,v,rfl,?_,(hG1 _).trans hg hz1 (fun _ h=>h.elim),fun j hj=>Nat.le_trans hz1 (hv j hj)⟩⟩;rw[hy,doB,if_neg h1,if_pos h2,<- hG]
  . have h1':=qy9.1 h1;intro w1 hr1;have hz1:=hr1.mod.size;have hc:=Zn1 w1 k { x with next:=N,ox:=x.ox++[nilX (toP n (⟨AK,133,AI,m.tok,[],[]⟩:Msg))],ov:=v28 } (Z1p m.opts).1 m.pay ((Zxf hr1 (by rfl) k { x with next:=N,ox:=x.ox++[nilX (toP n (⟨AK,133,AI,m.tok,[],[]⟩:Msg))],ov:=v28 } (q1 _ (hr1.at_ 9 rfl)) (fun j hj=>⟨_,qy6 (i:=9) rfl,rfl,q2 j hj⟩) [6,7,8,9,1,0,11] (by decide) (Zp rfl (Zp rfl (Zp rfl (Zp rfl (Zp (Z4i rfl hox) rfl)))))).conv rfl) (by rw[<- hT1];exact hB1) (by rw[<- lenX,<- hT1];omega);rw[<- hT1]at hc;refine(Z2r (k:=k) (x:={ x with next:=N,ox:=x.ox++[nilX (toP n (⟨AK,133,AI,m.tok,[],[]⟩:Msg))],ov:=v28 }) (F:=fun _=>False) (pre:=[.b (Z1i (Z1p m.opts).1 m.pay T1).2]) hr1 32 0 [5,7,28] hc
      rfl rfl (Nat.succ_pos _) rfl (fun j hj=>?_)).mono ?_
    . rcases hj with hj|hj|hj|hj;(· exact⟨_,qy6 (i:=5) rfl,rfl,hj⟩);(· exact⟨_,qy6 (i:=6) rfl,rfl,hj⟩);(· exact⟨_,qy6 (i:=9) rfl,rfl,q2 j hj⟩);(· exact hj.elim)
    rintro e w2 ⟨y,hy,hsz,hg,rfl,m1,m2,m3,m4⟩;refine⟨.b (Z1i (Z1p m.opts).1 m.pay T1).2::tlV y,rfl,rfl,m1,m2,m3,m4,?_⟩;clear m1 m2 m3 m4;obtain⟨b2,-,s2,l2⟩:=Z7n (p:=m.pay) hB1 (hpn h1');have g2:Grew w.heap.size (fun _=>False) x y:=(hG1 _).trans hg hz1 (fun _ h=>h.elim);refine⟨fun h5=>?_,fun h5=>?_⟩
    . intro w3 hr3;have hz3:=hr3.mod.size;refine(Z2r (k:=k) (x:=y) (F:=fun _=>False) (pre:=[]) hr3 44 0 [36,38,41]
        (Zjc w3 k y (Z1p m.opts).1 m.pay 1 (((hr3.pick [0,1,2,3,4,5,13] (by decide)).conv rfl).base.conv rfl) (by rw[hy];exact b2) (by rw[<- lenX,hy];omega) (by show Z2i y.tel.wants;rw[hy,s2,hT1'];exact Zb2 hb.wants) (by unfold flE;rw[if_pos (hpn h1'),if_neg (show ¬200<(m.pay.length:Int) from by omega)]) (by decide))
        rfl rfl (Nat.succ_pos _) rfl (fun j hj=>?_)).mono ?_
      . rcases hj with hj|hj|hj|hj
        . exact⟨_,qy6 (i:=0) rfl,rfl,hj⟩
        . exact⟨_,qy6 (i:=1) rfl,rfl,hj⟩
        . exact⟨_,qy6 (i:=5) rfl,rfl,hj⟩
        . exact hj.elim
      rintro e w4 ⟨y2,hy2,hsz2,hg2,rfl,m1,m2,m3,m4⟩;refine⟨tlV y2,rfl,rfl,m1,m2,m3,m4,?_⟩;refine⟨Z6 y2.sx y2.ox,fun w hr=>hr.at_ 5 rfl,fun j hj=>⟨_,qy6 (i:=5) rfl,rfl,hj⟩,⟨y2,{ (⟨AK,133,AI,m.tok,[],[]⟩:Msg) with code:=68 },.slice none 0 0,rfl,?_,g2.trans hg2 hz3 (fun _ h=>h.elim),fun j hj=>absurd hj (by simp[Z2,Value.ownBlock])⟩⟩;rw[hy2,hy,doB,if_neg h1,if_neg h2,if_pos h3,if_pos ⟨h4,h5⟩]
    . refine⟨Z6 y.sx y.ox,fun w hr=>hr.at_ 5 rfl,fun j hj=>⟨_,qy6 (i:=5) rfl,rfl,hj⟩,⟨y,{ (⟨AK,133,AI,m.tok,[],[]⟩:Msg) with code:=128 },.slice none 0 0,rfl,?_,g2,fun j hj=>absurd hj (by simp[Z2,Value.ownBlock])⟩⟩;rw[hy,doB,if_neg h1,if_neg h2,if_pos h3,if_neg fun h=>h5 h.2,Z11d h5]
  . refine⟨Z6 x.sx (x.ox++[nilX (toP n (⟨AK,133,AI,m.tok,[],[]⟩:Msg))]),fun w hr=>q1 w (hr.at_ 9 rfl),fun j hj=>⟨_,qy6 (i:=9) rfl,rfl,q2 j hj⟩,⟨{ x with next:=N,ox:=x.ox++[nilX (toP n (⟨AK,133,AI,m.tok,[],[]⟩:Msg))],ov:=v28 },{ (⟨AK,133,AI,m.tok,[],[]⟩:Msg) with code:=128 },.slice none 0 0,?_,?_,hG1 _,fun j hj=>absurd hj (by simp[Z2,Value.ownBlock])⟩⟩
    . rw[<- hox];rfl
    . rw[doB,if_neg h1,if_neg h2,if_pos h3,if_neg fun h=>h4 h.1,hT1]
  . intro w1 hr1;have hz1:=hr1.mod.size;have hc:=Zn1 w1 k { x with next:=N,ox:=x.ox++[nilX (toP n (⟨AK,133,AI,m.tok,[],[]⟩:Msg))],ov:=v28 } (Z1p m.opts).1 [] ((Zxf hr1 (by rfl) k { x with next:=N,ox:=x.ox++[nilX (toP n (⟨AK,133,AI,m.tok,[],[]⟩:Msg))],ov:=v28 } (q1 _ (hr1.at_ 9 rfl)) (fun j hj=>⟨_,qy6 (i:=9) rfl,rfl,q2 j hj⟩) [6,7,8,9,1,0,11] (by decide) (Zp rfl (Zp rfl (Zp rfl (Zp rfl (Zp (Z4i rfl hox) rfl)))))).conv rfl) (by rw[<- hT1];exact hB1) (by rw[<- lenX,<- hT1];omega);rw[<- hT1]at hc;refine(Z2r (k:=k) (x:={ x with next:=N,ox:=x.ox++[nilX (toP n (⟨AK,133,AI,m.tok,[],[]⟩:Msg))],ov:=v28 }) (F:=fun _=>False) (pre:=[.b (Z1i (Z1p m.opts).1 [] T1).2]) hr1 32 0 [5,7,28] hc
      rfl rfl (Nat.succ_pos _) rfl (fun j hj=>?_)).mono ?_
    . rcases hj with hj|hj|hj|hj;(· exact⟨_,qy6 (i:=5) rfl,rfl,hj⟩);(· exact⟨_,qy6 (i:=6) rfl,rfl,hj⟩);(· exact⟨_,qy6 (i:=9) rfl,rfl,q2 j hj⟩);(· exact hj.elim)
    rintro e w2 ⟨y,hy,hsz,hg,rfl,m1,m2,m3,m4⟩;refine⟨.b (Z1i (Z1p m.opts).1 [] T1).2::tlV y,rfl,rfl,m1,m2,m3,m4,?_⟩;clear m1 m2 m3 m4;refine⟨Z6 y.sx y.ox,fun w hr=>hr.at_ 5 rfl,fun j hj=>⟨_,qy6 (i:=5) rfl,rfl,hj⟩,⟨y,{ (⟨AK,133,AI,m.tok,[],[]⟩:Msg) with code:=66 },.slice none 0 0,rfl,?_,(hG1 _).trans hg hz1 (fun _ h=>h.elim),fun j hj=>absurd hj (by simp[Z2,Value.ownBlock])⟩⟩;rw[hy,doB,if_neg h1,if_neg h2,if_neg h3,if_pos h4]
  . refine⟨Z6 x.sx (x.ox++[nilX (toP n (⟨AK,133,AI,m.tok,[],[]⟩:Msg))]),fun w hr=>q1 w (hr.at_ 9 rfl),fun j hj=>⟨_,qy6 (i:=9) rfl,rfl,q2 j hj⟩,⟨{ x with next:=N,ox:=x.ox++[nilX (toP n (⟨AK,133,AI,m.tok,[],[]⟩:Msg))],ov:=v28 },(⟨AK,133,AI,m.tok,[],[]⟩:Msg),.slice none 0 0,?_,?_,hG1 _,fun j hj=>absurd hj (by simp[Z2,Value.ownBlock])⟩⟩
    . rw[<- hox];rfl
    . rw[doB,if_neg h1,if_neg h2,if_neg h3,if_neg h4,hT1]
  rintro _ - ⟨y,a',u,rfl,hdo,hgr,hu⟩;try simp only[Tree.goal,X.P,X.ev,SV.ev,CV.ev,Sc.ev,qz,QA,QB,QC,QD,QE,QF,QG,QH,QI,QJ,QK,QL,QM,Nat.reduceAdd,qy3,qy4]
  have hy:y.tel=(doB n m (⟨AK,133,AI,m.tok,[],[]⟩:Msg) T1).1:=congrArg Prod.fst hdo;have hpre:=Z13a n m (⟨AK,133,AI,m.tok,[],[]⟩:Msg) T1;rw[<- hy,hT1']at hpre;obtain⟨r,hr0⟩:=hpre;obtain⟨hlt,hat⟩:=Z13b hr0;rw[hol]at hlt hat;refine⟨fun vs=>vs=[],⟨by omega,rfl⟩,?_⟩;rintro _ - rfl;try simp only[Tree.goal,X.P,X.ev,SV.ev,CV.ev,Sc.ev,qz,QA,QB,QC,QD,QE,QF,QG,QH,QI,QJ,QK,QL,QM,Nat.reduceAdd,qy3,qy4]
  intro w3 hr3;obtain⟨t0,ht0⟩:∃t0,t0=y.ox.getD x.ox.length sntD:=⟨_,rfl⟩
  have hmem:t0∈y.ox:=by rw[ht0];exact Z14y hlt
  rw[<- ht0]at hat;have hrow:=Zhd hlt;rw[<- ht0]at hrow;obtain⟨s,va,vc,vo⟩:=t0;simp only at hat;subst hat;obtain⟨z,hz⟩:∃z:TelX,z={ y with ox:=y.ox.set x.ox.length (toP n a',va,vc,u) }:=⟨_,rfl⟩
  have hA:=hr3.at_ 0 rfl;have hO:Z22 w3 u a'.opts:=hr3.at_ 1 rfl;have hsn:=Zmo (hA:(Z6 y.sx y.ox).holds w3) hmem;have hfz:∀j,(Z6 z.sx z.ox).fp j->(Z6 y.sx y.ox).fp j\/((a'.opts.map encO).flatten≠[]/\Z2 u j):=fun j hj=>by
    rw[hz]at hj;rcases Zi.1 hj with h|⟨t,ht,hk⟩
    . exact .inl (Zi.2 (.inl h))
    . rcases List.mem_or_eq_of_mem_set ht with ht|rfl
      . exact .inl (Zi.2 (.inr ⟨t,ht,hk⟩))
      . rcases hk with hk|hk|hk
        . exact absurd rfl hk.1
        . exact absurd rfl hk.1
        . exact .inr hk
  refine⟨by trivial,z,?_,?_,?_⟩
  . have ha':a'=(doB n m (⟨AK,133,AI,m.tok,[],[]⟩:Msg) T1).2:=congrArg Prod.snd hdo;have e1:Z3u n m x.tel={ (doB n m (⟨AK,133,AI,m.tok,[],[]⟩:Msg) T1).1 with out:=(doB n m (⟨AK,133,AI,m.tok,[],[]⟩:Msg) T1).1.out.set x.tel.out.length (toP n (doB n m (⟨AK,133,AI,m.tok,[],[]⟩:Msg) T1).2) }:=by
      rw[Z3u,show Z8k m x.tel.next=(⟨AK,133,AI,m.tok,[],[]⟩:Msg) from hans,hT1',hN];rfl
    rw[e1,<- hy,<- ha',hz,hol];simp only[TelX.tel,List.map_set]
  . refine Zj4 hr3 (by rfl) k z ?_ (fun j hj=>?_) [3,4,5,6,7,0,15] (by decide) ?_
    . rw[hz];refine Z1j (fun t ht=>.inl ht) (fun t ht=>?_) hA;rcases List.mem_or_eq_of_mem_set ht with ht|rfl
      . exact .inl ht
      . exact .inr ⟨hsn.1,hsn.2.1,hO⟩
    . rcases hfz j hj with h|h
      . exact⟨_,qy6 (i:=0) rfl,rfl,h⟩
      . exact⟨_,qy6 (i:=1) rfl,rfl,h⟩
    . rw[hz];refine Zp rfl (Zp rfl (Zp rfl (Zp rfl (Zp (Z4i rfl ?_) rfl))));simp only[Tree.goal,X.P,X.ev,SV.ev,CV.ev,Sc.ev,qz,QA,QB,QC,QD,QE,QF,QG,QH,QI,QJ,QK,QL,QM,Nat.reduceAdd,qy3,qy4,hrow,Z1q,List.getD_cons_zero,List.getD_cons_succ,Value.gI,Value.gB,Value.gS,Z1x,List.map_set]
  . rw[hz];refine⟨fun j hj=>hgr.kept j hj,fun j hj=>hgr.want j hj,fun j hj=>?_⟩;rw[<- hz]at hj;rcases hfz j hj with h|h
    . exact hgr.nest j h
    . exact .inl (hu j h.2)
abbrev bcA (k:Nat) (x:TelX):List V:=[.n k,.v x.kv,.r (x.kept.map encK),.v x.wv,.r (x.wants.map Zb),.v x.sv,.r (x.sx.map Zh),.a (Z6 x.sx x.ox),.v x.av,.r (x.wat.map Z8),.i x.next]
abbrev bcH:List Ent:=[.rd 1 kK (.var 2),.rd 3 kW_V (.var 4),.rd 5 kSx (.var 6),.st 7,.rd 8 kW_K (.var 9),.cells 0 27 [.val (.var 1),.val (.var 3),.val (.var 5),.val (.var 8),.int .i64 (.var 10)]]
def Zb3 (w w':World) (e:Ending) (k:Nat) (x:TelX) (c:Int):Prop:=e=.returned (.int .i64 c)/\Rel ⟨Zr (bcA k x) bcH,w⟩ (bcA k x) bcH w'
theorem Z13c (w:World) (k:Nat) (x:TelX) (hr:Rel ⟨Zr (bcA k x) bcH,w⟩ (bcA k x) bcH w) (hs:Zdo x.kept) (hl:x.kept.length<1000000000) : Calls Tryz.prog 66 #[.pointer (some ⟨k,0,none⟩)] w fun e w'=>Zb3 w w' e k x (chkK x.kept):=by refine Z1 (Z3 (ρ:=bcA k x) sxE_ok Tryz.func66 Z8l rfl rfl hr rfl rfl ?_) rfl;simp only[Tree.goal,X.P,X.ev,SV.ev,CV.ev,Sc.ev,qz,QA,QB,QC,QD,QE,QF,QG,QH,QI,QJ,QK,QL,QM,Nat.reduceAdd,qy3,qy4,Z1u,Z25,Z1s];refine⟨[.i (chkK x.kept)],rfl,fun _ w' hr=>Zw5 w' x.kv x.kept (hr.at_ 0 rfl) hs hl,?_⟩;intro w3 hr3;exact⟨rfl,(hr3.pick [0,1,2,3,4,5] (by decide)).conv rfl⟩
theorem Z13d (w:World) (k:Nat) (x:TelX) (hr:Rel ⟨Zr (bcA k x) bcH,w⟩ (bcA k x) bcH w) (hs:Z2i x.wants) (hl:x.wants.length<1000000000) : Calls Tryz.prog 68 #[.pointer (some ⟨k,0,none⟩)] w fun e w'=>Zb3 w w' e k x (Zf x.wants):=by refine Z1 (Z3 (ρ:=bcA k x) sxE_ok Tryz.func68 Z8o rfl rfl hr rfl rfl ?_) rfl;simp only[Tree.goal,X.P,X.ev,SV.ev,CV.ev,Sc.ev,qz,QA,QB,QC,QD,QE,QF,QG,QH,QI,QJ,QK,QL,QM,Nat.reduceAdd,qy3,qy4,Z1u,Z25,Z1s];refine⟨[.i (Zf x.wants)],rfl,fun _ w' hr=>Zoj w' x.wv x.wants (hr.at_ 1 rfl) hs hl,?_⟩;intro w3 hr3;exact⟨rfl,(hr3.pick [0,1,2,3,4,5] (by decide)).conv rfl⟩
theorem Z13e (w:World) (k:Nat) (x:TelX) (hr:Rel ⟨Zr (bcA k x) bcH,w⟩ (bcA k x) bcH w) (hs:Z64 x.wat) (hl:x.wat.length<1000000000) : Calls Tryz.prog 72 #[.pointer (some ⟨k,0,none⟩)] w fun e w'=>Zb3 w w' e k x (Zw x.wat):=by refine Z1 (Z3 (ρ:=bcA k x) sxE_ok Tryz.func72 Z8m rfl rfl hr rfl rfl ?_) rfl;simp only[Tree.goal,X.P,X.ev,SV.ev,CV.ev,Sc.ev,qz,QA,QB,QC,QD,QE,QF,QG,QH,QI,QJ,QK,QL,QM,Nat.reduceAdd,qy3,qy4,Z1u,Z25,Z1s];refine⟨[.i (Zw x.wat)],rfl,fun _ w' hr=>Zo2 w' x.av x.wat (hr.at_ 4 rfl) hs (by omega),?_⟩;intro w3 hr3;exact⟨rfl,(hr3.pick [0,1,2,3,4,5] (by decide)).conv rfl⟩
theorem Z13f (w:World) (k:Nat) (x:TelX) (hr:Rel ⟨Zr (bcA k x) bcH,w⟩ (bcA k x) bcH w) : Calls Tryz.prog 82 #[.pointer (some ⟨k,0,none⟩)] w fun e w'=>Zb3 w w' e k x (if x.next<0\/65535<x.next then 3 else 0):=by refine Z1 (Z3 (ρ:=bcA k x) sxE_ok Tryz.func82 Z8q rfl rfl hr rfl rfl ?_) rfl;simp only[Tree.goal,X.P,X.ev,SV.ev,CV.ev,Sc.ev,qz,QA,QB,QC,QD,QE,QF,QG,QH,QI,QJ,QK,QL,QM,Nat.reduceAdd,qy3,qy4,Z1u,Z25,Z1s];refine⟨fun h w3 hr3=>⟨by rw[if_pos h],(hr3.pick [0,1,2,3,4,5] (by decide)).conv rfl⟩,fun h w3 hr3=>⟨by rw[if_neg h],(hr3.pick [0,1,2,3,4,5] (by decide)).conv rfl⟩⟩
theorem Z54 {α:Type} {p:α->Bool} {l:List α} (d:α) {i:Nat} (h:i<l.length) (hp:p (l.getD i d)=true):l.any p=true:=by rw[qy1,qy7 h]at hp;exact List.any_eq_true.2 ⟨_,List.getElem_mem h,hp⟩
theorem Zbi {α:Type} {p:α->Bool} {l:List α} (d:α) (h:∀i,i<l.length->p (l.getD i d)=false):l.any p=false:=by rw[List.any_eq_false];intro y hy;obtain⟨i,hi,rfl⟩:=List.getElem_of_mem hy;have:=h i hi;rw[qy1,qy7 hi]at this;simpa using this
theorem Z13g (w:World) (k:Nat) (x:TelX) (hr:Rel ⟨Zr (bcA k x) bcH,w⟩ (bcA k x) bcH w) (hk:chkK x.kept=0) (hs:Z5n x.tel.sess) (hsl:x.sx.length<1000000000) (hwl:x.wants.length<1000000000) (hal:x.wat.length<1000000000) : Calls Tryz.prog 74 #[.pointer (some ⟨k,0,none⟩)] w fun e w'=>Zb3 w w' e k x (if Z10 x.tel=true then 4 else 0):=by
 refine Z1 (Z3 (ρ:=bcA k x) sxE_ok Tryz.func74 Z8n rfl rfl hr rfl rfl ?_) rfl;simp only[Tree.goal,X.P,X.ev,SV.ev,CV.ev,Sc.ev,qz,QA,QB,QC,QD,QE,QF,QG,QH,QI,QJ,QK,QL,QM,Nat.reduceAdd,qy3,qy4,Z1u,Z25,Z1s];have hk16:x.kept.length<=16:=(Z15.1 hk).1;refine⟨fun vs=>∃(y:V) (i:Nat),vs=[y,.i i,.v x.kv,.r (x.kept.map encK),.v x.sv,.r (x.sx.map Zh),.v x.av,.r (x.wat.map Z8),.i x.next]/\i<=x.wants.length/\∀j,j<i->hasS x.tel.sess (x.wants.getD j wD_V).1=true,fun vs=>(x.wants.length - (vs.getD 1 (.i 0)).toI).toNat,⟨_,0,rfl,by omega,fun j hj=>by omega⟩,?_⟩;rintro _ - ⟨y0,i,rfl,hi,hall⟩;simp only[Tree.goal,X.P,X.ev,SV.ev,CV.ev,Sc.ev,qz,QA,QB,QC,QD,QE,QF,QG,QH,QI,QJ,QK,QL,QM,Nat.reduceAdd,qy3,qy4,Z1u,Z25,Z1s];refine⟨fun h1=>⟨by omega,fun b20=>?_⟩,fun h1=>⟨fun h2=>by omega,fun h2=>?_⟩⟩
 ·refine⟨[.i (idxS x.tel.sess (x.wants.getD i wD_V).1),.b (hasS x.tel.sess (x.wants.getD i wD_V).1)],rfl,fun _ w' hr=>Ze1 w' x.sv x.sx _ (hr.at_ 3 rfl) hs hsl,?_⟩;simp only[Tree.goal,X.P,X.ev,SV.ev,CV.ev,Sc.ev,qz,QA,QB,QC,QD,QE,QF,QG,QH,QI,QJ,QK,QL,QM,Nat.reduceAdd,qy3,qy4,Z1u,Z25,Z1s];refine⟨fun h2 w3 hr3=>⟨?_,(hr3.pick [1,2,3,4,5,6] (by decide)).conv rfl⟩,fun h2=>⟨by omega,by omega,⟨_,i+1,rfl,by omega,fun j hj=>?_⟩,by omega⟩⟩
  ·have:Z10 x.tel=true:=by
    rw[Z10,Bool.or_eq_true];exact .inl (Z54 wD_V (l:=x.wants) (i:=i) (by omega) (by simpa using h2))
   rw[if_pos this]
  ·by_cases hij:j=i
   ·subst hij;exact qy9.1 h2
   ·exact hall j (by omega)
 ·have hie:i=x.wants.length:=by omega
  subst hie;have ha1:(x.tel.wants.any fun w=>!hasS x.tel.sess w.1)=false:=Zbi wD_V fun j hj=>by rw[show hasS x.tel.sess (x.tel.wants.getD j wD_V).1=true from hall j hj];rfl
  refine⟨fun vs=>∃(y:V) (i:Nat),vs=[y,.i i,.v x.kv,.r (x.kept.map encK),.v x.wv,.r (x.wants.map Zb),.v x.sv,.r (x.sx.map Zh),.i x.next]/\i<=x.wat.length/\∀j,j<i->hasK x.kept (x.wat.getD j wD_K).2.2.1=true,fun vs=>(x.wat.length - (vs.getD 1 (.i 0)).toI).toNat,⟨_,0,rfl,by omega,fun j hj=>by omega⟩,?_⟩;rintro _ - ⟨y1,i,rfl,hi1,hall1⟩;simp only[Tree.goal,X.P,X.ev,SV.ev,CV.ev,Sc.ev,qz,QA,QB,QC,QD,QE,QF,QG,QH,QI,QJ,QK,QL,QM,Nat.reduceAdd,qy3,qy4,Z1u,Z25,Z1s];refine⟨fun h3=>⟨by omega,fun b29=>?_⟩,fun h3 w3 hr3=>⟨?_,(hr3.pick [0,1,2,3,4,5] (by decide)).conv rfl⟩⟩
  ·refine⟨[.i (idx x.kept (x.wat.getD i wD_K).2.2.1),.b (hasK x.kept (x.wat.getD i wD_K).2.2.1)],rfl,fun _ w' hr=>Zrh w' x.kv x.kept _ (hr.at_ 1 rfl) (Z15.1 hk).2.2 (by omega),?_⟩;simp only[Tree.goal,X.P,X.ev,SV.ev,CV.ev,Sc.ev,qz,QA,QB,QC,QD,QE,QF,QG,QH,QI,QJ,QK,QL,QM,Nat.reduceAdd,qy3,qy4,Z1u,Z25,Z1s];refine⟨fun h4 w3 hr3=>⟨?_,(hr3.pick [1,2,3,4,5,6] (by decide)).conv rfl⟩,fun h4=>⟨by omega,by omega,⟨_,i+1,rfl,by omega,fun j hj=>?_⟩,by omega⟩⟩
   ·have:Z10 x.tel=true:=by
     rw[Z10,Bool.or_eq_true];exact .inr (Z54 wD_K (l:=x.wat) (i:=i) (by omega) (by rw[show hasK x.tel.kept (x.wat.getD i wD_K).2.2.1=false from Bool.eq_false_iff.2 h4];rfl))
    rw[if_pos this]
   ·by_cases hij:j=i
    ·subst hij;exact qy9.1 h4
    ·exact hall1 j (by omega)
  ·have hie:i=x.wat.length:=by omega
   subst hie;have ha2:(x.tel.wat.any fun w=>!hasK x.tel.kept w.2.2.1)=false:=Zbi wD_K fun j hj=>by rw[show hasK x.tel.kept (x.tel.wat.getD j wD_K).2.2.1=true from hall1 j hj];rfl
   rw[if_neg (by rw[Z10,ha1,ha2];decide)]
def Zeb (s:Ses):Prop:=Z9n s.fl/\Z9n s.qu/\s.fl.length<1000000000/\s.qu.length<1000000000/\s.cl.length<1099511627776
def prvS (l:List SesX) (i:Nat):Option (List UInt8):=if i=0 then none else some (l.getD (i - 1) sxD).1.cl
theorem Z13h (l:List SesX) (i:Nat) (h:i<l.length):l.drop i=l.getD i sxD::l.drop (i+1):=by rw[List.drop_eq_getElem_cons h,qy1,qy7 h];rfl
theorem Zu1 (l:List SesX) (i:Nat):Zow (prvS l i) (l.getD i sxD).1.cl=true↔¬(0<(i:Int)/\(Zd (l.getD i sxD).1.cl (l.getD (i - 1) sxD).1.cl=true\/(l.getD i sxD).1.cl=(l.getD (i - 1) sxD).1.cl)):=by
 unfold prvS;by_cases h:i=0
 ·simp[h,Zow]
 ·rw[if_neg h];simp only[Zow];rw[<- Z71];constructor
  ·rintro h1 ⟨-,h2⟩;rw[h1]at h2;cases h2
  ·intro h1;cases h2:Zd (l.getD (i - 1) sxD).1.cl (l.getD i sxD).1.cl with
   | true=>rfl
   | false=>exact absurd ⟨by omega,h2⟩ h1
theorem Zfz {l:List SesX} {i:Nat} (h:i<l.length):Zb1 (prvS l i) ((l.drop i).map (·.1))=if ¬chkS (l.getD i sxD).1=0 then chkS (l.getD i sxD).1
  else if 0<(i:Int)/\(Zd (l.getD i sxD).1.cl (l.getD (i - 1) sxD).1.cl=true\/(l.getD i sxD).1.cl=(l.getD (i - 1) sxD).1.cl) then 4 else Zb1 (prvS l (i+1)) ((l.drop (i+1)).map (·.1)):=by
 rw[Z13h l i h,List.map_cons,Zfq];split
 ·rfl
 ·by_cases h2:0<(i:Int)/\(Zd (l.getD i sxD).1.cl (l.getD (i - 1) sxD).1.cl=true\/(l.getD i sxD).1.cl=(l.getD (i - 1) sxD).1.cl)
  ·rw[if_pos h2,if_neg (fun h3=>(Zu1 l i).1 h3 h2)]
  ·rw[if_neg h2,if_pos ((Zu1 l i).2 h2)];rfl
theorem Zp2 (w:World) (v:Value) (l:List SesX) (hv:reads w v kSx (l.map Zh)) (hA:(Z6 l []).holds w) (hs:∀t∈l,Zeb t.1) : Calls Tryz.prog 71 #[sc1 v] w fun e w'=>e=.returned (.int .i64 (Z4q (l.map (·.1))))/\Mod [] w w':=by
 refine Z1 (Z3 (ρ:=[.v v,.r (l.map Zh),.a (Z6 l [])]) sxE_ok Tryz.func71 Z7y rfl rfl (Rel.start2 (fun e he=>by
  rcases List.mem_cons.1 he with rfl|he
  ·exact⟨hv,rfl⟩
  ·rw[qy12.1 he];exact⟨hA,rfl⟩)) rfl rfl ?_) rfl
 simp only[Tree.goal,X.P,X.ev,SV.ev,CV.ev,Sc.ev,qz,QA,QB,QC,QD,QE,QF,QG,QH,QI,QJ,QK,QL,QM,Nat.reduceAdd,qy3,qy4,gSx0];refine⟨fun h w' hr=>⟨by rw[Z4q,qy3,if_pos h],hr.mod⟩,fun h=>?_⟩;rw[Z4q,qy3,if_neg h];refine⟨fun vs=>∃(i:Nat) (x:V),vs=[x,.i i]/\i<=l.length/\Zb1 (prvS l i) ((l.drop i).map (·.1))=Zb1 none (l.map (·.1)),fun vs=>l.length - (vs.getD 1 (.i 0)).toI.toNat,⟨0,_,rfl,by omega,rfl⟩,?_⟩;rintro _ - ⟨i,x,rfl,hi,hg⟩;simp only[Tree.goal,X.P,X.ev,SV.ev,CV.ev,Sc.ev,qz,QA,QB,QC,QD,QE,QF,QG,QH,QI,QJ,QK,QL,QM,Nat.reduceAdd,qy3,qy4,gSx0];have hi1:((i:Int) - 1).toNat=i - 1:=by omega
 try rw[hi1]
 refine⟨fun h1=>⟨by omega,fun b=>?_⟩,fun h1 w' hr=>⟨?_,hr.mod⟩⟩
 ·have hi':i<l.length:=by omega
  rw[Zfz hi']at hg;have hrow:=Z7x hi';obtain⟨s1,s2,s3,s4,s5⟩:=hs _ (Z5p hi');refine⟨[.i (chkS (l.getD i sxD).1)],rfl,fun _ w' hr=>?_,?_⟩
  ·have hn:=Zq (hr.at_ 2 rfl:(Z6 l []).holds w') (Z5p hi');refine Z1 (Zw0 w' (l.getD i sxD).1 (l.getD i sxD).2.1 (l.getD i sxD).2.2 hn.1 hn.2 s1 s2 s3 s4 s5) ?_;simp only[Tree.goal,X.P,X.ev,SV.ev,CV.ev,Sc.ev,qz,QA,QB,QC,QD,QE,QF,QG,QH,QI,QJ,QK,QL,QM,Nat.reduceAdd,qy3,qy4,gSx0,hrow,Zh,List.getD_cons_zero,List.getD_cons_succ,Value.gI,Value.gB,Value.gS,Z1x,sesV]
  simp only[Tree.goal,X.P,X.ev,SV.ev,CV.ev,Sc.ev,qz,QA,QB,QC,QD,QE,QF,QG,QH,QI,QJ,QK,QL,QM,Nat.reduceAdd,qy3,qy4,gSx0];try rw[hi1]
  refine⟨fun h2 w' hr=>⟨?_,hr.mod⟩,fun h2=>⟨by omega,by omega,by omega,by omega,fun h6 w' hr=>⟨?_,hr.mod⟩,fun h6=>⟨by omega,by omega,⟨i+1,x,rfl,by omega,?_⟩,by omega⟩⟩⟩
  ·rw[if_pos h2]at hg;rw[<- hg]
  ·rw[if_neg h2,if_pos h6]at hg;rw[<- hg]
  ·rw[if_neg h2,if_neg h6]at hg;exact hg
 ·have:i=l.length:=by omega
  subst this;rw[List.drop_length]at hg;rw[<- hg];rfl
theorem Z13i (w:World) (k:Nat) (x:TelX) (hr:Rel ⟨Zr (bcA k x) bcH,w⟩ (bcA k x) bcH w) (ho:x.ox=[]) (hs:∀t∈x.sx,Zeb t.1) : Calls Tryz.prog 70 #[.pointer (some ⟨k,0,none⟩)] w fun e w'=>Zb3 w w' e k x (Z4q x.tel.sess):=by refine Z1 (Z3 (ρ:=bcA k x) sxE_ok Tryz.func70 Z8r rfl rfl hr rfl rfl ?_) rfl;simp only[Tree.goal,X.P,X.ev,SV.ev,CV.ev,Sc.ev,qz,QA,QB,QC,QD,QE,QF,QG,QH,QI,QJ,QK,QL,QM,Nat.reduceAdd,qy3,qy4,gSx0];refine⟨[.i (Z4q x.tel.sess)],rfl,fun _ w' hr=>Zp2 w' x.sv x.sx (hr.at_ 2 rfl) (by rw[<- ho];exact hr.at_ 3 rfl) hs,?_⟩;intro w3 hr3;exact⟨rfl,(hr3.pick [0,1,2,3,4,5] (by decide)).conv rfl⟩
abbrev bkA (x:TelX):List V:=[.v x.kv,.r (x.kept.map encK),.v x.wv,.r (x.wants.map Zb),.v x.sv,.r (x.sx.map Zh),.a (Z6 x.sx x.ox),.v x.av,.r (x.wat.map Z8),.i x.next]
abbrev bkH:List Ent:=[.rd 0 kK (.var 1),.rd 2 kW_V (.var 3),.rd 4 kSx (.var 5),.st 6,.rd 7 kW_K (.var 8)]
def bkV (x:TelX):Value:=.agg #[sc1 x.kv,sc1 x.wv,sc1 x.sv,sc1 x.av,.int .i64 x.next]
abbrev owA (x:TelX):List V:=[.v x.kv,.r (x.kept.map encK),.v x.wv,.r (x.wants.map Zb),.v x.sv,.r (x.sx.map Zh),.v x.av,.r (x.wat.map Z8),.i x.next,.a (Z6 x.sx x.ox)]
abbrev owH:List Ent:=[.rd 0 kK (.var 1),.rd 2 kW_V (.var 3),.row 4 63 kSx (.var 5),.row 6 68 kW_K (.var 7),.st 9]
def Zu2 (w w':World) (e:Ending) (x:TelX):Prop :=
 ∃y:TelX,e=.returned (bkV y)/\y.ox=[]/\y.tel={ x.tel with out:=[] }/\Rel ⟨[],w⟩ (owA y) owH w'/\(∀j,Z2 y.kv j->w.heap.size<=j)/\(∀j,Z2 y.wv j->w.heap.size<=j)/\(∀j,(Z6 y.sx y.ox).fp j->w.heap.size<=j)
set_option maxRecDepth 2000 in
theorem Z11e (w:World) (x:TelX) (hr:Rel ⟨[],w⟩ (bkA x) bkH w) (hl1:x.kept.length<1000000000) (hl2:x.wants.length<1000000000) (hl3:x.wat.length<1000000000) (hl4:x.sx.length<1000000) (hl5:∀t∈x.sx,t.1.fl.length<1000000000/\t.1.qu.length<1000000000) : Calls Tryz.prog 126 #[bkV x] w fun e w'=>Zu2 w w' e x:=by
 refine Z1 (Z3 (ρ:=bkA x) (sxE_ok.joins _) Tryz.func126 Ze0 rfl rfl hr rfl rfl ?_) rfl;simp only[Tree.goal,X.P,X.ev,SV.ev,CV.ev,Sc.ev,qz,QA,QB,QC,QD,QE,QF,QG,QH,QI,QJ,QK,QL,QM,Nat.reduceAdd,qy3,qy4];intro b10 b11;refine⟨fun vs=>∃(u1 u2 u3:Value) (b:Nat),vs=[.v u1,.r (x.kept.map encK),.v u2,.r (x.wants.map Zb),.v u3,.r (x.wat.map Z8),.n b],⟨?_,?_⟩,?_⟩
 ·intro w1 hr1;refine(Zcd w1 x.kv x.kept (hr1.at_ 2 rfl) hl1).mono ?_;rintro e w2 ⟨u1,rfl,a1,f1,m1⟩;refine⟨[.v u1,.r (x.kept.map encK)],rfl,rfl,m1,qy5 _,qy2.2 ⟨⟨a1,fun k hk=>.inl (f1 k hk)⟩,qy5 _⟩,Z4,?_⟩;clear hr1 a1 f1 m1;refine⟨?_,?_⟩
  ·intro w1 hr1;refine(Z44 w1 x.wv x.wants (hr1.at_ 4 rfl) hl2).mono ?_;rintro e w2 ⟨u2,rfl,a1,f1,m1⟩;refine⟨[.v u2,.r (x.wants.map Zb)],rfl,rfl,m1,qy5 _,qy2.2 ⟨⟨a1,fun k hk=>.inl (f1 k hk)⟩,qy5 _⟩,Z4,?_⟩;clear hr1 a1 f1 m1;refine⟨?_,?_⟩
   ·intro w1 hr1;refine(Z41 w1 x.av x.wat (hr1.at_ 8 rfl) hl3).mono ?_;rintro e w2 ⟨u3,rfl,a1,f1,m1⟩;refine⟨[.v u3,.r (x.wat.map Z8)],rfl,rfl,m1,qy5 _,qy2.2 ⟨⟨a1,fun k hk=>.inl (f1 k hk)⟩,qy5 _⟩,Z4,?_⟩;clear hr1 a1 f1 m1;intro b;exact⟨u1,u2,u3,b,rfl⟩
   ·intro b;intro w1 hr1;refine(Z41 w1 x.av x.wat (hr1.at_ 9 rfl) hl3).mono ?_;rintro e w2 ⟨u3,rfl,a1,f1,m1⟩;refine⟨[.v u3,.r (x.wat.map Z8)],rfl,rfl,m1,qy5 _,qy2.2 ⟨⟨a1,fun k hk=>.inl (f1 k hk)⟩,qy5 _⟩,Z4,?_⟩;clear hr1 a1 f1 m1;exact⟨u1,u2,u3,b,rfl⟩
  ·intro b;intro w1 hr1;refine(Z44 w1 x.wv x.wants (hr1.at_ 5 rfl) hl2).mono ?_;rintro e w2 ⟨u2,rfl,a1,f1,m1⟩;refine⟨[.v u2,.r (x.wants.map Zb)],rfl,rfl,m1,qy5 _,qy2.2 ⟨⟨a1,fun k hk=>.inl (f1 k hk)⟩,qy5 _⟩,Z4,?_⟩;clear hr1 a1 f1 m1;intro w1 hr1;refine(Z41 w1 x.av x.wat (hr1.at_ 9 rfl) hl3).mono ?_;rintro e w2 ⟨u3,rfl,a1,f1,m1⟩;refine⟨[.v u3,.r (x.wat.map Z8)],rfl,rfl,m1,qy5 _,qy2.2 ⟨⟨a1,fun k hk=>.inl (f1 k hk)⟩,qy5 _⟩,Z4,?_⟩;clear hr1 a1 f1 m1;exact⟨u1,u2,u3,b,rfl⟩
 ·intro b;intro w1 hr1;refine(Zcd w1 x.kv x.kept (hr1.at_ 3 rfl) hl1).mono ?_;rintro e w2 ⟨u1,rfl,a1,f1,m1⟩;refine⟨[.v u1,.r (x.kept.map encK)],rfl,rfl,m1,qy5 _,qy2.2 ⟨⟨a1,fun k hk=>.inl (f1 k hk)⟩,qy5 _⟩,Z4,?_⟩;clear hr1 a1 f1 m1;intro w1 hr1;refine(Z44 w1 x.wv x.wants (hr1.at_ 5 rfl) hl2).mono ?_;rintro e w2 ⟨u2,rfl,a1,f1,m1⟩;refine⟨[.v u2,.r (x.wants.map Zb)],rfl,rfl,m1,qy5 _,qy2.2 ⟨⟨a1,fun k hk=>.inl (f1 k hk)⟩,qy5 _⟩,Z4,?_⟩;clear hr1 a1 f1 m1;intro w1 hr1;refine(Z41 w1 x.av x.wat (hr1.at_ 9 rfl) hl3).mono ?_;rintro e w2 ⟨u3,rfl,a1,f1,m1⟩;refine⟨[.v u3,.r (x.wat.map Z8)],rfl,rfl,m1,qy5 _,qy2.2 ⟨⟨a1,fun k hk=>.inl (f1 k hk)⟩,qy5 _⟩,Z4,?_⟩;clear hr1 a1 f1 m1;exact⟨u1,u2,u3,b,rfl⟩
 rintro _ - ⟨u1,u2,u3,b,rfl⟩;simp only[Tree.goal,X.P,X.ev,SV.ev,CV.ev,Sc.ev,qz,QA,QB,QC,QD,QE,QF,QG,QH,QI,QJ,QK,QL,QM,Nat.reduceAdd,qy3,qy4];refine⟨Z6 [] [],fun w _ t ht=>absurd ht (by simp[nest]),fun j hj=>?_,?_⟩
 ·rcases Zi.1 hj with ⟨t,ht,-⟩|⟨t,ht,-⟩<;>cases ht
 refine⟨fun vs=>∃(i:Nat) (Y:List SesX) (u4:Value),vs=[.i i,.a (Z6 Y []),.v u1,.r (x.kept.map encK),.v u2,.r (x.wants.map Zb),.v u4,.r (Y.map Zh),.v u3,.r (x.wat.map Z8),.i x.next]/\i<=x.sx.length/\Y.map (·.1)=(x.sx.take i).map (·.1)/\(∀j,(Z6 Y []).fp j->w.heap.size<=j),fun vs=>(x.sx.length - (vs.getD 0 (.i 0)).toI).toNat,⟨0,[],.slice none 0 0,rfl,by omega,rfl,fun j hj=>?_⟩,?_⟩
 ·rcases Zi.1 hj with ⟨t,ht,-⟩|⟨t,ht,-⟩<;>cases ht
 rintro _ - ⟨i,Y,u4,rfl,hi,hY,hfY⟩;simp only[Tree.goal,X.P,X.ev,SV.ev,CV.ev,Sc.ev,qz,QA,QB,QC,QD,QE,QF,QG,QH,QI,QJ,QK,QL,QM,Nat.reduceAdd,qy3,qy4];refine⟨fun h1=>?_,fun h1 w3 hr3=>?_⟩
 ·have hi':i<x.sx.length:=by omega
  have hYl:Y.length=i:=by have:=congrArg List.length hY;simp only[qy3,List.length_take]at this;omega
  have hrow:=Z7x hi';have hmm:=Z5p hi';have hse:(x.sx.take (i+1)).map (·.1)=(x.sx.take i).map (·.1)++[(x.sx.getD i sxD).1]:=by rw[Zox sxD _ _ hi',List.map_append];rfl
  simp only[hrow,Zh,List.getD_cons_zero,List.getD_cons_succ,Value.gI,Value.gB,Value.gS,Z1x];generalize x.sx.getD i sxD=ss at hmm hse
  obtain⟨s,s',s''⟩:=ss;obtain⟨hf1,hf2⟩:=hl5 _ hmm;simp only at hse hf1 hf2 ⊢;refine⟨by omega,fun b31=>?_⟩;refine⟨fun vs=>∃(p1 p2 v38 v39:Value),vs=[.i 0,.i 0,.v p1,.r (s.fl.map encF),.v p2,.r (s.qu.map encF),.v v38,.v v39,.r ((Y++[(s,p1,p2)]).map Zh),.r ([((s,p1,p2):SesX)].map Zh)]/\(∀j,Z2 p1 j->w.heap.size<=j)/\(∀j,Z2 p2 j->w.heap.size<=j),⟨?_,?_⟩,?_⟩
  ·intro b32 b33;refine⟨?_,?_⟩
   ·intro w1 hr1;have hz1:=hr1.mod.size;refine(Z14 w1 s' s.fl (Zq (hr1.at_ 13 rfl:(Z6 x.sx x.ox).holds w1) hmm).1 hf1).mono ?_;rintro e w2 ⟨p1,rfl,a1,f1,m1⟩;refine⟨[.v p1,.r (s.fl.map encF)],rfl,rfl,m1,qy5 _,qy2.2 ⟨⟨a1,fun k hk=>.inl (f1 k hk)⟩,qy5 _⟩,Z4,?_⟩;have n1:∀j,Z2 p1 j->w.heap.size<=j:=fun j hj=>Nat.le_trans hz1 (f1 j hj);clear hr1 a1 f1 m1;intro w1 hr1;have hz2:=hr1.mod.size;refine(Z14 w1 s'' s.qu (Zq (hr1.at_ 14 rfl:(Z6 x.sx x.ox).holds w1) hmm).2 hf2).mono ?_;rintro e w2 ⟨p2,rfl,a1,f1,m1⟩;refine⟨[.v p2,.r (s.qu.map encF)],rfl,rfl,m1,qy5 _,qy2.2 ⟨⟨a1,fun k hk=>.inl (f1 k hk)⟩,qy5 _⟩,Z4,?_⟩;have n2:∀j,Z2 p2 j->w.heap.size<=j:=fun j hj=>Nat.le_trans hz2 (f1 j hj);clear hr1 a1 f1 m1;intro v38;refine⟨by first|omega|(simp;omega),fun v39=>⟨p1,p2,v38,v39,?_,n1,n2⟩⟩;rw[List.map_append];rfl
   ·intro w1 hr1;have hz1:=hr1.mod.size;refine(Z14 w1 s' s.fl (Zq (hr1.at_ 13 rfl:(Z6 x.sx x.ox).holds w1) hmm).1 hf1).mono ?_;rintro e w2 ⟨p1,rfl,a1,f1,m1⟩;refine⟨[.v p1,.r (s.fl.map encF)],rfl,rfl,m1,qy5 _,qy2.2 ⟨⟨a1,fun k hk=>.inl (f1 k hk)⟩,qy5 _⟩,Z4,?_⟩;have n1:∀j,Z2 p1 j->w.heap.size<=j:=fun j hj=>Nat.le_trans hz1 (f1 j hj);clear hr1 a1 f1 m1;intro w1 hr1;have hz2:=hr1.mod.size;refine(Z14 w1 s'' s.qu (Zq (hr1.at_ 14 rfl:(Z6 x.sx x.ox).holds w1) hmm).2 hf2).mono ?_;rintro e w2 ⟨p2,rfl,a1,f1,m1⟩;refine⟨[.v p2,.r (s.qu.map encF)],rfl,rfl,m1,qy5 _,qy2.2 ⟨⟨a1,fun k hk=>.inl (f1 k hk)⟩,qy5 _⟩,Z4,?_⟩;have n2:∀j,Z2 p2 j->w.heap.size<=j:=fun j hj=>Nat.le_trans hz2 (f1 j hj);clear hr1 a1 f1 m1;intro v38;refine⟨by first|omega|(simp;omega),fun v39=>⟨p1,p2,v38,v39,?_,n1,n2⟩⟩;rw[List.map_append];rfl
  ·intro b32 b33;refine⟨?_,?_⟩
   ·intro w1 hr1;have hz1:=hr1.mod.size;refine(Z14 w1 s' s.fl (Zq (hr1.at_ 13 rfl:(Z6 x.sx x.ox).holds w1) hmm).1 hf1).mono ?_;rintro e w2 ⟨p1,rfl,a1,f1,m1⟩;refine⟨[.v p1,.r (s.fl.map encF)],rfl,rfl,m1,qy5 _,qy2.2 ⟨⟨a1,fun k hk=>.inl (f1 k hk)⟩,qy5 _⟩,Z4,?_⟩;have n1:∀j,Z2 p1 j->w.heap.size<=j:=fun j hj=>Nat.le_trans hz1 (f1 j hj);clear hr1 a1 f1 m1;intro w1 hr1;have hz2:=hr1.mod.size;refine(Z14 w1 s'' s.qu (Zq (hr1.at_ 14 rfl:(Z6 x.sx x.ox).holds w1) hmm).2 hf2).mono ?_;rintro e w2 ⟨p2,rfl,a1,f1,m1⟩;refine⟨[.v p2,.r (s.qu.map encF)],rfl,rfl,m1,qy5 _,qy2.2 ⟨⟨a1,fun k hk=>.inl (f1 k hk)⟩,qy5 _⟩,Z4,?_⟩;have n2:∀j,Z2 p2 j->w.heap.size<=j:=fun j hj=>Nat.le_trans hz2 (f1 j hj);clear hr1 a1 f1 m1;refine⟨?_,?_⟩
    ·intro v38;refine⟨by first|omega|(simp;omega),fun v39=>⟨p1,p2,v38,v39,?_,n1,n2⟩⟩;rw[List.map_append];rfl
    ·intro v38;refine⟨by first|omega|(simp;omega),fun v39=>⟨p1,p2,v38,v39,?_,n1,n2⟩⟩;rw[List.map_append];rfl
   ·intro w1 hr1;have hz1:=hr1.mod.size;refine(Z14 w1 s' s.fl (Zq (hr1.at_ 13 rfl:(Z6 x.sx x.ox).holds w1) hmm).1 hf1).mono ?_;rintro e w2 ⟨p1,rfl,a1,f1,m1⟩;refine⟨[.v p1,.r (s.fl.map encF)],rfl,rfl,m1,qy5 _,qy2.2 ⟨⟨a1,fun k hk=>.inl (f1 k hk)⟩,qy5 _⟩,Z4,?_⟩;have n1:∀j,Z2 p1 j->w.heap.size<=j:=fun j hj=>Nat.le_trans hz1 (f1 j hj);clear hr1 a1 f1 m1;intro w1 hr1;have hz2:=hr1.mod.size;refine(Z14 w1 s'' s.qu (Zq (hr1.at_ 14 rfl:(Z6 x.sx x.ox).holds w1) hmm).2 hf2).mono ?_;rintro e w2 ⟨p2,rfl,a1,f1,m1⟩;refine⟨[.v p2,.r (s.qu.map encF)],rfl,rfl,m1,qy5 _,qy2.2 ⟨⟨a1,fun k hk=>.inl (f1 k hk)⟩,qy5 _⟩,Z4,?_⟩;have n2:∀j,Z2 p2 j->w.heap.size<=j:=fun j hj=>Nat.le_trans hz2 (f1 j hj);clear hr1 a1 f1 m1;refine⟨?_,?_⟩
    ·intro v38;refine⟨by first|omega|(simp;omega),fun v39=>⟨p1,p2,v38,v39,?_,n1,n2⟩⟩;rw[List.map_append];rfl
    ·intro v38;refine⟨by first|omega|(simp;omega),fun v39=>⟨p1,p2,v38,v39,?_,n1,n2⟩⟩;rw[List.map_append];rfl
  rintro _ - ⟨p1,p2,v38,v39,rfl,n1,n2⟩;have hfp:∀j,(Z6 (Y++[(s,p1,p2)]) []).fp j->(Z6 Y []).fp j\/((s.fl.map encF).flatten≠[]/\Z2 p1 j)\/((s.qu.map encF).flatten≠[]/\Z2 p2 j):=fun j hj=>by
   rcases Zi.1 hj with ⟨t,ht,hk⟩|⟨t,ht,-⟩
   ·rcases qy13.1 ht with ht|ht
    ·exact .inl (Zi.2 (.inl ⟨t,ht,hk⟩))
    ·rw[qy12.1 ht]at hk;exact .inr hk
   ·cases ht
  refine⟨by omega,by omega,Z6 (Y++[(s,p1,p2)]) [],fun w3 hr3=>?_,fun j hj=>?_,⟨i+1,Y++[(s,p1,p2)],v39,rfl,by omega,?_,fun j hj=>?_⟩,by omega⟩
  ·refine Z1j (l:=Y) (o:=[]) (fun t ht=>?_) (fun t ht=>.inl ht) (hr3.at_ 5 rfl);rcases qy13.1 ht with ht|ht
   ·exact .inl ht
   ·rw[qy12.1 ht];exact .inr ⟨hr3.at_ 3 rfl,hr3.at_ 2 rfl⟩
  ·rcases hfp j hj with h|h|h
   ·exact⟨_,qy6 (i:=5) rfl,rfl,h⟩
   ·exact⟨_,qy6 (i:=3) rfl,rfl,h⟩
   ·exact⟨_,qy6 (i:=2) rfl,rfl,h⟩
  ·rw[List.map_append,hY,hse];rfl
  ·rcases hfp j hj with h|h|h
   ·exact hfY j h
   ·exact n1 j h.2
   ·exact n2 j h.2
 ·have hie:i=x.sx.length:=by omega
  rw[hie,List.take_length]at hY;refine⟨⟨x.kept,x.wants,Y,x.wat,x.next,[],u1,u2,u4,u3,.slice none 0 0⟩,rfl,rfl,?_,((Z3k (v:=22) (Z3k (v:=24) hr3)).pick [4,3,12,2,0] (by decide)).conv rfl,fun j hj=>?_,fun j hj=>?_,hfY⟩
  ·simp only[TelX.tel,hY];rfl
  ·rcases hr3.own _ (qy6 (i:=4) rfl) rfl j hj with h|h
   ·exact h
   ·cases h
  ·rcases hr3.own _ (qy6 (i:=3) rfl) rfl j hj with h|h
   ·exact h
   ·cases h
end Go.Proofs.YtkhakgbnfapifaaGreatDoor
namespace Go.Proofs.YtkhakgbnfapifaaGreatDoor
open Go Go.Sx Go.RowKit
def Z85 (a b c d e f:Int):Int:=if ¬a=0 then a else if ¬b=0 then b else if ¬c=0 then c else if ¬d=0 then d else if ¬e=0 then e else f
theorem Z14z {w:World} {b:Nat} {cs:Array Value} {t:TypeId} (h:w.heap[b]?=some (.cells cs t (0,0))) (j:Nat):w.cell? ⟨b,j,none⟩=cs[j]?:=by simp[World.cell?,h]
set_option maxRecDepth 100000 in
theorem Z11f (I:World->Prop) (b k:Nat) (c1 c2 c3 c4 c5 c6:Int) (hI:∀W,I W->∃t,W.heap[b]?=some (.cells #[.func (.func 66) #[] #[.pointer (some ⟨k,0,none⟩)],.func (.func 68) #[] #[.pointer (some ⟨k,0,none⟩)],.func (.func 70) #[] #[.pointer (some ⟨k,0,none⟩)],.func (.func 72) #[] #[.pointer (some ⟨k,0,none⟩)],.func (.func 74) #[] #[.pointer (some ⟨k,0,none⟩)],.func (.func 82) #[] #[.pointer (some ⟨k,0,none⟩)]] t (0,0))) (h1:∀W,I W->Calls Tryz.prog 66 #[.pointer (some ⟨k,0,none⟩)] W fun e W'=>e=.returned (.int .i64 c1)/\I W') (h2:c1=0->∀W,I W->Calls Tryz.prog 68 #[.pointer (some ⟨k,0,none⟩)] W fun e W'=>e=.returned (.int .i64 c2)/\I W') (h3:c1=0->c2=0->∀W,I W->Calls Tryz.prog 70 #[.pointer (some ⟨k,0,none⟩)] W fun e W'=>e=.returned (.int .i64 c3)/\I W') (h4:c1=0->c2=0->c3=0->∀W,I W->Calls Tryz.prog 72 #[.pointer (some ⟨k,0,none⟩)] W fun e W'=>e=.returned (.int .i64 c4)/\I W') (h5:c1=0->c2=0->c3=0->c4=0->∀W,I W->Calls Tryz.prog 74 #[.pointer (some ⟨k,0,none⟩)] W fun e W'=>e=.returned (.int .i64 c5)/\I W') (h6:c1=0->c2=0->c3=0->c4=0->c5=0->∀W,I W->Calls Tryz.prog 82 #[.pointer (some ⟨k,0,none⟩)] W fun e W'=>e=.returned (.int .i64 c6)/\I W') (w:World) (hw:I w) : Calls Tryz.prog 65 #[.slice (some ⟨b,0,none⟩) 6 6] w fun e w'=>e=.returned (.int .i64 (Z85 c1 c2 c3 c4 c5 c6))/\I w':=by
  have hq:∀W,I W->W.cell? ⟨b,0,none⟩=some (.func (.func 66) #[] #[.pointer (some ⟨k,0,none⟩)])/\W.cell? ⟨b,1,none⟩=some (.func (.func 68) #[] #[.pointer (some ⟨k,0,none⟩)])/\W.cell? ⟨b,2,none⟩=some (.func (.func 70) #[] #[.pointer (some ⟨k,0,none⟩)])/\W.cell? ⟨b,3,none⟩=some (.func (.func 72) #[] #[.pointer (some ⟨k,0,none⟩)])/\W.cell? ⟨b,4,none⟩=some (.func (.func 74) #[] #[.pointer (some ⟨k,0,none⟩)])/\W.cell? ⟨b,5,none⟩=some (.func (.func 82) #[] #[.pointer (some ⟨k,0,none⟩)]):=fun W hW=>by obtain⟨t,g⟩:=hI W hW;refine⟨?_,?_,?_,?_,?_,?_⟩<;>(rw[Z14z g];rfl)
  obtain⟨q0,-⟩:=hq w hw;go_enter Tryz.func65,Tryz.ntmps65
  go_wp2
  refine wp_loop_rounds 7 ?_;rw[rounds_succ];go_wp2_with (go_at_call 66;refine(h1 _ hw).mono ?_;rintro e w1 ⟨rfl,i1⟩;obtain⟨-,q1,-⟩:=hq w1 i1)
  . go_ret
    exact⟨by unfold Z85;simp_all,i1⟩
  have z1:c1=0:=by simp_all
  rw[rounds_succ];go_wp2_with (go_at_call 68;refine(h2 z1 _ i1).mono ?_;rintro e w2 ⟨rfl,i2⟩;obtain⟨-,-,q2,-⟩:=hq w2 i2)
  . go_ret
    exact⟨by unfold Z85;simp_all,i2⟩
  have z2:c2=0:=by simp_all
  rw[rounds_succ];go_wp2_with (go_at_call 70;refine(h3 z1 z2 _ i2).mono ?_;rintro e w3 ⟨rfl,i3⟩;obtain⟨-,-,-,q3,-⟩:=hq w3 i3)
  . go_ret
    exact⟨by unfold Z85;simp_all,i3⟩
  have z3:c3=0:=by simp_all
  rw[rounds_succ];go_wp2_with (go_at_call 72;refine(h4 z1 z2 z3 _ i3).mono ?_;rintro e w4 ⟨rfl,i4⟩;obtain⟨-,-,-,-,q4,-⟩:=hq w4 i4)
  . go_ret
    exact⟨by unfold Z85;simp_all,i4⟩
  have z4:c4=0:=by simp_all
  rw[rounds_succ];go_wp2_with (go_at_call 74;refine(h5 z1 z2 z3 z4 _ i4).mono ?_;rintro e w5 ⟨rfl,i5⟩;obtain⟨-,-,-,-,-,q5⟩:=hq w5 i5)
  . go_ret
    exact⟨by unfold Z85;simp_all,i5⟩
  have z5:c5=0:=by simp_all
  rw[rounds_succ];go_wp2_with (go_at_call 82;refine(h6 z1 z2 z3 z4 z5 _ i5).mono ?_;rintro e w6 ⟨rfl,i6⟩)
  . go_ret
    exact⟨by unfold Z85;simp_all,i6⟩
  have z6:c6=0:=by simp_all
  rw[rounds_succ];go_wp2
  go_ret
  exact⟨by unfold Z85;simp_all,i6⟩
structure SmlB (x:TelX):Prop where
  kept:Zdo x.kept
  keptL:x.kept.length<1000000000
  wants:Z2i x.wants
  wantsL:x.wants.length<1000000000
  sess:∀t∈x.sx,Zeb t.1
  sessL:x.sx.length<1000000
  wat:Z64 x.wat
  watL:x.wat.length<1000000000
theorem Zn7 (w:World) (o o':Obj):((w.alloc o).alloc o').heap[w.heap.size]?=some o/\((w.alloc o).alloc o').heap[w.heap.size+1]?=some o':=by
  have h:((w.alloc o).alloc o').heap=(w.heap.push o).push o':=rfl;rw[h];constructor
  . rw[Array.getElem?_push_lt (by simp)];simp
  . rw[show w.heap.size+1=(w.heap.push o).size by simp,Array.getElem?_push_size]
theorem Zxp {w:World} {x:TelX} (hr:Rel ⟨[],w⟩ (bkA x) bkH w) (o:Obj) : Rel ⟨Zr (bcA w.heap.size x) bcH,(w.alloc (.cells #[sc1 x.kv,sc1 x.wv,sc1 x.sv,sc1 x.av,.int .i64 x.next] 27)).alloc o⟩ (bcA w.heap.size x) bcH ((w.alloc (.cells #[sc1 x.kv,sc1 x.wv,sc1 x.sv,sc1 x.av,.int .i64 x.next] 27)).alloc o):=by
  have h0:=((hr.alloc (.cells #[sc1 x.kv,sc1 x.wv,sc1 x.sv,sc1 x.av,.int .i64 x.next] 27)).alloc o).ext (Zt.app (bkA x) [V.n w.heap.size]) (rfl:bkH.all (Ent.bd 10)=true);have h1:=h0.cons (e:=.cells 10 27 [.val (.var 0),.val (.var 2),.val (.var 4),.val (.var 7),.int .i64 (.var 9)]) (Zn7 w _ o).1
    (fun _ j hj=>.inl (by rw[show j=w.heap.size from hj];exact Nat.le_refl _))
    (fun e' he' _ j hj hj'=>by rw[show j=w.heap.size from hj]at hj';have hb:e'.bd 10=true:=List.all_eq_true.1 (rfl:bkH.all (Ent.bd 10)=true) e' he';have:=Ent.bound (hr.holds e' he') ((Ent.fp_bd (Zt.app (bkA x) [V.n w.heap.size]) e' hb _).2 hj');omega)
  exact(Rel.conv (ρ':=bcA w.heap.size x) (hp':=bcH) (h1.pick [1,2,3,4,5,0] (by decide)) rfl).base
theorem Zb4 {w0 w w':World} {k:Nat} {x:TelX} (h:Rel ⟨Zr (bcA k x) bcH,w0⟩ (bcA k x) bcH w) (h':Rel ⟨Zr (bcA k x) bcH,w⟩ (bcA k x) bcH w'):Rel ⟨Zr (bcA k x) bcH,w0⟩ (bcA k x) bcH w' :=
  ⟨h.mod.trans h'.mod (fun j hj=>.inl hj),h'.holds,h.own,h'.sep⟩
theorem Zu3 (x:TelX):Z85 (chkK x.kept) (Zf x.wants) (Z4q x.tel.sess) (Zw x.wat) (if Z10 x.tel=true then 4 else 0) (if x.next<0\/65535<x.next then 3 else 0)=chkB x.tel:=by
  unfold Z85 chkB;simp only[TelX.tel];by_cases h1:chkK x.kept=0
  . by_cases h2:Zf x.wants=0
    . by_cases h3:Z4q (x.sx.map (·.1))=0
      . by_cases h4:Zw x.wat=0
        . by_cases h5:Z10 ⟨x.kept,x.wants,x.sx.map (·.1),x.wat,x.next,x.ox.map (·.1)⟩=true
          . simp[h1,h2,h3,h4,h5]
          . by_cases h6:x.next<0\/65535<x.next
            . simp only[h1,h2,h3,h4,h5,if_pos h6,not_true,if_false,ite_false];simp;exact(if_pos h6).symm
            . simp only[h1,h2,h3,h4,h5,if_neg h6,not_true,if_false,ite_false];simp;exact(if_neg h6).symm
        . simp[h1,h2,h3,h4]
      . simp[h1,h2,h3]
    . simp[h1,h2]
  . simp[h1]
set_option maxRecDepth 100000 in
theorem Z7p (w:World) (x:TelX) (hr:Rel ⟨[],w⟩ (bkA x) bkH w) (ho:x.ox=[]) (hs:SmlB x) : Calls Tryz.prog 17 #[bkV x] w fun e w'=>e=.returned (.int .i64 (chkB x.tel))/\Mod [] w w':=by
  have hst:=Zxp hr (.cells #[.func (.func 66) #[] #[.pointer (some ⟨w.heap.size,0,none⟩)],.func (.func 68) #[] #[.pointer (some ⟨w.heap.size,0,none⟩)],.func (.func 70) #[] #[.pointer (some ⟨w.heap.size,0,none⟩)],.func (.func 72) #[] #[.pointer (some ⟨w.heap.size,0,none⟩)],.func (.func 74) #[] #[.pointer (some ⟨w.heap.size,0,none⟩)],.func (.func 82) #[] #[.pointer (some ⟨w.heap.size,0,none⟩)]] 114);have hb:∀W,Rel ⟨Zr (bcA w.heap.size x) bcH,(w.alloc (.cells #[sc1 x.kv,sc1 x.wv,sc1 x.sv,sc1 x.av,.int .i64 x.next] 27)).alloc (.cells #[.func (.func 66) #[] #[.pointer (some ⟨w.heap.size,0,none⟩)],.func (.func 68) #[] #[.pointer (some ⟨w.heap.size,0,none⟩)],.func (.func 70) #[] #[.pointer (some ⟨w.heap.size,0,none⟩)],.func (.func 72) #[] #[.pointer (some ⟨w.heap.size,0,none⟩)],.func (.func 74) #[] #[.pointer (some ⟨w.heap.size,0,none⟩)],.func (.func 82) #[] #[.pointer (some ⟨w.heap.size,0,none⟩)]] 114)⟩ (bcA w.heap.size x) bcH W->∃t,W.heap[w.heap.size+1]?=some (.cells #[.func (.func 66) #[] #[.pointer (some ⟨w.heap.size,0,none⟩)],.func (.func 68) #[] #[.pointer (some ⟨w.heap.size,0,none⟩)],.func (.func 70) #[] #[.pointer (some ⟨w.heap.size,0,none⟩)],.func (.func 72) #[] #[.pointer (some ⟨w.heap.size,0,none⟩)],.func (.func 74) #[] #[.pointer (some ⟨w.heap.size,0,none⟩)],.func (.func 82) #[] #[.pointer (some ⟨w.heap.size,0,none⟩)]] t (0,0)):=fun W hW =>
    ⟨_,(hW.mod.block (w.heap.size+1) (by show w.heap.size+1<((w.heap.push _).push _).size;simp) (by simp[Zr,Ent.fpl])).trans (Zn7 w _ _).2⟩
  have hk3:Z4q x.tel.sess=0->Z5n x.tel.sess:=fun h=>(Z5r.1 h).2.2;have run:=Z11f _ (w.heap.size+1) w.heap.size (chkK x.kept) (Zf x.wants) (Z4q x.tel.sess) (Zw x.wat) (if Z10 x.tel=true then 4 else 0) (if x.next<0\/65535<x.next then 3 else 0) hb
    (fun W hW=>(Z13c W _ x hW.base hs.kept hs.keptL).mono fun e w' h=>⟨h.1,Zb4 hW h.2⟩)
    (fun _ W hW=>(Z13d W _ x hW.base hs.wants hs.wantsL).mono fun e w' h=>⟨h.1,Zb4 hW h.2⟩)
    (fun _ _ W hW=>(Z13i W _ x hW.base ho hs.sess).mono fun e w' h=>⟨h.1,Zb4 hW h.2⟩)
    (fun _ _ _ W hW=>(Z13e W _ x hW.base hs.wat hs.watL).mono fun e w' h=>⟨h.1,Zb4 hW h.2⟩)
    (fun h1 _ h3 _ W hW=>(Z13g W _ x hW.base h1 (hk3 h3) (by have:=hs.sessL;omega) hs.wantsL hs.watL).mono fun e w' h=>⟨h.1,Zb4 hW h.2⟩)
    (fun _ _ _ _ _ W hW=>(Z13f W _ x hW.base).mono fun e w' h=>⟨h.1,Zb4 hW h.2⟩)
    _ hst
  rw[Zu3]at run;clear hb hk3;have hm:∀{w'},Rel ⟨Zr (bcA w.heap.size x) bcH,(w.alloc (.cells #[sc1 x.kv,sc1 x.wv,sc1 x.sv,sc1 x.av,.int .i64 x.next] 27)).alloc (.cells #[.func (.func 66) #[] #[.pointer (some ⟨w.heap.size,0,none⟩)],.func (.func 68) #[] #[.pointer (some ⟨w.heap.size,0,none⟩)],.func (.func 70) #[] #[.pointer (some ⟨w.heap.size,0,none⟩)],.func (.func 72) #[] #[.pointer (some ⟨w.heap.size,0,none⟩)],.func (.func 74) #[] #[.pointer (some ⟨w.heap.size,0,none⟩)],.func (.func 82) #[] #[.pointer (some ⟨w.heap.size,0,none⟩)]] 114)⟩ (bcA w.heap.size x) bcH w'->Mod [] w w':=fun {w'} h =>
    ((Mod.alloc [] w _).trans (Mod.alloc [] _ _) (fun j hj=>.inl hj)).trans h.mod (fun j hj=>.inr (by simp only[Zr,bcH,List.flatMap_cons,List.flatMap_nil,Ent.fpl,List.append_nil,List.nil_append,qy12]at hj;rw[hj];exact Nat.le_refl _))
  simp only[bkV];generalize sc1 x.kv=v1 at run hm ⊢
  generalize sc1 x.wv=v2 at run hm ⊢
  generalize sc1 x.sv=v3 at run hm ⊢
  generalize sc1 x.av=v4 at run hm ⊢
  generalize chkB x.tel=cc at run ⊢
  go_enter Tryz.func17,Tryz.ntmps17
  go_wp2_with (go_at_call 65;refine run.mono ?_;rintro e w1 ⟨rfl,i1⟩)
  go_ret
  exact⟨rfl,hm i1⟩
end Go.Proofs.YtkhakgbnfapifaaGreatDoor
namespace Go.Proofs.YtkhakgbnfapifaaGreatDoor
open Go Go.Sx
structure RdX (w:World) (y:TelX):Prop where
 kept:reads w y.kv kK (y.kept.map encK)
 want:reads w y.wv kW_V (y.wants.map Zb)
 sess:reads w y.sv kSx (y.sx.map Zh)
 nest:(Z6 y.sx y.ox).holds w
 wat:reads w y.av kW_K (y.wat.map Z8)
theorem RdX.rel {w:World} {x:TelX} (h:RdX w x):Rel ⟨[],w⟩ (bkA x) bkH w :=
 Rel.start2 (qy2.2 ⟨⟨h.kept,rfl⟩,qy2.2 ⟨⟨h.want,rfl⟩,qy2.2 ⟨⟨h.sess,rfl⟩,qy2.2 ⟨⟨h.nest,rfl⟩,qy2.2 ⟨⟨h.wat,rfl⟩,qy5 _⟩⟩⟩⟩⟩)
structure RdB (n:Nat) (w:World) (y:TelX):Prop where
 kept:reads w y.kv kK (y.kept.map encK)
 want:reads w y.wv kW_V (y.wants.map Zb)
 sess:reads w y.sv kSx (y.sx.map Zh)
 wat:reads w y.av kW_K (y.wat.map Z8)
 out:reads w y.ov kSn (y.ox.map Z1q)
 nest:(Z6 y.sx y.ox).holds w
 nk:∀j,(y.kept.map encK).flatten≠[]->Z2 y.kv j->n<=j
 nw:∀j,(y.wants.map Zb).flatten≠[]->Z2 y.wv j->n<=j
 ns:∀j,(y.sx.map Zh).flatten≠[]->Z2 y.sv j->n<=j
 na:∀j,(y.wat.map Z8).flatten≠[]->Z2 y.av j->n<=j
 no:∀j,(y.ox.map Z1q).flatten≠[]->Z2 y.ov j->n<=j
 nn:∀j,(Z6 y.sx y.ox).fp j->n<=j
def Zhe (w w':World) (r:Ending) (e:Int) (t:Tel):Prop :=
 ∃y:TelX,r=.returned (.tuple #[bkV y,sc1 y.ov,.int .i64 e])/\y.tel=t/\RdB w.heap.size w' y/\Mod [] w w'
def telN:Tel:=⟨[],[],[],[],0,[]⟩
abbrev Zu4:TelX:=⟨[],[],[],[],0,[],.slice none 0 0,.slice none 0 0,.slice none 0 0,.slice none 0 0,.slice none 0 0⟩
theorem Zu5:∀j,¬(Z6 [] []).fp j:=fun j hj=>by rcases Zi.1 hj with ⟨t,ht,-⟩|⟨t,ht,-⟩<;>cases ht
theorem Z8u (w:World):(Z6 [] []).holds w:=fun t ht=>absurd ht (by simp[nest])
theorem Zu6 (n:Nat) (w:World):RdB n w Zu4 :=
 ⟨Z9 w _,Z9 w _,Z9 w _,Z9 w _,Z9 w _,Z8u w,fun j h=>absurd rfl h,fun j h=>absurd rfl h,fun j h=>absurd rfl h,fun j h=>absurd rfl h,fun j h=>absurd rfl h,fun j hj=>absurd hj (Zu5 j)⟩
abbrev owEs (n:Nat):List Ent:=[.rd n kK (.var (n+1)),.rd (n+2) kW_V (.var (n+3)),.row (n+4) 63 kSx (.var (n+5)),.row (n+6) 68 kW_K (.var (n+7)),.st (n+9)]
theorem Zhf {ρ:List V} {vs:List V} {n:Nat} (hn:ρ.length=n) (i:Nat):(ρ++vs).getD (n+i) (.i 0)=vs.getD i (.i 0):=by subst hn;rw[qy1,qy1,List.getElem?_append_right (by simp)];simp
theorem Z13j {ρ:List V} {y:TelX} {n:Nat} (hn:ρ.length=n):owH.map (Ent.sem (owA y))=(owEs n).map (Ent.sem (ρ++owA y)):=by have g:=Zhf (vs:=owA y) hn;have g0:(ρ++owA y).getD n (.i 0)=.v y.kv:=g 0;simp only[owH,owEs,List.map_cons,List.map_nil,Ent.sem,Ent.holds,Ent.fp,Ent.wr,X.ev,g0,g 1,g 2,g 3,g 4,g 5,g 6,g 7,g 9];rfl
theorem Zu7 {P:Program} {f:Nat} {args:Array Value} {w:World} {B:Base} {ρ:List V} {hp:List Ent} {x:TelX} (h0:Rel B ρ hp w) (n:Nat) (h:Calls P f args w fun e w1=>Zu2 w w1 e x) (hn:ρ.length=n) : Calls P f args w fun e w1=>∃y:TelX,y.ox=[]/\y.tel={ x.tel with out:=[] }/\((∀j,Z2 y.kv j->w.heap.size<=j)/\(∀j,Z2 y.wv j->w.heap.size<=j)/\(∀j,(Z6 y.sx y.ox).fp j->w.heap.size<=j))/\e=.returned (bkV y)/\Mod (Zv ρ [] []) w w1 /\
    (∀x∈owEs n,x.holds (ρ++owA y) w1/\∀k,x.fp (ρ++owA y) k->w.heap.size<=k\/(x.wr=false/\∃y∈hp,y.wr=false/\y.fp ρ k)\/k∈Z16 ρ [])/\Z2s (ρ++owA y) (owEs n):=by
 refine h.mono ?_;rintro e w1 ⟨y,he,h1,h2,hq,f1,f2,f3⟩;have hs:=Z13j (y:=y) hn;have hq':=hq.conv hs;refine⟨y,h1,h2,⟨f1,f2,f3⟩,he,hq'.mod,fun x hx=>⟨hq'.holds x hx,fun j hj=>.inl ?_⟩,hq'.sep⟩;cases hw:x.wr with
 | true =>
  rcases hq'.own x hx hw j hj with h5|h5
  ·exact h5
  ·cases h5
 | false =>
  have h3:Ent.sem (ρ++owA y) x∈owH.map (Ent.sem (owA y)):=by rw[hs];exact List.mem_map_of_mem hx
  obtain⟨e',he',hee⟩:=List.mem_map.1 h3;have hw':e'.wr=false:=(congrArg SEnt.wr hee).trans hw;have hj':e'.fp (owA y) j:=(congrFun (congrArg SEnt.fp hee) j).mpr hj;simp only[owH,List.mem_cons,List.not_mem_nil,or_false]at he';rcases he' with rfl|rfl|rfl|rfl|rfl
  ·exact f1 j hj'.2
  ·exact f2 j hj'.2
  ·cases hw'
  ·cases hw'
  ·exact f3 j hj'
def pktE (c:List UInt8) (p:Pkt) (t:Tel):Int:=if ¬chkB t=0 then chkB t else if ¬Z12 c=true then 1 else chkP p
def resB (e:Int) (t:Tel):Tel:=if e=0 then t else telN
theorem Zb5 {w w':World} {e:Int} {t:Tel} (he:¬e=0) (hm:Mod [] w w'):Zhe w w' (.returned (.tuple #[bkV Zu4,sc1 (.slice none 0 0),.int .i64 e])) e (resB e t) :=
 ⟨Zu4,rfl,by rw[resB,if_neg he];rfl,Zu6 _ _,hm⟩
theorem Zhg {n m:Nat} {x y:TelX} (h:Grew m (fun _=>False) x y) (hm:n<=m) (hx:(∀j,Z2 x.kv j->n<=j)/\(∀j,Z2 x.wv j->n<=j)/\(∀j,(Z6 x.sx x.ox).fp j->n<=j)) : (∀j,(y.kept.map encK).flatten≠[]->Z2 y.kv j->n<=j)/\(∀j,(y.wants.map Zb).flatten≠[]->Z2 y.wv j->n<=j)/\(∀j,(Z6 y.sx y.ox).fp j->n<=j):=by
 refine⟨fun j h1 h2=>?_,fun j h1 h2=>?_,fun j h1=>?_⟩
 ·rcases h.kept j ⟨h1,h2⟩ with h3|h3
  ·omega
  ·exact hx.1 j h3.2
 ·rcases h.want j ⟨h1,h2⟩ with h3|h3
  ·omega
  ·exact hx.2.1 j h3.2
 ·rcases h.nest j h1 with h3|h3|h3
  ·omega
  ·exact hx.2.2 j h3
  ·exact h3.elim
theorem Zn8 {n:Nat} {w:World} {y:TelX} {ρ:List V} {hp:List Ent} {w0:World} (hr:Rel ⟨[],w0⟩ ρ hp w) (hn:n=w0.heap.size) (h1:reads w y.kv kK (y.kept.map encK)) (h2:reads w y.wv kW_V (y.wants.map Zb)) (h3:owns w y.sv 63 kSx (y.sx.map Zh)) (h4:owns w y.av 68 kW_K (y.wat.map Z8)) (h5:owns w y.ov 57 kSn (y.ox.map Z1q)) (h6:(Z6 y.sx y.ox).holds w) (f:(∀j,(y.kept.map encK).flatten≠[]->Z2 y.kv j->n<=j)/\(∀j,(y.wants.map Zb).flatten≠[]->Z2 y.wv j->n<=j)/\(∀j,(Z6 y.sx y.ox).fp j->n<=j)) (g3:∀j,Z2 y.sv j->n<=j) (g4:∀j,Z2 y.av j->n<=j) (g5:∀j,Z2 y.ov j->n<=j):RdB n w y :=
 ⟨h1,h2,h3.reads,h4.reads,h5.reads,h6,f.1,f.2.1,fun j _ h=>g3 j h,fun j _ h=>g4 j h,fun j _ h=>g5 j h,f.2.2⟩
theorem Z2m {w0 w:World} {ρ:List V} {hp:List Ent} (hr:Rel ⟨[],w0⟩ ρ hp w) (i:Nat) {v ty:Nat} {ks:List Kd} {r:X} (h:hp[i]?=some (.row v ty ks r)):∀j,Z2 (ρ.getD v (.i 0)).toV j->w0.heap.size<=j:=fun j hj=>by
 rcases hr.own _ (qy6 h) rfl j hj with h|h
 ·exact h
 ·cases h
theorem Zu8 (w:World) (x:TelX) (c:List UInt8) (p:Pkt) (va vc:Value) (hr:Rel ⟨[],w⟩ (bkA x++Z5t c p va vc) (bkH++[.rd 23 [.str,.int .i64] (.var 24),.rd 25 [.int .i64] (.var 26)]) w) (ho:x.ox=[]) (hs:SmlB x) (hl5:∀t∈x.sx,t.1.fl.length<1000000000/\t.1.qu.length<1000000000) (hc:c.length<1099511627776) (hp:SmallP p) : Calls Tryz.prog 9 #[bkV x,.string ⟨c.toArray⟩,Zp1 p va vc] w fun e w'=>Zhe w w' e (pktE c p x.tel) (resB (pktE c p x.tel) (Z4h c p x.tel)):=by
 refine Z1 (Z3 (ρ:=bkA x++Z5t c p va vc) sxE_ok Tryz.func9 Za4 rfl rfl hr rfl rfl ?_) rfl;simp only[Tree.goal,X.P,X.ev,SV.ev,CV.ev,Sc.ev,qz,QA,QB,QC,QD,QE,QF,QG,QH,QI,QJ,QK,QL,QM,Nat.reduceAdd,qy3,qy4];intro b27 b28 b29 b30;refine⟨[.i (chkB x.tel)],rfl,fun _ w' hr=>Z7p w' x (RdX.rel ⟨hr.at_ 5 rfl,hr.at_ 6 rfl,hr.at_ 7 rfl,hr.at_ 8 rfl,hr.at_ 9 rfl⟩) ho hs,?_⟩;simp only[Tree.goal,X.P,X.ev,SV.ev,CV.ev,Sc.ev,qz,QA,QB,QC,QD,QE,QF,QG,QH,QI,QJ,QK,QL,QM,Nat.reduceAdd,qy3,qy4];refine⟨[.b (Z12 c)],rfl,fun _ w' hr=>Zgr w' c hc,?_⟩;simp only[Tree.goal,X.P,X.ev,SV.ev,CV.ev,Sc.ev,qz,QA,QB,QC,QD,QE,QF,QG,QH,QI,QJ,QK,QL,QM,Nat.reduceAdd,qy3,qy4];refine⟨fun h1=>⟨fun h2 w3 hr3=>?_,fun h2=>absurd h2 (by decide)⟩,fun h1=>⟨fun h2=>?_,fun h2 w3 hr3=>?_⟩⟩
 ·have e:pktE c p x.tel=1:=by rw[pktE,if_neg (qy9.2 h1.1),if_pos h1.2]
  rw[e];exact Zb5 (by decide) hr3.mod
 ·have hcl:Z12 c=true:=Classical.byContradiction fun h3=>h1 ⟨h2,h3⟩;have e:pktE c p x.tel=chkP p:=by rw[pktE,if_neg (qy9.2 h2),if_neg (qy9.2 hcl)]
  rw[e];refine⟨[.i (chkP p)],rfl,fun _ w' hr=>Zx2 w' p va vc (hr.at_ 10 rfl) (hr.at_ 11 rfl) hp,?_⟩;simp only[Tree.goal,X.P,X.ev,SV.ev,CV.ev,Sc.ev,qz,QA,QB,QC,QD,QE,QF,QG,QH,QI,QJ,QK,QL,QM,Nat.reduceAdd,qy3,qy4];refine⟨fun h3 w3 hr3=>Zb5 h3 hr3.mod,fun h3=>?_⟩;have h3:=qy9.1 h3;have hB:=Z3w.1 h2;intro b35 b36 w1 hr1;refine(Zu7 hr1 38 (Z11e w1 x (RdX.rel ⟨hr1.at_ 8 rfl,hr1.at_ 9 rfl,hr1.at_ 10 rfl,hr1.at_ 11 rfl,hr1.at_ 12 rfl⟩) hs.keptL hs.wantsL hs.watL hs.sessL hl5) rfl).mono ?_;rintro e w2 ⟨⟨yk,yw,ys,ya,yn,yo,v1,v2,v3,v4,v5⟩,y1,y2,yf,rfl,m1,m3,m4⟩;simp only at y1;subst y1;refine⟨owA ⟨yk,yw,ys,ya,yn,[],v1,v2,v3,v4,v5⟩,rfl,rfl,m1,qy5 _,m3,m4,?_⟩;have hz1:=hr1.mod.size;clear m1 m3 m4;have hyt:TelX.tel ⟨yk,yw,ys,ya,yn,[],v1,v2,v3,v4,.slice none 0 0⟩=x.tel:=by rw[show TelX.tel ⟨yk,yw,ys,ya,yn,[],v1,v2,v3,v4,.slice none 0 0⟩=TelX.tel ⟨yk,yw,ys,ya,yn,[],v1,v2,v3,v4,v5⟩ from rfl,y2];simp only[TelX.tel,ho,List.map_nil]
  intro b48 w3 hr3;refine(Z2r (k:=b48) (x:=⟨yk,yw,ys,ya,yn,[],v1,v2,v3,v4,.slice none 0 0⟩) (F:=fun _=>False) (pre:=[]) hr3 49 48 [42,44]
   (Zxo w3 b48 ⟨yk,yw,ys,ya,yn,[],v1,v2,v3,v4,.slice none 0 0⟩ c p va vc (((hr3.pick [1,2,3,4,6,5,0,19,20] (by decide)).conv rfl).base.conv rfl) (by rw[hyt];exact hB) (by show (0:Nat)<40000;decide) hcl h3)
   rfl rfl (by show 48<49;decide) rfl (fun j hj=>?_)).mono ?_
  ·rcases hj with hj|hj|hj|hj
   ·exact⟨_,qy6 (i:=1) rfl,rfl,hj⟩
   ·exact⟨_,qy6 (i:=2) rfl,rfl,hj⟩
   ·exact⟨_,qy6 (i:=5) rfl,rfl,hj⟩
   ·exact hj.elim
  rintro e w4 ⟨z,z1,z2,zg,rfl,m1,m2,m3,m4⟩;refine⟨tlV z,rfl,rfl,m1,m2,m3,m4,?_⟩;have hz3:=hr3.mod.size;clear m1 m2 m3 m4;intro b61 w5 hr5;have hnew:=Zhg zg hz3 ⟨fun j h=>Nat.le_trans hz1 (yf.1 j h),fun j h=>Nat.le_trans hz1 (yf.2.1 j h),fun j h=>Nat.le_trans hz1 (yf.2.2 j h)⟩;refine⟨z,by rw[h3];rfl,?_,Zn8 hr5 rfl (hr5.at_ 1 rfl) (hr5.at_ 2 rfl) (hr5.at_ 3 rfl) (hr5.at_ 4 rfl) (hr5.at_ 5 rfl) (hr5.at_ 6 rfl) hnew (Z2m hr5 3 rfl) (Z2m hr5 4 rfl) (Z2m hr5 5 rfl),hr5.mod⟩;rw[resB,if_pos h3,z1,hyt]
 ·have e:pktE c p x.tel=chkB x.tel:=by rw[pktE,if_pos h2]
  rw[e];exact Zb5 h2 hr3.mod
def Zky (w w':World) (r:Ending) (e:Int) (t:Tel):Prop :=
 ∃y:TelX,r=.returned (.tuple #[bkV y,.int .i64 e])/\y.ox=[]/\y.tel=t/\RdB w.heap.size w' y/\Mod [] w w'
def gonE (c:List UInt8) (t:Tel):Int:=if ¬chkB t=0 then chkB t else if ¬Z12 c=true then 1 else 0
theorem Zu9 {w w':World} {e:Int} {t:Tel} (he:¬e=0) (hm:Mod [] w w'):Zky w w' (.returned (.tuple #[bkV Zu4,.int .i64 e])) e (resB e t) :=
 ⟨Zu4,rfl,rfl,by rw[resB,if_neg he];rfl,Zu6 _ _,hm⟩
theorem Z13k {z:TelX} {t:Tel} (h:z.tel=t) (ho:t.out=[]):z.ox=[]:=by rw[<- h]at ho;simpa [TelX.tel]using ho
theorem Z11g (w:World) (x:TelX) (c:List UInt8) (hr:Rel ⟨[],w⟩ (bkA x++[.s c]) bkH w) (ho:x.ox=[]) (hs:SmlB x) (hl5:∀t∈x.sx,t.1.fl.length<1000000000/\t.1.qu.length<1000000000) (hc:c.length<1099511627776) : Calls Tryz.prog 10 #[bkV x,.string ⟨c.toArray⟩] w fun e w'=>Zky w w' e (gonE c x.tel) (resB (gonE c x.tel) (Zbz c x.tel)):=by
 refine Z1 (Z3 (ρ:=bkA x++[.s c]) sxE_ok Tryz.func10 Zc1 rfl rfl hr rfl rfl ?_) rfl;simp only[Tree.goal,X.P,X.ev,SV.ev,CV.ev,Sc.ev,qz,QA,QB,QC,QD,QE,QF,QG,QH,QI,QJ,QK,QL,QM,Nat.reduceAdd,qy3,qy4];intro b11 b12 b13;refine⟨[.i (chkB x.tel)],rfl,fun _ w' hr=>Z7p w' x (RdX.rel ⟨hr.at_ 3 rfl,hr.at_ 4 rfl,hr.at_ 5 rfl,hr.at_ 6 rfl,hr.at_ 7 rfl⟩) ho hs,?_⟩;simp only[Tree.goal,X.P,X.ev,SV.ev,CV.ev,Sc.ev,qz,QA,QB,QC,QD,QE,QF,QG,QH,QI,QJ,QK,QL,QM,Nat.reduceAdd,qy3,qy4];refine⟨[.b (Z12 c)],rfl,fun _ w' hr=>Zgr w' c hc,?_⟩;simp only[Tree.goal,X.P,X.ev,SV.ev,CV.ev,Sc.ev,qz,QA,QB,QC,QD,QE,QF,QG,QH,QI,QJ,QK,QL,QM,Nat.reduceAdd,qy3,qy4];refine⟨fun h1=>⟨fun h2 w3 hr3=>?_,fun h2=>absurd h2 (by decide)⟩,fun h1=>⟨fun h2 w3 hr3=>?_,fun h2=>?_⟩⟩
 ·have e:gonE c x.tel=1:=by rw[gonE,if_neg (qy9.2 h1.1),if_pos h1.2]
  rw[e];exact Zu9 (by decide) hr3.mod
 ·have e:gonE c x.tel=chkB x.tel:=by rw[gonE,if_pos h2]
  rw[e];exact Zu9 h2 hr3.mod
 ·have h2:=qy9.1 h2;have hcl:Z12 c=true:=Classical.byContradiction fun h3=>h1 ⟨h2,h3⟩;have e:gonE c x.tel=0:=by rw[gonE,if_neg (qy9.2 h2),if_neg (qy9.2 hcl)]
  rw[e];have hB:=Z3w.1 h2;intro b16 b17 w1 hr1;refine(Zu7 hr1 19 (Z11e w1 x (RdX.rel ⟨hr1.at_ 6 rfl,hr1.at_ 7 rfl,hr1.at_ 8 rfl,hr1.at_ 9 rfl,hr1.at_ 10 rfl⟩) hs.keptL hs.wantsL hs.watL hs.sessL hl5) rfl).mono ?_;rintro e w2 ⟨⟨yk,yw,ys,ya,yn,yo,v1,v2,v3,v4,v5⟩,y1,y2,yf,rfl,m1,m3,m4⟩;simp only at y1;subst y1;refine⟨owA ⟨yk,yw,ys,ya,yn,[],v1,v2,v3,v4,v5⟩,rfl,rfl,m1,qy5 _,m3,m4,?_⟩;have hz1:=hr1.mod.size;clear m1 m3 m4;have hyt:TelX.tel ⟨yk,yw,ys,ya,yn,[],v1,v2,v3,v4,.slice none 0 0⟩=x.tel:=by rw[show TelX.tel ⟨yk,yw,ys,ya,yn,[],v1,v2,v3,v4,.slice none 0 0⟩=TelX.tel ⟨yk,yw,ys,ya,yn,[],v1,v2,v3,v4,v5⟩ from rfl,y2];simp only[TelX.tel,ho,List.map_nil]
  intro b29 w3 hr3;refine(Z2r (k:=b29) (x:=⟨yk,yw,ys,ya,yn,[],v1,v2,v3,v4,.slice none 0 0⟩) (F:=fun _=>False) (pre:=[]) hr3 30 29 [23,25]
   (Zyh w3 b29 ⟨yk,yw,ys,ya,yn,[],v1,v2,v3,v4,.slice none 0 0⟩ c (((hr3.pick [1,2,3,4,6,5,0] (by decide)).conv rfl).base.conv rfl) (by rw[hyt];exact hB) (by show (0:Nat)<100000;decide))
   rfl rfl (by show 29<30;decide) rfl (fun j hj=>?_)).mono ?_
  ·rcases hj with hj|hj|hj|hj
   ·exact⟨_,qy6 (i:=1) rfl,rfl,hj⟩
   ·exact⟨_,qy6 (i:=2) rfl,rfl,hj⟩
   ·exact⟨_,qy6 (i:=5) rfl,rfl,hj⟩
   ·exact hj.elim
  rintro e w4 ⟨z,z1,z2,zg,rfl,m1,m2,m3,m4⟩;refine⟨tlV z,rfl,rfl,m1,m2,m3,m4,?_⟩;have hz3:=hr3.mod.size;clear m1 m2 m3 m4;intro b42 w5 hr5;have hnew:=Zhg zg hz3 ⟨fun j h=>Nat.le_trans hz1 (yf.1 j h),fun j h=>Nat.le_trans hz1 (yf.2.1 j h),fun j h=>Nat.le_trans hz1 (yf.2.2 j h)⟩;rw[hyt]at z1;refine⟨z,rfl,Z13k z1 ((Zxb hB c).2.trans (by simp[TelX.tel,ho])),by rw[resB,if_pos rfl,z1],Zn8 hr5 rfl (hr5.at_ 1 rfl) (hr5.at_ 2 rfl) (hr5.at_ 3 rfl) (hr5.at_ 4 rfl) (hr5.at_ 5 rfl) (hr5.at_ 6 rfl) hnew (Z2m hr5 3 rfl) (Z2m hr5 4 rfl) (Z2m hr5 5 rfl),hr5.mod⟩
def msgE (n:Int) (m:Msg) (t:Tel):Int:=if ¬chkB t=0 then chkB t else if ¬(0<=n/\n<=9) then 3 else chk m
theorem Z5u (w:World) (x:TelX) (n:Int) (m:Msg) (mv:Value) (hr:Rel ⟨[],w⟩ (bkA x++([.i n]++mgV m mv)) (bkH++[.rd 15 [.int .i64,.str] (.var 16)]) w) (ho:x.ox=[]) (hs:SmlB x) (hl5:∀t∈x.sx,t.1.fl.length<1000000000/\t.1.qu.length<1000000000) (hm1:m.opts.length<1099511627776) (hm2:m.tok.length<1099511627776) (hm3:m.pay.length<1099511627776) : Calls Tryz.prog 19 #[bkV x,.int .i64 n,mV m (sc1 mv)] w fun e w'=>Zhe w w' e (msgE n m x.tel) (resB (msgE n m x.tel) (Zl n m x.tel)):=by
 refine Z1 (Z3 (ρ:=bkA x++([.i n]++mgV m mv)) sxE_ok Tryz.func19 Z8p rfl rfl hr rfl rfl ?_) rfl;simp only[Tree.goal,X.P,X.ev,SV.ev,CV.ev,Sc.ev,qz,QA,QB,QC,QD,QE,QF,QG,QH,QI,QJ,QK,QL,QM,Nat.reduceAdd,qy3,qy4];intro b18 b19 b20 b21;refine⟨[.i (chkB x.tel)],rfl,fun _ w' hr=>Z7p w' x (RdX.rel ⟨hr.at_ 5 rfl,hr.at_ 6 rfl,hr.at_ 7 rfl,hr.at_ 8 rfl,hr.at_ 9 rfl⟩) ho hs,?_⟩;simp only[Tree.goal,X.P,X.ev,SV.ev,CV.ev,Sc.ev,qz,QA,QB,QC,QD,QE,QF,QG,QH,QI,QJ,QK,QL,QM,Nat.reduceAdd,qy3,qy4];refine⟨fun h1=>⟨fun h2=>⟨fun h3 w3 hr3=>?_,fun h3=>absurd h3 (by decide)⟩,fun h2=>?_⟩,fun h1 w3 hr3=>?_⟩
 ·have e:msgE n m x.tel=3:=by rw[msgE,if_neg (qy9.2 h1),if_pos h2]
  rw[e];exact Zb5 (by decide) hr3.mod
 ·have hn:=qy9.1 h2;have e:msgE n m x.tel=chk m:=by rw[msgE,if_neg (qy9.2 h1),if_neg h2]
  rw[e];refine⟨[.i (chk m)],rfl,fun _ w' hr=>Zsf w' m mv (hr.at_ 10 rfl) hm1 hm2 hm3,?_⟩;simp only[Tree.goal,X.P,X.ev,SV.ev,CV.ev,Sc.ev,qz,QA,QB,QC,QD,QE,QF,QG,QH,QI,QJ,QK,QL,QM,Nat.reduceAdd,qy3,qy4];refine⟨fun h3 w3 hr3=>Zb5 h3 hr3.mod,fun h3=>?_⟩;have h3:=qy9.1 h3;have hB:=Z3w.1 h1;intro b25 b26 w1 hr1;refine(Zu7 hr1 28 (Z11e w1 x (RdX.rel ⟨hr1.at_ 8 rfl,hr1.at_ 9 rfl,hr1.at_ 10 rfl,hr1.at_ 11 rfl,hr1.at_ 12 rfl⟩) hs.keptL hs.wantsL hs.watL hs.sessL hl5) rfl).mono ?_;rintro e w2 ⟨⟨yk,yw,ys,ya,yn,yo,v1,v2,v3,v4,v5⟩,y1,y2,yf,rfl,m1,m3,m4⟩;simp only at y1;subst y1;refine⟨owA ⟨yk,yw,ys,ya,yn,[],v1,v2,v3,v4,v5⟩,rfl,rfl,m1,qy5 _,m3,m4,?_⟩;have hz1:=hr1.mod.size;clear m1 m3 m4;have hyt:TelX.tel ⟨yk,yw,ys,ya,yn,[],v1,v2,v3,v4,.slice none 0 0⟩=x.tel:=by rw[show TelX.tel ⟨yk,yw,ys,ya,yn,[],v1,v2,v3,v4,.slice none 0 0⟩=TelX.tel ⟨yk,yw,ys,ya,yn,[],v1,v2,v3,v4,v5⟩ from rfl,y2];simp only[TelX.tel,ho,List.map_nil]
  have hxo:x.tel.out=[]:=by simp[TelX.tel,ho]
  have new0:(∀j,Z2 v1 j->w.heap.size<=j)/\(∀j,Z2 v2 j->w.heap.size<=j)/\(∀j,(Z6 ys []).fp j->w.heap.size<=j):=⟨fun j h=>Nat.le_trans hz1 (yf.1 j h),fun j h=>Nat.le_trans hz1 (yf.2.1 j h),fun j h=>Nat.le_trans hz1 (yf.2.2 j h)⟩
  intro b38;simp only[Tree.goal,X.P,X.ev,SV.ev,CV.ev,Sc.ev,qz,QA,QB,QC,QD,QE,QF,QG,QH,QI,QJ,QK,QL,QM,Nat.reduceAdd,qy3,qy4];refine⟨fun h4=>?_,fun h4=>⟨fun h5=>?_,fun h5 b39 w5 hr5=>?_⟩⟩
  ·intro b39 v40;refine⟨by first|omega|(simp;omega),fun v42 b43 w5 hr5=>?_⟩;have hnil:∀s∈[toP n ⟨3,0,m.id,[],[],[]⟩],nilS s:=fun s hs=>by rw[qy12.1 hs];exact⟨rfl,rfl,rfl⟩
   obtain⟨q1,q2⟩:=Zha (l:=ys) (o:=[]) hnil;refine⟨⟨yk,yw,ys,ya,yn,[nilX (toP n ⟨3,0,m.id,[],[],[]⟩)],v1,v2,v3,v4,v42⟩,by rw[h3];rfl,?_,Zn8 hr5 rfl (hr5.at_ 5 rfl) (hr5.at_ 6 rfl) (hr5.at_ 7 rfl) (hr5.at_ 8 rfl) (hr5.at_ 1 rfl) (q1 _ (hr5.at_ 9 rfl)) ⟨fun j _ h=>new0.1 j h,fun j _ h=>new0.2.1 j h,fun j h=>new0.2.2 j (q2 j h)⟩ (Z2m hr5 7 rfl) (Z2m hr5 8 rfl) (Z2m hr5 1 rfl),hr5.mod⟩;rw[resB,if_pos h3,Zl,if_pos h4,hxo,<- hyt];rfl
  ·intro w3 hr3;refine(Z2r (k:=b38) (x:=⟨yk,yw,ys,ya,yn,[],v1,v2,v3,v4,.slice none 0 0⟩) (F:=fun _=>False) (pre:=[]) hr3 39 38 [32,34]
    (Zu0 w3 b38 ⟨yk,yw,ys,ya,yn,[],v1,v2,v3,v4,.slice none 0 0⟩ n m mv (((hr3.pick [1,2,3,4,6,5,0,19] (by decide)).conv rfl).base.conv rfl) (by rw[hyt];exact hB) (by show (0:Nat)<40000;decide) hn h3)
    rfl rfl (by show 38<39;decide) rfl (fun j hj=>?_)).mono ?_
   ·rcases hj with hj|hj|hj|hj
    ·exact⟨_,qy6 (i:=1) rfl,rfl,hj⟩
    ·exact⟨_,qy6 (i:=2) rfl,rfl,hj⟩
    ·exact⟨_,qy6 (i:=5) rfl,rfl,hj⟩
    ·exact hj.elim
   rintro e w4 ⟨z,z1,z2,zg,rfl,m1,m2,m3,m4⟩;refine⟨tlV z,rfl,rfl,m1,m2,m3,m4,?_⟩;have hz3:=hr3.mod.size;clear m1 m2 m3 m4;intro b51 w5 hr5;have hnew:=Zhg zg hz3 new0;refine⟨z,by rw[h3];rfl,?_,Zn8 hr5 rfl (hr5.at_ 1 rfl) (hr5.at_ 2 rfl) (hr5.at_ 3 rfl) (hr5.at_ 4 rfl) (hr5.at_ 5 rfl) (hr5.at_ 6 rfl) hnew (Z2m hr5 3 rfl) (Z2m hr5 4 rfl) (Z2m hr5 5 rfl),hr5.mod⟩;rw[resB,if_pos h3,z1,hyt,Zl,if_neg h4,if_pos h5]
  ·refine⟨⟨yk,yw,ys,ya,yn,[],v1,v2,v3,v4,.slice none 0 0⟩,by rw[h3];rfl,?_,⟨hr5.at_ 2 rfl,hr5.at_ 3 rfl,(hr5.at_ 4 rfl:owns _ _ _ _ _).reads,(hr5.at_ 5 rfl:owns _ _ _ _ _).reads,Z9 _ _,hr5.at_ 6 rfl,fun j _ h=>new0.1 j h,fun j _ h=>new0.2.1 j h,fun j _ h=>Z2m hr5 4 rfl j h,fun j _ h=>Z2m hr5 5 rfl j h,fun j h=>absurd rfl h,new0.2.2⟩,hr5.mod⟩;rw[resB,if_pos h3,Zl,if_neg h4,if_neg h5,hyt]
 ·have e:msgE n m x.tel=chkB x.tel:=by rw[msgE,if_pos h1]
  rw[e];exact Zb5 h1 hr3.mod
end Go.Proofs.YtkhakgbnfapifaaGreatDoor
namespace Go.Proofs.YtkhakgbnfapifaaGreatDoor
open Go.Sx
end Go.Proofs.YtkhakgbnfapifaaGreatDoor
namespace Go.Proofs.YtkhakgbnfapifaaGreatDoor
open Go.Sx
section
variable (w:World) (p:Pkt) (u v:Value)
end
section
variable (w:World) (p q:Pkt) (u v x y:Value)
end
end Go.Proofs.YtkhakgbnfapifaaGreatDoor
