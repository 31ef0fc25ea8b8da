/- By an AI agent. -/
import Derived.Test.YtldmdbipjhkaeaaGreatDoorU12
import Derived.Test.YtldmdbipjhkaeaaGreatDoorU14
import Derived.Test.YtldmdbipjhkaeaaGreatDoorU10
import Derived.Test.YtldmdbipjhkaeaaGreatDoorU09
import Derived.Test.YtldmdbipjhkaeaaGreatDoorU08
import Derived.Test.YtldmdbipjhkaeaaGreatDoorU11
set_option linter.all false
set_option maxHeartbeats 20000000
namespace Go.Proofs.Y
open Go Go.Sx
theorem Zdj{l:List SesX}(h:Z67 (l.map (·.1))){i j:Nat}(hij:i<j)(hj:j<l.length):Ze (l.getD i sxD).1.cl (l.getD j sxD).1.cl=true:=by rw[Z67,List.pairwise_map,List.pairwise_iff_getElem]at h;have:=h i j (by omega) hj hij;simpa[qy1,qy7 hj,qy7 (Nat.lt_trans hij hj)]using this
theorem Zkr{l:List SesX}{n:List UInt8}{i:Nat}(hi:i<=l.length)(h1:∀j,j<i->Ze (l.getD j sxD).1.cl n=true)(h2:∀j,i<=j->j<l.length->Ze (l.getD j sxD).1.cl n=false):i=idxS (l.map (·.1)) n:=by
 have e:l=l.take i++l.drop i:=(List.take_append_drop i l).symm;have f1:(l.take i).filter (λk=>Ze k.1.cl n)=l.take i:=by
  rw[List.filter_eq_self];intro x hx;obtain⟨j,hj,rfl⟩:=List.mem_iff_getElem.1 hx;have hj':j<i:=by simp at hj;omega
  have:=h1 j hj';rw[List.getElem_take];simpa[qy1,qy7 (show j<l.length by omega)]using this
 have f2:(l.drop i).filter (λk=>Ze k.1.cl n)=[]:=by
  rw[List.filter_eq_nil_iff];intro x hx;obtain⟨j,hj,rfl⟩:=List.mem_iff_getElem.1 hx;have hj':i+j<l.length:=by simp at hj;omega
  have:=h2 (i+j) (by omega) hj';rw[List.getElem_drop];simpa[qy1,qy7 hj']using this
 rw[idxS,List.filter_map,qy3]
 show i=(l.filter λk=>Ze k.1.cl n).length
 rw[e,List.filter_append,f1,f2];simp;omega
theorem Zf1(w:World)(v:Value)(l:List SesX)(n:List UInt8)(hv:reads w v kSx (l.map Zf))(hs:Z67 (l.map (·.1)))(hl:l.length<1000000000):Calls Tryz.prog 64 #[sc1 v,.string ⟨n.toArray⟩] w λe w'=>e=.returned (.tuple #[.int .i64 (idxS (l.map (·.1)) n),.bool (hasS (l.map (·.1)) n)])/\Mod [] w w':=by
 refine Z1 (Z3 (J:=[.v v,.r (l.map Zf),.s n]) sxE_ok Tryz.func64 Zcx rfl rfl (Rel.start2 (by simp[Ent.holds,Ent.wr,hv,X.ev])) rfl rfl ?_) rfl;simp only[Tree.goal,X.P,X.ev,SV.ev,CV.ev,Sc.ev,qz,QA,QB,QC,QD,QE,QF,QG,QH,QI,QJ,QK,QL,QM,Nat.reduceAdd,qy3,qy4,gSx0];refine⟨λvs=>∃(i j:Nat),vs=[.i i,.i j]/\i<=j/\j<=l.length/\(∀k,k<i->Ze (l.getD k sxD).1.cl n=true)/\(∀k,j<=k->k<l.length->Ze (l.getD k sxD).1.cl n=false),λvs=>(vs.getD 1 (.i 0)).toI.toNat - (vs.getD 0 (.i 0)).toI.toNat,⟨0,l.length,rfl,by omega,by omega,λk hk=>by omega,λk h1 h2=>by omega⟩,?_⟩;rintro _ - ⟨i,j,rfl,hij,hj,hA,hB⟩;simp only[Tree.goal,X.P,X.ev,SV.ev,CV.ev,Sc.ev,qz,QA,QB,QC,QD,QE,QF,QG,QH,QI,QJ,QK,QL,QM,Nat.reduceAdd,qy3,qy4,gSx0];refine⟨λh1=>?_,λh1=>?_⟩
 ·rw[half i j (by omega)];obtain⟨h,hh⟩:∃h,h=(i+j) / 2:=⟨_,rfl⟩
  rw[<- hh];have hh1:i<=h/\h<j:=by omega
  simp only[qy4,gSx0];refine⟨by omega,by omega,by omega,by omega,by omega,by omega,λb=>?_⟩;refine⟨[.i (Z34 (l.getD h sxD).1.cl n)],rfl,λ_ w' _=>Z6v w' _ _,?_⟩;simp only[Tree.goal,X.P,X.ev,SV.ev,CV.ev,Sc.ev,qz,QA,QB,QC,QD,QE,QF,QG,QH,QI,QJ,QK,QL,QM,Nat.reduceAdd,qy3,qy4,gSx0];rw[Zaj];refine⟨λh2=>⟨by omega,by omega,⟨h+1,j,rfl,by omega,hj,λk hk=>?_,hB⟩,by omega⟩,λh2=>⟨⟨i,h,rfl,by omega,by omega,hA,λk hk1 hk2=>?_⟩,by omega⟩⟩
  ·by_cases hkh:k=h
   ·rw[hkh];exact h2
   ·exact Z1c (Zdj hs (i:=k) (j:=h) (by omega) (by omega)) h2
  ·have h3:Ze (l.getD h sxD).1.cl n=false:=by simpa using h2
   by_cases hkh:k=h
   ·rw[hkh];exact h3
   ·cases h4:Ze (l.getD k sxD).1.cl n with
    | false=>rfl
    | true =>
     have:=Z1c (Zdj hs (i:=h) (j:=k) (by omega) hk2) h4;rw[h3]at this;cases this
 ·have hie:i=j:=by omega
  subst hie;have e:=Zkr (i:=i) hj hA hB;refine⟨λh2=>⟨by omega,λb=>?_⟩,λh2 w' hr=>⟨?_,hr.mod⟩⟩
  ·refine⟨[.i (Z34 (l.getD i sxD).1.cl n)],rfl,λ_ w' _=>Z6v w' _ _,?_⟩;simp only[Tree.goal,X.P,X.ev,SV.ev,CV.ev,Sc.ev,qz,QA,QB,QC,QD,QE,QF,QG,QH,QI,QJ,QK,QL,QM,Nat.reduceAdd,qy3,qy4,gSx0];intro w' hr;refine⟨?_,hr.mod⟩;rw[hasS,<- e,Zkq,qy3];simp only[Z38];congr 4
   simp;intro _;omega
  ·rw[hasS,<- e];have:¬i<l.length:=by omega
   simp[this]
end Go.Proofs.Y
namespace Go.Sx
theorem Rel.gather{B:Base}{J:List V}{hp:List Ent}{w:World}(h:Rel B J hp w)(hb:hp.all (Ent.bd J.length)=true)(A:Asrt)(hA:A.holds w)(hf:∀k,A.fp k->∃e∈hp,e.wr=false/\e.fp J k):Rel B (J++[.a A]) (.st J.length::hp) w:=by
 have hg:(J++[V.a A]).getD J.length (.i 0)=.a A:=by simp[qy1]
 have ha:Zs J.length J (J++[V.a A]):=λi hi=>by simp[qy1,List.getElem?_append_left hi]
 have h':=h.ext ha hb;refine h'.cons ?_ (λhw=>Bool.noConfusion hw) ?_
 ·simp only[Ent.holds,hg];exact hA
 ·intro e' he' hw k hk hk';simp only[Ent.fp,hg]at hk;obtain⟨e,he,hew,hef⟩:=hf k hk;have hw':e'.wr=true:=hw.resolve_left (λh=>Bool.noConfusion h);have hk2:e'.fp J k:=(Ent.fp_bd ha e' (List.all_eq_true.1 hb e' he') k).2 hk';exact h.disj he he' (λe=>by subst e;rw[hew]at hw';cases hw') (.inr hw') hef hk2
end Go.Sx
namespace Go.Proofs.Y
open Go Go.Sx
structure TelX where
 kept:List Kp
 wants:List Wt
 sx:List SesX
 wat:List Wat
 next:Int
 ox:List SntX
 kv:Value
 wv:Value
 sv:Value
 av:Value
 ov:Value
def TelX.tel(x:TelX):Tel:=⟨x.kept,x.wants,x.sx.map (·.1),x.wat,x.next,x.ox.map (·.1)⟩
abbrev tlA(k:Nat)(x:TelX):List V:=[.n k,.v x.kv,.r (x.kept.map encK),.v x.wv,.r (x.wants.map Za),.v x.sv,.r (x.sx.map Zf),.v x.av,.r (x.wat.map Z7),.i x.next,.v x.ov,.r (x.ox.map Z12),.a (Z6 x.sx x.ox)]
abbrev tlV(x:TelX):List V:=[.v x.kv,.r (x.kept.map encK),.v x.wv,.r (x.wants.map Za),.v x.sv,.r (x.sx.map Zf),.v x.av,.r (x.wat.map Z7),.i x.next,.v x.ov,.r (x.ox.map Z12),.a (Z6 x.sx x.ox)]
abbrev tlH:List Ent:=[.rd 1 kK (.var 2),.rd 3 kW_V (.var 4),.row 5 64 kSx (.var 6),.row 7 74 kW_K (.var 8),.row 10 97 kSn (.var 11),.st 12,.cells 0 125 [.val (.var 1),.val (.var 3),.val (.var 5),.val (.var 7),.int .i64 (.var 9),.val (.var 10)]]
def Zfw(x:TelX)(j:Nat):Prop:=(x.kept.map encK).flatten≠[]/\Z2 x.kv j
def Zbs(x:TelX)(j:Nat):Prop:=(x.wants.map Za).flatten≠[]/\Z2 x.wv j
structure Grew(n:Nat)(F:Nat->Prop)(x y:TelX):Prop where
 kept:∀j,Zfw y j->n<=j\/Zfw x j
 want:∀j,Zbs y j->n<=j\/Zbs x j
 nest:∀j,(Z6 y.sx y.ox).fp j->n<=j\/(Z6 x.sx x.ox).fp j\/F j
theorem Grew.refl(n:Nat)(F:Nat->Prop)(x:TelX):Grew n F x x:=⟨λ_ h=>.inr h,λ_ h=>.inr h,λ_ h=>.inr (.inl h)⟩
theorem Grew.trans{n m:Nat}{F G:Nat->Prop}{x y z:TelX}(h:Grew n F x y)(h':Grew m G y z)(hm:n<=m)(hG:∀j,G j->n<=j\/F j):Grew n F x z:=by
 refine⟨λj hj=>?_,λj hj=>?_,λj hj=>?_⟩
 ·rcases h'.kept j hj with h1|h1
  ·exact .inl (Nat.le_trans hm h1)
  ·exact h.kept j h1
 ·rcases h'.want j hj with h1|h1
  ·exact .inl (Nat.le_trans hm h1)
  ·exact h.want j h1
 ·rcases h'.nest j hj with h1|h1|h1
  ·exact .inl (Nat.le_trans hm h1)
  ·exact h.nest j h1
  ·rcases hG j h1 with h2|h2
   ·exact .inl h2
   ·exact .inr (.inr h2)
def Z7z(w w':World)(k:Nat)(x:TelX)(F:Nat->Prop)(t:Tel):Prop:=∃y:TelX,y.tel=t/\Rel ⟨Zi (tlA k x) tlH,w⟩ (tlA k y) tlH w'/\Grew w.heap.size F x y
theorem Zio{B B':Base}{J:List V}{hp:List Ent}{w:World}(h:Rel B J hp w)(h0:B'.w0=B.w0)(hf:∀j,j∈B.fp->j∈B'.fp):Rel B' J hp w:=by
 refine⟨?_,h.holds,λe he hw k hk=>?_,h.sep⟩
 ·rw[h0];exact h.mod.mono λj hj=>.inl (hf j hj)
 ·rw[h0];rcases h.own e he hw k hk with h1|h1
  ·exact .inl h1
  ·exact .inr (hf k h1)
theorem Zqp{k:Nat}{x:TelX}{j:Nat}(h:j∈Zi (tlA k x) tlH):j∈k::(x.sv.ownBlock.toList++(x.av.ownBlock.toList++(x.ov.ownBlock.toList++[]))):=by
 simp only[Zi,tlH,tlA,List.flatMap_cons,List.flatMap_nil,Ent.fpl,List.getD_cons_zero,List.getD_cons_succ,V.toV_v,V.toN_n,List.append_nil,List.nil_append,qy13,qy12,List.mem_cons]at h⊢;rcases h with h|h|h|h
 ·exact .inr (.inl h)
 ·exact .inr (.inr (.inl h))
 ·exact .inr (.inr (.inr h))
 ·exact .inl (by simpa using h)
theorem Zks{B:Base}{J:List V}{hp:List Ent}{w:World}(h:Rel B J hp w)(hb:hp.all (Ent.bd J.length)=true)(k:Nat)(y:TelX)(hA:(Z6 y.sx y.ox).holds w)(hf:∀j,(Z6 y.sx y.ox).fp j->∃e∈hp,e.wr=false/\e.fp J j)(is:List Nat)(hn:is.Nodup) (hs:(is.filterMap λi=>(Ent.st J.length::hp)[i]?).map (Ent.sem (J++[.a (Z6 y.sx y.ox)]))=tlH.map (Ent.sem (tlA k y))):Rel B (tlA k y) tlH w :=
 ((h.gather hb _ hA hf).pick is hn).conv hs
abbrev tlEs(n:Nat):List Ent:=[.rd n kK (.var (n+1)),.rd (n+2) kW_V (.var (n+3)),.row (n+4) 64 kSx (.var (n+5)),.row (n+6) 74 kW_K (.var (n+7)),.row (n+9) 97 kSn (.var (n+10)),.st (n+11)]
abbrev tlMs(vk n:Nat):List Ent:=[.cells vk 125 [.val (.var n),.val (.var (n+2)),.val (.var (n+4)),.val (.var (n+6)),.int .i64 (.var (n+8)),.val (.var (n+9))]]
theorem Zul{J pre:List V}{y:TelX}{n:Nat}(hn:J.length+pre.length=n)(i:Nat):(J++(pre++tlV y)).getD (n+i) (.i 0)=(tlV y).getD i (.i 0):=by subst hn;rw[<- List.append_assoc,qy1,qy1,List.getElem?_append_right (by simp)];simp
theorem Zum{J pre:List V}{y:TelX}{k vk n:Nat}(hn:J.length+pre.length=n)(hk:J.getD vk (.i 0)=.n k)(hv:vk<J.length):tlH.map (Ent.sem (tlA k y))=(tlEs n++tlMs vk n).map (Ent.sem (J++(pre++tlV y))):=by
 have g:=Zul (y:=y) hn;have g0:(J++(pre++tlV y)).getD n (.i 0)=.v y.kv:=g 0;have hk':(J++(pre++tlV y)).getD vk (.i 0)=.n k:=by rw[<- hk,qy1,qy1,List.getElem?_append_left hv]
 simp only[tlH,tlEs,tlMs,List.cons_append,List.nil_append,List.map_cons,List.map_nil,Ent.sem,Ent.holds,Ent.fp,Ent.wr,X.ev,Sc.ev,g0,g 1,g 2,g 3,g 4,g 5,g 6,g 7,g 8,g 9,g 10,g 11,hk'];rfl
theorem Z30{P:Program}{f:Nat}{args:Array Value}{w:World}{B:Base}{J:List V}{hp:List Ent}{k:Nat}{x:TelX}{F:Nat->Prop}{R:TelX->Prop}{pre:List V}{v:Value}(h0:Rel B J hp w)(n vk:Nat)(gone:List Nat) (h:Calls P f args w λe w1=>e=.returned v/\∃y:TelX,R y/\Rel ⟨Zi (tlA k x) tlH,w⟩ (tlA k y) tlH w1/\Grew w.heap.size F x y) (hn:J.length+pre.length=n) (hk:J.getD vk (.i 0)=.n k) (hv:vk<J.length) (hM:Zo J [vk] gone=k::(x.sv.ownBlock.toList++(x.av.ownBlock.toList++(x.ov.ownBlock.toList++[])))) (hO:∀j,(Zfw x j\/Zbs x j\/(Z6 x.sx x.ox).fp j\/F j)->∃y∈hp,y.wr=false/\y.fp J j) : Calls P f args w λe w1=>∃y:TelX,R y/\w.heap.size<=w1.heap.size/\Grew w.heap.size F x y/\e=.returned v/\Mod (Zo J [vk] gone) w w1/\(∀x∈tlMs vk n,x.holds (J++(pre++tlV y)) w1) /\ (∀x∈tlEs n,x.holds (J++(pre++tlV y)) w1/\∀k,x.fp (J++(pre++tlV y)) k->w.heap.size<=k\/(x.wr=false/\∃y∈hp,y.wr=false/\y.fp J k)\/k∈Zw J gone)/\Z2o (J++(pre++tlV y)) (tlEs n):=by
 refine h.mono ?_;rintro e w1 ⟨he,y,hT,hq,hg⟩;have hs:=Zum (y:=y) hn hk hv;have hq':Rel ⟨Zo J [vk] gone,w⟩ (J++(pre++tlV y)) (tlEs n++tlMs vk n) w1:=Zio (hq.conv hs) rfl λj hj=>by rw[show(Base.fp ⟨Zo J [vk] gone,w⟩)=Zo J [vk] gone from rfl,hM];exact Zqp hj
 refine⟨y,hT,hq.mod.size,hg,he,hq'.mod,λx hx=>hq'.holds x (List.mem_append_right _ hx),λx hx=>⟨hq'.holds x (List.mem_append_left _ hx),λj hj=>?_⟩,(List.pairwise_append.1 hq'.sep).1⟩;cases hw:x.wr with
 | false =>
  have h1:Ent.sem (J++(pre++tlV y)) x∈tlH.map (Ent.sem (tlA k y)):=by rw[hs];exact List.mem_map_of_mem (List.mem_append_left _ hx)
  obtain⟨e',he',hee⟩:=List.mem_map.1 h1;have hw':e'.wr=false:=(congrArg SEnt.wr hee).trans hw;have hj':e'.fp (tlA k y) j:=(congrFun (congrArg SEnt.fp hee) j).mpr hj;have key:∀j,(Zfw y j\/Zbs y j\/(Z6 y.sx y.ox).fp j)->w.heap.size<=j\/∃y∈hp,y.wr=false/\y.fp J j:=by
   rintro j (h|h|h)
   ·rcases hg.kept j h with h|h
    ·exact .inl h
    ·exact .inr (hO j (.inl h))
   ·rcases hg.want j h with h|h
    ·exact .inl h
    ·exact .inr (hO j (.inr (.inl h)))
   ·rcases hg.nest j h with h|h|h
    ·exact .inl h
    ·exact .inr (hO j (.inr (.inr (.inl h))))
    ·exact .inr (hO j (.inr (.inr (.inr h))))
  have fin:w.heap.size<=j\/∃y∈hp,y.wr=false/\y.fp J j:=by
   simp only[tlH,List.mem_cons,List.not_mem_nil,or_false]at he';rcases he' with rfl|rfl|rfl|rfl|rfl|rfl|rfl
   ·exact key j (.inl hj')
   ·exact key j (.inr (.inl hj'))
   ·cases hw'
   ·cases hw'
   ·cases hw'
   ·exact key j (.inr (.inr hj'))
   ·cases hw'
  rcases fin with h|h
  ·exact .inl h
  ·exact .inr (.inl ⟨rfl,h⟩)
 | true =>
  rcases hq'.own x (List.mem_append_left _ hx) hw j hj with h5|h5
  ·exact .inl h5
  ·simp only[Zo,List.map_cons,List.map_nil,qy13,qy12]at h5;rcases h5 with h5|h5
   ·exfalso;refine(List.pairwise_append.1 hq'.sep).2.2 x hx _ (qy12.2 rfl) (.inl hw) _ hj ?_;rw[h5];simp only[Ent.fp];rw[qy1 (l:=J++_),List.getElem?_append_left hv,<- qy1]
   ·exact .inr (.inr h5)
abbrev Z5p:=Pkt×Value×Value
abbrev pxD:Z5p:=(pD_Q 0,.slice none 0 0,.slice none 0 0)
def Z31(t:Z5p):List Value:=[.int .i64 t.1.kind,.bool t.1.dup,.bool t.1.retain,.bool t.1.clean,.bool t.1.session,.int .i64 t.1.qos,.int .i64 t.1.id,.int .i64 t.1.keep,.int .i64 t.1.code,.string ⟨t.1.client.toArray⟩,.string ⟨t.1.topic.toArray⟩,.string ⟨t.1.payload.toArray⟩,sc1 t.2.1,sc1 t.2.2]
abbrev kX:List Kd:=[.int .i64,.bool,.bool,.bool,.bool,.int .i64,.int .i64,.int .i64,.int .i64,.str,.str,.str,.oth,.oth]
def Zip(t:Z5p):List (Value×List Kd×List (List Value)):=[(t.2.1,[.str,.int .i64],t.1.asks.map encA),(t.2.2,[.int .i64],t.1.codes.map Z1i)]
def Zq(l:List Z5p):Asrt:=rdsZ (l.flatMap Zip)
def pkF(t:Z5p)(k:Nat):Prop:=((t.1.asks.map encA).flatten≠[]/\Z2 t.2.1 k)\/((t.1.codes.map Z1i).flatten≠[]/\Z2 t.2.2 k)
theorem Zkt{l:List Z5p}{w:World}(h:(Zq l).holds w){t:Z5p}(ht:t∈l):Z7a w t.2.1 t.1.asks/\Z64 w t.2.2 t.1.codes :=
 ⟨h (t.2.1,[.str,.int .i64],t.1.asks.map encA) (List.mem_flatMap.2 ⟨t,ht,by simp[Zip]⟩),h (t.2.2,[.int .i64],t.1.codes.map Z1i) (List.mem_flatMap.2 ⟨t,ht,by simp[Zip]⟩)⟩
theorem Zau{l:List Z5p}{t:Z5p}(ht:t∈l){k:Nat}(h:pkF t k):(Zq l).fp k:=by
 rcases h with h|h
 ·exact⟨_,List.mem_flatMap.2 ⟨t,ht,qy8 ..⟩,h⟩
 ·exact⟨_,List.mem_flatMap.2 ⟨t,ht,qy10 _ (qy8 ..)⟩,h⟩
def Zf2(c:List UInt8)(t:Z5p):SntX:=(toC c t.1,t.2.1,t.2.2,.slice none 0 0)
theorem Ziq{c:List UInt8}{t:Z5p}{k:Nat}(h:sntF (Zf2 c t) k):pkF t k:=by
 rcases h with h|h|h
 ·exact .inl h
 ·exact .inr h
 ·exact absurd rfl h.1
abbrev pkA(c:List UInt8)(lv:Value)(l:List Z5p):List V:=[.s c,.v lv,.r (l.map Z31),.a (Zq l)]
abbrev pkH:List Ent:=[.rd 14 kX (.var 15),.st 16]
theorem Z10l{l:List Z5p}{i:Nat}(h:i<l.length):(l.map Z31).getD i []=Z31 (l.getD i pxD):=by rw[qy1,qy1,List.getElem?_map,qy7 h];rfl
theorem Z15i(l:List Z5p)(i:Nat)(h:i<l.length):l.take (i+1)=l.take i++[l.getD i pxD]:=by rw[List.take_add_one,qy1,qy7 h];rfl
theorem Z1a(v:Value):sc1 (sc1 v)=sc1 v:=by cases v<;>rfl
theorem Zun(w:World)(k:Nat)(x:TelX)(c:List UInt8)(lv:Value)(l:List Z5p)(hr:Rel ⟨Zi (tlA k x) tlH,w⟩ (tlA k x++pkA c lv l) (tlH++pkH) w)(hl:l.length<1000000)(ho:x.ox.length<1000000) : Calls Tryz.prog 93 #[.pointer (some ⟨k,0,none⟩),.string ⟨c.toArray⟩,sc1 lv] w λe w'=>e=.returned (.tuple #[])/\∃ov':Value,Rel ⟨Zi (tlA k x) tlH,w⟩ (tlA k { x with ox:=x.ox++l.map (Zf2 c),ov:=ov' }) tlH w':=by
 refine Z1 (Z3 (J:=tlA k x++pkA c lv l) sxE_ok Tryz.func93 Z52 rfl rfl hr rfl rfl ?_) rfl;simp only[Tree.goal,X.P,X.ev,SV.ev,CV.ev,Sc.ev,qz,QA,QB,QC,QD,QE,QF,QG,QH,QI,QJ,QK,QL,QM,Nat.reduceAdd,qy3,qy4];refine⟨λvs=>∃(i:Nat) (u:Value),vs=[.i i,.v x.kv,.r (x.kept.map encK),.v x.wv,.r (x.wants.map Za),.v x.sv,.r (x.sx.map Zf),.v x.av,.r (x.wat.map Z7),.i x.next,.v u,.r ((x.ox++(l.take i).map (Zf2 c)).map Z12)]/\i<=l.length,λvs=>l.length - (vs.getD 0 (.i 0)).toI.toNat,⟨0,x.ov,by simp,by omega⟩,?_⟩;rintro _ - ⟨i,u,rfl,hi⟩;simp only[Tree.goal,X.P,X.ev,SV.ev,CV.ev,Sc.ev,qz,QA,QB,QC,QD,QE,QF,QG,QH,QI,QJ,QK,QL,QM,Nat.reduceAdd,qy3,qy4];refine⟨λh1=>?_,λh1 w' hr=>?_⟩
 ·have hrow:=Z10l (l:=l) (i:=i) (by omega);simp only[hrow,Z31,List.getD_cons_zero,List.getD_cons_succ,Value.gI,Value.gB,Value.gS];refine⟨by omega,λb v=>⟨by simp only[qy11,qy3,List.length_take];omega,λv1=>⟨by omega,by omega,⟨i+1,v1,?_,by omega⟩,by omega⟩⟩⟩;rw[Z15i l i (by omega),Z1a,Z1a];simp only[List.map_append,List.append_assoc];rfl
 ·have:i=l.length:=by omega
  subst this;rw[List.take_length]at hr;refine⟨by trivial,u,?_⟩;refine Zks hr (by rfl) k { x with ox:=x.ox++l.map (Zf2 c),ov:=u } ?_ ?_ [1,2,3,4,5,0,7] (by decide) rfl
  ·refine Z11 (l:=x.sx) (o:=x.ox) (λt ht=>.inl ht) (λt ht=>?_) (hr.at_ 5 rfl);rcases qy13.1 ht with ht|ht
   ·exact .inl ht
   ·obtain⟨p,hp,rfl⟩:=List.mem_map.1 ht;have:=Zkt (hr.at_ 8 rfl:(Zq l).holds w') hp;exact .inr ⟨this.1,this.2,Z9 _ _⟩
  ·intro j hj;rcases Zb.1 hj with⟨t,ht,hj⟩|⟨t,ht,hj⟩
   ·exact⟨_,qy6 (i:=5) rfl,rfl,Zb.2 (.inl ⟨t,ht,hj⟩)⟩
   ·rcases qy13.1 ht with ht|ht
    ·exact⟨_,qy6 (i:=5) rfl,rfl,Zb.2 (.inr ⟨t,ht,hj⟩)⟩
    ·obtain⟨p,hp,rfl⟩:=List.mem_map.1 ht;exact⟨_,qy6 (i:=8) rfl,rfl,Zau hp (Ziq hj)⟩
end Go.Proofs.Y
namespace Go.Proofs.Y
open Go.Sx
structure FlOk(fl:List Fl):Prop where
 each:∀f∈fl,flE f=0/\1<=f.1/\f.1<=65535
 ids:(fl.map (·.1)).Nodup
theorem Zdk{l:List Fl}{n:Int}:l.any (idIs n)=true↔n∈l.map (·.1):=by
 rw[List.any_eq_true,List.mem_map];constructor
 ·rintro⟨x,hx,h⟩;exact⟨x,hx,by simpa[idIs]using h⟩
 ·rintro⟨x,hx,h⟩;exact⟨x,hx,by simpa[idIs]using h⟩
theorem Zf3:∀(l prev:List Fl),FlOk prev->(Za8 prev l=0↔FlOk (prev++l))
 | [],prev,hp=>by simp[Za8,hp]
 | f::l,prev,hp=>by
  have key:FlOk (prev++[f])↔(flE f=0/\(1<=f.1/\f.1<=65535)/\¬prev.any (idIs f.1)=true):=by
   constructor
   ·intro h;have h1:=h.each f (by simp);refine⟨h1.1,h1.2,λh2=>?_⟩;have h3:=h.ids;rw[List.map_append,List.nodup_append]at h3;exact h3.2.2 _ (Zdk.1 h2) f.1 (by simp) rfl
   ·rintro⟨h1,h2,h3⟩;refine⟨λx hx=>?_,?_⟩
    ·rcases qy13.1 hx with hx|hx
     ·exact hp.each x hx
     ·rw[qy12.1 hx];exact⟨h1,h2⟩
    ·rw[List.map_append,List.nodup_append];refine⟨hp.ids,by simp,λa ha b hb=>?_⟩;rw[List.map_cons,List.map_nil,qy12]at hb;subst hb;rintro rfl;exact h3 (Zdk.2 ha)
  have up:FlOk (prev++f::l)->FlOk (prev++[f]):=by
   intro h;refine⟨λx hx=>h.each x ?_,?_⟩
   ·rcases qy13.1 hx with hx|hx
    ·exact List.mem_append_left _ hx
    ·rw[qy12.1 hx];simp
   ·have:=h.ids;rw[show prev++f::l=(prev++[f])++l by simp,List.map_append,List.nodup_append]at this;exact this.1
  rw[Za8];constructor
  ·intro h;split at h
   ·exact absurd h (by assumption)
   split at h
   ·split at h
    ·exact absurd h (by decide)
    ·have h1:=(Zf3 l (prev++[f]) (key.2 ⟨by simpa using ‹¬flE f≠0›,by assumption,by assumption⟩)).1 h;simpa using h1
   ·exact absurd h (by decide)
  ·intro h;have h1:=key.1 (up h);rw[if_neg (by simpa using h1.1),if_pos h1.2.1,if_neg h1.2.2];exact(Zf3 l (prev++[f]) (up h)).2 (by simpa using h)
theorem Zf4:∀l:List Fl,Zbj l=0↔∀f∈l,flE f=0/\f.1=0
 | []=>by simp[Zbj]
 | f::l=>by
  rw[Zbj];constructor
  ·intro h;split at h
   ·exact absurd h (by assumption)
   split at h
   ·have:=(Zf4 l).1 h;intro x hx;rcases List.mem_cons.1 hx with rfl|hx
    ·exact⟨by simpa using ‹¬flE x≠0›,by assumption⟩
    ·exact this x hx
   ·exact absurd h (by decide)
  ·intro h;have h1:=h f (qy8 ..);rw[if_neg (by simpa using h1.1),if_pos h1.2];exact(Zf4 l).2 λx hx=>h x (qy10 _ hx)
structure SesOk(s:Ses):Prop where
 cl:Zz s.cl=true
 nf:s.fl.length<=3
 nq:s.qu.length<=6
 fl:FlOk s.fl
 qu:∀f∈s.qu,flE f=0/\f.1=0
 next:1<=s.next/\s.next<=65535
 off:¬s.on=true->s.clean=true->s.fl=[]/\s.qu=[]
 full:s.on=true->s.qu≠[]->s.fl.length=3
theorem FlOk.nil:FlOk []:=⟨by simp,by simp⟩
theorem Zom{s:Ses}:allS s=0↔FlOk s.fl/\∀f∈s.qu,flE f=0/\f.1=0:=by
 have h1:=Zf3 s.fl [] .nil;have h2:=Zf4 s.qu;rw[List.nil_append]at h1;unfold allS;constructor
 ·intro h;split at h
  ·exact⟨h1.1 (by assumption),h2.1 h⟩
  ·exact absurd h (by assumption)
 ·rintro⟨h3,h4⟩;rw[if_pos (h1.2 h3)];exact h2.2 h4
theorem Zon{s:Ses}:chkS s=0↔SesOk s:=by
 constructor
 ·intro h;have⟨k1,k2,k3⟩:=Z125 h;unfold chkS at h;split at h
  ·split at h
   ·exact absurd h (by decide)
   ·split at h
    ·obtain⟨a1,a2⟩:=(Zom (s:=s)).1 (by assumption);split at h
     ·exact absurd h (by decide)
     ·rename_i hn;refine⟨by assumption,k2,k3,a1,a2,k1,λh1 h2=>?_,λh1 h2=>?_⟩
      ·have:¬0<(s.fl.length:Int)+s.qu.length:=λh3=>hn (.inl ⟨⟨h1,h2⟩,h3⟩);exact⟨List.length_eq_zero_iff.1 (by omega),List.length_eq_zero_iff.1 (by omega)⟩
      ·have h4:s.qu.length≠0:=λh=>h2 (List.length_eq_zero_iff.1 h);have:¬(s.fl.length:Int)<3:=λh3=>hn (.inr ⟨⟨h1,by omega⟩,h3⟩);omega
    ·exact absurd h (by assumption)
  ·exact absurd h (by decide)
 ·intro h;have nf:=h.nf;have nq:=h.nq;unfold chkS;rw[if_pos h.cl,if_neg (by omega),if_pos (Zom.2 ⟨h.fl,h.qu⟩),if_pos h.next,if_neg];rintro(⟨⟨h1,h2⟩,h3⟩|⟨⟨h1,h2⟩,h3⟩)
  ·have:=h.off h1 h2;rw[this.1,this.2]at h3;exact absurd h3 (by decide)
  ·have:=h.full h1 (λh4=>by rw[h4]at h2;exact absurd h2 (by decide));omega
abbrev pay(f:Fl):List UInt8:=f.2.2
theorem Z135(on:Bool):∀(qu fl:List Fl) (next:Int) (out:List Pk),FlOk fl->(∀f∈qu,flE f=0/\f.1=0)->(1<=next/\next<=65535)->fl.length<=3 -> FlOk (flyR on fl qu next out).1/\(∀f∈(flyR on fl qu next out).2.1,flE f=0/\f.1=0)/\(1<=(flyR on fl qu next out).2.2.1/\(flyR on fl qu next out).2.2.1<=65535)/\(flyR on fl qu next out).1.length<=3 /\ (flyR on fl qu next out).1.map pay++(flyR on fl qu next out).2.1.map pay=fl.map pay++qu.map pay/\(on=true->(flyR on fl qu next out).2.1≠[]->(flyR on fl qu next out).1.length=3)/\(flyR on fl qu next out).2.1.length<=qu.length:=by
 intro qu;induction qu with
 | nil=>intro fl next out h1 h2 h3 h4;exact⟨h1,by simp[flyR],h3,h4,rfl,λ_ h=>absurd rfl h,by simp[flyR]⟩
 | cons f q ih =>
  intro fl next out h1 h2 h3 h4
  rw[flyR];split
  ·rename_i hc;have hf:=h2 f (qy8 ..);have hid:=Zi4 (fl:=fl) h3;have hfree:=Zt2 (fl:=fl) hc.2 h3;have h5:FlOk (fl++[(Z25 fl next,f.2.1,f.2.2)]):=by
    refine⟨λx hx=>?_,?_⟩
    ·rcases qy13.1 hx with hx|hx
     ·exact h1.each x hx
     ·rw[qy12.1 hx];exact⟨hf.1,hid⟩
    ·rw[List.map_append,List.nodup_append];refine⟨h1.ids,by simp,λa ha b hb=>?_⟩;rw[List.map_cons,List.map_nil,qy12]at hb;subst hb;rintro rfl;have:=Zdk.2 ha;rw[Zdk.2 ha |> λh=>(show used fl (Z25 fl next)=true from h)]at hfree;exact Bool.noConfusion hfree
   obtain⟨i1,i2,i3,i4,i5,i6,i7⟩:=ih (fl++[(Z25 fl next,f.2.1,f.2.2)]) (nx_N (Z25 fl next)) (out++[(false,1,Z25 fl next,f.2.1,f.2.2)]) h5 (λx hx=>h2 x (qy10 _ hx)) (Zfp hid).1 (by simp;omega);refine⟨i1,i2,i3,i4,?_,i6,?_⟩
   ·rw[i5];simp
   ·rw[List.length_cons];omega
  ·rename_i hc;refine⟨h1,h2,h3,h4,rfl,λh _=>?_,Nat.le_refl _⟩;have:¬fl.length<3:=λh5=>hc ⟨h,h5⟩
   show fl.length=3
   omega
def Zir(s:Ses):List (List UInt8):=s.fl.map pay++s.qu.map pay
theorem Z136{s:Ses}(cl:Zz s.cl=true)(nf:s.fl.length<=3)(nq:s.qu.length<=6)(fl:FlOk s.fl)(qu:∀f∈s.qu,flE f=0/\f.1=0)(next:1<=s.next/\s.next<=65535)(hon:s.on=true\/¬s.clean=true):SesOk (flyS s).1/\Zir (flyS s).1=Zir s:=by
 obtain⟨i1,i2,i3,i4,i5,i6,i7⟩:=Z135 s.on s.qu s.fl s.next [] fl qu next nf
 refine⟨⟨cl,i4,Nat.le_trans i7 nq,i1,i2,i3,λh1 h2=>?_,i6⟩,i5⟩;rcases hon with h|h
 ·exact absurd h h1
 ·exact absurd h2 h
theorem Z17a{s:Ses}(h:SesOk s):SesOk (goR s)/\Zir (goR s)=if s.clean=true then[]else Zir s:=by
 unfold goR Zir;by_cases hc:s.clean=true
 ·simp only[hc,if_true];exact⟨⟨h.cl,by simp,by simp,.nil,by simp,h.next,λ_ _=>⟨rfl,rfl⟩,λh1=>Bool.noConfusion h1⟩,rfl⟩
 ·simp only[if_neg hc];exact⟨⟨h.cl,h.nf,h.nq,h.fl,h.qu,h.next,λ_ h1=>absurd h1 hc,λh1=>Bool.noConfusion h1⟩,trivial⟩
def wL:List Wat:=[(1,[116],[97,47,98],16777215),(2,[116],[99],5)]
theorem Zuo(w:World):Calls Tryz.prog 115 #[] w λe w'=>∃v,e=.returned (sc1 v)/\Z1u w' v wL/\Za4 w.heap.size v/\Mod [] w w':=by
 refine Z1 (Z8 (J:=[]) sxE_ok Tryz.func115 Z5x rfl rfl rfl ?_) rfl;simp only[Tree.goal,X.P,X.ev,SV.ev,CV.ev,Sc.ev,qz,QA,QB,QC,QD,QE,QF,QG,QH,QI,QJ,QK,QL,QM,Nat.reduceAdd];intro v0 w' hr;refine⟨v0,rfl,owns.reads (hr.at_ 0 rfl),λk hk=>?_,hr.mod⟩;rcases hr.own _ (qy8 ..) rfl k hk with h|h
 ·exact h
 ·simp at h
def Z15j(x:Wat):Prop:=Z3d x.1 x.2.1 x.2.2.1=0/\0<=x.2.2.2/\x.2.2.2<=16777215
def Zf5(a b:Wat):Prop:=Z60 b.1 b.2.1 a=false
theorem Zyx:∀{l prev:List Wat},chkL prev l=0↔(∀x∈l,Z15j x)/\l.Pairwise Zf5/\∀a∈prev,∀b∈l,Zf5 a b:=by
 intro l;induction l with
 | nil=>intro prev;simp[chkL]
 | cons w l ih =>
  intro prev;simp only[chkL];split
  ·rename_i h;exact⟨λe=>absurd e h,λe=>absurd (e.1 w (qy8 ..)).1 h⟩
  ·rename_i h;have h:=qy9.1 h;split
   ·rename_i h2;split
    ·rename_i h3;refine⟨λe=>absurd e (by decide),λe=>?_⟩;obtain⟨a,ha,hs⟩:=List.any_eq_true.1 h3;have:=e.2.2 a ha w (qy8 ..);rw[Zf5,hs]at this;cases this
    ·rename_i h3;rw[ih];have h3:∀a∈prev,Zf5 a w:=λa ha=>by
      have:=List.any_eq_false.1 (Bool.eq_false_iff.2 h3) a ha;exact Bool.eq_false_iff.2 this
     refine⟨λ⟨e1,e2,e3⟩=>⟨?_,?_,?_⟩,λ⟨e1,e2,e3⟩=>⟨?_,?_,?_⟩⟩
     ·intro x hx;rcases List.mem_cons.1 hx with rfl|hx
      ·exact⟨h,h2⟩
      ·exact e1 x hx
     ·exact List.pairwise_cons.2 ⟨λb hb=>e3 w (by simp) b hb,e2⟩
     ·intro a ha b hb;rcases List.mem_cons.1 hb with rfl|hb
      ·exact h3 a ha
      ·exact e3 a (by simp[ha]) b hb
     ·exact λx hx=>e1 x (qy10 _ hx)
     ·exact(List.pairwise_cons.1 e2).2
     ·intro a ha b hb;rcases qy13.1 ha with ha|ha
      ·exact e3 a ha b (qy10 _ hb)
      ·rw[qy12]at ha;subst ha;exact(List.pairwise_cons.1 e2).1 b hb
   ·rename_i h2;exact⟨λe=>absurd e (by decide),λe=>absurd (e.1 w (qy8 ..)).2 h2⟩
theorem Zr{l:List Wat}:Zy l=0↔l.length<=12/\(∀x∈l,Z15j x)/\l.Pairwise Zf5:=by
 unfold Zy;split
 ·exact⟨λe=>absurd e (by decide),λe=>absurd e.1 (by omega)⟩
 ·rw[Zyx];exact⟨λe=>⟨by omega,e.1,e.2.1⟩,λe=>⟨e.2.1,e.2.2,λa ha=>by cases ha⟩⟩
theorem Z137{l:List Wat}{p:Int}{t n:List UInt8}(h:Zy l=0)(h1:Z3d p t n=0)(h2:(filt p t l).length+1<=12):Zy (filt p t l++[(p,t,n,1)])=0:=by
 rw[Zr]at h⊢;refine⟨by rw[qy11];exact h2,λx hx=>?_,List.pairwise_append.2 ⟨h.2.2.filter _,List.pairwise_singleton _ _,?_⟩⟩
 ·rcases qy13.1 hx with hx|hx
  ·exact h.2.1 x (List.mem_filter.1 hx).1
  ·rw[qy12]at hx;subst hx;exact⟨h1,(by decide:(0:Int)<=1),(by decide:(1:Int)<=16777215)⟩
 ·intro a ha b hb;rw[qy12]at hb;subst hb;have:=(List.mem_filter.1 ha).2;simpa[Zf5]using this
def adv1(i:Int)(n:List UInt8)(w:Wat):Wat:=if w.2.2.1=n then(w.1,w.2.1,w.2.2.1,(w.2.2.2+i) % 16777216)else w
def advL(i:Int)(n:List UInt8)(l:List Wat):List Wat:=l.map (adv1 i n)
theorem Zup(i:Int)(n:List UInt8)(w:Wat):(adv1 i n w).2.2.1=w.2.2.1:=by unfold adv1;split<;>rfl
theorem Zh0(i:Int)(n:List UInt8)(w:Wat):(adv1 i n w).1=w.1/\(adv1 i n w).2.1=w.2.1:=by unfold adv1;split<;>exact⟨rfl,rfl⟩
theorem Z138(i:Int)(n:List UInt8)(l:List Wat):(advL i n l).length=l.length:=by simp[advL]
theorem Z139{i:Int}{n:List UInt8}{w:Wat}(h:0<=w.2.2.2/\w.2.2.2<=16777215):0<=(adv1 i n w).2.2.2/\(adv1 i n w).2.2.2<=16777215:=by
 unfold adv1;split
 ·simp only;omega
 ·exact h
theorem Zyy(i:Int)(n:List UInt8)(w:Wat)(h:0<=w.2.2.2/\w.2.2.2<=16777215):Z3x n (adv1 i n w)=adv1 (i+1) n w:=by
 by_cases hn:w.2.2.1=n
 ·have e1:adv1 i n w=(w.1,w.2.1,w.2.2.1,(w.2.2.2+i) % 16777216):=by rw[adv1,if_pos hn]
  have e2:adv1 (i+1) n w=(w.1,w.2.1,w.2.2.1,(w.2.2.2+(i+1)) % 16777216):=by rw[adv1,if_pos hn]
  rw[e1,e2,Z3x];simp only;rw[if_pos hn];have:(if 16777215<(w.2.2.2+i) % 16777216+1 then(0:Int)else(w.2.2.2+i) % 16777216+1)=(w.2.2.2+(i+1)) % 16777216:=by split<;>omega
  rw[this]
 ·have e1:∀k:Int,adv1 k n w=w:=λk=>by rw[adv1,if_neg hn]
  rw[e1,e1,Z3x,if_neg hn]
theorem Zyz{i:Int}{n:List UInt8}{l:List Wat}(h:okN l):Z28 n (advL i n l)=advL (i+1) n l:=by rw[Z28,advL,List.map_map];exact List.map_congr_left λw hw=>Zyy i n w (h w hw)
theorem Zz0{n:List UInt8}{l:List Wat}(h:okN l):advL 0 n l=l:=by
 have:l.map (adv1 0 n)=l.map id:=List.map_congr_left λw hw=>by
  have:=h w hw;unfold adv1;split
  ·have e:(w.2.2.2+0) % 16777216=w.2.2.2:=by omega
   rw[e];rfl
  ·rfl
 rw[advL,this,List.map_id]
theorem Z13a{i:Int}{n:List UInt8}{l:List Wat}(h:Zy l=0):Zy (advL i n l)=0:=by
 rw[Zr]at h⊢;refine⟨by rw[Z138];exact h.1,λx hx=>?_,?_⟩
 ·obtain⟨w,hw,rfl⟩:=List.mem_map.1 hx;have hw:=h.2.1 w hw;refine⟨?_,Z139 hw.2⟩;rw[(Zh0 i n w).1,(Zh0 i n w).2,Zup];exact hw.1
 ·rw[advL,List.pairwise_map];refine h.2.2.imp λ{a b} hab=>?_;rw[Zf5,Z60,(Zh0 i n a).1,(Zh0 i n a).2,(Zh0 i n b).1,(Zh0 i n b).2];exact hab
def loK(l:List Kp)(n:List UInt8):List Kp:=l.filter λk=>Zm k.1 n
def miK(l:List Kp)(n:List UInt8):List Kp:=l.filter λk=>decide (k.1=n)
def hiK(l:List Kp)(n:List UInt8):List Kp:=l.filter λk=>Zm n k.1
theorem Zf6{p:Kp->Bool}{l:List Kp}(h:∀x∈l,p x=false):l.filter p=[]:=by rw[List.filter_eq_nil_iff];intro x hx;rw[h x hx];decide
theorem Zoo{p:Kp->Bool}{l:List Kp}(h:∀x∈l,p x=true):l.filter p=l:=List.filter_eq_self.2 h
theorem Zqq:∀(l:List Kp) (n:List UInt8),Z6t l->l=loK l n++miK l n++hiK l n/\(miK l n).length<=1
 | [],_,_=>by simp[loK,miK,hiK]
 | k::r,n,h=>by
  obtain⟨h1,h2⟩:=List.pairwise_cons.1 h;obtain⟨e,hm⟩:=Zqq r n h2;cases hk:Zm k.1 n with
  | true =>
   have a1:loK (k::r) n=k::loK r n:=by simp[loK,hk]
   have a2:miK (k::r) n=miK r n:=by simp[miK,Zad hk]
   have a3:hiK (k::r) n=hiK r n:=by simp[hiK,Z49 hk]
   rw[a1,a2,a3];exact⟨by rw[List.cons_append,List.cons_append,<- e],hm⟩
  | false =>
   have hgt:∀x∈r,Zm n x.1=true:=λx hx=>by
    rcases Z3e.1 hk with h3|h3
    ·exact Z26 h3 (h1 x hx)
    ·rw[h3];exact h1 x hx
   have b1:loK r n=[]:=Zf6 λx hx=>Z49 (hgt x hx);have b2:miK r n=[]:=Zf6 λx hx=>decide_eq_false (λe=>by have:=hgt x hx;rw[e,Z2y]at this;cases this);have b3:hiK r n=r:=Zoo hgt;have a1:loK (k::r) n=[]:=by rw[loK,List.filter_cons,hk];exact b1
   rcases Z3e.1 hk with h3|h3
   ·have a2:miK (k::r) n=[]:=by rw[miK,List.filter_cons,decide_eq_false (Zad h3).symm];exact b2
    have a3:hiK (k::r) n=k::r:=by rw[hiK,List.filter_cons,h3,if_pos rfl];exact congrArg (List.cons k) b3
    rw[a1,a2,a3];simp
   ·have a2:miK (k::r) n=[k]:=by rw[miK,List.filter_cons,decide_eq_true h3.symm,if_pos rfl];exact congrArg (List.cons k) b2
    have a3:hiK (k::r) n=r:=by
     have:Zm n k.1=false:=by rw[<- h3];exact Z2y _
     rw[hiK,List.filter_cons,this];exact b3
    rw[a1,a2,a3];simp
theorem Zuq(l:List Kp)(n:List UInt8):idx l n=(loK l n).length:=rfl
theorem Zme{l:List Kp}{n:List UInt8}(h:Z6t l):l.take (idx l n)=loK l n:=by
 have e:=(Zqq l n h).1;rw[Zuq]
 calc l.take (loK l n).length=(loK l n++miK l n++hiK l n).take (loK l n).length:=by rw[<- e]
  _=loK l n:=by rw[List.append_assoc,List.take_left]
theorem Zur{l:List Kp}{n:List UInt8}(h:Z6t l):l.drop (idx l n)=miK l n++hiK l n:=by
 have e:=(Zqq l n h).1;rw[Zuq]
 calc l.drop (loK l n).length=(loK l n++miK l n++hiK l n).drop (loK l n).length:=by rw[<- e]
  _=miK l n++hiK l n:=by rw[List.append_assoc,List.drop_left]
theorem Z15k{l:List Kp}{n:List UInt8}(h:Z6t l):l.getD (idx l n) kD=(miK l n++hiK l n).getD 0 kD:=by rw[<- Zur h];simp[qy1]
theorem Z10m{l:List Kp}{n:List UInt8}(h:Z6t l):l.length=idx l n+(miK l n).length+(hiK l n).length:=by have e:=congrArg List.length (Zqq l n h).1;rw[qy11,qy11]at e;exact e
theorem Zmf{l:List Kp}{n:List UInt8}(h:Z6t l):(hasK l n=true/\∃k,miK l n=[k]/\k.1=n)\/(hasK l n=false/\miK l n=[]):=by
 have hl:=Z10m (n:=n) h;have ha:=Z15k (n:=n) h;have hm:=(Zqq l n h).2
 match he:miK l n,hm with
 | [],_ =>
  rw[he]at hl ha;refine .inr ⟨?_,rfl⟩;rw[hasK,decide_eq_false];rintro⟨h1,h2⟩;rw[ha]at h2
  match hb:hiK l n with
  | []=>rw[hb]at hl;simp at hl;omega
  | x::r =>
   rw[hb]at h2;have:x∈hiK l n:=by rw[hb];exact qy8 ..
   have h3:=(List.mem_filter.1 this).2;have h2:x.1=n:=h2;rw[h2,Z2y]at h3;cases h3
 | [k],_ =>
  have:k∈miK l n:=by rw[he];exact qy8 ..
  have hk:k.1=n:=by simpa using(List.mem_filter.1 this).2
  rw[he]at hl ha;refine .inl ⟨?_,k,rfl,hk⟩;rw[hasK,decide_eq_true];refine⟨by rw[hl];simp;omega,?_⟩;rw[ha];exact hk
def verF(n:List UInt8):Int->List Kp->Int
 | c,[]=>c
 | c,k::r=>verF n (if k.1=n then minV k.2.2 else c) r
theorem Zmg(n:List UInt8):∀(l:List Kp) (c:Int),verF n c l=(miK l n).foldl (λ_ k=>minV k.2.2) c
 | [],_=>rfl
 | k::r,c=>by
  rw[verF,Zmg n r];by_cases h:k.1=n
  ·simp[h,miK]
  ·simp[h,miK]
def finF(x:Kp):List Kp->Bool->List Kp->List Kp
 | out,put,[]=>if put=true then out else out++[x]
 | out,put,k::r =>
  let o1:=if ¬put=true/\Zm x.1 k.1=true then out++[x]else out
  let p1:=put || Zm x.1 k.1
  finF x (if k.1=x.1 then o1 else o1++[k]) p1 r
theorem Zf7(x:Kp):∀(l:List Kp) (out:List Kp) (put:Bool),Z6t l->finF x out put l=out++loK l x.1++(if put=true then[]else[x])++hiK l x.1
 | [],out,put,_=>by cases put<;>simp[finF,loK,hiK]
 | k::r,out,put,h=>by
  obtain⟨h1,h2⟩:=List.pairwise_cons.1 h;rw[finF];cases hk:Zm k.1 x.1 with
  | true =>
   have g:=Z49 hk;have a1:loK (k::r) x.1=k::loK r x.1:=by simp[loK,hk]
   have a3:hiK (k::r) x.1=hiK r x.1:=by simp[hiK,g]
   simp only[g,Bool.or_false,Bool.false_eq_true,and_false,if_false,if_neg (Zad hk)];rw[Zf7 x r _ _ h2,a1,a3];simp
  | false =>
   have hgt:∀y∈r,Zm x.1 y.1=true:=λy hy=>by
    rcases Z3e.1 hk with h3|h3
    ·exact Z26 h3 (h1 y hy)
    ·rw[h3];exact h1 y hy
   have b1:loK r x.1=[]:=Zf6 λy hy=>Z49 (hgt y hy);have b3:hiK r x.1=r:=Zoo hgt;have a1:loK (k::r) x.1=[]:=by rw[loK,List.filter_cons,hk];exact b1
   rcases Z3e.1 hk with h3|h3
   ·have a3:hiK (k::r) x.1=k::r:=by rw[hiK,List.filter_cons,h3,if_pos rfl];exact congrArg (List.cons k) b3
    simp only[h3,Bool.or_true,if_neg (Zad h3).symm];rw[Zf7 x r _ _ h2,a1,a3,b1,b3];cases put<;>simp
   ·have g:Zm x.1 k.1=false:=by rw[<- h3];exact Z2y _
    have a3:hiK (k::r) x.1=r:=by rw[hiK,List.filter_cons,g];exact b3
    simp only[g,Bool.or_false,Bool.false_eq_true,and_false,if_false,if_pos h3.symm];rw[Zf7 x r _ _ h2,a1,a3,b1,b3]
def putO(l:List Kp)(n p:List UInt8):List Kp×Int :=
 if 200<(p.length:Int)then([],2)else
  if 16<((finF (n,p,verF n 1 l) [] (decide (p=[])) l).length:Int)then([],2)else(finF (n,p,verF n 1 l) [] (decide (p=[])) l,0)
theorem Zus{l:List Kp}{n p:List UInt8}(h:chkK l=0):putO l n p=rawK l n p:=by
 obtain⟨k1,k2,k3⟩:=Zu.1 h;have hl:=Z10m (n:=n) k3;unfold putO rawK;split
 ·rfl
 rw[Zf7 _ l [] _ k3,Zmg];simp only[List.nil_append];have ha:=Z15k (n:=n) k3;have hd:=Zur (n:=n) k3;have hlo:=Zuq l n;rcases Zmf (n:=n) k3 with⟨h1,k,h2,h3⟩|⟨h1,h2⟩
 ·rw[h2]at hl ha hd;have hd1:l.drop (idx l n+1)=hiK l n:=by rw[<- List.drop_drop,hd];rfl
  have hlt:idx l n<l.length:=by rw[hl];simp;omega
  have ha':l.getD (idx l n) kD=k:=ha;simp only[List.length_cons,List.length_nil]at hl;by_cases hp:p=[]
  ·rw[if_pos (⟨h1,hp⟩:hasK l n=true/\p=[]),Zme k3,hd1];simp only[hp,decide_true,if_true,List.append_nil,qy11];rw[if_neg (by omega)]
  ·rw[if_neg (λh=>hp h.2:¬(hasK l n=true/\p=[])),if_pos h1];simp only[decide_eq_false hp,Bool.false_eq_true,if_false,h2,List.foldl_cons,List.foldl_nil,qy11,List.length_cons,List.length_nil];rw[if_neg (by omega),ha',List.set_eq_take_append_cons_drop,if_pos hlt,Zme k3,hd1,h3];simp
 ·rw[h2]at hl hd;rw[h1];simp only[Bool.false_eq_true,false_and,if_false,List.length_nil]at hl⊢;by_cases hp:p=[]
  ·rw[if_pos hp];simp only[hp,decide_true,if_true,List.append_nil,qy11];rw[if_neg (by omega)];have:=(Zqq l n k3).1;rw[h2,List.append_nil]at this;rw[<- this]
  ·rw[if_neg hp];simp only[decide_eq_false hp,Bool.false_eq_true,if_false,h2,List.foldl_nil,qy11,List.length_cons,List.length_nil];by_cases h4:(l.length:Int)=16
   ·rw[if_pos h4,if_pos (by omega)]
   ·rw[if_neg h4,if_neg (by omega),Zme k3,hd];simp
theorem Z13b(w:World)(v:Value)(l:List Kp)(n p:List UInt8)(hv:Z3o w v l)(hs:chkK l=0)(hsm:Z8s l)(hn:n.length<4294967281):Calls Tryz.prog 105 #[sc1 v,.string ⟨n.toArray⟩,.string ⟨p.toArray⟩] w λe w'=>gotK w w' e (rawK l n p).1 (rawK l n p).2:=by
 obtain⟨k1,k2,k3⟩:=Zu.1 hs;have hver:∀i,i<l.length->1<=(l.getD i kD).2.2/\(l.getD i kD).2.2<=16777215:=λi hi=>by
  have hm:l.getD i kD∈l:=by rw[qy1,qy7 hi];exact List.getElem_mem hi
  exact(k2 _ hm).2.2.2
 rw[<- Zus hs];refine Z1 (Z3 (J:=[.v v,.r (l.map encK),.s n,.s p]) sxE_ok Tryz.func105 Z7g rfl rfl (Rel.start2 (by simp[Ent.holds,Ent.wr,hv,X.ev])) rfl rfl ?_) rfl;simp only[Tree.goal,X.P,X.ev,SV.ev,CV.ev,Sc.ev,qz,QA,QB,QC,QD,QE,QF,QG,QH,QI,QJ,QK,QL,QM,Nat.reduceAdd,qy3,qy4,gK0,gK1,gK2,List.nil_append];refine⟨λh w' hr=>?_,λh b=>?_⟩
 ·rw[putO,if_pos h];exact⟨_,rfl,Z62 _,Z89 _,hr.mod⟩
 rw[putO,if_neg h];refine⟨λvs=>∃(i:Nat) (c:Int),vs=[.i i,.s n,.s p,.i c]/\i<=l.length/\verF n c (l.drop i)=verF n 1 l,λvs=>l.length - (vs.getD 0 (.i 0)).toI.toNat,⟨0,1,rfl,by omega,rfl⟩,?_⟩;rintro _ - ⟨i,c,rfl,hi,hc⟩;simp only[Tree.goal,X.P,X.ev,SV.ev,CV.ev,Sc.ev,qz,QA,QB,QC,QD,QE,QF,QG,QH,QI,QJ,QK,QL,QM,Nat.reduceAdd,qy3,qy4,gK0,gK1,gK2,List.nil_append];refine⟨λh1=>⟨by omega,?_⟩,λh1=>?_⟩
 ·have hv1:=hver i (by omega);rw[Z127 l i (by omega),verF]at hc;refine⟨λh2=>⟨by omega,by omega,λh3=>⟨by omega,by omega,⟨i+1,16777215,rfl,by omega,?_⟩,by omega⟩,λh3=>⟨by omega,by omega,⟨i+1,_,rfl,by omega,?_⟩,by omega⟩⟩,λh2=>⟨by omega,by omega,⟨i+1,c,rfl,by omega,?_⟩,by omega⟩⟩
  ·rw[if_pos h2,minV,if_pos h3]at hc;exact hc
  ·rw[if_pos h2,minV,if_neg h3]at hc;exact hc
  ·rw[if_neg h2]at hc;exact hc
 ·have:i=l.length:=by omega
  subst this;rw[List.drop_length,verF]at hc;subst hc;obtain⟨x,hx⟩:∃x:Kp,x=(n,p,verF n 1 l):=⟨_,rfl⟩
  rw[<- hx];have hx1:x.1=n:=by rw[hx]
  have ex:[Value.string ⟨n.toArray⟩,.string ⟨p.toArray⟩,.int .i64 (verF n 1 l)]=encK x:=by rw[hx];rfl
  rw[ex];refine⟨λvs=>∃(i:Nat) (u:Value) (out:List Kp) (put:Bool),vs=[.v u,.r (out.map encK),.b put,.i i]/\i<=l.length/\out.length<=2*i/\finF x out put (l.drop i)=finF x [] (decide (p=[])) l,λvs=>l.length - (vs.getD 3 (.i 0)).toI.toNat,⟨0,_,[],_,rfl,by omega,by simp,rfl⟩,?_⟩;rintro _ - ⟨i,u,out,put,rfl,hi,hol,hf⟩;simp only[Tree.goal,X.P,X.ev,SV.ev,CV.ev,Sc.ev,qz,QA,QB,QC,QD,QE,QF,QG,QH,QI,QJ,QK,QL,QM,Nat.reduceAdd,qy3,qy4,gK0,gK1,gK2,List.nil_append,qy11,List.length_cons,List.length_nil];refine⟨λh2=>?_,λh2=>?_⟩
  ·rw[Z127 l i (by omega),finF,hx1]at hf;refine⟨.inr (by omega),?_⟩;refine⟨[.b (Zm n (l.getD i kD).1)],rfl,λ_ w' _=>Zc7 w' n _ (Nat.lt_trans hn (by decide)),?_⟩;simp only[Tree.goal,X.P,X.ev,SV.ev,CV.ev,Sc.ev,qz,QA,QB,QC,QD,QE,QF,QG,QH,QI,QJ,QK,QL,QM,Nat.reduceAdd,qy3,qy4,gK0,gK1,gK2,List.nil_append,qy11,List.length_cons,List.length_nil];refine⟨λh3 v1=>⟨by omega,λv2=>⟨by omega,λh4 v3=>⟨by omega,λv4=>⟨by omega,by omega,⟨i+1,v4,out++[x]++[l.getD i kD],true,?_,by omega,?_,?_⟩,by omega⟩⟩,λh4=>⟨by omega,by omega,⟨i+1,v2,out++[x],true,?_,by omega,?_,?_⟩,by omega⟩⟩⟩,λh3=>⟨by omega,λh4 v1=>⟨by omega,λv2=>⟨by omega,by omega,⟨i+1,v2,out++[l.getD i kD],put,?_,by omega,?_,?_⟩,by omega⟩⟩,λh4=>⟨by omega,by omega,⟨i+1,u,out,put,rfl,by omega,by omega,?_⟩,by omega⟩⟩⟩
   ·simp[encK]
   ·simp;omega
   ·rw[if_pos h3,if_neg h4,h3.2,Bool.or_true]at hf;exact hf
   ·simp[encK]
   ·simp;omega
   ·rw[if_pos h3,if_pos (qy9.1 h4),h3.2,Bool.or_true]at hf;exact hf
   ·simp[encK]
   ·simp;omega
   ·have hp:(put || Zm n (l.getD i kD).1)=put:=by
     cases put
     ·cases hlt:Zm n (l.getD i kD).1
      ·rfl
      ·exact absurd ⟨by decide,hlt⟩ h3
     ·rfl
    simp only[if_neg h3,if_neg h4,hp]at hf;exact hf
   ·have hp:(put || Zm n (l.getD i kD).1)=put:=by
     cases put
     ·cases hlt:Zm n (l.getD i kD).1
      ·rfl
      ·exact absurd ⟨by decide,hlt⟩ h3
     ·rfl
    simp only[if_neg h3,if_pos (qy9.1 h4),hp]at hf;exact hf
  ·have:i=l.length:=by omega
   subst this;rw[List.drop_length,finF]at hf;refine⟨λh3 v1=>⟨by omega,λv2=>⟨λh4 w' hr=>?_,λh4 w' hr=>?_⟩⟩,λh3=>⟨λh4 w' hr=>?_,λh4 w' hr=>?_⟩⟩
   ·rw[if_neg h3]at hf;rw[<- hf,if_pos (by simpa using h4)];exact⟨_,rfl,Z62 _,Z89 _,hr.mod⟩
   ·rw[if_neg h3]at hf;rw[<- hf,if_neg (by simpa using h4)];have h0:=(hr.at_ 0 rfl).reads;refine⟨v2,rfl,?_,hr.fresh 0 rfl,hr.mod⟩;simp only[Tree.goal,X.P,X.ev,SV.ev,CV.ev,Sc.ev,qz,QA,QB,QC,QD,QE,QF,QG,QH,QI,QJ,QK,QL,QM,Nat.reduceAdd,ex]at h0;rw[Z3o,List.map_append];exact h0
   ·rw[if_pos (qy9.1 h3)]at hf;rw[<- hf,if_pos h4];exact⟨_,rfl,Z62 _,Z89 _,hr.mod⟩
   ·rw[if_pos (qy9.1 h3)]at hf;rw[<- hf,if_neg h4];exact⟨u,rfl,(hr.at_ 1 rfl).reads,hr.fresh 1 rfl,hr.mod⟩
def kA:List Kp:=[([97,47,98],[49],1),([99],[50],7)]
theorem Z15l(w:World):Calls Tryz.prog 112 #[] w λe w'=>gotL w w' e kA:=by refine Z1 (Z8 (J:=[]) sxE_ok Tryz.func112 Z7t rfl rfl rfl ?_) rfl;simp only[Tree.goal,X.P,X.ev,SV.ev,CV.ev,Sc.ev,qz,QA,QB,QC,QD,QE,QF,QG,QH,QI,QJ,QK,QL,QM,Nat.reduceAdd];exact λv0 w' hr=>⟨v0,rfl,(hr.at_ 0 rfl).reads,hr.fresh 0 rfl,hr.mod⟩
def newX(l:List Kp)(n p:List UInt8):List Kp:=if p=[]then[]else[(n,p,match miK l n with|k::_=>minV k.2.2 | []=>1)]
theorem Z15m{l:List Kp}{n:List UInt8}{x:Kp}(h:x∈loK l n):Zm x.1 n=true:=(List.mem_filter.1 h).2
theorem Z15n{l:List Kp}{n:List UInt8}{x:Kp}(h:x∈hiK l n):Zm n x.1=true:=(List.mem_filter.1 h).2
theorem Zut{l:List Kp}{n p:List UInt8}(h:chkK l=0)(he:(rawK l n p).2=0):(rawK l n p).1=loK l n++newX l n p++hiK l n/\p.length<=200/\(loK l n++newX l n p++hiK l n).length<=16:=by
 obtain⟨k1,k2,k3⟩:=Zu.1 h;rw[<- Zus h]at he⊢;unfold putO at he⊢;have ef:finF (n,p,verF n 1 l) [] (decide (p=[])) l=loK l n++newX l n p++hiK l n:=by
  rw[Zf7 _ l [] _ k3,Zmg,newX];by_cases hp:p=[]
  ·simp[hp]
  ·rcases Zmf (n:=n) k3 with⟨h1,k,h2,h3⟩|⟨h1,h2⟩
   ·simp[hp,h2]
   ·simp[hp,h2]
 rw[ef]at he⊢;split at he
 ·exact absurd he (by decide)
 split at he
 ·exact absurd he (by decide)
 rename_i q1 q2;rw[if_neg q1,if_neg q2];exact⟨rfl,by omega,by omega⟩
theorem Zmh{l:List Kp}{n p:List UInt8}(h:chkK l=0)(hn:chkT n false=0)(he:(rawK l n p).2=0):chkK (rawK l n p).1=0:=by
 obtain⟨k1,k2,k3⟩:=Zu.1 h;obtain⟨e,hp,hl⟩:=Zut h he;rw[e];have hlo:Z6t (loK l n):=k3.sublist List.filter_sublist;have hhi:Z6t (hiK l n):=k3.sublist List.filter_sublist;have hnx:∀x∈newX l n p,x.1=n/\okK x:=by
  intro x hx;unfold newX at hx;split at hx
  ·cases hx
  ·rename_i hp0;rw[qy12]at hx;subst hx;refine⟨rfl,hn,hp0,by simp only;omega,?_,?_⟩
   ·cases hm:miK l n with
    | nil=>simp
    | cons k r =>
     have:=(k2 k (List.mem_filter.1 (show k∈miK l n by rw[hm];exact qy8 ..)).1).2.2.2;simp only[minV];split<;>omega
   ·cases hm:miK l n with
    | nil=>simp
    | cons k r =>
     have:=(k2 k (List.mem_filter.1 (show k∈miK l n by rw[hm];exact qy8 ..)).1).2.2.2;simp only[minV];split<;>omega
 refine Zu.2 ⟨hl,λk hk=>?_,?_⟩
 ·simp only[qy13]at hk;rcases hk with(hk|hk)|hk
  ·exact k2 k (List.mem_filter.1 hk).1
  ·exact(hnx k hk).2
  ·exact k2 k (List.mem_filter.1 hk).1
 ·refine List.pairwise_append.2 ⟨List.pairwise_append.2 ⟨hlo,?_,λa ha b hb=>?_⟩,hhi,λa ha b hb=>?_⟩
  ·unfold newX;split<;>simp
  ·rw[(hnx b hb).1];exact Z15m ha
  ·rcases qy13.1 ha with ha|ha
   ·exact Z26 (Z15m ha) (Z15n hb)
   ·rw[(hnx a ha).1];exact Z15n hb
theorem Z13c{l:List Kp}{n:List UInt8}(h:Z6t l)(hm:∃k∈l,k.1=n):hasK l n=true:=by
 rcases Zmf (n:=n) h with⟨h1,-⟩|⟨-,h2⟩
 ·exact h1
 ·obtain⟨k,hk,he⟩:=hm;have:k∈miK l n:=List.mem_filter.2 ⟨hk,by simp[he]⟩;rw[h2]at this;cases this
open Go
theorem Zku{l:List Wt}(h:Zj l=0):l.length<=20:=(Z1e.1 h).1
theorem Zuu{l:List Wt}(n:List UInt8)(h:Zj l=0):(rdOf n l).length<=20:=by have:=Zif n l [];have:=Zku h;simp only[List.length_nil]at *;exact Nat.le_trans (by assumption) (by omega)
theorem Z13d{l:List Wt}(h:Zj l=0):Zyc l:=Zgq (Z1e.1 h).2.2
theorem Zis{l:List Wt}{n:List UInt8}(h:Zj l=0){y:Rd}(hy:y∈rdOf n l):∃x∈l,forW n x=true/\x.1=y.1/\x.2.2=y.2:=by
 have h1:=((Ztr (n:=n) (Z13d h)).2 y.1 y.2).1 hy;rcases Ztp (λw hw=>(Zkj h w hw).2.2.1) h1 with h2|h2
 ·cases h2
 ·exact h2
abbrev clsS(l:List Ses):List (List UInt8):=l.map (·.cl)
theorem Zuv{l:List Ses}:Z67 l↔(clsS l).Pairwise λa b=>Ze a b=true:=by rw[Z67,clsS,List.pairwise_map]
def Zqr:Option (List UInt8)->List UInt8->Bool
 | none,_=>true
 | some c,d=>Ze c d
theorem Zh1(p:Option (List UInt8))(s:Ses)(l:List Ses):Zbr p (s::l)=if ¬chkS s=0 then chkS s else if Zqr p s.cl=true then Zbr (some s.cl) l else 4:=by cases p<;>rfl
theorem Zkv{p:Option (List UInt8)}{d:List UInt8}:Zqr p d=true↔∀t,p=some t->Ze t d=true:=by cases p<;>simp[Zqr]
theorem Zav:∀(l:List Ses) (p:Option (List UInt8)),Zbr p l=0↔(∀s∈l,chkS s=0)/\Z67 l/\∀t,p=some t->∀s∈l,Ze t s.cl=true
 | [],p=>by simp[Zbr,Z67]
 | s::l,p=>by
  rw[Zh1];constructor
  ·intro h;split at h
   ·exact absurd h (by assumption)
   rename_i h1;split at h
   ·rename_i h5;obtain⟨i1,i2,i3⟩:=(Zav l (some s.cl)).1 h;refine⟨λx hx=>?_,List.pairwise_cons.2 ⟨λx hx=>i3 _ rfl x hx,i2⟩,λt ht x hx=>?_⟩
    ·rcases List.mem_cons.1 hx with rfl|hx
     ·exact qy9.1 h1
     ·exact i1 x hx
    ·have h6:=Zkv.1 h5 t ht;rcases List.mem_cons.1 hx with rfl|hx
     ·exact h6
     ·exact Z1c h6 (i3 _ rfl x hx)
   ·exact absurd h (by decide)
  ·rintro⟨i1,i2,i3⟩;obtain⟨j1,j2⟩:=List.pairwise_cons.1 i2;rw[if_neg (qy9.2 (i1 s (qy8 ..))),if_pos (Zkv.2 λt ht=>i3 t ht s (qy8 ..))];exact(Zav l (some s.cl)).2 ⟨λx hx=>i1 x (qy10 _ hx),j2,λt ht x hx=>by cases ht;exact j1 x hx⟩
theorem Z6b{l:List Ses}:Z4y l=0↔l.length<=6/\(∀s∈l,SesOk s)/\Z67 l:=by
 unfold Z4y;constructor
 ·intro h;split at h
  ·exact absurd h (by decide)
  ·obtain⟨a,b,-⟩:=(Zav l none).1 h;exact⟨by omega,λs hs=>Zon.1 (a s hs),b⟩
 ·rintro⟨a,b,c⟩;rw[if_neg (by omega)];exact(Zav l none).2 ⟨λs hs=>Zon.2 (b s hs),c,λt ht=>by cases ht⟩
structure BOk(t:Tel):Prop where
 kept:chkK t.kept=0
 wants:Zj t.wants=0
 ns:t.sess.length<=6
 ses:∀s∈t.sess,SesOk s
 sort:Z67 t.sess
 wat:Zy t.wat=0
 has:∀w∈t.wants,hasS t.sess w.1=true
 kpt:∀w∈t.wat,hasK t.kept w.2.2.1=true
 next:0<=t.next/\t.next<=65535
theorem Zaw{t:Tel}:chkB t=0↔BOk t:=by
 unfold chkB;constructor
 ·intro h;split at h
  ·exact absurd h (by assumption)
  rename_i h1;split at h
  ·exact absurd h (by assumption)
  rename_i h2;split at h
  ·exact absurd h (by assumption)
  rename_i h3;split at h
  ·exact absurd h (by assumption)
  rename_i h4;split at h
  ·exact absurd h (by decide)
  rename_i h5;split at h
  ·exact absurd h (by decide)
  rename_i h6;obtain⟨a,b,c⟩:=Z6b.1 (qy9.1 h3);have h5:Z16 t=false:=by simpa using h5
  simp only[Z16,Bool.or_eq_false_iff,List.any_eq_false]at h5;exact⟨qy9.1 h1,qy9.1 h2,a,b,c,qy9.1 h4,λw hw=>by simpa using h5.1 w hw,λw hw=>by simpa using h5.2 w hw,by omega⟩
 ·intro h;have h5:Z16 t=false:=by
   simp only[Z16,Bool.or_eq_false_iff,List.any_eq_false];exact⟨λw hw=>by rw[h.has w hw];decide,λw hw=>by rw[h.kpt w hw];decide⟩
  have:=h.next;rw[if_neg (qy9.2 h.kept),if_neg (qy9.2 h.wants),if_neg (qy9.2 (Z6b.2 ⟨h.ns,h.ses,h.sort⟩)),if_neg (qy9.2 h.wat),if_neg (by rw[h5];decide),if_neg (by omega)]
theorem Zmi(l:List Ses)(c:List UInt8):idxS l c<=l.length:=List.length_filter_le _ _
theorem Z80{l:List Ses}{c:List UInt8}(h:hasS l c=true):idxS l c<l.length/\(l.getD (idxS l c) s0).cl=c:=of_decide_eq_true h
theorem Zop{l:List Ses}{i:Nat}(h:i<l.length):l.getD i s0∈l:=by rw[qy1,qy7 h];exact List.getElem_mem h
theorem Z15o:∀{l:List Ses} (c:List UInt8),Z67 l->l=l.filter (λs=>Ze s.cl c)++l.filter (λs=>!Ze s.cl c)
 | [],_,_=>rfl
 | s::l,c,h=>by
  obtain⟨h1,h2⟩:=List.pairwise_cons.1 h;have ih:=Z15o c h2;cases hs:Ze s.cl c with
  | true =>
   rw[List.filter_cons,List.filter_cons,if_pos hs,if_neg (by rw[hs];decide),List.cons_append,<- ih]
  | false =>
   have e1:l.filter (λs=>Ze s.cl c)=[]:=by rw[List.filter_eq_nil_iff];intro x hx hxc;have:=Z1c (h1 x hx) hxc;rw[hs]at this;cases this
   rw[List.filter_cons,List.filter_cons,if_neg (by rw[hs];decide),if_pos (by rw[hs];rfl),e1,List.nil_append];rw[e1,List.nil_append]at ih;rw[<- ih]
theorem Zuw{l:List Ses}{c:List UInt8}(h:Z67 l):l.drop (idxS l c)=l.filter λs=>!Ze s.cl c:=by exact(congrArg (List.drop (idxS l c)) (Z15o c h)).trans (List.drop_left' rfl)
theorem Zdl{l:List Ses}{c:List UInt8}(h:Z67 l):hasS l c=true↔c∈clsS l:=by
 constructor
 ·intro h1;obtain⟨h2,h3⟩:=Z80 h1;exact List.mem_map.2 ⟨_,Zop h2,h3⟩
 ·intro h1;obtain⟨s,hs,rfl⟩:=List.mem_map.1 h1;have h2:s∈l.drop (idxS l s.cl):=by
   rw[Zuw h];exact List.mem_filter.2 ⟨hs,by rw[Z1j];rfl⟩
  obtain⟨i,hi,e⟩:=List.mem_iff_getElem.1 h2;have hi':idxS l s.cl+i<l.length:=by simp at hi;omega
  rw[List.getElem_drop]at e;have hlt:idxS l s.cl<l.length:=by omega
  refine decide_eq_true ⟨hlt,?_⟩;rcases Nat.eq_zero_or_pos i with h0|h0
  ·subst h0;rw[qy1,qy7 hlt];exact congrArg Ses.cl e
  ·have hm:l[idxS l s.cl]∈l.drop (idxS l s.cl):=List.mem_iff_getElem.2 ⟨0,by simp;omega,by simp⟩;rw[Zuw h]at hm;have h3:=(List.mem_filter.1 hm).2;have h4:Ze (l[idxS l s.cl]).cl (l[idxS l s.cl+i]).cl=true:=by
    rw[Z67,List.pairwise_iff_getElem]at h;exact h _ _ hlt hi' (by omega)
   rw[e]at h4;rw[h4]at h3;cases h3
theorem Zux{l:List Ses}{i:Nat}{s:Ses}(h:s.cl=(l.getD i s0).cl):clsS (l.set i s)=clsS l:=by
 rw[clsS,List.map_set,h];by_cases hi:i<l.length
 ·refine List.ext_getElem? λj=>?_;rw[List.getElem?_set];by_cases hij:i=j
  ·subst hij;simp[qy1,qy7 hi,hi]
  ·rw[if_neg hij]
 ·rw[List.set_eq_of_length_le (by simpa using hi)]
theorem Zoq{l l':List Ses}(h:Z67 l)(e:clsS l'=clsS l):Z67 l':=by rw[Zuv]at h⊢;rw[e];exact h
theorem Zf8{l l':List Ses}{c:List UInt8}(h:Z67 l)(e:clsS l'=clsS l):hasS l' c=hasS l c:=by rw[Bool.eq_iff_iff,Zdl h,Zdl (Zoq h e),e]
theorem Z13e{l l':List Ses}(e:clsS l'=clsS l):l'.length=l.length:=by simpa using congrArg List.length e
theorem BOk.sess{t:Tel}(h:BOk t){l:List Ses}(e:clsS l=clsS t.sess)(ok:∀s∈l,SesOk s):BOk { t with sess:=l } :=
 ⟨h.kept,h.wants,by have:=h.ns;have:=Z13e e;simp only;omega,ok,Zoq h.sort e,h.wat,λw hw=>by rw[Zf8 h.sort e];exact h.has w hw,h.kpt,h.next⟩
theorem BOk.out{t:Tel}(h:BOk t)(l:List Snt):BOk { t with out:=l }:=⟨h.kept,h.wants,h.ns,h.ses,h.sort,h.wat,h.has,h.kpt,h.next⟩
theorem Zcb(n:Int)(h:0<=n):0<=nx_Z n/\nx_Z n<=65535:=by unfold nx_Z;omega
theorem Zcc{t:Tel}(h:BOk t){c:List UInt8}(hc:hasS t.sess c=true):SesOk (t.sess.getD (idxS t.sess c) s0):=h.ses _ (Zop (Z80 hc).1)
theorem Z8c(on:Bool):∀(qu fl:List Fl) (next:Int) (out:List Pk),(flyR on fl qu next out).2.2.2.length<=out.length+qu.length
 | [],fl,next,out=>by simp[flyR]
 | f::q,fl,next,out=>by
  rw[flyR];split
  ·refine Nat.le_trans (Z8c on q _ _ _) ?_;simp;omega
  ·simp
theorem Zmj(s:Ses)(n p:List UInt8)(q:Int):(Z1v s n p q).1.cl=s.cl:=by unfold Z1v;split;rfl;split<;>rfl
theorem Zit(s:Ses)(n p:List UInt8)(q:Int):(Z1v s n p q).1.on=s.on/\(Z1v s n p q).1.clean=s.clean:=by unfold Z1v;split;exact⟨rfl,rfl⟩;split<;>exact⟨rfl,rfl⟩
theorem Zbt{s:Ses}(n p:List UInt8)(q:Int)(h:s.qu.length<=6):(Z1v s n p q).2.length<=7:=by
 unfold Z1v;split
 ·simp
 ·split
  ·have:=Z8c s.on (s.qu++[(0,n,p)]) s.fl s.next [];simp only[qy11,List.length_cons,List.length_nil]at this
   show(flyR s.on s.fl (s.qu++[(0,n,p)]) s.next []).2.2.2.length<=7
   omega
  ·simp
theorem Z13f{s:Ses}{n p:List UInt8}{q:Int}(h:SesOk s)(hp:flE (0,n,p)=0):SesOk (Z1v s n p q).1:=by
 unfold Z1v;split
 ·exact h
 ·split
  ·rename_i h2;have h1:∀f∈s.qu++[(0,n,p)],flE f=0/\f.1=0:=by
    intro x hx;rcases qy13.1 hx with hx|hx
    ·exact h.qu x hx
    ·rw[qy12.1 hx];exact⟨hp,rfl⟩
   exact(Z136 (s:={ s with qu:=s.qu++[(0,n,p)] }) h.cl h.nf (by have:=h2.2;simp;omega) h.fl h1 h.next h2.1.2).1
  ·exact h
theorem Z10n{t:Tel}(h:BOk t){i:Nat}{s:Ses}(hs:SesOk s):∀x∈t.sess.set i s,SesOk x:=λx hx=>by
 rcases List.mem_or_eq_of_mem_set hx with hx|rfl
 ·exact h.ses x hx
 ·exact hs
theorem Zor{t:Tel}{n p:List UInt8}{q:Int}{r:Rd}(h:BOk t)(hp:flE (0,n,p)=0)(hr:hasS t.sess r.1=true):BOk (Z19 n p q t r)/\clsS (Z19 n p q t r).sess=clsS t.sess/\(Z19 n p q t r).out.length<=t.out.length+7:=by have hs:=Zcc h hr;have e:clsS (t.sess.set (idxS t.sess r.1) (Z1v (t.sess.getD (idxS t.sess r.1) s0) n p (min q r.2)).1)=clsS t.sess:=Zux (Zmj _ _ _ _);refine⟨(h.sess e (Z10n h (Z13f hs hp))).out _,e,?_⟩;have:=Zbt (s:=t.sess.getD (idxS t.sess r.1) s0) n p (min q r.2) hs.nq;simp only[Z19,qy11,qy3];omega
theorem Z81{n p:List UInt8}{q:Int}(hp:flE (0,n,p)=0):∀(rs:List Rd) {t:Tel},BOk t->(∀r∈rs,hasS t.sess r.1=true) -> BOk (rs.foldl (Z19 n p q) t)/\clsS (rs.foldl (Z19 n p q) t).sess=clsS t.sess/\(rs.foldl (Z19 n p q) t).out.length<=t.out.length+7*rs.length /\ (rs.foldl (Z19 n p q) t).kept=t.kept/\(rs.foldl (Z19 n p q) t).wants=t.wants/\(rs.foldl (Z19 n p q) t).wat=t.wat/\(rs.foldl (Z19 n p q) t).next=t.next
 | [],t,h,_=>⟨h,rfl,by simp,rfl,rfl,rfl,rfl⟩
 | r::rs,t,h,hr=>by obtain⟨a,b,c⟩:=Zor (q:=q) h hp (hr r (qy8 ..));obtain⟨a',b',c',d'⟩:=Z81 hp rs a (λx hx=>by rw[Zf8 h.sort b];exact hr x (qy10 _ hx));refine⟨a',b'.trans b,?_,d'⟩;simp only[List.foldl_cons,List.length_cons]at c'⊢;omega
theorem Z4q{t:Tel}(h:BOk t)(n:List UInt8):∀r∈rdOf n t.wants,hasS t.sess r.1=true:=λr hr=>by obtain⟨x,hx,-,e,-⟩:=Zis h.wants hr;rw[<- e];exact h.has x hx
theorem watN{l:List Wat}(h:Zy l=0):okN l:=λx hx=>((Zr.1 h).2.1 x hx).2
theorem Z13g{l:List Wat}(n:List UInt8)(h:Zy l=0):Z28 n l=advL 1 n l:=by
 have h1:=watN h;conv=>lhs;rw[<- Zz0 (n:=n) h1]
 rw[Zyz h1];rfl
theorem Zz1{l:List Wat}{n:List UInt8}(h:Zy l=0):Zy (Z28 n l)=0:=by rw[Z13g n h];exact Z13a h
theorem Zz2{l:List Wat}{n:List UInt8}{w:Wat}(h:w∈Z28 n l):∃x∈l,x.1=w.1/\x.2.1=w.2.1/\x.2.2.1=w.2.2.1:=by obtain⟨x,hx,rfl⟩:=List.mem_map.1 h;refine⟨x,hx,?_⟩;unfold Z3x;split<;>exact⟨rfl,rfl,rfl⟩
theorem Zos(p:List UInt8):∀(l:List Wat) (t:Tel),0<=t.next/\t.next<=65535->(l.foldl (Z39 p) t).kept=t.kept/\(l.foldl (Z39 p) t).wants=t.wants/\(l.foldl (Z39 p) t).sess=t.sess/\(l.foldl (Z39 p) t).wat=t.wat/\(0<=(l.foldl (Z39 p) t).next/\(l.foldl (Z39 p) t).next<=65535)/\(l.foldl (Z39 p) t).out.length=t.out.length+l.length
 | [],t,h=>⟨rfl,rfl,rfl,rfl,h,rfl⟩
 | w::l,t,h=>by obtain⟨a,b,c,d,e,f⟩:=Zos p l (Z39 p t w) (Zcb _ h.1);refine⟨a,b,c,d,e,?_⟩;rw[List.foldl_cons,f];simp[Z39];omega
theorem Zcd:∀(l:List Wat) (t:Tel),0<=t.next/\t.next<=65535->(l.foldl Z7k t).kept=t.kept/\(l.foldl Z7k t).wants=t.wants/\(l.foldl Z7k t).sess=t.sess/\(l.foldl Z7k t).wat=t.wat/\(0<=(l.foldl Z7k t).next/\(l.foldl Z7k t).next<=65535)/\(l.foldl Z7k t).out.length=t.out.length+l.length
 | [],t,h=>⟨rfl,rfl,rfl,rfl,h,rfl⟩
 | w::l,t,h=>by obtain⟨a,b,c,d,e,f⟩:=Zcd l (Z7k t w) (Zcb _ h.1);refine⟨a,b,c,d,e,?_⟩;rw[List.foldl_cons,f];simp[Z7k];omega
theorem Z9h(n:List UInt8){l:List Wat}(h:Zy l=0):(Z2k n l).length<=12:=by have:=(Zr.1 h).1;have h2:(l.filter λw=>decide (w.2.2.1=n)).length<=l.length:=List.length_filter_le _ _;rw[Z2k,qy3];omega
theorem Zz3{t:Tel}{n p:List UInt8}{q:Int}(h:BOk t)(hp:flE (0,n,p)=0):BOk (Z68 n p q t)/\clsS (Z68 n p q t).sess=clsS t.sess/\(Z68 n p q t).kept=t.kept/\(Z68 n p q t).wants=t.wants/\(Z68 n p q t).out.length<=t.out.length+152:=by
 obtain⟨a,b,c,d1,d2,d3,d4⟩:=Z81 (q:=q) hp (rdOf n t.wants) h (Z4q h n);have hl:=Zuu n h.wants;have hlt:=Z9h n a.wat;obtain⟨e1,e2,e3,e4,e5,e6⟩:=Zos p (Z2k n (Z5a n p q t).wat) { Z5a n p q t with wat:=Z28 n (Z5a n p q t).wat } a.next;unfold Z68;refine⟨⟨by rw[e1];exact a.kept,by rw[e2];exact a.wants,by rw[e3];exact a.ns,by rw[e3];exact a.ses,by rw[e3];exact a.sort,by rw[e4];exact Zz1 a.wat,λw hw=>?_,λw hw=>?_,e5⟩,by rw[e3];exact b,by rw[e1];exact d1,by rw[e2];exact d2,?_⟩
 ·rw[e2]at hw;rw[e3];exact a.has w hw
 ·rw[e4]at hw;rw[e1];obtain⟨x,hx,-,-,e⟩:=Zz2 hw;rw[<- e];exact a.kpt x hx
 ·rw[e6];simp only[Z5a]at hlt⊢;omega
theorem Zot{l:List Kp}{n:List UInt8}(h:Z6t l):hasK l n=true↔∃k∈l,k.1=n:=by
 constructor
 ·intro h1;obtain⟨h2,h3⟩:=of_decide_eq_true h1;refine⟨_,?_,h3⟩;rw[qy1,qy7 h2];exact List.getElem_mem h2
 ·exact Z13c h
theorem Zkw{l:List Kp}(h:chkK l=0):Z6t l:=(Zu.1 h).2.2
theorem Zou{l:List Kp}{n p m:List UInt8}(h:chkK l=0)(hn:chkT n false=0)(he:(rawK l n p).2=0)(hm:m≠n\/p≠[])(hk:hasK l m=true):hasK (rawK l n p).1 m=true:=by
 have hs:=Zkw h;have hs':=Zkw (Zmh h hn he);obtain⟨k,hkm,rfl⟩:=(Zot hs).1 hk;rw[Zot hs',(Zut h he).1];by_cases e:k.1=n
 ·have hp:p≠[]:=hm.resolve_left (λh=>h e);refine⟨_,List.mem_append_left _ (List.mem_append_right _ (by rw[newX,if_neg hp];exact qy12.2 rfl)),e.symm⟩
 ·cases h1:Zm k.1 n with
  | true=>exact⟨k,List.mem_append_left _ (List.mem_append_left _ (List.mem_filter.2 ⟨hkm,h1⟩)),rfl⟩
  | false =>
   rcases Z3e.1 h1 with h2|h2
   ·exact⟨k,List.mem_append_right _ (List.mem_filter.2 ⟨hkm,h2⟩),rfl⟩
   ·exact absurd h2.symm e
theorem Zkx{l:List Wat}{p:Wat->Bool}(h:Zy l=0):Zy (l.filter p)=0:=by obtain⟨a,b,c⟩:=Zr.1 h;exact Zr.2 ⟨Nat.le_trans (List.length_filter_le _ _) a,λx hx=>b x (List.mem_filter.1 hx).1,c.filter _⟩
theorem Zuy{l:List Wt}{p:Wt->Bool}(h:Zj l=0):Zj (l.filter p)=0:=by obtain⟨a,b,c⟩:=Z1e.1 h;exact Z1e.2 ⟨Nat.le_trans (List.length_filter_le _ _) a,λx hx=>b x (List.mem_filter.1 hx).1,c.filter _⟩
theorem Zuz{l:List Wat}(p:Wat->Bool)(h:Zy l=0):(l.filter p).length<=12:=Nat.le_trans (List.length_filter_le _ _) (Zr.1 h).1
theorem Z74{t:Tel}{n p:List UInt8}(h:BOk t)(hn:chkT n false=0):BOk (Zx n p t).1/\(Zx n p t).1.sess=t.sess/\(Zx n p t).1.wants=t.wants/\(Zx n p t).1.out.length<=t.out.length+12:=by
 unfold Zx;split
 ·exact⟨h,rfl,rfl,by simp⟩
 rename_i h1;have h1:=qy9.1 h1;split
 ·rename_i h2;exact⟨⟨Zmh h.kept hn h1,h.wants,h.ns,h.ses,h.sort,h.wat,h.has,λw hw=>Zou h.kept hn h1 (.inr h2) (h.kpt w hw),h.next⟩,rfl,rfl,by simp⟩
 ·rename_i h2;obtain⟨e1,e2,e3,e4,e5,e6⟩:=Zcd (t.wat.filter (ofT n)) { t with kept:=(rawK t.kept n p).1 } h.next;have hl:=Zuz (ofT n) h.wat;refine⟨⟨by simp only[e1];exact Zmh h.kept hn h1,by simp only[e2];exact h.wants,by simp only[e3];exact h.ns,by simp only[e3];exact h.ses,by simp only[e3];exact h.sort,Zkx h.wat,λw hw=>?_,λw hw=>?_,e5⟩,e3,e2,?_⟩
  ·simp only[e2]at hw;simp only[e3];exact h.has w hw
  ·have hw':=List.mem_filter.1 hw;simp only[e1];refine Zou h.kept hn h1 (.inl λe=>?_) (h.kpt w hw'.1);have:=hw'.2;rw[ofT,decide_eq_true e]at this;cases this
  ·simp only[e6];omega
theorem Zz4{t:Tel}(h:BOk t)(c:List UInt8):BOk (Zcu c t)/\(Zcu c t).out=t.out:=by
 unfold Zcu;split
 ·rename_i h1;obtain⟨hi,hc⟩:=Z80 h1;split
  ·refine⟨⟨h.kept,Zuy h.wants,?_,λs hs=>?_,?_,h.wat,λw hw=>?_,h.kpt,h.next⟩,rfl⟩
   ·have:=h.ns;simp[Zol];omega
   ·rcases qy13.1 hs with hs|hs
    ·exact h.ses s (List.mem_of_mem_take hs)
    ·exact h.ses s (List.mem_of_mem_drop hs)
   ·have:(t.sess.take (idxS t.sess c)++t.sess.drop (idxS t.sess c+1)).Sublist t.sess:=by
     conv=>rhs;rw[<- List.take_append_drop (idxS t.sess c) t.sess]
     refine List.Sublist.append (List.Sublist.refl _) ?_;rw[<- List.drop_drop];exact List.drop_sublist _ _
    exact h.sort.sublist this
   ·obtain⟨hw1,hw2⟩:=List.mem_filter.1 hw;have hw2:¬w.1=c:=by simpa using hw2
    have hh:=(Zdl h.sort).1 (h.has w hw1);obtain⟨s,hs,e⟩:=List.mem_map.1 hh;have hsub:(t.sess.take (idxS t.sess c)++t.sess.drop (idxS t.sess c+1)).Sublist t.sess:=by
     conv=>rhs;rw[<- List.take_append_drop (idxS t.sess c) t.sess]
     refine List.Sublist.append (List.Sublist.refl _) ?_;rw[<- List.drop_drop];exact List.drop_sublist _ _
    refine(Zdl (h.sort.sublist hsub)).2 (List.mem_map.2 ⟨s,?_,e⟩);have hs':=hs;rw[<- List.take_append_drop (idxS t.sess c) t.sess]at hs';rcases qy13.1 hs' with hs' | hs'
    ·exact List.mem_append_left _ hs'
    ·refine List.mem_append_right _ ?_;rw[List.drop_eq_getElem_cons hi]at hs';rcases List.mem_cons.1 hs' with hs' | hs'
     ·exfalso;rw[qy1,qy7 hi]at hc;have hc:(t.sess[idxS t.sess c]).cl=c:=hc;rw[<- hs']at hc;exact hw2 (e.symm.trans hc)
     ·exact hs'
  ·have e:clsS (t.sess.set (idxS t.sess c) (goR (t.sess.getD (idxS t.sess c) s0)))=clsS t.sess:=Zux rfl;exact⟨h.sess e (Z10n h (Z17a (Zcc h h1)).1),rfl⟩
 ·exact⟨h,rfl⟩
theorem Zov{l:List Ses}{c:List UInt8}(h:hasS l c=true):insS l c=l:=by rw[insS,if_pos h]
theorem Zz5{l:List Ses}{c:List UInt8}(h:¬hasS l c=true)(s:Ses):(insS l c).set (idxS l c) s=l.take (idxS l c)++[s]++l.drop (idxS l c)/\(insS l c).getD (idxS l c) s0=⟨[],false,true,[],[],0⟩/\idxS l c<(insS l c).length/\(insS l c).length=l.length+1:=by
 have:=Zmi l c;have hl:(l.take (idxS l c)).length=idxS l c:=by simp;omega
 rw[insS,if_neg h,List.append_assoc];refine⟨?_,?_,by simp;omega,by simp;omega⟩
 ·rw[List.set_append_right _ _ (by omega),hl,Nat.sub_self,List.append_assoc];rfl
 ·rw[qy1,List.getElem?_append_right (by omega),hl,Nat.sub_self];rfl
theorem Zv0{l:List Ses}{c:List UInt8}{cl:Bool}(h:Zcv l c cl=true):hasS l c=true/\cl=false/\(l.getD (idxS l c) s0).clean=false:=by
 unfold Zcv at h;simp only[Bool.and_eq_true,Bool.not_eq_true']at h;by_cases h1:hasS l c=true
 ·rw[Zov h1]at h;exact⟨h1,h.2,h.1⟩
 ·rw[(Zz5 h1 s0).2.1]at h;exact absurd h.1 (by decide)
theorem Zz6{t:Tel}(h:BOk t){c:List UInt8}(hc:Zz c=true)(cl:Bool):SesOk (Zez t.sess c cl)/\(Zez t.sess c cl).cl=c:=by
 unfold Zez;by_cases hk:Zcv t.sess c cl=true
 ·obtain⟨h1,h2,h3⟩:=Zv0 hk;rw[if_pos hk,Zov h1];have a:=Zcc h h1;subst h2;exact⟨⟨a.cl,a.nf,a.nq,a.fl,a.qu,a.next,λ_ h=>Bool.noConfusion h,a.full⟩,(Z80 h1).2⟩
 ·rw[if_neg hk];exact⟨⟨hc,by simp,by simp,.nil,by simp,by simp,λ_ _=>⟨rfl,rfl⟩,λ_ h=>absurd rfl h⟩,rfl⟩
theorem Zv1{s:Ses}(h:SesOk s):(Zm3 s).2.length<=9:=by have h1:=Z8c true s.qu s.fl s.next [];have h2:=h.nf;have h3:=h.nq;simp only[Zm3,flyS,qy11,qy3,List.length_nil]at h1⊢;omega
theorem Zv2{s:Ses}(id:Int)(h:SesOk s):(Z7j s id).2.length<=6:=by have h1:=Z8c s.on s.qu (Zbl s.fl id) s.next [];have h3:=h.nq;simp only[Z7j,flyS,List.length_nil]at h1⊢;omega
theorem Zz7{l:List Wt}{x:Wt}(h:Zj l=0)(h0:(rawW l x).2=0):∀w∈(rawW l x).1,w=x\/w∈l:=λw hw=>by
 rw[Zma (Z1e.1 h).2.2 h0]at hw;rcases qy13.1 hw with hw|hw
 ·rcases qy13.1 hw with hw|hw
  ·exact .inr (List.mem_filter.1 hw).1
  ·exact .inl (qy12.1 hw)
 ·exact .inr (List.mem_filter.1 hw).1
def Zow(l:List Ak):Prop:=∀a∈l,chkT a.1 true=0/\0<=a.2/\a.2<=1
theorem Z13h{c:List UInt8}{a:Ak}(hc:Zz c=true)(ha:chkT a.1 true=0/\0<=a.2/\a.2<=1):Z2u (c,a.1,a.2)=0:=by unfold Z2u;have hc':cliB c=true:=hc;rw[if_pos hc',askE,if_pos ha.1,if_pos ha.2]
theorem Z13i{c:List UInt8}{a:Ak}{x:List Wt×List Int}(hc:Zz c=true)(ha:chkT a.1 true=0/\0<=a.2/\a.2<=1)(h:Zj x.1=0):Zj (Z5b c x a).1=0/\(∀w∈(Z5b c x a).1,w.1=c\/w∈x.1):=by
 unfold Z5b;split
 ·rename_i h0;refine⟨Z12q h (Z13h hc ha) h0,λw hw=>?_⟩;rcases Zz7 h h0 w hw with rfl|hw
  ·exact .inl rfl
  ·exact .inr hw
 ·exact⟨h,λw hw=>.inr hw⟩
theorem Zv3{c:List UInt8}(hc:Zz c=true):∀(l:List Ak) {x:List Wt×List Int},Zow l->Zj x.1=0->Zj (l.foldl (Z5b c) x).1=0/\(∀w∈(l.foldl (Z5b c) x).1,w.1=c\/w∈x.1)
 | [],x,_,h=>⟨h,λw hw=>.inr hw⟩
 | a::l,x,hl,h=>by
  obtain⟨h1,h2⟩:=Z13i (x:=x) hc (hl a (qy8 ..)) h;obtain⟨h3,h4⟩:=Zv3 hc l (x:=Z5b c x a) (λy hy=>hl y (qy10 _ hy)) h1;refine⟨h3,λw hw=>?_⟩;rcases h4 w hw with h5|h5
  ·exact .inl h5
  ·exact h2 w h5
theorem Zky(c:List UInt8){kept:List Kp}(h:chkK kept=0):∀(l:List Ak) (m:List Int),(Z69 c kept l m).length<=16*l.length
 | [],_=>by simp[Z69]
 | _::_,[]=>by simp[Z69]
 | a::l,q::m=>by
  have ih:=Zky c h l m;have h1:(Zqo c kept a q).length<=16:=by
   unfold Zqo;split
   ·simp
   ·rw[qy3];exact Nat.le_trans (List.length_filter_le _ _) (Zu.1 h).1
  rw[Z69,qy11,List.length_cons];omega
theorem Zmk{p:Pkt}(h:chkP p=0):Z2c p=0/\(p.kind=3->pubE p=0)/\(idB p=true->1<=p.id/\p.id<=65535)/\Zc8 (Z27 p)=true:=by
 unfold chkP at h;split at h
 ·split at h
  ·rename_i h4;split at h
   ·rename_i h1;exact absurd h h1.2
   rename_i h1;split at h
   ·exact absurd h (by decide)
   rename_i h2;exact⟨h,λh3=>Classical.byContradiction λh4=>h1 ⟨h3,h4⟩,λh3=>Classical.byContradiction λh4=>h2 ⟨h3,h4⟩,h4⟩
  ·exact absurd h (by decide)
 ·exact absurd h (by decide)
theorem Z15p{p:Pkt}(h:pubE p=0):chkT p.topic false=0/\p.payload.length<=200/\0<=p.qos/\p.qos<=1/\flE (0,p.topic,p.payload)=0:=by
 unfold pubE at h;split at h
 ·rename_i h1;split at h
  ·exact absurd h (by decide)
  rename_i h2;split at h
  ·rename_i h3;refine⟨h1,by omega,h3.1,h3.2,?_⟩;rw[flE,if_pos h1,if_neg h2]
  ·exact absurd h (by decide)
 ·exact absurd h (by assumption)
theorem Zh2:∀{l:List Ak},Zfr 8 l=0->Zow l
 | [],_=>λa ha=>absurd ha (by simp)
 | a::l,h=>by
  unfold Zfr at h;simp only[if_pos]at h;split at h
  ·rename_i h1;intro x hx;rcases List.mem_cons.1 hx with rfl|hx
   ·unfold askE at h1;split at h1
    ·rename_i h2;split at h1
     ·rename_i h3;exact⟨h2,h3⟩
     ·exact absurd h1 (by decide)
    ·exact absurd h1 (by assumption)
   ·exact Zh2 h x hx
  ·exact absurd h (by assumption)
theorem Zox{n:Nat}(h:Z59 n=0):1<=n/\n<=5:=by
 unfold Z59 at h;split at h
 ·exact absurd h (by decide)
 split at h
 ·exact absurd h (by decide)
 omega
theorem Z10o{p:Pkt}(h:chkP p=0)(hk:p.kind=8):Zow p.asks/\1<=p.asks.length/\p.asks.length<=5:=by
 have h1:=(Zmk h).1;unfold Z2c at h1;rw[if_neg (by omega),if_neg (by omega),if_neg (by omega),if_pos (.inl hk),Zii]at h1;split at h1
 ·rename_i h2;rw[hk]at h1;exact⟨Zh2 h1,Zox h2⟩
 ·exact absurd h1 (by assumption)
theorem Zax{os:List Opt}(h:(Z10 os).2=0):chkT (Z10 os).1 false=0:=by
 unfold Z10 at h⊢;split at h
 ·exact absurd h (by decide)
 split at h
 ·split at h
  ·exact absurd h (by decide)
  ·rename_i h1 h2 h3;rw[if_neg h1,if_pos h2,if_neg h3];exact h2
 ·rename_i h1 h2;exact absurd h h2
theorem Z13j{t:Tel}(h:BOk t){n:Int}(hn:0<=n/\n<=9){m:Msg}(hm:m.tok.length<=8)(a:Msg){name:List UInt8}(hc:chkT name false=0):BOk (getB n m a name t).1/\(getB n m a name t).1.out=t.out:=by
 unfold getB;split
 ·exact⟨h,rfl⟩
 rename_i h0;have h0:=qy9.1 h0;simp only;split
 ·split
  ·rename_i h2;refine⟨⟨h.kept,h.wants,h.ns,h.ses,h.sort,?_,h.has,λw hw=>?_,h.next⟩,rfl⟩
   ·unfold Z2t at h2⊢;simp only at h2⊢;split at h2
    ·exact absurd h2 (by decide)
    ·rename_i h3;rw[if_neg h3];refine Z137 h.wat ?_ (by omega);unfold Z3d;rw[if_pos hn,if_neg (by omega),hc]
   ·unfold Z2t at h2 hw;simp only at h2 hw;split at h2
    ·exact absurd h2 (by decide)
    ·rename_i h3;rw[if_neg h3]at hw;rcases qy13.1 hw with hw|hw
     ·exact h.kpt w (List.mem_filter.1 hw).1
     ·rw[qy12.1 hw];exact h0
  ·exact⟨h,rfl⟩
 ·split
  ·exact⟨⟨h.kept,h.wants,h.ns,h.ses,h.sort,Zkx h.wat,h.has,λw hw=>h.kpt w (List.mem_filter.1 hw).1,h.next⟩,rfl⟩
  ·exact⟨h,rfl⟩
theorem Z15q{t:Tel}(h:BOk t){n:Int}(hn:0<=n/\n<=9){m:Msg}(hm:chk m=0)(a:Msg):BOk (doB n m a t).1/\(doB n m a t).1.out.length<=t.out.length+164:=by
 obtain⟨-,-,⟨m1,-,m2⟩,-⟩:=Z7x.1 hm;unfold doB;split
 ·exact⟨h,by simp⟩
 rename_i h1;have hp:=Zax (qy9.1 h1);split
 ·obtain⟨x,y⟩:=Z13j h hn m1 a hp;exact⟨x,by rw[y];omega⟩
 split
 ·split
  ·obtain⟨k1,k2,k3,k4⟩:=Z74 (p:=m.pay) h hp;have hf:flE (0,(Z10 m.opts).1,m.pay)=0:=by rw[flE,if_pos hp,if_neg (by simp only;omega)]
   obtain⟨t1,t2,t3,t4,t5⟩:=Zz3 (q:=1) k1 hf;exact⟨t1,by simp only;omega⟩
  ·exact⟨h,by simp⟩
 split
 ·obtain⟨k1,k2,k3,k4⟩:=Z74 (p:=[]) h hp;exact⟨k1,by simp only;omega⟩
 ·exact⟨h,by simp⟩
theorem Zml{t:Tel}(h:BOk t){n:Int}(hn:0<=n/\n<=9){m:Msg}(hm:chk m=0):BOk (Z2z n m t)/\(Z2z n m t).out.length<=t.out.length+165:=by
 have h':BOk { t with next:=if m.kind=1 then nx_Z t.next else t.next,out:=t.out++[toP n (Z1o m t.next)] }:=by
  refine⟨h.kept,h.wants,h.ns,h.ses,h.sort,h.wat,h.has,h.kpt,?_⟩
  show 0<=(if m.kind=1 then nx_Z t.next else t.next)/\(if m.kind=1 then nx_Z t.next else t.next)<=65535
  split
  ·exact Zcb _ h.next.1
  ·exact h.next
 obtain⟨a,b⟩:=Z15q h' hn hm (Z1o m t.next);refine⟨a.out _,?_⟩;simp only[qy11,List.length_cons,List.length_nil]at b;simp only[Z2z,List.length_set];omega
theorem Zmm{t:Tel}(h:BOk t){n:Int}(hn:0<=n/\n<=9){m:Msg}(hm:chk m=0):BOk (Zv n m t)/\(Zv n m t).out.length<=t.out.length+200:=by
 unfold Zv;split
 ·exact⟨h.out _,by simp⟩
 split
 ·have:=Zml h hn hm;exact⟨this.1,by omega⟩
 ·exact⟨h,by omega⟩
open Go
theorem Zz8{B:Base}{J:List V}{hp:List Ent}{w:World}(h:Rel B J hp w)(hb:hp.all (Ent.bd J.length)=true)(k:Nat)(x:TelX)(hA:(Z6 x.sx x.ox).holds w)(hf:∀j,(Z6 x.sx x.ox).fp j->∃e∈hp,e.wr=false/\e.fp J j)(is:List Nat)(hn:is.Nodup) (hs:(is.filterMap λi=>(Ent.st J.length::hp)[i]?).map (Ent.sem (J++[.a (Z6 x.sx x.ox)]))=tlH.map (Ent.sem (tlA k x))):Rel ⟨Zi (tlA k x) tlH,w⟩ (tlA k x) tlH w :=
 (Zks h hb k x hA hf is hn hs).base
theorem Zg{α:Type}{a b:α}{l m:List α}(h1:a=b)(h2:l=m):a::l=b::m:=by rw[h1,h2]
theorem Z2r{J J':List V}{v v' ty:Nat}{ks:List Kd}{r r':X}(h1:J.getD v (.i 0)=J'.getD v' (.i 0))(h2:(r.ev J).toR=(r'.ev J').toR):Ent.sem J (.row v ty ks r)=Ent.sem J' (.row v' ty ks r'):=by simp only[Ent.sem,Ent.holds,Ent.fp,Ent.wr,h1,h2]
theorem toRd{B:Base}{J:List V}{v ty:Nat}{ks:List Kd}{r:X}{hp:List Ent}{w:World}(h:Rel B J (.row v ty ks r::hp) w):Rel B J (.rd v ks r::hp) w :=
 h.tl.cons (owns.reads h.hd) (λhw=>Bool.noConfusion hw) (λe' he' _ k hk hk'=>(List.pairwise_cons.1 h.sep).1 e' he' (.inl rfl) k hk.2 hk')
abbrev tlHw:List Ent:=[.row 3 71 kW_V (.var 4),.rd 1 kK (.var 2),.row 5 64 kSx (.var 6),.row 7 74 kW_K (.var 8),.row 10 97 kSn (.var 11),.st 12,.cells 0 125 [.val (.var 1),.val (.var 3),.val (.var 5),.val (.var 7),.int .i64 (.var 9),.val (.var 10)]]
theorem Zz9{w w3:World}{k:Nat}{x:TelX}{l:List Wt}{u:Value}(h:Rel ⟨Zi (tlA k x) tlH,w⟩ (tlA k { x with wants:=l,wv:=u }) tlHw w3) :
  Rel ⟨Zi (tlA k x) tlH,w⟩ (tlA k { x with wants:=l,wv:=u }) tlH w3/\Grew w.heap.size (λ_=>False) x { x with wants:=l,wv:=u }:=by
 have hnew:∀j,Z2 u j->w.heap.size<=j:=λj hj=>by
  rcases h.own _ (qy6 (i:=0) rfl) rfl j hj with h1|h1
  ·exact h1
  ·exfalso;have key:∀(i:Nat) (e:Ent),tlHw[i]?=some e->i≠0->e.fp (tlA k { x with wants:=l,wv:=u }) j->False:=λi e he hi hf=>h.sep.disj (i:=0) (j:=i) rfl he (λe=>hi e.symm) (.inl rfl) hj hf;rcases List.mem_cons.1 (Zqp h1)with h2|h2
   ·exact key 6 _ rfl (by decide) h2
   ·rcases qy13.1 h2 with h2|h2
    ·exact key 2 _ rfl (by decide) (Option.mem_toList.1 h2)
    ·rcases qy13.1 h2 with h2|h2
     ·exact key 3 _ rfl (by decide) (Option.mem_toList.1 h2)
     ·rcases qy13.1 h2 with h2|h2
      ·exact key 4 _ rfl (by decide) (Option.mem_toList.1 h2)
      ·cases h2
 exact⟨((toRd h).pick [1,0,2,3,4,5,6] (by decide)).conv rfl,λj hj=>.inr hj,λj hj=>.inl (hnew j hj.2),λj hj=>.inr (.inl hj)⟩
theorem Zv4(w:World)(k:Nat)(x:TelX)(c:List UInt8)(hr:Rel ⟨Zi (tlA k x) tlH,w⟩ (tlA k x++[.s c]) tlH w)(hl:x.wants.length<1000000000) : Calls Tryz.prog 98 #[.pointer (some ⟨k,0,none⟩),.string ⟨c.toArray⟩] w λe w'=>e=.returned (.tuple #[])/\∃y:TelX,(∃u,y={ x with wants:=x.wants.filter λw=>decide (¬w.1=c),wv:=u })/\Rel ⟨Zi (tlA k x) tlH,w⟩ (tlA k y) tlH w'/\Grew w.heap.size (λ_=>False) x y:=by
 refine Z1 (Z3 (J:=tlA k x++[.s c]) sxE_ok Tryz.func98 Z6a rfl rfl hr rfl rfl ?_) rfl;simp only[Tree.goal,X.P,X.ev,SV.ev,CV.ev,Sc.ev,qz,QA,QB,QC,QD,QE,QF,QG,QH,QI,QJ,QK,QL,QM,Nat.reduceAdd,qy3,qy4];intro b1 w1 hr1;obtain⟨l,hlw⟩:∃l,l=x.wants:=⟨_,rfl⟩
 refine(Z4b w1 x.wv x.wants (hr1.at_ 3 rfl) (by omega)).mono ?_;rintro e w2 ⟨u,rfl,a1,f1,m1⟩;refine⟨[.v u,.r (x.wants.map Za)],rfl,rfl,m1,qy5 _,qy2.2 ⟨⟨a1,λk hk=>.inl (f1 k hk)⟩,qy5 _⟩,Z5,?_⟩;simp only[Tree.goal,X.P,X.ev,SV.ev,CV.ev,Sc.ev,qz,QA,QB,QC,QD,QE,QF,QG,QH,QI,QJ,QK,QL,QM,Nat.reduceAdd,qy3,qy4,Z1k,Z1r,Z33];rw[<- hlw]at hl;generalize hkp:(λw:Wt=>decide (¬w.1=c))=kp
 have kp0:∀x:Wt,x.1=c->¬kp x=true:=λx hx=>by rw[<- hkp];simp[hx]
 have kp1:∀x:Wt,¬x.1=c->kp x=true:=λx hx=>by rw[<- hkp];simp[hx]
 refine⟨λvs=>∃(x:V) (i:Nat),vs=[x,.i i,.s c]/\i<=l.length/\∀j,j<i->kp (l.getD j wD_V)=true,λvs=>(l.length - (vs.getD 1 (.i 0)).toI).toNat,⟨_,0,rfl,by omega,λj hj=>by omega⟩,?_⟩;rintro _ - ⟨z,i,rfl,hi,hn⟩;simp only[Tree.goal,X.P,X.ev,SV.ev,CV.ev,Sc.ev,qz,QA,QB,QC,QD,QE,QF,QG,QH,QI,QJ,QK,QL,QM,Nat.reduceAdd,qy3,qy4,Z1k,Z1r,Z33,<- hlw];have hend:∀(u':Value) (w3:World),Rel ⟨Zi (tlA k x) tlH,w⟩ (tlA k { x with wants:=l.filter kp,wv:=u' }) tlHw w3->∃y:TelX,(∃u,y={ x with wants:=l.filter kp,wv:=u })/\Rel ⟨Zi (tlA k x) tlH,w⟩ (tlA k y) tlH w3/\Grew w.heap.size (λ_=>False) x y:=λu' w3 hr3=>by obtain⟨q1,q2⟩:=Zz9 hr3;exact⟨_,⟨u',rfl⟩,q1,q2⟩
 refine⟨λh1=>?_,λh1 w3 hr=>⟨by trivial,?_⟩⟩
 ·repeat (first|omega|refine⟨by omega,?_⟩)
  intro b7;refine⟨λh2=>⟨λh3=>by omega,λh3=>⟨by omega,by omega,?_⟩⟩,λh2=>?_⟩
  ·refine⟨λvs=>∃(a j:Nat) (R:List Wt),vs=[.i a,.i j,.r (R.map Za),.s c]/\a<j/\j<=l.length/\R.length=l.length/\R.take a=(l.take j).filter kp/\R.drop j=l.drop j,λvs=>(l.length - (vs.getD 1 (.i 0)).toI).toNat,
    ⟨i,i+1,l,rfl,by omega,by omega,rfl,?_,rfl⟩,?_⟩
   ·rw[Z65 kp l i (by omega),if_neg (kp0 _ h2),List.append_nil,Zao hn]
   rintro _ - ⟨a,j,R,rfl,haj,hj,hR,ht,hd⟩;simp only[Tree.goal,X.P,X.ev,SV.ev,CV.ev,Sc.ev,qz,QA,QB,QC,QD,QE,QF,QG,QH,QI,QJ,QK,QL,QM,Nat.reduceAdd,qy3,qy4,Z1k,Z1r,Z33,hR];refine⟨λh3=>?_,λh3=>?_⟩
   ·repeat (first|omega|refine⟨by omega,?_⟩)
    intro b8 b9;have hg:=Zkf hd;refine⟨λh4=>?_,λh4=>?_⟩
    ·repeat (first|omega|refine⟨by omega,?_⟩)
     refine⟨⟨a+1,j+1,R.set a (R.getD j wD_V),?_,by omega,by omega,by simpa using hR,Zet haj (by omega) hR ht hd (kp1 _ (by rw[<- hg];exact h4)),?_⟩,by omega⟩
     ·rw[<- Zde];rfl
     ·rw[List.drop_set_of_lt (by omega)];exact Z66 hd
    ·repeat (first|omega|refine⟨by omega,?_⟩)
     refine⟨⟨a,j+1,R,rfl,by omega,by omega,hR,?_,Z66 hd⟩,by omega⟩;rw[Z65 kp l j (by omega),if_neg (kp0 _ (by rw[<- hg];exact qy9.1 h4)),List.append_nil];exact ht
   ·have hje:j=l.length:=by omega
    subst hje;rw[List.take_length]at ht;refine⟨by omega,by omega,?_,λu' w3 hr=>⟨by trivial,?_⟩⟩
    ·simp only[qy11,List.length_take,List.length_replicate,qy3,hR];omega
    ·refine hend u' w3 ((hr.pick [0,5,7,8,9,10,11] (by decide)).conv (Zg (Z2r rfl ?_) rfl));simp only[Tree.goal,X.P,X.ev,SV.ev,CV.ev,Sc.ev,qz,QA,QB,QC,QD,QE,QF,QG,QH,QI,QJ,QK,QL,QM,Nat.reduceAdd,qy3,qy4,Z1k,Z1r,Z33];rw[List.take_append_of_le_length (by simp;omega),List.take_take,Nat.min_self,<- List.map_take,ht]
  ·repeat (first|omega|refine⟨by omega,?_⟩)
   refine⟨⟨_,i+1,rfl,by omega,λj hj=>?_⟩,by omega⟩;by_cases hji:j=i
   ·subst hji;exact kp1 _ h2
   ·exact hn j (by omega)
 ·have hie:i=l.length:=by omega
  subst hie;have e1:=Zao (p:=kp) (l:=l) (i:=l.length) hn;rw[List.take_length]at e1;refine hend u w3 ((hr.pick [1,4,6,7,8,9,10] (by decide)).conv ?_);rw[e1,hlw];rfl
section
variable {α:Type} (d:α)
theorem Zmn(l:List α)(i:Nat)(h:i<l.length):l.take (i+1)=l.take i++[l.getD i d]:=by rw[List.take_add_one,qy1,qy7 h];rfl
theorem Z4c(p:α->Bool)(l:List α)(i:Nat)(h:i<l.length):(l.take (i+1)).filter p=(l.take i).filter p++(if p (l.getD i d)=true then[l.getD i d]else[]):=by
 rw[Zmn d l i h,List.filter_append];generalize l.getD i d=o
 by_cases h1:p o=true<;>simp[h1]
theorem Zkz{p:α->Bool}{l:List α}{i:Nat}(h:∀j,j<i->p (l.getD j d)=true):(l.take i).filter p=l.take i:=by rw[List.filter_eq_self];intro x hx;obtain⟨j,hj,rfl⟩:=List.getElem_of_mem hx;simp only[List.length_take]at hj;have:=h j (by omega);rw[List.getElem_take];rwa [qy1,qy7 (by omega)]at this
theorem Zl0{R l:List α}{j:Nat}(hd:R.drop j=l.drop j):R.getD j d=l.getD j d:=by have:=congrArg (λl=>l[0]?) hd;simp only[List.getElem?_drop,Nat.add_zero]at this;rw[qy1,qy1,this]
theorem Zv5{R l:List α}{a j:Nat}{p:α->Bool}(haj:a<j)(hj:j<l.length)(hR:R.length=l.length)(ht:R.take a=(l.take j).filter p)(hd:R.drop j=l.drop j)(hp:p (l.getD j d)=true) : (R.set a (R.getD j d)).take (a+1)=(l.take (j+1)).filter p:=by
 rw[Z4c d p l j hj,if_pos hp,<- ht,Zl0 d hd,Zmn d _ _ (by simp;omega)];congr 1
 ·rw[List.take_set_of_le (Nat.le_refl _)]
 ·rw[qy1,List.getElem?_set_self (by omega)];rfl
end
theorem Zh3{α:Type}{R l:List α}{j:Nat}(hd:R.drop j=l.drop j):R.drop (j+1)=l.drop (j+1):=by have:=congrArg (λl=>l.drop 1) hd;simpa[List.drop_drop,Nat.add_comm]using this
theorem Zza(n:Int)(h:0<=n/\n<=65536):Zfh .and .i64 n 65535=n % 65536:=by
 obtain⟨x,rfl⟩:∃x:Nat,n=x:=⟨n.toNat,by omega⟩
 have oi:∀x:Nat,x<2 ^ 63->(BitVec.ofInt 64 (x:Int)).toNat=x:=λx h=>by simp[BitVec.toNat_ofInt];omega
 have h127:(65535:Int)=((65535:Nat):Int):=rfl;simp only[Zfh,h127]
 show IntKind.i64.wrap (((BitVec.ofInt 64 (x:Int)) &&& (BitVec.ofInt 64 ((65535:Nat):Int))).toNat:Int)=_
 rw[BitVec.toNat_and,oi x (by omega),oi 65535 (by omega)];have e:x &&& 65535=x % 65536:=Nat.and_two_pow_sub_one_eq_mod x 16;rw[e,IntKind.wrap_i64];omega
theorem Zv6(n:Int)(h:0<=n/\n<=65535):Zfh .and .i64 (n+1) 65535=nx_Z n:=Zza _ (by omega)
def nilX(s:Snt):SntX:=(s,.slice none 0 0,.slice none 0 0,.slice none 0 0)
def nilS(s:Snt):Prop:=s.pk.asks=[]/\s.pk.codes=[]/\s.msg.opts=[]
theorem Z13k{s:Snt}(h:nilS s)(w:World):Z7a w (nilX s).2.1 s.pk.asks/\Z64 w (nilX s).2.2.1 s.pk.codes/\Z2d w (nilX s).2.2.2 s.msg.opts:=by obtain⟨a,b,c⟩:=h;rw[a,b,c];exact⟨Z9 _ _,Z9 _ _,Z9 _ _⟩
theorem Zzb{s:Snt}(h:nilS s){j:Nat}:¬sntF (nilX s) j:=by
 obtain⟨a,b,c⟩:=h;rintro(⟨h,-⟩|⟨h,-⟩|⟨h,-⟩)
 ·simp only[nilX,a]at h;exact h rfl
 ·simp only[nilX,b]at h;exact h rfl
 ·simp only[nilX,c]at h;exact h rfl
theorem Z8d{l:List SesX}{o:List SntX}{add:List Snt}(h:∀s∈add,nilS s):(∀w,(Z6 l o).holds w->(Z6 l (o++add.map nilX)).holds w)/\∀j,(Z6 l (o++add.map nilX)).fp j->(Z6 l o).fp j:=by
 refine⟨λw hw=>Z11 (λt ht=>.inl ht) (λt ht=>?_) hw,λj hj=>?_⟩
 ·rcases qy13.1 ht with ht|ht
  ·exact .inl ht
  ·obtain⟨s,hs,rfl⟩:=List.mem_map.1 ht;exact .inr (Z13k (h s hs) w)
 ·rcases Zb.1 hj with h1|⟨t,ht,hk⟩
  ·exact Zb.2 (.inl h1)
  ·rcases qy13.1 ht with ht|ht
   ·exact Zb.2 (.inr ⟨t,ht,hk⟩)
   ·obtain⟨s,hs,rfl⟩:=List.mem_map.1 ht;exact absurd hk (Zzb (h s hs))
theorem Zqs(R:List Wat)(m:Nat)(x:Wat):(R.map Z7).set m [.int .i64 x.1,.string ⟨x.2.1.toArray⟩,.string ⟨x.2.2.1.toArray⟩,.int .i64 x.2.2.2]=(R.set m x).map Z7:=by rw[List.map_set];rfl
def Z1p(n:List UInt8)(l:List Wat)(i:Nat)(t:Tel):Tel:=((l.take i).filter (ofT n)).foldl Z7k t
theorem Z8e{n:List UInt8}{l:List Wat}{i:Nat}(t:Tel)(h:i<l.length):Z1p n l (i+1) t=if(l.getD i wD_K).2.2.1=n then Z7k (Z1p n l i t) (l.getD i wD_K)else Z1p n l i t:=by
 unfold Z1p;rw[Z4c wD_K _ l i h];by_cases h1:(l.getD i wD_K).2.2.1=n
 ·rw[if_pos h1,if_pos (show ofT n (l.getD i wD_K)=true from decide_eq_true h1),List.foldl_append];rfl
 ·rw[if_neg h1,if_neg (by rw[ofT,decide_eq_false h1];decide),List.append_nil]
theorem Zoy(w:World)(k:Nat)(x:TelX)(n p:List UInt8)(hr:Rel ⟨Zi (tlA k x) tlH,w⟩ (tlA k x++[.s n,.s p]) tlH w)(hb:BOk x.tel)(ho:x.ox.length<100000) : Calls Tryz.prog 142 #[.pointer (some ⟨k,0,none⟩),.string ⟨n.toArray⟩,.string ⟨p.toArray⟩] w λe w'=>e=.returned (.bool (Zx n p x.tel).2)/\Z7z w w' k x (λ_=>False) (Zx n p x.tel).1:=by
 refine Z1 (Z3 (J:=tlA k x++[.s n,.s p]) (sxE_ok.joins _) Tryz.func142 Z73 rfl rfl hr rfl rfl ?_) rfl;simp only[Tree.goal,X.P,X.ev,SV.ev,CV.ev,Sc.ev,qz,QA,QB,QC,QD,QE,QF,QG,QH,QI,QJ,QK,QL,QM,Nat.reduceAdd,qy3,qy4,Z1z,Z20,Z1b,gW3];intro b1 w1 hr1;refine(Z152 w1 x.kv x.kept n p (hr1.at_ 1 rfl) hb.kept).mono ?_;rintro e w2 ⟨u,rfl,a1,f1,m1⟩;refine⟨[.v u,.r ((rawK x.kept n p).1.map encK),.i (rawK x.kept n p).2],rfl,rfl,m1,qy5 _,qy2.2 ⟨⟨a1,λk hk=>.inl (f1 k hk.2)⟩,qy5 _⟩,Z5,?_⟩;have f2:∀j,Z2 u j->w.heap.size<=j:=λj hj=>Nat.le_trans hr1.mod.size (f1 j hj);clear a1 f1 m1 hr1 hr;obtain⟨K,hK⟩:∃K,K=(rawK x.kept n p).1:=⟨_,rfl⟩
 simp only[Tree.goal,X.P,X.ev,SV.ev,CV.ev,Sc.ev,qz,QA,QB,QC,QD,QE,QF,QG,QH,QI,QJ,QK,QL,QM,Nat.reduceAdd,qy3,qy4,Z1z,Z20,Z1b,gW3,<- hK];refine⟨λh1 w3 hr=>?_,λh1=>⟨λh2 w3 hr=>?_,λh2=>?_⟩⟩
 ·have e:Zx n p x.tel=(x.tel,false):=by rw[Zx,if_pos (show ¬(rawK x.tel.kept n p).2=0 from h1)]
  rw[e];exact⟨rfl,x,rfl,(hr.pick [2,3,4,5,6,7,8] (by decide)).conv rfl,.refl _ _ _⟩
 ·have e:Zx n p x.tel=({ x.tel with kept:=K },true):=by rw[Zx,if_neg (show ¬¬(rawK x.tel.kept n p).2=0 from h1),if_pos h2,hK];rfl
  rw[e];exact⟨rfl,{ x with kept:=K,kv:=u },rfl,(hr.pick [0,3,4,5,6,7,8] (by decide)).conv rfl,λj hj=>.inl (f2 j hj.2),λj hj=>.inr hj,λj hj=>.inr (.inl hj)⟩
 ·have h2:=qy9.1 h2;obtain⟨T0,hT0⟩:∃T0:Tel,T0=⟨K,x.wants,x.sx.map (·.1),x.wat,x.next,x.ox.map (·.1)⟩:=⟨_,rfl⟩
  have q0:T0.next=x.next:=by rw[hT0]
  have q1:T0.out=x.tel.out:=by rw[hT0];rfl
  have q2:0<=T0.next/\T0.next<=65535:=by rw[q0];exact hb.next
  have q3:T0.kept=K/\T0.wants=x.wants/\T0.sess=x.sx.map (·.1):=by rw[hT0];exact⟨rfl,rfl,rfl⟩
  have e:Zx n p x.tel=({ Z1p n x.wat x.wat.length T0 with wat:=x.wat.filter λw=>!ofT n w },true):=by rw[Zx,if_neg (show ¬¬(rawK x.tel.kept n p).2=0 from h1),if_neg (qy9.2 h2),Z1p,List.take_length,hT0,hK];rfl
  rw[e];have hw12:x.wat.length<=12:=(Zr.1 hb.wat).1;have hnx:∀i,0<=(Z1p n x.wat i T0).next/\(Z1p n x.wat i T0).next<=65535:=λi=>(Zcd _ T0 q2).2.2.2.2.1;have hol:∀i,(Z1p n x.wat i T0).out.length<=x.ox.length+12:=λi=>by
   have h3:=(Zcd ((x.wat.take i).filter (ofT n)) T0 q2).2.2.2.2.2;have h4:((x.wat.take i).filter (ofT n)).length<=(x.wat.take i).length:=List.length_filter_le _ _;have h5:(x.wat.take i).length<=x.wat.length:=by simp;omega
   have h6:x.tel.out.length=x.ox.length:=by simp[TelX.tel]
   unfold Z1p;rw[h3,q1,h6];omega
  refine⟨Asrt.tt,λ_ _=>trivial,λ_ hk=>hk.elim,?_⟩;refine⟨λvs=>∃(i:Nat) (u':Value) (add:List Snt),vs=[.i i,.a Asrt.tt,.v u,.r (K.map encK),.v x.wv,.r (x.wants.map Za),.v x.sv,.r (x.sx.map Zf),.i (Z1p n x.wat i T0).next,.v u',.r ((x.ox++add.map nilX).map Z12)]/\i<=x.wat.length/\(Z1p n x.wat i T0).out=x.tel.out++add/\∀s∈add,nilS s,
   λvs=>(x.wat.length - (vs.getD 0 (.i 0)).toI).toNat,⟨0,x.ov,[],by simp[Z1p,q0],by omega,by simp[Z1p,q1],by simp⟩,?_⟩
  rintro _ - ⟨i,u',add,rfl,hi,hT,hnil⟩;simp only[Tree.goal,X.P,X.ev,SV.ev,CV.ev,Sc.ev,qz,QA,QB,QC,QD,QE,QF,QG,QH,QI,QJ,QK,QL,QM,Nat.reduceAdd,qy3,qy4,Z1z,Z20,Z1b,gW3];have hnxi:=hnx i;have hadd:add.length<=12:=by have:=hol i;rw[hT,qy11,show x.tel.out.length=x.ox.length by simp[TelX.tel]]at this;omega
  refine⟨λh3=>⟨by omega,λb3=>⟨λh4=>?_,λh4=>?_⟩⟩,λh3=>?_⟩
  ·have hst:=Z8e (n:=n) T0 (show i<x.wat.length by omega);rw[if_pos h4]at hst;refine⟨λvs=>∃v:Value,vs=[.i 0,.i 0,.v v],?_,?_⟩
   ·simp only[qy11,qy3,List.length_cons,List.length_nil];repeat' (first|exact⟨_,rfl⟩|omega|(intro _)|(refine⟨?_,?_⟩))
   rintro _ - ⟨v,rfl⟩;simp only[Tree.goal,X.P,X.ev,SV.ev,CV.ev,Sc.ev,qz,QA,QB,QC,QD,QE,QF,QG,QH,QI,QJ,QK,QL,QM,Nat.reduceAdd,qy3,qy4,Z1z,Z20,Z1b,gW3];refine⟨by omega,by omega,Asrt.tt,λ_ _=>trivial,λ_ hk=>hk.elim,⟨i+1,v,add++[toP (x.wat.getD i wD_K).1 ⟨1,132,(Z1p n x.wat i T0).next,(x.wat.getD i wD_K).2.1,[],[]⟩],?_,by omega,?_,?_⟩,by omega⟩
   ·rw[hst,Zv6 _ hnxi];simp only[List.map_append,List.append_assoc,List.map_cons,List.map_nil];rfl
   ·rw[hst];show(Z1p n x.wat i T0).out++_=_;rw[hT,List.append_assoc]
   ·intro s hs;rcases qy13.1 hs with hs|hs
    ·exact hnil s hs
    ·rw[qy12.1 hs];exact⟨rfl,rfl,rfl⟩
  ·have hst:=Z8e (n:=n) T0 (show i<x.wat.length by omega);rw[if_neg h4]at hst;refine⟨by omega,by omega,Asrt.tt,λ_ _=>trivial,λ_ hk=>hk.elim,⟨i+1,u',add,by rw[hst];rfl,by omega,by rw[hst];exact hT,hnil⟩,by omega⟩
  have hil:i=x.wat.length:=by omega
  subst hil;obtain⟨T,hTd⟩:∃T,T=Z1p n x.wat x.wat.length T0:=⟨_,rfl⟩
  have hTs:=Zcd ((x.wat.take x.wat.length).filter (ofT n)) T0 q2;rw[<- hTd]at hT hnxi⊢;have hend:∀(W:List Wat) (av':Value) (w3:World) (J':List V) (hp':List Ent),W=x.wat.filter (λw=>!ofT n w)->Rel ⟨Zi (tlA k x) tlH,w⟩ J' hp' w3->hp'.all (Ent.bd J'.length)=true->(∃e∈hp',e.wr=false/\e.sem J'=Ent.sem (tlA k x) (.st 12)) ->
    ∀is:List Nat,is.Nodup->(is.filterMap λi=>(Ent.st J'.length::hp')[i]?).map (Ent.sem (J'++[.a (Z6 x.sx (x.ox++add.map nilX))]))=tlH.map (Ent.sem (tlA k ⟨K,x.wants,x.sx,W,T.next,x.ox++add.map nilX,u,x.wv,x.sv,av',u'⟩)) ->
    Z7z w w3 k x (λ_=>False) { T with wat:=x.wat.filter λw=>!ofT n w }:=by
   intro W av' w3 J' hp' hW hr3 hbd ⟨e,he,hwf,hse⟩ is hn hs;obtain⟨q1,q2⟩:=Z8d (l:=x.sx) (o:=x.ox) hnil;have hA:(Z6 x.sx x.ox).holds w3:=by have h5:=hr3.holds e he;rw[show e.holds J' w3=(Z6 x.sx x.ox).holds w3 from congrFun (congrArg SEnt.holds hse) w3]at h5;exact h5
   have hF:∀j,(Z6 x.sx x.ox).fp j->e.fp J' j:=λj hj=>by rw[show e.fp J' j=(Z6 x.sx x.ox).fp j from congrFun (congrArg SEnt.fp hse) j];exact hj
   refine⟨⟨K,x.wants,x.sx,W,T.next,x.ox++add.map nilX,u,x.wv,x.sv,av',u'⟩,?_,Zks hr3 hbd k _ (q1 w3 hA) (λj hj=>⟨e,he,hwf,hF j (q2 j hj)⟩) is hn hs,λj hj=>.inl (f2 j hj.2),λj hj=>.inr hj,λj hj=>.inr (.inl (q2 j hj))⟩;have e1:T.kept=K:=by rw[hTd];exact hTs.1.trans q3.1
   have e2:T.wants=x.wants:=by rw[hTd];exact hTs.2.1.trans q3.2.1
   have e3:T.sess=x.sx.map (·.1):=by rw[hTd];exact hTs.2.2.1.trans q3.2.2
   have e4:(x.ox++add.map nilX).map (·.1)=T.out:=by rw[hT];simp[TelX.tel,nilX,Function.comp_def]
   simp only[TelX.tel,e4,hW];cases T;simp only at e1 e2 e3⊢;rw[e1,e2,e3]
  obtain⟨l,hlw⟩:∃l,l=x.wat:=⟨_,rfl⟩
  rw[<- hlw]at hw12 hend⊢;generalize hkp:(λw:Wat=>!ofT n w)=kp at hend⊢
  have key:∀z:Wat,z.2.2.1=n->¬kp z=true:=λz hz=>by rw[<- hkp];simp[ofT,hz]
  have key2:∀z:Wat,¬z.2.2.1=n->kp z=true:=λz hz=>by rw[<- hkp];simp[ofT,hz]
  refine⟨λvs=>∃(x:V) (i:Nat),vs=[x,.i i,.s n]/\i<=l.length/\∀j,j<i->kp (l.getD j wD_K)=true,λvs=>(l.length - (vs.getD 1 (.i 0)).toI).toNat,⟨_,0,rfl,by omega,λj hj=>by omega⟩,?_⟩;rintro _ - ⟨z,i,rfl,hi,hn⟩;simp only[Tree.goal,X.P,X.ev,SV.ev,CV.ev,Sc.ev,qz,QA,QB,QC,QD,QE,QF,QG,QH,QI,QJ,QK,QL,QM,Nat.reduceAdd,qy3,qy4,Z1z,Z20,Z1b,gW3];refine⟨λh1=>?_,λh1 w3 hr=>⟨by trivial,?_⟩⟩
  ·repeat (first|omega|refine⟨by omega,?_⟩)
   intro b7;refine⟨λh2=>⟨λh3=>by omega,λh3=>⟨by omega,by omega,?_⟩⟩,λh2=>?_⟩
   ·refine⟨λvs=>∃(a j:Nat) (R:List Wat),vs=[.i a,.i j,.s n,.r (R.map Z7)]/\a<j/\j<=l.length/\R.length=l.length/\R.take a=(l.take j).filter kp/\R.drop j=l.drop j,λvs=>(l.length - (vs.getD 1 (.i 0)).toI).toNat,
     ⟨i,i+1,l,rfl,by omega,by omega,rfl,?_,rfl⟩,?_⟩
    ·rw[Z4c wD_K kp l i (by omega),if_neg (key _ h2),List.append_nil,Zkz wD_K hn]
    rintro _ - ⟨a,j,R,rfl,haj,hj,hR,ht,hd⟩;simp only[Tree.goal,X.P,X.ev,SV.ev,CV.ev,Sc.ev,qz,QA,QB,QC,QD,QE,QF,QG,QH,QI,QJ,QK,QL,QM,Nat.reduceAdd,qy3,qy4,Z1z,Z20,Z1b,gW3,hR];refine⟨λh3=>?_,λh3=>?_⟩
    ·repeat (first|omega|refine⟨by omega,?_⟩)
     intro b8 b9;have hg:=Zl0 wD_K hd;refine⟨λh4=>?_,λh4=>?_⟩
     ·repeat (first|omega|refine⟨by omega,?_⟩)
      refine⟨⟨a+1,j+1,R.set a (R.getD j wD_K),?_,by omega,by omega,by simpa using hR,Zv5 wD_K haj (by omega) hR ht hd (key2 _ (by rw[<- hg];exact h4)),?_⟩,by omega⟩
      ·rw[<- Zqs];rfl
      ·rw[List.drop_set_of_lt (by omega)];exact Zh3 hd
     ·repeat (first|omega|refine⟨by omega,?_⟩)
      refine⟨⟨a,j+1,R,rfl,by omega,by omega,hR,?_,Zh3 hd⟩,by omega⟩;rw[Z4c wD_K kp l j (by omega),if_neg (key _ (by rw[<- hg];exact qy9.1 h4)),List.append_nil];exact ht
    ·have hje:j=l.length:=by omega
     subst hje;rw[List.take_length]at ht;refine⟨by omega,by omega,?_,λu2 w3 hr=>⟨by trivial,?_⟩⟩
     ·simp only[qy11,List.length_take,List.length_replicate,qy3,hR];omega
     ·refine hend (l.filter kp) u2 w3 _ _ rfl hr (by rfl) ⟨_,qy6 (i:=10) rfl,rfl,rfl⟩ [5,8,9,1,10,0,12] (by decide) (Zg rfl (Zg rfl (Zg rfl (Zg (Z2r rfl ?_) rfl))));simp only[Tree.goal,X.P,X.ev,SV.ev,CV.ev,Sc.ev,qz,QA,QB,QC,QD,QE,QF,QG,QH,QI,QJ,QK,QL,QM,Nat.reduceAdd,qy3,qy4,Z1z,Z20,Z1b,gW3];rw[List.take_append_of_le_length (by simp;omega),List.take_take,Nat.min_self,<- List.map_take,ht]
   ·repeat (first|omega|refine⟨by omega,?_⟩)
    refine⟨⟨_,i+1,rfl,by omega,λj hj=>?_⟩,by omega⟩;by_cases hji:j=i
    ·subst hji;exact key2 _ h2
    ·exact hn j (by omega)
  ·have hie:i=l.length:=by omega
   subst hie;have e1:=Zkz wD_K (p:=kp) (l:=l) (i:=l.length) hn;rw[List.take_length]at e1;exact hend l x.av w3 _ _ e1.symm hr (by rfl) ⟨_,qy6 (i:=9) rfl,rfl,rfl⟩ [3,6,7,8,9,0,11] (by decide) rfl
end Go.Proofs.Y
namespace Go.Proofs.Y
open Go Go.Sx
theorem Z7b{B:Base}{J:List V}{hp:List Ent}{w:World}(h:Rel B J hp w)(hb:hp.all (Ent.bd J.length)=true)(k:Nat)(x:TelX)(A':Asrt)(Jx:List V)(hx:List Ent)(hA:(Z6 x.sx x.ox).holds w)(hf:∀j,(Z6 x.sx x.ox).fp j->∃e∈hp,e.wr=false/\e.fp J j) (hA':A'.holds w) (hf':∀j,A'.fp j->∃e∈hp,e.wr=false/\e.fp J j) (is:List Nat) (hn:is.Nodup) (hfp:Zi (tlA k x++Jx) (tlH++hx)=Zi (tlA k x) tlH) (hs:(is.filterMap λi=>(Ent.st (J++[V.a (Z6 x.sx x.ox)]).length::Ent.st J.length::hp)[i]?).map (Ent.sem (J++[.a (Z6 x.sx x.ox)]++[.a A']))=(tlH++hx).map (Ent.sem (tlA k x++Jx))) : Rel ⟨Zi (tlA k x) tlH,w⟩ (tlA k x++Jx) (tlH++hx) w:=by
 have h1:=h.gather hb _ hA hf;have hb1:(Ent.st J.length::hp).all (Ent.bd (J++[V.a (Z6 x.sx x.ox)]).length)=true:=by rw[List.all_cons,Bool.and_eq_true];refine⟨by simp[Ent.bd],List.all_eq_true.2 λe he=>Ent.bd_mono (by simp) e (List.all_eq_true.1 hb e he)⟩
 have ha:Zs J.length J (J++[V.a (Z6 x.sx x.ox)]):=Zs.app _ _;have h2:=h1.gather hb1 A' hA' λj hj=>by obtain⟨e,he,hw,hef⟩:=hf' j hj;exact⟨e,qy10 _ he,hw,(Ent.fp_bd ha e (List.all_eq_true.1 hb e he) j).1 hef⟩
 have h3:=((h2.pick is hn).conv hs).base;rw[hfp]at h3;exact h3
theorem Z1f(w:World)(k:Nat)(x:TelX)(c:List UInt8)(lv:Value)(l:List Z5p)(hr:Rel ⟨Zi (tlA k x) tlH,w⟩ (tlA k x++pkA c lv l) (tlH++pkH) w)(hl:l.length<1000000)(ho:x.ox.length<1000000) : Calls Tryz.prog 93 #[.pointer (some ⟨k,0,none⟩),.string ⟨c.toArray⟩,sc1 lv] w λe w'=>e=.returned (.tuple #[])/\Z7z w w' k x (Zq l).fp { x.tel with out:=x.tel.out++l.map λt=>toC c t.1 }:=by
 refine(Zun w k x c lv l hr hl ho).mono ?_;rintro e w' ⟨rfl,ov',hr'⟩;refine⟨rfl,{ x with ox:=x.ox++l.map (Zf2 c),ov:=ov' },?_,hr',λj hj=>.inr hj,λj hj=>.inr hj,λj hj=>?_⟩
 ·simp[TelX.tel,Zf2,Function.comp_def]
 ·rcases Zb.1 hj with h1|⟨t,ht,hk⟩
  ·exact .inr (.inl (Zb.2 (.inl h1)))
  ·rcases qy13.1 ht with ht|ht
   ·exact .inr (.inl (Zb.2 (.inr ⟨t,ht,hk⟩)))
   ·obtain⟨p,hp,rfl⟩:=List.mem_map.1 ht;exact .inr (.inr (Zau hp (Ziq hk)))
def pkN(p:Pk):Z5p:=(pkOf p,.slice none 0 0,.slice none 0 0)
theorem Z8f(l:List Pk):(l.map pkN).map Z31=l.map encP:=by rw[List.map_map];rfl
theorem Z82(l:List Pk)(w:World):(Zq (l.map pkN)).holds w:=by intro t ht;obtain⟨p,hp,ht⟩:=List.mem_flatMap.1 ht;obtain⟨q,hq,rfl⟩:=List.mem_map.1 hp;simp only[Zip,List.mem_cons,List.not_mem_nil,or_false]at ht;rcases ht with rfl|rfl<;>exact Z9 _ _
theorem Z4r{l:List Pk}{j:Nat}:¬(Zq (l.map pkN)).fp j:=by rintro⟨t,ht,h1,h2⟩;obtain⟨p,hp,ht⟩:=List.mem_flatMap.1 ht;obtain⟨q,hq,rfl⟩:=List.mem_map.1 hp;simp only[Zip,List.mem_cons,List.not_mem_nil,or_false]at ht;rcases ht with rfl|rfl<;>exact h1 rfl
theorem Ziu(c:List UInt8)(l:List Pk):((l.map pkN).map λt=>toC c t.1)=l.map λp=>toC c (pkOf p):=by rw[List.map_map];rfl
theorem Z8g{l:List SesX}{o:List SntX}{i:Nat}{t:SesX}{w:World}(h:(Z6 l o).holds w)(h1:Zk w t.2.1 t.1.fl)(h2:Zk w t.2.2 t.1.qu):(Z6 (l.set i t) o).holds w :=
 Z11 (λu hu=>by
  rcases List.mem_or_eq_of_mem_set hu with hu|rfl
  ·exact .inl hu
  ·exact .inr ⟨h1,h2⟩) (λu hu=>.inl hu) h
theorem Z3g{l:List SesX}{o:List SntX}{i:Nat}{t:SesX}{j:Nat}(h:(Z6 (l.set i t) o).fp j):(Z6 l o).fp j\/sesF t j:=by
 rcases Zb.1 h with⟨u,hu,hk⟩|h1
 ·rcases List.mem_or_eq_of_mem_set hu with hu|rfl
  ·exact .inl (Zb.2 (.inl ⟨u,hu,hk⟩))
  ·exact .inr hk
 ·exact .inl (Zb.2 (.inr h1))
theorem Z3h(l:List SesX)(i:Nat)(t:SesX):(l.map Zf).set i [.string ⟨t.1.cl.toArray⟩,.bool t.1.on,.bool t.1.clean,sc1 t.2.1,sc1 t.2.2,.int .i64 t.1.next]=(l.set i t).map Zf:=by rw[List.map_set];rfl
theorem Z1y(x:TelX):x.tel.sess=x.sx.map (·.1):=rfl
theorem Zmo{x:TelX}{c:List UInt8}(h:hasS x.tel.sess c=true):idxS x.tel.sess c<x.sx.length/\(x.sx.getD (idxS x.tel.sess c) sxD).1=x.tel.sess.getD (idxS x.tel.sess c) s0:=by obtain⟨h1,-⟩:=Z80 h;refine⟨?_,(Zkq _ _).symm⟩;rw[Z1y]at h1⊢;simpa using h1
theorem Zdm{n m:Nat}{x y:TelX}{i:Nat}{t:SesX}(h:Grew n (λ_=>False) x y)(hm:n<=m)(h1:∀j,Z2 t.2.1 j->m<=j)(h2:∀j,Z2 t.2.2 j->m<=j):Grew n (λ_=>False) x { y with sx:=y.sx.set i t } :=
 h.trans (G:=λ_=>False) ⟨λj hj=>.inr hj,λj hj=>.inr hj,λj hj=>by
  rcases Z3g hj with h3|(⟨-,h3⟩|⟨-,h3⟩)
  ·exact .inr (.inl h3)
  ·exact .inl (h1 j h3)
  ·exact .inl (h2 j h3)⟩ hm (λ_ h=>h.elim)
def dlSF(x:TelX)(j:Nat):Prop:=(x.sx.map Zf).flatten≠[]/\Z2 x.sv j
def dlWF(x:TelX)(j:Nat):Prop:=(x.wat.map Z7).flatten≠[]/\Z2 x.av j
def dlF(x:TelX)(j:Nat):Prop:=Zfw x j\/Zbs x j\/dlSF x j\/dlWF x j\/(Z6 x.sx x.ox).fp j
abbrev dlH:List Ent:=[.rd 1 kK (.var 2),.rd 3 kW_V (.var 4),.rd 5 kSx (.var 6),.rd 7 kW_K (.var 8),.row 10 97 kSn (.var 11),.st 12,.cells 0 42 [.val (.var 1),.val (.var 3),.val (.var 5),.val (.var 7),.int .i64 (.var 9),.val (.var 10)]]
def dlG(x:TelX)(j:Nat):Prop:=dlF x j\/Z2 x.ov j
def GrwD(n:Nat)(F:Nat->Prop)(x y:TelX):Prop:=∀j,dlG y j->n<=j\/dlG x j\/F j
theorem GrwD.refl(n:Nat)(F:Nat->Prop)(x:TelX):GrwD n F x x:=λ_ h=>.inr (.inl h)
theorem GrwD.trans{n m:Nat}{F G:Nat->Prop}{x y z:TelX}(h:GrwD n F x y)(h':GrwD m G y z)(hm:n<=m)(hG:∀j,G j->n<=j\/dlG x j\/F j):GrwD n F x z:=λj hj=>by
 rcases h' j hj with h1|h1|h1
 ·exact .inl (Nat.le_trans hm h1)
 ·exact h j h1
 ·exact hG j h1
def Zl1(w w':World)(k:Nat)(x:TelX)(F:Nat->Prop)(t:Tel):Prop:=∃y:TelX,y.tel=t/\Rel ⟨Zi (tlA k x) dlH,w⟩ (tlA k y) dlH w'/\GrwD w.heap.size F x y
theorem Z13l{k:Nat}{x:TelX}{j:Nat}(h:j∈Zi (tlA k x) dlH):j∈k::(x.ov.ownBlock.toList++[]):=by
 simp only[Zi,dlH,tlA,List.flatMap_cons,List.flatMap_nil,Ent.fpl,List.getD_cons_zero,List.getD_cons_succ,V.toV_v,V.toN_n,List.append_nil,List.nil_append,qy13,qy12,List.mem_cons]at h⊢;rcases h with h|h
 ·exact .inr h
 ·exact .inl (by simpa using h)
theorem Zf9{w w1:World}{k:Nat}{x:TelX}{J:List V}{hp:List Ent}(h:Rel ⟨Zi (tlA k x) dlH,w⟩ J hp w1)(i c:Nat){v ty:Nat}{ks:List Kd}{r:X}(h0:hp[i]?=some (.row v ty ks r)){e:Ent}(hc:hp[c]?=some e)(hi:i≠c)(h1:e.fp J k):∀j,Z2 (J.getD v (.i 0)).toV j->w.heap.size<=j\/Z2 x.ov j:=λj hj=>by
 rcases h.own _ (qy6 h0) rfl j hj with g|g
 ·exact .inl g
 ·rcases List.mem_cons.1 (Z13l g)with g|g
  ·exact absurd (show e.fp J j by rw[g];exact h1) λhf=>h.sep.disj (i:=i) (j:=c) h0 hc hi (.inl rfl) hj hf
  ·rw[List.append_nil]at g;exact .inr (Option.mem_toList.1 g)
theorem Zfa{w w':World}{k:Nat}{x y:TelX}{F:Nat->Prop}{t:Tel}(ht:y.tel=t)(hr:Rel ⟨Zi (tlA k x) dlH,w⟩ (tlA k y) dlH w')(hg:∀j,dlF y j->w.heap.size<=j\/dlG x j\/F j):Zl1 w w' k x F t :=
 ⟨y,ht,hr,λj hj=>by
  rcases hj with hj|hj
  ·exact hg j hj
  ·rcases Zf9 hr 4 6 rfl rfl (by decide) rfl j hj with h|h
   ·exact .inl h
   ·exact .inr (.inl (.inr h))⟩
theorem Zv7{J:List V}{gone:List Nat}{v j:Nat}(hv:v∈gone)(h:Z2 (J.getD v (.i 0)).toV j):j∈Zw J gone :=
 List.mem_flatMap.2 ⟨v,hv,Option.mem_toList.2 h⟩
theorem Zl2{B:Base}{J:List V}{hp:List Ent}{w:World}(h:Rel B J hp w)(hb:hp.all (Ent.bd J.length)=true)(k:Nat)(y:TelX)(hA:(Z6 y.sx y.ox).holds w)(hf:∀j,(Z6 y.sx y.ox).fp j->∃e∈hp,e.wr=false/\e.fp J j)(is:List Nat)(hn:is.Nodup) (hs:(is.filterMap λi=>(Ent.st J.length::hp)[i]?).map (Ent.sem (J++[.a (Z6 y.sx y.ox)]))=dlH.map (Ent.sem (tlA k y))):Rel B (tlA k y) dlH w :=
 ((h.gather hb _ hA hf).pick is hn).conv hs
abbrev dlEs(n:Nat):List Ent:=[.rd n kK (.var (n+1)),.rd (n+2) kW_V (.var (n+3)),.rd (n+4) kSx (.var (n+5)),.rd (n+6) kW_K (.var (n+7)),.row (n+9) 97 kSn (.var (n+10)),.st (n+11)]
abbrev dlMs(vk n:Nat):List Ent:=[.cells vk 42 [.val (.var n),.val (.var (n+2)),.val (.var (n+4)),.val (.var (n+6)),.int .i64 (.var (n+8)),.val (.var (n+9))]]
theorem Z15r{J pre:List V}{y:TelX}{k vk n:Nat}(hn:J.length+pre.length=n)(hk:J.getD vk (.i 0)=.n k)(hv:vk<J.length):dlH.map (Ent.sem (tlA k y))=(dlEs n++dlMs vk n).map (Ent.sem (J++(pre++tlV y))):=by
 have g:=Zul (y:=y) hn;have g0:(J++(pre++tlV y)).getD n (.i 0)=.v y.kv:=g 0;have hk':(J++(pre++tlV y)).getD vk (.i 0)=.n k:=by rw[<- hk,qy1,qy1,List.getElem?_append_left hv]
 simp only[dlH,dlEs,dlMs,List.cons_append,List.nil_append,List.map_cons,List.map_nil,Ent.sem,Ent.holds,Ent.fp,Ent.wr,X.ev,Sc.ev,g0,g 1,g 2,g 3,g 4,g 5,g 6,g 7,g 8,g 9,g 10,g 11,hk'];rfl
theorem Z10p{P:Program}{f:Nat}{args:Array Value}{w:World}{B:Base}{J:List V}{hp:List Ent}{k:Nat}{x:TelX}{F:Nat->Prop}{R:TelX->Prop}{pre:List V}{v:Value}(h0:Rel B J hp w)(n vk:Nat)(gone:List Nat) (h:Calls P f args w λe w1=>e=.returned v/\∃y:TelX,R y/\Rel ⟨Zi (tlA k x) dlH,w⟩ (tlA k y) dlH w1/\GrwD w.heap.size F x y) (hn:J.length+pre.length=n) (hk:J.getD vk (.i 0)=.n k) (hv:vk<J.length) (hov:∀j,Z2 x.ov j->j∈Zw J gone) (hO:∀j,(dlF x j\/F j)->(∃y∈hp,y.wr=false/\y.fp J j)\/j∈Zw J gone) : Calls P f args w λe w1=>∃y:TelX,R y/\w.heap.size<=w1.heap.size/\GrwD w.heap.size F x y/\e=.returned v/\Mod (Zo J [vk] gone) w w1/\(∀x∈dlMs vk n,x.holds (J++(pre++tlV y)) w1) /\ (∀x∈dlEs n,x.holds (J++(pre++tlV y)) w1/\∀k,x.fp (J++(pre++tlV y)) k->w.heap.size<=k\/(x.wr=false/\∃y∈hp,y.wr=false/\y.fp J k)\/k∈Zw J gone)/\Z2o (J++(pre++tlV y)) (dlEs n):=by
 refine h.mono ?_;rintro e w1 ⟨he,y,hT,hq,hg⟩;have hs:=Z15r (y:=y) hn hk hv;have hq':Rel ⟨Zo J [vk] gone,w⟩ (J++(pre++tlV y)) (dlEs n++dlMs vk n) w1:=Zio (hq.conv hs) rfl λj hj=>by
  show j∈Zo J [vk] gone
  rcases List.mem_cons.1 (Z13l hj)with g|g
  ·exact List.mem_append_left _ (qy12.2 (by rw[g];show k=(J.getD vk (.i 0)).toN;rw[hk];rfl))
  ·rw[List.append_nil]at g;exact List.mem_append_right _ (hov j (Option.mem_toList.1 g))
 refine⟨y,hT,hq.mod.size,hg,he,hq'.mod,λx hx=>hq'.holds x (List.mem_append_right _ hx),λx hx=>⟨hq'.holds x (List.mem_append_left _ hx),λj hj=>?_⟩,(List.pairwise_append.1 hq'.sep).1⟩;cases hw:x.wr with
 | false =>
  have h1:Ent.sem (J++(pre++tlV y)) x∈dlH.map (Ent.sem (tlA k y)):=by rw[hs];exact List.mem_map_of_mem (List.mem_append_left _ hx)
  obtain⟨e',he',hee⟩:=List.mem_map.1 h1;have hw':e'.wr=false:=(congrArg SEnt.wr hee).trans hw;have hj':e'.fp (tlA k y) j:=(congrFun (congrArg SEnt.fp hee) j).mpr hj;have fin:w.heap.size<=j\/(∃y∈hp,y.wr=false/\y.fp J j)\/j∈Zw J gone:=by
   have h2:dlF y j:=by
    simp only[dlH,List.mem_cons,List.not_mem_nil,or_false]at he';rcases he' with rfl|rfl|rfl|rfl|rfl|rfl|rfl
    ·exact .inl hj'
    ·exact .inr (.inl hj')
    ·exact .inr (.inr (.inl hj'))
    ·exact .inr (.inr (.inr (.inl hj')))
    ·cases hw'
    ·exact .inr (.inr (.inr (.inr hj')))
    ·cases hw'
   rcases hg j (.inl h2)with h|(h|h)|h
   ·exact .inl h
   ·exact .inr (hO j (.inl h))
   ·exact .inr (.inr (hov j h))
   ·exact .inr (hO j (.inr h))
  rcases fin with h|h|h
  ·exact .inl h
  ·exact .inr (.inl ⟨rfl,h⟩)
  ·exact .inr (.inr h)
 | true =>
  rcases hq'.own x (List.mem_append_left _ hx) hw j hj with h5|h5
  ·exact .inl h5
  ·simp only[Zo,List.map_cons,List.map_nil,qy13,qy12]at h5;rcases h5 with h5|h5
   ·exfalso;refine(List.pairwise_append.1 hq'.sep).2.2 x hx _ (qy12.2 rfl) (.inl hw) _ hj ?_;rw[h5];simp only[Ent.fp];rw[qy1 (l:=J++_),List.getElem?_append_left hv,<- qy1]
   ·exact .inr (.inr h5)
theorem Zzc{P:Program}{f:Nat}{args:Array Value}{w:World}{B:Base}{J:List V}{hp:List Ent}{k:Nat}{x:TelX}{F:Nat->Prop}{R:TelX->Prop}{pre:List V}{v:Value}(h0:Rel B J hp w)(n vk:Nat)(gone:List Nat) (h:Calls P f args w λe w1=>e=.returned v/\∃y:TelX,R y/\Rel ⟨Zi (tlA k x) dlH,w⟩ (tlA k y) dlH w1/\GrwD w.heap.size F x y) (hn:J.length+pre.length=n) (hk:J.getD vk (.i 0)=.n k) (hv:vk<J.length) (vo:Nat) (hvo:vo∈gone) (hov:(J.getD vo (.i 0)).toV=x.ov) (hO:∀j,(dlF x j\/F j)->(∃y∈hp,y.wr=false/\y.fp J j)\/j∈Zw J gone) : Calls P f args w λe w1=>∃y:TelX,R y/\w.heap.size<=w1.heap.size/\GrwD w.heap.size F x y/\e=.returned v/\Mod (Zo J [vk] gone) w w1/\(∀x∈dlMs vk n,x.holds (J++(pre++tlV y)) w1) /\ (∀x∈dlEs n,x.holds (J++(pre++tlV y)) w1/\∀k,x.fp (J++(pre++tlV y)) k->w.heap.size<=k\/(x.wr=false/\∃y∈hp,y.wr=false/\y.fp J k)\/k∈Zw J gone)/\Z2o (J++(pre++tlV y)) (dlEs n) :=
 Z10p h0 n vk gone h hn hk hv (λ_ hj=>Zv7 hvo (by rw[hov];exact hj)) hO
theorem Z13m{B:Base}{J:List V}{hp:List Ent}{w:World}(h:Rel B J hp w)(hb:hp.all (Ent.bd J.length)=true)(ty:Nat)(ks:List Kd):Rel B (J++[.v (.slice none 0 0),.r []]) (.row J.length ty ks (.var (J.length+1))::hp) w:=by
 have g0:(J++[V.v (.slice none 0 0),.r []]).getD J.length (.i 0)=.v (.slice none 0 0):=by simp[qy1]
 have g1:(J++[V.v (.slice none 0 0),.r []]).getD (J.length+1) (.i 0)=.r []:=by simp[qy1]
 have hf:∀k,¬Ent.fp (J++[V.v (.slice none 0 0),.r []]) k (.row J.length ty ks (.var (J.length+1))):=λk hk=>by simp only[Ent.fp,g0,V.toV_v,Z2,Value.ownBlock]at hk;cases hk
 refine(h.ext (Zs.app J _) hb).cons ?_ (λ_ k hk=>absurd hk (hf k)) (λ_ _ _ k hk _=>absurd hk (hf k));simp only[Ent.holds,X.ev,g0,g1,V.toV_v,V.toR_r];exact⟨by simp,World.ownsRow_nil _ _ _ _⟩
theorem Z15s{B:Base}{J:List V}{hp:List Ent}{w:World}(h:Rel B J hp w)(hb:hp.all (Ent.bd J.length)=true)(k:Nat)(x:TelX)(Jx:List V)(hx:List Ent)(hA:(Z6 x.sx x.ox).holds w)(hf:∀j,(Z6 x.sx x.ox).fp j->∃e∈hp,e.wr=false/\e.fp J j)(is:List Nat)(hn:is.Nodup) (hfp:Zi (tlA k x++Jx) (dlH++hx)=Zi (tlA k x) dlH) (hs:(is.filterMap λi=>(Ent.st J.length::hp)[i]?).map (Ent.sem (J++[.a (Z6 x.sx x.ox)]))=(dlH++hx).map (Ent.sem (tlA k x++Jx))):Rel ⟨Zi (tlA k x) dlH,w⟩ (tlA k x++Jx) (dlH++hx) w:=by have h3:=(((h.gather hb _ hA hf).pick is hn).conv hs).base;rw[hfp]at h3;exact h3
theorem Z15t{B:Base}{J:List V}{hp:List Ent}{w:World}(h:Rel B J hp w)(hb:hp.all (Ent.bd J.length)=true)(k:Nat)(x:TelX)(A':Asrt)(Jx:List V)(hx:List Ent)(hA:(Z6 x.sx x.ox).holds w)(hf:∀j,(Z6 x.sx x.ox).fp j->∃e∈hp,e.wr=false/\e.fp J j) (hA':A'.holds w) (hf':∀j,A'.fp j->∃e∈hp,e.wr=false/\e.fp J j) (is:List Nat) (hn:is.Nodup) (hfp:Zi (tlA k x++Jx) (dlH++hx)=Zi (tlA k x) dlH) (hs:(is.filterMap λi=>(Ent.st (J++[V.a (Z6 x.sx x.ox)]).length::Ent.st J.length::hp)[i]?).map (Ent.sem (J++[.a (Z6 x.sx x.ox)]++[.a A']))=(dlH++hx).map (Ent.sem (tlA k x++Jx))) : Rel ⟨Zi (tlA k x) dlH,w⟩ (tlA k x++Jx) (dlH++hx) w:=by
 have h1:=h.gather hb _ hA hf;have hb1:(Ent.st J.length::hp).all (Ent.bd (J++[V.a (Z6 x.sx x.ox)]).length)=true:=by rw[List.all_cons,Bool.and_eq_true];refine⟨by simp[Ent.bd],List.all_eq_true.2 λe he=>Ent.bd_mono (by simp) e (List.all_eq_true.1 hb e he)⟩
 have ha:Zs J.length J (J++[V.a (Z6 x.sx x.ox)]):=Zs.app _ _;have h2:=h1.gather hb1 A' hA' λj hj=>by obtain⟨e,he,hw,hef⟩:=hf' j hj;exact⟨e,qy10 _ he,hw,(Ent.fp_bd ha e (List.all_eq_true.1 hb e he) j).1 hef⟩
 have h3:=((h2.pick is hn).conv hs).base;rw[hfp]at h3;exact h3
