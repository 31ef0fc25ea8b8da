/- By an AI agent. -/
import Derived.Test.YtfcofbfbgcbocaaGreatDoorR12
import Derived.Test.YtfcofbfbgcbocaaGreatDoorR13
set_option linter.all false
set_option maxHeartbeats 20000000
namespace Go.Proofs.Y
open Go Go.Sx
theorem Zes{l:List SesX}(h:Z5e (l.map (·.1))){i j:Nat}(hij:i<j)(hj:j<l.length):Za (l.getD i sxD).1.cl (l.getD j sxD).1.cl=true:=by rw[Z5e,List.pairwise_map,List.pairwise_iff_getElem]at h;have:=h i j (by omega) hj hij;simpa[qy1,qy7 hj,qy7 (Nat.lt_trans hij hj)]using this
theorem Znc{l:List SesX}{n:List UInt8}{i:Nat}(hi:i<=l.length)(h1:∀j,j<i->Za (l.getD j sxD).1.cl n=true)(h2:∀j,i<=j->j<l.length->Za (l.getD j sxD).1.cl n=false):i=idxS (l.map (·.1)) n:=by
 have e:l=l.take i++l.drop i:=(List.take_append_drop i l).symm;have f1:(l.take i).filter (λk=>Za k.1.cl n)=l.take i:=by
  rw[List.filter_eq_self];intro x hx;obtain⟨j,hj,rfl⟩:=List.mem_iff_getElem.1 hx;have hj':j<i:=by simp at hj;omega
  have:=h1 j hj';rw[List.getElem_take];simpa[qy1,qy7 (show j<l.length by omega)]using this
 have f2:(l.drop i).filter (λk=>Za k.1.cl n)=[]:=by
  rw[List.filter_eq_nil_iff];intro x hx;obtain⟨j,hj,rfl⟩:=List.mem_iff_getElem.1 hx;have hj':i+j<l.length:=by simp at hj;omega
  have:=h2 (i+j) (by omega) hj';rw[List.getElem_drop];simpa[qy1,qy7 hj']using this
 rw[idxS,List.filter_map,qy3]
 show i=(l.filter λk=>Za k.1.cl n).length
 rw[e,List.filter_append,f1,f2];simp;omega
theorem Zge(w:World)(v:Value)(l:List SesX)(n:List UInt8)(hv:reads w v kSx (l.map Zg))(hs:Z5e (l.map (·.1)))(hl:l.length<1000000000):Calls Tryz.prog 70 #[sc1 v,.string ⟨n.toArray⟩] w λe w'=>e=.returned (.tuple #[.int .i64 (idxS (l.map (·.1)) n),.bool (hasS (l.map (·.1)) n)])/\Mod [] w w':=by
 refine Z1 (Z3 (J:=[.v v,.r (l.map Zg),.s n]) sxE_ok Tryz.func70 Ze6 rfl rfl (Rel.start2 (by simp[Ent.holds,Ent.wr,hv,X.ev])) rfl rfl ?_) rfl;simp only[QQ,Nat.reduceAdd,qy3,qy4,gSx0];refine⟨λvs=>∃(i j:Nat),vs=[.i i,.i j]/\i<=j/\j<=l.length/\(∀k,k<i->Za (l.getD k sxD).1.cl n=true)/\(∀k,j<=k->k<l.length->Za (l.getD k sxD).1.cl n=false),λvs=>(vs.getD 1 (.i 0)).toI.toNat - (vs.getD 0 (.i 0)).toI.toNat,⟨0,l.length,rfl,by omega,by omega,λk hk=>by omega,λk h1 h2=>by omega⟩,?_⟩;rintro _ - ⟨i,j,rfl,hij,hj,hA,hB⟩;simp only[QQ,Nat.reduceAdd,qy3,qy4,gSx0];refine⟨λh1=>?_,λh1=>?_⟩
 ·rw[half i j (by omega)];obtain⟨h,hh⟩:∃h,h=(i+j) / 2:=⟨_,rfl⟩
  rw[<- hh];have hh1:i<=h/\h<j:=by omega
  simp only[qy4,gSx0];refine⟨by omega,by omega,by omega,by omega,by omega,by omega,λb=>?_⟩;refine⟨[.i (Z2d (l.getD h sxD).1.cl n)],rfl,λ_ w' _=>Z2e w' _ _,?_⟩;simp only[QQ,Nat.reduceAdd,qy3,qy4,gSx0];rw[Z6h];refine⟨λh2=>⟨by omega,by omega,⟨h+1,j,rfl,by omega,hj,λk hk=>?_,hB⟩,by omega⟩,λh2=>⟨⟨i,h,rfl,by omega,by omega,hA,λk hk1 hk2=>?_⟩,by omega⟩⟩
  ·by_cases hkh:k=h
   ·rw[hkh];exact h2
   ·exact Zk (Zes hs (i:=k) (j:=h) (by omega) (by omega)) h2
  ·have h3:Za (l.getD h sxD).1.cl n=false:=by simpa using h2
   by_cases hkh:k=h
   ·rw[hkh];exact h3
   ·cases h4:Za (l.getD k sxD).1.cl n with
    | false=>rfl
    | true =>
     have:=Zk (Zes hs (i:=h) (j:=k) (by omega) hk2) h4;rw[h3]at this;cases this
 ·have hie:i=j:=by omega
  subst hie;have e:=Znc (i:=i) hj hA hB;refine⟨λh2=>⟨by omega,λb=>?_⟩,λh2 w' hr=>⟨?_,hr.mod⟩⟩
  ·refine⟨[.i (Z2d (l.getD i sxD).1.cl n)],rfl,λ_ w' _=>Z2e w' _ _,?_⟩;simp only[QQ,Nat.reduceAdd,qy3,qy4,gSx0];intro w' hr;refine⟨?_,hr.mod⟩;rw[hasS,<- e,Zpy,qy3];simp only[Z37];congr 4
   simp;intro _;omega
  ·rw[hasS,<- e];have:¬i<l.length:=by omega
   simp[this]
end Go.Proofs.Y
namespace Go.Sx
theorem Rel.gather{B:Base}{J:List V}{hp:List Ent}{w:World}(h:Rel B J hp w)(hb:hp.all (Ent.bd J.length)=true)(A:Asrt)(hA:A.holds w)(hf:∀k,A.fp k->∃e∈hp,e.wr=false/\e.fp J k):Rel B (J++[.a A]) (.st J.length::hp) w:=by
 have hg:(J++[V.a A]).getD J.length (.i 0)=.a A:=by simp[qy1]
 have ha:Zx J.length J (J++[V.a A]):=λi hi=>by simp[qy1,List.getElem?_append_left hi]
 have h':=h.ext ha hb;refine h'.cons ?_ (λhw=>Bool.noConfusion hw) ?_
 ·simp only[Ent.holds,hg];exact hA
 ·intro e' he' hw k hk hk';simp only[Ent.fp,hg]at hk;obtain⟨e,he,hew,hef⟩:=hf k hk;have hw':e'.wr=true:=hw.resolve_left (λh=>Bool.noConfusion h);have hk2:e'.fp J k:=(Ent.fp_bd ha e' (List.all_eq_true.1 hb e' he') k).2 hk';exact h.disj he he' (λe=>by subst e;rw[hew]at hw';cases hw') (.inr hw') hef hk2
end Go.Sx
namespace Go.Proofs.Y
open Go Go.Sx
structure TelX where
 kept:List Kp
 wants:List Wt
 sx:List SesX
 wat:List Wat
 next:Int
 ox:List SntX
 kv:Value
 wv:Value
 sv:Value
 av:Value
 ov:Value
def TelX.tel(x:TelX):Tel:=⟨x.kept,x.wants,x.sx.map (·.1),x.wat,x.next,x.ox.map (·.1)⟩
abbrev tlA(k:Nat)(x:TelX):List V:=[.n k,.v x.kv,.r (x.kept.map encK),.v x.wv,.r (x.wants.map Zb),.v x.sv,.r (x.sx.map Zg),.v x.av,.r (x.wat.map Z8),.i x.next,.v x.ov,.r (x.ox.map Z1r),.a (Z6 x.sx x.ox)]
abbrev tlV(x:TelX):List V:=[.v x.kv,.r (x.kept.map encK),.v x.wv,.r (x.wants.map Zb),.v x.sv,.r (x.sx.map Zg),.v x.av,.r (x.wat.map Z8),.i x.next,.v x.ov,.r (x.ox.map Z1r),.a (Z6 x.sx x.ox)]
abbrev tlH:List Ent:=[.rd 1 kK (.var 2),.rd 3 kW_V (.var 4),.row 5 50 kSx (.var 6),.row 7 97 kW_K (.var 8),.row 10 111 kSn (.var 11),.st 12,.cells 0 229 [.val (.var 1),.val (.var 3),.val (.var 5),.val (.var 7),.int .i64 (.var 9),.val (.var 10)]]
def Zhv(x:TelX)(j:Nat):Prop:=(x.kept.map encK).flatten≠[]/\Z2 x.kv j
def Zd2(x:TelX)(j:Nat):Prop:=(x.wants.map Zb).flatten≠[]/\Z2 x.wv j
structure Grew(n:Nat)(F:Nat->Prop)(x y:TelX):Prop where
 kept:∀j,Zhv y j->n<=j\/Zhv x j
 want:∀j,Zd2 y j->n<=j\/Zd2 x j
 nest:∀j,(Z6 y.sx y.ox).fp j->n<=j\/(Z6 x.sx x.ox).fp j\/F j
theorem Grew.refl(n:Nat)(F:Nat->Prop)(x:TelX):Grew n F x x:=⟨λ_ h=>.inr h,λ_ h=>.inr h,λ_ h=>.inr (.inl h)⟩
theorem Grew.trans{n m:Nat}{F G:Nat->Prop}{x y z:TelX}(h:Grew n F x y)(h':Grew m G y z)(hm:n<=m)(hG:∀j,G j->n<=j\/F j):Grew n F x z:=by
 refine⟨λj hj=>?_,λj hj=>?_,λj hj=>?_⟩
 ·rcases h'.kept j hj with h1|h1
  ·exact .inl (Nat.le_trans hm h1)
  ·exact h.kept j h1
 ·rcases h'.want j hj with h1|h1
  ·exact .inl (Nat.le_trans hm h1)
  ·exact h.want j h1
 ·rcases h'.nest j hj with h1|h1|h1
  ·exact .inl (Nat.le_trans hm h1)
  ·exact h.nest j h1
  ·rcases hG j h1 with h2|h2
   ·exact .inl h2
   ·exact .inr (.inr h2)
def Z8o(w w':World)(k:Nat)(x:TelX)(F:Nat->Prop)(t:Tel):Prop:=∃y:TelX,y.tel=t/\Rel ⟨Zl (tlA k x) tlH,w⟩ (tlA k y) tlH w'/\Grew w.heap.size F x y
theorem Zky{B B':Base}{J:List V}{hp:List Ent}{w:World}(h:Rel B J hp w)(h0:B'.w0=B.w0)(hf:∀j,j∈B.fp->j∈B'.fp):Rel B' J hp w:=by
 refine⟨?_,h.holds,λe he hw k hk=>?_,h.sep⟩
 ·rw[h0];exact h.mod.mono λj hj=>.inl (hf j hj)
 ·rw[h0];rcases h.own e he hw k hk with h1|h1
  ·exact .inl h1
  ·exact .inr (hf k h1)
theorem Zvo{k:Nat}{x:TelX}{j:Nat}(h:j∈Zl (tlA k x) tlH):j∈k::(x.sv.ownBlock.toList++(x.av.ownBlock.toList++(x.ov.ownBlock.toList++[]))):=by
 simp only[Zl,tlH,tlA,List.flatMap_cons,List.flatMap_nil,Ent.fpl,List.getD_cons_zero,List.getD_cons_succ,V.toV_v,V.toN_n,List.append_nil,List.nil_append,qy13,qy12,List.mem_cons]at h⊢;rcases h with h|h|h|h
 ·exact .inr (.inl h)
 ·exact .inr (.inr (.inl h))
 ·exact .inr (.inr (.inr h))
 ·exact .inl (by simpa using h)
theorem Znd{B:Base}{J:List V}{hp:List Ent}{w:World}(h:Rel B J hp w)(hb:hp.all (Ent.bd J.length)=true)(k:Nat)(y:TelX)(hA:(Z6 y.sx y.ox).holds w)(hf:∀j,(Z6 y.sx y.ox).fp j->∃e∈hp,e.wr=false/\e.fp J j)(is:List Nat)(hn:is.Nodup) (hs:(is.filterMap λi=>(Ent.st J.length::hp)[i]?).map (Ent.sem (J++[.a (Z6 y.sx y.ox)]))=tlH.map (Ent.sem (tlA k y))):Rel B (tlA k y) tlH w :=
 ((h.gather hb _ hA hf).pick is hn).conv hs
abbrev tlEs(n:Nat):List Ent:=[.rd n kK (.var (n+1)),.rd (n+2) kW_V (.var (n+3)),.row (n+4) 50 kSx (.var (n+5)),.row (n+6) 97 kW_K (.var (n+7)),.row (n+9) 111 kSn (.var (n+10)),.st (n+11)]
abbrev tlMs(vk n:Nat):List Ent:=[.cells vk 229 [.val (.var n),.val (.var (n+2)),.val (.var (n+4)),.val (.var (n+6)),.int .i64 (.var (n+8)),.val (.var (n+9))]]
theorem Z1a4{J pre:List V}{y:TelX}{n:Nat}(hn:J.length+pre.length=n)(i:Nat):(J++(pre++tlV y)).getD (n+i) (.i 0)=(tlV y).getD i (.i 0):=by subst hn;rw[<- List.append_assoc,qy1,qy1,List.getElem?_append_right (by simp)];simp
theorem Z109{J pre:List V}{y:TelX}{k vk n:Nat}(hn:J.length+pre.length=n)(hk:J.getD vk (.i 0)=.n k)(hv:vk<J.length):tlH.map (Ent.sem (tlA k y))=(tlEs n++tlMs vk n).map (Ent.sem (J++(pre++tlV y))):=by
 have g:=Z1a4 (y:=y) hn;have g0:(J++(pre++tlV y)).getD n (.i 0)=.v y.kv:=g 0;have hk':(J++(pre++tlV y)).getD vk (.i 0)=.n k:=by rw[<- hk,qy1,qy1,List.getElem?_append_left hv]
 simp only[tlH,tlEs,tlMs,List.cons_append,List.nil_append,List.map_cons,List.map_nil,Ent.sem,Ent.holds,Ent.fp,Ent.wr,X.ev,Sc.ev,g0,g 1,g 2,g 3,g 4,g 5,g 6,g 7,g 8,g 9,g 10,g 11,hk'];rfl
theorem Z3g{P:Program}{f:Nat}{args:Array Value}{w:World}{B:Base}{J:List V}{hp:List Ent}{k:Nat}{x:TelX}{F:Nat->Prop}{R:TelX->Prop}{pre:List V}{v:Value}(h0:Rel B J hp w)(n vk:Nat)(gone:List Nat) (h:Calls P f args w λe w1=>e=.returned v/\∃y:TelX,R y/\Rel ⟨Zl (tlA k x) tlH,w⟩ (tlA k y) tlH w1/\Grew w.heap.size F x y) (hn:J.length+pre.length=n) (hk:J.getD vk (.i 0)=.n k) (hv:vk<J.length) (hM:Zm J [vk] gone=k::(x.sv.ownBlock.toList++(x.av.ownBlock.toList++(x.ov.ownBlock.toList++[])))) (hO:∀j,(Zhv x j\/Zd2 x j\/(Z6 x.sx x.ox).fp j\/F j)->∃y∈hp,y.wr=false/\y.fp J j) : Calls P f args w λe w1=>∃y:TelX,R y/\w.heap.size<=w1.heap.size/\Grew w.heap.size F x y/\e=.returned v/\Mod (Zm J [vk] gone) w w1/\(∀x∈tlMs vk n,x.holds (J++(pre++tlV y)) w1) /\ (∀x∈tlEs n,x.holds (J++(pre++tlV y)) w1/\∀k,x.fp (J++(pre++tlV y)) k->w.heap.size<=k\/(x.wr=false/\∃y∈hp,y.wr=false/\y.fp J k)\/k∈Zt J gone)/\Zp (J++(pre++tlV y)) (tlEs n):=by
 refine h.mono ?_;rintro e w1 ⟨he,y,hT,hq,hg⟩;have hs:=Z109 (y:=y) hn hk hv;have hq':Rel ⟨Zm J [vk] gone,w⟩ (J++(pre++tlV y)) (tlEs n++tlMs vk n) w1:=Zky (hq.conv hs) rfl λj hj=>by rw[show(Base.fp ⟨Zm J [vk] gone,w⟩)=Zm J [vk] gone from rfl,hM];exact Zvo hj
 refine⟨y,hT,hq.mod.size,hg,he,hq'.mod,λx hx=>hq'.holds x (List.mem_append_right _ hx),λx hx=>⟨hq'.holds x (List.mem_append_left _ hx),λj hj=>?_⟩,(List.pairwise_append.1 hq'.sep).1⟩;cases hw:x.wr with
 | false =>
  have h1:Ent.sem (J++(pre++tlV y)) x∈tlH.map (Ent.sem (tlA k y)):=by rw[hs];exact List.mem_map_of_mem (List.mem_append_left _ hx)
  obtain⟨e',he',hee⟩:=List.mem_map.1 h1;have hw':e'.wr=false:=(congrArg SEnt.wr hee).trans hw;have hj':e'.fp (tlA k y) j:=(congrFun (congrArg SEnt.fp hee) j).mpr hj;have key:∀j,(Zhv y j\/Zd2 y j\/(Z6 y.sx y.ox).fp j)->w.heap.size<=j\/∃y∈hp,y.wr=false/\y.fp J j:=by
   rintro j (h|h|h)
   ·rcases hg.kept j h with h|h
    ·exact .inl h
    ·exact .inr (hO j (.inl h))
   ·rcases hg.want j h with h|h
    ·exact .inl h
    ·exact .inr (hO j (.inr (.inl h)))
   ·rcases hg.nest j h with h|h|h
    ·exact .inl h
    ·exact .inr (hO j (.inr (.inr (.inl h))))
    ·exact .inr (hO j (.inr (.inr (.inr h))))
  have fin:w.heap.size<=j\/∃y∈hp,y.wr=false/\y.fp J j:=by
   simp only[tlH,List.mem_cons,List.not_mem_nil,or_false]at he';rcases he' with rfl|rfl|rfl|rfl|rfl|rfl|rfl
   ·exact key j (.inl hj')
   ·exact key j (.inr (.inl hj'))
   ·cases hw'
   ·cases hw'
   ·cases hw'
   ·exact key j (.inr (.inr hj'))
   ·cases hw'
  rcases fin with h|h
  ·exact .inl h
  ·exact .inr (.inl ⟨rfl,h⟩)
 | true =>
  rcases hq'.own x (List.mem_append_left _ hx) hw j hj with h5|h5
  ·exact .inl h5
  ·simp only[Zm,List.map_cons,List.map_nil,qy13,qy12]at h5;rcases h5 with h5|h5
   ·exfalso;refine(List.pairwise_append.1 hq'.sep).2.2 x hx _ (qy12.2 rfl) (.inl hw) _ hj ?_;rw[h5];simp only[Ent.fp];rw[qy1 (l:=J++_),List.getElem?_append_left hv,<- qy1]
   ·exact .inr (.inr h5)
abbrev Z7m:=Pkt×Value×Value
abbrev pxD:Z7m:=(pD_Q 0,.slice none 0 0,.slice none 0 0)
def Z47(t:Z7m):List Value:=[.int .i64 t.1.kind,.bool t.1.dup,.bool t.1.retain,.bool t.1.clean,.bool t.1.session,.int .i64 t.1.qos,.int .i64 t.1.id,.int .i64 t.1.keep,.int .i64 t.1.code,.string ⟨t.1.client.toArray⟩,.string ⟨t.1.topic.toArray⟩,.string ⟨t.1.payload.toArray⟩,sc1 t.2.1,sc1 t.2.2]
abbrev kX:List Kd:=[.int .i64,.bool,.bool,.bool,.bool,.int .i64,.int .i64,.int .i64,.int .i64,.str,.str,.str,.oth,.oth]
def Zkz(t:Z7m):List (Value×List Kd×List (List Value)):=[(t.2.1,[.str,.int .i64],t.1.asks.map encA),(t.2.2,[.int .i64],t.1.codes.map Zh)]
def Z11(l:List Z7m):Asrt:=rdsZ (l.flatMap Zkz)
def pkF(t:Z7m)(k:Nat):Prop:=((t.1.asks.map encA).flatten≠[]/\Z2 t.2.1 k)\/((t.1.codes.map Zh).flatten≠[]/\Z2 t.2.2 k)
theorem Z10a{l:List Z7m}{w:World}(h:(Z11 l).holds w){t:Z7m}(ht:t∈l):Z3i w t.2.1 t.1.asks/\Z2w w t.2.2 t.1.codes :=
 ⟨h (t.2.1,[.str,.int .i64],t.1.asks.map encA) (List.mem_flatMap.2 ⟨t,ht,by simp[Zkz]⟩),h (t.2.2,[.int .i64],t.1.codes.map Zh) (List.mem_flatMap.2 ⟨t,ht,by simp[Zkz]⟩)⟩
theorem Zne{l:List Z7m}{t:Z7m}(ht:t∈l){k:Nat}(h:pkF t k):(Z11 l).fp k:=by
 rcases h with h|h
 ·exact⟨_,List.mem_flatMap.2 ⟨t,ht,qy8 ..⟩,h⟩
 ·exact⟨_,List.mem_flatMap.2 ⟨t,ht,qy10 _ (qy8 ..)⟩,h⟩
def Zvp(c:List UInt8)(t:Z7m):SntX:=(toC c t.1,t.2.1,t.2.2,.slice none 0 0)
theorem Z10b{c:List UInt8}{t:Z7m}{k:Nat}(h:sntF (Zvp c t) k):pkF t k:=by
 rcases h with h|h|h
 ·exact .inl h
 ·exact .inr h
 ·exact absurd rfl h.1
abbrev pkA(c:List UInt8)(lv:Value)(l:List Z7m):List V:=[.s c,.v lv,.r (l.map Z47),.a (Z11 l)]
abbrev pkH:List Ent:=[.rd 14 kX (.var 15),.st 16]
theorem Z1d3{l:List Z7m}{i:Nat}(h:i<l.length):(l.map Z47).getD i []=Z47 (l.getD i pxD):=by rw[qy1,qy1,List.getElem?_map,qy7 h];rfl
theorem Z1f9(l:List Z7m)(i:Nat)(h:i<l.length):l.take (i+1)=l.take i++[l.getD i pxD]:=by rw[List.take_add_one,qy1,qy7 h];rfl
theorem Z1p(v:Value):sc1 (sc1 v)=sc1 v:=by cases v<;>rfl
theorem Z10c(w:World)(k:Nat)(x:TelX)(c:List UInt8)(lv:Value)(l:List Z7m)(hr:Rel ⟨Zl (tlA k x) tlH,w⟩ (tlA k x++pkA c lv l) (tlH++pkH) w)(hl:l.length<1000000)(ho:x.ox.length<1000000) : Calls Tryz.prog 191 #[.pointer (some ⟨k,0,none⟩),.string ⟨c.toArray⟩,sc1 lv] w λe w'=>e=.returned (.tuple #[])/\∃ov':Value,Rel ⟨Zl (tlA k x) tlH,w⟩ (tlA k { x with ox:=x.ox++l.map (Zvp c),ov:=ov' }) tlH w':=by
 refine Z1 (Z3 (J:=tlA k x++pkA c lv l) sxE_ok Tryz.func191 Z5j rfl rfl hr rfl rfl ?_) rfl;simp only[QQ,Nat.reduceAdd,qy3,qy4];refine⟨λvs=>∃(i:Nat) (u:Value),vs=[.i i,.v x.kv,.r (x.kept.map encK),.v x.wv,.r (x.wants.map Zb),.v x.sv,.r (x.sx.map Zg),.v x.av,.r (x.wat.map Z8),.i x.next,.v u,.r ((x.ox++(l.take i).map (Zvp c)).map Z1r)]/\i<=l.length,λvs=>l.length - (vs.getD 0 (.i 0)).toI.toNat,⟨0,x.ov,by simp,by omega⟩,?_⟩;rintro _ - ⟨i,u,rfl,hi⟩;simp only[QQ,Nat.reduceAdd,qy3,qy4];refine⟨λh1=>?_,λh1 w' hr=>?_⟩
 ·have hrow:=Z1d3 (l:=l) (i:=i) (by omega);simp only[hrow,Z47,List.getD_cons_zero,List.getD_cons_succ,Value.gI,Value.gB,Value.gS];refine⟨by omega,λb v=>⟨by simp only[qy11,qy3,List.length_take];omega,λv1=>⟨by omega,by omega,⟨i+1,v1,?_,by omega⟩,by omega⟩⟩⟩;rw[Z1f9 l i (by omega),Z1p,Z1p];simp only[List.map_append,List.append_assoc];rfl
 ·have:i=l.length:=by omega
  subst this;rw[List.take_length]at hr;refine⟨by trivial,u,?_⟩;refine Znd hr (by rfl) k { x with ox:=x.ox++l.map (Zvp c),ov:=u } ?_ ?_ [1,2,3,4,5,0,7] (by decide) rfl
  ·refine Z19 (l:=x.sx) (o:=x.ox) (λt ht=>.inl ht) (λt ht=>?_) (hr.at_ 5 rfl);rcases qy13.1 ht with ht|ht
   ·exact .inl ht
   ·obtain⟨p,hp,rfl⟩:=List.mem_map.1 ht;have:=Z10a (hr.at_ 8 rfl:(Z11 l).holds w') hp;exact .inr ⟨this.1,this.2,Z9 _ _⟩
  ·intro j hj;rcases Zc.1 hj with⟨t,ht,hj⟩|⟨t,ht,hj⟩
   ·exact⟨_,qy6 (i:=5) rfl,rfl,Zc.2 (.inl ⟨t,ht,hj⟩)⟩
   ·rcases qy13.1 ht with ht|ht
    ·exact⟨_,qy6 (i:=5) rfl,rfl,Zc.2 (.inr ⟨t,ht,hj⟩)⟩
    ·obtain⟨p,hp,rfl⟩:=List.mem_map.1 ht;exact⟨_,qy6 (i:=8) rfl,rfl,Zne hp (Z10b hj)⟩
end Go.Proofs.Y
namespace Go.Proofs.Y
open Go.Sx
structure FlOk(fl:List Fl):Prop where
 each:∀f∈fl,flE f=0/\1<=f.1/\f.1<=65535
 ids:(fl.map (·.1)).Nodup
theorem Zet{l:List Fl}{n:Int}:l.any (idIs n)=true↔n∈l.map (·.1):=by
 rw[List.any_eq_true,List.mem_map];constructor
 ·rintro⟨x,hx,h⟩;exact⟨x,hx,by simpa[idIs]using h⟩
 ·rintro⟨x,hx,h⟩;exact⟨x,hx,by simpa[idIs]using h⟩
theorem Zgf:∀(l prev:List Fl),FlOk prev->(Zb9 prev l=0↔FlOk (prev++l))
 | [],prev,hp=>by simp[Zb9,hp]
 | f::l,prev,hp=>by
  have key:FlOk (prev++[f])↔(flE f=0/\(1<=f.1/\f.1<=65535)/\¬prev.any (idIs f.1)=true):=by
   constructor
   ·intro h;have h1:=h.each f (by simp);refine⟨h1.1,h1.2,λh2=>?_⟩;have h3:=h.ids;rw[List.map_append,List.nodup_append]at h3;exact h3.2.2 _ (Zet.1 h2) f.1 (by simp) rfl
   ·rintro⟨h1,h2,h3⟩;refine⟨λx hx=>?_,?_⟩
    ·rcases qy13.1 hx with hx|hx
     ·exact hp.each x hx
     ·rw[qy12.1 hx];exact⟨h1,h2⟩
    ·rw[List.map_append,List.nodup_append];refine⟨hp.ids,by simp,λa ha b hb=>?_⟩;rw[List.map_cons,List.map_nil,qy12]at hb;subst hb;rintro rfl;exact h3 (Zet.2 ha)
  have up:FlOk (prev++f::l)->FlOk (prev++[f]):=by
   intro h;refine⟨λx hx=>h.each x ?_,?_⟩
   ·rcases qy13.1 hx with hx|hx
    ·exact List.mem_append_left _ hx
    ·rw[qy12.1 hx];simp
   ·have:=h.ids;rw[show prev++f::l=(prev++[f])++l by simp,List.map_append,List.nodup_append]at this;exact this.1
  rw[Zb9];constructor
  ·intro h;split at h
   ·exact absurd h (by assumption)
   split at h
   ·split at h
    ·exact absurd h (by decide)
    ·have h1:=(Zgf l (prev++[f]) (key.2 ⟨by simpa using ‹¬flE f≠0›,by assumption,by assumption⟩)).1 h;simpa using h1
   ·exact absurd h (by decide)
  ·intro h;have h1:=key.1 (up h);rw[if_neg (by simpa using h1.1),if_pos h1.2.1,if_neg h1.2.2];exact(Zgf l (prev++[f]) (up h)).2 (by simpa using h)
theorem Zgg:∀l:List Fl,Zcr l=0↔∀f∈l,flE f=0/\f.1=0
 | []=>by simp[Zcr]
 | f::l=>by
  rw[Zcr];constructor
  ·intro h;split at h
   ·exact absurd h (by assumption)
   split at h
   ·have:=(Zgg l).1 h;intro x hx;rcases List.mem_cons.1 hx with rfl|hx
    ·exact⟨by simpa using ‹¬flE x≠0›,by assumption⟩
    ·exact this x hx
   ·exact absurd h (by decide)
  ·intro h;have h1:=h f (qy8 ..);rw[if_neg (by simpa using h1.1),if_pos h1.2];exact(Zgg l).2 λx hx=>h x (qy10 _ hx)
structure SesOk(s:Ses):Prop where
 cl:Zd s.cl=true
 nf:s.fl.length<=3
 nq:s.qu.length<=6
 fl:FlOk s.fl
 qu:∀f∈s.qu,flE f=0/\f.1=0
 next:1<=s.next/\s.next<=65535
 off:¬s.on=true->s.clean=true->s.fl=[]/\s.qu=[]
 full:s.on=true->s.qu≠[]->s.fl.length=3
theorem FlOk.nil:FlOk []:=⟨by simp,by simp⟩
theorem Zsm{s:Ses}:allS s=0↔FlOk s.fl/\∀f∈s.qu,flE f=0/\f.1=0:=by
 have h1:=Zgf s.fl [] .nil;have h2:=Zgg s.qu;rw[List.nil_append]at h1;unfold allS;constructor
 ·intro h;split at h
  ·exact⟨h1.1 (by assumption),h2.1 h⟩
  ·exact absurd h (by assumption)
 ·rintro⟨h3,h4⟩;rw[if_pos (h1.2 h3)];exact h2.2 h4
theorem Zsn{s:Ses}:chkS s=0↔SesOk s:=by
 constructor
 ·intro h;have⟨k1,k2,k3⟩:=Z190 h;unfold chkS at h;split at h
  ·split at h
   ·exact absurd h (by decide)
   ·split at h
    ·obtain⟨a1,a2⟩:=(Zsm (s:=s)).1 (by assumption);split at h
     ·exact absurd h (by decide)
     ·rename_i hn;refine⟨by assumption,k2,k3,a1,a2,k1,λh1 h2=>?_,λh1 h2=>?_⟩
      ·have:¬0<(s.fl.length:Int)+s.qu.length:=λh3=>hn (.inl ⟨⟨h1,h2⟩,h3⟩);exact⟨List.length_eq_zero_iff.1 (by omega),List.length_eq_zero_iff.1 (by omega)⟩
      ·have h4:s.qu.length≠0:=λh=>h2 (List.length_eq_zero_iff.1 h);have:¬(s.fl.length:Int)<3:=λh3=>hn (.inr ⟨⟨h1,by omega⟩,h3⟩);omega
    ·exact absurd h (by assumption)
  ·exact absurd h (by decide)
 ·intro h;have nf:=h.nf;have nq:=h.nq;unfold chkS;rw[if_pos h.cl,if_neg (by omega),if_pos (Zsm.2 ⟨h.fl,h.qu⟩),if_pos h.next,if_neg];rintro(⟨⟨h1,h2⟩,h3⟩|⟨⟨h1,h2⟩,h3⟩)
  ·have:=h.off h1 h2;rw[this.1,this.2]at h3;exact absurd h3 (by decide)
  ·have:=h.full h1 (λh4=>by rw[h4]at h2;exact absurd h2 (by decide));omega
abbrev pay(f:Fl):List UInt8:=f.2.2
theorem Z1a5(on:Bool):∀(qu fl:List Fl) (next:Int) (out:List Pk),FlOk fl->(∀f∈qu,flE f=0/\f.1=0)->(1<=next/\next<=65535)->fl.length<=3 -> FlOk (flyR on fl qu next out).1/\(∀f∈(flyR on fl qu next out).2.1,flE f=0/\f.1=0)/\(1<=(flyR on fl qu next out).2.2.1/\(flyR on fl qu next out).2.2.1<=65535)/\(flyR on fl qu next out).1.length<=3 /\ (flyR on fl qu next out).1.map pay++(flyR on fl qu next out).2.1.map pay=fl.map pay++qu.map pay/\(on=true->(flyR on fl qu next out).2.1≠[]->(flyR on fl qu next out).1.length=3)/\(flyR on fl qu next out).2.1.length<=qu.length:=by
 intro qu;induction qu with
 | nil=>intro fl next out h1 h2 h3 h4;exact⟨h1,by simp[flyR],h3,h4,rfl,λ_ h=>absurd rfl h,by simp[flyR]⟩
 | cons f q ih =>
  intro fl next out h1 h2 h3 h4
  rw[flyR];split
  ·rename_i hc;have hf:=h2 f (qy8 ..);have hid:=Zpg (fl:=fl) h3;have hfree:=Zyc (fl:=fl) hc.2 h3;have h5:FlOk (fl++[(Z2t fl next,f.2.1,f.2.2)]):=by
    refine⟨λx hx=>?_,?_⟩
    ·rcases qy13.1 hx with hx|hx
     ·exact h1.each x hx
     ·rw[qy12.1 hx];exact⟨hf.1,hid⟩
    ·rw[List.map_append,List.nodup_append];refine⟨h1.ids,by simp,λa ha b hb=>?_⟩;rw[List.map_cons,List.map_nil,qy12]at hb;subst hb;rintro rfl;have:=Zet.2 ha;rw[Zet.2 ha |> λh=>(show used fl (Z2t fl next)=true from h)]at hfree;exact Bool.noConfusion hfree
   obtain⟨i1,i2,i3,i4,i5,i6,i7⟩:=ih (fl++[(Z2t fl next,f.2.1,f.2.2)]) (nx_N (Z2t fl next)) (out++[(false,1,Z2t fl next,f.2.1,f.2.2)]) h5 (λx hx=>h2 x (qy10 _ hx)) (Zkc hid).1 (by simp;omega);refine⟨i1,i2,i3,i4,?_,i6,?_⟩
   ·rw[i5];simp
   ·rw[List.length_cons];omega
  ·rename_i hc;refine⟨h1,h2,h3,h4,rfl,λh _=>?_,Nat.le_refl _⟩;have:¬fl.length<3:=λh5=>hc ⟨h,h5⟩
   show fl.length=3
   omega
def Zgh(s:Ses):List (List UInt8):=s.fl.map pay++s.qu.map pay
theorem Zpz{s:Ses}(cl:Zd s.cl=true)(nf:s.fl.length<=3)(nq:s.qu.length<=6)(fl:FlOk s.fl)(qu:∀f∈s.qu,flE f=0/\f.1=0)(next:1<=s.next/\s.next<=65535)(hon:s.on=true\/¬s.clean=true):SesOk (flyS s).1/\Zgh (flyS s).1=Zgh s:=by
 obtain⟨i1,i2,i3,i4,i5,i6,i7⟩:=Z1a5 s.on s.qu s.fl s.next [] fl qu next nf
 refine⟨⟨cl,i4,Nat.le_trans i7 nq,i1,i2,i3,λh1 h2=>?_,i6⟩,i5⟩;rcases hon with h|h
 ·exact absurd h h1
 ·exact absurd h2 h
theorem Z1fa{s:Ses}(h:SesOk s):SesOk (goR s)/\Zgh (goR s)=if s.clean=true then[]else Zgh s:=by
 unfold goR Zgh;by_cases hc:s.clean=true
 ·simp only[hc,if_true];exact⟨⟨h.cl,by simp,by simp,.nil,by simp,h.next,λ_ _=>⟨rfl,rfl⟩,λh1=>Bool.noConfusion h1⟩,rfl⟩
 ·simp only[if_neg hc];exact⟨⟨h.cl,h.nf,h.nq,h.fl,h.qu,h.next,λ_ h1=>absurd h1 hc,λh1=>Bool.noConfusion h1⟩,trivial⟩
theorem Z1a6{s:Ses}(h:SesOk s):SesOk (Zfw s).1/\Zgh (Zfw s).1=Zgh s :=
 Zpz (s:={ s with on:=true }) h.cl h.nf h.nq h.fl h.qu h.next (.inl rfl)
theorem Z15e{fl:List Fl}{id:Int}(h:FlOk fl):FlOk (Z8m fl id):=by refine⟨λx hx=>h.each x (List.mem_filter.1 hx).1,?_⟩;exact h.ids.sublist (List.Sublist.map _ List.filter_sublist)
def wL:List Wat:=[(1,[116],[97,47,98],16777215),(2,[116],[99],5)]
theorem Z10d(w:World):Calls Tryz.prog 53 #[] w λe w'=>∃v,e=.returned (sc1 v)/\Z4g w' v wL/\Zif w.heap.size v/\Mod [] w w':=by
 refine Z1 (Z7 (J:=[]) sxE_ok Tryz.func53 Z6b rfl rfl rfl ?_) rfl;simp only[QQ,Nat.reduceAdd];intro v0 w' hr;refine⟨v0,rfl,owns.reads (hr.at_ 0 rfl),λk hk=>?_,hr.mod⟩;rcases hr.own _ (qy8 ..) rfl k hk with h|h
 ·exact h
 ·simp at h
def Z1d4(x:Wat):Prop:=Z3w x.1 x.2.1 x.2.2.1=0/\0<=x.2.2.2/\x.2.2.2<=16777215
def Zgi(a b:Wat):Prop:=Z89 b.1 b.2.1 a=false
theorem Z15f:∀{l prev:List Wat},chkL prev l=0↔(∀x∈l,Z1d4 x)/\l.Pairwise Zgi/\∀a∈prev,∀b∈l,Zgi a b:=by
 intro l;induction l with
 | nil=>intro prev;simp[chkL]
 | cons w l ih =>
  intro prev;simp only[chkL];split
  ·rename_i h;exact⟨λe=>absurd e h,λe=>absurd (e.1 w (qy8 ..)).1 h⟩
  ·rename_i h;have h:=qy9.1 h;split
   ·rename_i h2;split
    ·rename_i h3;refine⟨λe=>absurd e (by decide),λe=>?_⟩;obtain⟨a,ha,hs⟩:=List.any_eq_true.1 h3;have:=e.2.2 a ha w (qy8 ..);rw[Zgi,hs]at this;cases this
    ·rename_i h3;rw[ih];have h3:∀a∈prev,Zgi a w:=λa ha=>by
      have:=List.any_eq_false.1 (Bool.eq_false_iff.2 h3) a ha;exact Bool.eq_false_iff.2 this
     refine⟨λ⟨e1,e2,e3⟩=>⟨?_,?_,?_⟩,λ⟨e1,e2,e3⟩=>⟨?_,?_,?_⟩⟩
     ·intro x hx;rcases List.mem_cons.1 hx with rfl|hx
      ·exact⟨h,h2⟩
      ·exact e1 x hx
     ·exact List.pairwise_cons.2 ⟨λb hb=>e3 w (by simp) b hb,e2⟩
     ·intro a ha b hb;rcases List.mem_cons.1 hb with rfl|hb
      ·exact h3 a ha
      ·exact e3 a (by simp[ha]) b hb
     ·exact λx hx=>e1 x (qy10 _ hx)
     ·exact(List.pairwise_cons.1 e2).2
     ·intro a ha b hb;rcases qy13.1 ha with ha|ha
      ·exact e3 a ha b (qy10 _ hb)
      ·rw[qy12]at ha;subst ha;exact(List.pairwise_cons.1 e2).1 b hb
   ·rename_i h2;exact⟨λe=>absurd e (by decide),λe=>absurd (e.1 w (qy8 ..)).2 h2⟩
theorem Z1a{l:List Wat}:Z10 l=0↔l.length<=12/\(∀x∈l,Z1d4 x)/\l.Pairwise Zgi:=by
 unfold Z10;split
 ·exact⟨λe=>absurd e (by decide),λe=>absurd e.1 (by omega)⟩
 ·rw[Z15f];exact⟨λe=>⟨by omega,e.1,e.2.1⟩,λe=>⟨e.2.1,e.2.2,λa ha=>by cases ha⟩⟩
theorem Z1a7{l:List Wat}{p:Int}{t n:List UInt8}(h:Z10 l=0)(h1:Z3w p t n=0)(h2:(filt p t l).length+1<=12):Z10 (filt p t l++[(p,t,n,1)])=0:=by
 rw[Z1a]at h⊢;refine⟨by rw[qy11];exact h2,λx hx=>?_,List.pairwise_append.2 ⟨h.2.2.filter _,List.pairwise_singleton _ _,?_⟩⟩
 ·rcases qy13.1 hx with hx|hx
  ·exact h.2.1 x (List.mem_filter.1 hx).1
  ·rw[qy12]at hx;subst hx;exact⟨h1,(by decide:(0:Int)<=1),(by decide:(1:Int)<=16777215)⟩
 ·intro a ha b hb;rw[qy12]at hb;subst hb;have:=(List.mem_filter.1 ha).2;simpa[Zgi]using this
def adv1(i:Int)(n:List UInt8)(w:Wat):Wat:=if w.2.2.1=n then(w.1,w.2.1,w.2.2.1,(w.2.2.2+i) % 16777216)else w
def advL(i:Int)(n:List UInt8)(l:List Wat):List Wat:=l.map (adv1 i n)
theorem Z10e(i:Int)(n:List UInt8)(w:Wat):(adv1 i n w).2.2.1=w.2.2.1:=by unfold adv1;split<;>rfl
theorem Zix(i:Int)(n:List UInt8)(w:Wat):(adv1 i n w).1=w.1/\(adv1 i n w).2.1=w.2.1:=by unfold adv1;split<;>exact⟨rfl,rfl⟩
theorem Z1a8(i:Int)(n:List UInt8)(l:List Wat):(advL i n l).length=l.length:=by simp[advL]
theorem Z1a9{i:Int}{n:List UInt8}{w:Wat}(h:0<=w.2.2.2/\w.2.2.2<=16777215):0<=(adv1 i n w).2.2.2/\(adv1 i n w).2.2.2<=16777215:=by
 unfold adv1;split
 ·simp only;omega
 ·exact h
theorem Z15g(i:Int)(n:List UInt8)(w:Wat)(h:0<=w.2.2.2/\w.2.2.2<=16777215):Z8l n (adv1 i n w)=adv1 (i+1) n w:=by
 by_cases hn:w.2.2.1=n
 ·have e1:adv1 i n w=(w.1,w.2.1,w.2.2.1,(w.2.2.2+i) % 16777216):=by rw[adv1,if_pos hn]
  have e2:adv1 (i+1) n w=(w.1,w.2.1,w.2.2.1,(w.2.2.2+(i+1)) % 16777216):=by rw[adv1,if_pos hn]
  rw[e1,e2,Z8l];simp only;rw[if_pos hn];have:(if 16777215<(w.2.2.2+i) % 16777216+1 then(0:Int)else(w.2.2.2+i) % 16777216+1)=(w.2.2.2+(i+1)) % 16777216:=by split<;>omega
  rw[this]
 ·have e1:∀k:Int,adv1 k n w=w:=λk=>by rw[adv1,if_neg hn]
  rw[e1,e1,Z8l,if_neg hn]
theorem Z15h{i:Int}{n:List UInt8}{l:List Wat}(h:okN l):Z3c n (advL i n l)=advL (i+1) n l:=by rw[Z3c,advL,List.map_map];exact List.map_congr_left λw hw=>Z15g i n w (h w hw)
theorem Z15i{n:List UInt8}{l:List Wat}(h:okN l):advL 0 n l=l:=by
 have:l.map (adv1 0 n)=l.map id:=List.map_congr_left λw hw=>by
  have:=h w hw;unfold adv1;split
  ·have e:(w.2.2.2+0) % 16777216=w.2.2.2:=by omega
   rw[e];rfl
  ·rfl
 rw[advL,this,List.map_id]
theorem Z1aa{i:Int}{n:List UInt8}{l:List Wat}(h:Z10 l=0):Z10 (advL i n l)=0:=by
 rw[Z1a]at h⊢;refine⟨by rw[Z1a8];exact h.1,λx hx=>?_,?_⟩
 ·obtain⟨w,hw,rfl⟩:=List.mem_map.1 hx;have hw:=h.2.1 w hw;refine⟨?_,Z1a9 hw.2⟩;rw[(Zix i n w).1,(Zix i n w).2,Z10e];exact hw.1
 ·rw[advL,List.pairwise_map];refine h.2.2.imp λ{a b} hab=>?_;rw[Zgi,Z89,(Zix i n a).1,(Zix i n a).2,(Zix i n b).1,(Zix i n b).2];exact hab
def loK(l:List Kp)(n:List UInt8):List Kp:=l.filter λk=>Zs k.1 n
def miK(l:List Kp)(n:List UInt8):List Kp:=l.filter λk=>decide (k.1=n)
def hiK(l:List Kp)(n:List UInt8):List Kp:=l.filter λk=>Zs n k.1
theorem Zgj{p:Kp->Bool}{l:List Kp}(h:∀x∈l,p x=false):l.filter p=[]:=by rw[List.filter_eq_nil_iff];intro x hx;rw[h x hx];decide
theorem Zso{p:Kp->Bool}{l:List Kp}(h:∀x∈l,p x=true):l.filter p=l:=List.filter_eq_self.2 h
theorem Zvq:∀(l:List Kp) (n:List UInt8),Z7a l->l=loK l n++miK l n++hiK l n/\(miK l n).length<=1
 | [],_,_=>by simp[loK,miK,hiK]
 | k::r,n,h=>by
  obtain⟨h1,h2⟩:=List.pairwise_cons.1 h;obtain⟨e,hm⟩:=Zvq r n h2;cases hk:Zs k.1 n with
  | true =>
   have a1:loK (k::r) n=k::loK r n:=by simp[loK,hk]
   have a2:miK (k::r) n=miK r n:=by simp[miK,Zbe hk]
   have a3:hiK (k::r) n=hiK r n:=by simp[hiK,Z4p hk]
   rw[a1,a2,a3];exact⟨by rw[List.cons_append,List.cons_append,<- e],hm⟩
  | false =>
   have hgt:∀x∈r,Zs n x.1=true:=λx hx=>by
    rcases Z3y.1 hk with h3|h3
    ·exact Z2c h3 (h1 x hx)
    ·rw[h3];exact h1 x hx
   have b1:loK r n=[]:=Zgj λx hx=>Z4p (hgt x hx);have b2:miK r n=[]:=Zgj λx hx=>decide_eq_false (λe=>by have:=hgt x hx;rw[e,Z3d]at this;cases this);have b3:hiK r n=r:=Zso hgt;have a1:loK (k::r) n=[]:=by rw[loK,List.filter_cons,hk];exact b1
   rcases Z3y.1 hk with h3|h3
   ·have a2:miK (k::r) n=[]:=by rw[miK,List.filter_cons,decide_eq_false (Zbe h3).symm];exact b2
    have a3:hiK (k::r) n=k::r:=by rw[hiK,List.filter_cons,h3,if_pos rfl];exact congrArg (List.cons k) b3
    rw[a1,a2,a3];simp
   ·have a2:miK (k::r) n=[k]:=by rw[miK,List.filter_cons,decide_eq_true h3.symm,if_pos rfl];exact congrArg (List.cons k) b2
    have a3:hiK (k::r) n=r:=by
     have:Zs n k.1=false:=by rw[<- h3];exact Z3d _
     rw[hiK,List.filter_cons,this];exact b3
    rw[a1,a2,a3];simp
theorem Z10f(l:List Kp)(n:List UInt8):idx l n=(loK l n).length:=rfl
theorem Zq0{l:List Kp}{n:List UInt8}(h:Z7a l):l.take (idx l n)=loK l n:=by
 have e:=(Zvq l n h).1;rw[Z10f]
 calc l.take (loK l n).length=(loK l n++miK l n++hiK l n).take (loK l n).length:=by rw[<- e]
  _=loK l n:=by rw[List.append_assoc,List.take_left]
theorem Z10g{l:List Kp}{n:List UInt8}(h:Z7a l):l.drop (idx l n)=miK l n++hiK l n:=by
 have e:=(Zvq l n h).1;rw[Z10f]
 calc l.drop (loK l n).length=(loK l n++miK l n++hiK l n).drop (loK l n).length:=by rw[<- e]
  _=miK l n++hiK l n:=by rw[List.append_assoc,List.drop_left]
theorem Z1d5{l:List Kp}{n:List UInt8}(h:Z7a l):l.getD (idx l n) kD=(miK l n++hiK l n).getD 0 kD:=by rw[<- Z10g h];simp[qy1]
theorem Z177{l:List Kp}{n:List UInt8}(h:Z7a l):l.length=idx l n+(miK l n).length+(hiK l n).length:=by have e:=congrArg List.length (Zvq l n h).1;rw[qy11,qy11]at e;exact e
theorem Zq1{l:List Kp}{n:List UInt8}(h:Z7a l):(hasK l n=true/\∃k,miK l n=[k]/\k.1=n)\/(hasK l n=false/\miK l n=[]):=by
 have hl:=Z177 (n:=n) h;have ha:=Z1d5 (n:=n) h;have hm:=(Zvq l n h).2
 match he:miK l n,hm with
 | [],_ =>
  rw[he]at hl ha;refine .inr ⟨?_,rfl⟩;rw[hasK,decide_eq_false];rintro⟨h1,h2⟩;rw[ha]at h2
  match hb:hiK l n with
  | []=>rw[hb]at hl;simp at hl;omega
  | x::r =>
   rw[hb]at h2;have:x∈hiK l n:=by rw[hb];exact qy8 ..
   have h3:=(List.mem_filter.1 this).2;have h2:x.1=n:=h2;rw[h2,Z3d]at h3;cases h3
 | [k],_ =>
  have:k∈miK l n:=by rw[he];exact qy8 ..
  have hk:k.1=n:=by simpa using(List.mem_filter.1 this).2
  rw[he]at hl ha;refine .inl ⟨?_,k,rfl,hk⟩;rw[hasK,decide_eq_true];refine⟨by rw[hl];simp;omega,?_⟩;rw[ha];exact hk
def verF(n:List UInt8):Int->List Kp->Int
 | c,[]=>c
 | c,k::r=>verF n (if k.1=n then minV k.2.2 else c) r
theorem Zq2(n:List UInt8):∀(l:List Kp) (c:Int),verF n c l=(miK l n).foldl (λ_ k=>minV k.2.2) c
 | [],_=>rfl
 | k::r,c=>by
  rw[verF,Zq2 n r];by_cases h:k.1=n
  ·simp[h,miK]
  ·simp[h,miK]
def finF(x:Kp):List Kp->Bool->List Kp->List Kp
 | out,put,[]=>if put=true then out else out++[x]
 | out,put,k::r =>
  let o1:=if ¬put=true/\Zs x.1 k.1=true then out++[x]else out
  let p1:=put || Zs x.1 k.1
  finF x (if k.1=x.1 then o1 else o1++[k]) p1 r
theorem Zgk(x:Kp):∀(l:List Kp) (out:List Kp) (put:Bool),Z7a l->finF x out put l=out++loK l x.1++(if put=true then[]else[x])++hiK l x.1
 | [],out,put,_=>by cases put<;>simp[finF,loK,hiK]
 | k::r,out,put,h=>by
  obtain⟨h1,h2⟩:=List.pairwise_cons.1 h;rw[finF];cases hk:Zs k.1 x.1 with
  | true =>
   have g:=Z4p hk;have a1:loK (k::r) x.1=k::loK r x.1:=by simp[loK,hk]
   have a3:hiK (k::r) x.1=hiK r x.1:=by simp[hiK,g]
   simp only[g,Bool.or_false,Bool.false_eq_true,and_false,if_false,if_neg (Zbe hk)];rw[Zgk x r _ _ h2,a1,a3];simp
  | false =>
   have hgt:∀y∈r,Zs x.1 y.1=true:=λy hy=>by
    rcases Z3y.1 hk with h3|h3
    ·exact Z2c h3 (h1 y hy)
    ·rw[h3];exact h1 y hy
   have b1:loK r x.1=[]:=Zgj λy hy=>Z4p (hgt y hy);have b3:hiK r x.1=r:=Zso hgt;have a1:loK (k::r) x.1=[]:=by rw[loK,List.filter_cons,hk];exact b1
   rcases Z3y.1 hk with h3|h3
   ·have a3:hiK (k::r) x.1=k::r:=by rw[hiK,List.filter_cons,h3,if_pos rfl];exact congrArg (List.cons k) b3
    simp only[h3,Bool.or_true,if_neg (Zbe h3).symm];rw[Zgk x r _ _ h2,a1,a3,b1,b3];cases put<;>simp
   ·have g:Zs x.1 k.1=false:=by rw[<- h3];exact Z3d _
    have a3:hiK (k::r) x.1=r:=by rw[hiK,List.filter_cons,g];exact b3
    simp only[g,Bool.or_false,Bool.false_eq_true,and_false,if_false,if_pos h3.symm];rw[Zgk x r _ _ h2,a1,a3,b1,b3]
def putO(l:List Kp)(n p:List UInt8):List Kp×Int :=
 if 200<(p.length:Int)then([],2)else
  if 16<((finF (n,p,verF n 1 l) [] (decide (p=[])) l).length:Int)then([],2)else(finF (n,p,verF n 1 l) [] (decide (p=[])) l,0)
theorem Z1ab{l:List Kp}{n p:List UInt8}(h:chkK l=0):putO l n p=rawK l n p:=by
 obtain⟨k1,k2,k3⟩:=Z17.1 h;have hl:=Z177 (n:=n) k3;unfold putO rawK;split
 ·rfl
 rw[Zgk _ l [] _ k3,Zq2];simp only[List.nil_append];have ha:=Z1d5 (n:=n) k3;have hd:=Z10g (n:=n) k3;have hlo:=Z10f l n;rcases Zq1 (n:=n) k3 with⟨h1,k,h2,h3⟩|⟨h1,h2⟩
 ·rw[h2]at hl ha hd;have hd1:l.drop (idx l n+1)=hiK l n:=by rw[<- List.drop_drop,hd];rfl
  have hlt:idx l n<l.length:=by rw[hl];simp;omega
  have ha':l.getD (idx l n) kD=k:=ha;simp only[List.length_cons,List.length_nil]at hl;by_cases hp:p=[]
  ·rw[if_pos (⟨h1,hp⟩:hasK l n=true/\p=[]),Zq0 k3,hd1];simp only[hp,decide_true,if_true,List.append_nil,qy11];rw[if_neg (by omega)]
  ·rw[if_neg (λh=>hp h.2:¬(hasK l n=true/\p=[])),if_pos h1];simp only[decide_eq_false hp,Bool.false_eq_true,if_false,h2,List.foldl_cons,List.foldl_nil,qy11,List.length_cons,List.length_nil];rw[if_neg (by omega),ha',List.set_eq_take_append_cons_drop,if_pos hlt,Zq0 k3,hd1,h3];simp
 ·rw[h2]at hl hd;rw[h1];simp only[Bool.false_eq_true,false_and,if_false,List.length_nil]at hl⊢;by_cases hp:p=[]
  ·rw[if_pos hp];simp only[hp,decide_true,if_true,List.append_nil,qy11];rw[if_neg (by omega)];have:=(Zvq l n k3).1;rw[h2,List.append_nil]at this;rw[<- this]
  ·rw[if_neg hp];simp only[decide_eq_false hp,Bool.false_eq_true,if_false,h2,List.foldl_nil,qy11,List.length_cons,List.length_nil];by_cases h4:(l.length:Int)=16
   ·rw[if_pos h4,if_pos (by omega)]
   ·rw[if_neg h4,if_neg (by omega),Zq0 k3,hd];simp
def kA:List Kp:=[([97,47,98],[49],1),([99],[50],7)]
theorem Z1d6(w:World):Calls Tryz.prog 50 #[] w λe w'=>gotL w w' e kA:=by refine Z1 (Z7 (J:=[]) sxE_ok Tryz.func50 Z8i rfl rfl rfl ?_) rfl;simp only[QQ,Nat.reduceAdd];exact λv0 w' hr=>⟨v0,rfl,(hr.at_ 0 rfl).reads,hr.fresh 0 rfl,hr.mod⟩
def newX(l:List Kp)(n p:List UInt8):List Kp:=if p=[]then[]else[(n,p,match miK l n with|k::_=>minV k.2.2 | []=>1)]
theorem Z1d7{l:List Kp}{n:List UInt8}{x:Kp}(h:x∈loK l n):Zs x.1 n=true:=(List.mem_filter.1 h).2
theorem Z1d8{l:List Kp}{n:List UInt8}{x:Kp}(h:x∈hiK l n):Zs n x.1=true:=(List.mem_filter.1 h).2
theorem Z10h{l:List Kp}{n p:List UInt8}(h:chkK l=0)(he:(rawK l n p).2=0):(rawK l n p).1=loK l n++newX l n p++hiK l n/\p.length<=200/\(loK l n++newX l n p++hiK l n).length<=16:=by
 obtain⟨k1,k2,k3⟩:=Z17.1 h;rw[<- Z1ab h]at he⊢;unfold putO at he⊢;have ef:finF (n,p,verF n 1 l) [] (decide (p=[])) l=loK l n++newX l n p++hiK l n:=by
  rw[Zgk _ l [] _ k3,Zq2,newX];by_cases hp:p=[]
  ·simp[hp]
  ·rcases Zq1 (n:=n) k3 with⟨h1,k,h2,h3⟩|⟨h1,h2⟩
   ·simp[hp,h2]
   ·simp[hp,h2]
 rw[ef]at he⊢;split at he
 ·exact absurd he (by decide)
 split at he
 ·exact absurd he (by decide)
 rename_i q1 q2;rw[if_neg q1,if_neg q2];exact⟨rfl,by omega,by omega⟩
theorem Zq3{l:List Kp}{n p:List UInt8}(h:chkK l=0)(hn:chkT n false=0)(he:(rawK l n p).2=0):chkK (rawK l n p).1=0:=by
 obtain⟨k1,k2,k3⟩:=Z17.1 h;obtain⟨e,hp,hl⟩:=Z10h h he;rw[e];have hlo:Z7a (loK l n):=k3.sublist List.filter_sublist;have hhi:Z7a (hiK l n):=k3.sublist List.filter_sublist;have hnx:∀x∈newX l n p,x.1=n/\okK x:=by
  intro x hx;unfold newX at hx;split at hx
  ·cases hx
  ·rename_i hp0;rw[qy12]at hx;subst hx;refine⟨rfl,hn,hp0,by simp only;omega,?_,?_⟩
   ·cases hm:miK l n with
    | nil=>simp
    | cons k r =>
     have:=(k2 k (List.mem_filter.1 (show k∈miK l n by rw[hm];exact qy8 ..)).1).2.2.2;simp only[minV];split<;>omega
   ·cases hm:miK l n with
    | nil=>simp
    | cons k r =>
     have:=(k2 k (List.mem_filter.1 (show k∈miK l n by rw[hm];exact qy8 ..)).1).2.2.2;simp only[minV];split<;>omega
 refine Z17.2 ⟨hl,λk hk=>?_,?_⟩
 ·simp only[qy13]at hk;rcases hk with(hk|hk)|hk
  ·exact k2 k (List.mem_filter.1 hk).1
  ·exact(hnx k hk).2
  ·exact k2 k (List.mem_filter.1 hk).1
 ·refine List.pairwise_append.2 ⟨List.pairwise_append.2 ⟨hlo,?_,λa ha b hb=>?_⟩,hhi,λa ha b hb=>?_⟩
  ·unfold newX;split<;>simp
  ·rw[(hnx b hb).1];exact Z1d7 ha
  ·rcases qy13.1 ha with ha|ha
   ·exact Z2c (Z1d7 ha) (Z1d8 hb)
   ·rw[(hnx a ha).1];exact Z1d8 hb
theorem Z1ac{l:List Kp}{n:List UInt8}(h:Z7a l)(hm:∃k∈l,k.1=n):hasK l n=true:=by
 rcases Zq1 (n:=n) h with⟨h1,-⟩|⟨-,h2⟩
 ·exact h1
 ·obtain⟨k,hk,he⟩:=hm;have:k∈miK l n:=List.mem_filter.2 ⟨hk,by simp[he]⟩;rw[h2]at this;cases this
open Go
theorem Zsp{l:List Wt}(h:Zi l=0):l.length<=20:=(Z1i.1 h).1
theorem Z178{l:List Wt}(n:List UInt8)(h:Zi l=0):(rdOf n l).length<=20:=by have:=Zs7 n l [];have:=Zsp h;simp only[List.length_nil]at *;exact Nat.le_trans (by assumption) (by omega)
theorem Z1ad{l:List Wt}(h:Zi l=0):Z14m l:=Zis (Z1i.1 h).2.2
theorem Zsq{l:List Wt}{n:List UInt8}(h:Zi l=0){y:Rd}(hy:y∈rdOf n l):∃x∈l,forW n x=true/\x.1=y.1/\x.2.2=y.2:=by
 have h1:=((Zz1 (n:=n) (Z1ad h)).2 y.1 y.2).1 hy;rcases Zyz (λw hw=>(Zsc h w hw).2.2.1) h1 with h2|h2
 ·cases h2
 ·exact h2
abbrev clsS(l:List Ses):List (List UInt8):=l.map (·.cl)
theorem Z10i{l:List Ses}:Z5e l↔(clsS l).Pairwise λa b=>Za a b=true:=by rw[Z5e,clsS,List.pairwise_map]
def Zhw:Option (List UInt8)->List UInt8->Bool
 | none,_=>true
 | some c,d=>Za c d
theorem Ziy(p:Option (List UInt8))(s:Ses)(l:List Ses):Zd1 p (s::l)=if ¬chkS s=0 then chkS s else if Zhw p s.cl=true then Zd1 (some s.cl) l else 4:=by cases p<;>rfl
theorem Zbv{p:Option (List UInt8)}{d:List UInt8}:Zhw p d=true↔∀t,p=some t->Za t d=true:=by cases p<;>simp[Zhw]
theorem Zbw:∀(l:List Ses) (p:Option (List UInt8)),Zd1 p l=0↔(∀s∈l,chkS s=0)/\Z5e l/\∀t,p=some t->∀s∈l,Za t s.cl=true
 | [],p=>by simp[Zd1,Z5e]
 | s::l,p=>by
  rw[Ziy];constructor
  ·intro h;split at h
   ·exact absurd h (by assumption)
   rename_i h1;split at h
   ·rename_i h5;obtain⟨i1,i2,i3⟩:=(Zbw l (some s.cl)).1 h;refine⟨λx hx=>?_,List.pairwise_cons.2 ⟨λx hx=>i3 _ rfl x hx,i2⟩,λt ht x hx=>?_⟩
    ·rcases List.mem_cons.1 hx with rfl|hx
     ·exact qy9.1 h1
     ·exact i1 x hx
    ·have h6:=Zbv.1 h5 t ht;rcases List.mem_cons.1 hx with rfl|hx
     ·exact h6
     ·exact Zk h6 (i3 _ rfl x hx)
   ·exact absurd h (by decide)
  ·rintro⟨i1,i2,i3⟩;obtain⟨j1,j2⟩:=List.pairwise_cons.1 i2;rw[if_neg (qy9.2 (i1 s (qy8 ..))),if_pos (Zbv.2 λt ht=>i3 t ht s (qy8 ..))];exact(Zbw l (some s.cl)).2 ⟨λx hx=>i1 x (qy10 _ hx),j2,λt ht x hx=>by cases ht;exact j1 x hx⟩
theorem Z6q{l:List Ses}:Z5g l=0↔l.length<=6/\(∀s∈l,SesOk s)/\Z5e l:=by
 unfold Z5g;constructor
 ·intro h;split at h
  ·exact absurd h (by decide)
  ·obtain⟨a,b,-⟩:=(Zbw l none).1 h;exact⟨by omega,λs hs=>Zsn.1 (a s hs),b⟩
 ·rintro⟨a,b,c⟩;rw[if_neg (by omega)];exact(Zbw l none).2 ⟨λs hs=>Zsn.2 (b s hs),c,λt ht=>by cases ht⟩
structure BOk(t:Tel):Prop where
 kept:chkK t.kept=0
 wants:Zi t.wants=0
 ns:t.sess.length<=6
 ses:∀s∈t.sess,SesOk s
 sort:Z5e t.sess
 wat:Z10 t.wat=0
 has:∀w∈t.wants,hasS t.sess w.1=true
 kpt:∀w∈t.wat,hasK t.kept w.2.2.1=true
 next:0<=t.next/\t.next<=65535
theorem Z1z{t:Tel}:chkB t=0↔BOk t:=by
 unfold chkB;constructor
 ·intro h;split at h
  ·exact absurd h (by assumption)
  rename_i h1;split at h
  ·exact absurd h (by assumption)
  rename_i h2;split at h
  ·exact absurd h (by assumption)
  rename_i h3;split at h
  ·exact absurd h (by assumption)
  rename_i h4;split at h
  ·exact absurd h (by decide)
  rename_i h5;split at h
  ·exact absurd h (by decide)
  rename_i h6;obtain⟨a,b,c⟩:=Z6q.1 (qy9.1 h3);have h5:Z16 t=false:=by simpa using h5
  simp only[Z16,Bool.or_eq_false_iff,List.any_eq_false]at h5;exact⟨qy9.1 h1,qy9.1 h2,a,b,c,qy9.1 h4,λw hw=>by simpa using h5.1 w hw,λw hw=>by simpa using h5.2 w hw,by omega⟩
 ·intro h;have h5:Z16 t=false:=by
   simp only[Z16,Bool.or_eq_false_iff,List.any_eq_false];exact⟨λw hw=>by rw[h.has w hw];decide,λw hw=>by rw[h.kpt w hw];decide⟩
  have:=h.next;rw[if_neg (qy9.2 h.kept),if_neg (qy9.2 h.wants),if_neg (qy9.2 (Z6q.2 ⟨h.ns,h.ses,h.sort⟩)),if_neg (qy9.2 h.wat),if_neg (by rw[h5];decide),if_neg (by omega)]
theorem Zl0(l:List Ses)(c:List UInt8):idxS l c<=l.length:=List.length_filter_le _ _
theorem Z7n{l:List Ses}{c:List UInt8}(h:hasS l c=true):idxS l c<l.length/\(l.getD (idxS l c) s0).cl=c:=of_decide_eq_true h
theorem Zsr{l:List Ses}{i:Nat}(h:i<l.length):l.getD i s0∈l:=by rw[qy1,qy7 h];exact List.getElem_mem h
theorem Z1ae:∀{l:List Ses} (c:List UInt8),Z5e l->l=l.filter (λs=>Za s.cl c)++l.filter (λs=>!Za s.cl c)
 | [],_,_=>rfl
 | s::l,c,h=>by
  obtain⟨h1,h2⟩:=List.pairwise_cons.1 h;have ih:=Z1ae c h2;cases hs:Za s.cl c with
  | true =>
   rw[List.filter_cons,List.filter_cons,if_pos hs,if_neg (by rw[hs];decide),List.cons_append,<- ih]
  | false =>
   have e1:l.filter (λs=>Za s.cl c)=[]:=by rw[List.filter_eq_nil_iff];intro x hx hxc;have:=Zk (h1 x hx) hxc;rw[hs]at this;cases this
   rw[List.filter_cons,List.filter_cons,if_neg (by rw[hs];decide),if_pos (by rw[hs];rfl),e1,List.nil_append];rw[e1,List.nil_append]at ih;rw[<- ih]
theorem Z1fb{l:List Ses}{c:List UInt8}(h:Z5e l):l.take (idxS l c)=l.filter λs=>Za s.cl c:=by exact(congrArg (List.take (idxS l c)) (Z1ae c h)).trans (List.take_left' rfl)
theorem Zq4{l:List Ses}{c:List UInt8}(h:Z5e l):l.drop (idxS l c)=l.filter λs=>!Za s.cl c:=by exact(congrArg (List.drop (idxS l c)) (Z1ae c h)).trans (List.drop_left' rfl)
theorem Z5u{l:List Ses}{c:List UInt8}(h:Z5e l):hasS l c=true↔c∈clsS l:=by
 constructor
 ·intro h1;obtain⟨h2,h3⟩:=Z7n h1;exact List.mem_map.2 ⟨_,Zsr h2,h3⟩
 ·intro h1;obtain⟨s,hs,rfl⟩:=List.mem_map.1 h1;have h2:s∈l.drop (idxS l s.cl):=by
   rw[Zq4 h];exact List.mem_filter.2 ⟨hs,by rw[Z14];rfl⟩
  obtain⟨i,hi,e⟩:=List.mem_iff_getElem.1 h2;have hi':idxS l s.cl+i<l.length:=by simp at hi;omega
  rw[List.getElem_drop]at e;have hlt:idxS l s.cl<l.length:=by omega
  refine decide_eq_true ⟨hlt,?_⟩;rcases Nat.eq_zero_or_pos i with h0|h0
  ·subst h0;rw[qy1,qy7 hlt];exact congrArg Ses.cl e
  ·have hm:l[idxS l s.cl]∈l.drop (idxS l s.cl):=List.mem_iff_getElem.2 ⟨0,by simp;omega,by simp⟩;rw[Zq4 h]at hm;have h3:=(List.mem_filter.1 hm).2;have h4:Za (l[idxS l s.cl]).cl (l[idxS l s.cl+i]).cl=true:=by
    rw[Z5e,List.pairwise_iff_getElem]at h;exact h _ _ hlt hi' (by omega)
   rw[e]at h4;rw[h4]at h3;cases h3
theorem Zl1{l:List Ses}{i:Nat}{s:Ses}(h:s.cl=(l.getD i s0).cl):clsS (l.set i s)=clsS l:=by
 rw[clsS,List.map_set,h];by_cases hi:i<l.length
 ·refine List.ext_getElem? λj=>?_;rw[List.getElem?_set];by_cases hij:i=j
  ·subst hij;simp[qy1,qy7 hi,hi]
  ·rw[if_neg hij]
 ·rw[List.set_eq_of_length_le (by simpa using hi)]
theorem Zss{l l':List Ses}(h:Z5e l)(e:clsS l'=clsS l):Z5e l':=by rw[Z10i]at h⊢;rw[e];exact h
theorem Zgl{l l':List Ses}{c:List UInt8}(h:Z5e l)(e:clsS l'=clsS l):hasS l' c=hasS l c:=by rw[Bool.eq_iff_iff,Z5u h,Z5u (Zss h e),e]
theorem Z1af{l l':List Ses}(e:clsS l'=clsS l):l'.length=l.length:=by simpa using congrArg List.length e
theorem BOk.sess{t:Tel}(h:BOk t){l:List Ses}(e:clsS l=clsS t.sess)(ok:∀s∈l,SesOk s):BOk { t with sess:=l } :=
 ⟨h.kept,h.wants,by have:=h.ns;have:=Z1af e;simp only;omega,ok,Zss h.sort e,h.wat,λw hw=>by rw[Zgl h.sort e];exact h.has w hw,h.kpt,h.next⟩
theorem BOk.out{t:Tel}(h:BOk t)(l:List Snt):BOk { t with out:=l }:=⟨h.kept,h.wants,h.ns,h.ses,h.sort,h.wat,h.has,h.kpt,h.next⟩
theorem Zgm(n:Int)(h:0<=n):0<=nx_Z n/\nx_Z n<=65535:=by unfold nx_Z;omega
theorem Zbx{t:Tel}(h:BOk t){c:List UInt8}(hc:hasS t.sess c=true):SesOk (t.sess.getD (idxS t.sess c) s0):=h.ses _ (Zsr (Z7n hc).1)
theorem Z93(on:Bool):∀(qu fl:List Fl) (next:Int) (out:List Pk),(flyR on fl qu next out).2.2.2.length<=out.length+qu.length
 | [],fl,next,out=>by simp[flyR]
 | f::q,fl,next,out=>by
  rw[flyR];split
  ·refine Nat.le_trans (Z93 on q _ _ _) ?_;simp;omega
  ·simp
theorem Z10j(s:Ses)(n p:List UInt8)(q:Int):(Z2u s n p q).1.cl=s.cl:=by unfold Z2u;split;rfl;split<;>rfl
theorem Z10k(s:Ses)(n p:List UInt8)(q:Int):(Z2u s n p q).1.on=s.on/\(Z2u s n p q).1.clean=s.clean:=by unfold Z2u;split;exact⟨rfl,rfl⟩;split<;>exact⟨rfl,rfl⟩
theorem Ziz{s:Ses}(n p:List UInt8)(q:Int)(h:s.qu.length<=6):(Z2u s n p q).2.length<=7:=by
 unfold Z2u;split
 ·simp
 ·split
  ·have:=Z93 s.on (s.qu++[(0,n,p)]) s.fl s.next [];simp only[qy11,List.length_cons,List.length_nil]at this
   show(flyR s.on s.fl (s.qu++[(0,n,p)]) s.next []).2.2.2.length<=7
   omega
  ·simp
theorem Z1ag{s:Ses}{n p:List UInt8}{q:Int}(h:SesOk s)(hp:flE (0,n,p)=0):SesOk (Z2u s n p q).1:=by
 unfold Z2u;split
 ·exact h
 ·split
  ·rename_i h2;have h1:∀f∈s.qu++[(0,n,p)],flE f=0/\f.1=0:=by
    intro x hx;rcases qy13.1 hx with hx|hx
    ·exact h.qu x hx
    ·rw[qy12.1 hx];exact⟨hp,rfl⟩
   exact(Zpz (s:={ s with qu:=s.qu++[(0,n,p)] }) h.cl h.nf (by have:=h2.2;simp;omega) h.fl h1 h.next h2.1.2).1
  ·exact h
theorem Zst{t:Tel}(h:BOk t){i:Nat}{s:Ses}(hs:SesOk s):∀x∈t.sess.set i s,SesOk x:=λx hx=>by
 rcases List.mem_or_eq_of_mem_set hx with hx|rfl
 ·exact h.ses x hx
 ·exact hs
theorem Zsu{t:Tel}{n p:List UInt8}{q:Int}{r:Rd}(h:BOk t)(hp:flE (0,n,p)=0)(hr:hasS t.sess r.1=true):BOk (Z1s n p q t r)/\clsS (Z1s n p q t r).sess=clsS t.sess/\(Z1s n p q t r).out.length<=t.out.length+7:=by have hs:=Zbx h hr;have e:clsS (t.sess.set (idxS t.sess r.1) (Z2u (t.sess.getD (idxS t.sess r.1) s0) n p (min q r.2)).1)=clsS t.sess:=Zl1 (Z10j _ _ _ _);refine⟨(h.sess e (Zst h (Z1ag hs hp))).out _,e,?_⟩;have:=Ziz (s:=t.sess.getD (idxS t.sess r.1) s0) n p (min q r.2) hs.nq;simp only[Z1s,qy11,qy3];omega
theorem Zby{n p:List UInt8}{q:Int}(hp:flE (0,n,p)=0):∀(rs:List Rd) {t:Tel},BOk t->(∀r∈rs,hasS t.sess r.1=true) -> BOk (rs.foldl (Z1s n p q) t)/\clsS (rs.foldl (Z1s n p q) t).sess=clsS t.sess/\(rs.foldl (Z1s n p q) t).out.length<=t.out.length+7*rs.length /\ (rs.foldl (Z1s n p q) t).kept=t.kept/\(rs.foldl (Z1s n p q) t).wants=t.wants/\(rs.foldl (Z1s n p q) t).wat=t.wat/\(rs.foldl (Z1s n p q) t).next=t.next
 | [],t,h,_=>⟨h,rfl,by simp,rfl,rfl,rfl,rfl⟩
 | r::rs,t,h,hr=>by obtain⟨a,b,c⟩:=Zsu (q:=q) h hp (hr r (qy8 ..));obtain⟨a',b',c',d'⟩:=Zby hp rs a (λx hx=>by rw[Zgl h.sort b];exact hr x (qy10 _ hx));refine⟨a',b'.trans b,?_,d'⟩;simp only[List.foldl_cons,List.length_cons]at c'⊢;omega
theorem Z7o{t:Tel}(h:BOk t)(n:List UInt8):∀r∈rdOf n t.wants,hasS t.sess r.1=true:=λr hr=>by obtain⟨x,hx,-,e,-⟩:=Zsq h.wants hr;rw[<- e];exact h.has x hx
theorem watN{l:List Wat}(h:Z10 l=0):okN l:=λx hx=>((Z1a.1 h).2.1 x hx).2
theorem Z1ah{l:List Wat}(n:List UInt8)(h:Z10 l=0):Z3c n l=advL 1 n l:=by
 have h1:=watN h;conv=>lhs;rw[<- Z15i (n:=n) h1]
 rw[Z15h h1];rfl
theorem Z15j{l:List Wat}{n:List UInt8}(h:Z10 l=0):Z10 (Z3c n l)=0:=by rw[Z1ah n h];exact Z1aa h
theorem Z15k{l:List Wat}{n:List UInt8}{w:Wat}(h:w∈Z3c n l):∃x∈l,x.1=w.1/\x.2.1=w.2.1/\x.2.2.1=w.2.2.1:=by obtain⟨x,hx,rfl⟩:=List.mem_map.1 h;refine⟨x,hx,?_⟩;unfold Z8l;split<;>exact⟨rfl,rfl,rfl⟩
theorem Z10l(p:List UInt8):∀(l:List Wat) (t:Tel),0<=t.next/\t.next<=65535->(l.foldl (Z65 p) t).kept=t.kept/\(l.foldl (Z65 p) t).wants=t.wants/\(l.foldl (Z65 p) t).sess=t.sess/\(l.foldl (Z65 p) t).wat=t.wat/\(0<=(l.foldl (Z65 p) t).next/\(l.foldl (Z65 p) t).next<=65535)/\(l.foldl (Z65 p) t).out.length=t.out.length+l.length
 | [],t,h=>⟨rfl,rfl,rfl,rfl,h,rfl⟩
 | w::l,t,h=>by obtain⟨a,b,c,d,e,f⟩:=Z10l p l (Z65 p t w) (Zgm _ h.1);refine⟨a,b,c,d,e,?_⟩;rw[List.foldl_cons,f];simp[Z65];omega
theorem Znf:∀(l:List Wat) (t:Tel),0<=t.next/\t.next<=65535->(l.foldl Z8b t).kept=t.kept/\(l.foldl Z8b t).wants=t.wants/\(l.foldl Z8b t).sess=t.sess/\(l.foldl Z8b t).wat=t.wat/\(0<=(l.foldl Z8b t).next/\(l.foldl Z8b t).next<=65535)/\(l.foldl Z8b t).out.length=t.out.length+l.length
 | [],t,h=>⟨rfl,rfl,rfl,rfl,h,rfl⟩
 | w::l,t,h=>by obtain⟨a,b,c,d,e,f⟩:=Znf l (Z8b t w) (Zgm _ h.1);refine⟨a,b,c,d,e,?_⟩;rw[List.foldl_cons,f];simp[Z8b];omega
theorem Zgn(n:List UInt8){l:List Wat}(h:Z10 l=0):(Z3x n l).length<=12:=by have:=(Z1a.1 h).1;have h2:(l.filter λw=>decide (w.2.2.1=n)).length<=l.length:=List.length_filter_le _ _;rw[Z3x,qy3];omega
theorem Zsv{t:Tel}{n p:List UInt8}{q:Int}(h:BOk t)(hp:flE (0,n,p)=0):BOk (Z7g n p q t)/\clsS (Z7g n p q t).sess=clsS t.sess/\(Z7g n p q t).kept=t.kept/\(Z7g n p q t).wants=t.wants/\(Z7g n p q t).out.length<=t.out.length+152:=by
  obtain⟨a,b,c,d1,d2,d3,d4⟩:=Zby (q:=q) hp (rdOf n t.wants) h (Z7o h n);have hl:=Z178 n h.wants;have hlt:=Zgn n a.wat;obtain⟨e1,e2,e3,e4,e5,e6⟩:=Z10l p (Z3x n (Z6o n p q t).wat) { Z6o n p q t with wat:=Z3c n (Z6o n p q t).wat } a.next;unfold Z7g;refine⟨⟨by rw[e1];exact a.kept,by rw[e2];exact a.wants,by rw[e3];exact a.ns,by rw[e3];exact a.ses,by rw[e3];exact a.sort,by rw[e4];exact Z15j a.wat,λw hw=>?_,λw hw=>?_,e5⟩,by rw[e3];exact b,by rw[e1];exact d1,by rw[e2];exact d2,?_⟩
  . rw[e2]at hw;rw[e3];exact a.has w hw
  . rw[e4]at hw;rw[e1];obtain⟨x,hx,-,-,e⟩:=Z15k hw;rw[<- e];exact a.kpt x hx
  . rw[e6];simp only[Z6o]at hlt⊢;omega
theorem Zsw{l:List Kp}{n:List UInt8}(h:Z7a l):hasK l n=true↔∃k∈l,k.1=n:=by
 constructor
 ·intro h1;obtain⟨h2,h3⟩:=of_decide_eq_true h1;refine⟨_,?_,h3⟩;rw[qy1,qy7 h2];exact List.getElem_mem h2
 ·exact Z1ac h
theorem Zng{l:List Kp}(h:chkK l=0):Z7a l:=(Z17.1 h).2.2
theorem Zsx{l:List Kp}{n p m:List UInt8}(h:chkK l=0)(hn:chkT n false=0)(he:(rawK l n p).2=0)(hm:m≠n\/p≠[])(hk:hasK l m=true):hasK (rawK l n p).1 m=true:=by
 have hs:=Zng h;have hs':=Zng (Zq3 h hn he);obtain⟨k,hkm,rfl⟩:=(Zsw hs).1 hk;rw[Zsw hs',(Z10h h he).1];by_cases e:k.1=n
 ·have hp:p≠[]:=hm.resolve_left (λh=>h e);refine⟨_,List.mem_append_left _ (List.mem_append_right _ (by rw[newX,if_neg hp];exact qy12.2 rfl)),e.symm⟩
 ·cases h1:Zs k.1 n with
  | true=>exact⟨k,List.mem_append_left _ (List.mem_append_left _ (List.mem_filter.2 ⟨hkm,h1⟩)),rfl⟩
  | false =>
   rcases Z3y.1 h1 with h2|h2
   ·exact⟨k,List.mem_append_right _ (List.mem_filter.2 ⟨hkm,h2⟩),rfl⟩
   ·exact absurd h2.symm e
theorem Znh{l:List Wat}{p:Wat->Bool}(h:Z10 l=0):Z10 (l.filter p)=0:=by obtain⟨a,b,c⟩:=Z1a.1 h;exact Z1a.2 ⟨Nat.le_trans (List.length_filter_le _ _) a,λx hx=>b x (List.mem_filter.1 hx).1,c.filter _⟩
theorem Zgo{l:List Wt}{p:Wt->Bool}(h:Zi l=0):Zi (l.filter p)=0:=by obtain⟨a,b,c⟩:=Z1i.1 h;exact Z1i.2 ⟨Nat.le_trans (List.length_filter_le _ _) a,λx hx=>b x (List.mem_filter.1 hx).1,c.filter _⟩
theorem Z10m{l:List Wat}(p:Wat->Bool)(h:Z10 l=0):(l.filter p).length<=12:=Nat.le_trans (List.length_filter_le _ _) (Z1a.1 h).1
theorem Z5v{t:Tel}{n p:List UInt8}(h:BOk t)(hn:chkT n false=0):BOk (Z1g n p t).1/\(Z1g n p t).1.sess=t.sess/\(Z1g n p t).1.wants=t.wants/\(Z1g n p t).1.out.length<=t.out.length+12:=by
 unfold Z1g;split
 ·exact⟨h,rfl,rfl,by simp⟩
 rename_i h1;have h1:=qy9.1 h1;split
 ·rename_i h2;exact⟨⟨Zq3 h.kept hn h1,h.wants,h.ns,h.ses,h.sort,h.wat,h.has,λw hw=>Zsx h.kept hn h1 (.inr h2) (h.kpt w hw),h.next⟩,rfl,rfl,by simp⟩
 ·rename_i h2;obtain⟨e1,e2,e3,e4,e5,e6⟩:=Znf (t.wat.filter (ofT n)) { t with kept:=(rawK t.kept n p).1 } h.next;have hl:=Z10m (ofT n) h.wat;refine⟨⟨by simp only[e1];exact Zq3 h.kept hn h1,by simp only[e2];exact h.wants,by simp only[e3];exact h.ns,by simp only[e3];exact h.ses,by simp only[e3];exact h.sort,Znh h.wat,λw hw=>?_,λw hw=>?_,e5⟩,e3,e2,?_⟩
  ·simp only[e2]at hw;simp only[e3];exact h.has w hw
  ·have hw':=List.mem_filter.1 hw;simp only[e1];refine Zsx h.kept hn h1 (.inl λe=>?_) (h.kpt w hw'.1);have:=hw'.2;rw[ofT,decide_eq_true e]at this;cases this
  ·simp only[e6];omega
theorem Z7p{t:Tel}(h:BOk t)(c:List UInt8):BOk (Z5f c t)/\(Z5f c t).out=t.out:=by
 unfold Z5f;split
 ·rename_i h1;obtain⟨hi,hc⟩:=Z7n h1;split
  ·refine⟨⟨h.kept,Zgo h.wants,?_,λs hs=>?_,?_,h.wat,λw hw=>?_,h.kpt,h.next⟩,rfl⟩
   ·have:=h.ns;simp[Zsl];omega
   ·rcases qy13.1 hs with hs|hs
    ·exact h.ses s (List.mem_of_mem_take hs)
    ·exact h.ses s (List.mem_of_mem_drop hs)
   ·have:(t.sess.take (idxS t.sess c)++t.sess.drop (idxS t.sess c+1)).Sublist t.sess:=by
     conv=>rhs;rw[<- List.take_append_drop (idxS t.sess c) t.sess]
     refine List.Sublist.append (List.Sublist.refl _) ?_;rw[<- List.drop_drop];exact List.drop_sublist _ _
    exact h.sort.sublist this
   ·obtain⟨hw1,hw2⟩:=List.mem_filter.1 hw;have hw2:¬w.1=c:=by simpa using hw2
    have hh:=(Z5u h.sort).1 (h.has w hw1);obtain⟨s,hs,e⟩:=List.mem_map.1 hh;have hsub:(t.sess.take (idxS t.sess c)++t.sess.drop (idxS t.sess c+1)).Sublist t.sess:=by
     conv=>rhs;rw[<- List.take_append_drop (idxS t.sess c) t.sess]
     refine List.Sublist.append (List.Sublist.refl _) ?_;rw[<- List.drop_drop];exact List.drop_sublist _ _
    refine(Z5u (h.sort.sublist hsub)).2 (List.mem_map.2 ⟨s,?_,e⟩);have hs':=hs;rw[<- List.take_append_drop (idxS t.sess c) t.sess]at hs';rcases qy13.1 hs' with hs' | hs'
    ·exact List.mem_append_left _ hs'
    ·refine List.mem_append_right _ ?_;rw[List.drop_eq_getElem_cons hi]at hs';rcases List.mem_cons.1 hs' with hs' | hs'
     ·exfalso;rw[qy1,qy7 hi]at hc;have hc:(t.sess[idxS t.sess c]).cl=c:=hc;rw[<- hs']at hc;exact hw2 (e.symm.trans hc)
     ·exact hs'
  ·have e:clsS (t.sess.set (idxS t.sess c) (goR (t.sess.getD (idxS t.sess c) s0)))=clsS t.sess:=Zl1 rfl;exact⟨h.sess e (Zst h (Z1fa (Zbx h h1)).1),rfl⟩
 ·exact⟨h,rfl⟩
theorem Zl2{l:List Ses}{c:List UInt8}(h:hasS l c=true):insS l c=l:=by rw[insS,if_pos h]
theorem Zsy{l:List Ses}{c:List UInt8}(h:¬hasS l c=true)(s:Ses):(insS l c).set (idxS l c) s=l.take (idxS l c)++[s]++l.drop (idxS l c)/\(insS l c).getD (idxS l c) s0=⟨[],false,true,[],[],0⟩/\idxS l c<(insS l c).length/\(insS l c).length=l.length+1:=by
 have:=Zl0 l c;have hl:(l.take (idxS l c)).length=idxS l c:=by simp;omega
 rw[insS,if_neg h,List.append_assoc];refine⟨?_,?_,by simp;omega,by simp;omega⟩
 ·rw[List.set_append_right _ _ (by omega),hl,Nat.sub_self,List.append_assoc];rfl
 ·rw[qy1,List.getElem?_append_right (by omega),hl,Nat.sub_self];rfl
theorem Z1fc{a c:List UInt8}(h:Za a c=false)(hne:a≠c):Za c a=true:=by
 rcases Z3z.1 h with h|h
 ·exact h
 ·exact absurd h.symm hne
theorem Z1d9{t:Tel}(h:BOk t){c:List UInt8}{s:Ses}(hs:SesOk s)(hc:s.cl=c)(hn:hasS t.sess c=true\/t.sess.length<6)(ws:List Wt)(hw:Zi ws=0)(hsub:∀w∈ws,w∈t.wants) : BOk { t with wants:=ws,sess:=(insS t.sess c).set (idxS t.sess c) s }/\hasS ((insS t.sess c).set (idxS t.sess c) s) c=true:=by
 by_cases h1:hasS t.sess c=true
 ·rw[Zl2 h1];obtain⟨hi,hcl⟩:=Z7n h1;have e:clsS (t.sess.set (idxS t.sess c) s)=clsS t.sess:=Zl1 (hc.trans hcl.symm);have:=h.sess e (Zst h hs);refine⟨⟨this.kept,hw,this.ns,this.ses,this.sort,this.wat,λw hw=>this.has w (hsub w hw),this.kpt,this.next⟩,?_⟩;rw[Zgl h.sort e];exact h1
 ·obtain⟨e,-⟩:=Zsy h1 s;have hsort:Z5e (t.sess.take (idxS t.sess c)++[s]++t.sess.drop (idxS t.sess c)):=by
   have q1:∀x∈t.sess.take (idxS t.sess c),Za x.cl c=true:=λx hx=>by rw[Z1fb h.sort]at hx;exact(List.mem_filter.1 hx).2
   have q2:∀x∈t.sess.drop (idxS t.sess c),Za c x.cl=true:=λx hx=>by have hm:=List.mem_of_mem_drop hx;rw[Zq4 h.sort]at hx;refine Z1fc (by simpa using(List.mem_filter.1 hx).2) λe=>h1 ((Z5u h.sort).2 (List.mem_map.2 ⟨x,hm,e⟩))
   refine List.pairwise_append.2 ⟨List.pairwise_append.2 ⟨h.sort.sublist (List.take_sublist _ _),List.pairwise_singleton _ _,λa ha b hb=>?_⟩,h.sort.sublist (List.drop_sublist _ _),λa ha b hb=>?_⟩
   ·rw[qy12.1 hb,hc];exact q1 a ha
   ·rcases qy13.1 ha with ha|ha
    ·exact Zk (q1 a ha) (q2 b hb)
    ·rw[qy12.1 ha,hc];exact q2 b hb
  have hmem:∀x∈t.sess,x∈t.sess.take (idxS t.sess c)++[s]++t.sess.drop (idxS t.sess c):=λx hx=>by
   rw[<- List.take_append_drop (idxS t.sess c) t.sess]at hx;rcases qy13.1 hx with hx|hx
   ·exact List.mem_append_left _ (List.mem_append_left _ hx)
   ·exact List.mem_append_right _ hx
  rw[e];refine⟨⟨h.kept,hw,?_,λx hx=>?_,hsort,h.wat,λw hw=>?_,h.kpt,h.next⟩,?_⟩
  ·have:=hn.resolve_left h1;have:=Zl0 t.sess c;simp;omega
  ·rcases qy13.1 hx with hx|hx
   ·rcases qy13.1 hx with hx|hx
    ·exact h.ses x (List.mem_of_mem_take hx)
    ·rw[qy12.1 hx];exact hs
   ·exact h.ses x (List.mem_of_mem_drop hx)
  ·obtain⟨x,hx,e⟩:=List.mem_map.1 ((Z5u h.sort).1 (h.has w (hsub w hw)));exact(Z5u hsort).2 (List.mem_map.2 ⟨x,hmem x hx,e⟩)
  ·exact(Z5u hsort).2 (List.mem_map.2 ⟨s,List.mem_append_left _ (List.mem_append_right _ (qy12.2 rfl)),hc⟩)
theorem Z10n{l:List Ses}{c:List UInt8}{cl:Bool}(h:Zbs l c cl=true):hasS l c=true/\cl=false/\(l.getD (idxS l c) s0).clean=false:=by
 unfold Zbs at h;simp only[Bool.and_eq_true,Bool.not_eq_true']at h;by_cases h1:hasS l c=true
 ·rw[Zl2 h1]at h;exact⟨h1,h.2,h.1⟩
 ·rw[(Zsy h1 s0).2.1]at h;exact absurd h.1 (by decide)
theorem Zl3{t:Tel}(h:BOk t){c:List UInt8}(hc:Zd c=true)(cl:Bool):SesOk (Zdm t.sess c cl)/\(Zdm t.sess c cl).cl=c:=by
 unfold Zdm;by_cases hk:Zbs t.sess c cl=true
 ·obtain⟨h1,h2,h3⟩:=Z10n hk;rw[if_pos hk,Zl2 h1];have a:=Zbx h h1;subst h2;exact⟨⟨a.cl,a.nf,a.nq,a.fl,a.qu,a.next,λ_ h=>Bool.noConfusion h,a.full⟩,(Z7n h1).2⟩
 ·rw[if_neg hk];exact⟨⟨hc,by simp,by simp,.nil,by simp,by simp,λ_ _=>⟨rfl,rfl⟩,λ_ h=>absurd rfl h⟩,rfl⟩
theorem Zni{s:Ses}(h:SesOk s):(Zfw s).2.length<=9:=by have h1:=Z93 true s.qu s.fl s.next [];have h2:=h.nf;have h3:=h.nq;simp only[Zfw,flyS,qy11,qy3,List.length_nil]at h1⊢;omega
theorem Zq5{t:Tel}(h:BOk t){c:List UInt8}(hc:Zd c=true)(p:Pkt):BOk (Z1n c p t)/\(Z1n c p t).out.length<=t.out.length+10:=by
 unfold Z1n;split
 ·exact⟨h,by omega⟩
 split
 ·exact⟨h.out _,by simp⟩
 rename_i h2;obtain⟨a,b⟩:=Zl3 h hc p.clean;have a':=(Z1a6 a).1;have hl:=Zni a;refine⟨((Z1d9 h (c:=c) a' b ?_ (if Zbs t.sess c p.clean=true then t.wants else t.wants.filter λw=>decide (¬w.1=c)) ?_ ?_).1).out _,by simp;omega⟩
 ·by_cases h3:hasS t.sess c=true
  ·exact .inl h3
  ·refine .inr ?_;have:=h.ns;have:¬t.sess.length=6:=λe=>h2 ⟨h3,e⟩;omega
 ·split
  ·exact h.wants
  ·exact Zgo h.wants
 ·intro w hw;split at hw
  ·exact hw
  ·exact(List.mem_filter.1 hw).1
theorem Z15l{s:Ses}{id:Int}(h:SesOk s)(hon:s.on=true):SesOk (Z53 s id).1:=by unfold Z53;have hlen:(Z8m s.fl id).length<=s.fl.length:=List.length_filter_le _ _;exact(Zpz (s:={ s with fl:=Z8m s.fl id }) h.cl (by have:=h.nf;simp only;omega) h.nq (Z15e h.fl) h.qu h.next (.inl hon)).1
theorem Znj{s:Ses}(id:Int)(h:SesOk s):(Z53 s id).2.length<=6:=by have h1:=Z93 s.on s.qu (Z8m s.fl id) s.next [];have h3:=h.nq;simp only[Z53,flyS,List.length_nil]at h1⊢;omega
theorem Z15m{t:Tel}(h:BOk t){c:List UInt8}(p:Pkt)(h1:hasS t.sess c=true)(hon:(t.sess.getD (idxS t.sess c) s0).on=true):BOk (Znb c p t)/\(Znb c p t).out.length<=t.out.length+6:=by have hs:=Zbx h h1;have e:clsS (t.sess.set (idxS t.sess c) (Z53 (t.sess.getD (idxS t.sess c) s0) p.id).1)=clsS t.sess:=Zl1 rfl;refine⟨(h.sess e (Zst h (Z15l hs hon))).out _,?_⟩;have:=Znj p.id hs;simp only[Znb,qy11,qy3];omega
theorem Z15n{l:List Wt}{x:Wt}(h:Zi l=0)(h0:(rawW l x).2=0):∀w∈(rawW l x).1,w=x\/w∈l:=λw hw=>by
 rw[Zps (Z1i.1 h).2.2 h0]at hw;rcases qy13.1 hw with hw|hw
 ·rcases qy13.1 hw with hw|hw
  ·exact .inr (List.mem_filter.1 hw).1
  ·exact .inl (qy12.1 hw)
 ·exact .inr (List.mem_filter.1 hw).1
def Zj0(l:List Ak):Prop:=∀a∈l,chkT a.1 true=0/\0<=a.2/\a.2<=1
theorem Z1ai{c:List UInt8}{a:Ak}(hc:Zd c=true)(ha:chkT a.1 true=0/\0<=a.2/\a.2<=1):Z38 (c,a.1,a.2)=0:=by unfold Z38;have hc':cliB c=true:=hc;rw[if_pos hc',askE,if_pos ha.1,if_pos ha.2]
theorem Z1aj{c:List UInt8}{a:Ak}{x:List Wt×List Int}(hc:Zd c=true)(ha:chkT a.1 true=0/\0<=a.2/\a.2<=1)(h:Zi x.1=0):Zi (Z3f c x a).1=0/\(∀w∈(Z3f c x a).1,w.1=c\/w∈x.1):=by
 unfold Z3f;split
 ·rename_i h0;refine⟨Z19j h (Z1ai hc ha) h0,λw hw=>?_⟩;rcases Z15n h h0 w hw with rfl|hw
  ·exact .inl rfl
  ·exact .inr hw
 ·exact⟨h,λw hw=>.inr hw⟩
theorem Zq6{c:List UInt8}(hc:Zd c=true):∀(l:List Ak) {x:List Wt×List Int},Zj0 l->Zi x.1=0->Zi (l.foldl (Z3f c) x).1=0/\(∀w∈(l.foldl (Z3f c) x).1,w.1=c\/w∈x.1)
 | [],x,_,h=>⟨h,λw hw=>.inr hw⟩
 | a::l,x,hl,h=>by
  obtain⟨h1,h2⟩:=Z1aj (x:=x) hc (hl a (qy8 ..)) h;obtain⟨h3,h4⟩:=Zq6 hc l (x:=Z3f c x a) (λy hy=>hl y (qy10 _ hy)) h1;refine⟨h3,λw hw=>?_⟩;rcases h4 w hw with h5|h5
  ·exact .inl h5
  ·exact h2 w h5
theorem Zgp(c:List UInt8){kept:List Kp}(h:chkK kept=0):∀(l:List Ak) (m:List Int),(Z3k c kept l m).length<=16*l.length
 | [],_=>by simp[Z3k]
 | _::_,[]=>by simp[Z3k]
 | a::l,q::m=>by
  have ih:=Zgp c h l m;have h1:(Zpx c kept a q).length<=16:=by
   unfold Zpx;split
   ·simp
   ·rw[qy3];exact Nat.le_trans (List.length_filter_le _ _) (Z17.1 h).1
  rw[Z3k,qy11,List.length_cons];omega
theorem Zl4{t:Tel}(h:BOk t){c:List UInt8}(hc:Zd c=true)(p:Pkt)(ha:Zj0 p.asks)(h1:hasS t.sess c=true)(hl:p.asks.length<=5):BOk (Z2h c p t)/\(Z2h c p t).out.length<=t.out.length+81:=by
 obtain⟨a,b⟩:=Zq6 hc p.asks (x:=(t.wants,[])) ha h.wants;refine⟨⟨h.kept,a,h.ns,h.ses,h.sort,h.wat,λw hw=>?_,h.kpt,h.next⟩,?_⟩
 ·rcases b w hw with h2|h2
  ·rw[h2];exact h1
  ·exact h.has w h2
 ·have:=Zgp c h.kept p.asks (Zhu c t.wants p.asks).2;simp only[Z2h,qy11,List.length_cons,List.length_nil];omega
theorem Zgq{t:Tel}(h:BOk t)(c:List UInt8)(p:Pkt):BOk (Z1o c p t)/\(Z1o c p t).out.length<=t.out.length+1 :=
 ⟨⟨h.kept,Zgo h.wants,h.ns,h.ses,h.sort,h.wat,λw hw=>h.has w (List.mem_filter.1 hw).1,h.kpt,h.next⟩,by simp[Z1o]⟩
theorem Zq7{t:Tel}(h:BOk t)(c:List UInt8)(p:Pkt)(hp:flE (0,p.topic,p.payload)=0):BOk (Z32 c p t)/\clsS (Z32 c p t).sess=clsS t.sess/\(Z32 c p t).out.length<=t.out.length+165:=by
 have hn:chkT p.topic false=0:=by
  unfold flE at hp;split at hp
  ·assumption
  ·exact absurd hp (by assumption)
 obtain⟨t1,e1,h1,l1,s1⟩:∃t1:Tel,t1=(if p.qos=1 then { t with out:=t.out++[toC c { pD_Q 4 with id:=p.id }] }else t)/\BOk t1/\t1.out.length<=t.out.length+1/\t1.sess=t.sess:=by
  refine⟨_,rfl,?_⟩;split
  ·exact⟨h.out _,by simp,rfl⟩
  ·exact⟨h,by omega,rfl⟩
 obtain⟨t2,e2,h2,l2,s2⟩:∃t2:Tel,t2=(if p.retain=true then(Z1g p.topic p.payload t1).1 else t1)/\BOk t2/\t2.out.length<=t1.out.length+12/\t2.sess=t1.sess:=by
  refine⟨_,rfl,?_⟩;split
  ·obtain⟨a,b,-,d⟩:=Z5v (p:=p.payload) h1 hn;exact⟨a,d,b⟩
  ·exact⟨h1,by omega,rfl⟩
 have e:Z32 c p t=Z7g p.topic p.payload p.qos t2:=by rw[e2,e1];rfl
 obtain⟨a,b,-,-,d⟩:=Zsv (q:=p.qos) h2 hp;rw[e];refine⟨a,?_,by omega⟩;rw[b,s2,s1]
theorem Zgr{p:Pkt}(h:chkP p=0):Z27 p=0/\(p.kind=3->pubE p=0)/\(idB p=true->1<=p.id/\p.id<=65535)/\Z9i (Z24 p)=true:=by
 unfold chkP at h;split at h
 ·split at h
  ·rename_i h4;split at h
   ·rename_i h1;exact absurd h h1.2
   rename_i h1;split at h
   ·exact absurd h (by decide)
   rename_i h2;exact⟨h,λh3=>Classical.byContradiction λh4=>h1 ⟨h3,h4⟩,λh3=>Classical.byContradiction λh4=>h2 ⟨h3,h4⟩,h4⟩
  ·exact absurd h (by decide)
 ·exact absurd h (by decide)
theorem Z10o{p:Pkt}(h:pubE p=0):chkT p.topic false=0/\p.payload.length<=200/\0<=p.qos/\p.qos<=1/\flE (0,p.topic,p.payload)=0:=by
 unfold pubE at h;split at h
 ·rename_i h1;split at h
  ·exact absurd h (by decide)
  rename_i h2;split at h
  ·rename_i h3;refine⟨h1,by omega,h3.1,h3.2,?_⟩;rw[flE,if_pos h1,if_neg h2]
  ·exact absurd h (by decide)
 ·exact absurd h (by assumption)
theorem Zj1:∀{l:List Ak},Zbl 8 l=0->Zj0 l
 | [],_=>λa ha=>absurd ha (by simp)
 | a::l,h=>by
  unfold Zbl at h;simp only[if_pos]at h;split at h
  ·rename_i h1;intro x hx;rcases List.mem_cons.1 hx with rfl|hx
   ·unfold askE at h1;split at h1
    ·rename_i h2;split at h1
     ·rename_i h3;exact⟨h2,h3⟩
     ·exact absurd h1 (by decide)
    ·exact absurd h1 (by assumption)
   ·exact Zj1 h x hx
  ·exact absurd h (by assumption)
theorem Zsz{n:Nat}(h:Z3e n=0):1<=n/\n<=5:=by
 unfold Z3e at h;split at h
 ·exact absurd h (by decide)
 split at h
 ·exact absurd h (by decide)
 omega
theorem Zt0{p:Pkt}(h:chkP p=0)(hk:p.kind=8):Zj0 p.asks/\1<=p.asks.length/\p.asks.length<=5:=by
 have h1:=(Zgr h).1;unfold Z27 at h1;rw[if_neg (by omega),if_neg (by omega),if_neg (by omega),if_pos (.inl hk),Zhs]at h1;split at h1
 ·rename_i h2;rw[hk]at h1;exact⟨Zj1 h1,Zsz h2⟩
 ·exact absurd h1 (by assumption)
theorem Z94{t:Tel}(h:BOk t){c:List UInt8}(hc:Zd c=true){p:Pkt}(hp:chkP p=0):BOk (Zy c p t)/\(Zy c p t).out.length<=t.out.length+200:=by
 unfold Zy;split
 ·exact⟨h,by omega⟩
 rename_i h1;split
 ·have:=Zq5 h hc p;exact⟨this.1,by omega⟩
 rename_i h2;have h3:hasS t.sess c=true/\(t.sess.getD (idxS t.sess c) s0).on=true:=⟨Classical.byContradiction λh4=>h1 ⟨h2,.inl h4⟩,Classical.byContradiction λh4=>h1 ⟨h2,.inr h4⟩⟩
 split
 ·rename_i h4;have:=Zq7 h c p (Z10o ((Zgr hp).2.1 h4)).2.2.2.2;exact⟨this.1,by omega⟩
 split
 ·have:=Z15m h p h3.1 h3.2;exact⟨this.1,by omega⟩
 split
 ·rename_i h4;obtain⟨a,-,b⟩:=Zt0 hp h4;have:=Zl4 h hc p a h3.1 b;exact⟨this.1,by omega⟩
 split
 ·have:=Zgq h c p;exact⟨this.1,by omega⟩
 split
 ·exact⟨h.out _,by simp⟩
 split
 ·have:=Z7p h c;exact⟨this.1,by rw[this.2];omega⟩
 ·exact⟨h,by omega⟩
theorem Zgs{os:List Opt}(h:(Z1f os).2=0):chkT (Z1f os).1 false=0:=by
 unfold Z1f at h⊢;split at h
 ·exact absurd h (by decide)
 split at h
 ·split at h
  ·exact absurd h (by decide)
  ·rename_i h1 h2 h3;rw[if_neg h1,if_pos h2,if_neg h3];exact h2
 ·rename_i h1 h2;exact absurd h h2
theorem Z1ak{t:Tel}(h:BOk t){n:Int}(hn:0<=n/\n<=9){m:Msg}(hm:m.tok.length<=8)(a:Msg){name:List UInt8}(hc:chkT name false=0):BOk (getB n m a name t).1/\(getB n m a name t).1.out=t.out:=by
 unfold getB;split
 ·exact⟨h,rfl⟩
 rename_i h0;have h0:=qy9.1 h0;simp only;split
 ·split
  ·rename_i h2;refine⟨⟨h.kept,h.wants,h.ns,h.ses,h.sort,?_,h.has,λw hw=>?_,h.next⟩,rfl⟩
   ·unfold Z52 at h2⊢;simp only at h2⊢;split at h2
    ·exact absurd h2 (by decide)
    ·rename_i h3;rw[if_neg h3];refine Z1a7 h.wat ?_ (by omega);unfold Z3w;rw[if_pos hn,if_neg (by omega),hc]
   ·unfold Z52 at h2 hw;simp only at h2 hw;split at h2
    ·exact absurd h2 (by decide)
    ·rename_i h3;rw[if_neg h3]at hw;rcases qy13.1 hw with hw|hw
     ·exact h.kpt w (List.mem_filter.1 hw).1
     ·rw[qy12.1 hw];exact h0
  ·exact⟨h,rfl⟩
 ·split
  ·exact⟨⟨h.kept,h.wants,h.ns,h.ses,h.sort,Znh h.wat,h.has,λw hw=>h.kpt w (List.mem_filter.1 hw).1,h.next⟩,rfl⟩
  ·exact⟨h,rfl⟩
theorem Z1da{t:Tel}(h:BOk t){n:Int}(hn:0<=n/\n<=9){m:Msg}(hm:chk m=0)(a:Msg):BOk (doB n m a t).1/\(doB n m a t).1.out.length<=t.out.length+164:=by
 obtain⟨-,-,⟨m1,-,m2⟩,-⟩:=Z9k.1 hm;unfold doB;split
 ·exact⟨h,by simp⟩
 rename_i h1;have hp:=Zgs (qy9.1 h1);split
 ·obtain⟨x,y⟩:=Z1ak h hn m1 a hp;exact⟨x,by rw[y];omega⟩
 split
 ·split
  ·obtain⟨k1,k2,k3,k4⟩:=Z5v (p:=m.pay) h hp;have hf:flE (0,(Z1f m.opts).1,m.pay)=0:=by rw[flE,if_pos hp,if_neg (by simp only;omega)]
   obtain⟨t1,t2,t3,t4,t5⟩:=Zsv (q:=1) k1 hf;exact⟨t1,by simp only;omega⟩
  ·exact⟨h,by simp⟩
 split
 ·obtain⟨k1,k2,k3,k4⟩:=Z5v (p:=[]) h hp;exact⟨k1,by simp only;omega⟩
 ·exact⟨h,by simp⟩
theorem Zq8{t:Tel}(h:BOk t){n:Int}(hn:0<=n/\n<=9){m:Msg}(hm:chk m=0):BOk (Z3t n m t)/\(Z3t n m t).out.length<=t.out.length+165:=by
 have h':BOk { t with next:=if m.kind=1 then nx_Z t.next else t.next,out:=t.out++[toP n (Z3o m t.next)] }:=by
  refine⟨h.kept,h.wants,h.ns,h.ses,h.sort,h.wat,h.has,h.kpt,?_⟩
  show 0<=(if m.kind=1 then nx_Z t.next else t.next)/\(if m.kind=1 then nx_Z t.next else t.next)<=65535
  split
  ·exact Zgm _ h.next.1
  ·exact h.next
 obtain⟨a,b⟩:=Z1da h' hn hm (Z3o m t.next);refine⟨a.out _,?_⟩;simp only[qy11,List.length_cons,List.length_nil]at b;simp only[Z3t,List.length_set];omega
theorem Zgt{t:Tel}(h:BOk t){n:Int}(hn:0<=n/\n<=9){m:Msg}(hm:chk m=0):BOk (Z1e n m t)/\(Z1e n m t).out.length<=t.out.length+200:=by
 unfold Z1e;split
 ·exact⟨h.out _,by simp⟩
 split
 ·have:=Zq8 h hn hm;exact⟨this.1,by omega⟩
 ·exact⟨h,by omega⟩
open Go
theorem Z15o{B:Base}{J:List V}{hp:List Ent}{w:World}(h:Rel B J hp w)(hb:hp.all (Ent.bd J.length)=true)(k:Nat)(x:TelX)(hA:(Z6 x.sx x.ox).holds w)(hf:∀j,(Z6 x.sx x.ox).fp j->∃e∈hp,e.wr=false/\e.fp J j)(is:List Nat)(hn:is.Nodup) (hs:(is.filterMap λi=>(Ent.st J.length::hp)[i]?).map (Ent.sem (J++[.a (Z6 x.sx x.ox)]))=tlH.map (Ent.sem (tlA k x))):Rel ⟨Zl (tlA k x) tlH,w⟩ (tlA k x) tlH w :=
 (Znd h hb k x hA hf is hn hs).base
theorem Zo{α:Type}{a b:α}{l m:List α}(h1:a=b)(h2:l=m):a::l=b::m:=by rw[h1,h2]
theorem Z46{J J':List V}{v v' ty:Nat}{ks:List Kd}{r r':X}(h1:J.getD v (.i 0)=J'.getD v' (.i 0))(h2:(r.ev J).toR=(r'.ev J').toR):Ent.sem J (.row v ty ks r)=Ent.sem J' (.row v' ty ks r'):=by simp only[Ent.sem,Ent.holds,Ent.fp,Ent.wr,h1,h2]
theorem toRd{B:Base}{J:List V}{v ty:Nat}{ks:List Kd}{r:X}{hp:List Ent}{w:World}(h:Rel B J (.row v ty ks r::hp) w):Rel B J (.rd v ks r::hp) w :=
 h.tl.cons (owns.reads h.hd) (λhw=>Bool.noConfusion hw) (λe' he' _ k hk hk'=>(List.pairwise_cons.1 h.sep).1 e' he' (.inl rfl) k hk.2 hk')
abbrev tlHw:List Ent:=[.row 3 107 kW_V (.var 4),.rd 1 kK (.var 2),.row 5 50 kSx (.var 6),.row 7 97 kW_K (.var 8),.row 10 111 kSn (.var 11),.st 12,.cells 0 229 [.val (.var 1),.val (.var 3),.val (.var 5),.val (.var 7),.int .i64 (.var 9),.val (.var 10)]]
theorem Z15p{w w3:World}{k:Nat}{x:TelX}{l:List Wt}{u:Value}(h:Rel ⟨Zl (tlA k x) tlH,w⟩ (tlA k { x with wants:=l,wv:=u }) tlHw w3) :
  Rel ⟨Zl (tlA k x) tlH,w⟩ (tlA k { x with wants:=l,wv:=u }) tlH w3/\Grew w.heap.size (λ_=>False) x { x with wants:=l,wv:=u }:=by
 have hnew:∀j,Z2 u j->w.heap.size<=j:=λj hj=>by
  rcases h.own _ (qy6 (i:=0) rfl) rfl j hj with h1|h1
  ·exact h1
  ·exfalso;have key:∀(i:Nat) (e:Ent),tlHw[i]?=some e->i≠0->e.fp (tlA k { x with wants:=l,wv:=u }) j->False:=λi e he hi hf=>h.sep.disj (i:=0) (j:=i) rfl he (λe=>hi e.symm) (.inl rfl) hj hf;rcases List.mem_cons.1 (Zvo h1)with h2|h2
   ·exact key 6 _ rfl (by decide) h2
   ·rcases qy13.1 h2 with h2|h2
    ·exact key 2 _ rfl (by decide) (Option.mem_toList.1 h2)
    ·rcases qy13.1 h2 with h2|h2
     ·exact key 3 _ rfl (by decide) (Option.mem_toList.1 h2)
     ·rcases qy13.1 h2 with h2|h2
      ·exact key 4 _ rfl (by decide) (Option.mem_toList.1 h2)
      ·cases h2
 exact⟨((toRd h).pick [1,0,2,3,4,5,6] (by decide)).conv rfl,λj hj=>.inr hj,λj hj=>.inl (hnew j hj.2),λj hj=>.inr (.inl hj)⟩
theorem Z10p(w:World)(k:Nat)(x:TelX)(c:List UInt8)(hr:Rel ⟨Zl (tlA k x) tlH,w⟩ (tlA k x++[.s c]) tlH w)(hl:x.wants.length<1000000000) : Calls Tryz.prog 196 #[.pointer (some ⟨k,0,none⟩),.string ⟨c.toArray⟩] w λe w'=>e=.returned (.tuple #[])/\∃y:TelX,(∃u,y={ x with wants:=x.wants.filter λw=>decide (¬w.1=c),wv:=u })/\Rel ⟨Zl (tlA k x) tlH,w⟩ (tlA k y) tlH w'/\Grew w.heap.size (λ_=>False) x y:=by
 refine Z1 (Z3 (J:=tlA k x++[.s c]) sxE_ok Tryz.func196 Z6p rfl rfl hr rfl rfl ?_) rfl;simp only[QQ,Nat.reduceAdd,qy3,qy4];intro b1 w1 hr1;obtain⟨l,hlw⟩:∃l,l=x.wants:=⟨_,rfl⟩
 refine(Z4r w1 x.wv x.wants (hr1.at_ 3 rfl) (by omega)).mono ?_;rintro e w2 ⟨u,rfl,a1,f1,m1⟩;refine⟨[.v u,.r (x.wants.map Zb)],rfl,rfl,m1,qy5 _,qy2.2 ⟨⟨a1,λk hk=>.inl (f1 k hk)⟩,qy5 _⟩,Z5,?_⟩;simp only[QQ,Nat.reduceAdd,qy3,qy4,Z23,Z2f,Z45];rw[<- hlw]at hl;generalize hkp:(λw:Wt=>decide (¬w.1=c))=kp
 have kp0:∀x:Wt,x.1=c->¬kp x=true:=λx hx=>by rw[<- hkp];simp[hx]
 have kp1:∀x:Wt,¬x.1=c->kp x=true:=λx hx=>by rw[<- hkp];simp[hx]
 refine⟨λvs=>∃(x:V) (i:Nat),vs=[x,.i i,.s c]/\i<=l.length/\∀j,j<i->kp (l.getD j wD_V)=true,λvs=>(l.length - (vs.getD 1 (.i 0)).toI).toNat,⟨_,0,rfl,by omega,λj hj=>by omega⟩,?_⟩;rintro _ - ⟨z,i,rfl,hi,hn⟩;simp only[QQ,Nat.reduceAdd,qy3,qy4,Z23,Z2f,Z45,<- hlw];have hend:∀(u':Value) (w3:World),Rel ⟨Zl (tlA k x) tlH,w⟩ (tlA k { x with wants:=l.filter kp,wv:=u' }) tlHw w3->∃y:TelX,(∃u,y={ x with wants:=l.filter kp,wv:=u })/\Rel ⟨Zl (tlA k x) tlH,w⟩ (tlA k y) tlH w3/\Grew w.heap.size (λ_=>False) x y:=λu' w3 hr3=>by obtain⟨q1,q2⟩:=Z15p hr3;exact⟨_,⟨u',rfl⟩,q1,q2⟩
 refine⟨λh1=>?_,λh1 w3 hr=>⟨by trivial,?_⟩⟩
 ·repeat (first|omega|refine⟨by omega,?_⟩)
  intro b7;refine⟨λh2=>⟨λh3=>by omega,λh3=>⟨by omega,by omega,?_⟩⟩,λh2=>?_⟩
  ·refine⟨λvs=>∃(a j:Nat) (R:List Wt),vs=[.i a,.i j,.r (R.map Zb),.s c]/\a<j/\j<=l.length/\R.length=l.length/\R.take a=(l.take j).filter kp/\R.drop j=l.drop j,λvs=>(l.length - (vs.getD 1 (.i 0)).toI).toNat,
    ⟨i,i+1,l,rfl,by omega,by omega,rfl,?_,rfl⟩,?_⟩
   ·rw[Z6k kp l i (by omega),if_neg (kp0 _ h2),List.append_nil,Zbo hn]
   rintro _ - ⟨a,j,R,rfl,haj,hj,hR,ht,hd⟩;simp only[QQ,Nat.reduceAdd,qy3,qy4,Z23,Z2f,Z45,hR];refine⟨λh3=>?_,λh3=>?_⟩
   ·repeat (first|omega|refine⟨by omega,?_⟩)
    intro b8 b9;have hg:=Zn4 hd;refine⟨λh4=>?_,λh4=>?_⟩
    ·repeat (first|omega|refine⟨by omega,?_⟩)
     refine⟨⟨a+1,j+1,R.set a (R.getD j wD_V),?_,by omega,by omega,by simpa using hR,Zg4 haj (by omega) hR ht hd (kp1 _ (by rw[<- hg];exact h4)),?_⟩,by omega⟩
     ·rw[<- Zeo];rfl
     ·rw[List.drop_set_of_lt (by omega)];exact Z6l hd
    ·repeat (first|omega|refine⟨by omega,?_⟩)
     refine⟨⟨a,j+1,R,rfl,by omega,by omega,hR,?_,Z6l hd⟩,by omega⟩;rw[Z6k kp l j (by omega),if_neg (kp0 _ (by rw[<- hg];exact qy9.1 h4)),List.append_nil];exact ht
   ·have hje:j=l.length:=by omega
    subst hje;rw[List.take_length]at ht;refine⟨by omega,by omega,?_,λu' w3 hr=>⟨by trivial,?_⟩⟩
    ·simp only[qy11,List.length_take,List.length_replicate,qy3,hR];omega
    ·refine hend u' w3 ((hr.pick [0,5,7,8,9,10,11] (by decide)).conv (Zo (Z46 rfl ?_) rfl));simp only[QQ,Nat.reduceAdd,qy3,qy4,Z23,Z2f,Z45];rw[List.take_append_of_le_length (by simp;omega),List.take_take,Nat.min_self,<- List.map_take,ht]
  ·repeat (first|omega|refine⟨by omega,?_⟩)
   refine⟨⟨_,i+1,rfl,by omega,λj hj=>?_⟩,by omega⟩;by_cases hji:j=i
   ·subst hji;exact kp1 _ h2
   ·exact hn j (by omega)
 ·have hie:i=l.length:=by omega
  subst hie;have e1:=Zbo (p:=kp) (l:=l) (i:=l.length) hn;rw[List.take_length]at e1;refine hend u w3 ((hr.pick [1,4,6,7,8,9,10] (by decide)).conv ?_);rw[e1,hlw];rfl
section
variable {α:Type} (d:α)
theorem Zvr(l:List α)(i:Nat)(h:i<l.length):l.take (i+1)=l.take i++[l.getD i d]:=by rw[List.take_add_one,qy1,qy7 h];rfl
theorem Z95(p:α->Bool)(l:List α)(i:Nat)(h:i<l.length):(l.take (i+1)).filter p=(l.take i).filter p++(if p (l.getD i d)=true then[l.getD i d]else[]):=by
 rw[Zvr d l i h,List.filter_append];generalize l.getD i d=o
 by_cases h1:p o=true<;>simp[h1]
theorem Znk{p:α->Bool}{l:List α}{i:Nat}(h:∀j,j<i->p (l.getD j d)=true):(l.take i).filter p=l.take i:=by rw[List.filter_eq_self];intro x hx;obtain⟨j,hj,rfl⟩:=List.getElem_of_mem hx;simp only[List.length_take]at hj;have:=h j (by omega);rw[List.getElem_take];rwa [qy1,qy7 (by omega)]at this
theorem Znl{R l:List α}{j:Nat}(hd:R.drop j=l.drop j):R.getD j d=l.getD j d:=by have:=congrArg (λl=>l[0]?) hd;simp only[List.getElem?_drop,Nat.add_zero]at this;rw[qy1,qy1,this]
theorem Z10q{R l:List α}{a j:Nat}{p:α->Bool}(haj:a<j)(hj:j<l.length)(hR:R.length=l.length)(ht:R.take a=(l.take j).filter p)(hd:R.drop j=l.drop j)(hp:p (l.getD j d)=true) : (R.set a (R.getD j d)).take (a+1)=(l.take (j+1)).filter p:=by
 rw[Z95 d p l j hj,if_pos hp,<- ht,Znl d hd,Zvr d _ _ (by simp;omega)];congr 1
 ·rw[List.take_set_of_le (Nat.le_refl _)]
 ·rw[qy1,List.getElem?_set_self (by omega)];rfl
end
theorem Zj2{α:Type}{R l:List α}{j:Nat}(hd:R.drop j=l.drop j):R.drop (j+1)=l.drop (j+1):=by have:=congrArg (λl=>l.drop 1) hd;simpa[List.drop_drop,Nat.add_comm]using this
theorem Z15q(n:Int)(h:0<=n/\n<=65536):Z1v .and .i64 n 65535=n % 65536:=by
 obtain⟨x,rfl⟩:∃x:Nat,n=x:=⟨n.toNat,by omega⟩
 have oi:∀x:Nat,x<2 ^ 63->(BitVec.ofInt 64 (x:Int)).toNat=x:=λx h=>by simp[BitVec.toNat_ofInt];omega
 have h127:(65535:Int)=((65535:Nat):Int):=rfl;simp only[Z1v,h127]
 show IntKind.i64.wrap (((BitVec.ofInt 64 (x:Int)) &&& (BitVec.ofInt 64 ((65535:Nat):Int))).toNat:Int)=_
 rw[BitVec.toNat_and,oi x (by omega),oi 65535 (by omega)];have e:x &&& 65535=x % 65536:=Nat.and_two_pow_sub_one_eq_mod x 16;rw[e,IntKind.wrap_i64];omega
theorem Z10r(n:Int)(h:0<=n/\n<=65535):Z1v .and .i64 (n+1) 65535=nx_Z n:=Z15q _ (by omega)
def nilX(s:Snt):SntX:=(s,.slice none 0 0,.slice none 0 0,.slice none 0 0)
def nilS(s:Snt):Prop:=s.pk.asks=[]/\s.pk.codes=[]/\s.msg.opts=[]
theorem Z1al{s:Snt}(h:nilS s)(w:World):Z3i w (nilX s).2.1 s.pk.asks/\Z2w w (nilX s).2.2.1 s.pk.codes/\Z3j w (nilX s).2.2.2 s.msg.opts:=by obtain⟨a,b,c⟩:=h;rw[a,b,c];exact⟨Z9 _ _,Z9 _ _,Z9 _ _⟩
theorem Z15r{s:Snt}(h:nilS s){j:Nat}:¬sntF (nilX s) j:=by
 obtain⟨a,b,c⟩:=h;rintro(⟨h,-⟩|⟨h,-⟩|⟨h,-⟩)
 ·simp only[nilX,a]at h;exact h rfl
 ·simp only[nilX,b]at h;exact h rfl
 ·simp only[nilX,c]at h;exact h rfl
theorem Zl5{l:List SesX}{o:List SntX}{add:List Snt}(h:∀s∈add,nilS s):(∀w,(Z6 l o).holds w->(Z6 l (o++add.map nilX)).holds w)/\∀j,(Z6 l (o++add.map nilX)).fp j->(Z6 l o).fp j:=by
 refine⟨λw hw=>Z19 (λt ht=>.inl ht) (λt ht=>?_) hw,λj hj=>?_⟩
 ·rcases qy13.1 ht with ht|ht
  ·exact .inl ht
  ·obtain⟨s,hs,rfl⟩:=List.mem_map.1 ht;exact .inr (Z1al (h s hs) w)
 ·rcases Zc.1 hj with h1|⟨t,ht,hk⟩
  ·exact Zc.2 (.inl h1)
  ·rcases qy13.1 ht with ht|ht
   ·exact Zc.2 (.inr ⟨t,ht,hk⟩)
   ·obtain⟨s,hs,rfl⟩:=List.mem_map.1 ht;exact absurd hk (Z15r (h s hs))
theorem Zvs(R:List Wat)(m:Nat)(x:Wat):(R.map Z8).set m [.int .i64 x.1,.string ⟨x.2.1.toArray⟩,.string ⟨x.2.2.1.toArray⟩,.int .i64 x.2.2.2]=(R.set m x).map Z8:=by rw[List.map_set];rfl
def Z8p(n:List UInt8)(l:List Wat)(i:Nat)(t:Tel):Tel:=((l.take i).filter (ofT n)).foldl Z8b t
theorem Zj3{n:List UInt8}{l:List Wat}{i:Nat}(t:Tel)(h:i<l.length):Z8p n l (i+1) t=if(l.getD i wD_K).2.2.1=n then Z8b (Z8p n l i t) (l.getD i wD_K)else Z8p n l i t:=by
 unfold Z8p;rw[Z95 wD_K _ l i h];by_cases h1:(l.getD i wD_K).2.2.1=n
 ·rw[if_pos h1,if_pos (show ofT n (l.getD i wD_K)=true from decide_eq_true h1),List.foldl_append];rfl
 ·rw[if_neg h1,if_neg (by rw[ofT,decide_eq_false h1];decide),List.append_nil]
theorem Zt1(w:World)(k:Nat)(x:TelX)(n p:List UInt8)(hr:Rel ⟨Zl (tlA k x) tlH,w⟩ (tlA k x++[.s n,.s p]) tlH w)(hb:BOk x.tel)(ho:x.ox.length<100000) : Calls Tryz.prog 186 #[.pointer (some ⟨k,0,none⟩),.string ⟨n.toArray⟩,.string ⟨p.toArray⟩] w λe w'=>e=.returned (.bool (Z1g n p x.tel).2)/\Z8o w w' k x (λ_=>False) (Z1g n p x.tel).1:=by
 refine Z1 (Z3 (J:=tlA k x++[.s n,.s p]) (sxE_ok.joins _) Tryz.func186 Z7l rfl rfl hr rfl rfl ?_) rfl;simp only[QQ,Nat.reduceAdd,qy3,qy4,Z3u,Z3v,Z22,gW3];intro b1 w1 hr1;refine(Z1cp w1 x.kv x.kept n p (hr1.at_ 1 rfl) hb.kept).mono ?_;rintro e w2 ⟨u,rfl,a1,f1,m1⟩;refine⟨[.v u,.r ((rawK x.kept n p).1.map encK),.i (rawK x.kept n p).2],rfl,rfl,m1,qy5 _,qy2.2 ⟨⟨a1,λk hk=>.inl (f1 k hk.2)⟩,qy5 _⟩,Z5,?_⟩;have f2:∀j,Z2 u j->w.heap.size<=j:=λj hj=>Nat.le_trans hr1.mod.size (f1 j hj);clear a1 f1 m1 hr1 hr;obtain⟨K,hK⟩:∃K,K=(rawK x.kept n p).1:=⟨_,rfl⟩
 simp only[QQ,Nat.reduceAdd,qy3,qy4,Z3u,Z3v,Z22,gW3,<- hK];refine⟨λh1 w3 hr=>?_,λh1=>⟨λh2 w3 hr=>?_,λh2=>?_⟩⟩
 ·have e:Z1g n p x.tel=(x.tel,false):=by rw[Z1g,if_pos (show ¬(rawK x.tel.kept n p).2=0 from h1)]
  rw[e];exact⟨rfl,x,rfl,(hr.pick [2,3,4,5,6,7,8] (by decide)).conv rfl,.refl _ _ _⟩
 ·have e:Z1g n p x.tel=({ x.tel with kept:=K },true):=by rw[Z1g,if_neg (show ¬¬(rawK x.tel.kept n p).2=0 from h1),if_pos h2,hK];rfl
  rw[e];exact⟨rfl,{ x with kept:=K,kv:=u },rfl,(hr.pick [0,3,4,5,6,7,8] (by decide)).conv rfl,λj hj=>.inl (f2 j hj.2),λj hj=>.inr hj,λj hj=>.inr (.inl hj)⟩
 ·have h2:=qy9.1 h2;obtain⟨T0,hT0⟩:∃T0:Tel,T0=⟨K,x.wants,x.sx.map (·.1),x.wat,x.next,x.ox.map (·.1)⟩:=⟨_,rfl⟩
  have q0:T0.next=x.next:=by rw[hT0]
  have q1:T0.out=x.tel.out:=by rw[hT0];rfl
  have q2:0<=T0.next/\T0.next<=65535:=by rw[q0];exact hb.next
  have q3:T0.kept=K/\T0.wants=x.wants/\T0.sess=x.sx.map (·.1):=by rw[hT0];exact⟨rfl,rfl,rfl⟩
  have e:Z1g n p x.tel=({ Z8p n x.wat x.wat.length T0 with wat:=x.wat.filter λw=>!ofT n w },true):=by rw[Z1g,if_neg (show ¬¬(rawK x.tel.kept n p).2=0 from h1),if_neg (qy9.2 h2),Z8p,List.take_length,hT0,hK];rfl
  rw[e];have hw12:x.wat.length<=12:=(Z1a.1 hb.wat).1;have hnx:∀i,0<=(Z8p n x.wat i T0).next/\(Z8p n x.wat i T0).next<=65535:=λi=>(Znf _ T0 q2).2.2.2.2.1;have hol:∀i,(Z8p n x.wat i T0).out.length<=x.ox.length+12:=λi=>by
   have h3:=(Znf ((x.wat.take i).filter (ofT n)) T0 q2).2.2.2.2.2;have h4:((x.wat.take i).filter (ofT n)).length<=(x.wat.take i).length:=List.length_filter_le _ _;have h5:(x.wat.take i).length<=x.wat.length:=by simp;omega
   have h6:x.tel.out.length=x.ox.length:=by simp[TelX.tel]
   unfold Z8p;rw[h3,q1,h6];omega
  refine⟨Asrt.tt,λ_ _=>trivial,λ_ hk=>hk.elim,?_⟩;refine⟨λvs=>∃(i:Nat) (u':Value) (add:List Snt),vs=[.i i,.a Asrt.tt,.v u,.r (K.map encK),.v x.wv,.r (x.wants.map Zb),.v x.sv,.r (x.sx.map Zg),.i (Z8p n x.wat i T0).next,.v u',.r ((x.ox++add.map nilX).map Z1r)]/\i<=x.wat.length/\(Z8p n x.wat i T0).out=x.tel.out++add/\∀s∈add,nilS s,
   λvs=>(x.wat.length - (vs.getD 0 (.i 0)).toI).toNat,⟨0,x.ov,[],by simp[Z8p,q0],by omega,by simp[Z8p,q1],by simp⟩,?_⟩
  rintro _ - ⟨i,u',add,rfl,hi,hT,hnil⟩;simp only[QQ,Nat.reduceAdd,qy3,qy4,Z3u,Z3v,Z22,gW3];have hnxi:=hnx i;have hadd:add.length<=12:=by have:=hol i;rw[hT,qy11,show x.tel.out.length=x.ox.length by simp[TelX.tel]]at this;omega
  refine⟨λh3=>⟨by omega,λb3=>⟨λh4=>?_,λh4=>?_⟩⟩,λh3=>?_⟩
  ·have hst:=Zj3 (n:=n) T0 (show i<x.wat.length by omega);rw[if_pos h4]at hst;refine⟨λvs=>∃v:Value,vs=[.i 0,.i 0,.v v],?_,?_⟩
   ·simp only[qy11,qy3,List.length_cons,List.length_nil];repeat' (first|exact⟨_,rfl⟩|omega|(intro _)|(refine⟨?_,?_⟩))
   rintro _ - ⟨v,rfl⟩;simp only[QQ,Nat.reduceAdd,qy3,qy4,Z3u,Z3v,Z22,gW3];refine⟨by omega,by omega,Asrt.tt,λ_ _=>trivial,λ_ hk=>hk.elim,⟨i+1,v,add++[toP (x.wat.getD i wD_K).1 ⟨1,132,(Z8p n x.wat i T0).next,(x.wat.getD i wD_K).2.1,[],[]⟩],?_,by omega,?_,?_⟩,by omega⟩
   ·rw[hst,Z10r _ hnxi];simp only[List.map_append,List.append_assoc,List.map_cons,List.map_nil];rfl
   ·rw[hst];show(Z8p n x.wat i T0).out++_=_;rw[hT,List.append_assoc]
   ·intro s hs;rcases qy13.1 hs with hs|hs
    ·exact hnil s hs
    ·rw[qy12.1 hs];exact⟨rfl,rfl,rfl⟩
  ·have hst:=Zj3 (n:=n) T0 (show i<x.wat.length by omega);rw[if_neg h4]at hst;refine⟨by omega,by omega,Asrt.tt,λ_ _=>trivial,λ_ hk=>hk.elim,⟨i+1,u',add,by rw[hst];rfl,by omega,by rw[hst];exact hT,hnil⟩,by omega⟩
  have hil:i=x.wat.length:=by omega
  subst hil;obtain⟨T,hTd⟩:∃T,T=Z8p n x.wat x.wat.length T0:=⟨_,rfl⟩
  have hTs:=Znf ((x.wat.take x.wat.length).filter (ofT n)) T0 q2;rw[<- hTd]at hT hnxi⊢;have hend:∀(W:List Wat) (av':Value) (w3:World) (J':List V) (hp':List Ent),W=x.wat.filter (λw=>!ofT n w)->Rel ⟨Zl (tlA k x) tlH,w⟩ J' hp' w3->hp'.all (Ent.bd J'.length)=true->(∃e∈hp',e.wr=false/\e.sem J'=Ent.sem (tlA k x) (.st 12)) ->
    ∀is:List Nat,is.Nodup->(is.filterMap λi=>(Ent.st J'.length::hp')[i]?).map (Ent.sem (J'++[.a (Z6 x.sx (x.ox++add.map nilX))]))=tlH.map (Ent.sem (tlA k ⟨K,x.wants,x.sx,W,T.next,x.ox++add.map nilX,u,x.wv,x.sv,av',u'⟩)) ->
    Z8o w w3 k x (λ_=>False) { T with wat:=x.wat.filter λw=>!ofT n w }:=by
   intro W av' w3 J' hp' hW hr3 hbd ⟨e,he,hwf,hse⟩ is hn hs;obtain⟨q1,q2⟩:=Zl5 (l:=x.sx) (o:=x.ox) hnil;have hA:(Z6 x.sx x.ox).holds w3:=by have h5:=hr3.holds e he;rw[show e.holds J' w3=(Z6 x.sx x.ox).holds w3 from congrFun (congrArg SEnt.holds hse) w3]at h5;exact h5
   have hF:∀j,(Z6 x.sx x.ox).fp j->e.fp J' j:=λj hj=>by rw[show e.fp J' j=(Z6 x.sx x.ox).fp j from congrFun (congrArg SEnt.fp hse) j];exact hj
   refine⟨⟨K,x.wants,x.sx,W,T.next,x.ox++add.map nilX,u,x.wv,x.sv,av',u'⟩,?_,Znd hr3 hbd k _ (q1 w3 hA) (λj hj=>⟨e,he,hwf,hF j (q2 j hj)⟩) is hn hs,λj hj=>.inl (f2 j hj.2),λj hj=>.inr hj,λj hj=>.inr (.inl (q2 j hj))⟩;have e1:T.kept=K:=by rw[hTd];exact hTs.1.trans q3.1
   have e2:T.wants=x.wants:=by rw[hTd];exact hTs.2.1.trans q3.2.1
   have e3:T.sess=x.sx.map (·.1):=by rw[hTd];exact hTs.2.2.1.trans q3.2.2
   have e4:(x.ox++add.map nilX).map (·.1)=T.out:=by rw[hT];simp[TelX.tel,nilX,Function.comp_def]
   simp only[TelX.tel,e4,hW];cases T;simp only at e1 e2 e3⊢;rw[e1,e2,e3]
  obtain⟨l,hlw⟩:∃l,l=x.wat:=⟨_,rfl⟩
  rw[<- hlw]at hw12 hend⊢;generalize hkp:(λw:Wat=>!ofT n w)=kp at hend⊢
  have key:∀z:Wat,z.2.2.1=n->¬kp z=true:=λz hz=>by rw[<- hkp];simp[ofT,hz]
  have key2:∀z:Wat,¬z.2.2.1=n->kp z=true:=λz hz=>by rw[<- hkp];simp[ofT,hz]
  refine⟨λvs=>∃(x:V) (i:Nat),vs=[x,.i i,.s n]/\i<=l.length/\∀j,j<i->kp (l.getD j wD_K)=true,λvs=>(l.length - (vs.getD 1 (.i 0)).toI).toNat,⟨_,0,rfl,by omega,λj hj=>by omega⟩,?_⟩;rintro _ - ⟨z,i,rfl,hi,hn⟩;simp only[QQ,Nat.reduceAdd,qy3,qy4,Z3u,Z3v,Z22,gW3];refine⟨λh1=>?_,λh1 w3 hr=>⟨by trivial,?_⟩⟩
  ·repeat (first|omega|refine⟨by omega,?_⟩)
   intro b7;refine⟨λh2=>⟨λh3=>by omega,λh3=>⟨by omega,by omega,?_⟩⟩,λh2=>?_⟩
   ·refine⟨λvs=>∃(a j:Nat) (R:List Wat),vs=[.i a,.i j,.s n,.r (R.map Z8)]/\a<j/\j<=l.length/\R.length=l.length/\R.take a=(l.take j).filter kp/\R.drop j=l.drop j,λvs=>(l.length - (vs.getD 1 (.i 0)).toI).toNat,
     ⟨i,i+1,l,rfl,by omega,by omega,rfl,?_,rfl⟩,?_⟩
    ·rw[Z95 wD_K kp l i (by omega),if_neg (key _ h2),List.append_nil,Znk wD_K hn]
    rintro _ - ⟨a,j,R,rfl,haj,hj,hR,ht,hd⟩;simp only[QQ,Nat.reduceAdd,qy3,qy4,Z3u,Z3v,Z22,gW3,hR];refine⟨λh3=>?_,λh3=>?_⟩
    ·repeat (first|omega|refine⟨by omega,?_⟩)
     intro b8 b9;have hg:=Znl wD_K hd;refine⟨λh4=>?_,λh4=>?_⟩
     ·repeat (first|omega|refine⟨by omega,?_⟩)
      refine⟨⟨a+1,j+1,R.set a (R.getD j wD_K),?_,by omega,by omega,by simpa using hR,Z10q wD_K haj (by omega) hR ht hd (key2 _ (by rw[<- hg];exact h4)),?_⟩,by omega⟩
      ·rw[<- Zvs];rfl
      ·rw[List.drop_set_of_lt (by omega)];exact Zj2 hd
     ·repeat (first|omega|refine⟨by omega,?_⟩)
      refine⟨⟨a,j+1,R,rfl,by omega,by omega,hR,?_,Zj2 hd⟩,by omega⟩;rw[Z95 wD_K kp l j (by omega),if_neg (key _ (by rw[<- hg];exact qy9.1 h4)),List.append_nil];exact ht
    ·have hje:j=l.length:=by omega
     subst hje;rw[List.take_length]at ht;refine⟨by omega,by omega,?_,λu2 w3 hr=>⟨by trivial,?_⟩⟩
     ·simp only[qy11,List.length_take,List.length_replicate,qy3,hR];omega
     ·refine hend (l.filter kp) u2 w3 _ _ rfl hr (by rfl) ⟨_,qy6 (i:=10) rfl,rfl,rfl⟩ [5,8,9,1,10,0,12] (by decide) (Zo rfl (Zo rfl (Zo rfl (Zo (Z46 rfl ?_) rfl))));simp only[QQ,Nat.reduceAdd,qy3,qy4,Z3u,Z3v,Z22,gW3];rw[List.take_append_of_le_length (by simp;omega),List.take_take,Nat.min_self,<- List.map_take,ht]
   ·repeat (first|omega|refine⟨by omega,?_⟩)
    refine⟨⟨_,i+1,rfl,by omega,λj hj=>?_⟩,by omega⟩;by_cases hji:j=i
    ·subst hji;exact key2 _ h2
    ·exact hn j (by omega)
  ·have hie:i=l.length:=by omega
   subst hie;have e1:=Znk wD_K (p:=kp) (l:=l) (i:=l.length) hn;rw[List.take_length]at e1;exact hend l x.av w3 _ _ e1.symm hr (by rfl) ⟨_,qy6 (i:=9) rfl,rfl,rfl⟩ [3,6,7,8,9,0,11] (by decide) rfl
end Go.Proofs.Y
namespace Go.Proofs.Y
open Go Go.Sx
theorem Z82{B:Base}{J:List V}{hp:List Ent}{w:World}(h:Rel B J hp w)(hb:hp.all (Ent.bd J.length)=true)(k:Nat)(x:TelX)(A':Asrt)(Jx:List V)(hx:List Ent)(hA:(Z6 x.sx x.ox).holds w)(hf:∀j,(Z6 x.sx x.ox).fp j->∃e∈hp,e.wr=false/\e.fp J j) (hA':A'.holds w) (hf':∀j,A'.fp j->∃e∈hp,e.wr=false/\e.fp J j) (is:List Nat) (hn:is.Nodup) (hfp:Zl (tlA k x++Jx) (tlH++hx)=Zl (tlA k x) tlH) (hs:(is.filterMap λi=>(Ent.st (J++[V.a (Z6 x.sx x.ox)]).length::Ent.st J.length::hp)[i]?).map (Ent.sem (J++[.a (Z6 x.sx x.ox)]++[.a A']))=(tlH++hx).map (Ent.sem (tlA k x++Jx))) : Rel ⟨Zl (tlA k x) tlH,w⟩ (tlA k x++Jx) (tlH++hx) w:=by
 have h1:=h.gather hb _ hA hf;have hb1:(Ent.st J.length::hp).all (Ent.bd (J++[V.a (Z6 x.sx x.ox)]).length)=true:=by rw[List.all_cons,Bool.and_eq_true];refine⟨by simp[Ent.bd],List.all_eq_true.2 λe he=>Ent.bd_mono (by simp) e (List.all_eq_true.1 hb e he)⟩
 have ha:Zx J.length J (J++[V.a (Z6 x.sx x.ox)]):=Zx.app _ _;have h2:=h1.gather hb1 A' hA' λj hj=>by obtain⟨e,he,hw,hef⟩:=hf' j hj;exact⟨e,qy10 _ he,hw,(Ent.fp_bd ha e (List.all_eq_true.1 hb e he) j).1 hef⟩
 have h3:=((h2.pick is hn).conv hs).base;rw[hfp]at h3;exact h3
theorem Z1j(w:World)(k:Nat)(x:TelX)(c:List UInt8)(lv:Value)(l:List Z7m)(hr:Rel ⟨Zl (tlA k x) tlH,w⟩ (tlA k x++pkA c lv l) (tlH++pkH) w)(hl:l.length<1000000)(ho:x.ox.length<1000000) : Calls Tryz.prog 191 #[.pointer (some ⟨k,0,none⟩),.string ⟨c.toArray⟩,sc1 lv] w λe w'=>e=.returned (.tuple #[])/\Z8o w w' k x (Z11 l).fp { x.tel with out:=x.tel.out++l.map λt=>toC c t.1 }:=by
 refine(Z10c w k x c lv l hr hl ho).mono ?_;rintro e w' ⟨rfl,ov',hr'⟩;refine⟨rfl,{ x with ox:=x.ox++l.map (Zvp c),ov:=ov' },?_,hr',λj hj=>.inr hj,λj hj=>.inr hj,λj hj=>?_⟩
 ·simp[TelX.tel,Zvp,Function.comp_def]
 ·rcases Zc.1 hj with h1|⟨t,ht,hk⟩
  ·exact .inr (.inl (Zc.2 (.inl h1)))
  ·rcases qy13.1 ht with ht|ht
   ·exact .inr (.inl (Zc.2 (.inr ⟨t,ht,hk⟩)))
   ·obtain⟨p,hp,rfl⟩:=List.mem_map.1 ht;exact .inr (.inr (Zne hp (Z10b hk)))
def pkN(p:Pk):Z7m:=(pkOf p,.slice none 0 0,.slice none 0 0)
theorem Zbz(l:List Pk):(l.map pkN).map Z47=l.map encP:=by rw[List.map_map];rfl
theorem Zc0(l:List Pk)(w:World):(Z11 (l.map pkN)).holds w:=by intro t ht;obtain⟨p,hp,ht⟩:=List.mem_flatMap.1 ht;obtain⟨q,hq,rfl⟩:=List.mem_map.1 hp;simp only[Zkz,List.mem_cons,List.not_mem_nil,or_false]at ht;rcases ht with rfl|rfl<;>exact Z9 _ _
theorem Z83{l:List Pk}{j:Nat}:¬(Z11 (l.map pkN)).fp j:=by rintro⟨t,ht,h1,h2⟩;obtain⟨p,hp,ht⟩:=List.mem_flatMap.1 ht;obtain⟨q,hq,rfl⟩:=List.mem_map.1 hp;simp only[Zkz,List.mem_cons,List.not_mem_nil,or_false]at ht;rcases ht with rfl|rfl<;>exact h1 rfl
theorem Zq9(c:List UInt8)(l:List Pk):((l.map pkN).map λt=>toC c t.1)=l.map λp=>toC c (pkOf p):=by rw[List.map_map];rfl
theorem Zc1{l:List SesX}{o:List SntX}{i:Nat}{t:SesX}{w:World}(h:(Z6 l o).holds w)(h1:Zu w t.2.1 t.1.fl)(h2:Zu w t.2.2 t.1.qu):(Z6 (l.set i t) o).holds w :=
 Z19 (λu hu=>by
  rcases List.mem_or_eq_of_mem_set hu with hu|rfl
  ·exact .inl hu
  ·exact .inr ⟨h1,h2⟩) (λu hu=>.inl hu) h
theorem Z6r{l:List SesX}{o:List SntX}{i:Nat}{t:SesX}{j:Nat}(h:(Z6 (l.set i t) o).fp j):(Z6 l o).fp j\/sesF t j:=by
 rcases Zc.1 h with⟨u,hu,hk⟩|h1
 ·rcases List.mem_or_eq_of_mem_set hu with hu|rfl
  ·exact .inl (Zc.2 (.inl ⟨u,hu,hk⟩))
  ·exact .inr hk
 ·exact .inl (Zc.2 (.inr h1))
theorem Z54(l:List SesX)(i:Nat)(t:SesX):(l.map Zg).set i [.string ⟨t.1.cl.toArray⟩,.bool t.1.on,.bool t.1.clean,sc1 t.2.1,sc1 t.2.2,.int .i64 t.1.next]=(l.set i t).map Zg:=by rw[List.map_set];rfl
theorem Z33(x:TelX):x.tel.sess=x.sx.map (·.1):=rfl
theorem Zvt{x:TelX}{c:List UInt8}(h:hasS x.tel.sess c=true):idxS x.tel.sess c<x.sx.length/\(x.sx.getD (idxS x.tel.sess c) sxD).1=x.tel.sess.getD (idxS x.tel.sess c) s0:=by obtain⟨h1,-⟩:=Z7n h;refine⟨?_,(Zpy _ _).symm⟩;rw[Z33]at h1⊢;simpa using h1
theorem Zeu{n m:Nat}{x y:TelX}{i:Nat}{t:SesX}(h:Grew n (λ_=>False) x y)(hm:n<=m)(h1:∀j,Z2 t.2.1 j->m<=j)(h2:∀j,Z2 t.2.2 j->m<=j):Grew n (λ_=>False) x { y with sx:=y.sx.set i t } :=
 h.trans (G:=λ_=>False) ⟨λj hj=>.inr hj,λj hj=>.inr hj,λj hj=>by
  rcases Z6r hj with h3|(⟨-,h3⟩|⟨-,h3⟩)
  ·exact .inr (.inl h3)
  ·exact .inl (h1 j h3)
  ·exact .inl (h2 j h3)⟩ hm (λ_ h=>h.elim)
