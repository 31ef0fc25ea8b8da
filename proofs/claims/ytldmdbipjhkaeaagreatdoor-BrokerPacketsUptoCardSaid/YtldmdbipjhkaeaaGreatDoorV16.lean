/-
  The reference's broker, told without names: what a call of one of its methods shows to its caller. By an AI agent.
-/
import Derived.Test.YtldmdbipjhkaeaaGreatDoorV15
set_option linter.all false
set_option maxHeartbeats 20000000
namespace Go.Proofs.Y
open Go Go.Sx
def dlSF(x:TelX)(j:Nat):Prop:=(x.sx.map Zc).flatten≠[]/\Z2 x.sv j
def dlWF(x:TelX)(j:Nat):Prop:=(x.wat.map Z8).flatten≠[]/\Z2 x.av j
def dlF(x:TelX)(j:Nat):Prop:=Zh0 x j\/Z8l x j\/dlSF x j\/dlWF x j\/(Z6 x.sx x.ox).fp j
abbrev dlH:List Ent:=[.rd 1 kK (.var 2),.rd 3 kW_V (.var 4),.rd 5 kSx (.var 6),.rd 7 kW_K (.var 8),.row 10 97 kSn (.var 11),.st 12,.cells 0 42 [.val (.var 1),.val (.var 3),.val (.var 5),.val (.var 7),.int .i64 (.var 9),.val (.var 10)]]
def dlG(x:TelX)(j:Nat):Prop:=dlF x j\/Z2 x.ov j
def GrwD(n:Nat)(F:Nat->Prop)(x y:TelX):Prop:=∀j,dlG y j->n<=j\/dlG x j\/F j
theorem GrwD.refl(n:Nat)(F:Nat->Prop)(x:TelX):GrwD n F x x:=λ_ h=>.inr (.inl h)
theorem GrwD.trans{n m:Nat}{F G:Nat->Prop}{x y z:TelX}(h:GrwD n F x y)(h':GrwD m G y z)(hm:n<=m)(hG:∀j,G j->n<=j\/dlG x j\/F j):GrwD n F x z:=λj hj=>by
 rcases h' j hj with h1|h1|h1
 ·exact .inl (Nat.le_trans hm h1)
 ·exact h j h1
 ·exact hG j h1
def Zgd(w w':World)(k:Nat)(x:TelX)(F:Nat->Prop)(t:Tel):Prop:=∃y:TelX,y.tel=t/\Rel ⟨Zi (tlA k x) dlH,w⟩ (tlA k y) dlH w'/\GrwD w.heap.size F x y
theorem Z10o{k:Nat}{x:TelX}{j:Nat}(h:j∈Zi (tlA k x) dlH):j∈k::(x.ov.ownBlock.toList++[]):=by
 simp only[Zi,dlH,tlA,List.flatMap_cons,List.flatMap_nil,Ent.fpl,List.getD_cons_zero,List.getD_cons_succ,V.toV_v,V.toN_n,List.append_nil,List.nil_append,qy13,qy12,List.mem_cons]at h⊢;rcases h with h|h
 ·exact .inr h
 ·exact .inl (by simpa using h)
theorem Zde{w w1:World}{k:Nat}{x:TelX}{J:List V}{hp:List Ent}(h:Rel ⟨Zi (tlA k x) dlH,w⟩ J hp w1)(i c:Nat){v ty:Nat}{ks:List Kd}{r:X}(h0:hp[i]?=some (.row v ty ks r)){e:Ent}(hc:hp[c]?=some e)(hi:i≠c)(h1:e.fp J k):∀j,Z2 (J.getD v (.i 0)).toV j->w.heap.size<=j\/Z2 x.ov j:=λj hj=>by
 rcases h.own _ (qy6 h0) rfl j hj with g|g
 ·exact .inl g
 ·rcases List.mem_cons.1 (Z10o g)with g|g
  ·exact absurd (show e.fp J j by rw[g];exact h1) λhf=>h.sep.disj (i:=i) (j:=c) h0 hc hi (.inl rfl) hj hf
  ·rw[List.append_nil]at g;exact .inr (Option.mem_toList.1 g)
theorem Zge{w w':World}{k:Nat}{x y:TelX}{F:Nat->Prop}{t:Tel}(ht:y.tel=t)(hr:Rel ⟨Zi (tlA k x) dlH,w⟩ (tlA k y) dlH w')(hg:∀j,dlF y j->w.heap.size<=j\/dlG x j\/F j):Zgd w w' k x F t :=
 ⟨y,ht,hr,λj hj=>by
  rcases hj with hj|hj
  ·exact hg j hj
  ·rcases Zde hr 4 6 rfl rfl (by decide) rfl j hj with h|h
   ·exact .inl h
   ·exact .inr (.inl (.inr h))⟩
theorem Zk2{J:List V}{gone:List Nat}{v j:Nat}(hv:v∈gone)(h:Z2 (J.getD v (.i 0)).toV j):j∈Zx J gone :=
 List.mem_flatMap.2 ⟨v,hv,Option.mem_toList.2 h⟩
theorem Zm7{B:Base}{J:List V}{hp:List Ent}{w:World}(h:Rel B J hp w)(hb:hp.all (Ent.bd J.length)=true)(k:Nat)(y:TelX)(hA:(Z6 y.sx y.ox).holds w)(hf:∀j,(Z6 y.sx y.ox).fp j->∃e∈hp,e.wr=false/\e.fp J j)(is:List Nat)(hn:is.Nodup) (hs:(is.filterMap λi=>(Ent.st J.length::hp)[i]?).map (Ent.sem (J++[.a (Z6 y.sx y.ox)]))=dlH.map (Ent.sem (tlA k y))):Rel B (tlA k y) dlH w :=
 ((h.gather hb _ hA hf).pick is hn).conv hs
abbrev dlEs(n:Nat):List Ent:=[.rd n kK (.var (n+1)),.rd (n+2) kW_V (.var (n+3)),.rd (n+4) kSx (.var (n+5)),.rd (n+6) kW_K (.var (n+7)),.row (n+9) 97 kSn (.var (n+10)),.st (n+11)]
abbrev dlMs(vk n:Nat):List Ent:=[.cells vk 42 [.val (.var n),.val (.var (n+2)),.val (.var (n+4)),.val (.var (n+6)),.int .i64 (.var (n+8)),.val (.var (n+9))]]
theorem Z16m{J pre:List V}{y:TelX}{k vk n:Nat}(hn:J.length+pre.length=n)(hk:J.getD vk (.i 0)=.n k)(hv:vk<J.length):dlH.map (Ent.sem (tlA k y))=(dlEs n++dlMs vk n).map (Ent.sem (J++(pre++tlV y))):=by
 have g:=Zvq (y:=y) hn;have g0:(J++(pre++tlV y)).getD n (.i 0)=.v y.kv:=g 0;have hk':(J++(pre++tlV y)).getD vk (.i 0)=.n k:=by rw[<- hk,qy1,qy1,List.getElem?_append_left hv]
 simp only[dlH,dlEs,dlMs,List.cons_append,List.nil_append,List.map_cons,List.map_nil,Ent.sem,Ent.holds,Ent.fp,Ent.wr,X.ev,Sc.ev,g0,g 1,g 2,g 3,g 4,g 5,g 6,g 7,g 8,g 9,g 10,g 11,hk'];rfl
theorem Zw7{P:Program}{f:Nat}{args:Array Value}{w:World}{B:Base}{J:List V}{hp:List Ent}{k:Nat}{x:TelX}{F:Nat->Prop}{R:TelX->Prop}{pre:List V}{v:Value}(h0:Rel B J hp w)(n vk:Nat)(gone:List Nat) (h:Calls P f args w λe w1=>e=.returned v/\∃y:TelX,R y/\Rel ⟨Zi (tlA k x) dlH,w⟩ (tlA k y) dlH w1/\GrwD w.heap.size F x y) (hn:J.length+pre.length=n) (hk:J.getD vk (.i 0)=.n k) (hv:vk<J.length) (hov:∀j,Z2 x.ov j->j∈Zx J gone) (hO:∀j,(dlF x j\/F j)->(∃y∈hp,y.wr=false/\y.fp J j)\/j∈Zx J gone) : Calls P f args w λe w1=>∃y:TelX,R y/\w.heap.size<=w1.heap.size/\GrwD w.heap.size F x y/\e=.returned v/\Mod (Zs J [vk] gone) w w1/\(∀x∈dlMs vk n,x.holds (J++(pre++tlV y)) w1) /\ (∀x∈dlEs n,x.holds (J++(pre++tlV y)) w1/\∀k,x.fp (J++(pre++tlV y)) k->w.heap.size<=k\/(x.wr=false/\∃y∈hp,y.wr=false/\y.fp J k)\/k∈Zx J gone)/\Z2x (J++(pre++tlV y)) (dlEs n):=by
 refine h.mono ?_;rintro e w1 ⟨he,y,hT,hq,hg⟩;have hs:=Z16m (y:=y) hn hk hv;have hq':Rel ⟨Zs J [vk] gone,w⟩ (J++(pre++tlV y)) (dlEs n++dlMs vk n) w1:=Zjt (hq.conv hs) rfl λj hj=>by
  show j∈Zs J [vk] gone
  rcases List.mem_cons.1 (Z10o hj)with g|g
  ·exact List.mem_append_left _ (qy12.2 (by rw[g];show k=(J.getD vk (.i 0)).toN;rw[hk];rfl))
  ·rw[List.append_nil]at g;exact List.mem_append_right _ (hov j (Option.mem_toList.1 g))
 refine⟨y,hT,hq.mod.size,hg,he,hq'.mod,λx hx=>hq'.holds x (List.mem_append_right _ hx),λx hx=>⟨hq'.holds x (List.mem_append_left _ hx),λj hj=>?_⟩,(List.pairwise_append.1 hq'.sep).1⟩;cases hw:x.wr with
 | false =>
  have h1:Ent.sem (J++(pre++tlV y)) x∈dlH.map (Ent.sem (tlA k y)):=by rw[hs];exact List.mem_map_of_mem (List.mem_append_left _ hx)
  obtain⟨e',he',hee⟩:=List.mem_map.1 h1;have hw':e'.wr=false:=(congrArg SEnt.wr hee).trans hw;have hj':e'.fp (tlA k y) j:=(congrFun (congrArg SEnt.fp hee) j).mpr hj;have fin:w.heap.size<=j\/(∃y∈hp,y.wr=false/\y.fp J j)\/j∈Zx J gone:=by
   have h2:dlF y j:=by
    simp only[dlH,List.mem_cons,List.not_mem_nil,or_false]at he';rcases he' with rfl|rfl|rfl|rfl|rfl|rfl|rfl
    ·exact .inl hj'
    ·exact .inr (.inl hj')
    ·exact .inr (.inr (.inl hj'))
    ·exact .inr (.inr (.inr (.inl hj')))
    ·cases hw'
    ·exact .inr (.inr (.inr (.inr hj')))
    ·cases hw'
   rcases hg j (.inl h2)with h|(h|h)|h
   ·exact .inl h
   ·exact .inr (hO j (.inl h))
   ·exact .inr (.inr (hov j h))
   ·exact .inr (hO j (.inr h))
  rcases fin with h|h|h
  ·exact .inl h
  ·exact .inr (.inl ⟨rfl,h⟩)
  ·exact .inr (.inr h)
 | true =>
  rcases hq'.own x (List.mem_append_left _ hx) hw j hj with h5|h5
  ·exact .inl h5
  ·simp only[Zs,List.map_cons,List.map_nil,qy13,qy12]at h5;rcases h5 with h5|h5
   ·exfalso;refine(List.pairwise_append.1 hq'.sep).2.2 x hx _ (qy12.2 rfl) (.inl hw) _ hj ?_;rw[h5];simp only[Ent.fp];rw[qy1 (l:=J++_),List.getElem?_append_left hv,<- qy1]
   ·exact .inr (.inr h5)
theorem Zbu{P:Program}{f:Nat}{args:Array Value}{w:World}{B:Base}{J:List V}{hp:List Ent}{k:Nat}{x:TelX}{F:Nat->Prop}{R:TelX->Prop}{pre:List V}{v:Value}(h0:Rel B J hp w)(n vk:Nat)(gone:List Nat) (h:Calls P f args w λe w1=>e=.returned v/\∃y:TelX,R y/\Rel ⟨Zi (tlA k x) dlH,w⟩ (tlA k y) dlH w1/\GrwD w.heap.size F x y) (hn:J.length+pre.length=n) (hk:J.getD vk (.i 0)=.n k) (hv:vk<J.length) (vo:Nat) (hvo:vo∈gone) (hov:(J.getD vo (.i 0)).toV=x.ov) (hO:∀j,(dlF x j\/F j)->(∃y∈hp,y.wr=false/\y.fp J j)\/j∈Zx J gone) : Calls P f args w λe w1=>∃y:TelX,R y/\w.heap.size<=w1.heap.size/\GrwD w.heap.size F x y/\e=.returned v/\Mod (Zs J [vk] gone) w w1/\(∀x∈dlMs vk n,x.holds (J++(pre++tlV y)) w1) /\ (∀x∈dlEs n,x.holds (J++(pre++tlV y)) w1/\∀k,x.fp (J++(pre++tlV y)) k->w.heap.size<=k\/(x.wr=false/\∃y∈hp,y.wr=false/\y.fp J k)\/k∈Zx J gone)/\Z2x (J++(pre++tlV y)) (dlEs n) :=
 Zw7 h0 n vk gone h hn hk hv (λ_ hj=>Zk2 hvo (by rw[hov];exact hj)) hO
theorem Zw8{B:Base}{J:List V}{hp:List Ent}{w:World}(h:Rel B J hp w)(hb:hp.all (Ent.bd J.length)=true)(ty:Nat)(ks:List Kd):Rel B (J++[.v (.slice none 0 0),.r []]) (.row J.length ty ks (.var (J.length+1))::hp) w:=by
 have g0:(J++[V.v (.slice none 0 0),.r []]).getD J.length (.i 0)=.v (.slice none 0 0):=by simp[qy1]
 have g1:(J++[V.v (.slice none 0 0),.r []]).getD (J.length+1) (.i 0)=.r []:=by simp[qy1]
 have hf:∀k,¬Ent.fp (J++[V.v (.slice none 0 0),.r []]) k (.row J.length ty ks (.var (J.length+1))):=λk hk=>by simp only[Ent.fp,g0,V.toV_v,Z2,Value.ownBlock]at hk;cases hk
 refine(h.ext (Zu.app J _) hb).cons ?_ (λ_ k hk=>absurd hk (hf k)) (λ_ _ _ k hk _=>absurd hk (hf k));simp only[Ent.holds,X.ev,g0,g1,V.toV_v,V.toR_r];exact⟨by simp,World.ownsRow_nil _ _ _ _⟩
theorem Z16n{B:Base}{J:List V}{hp:List Ent}{w:World}(h:Rel B J hp w)(hb:hp.all (Ent.bd J.length)=true)(k:Nat)(x:TelX)(Jx:List V)(hx:List Ent)(hA:(Z6 x.sx x.ox).holds w)(hf:∀j,(Z6 x.sx x.ox).fp j->∃e∈hp,e.wr=false/\e.fp J j)(is:List Nat)(hn:is.Nodup) (hfp:Zi (tlA k x++Jx) (dlH++hx)=Zi (tlA k x) dlH) (hs:(is.filterMap λi=>(Ent.st J.length::hp)[i]?).map (Ent.sem (J++[.a (Z6 x.sx x.ox)]))=(dlH++hx).map (Ent.sem (tlA k x++Jx))):Rel ⟨Zi (tlA k x) dlH,w⟩ (tlA k x++Jx) (dlH++hx) w:=by have h3:=(((h.gather hb _ hA hf).pick is hn).conv hs).base;rw[hfp]at h3;exact h3
theorem Z9i{B:Base}{J:List V}{hp:List Ent}{w:World}(h:Rel B J hp w)(hb:hp.all (Ent.bd J.length)=true)(k:Nat)(x:TelX)(A':Asrt)(Jx:List V)(hx:List Ent)(hA:(Z6 x.sx x.ox).holds w)(hf:∀j,(Z6 x.sx x.ox).fp j->∃e∈hp,e.wr=false/\e.fp J j) (hA':A'.holds w) (hf':∀j,A'.fp j->∃e∈hp,e.wr=false/\e.fp J j) (is:List Nat) (hn:is.Nodup) (hfp:Zi (tlA k x++Jx) (dlH++hx)=Zi (tlA k x) dlH) (hs:(is.filterMap λi=>(Ent.st (J++[V.a (Z6 x.sx x.ox)]).length::Ent.st J.length::hp)[i]?).map (Ent.sem (J++[.a (Z6 x.sx x.ox)]++[.a A']))=(dlH++hx).map (Ent.sem (tlA k x++Jx))) : Rel ⟨Zi (tlA k x) dlH,w⟩ (tlA k x++Jx) (dlH++hx) w:=by
 have h1:=h.gather hb _ hA hf;have hb1:(Ent.st J.length::hp).all (Ent.bd (J++[V.a (Z6 x.sx x.ox)]).length)=true:=by rw[List.all_cons,Bool.and_eq_true];refine⟨by simp[Ent.bd],List.all_eq_true.2 λe he=>Ent.bd_mono (by simp) e (List.all_eq_true.1 hb e he)⟩
 have ha:Zu J.length J (J++[V.a (Z6 x.sx x.ox)]):=Zu.app _ _;have h2:=h1.gather hb1 A' hA' λj hj=>by obtain⟨e,he,hw,hef⟩:=hf' j hj;exact⟨e,qy10 _ he,hw,(Ent.fp_bd ha e (List.all_eq_true.1 hb e he) j).1 hef⟩
 have h3:=((h2.pick is hn).conv hs).base;rw[hfp]at h3;exact h3
