/- By an AI agent. -/
import Derived.Test.YtfcofbfbgcbocaaGreatDoorR17
import Derived.Test.YtfcofbfbgcbocaaGreatDoorR18
import Derived.Test.YtfcofbfbgcbocaaGreatDoorR16
set_option linter.all false
set_option maxHeartbeats 20000000
namespace Go.Proofs.Y
open Go.Sx
theorem Z17l(w:World)(r s:List UInt8)(hs:r.length+s.length<=60000000):Calls Tryz.prog 12 #[.string ⟨r.toArray⟩,.string ⟨s.toArray⟩] w λe w'=>∃(x:Value) (l:List Z9c),e=.returned (.tuple #[sc1 x,.string ⟨(feed (r++s)).2.1.toArray⟩,.int .i64 (feed (r++s)).2.2])/\l.map (·.1)=(feed (r++s)).1/\Z16b w w' x l:=by
 refine Z1 (Z3 (J:=[.s r,.s s]) (sxE_ok.joins _) Tryz.func12 Zfg rfl rfl (Rel.start w _) rfl rfl ?_) rfl;simp only[QQ,Nat.reduceAdd];refine⟨by omega,?_⟩;refine⟨Z39 [],λw _=>Z16a w,λk hk=>absurd hk (Zo6 k),?_⟩;refine⟨λvs=>∃(l:List Z9c) (s':List UInt8) (x:Value),vs=[.v nilV,.r [],.s [],.i 0,.s s',.v x,.r (l.map Zc3),.a (Z39 l)]/\Z7t (s'.length+1) s' (l.map (·.1))=feed (r++s)/\l.length+s'.length<=(r++s).length/\∀k,(Z39 l).fp k->w.heap.size<=k,
  λvs=>(vs.getD 4 (.i 0)).toS.length,⟨[],r++s,nilV,rfl,rfl,by simp,λk hk=>absurd hk (Zo6 k)⟩,?_⟩
 rintro _ - ⟨l,s',x,rfl,hf,hlen,hfr⟩;rw[qy11]at hlen;simp only[QQ,Nat.reduceAdd];intro w1 hr;refine(Z1e5 w1 s' (by omega)).mono ?_;have hstep:=@Zjg s' (l.map (·.1));have hbd:=@Zex s';have hend:(Z1u s').2.2≠0->feed (r++s)=if(Z1u s').2.2=8 then(l.map (·.1),s',0)else(l.map (·.1),[],(Z1u s').2.2):=λh=>by rw[<- hf,Z7t,if_neg h]
 generalize Z1u s'=t at hstep hbd hend
 obtain⟨q,n,er⟩:=t;rintro e w2 ⟨px,py,rfl,m,rx,ry,fx,fy⟩;refine⟨[.i q.kind,.b q.dup,.b q.retain,.b q.clean,.b q.session,.i q.qos,.i q.id,.i q.keep,.i q.code,.s q.client,.s q.topic,.s q.payload,.v px,.r (q.asks.map encA),.v py,.r (q.codes.map Zh),.i n,.i er],rfl,rfl,m,qy5 _,qy2.2 ⟨⟨rx,λk hk=>.inl (fx k hk.2)⟩,qy2.2 ⟨⟨ry,λk hk=>.inl (fy k hk.2)⟩,qy5 _⟩⟩,Z6n (by simp[Ent.wr]),?_⟩;have hw:=hr.mod.size;simp only[QQ,Nat.reduceAdd];clear m hr;intro b1;refine⟨λh0=>?_,λh0=>⟨λh8 w' hr=>?_,λh8 w' hr=>?_⟩⟩
 ·have hb:=hbd h0;simp only at hb;intro z1;refine⟨by simp only[qy3,List.length_nil,qy11,List.length_cons];omega,λz2=>⟨by omega,by omega,?_⟩⟩;refine⟨Z39 (l++[(q,px,py)]),λw' hr=>Z11s (hr.at_ 5 rfl) (hr.at_ 3 rfl) (hr.at_ 4 rfl),λk hk=>?_,⟨l++[(q,px,py)],s'.drop n.toNat,z2,?_,?_,?_,λk hk=>?_⟩,?_⟩
  ·rcases Zo7 hk with h|h|h
   ·exact(qE 5 rfl rfl h)
   ·exact(qE 3 rfl rfl h)
   ·exact(qE 4 rfl rfl h)
  ·rw[rx.sc1,ry.sc1];simp[Zc3]
  ·rw[List.map_append];rw[<- hf];exact(hstep h0).symm
  ·rw[qy11,List.length_drop,qy11,List.length_cons,List.length_nil];omega
  ·rcases Zo7 hk with h|h|h
   ·exact hfr k h
   ·exact Nat.le_trans hw (fx k h.2)
   ·exact Nat.le_trans hw (fy k h.2)
  ·show(List.drop n.toNat (List.take (s'.length:Int).toNat s')).length<s'.length
   rw[qy4,List.take_length,List.length_drop];omega
 ·rw[hend h0,if_pos h8];have o:=hr.at_ 4 rfl;refine⟨x,l,rfl,rfl,hr.mod,owns.reads o,hr.at_ 3 rfl,λk hk=>(hr.own _ (qy6 (i:=4) rfl) rfl k hk).resolve_right (by simp),hfr⟩
 ·rw[hend h0,if_neg h8];have o:=hr.at_ 4 rfl;refine⟨x,l,rfl,rfl,hr.mod,owns.reads o,hr.at_ 3 rfl,λk hk=>(hr.own _ (qy6 (i:=4) rfl) rfl k hk).resolve_right (by simp),hfr⟩
theorem Z11t{s:List UInt8}{f:Bool}:0<=chkT s f/\chkT s f<=2:=by unfold chkT;(repeat' split)<;>omega
theorem Zo8(n:Nat):0<=Z3e n/\Z3e n<=2:=by unfold Z3e;(repeat' split)<;>omega
theorem Ztp(k:Int):∀l:List Ak,0<=Zbl k l/\Zbl k l<=7
 | []=>by simp[Zbl]
 | a::l=>by
  have h1:=@Z11t a.1 true;have h2:=Ztp k l;have h3:0<=(if k=8 then askE a else Z5t a)/\(if k=8 then askE a else Z5t a)<=7:=by unfold askE Z5t;(repeat' split)<;>omega
  rw[Zbl];generalize (if k=8 then askE a else Z5t a)=x at h3⊢
  split
  ·exact h2
  ·exact h3
theorem Z1b8(p:Pkt):0<=chkP p/\chkP p<=7:=by
 have h1:=@Z11t p.topic false;have h2:=Ztp p.kind p.asks;have h3:=Zo8 p.asks.length;have h4:=Zo8 p.codes.length;unfold chkP Z27 pubE Zkq Z5s Zhs Zbm
 (repeat' split)<;>omega
theorem Z1b9(s:List UInt8):0<=(decD s).2/\(decD s).2<=7:=by
 have:=Z1b8 (Za2 s).1;unfold decD
 (repeat' split)<;>simp only<;>omega
theorem Zqj{s:List UInt8}:(Z1u s).2.2=8↔(Z3q s).2=8:=by
 unfold Z1u;split
 ·exact Iff.rfl
 ·rename_i h;have:=Z1b9 (s.take (Z3q s).1.toNat);simp only;constructor<;>intro h2<;>omega
theorem Zh5:∀(f:Nat) (s:List UInt8) (out:List Pkt),Z7t f s out=(out++(Z7t f s []).1,(Z7t f s []).2)
 | 0,s,out=>by simp[Z7t]
 | f+1,s,out=>by
  rw[Z7t,Z7t];split
  ·rw[Zh5 f _ (out++_),Zh5 f _ ([]++_)];simp
  ·split<;>simp
theorem Z11u{s:List UInt8}(h:(Z1u s).2.2=0):feed s=((Z1u s).1::(feed (s.drop (Z1u s).2.1.toNat)).1,(feed (s.drop (Z1u s).2.1.toNat)).2):=by rw[feed,Zjg h,Zh5];rfl
theorem Zw5{s:List UInt8}(h:(Z1u s).2.2=8):feed s=([],s,0):=by rw[feed,Z7t,if_neg (by rw[h];decide),if_pos h]
theorem Z16c{s:List UInt8}(h:(Z1u s).2.2≠0)(h8:(Z1u s).2.2≠8):feed s=([],[],(Z1u s).2.2):=by rw[feed,Z7t,if_neg h,if_neg h8]
theorem Z16d{s:List UInt8}(h:(decD s).2=0):chkP (decD s).1=0:=by
 unfold decD at h⊢;split at h
 ·exact absurd h (by decide)
 rename_i h1;rw[if_neg h1];split at h
 ·exact absurd h (by decide)
 rename_i h2;rw[if_neg h2];split at h
 ·rename_i h3;rw[if_pos h3];exact h3
 ·rename_i h3;exact absurd h h3
theorem Zjh:∀(k:Nat) (s:List UInt8),s.length<=k->(∀p∈(feed s).1,chkP p=0)/\(feed s).1.length<=s.length/\(¬(feed s).2.2=0->(feed s).2.1=[])/\((feed s).2.2=0->(Z1u (feed s).2.1).2.2=8)
 | k,s,hk=>by
  by_cases h0:(Z1u s).2.2=0
  ·have hb:=Zex h0;obtain⟨k',rfl⟩:∃k',k=k'+1:=⟨k - 1,by omega⟩
   obtain⟨i1,i2,i3,i4⟩:=Zjh k' (s.drop (Z1u s).2.1.toNat) (by rw[List.length_drop];omega);rw[List.length_drop]at i2;rw[Z11u h0];refine⟨λp hp=>?_,by simp only[List.length_cons];omega,i3,i4⟩;rcases List.mem_cons.1 hp with rfl|hp
   ·obtain⟨-,-,h3,h4⟩:=Zto h0;rw[h3];exact Z16d h4
   ·exact i1 p hp
  ·by_cases h8:(Z1u s).2.2=8
   ·rw[Zw5 h8];exact⟨λp hp=>(by cases hp),Nat.zero_le _,λh=>absurd rfl h,λ_=>h8⟩
   ·rw[Z16c h0 h8];exact⟨λp hp=>(by cases hp),Nat.zero_le _,λ_=>rfl,λh=>absurd h h0⟩
theorem Zo9:∀(f i n:Nat) (l:List UInt8),(glF f i n l).2.2=8->l.length<f
 | 0,i,n,l,h=>by simp[glF]at h
 | f+1,i,n,l,h=>by
  cases l with
  | nil=>simp
  | cons c l =>
   rw[glF]at h;split at h
   ·split at h<;>exact absurd h (by simp)
   ·have:=Zo9 f _ _ l (by simpa using h);simp only[List.length_cons];omega
theorem Z16e{s:List UInt8}(h:(Z1u s).2.2=8):s.length<=600:=by
 have h1:=Zqj.1 h;unfold Z3q at h1;split at h1
 ·rename_i h2;rw[h2];simp
 ·split at h1
  ·rename_i h3;have h4:(getL s 1).2.2=8:=h1;unfold getL at h4;split at h4
   ·have:=Zo9 _ _ _ _ h4;rw[List.length_drop]at this;omega
   ·exact absurd h4 (by decide)
  ·split at h1
   ·exact absurd h1 (by decide)
   ·split at h1
    ·omega
    ·exact absurd h1 (by simp)
theorem Zqk(s:List UInt8):(∀p∈(feed s).1,chkP p=0)/\(feed s).2.1.length<=600/\(feed s).1.length<=s.length:=by
 obtain⟨h1,h2,h3,h4⟩:=Zjh s.length s (Nat.le_refl _);refine⟨h1,?_,h2⟩;by_cases h:(feed s).2.2=0
 ·exact Z16e (h4 h)
 ·rw[h3 h];simp
def rdC(w:World)(b:Nat)(s:List UInt8)(sh:Bool):Prop:=w.heap[b]?=some (.cells #[.string ⟨s.toArray⟩,.bool sh] 86 (0,0))
abbrev ptrB(b:Nat):Value:=.pointer (some ⟨b,0,none⟩)
theorem Zlj{w:World}{J:List V}{e:Ent}{b:Nat}(h:e.holds J w)(hf:∀k,e.fp J k->k=b):Rel ⟨[b],w⟩ J [e] w :=
 ⟨Mod.refl _ _,qy2.2 ⟨h,qy5 _⟩,qy2.2 ⟨λ_ k hk=>.inr (by rw[hf k hk];exact qy12.2 rfl),qy5 _⟩,List.pairwise_singleton _ _⟩
def Z3h(n:Int)(s:List UInt8)(sh:Bool):List UInt8×List UInt8×Bool:=if(s.length:Int)<n then([],[],true)else(s.take n.toNat,s.drop n.toNat,sh)
theorem Ztq(w:World)(b:Nat)(s:List UInt8)(sh:Bool)(n:Int)(h0:0<=n)(hc:rdC w b s sh):Calls Tryz.prog 35 #[ptrB b,.int .i64 n] w λe w'=>e=.returned (.string ⟨(Z3h n s sh).1.toArray⟩)/\rdC w' b (Z3h n s sh).2.1 (Z3h n s sh).2.2/\Mod [b] w w':=by
 refine Z1 (Z3 (J:=[.n b,.s s,.b sh,.i n]) sxE_ok Tryz.func35 Z6c rfl rfl (Zlj (b:=b) hc (λk hk=>hk)) rfl rfl ?_) rfl;simp only[QQ,Nat.reduceAdd];refine⟨λh w' hr=>?_,λh=>⟨h0,by omega,λw' hr=>?_⟩⟩
 ·rw[Z3h,if_pos h];exact⟨rfl,hr.at_ 0 rfl,hr.mod⟩
 ·rw[Z3h,if_neg h];have:=hr.at_ 0 rfl;simp only[Ent.holds,QQ,Nat.reduceAdd,qy4,List.take_length]at this;exact⟨by simp,this,hr.mod⟩
def numM(k:Nat)(s:List UInt8)(sh:Bool):Int×List UInt8×Bool:=if s.length<k then(0,[],true)else((beN (s.take k) 0:Nat),s.drop k,sh)
theorem Zh6{k:Nat}(s:List UInt8)(sh:Bool)(h:k<=2):0<=(numM k s sh).1/\(numM k s sh).1<65536/\(k=1->(numM k s sh).1<256):=by
 unfold numM;split
 ·simp
 ·have h1:=Zz7 (s.take k) 0;have h2:pw (s.take k).length<=pw 2:=Zkl (by simp;omega);have h3:pw 2=65536:=rfl;refine⟨by simp,by simp only;omega,λh4=>?_⟩;subst h4;have h2:pw (s.take 1).length<=pw 1:=Zkl (by simp;omega);have h3:pw 1=256:=rfl;simp only;omega
theorem Z96(w:World)(b:Nat)(s:List UInt8)(sh:Bool)(k:Nat)(hk:1<=k/\k<=2)(hs:s.length<1099511627776)(hc:rdC w b s sh):Calls Tryz.prog 34 #[ptrB b,.int .i64 k] w λe w'=>e=.returned (.int .i64 (numM k s sh).1)/\rdC w' b (numM k s sh).2.1 (numM k s sh).2.2/\Mod [b] w w':=by
 refine Z1 (Z3 (J:=[.n b,.s s,.b sh,.i k]) sxE_ok Tryz.func34 Z5b rfl rfl (Zlj (b:=b) hc (λk hk=>hk)) rfl rfl ?_) rfl;simp only[QQ,Nat.reduceAdd];intro w1 hr;refine(Ztq w1 b s sh k (by omega) (hr.at_ 0 rfl)).mono ?_;rintro e w2 ⟨rfl,c1,c2⟩;refine⟨[.s (Z3h k s sh).1,.s (Z3h k s sh).2.1,.b (Z3h k s sh).2.2],rfl,rfl,c2,qy2.2 ⟨c1,qy5 _⟩,qy5 _,Ze,?_⟩;simp only[QQ,Nat.reduceAdd];have hl:(Z3h k s sh).1.length<=s.length:=by
  unfold Z3h;split
  ·simp
  ·simp;omega
 refine⟨[.i (getR (Z3h k s sh).1 0 k).1,.i (getR (Z3h k s sh).1 0 k).2],rfl,λ_ w' _=>Zko w' _ 0 k (by omega),?_⟩;simp only[QQ,Nat.reduceAdd];intro w3 hr3;have e1:(getR (Z3h k s sh).1 0 k).1=(numM k s sh).1/\(Z3h k s sh).2=(numM k s sh).2:=by
  unfold Z3h numM;by_cases h:s.length<k
  ·rw[if_pos (by omega),if_pos h,Z91 (by omega) (by simp) (by simp;omega)];exact⟨rfl,rfl⟩
  ·rw[if_neg (by omega),if_neg h,Zkn (by omega) (by simp) (by simp;omega)];simp only[Int.toNat_zero,List.drop_zero,qy4,List.take_take,Nat.min_self,and_self]
 rw[e1.1,<- e1.2];exact⟨rfl,hr3.at_ 0 rfl,hr3.mod⟩
def Z4k(n:Int)(s:List UInt8)(sh:Bool):Int×List UInt8×Bool :=
 if n=13 then(13+(numM 1 s sh).1,(numM 1 s sh).2)else if n=14 then(269+(numM 2 s sh).1,(numM 2 s sh).2)else if n=15 then(15,s,true)else(n,s,sh)
theorem Ztr{n:Int}(s:List UInt8)(sh:Bool)(h:0<=n/\n<=15):0<=(Z4k n s sh).1/\(Z4k n s sh).1<65805:=by
 have h1:=Zh6 (k:=1) s sh (by omega);have h2:=Zh6 (k:=2) s sh (by omega);unfold Z4k;split
 ·simp only;omega
 ·split
  ·simp only;omega
  ·split<;>simp only<;>omega
theorem Z11v(w:World)(b:Nat)(s:List UInt8)(sh:Bool)(n:Int)(hn:0<=n/\n<=15)(hs:s.length<1099511627776)(hc:rdC w b s sh):Calls Tryz.prog 84 #[ptrB b,.int .i64 n] w λe w'=>e=.returned (.int .i64 (Z4k n s sh).1)/\rdC w' b (Z4k n s sh).2.1 (Z4k n s sh).2.2/\Mod [b] w w':=by
 refine Z1 (Z3 (J:=[.n b,.s s,.b sh,.i n]) sxE_ok Tryz.func84 Z6d rfl rfl (Zlj (b:=b) hc (λk hk=>hk)) rfl rfl ?_) rfl;simp only[QQ,Nat.reduceAdd];refine⟨λh w1 hr=>?_,λh=>⟨λh2 w1 hr=>?_,λh2=>⟨λh3 w' hr=>?_,λh3 w' hr=>?_⟩⟩⟩
 ·refine(Z96 w1 b s sh 1 (by omega) hs (hr.at_ 0 rfl)).mono ?_;rintro e w2 ⟨rfl,c1,c2⟩;refine⟨[.i (numM 1 s sh).1,.s (numM 1 s sh).2.1,.b (numM 1 s sh).2.2],rfl,rfl,c2,qy2.2 ⟨c1,qy5 _⟩,qy5 _,Ze,?_⟩;simp only[QQ,Nat.reduceAdd];have:=Zh6 (k:=1) s sh (by omega);refine⟨by omega,by omega,λw3 hr3=>?_⟩;rw[Z4k,if_pos h];exact⟨rfl,hr3.at_ 0 rfl,hr3.mod⟩
 ·refine(Z96 w1 b s sh 2 (by omega) hs (hr.at_ 0 rfl)).mono ?_;rintro e w2 ⟨rfl,c1,c2⟩;refine⟨[.i (numM 2 s sh).1,.s (numM 2 s sh).2.1,.b (numM 2 s sh).2.2],rfl,rfl,c2,qy2.2 ⟨c1,qy5 _⟩,qy5 _,Ze,?_⟩;simp only[QQ,Nat.reduceAdd];have:=Zh6 (k:=2) s sh (by omega);refine⟨by omega,by omega,λw3 hr3=>?_⟩;rw[Z4k,if_neg h,if_pos h2];exact⟨rfl,hr3.at_ 0 rfl,hr3.mod⟩
 ·rw[Z4k,if_neg h,if_neg h2,if_pos h3];exact⟨by rw[h3],hr.at_ 0 rfl,hr.mod⟩
 ·rw[Z4k,if_neg h,if_neg h2,if_neg h3];exact⟨rfl,hr.at_ 0 rfl,hr.mod⟩
def Zw6(n:Int)(s:List UInt8):Option (Int×List UInt8) :=
 if n<13 then some (n,s)else if n=15 then none
 else if n=14 then(if s.length<2 then none else some (269+(beN (s.take 2) 0:Nat),s.drop 2))
 else(if s.length<1 then none else some (13+(beN (s.take 1) 0:Nat),s.drop 1))
theorem Z11w{n:Int}(hn:n<=15)(s:List UInt8):match Zw6 n s with|some (v,l)=>Z4k n s false=(v,l,false)|none=>(Z4k n s false).2.2=true:=by
 unfold Zw6;by_cases h1:n<13
 ·rw[if_pos h1];simp only[Z4k];rw[if_neg (by omega),if_neg (by omega),if_neg (by omega)]
 ·rw[if_neg h1];by_cases h2:n=15
  ·rw[if_pos h2];simp only[Z4k];rw[if_neg (by omega),if_neg (by omega),if_pos h2]
  ·rw[if_neg h2];by_cases h3:n=14
   ·rw[if_pos h3];by_cases h4:s.length<2
    ·rw[if_pos h4];simp only[Z4k];rw[if_neg (by omega),if_pos h3,numM,if_pos h4]
    ·rw[if_neg h4];simp only[Z4k];rw[if_neg (by omega),if_pos h3,numM,if_neg h4]
   ·rw[if_neg h3];by_cases h4:s.length<1
    ·rw[if_pos h4];simp only[Z4k];rw[if_pos (by omega),numM,if_pos h4]
    ·rw[if_neg h4];simp only[Z4k];rw[if_pos (by omega),numM,if_neg h4]
theorem Zji(k:Nat)(s:List UInt8):(numM k s true).2.2=true:=by unfold numM;split<;>rfl
theorem Z7u(k:Int)(s:List UInt8):(Z3h k s true).2.2=true:=by unfold Z3h;split<;>rfl
theorem Zql(k:Int)(s:List UInt8):(Z4k k s true).2.2=true:=by
 unfold Z4k;split
 ·exact Zji _ _
 ·split
  ·exact Zji _ _
  ·split<;>rfl
theorem Zc4(k:Nat)(s:List UInt8)(sh:Bool):(numM k s sh).2.1.length<=s.length:=by unfold numM;split<;>simp
theorem Zoa(k:Int)(s:List UInt8)(sh:Bool):(Z3h k s sh).2.1.length<=s.length/\(Z3h k s sh).1.length<=s.length:=by unfold Z3h;split<;>simp;omega
theorem Zob(k:Int)(s:List UInt8)(sh:Bool):(Z4k k s sh).2.1.length<=s.length:=by
 unfold Z4k;split
 ·exact Zc4 _ _ _
 ·split
  ·exact Zc4 _ _ _
  ·split<;>simp
def Zoc(was:Int)(c:UInt8)(l:List UInt8):Option (Opt×List UInt8) :=
 match Zw6 ((c.toNat / 16:Nat):Int) l with
 | none=>none
 | some p=>match Zw6 ((c.toNat % 16:Nat):Int) p.2 with
  | none=>none
  | some q=>if(q.2.length:Int)<q.1 then none else some ((was+p.1,q.2.take q.1.toNat),q.2.drop q.1.toNat)
def ahead(acc:List Opt):Option (List Opt×List UInt8)->Option (List Opt×List UInt8)
 | none=>none
 | some p=>some (acc++p.1,p.2)
def Zae:Nat->Int->List UInt8->Option (List Opt×List UInt8)
 | 0,_,s=>if s=[]then some ([],[])else none
 | f+1,was,s=>match s with
  | []=>some ([],[])
  | c::l=>if c=255 then some ([],c::l)else match Zoc was c l with
   | none=>none
   | some p=>ahead [p.1] (Zae f p.1.1 p.2)
theorem Z11x(f:Nat)(was:Int):Zae f was []=some ([],[]):=by cases f<;>rfl
theorem Zw7(f:Nat)(was:Int)(l:List UInt8):Zae (f+1) was (255::l)=some ([],255::l):=rfl
theorem Z11y{f:Nat}{was:Int}{c:UInt8}{l:List UInt8}(hc:c≠255)(h:Zoc was c l=none):Zae (f+1) was (c::l)=none:=by
 show(if c=255 then _ else match Zoc was c l with|none=>none|some p=>ahead [p.1] (Zae f p.1.1 p.2))=_
 rw[if_neg hc,h]
theorem Zw8{f:Nat}{was:Int}{c:UInt8}{l:List UInt8}(hc:c≠255){o:Opt}{r:List UInt8}(h:Zoc was c l=some (o,r)):Zae (f+1) was (c::l)=ahead [o] (Zae f o.1 r):=by
 show(if c=255 then _ else match Zoc was c l with|none=>none|some p=>ahead [p.1] (Zae f p.1.1 p.2))=_
 rw[if_neg hc,h]
theorem Zqm(a b:List Opt)(x:Option (List Opt×List UInt8)):ahead a (ahead b x)=ahead (a++b) x:=by cases x<;>simp[ahead]
theorem Z11z(x:Option (List Opt×List UInt8)):ahead [] x=x:=by cases x<;>rfl
theorem Z1e6(x:Nat)(h:x<256):((x:Int)).fdiv (2 ^ (Nat.min (Int.toNat 4) IntKind.i64.bits))=((x / 16:Nat):Int):=by
 have:∀x:Fin 256,((x.val:Int)).fdiv (2 ^ (Nat.min (Int.toNat 4) IntKind.i64.bits))=((x.val / 16:Nat):Int):=by decide +kernel
 exact this ⟨x,h⟩
theorem Z1fi(x:Nat)(h:x<256):((x:Int)).fdiv (2 ^ (Nat.min (Int.toNat 6) IntKind.i64.bits))=((x / 64:Nat):Int):=by
 have:∀x:Fin 256,((x.val:Int)).fdiv (2 ^ (Nat.min (Int.toNat 6) IntKind.i64.bits))=((x.val / 64:Nat):Int):=by decide +kernel
 exact this ⟨x,h⟩
theorem Z17m(x:Nat)(h:x<256):Z1v .and .i64 (x:Int) 15=((x % 16:Nat):Int):=by
 have:∀x:Fin 256,Z1v .and .i64 (x.val:Int) 15=((x.val % 16:Nat):Int):=by decide +kernel
 exact this ⟨x,h⟩
theorem Z1fj(x:Nat)(h:x<256):Z1v .and .i64 ((x / 16:Nat):Int) 3=((x / 16 % 4:Nat):Int):=by
 have:∀x:Fin 256,Z1v .and .i64 ((x.val / 16:Nat):Int) 3=((x.val / 16 % 4:Nat):Int):=by decide +kernel
 exact this ⟨x,h⟩
theorem Zod(w:World):Z3j w (.slice none 0 0) []:=⟨by simp,none,0,rfl,⟨λ_=>rfl,Nat.le_refl _⟩,λh=>absurd rfl h⟩
theorem Zts(c:UInt8)(l:List UInt8):numM 1 (c::l) false=((c.toNat:Int),l,false):=by simp[numM,beN]
set_option maxRecDepth 10000 in
theorem Zw9(w:World)(b:Nat)(s:List UInt8)(sh:Bool)(hs:s.length<1099511627776)(hsh:sh=true->s=[])(hc:rdC w b s sh):Calls Tryz.prog 36 #[ptrB b] w λe w'=>∃v os s' sh',e=.returned (sc1 v)/\Z3j w' v os/\Zga w.heap.size v os/\rdC w' b s' sh'/\Mod [b] w w'/\os.length+s'.length<=s.length /\ (sh'=true/\(if sh then none else Zae s.length 0 s)=none\/sh'=false/\(if sh then none else Zae s.length 0 s)=some (os,s')):=by
 refine Z1 (Z3 (J:=[.n b,.s s,.b sh]) sxE_ok Tryz.func36 Z51 rfl rfl (Zlj (b:=b) hc (λk hk=>hk)) rfl rfl ?_) rfl;generalize hT:(if sh then none else Zae s.length 0 s)=T
 simp only[QQ,Nat.reduceAdd];refine⟨λvs=>∃(v:Value) (acc:List Opt) (was:Int) (s':List UInt8) (sh':Bool),vs=[.v v,.r (acc.map encO),.i was,.s s',.b sh']/\0<=was/\was<=70000*acc.length/\acc.length+s'.length<=s.length /\
   (sh'=true/\T=none\/sh'=false/\∃f,s'.length<=f/\ahead acc (Zae f was s')=T),λvs=>(vs.getD 3 (.i 0)).toS.length,⟨_,[],0,s,sh,rfl,by omega,by simp,by simp,?_⟩,?_⟩
 ·cases sh with
  | true=>exact .inl ⟨rfl,hT.symm⟩
  | false=>exact .inr ⟨rfl,s.length,Nat.le_refl _,by rw[Z11z];exact hT⟩
 rintro _ - ⟨v,acc,was,s',sh',rfl,hw0,hw1,hal,hinv⟩;simp only[QQ,Nat.reduceAdd,qy3];refine⟨?_,λh=>?_,λh=>?_⟩
 ·rcases s' with _|⟨c,l⟩
  ·exact .inl λh=>h.1 rfl
  ·exact .inr (by simp only[List.length_cons];omega)
 ·obtain⟨⟨h1,h2⟩,h3⟩:=h;obtain⟨hs0,f,hf,hT'⟩:=hinv.resolve_left λh=>h2 h.1;subst hs0;rcases s' with _|⟨c,l⟩
  ·exact absurd rfl h1
  have hc255:c≠255:=λh=>h3 (by rw[h];rfl);obtain⟨g,rfl⟩:∃g,f=g+1:=⟨f - 1,by simp at hf;omega⟩
  simp only[List.length_cons]at hf hal;have hcb:=Zv5 c;intro w1 hr;refine(Z96 w1 b (c::l) false 1 (by omega) (by simp;omega) (hr.at_ 2 rfl)).mono ?_;rintro e w2 ⟨rfl,c1,c2⟩;rw[Zts]at c1;refine⟨[.i c.toNat,.s l,.b false],rfl,by rw[Zts];rfl,c2,qy2.2 ⟨c1,qy5 _⟩,qy5 _,Ze,?_⟩;simp only[QQ,Nat.reduceAdd];rw[Z1e6 _ hcb];intro w3 hr3;refine(Z11v w3 b l false _ (by omega) (by omega) (hr3.at_ 2 rfl)).mono ?_;rintro e w4 ⟨rfl,c3,c4⟩;have b1:=Ztr (n:=((c.toNat / 16:Nat):Int)) l false (by omega);have l1:=Zob ((c.toNat / 16:Nat):Int) l false;have q1:=Z11w (n:=((c.toNat / 16:Nat):Int)) (by omega) l;generalize Z4k ((c.toNat / 16:Nat):Int) l false=H1 at c3 b1 l1 q1⊢
  refine⟨[.i H1.1,.s H1.2.1,.b H1.2.2],rfl,rfl,c4,qy2.2 ⟨c3,qy5 _⟩,qy5 _,Ze,?_⟩;simp only[QQ,Nat.reduceAdd];rw[Z17m _ hcb];refine⟨by omega,by omega,?_⟩;intro w5 hr5;refine(Z11v w5 b H1.2.1 H1.2.2 _ (by omega) (by omega) (hr5.at_ 2 rfl)).mono ?_;rintro e w6 ⟨rfl,c5,c6⟩;have b2:=Ztr (n:=((c.toNat % 16:Nat):Int)) H1.2.1 H1.2.2 (by omega);have l2:=Zob ((c.toNat % 16:Nat):Int) H1.2.1 H1.2.2;have q2:=Z11w (n:=((c.toNat % 16:Nat):Int)) (by omega) H1.2.1;have t2:=Zql ((c.toNat % 16:Nat):Int) H1.2.1;generalize hH2:Z4k ((c.toNat % 16:Nat):Int) H1.2.1 H1.2.2=H2 at c5 b2 l2⊢
  refine⟨[.i H2.1,.s H2.2.1,.b H2.2.2],rfl,rfl,c6,qy2.2 ⟨c5,qy5 _⟩,qy5 _,Ze,?_⟩;simp only[QQ,Nat.reduceAdd];intro w7 hr7;refine(Ztq w7 b H2.2.1 H2.2.2 H2.1 (by omega) (hr7.at_ 2 rfl)).mono ?_;rintro e w8 ⟨rfl,c7,c8⟩;have l3:=Zoa H2.1 H2.2.1 H2.2.2;have t3:=Z7u H2.1 H2.2.1;generalize hT4:Z3h H2.1 H2.2.1 H2.2.2=T4 at c7 l3⊢
  refine⟨[.s T4.1,.s T4.2.1,.b T4.2.2],rfl,rfl,c8,qy2.2 ⟨c7,qy5 _⟩,qy5 _,Ze,?_⟩;simp only[QQ,Nat.reduceAdd,qy3];intro v1;refine⟨by omega,λv2=>⟨⟨v2,acc++[(was+H1.1,T4.1)],was+H1.1,T4.2.1,T4.2.2,by simp[encO],by omega,by simp;omega,by simp;omega,?_⟩,by omega⟩⟩;have key:match Zoc was c l with|none=>T4.2.2=true|some p=>T4.2.2=false/\(was+H1.1,T4.1)=p.1/\T4.2.1=p.2:=by
   unfold Zoc;cases hq1:Zw6 ((c.toNat / 16:Nat):Int) l with
   | none =>
    rw[hq1]at q1;simp only at q1⊢;rw[<- hT4,<- hH2,q1,t2];exact Z7u _ _
   | some p =>
    obtain⟨more,r1⟩:=p;rw[hq1]at q1;simp only at q1⊢;rw[q1]at hH2 q2 l1;simp only at hH2 q2 l1;cases hq2:Zw6 ((c.toNat % 16:Nat):Int) r1 with
    | none =>
     rw[hq2]at q2;simp only at q2⊢;rw[<- hT4,<- hH2,q2];exact Z7u _ _
    | some p =>
     obtain⟨long,r2⟩:=p;rw[hq2]at q2;simp only at q2⊢;rw[q2]at hH2;rw[<- hT4,<- hH2,q1];simp only[Z3h];by_cases hlo:(r2.length:Int)<long
     ·rw[if_pos hlo,if_pos hlo]
     ·rw[if_neg hlo,if_neg hlo];exact⟨rfl,rfl,rfl⟩
  cases hst:Zoc was c l with
  | none =>
   rw[hst]at key;rw[Z11y hc255 hst]at hT';exact .inl ⟨key,hT'.symm⟩
  | some p =>
   obtain⟨o,r⟩:=p;rw[hst]at key;obtain⟨k1,k2,k3⟩:=key;simp only at k2 k3;rw[Zw8 hc255 hst,Zqm]at hT';have ho:was+H1.1=o.1:=by rw[<- k2]
   refine .inr ⟨k1,g,by omega,?_⟩;rw[k2,k3,ho,hT']
 ·intro w1 hr;have hr0:=hr.at_ 0 rfl;have hr2:=hr.at_ 2 rfl;refine⟨v,acc,s',sh',rfl,owns.reads hr0,λk hk=>?_,hr2,hr.mod,hal,?_⟩
  ·rcases hr.own _ (qy8 ..) rfl k hk.2 with h4|h4
   ·exact h4
   ·have h5:k=b:=by simpa using h4
    exact absurd h5 (λh5=>(List.pairwise_cons.1 hr.sep).1 _ (qy10 _ (qy8 ..)) (.inl rfl) k hk.2 (by simp only[Ent.fp,QQ,Nat.reduceAdd];exact h5))
  ·rcases hinv with h4|⟨h4,f,hf,h5⟩
   ·exact .inl h4
   ·refine .inr ⟨h4,?_⟩;rcases s' with _|⟨c,l⟩
    ·rw[<- h5,Z11x];simp[ahead]
    ·have h6:c=255:=by
      refine Classical.byContradiction λh7=>h ⟨⟨by simp,by simp[h4]⟩,?_⟩;intro h8;apply h7;simpa using h8
     obtain⟨g,rfl⟩:∃g,f=g+1:=⟨f - 1,by simp at hf;omega⟩
     subst h6;rw[<- h5,Zw7];simp[ahead]
def chkd(m:Msg):Msg×Int:=if chk m=0 then(m,0)else(mNil,chk m)
def finM(m:Msg):List UInt8->Msg×Int
 | []=>chkd m
 | _::p=>if p=[]then(mNil,1)else chkd { m with pay:=p }
def dec(s:List UInt8):Msg×Int :=
 if s.length<4 then(mNil,1)else
 if ¬((s.getD 0 0).toNat / 64=1)\/8<(s.getD 0 0).toNat % 16\/s.length<4+(s.getD 0 0).toNat % 16 then(mNil,1)else
 match Zae (s.drop (4+(s.getD 0 0).toNat % 16)).length 0 (s.drop (4+(s.getD 0 0).toNat % 16))with
 | none=>(mNil,1)
 | some (os,r)=>finM ⟨((s.getD 0 0).toNat / 16 % 4:Nat),(s.getD 1 0).toNat,((256*(s.getD 2 0).toNat+(s.getD 3 0).toNat:Nat)),(s.drop 4).take ((s.getD 0 0).toNat % 16),os,[]⟩ r
def Z17n(w w':World)(e:Ending)(r:Msg×Int):Prop:=∃v,e=.returned (.tuple #[mV r.1 (sc1 v),.int .i64 r.2])/\Z3j w' v r.1.opts/\Zga w.heap.size v r.1.opts/\Mod [] w w'
theorem Z97{w w':World}(n:Int)(h:Mod [] w w'):Z17n w w' (.returned (.tuple #[mV mNil (.slice none 0 0),.int .i64 n])) (mNil,n) :=
 ⟨.slice none 0 0,rfl,Zod w',Zvj _ _,h⟩
theorem Z1ba(s:List UInt8):let r1:=numM 1 s false;let r2:=numM 1 r1.2.1 r1.2.2;let r3:=numM 2 r2.2.1 r2.2.2
  (s.length<4/\r3.2.1=[]/\r3.2.2=true\/4<=s.length/\r1.1=(s.getD 0 0).toNat/\r2.1=(s.getD 1 0).toNat/\r3.1=((256*(s.getD 2 0).toNat+(s.getD 3 0).toNat:Nat))/\r3.2.1=s.drop 4/\r3.2.2=false):=by
 rcases s with _|⟨a,_|⟨b,_|⟨c,_|⟨d,l⟩⟩⟩⟩
 ·left;simp[numM]
 ·left;simp[numM]
 ·left;simp[numM]
 ·left;simp[numM]
 ·right;have e:¬(l.length+1+1<2):=by omega
  simp[numM,beN,e]
theorem Z120{m:Msg}(h:chk m=0):chkd m=(m,0):=if_pos h
theorem Z121{m:Msg}(h:¬chk m=0):chkd m=(mNil,chk m):=if_neg h
theorem Zlk{s:List UInt8}(h:4<=s.length)(h1:(¬((s.getD 0 0).toNat / 64=1)\/8<(s.getD 0 0).toNat % 16\/s.length<4+(s.getD 0 0).toNat % 16)\/Zae (s.drop (4+(s.getD 0 0).toNat % 16)).length 0 (s.drop (4+(s.getD 0 0).toNat % 16))=none):dec s=(mNil,1):=by
 unfold dec;rw[if_neg (by omega)];rcases h1 with h1|h1
 ·rw[if_pos h1]
 ·split
  ·rfl
  ·rw[h1]
theorem Z16f{s:List UInt8}(h:4<=s.length)(h1:¬(¬((s.getD 0 0).toNat / 64=1)\/8<(s.getD 0 0).toNat % 16\/s.length<4+(s.getD 0 0).toNat % 16)){os:List Opt}{r:List UInt8}(h2:Zae (s.drop (4+(s.getD 0 0).toNat % 16)).length 0 (s.drop (4+(s.getD 0 0).toNat % 16))=some (os,r)) : dec s=finM ⟨((s.getD 0 0).toNat / 16 % 4:Nat),(s.getD 1 0).toNat,((256*(s.getD 2 0).toNat+(s.getD 3 0).toNat:Nat)),(s.drop 4).take ((s.getD 0 0).toNat % 16),os,[]⟩ r:=by unfold dec;rw[if_neg (by omega),if_neg h1,h2]
theorem Z122{m:Msg}(h:(chkd m).2=0):chk (chkd m).1=0:=by
 unfold chkd at h⊢;split at h
 ·rename_i h1;rw[if_pos h1];exact h1
 ·rename_i h1;exact absurd h h1
theorem Z1bb{m:Msg}{l:List UInt8}(h:(finM m l).2=0):chk (finM m l).1=0:=by
 cases l with
 | nil=>exact Z122 h
 | cons c p =>
  rw[finM]at h⊢;split at h
  ·exact absurd h (by decide)
  ·rename_i h1;rw[if_neg h1];exact Z122 h
theorem Zh7{s:List UInt8}(h:(dec s).2=0):chk (dec s).1=0:=by
 unfold dec at h⊢;split at h
 ·exact absurd h (by decide)
 rename_i h1;rw[if_neg h1];split at h
 ·exact absurd h (by decide)
 rename_i h2;rw[if_neg h2];split at h
 ·exact absurd h (by decide)
 ·rename_i os r h3;exact Z1bb h
open Go
abbrev Z8s(e:Evt)(x:Tel×List Rst):Tel×List Rst:=Zad feed dec e x
theorem Z1bc{f:Tel->Tel}(h:Outs f)(t:Tel):f t={ f { t with out:=[] }with out:=t.out++(f { t with out:=[] }).out }:=by obtain⟨g,r,h1⟩:=h t;have a:=h1 [];have b:f t=_:=h1 t.out;rw[List.nil_append]at a;rw[b,a]
theorem Zll(n:Int)(m:Msg):Outs (Z3t n m):=λt=>by obtain⟨g,r,b,h⟩:=Z164 n m (Z3o m t.next) { t with next:=if m.kind=1 then nx_Z t.next else t.next };refine⟨g,toP n b::r,λo=>?_⟩;have h1:=h (o++[toP n (Z3o m t.next)]);simp only at h1;rw[Z3t];simp only;rw[h1];simp
theorem Zlm(n:Int)(m:Msg):Outs (Z1e n m):=λt=>by
 by_cases h1:m.code=0/\m.kind=0
 ·exact⟨t,[toP n ⟨3,0,m.id,[],[],[]⟩],λo=>by rw[Z1e,if_pos h1]⟩
 by_cases h2:¬m.code=0/\m.kind<=1
 ·obtain⟨g,r,h⟩:=Zll n m t;exact⟨g,r,λo=>by rw[Z1e,if_neg h1,if_pos h2,h]⟩
 ·exact⟨t,[],λo=>by rw[Z1e,if_neg h1,if_neg h2,List.append_nil]⟩
def Zoe(c:List UInt8)(l:List Pkt)(t:Tel):Tel:=l.foldl (λt p=>Zy c p t) t
theorem Zwa{c:List UInt8}{l:List Pkt}{i:Nat}(h:i<l.length)(d:Pkt)(t:Tel):Zoe c (l.take (i+1)) t=Zy c (l.getD i d) (Zoe c (l.take i) t):=by rw[Zoe,List.take_add_one,qy7 h,qy1,qy7 h];simp only[Option.toList_some,List.foldl_append,List.foldl_cons,List.foldl_nil];rfl
theorem Ztt(l:List Rst)(c:List UInt8):(takW l c).2.length<=l.length:=by
 unfold takW;split
 ·simp only[qy11,List.length_take,List.length_drop];omega
 ·exact Nat.le_refl _
theorem Z123(l:List Rst)(c s:List UInt8):(Ze7 l c s).length<=l.length+1:=by
 unfold Ze7;split
 ·omega
 ·simp only[qy11,List.length_take,List.length_drop,List.length_cons,List.length_nil];omega
theorem Z124{fd:List UInt8->List Pkt×List UInt8×Int}{dm:List UInt8->Msg×Int}(e:Evt)(x:Tel×List Rst):(Zad fd dm e x).2.length<=x.2.length+1:=by
 unfold Zad;split
 ·unfold Zvy;split<;>exact Nat.le_succ _
 ·have h1:=Ztt x.2 e.client;have h2:=Z123 (takW x.2 e.client).2 e.client (fd ((takW x.2 e.client).1++e.bytes)).2.1
  show(Ze7 _ _ _).length<=_
  omega
theorem Z16g{e:Evt}(he:Z1t e=0){x:Tel×List Rst}(h:BOk x.1)(hr:ROk x.2) : BOk (Z8s e x).1/\ROk (Z8s e x).2/\(Z8s e x).1.out.length<=x.1.out.length+200*(e.bytes.length+601)/\(Z1q x.1.out->Z1q (Z8s e x).1.out) :=
 Ztd (λs=>Zqk s) (λs=>Zh7) he h hr
def invR(l:List Rst)(n:List UInt8)(i j:Nat):Prop:=i<=j/\j<=l.length/\(∀k,k<i->Za (l.getD k rstD).1 n=true)/\∀k,j<=k->k<l.length->Za (l.getD k rstD).1 n=false
theorem Z17o(l:List Rst)(n:List UInt8):invR l n 0 l.length:=⟨Nat.zero_le _,Nat.le_refl _,λk hk=>absurd hk (Nat.not_lt_zero _),λk h1 h2=>absurd h2 (Nat.not_lt.2 h1)⟩
theorem Z125{l:List Rst}{n:List UInt8}{i j h:Nat}(hs:sortR l)(hv:invR l n i j)(hj:h<j)(h2:Za (l.getD h rstD).1 n=true):invR l n (h+1) j:=by
 obtain⟨h0,h1,hA,hB⟩:=hv;refine⟨hj,h1,λk hk=>?_,hB⟩;by_cases hkh:k=h
 ·rw[hkh];exact h2
 ·exact Zk (Ztf hs (i:=k) (j:=h) (by omega) (by omega)) h2
theorem Z126{l:List Rst}{n:List UInt8}{i j h:Nat}(hs:sortR l)(hv:invR l n i j)(hi:i<=h)(hj:h<j)(h2:¬Za (l.getD h rstD).1 n=true):invR l n i h:=by
 obtain⟨h0,h1,hA,hB⟩:=hv;have h3:Za (l.getD h rstD).1 n=false:=by simpa using h2
 refine⟨hi,by omega,hA,λk hk1 hk2=>?_⟩;by_cases hkh:k=h
 ·rw[hkh];exact h3
 ·cases h4:Za (l.getD k rstD).1 n with
  | false=>rfl
  | true =>
   have:=Zk (Ztf hs (i:=h) (j:=k) (by omega) hk2) h4;rw[h3]at this;cases this
theorem Ztu{l:List Rst}{n:List UInt8}{i:Nat}(hv:invR l n i i):i=idxR l n:=Z11c hv.2.1 hv.2.2.1 hv.2.2.2
open Go.Shelf Go.RowKit Go.Lib
set_option maxRecDepth 100000 in
theorem Z127:Zcs Tryz.prog 164:=by
 intro w b n c i vb vc hi hc hb;go_enter Tryz.func164,Tryz.ntmps164
 go_wp2
 all_goals (go_ret;exact⟨rfl,rfl⟩)
set_option maxRecDepth 100000 in
theorem Z16h:Zim Tryz.prog 164 31:=by
 intro w b n c vb m vc hm hc hb v' w' hrun;have hz1:¬((m:Int)=0):=by omega
 go_enter Tryz.func164,Tryz.ntmps164
 go_wp2_with (at_builtin;refine Lib.wpList_append_run _ rfl _ _ _ _ rfl _ _ rfl rfl _ _ (hrun _) ?_)
 all_goals (go_ret;exact⟨rfl,rfl⟩)
set_option maxRecDepth 100000 in
theorem Zwb:Z90 Tryz.prog 164 197 31 2:=by
 intro w g n c i vb m vc cur1 cur2 hi hm hroom hc63 hov hcp1 hcp2;obtain⟨hz1,hz2,hw1,hw2,hb1,hin,htn,htn2,hb3,-⟩:=insN hi hm (by omega);have hb2:¬(c=i+m):=by omega
 have hb4:¬(c=i):=by omega
 have mixed:Tryz.prog.follows Departure.mixedOrders=true:=by kernel_rfl
 go_enter Tryz.func164,Tryz.ntmps164
 go_wp2_with (simp only[hov])
 go_region_law_o (refine step_copy_runI rfl _ _ 31 31 rfl _ _ (by simp[Act.eval,Act.put]) (by simp[Act.eval,Act.put]) (hcp1 _ _ _) ?_)
 go_wp2_with (at_builtin;refine wpList_copy_runI _ rfl _ _ 31 31 rfl _ _ rfl rfl (hcp2 _ rfl _ _) ?_)
 go_ret
 first|exact⟨rfl,rfl⟩|exact⟨rfl,by rw[setRow_setRow]⟩
set_option maxRecDepth 100000 in
theorem Z128:Zct Tryz.prog 164 80 31 3 2:=by
  intro w g n c i vb m vc G ROW cur2 cur3 hi hm hnc hroom hGn hG63 hrz hcpA hcpB Q hfin;obtain⟨hz1,hz2,hw1,-,hb1,hin,htn,-,-,hb3⟩:=insN hi hm (by omega);have hz3:(c:Int)<(n:Int)+(m:Int):=by omega
  have hGi:¬(G=i):=by omega
  have hGim:¬(G=i+m):=by omega
  have hci:¬(c=i):=by omega
  have mixed:Tryz.prog.follows Departure.mixedOrders=true:=by kernel_rfl
  have hE1:((w.alloc (.cells ROW 80)).drew).heap=(w.drew.alloc (.cells ROW 80)).heap:=rfl;have hF1:(((w.alloc (.cells ROW 80)).drew.setRow w.heap.size cur2).drew).heap=((w.drew.alloc (.cells ROW 80)).setRow w.heap.size cur2).heap:=rfl;go_enter Tryz.func164,Tryz.ntmps164
  go_wp2_with (first
    | (at_builtin;refine Lib.wpList_append_run _ rfl _ _ _ _ rfl _ _ rfl rfl _ _ (hrz _) ?_)
    | (at_builtin;refine wpList_copy_runI _ rfl _ _ 31 31 rfl _ _ rfl rfl (hcpA _ hE1 _ _) ?_)
    | (at_builtin;refine wpList_copy_runI _ rfl _ _ 31 31 rfl _ _ rfl rfl (hcpB _ hF1 _ _ _) ?_))
  go_region_law_o (refine step_copy_runI rfl _ _ 31 31 rfl (.slice (some ⟨w.heap.size,(i+m)*2,none⟩) (n+m - (i+m)) (G - (i+m))) (.slice (some ⟨g,i*2,none⟩) (n - i) (c - i)) (by simp[Act.eval,Act.put]) (by simp[Act.eval,Act.put]) (hcpB _ hF1 3 (G - (i+m)) (c - i)) ?_)
  go_wp2
  exact hfin _ rfl rfl rfl rfl
theorem Z129(w:World)(s v:Value)(i:Nat)(R V:List (List Value))(hs:owns w s 80 [.str,.str] R)(hv:owns w v 80 [.str,.str] V)(hne:∀k,Z2 s k->Z2 v k->False)(hi:i<=R.length)(hb:(R.length+V.length)*32<=140737488355328) : Calls Tryz.prog 164 #[s,.int .i64 i,v] w λe w'=>∃v',e=.returned v'/\Z9h w w' s v' 80 [.str,.str] (R.take i++V++R.drop i) :=
 Zg0 (K:=2) Tryz.underlying31 Tryz.underlying3 (by kernel_rfl) rfl (by decide) (by decide) (λargs w=>run_callFunc_extern Tryz.func197 (by kernel_rfl) (by kernel_rfl) (by kernel_rfl) (e:=Extern.SlicesOverlaps.overlaps #[31,31] #[4]) (by kernel_rfl) args w) Z127 Z16h Zwb Z128 w s v i R V hs hv hne hi hb
set_option maxRecDepth 100000 in
theorem Z1bd:Z14g Tryz.prog 158 31 2:=by
 intro w g n c i j cur1 cur2 hij hj hnc hc63 happ hclr;have hz1:¬((i:Int)=(j:Int)):=by omega
 have hb1:(0:Int)<=(i:Int):=by omega
 have hw1:¬(c=i+(n - j)):=by omega
 have hj1:(j:Int)<=(n:Int):=by omega
 have hj2:(i:Int)<=(j:Int):=by omega
 have mixed:Tryz.prog.follows Departure.mixedOrders=true:=by kernel_rfl
 have hic:i<=c:=by omega
 by_cases hcj:c=j
 ·obtain rfl:n=c:=by omega
  obtain rfl:n=j:=hcj;have happ0:∀(a:Addr) ty sc,(Builtin.append_ #[31,31] ty #[.slice (some ⟨g,0,none⟩) i n,.slice (some a) 0 sc]).run Tryz.prog w.drew=.ok (.slice (some ⟨g,0,none⟩) i n) (w.drew.setRow g cur1):=λa ty sc=>by have:=happ a (.inl (Nat.sub_self n)) ty sc;rw[Nat.sub_self,Nat.add_zero]at this;exact this
  have hclr0:∀(W:World),W.heap=(w.drew.setRow g cur1).heap->∀ty sc,(Builtin.clear_ #[31] ty #[.slice (some ⟨g,i*2,none⟩) (n - i) sc]).run Tryz.prog W=.ok (.tuple #[]) (W.setRow g cur2):=by rw[Nat.sub_self,Nat.add_zero]at hclr;exact hclr
  have hw2:¬n=i:=by omega
  have hfin0:Ending.returned (.slice (some ⟨g,0,none⟩) i n)=.returned (.slice (some ⟨g,0,none⟩) (i+(n - n)) n):=by rw[Nat.sub_self,Nat.add_zero]
  clear happ hclr;go_enter Tryz.func158,Tryz.ntmps158
  go_wp2
  go_region_law_o (refine Z1h rfl _ _ 31 31 rfl _ _ (by simp[Act.eval,Act.put]) (by simp[Act.eval,Act.put]) (happ0 ⟨g,0,none⟩ _ 0) ?_)
  go_wp2_with (refine Z18 _ rfl _ 31 rfl _ rfl (hclr0 _ rfl _ _) ?_)
  go_ret
  exact⟨hfin0,by rw[setRow_setRow]⟩
 ·go_enter Tryz.func158,Tryz.ntmps158
  go_wp2
  go_region_law_o (refine Z1h rfl _ _ 31 31 rfl _ _ (by simp[Act.eval,Act.put]) (by simp[Act.eval,Act.put]) (happ ⟨g,j*2,none⟩ (.inr rfl) _ (c - j)) ?_)
  go_wp2_with (refine Z18 _ rfl _ 31 rfl _ rfl (hclr _ rfl _ _) ?_)
  go_ret
  exact⟨rfl,by rw[setRow_setRow]⟩
theorem Z12a(w:World)(s:Value)(i j:Nat)(R:List (List Value))(hs:owns w s 80 [.str,.str] R)(hij:i<j)(hj:j<=R.length) : Calls Tryz.prog 158 #[s,.int .i64 i,.int .i64 j] w λe w'=>∃v',e=.returned v'/\Z9h w w' s v' 80 [.str,.str] (R.take i++R.drop j) :=
 Zpj (K:=2) Tryz.underlying31 (by kernel_rfl) rfl (by decide) Z1bd w s i j R hs hij hj
