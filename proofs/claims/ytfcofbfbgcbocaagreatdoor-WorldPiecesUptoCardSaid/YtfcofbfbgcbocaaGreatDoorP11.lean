/- By an AI agent. -/
import Derived.Test.YtfcofbfbgcbocaaGreatDoorP10
import Derived.Shelf.SlSortCmp.WholeK
import Derived.Sort.OwnSorted
import Derived.Ground.SlsfProg
import Derived.Maps.RangeWalk
import Derived.Maps.OwnOps
import Derived.Sort.KeysCollected
import Derived.Shelf.Strings.Trim
import Derived.Shelf.Strings.OnBuilder
set_option linter.all false
set_option maxHeartbeats 20000000
namespace Go.Proofs.Y
open Go.Sx
theorem Z13y(p:Pkt):Z21 p=pD_Q p.kind↔(p.kind≠1->p.client=[]/\p.clean=false/\p.keep=0)/\(p.kind≠2->p.session=false/\p.code=0) /\ (p.kind≠3->p.dup=false/\p.retain=false/\p.qos=0/\p.topic=[]/\p.payload=[])/\(¬((3<=p.kind/\p.kind<=4)\/(8<=p.kind/\p.kind<=11))->p.id=0) /\ (p.kind≠8/\p.kind≠10->p.asks=[])/\(p.kind≠9->p.codes=[]):=by
 obtain⟨k,d,r,c,s,q,i,ke,co,cl,t,pl,a,cs⟩:=p;unfold Z21;simp only;by_cases h1:k=1
 ·subst h1;simp only[if_true,Pkt.mk.injEq];simp;grind
 rw[if_neg h1];by_cases h2:k=2
 ·subst h2;simp only[if_true,Pkt.mk.injEq];simp;grind
 rw[if_neg h2];by_cases h3:k=3
 ·subst h3;simp only[if_true,Pkt.mk.injEq];simp;grind
 rw[if_neg h3];by_cases h4:k=4\/k=11
 ·rw[if_pos h4];rcases h4 with rfl|rfl<;>simp only[Pkt.mk.injEq]<;>simp<;>grind
 rw[if_neg h4];by_cases h5:k=8\/k=10
 ·rw[if_pos h5];rcases h5 with rfl|rfl<;>simp only[Pkt.mk.injEq]<;>simp<;>grind
 rw[if_neg h5];by_cases h6:k=9
 ·subst h6;simp only[if_true,Pkt.mk.injEq];simp;grind
 rw[if_neg h6];have h7:¬((3<=k/\k<=4)\/(8<=k/\k<=11)):=by omega
 have h8:k≠8/\k≠10:=by omega
 simp only[Pkt.mk.injEq,h7,h8,ne_eq,h1,h2,h3,h6,not_false_eq_true,true_implies,true_and,and_true];grind
structure FormP(p:Pkt):Prop where
 kind:Z6t p.kind=true
 bare:Z21 p=pD_Q p.kind
 qos:0<=p.qos/\p.qos<=1
 keep:0<=p.keep/\p.keep<65536
 code:0<=p.code/\p.code<256
 id:0<=p.id/\p.id<65536
 noid:idB p=false->p.id=0
 client:p.client.length<65536
 topic:p.topic.length<65536
 asks:∀a∈p.asks,a.1.length<65536/\0<=a.2/\a.2<256/\(p.kind≠8->a.2=0)
 codes:∀c∈p.codes,0<=c/\c<256
theorem Zra{s:List UInt8}{f:Bool}(h:chkT s f=0):s.length<=60:=by
 unfold chkT at h;split at h
 ·simp at h
 ·split at h
  ·simp at h
  ·omega
theorem Zuc(p:Pkt):(Z21 p).kind=p.kind:=by unfold Z21;(repeat' split)<;>rfl
theorem Zyg(p:Pkt):Z8z (Z21 p)=true↔Z21 p=pD_Q p.kind:=by simp only[Z8z,decide_eq_true_eq,Zuc]
theorem Zhy{k:Int}:∀{l:List Ak},Zav k l=0->∀a∈l,chkT a.1 true=0/\0<=a.2/\a.2<=1/\(k≠8->a.2=0)
 | [],_,a,ha=>by simp at ha
 | x::l,h,a,ha=>by
  unfold Zav at h;generalize hX:(if k=8 then askE x else Z5d x)=X at h
  by_cases h0:X=0
  ·rw[if_pos h0]at h;rw[h0]at hX;rcases List.mem_cons.1 ha with rfl|ha
   ·by_cases hk:k=8
    ·rw[if_pos hk,askE]at hX;split at hX
     ·split at hX
      ·exact⟨‹_›,by omega,by omega,λhh=>absurd hk hh⟩
      ·simp at hX
     ·exact absurd hX ‹_›
    ·rw[if_neg hk,Z5d]at hX;split at hX
     ·split at hX
      ·exact⟨‹_›,by omega,by omega,λ_=>‹_›⟩
      ·simp at hX
     ·exact absurd hX ‹_›
   ·exact Zhy h a ha
  ·rw[if_neg h0]at h;exact absurd h h0
theorem Zrb{n:Nat}(h:Z3d n=0):1<=n/\n<=5:=by
 unfold Z3d at h;split at h
 ·simp at h
 ·split at h
  ·simp at h
  ·omega
theorem Zot{α:Type}(f:α->List UInt8)(m:Nat):∀l:List α,(∀a∈l,(f a).length<=m)->(l.map f).flatten.length<=l.length*m
 | [],_=>by simp
 | a::l,h=>by have h1:=Zot f m l λx hx=>h x (qy10 _ hx);have h2:=h a (qy8 ..);simp only[List.map_cons,List.flatten_cons,qy11,List.length_cons,Nat.add_mul,Nat.one_mul];omega
theorem Z24(t:List UInt8):(txtB t).length=t.length+2:=by rw[txtB,qy11,Zt];omega
theorem Zrc{p:Pkt}(h:chkP p=0):FormP p/\(Z6u p).length<=1000:=by
 unfold chkP at h;split at h;rotate_left
 ·simp at h
 rename_i hk;split at h;rotate_left
 ·simp at h
 rename_i he;split at h
 ·rename_i h3;exact absurd h h3.2
 rename_i hp3;split at h
 ·simp at h
 rename_i hid;have hbare:=(Zyg p).1 he;have hb:=(Z13y p).1 hbare;have hk':=hk;simp only[Z6t,decide_eq_true_eq]at hk';obtain⟨b1,b2,b3,b4,b5,b6⟩:=hb;have h1:p.client.length<=20/\0<=p.keep/\p.keep<65536:=by
  by_cases k:p.kind=1
  ·rw[Z23,if_pos k,Zjs]at h;split at h
   ·simp at h
   ·split at h
    ·split at h
     ·omega
     ·simp at h
    ·simp at h
  ·obtain⟨e1,e2,e3⟩:=b1 k;rw[e1,e3];simp
 have h2:0<=p.code/\p.code<256:=by
  by_cases k:p.kind=2
  ·rw[Z23,if_neg (by omega),if_pos k,Z5c]at h;split at h
   ·omega
   ·simp at h
  ·obtain⟨e1,e2⟩:=b2 k;omega
 have h3:p.topic.length<=60/\p.payload.length<=200/\0<=p.qos/\p.qos<=1/\(p.kind=3->p.qos=0->p.id=0):=by
  by_cases k:p.kind=3
  ·rw[Z23,if_neg (by omega),if_neg (by omega),if_pos k,pubE]at h;split at h
   ·have:=Zra ‹_›;split at h
    ·simp at h
    ·split at h
     ·split at h
      ·simp at h
      ·rename_i hn;refine⟨this,by omega,by omega,by omega,λ_ hq=>?_⟩;exact Classical.byContradiction λhi=>hn ⟨hq,.inr hi⟩
     ·simp at h
   ·exact absurd h ‹_›
  ·obtain⟨e1,e2,e3,e4,e5⟩:=b3 k;rw[e3,e4,e5];simp[k]
 have h4:p.asks.length<=5/\∀a∈p.asks,a.1.length<=60/\0<=a.2/\a.2<256/\(p.kind≠8->a.2=0):=by
  by_cases k:p.kind=8\/p.kind=10
  ·rw[Z23,if_neg (by omega),if_neg (by omega),if_neg (by omega),if_pos k,Zgv]at h;split at h
   ·have hc:=Zrb ‹_›;refine⟨hc.2,λa ha=>?_⟩;obtain⟨a1,a2,a3,a4⟩:=Zhy h a ha;exact⟨Zra a1,a2,by omega,a4⟩
   ·exact absurd h ‹_›
  ·have e:=b5 (by omega);rw[e];simp
 have h5:p.codes.length<=5/\∀c∈p.codes,0<=c/\c<256:=by
  by_cases k:p.kind=9
  ·rw[Z23,if_neg (by omega),if_neg (by omega),if_neg (by omega),if_neg (by omega),if_pos k,Zaw]at h;split at h
   ·have hc:=Zrb ‹_›;refine⟨hc.2,λc hcm=>?_⟩;split at h
    ·simp at h
    ·rename_i hn;have:Zgw c=false:=by
      cases hcb:Zgw c
      ·rfl
      ·exact absurd (List.any_eq_true.2 ⟨c,hcm,hcb⟩) hn
     simp only[Zgw,decide_eq_false_iff_not]at this;omega
   ·exact absurd h ‹_›
  ·have e:=b6 k;rw[e];simp
 have hid2:(0<=p.id/\p.id<65536)/\(idB p=false->p.id=0):=by
  by_cases hi:idB p=true
  ·have:1<=p.id/\p.id<=65535:=Classical.byContradiction λhn=>hid ⟨hi,hn⟩;exact⟨by omega,λhf=>by rw[hi]at hf;simp at hf⟩
  ·have h0:p.id=0:=by
    by_cases k:p.kind=3
    ·refine h3.2.2.2.2 k ?_;have:¬p.qos=1:=λhq=>hi (by simp[idB,k,hq]);omega
    ·refine b4 λhk2=>hi ?_;simp only[idB,decide_eq_true_eq];omega
   rw[h0];simp
 refine⟨⟨hk,hbare,h3.2.2.1 |> λa=>⟨a,h3.2.2.2.1⟩,h1.2,h2,hid2.1,hid2.2,by omega,by omega,λa ha=>?_,h5.2⟩,?_⟩
 ·obtain⟨a1,a2⟩:=h4.2 a ha;exact⟨by omega,a2⟩
 ·have e1:(Z7o p).length<=64:=by
   unfold Z7o;split
   ·simp only[qy11,Z24,Zt,List.length_cons,List.length_nil];omega
   ·split
    ·simp only[qy11,Zt];omega
    ·split
     ·rw[Z24];omega
     ·simp
  have e2:(if idB p=true then numB 2 p.id else[]).length<=2:=by
   split
   ·rw[Zt];omega
   ·simp
  have e3:=Zot (Z2s p.kind) 63 p.asks λa ha=>by
   have:=(h4.2 a ha).1;unfold Z2s;rw[qy11,Z24];split
   ·rw[Zt];omega
   ·simp;omega
  have e4:=Zot (numB 1) 1 p.codes λc _=>by rw[Zt];omega
  have e5:p.asks.length*63<=5*63:=Nat.mul_le_mul_right _ h4.1;unfold Z6u;simp only[qy11];omega
def encA(a:Ak):List Value:=[.string ⟨a.1.toArray⟩,.int .i64 a.2]
def Zg(n:Int):List Value:=[.int .i64 n]
abbrev aD:Ak:=([],0)
abbrev Z3h(w:World)(v:Value)(l:List Ak):Prop:=reads w v [.str,.int .i64] (l.map encA)
abbrev Z2t(w:World)(v:Value)(l:List Int):Prop:=reads w v [.int .i64] (l.map Zg)
theorem Z20(w:World):Z3h w (.slice none 0 0) []:=⟨by simp,none,0,rfl,⟨λ_=>rfl,Nat.le_refl _⟩,λh=>absurd rfl h⟩
theorem Z2f(w:World):Z2t w (.slice none 0 0) []:=⟨by simp,none,0,rfl,⟨λ_=>rfl,Nat.le_refl _⟩,λh=>absurd rfl h⟩
theorem gA0(l:List Ak)(i:Nat):Value.gS (((l.map encA).getD i []).getD 0 undef)=(l.getD i aD).1:=by simp only[qy1,List.getElem?_map];cases l[i]?<;>simp[encA,Value.gS,undef]
theorem gA1(l:List Ak)(i:Nat):Value.gI (((l.map encA).getD i []).getD 1 undef)=(l.getD i aD).2:=by simp only[qy1,List.getElem?_map];cases l[i]?<;>simp[encA,Value.gI,undef]
theorem gI0(l:List Int)(i:Nat):Value.gI (((l.map Zg).getD i []).getD 0 undef)=l.getD i 0:=by simp only[qy1,List.getElem?_map];cases l[i]?<;>simp[Zg,Value.gI,undef]
theorem Z1c6(l:List Ak)(i:Nat)(h:i<l.length):l.drop i=l.getD i aD::l.drop (i+1):=by rw[List.drop_eq_getElem_cons h,qy1,qy7 h];rfl
theorem Z1ec(l:List Int)(i:Nat)(h:i<l.length):l.drop i=l.getD i 0::l.drop (i+1):=by rw[List.drop_eq_getElem_cons h,qy1,qy7 h];rfl
def pV(p:Pkt)(u v:Value):Value:=.agg #[.int .i64 p.kind,.bool p.dup,.bool p.retain,.bool p.clean,.bool p.session,.int .i64 p.qos,.int .i64 p.id,.int .i64 p.keep,.int .i64 p.code,.string ⟨p.client.toArray⟩,.string ⟨p.topic.toArray⟩,.string ⟨p.payload.toArray⟩,sc1 u,sc1 v]
structure SmallP(p:Pkt):Prop where
 client:p.client.length<1000000000
 topic:p.topic.length<1000000000
 payload:p.payload.length<1000000000
 asks:p.asks.length<1000000000
 codes:p.codes.length<1000000000
 filt:∀a∈p.asks,a.1.length<1000000000
theorem SmallP.at_{p:Pkt}(h:SmallP p)(i:Nat):(p.asks.getD i aD).1.length<1000000000:=by
 by_cases hi:i<p.asks.length
 ·rw[qy1,qy7 hi];exact h.filt _ (List.getElem_mem hi)
 ·rw[qy1,List.getElem?_eq_none (by omega)];decide
theorem SmallP.bare{p:Pkt}(h:SmallP p):SmallP (Z21 p):=by
 obtain⟨a,b,c,d,e,f⟩:=h;unfold Z21
 (repeat' split)<;>exact⟨by simp_all,by simp_all,by simp_all,by simp_all,by simp_all,by first|exact f|(intro a ha;simp at ha)⟩
theorem Zou(w:World)(n:Int):Calls Tryz.prog 93 #[.int .i64 n] w λe w'=>e=.returned (.bool (Z6t n))/\Mod [] w w':=by refine Z2 (Z7 (J:=[.i n]) sxE_ok Tryz.func93 Zd4 rfl rfl rfl ?_) rfl;simp only[QQ,Nat.reduceAdd];exact⟨λh w' hr=>⟨by simp[Z6t,h],hr.mod⟩,λh w' hr=>⟨by simp[Z6t,h],hr.mod⟩⟩
theorem Zm6(w:World)(s:List UInt8)(hs:s.length<1099511627776):Calls Tryz.prog 75 #[.string ⟨s.toArray⟩] w λe w'=>e=.returned (.bool (cliB s))/\Mod [] w w':=by refine Z2 (Z7 (J:=[.s s]) sxE_ok Tryz.func75 Z5a rfl rfl rfl ?_) rfl;simp only[QQ,Nat.reduceAdd];refine⟨[.b (Z3a s)],rfl,λ_ w' _=>Zjb w' s hs,?_⟩;simp only[QQ,Nat.reduceAdd];exact λw' hr=>⟨by simp[cliB],hr.mod⟩
theorem Zyh(w:World)(n:Nat):Calls Tryz.prog 172 #[.int .i64 n] w λe w'=>e=.returned (.int .i64 (Z3d n))/\Mod [] w w':=by
 refine Z2 (Z7 (J:=[.i n]) sxE_ok Tryz.func172 Zbl rfl rfl rfl ?_) rfl;simp only[QQ,Nat.reduceAdd];refine⟨λh w' hr=>⟨?_,hr.mod⟩,λh=>⟨λh1 w' hr=>⟨?_,hr.mod⟩,λh1 w' hr=>⟨?_,hr.mod⟩⟩⟩
 ·rw[Z3d,if_pos (by omega)]
 ·rw[Z3d,if_neg (by omega),if_pos (by omega)]
 ·rw[Z3d,if_neg (by omega),if_neg (by omega)]
theorem Z16c(w:World)(a:Ak)(h:a.1.length<1000000000):Calls Tryz.prog 147 #[.agg #[.string ⟨a.1.toArray⟩,.int .i64 a.2]] w λe w'=>e=.returned (.int .i64 (askE a))/\Mod [] w w':=by
 refine Z2 (Z7 (J:=[.s a.1,.i a.2]) sxE_ok Tryz.func147 Zel rfl rfl rfl ?_) rfl;simp only[QQ,Nat.reduceAdd];intro b;refine⟨[.i (chkT a.1 true)],rfl,λ_ w' _=>Zqx w' _ (by omega),?_⟩;simp only[QQ,Nat.reduceAdd];refine⟨λh w' hr=>⟨by rw[askE,if_neg h],hr.mod⟩,λh=>⟨λh1 w' hr=>⟨?_,hr.mod⟩,λh1 w' hr=>⟨?_,hr.mod⟩⟩⟩
 ·rw[askE,if_pos (qy9.1 h),if_neg h1]
 ·rw[askE,if_pos (qy9.1 h),if_pos (qy9.1 h1)]
section
variable (w:World) (p:Pkt) (u v:Value) (hu:Z3h w u p.asks) (hv:Z2t w v p.codes) (hs:SmallP p)
include hu hv
theorem Z13z:Calls Tryz.prog 97 #[pV p u v] w λe w'=>e=.returned (.bool (idB p))/\Mod [] w w':=by
 refine Z2 (Z3 (J:=[.i p.kind,.b p.dup,.b p.retain,.b p.clean,.b p.session,.i p.qos,.i p.id,.i p.keep,.i p.code,.s p.client,.s p.topic,.s p.payload,.v u,.r (p.asks.map encA),.v v,.r (p.codes.map Zg)]) sxE_ok Tryz.func97 Zgp rfl rfl (Rel.start2 (by simp[Ent.holds,Ent.wr,hu,hv,X.ev])) rfl rfl ?_) rfl;simp only[QQ,Nat.reduceAdd];intro b;refine⟨λh w' hr=>⟨?_,hr.mod⟩,λh=>⟨λh1 w' hr=>⟨?_,hr.mod⟩,λh1=>⟨λh2 w' hr=>⟨?_,hr.mod⟩,λh2=>⟨λh3 w' hr=>⟨?_,hr.mod⟩,λh3=>⟨λh4 w' hr=>⟨?_,hr.mod⟩,λh4=>⟨λh5 w' hr=>⟨?_,hr.mod⟩,λh5 w' hr=>⟨?_,hr.mod⟩⟩⟩⟩⟩⟩⟩ <;>
  (simp only[idB,Ending.returned.injEq,Value.bool.injEq];first|exact decide_eq_decide.2 (by omega)|(symm;simp only[decide_eq_true_eq,decide_eq_false_iff_not];omega))
theorem Zud:Calls Tryz.prog 135 #[pV p u v] w λe w'=>e=.returned (.int .i64 (Z5c p))/\Mod [] w w':=by
 refine Z2 (Z3 (J:=[.i p.kind,.b p.dup,.b p.retain,.b p.clean,.b p.session,.i p.qos,.i p.id,.i p.keep,.i p.code,.s p.client,.s p.topic,.s p.payload,.v u,.r (p.asks.map encA),.v v,.r (p.codes.map Zg)]) sxE_ok Tryz.func135 Z9d rfl rfl (Rel.start2 (by simp[Ent.holds,Ent.wr,hu,hv,X.ev])) rfl rfl ?_) rfl;simp only[QQ,Nat.reduceAdd];intro b;refine⟨λh w' hr=>⟨by rw[Z5c,if_neg h],hr.mod⟩,λh=>⟨λh2 w' hr=>⟨?_,hr.mod⟩,λh2 w' hr=>⟨?_,hr.mod⟩⟩⟩
 ·rw[Z5c,if_pos (qy9.1 h),if_pos h2]
 ·rw[Z5c,if_pos (qy9.1 h),if_neg h2]
include hs
theorem Z140:Calls Tryz.prog 94 #[pV p u v] w λe w'=>e=.returned (.bool (Z8z p))/\Mod [] w w':=by
 refine Z2 (Z3 (J:=[.i p.kind,.b p.dup,.b p.retain,.b p.clean,.b p.session,.i p.qos,.i p.id,.i p.keep,.i p.code,.s p.client,.s p.topic,.s p.payload,.v u,.r (p.asks.map encA),.v v,.r (p.codes.map Zg)]) sxE_ok Tryz.func94 Zbr rfl rfl (Rel.start2 (by simp[Ent.holds,Ent.wr,hu,hv,X.ev])) rfl rfl ?_) rfl;have h1:=hs.client;have h2:=hs.topic;have h3:=hs.payload;have h4:=hs.asks;have h5:=hs.codes;simp only[QQ,Nat.reduceAdd,qy3,qy11];intro b;refine⟨.inr (by omega),.inr (by omega),.inr (by omega),λw' hr=>⟨?_,hr.mod⟩⟩;obtain⟨k,d,r,c,se,q,i,ke,co,cl,t,pl,az,cs⟩:=p;simp only[Z8z,Ending.returned.injEq,Value.bool.injEq,Pkt.mk.injEq];have e1:((az.length:Int)+(cs.length:Int)=0)↔az=[]/\cs=[]:=by rw[<- List.length_eq_zero_iff,<- List.length_eq_zero_iff];omega
 rw[Bool.eq_iff_iff];simp only[Bool.and_eq_true,Bool.not_eq_true',decide_eq_true_eq,e1,List.append_eq_nil_iff];constructor<;>(intro h;simp_all)
theorem Zue:Calls Tryz.prog 134 #[pV p u v] w λe w'=>e=.returned (.int .i64 (Zjs p))/\Mod [] w w':=by
 refine Z2 (Z3 (J:=[.i p.kind,.b p.dup,.b p.retain,.b p.clean,.b p.session,.i p.qos,.i p.id,.i p.keep,.i p.code,.s p.client,.s p.topic,.s p.payload,.v u,.r (p.asks.map encA),.v v,.r (p.codes.map Zg)]) sxE_ok Tryz.func134 Z99 rfl rfl (Rel.start2 (by simp[Ent.holds,Ent.wr,hu,hv,X.ev])) rfl rfl ?_) rfl;have h1:=hs.client;simp only[QQ,Nat.reduceAdd];intro b;refine⟨λh w' hr=>⟨by rw[Zjs,if_pos h],hr.mod⟩,λh=>?_⟩;refine⟨[.b (cliB p.client)],rfl,λ_ w' _=>Zm6 w' _ (by omega),?_⟩;simp only[QQ,Nat.reduceAdd];refine⟨λh2 w' hr=>⟨by rw[Zjs,if_neg h,if_neg h2],hr.mod⟩,λh2=>⟨λh3 w' hr=>⟨?_,hr.mod⟩,λh3 w' hr=>⟨?_,hr.mod⟩⟩⟩
 ·rw[Zjs,if_neg h,if_pos (qy9.1 h2),if_neg h3]
 ·rw[Zjs,if_neg h,if_pos (qy9.1 h2),if_pos (qy9.1 h3)]
theorem Zhz:Calls Tryz.prog 96 #[pV p u v] w λe w'=>e=.returned (.int .i64 (pubE p))/\Mod [] w w':=by
 refine Z2 (Z3 (J:=[.i p.kind,.b p.dup,.b p.retain,.b p.clean,.b p.session,.i p.qos,.i p.id,.i p.keep,.i p.code,.s p.client,.s p.topic,.s p.payload,.v u,.r (p.asks.map encA),.v v,.r (p.codes.map Zg)]) sxE_ok Tryz.func96 Z9b rfl rfl (Rel.start2 (by simp[Ent.holds,Ent.wr,hu,hv,X.ev])) rfl rfl ?_) rfl;have h1:=hs.topic;simp only[QQ,Nat.reduceAdd];intro b;refine⟨[.i (chkT p.topic false)],rfl,λ_ w' _=>Zlq w' _ (by omega),?_⟩;simp only[QQ,Nat.reduceAdd];refine⟨λh w' hr=>⟨by rw[pubE,if_neg h],hr.mod⟩,λh=>?_⟩;have h:=qy9.1 h;refine⟨λh2 w' hr=>⟨by rw[pubE,if_pos h,if_pos h2],hr.mod⟩,λh2=>⟨λh3 w' hr=>⟨?_,hr.mod⟩,λh3=>⟨λh4 w' hr=>⟨?_,hr.mod⟩,λh4 w' hr=>⟨?_,hr.mod⟩⟩⟩⟩
 ·rw[pubE,if_pos h,if_neg h2,if_neg h3]
 ·rw[pubE,if_pos h,if_neg h2,if_pos (qy9.1 h3),if_pos h4]
 ·rw[pubE,if_pos h,if_neg h2,if_pos (qy9.1 h3),if_neg h4]
theorem Zyi:Calls Tryz.prog 136 #[pV p u v] w λe w'=>e=.returned (.int .i64 (Zgv p))/\Mod [] w w':=by
 refine Z2 (Z3 (J:=[.i p.kind,.b p.dup,.b p.retain,.b p.clean,.b p.session,.i p.qos,.i p.id,.i p.keep,.i p.code,.s p.client,.s p.topic,.s p.payload,.v u,.r (p.asks.map encA),.v v,.r (p.codes.map Zg)]) sxE_ok Tryz.func136 Zd2 rfl rfl (Rel.start2 (by simp[Ent.holds,Ent.wr,hu,hv,X.ev])) rfl rfl ?_) rfl;have h1:=hs.asks;have hf:=hs.at_;simp only[QQ,Nat.reduceAdd,qy3];intro b;refine⟨[.i (Z3d p.asks.length)],rfl,λ_ w' _=>Zyh w' _,?_⟩;simp only[QQ,Nat.reduceAdd,qy3];refine⟨λh w' hr=>⟨by rw[Zgv,if_neg h],hr.mod⟩,λh=>?_⟩;have h:=qy9.1 h;rw[Zgv,if_pos h];refine⟨λvs=>∃(i:Nat) (x:V),vs=[x,.i i]/\i<=p.asks.length/\Zav p.kind (p.asks.drop i)=Zav p.kind p.asks,λvs=>p.asks.length - (vs.getD 1 (.i 0)).toI.toNat,⟨0,_,rfl,by omega,rfl⟩,?_⟩;rintro _ - ⟨i,x,rfl,hi,hg⟩;simp only[QQ,Nat.reduceAdd,qy3,qy4,gA0,gA1];refine⟨λh2=>⟨by omega,λb=>⟨λhk=>?_,λhk=>?_⟩⟩,λh2 w' hr=>⟨?_,hr.mod⟩⟩
 ·rw[Z1c6 _ _ (by omega),Zav,if_pos hk]at hg;refine⟨[.i (askE (p.asks.getD i aD))],rfl,λ_ w' _=>Z16c w' _ (hf i),?_⟩;simp only[QQ,Nat.reduceAdd];refine⟨λh3 w' hr=>⟨by rw[<- hg,if_neg h3],hr.mod⟩,λh3=>⟨by omega,by omega,⟨i+1,x,rfl,by omega,?_⟩,by omega⟩⟩;rw[<- hg,if_pos (qy9.1 h3)]
 ·rw[Z1c6 _ _ (by omega),Zav,if_neg hk]at hg;have:=hf i;refine⟨[.i (chkT (p.asks.getD i aD).1 true)],rfl,λ_ w' _=>Zqx w' _ (by omega),?_⟩;simp only[QQ,Nat.reduceAdd,gA1];refine⟨λh3 w' hr=>⟨?_,hr.mod⟩,λh3=>⟨λh4 w' hr=>⟨?_,hr.mod⟩,λh4=>⟨by omega,by omega,⟨i+1,x,rfl,by omega,?_⟩,by omega⟩⟩⟩
  ·have e:Z5d (p.asks.getD i aD)=chkT (p.asks.getD i aD).1 true:=by rw[Z5d,if_neg h3]
   rw[<- hg,e,if_neg h3]
  ·have e:Z5d (p.asks.getD i aD)=1:=by rw[Z5d,if_pos (qy9.1 h3),if_neg h4]
   rw[<- hg,e];rfl
  ·have e:Z5d (p.asks.getD i aD)=0:=by rw[Z5d,if_pos (qy9.1 h3),if_pos (qy9.1 h4)]
   rw[<- hg,e];rfl
 ·have:i=p.asks.length:=by omega
  subst this;rw[List.drop_length]at hg;rw[<- hg];rfl
theorem Z141:Calls Tryz.prog 137 #[pV p u v] w λe w'=>e=.returned (.int .i64 (Zaw p))/\Mod [] w w':=by
 refine Z2 (Z3 (J:=[.i p.kind,.b p.dup,.b p.retain,.b p.clean,.b p.session,.i p.qos,.i p.id,.i p.keep,.i p.code,.s p.client,.s p.topic,.s p.payload,.v u,.r (p.asks.map encA),.v v,.r (p.codes.map Zg)]) sxE_ok Tryz.func137 Zbv rfl rfl (Rel.start2 (by simp[Ent.holds,Ent.wr,hu,hv,X.ev])) rfl rfl ?_) rfl;have h1:=hs.codes;simp only[QQ,Nat.reduceAdd,qy3];intro b;refine⟨[.i (Z3d p.codes.length)],rfl,λ_ w' _=>Zyh w' _,?_⟩;simp only[QQ,Nat.reduceAdd,qy3];refine⟨λh w' hr=>⟨by rw[Zaw,if_neg h],hr.mod⟩,λh=>?_⟩;have h:=qy9.1 h;rw[Zaw,if_pos h];refine⟨λvs=>∃(i:Nat) (x:V),vs=[x,.i i]/\i<=p.codes.length/\(p.codes.drop i).any Zgw=p.codes.any Zgw,λvs=>p.codes.length - (vs.getD 1 (.i 0)).toI.toNat,⟨0,_,rfl,by omega,rfl⟩,?_⟩;rintro _ - ⟨i,x,rfl,hi,hg⟩;simp only[QQ,Nat.reduceAdd,qy3,qy4,gI0];refine⟨λh2=>?_,λh2=>?_⟩
 ·rw[Z1ec _ _ (by omega),List.any_cons]at hg;refine⟨by omega,λh3 w' hr=>⟨?_,hr.mod⟩,λh3=>⟨by omega,by omega,⟨i+1,x,rfl,by omega,?_⟩,by omega⟩⟩
  ·have e:Zgw (p.codes.getD i 0)=true:=by simp only[Zgw,decide_eq_true_eq];exact⟨h3.1.1,h3.1.2,h3.2⟩
   rw[<- hg,e];rfl
  ·have e:Zgw (p.codes.getD i 0)=false:=by
    simp only[Zgw,decide_eq_false_iff_not];exact λh4=>h3 ⟨⟨h4.1,h4.2.1⟩,h4.2.2⟩
   rw[<- hg,e];rfl
 ·have:i=p.codes.length:=by omega
  subst this;rw[List.drop_length]at hg;rw[<- hg];exact⟨λh3=>absurd h3 (by omega),λh3 w' hr=>⟨rfl,hr.mod⟩⟩
end
end Go.Proofs.Y
namespace Go.Proofs.Y
open Go.Sx
abbrev wV(x:Wt):Value:=.agg #[.string ⟨x.1.toArray⟩,.string ⟨x.2.1.toArray⟩,.int .i64 x.2.2]
theorem c_Or(w:World)(v:Value)(x y:Int)(hv:reads w v [.int .i64] [[.int .i64 x],[.int .i64 y]]):Calls Tryz.prog 148 #[sc1 v] w λe w'=>e=.returned (.int .i64 (if x=0 then y else x))/\Mod [] w w':=by
 refine Z2 (Z3 (J:=[.v v,.r [[.int .i64 x],[.int .i64 y]]]) sxE_ok Tryz.func148 Zei rfl rfl (Rel.start2 (by simp[Ent.holds,Ent.wr,hv,X.ev])) rfl rfl ?_) rfl;simp only[QQ,Nat.reduceAdd];refine⟨λvs=>∃(i:Nat) (u:V),vs=[u,.i i]/\i<=2/\(1<=i->x=0)/\(2<=i->y=0),λvs=>2 - (vs.getD 1 (.i 0)).toI.toNat,⟨0,_,rfl,by omega,λh=>by omega,λh=>by omega⟩,?_⟩;rintro _ - ⟨i,u,rfl,hi,h1,h2⟩;have h3:i=0\/i=1\/i=2:=by omega
 rcases h3 with rfl|rfl|rfl
 ·simp only[QQ,Nat.reduceAdd];refine⟨λ_=>⟨by omega,λh w' hr=>⟨?_,hr.mod⟩,λh=>⟨by omega,by omega,⟨1,_,rfl,by omega,λ_=>?_,λh=>by omega⟩,by simp⟩⟩,λh=>by simp at h⟩
  ·rw[if_neg (show ¬x=0 from h)];rfl
  ·exact qy9.1 h
 ·have hx:=h1 (Nat.le_refl _);simp only[QQ,Nat.reduceAdd];refine⟨λ_=>⟨by omega,λh w' hr=>⟨?_,hr.mod⟩,λh=>⟨by omega,by omega,⟨2,_,rfl,by omega,λ_=>hx,λ_=>?_⟩,by simp⟩⟩,λh=>by simp at h⟩
  ·rw[if_pos hx];rfl
  ·exact qy9.1 h
 ·have hx:=h1 (by omega);have hy:=h2 (by omega);simp only[QQ,Nat.reduceAdd];refine⟨λh=>by simp at h,λ_ w' hr=>⟨?_,hr.mod⟩⟩;rw[if_pos hx,hy]
theorem Zov(w:World)(a b:Wt):Calls Tryz.prog 109 #[wV a,wV b] w λe w'=>e=.returned (.int .i64 (cmpP (ky a) (ky b)))/\Mod [] w w':=by refine Z2 (Z7 (J:=[.s a.1,.s a.2.1,.i a.2.2,.s b.1,.s b.2.1,.i b.2.2]) (sxE_ok.joins _) Tryz.func109 Zeg rfl rfl rfl ?_) rfl;simp only[QQ,Nat.reduceAdd];intro b1 b2;refine⟨[.i (Z2b a.1 b.1)],rfl,λ_ w' _=>Z2c w' _ _,?_⟩;simp only[QQ,Nat.reduceAdd];refine⟨[.i (Z2b a.2.1 b.2.1)],rfl,λ_ w' _=>Z2c w' _ _,?_⟩;simp only[QQ,Nat.reduceAdd];intro v;refine⟨[.i (cmpP (ky a) (ky b))],rfl,λ_ w' hr=>c_Or w' v _ _ (hr.at_ 0 rfl).reads,?_⟩;simp only[QQ,Nat.reduceAdd];exact λw' hr=>⟨by trivial,hr.mod⟩
def Z4t(x:Wt):Int:=if cliB x.1=true then askE (x.2.1,x.2.2)else 1
theorem Z18s(w:World)(x:Wt)(hs:smW x):Calls Tryz.prog 108 #[wV x] w λe w'=>e=.returned (.int .i64 (Z4t x))/\Mod [] w w':=by have h1:=hs.1;have h2:=hs.2;refine Z2 (Z7 (J:=[.s x.1,.s x.2.1,.i x.2.2]) sxE_ok Tryz.func108 Zj9 rfl rfl rfl ?_) rfl;simp only[QQ,Nat.reduceAdd];intro b1;refine⟨[.b (cliB x.1)],rfl,λ_ w' _=>Zm6 w' _ (by omega),?_⟩;simp only[QQ,Nat.reduceAdd];refine⟨λh w' hr=>⟨by rw[Z4t,if_neg h],hr.mod⟩,λh=>?_⟩;have h:=qy9.1 h;refine⟨[.i (askE (x.2.1,x.2.2))],rfl,λ_ w' _=>Z16c w' (x.2.1,x.2.2) h2,?_⟩;simp only[QQ,Nat.reduceAdd];exact λw' hr=>⟨by rw[Z4t,if_pos h],hr.mod⟩
def Zgx:Option Ky->List Wt->Int
 | _,[]=>0
 | p,k::l=>if Z4t k≠0 then Z4t k else if(p.any λt=>!(ltP t (ky k)))=true then 4 else Zgx (some (ky k)) l
def Z19(l:List Wt):Int:=if 20<(l.length:Int)then 2 else Zgx none l
def Zyj(l:List Wt)(i:Nat):Option Ky:=if i=0 then none else some (ky (l.getD (i - 1) wD_V))
theorem Zyk(l:List Wt)(i:Nat):((Zyj l i).any λt=>!(ltP t (ky (l.getD i wD_V))))=true↔(0<(i:Int)/\0<=cmpP (ky (l.getD (i - 1) wD_V)) (ky (l.getD i wD_V))):=by
 unfold Zyj;rw[Z18h];by_cases h:i=0
 ·simp[h]
 ·rw[if_neg h];simp only[Option.any_some,Bool.not_eq_true'];exact⟨λh2=>⟨by omega,h2⟩,λh2=>h2.2⟩
theorem Zuf{l:List Wt}{i:Nat}(h:i<l.length):Zgx (Zyj l i) (l.drop i)=if Z4t (l.getD i wD_V)≠0 then Z4t (l.getD i wD_V)
  else if 0<(i:Int)/\0<=cmpP (ky (l.getD (i - 1) wD_V)) (ky (l.getD i wD_V))then 4 else Zgx (Zyj l (i+1)) (l.drop (i+1)):=by
 rw[Z18f l i h,Zgx];simp only[Zyk];rfl
theorem Zug(w:World)(v:Value)(l:List Wt)(hv:Z2x w v l)(hs:Z3c l)(hl:l.length<1000000000):Calls Tryz.prog 61 #[sc1 v] w λe w'=>e=.returned (.int .i64 (Z19 l))/\Mod [] w w':=by
 refine Z2 (Z3 (J:=[.v v,.r (l.map Za)]) sxE_ok Tryz.func61 Zef rfl rfl (Rel.start2 (by simp[Ent.holds,Ent.wr,hv,X.ev])) rfl rfl ?_) rfl;simp only[QQ,Nat.reduceAdd,qy3,qy4,Z35,Z36,Z53];refine⟨λh w' hr=>⟨by rw[Z19,if_pos h],hr.mod⟩,λh=>?_⟩;rw[Z19,if_neg h];refine⟨λvs=>∃(i:Nat) (x:V),vs=[x,.i i]/\i<=l.length/\Zgx (Zyj l i) (l.drop i)=Zgx none l,λvs=>l.length - (vs.getD 1 (.i 0)).toI.toNat,⟨0,_,rfl,by omega,rfl⟩,?_⟩;rintro _ - ⟨i,x,rfl,hi,hg⟩;simp only[QQ,Nat.reduceAdd,qy3,qy4,Z35,Z36,Z53];have hi1:((i:Int) - 1).toNat=i - 1:=by omega
 try rw[hi1]
 refine⟨λh1=>⟨by omega,λb=>?_⟩,λh1 w' hr=>⟨?_,hr.mod⟩⟩
 ·rw[Zuf (by omega)]at hg;refine⟨[.i (Z4t (l.getD i wD_V))],rfl,λ_ w' _=>Z18s w' _ (Zoo hs i),?_⟩;simp only[QQ,Nat.reduceAdd,qy3,qy4,Z35,Z36,Z53];try rw[hi1]
  refine⟨λh2 w' hr=>⟨?_,hr.mod⟩,λh2=>⟨by omega,by omega,by omega,by omega,?_⟩⟩
  ·rw[if_pos h2]at hg;rw[<- hg]
  ·rw[if_neg h2]at hg;refine⟨[.i (cmpP (ky (l.getD (i - 1) wD_V)) (ky (l.getD i wD_V)))],rfl,λ_ w' _=>Zov w' (l.getD (i - 1) wD_V) (l.getD i wD_V),?_⟩;simp only[QQ,Nat.reduceAdd];refine⟨λh6 w' hr=>⟨?_,hr.mod⟩,λh6=>⟨by omega,by omega,⟨i+1,x,rfl,by omega,?_⟩,by omega⟩⟩
   ·rw[if_pos h6]at hg;rw[<- hg]
   ·rw[if_neg h6]at hg;exact hg
 ·have:i=l.length:=by omega
  subst this;rw[List.drop_length]at hg;rw[<- hg];rfl
theorem Zax:∀(l:List Wt) (p:Option Ky),Zgx p l=0↔(∀k∈l,Z4t k=0)/\Zas l/\∀t,p=some t->∀k∈l,ltP t (ky k)=true
 | [],p=>by simp[Zgx,Zas]
 | k::l,p=>by
  rw[Zgx];constructor
  ·intro h;split at h
   ·exact absurd h (by assumption)
   rename_i h1;split at h
   ·exact absurd h (by decide)
   rename_i h5;obtain⟨i1,i2,i3⟩:=(Zax l (some (ky k))).1 h;refine⟨λx hx=>?_,List.pairwise_cons.2 ⟨λx hx=>i3 _ rfl x hx,i2⟩,λt ht x hx=>?_⟩
   ·rcases List.mem_cons.1 hx with rfl|hx
    ·exact qy9.1 h1
    ·exact i1 x hx
   ·subst ht;have h6:ltP t (ky k)=true:=by simpa using h5
    rcases List.mem_cons.1 hx with rfl|hx
    ·exact h6
    ·exact Z63 h6 (i3 _ rfl x hx)
  ·rintro⟨i1,i2,i3⟩;obtain⟨j1,j2⟩:=List.pairwise_cons.1 i2;rw[if_neg (by simpa using i1 k (qy8 ..)),if_neg]
   ·exact(Zax l (some (ky k))).2 ⟨λx hx=>i1 x (qy10 _ hx),j2,λt ht x hx=>by cases ht;exact j1 x hx⟩
   ·cases p with
    | none=>simp
    | some t=>simpa using i3 t rfl k (qy8 ..)
theorem Z1h{l:List Wt}:Z19 l=0↔l.length<=20/\(∀k∈l,Z4t k=0)/\Zas l:=by
 unfold Z19;constructor
 ·intro h;split at h
  ·exact absurd h (by decide)
  ·obtain⟨a,b,-⟩:=(Zax l none).1 h;exact⟨by omega,a,b⟩
 ·rintro⟨a,b,c⟩;rw[if_neg (by omega)];exact(Zax l none).2 ⟨b,c,λt ht=>by cases ht⟩
theorem Zyl{v:Value}(hn:(match v with | .slice none _ _=>true|_=>false)=true){w:World}{ks:List Kd}{rows:List (List Value)}(h:reads w v ks rows):rows=[]:=by obtain⟨_,a,cap,rfl,_,h2⟩:=h;refine Classical.byContradiction λhne=>?_;obtain⟨ad,rfl,_⟩:=h2 hne;simp at hn
theorem Z4f(w:World)(v:Value)(l:List Wt)(hv:Z2x w v l)(hl:l.length<1000000000):Calls Tryz.prog 78 #[sc1 v] w λe w'=>∃v',e=.returned (sc1 v')/\Zf1 w' v' l/\(∀k,Z1 v' k->w.heap.size<=k)/\Mod [] w w':=by
 refine Z2 (Z3 (J:=[.v v,.r (l.map Za)]) sxE_ok Tryz.func78 Z32 rfl rfl (Rel.start2 (by simp[Ent.holds,Ent.wr,hv,X.ev])) rfl rfl ?_) rfl;simp only[QQ,Nat.reduceAdd,qy3,List.nil_append];refine⟨λh w' hr=>?_,λh v1=>⟨by simp only[Int.natCast_zero];omega,λv2 w' hr=>?_⟩⟩
 ·have hn:l=[]:=List.map_eq_nil_iff.1 (Zyl h hv);subst hn;exact⟨_,rfl,hr.at_ 0 rfl,hr.fresh 0 rfl,hr.mod⟩
 ·exact⟨v2,rfl,hr.at_ 0 rfl,hr.fresh 0 rfl,hr.mod⟩
theorem Z16d(w:World)(s v:Value)(l:List Wt)(x:Wt)(i:Nat)(hs:Zf1 w s l)(hv:Zf1 w v [x])(hne:∀k,Z1 s k->Z1 v k->False)(hi:i<=l.length)(hl:l.length<1000000) : Calls Tryz.prog 256 #[sc1 s,.int .i64 i,sc1 v] w λe w'=>∃v',e=.returned (sc1 v')/\Zf1 w' v' (l.take i++[x]++l.drop i)/\(∀k,Z1 v' k->Z1 s k\/w.heap.size<=k)/\Mod s.ownBlock.toList w w':=by rw[hs.reads.sc1,hv.reads.sc1];refine(Zy5 w s v i _ _ hs hv hne (by simpa using hi) (by simp;omega)).mono ?_;rintro e w' ⟨v',rfl,g1,g2,g3⟩;refine⟨v',by rw[g1.reads.sc1],?_,g2,Mod.of_grown g3 λk hk=>.inl (Option.mem_toList.2 hk)⟩;rw[Zf1,List.map_append,List.map_append,List.map_take,List.map_drop];exact g1
theorem Zdo{J:List V}{g:List Nat}{i:Nat}(hi:i∈g){k:Nat}(h:Z1 (J.getD i (.i 0)).toV k):k∈Zq J g:=List.mem_flatMap.2 ⟨i,hi,by rw[h];simp⟩
def newW(n:Nat)(u:Value):Prop:=∀k,Z1 u k->n<=k
theorem Zju(n:Nat):newW n (.slice none 0 0):=λk hk=>by simp[Z1,Value.ownBlock]at hk
theorem Zcq(w:World):Z2x w (.slice none 0 0) []:=⟨by simp,none,0,rfl,⟨λ_=>rfl,Nat.le_refl _⟩,λh=>absurd rfl h⟩
def Z1c7(w w':World)(e:Ending)(r:List Wt)(er:Int):Prop:=∃v',e=.returned (.tuple #[sc1 v',.int .i64 er])/\Z2x w' v' r/\newW w.heap.size v'/\Mod [] w w'
def rawW(l:List Wt)(x:Wt):List Wt×Int :=
 if hasW l (ky x)=true then(l.set (idxW l (ky x)) x,0)
 else if(l.length:Int)=20 then([],2)else(l.take (idxW l (ky x))++[x]++l.drop (idxW l (ky x)),0)
theorem Zdp(R:List Wt)(m:Nat)(x:Wt):(R.map Za).set m [.string ⟨x.1.toArray⟩,.string ⟨x.2.1.toArray⟩,.int .i64 x.2.2]=(R.set m x).map Za:=by rw[List.map_set];rfl
theorem Z1c8(w:World)(v:Value)(l:List Wt)(x:Wt)(hv:Z2x w v l)(hs:Zas l)(hl:l.length<=20):Calls Tryz.prog 225 #[sc1 v,wV x] w λe w'=>Z1c7 w w' e (rawW l x).1 (rawW l x).2:=by
  refine Z2 (Z3 (J:=[.v v,.r (l.map Za),.s x.1,.s x.2.1,.i x.2.2]) sxE_ok Tryz.func225 Zja rfl rfl (Rel.start2 (by simp[Ent.holds,Ent.wr,hv,X.ev])) rfl rfl ?_) rfl;simp only[QQ,Nat.reduceAdd,qy3,qy4,Z35,Z36,Z53];intro b1 w1 hr;refine(Z4f w1 v l (by(first|exact hr.at_ 0 rfl|exact hr.at_ 1 rfl|exact hr.at_ 2 rfl|exact hr.at_ 3 rfl|exact hr.at_ 4 rfl|exact hr.at_ 5 rfl|exact hr.at_ 6 rfl|exact hr.at_ 7 rfl|exact hr.at_ 8 rfl)) (by omega)).mono ?_;rintro e w2 ⟨u,rfl,a1,f1,m1⟩;refine⟨[.v u,.r (l.map Za)],rfl,rfl,m1,qy5 _,qy2.2 ⟨⟨a1,λk hk=>.inl (f1 k hk)⟩,qy5 _⟩,Z4,?_⟩;clear hr a1 f1 m1;simp only[QQ,Nat.reduceAdd,qy3,qy4,Z35,Z36,Z53];intro b3;refine⟨λvs=>∃(i j:Nat),vs=[.i i,.i j]/\i<=j/\j<=l.length/\(∀k,k<i->ltP (ky (l.getD k wD_V)) (ky x)=true)/\(∀k,j<=k->k<l.length->ltP (ky (l.getD k wD_V)) (ky x)=false),λvs=>(vs.getD 1 (.i 0)).toI.toNat - (vs.getD 0 (.i 0)).toI.toNat,⟨0,l.length,rfl,by omega,by omega,λk hk=>by omega,λk h1 h2=>by omega⟩,?_⟩;rintro _ - ⟨i,j,rfl,hij,hj,hA,hB⟩;simp only[QQ,Nat.reduceAdd,qy3,qy4,Z35,Z36,Z53];refine⟨λh1=>?_,λh1=>?_⟩
  . rw[Z1e9 i j (by omega)];obtain⟨h,hh⟩:∃h,h=(i+j) / 2:=⟨_,rfl⟩
    rw[<- hh];have hh1:i<=h/\h<j:=by omega
    simp only[qy4,Z35,Z36,Z53];refine⟨by omega,by omega,by omega,by omega,by omega,by omega,?_⟩;refine⟨[.i (cmpP (ky (l.getD h wD_V)) (ky x))],rfl,λ_ w' _=>Zov w' (l.getD h wD_V) x,?_⟩;simp only[QQ,Nat.reduceAdd,qy3,qy4,Z35,Z36,Z53];rw[Zxw];refine⟨λh2=>⟨by omega,by omega,⟨h+1,j,rfl,by omega,hj,λk hk=>?_,hB⟩,by omega⟩,λh2=>⟨⟨i,h,rfl,by omega,by omega,hA,λk hk1 hk2=>?_⟩,by omega⟩⟩
    . by_cases hkh:k=h
      . rw[hkh];exact h2
      . exact Z63 (Zr4 hs (i:=k) (j:=h) (by omega) (by omega)) h2
    . have h3:ltP (ky (l.getD h wD_V)) (ky x)=false:=by simpa using h2
      by_cases hkh:k=h
      . rw[hkh];exact h3
      . cases h4:ltP (ky (l.getD k wD_V)) (ky x)with
        | false=>rfl
        | true =>
          have:=Z63 (Zr4 hs (i:=h) (j:=k) (by omega) hk2) h4;rw[h3]at this;cases this
  . have hie:i=j:=by omega
    subst hie;have e:=Zxy (i:=i) hj hA hB;refine⟨by omega,by omega,λh2=>?_,λh2=>?_⟩
    . refine⟨[.i (cmpP (ky (l.getD i wD_V)) (ky x))],rfl,λ_ w' _=>Zov w' (l.getD i wD_V) x,?_⟩;simp only[QQ,Nat.reduceAdd,qy3,qy4,Z35,Z36,Z53];rw[Zxx];refine⟨λh3=>⟨by omega,λw3 hr=>?_⟩,λh3=>⟨λh4 w3 hr=>?_,λh4 u2 w3 hr=>?_⟩⟩
      . have hh:hasW l (ky x)=true:=by rw[hasW,<- e];exact decide_eq_true ⟨by omega,h3⟩
        rw[rawW,if_pos hh,<- e];refine⟨u,rfl,?_,hr.fresh 1 rfl,hr.mod⟩;have h0:=(hr.at_ 1 rfl).reads;rw[Z2x,<- Zdp];exact h0
      . have hh:¬hasW l (ky x)=true:=by rw[hasW,<- e,decide_eq_true_eq];exact λh=>h3 h.2
        rw[rawW,if_neg hh,if_pos h4];exact⟨_,rfl,Zcq _,Zju _,hr.mod⟩
      . have hh:¬hasW l (ky x)=true:=by rw[hasW,<- e,decide_eq_true_eq];exact λh=>h3 h.2
        rw[rawW,if_neg hh,if_neg h4,<- e];refine(Z16d w3 u u2 l x i (by(first|exact hr.at_ 0 rfl|exact hr.at_ 1 rfl|exact hr.at_ 2 rfl|exact hr.at_ 3 rfl|exact hr.at_ 4 rfl|exact hr.at_ 5 rfl|exact hr.at_ 6 rfl|exact hr.at_ 7 rfl|exact hr.at_ 8 rfl)) (by(first|exact hr.at_ 0 rfl|exact hr.at_ 1 rfl|exact hr.at_ 2 rfl|exact hr.at_ 3 rfl|exact hr.at_ 4 rfl|exact hr.at_ 5 rfl|exact hr.at_ 6 rfl|exact hr.at_ 7 rfl|exact hr.at_ 8 rfl)) (λk h5 h6=>hr.sep.disj (i:=2) (j:=0) rfl rfl (by omega) (.inl rfl) (k:=k) h5 h6) (by omega) (by omega)).mono ?_;rintro e w4 ⟨v',rfl,g1,g2,g3⟩;refine⟨[.v v',.r ((l.take i++[x]++l.drop i).map Za)],rfl,rfl,g3.mono λk hk=>.inl (by unfold Zl;exact List.mem_append_right _ (Zdo (i:=7) (by simp) (Option.mem_toList.1 hk))),qy5 _,qy2.2 ⟨⟨g1,λk hk=>?_⟩,qy5 _⟩,Z4,?_⟩;(· rcases g2 k hk with h5|h5;(· exact .inr (.inr (Zdo (i:=7) (by simp) h5)));(· exact .inl h5));(· intro w5 hr5;exact⟨v',rfl,(hr5.at_ 0 rfl).reads,hr5.fresh 0 rfl,hr5.mod⟩)
    . have hh:¬hasW l (ky x)=true:=by rw[hasW,<- e,decide_eq_true_eq];exact λh=>h2 (by omega)
      refine⟨λh4 w3 hr=>?_,λh4 u2 w3 hr=>?_⟩
      . rw[rawW,if_neg hh,if_pos h4];exact⟨_,rfl,Zcq _,Zju _,hr.mod⟩
      . rw[rawW,if_neg hh,if_neg h4,<- e];refine(Z16d w3 u u2 l x i (by(first|exact hr.at_ 0 rfl|exact hr.at_ 1 rfl|exact hr.at_ 2 rfl|exact hr.at_ 3 rfl|exact hr.at_ 4 rfl|exact hr.at_ 5 rfl|exact hr.at_ 6 rfl|exact hr.at_ 7 rfl|exact hr.at_ 8 rfl)) (by(first|exact hr.at_ 0 rfl|exact hr.at_ 1 rfl|exact hr.at_ 2 rfl|exact hr.at_ 3 rfl|exact hr.at_ 4 rfl|exact hr.at_ 5 rfl|exact hr.at_ 6 rfl|exact hr.at_ 7 rfl|exact hr.at_ 8 rfl)) (λk h5 h6=>hr.sep.disj (i:=2) (j:=0) rfl rfl (by omega) (.inl rfl) (k:=k) h5 h6) (by omega) (by omega)).mono ?_;rintro e w4 ⟨v',rfl,g1,g2,g3⟩;refine⟨[.v v',.r ((l.take i++[x]++l.drop i).map Za)],rfl,rfl,g3.mono λk hk=>.inl (by unfold Zl;exact List.mem_append_right _ (Zdo (i:=7) (by simp) (Option.mem_toList.1 hk))),qy5 _,qy2.2 ⟨⟨g1,λk hk=>?_⟩,qy5 _⟩,Z4,?_⟩;(· rcases g2 k hk with h5|h5;(· exact .inr (.inr (Zdo (i:=7) (by simp) h5)));(· exact .inl h5));(· intro w5 hr5;exact⟨v',rfl,(hr5.at_ 0 rfl).reads,hr5.fresh 0 rfl,hr5.mod⟩)
theorem Z64(p:Wt->Bool)(l:List Wt)(i:Nat)(h:i<l.length):(l.take (i+1)).filter p=(l.take i).filter p++(if p (l.getD i wD_V)=true then[l.getD i wD_V]else[]):=by
 rw[Zon l i h,List.filter_append];generalize l.getD i wD_V=o
 by_cases h1:p o=true<;>simp[h1]
theorem Zay{p:Wt->Bool}{l:List Wt}{i:Nat}(h:∀j,j<i->p (l.getD j wD_V)=true):(l.take i).filter p=l.take i:=by rw[List.filter_eq_self];intro x hx;obtain⟨j,hj,rfl⟩:=List.getElem_of_mem hx;simp only[List.length_take]at hj;have:=h j (by omega);rw[List.getElem_take];rwa [qy1,qy7 (by omega)]at this
theorem Zf3{R l:List Wt}{a j:Nat}{p:Wt->Bool}(haj:a<j)(hj:j<l.length)(hR:R.length=l.length)(ht:R.take a=(l.take j).filter p)(hd:R.drop j=l.drop j)(hp:p (l.getD j wD_V)=true) : (R.set a (R.getD j wD_V)).take (a+1)=(l.take (j+1)).filter p:=by
 have hg:R.getD j wD_V=l.getD j wD_V:=by have:=congrArg (λl=>l[0]?) hd;simp only[List.getElem?_drop,Nat.add_zero]at this;rw[qy1,qy1,this]
 rw[Z64 p l j hj,if_pos hp,<- ht,hg,Zon _ _ (by simp;omega)];congr 1
 ·rw[List.take_set_of_le (Nat.le_refl _)]
 ·rw[qy1,List.getElem?_set_self (by omega)];rfl
theorem Z65{R l:List Wt}{j:Nat}(hd:R.drop j=l.drop j):R.drop (j+1)=l.drop (j+1):=by have:=congrArg (λl=>l.drop 1) hd;simpa[List.drop_drop,Nat.add_comm]using this
theorem Zm7{R l:List Wt}{j:Nat}(hd:R.drop j=l.drop j):R.getD j wD_V=l.getD j wD_V:=by have:=congrArg (λl=>l[0]?) hd;simp only[List.getElem?_drop,Nat.add_zero]at this;rw[qy1,qy1,this]
theorem Zow{l:List Wt}{x:Wt}(hs:Zas l)(h0:(rawW l x).2=0):(rawW l x).1=loW l (ky x)++[x]++hiW l (ky x):=by
 have t1:=Z13p (n:=ky x) hs;have t2:=Zr5 (n:=ky x) hs;unfold rawW at h0⊢;rcases Z13q (n:=ky x) hs with⟨h1,k,h2,h3⟩|⟨h1,h2⟩
 ·rw[if_pos h1];simp only;have hlt:=(of_decide_eq_true h1).1;rw[List.set_eq_take_append_cons_drop,if_pos hlt,t1];have:l.drop (idxW l (ky x)+1)=hiW l (ky x):=by
   rw[<- List.drop_drop,t2,h2];rfl
  rw[this];simp
 ·rw[if_neg (by rw[h1];decide)]at h0⊢;by_cases h4:(l.length:Int)=20
  ·rw[if_pos h4]at h0;exact absurd h0 (by decide)
  ·rw[if_neg h4];simp only;rw[t1,t2,h2,List.nil_append]
theorem Z18t{l:List Wt}{x:Wt}(h:Z19 l=0)(hx:Z4t x=0)(h0:(rawW l x).2=0):Z19 (rawW l x).1=0:=by
 obtain⟨a,b,c⟩:=Z1h.1 h;refine Z1h.2 ⟨?_,?_,?_⟩
 ·unfold rawW at h0⊢;by_cases h1:hasW l (ky x)=true
  ·rw[if_pos h1];simpa using a
  ·rw[if_neg h1]at h0⊢;by_cases h4:(l.length:Int)=20
   ·rw[if_pos h4]at h0;exact absurd h0 (by decide)
   ·rw[if_neg h4];have:=Z18i l (ky x);simp;omega
 ·rw[Zow c h0];intro k hk;rcases qy13.1 hk with hk|hk
  ·rcases qy13.1 hk with hk|hk
   ·exact b k (List.mem_filter.1 hk).1
   ·rw[qy12.1 hk];exact hx
  ·exact b k (List.mem_filter.1 hk).1
 ·rw[Zow c h0];have q1:∀k∈loW l (ky x),ltP (ky k) (ky x)=true:=λk hk=>(List.mem_filter.1 hk).2;have q2:∀k∈hiW l (ky x),ltP (ky x) (ky k)=true:=λk hk=>(List.mem_filter.1 hk).2;refine List.pairwise_append.2 ⟨List.pairwise_append.2 ⟨c.filter _,List.pairwise_singleton _ _,λa ha b hb=>?_⟩,c.filter _,λa ha b hb=>?_⟩
  ·rw[qy12.1 hb];exact q1 a ha
  ·rcases qy13.1 ha with ha|ha
   ·exact Z63 (q1 a ha) (q2 b hb)
   ·rw[qy12.1 ha];exact q2 b hb
open Go Go.Sort
section
variable {α:Type} [Inhabited α] {enc:α->List Value} {k:Nat}
theorem Zi0(hk:∀x,(enc x).length=k)(k0:0<k)(ds:List α):(flatK enc k ds.toArray).toList=(ds.map enc).flatten:=by
 apply List.ext_getElem?;intro j;have hlen:((ds.map enc).flatten).length=ds.length*k:=by have:=Zf (rows:=ds.map enc) (n:=k) (λr hr=>by obtain⟨x,-,rfl⟩:=List.mem_map.1 hr;exact hk x);simpa using this
 by_cases hj:j<ds.length*k
 ·have e1:(flatK enc k ds.toArray).toList[j]?=some (enc ds.toArray[j / k]!)[j % k]!:=by
   rw[Array.getElem?_toList,Array.getElem?_eq_getElem (by simpa using hj),<- get_flatK enc k ds.toArray j (by simpa using hj),getElem!_pos _ j (by simpa using hj)]
  have hd:j / k<ds.length:=(Nat.div_lt_iff_lt_mul k0).2 hj;have hm:j % k<k:=Nat.mod_lt _ k0;have e2:=Z94 (rows:=ds.map enc) (n:=k) (λr hr=>by obtain⟨x,-,rfl⟩:=List.mem_map.1 hr;exact hk x) (i:=j / k) (c:=j % k) hm;rw[show j / k*k+j % k=j by rw[Nat.mul_comm];exact Nat.div_add_mod j k]at e2;rw[e1,e2,List.getElem?_map,qy7 hd];simp only[Option.map_some,Option.bind_some];have e3:ds.toArray[j / k]! = ds[j / k]:=by rw[getElem!_pos _ _ (by simpa using hd)];simp
  rw[e3,qy7 (by rw[hk];exact hm)];congr 1
  rw[getElem!_pos _ _ (by rw[hk];exact hm)]
 ·rw[List.getElem?_eq_none (by simp;omega),List.getElem?_eq_none (by omega)]
theorem Zf4{w:World}{g:Nat}{cur:Array Value}{e:TypeId}(hk:∀x,(enc x).length=k)(k0:0<k){ds:List α}(hb:w.heap[g]?=some (.cells cur e (0,0)))(ht:cur.toList.take (ds.length*k)=(ds.map enc).flatten) : HoldsK enc k w g 0 ds.toArray:=by
 intro j hj;have hj':j<ds.length*k:=by simpa using hj
 refine⟨?_,by simp[World.frozen?,hb]⟩;have h1:(cur.toList.take (ds.length*k))[j]?=(flatK enc k ds.toArray).toList[j]?:=by rw[ht,Zi0 hk k0]
 rw[List.getElem?_take_of_lt hj']at h1;simp only[World.cell?,hb,Nat.zero_add,Option.isSome_none,Bool.false_eq_true,if_false];have e:(flatK enc k ds.toArray)[j]! = (flatK enc k ds.toArray)[j]:=getElem!_pos _ j hj;rw[<- Array.getElem?_toList,h1,Array.getElem?_toList,Array.getElem?_eq_getElem hj,e];rfl
theorem Zm8{w:World}{g n:Nat}{os:Array Obj}{cur:Array Value}{e:TypeId}{fr:Nat×Nat}(d:Array α)(hb:w.heap[g]?=some (.cells cur e fr)) : (sortWorldK enc k w g 0 n d os).heap[g]?=some (.cells (putCells id 0 (flatK enc k d) cur) e fr):=by have hg:g<w.heap.size:=(Array.getElem?_eq_some_iff.1 hb).1;unfold sortWorldK putRowK;rw[heap_grow_old _ _ (by simpa using hg)];simp[putRow,mapBlock,Sort.ahead,Array.getElem?_modify,hb,onCells]
theorem Zf5{w:World}{g n:Nat}{os:Array Obj}(d:Array α):w.grownBy (sortWorldK enc k w g 0 n d os) (some g):=by unfold sortWorldK putRowK;refine⟨rfl,rfl,rfl,by simp,λj hj hne=>?_⟩;rw[heap_grow_old _ _ (by simpa using hj)];have:g≠j:=λe=>hne (by rw[e]);simp[putRow,mapBlock,Sort.ahead,Array.getElem?_modify,this]
theorem Zf6{w:World}{base g cap n:Nat}{e:TypeId}{os:Array Obj}{cur:Array Value}{ts:List α}(hk:∀x,(enc x).length=k)(k0:0<k)(hbase:base<=g)(hb:w.heap[g]?=some (.cells cur e (0,0))) (h1:ts.length<=cap) (h2:cap<=maxLen) (h3:cur.size=cap*k) : (sortWorldK enc k w g 0 n ts.toArray os).ownsRow base e k (.slice (some ⟨g,0,none⟩) ts.length cap) ts.length (ts.map enc).flatten:=by
 have hlen:((ts.map enc).flatten).length=ts.length*k:=by have:=Zf (rows:=ts.map enc) (n:=k) (λr hr=>by obtain⟨x,-,rfl⟩:=List.mem_map.1 hr;exact hk x);simpa using this
 have hle:ts.length*k<=cur.size:=by rw[h3];exact Nat.mul_le_mul_right k h1
 refine⟨hlen,.inr ⟨g,cap,_,rfl,hbase,Zm8 _ hb,h1,h2,by simp[putCells,h3],?_⟩⟩;apply List.ext_getElem?;intro j;by_cases hj:j<ts.length*k
 ·rw[List.getElem?_take_of_lt hj,<- Zi0 hk k0,Array.getElem?_toList,Array.getElem?_toList];have hj2:j<(flatK enc k ts.toArray).size:=by simpa using hj
  have e:(flatK enc k ts.toArray)[j]! = (flatK enc k ts.toArray)[j]:=getElem!_pos _ j hj2;rw[Array.getElem?_eq_getElem (by simp[putCells];omega),Array.getElem?_eq_getElem hj2,<- e];simp only[putCells,Array.getElem_mapIdx,Nat.zero_add,Nat.sub_zero];rw[if_pos ⟨Nat.zero_le _,hj2⟩];rfl
 ·rw[List.getElem?_take_eq_none (by omega),List.getElem?_eq_none (by omega)]
end
end Go.Proofs.Y
namespace Go.Proofs
open Go.Shelf
def Tryz.sortR_ren:Go.Shelf.Ren:=⟨fun|6=>249|15=>280|14=>279|28=>306|29=>307|20=>298|21=>299|22=>300|23=>301|24=>302|25=>303|26=>304|27=>305|46=>316|47=>317|48=>318|49=>319|50=>320|57=>323|n=>n,fun|22=>255|24=>258|25=>291|3=>3|39=>88|0=>0|53=>332|55=>334|4=>4|46=>326|45=>325|50=>128|5=>5|9=>9|66=>340|70=>344|76=>352|77=>353|n=>n,fun|n=>n⟩
theorem Tryz.sortR:Go.Proofs.SlLaysF0.n6 Tryz.prog Tryz.sortR_ren:={
 mixed:=by kernel_rfl
 f6:=⟨Tryz.f249.name,by decide,qF Tryz.func249 (by kernel_rfl)⟩
 f14:=⟨Tryz.f279.name,by decide,qF Tryz.func279 (by kernel_rfl)⟩
 f15:=qF Tryz.func280 (by kernel_rfl)
 f20:=⟨Tryz.f298.name,by decide,qF Tryz.func298 (by kernel_rfl)⟩
 f21:=⟨Tryz.f299.name,by decide,qF Tryz.func299 (by kernel_rfl)⟩
 f22:=⟨Tryz.f300.name,by decide,qF Tryz.func300 (by kernel_rfl)⟩
 f23:=⟨Tryz.f301.name,by decide,qF Tryz.func301 (by kernel_rfl)⟩
 f24:=⟨Tryz.f302.name,by decide,qF Tryz.func302 (by kernel_rfl)⟩
 f25:=⟨Tryz.f303.name,by decide,qF Tryz.func303 (by kernel_rfl)⟩
 f26:=⟨Tryz.f304.name,by decide,qF Tryz.func304 (by kernel_rfl)⟩
 f27:=⟨Tryz.f305.name,by decide,qF Tryz.func305 (by kernel_rfl)⟩
 f28:=qF Tryz.func306 (by kernel_rfl)
 f29:=qF Tryz.func307 (by kernel_rfl)
 f46:=⟨Tryz.f316.name,by decide,qF Tryz.func316 (by kernel_rfl)⟩
 f47:=qF Tryz.func317 (by kernel_rfl)
 f48:=qF Tryz.func318 (by kernel_rfl)
 f49:=⟨Tryz.f319.name,by decide,qF Tryz.func319 (by kernel_rfl)⟩
 f50:=⟨Tryz.f320.name,by decide,qF Tryz.func320 (by kernel_rfl)⟩
 f57:=⟨Tryz.f323.name,by decide,qF Tryz.func323 (by kernel_rfl)⟩
 t0:=Tryz.underlying0
 a0:=Tryz.isAgg0
 z0:=Tryz.sizeOf0
 v0:=Tryz.zeroValue0
 t3:=Tryz.underlying3
 a3:=Tryz.isAgg3
 z3:=Tryz.sizeOf3
 v3:=Tryz.zeroValue3
 t4:=Tryz.underlying4
 a4:=Tryz.isAgg4
 z4:=Tryz.sizeOf4
 v4:=Tryz.zeroValue4
 t5:=Tryz.underlying5
 a5:=Tryz.isAgg5
 z5:=Tryz.sizeOf5
 v5:=Tryz.zeroValue5
 t9:=Tryz.underlying9
 a9:=Tryz.isAgg9
 z9:=Tryz.sizeOf9
 v9:=Tryz.zeroValue9
 t22:=Tryz.underlying255
 a22:=Tryz.isAgg255
 z22:=Tryz.sizeOf255
 v22:=Tryz.zeroValue255
 t25:=Tryz.underlying291
 a25:=Tryz.isAgg291
 z25:=Tryz.sizeOf291
 v25:=Tryz.zeroValue291
 t39:=Tryz.underlying88
 a39:=Tryz.isAgg88
 z39:=Tryz.sizeOf88
 v39:=Tryz.zeroValue88
 t45:=Tryz.underlying325
 a45:=Tryz.isAgg325
 z45:=Tryz.sizeOf325
 v45:=Tryz.zeroValue325
 t46:=Tryz.underlying326
 a46:=Tryz.isAgg326
 z46:=Tryz.sizeOf326
 v46:=Tryz.zeroValue326
 t50:=Tryz.underlying128
 a50:=Tryz.isAgg128
 z50:=Tryz.sizeOf128
 v50:=Tryz.zeroValue128
 t53:=Tryz.underlying332
 a53:=Tryz.isAgg332
 z53:=Tryz.sizeOf332
 v53:=Tryz.zeroValue332
 t55:=Tryz.underlying334
 a55:=Tryz.isAgg334
 z55:=Tryz.sizeOf334
 v55:=Tryz.zeroValue334
 t66:=Tryz.underlying340
 a66:=Tryz.isAgg340
 z66:=Tryz.sizeOf340
 v66:=Tryz.zeroValue340
 t70:=Tryz.underlying344
 a70:=Tryz.isAgg344
 z70:=Tryz.sizeOf344
 v70:=Tryz.zeroValue344
 t76:=Tryz.underlying352
 a76:=Tryz.isAgg352
 z76:=Tryz.sizeOf352
 v76:=Tryz.zeroValue352
 t77:=Tryz.underlying353
 a77:=Tryz.isAgg353
 z77:=Tryz.sizeOf353
 v77:=Tryz.zeroValue353 }
end Go.Proofs
namespace Go.Proofs.Y
open Go Go.Sx Go.RowKit Go.Shelf Go.Lib Go.Sort
theorem lawS:Maps.Keyed Tryz.prog 9:=Maps.string_keyed Tryz.underlying9
theorem Z1ed(w:World):(zeroValue 3).run Tryz.prog w=.ok (.int .i64 0) w:=by kernel_rfl
def Z90(n:List UInt8)(l:List Wt)(D:DataW Unit):Prop :=
 Maps.IsMap D/\(∀c,Maps.has D (.string c)=(bst n c none l).isSome)/\∀c q,bst n c none l=some q->∀z,D.atKey (.string c) z=.lit (.int .i64 q)
theorem Zuh(n:List UInt8):Z90 n [] (.map []):=⟨Maps.isMap_empty,λc=>rfl,λc q h=>by cases h⟩
theorem Zox{n:List UInt8}{l:List Wt}{D:DataW Unit}{x:Wt}(h:Z90 n l D)(hf:¬forW n x=true):Z90 n (l++[x]) D:=by
 have e:∀c,bst n c none (l++[x])=bst n c none l:=λc=>by rw[Zat,if_neg (λh=>hf h.1)]
 exact⟨h.1,λc=>by rw[e];exact h.2.1 c,λc q hq=>by rw[e]at hq;exact h.2.2 c q hq⟩
theorem Zym{n:List UInt8}{l:List Wt}{D:DataW Unit}(h:Z90 n l D){c:List UInt8}{q:Int}(hat:D.atKey (.string c) (.lit (.int .i64 0))=.lit (.int .i64 q)):q=(bst n c none l).getD 0:=by
 cases hb:bst n c none l with
 | none =>
  have:=h.2.1 c;rw[hb]at this;rw[Maps.atKey_of_not_has this]at hat;simp only[DataW.lit.injEq,Lit.int.injEq,true_and]at hat;rw[<- hat];rfl
 | some q' =>
  rw[h.2.2 c q' hb]at hat;simp only[DataW.lit.injEq,Lit.int.injEq,true_and]at hat;rw[<- hat];rfl
theorem Zui{n:List UInt8}{l:List Wt}{D:DataW Unit}{x:Wt}{q:Int}(h:Z90 n l D)(hf:forW n x=true)(hq:q=max ((bst n x.1 none l).getD 0) x.2.2):Z90 n (l++[x]) (D.put (.string x.1) (.lit (.int .i64 q))):=by
 have e0:bst n x.1 none (l++[x])=some q:=by rw[Zat,if_pos ⟨hf,rfl⟩,hq]
 have e1:∀c,c≠x.1->bst n c none (l++[x])=bst n c none l:=λc hc=>by rw[Zat,if_neg (λh=>hc h.2.symm)]
 refine⟨h.1.put _ _,λc=>?_,λc q' hq' z=>?_⟩
 ·by_cases hc:c=x.1
  ·rw[hc,e0];exact Maps.has_put_same h.1 (show WideAt.IsKeyLit (.string x.1) from trivial) _
  ·rw[e1 c hc,Maps.has_put_other (by simpa using hc)];exact h.2.1 c
 ·by_cases hc:c=x.1
  ·rw[hc,e0]at hq';cases hq';rw[hc];exact Maps.atKey_put_same h.1 (show WideAt.IsKeyLit (.string x.1) from trivial) _ _
  ·rw[e1 c hc]at hq';rw[Maps.atKey_put_other (by simpa using hc)];exact h.2.2 c q' hq' z
theorem Z18u{w:World}{a:Addr}{u:Value}(h:w.cell? a=some u):a.block<w.heap.size:=by
 refine Classical.byContradiction λhn=>?_;have:w.heap[a.block]?=none:=by simp;omega
 simp[World.cell?,this]at h
theorem Zc3{w w':World}{a:Addr}{u:Value}(h:w.cell? a=some u)(hb:Below w.heap.size w w'):w'.cell? a=some u:=by rw[<- h];exact World.cell?_of_block (hb.block _ (Z18u h))
theorem Zuj{w:World}{ad:Addr}{cap:Nat}{l:List Wt}(hv:Z2x w (.slice (some ad) l.length cap) l){k:Nat}(hk:k<l.length) : w.cell? (ad.add (k*3))=some (.string ⟨(l.getD k wD_V).1.toArray⟩)/\w.cell? ((ad.add (k*3)).add 1)=some (.string ⟨(l.getD k wD_V).2.1.toArray⟩)/\w.cell? ((ad.add (k*3)).add 2)=some (.int .i64 (l.getD k wD_V).2.2):=by
 have hr:(l.map Za).getD k []=Za (l.getD k wD_V):=by rw[qy1,qy1,List.getElem?_map,qy7 hk];rfl
 have key:∀c,c<3->w.cell? ((ad.add (k*3)).add c)=some ((Za (l.getD k wD_V)).getD c undef):=λc hc=>by obtain⟨ad',cap',e,h,-⟩:=hv.get (i:=k) (c:=c) (by rw[qy3];exact hk) hc;simp only[Value.slice.injEq,Option.some.injEq]at e;obtain⟨rfl,-,rfl⟩:=e;rw[hr]at h;rw[Addr.add_add];exact h
 refine⟨?_,key 1 (by decide),key 2 (by decide)⟩;have:=key 0 (by decide);rwa [Addr.add_zero']at this
theorem Zm9{w w':World}(h:Mod [] w w'):w.grownBy w' none:=⟨h.os,h.tape,h.output,h.size,λk hk _=>h.block k hk (by simp)⟩
theorem Zf7(w:World)(o:Obj):(w.alloc o).heap[w.heap.size]?=some o:=by show(w.heap.push o)[w.heap.size]?=some o;simp
theorem Zjv{w:World}{b:Nat}{cs:Array Value}{t:TypeId}(h:w.heap[b]?=some (.cells cs t (0,0)))(j:Nat):w.cell? ⟨b,j,none⟩=cs[j]?:=by simp[World.cell?,h]
theorem Z142{x:Int}(h1:-9223372036854775808<=x)(h2:x<=9223372036854775807):(Lit.int .i64 x).wf=true:=WalkArith.wf_i64 (by omega)
theorem Z1c9{c y:Int}(hc:(Lit.int .i64 c).wf=true)(h1:0<=y)(h2:y<=1):(Lit.int .i64 (max c y)).wf=true:=by simp[Lit.wf,IntKind.min,IntKind.max,IntKind.signed,IntKind.bits]at hc;exact Z142 (by omega) (by omega)
theorem Z18v:(Tryz.prog.info? 258).map (λi=>(i.zero,i.size,i.bytes))=some (some (.agg #[.string ⟨#[]⟩,.int .i64 0]),2,24):=by kernel_rfl
theorem Zyn(w:World)(x y:Value)(t:TypeId):∀j u,[x,y][j]?=some u->(w.alloc (.cells #[x,y] t)).cell? ((⟨w.heap.size,0,none⟩:Addr).add j)=some u:=by
 intro j u hj;rw[Addr.add_lit,Zjv (Zf7 w _)]
 match j,hj with
 | 0,hj=>exact hj
 | 1,hj=>exact hj
def Zyo(D:DataW Unit)(left:Lit->Bool)(ss:List Rd):Prop:=Collected D left (ss.map (·.1))/\∀x∈ss,∀z,D.atKey (.string x.1) z=.lit (.int .i64 x.2)
theorem Zoy(D:DataW Unit):Zyo D (Maps.has D) []:=⟨Collected.start D,by simp⟩
theorem Zuk{D:DataW Unit}{left:Lit->Bool}{ss:List Rd}(h:Zyo D left ss){c:List UInt8}{q:Int}(hlk:left (.string c)=true)(hat:∀z,D.atKey (.string c) z=.lit (.int .i64 q)):Zyo D (λz=>left z && !z.sameKey (.string c)) (ss++[(c,q)]):=by
 refine⟨by rw[List.map_append];exact h.1.step hlk hat,λx hx=>?_⟩;rcases qy13.1 hx with hx|hx
 ·exact h.2 x hx
 ·rw[qy12.1 hx];exact hat
theorem Zma{n:List UInt8}{l:List Wt}{D:DataW Unit}{left:Lit->Bool}{ss ts:List Rd}(hD:Z90 n l D)(h:Zyo D left ss)(hl:∀k,left k=false)(hp:ts.Perm ss)(hs:∀i j,(hij:i<j)->(hj:j<ts.length)->Zc ts[j].1 (ts[i]'(Nat.lt_trans hij hj)).1=false):okY n ts l:=by
 have hnd:(ts.map (·.1)).Nodup:=(hp.map _).nodup_iff.2 h.1.1;refine⟨?_,λc q=>?_⟩
 ·rw[Zy1,List.pairwise_iff_getElem];intro i j hi hj hij;rcases Z4s.1 (hs i j hij hj)with h1|h1
  ·exact h1
  ·rw[List.nodup_iff_pairwise_ne,List.pairwise_iff_getElem]at hnd;have:=hnd i j (by simpa using hi) (by simpa using hj) hij;simp only[List.getElem_map]at this;exact absurd h1 this
 ·rw[hp.mem_iff];constructor
  ·intro hm;have h1:=h.2 _ hm;have h2:=(h.1.2 c).1 (List.mem_map.2 ⟨_,hm,rfl⟩);have h3:=hD.2.1 c;rw[h2.1]at h3;cases hb:bst n c none l with
   | none=>rw[hb]at h3;cases h3
   | some q' =>
    have h4:=hD.2.2 c q' hb .nil;rw[h1]at h4;simp only[DataW.lit.injEq,Lit.int.injEq,true_and]at h4;rw[h4]
  ·intro hb;have h3:=hD.2.1 c;rw[hb]at h3;obtain⟨x,hx,hxc⟩:=List.mem_map.1 ((h.1.2 c).2 ⟨h3,hl _⟩);have h1:=h.2 x hx .nil;have h4:=hD.2.2 c q hb .nil;rw[hxc,h4]at h1;simp only[DataW.lit.injEq,Lit.int.injEq,true_and]at h1;rw[show(c,q)=x from Prod.ext hxc.symm h1];exact hx
def cmpY(x y:Rd):Int:=Z2b x.1 y.1
theorem Zaz(x y:Rd):ltOf cmpY x y=Zc x.1 y.1:=by
 unfold ltOf cmpY;have:=@Z62 x.1 y.1;cases h:Zc x.1 y.1 with
 | true=>exact decide_eq_true (this.2 h)
 | false=>exact decide_eq_false (λh2=>by rw[this.1 h2]at h;cases h)
theorem swoY:Sort.SWO (ltOf cmpY) where
 irrefl x:=by rw[Zaz];exact Z13 _
 trans x y z h1 h2:=by rw[Zaz]at *;exact Zj h1 h2
 ntrans x y z h1 h2:=by
  rw[Zaz]at *;rcases Z4s.1 h1 with h1|h1<;>rcases Z4s.1 h2 with h2|h2
  ·exact Z61 (Zj h2 h1)
  ·rw[h2];exact Z61 h1
  ·rw[<- h1];exact Z61 h2
  ·rw[h2,h1];exact Z13 _
theorem Z1ee(x y:Rd)(W:World):Calls Tryz.prog 250 #[.agg (encY x).toArray,.agg (encY y).toArray] W λe w'=>e=.returned (.int .i64 (cmpY x y))/\∃q os',w'=grow (W.drewN q) os':=by
 have hcon:∀W',Calls Tryz.prog 118 #[.string ⟨x.1.toArray⟩,.string ⟨y.1.toArray⟩] W' λe w'=>e=.returned (.int .i64 (cmpY x y))/\w'=W':=λW'=>by refine(Any.strings_Compare Tryz.lays106 ⟨x.1.toArray⟩ ⟨y.1.toArray⟩ W').mono ?_;rintro e w' ⟨rfl,rfl⟩;rw[Zf0];exact⟨rfl,rfl⟩
 simp only[encY];generalize cmpY x y=r at hcon⊢
 go_enter Tryz.func250,Tryz.ntmps250
 go_wp2_with (go_at_call 118;refine(hcon _).mono ?_;rintro e w' ⟨rfl,rfl⟩)
 go_ret
 exact⟨rfl,0,_,by rw[alloc_eq_grow,alloc_eq_grow,grow_grow];rfl⟩
theorem Z143(x:Rd):∀v∈encY x,v.oneCell'=true:=by intro v hv;simp only[encY,List.mem_cons,List.not_mem_nil,or_false]at hv;rcases hv with rfl|rfl<;>rfl
set_option maxRecDepth 100000 in
theorem Z18w(w:World)(f:Value):Calls Tryz.prog 298 #[.slice none 0 0,.int .i64 0,.int .i64 0,f] w λe w'=>e=.returned (.tuple #[])/\w'=w:=by
 go_enter Tryz.func298,Tryz.ntmps298
 go_wp2
 refine wp_loop_rounds 1 ?_;rw[rounds_succ];go_wp2
 go_end0
 exact⟨rfl,rfl⟩
set_option maxRecDepth 100000 in
theorem Z18x(w:World)(f:Value)(n:Int):Calls Tryz.prog 279 #[.slice none 0 0,.int .i64 0,.int .i64 0,.int .i64 n,f] w λe w'=>e=.returned (.tuple #[])/\w'=w:=by
 go_enter Tryz.func279,Tryz.ntmps279
 go_wp2
 refine wp_loop_rounds 1 ?_;rw[rounds_succ];go_wp2_with (go_at_call 298;refine(Z18w _ _).mono ?_;rintro e w' ⟨rfl,rfl⟩)
 (try simp only[Exit.inBlock,Exit.then])
 refine bodyPost_ret (results_none rfl _ _ _) rfl ?_;exact⟨rfl,rfl⟩
set_option maxRecDepth 100000 in
theorem Z144(w:World):Calls Tryz.prog 249 #[.slice none 0 0,.func (.func 250) #[] #[]] w λe w'=>e=.returned (.tuple #[])/\Mod [] w w':=by
 have hl:∀W,Calls Tryz.prog 280 #[.int .u64 0] W λe w'=>e=.returned (.int .i64 (Lib.bitLen 0:Nat))/\w'=W:=λW =>
  Any.bits_Len (SlLaysF0.n15.bits (P:=Tryz.prog) (ρ:=Tryz.sortR_ren) { Tryz.sortR with }) 0 W (by omega) (by omega)
 go_enter Tryz.func249,Tryz.ntmps249
 go_wp2_with (first|(go_at_call 280;refine(hl _).mono ?_;rintro e w' ⟨rfl,rfl⟩)|(go_at_call 279;refine(Z18x _ _ _).mono ?_;rintro e w' ⟨rfl,rfl⟩))
 go_end0
 exact⟨rfl,Mod.refl _ _⟩
theorem size_map{w:World}{P:Program}{k:TypeId}{R:Value->Option (DataW Unit×List MemPlace)}{b n:Nat}{D:DataW Unit}(h:w.ownsMap P k R b n D):Maps.size D<=n:=by obtain⟨es,clock,hb,F,hn,rfl⟩:=h;simpa[Maps.size,length_sorted]using hn
theorem Z145{w:World}{base e k:Nat}{v:Value}{n:Nat}{xs:List Value}(h:w.ownsRow base e k v n xs):w.ownsRow 0 e k v n xs :=
 ⟨h.1,h.2.imp id λ⟨g,cap,cur,a,b,r⟩=>⟨g,cap,cur,a,Nat.zero_le _,r⟩⟩
theorem Zyp(w:World):Z18k w (.slice none 0 0) []:=⟨by simp,rfl,.inl ⟨rfl,rfl⟩⟩
theorem Zyq(ts:List Rd):∀r∈ts.map encY,rowOk kY r:=by intro r hr;obtain⟨x,-,rfl⟩:=List.mem_map.1 hr;exact⟨⟨_,rfl⟩,⟨_,rfl⟩,trivial⟩
set_option maxRecDepth 100000 in
theorem Z18y(w:World)(a:Option Addr)(cap:Nat)(l:List Wt)(n:List UInt8)(hv:Z2x w (.slice a l.length cap) l)(hs:Z3c l)(hn:n.length<1000000000)(hl:l.length<1000000)(hq:∀x∈l,0<=x.2.2/\x.2.2<=1) : Calls Tryz.prog 216 #[.slice a l.length cap,.string ⟨n.toArray⟩] w λe w'=>∃v' rs,e=.returned v'/\Z18k w' v' rs/\newW w.heap.size v'/\okY n rs l/\Mod [] w w':=by
  have hv0:=hv;obtain⟨hrow,a',cap',e1,⟨hc1,hc2⟩,hcells⟩:=hv;simp only[Value.slice.injEq,qy3]at e1;obtain⟨rfl,-,rfl⟩:=e1;have hmm:=@run_makeMap Tryz.prog;go_enter Tryz.func216,Tryz.ntmps216
  go_wp2
  go_loopw [14] (λi wr=>∃(k:Nat) (D:DataW Unit),k<=l.length/\i=.int .i64 k/\wr.ownsMap Tryz.prog 9 (plainElem Tryz.prog 3) w.heap.size k D/\Z90 n (l.take k) D/\Below w.heap.size w wr)
    (λi _=>l.length - (intOf i).toNat)
  case atStart=>exact⟨0,_,Nat.zero_le _,rfl,World.ownsMap_made _ _ _ _,Zuh n,(Below.refl _ _).alloc (Nat.le_refl _) _⟩
  case round =>
    obtain⟨k,D,hk,rfl,hown,hD,hnx⟩:=hrel;by_cases hlt:k<l.length
    . obtain⟨ad,rfl,hcell⟩:=hcells (λe=>by rw[List.map_eq_nil_iff]at e;rw[e]at hlt;exact Nat.not_lt_zero _ hlt);obtain⟨q0,q1,q2⟩:=Zuj hv0 hlt;have h0:=Zc3 q0 hnx;have h1:=Zc3 q1 hnx;have h2:=Zc3 q2 hnx;have hx1:=hs _ (memW l k hlt);have htk:=Zon l k hlt;have hq1:=hq _ (memW l k hlt);generalize l.getD k wD_V=x at h0 h1 h2 hx1 htk hq1
      rw[Addr.add_succ']at h1 h2;clear q0 q1 q2;generalize hA:ad.add (k*3)=A at h0 h1 h2
      have hkey:keyOf Tryz.prog 9 (.string ⟨x.1.toArray⟩)=some (.string x.1):=by have:=WideMaps.keyOf_string_mk Tryz.underlying9 (s:=⟨x.1.toArray⟩) (by have:=hx1.1;simp[ByteArray.size,maxLen];omega);simpa using this
      have hc:=Z183 (wr.alloc (.cells #[.string ⟨x.1.toArray⟩,.string ⟨x.2.1.toArray⟩,.int .i64 x.2.2] 107)) x.2.1 n (by have:=hx1.2;omega) (by omega);go_wp2_with (first
        | (go_at_call 248;refine hc.mono ?_;rintro e w2 ⟨rfl,gm⟩
           have g1:=Zm9 gm;have hown2:=(hown.alloc (.cells #[.string ⟨x.1.toArray⟩,.string ⟨x.2.1.toArray⟩,.int .i64 x.2.2] 107)).kept g1 (by simp);have hnx2:=(hnx.alloc hnx.size (.cells #[.string ⟨x.1.toArray⟩,.string ⟨x.2.1.toArray⟩,.int .i64 x.2.2] 107)).grown g1 (by have:=hnx.size;simp;omega) (λj hj=>by cases hj);have hbl:=g1.block wr.heap.size (by simp) (by simp);simp only[Zf7]at hbl;have c0:=Zjv hbl 0;have c1:=Zjv hbl 1;have c2:=Zjv hbl 2)
        | (at_lookup;refine wpList_lookup_own_int _ rfl _ _ 289 rfl 9 3 .i64 lawS Tryz.underlying289 Tryz.underlying3 (Z1ed _) w.heap.size k _ rfl hown2 _ _ rfl hkey ?_;intro c hat hwc)
        | (at_mapUpdate;refine wpList_mapUpdate_own _ rfl _ _ _ 289 rfl 9 3 lawS Tryz.underlying289 _ w.heap.size k _ rfl hown2 (by unfold maxLen;omega) _ _ _ rfl rfl hkey _ [] (plainElem_int Tryz.underlying3 (Z1c9 hwc hq1.1 hq1.2)) ?_;intro w3 hown3 hgrow3)
        | go_in)
      . have hf:forW n x=true:=by assumption
        have hg:Z90 n (l.take (k+1)) (D.put (.string x.1) (.lit (.int .i64 (max c x.2.2)))):=by rw[htk];exact Zui hD hf (by rw[Zym hD hat])
        have hb3:=hnx2.grown hgrow3 hnx2.size (λj hj=>by cases hj;exact Nat.le_refl _);go_roundw
        case rel=>exact⟨k+1,_,by omega,by go_num,hown3,hg,hb3⟩
        case measure=>simp[intOf];omega
      . have hf:¬forW n x=true:=by rw[forW];simp_all
        have hg:Z90 n (l.take (k+1)) D:=by rw[htk];exact Zox hD hf
        go_roundw
        case rel=>exact⟨k+1,_,by omega,by go_num,hown2.mono (by omega),hg,hnx2⟩
        case measure=>simp[intOf];omega
    . have hke:k=l.length:=by omega
      subst hke;rw[List.take_length]at hD;go_wp2_with (first
        | (at_range;refine wpList_range_own _ rfl _ 289 rfl 9 3 lawS Tryz.underlying289 _ w.heap.size l.length _ rfl hown ?_;intro w0 hrg0 hg0 hs0)
        | go_in)
      go_frame
      obtain⟨i0,hi,hz0,hz1,hz2⟩:=info_parts Z18v;have hb0:=hnx.grown hg0 hnx.size (λj hj=>by cases hj);have hr0:w.heap.size<=wr.heap.size:=hnx.size;have hszD:Maps.size D<=l.length:=size_map hown;generalize wr.heap.size=r0 at hrg0 hr0⊢
      clear hg0 hs0 hown hnx;go_loopw [8] (λv wq=>∃(left:Lit->Bool) (cnt:Nat) (ss:List Rd),wq.ranges Tryz.prog 9 (plainElem Tryz.prog 3) w.heap.size r0 l.length D left cnt/\ss.length+cnt<=Maps.size D /\
          wq.ownsRow (w.heap.size+1) 258 2 v ss.length (ss.map encY).flatten/\Zyo D left ss/\Below w.heap.size w wq)
        (λ_ wq=>wq.rangeLeft w.heap.size r0)
      case atStart=>exact⟨_,_,[],hrg0,by simp,⟨rfl,.inl ⟨rfl,rfl⟩⟩,Zoy D,hb0⟩
      case round =>
        obtain⟨left,cnt,ss,hrg,hcs,hrow,hC,hnq⟩:=hrel;go_wp2_with (first
          | (at_next;refine wpList_next_ranges _ rfl _ rfl 9 lawS (plainElem Tryz.prog 3) Go.Proofs.encStr (Value.int .i64) (λkey kl hk=>by obtain⟨x,hx,_⟩:=Maps.keyOf_str Tryz.underlying9 hk;exact⟨x,hx⟩) (λv y hv=>by obtain⟨c,rfl,_⟩:=plainElem_int_inv Tryz.underlying3 hv;exact⟨c,rfl⟩) w.heap.size r0 l.length _ _ _ rfl hrg ?_ ?_)
          | go_in)
        . intro hc00 hl0;rcases hrow.2 with⟨hnil,hz⟩|⟨g,cap2,cur,hvs,hbase,hb,h1,h2,h3,h4⟩
          . have hss:ss=[]:=List.length_eq_zero_iff.1 hz;subst hss;subst hnil;go_wp2_with (go_at_call 249;refine(Z144 _).mono ?_;rintro e w' ⟨rfl,gm⟩)
            go_ret
            refine⟨.slice none 0 0,[],rfl,Zyp _,Zju _,Zma hD hC hl0 (List.Perm.refl _) (λi j hij hj=>absurd hj (by simp)),?_⟩;exact Mod.of_below (hnq.grown (Zm9 gm) hnq.size (λj hj=>by cases hj))
          . subst hvs;have hgl:=(Array.getElem?_eq_some_iff.1 hb).1;have hlen:ss.length<4611686018427387904:=by omega
            have eg:∀args w,(callFunc 250 args).run Tryz.prog w=.ok (.enter 250 args) w:=enters_of Tryz.func250 (by kernel_rfl) rfl;have hc:Calls Tryz.prog 249 #[.slice (some ⟨g,0,none⟩) ss.length cap2,.func (.func 250) #[] #[]] wr _ :=
              AnyQ.slices_SortFunc Tryz.sortR 2 Tryz.isAgg258 Tryz.sizeOf258 encY (λ_=>rfl) Z143 cmpY swoY 250 #[] g 0 cap2 ss.toArray wr eg (λ_ _ _ _ x y=>Z1ee x y _) (Zf4 (enc:=encY) (k:=2) (ds:=ss) (λ_=>rfl) (by decide) hb h4) hgl hlen
            go_wp2_with (go_at_call 249;refine hc.mono ?_;rintro e w' ⟨rfl,d',nn,os,hp,hso,rfl⟩)
            go_ret
            obtain⟨ts⟩:=d';have hsz:ts.length=ss.length:=hp.1;have hpm:ts.Perm ss:=by
              have:=hp.2.2;simp only[List.size_toArray]at this;rw[<- hsz]at this;have e:ss.take ts.length=ss:=by rw[hsz,List.take_length]
              simpa[e]using this
            refine⟨_,ts,rfl,⟨Zyq ts,Z145 (base:=w.heap.size+1) ?_⟩,λk hk=>?_,Zma hD hC hl0 hpm (λi j hij hj=>?_),?_⟩
            . have:=Zf6 (w:=wr) (n:=nn) (os:=os) (enc:=encY) (k:=2) (ts:=ts) (λ_=>rfl) (by decide) hbase hb (by omega) h2 h3;rw[qy3,<- hsz];exact this
            . have:g=k:=Option.some.inj hk;omega
            . have:=hso i j (Nat.zero_le _) hij (by show j<ss.length;omega);rw[Zaz,getElem!_pos _ j (by simpa using hj),getElem!_pos _ i (by simp;omega)]at this;exact this
            . exact Mod.of_below (hnq.grown (Zf5 _) hnq.size (λj hj=>by cases hj;exact Nat.le_of_succ_le hbase))
        . intro x c kl yd yp w2 cnt2 hkey hlk hv hat hrg2 hlt2 hg2 hs2 hen;obtain⟨x',ex,rfl,_⟩:=Maps.keyOf_str Tryz.underlying9 hkey;obtain rfl:x=x':=encStr_inj ex;have hrow2:=hrow.kept hg2 (Or.inr (row_ne_iter hrow hrg).symm);clear hs2;obtain⟨c',ec,e2,hwc⟩:=plainElem_int_inv Tryz.underlying3 hv;obtain rfl:c=c':=by simpa using ec
          obtain rfl:yd=.lit (.int .i64 c):=(Prod.mk.inj e2).1;clear hv ec e2;go_wp2_with (first
            | (at_builtin;refine wpList_append_own _ rfl _ _ 255 rfl (w.heap.size+1) 258 i0 (.agg #[.string ⟨#[]⟩,.int .i64 0]) 2 24 Tryz.underlying255 hi hz0 hz1 hz2 rfl (by decide) _ _ _ rfl (hrow2.alloc _) ⟨w2.heap.size,0,none⟩ 1 1 [Go.Proofs.encStr x,.int .i64 c] rfl rfl (Zyn _ _ _ _) (by simp[Value.oneCell',Go.Proofs.encStr]) (by unfold maxLen;omega) (by omega) (by have:=hrg2.owns.lt;simp;omega) ?_;intro v' w3 hown' hg3 hnil3;go_frame)
            | go_in)
          have hrg3:=(hrg2.alloc _).kept hg3 (row_ne_low hrow2 (Nat.lt_succ_self _)) (row_ne_iter hrow2 hrg2);have hb3:=((hnq.grown hg2 hnq.size (λj hj=>by cases hj;exact hr0)).alloc (by have:=hnq.size;have:=hg2.size;omega) _).grown hg3 (by have:=hnq.size;have:=hg2.size;simp;omega) (λj hj=>Nat.le_of_succ_le (hrow2.lt j hj).1);go_roundw
          case rel =>
            exact⟨_,cnt2,ss++[(x,c)],hrg3,by simp;omega,by simpa[encY,Go.Proofs.encStr]using hown',Zuk hC hlk hat,hb3⟩
          case measure=>rw[hrg3.left_eq,hrg.left_eq];exact hlt2
end Go.Proofs.Y
namespace Go.Proofs.Y
open Go Go.Sx
theorem Z1ca{x:Wt}(h:Z4t x=0):cliB x.1=true/\chkT x.2.1 true=0/\0<=x.2.2/\x.2.2<=1:=by
 unfold Z4t at h;split at h
 ·rename_i h1;unfold askE at h;simp only at h;split at h
  ·rename_i h2;split at h
   ·rename_i h3;exact⟨h1,h2,h3⟩
   ·exact absurd h (by decide)
  ·rename_i h2;exact absurd h h2
 ·exact absurd h (by decide)
theorem Zrd{l:List Wt}(h:Z19 l=0):∀x∈l,cliB x.1=true/\chkT x.2.1 true=0/\0<=x.2.2/\x.2.2<=1:=λx hx=>Z1ca ((Z1h.1 h).2.1 x hx)
theorem c_Of(w:World)(v:Value)(l:List Wt)(n:List UInt8)(hv:Z2x w v l)(hs:Z3c l)(hn:n.length<1000000000)(h:Z19 l=0):Calls Tryz.prog 216 #[sc1 v,.string ⟨n.toArray⟩] w λe w'=>∃v',e=.returned (sc1 v')/\Z18k w' v' (rdOf n l)/\newW w.heap.size v'/\Mod [] w w':=by
 rw[hv.sc1];obtain⟨k1,k2,k3⟩:=Z1h.1 h;have hv0:=hv;obtain⟨-,a,cap,rfl,-,-⟩:=hv;rw[qy3]at hv0⊢;refine(Z18y w a cap l n hv0 hs hn (by omega) λx hx=>(Zrd h x hx).2.2).mono ?_;rintro e w' ⟨v',rs,rfl,g1,g2,g3,g4⟩;have e1:rs=rdOf n l:=by obtain⟨a1,a2⟩:=Zy2 (n:=n) (Zhx k3);exact Zhw g3.1 a1 λx=>by rw[show x=(x.1,x.2) from rfl,g3.2,a2]
 subst e1;exact⟨v',by rw[g1.reads.sc1],g1,g2,g4⟩
def wA:List Wt:=[([97,110,110],[35],0),([97,110,110],[97,47,43],1),([98,111,98],[99],0)]
theorem Z18z(w:World):Calls Tryz.prog 51 #[] w λe w'=>∃v',e=.returned (sc1 v')/\Z2x w' v' wA/\newW w.heap.size v'/\Mod [] w w':=by refine Z2 (Z7 (J:=[]) sxE_ok Tryz.func51 Z7m rfl rfl rfl ?_) rfl;simp only[QQ,Nat.reduceAdd];intro v w' hr;exact⟨v,rfl,(hr.at_ 0 rfl).reads,hr.fresh 0 rfl,hr.mod⟩
end Go.Proofs.Y
namespace Go.Proofs.Y
open Go.Sx
abbrev Opt:=Int×List UInt8
def encO(o:Opt):List Value:=[.int .i64 o.1,.string ⟨o.2.toArray⟩]
abbrev oD:Opt:=(0,[])
theorem Z2m(os:List Opt)(i:Nat):Value.gI (((os.map encO).getD i []).getD 0 undef)=(os.getD i oD).1:=by simp only[qy1,List.getElem?_map];cases os[i]?<;>rfl
theorem Z2n(os:List Opt)(i:Nat):Value.gS (((os.map encO).getD i []).getD 1 undef)=(os.getD i oD).2:=by simp only[qy1,List.getElem?_map];cases os[i]?<;>simp[encO,Value.gS,undef]
theorem Z1cb(os:List Opt)(i:Nat)(h:i<os.length):os.drop i=os.getD i oD::os.drop (i+1):=by rw[List.drop_eq_getElem_cons h,qy1,qy7 h];rfl
structure Msg where
 kind:Int
 code:Int
 id:Int
 tok:List UInt8
 opts:List Opt
 pay:List UInt8
abbrev mNil:Msg:=⟨0,0,0,[],[],[]⟩
def mV(m:Msg)(v:Value):Value:=.agg #[.int .i64 m.kind,.int .i64 m.code,.int .i64 m.id,.string ⟨m.tok.toArray⟩,v,.string ⟨m.pay.toArray⟩]
abbrev Z3i(w:World)(v:Value)(os:List Opt):Prop:=reads w v [.int .i64,.str] (os.map encO)
def optE:Int->List Opt->Int
 | _,[]=>0
 | was,o::l=>if 0<=o.1/\o.1<=65535 then(if o.1<was then 4 else if 60<(o.2.length:Int)then 2 else optE o.1 l)else 3
def chk(m:Msg):Int :=
 if 0<=m.kind/\m.kind<=3 then
  if 0<=m.code/\m.code<=255/\0<=m.id/\m.id<=65535 then
   if 8<(m.tok.length:Int)\/12<(m.opts.length:Int)\/200<(m.pay.length:Int)then 2
   else if optE 0 m.opts≠0 then optE 0 m.opts
   else if m.code=0/\(m.tok≠[]\/m.pay≠[]\/m.opts≠[])then 1 else 0
  else 3
 else 7
theorem Z146{m:Msg}(h:¬(0<=m.kind/\m.kind<=3)):chk m=7:=if_neg h
theorem Zyr{m:Msg}(h:0<=m.kind/\m.kind<=3)(h1:¬(0<=m.code/\m.code<=255/\0<=m.id/\m.id<=65535)):chk m=3:=by rw[chk,if_pos h,if_neg h1]
theorem Z147{m:Msg}(h:0<=m.kind/\m.kind<=3)(h1:0<=m.code/\m.code<=255/\0<=m.id/\m.id<=65535)(h2:8<(m.tok.length:Int)\/12<(m.opts.length:Int)\/200<(m.pay.length:Int)):chk m=2:=by rw[chk,if_pos h,if_pos h1,if_pos h2]
theorem Z148{m:Msg}(h:0<=m.kind/\m.kind<=3)(h1:0<=m.code/\m.code<=255/\0<=m.id/\m.id<=65535)(h2:¬(8<(m.tok.length:Int)\/12<(m.opts.length:Int)\/200<(m.pay.length:Int))) : chk m=if optE 0 m.opts≠0 then optE 0 m.opts else if m.code=0/\(m.tok≠[]\/m.pay≠[]\/m.opts≠[])then 1 else 0:=by rw[chk,if_pos h,if_pos h1,if_neg h2]
theorem Z91{m:Msg}:chk m=0↔(0<=m.kind/\m.kind<=3)/\(0<=m.code/\m.code<=255/\0<=m.id/\m.id<=65535)/\(m.tok.length<=8/\m.opts.length<=12/\m.pay.length<=200)/\optE 0 m.opts=0/\(m.code=0->m.tok=[]/\m.pay=[]/\m.opts=[]):=by
 unfold chk;constructor
 ·intro h;split at h
  ·split at h
   ·split at h
    ·exact absurd h (by decide)
    ·split at h
     ·contradiction
     ·split at h
      ·exact absurd h (by decide)
      ·rename_i h1 h2 h3 h4 h5;exact⟨h1,h2,by omega,qy9.1 h4,λh6=>⟨Classical.byContradiction λh7=>h5 ⟨h6,.inl h7⟩,Classical.byContradiction λh7=>h5 ⟨h6,.inr (.inl h7)⟩,Classical.byContradiction λh7=>h5 ⟨h6,.inr (.inr h7)⟩⟩⟩
   ·exact absurd h (by decide)
  ·exact absurd h (by decide)
 ·rintro⟨h1,h2,h3,h4,h5⟩;rw[if_pos h1,if_pos h2,if_neg (by omega),if_neg (λh=>h h4),if_neg];rintro⟨h6,h7⟩;obtain⟨a,b,c⟩:=h5 h6;rcases h7 with h|h|h
  ·exact h a
  ·exact h b
  ·exact h c
theorem Zdq(w:World)(n a b:Int):Calls Tryz.prog 55 #[.int .i64 n,.int .i64 a,.int .i64 b] w λe w'=>e=.returned (.bool (decide (a<=n/\n<=b)))/\Mod [] w w':=by refine Z2 (Z7 (J:=[.i n,.i a,.i b]) sxE_ok Tryz.func55 Z9a rfl rfl rfl ?_) rfl;simp only[QQ,Nat.reduceAdd];exact λw' hr=>⟨by simp,hr.mod⟩
theorem Zys(w:World)(v:Value)(os:List Opt)(hv:Z3i w v os)(hl:os.length<1099511627776):Calls Tryz.prog 56 #[sc1 v] w λe w'=>e=.returned (.int .i64 (optE 0 os))/\Mod [] w w':=by
 refine Z2 (Z3 (J:=[.v v,.r (os.map encO)]) sxE_ok Tryz.func56 Z8s rfl rfl (Rel.start2 (by simp[Ent.holds,Ent.wr,hv,X.ev])) rfl rfl ?_) rfl;simp only[QQ,Nat.reduceAdd,qy3];refine⟨λvs=>∃(i:Nat) (x:V) (was:Int),vs=[x,.i was,.i i]/\i<=os.length/\optE was (os.drop i)=optE 0 os,λvs=>(os.length - (vs.getD 2 (.i 0)).toI).toNat,⟨0,_,0,rfl,by omega,rfl⟩,?_⟩;rintro _ - ⟨i,x,was,rfl,hi,hg⟩;simp only[QQ,Nat.reduceAdd,qy3,qy4,Z2m,Z2n];refine⟨λh1=>?_,λh1 w' hr=>⟨?_,hr.mod⟩⟩
 ·rw[Z1cb os i (by omega)]at hg;generalize os.getD i oD=o at hg⊢
  (repeat refine⟨by omega,?_⟩)
  intro b;refine⟨[.b (decide (0<=o.1/\o.1<=65535))],rfl,λ_ w' _=>Zdq w' _ _ _,?_⟩;simp only[QQ,Nat.reduceAdd,decide_eq_true_eq];simp only[optE]at hg;refine⟨λh2 w' hr=>⟨by rw[<- hg,if_neg h2],hr.mod⟩,λh2=>?_⟩;rw[if_pos (qy9.1 h2)]at hg;refine⟨λh3 w' hr=>⟨by rw[<- hg,if_pos h3],hr.mod⟩,λh3=>?_⟩;rw[if_neg h3]at hg;refine⟨λh4 w' hr=>⟨by rw[<- hg,if_pos h4],hr.mod⟩,λh4=>?_⟩;rw[if_neg h4]at hg;exact⟨by omega,by omega,⟨i+1,_,o.1,rfl,by omega,hg⟩,by omega⟩
 ·have:i=os.length:=by omega
  subst this;rw[List.drop_length]at hg;rw[<- hg];rfl
theorem Zoz(w:World)(m:Msg)(v:Value)(hv:Z3i w v m.opts)(hl:m.opts.length<1099511627776)(ht:m.tok.length<1099511627776)(hp:m.pay.length<1099511627776) : Calls Tryz.prog 26 #[mV m (sc1 v)] w λe w'=>e=.returned (.int .i64 (chk m))/\Mod [] w w':=by
 refine Z2 (Z3 (J:=[.i m.kind,.i m.code,.i m.id,.s m.tok,.v v,.r (m.opts.map encO),.s m.pay]) sxE_ok Tryz.func26 Zae rfl rfl (Rel.start2 (by simp[Ent.holds,Ent.wr,hv,X.ev])) rfl rfl ?_) rfl;simp only[QQ,Nat.reduceAdd,qy3];intro b;refine⟨[.b (decide (0<=m.kind/\m.kind<=3))],rfl,λ_ w' _=>Zdq w' _ _ _,?_⟩;simp only[QQ,Nat.reduceAdd,decide_eq_true_eq,qy3];refine⟨λh w' hr=>⟨by rw[Z146 h],hr.mod⟩,λh=>?_⟩;replace h:=qy9.1 h;refine⟨[.b (decide (0<=m.code/\m.code<=255))],rfl,λ_ w' _=>Zdq w' _ _ _,?_⟩;simp only[QQ,Nat.reduceAdd,decide_eq_true_eq,qy3];refine⟨[.b (decide (0<=m.id/\m.id<=65535))],rfl,λ_ w' _=>Zdq w' _ _ _,?_⟩;simp only[QQ,Nat.reduceAdd,decide_eq_true_eq,qy3];refine⟨λh1 w' hr=>⟨by rw[Zyr h (by omega)],hr.mod⟩,λh1=>?_⟩;refine⟨λh2 w' hr=>⟨by rw[Z147 h (by omega) (by omega)],hr.mod⟩,λh2=>?_⟩;rw[Z148 h (by omega) (by omega)];refine⟨[.i (optE 0 m.opts)],rfl,λ_ w' hr=>Zys w' v m.opts (hr.at_ 1 rfl) hl,?_⟩;simp only[QQ,Nat.reduceAdd,decide_eq_true_eq,qy3];refine⟨λh3 w' hr=>⟨by rw[if_pos h3],hr.mod⟩,λh3=>?_⟩;rw[if_neg h3];refine⟨by omega,λh4 w' hr=>⟨?_,hr.mod⟩,λh4 w' hr=>⟨?_,hr.mod⟩⟩
 ·rw[if_pos];rcases h4 with⟨h5,h6⟩|⟨h5,h6⟩
  ·refine⟨h5,?_⟩;simp only[List.append_eq_nil_iff]at h6;by_cases h7:m.tok=[]
   ·exact .inr (.inl λh8=>h6 ⟨h7,h8⟩)
   ·exact .inl h7
  ·exact⟨h5,.inr (.inr (by intro h8;rw[h8]at h6;simp at h6))⟩
 ·rw[if_neg];rintro⟨h5,h6⟩;apply h4;rcases h6 with h6|h6|h6
  ·exact .inl ⟨h5,λh=>h6 (List.append_eq_nil_iff.1 h).1⟩
  ·exact .inl ⟨h5,λh=>h6 (List.append_eq_nil_iff.1 h).2⟩
  ·exact .inr ⟨h5,by have:=List.length_pos_iff.2 h6;omega⟩
def Z66:List (List UInt8)->List UInt8
 | []=>[]
 | [x]=>x
 | x::y::xs=>x++47::Z66 (y::xs)
theorem Z9k{s:List UInt8}{f:Bool}:chkT s f=0↔s≠[]/\(s.length<=60/\(lev s).length<=6)/\Z3a s=true/\badL f (lev s)=false:=by
 unfold chkT;by_cases h1:s=[]
 ·rw[if_pos h1];simp[h1]
 ·rw[if_neg h1];by_cases h2:60<(s.length:Int)\/6<((lev s).length:Int)
  ·rw[if_pos h2];refine⟨λh=>absurd h (by decide),λh=>by omega⟩
  ·rw[if_neg h2];by_cases h3:Z3a s=true
   ·rw[if_pos h3];cases h4:badL f (lev s)
    ·exact⟨λ_=>⟨h1,by omega,h3,rfl⟩,λ_=>rfl⟩
    ·exact⟨λh=>absurd h (by decide),λh=>absurd h.2.2.2 (by simp)⟩
   ·rw[if_neg h3];exact⟨λh=>absurd h (by decide),λh=>absurd h.2.2.1 h3⟩
def noN(n:Int)(os:List Opt):List Opt:=os.filter λo=>decide (o.1≠n)
def upTo(n:Int)(os:List Opt):List Opt:=os.takeWhile λo=>decide (o.1<=n)
def past(n:Int)(os:List Opt):List Opt:=os.dropWhile λo=>decide (o.1<=n)
def Z149(os:List Opt)(n:Int)(vs:List (List UInt8)):List Opt:=upTo n (noN n os)++vs.map (λv=>(n,v))++past n (noN n os)
theorem Z1cc{n:Int}{os:List Opt}(h:∀o∈os,o.1≠n):noN n os=os:=by rw[noN,List.filter_eq_self];simpa using h
def Zm(n:Int)(os:List Opt):List (List UInt8):=(os.filter λo=>decide (o.1=n)).map (·.2)
theorem Zmb{n:Int}{os:List Opt}(h:∀o∈os,o.1≠n):Zm n os=[]:=by rw[Zm,List.map_eq_nil_iff,List.filter_eq_nil_iff];simpa using h
theorem Zre(n:Int)(a b:List Opt):Zm n (a++b)=Zm n a++Zm n b:=by simp[Zm]
theorem Zrf{n:Int}:∀{l:List Opt} {k:Nat},k<=l.length->(∀j,j<k->(l.getD j oD).1<=n)->(k<l.length->n<(l.getD k oD).1)->l.take k=upTo n l/\l.drop k=past n l
 | [],k,hk,_,_=>by simp[upTo,past]
 | o::l,0,_,_,h2=>by
  have h:=h2 (by simp);simp only[List.getD_cons_zero]at h;have:¬o.1<=n:=by omega
  simp[upTo,past,List.takeWhile_cons,List.dropWhile_cons,this]
 | o::l,k+1,hk,h1,h2=>by have h:=h1 0 (by omega);simp only[List.getD_cons_zero]at h;obtain⟨e1,e2⟩:=Zrf (n:=n) (l:=l) (k:=k) (by simpa using hk) (λj hj=>by have:=h1 (j+1) (by omega);simpa using this) (λhj=>by have:=h2 (by simpa using hj);simpa using this);simp only[upTo,past]at e1 e2⊢;simp[List.takeWhile_cons,List.dropWhile_cons,h,e1,e2]
def Zp0(v:List UInt8):Int×Int:=if 3<(v.length:Int)then(0,1)else((beN v 0:Nat),0)
def Z6v(n:Int)(os:List Opt):Int×Int:=match Zm n os with | []=>(0,5)|v::_=>Zp0 v
def Z2i(n:Int):List UInt8:=(numB 3 n).dropWhile λc=>c == 0
def Z1d(os:List Opt):List UInt8×Int :=
 if Zm 11 os=[]then([],5)
 else if chkT (Z66 (Zm 11 os)) false=0 then
  (if(Zm 11 os).any (λv=>v.any λc=>c == 47)=true then([],1)else(Z66 (Zm 11 os),0))
 else([],chkT (Z66 (Zm 11 os)) false)
open Go Go.Shelf Go.RowKit Go.Lib
set_option maxRecDepth 100000 in
theorem Zyt:Zbz Tryz.prog 274:=by
 intro w b n c i vb vc hi hc hb;go_enter Tryz.func274,Tryz.ntmps274
 go_wp2
 all_goals (go_ret;exact⟨rfl,rfl⟩)
set_option maxRecDepth 100000 in
theorem Z14a:Zhr Tryz.prog 274 36:=by
 intro w b n c vb m vc hm hc hb v' w' hrun;have hz1:¬((m:Int)=0):=by omega
 go_enter Tryz.func274,Tryz.ntmps274
 go_wp2_with (at_builtin;refine Lib.wpList_append_run _ rfl _ _ _ _ rfl _ _ rfl rfl _ _ (hrun _) ?_)
 all_goals (go_ret;exact⟨rfl,rfl⟩)
set_option maxRecDepth 100000 in
theorem Zul:Z8g Tryz.prog 274 292 36 2:=by
 intro w g n c i vb m vc cur1 cur2 hi hm hroom hc63 hov hcp1 hcp2;obtain⟨hz1,hz2,hw1,hw2,hb1,hin,htn,htn2,hb3,-⟩:=insN hi hm (by omega);have hb2:¬(c=i+m):=by omega
 have hb4:¬(c=i):=by omega
 have mixed:Tryz.prog.follows Departure.mixedOrders=true:=by kernel_rfl
 go_enter Tryz.func274,Tryz.ntmps274
 go_wp2_with (simp only[hov])
 go_region_law_o (refine step_copy_runI rfl _ _ 36 36 rfl _ _ (by simp[Act.eval,Act.put]) (by simp[Act.eval,Act.put]) (hcp1 _ _ _) ?_)
 go_wp2_with (at_builtin;refine wpList_copy_runI _ rfl _ _ 36 36 rfl _ _ rfl rfl (hcp2 _ rfl _ _) ?_)
 go_ret
 first|exact⟨rfl,rfl⟩|exact⟨rfl,by rw[setRow_setRow]⟩
set_option maxRecDepth 100000 in
theorem Zyu:Zc0 Tryz.prog 274 121 36 3 2:=by
  intro w g n c i vb m vc G ROW cur2 cur3 hi hm hnc hroom hGn hG63 hrz hcpA hcpB Q hfin;obtain⟨hz1,hz2,hw1,-,hb1,hin,htn,-,-,hb3⟩:=insN hi hm (by omega);have hz3:(c:Int)<(n:Int)+(m:Int):=by omega
  have hGi:¬(G=i):=by omega
  have hGim:¬(G=i+m):=by omega
  have hci:¬(c=i):=by omega
  have mixed:Tryz.prog.follows Departure.mixedOrders=true:=by kernel_rfl
  have hE1:((w.alloc (.cells ROW 121)).drew).heap=(w.drew.alloc (.cells ROW 121)).heap:=rfl;have hF1:(((w.alloc (.cells ROW 121)).drew.setRow w.heap.size cur2).drew).heap=((w.drew.alloc (.cells ROW 121)).setRow w.heap.size cur2).heap:=rfl;go_enter Tryz.func274,Tryz.ntmps274
  go_wp2_with (first
    | (at_builtin;refine Lib.wpList_append_run _ rfl _ _ _ _ rfl _ _ rfl rfl _ _ (hrz _) ?_)
    | (at_builtin;refine wpList_copy_runI _ rfl _ _ 36 36 rfl _ _ rfl rfl (hcpA _ hE1 _ _) ?_)
    | (at_builtin;refine wpList_copy_runI _ rfl _ _ 36 36 rfl _ _ rfl rfl (hcpB _ hF1 _ _ _) ?_))
  go_region_law_o (refine step_copy_runI rfl _ _ 36 36 rfl (.slice (some ⟨w.heap.size,(i+m)*2,none⟩) (n+m - (i+m)) (G - (i+m))) (.slice (some ⟨g,i*2,none⟩) (n - i) (c - i)) (by simp[Act.eval,Act.put]) (by simp[Act.eval,Act.put]) (hcpB _ hF1 3 (G - (i+m)) (c - i)) ?_)
  go_wp2
  exact hfin _ rfl rfl rfl rfl
theorem Zyv(w:World)(s v:Value)(i:Nat)(R V:List (List Value))(hs:owns w s 121 [.int .i64,.str] R)(hv:owns w v 121 [.int .i64,.str] V)(hne:∀k,Z1 s k->Z1 v k->False)(hi:i<=R.length)(hb:(R.length+V.length)*24<=140737488355328) : Calls Tryz.prog 274 #[s,.int .i64 i,v] w λe w'=>∃v',e=.returned v'/\Z8y w w' s v' 121 [.int .i64,.str] (R.take i++V++R.drop i) :=
 Zey (K:=2) Tryz.underlying36 Tryz.underlying3 (by kernel_rfl) rfl (by decide) (by decide) (λargs w=>run_callFunc_extern Tryz.func292 (by kernel_rfl) (by kernel_rfl) (by kernel_rfl) (e:=Extern.SlicesOverlaps.overlaps #[36,36] #[4]) (by kernel_rfl) args w) Zyt Z14a Zul Zyu w s v i R V hs hv hne hi hb
theorem Zyw{was:Int}{o:Opt}{l:List Opt}:optE was (o::l)=0↔(0<=o.1/\o.1<=65535)/\was<=o.1/\o.2.length<=60/\optE o.1 l=0:=by
 simp only[optE];constructor
 ·intro h;split at h
  ·split at h
   ·exact absurd h (by decide)
   ·split at h
    ·exact absurd h (by decide)
    ·exact⟨by assumption,by omega,by omega,h⟩
  ·exact absurd h (by decide)
 ·rintro⟨h1,h2,h3,h4⟩;rw[if_pos h1,if_neg (by omega),if_neg (by omega),h4]
theorem Z190(os:List Opt)(i:Nat)(h:i<os.length):os.take (i+1)=os.take i++[os.getD i oD]:=by rw[List.take_add_one,qy1,qy7 h];rfl
abbrev kO:List Kd:=[.int .i64,.str]
abbrev Zyx(w:World)(v:Value)(l:List Opt):Prop:=owns w v 121 kO (l.map encO)
def newO(n:Nat)(u:Value):Prop:=∀k,Z1 u k->n<=k
theorem Zrg{J:List V}{g:List Nat}{i:Nat}(hi:i∈g){k:Nat}(h:Z1 (J.getD i (.i 0)).toV k):k∈Zq J g:=List.mem_flatMap.2 ⟨i,hi,by rw[h];simp⟩
theorem Zyy{v:Value}(hn:(match v with | .slice none _ _=>true|_=>false)=true){w:World}{ks:List Kd}{rows:List (List Value)}(h:reads w v ks rows):rows=[]:=by obtain⟨_,a,cap,rfl,_,h2⟩:=h;refine Classical.byContradiction λhne=>?_;obtain⟨ad,rfl,_⟩:=h2 hne;simp at hn
theorem Z14b(w:World)(v:Value)(l:List Opt)(hv:Z3i w v l)(hl:l.length<1000000000):Calls Tryz.prog 291 #[sc1 v] w λe w'=>∃v',e=.returned (sc1 v')/\Zyx w' v' l/\(∀k,Z1 v' k->w.heap.size<=k)/\Mod [] w w':=by
 refine Z2 (Z3 (J:=[.v v,.r (l.map encO)]) sxE_ok Tryz.func291 Z29 rfl rfl (Rel.start2 (by simp[Ent.holds,Ent.wr,hv,X.ev])) rfl rfl ?_) rfl;simp only[QQ,Nat.reduceAdd,qy3,List.nil_append];refine⟨λh w' hr=>?_,λh v1=>⟨by simp only[Int.natCast_zero];omega,λv2 w' hr=>?_⟩⟩
 ·have hn:l=[]:=List.map_eq_nil_iff.1 (Zyy h hv);subst hn;exact⟨_,rfl,hr.at_ 0 rfl,hr.fresh 0 rfl,hr.mod⟩
 ·exact⟨v2,rfl,hr.at_ 0 rfl,hr.fresh 0 rfl,hr.mod⟩
theorem Z1cd(w:World)(s v:Value)(l x:List Opt)(i:Nat)(hs:Zyx w s l)(hv:Zyx w v x)(hne:∀k,Z1 s k->Z1 v k->False)(hi:i<=l.length)(hl:l.length<1000000000)(hx:x.length<1000000000) : Calls Tryz.prog 274 #[sc1 s,.int .i64 i,sc1 v] w λe w'=>∃v',e=.returned (sc1 v')/\Zyx w' v' (l.take i++x++l.drop i)/\(∀k,Z1 v' k->Z1 s k\/w.heap.size<=k)/\Mod s.ownBlock.toList w w':=by rw[hs.reads.sc1,hv.reads.sc1];refine(Zyv w s v i _ _ hs hv hne (by simpa using hi) (by simp;omega)).mono ?_;rintro e w' ⟨v',rfl,g1,g2,g3⟩;refine⟨v',by rw[g1.reads.sc1],?_,g2,Mod.of_grown g3 λk hk=>.inl (Option.mem_toList.2 hk)⟩;rw[Zyx,List.map_append,List.map_append,List.map_take,List.map_drop];exact g1
theorem Z14c(R:List Opt)(m:Nat)(x:Opt):(R.map encO).set m [.int .i64 x.1,.string ⟨x.2.toArray⟩]=(R.set m x).map encO:=by rw[List.map_set];rfl
theorem Zrh(n:Int)(os:List Opt)(i:Nat)(h:i<os.length):noN n (os.take (i+1))=noN n (os.take i)++(if(os.getD i oD).1=n then[]else[os.getD i oD]):=by
 rw[Z190 os i h,noN,noN,List.filter_append];generalize os.getD i oD=o
 by_cases h1:o.1=n<;>simp[h1]
theorem Z191(n:Int)(os:List Opt):(noN n os).length<=os.length:=List.length_filter_le _ _
theorem Zyz{n:Int}{os:List Opt}(h:∀j,j<os.length->(os.getD j oD).1≠n):noN n os=os:=by refine Z1cc λo ho=>?_;obtain⟨i,hi,rfl⟩:=List.getElem_of_mem ho;have:=h i hi;rwa [qy1,qy7 hi]at this
theorem Zb0(w:World)(m:Msg)(v u:Value)(n:Int)(us:List (List UInt8))(hv:Z3i w v m.opts)(hu:Zhi w u us)(hl:m.opts.length<1000000000)(hul:us.length<1000000000) : Calls Tryz.prog 243 #[mV m (sc1 v),.int .i64 n,sc1 u] w λe w'=>∃v',e=.returned (mV m (sc1 v'))/\Z3i w' v' (Z149 m.opts n us)/\newO w.heap.size v'/\Mod [] w w':=by
 refine Z2 (Z3 (J:=[.i m.kind,.i m.code,.i m.id,.s m.tok,.v v,.r (m.opts.map encO),.s m.pay,.i n,.v u,.r (us.map Z1v)]) (sxE_ok.joins _) Tryz.func243 Zd5 rfl rfl (Rel.start2 (by simp[Ent.holds,Ent.wr,hv,hu,X.ev])) rfl rfl ?_) rfl;simp only[QQ,Nat.reduceAdd,qy3,qy4,Z2m,Z2n,Zu];intro b1 b2 b3 b4 b5 w1 hr;refine(Z14b w1 v m.opts (hr.at_ 5 rfl) hl).mono ?_;rintro e w2 ⟨q,rfl,a1,f1,m1⟩;refine⟨[.v q,.r (m.opts.map encO)],rfl,rfl,m1,qy5 _,qy2.2 ⟨⟨a1,λk hk=>.inl (f1 k hk)⟩,qy5 _⟩,Z4,?_⟩;clear hr a1 f1 m1;simp only[QQ,Nat.reduceAdd,qy3,qy4,Z2m,Z2n,Zu];intro b6;generalize hos:m.opts=os at hl⊢
 refine⟨λvs=>∃u',vs=[.i 0,.i 0,.i 0,.i 0,.i 0,.i 0,.i 0,.i 0,.i 0,.i 0,.v u',.i n,.r ((noN n os).map encO)],?_,?_⟩
 ·refine⟨λvs=>∃(x:V) (i:Nat),vs=[x,.i i,.i n]/\i<=os.length/\∀j,j<i->(os.getD j oD).1≠n,λvs=>(os.length - (vs.getD 1 (.i 0)).toI).toNat,⟨_,0,rfl,by omega,λj hj=>by omega⟩,?_⟩;rintro _ - ⟨x,i,rfl,hi,hn⟩;simp only[QQ,Nat.reduceAdd,qy3,qy4,Z2m,Z2n,Zu];refine⟨λh1=>?_,λh1=>?_⟩
  ·(repeat refine⟨by omega,?_⟩)
   intro b7;refine⟨λh2=>⟨λh3=>by omega,λh3=>⟨by omega,by omega,?_⟩⟩,λh2=>?_⟩
   ·refine⟨λvs=>∃(a j:Nat) (R:List Opt),vs=[.i a,.i j,.r (R.map encO),.i n]/\a<j/\j<=os.length/\R.length=os.length/\R.take a=noN n (os.take j)/\R.drop j=os.drop j,λvs=>(os.length - (vs.getD 1 (.i 0)).toI).toNat,
     ⟨i,i+1,os,rfl,by omega,by omega,rfl,?_,rfl⟩,?_⟩
    ·rw[Zrh n os i (by omega),if_pos h2,List.append_nil,Zyz];intro j hj;simp only[List.length_take]at hj;have:=hn j (by omega);rw[qy1]at this⊢;rwa [List.getElem?_take_of_lt (by omega)]
    rintro _ - ⟨a,j,R,rfl,haj,hj,hR,ht,hd⟩;simp only[QQ,Nat.reduceAdd,qy3,qy4,Z2m,Z2n,Zu,hR];have hg:j<os.length->R.getD j oD=os.getD j oD:=λh=>by have:=congrArg (λl=>l[0]?) hd;simp only[List.getElem?_drop,Nat.add_zero]at this;rw[qy1,qy1,this]
    refine⟨λh3=>?_,λh3=>?_⟩
    ·(repeat refine⟨by omega,?_⟩)
     intro b8 b9;have hjl:j<os.length:=by omega
     have hs1:=Zrh n os j hjl;have hg:=hg hjl;have hd':R.drop (j+1)=os.drop (j+1):=by have:=congrArg (λl=>l.drop 1) hd;simpa[List.drop_drop,Nat.add_comm]using this
     refine⟨λh4=>?_,λh4=>?_⟩
     ·(repeat refine⟨by omega,?_⟩)
      refine⟨⟨a+1,j+1,R.set a (R.getD j oD),?_,by omega,by omega,by simpa using hR,?_,?_⟩,by omega⟩
      ·rw[<- Z14c];rfl
      ·rw[hs1,if_neg (by rw[<- hg];exact h4),<- ht,<- hg,Z190 _ _ (by simp;omega)];congr 1
       ·rw[List.take_set_of_le (Nat.le_refl _)]
       ·rw[qy1,List.getElem?_set_self (by omega)];rfl
      ·rw[List.drop_set_of_lt (by omega)];exact hd'
     ·(repeat refine⟨by omega,?_⟩)
      refine⟨⟨a,j+1,R,rfl,by omega,by omega,hR,?_,hd'⟩,by omega⟩;rw[hs1,if_pos (by rw[<- hg];exact qy9.1 h4),List.append_nil];exact ht
    ·have hje:j=os.length:=by omega
     subst hje;rw[List.take_length]at ht;refine⟨by omega,by omega,?_,λu'=>⟨u',?_⟩⟩
     ·simp only[qy11,List.length_take,List.length_replicate,qy3,hR];omega
     ·congr 1
      simp only[List.cons.injEq,true_and,and_true];congr 1
      rw[List.take_append_of_le_length (by simp;omega),List.take_take,Nat.min_self,<- List.map_take,ht]
   ·(repeat refine⟨by omega,?_⟩)
    refine⟨⟨_,i+1,rfl,by omega,λj hj=>?_⟩,by omega⟩;by_cases hji:j=i
    ·subst hji;exact h2
    ·exact hn j (by omega)
  ·have hie:i=os.length:=by omega
   subst hie;refine⟨q,?_⟩;rw[Zyz hn]
 rintro _ - ⟨u',rfl⟩;generalize hN:noN n os=R
 have hRl:R.length<1000000000:=by have:=Z191 n os;rw[hN]at this;omega
 simp only[QQ,Nat.reduceAdd,qy3,qy4,Z2m,Z2n,Zu];refine⟨λvs=>∃k:Int,vs=[.i 0,.i 0,.i n,.i 0,.i k]/\((k=-1/\∀j,j<R.length->(R.getD j oD).1<=n)\/∃i:Nat,k=i/\i<R.length/\(∀j,j<i->(R.getD j oD).1<=n)/\n<(R.getD i oD).1),?_,?_⟩
 ·refine⟨λvs=>∃(x:V) (i:Nat),vs=[x,.i i,.i n]/\i<=R.length/\∀j,j<i->(R.getD j oD).1<=n,λvs=>(R.length - (vs.getD 1 (.i 0)).toI).toNat,⟨_,0,rfl,by omega,λj hj=>by omega⟩,?_⟩;rintro _ - ⟨x,i,rfl,hi,hn⟩;simp only[QQ,Nat.reduceAdd,qy3,qy4,Z2m,Z2n,Zu];refine⟨λh1=>?_,λh1=>⟨-1,rfl,.inl ⟨rfl,λj hj=>hn j (by omega)⟩⟩⟩
  (repeat refine⟨by omega,?_⟩)
  intro b7;refine⟨λh2=>⟨i,rfl,.inr ⟨i,rfl,by omega,hn,h2⟩⟩,λh2=>?_⟩
  (repeat refine⟨by omega,?_⟩)
  refine⟨⟨_,i+1,rfl,by omega,λj hj=>?_⟩,by omega⟩;by_cases hji:j=i
  ·subst hji;omega
  ·exact hn j (by omega)
 rintro _ - ⟨k,rfl,hk⟩;simp only[QQ,Nat.reduceAdd,qy3,qy4,Z2m,Z2n,Zu];refine⟨λvs=>∃k:Nat,vs=[.i k]/\k<=R.length/\(∀j,j<k->(R.getD j oD).1<=n)/\(k<R.length->n<(R.getD k oD).1),⟨λh1=>?_,λh1=>?_⟩,?_⟩
 ·rcases hk with⟨h2,h3⟩|⟨i,h2,-⟩
  ·exact⟨R.length,rfl,Nat.le_refl _,h3,λh=>by omega⟩
  ·omega
 ·rcases hk with⟨h2,h3⟩|⟨i,h2,h3,h4,h5⟩
  ·omega
  ·subst h2;exact⟨i,rfl,by omega,h4,λ_=>h5⟩
 rintro _ - ⟨i,rfl,hi,h1,h2⟩;obtain⟨e1,e2⟩:=Zrf hi h1 h2;simp only[QQ,Nat.reduceAdd,qy3,qy4,Z2m,Z2n,Zu];refine⟨λvs=>∃(v1:Value) (i:Nat),vs=[.v v1,.r (((us.take i).map λx=>((n,x):Opt)).map encO),.i i]/\i<=us.length,λvs=>(us.length - (vs.getD 2 (.i 0)).toI).toNat,⟨_,0,rfl,by omega⟩,?_⟩;rintro _ - ⟨v1,j,rfl,hj⟩;simp only[QQ,Nat.reduceAdd,qy3,qy4,Z2m,Z2n,Zu];refine⟨λh3=>?_,λh3 w3 hr=>?_⟩
 ·(repeat refine⟨by omega,?_⟩)
  intro v2;refine⟨by simp;omega,λv3=>⟨by omega,by omega,⟨v3,j+1,?_,by omega⟩,by omega⟩⟩;rw[List.take_add_one,List.map_append,List.map_append,qy7 (by omega),qy1,qy7 (by omega)];rfl
 ·have:j=us.length:=by omega
  subst this;rw[List.take_length]at hr;refine(Z1cd w3 u' v1 R _ i (hr.at_ 1 rfl) (hr.at_ 0 rfl) (λk h5 h6=>hr.sep.disj (i:=1) (j:=0) rfl rfl (by omega) (.inl rfl) (k:=k) h5 h6) hi hRl (by simpa using hul)).mono ?_;rintro e w4 ⟨v',rfl,g1,g2,g3⟩;refine⟨[.v v',.r ((R.take i++(us.map λx=>((n,x):Opt))++R.drop i).map encO)],rfl,rfl,g3.mono λk hk=>.inl (by unfold Zl;exact List.mem_append_right _ (Zrg (i:=28) (by simp) (Option.mem_toList.1 hk))),qy5 _,qy2.2 ⟨⟨g1,λk hk=>?_⟩,qy5 _⟩,Z4,?_⟩
  ·rcases g2 k hk with h5|h5
   ·exact .inr (.inr (Zrg (i:=28) (by simp) h5))
   ·exact .inl h5
  ·intro w5 hr5;refine⟨v',rfl,?_,hr5.fresh 0 rfl,hr5.mod⟩;have:=(hr5.at_ 0 rfl).reads;rw[e1,e2]at this;rw[Z3i,Z149,hN];exact this
end Go.Proofs.Y
namespace Go.Proofs
open Go.Shelf
def Tryz.lays144_ren:Go.Shelf.Ren:=⟨fun|144=>207|143=>239|219=>268|217=>288|225=>267|224=>266|267=>289|266=>311|314=>312|n=>n,fun|9=>9|4=>4|3=>3|5=>5|46=>88|146=>336|51=>332|n=>n,fun|1=>0|n=>n⟩
theorem Tryz.lays144:Go.Proofs.Lays.n144 Tryz.prog Tryz.lays144_ren:={
 mixed:=by kernel_rfl
 f143:=qF Tryz.func239 (by kernel_rfl)
 f144:=qF Tryz.func207 (by kernel_rfl)
 f217:=qF Tryz.func288 (by kernel_rfl)
 f219:=qF Tryz.func268 (by kernel_rfl)
 f224:=qF Tryz.func266 (by kernel_rfl)
 f225:=qF Tryz.func267 (by kernel_rfl)
 f266:=qF Tryz.func311 (by kernel_rfl)
 f267:=qF Tryz.func289 (by kernel_rfl)
 f314:=qF Tryz.func312 (by kernel_rfl)
 t3:=Tryz.underlying3
 a3:=Tryz.isAgg3
 z3:=Tryz.sizeOf3
 v3:=Tryz.zeroValue3
 t4:=Tryz.underlying4
 a4:=Tryz.isAgg4
 z4:=Tryz.sizeOf4
 v4:=Tryz.zeroValue4
 t5:=Tryz.underlying5
 a5:=Tryz.isAgg5
 z5:=Tryz.sizeOf5
 v5:=Tryz.zeroValue5
 t9:=Tryz.underlying9
 a9:=Tryz.isAgg9
 z9:=Tryz.sizeOf9
 v9:=Tryz.zeroValue9
 t46:=Tryz.underlying88
 a46:=Tryz.isAgg88
 z46:=Tryz.sizeOf88
 v46:=Tryz.zeroValue88
 t51:=Tryz.underlying332
 a51:=Tryz.isAgg332
 z51:=Tryz.sizeOf332
 v51:=Tryz.zeroValue332
 t146:=Tryz.underlying336
 a146:=Tryz.isAgg336
 z146:=Tryz.sizeOf336
 v146:=Tryz.zeroValue336
 g1:=by kernel_rfl }
def Tryz.lays161_ren:Go.Shelf.Ren:=⟨fun|161=>275|231=>294|227=>236|233=>295|235=>296|228=>237|197=>286|151=>314|260=>310|152=>234|137=>264|119=>265|224=>266|225=>267|217=>288|266=>311|n=>n,fun|9=>9|4=>4|3=>3|5=>5|117=>279|116=>278|0=>0|124=>304|105=>316|21=>21|119=>347|46=>88|139=>350|138=>349|n=>n,fun|3=>1|4=>2|n=>n⟩
theorem Tryz.lays161:Go.Proofs.Lays.n161 Tryz.prog Tryz.lays161_ren:={
 mixed:=by kernel_rfl
 f119:=qF Tryz.func265 (by kernel_rfl)
 f137:=qF Tryz.func264 (by kernel_rfl)
 f151:=qF Tryz.func314 (by kernel_rfl)
 f152:=qF Tryz.func234 (by kernel_rfl)
 f161:=qF Tryz.func275 (by kernel_rfl)
 f197:=qF Tryz.func286 (by kernel_rfl)
 f217:=qF Tryz.func288 (by kernel_rfl)
 f224:=qF Tryz.func266 (by kernel_rfl)
 f225:=qF Tryz.func267 (by kernel_rfl)
 f227:=qF Tryz.func236 (by kernel_rfl)
 f228:=qF Tryz.func237 (by kernel_rfl)
 f231:=qF Tryz.func294 (by kernel_rfl)
 f233:=qF Tryz.func295 (by kernel_rfl)
 f235:=qF Tryz.func296 (by kernel_rfl)
 f260:=qF Tryz.func310 (by kernel_rfl)
 f266:=qF Tryz.func311 (by kernel_rfl)
 t0:=Tryz.underlying0
 a0:=Tryz.isAgg0
 z0:=Tryz.sizeOf0
 v0:=Tryz.zeroValue0
 t3:=Tryz.underlying3
 a3:=Tryz.isAgg3
 z3:=Tryz.sizeOf3
 v3:=Tryz.zeroValue3
 t4:=Tryz.underlying4
 a4:=Tryz.isAgg4
 z4:=Tryz.sizeOf4
 v4:=Tryz.zeroValue4
 t5:=Tryz.underlying5
 a5:=Tryz.isAgg5
 z5:=Tryz.sizeOf5
 v5:=Tryz.zeroValue5
 t9:=Tryz.underlying9
 a9:=Tryz.isAgg9
 z9:=Tryz.sizeOf9
 v9:=Tryz.zeroValue9
 t21:=Tryz.underlying21
 a21:=Tryz.isAgg21
 z21:=Tryz.sizeOf21
 v21:=Tryz.zeroValue21
 t46:=Tryz.underlying88
 a46:=Tryz.isAgg88
 z46:=Tryz.sizeOf88
 v46:=Tryz.zeroValue88
 t105:=Tryz.underlying316
 a105:=Tryz.isAgg316
 z105:=Tryz.sizeOf316
 v105:=Tryz.zeroValue316
 t116:=Tryz.underlying278
 a116:=Tryz.isAgg278
 z116:=Tryz.sizeOf278
 t117:=Tryz.underlying279
 a117:=Tryz.isAgg279
 z117:=Tryz.sizeOf279
 v117:=Tryz.zeroValue279
 t119:=Tryz.underlying347
 a119:=Tryz.isAgg347
 z119:=Tryz.sizeOf347
 t124:=Tryz.underlying304
 a124:=Tryz.isAgg304
 z124:=Tryz.sizeOf304
 v124:=Tryz.zeroValue304
 t138:=Tryz.underlying349
 a138:=Tryz.isAgg349
 z138:=Tryz.sizeOf349
 v138:=Tryz.zeroValue349
 t139:=Tryz.underlying350
 a139:=Tryz.isAgg350
 z139:=Tryz.sizeOf350
 v139:=Tryz.zeroValue350
 g3:=by kernel_rfl
 g4:=by kernel_rfl }
def Tryz.lays156_ren:Go.Shelf.Ren:=⟨fun|156=>208|165=>240|166=>141|169=>105|240=>177|241=>269|276=>202|277=>290|n=>n,fun|31=>197|9=>9|3=>3|4=>4|0=>0|20=>20|72=>160|76=>204|70=>157|37=>158|75=>203|127=>207|164=>241|5=>5|80=>167|n=>n,fun|n=>n⟩
theorem Tryz.lays156:Go.Proofs.Lays.n156 Tryz.prog Tryz.lays156_ren:={
 mixed:=by kernel_rfl
 f156:=qF Tryz.func208 (by kernel_rfl)
 f165:=qF Tryz.func240 (by kernel_rfl)
 f166:=qF Tryz.func141 (by kernel_rfl)
 f169:=qF Tryz.func105 (by kernel_rfl)
 f240:=qF Tryz.func177 (by kernel_rfl)
 f241:=qF Tryz.func269 (by kernel_rfl)
 f276:=qF Tryz.func202 (by kernel_rfl)
 f277:=qF Tryz.func290 (by kernel_rfl)
 t0:=Tryz.underlying0
 a0:=Tryz.isAgg0
 z0:=Tryz.sizeOf0
 v0:=Tryz.zeroValue0
 t3:=Tryz.underlying3
 a3:=Tryz.isAgg3
 z3:=Tryz.sizeOf3
 v3:=Tryz.zeroValue3
 t4:=Tryz.underlying4
 a4:=Tryz.isAgg4
 z4:=Tryz.sizeOf4
 v4:=Tryz.zeroValue4
 t9:=Tryz.underlying9
 a9:=Tryz.isAgg9
 z9:=Tryz.sizeOf9
 v9:=Tryz.zeroValue9
 t20:=Tryz.underlying20
 a20:=Tryz.isAgg20
 z20:=Tryz.sizeOf20
 v20:=Tryz.zeroValue20
 t31:=Tryz.underlying197
 a31:=Tryz.isAgg197
 z31:=Tryz.sizeOf197
 v31:=Tryz.zeroValue197
 t37:=Tryz.underlying158
 a37:=Tryz.isAgg158
 z37:=Tryz.sizeOf158
 v37:=Tryz.zeroValue158
 t70:=Tryz.underlying157
 a70:=Tryz.isAgg157
 z70:=Tryz.sizeOf157
 v70:=Tryz.zeroValue157
 t72:=Tryz.underlying160
 a72:=Tryz.isAgg160
 z72:=Tryz.sizeOf160
 v72:=Tryz.zeroValue160
 t75:=Tryz.underlying203
 a75:=Tryz.isAgg203
 z75:=Tryz.sizeOf203
 v75:=Tryz.zeroValue203
 t76:=Tryz.underlying204
 a76:=Tryz.isAgg204
 z76:=Tryz.sizeOf204
 v76:=Tryz.zeroValue204
 t127:=Tryz.underlying207
 a127:=Tryz.isAgg207
 z127:=Tryz.sizeOf207
 v127:=Tryz.zeroValue207
 t164:=Tryz.underlying241
 a164:=Tryz.isAgg241
 z164:=Tryz.sizeOf241
 v164:=Tryz.zeroValue241 }
end Go.Proofs
namespace Go.Proofs.Y
open Go.Sx
theorem Z192(w:World)(s:List UInt8):Calls Tryz.prog 275 #[.string ⟨s.toArray⟩,.string ⟨#[0]⟩] w λe w'=>e=.returned (.string ⟨(s.dropWhile λc=>c == 0).toArray⟩)/\Mod [] w w':=by refine(Z2 (Any.strings_TrimLeft_one Tryz.lays161 ⟨s.toArray⟩ 0 (by decide) w) rfl).mono ?_;rintro e w' ⟨rfl,rfl⟩;exact⟨rfl,Mod.refl _ _⟩
theorem Zz0(s:List UInt8)(c:UInt8):decide (0<=Go.Lib.indexByte s c)=s.any λb=>b == c:=by rw[<- Go.Lib.contains_iff_indexByte,Bool.eq_iff_iff];simp only[List.contains_iff_mem,List.any_eq_true,beq_iff_eq];exact⟨λh=>⟨c,h,rfl⟩,λ⟨x,h,e⟩=>e▸h⟩
theorem Z1ef(w:World)(s:List UInt8):Calls Tryz.prog 207 #[.string ⟨s.toArray⟩,.string ⟨#[47]⟩] w λe w'=>e=.returned (.bool (s.any λc=>c == 47))/\Mod [] w w':=by refine(Z2 (Any.strings_Contains_one Tryz.lays144 ⟨s.toArray⟩ 47 w) rfl).mono ?_;rintro e w' ⟨rfl,rfl⟩;exact⟨by rw[<- Zz0],Mod.refl _ _⟩
theorem Z16e:Builder.Extra Tryz.prog Tryz.lays156_ren where
 sizeBuilder:=by kernel_rfl
 liesBuilder:=by kernel_rfl
 t5:=Tryz.underlying5
 a5:=Tryz.isAgg5
 z5:=Tryz.sizeOf5
 v5:=Tryz.zeroValue5
 infoByte:=by kernel_rfl
 cellsByte:=by kernel_rfl
 sizeByte:=by kernel_rfl
 neB5:=by decide
theorem Zc4:∀ps:List (List UInt8),Go.Lib.join ps [47]=Z66 ps
 | []=>rfl
 | [x]=>Go.Lib.join_one x [47]
 | x::y::r=>by have:=Zc4 (y::r);rw[Go.Lib.join_cons]at this⊢;rw[Z66,<- this];simp[Go.Lib.joinTail]
theorem Zmc:∀ps:List (List UInt8),(ps.map Z1v).flatten=ps.map λp=>Value.string ⟨p.toArray⟩
 | []=>rfl
 | p::ps=>by simp only[List.map_cons,List.flatten_cons,Zmc ps];rfl
theorem Z14d(w:World)(v:Value)(ps:List (List UInt8))(hv:owns w v 9 [.str] (ps.map Z1v))(hl:ps.length<=140737488355328)(hb:(Z66 ps).length<=140737488355328) : Calls Tryz.prog 208 #[sc1 v,.string ⟨#[47]⟩] w λe w'=>e=.returned (.string ⟨(Z66 ps).toArray⟩)/\Mod [] w w':=by
 rw[hv.reads.sc1];obtain⟨hk,hlen,ho⟩:=hv;rcases ho with⟨rfl,hn⟩|⟨g,c,cur,rfl,-,hg,hnc,hcm,hcs,htk⟩
 ·have:ps=[]:=by simpa using hn
  subst this;refine(Z2 (Any.strings_Join_none Tryz.lays156 Z16e none 0 ⟨#[47]⟩ w) rfl).mono ?_;rintro e w' ⟨rfl,rfl⟩;exact⟨rfl,Mod.refl _ _⟩
 ·have hgs:g<w.heap.size:=by
   have:=(Array.getElem?_eq_some_iff.1 hg).1;exact this
  have e1:(ps.map λp=>(⟨p.toArray⟩:ByteArray)).map (λx=>x.data.toList)=ps:=by simp[List.map_map,Function.comp_def]
  have hfl:(ps.map Z1v).flatten=ps.map λp=>Value.string ⟨p.toArray⟩:=by exact Zmc ps
  rw[hfl]at htk;have:=Any.strings_Join Tryz.lays156 Z16e g 0 c (ps.map λp=>(⟨p.toArray⟩:ByteArray)) ⟨#[47]⟩ w (λj x hj=>?_) hgs (by simpa using hl) (by simpa using hnc) (by rw[e1];show(Go.Lib.join ps [47]).length<=_;rw[Zc4];exact hb)
  ·rw[e1,show(⟨#[47]⟩:ByteArray).data.toList=[47] from rfl,Zc4,qy3]at this;rw[qy3];refine(Z2 this rfl).mono ?_;rintro e w' ⟨rfl,h⟩;exact⟨rfl,Mod.of_below h⟩
  ·rw[List.getElem?_map,Option.map_eq_some_iff]at hj;obtain⟨p,hp,rfl⟩:=hj;have h1:=congrArg (λl=>l[j]?) htk;simp only[List.getElem?_map,hp,Option.map_some]at h1;rw[List.getElem?_take_of_lt (by have:=(List.getElem?_eq_some_iff.1 hp).1;simpa using this)]at h1;simp only[World.cell?,hg,Nat.zero_add];simpa using h1
theorem Zc5(w:World)(n:Int)(h:0<=n/\n<=16777215):Calls Tryz.prog 244 #[.int .i64 n] w λe w'=>e=.returned (.string ⟨(Z2i n).toArray⟩)/\Mod [] w w':=by refine Z2 (Z7 (J:=[.i n]) sxE_ok Tryz.func244 Zbk rfl rfl rfl ?_) rfl;simp only[QQ,Nat.reduceAdd];refine⟨[.s (numB 3 n)],rfl,λ_ w' _=>Zjo w' n 3 (by omega) (by omega) (by omega),?_⟩;simp only[QQ,Nat.reduceAdd];refine⟨[.s (Z2i n)],rfl,λ_ w' _=>Z192 w' _,?_⟩;simp only[QQ,Nat.reduceAdd];exact λw' hr=>⟨by trivial,hr.mod⟩
theorem Za8:∀l:List UInt8,(l.dropWhile λc=>c == 0).length<=l.length
 | []=>Nat.le_refl _
 | c::l=>by have:=Za8 l;rw[List.dropWhile_cons];split<;>simp only[List.length_cons]<;>omega
theorem Zz1(n:Int)(os:List Opt)(i:Nat)(h:i<os.length):Zm n (os.take (i+1))=Zm n (os.take i)++(if(os.getD i oD).1=n then[(os.getD i oD).2]else[]):=by
 rw[Z190 os i h,Zre];generalize os.getD i oD=o
 by_cases h1:o.1=n<;>simp[Zm,h1]
theorem Zri(n:Int)(os:List Opt):(Zm n os).length<=os.length:=by rw[Zm,qy3];exact List.length_filter_le _ _
theorem Zum{n:Int}{os:List Opt}{i:Nat}(h:i<os.length)(h1:∀j,j<i->(os.getD j oD).1≠n)(h2:(os.getD i oD).1=n):∃r,Zm n os=(os.getD i oD).2::r:=by
 have e:os=os.take i++os.drop i:=(List.take_append_drop i os).symm;have e0:Zm n (os.take i)=[]:=by refine Zmb λo ho=>?_;obtain⟨j,hj,rfl⟩:=List.getElem_of_mem ho;simp only[List.length_take]at hj;have:=h1 j (by omega);rw[qy1,qy7 (by omega)]at this;rw[List.getElem_take];exact this
 have e1:Zm n (os.drop i)=(os.getD i oD).2::Zm n (os.drop (i+1)):=by
  rw[Z1cb os i h];generalize os.getD i oD=o at h2
  simp[Zm,List.filter_cons,h2]
 exact⟨_,by rw[e,Zre,<- e,e0,e1];rfl⟩
theorem Z14e{n:Int}{os:List Opt}(h:∀j,j<os.length->(os.getD j oD).1≠n):Zm n os=[]:=by refine Zmb λo ho=>?_;obtain⟨j,hj,rfl⟩:=List.getElem_of_mem ho;have:=h j hj;rwa [qy1,qy7 hj]at this
theorem Z14f(w:World)(m:Msg)(v:Value)(n:Int)(hv:Z3i w v m.opts)(hl:m.opts.length<1000000000) : Calls Tryz.prog 209 #[mV m (sc1 v),.int .i64 n] w λe w'=>e=.returned (.tuple #[.int .i64 (Z6v n m.opts).1,.int .i64 (Z6v n m.opts).2])/\Mod [] w w':=by
 refine Z2 (Z3 (J:=[.i m.kind,.i m.code,.i m.id,.s m.tok,.v v,.r (m.opts.map encO),.s m.pay,.i n]) sxE_ok Tryz.func209 Zab rfl rfl (Rel.start2 (by simp[Ent.holds,Ent.wr,hv,X.ev])) rfl rfl ?_) rfl;simp only[QQ,Nat.reduceAdd,qy3,qy4,Z2m,Z2n,Zu];intro b1 b2;generalize m.opts=os at hl⊢
 refine⟨λvs=>∃(x:V) (i:Nat),vs=[x,.i i,.i n]/\i<=os.length/\∀j,j<i->(os.getD j oD).1≠n,λvs=>(os.length - (vs.getD 1 (.i 0)).toI).toNat,⟨_,0,rfl,by omega,λj hj=>by omega⟩,?_⟩;rintro _ - ⟨x,i,rfl,hi,hn⟩;simp only[QQ,Nat.reduceAdd,qy3,qy4,Z2m,Z2n,Zu];refine⟨λh1=>?_,λh1 w' hr=>⟨?_,hr.mod⟩⟩
 ·(repeat refine⟨by omega,?_⟩)
  intro b3;refine⟨λh2=>?_,λh2=>?_⟩
  ·obtain⟨r,e⟩:=Zum (by omega) hn h2;have eu:Z6v n os=Zp0 (os.getD i oD).2:=by rw[Z6v,e]
   rw[eu];generalize (os.getD i oD).2=s
   refine⟨λh3=>by omega,λ_=>⟨λh3 w' hr=>⟨by rw[Zp0,if_pos h3],hr.mod⟩,λh3=>⟨λh4 w' hr=>⟨by subst h4;rfl,hr.mod⟩,λh4=>?_⟩⟩⟩;have eg:getR s 0 s.length=Zp0 s:=by have:=List.length_pos_iff.2 h4;rw[getR,if_pos (by omega),if_pos (by omega),if_neg (by omega),Zp0,if_neg h3];simp
   refine⟨[.i (Zp0 s).1,.i (Zp0 s).2],rfl,λ_ w' _=>?_,?_⟩
   ·have:=Zjq w' s 0 s.length (by omega);rw[eg]at this;exact this
   ·simp only[QQ,Nat.reduceAdd];exact λw' hr=>⟨by trivial,hr.mod⟩
  ·(repeat refine⟨by omega,?_⟩)
   refine⟨⟨_,i+1,rfl,by omega,λj hj=>?_⟩,by omega⟩;by_cases hji:j=i
   ·subst hji;exact h2
   ·exact hn j (by omega)
 ·rw[Z6v,Z14e λj hj=>hn j (by omega)]
theorem Zf8(b:Nat):∀(l:List (List UInt8)),(∀x∈l,x.length<=b)->(Z66 l).length<=l.length*(b+1)
 | [],_=>by simp[Z66]
 | [y],h=>by have:=h y (by simp);simp[Z66];omega
 | y::z::l,h=>by have h1:=Zf8 b (z::l) λx hx=>h x (qy10 _ hx);have h2:=h y (by simp);simp only[Z66,qy11,List.length_cons,Nat.add_mul]at h1⊢;omega
theorem Zrj:∀{os:List Opt} {was:Int},optE was os=0->∀o∈os,o.2.length<=60
 | [],_,_,o,ho=>by simp at ho
 | x::os,was,h,o,ho=>by
  obtain⟨-,-,h3,h4⟩:=Zyw.1 h;rcases List.mem_cons.1 ho with rfl|ho
  ·exact h3
  ·exact Zrj h4 o ho
theorem Z14g{n:Int}{os:List Opt}{x:List UInt8}(h:x∈Zm n os):∃o∈os,o.2=x:=by simp only[Zm,List.mem_map,List.mem_filter]at h;obtain⟨o,⟨h1,-⟩,h2⟩:=h;exact⟨o,h1,h2⟩
theorem Zz2{os:List Opt}(h:Zm 11 os=[]):Z1d os=([],5):=if_pos h
theorem Z14h{os:List Opt}(h:¬Zm 11 os=[])(h1:¬chkT (Z66 (Zm 11 os)) false=0):Z1d os=([],chkT (Z66 (Zm 11 os)) false):=by rw[Z1d,if_neg h,if_neg h1]
theorem Zz3{os:List Opt}(h:¬Zm 11 os=[])(h1:chkT (Z66 (Zm 11 os)) false=0)(h2:(Zm 11 os).any (λv=>v.any λc=>c == 47)=true):Z1d os=([],1):=by rw[Z1d,if_neg h,if_pos h1,if_pos h2]
theorem Zz4{os:List Opt}(h:¬Zm 11 os=[])(h1:chkT (Z66 (Zm 11 os)) false=0)(h2:¬(Zm 11 os).any (λv=>v.any λc=>c == 47)=true):Z1d os=(Z66 (Zm 11 os),0):=by rw[Z1d,if_neg h,if_pos h1,if_neg h2]
theorem Z14i(w:World)(m:Msg)(v:Value)(hv:Z3i w v m.opts)(hc:chk m=0) : Calls Tryz.prog 184 #[mV m (sc1 v)] w λe w'=>e=.returned (.tuple #[.string ⟨(Z1d m.opts).1.toArray⟩,.int .i64 (Z1d m.opts).2])/\Mod [] w w':=by
 obtain⟨-,-,hl,ho,-⟩:=Z91.1 hc;refine Z2 (Z3 (J:=[.i m.kind,.i m.code,.i m.id,.s m.tok,.v v,.r (m.opts.map encO),.s m.pay]) sxE_ok Tryz.func184 Za9 rfl rfl (Rel.start2 (by simp[Ent.holds,Ent.wr,hv,X.ev])) rfl rfl ?_) rfl;simp only[QQ,Nat.reduceAdd,qy3,qy4,Z2m,Z2n,Zu];intro b1;replace hl:=hl.2.1;generalize m.opts=os at hl ho⊢
 have hvl:=Zri 11 os;have hul:(Z66 (Zm 11 os)).length<=12*61:=Nat.le_trans (Zf8 60 _ λx hx=>by obtain⟨o,h1,rfl⟩:=Z14g hx;exact Zrj ho o h1) (by omega);refine⟨λvs=>∃(s:Value) (i:Nat),vs=[.v s,.r ((Zm 11 (os.take i)).map Z1v),.b ((Zm 11 (os.take i)).any λv=>v.any λc=>c == 47),.i i]/\i<=os.length,λvs=>(os.length - (vs.getD 3 (.i 0)).toI).toNat,⟨_,0,rfl,by omega⟩,?_⟩;rintro _ - ⟨s,i,rfl,hi⟩;simp only[QQ,Nat.reduceAdd,qy3,qy4,Z2m,Z2n,Zu];refine⟨λh1=>?_,λh1=>?_⟩
 ·have hs:=Zz1 11 os i (by omega);have hvi:=Zri 11 (os.take i);rw[List.length_take]at hvi
  (repeat refine⟨by omega,?_⟩)
  intro b2;refine⟨λh2 v1=>⟨by simp;omega,λv2=>?_⟩,λh2=>?_⟩
  ·rw[if_pos h2]at hs;refine⟨[.b ((os.getD i oD).2.any λc=>c == 47)],rfl,λ_ w' _=>Z1ef w' _,?_⟩;simp only[QQ,Nat.reduceAdd,qy3,qy4,Z2m,Z2n,Zu];refine⟨by omega,by omega,⟨v2,i+1,?_,by omega⟩,by omega⟩;rw[hs];simp[Z1v]
  ·rw[if_neg h2,List.append_nil]at hs
   (repeat refine⟨by omega,?_⟩)
   exact⟨⟨s,i+1,by rw[hs];rfl,by omega⟩,by omega⟩
 ·have:i=os.length:=by omega
  subst this;rw[List.take_length];refine⟨λh2 w' hr=>⟨?_,hr.mod⟩,λh2=>?_⟩
  ·rw[Zz2 (List.length_eq_zero_iff.1 (by omega))]
  have h2:¬Zm 11 os=[]:=λh=>h2 (by rw[h];rfl);refine⟨[.s (Z66 (Zm 11 os))],rfl,λ_ w' hr=>Z14d w' s _ (hr.at_ 0 rfl) (by omega) (by omega),?_⟩;simp only[QQ,Nat.reduceAdd];refine⟨[.i (chkT (Z66 (Zm 11 os)) false)],rfl,λ_ w' hr=>Zlq w' _ (by omega),?_⟩;simp only[QQ,Nat.reduceAdd];refine⟨λh3=>⟨λ_ w' hr=>⟨?_,hr.mod⟩,λh=>(h (by decide)).elim⟩,λh3=>⟨λh4 w' hr=>⟨?_,hr.mod⟩,λh4 w' hr=>⟨?_,hr.mod⟩⟩⟩
  ·rw[Zz3 h2 h3.1 h3.2]
  ·rw[Z14h h2 h4]
  ·have h4:=qy9.1 h4;rw[Zz4 h2 h4 λh=>h3 ⟨h4,h⟩]
def Zf9(n:Nat)(v:Value)(os:List Opt):Prop:=∀k,(os.map encO).flatten≠[]/\Z1 v k->n<=k
theorem Zf9.mono{n m:Nat}{v:Value}{os:List Opt}(h:Zf9 n v os)(hm:m<=n):Zf9 m v os:=λk hk=>Nat.le_trans hm (h k hk)
theorem Zun(n:Nat)(v:Value):Zf9 n v []:=λk hk=>absurd rfl hk.1
theorem Zjw(w:World)(m n:Msg)(u v:Value)(hu:Z3i w u m.opts)(hv:Z3i w v n.opts)(hl:m.opts.length<1099511627776):Calls Tryz.prog 27 #[mV m (sc1 u),mV n (sc1 v)] w λe w'=>e=.returned (.bool (decide (m.kind=n.kind/\m.code=n.code/\m.id=n.id/\m.tok=n.tok/\m.pay=n.pay/\m.opts=n.opts)))/\Mod [] w w':=by
 refine Z2 (Z3 (J:=[.i m.kind,.i m.code,.i m.id,.s m.tok,.v u,.r (m.opts.map encO),.s m.pay,.i n.kind,.i n.code,.i n.id,.s n.tok,.v v,.r (n.opts.map encO),.s n.pay]) sxE_ok Tryz.func27 Z45 rfl rfl (Rel.start2 (by simp[Ent.holds,Ent.wr,hu,hv,X.ev])) rfl rfl ?_) rfl;simp only[QQ,Nat.reduceAdd,qy3];intro b1 b2;refine⟨λh w' hr=>⟨?_,hr.mod⟩,λh=>?_⟩
 ·rw[decide_eq_false];rintro⟨h1,h2,h3,h4,h5,h6⟩;rcases h with((((h|h)|h)|h)|h)|h
  ·exact h h1
  ·exact h h2
  ·exact h h3
  ·exact h h4
  ·exact h h5
  ·exact h (by rw[h6])
 ·simp only[not_or,qy9]at h;obtain⟨⟨⟨⟨⟨h1,h2⟩,h3⟩,h4⟩,h5⟩,h6⟩:=h;have hlen:m.opts.length=n.opts.length:=by omega
  refine⟨λvs=>∃(i:Nat) (x:V),vs=[x,.i i]/\i<=m.opts.length/\∀j,j<i->m.opts.getD j oD=n.opts.getD j oD,λvs=>(m.opts.length - (vs.getD 1 (.i 0)).toI).toNat,⟨0,_,rfl,by omega,λj hj=>by omega⟩,?_⟩;rintro _ - ⟨i,x,rfl,hi,hall⟩;simp only[QQ,Nat.reduceAdd,qy3,qy4,Z2m,Z2n];refine⟨λh7=>⟨by omega,by omega,λh8 w' hr=>⟨?_,hr.mod⟩,λh8=>⟨by omega,by omega,⟨i+1,x,rfl,by omega,λj hj=>?_⟩,by omega⟩⟩,λh7 w' hr=>⟨?_,hr.mod⟩⟩
  ·rw[decide_eq_false];rintro⟨-,-,-,-,-,h9⟩;rw[h9]at h8;exact h8 ⟨rfl,rfl⟩
  ·by_cases hji:j=i
   ·subst hji;have:=qy9.1 h8;exact Prod.ext this.1 this.2
   ·exact hall j (by omega)
  ·rw[decide_eq_true];refine⟨h1,h2,h3,h4,h5,List.ext_getElem? λj=>?_⟩;by_cases hj:j<m.opts.length
   ·have:=hall j (by omega);rw[qy1,qy1,qy7 hj,qy7 (by omega)]at this;rw[qy7 hj,qy7 (by omega)];simpa using this
   ·rw[List.getElem?_eq_none (by omega),List.getElem?_eq_none (by omega)]
