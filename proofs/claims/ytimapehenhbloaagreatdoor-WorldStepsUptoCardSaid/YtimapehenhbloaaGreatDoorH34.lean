/- By an AI agent. -/
import Derived.Test.YtimapehenhbloaaGreatDoorH33
set_option linter.all false
set_option maxHeartbeats 20000000
set_option maxRecDepth 100000
open Nat renaming reduceAdd→ra
open Bool renaming false→ϐ,true→ϙ
open List renaming length_cons→ϑ,length_nil→ϒ,not_mem_nil→ϓ,take_length→ϕ,length_drop→ϖ,getD_cons_zero→ϗ,append_nil→Ϙ,getD_cons_succ→Ϛ,map_append→Ϝ,length_take→ϣ,drop→Ϥ,take→ϥ,drop_take→Ϧ,drop_drop→ϧ,flatten_append→Ϩ,length_pos_iff→ϩ,getElem_mem→ϭ,drop_length→Ϯ,mem_flatMap→ϯ,map_set→ϲ
open Nat renaming reduceAdd→ϔ,le_trans→ϫ,succ_pos→Ϭ,le_refl→ϳ,zero_le→Ϸ
open Go renaming Value→Ϟ,World→Ϫ,Calls→ϰ
open Go.Proofs.Tryz renaming prog→Ϡ
open Int renaming toNat→Ϣ,add_comm→ϱ
namespace Go.Proofs.Y
open Go.Sx
section
variable {p:Pkt} (hb:Z1l p=pD_Q p.kind)
include hb
theorem Ztb(k:p.kind=8\/p.kind=10):Z20 p=numB 2 p.id++(p.asks.map (Z21 p.kind)).flatten:=by
 obtain⟨b1,b2,b3,b4,b5,b6⟩:=(Z2s p).1 hb;have hi:idB p=ϙ:=by simp only[idB,ϡ];omega
 rw[Z20,Z56,ϛ O,ϛ O,ϛ O,ϝ hi,(b3 O).2.2.2.2,b6 O];simp
theorem Z10t(k:p.kind=9):Z20 p=numB 2 p.id++(p.codes.map (numB 1)).flatten:=by
 obtain⟨b1,b2,b3,b4,b5,b6⟩:=(Z2s p).1 hb;have hi:idB p=ϙ:=by simp only[idB,ϡ];omega
 rw[Z20,Z56,ϛ O,ϛ O,ϛ O,ϝ hi,(b3 O).2.2.2.2,b5 O];simp
theorem Z16t(k:p.kind=4\/p.kind=11):Z20 p=numB 2 p.id:=by
 obtain⟨b1,b2,b3,b4,b5,b6⟩:=(Z2s p).1 hb;have hi:idB p=ϙ:=by simp only[idB,ϡ];omega
 rw[Z20,Z56,ϛ O,ϛ O,ϛ O,ϝ hi,(b3 O).2.2.2.2,b5 O,b6 O];simp
theorem Z16u(k:¬(1<=p.kind/\p.kind<=4)/\¬(8<=p.kind/\p.kind<=11)):Z20 p=[]:=by
 obtain⟨b1,b2,b3,b4,b5,b6⟩:=(Z2s p).1 hb;have hi:idB p=ϐ:=by simp only[idB,decide_eq_false_iff_not];omega
 rw[Z20,Z56,ϛ O,ϛ O,ϛ O,hi,(b3 O).2.2.2.2,b5 O,b6 O];simp
theorem Z16v(k:p.kind=1):Z20 p=txtB [77,81,84,84]++(numB 1 4++numB 1 (bit p.clean 2))++numB 2 p.keep++txtB p.client:=by
 obtain⟨b1,b2,b3,b4,b5,b6⟩:=(Z2s p).1 hb;have hi:idB p=ϐ:=by simp only[idB,decide_eq_false_iff_not];omega
 rw[Z20,Z56,ϝ k,hi,(b3 O).2.2.2.2,b5 O,b6 O];simp
theorem Z1b6(k:p.kind=2):Z20 p=numB 1 (bit p.session 1)++numB 1 p.code:=by
 obtain⟨b1,b2,b3,b4,b5,b6⟩:=(Z2s p).1 hb;have hi:idB p=ϐ:=by simp only[idB,decide_eq_false_iff_not];omega
 rw[Z20,Z56,ϛ O,ϝ k,hi,(b3 O).2.2.2.2,b5 O,b6 O];simp
theorem Z1b7(k:p.kind=3):Z20 p=txtB p.topic++(if p.qos=1 then numB 2 p.id else[])++p.payload:=by
 obtain⟨b1,b2,b3,b4,b5,b6⟩:=(Z2s p).1 hb;have hi:(idB p=ϙ)↔p.qos=1:=by simp only[idB,ϡ];omega
 rw[Z20,Z56,ϛ O,ϛ O,ϝ k,b5 O,b6 O];simp[hi]
end
def Ztc{k:Int}{l:List Rd}{i:Nat}(h:i<l.length):((l.take (i+1)).map (Z21 k)).flatten=((l.take i).map (Z21 k)).flatten++Z21 k (l.getD i yD):=by rw[List.take_add_one,qy1,qy7 h];simp only[Option.toList_some,Option.getD_some,Ϝ,List.map_cons,List.map_nil,Ϩ,List.flatten_cons,List.flatten_nil,Ϙ]
def Zf4(k:Int)(l:List Rd)(i:Nat):((l.take i).map (Z21 k)).flatten.length<=totA k l:=by
 conv=>rhs;unfold totA;rw[<- List.take_append_drop i l,Ϝ,Ϩ,qy11]
 omega
section
variable (w:Ϫ) (p:Pkt) (u v:Ϟ) (hu:Z4h w u p.asks) (hv:Z3p w v p.codes) (hB:ByteP p) (hb:Z1l p=pD_Q p.kind)
include hu hv hB hb
theorem Zlw:ϰ Ϡ 136 #[pV p u v] w λe w'=>e=.returned (.string ⟨(Z2e p).toArray⟩)/\Mod [] w w':=by
 refine Wr (J:=[.i p.kind,.b p.dup,.b p.retain,.b p.clean,.b p.session,.i p.qos,.i p.id,.i p.keep,.i p.code,.s p.client,.s p.topic,.s p.payload,.v u,.r (p.asks.map encA),.v v,.r (p.codes.map Zg)]) Z5i ?_;have hs:=hB.small;have h1:=hs.client;have h2:=hs.topic;have h3:=hs.payload;have h4:=hs.asks;have h5:=hs.codes;have hk:=hB.kind;have hq:=hB.qos;have hid:=hB.id;have hke:=hB.keep;have hco:=hB.code;have hbl:=hB.body;have b2:∀b:Bool,0<=bit b 2/\bit b 2<=2:=λb=>by unfold bit;split<;>omega
 have b1:∀b:Bool,0<=bit b 1/\bit b 1<=1:=λb=>by unfold bit;split<;>omega
 have b8:∀b:Bool,0<=bit b 8/\bit b 8<=8:=λb=>by unfold bit;split<;>omega
 simp only[QR,ra];intro b0
 (repeat refine⟨O,?_⟩)
 refine⟨λvs=>vs=[.i (Z1x p),.s (Z20 p)],⟨λk1=>?_,λk1=>⟨λk2=>?_,λk2=>⟨λk3=>?_,λk3=>⟨λk4=>?_,λk4=>⟨λk11=>?_,λk11=>⟨λk8=>?_,λk8=>⟨λk10=>?_,λk10=>⟨λk9=>?_,λk9=>?_⟩⟩⟩⟩⟩⟩⟩⟩,?_⟩
 ·have hf:Z1x p=16*p.kind:=by rw[Z1x,ϛ O,ϛ O];omega
  refine⟨[.s (txtB [77,81,84,84])],rfl,λ_ w' _=>Zec w' _ U,?_⟩;simp only[QR,ra];refine⟨[.s (numB 1 4)],rfl,λ_ w' _=>Z1b w' 4 1 O O O,?_⟩;simp only[QR,ra,Z12,Zc,qy11]
  (repeat refine⟨O,?_⟩)
  refine⟨[.i (bit p.clean 2)],rfl,λ_ w' _=>Zym w' _ _,?_⟩;simp only[QR,ra,Z12,Zc,qy11];have:=b2 p.clean;refine⟨[.s (numB 1 (bit p.clean 2))],rfl,λ_ w' _=>Z1b w' _ 1 O O O,?_⟩;simp only[QR,ra,Z12,Zc,qy11]
  (repeat refine⟨O,?_⟩)
  refine⟨[.s (numB 2 p.keep)],rfl,λ_ w' _=>Z1b w' _ 2 O O O,?_⟩;simp only[QR,ra,Z12,Zc,qy11]
  (repeat refine⟨O,?_⟩)
  refine⟨[.s (txtB p.client)],rfl,λ_ w' _=>Zec w' _ O,?_⟩;simp only[QR,ra,Z12,Zc,qy11];refine⟨O,?_⟩;rw[hf,Z16v hb k1];simp
 ·have hf:Z1x p=16*p.kind:=by rw[Z1x,ϛ O,ϛ O];omega
  have:=b1 p.session;refine⟨[.i (bit p.session 1)],rfl,λ_ w' _=>Zym w' _ _,?_⟩;simp only[QR,ra];refine⟨[.s (numB 1 (bit p.session 1))],rfl,λ_ w' _=>Z1b w' _ 1 O O O,?_⟩;simp only[QR,ra];refine⟨[.s (numB 1 p.code)],rfl,λ_ w' _=>Z1b w' _ 1 O O O,?_⟩;simp only[QR,ra,Zc];refine⟨O,?_⟩;rw[hf,Z1b6 hb k2]
 ·(repeat refine⟨O,?_⟩)
  have:=b8 p.dup;have:=b1 p.retain;refine⟨[.i (bit p.dup 8)],rfl,λ_ w' _=>Zym w' _ _,?_⟩;simp only[QR,ra]
  (repeat refine⟨O,?_⟩)
  refine⟨[.i (bit p.retain 1)],rfl,λ_ w' _=>Zym w' _ _,?_⟩;simp only[QR,ra]
  (repeat refine⟨O,?_⟩)
  refine⟨[.s (txtB p.topic)],rfl,λ_ w' _=>Zec w' _ O,?_⟩;simp only[QR,ra,Z12,qy11];rw[Z1b7 hb k3,Z1x,ϝ k3];refine⟨λhq1=>?_,λhq1=>⟨O,?_⟩⟩
  ·refine⟨[.s (numB 2 p.id)],rfl,λ_ w' _=>Z1b w' _ 2 O O O,?_⟩;simp only[QR,ra,Z12,Zc,qy11];refine⟨O,O,?_⟩;rw[ϝ hq1]
  ·rw[ϛ hq1,Ϙ]
 ·have hf:Z1x p=16*p.kind:=by rw[Z1x,ϛ O,ϛ O];omega
  refine⟨[.s (numB 2 p.id)],rfl,λ_ w' _=>Z1b w' _ 2 O O O,?_⟩;simp only[QR,ra];rw[hf,Z16t hb (.inl k4)]
 ·have hf:Z1x p=16*p.kind:=by rw[Z1x,ϛ O,ϛ O];omega
  refine⟨[.s (numB 2 p.id)],rfl,λ_ w' _=>Z1b w' _ 2 O O O,?_⟩;simp only[QR,ra];rw[hf,Z16t hb (.inr k11)]
 ·have hf:Z1x p=16*p.kind+2:=by rw[Z1x,ϛ O,ϝ O]
  have hbb:=Ztb hb (.inl k8)
  (repeat refine⟨O,?_⟩)
  refine⟨[.s (numB 2 p.id)],rfl,λ_ w' _=>Z1b w' _ 2 O O O,?_⟩;simp only[QR,ra];refine⟨λvs=>∃i:Nat,vs=[.s (numB 2 p.id++((p.asks.take i).map (Z21 p.kind)).flatten),.i i]/\i<=p.asks.length,λvs=>p.asks.length - (vs.getD 1 (.i 0)).toI.toNat,⟨0,O1,O⟩,?_⟩;rintro _ - ⟨i,rfl,hi⟩;have hfi:=hs.at_ i;have hqi:=hB.ask i;have htl:=Zf4 p.kind p.asks i;have hbb2:(Z20 p).length=2+totA p.kind p.asks:=by rw[hbb,qy11,Zc]
  simp only[QR,ra,gA0,gA1,qy11,Zc];refine⟨λh=>⟨O,?_⟩,λh=>?_⟩
  ·refine⟨[.s (txtB (p.asks.getD i yD).1)],rfl,λ_ w' _=>Zec w' _ O,?_⟩;simp only[QR,ra,gA0,gA1,qy11,Zc,Z12];refine⟨O,?_⟩;refine⟨[.s (numB 1 (p.asks.getD i yD).2)],rfl,λ_ w' _=>Z1b w' _ 1 O O O,?_⟩;simp only[QR,ra,qy11,Zc,Z12];refine⟨O,O,O,⟨i+1,?_,O⟩,O⟩;rw[Ztc O,Z21,ϝ k8];simp
  ·have:i=p.asks.length:=O
   subst this;rw[hf,hbb,ϕ]
 ·have hf:Z1x p=16*p.kind+2:=by rw[Z1x,ϛ O,ϝ O]
  have hbb:=Ztb hb (.inr k10)
  (repeat refine⟨O,?_⟩)
  refine⟨[.s (numB 2 p.id)],rfl,λ_ w' _=>Z1b w' _ 2 O O O,?_⟩;simp only[QR,ra];refine⟨λvs=>∃i:Nat,vs=[.s (numB 2 p.id++((p.asks.take i).map (Z21 p.kind)).flatten),.i i]/\i<=p.asks.length,λvs=>p.asks.length - (vs.getD 1 (.i 0)).toI.toNat,⟨0,O1,O⟩,?_⟩;rintro _ - ⟨i,rfl,hi⟩;have hfi:=hs.at_ i;have hqi:=hB.ask i;have htl:=Zf4 p.kind p.asks i;have hbb2:(Z20 p).length=2+totA p.kind p.asks:=by rw[hbb,qy11,Zc]
  simp only[QR,ra,gA0,gA1,qy11,Zc];refine⟨λh=>⟨O,?_⟩,λh=>?_⟩
  ·refine⟨[.s (txtB (p.asks.getD i yD).1)],rfl,λ_ w' _=>Zec w' _ O,?_⟩;simp only[QR,ra,gA0,gA1,qy11,Zc,Z12];refine⟨O,O,O,⟨i+1,?_,O⟩,O⟩;rw[Ztc O,Z21,ϛ O];simp
  ·have:i=p.asks.length:=O
   subst this;rw[hf,hbb,ϕ]
 ·have hf:Z1x p=16*p.kind:=by rw[Z1x,ϛ O,ϛ O];omega
  have hbb:=Z10t hb k9;refine⟨[.s (numB 2 p.id)],rfl,λ_ w' _=>Z1b w' _ 2 O O O,?_⟩;simp only[QR,ra];refine⟨λvs=>∃i:Nat,vs=[.s (numB 2 p.id++((p.codes.take i).map (numB 1)).flatten),.i i]/\i<=p.codes.length,λvs=>p.codes.length - (vs.getD 1 (.i 0)).toI.toNat,⟨0,O1,O⟩,?_⟩;rintro _ - ⟨i,rfl,hi⟩;have hll:=Zk4 1 (p.codes.take i);have hlt:(p.codes.take i).length<=p.codes.length:=O3
  simp only[QR,ra,gI0,qy11,Zc];refine⟨λh=>⟨O,?_⟩,λh=>?_⟩
  ·have hci:0<=p.codes.getD i 0/\p.codes.getD i 0<=65535:=by
    rw[qy1,qy7 O];exact hB.codes _ (ϭ _)
   refine⟨[.s (numB 1 (p.codes.getD i 0))],rfl,λ_ w' _=>Z1b w' _ 1 O O O,?_⟩;simp only[QR,ra,qy11,Zc];refine⟨O,O,O,⟨i+1,?_,O⟩,O⟩;rw[Zry 1 _ _ O];simp
  ·have:i=p.codes.length:=O
   subst this;rw[hf,hbb,ϕ]
 ·have hf:Z1x p=16*p.kind:=by rw[Z1x,ϛ O,ϛ O];omega
  rw[hf,Z16u hb O]
 rintro _ - rfl;have hfb:=Zsj hk hq;simp only[QR,ra];refine⟨[.s (numB 1 (Z1x p))],rfl,λ_ w' _=>Z1b w' _ 1 O O O,?_⟩;simp only[QR,ra];refine⟨[.s (lngB 3 (Z20 p).length)],rfl,λ_ w' _=>Z19a 3 w' _ O (by show _<268435456;exact hbl),?_⟩;have hll:(lngB 3 (Z20 p).length).length<=4:=Zi3 3 _;simp only[QR,ra,qy11,Zc];exact⟨O,O,λw' hr=>⟨by rw[Z2e],hr.mod⟩⟩
end
abbrev tkAt(w:Ϫ)(b:Nat)(s:By)(a:Nat)(sh:Bool):Prop:=w.heap[b]?=some (.cells (rdV s a sh).toArray 199 (0,0))
section
variable (w:Ϫ) (b:Nat) (s:List UInt8) (a' a:Nat) (sh:Bool) (h:tkAt w b s a' sh) (ha':a'<=s.length) (ha:a<=s.length) (hs:s.length<1000000000) (hsim:sh=ϙ\/a'=a)
include h
theorem Z1kg{k:V}:Rel ⟨[b],w⟩ [.n b,.s s,.i a',.b sh,k] [.cells 0 199 [.str (.var 1),.int .i64 (.var 2),.bool (.var 3)]] w :=
 Zsn (qy2.2 ⟨h,qy5 _⟩) (qy2.2 ⟨λ_ k hk=>by simp only[Ent.fp,QQ,ϔ]at hk;simp[hk],qy5 _⟩) Z2
theorem Z1j6:Rel ⟨[b],w⟩ [.n b,.s s,.i a',.b sh] [.cells 0 199 [.str (.var 1),.int .i64 (.var 2),.bool (.var 3)]] w :=
 Zsn (qy2.2 ⟨h,qy5 _⟩) (qy2.2 ⟨λ_ k hk=>by simp only[Ent.fp,QQ,ϔ]at hk;simp[hk],qy5 _⟩) Z2
include ha' ha hs hsim
theorem Z41(k:Nat)(hk:1<=k/\k<=4):ϰ Ϡ 135 #[.pointer (some ⟨b,0,none⟩),.int .i64 k] w λe w'=>∃n a1,e=.returned (.int .i64 n)/\tkAt w' b s a1 (rdN s k a sh).2.2/\a1<=s.length/\((rdN s k a sh).2.2=ϙ\/n=(rdN s k a sh).1/\a1=(rdN s k a sh).2.1)/\Mod [b] w w':=by
 refine Wu (J:=[.n b,.s s,.i a',.b sh,.i k]) Z52 (Z1kg w b s a' sh h) ?_;simp only[QQ,ϔ];refine⟨[.i (getR s a' k).1,.i (getR s a' k).2],rfl,λ_ w' _=>Zoz w' s a' k (by omega),?_⟩;simp only[QQ,ϔ];by_cases hsh:sh=ϙ
 ·subst hsh;have e:(rdN s k a ϙ).2.2=ϙ:=(Z2o s k a ϙ ha).2.2.2.2.1 rfl;rw[e];exact⟨λ_ w' hr=>⟨0,a',rfl,hr.at_ 0 rfl,ha',.inl rfl,hr.mod⟩,λh=>ϟ (.inl rfl) h⟩
 ·have hsh:sh=ϐ:=by simpa using hsh
  subst hsh;obtain rfl:a'=a:=hsim.resolve_left (by simp);by_cases hh:a'+k<=s.length
  ·have e1:getR s a' k=(((beN ((s.drop a').take k) 0:Nat):Int),0):=by
    have:=Z9v (s:=s) (at_:=a') (b:=k) (by omega) (by omega) (by omega);simpa using this
   have e2:rdN s k a' ϐ=(((beN ((s.drop a').take k) 0:Nat):Int),a'+k,ϐ):=by rw[rdN,ϝ hh]
   rw[e1,e2];refine⟨λh=>ϟ h (by simp),λ_=>⟨by omega,by omega,λw' hr=>⟨_,a'+k,rfl,?_,hh,.inr ⟨rfl,rfl⟩,hr.mod⟩⟩⟩;have hc:=hr.at_ 0 rfl;simp only[Ent.holds,QQ,ϔ]at hc;rw[tkAt,hc];simp[rdV]
  ·have e1:getR s a' k=(0,8):=Z3k (by omega) (by omega) (by omega);have e2:rdN s k a' ϐ=(0,s.length,ϙ):=by rw[rdN,ϛ hh]
   rw[e1,e2];exact⟨λ_ w' hr=>⟨0,a',rfl,hr.at_ 0 rfl,ha',.inl rfl,hr.mod⟩,λh=>ϟ (.inr (by decide)) h⟩
theorem Zqd:ϰ Ϡ 134 #[.pointer (some ⟨b,0,none⟩)] w λe w'=>∃t a1,e=.returned (.string ⟨t.toArray⟩)/\tkAt w' b s a1 (rdT s a sh).2.2/\a1<=s.length/\((rdT s a sh).2.2=ϙ\/t=(rdT s a sh).1/\a1=(rdT s a sh).2.1)/\Mod [b] w w':=by
 refine Wu (J:=[.n b,.s s,.i a',.b sh]) Z6e (Z1j6 w b s a' sh h) ?_;simp only[QQ,ϔ];refine⟨[.s (getT s a').1,.i (getT s a').2.1,.i (getT s a').2.2],rfl,λ_ w' _=>Zue w' s a' (by omega),?_⟩;simp only[QQ,ϔ];by_cases hsh:sh=ϙ
 ·subst hsh;have e:(rdT s a ϙ).2.2=ϙ:=(Z7p s a ϙ ha).2.2.2.1 rfl;rw[e];exact⟨λ_ w' hr=>⟨[],a',rfl,hr.at_ 0 rfl,ha',.inl rfl,hr.mod⟩,λh=>ϟ (.inl rfl) h⟩
 ·have hsh:sh=ϐ:=by simpa using hsh
  subst hsh;obtain rfl:a'=a:=hsim.resolve_left (by simp);have key:((a':Int)+(getT s a').2.1=((rdT s a' ϐ).2.1:Nat))/\(getT s a').1=(rdT s a' ϐ).1/\((getT s a').2.2=0↔(rdT s a' ϐ).2.2=ϐ):=by
   by_cases h2:a'+2<=s.length
   ·have e1:getR s a' 2=(((beN ((s.drop a').take 2) 0:Nat):Int),0):=by
     have:=Z9v (s:=s) (at_:=a') (b:=2) (by omega) (by omega) (by omega);simpa using this
    rw[getT,e1,ϝ rfl,rdT];simp only;by_cases h3:a'+2+beN ((s.drop a').take 2) 0<=s.length
    ·rw[ϛ (by omega),ϝ ⟨h2,h3⟩];refine⟨by simp only;omega,?_,by simp⟩;have e3:((a':Int)+2+((beN ((s.drop a').take 2) 0:Nat):Int)).toNat=a'+2+beN ((s.drop a').take 2) 0:=by omega
     have e4:((a':Int)+2).toNat=a'+2:=by omega
     simp only[e3,e4];rw[Ϧ];congr 1
     omega
    ·rw[ϝ (by omega),ϛ (by omega)];exact⟨by simp,rfl,by simp⟩
   ·have e1:getR s a' 2=(0,8):=Z3k (by omega) (by omega) (by omega);rw[getT,e1,ϛ (by simp),rdT,ϛ (by omega)];exact⟨by simp,rfl,by simp⟩
  obtain⟨k1,k2,k3⟩:=key;have kb:=Z7p s a' ϐ ha;cases hb:(rdT s a' ϐ).2.2 with
  | true =>
   have hne:¬(getT s a').2.2=0:=λh0=>by rw[k3.1 h0]at hb;cases hb
   exact⟨λ_ w' hr=>⟨[],a',rfl,hr.at_ 0 rfl,ha',.inl rfl,hr.mod⟩,λh=>ϟ (.inr hne) h⟩
  | false =>
   have he:(getT s a').2.2=0:=k3.2 hb;refine⟨λh=>ϟ h (by simp[he]),λ_=>?_⟩;rw[k1];refine⟨by omega,by omega,λw' hr=>⟨_,(rdT s a' ϐ).2.1,rfl,?_,kb.2.1,.inr ⟨k2,rfl⟩,hr.mod⟩⟩;have hc:=hr.at_ 0 rfl;simp only[Ent.holds,QQ,ϔ]at hc;rw[k1]at hc;exact hc
end
abbrev at0(s:By):Nat:=(1+(getL s 1).2.1).toNat
abbrev knd(s:By):Nat:=(s.getD 0 0).toNat / 16
section
variable {s:List UInt8}
def Zvj(h:knd s≠3):begP (s.getD 0 0).toNat=pD_Q ((knd s:Nat):Int):=by rw[begP,ϛ h]
def Zyn(h:knd s=1):Z1a s=Zcx s (pD_Q 1) (at0 s) ϐ:=by rw[Z1a,Zvj O,h,Zhj];have e:headD s (pD_Q ((1:Nat):Int)) (at0 s) ϐ=Zcx s (pD_Q 1) (at0 s) ϐ:=rfl;rw[e];have e2:idD s (Zcx s (pD_Q 1) (at0 s) ϐ)=Zcx s (pD_Q 1) (at0 s) ϐ:=rfl;rw[e2];rfl
def Z1j7(h:knd s=2):Z1a s=({ pD_Q 2 with session:=decide ((rdN s 1 (at0 s) ϐ).1=1),code:=(rdN s 1 (rdN s 1 (at0 s) ϐ).2.1 (rdN s 1 (at0 s) ϐ).2.2).1 },(rdN s 1 (rdN s 1 (at0 s) ϐ).2.1 (rdN s 1 (at0 s) ϐ).2.2).2):=by rw[Z1a,Zvj O,h,Zhj];rfl
def Z1j8(h:knd s=3):Z1a s=Z38 s (idD s ({ begP (s.getD 0 0).toNat with topic:=(rdT s (at0 s) ϐ).1 },(rdT s (at0 s) ϐ).2)):=by
 have hk:(begP (s.getD 0 0).toNat).kind=3:=by rw[begP,ϝ h]
 rw[Z1a,Zhj,headD,ϛ O,ϛ O,ϝ hk]
def Z1j9(h:knd s=4\/(8<=knd s/\knd s<=11)):Z1a s=Z38 s ({ pD_Q ((knd s:Nat):Int)with id:=(rdN s 2 (at0 s) ϐ).1 },(rdN s 2 (at0 s) ϐ).2):=by
 rw[Z1a,Zvj O];generalize knd s=k at h⊢
 have e:headD s (pD_Q (k:Int)) (at0 s) ϐ=(pD_Q (k:Int),at0 s,ϐ):=by rw[headD,ϛ O4,ϛ O4,ϛ O4]
 rw[Zhj,e,idD,ϝ (by simp only[idB,ϡ];omega)]
def Z1ja(h:12<=knd s/\knd s<=14):Z1a s=(pD_Q ((knd s:Nat):Int),at0 s,ϐ):=by
 rw[Z1a,Zvj O];generalize knd s=k at h⊢
 have e:headD s (pD_Q (k:Int)) (at0 s) ϐ=(pD_Q (k:Int),at0 s,ϐ):=by rw[headD,ϛ O4,ϛ O4,ϛ O4]
 rw[Zhj,e,idD,ϛ (by simp only[idB,ϡ];omega),Z38,ϛ O4,ϛ O4,ϛ O4]
variable{q:Pkt}
def Z16w{a:Nat}{b:Bool}(hk:q.kind≠3)(h:¬(8<=q.kind/\q.kind<=10/\b=ϐ/\a<s.length)):Z38 s (q,a,b)=(q,a,b):=by
 rw[Z38,ϛ hk];split
 ·rename_i h8;simp only at h8;simp only;rw[Zie (λhh=>h ⟨O,O,hh.2,hh.1⟩)]
 ·split
  ·rename_i h9;simp only at h9;simp only;rw[Zpp (λhh=>h ⟨O,O,hh.2,hh.1⟩)]
  ·rfl
def Z10u{a:Nat}(hk:q.kind=8\/q.kind=10)(h:a<s.length):Z38 s (q,a,ϐ)=Z38 s ({ q with asks:=q.asks++[(Z1e s q.kind a ϐ).1] },(Z1e s q.kind a ϐ).2):=by rw[Z38,ϛ O4,ϝ hk,Z38,ϛ O4,ϝ hk];simp only;rw[Zkr ⟨h,rfl⟩]
def Zl8{a:Nat}(hk:q.kind=9)(h:a<s.length):Z38 s (q,a,ϐ)=Z38 s ({ q with codes:=q.codes++[(rdN s 1 a ϐ).1] },(rdN s 1 a ϐ).2):=by rw[Z38,ϛ O4,ϛ O4,ϝ hk,Z38,ϛ O4,ϛ O4,ϝ hk];simp only;rw[Zks ⟨h,rfl⟩]
def Zl9:(Z1a s).1.kind=(begP (s.getD 0 0).toNat).kind/\(Z1a s).1.qos=(begP (s.getD 0 0).toNat).qos:=by
 unfold Z1a Zhj;have h1:∀(p:Pkt) a b,(headD s p a b).1.kind=p.kind/\(headD s p a b).1.qos=p.qos:=λp a b=>by unfold headD;(repeat' split)<;>exact⟨rfl,rfl⟩
 have h2:∀q:RS,(idD s q).1.kind=q.1.kind/\(idD s q).1.qos=q.1.qos:=λq=>by unfold idD;split<;>exact⟨rfl,rfl⟩
 have h3:∀q:RS,(Z38 s q).1.kind=q.1.kind/\(Z38 s q).1.qos=q.1.qos:=λq=>by unfold Z38;(repeat' split)<;>exact⟨rfl,rfl⟩
 exact⟨by rw[(h3 _).1,(h2 _).1,(h1 _ _ _).1],by rw[(h3 _).2,(h2 _).2,(h1 _ _ _).2]⟩
def Ztd:(Z1a s).1.kind=((knd s:Nat):Int):=by
 rw[Zl9.1,begP];split
 ·rename_i h;rw[show knd s=3 from h];rfl
 ·rfl
def Z16x{q:RS}(h:Z1l q.1=pD_Q q.1.kind):Z1l (Z38 s q).1=pD_Q (Z38 s q).1.kind:=by
 rw[Z2s]at h⊢;obtain⟨b1,b2,b3,b4,b5,b6⟩:=h;unfold Z38;split
 ·rename_i hk;exact⟨b1,b2,λhn=>ϟ hk hn,b4,b5,b6⟩
 ·split
  ·rename_i hk;exact⟨b1,b2,b3,b4,λhn=>by simp only at hn;omega,b6⟩
  ·split
   ·rename_i hk;exact⟨b1,b2,b3,b4,b5,λhn=>ϟ hk hn⟩
   ·exact⟨b1,b2,b3,b4,b5,b6⟩
def Z1gi{q:RS}(h:Z1l q.1=pD_Q q.1.kind):Z1l (idD s q).1=pD_Q (idD s q).1.kind:=by
 rw[Z2s]at h⊢;obtain⟨b1,b2,b3,b4,b5,b6⟩:=h;unfold idD;split
 ·rename_i hk;simp only[idB,ϡ]at hk;exact⟨b1,b2,b3,λhn=>by simp only at hn;omega,b5,b6⟩
 ·exact⟨b1,b2,b3,b4,b5,b6⟩
def Z16y{p:Pkt}{a:Nat}{b:Bool}(h:Z1l p=pD_Q p.kind):Z1l (headD s p a b).1=pD_Q (headD s p a b).1.kind:=by
 rw[Z2s]at h⊢;obtain⟨b1,b2,b3,b4,b5,b6⟩:=h;unfold headD;split
 ·rename_i hk;exact⟨λhn=>ϟ hk hn,b2,b3,b4,b5,b6⟩
 ·split
  ·rename_i hk;exact⟨b1,λhn=>ϟ hk hn,b3,b4,b5,b6⟩
  ·split
   ·rename_i hk;exact⟨b1,b2,λhn=>ϟ hk hn,b4,b5,b6⟩
   ·exact⟨b1,b2,b3,b4,b5,b6⟩
def Z16z:Z1l (Z1a s).1=pD_Q (Z1a s).1.kind:=by unfold Z1a Zhj;refine Z16x (Z1gi (Z16y ?_));rw[Z2s];unfold begP;split<;>simp
end
section
variable {s:List UInt8} (hl0:(getL s 1).2.2=0) (hs:s.length<=60000000)
include hl0
theorem s_ne:¬(s=[]\/(getL s 1).2.2≠0):=by
 rintro(rfl|h)
 ·revert hl0;decide +kernel
 ·exact h hl0
theorem Zyo(hB:(Z1a s).2.2=ϙ\/Z3i (Z1a s).1.kind=ϐ\/1<(Z1a s).1.qos\/Z2e (Z1a s).1≠s):decD s=(pD_Q 0,1):=by rw[decD,ϛ (s_ne hl0),ϝ hB]
include hs
theorem Zte(h:Z2e (Z1a s).1=s):1+(getL s 1).2.1+(getL s 1).1=s.length:=by
 have hb:=((Zpq hl0).1.byte hs).body;have hg:=Zzs hb [];rw[Ϙ,h]at hg;have hl:s.length=1+(lngB 3 (Z20 (Z1a s).1).length).length+(Z20 (Z1a s).1).length:=by
  conv=>lhs;rw[<- h]
  simp only[Z2e,qy11,Zc]
 rw[hg];simp only;omega
theorem Z1b8(h:1+(getL s 1).2.1+(getL s 1).1≠s.length):decD s=(pD_Q 0,1) :=
 Zyo hl0 (.inr (.inr (.inr λhh=>h (Zte hl0 hs hh))))
end
def finI(s:By):List V->Prop:=λvs=>∃(q:Pkt) (a:Nat) (bad:Bool) (x y:Ϟ),vs=[.i 0,.s s,.i a,.b bad,.i q.kind,.b q.dup,.b q.retain,.b q.clean,.b q.session,.i q.qos,.i q.id,.i q.keep,.i q.code,.s q.client,.s q.topic,.s q.payload,.v x,.r (q.asks.map encA),.v y,.r (q.codes.map Zg),.i 0,.b ϐ,.b ϐ,.b ϐ,.b ϐ,.i 0,.i 0,.i 0,.i 0,.s [],.s [],.s [],.v nilV,.r [],.v nilV,.r []] /\
 bad=(Z1a s).2.2/\(bad=ϙ\/q=(Z1a s).1)/\¬1<(Z1a s).1.qos
def tkI(s:By)(r:RS):List V->Prop:=λvs=>∃(q q0:Pkt) (a a0:Nat) (bad:Bool) (x y:Ϟ),vs=[.s s,.i a,.b bad,.i q.kind,.b q.dup,.b q.retain,.b q.clean,.b q.session,.i q.qos,.i q.id,.i q.keep,.i q.code,.s q.client,.s q.topic,.s q.payload,.v x,.r (q.asks.map encA),.v y,.r (q.codes.map Zg)] /\
 a<=s.length/\a0<=s.length/\(bad=ϙ\/q=q0/\a=a0)/\(bad=ϐ->q.asks.length<=a/\q.codes.length<=a)/\Z38 s (q0,a0,bad)=Z38 s r/\q0.kind=r.1.kind
def Z10v(w:Ϫ)(s:By)(hs:s.length<=60000000):ϰ Ϡ 80 #[.string ⟨s.toArray⟩] w λe w'=>∃x y,e=.returned (.tuple #[pV (decD s).1 x y,.int .i64 (decD s).2])/\Zpr w w' (decD s).1 x y:=by
  refine Wu (J:=[.s s]) Z7w (Rel.start w _) ?_;have hz:Ϣ 0=0:=rfl;have hs1:s.length<1000000000:=O
  have ek:(((s.getD 0 0).toNat:Nat):Int) / 16=((knd s:Nat):Int):=by unfold knd;omega
  have hc:=Z5c (s.getD 0 0);have hgb:=Zjq s 1;simp only[QR,ra];intro b1;refine⟨λh w' hr=>⟨nilV,nilV,?_⟩,λh0=>?_⟩
  . rw[decD,ϝ (.inl h)];exact⟨rfl,Z1y hr.mod 0⟩
  have hlen:0<s.length:=ϩ.2 h0;refine⟨[.i (getL s 1).1,.i (getL s 1).2.1,.i (getL s 1).2.2],rfl,λ_ w' _=>Zjr w' s 1 O,?_⟩;simp only[QR,ra,hz,ek];refine⟨O,?_⟩;refine⟨λvs=>(vs.getD 1 (.i 0)).toB=ϙ↔((getL s 1).2.2≠0\/1+(getL s 1).2.1+(getL s 1).1≠s.length\/¬Z3i (knd s:Nat)=ϙ),?_,?_⟩
  . (repeat refine⟨O,?_⟩)
    refine⟨λh=>?_,λh=>⟨λh1=>?_,λh1=>?_⟩⟩
    . simp only[Ϛ,ϗ,V.toB_b];refine⟨λ_=>?_,λ_=>O6⟩;rcases h with h|h
      . exact .inl h
      . exact .inr (.inl h)
    . have h2:¬(getL s 1).2.2≠0/\¬1+(getL s 1).2.1+(getL s 1).1≠s.length:=⟨λhh=>h (.inl hh),λhh=>h (.inr hh)⟩
      simp only[Ϛ,ϗ,V.toB_b,h2.1,h2.2,false_or,Z3i,ϡ,Bool.not_eq_true',Bool.and_eq_false_iff,decide_eq_false_iff_not];omega
    . have h2:¬(getL s 1).2.2≠0/\¬1+(getL s 1).2.1+(getL s 1).1≠s.length:=⟨λhh=>h (.inl hh),λhh=>h (.inr hh)⟩
      simp only[Ϛ,ϗ,V.toB_b,h2.1,h2.2,false_or,Z3i,ϡ,Bool.false_eq_true,false_iff];omega
  intro vs hl hI
  match vs,hl,hI with
  | [x0,x1],_,hI =>
  simp only[QR,ra,hz,ek]at hI⊢;refine⟨λh w' hr=>⟨nilV,nilV,?_⟩,λh=>?_⟩
  . have hd:decD s=(pD_Q 0,1):=by
      by_cases he:(getL s 1).2.2=0
      . rcases hI.1 h with h|h|h
        . exact ϟ he h
        . exact Z1b8 he hs h
        . exact Zyo he (.inr (.inl (by rw[Ztd];simpa using h)))
      . rw[decD,ϝ (.inr he)]
    rw[hd];exact⟨rfl,Z1y hr.mod 0⟩
  have hI:¬((getL s 1).2.2≠0\/1+(getL s 1).2.1+(getL s 1).1≠s.length\/¬Z3i (knd s:Nat)=ϙ):=λhh=>h (hI.2 hh);have hl0:(getL s 1).2.2=0:=qy9.1 λhh=>hI (.inl hh);have hlen2:1+(getL s 1).2.1+(getL s 1).1=s.length:=qy9.1 λhh=>hI (.inr (.inl hh));have hkb:Z3i (knd s:Nat)=ϙ:=qy9.1 λhh=>hI (.inr (.inr hh));clear h hI;have hk:=hkb;simp only[Z3i,ϡ]at hk;have hat:=Zv0 (a:=1) hl0;have hln:at0 s<=s.length:=hat.2.1;have ha0:1+(getL s 1).2.1=((at0 s:Nat):Int):=by unfold at0;omega
  intro b8
  (repeat refine⟨O,?_⟩)
  intro b9;refine⟨finI s,⟨λk1=>?_,λk1=>⟨λk2=>?_,λk2=>⟨λk3=>?_,λk3=>?_⟩⟩⟩,?_⟩
  . have k1:knd s=1:=O
    have hq0:¬1<(Z1a s).1.qos:=by rw[Zl9.2,Zvj O];simp
    rw[Zyn k1]at hq0;have t1:=Z7p s (at0 s) ϐ hln;intro w1 hr;have hc0:=hr.at_ 0 rfl;simp only[Ent.holds,QQ,ϔ]at hc0;rw[ha0]at hc0;refine(Zqd w1 b9 s (at0 s) (at0 s) ϐ hc0 hln hln hs1 (.inr rfl)).mono ?_;rintro e w2 ⟨n1,a1,rfl,h1,hle1,q1,m1⟩;refine⟨[.s n1,.s s,.i a1,.b _],rfl,rfl,m1,qy2.2 ⟨h1,qy5 _⟩,(λx hx=>ϟ hx ϓ),Z8,?_⟩;simp only[QR,ra];clear m1 h1 hr hc0;generalize hT1:rdT s (at0 s) ϐ=T1 at t1 q1⊢
    have t2:=Z2o s 1 T1.2.1 T1.2.2 t1.2.1;intro w1 hr;refine(Z41 w1 b9 s a1 T1.2.1 T1.2.2 (hr.at_ 0 rfl) hle1 t1.2.1 hs1 (q1.imp id (·.2)) 1 O).mono ?_;rintro e w2 ⟨n2,a2,rfl,h1,hle2,q2,m1⟩;refine⟨[.i n2,.s s,.i a2,.b _],rfl,rfl,m1,qy2.2 ⟨h1,qy5 _⟩,(λx hx=>ϟ hx ϓ),Z8,?_⟩;simp only[QR,ra];clear m1 h1 hr;generalize hT2:rdN s 1 T1.2.1 T1.2.2=T2 at t2 q2⊢
    have t3:=Z2o s 1 T2.2.1 T2.2.2 t2.2.2.2.1;intro w1 hr;refine(Z41 w1 b9 s a2 T2.2.1 T2.2.2 (hr.at_ 0 rfl) hle2 t2.2.2.2.1 hs1 (q2.imp id (·.2)) 1 O).mono ?_;rintro e w2 ⟨n3,a3,rfl,h1,hle3,q3,m1⟩;refine⟨[.i n3,.s s,.i a3,.b _],rfl,rfl,m1,qy2.2 ⟨h1,qy5 _⟩,(λx hx=>ϟ hx ϓ),Z8,?_⟩;simp only[QR,ra];clear m1 h1 hr;generalize hT3:rdN s 1 T2.2.1 T2.2.2=T3 at t3 q3⊢
    have t4:=Z2o s 2 T3.2.1 T3.2.2 t3.2.2.2.1;intro w1 hr;refine(Z41 w1 b9 s a3 T3.2.1 T3.2.2 (hr.at_ 0 rfl) hle3 t3.2.2.2.1 hs1 (q3.imp id (·.2)) 2 O).mono ?_;rintro e w2 ⟨n4,a4,rfl,h1,hle4,q4,m1⟩;refine⟨[.i n4,.s s,.i a4,.b _],rfl,rfl,m1,qy2.2 ⟨h1,qy5 _⟩,(λx hx=>ϟ hx ϓ),Z8,?_⟩;simp only[QR,ra];clear m1 h1 hr;generalize hT4:rdN s 2 T3.2.1 T3.2.2=T4 at t4 q4⊢
    have t5:=Z7p s T4.2.1 T4.2.2 t4.2.2.2.1;intro w1 hr;refine(Zqd w1 b9 s a4 T4.2.1 T4.2.2 (hr.at_ 0 rfl) hle4 t4.2.2.2.1 hs1 (q4.imp id (·.2))).mono ?_;rintro e w2 ⟨n5,a5,rfl,h1,hle5,q5,m1⟩;refine⟨[.s n5,.s s,.i a5,.b _],rfl,rfl,m1,qy2.2 ⟨h1,qy5 _⟩,(λx hx=>ϟ hx ϓ),Z8,?_⟩;simp only[QR,ra];clear m1 h1 hr;generalize hT5:rdT s T4.2.1 T4.2.2=T5 at t5 q5⊢
    simp only[hz,ek,k1];have hc5:Zcx s (pD_Q 1) (at0 s) ϐ=({ pD_Q 1 with clean:=decide (T3.1=2),keep:=T4.1,client:=T5.1 },T5.2):=by rw[Zcx];simp only[hT1,hT2,hT3,hT4,hT5]
    refine⟨{ pD_Q 1 with clean:=decide (n3=2),keep:=n4,client:=n5 },a5,T5.2.2,nilV,nilV,rfl,?_,?_,by rw[Zyn k1];exact hq0⟩
    . rw[Zyn k1,hc5]
    . rw[Zyn k1,hc5];cases hb:T5.2.2 with
      | true=>exact .inl rfl
      | false =>
        right;obtain⟨b5,-⟩:=t5.2.2.2.2 hb;obtain⟨b4,-⟩:=t4.2.2.2.2.2 b5;obtain⟨b3,-⟩:=t3.2.2.2.2.2 b4;rw[(q5.resolve_left (by rw[hb];simp)).1,(q4.resolve_left (by rw[b5];simp)).1,(q3.resolve_left (by rw[b4];simp)).1]
  . have k2:knd s=2:=O
    have hq0:¬1<(Z1a s).1.qos:=by rw[Zl9.2,Zvj O];simp
    have t1:=Z2o s 1 (at0 s) ϐ hln;intro w1 hr;have hc0:=hr.at_ 0 rfl;simp only[Ent.holds,QQ,ϔ]at hc0;rw[ha0]at hc0;refine(Z41 w1 b9 s (at0 s) (at0 s) ϐ hc0 hln hln hs1 (.inr rfl) 1 O).mono ?_;rintro e w2 ⟨n1,a1,rfl,h1,hle1,q1,m1⟩;refine⟨[.i n1,.s s,.i a1,.b _],rfl,rfl,m1,qy2.2 ⟨h1,qy5 _⟩,(λx hx=>ϟ hx ϓ),Z8,?_⟩;simp only[QR,ra];clear m1 h1 hr hc0;have hr2:=Z1j7 k2;generalize hT1:rdN s 1 (at0 s) ϐ=T1 at t1 q1 hr2⊢
    have t2:=Z2o s 1 T1.2.1 T1.2.2 t1.2.2.2.1;intro w1 hr;refine(Z41 w1 b9 s a1 T1.2.1 T1.2.2 (hr.at_ 0 rfl) hle1 t1.2.2.2.1 hs1 (q1.imp id (·.2)) 1 O).mono ?_;rintro e w2 ⟨n2,a2,rfl,h1,hle2,q2,m1⟩;refine⟨[.i n2,.s s,.i a2,.b _],rfl,rfl,m1,qy2.2 ⟨h1,qy5 _⟩,(λx hx=>ϟ hx ϓ),Z8,?_⟩;simp only[QR,ra];clear m1 h1 hr;generalize hT2:rdN s 1 T1.2.1 T1.2.2=T2 at t2 q2 hr2⊢
    simp only[hz,ek,k2];refine⟨{ pD_Q 2 with session:=decide (n1=1),code:=n2 },a2,T2.2.2,nilV,nilV,rfl,?_,?_,hq0⟩
    . rw[hr2]
    . rw[hr2];cases hb:T2.2.2 with
      | true=>exact .inl rfl
      | false =>
        right;obtain⟨b2,-⟩:=t2.2.2.2.2.2 hb;rw[(q2.resolve_left (by rw[hb];simp)).1,(q1.resolve_left (by rw[b2];simp)).1]
  . have k3:knd s=3:=O
    generalize hcc:(s.getD 0 0).toNat=c at hc
    have hbeg:begP c={ pD_Q 3 with dup:=decide (c / 8 % 2=1),qos:=((c / 2 % 4:Nat):Int),retain:=decide (c % 2=1) }:=by rw[<- hcc,begP,ϝ (show(s.getD 0 0).toNat / 16=3 from k3),hcc];rfl
    have hqos:(Z1a s).1.qos=((c / 2 % 4:Nat):Int):=by rw[Zl9.2,hcc,hbeg]
    refine⟨O,?_⟩;have eq1:((c:Int) % 16 / 2) % 4=((c / 2 % 4:Nat):Int):=O
    rw[eq1];refine⟨λh w' hr=>⟨nilV,nilV,?_⟩,λhqn=>?_⟩
    . rw[Zyo hl0 (.inr (.inr (.inl (by rw[hqos];exact h))))];exact⟨rfl,Z1y hr.mod 0⟩
    have hq0:¬1<(Z1a s).1.qos:=by rw[hqos];exact hqn
    have hr3:=Z1j8 k3;rw[hcc,hbeg]at hr3;have ed:decide (8<=(c:Int) % 16)=decide (c / 8 % 2=1):=decide_eq_decide.2 O;have er:decide ((c:Int) % 16 % 2=1)=decide (c % 2=1):=decide_eq_decide.2 O;have t1:=Z7p s (at0 s) ϐ hln;intro w1 hr;have hc0:=hr.at_ 0 rfl;simp only[Ent.holds,QQ,ϔ]at hc0;rw[ha0]at hc0;refine(Zqd w1 b9 s (at0 s) (at0 s) ϐ hc0 hln hln hs1 (.inr rfl)).mono ?_;rintro e w2 ⟨n1,a1,rfl,h1,hle1,q1,m1⟩;refine⟨[.s n1,.s s,.i a1,.b _],rfl,rfl,m1,qy2.2 ⟨h1,qy5 _⟩,(λx hx=>ϟ hx ϓ),Z8,?_⟩;simp only[QR,ra,hz,hcc,eq1];clear m1 h1 hr hc0;generalize hT1:rdT s (at0 s) ϐ=T1 at t1 q1 hr3⊢
    refine⟨λhq=>?_,λhq=>?_⟩
    . have hid:idB { pD_Q 3 with dup:=decide (c / 8 % 2=1),qos:=((c / 2 % 4:Nat):Int),retain:=decide (c % 2=1),topic:=T1.1 }=ϙ:=by simp only[idB,hq];decide
      rw[idD,ϝ hid]at hr3;have t2:=Z2o s 2 T1.2.1 T1.2.2 t1.2.1;intro w1 hr;refine(Z41 w1 b9 s a1 T1.2.1 T1.2.2 (hr.at_ 0 rfl) hle1 t1.2.1 hs1 (q1.imp id (·.2)) 2 O).mono ?_;rintro e w2 ⟨n2,a2,rfl,h1,hle2,q2,m1⟩;refine⟨[.i n2,.s s,.i a2,.b _],rfl,rfl,m1,qy2.2 ⟨h1,qy5 _⟩,(λx hx=>ϟ hx ϓ),Z8,?_⟩;simp only[QR,ra,hz,hcc,eq1,ed,er];clear m1 h1 hr;simp only at hr3;generalize hT2:rdN s 2 T1.2.1 T1.2.2=T2 at t2 q2 hr3⊢
      rw[Z38,ϝ rfl]at hr3;simp only at hr3;refine⟨λhb=>?_,λhb=>?_⟩
      . have hb:T2.2.2=ϐ:=by simpa using hb
        obtain⟨b2,-⟩:=t2.2.2.2.2.2 hb;obtain⟨e1,e2⟩:=q2.resolve_left (by rw[hb];simp);obtain⟨e3,-⟩:=q1.resolve_left (by rw[b2];simp);refine⟨O,O,?_⟩;refine⟨{ pD_Q 3 with dup:=decide (c / 8 % 2=1),qos:=((c / 2 % 4:Nat):Int),retain:=decide (c % 2=1),topic:=n1,id:=n2,payload:=s.drop a2 },a2,T2.2.2,nilV,nilV,?_,by rw[hr3],.inr (by rw[hr3,e1,e2,e3]),hq0⟩;have e5:((knd s:Nat):Int)=3:=O
        have e6:(c:Int) / 16=3:=by unfold knd at k3;omega
        have e5:((knd s:Nat):Int)=3:=O
        (try simp only[QR,ra,hz,hcc,eq1,ed,er,e6,e5])
        (try simp[hb])
      . have hb:T2.2.2=ϙ:=by simpa using hb
        refine⟨{ pD_Q 3 with dup:=decide (c / 8 % 2=1),qos:=((c / 2 % 4:Nat):Int),retain:=decide (c % 2=1),topic:=n1,id:=n2 },a2,T2.2.2,nilV,nilV,?_,by rw[hr3],.inl hb,hq0⟩;have e6:(c:Int) / 16=3:=by unfold knd at k3;omega
        have e5:((knd s:Nat):Int)=3:=O
        (try simp only[QR,ra,hz,hcc,eq1,ed,er,e6,e5])
        (try simp)
    . have hid:¬idB { pD_Q 3 with dup:=decide (c / 8 % 2=1),qos:=((c / 2 % 4:Nat):Int),retain:=decide (c % 2=1),topic:=T1.1 }=ϙ:=by
        simp only[idB,ϡ];omega
      rw[idD,ϛ hid,Z38,ϝ rfl]at hr3;simp only at hr3;simp only[ed,er];have e6:(c:Int) / 16=3:=by unfold knd at k3;omega
      refine⟨λhb=>?_,λhb=>?_⟩
      . have hb:T1.2.2=ϐ:=by simpa using hb
        obtain⟨e3,e2⟩:=q1.resolve_left (by rw[hb];simp);refine⟨O,O,?_⟩;refine⟨{ pD_Q 3 with dup:=decide (c / 8 % 2=1),qos:=((c / 2 % 4:Nat):Int),retain:=decide (c % 2=1),topic:=n1,payload:=s.drop a1 },a1,T1.2.2,nilV,nilV,?_,by rw[hr3],.inr (by rw[hr3,e2,e3]),hq0⟩;have e5:((knd s:Nat):Int)=3:=O
        (try simp only[QR,ra,hz,hcc,eq1,ed,er,e6,e5])
        (try simp[hb])
      . have hb:T1.2.2=ϙ:=by simpa using hb
        refine⟨{ pD_Q 3 with dup:=decide (c / 8 % 2=1),qos:=((c / 2 % 4:Nat):Int),retain:=decide (c % 2=1),topic:=n1 },a1,T1.2.2,nilV,nilV,?_,by rw[hr3],.inl hb,hq0⟩;have e5:((knd s:Nat):Int)=3:=O
        (try simp only[QR,ra,hz,hcc,eq1,ed,er,e6,e5])
        (try simp)
  . refine⟨λvs=>(vs.getD 0 (.i 0)).toB=ϙ↔(knd s=4\/(8<=knd s/\knd s<=11)),⟨λh4=>?_,λh4=>⟨λh8=>?_,λh8=>⟨λh9=>?_,λh9=>⟨λh10=>?_,λh10=>?_⟩⟩⟩⟩,?_⟩;any_goals (simp only[ϗ,V.toB_b,ϡ];omega)
    intro vs hl hI
    match vs,hl,hI with
    | [x4],_,hI =>
    simp only[QR,ra,hz,ek]at hI⊢;have hqk:(Z1a s).1.qos=0:=by rw[Zl9.2,Zvj O]
    refine⟨λh=>?_,λh=>?_⟩
    . have hko:=hI.1 h;have hro:=Z1j9 hko;clear h hI;have t1:=Z2o s 2 (at0 s) ϐ hln;intro w1 hr;have hc0:=hr.at_ 0 rfl;simp only[Ent.holds,QQ,ϔ]at hc0;rw[ha0]at hc0;refine(Z41 w1 b9 s (at0 s) (at0 s) ϐ hc0 hln hln hs1 (.inr rfl) 2 O).mono ?_;rintro e w2 ⟨n1,a1,rfl,h1,hle1,q1,m1⟩;refine⟨[.i n1,.s s,.i a1,.b _],rfl,rfl,m1,qy2.2 ⟨h1,qy5 _⟩,(λx hx=>ϟ hx ϓ),Z8,?_⟩;simp only[QR,ra,hz,ek];clear m1 h1 hr hc0;generalize hT1:rdN s 2 (at0 s) ϐ=T1 at t1 q1 hro⊢
      generalize hr0:(({ pD_Q ((knd s:Nat):Int)with id:=T1.1 },T1.2):RS)=r at hro
      have hrk:r.1.kind=((knd s:Nat):Int):=by rw[<- hr0]
      refine⟨tkI s r,Z1al s,⟨{ pD_Q ((knd s:Nat):Int)with id:=n1 },{ pD_Q ((knd s:Nat):Int)with id:=T1.1 },a1,T1.2.1,T1.2.2,nilV,nilV,rfl,hle1,t1.2.2.2.1,q1.imp id (λh=>⟨by rw[h.1],h.2⟩),λ_=>⟨O1,O1⟩,by rw[<- hr0],by rw[hrk]⟩,?_⟩;rintro _ - ⟨q,q0,a,a0,bad,x,y,rfl,ha,hha0,hsim,hln1,htl,hqk0⟩;rw[hrk]at hqk0;simp only[QR,ra,hz,ek];refine⟨λhcond=>?_,λhcond=>?_⟩
      . obtain⟨⟨⟨c1,c2⟩,c3⟩,c4⟩:=hcond;have hb:bad=ϐ:=by simpa using c3
        subst hb;obtain⟨rfl,rfl⟩:=hsim.resolve_left O1;obtain⟨l1,l2⟩:=hln1 rfl;have c4:a<s.length:=O
        refine⟨λk9=>⟨?_,?_⟩,λk9=>?_⟩
        . have t2:=Z2o s 1 a ϐ ha;have htC:=Zl8 (s:=s) (q:=q) (a:=a) O c4;rw[htl]at htC;intro w1 hr;refine(Z41 w1 b9 s a a ϐ (hr.at_ 0 rfl) ha ha hs1 (.inr rfl) 1 O).mono ?_;rintro e w2 ⟨n2,a2,rfl,h1,hle2,q2,m1⟩;refine⟨[.i n2,.s s,.i a2,.b _],rfl,rfl,m1,qy2.2 ⟨h1,qy5 _⟩,(λx hx=>ϟ hx ϓ),Z8,?_⟩;simp only[QR,ra,hz,ek];clear m1 h1 hr;(generalize rdN s 1 a ϐ=M at t2 q2 htC⊢);intro z1;refine⟨by(try simp only[qy3,ϒ,ϑ]);omega,λz2=>⟨⟨{ q with codes:=q.codes++[n2] },{ q with codes:=q.codes++[M.1] },a2,M.2.1,M.2.2,x,z2,by simp[Zg],hle2,t2.2.2.2.1,q2.imp id λh=>⟨by rw[h.1],h.2⟩,λhb=>?_,htC.symm,by rw[hrk];exact hqk0⟩,?_⟩⟩;(· have e5:=(t2.2.2.2.2.2 hb).2;have e2:=(q2.resolve_left (by rw[hb];simp)).2;simp only[qy11,ϑ,ϒ];omega);(· show Zw s a2 M.2.2<Zw s a ϐ;refine Z6q c4 rfl λhb=>?_;have e5:=(t2.2.2.2.2.2 hb).2;have e2:=(q2.resolve_left (by rw[hb];simp)).2;omega)
        . have t2:=Z2o s 1 a ϐ ha;have htC:=Zl8 (s:=s) (q:=q) (a:=a) O c4;rw[htl]at htC;intro w1 hr;refine(Z41 w1 b9 s a a ϐ (hr.at_ 0 rfl) ha ha hs1 (.inr rfl) 1 O).mono ?_;rintro e w2 ⟨n2,a2,rfl,h1,hle2,q2,m1⟩;refine⟨[.i n2,.s s,.i a2,.b _],rfl,rfl,m1,qy2.2 ⟨h1,qy5 _⟩,(λx hx=>ϟ hx ϓ),Z8,?_⟩;simp only[QR,ra,hz,ek];clear m1 h1 hr;(generalize rdN s 1 a ϐ=M at t2 q2 htC⊢);refine⟨?_,?_⟩
          . intro z1;refine⟨by(try simp only[qy3,ϒ,ϑ]);omega,λz2=>⟨⟨{ q with codes:=q.codes++[n2] },{ q with codes:=q.codes++[M.1] },a2,M.2.1,M.2.2,x,z2,by simp[Zg],hle2,t2.2.2.2.1,q2.imp id λh=>⟨by rw[h.1],h.2⟩,λhb=>?_,htC.symm,by rw[hrk];exact hqk0⟩,?_⟩⟩;(· have e5:=(t2.2.2.2.2.2 hb).2;have e2:=(q2.resolve_left (by rw[hb];simp)).2;simp only[qy11,ϑ,ϒ];omega);(· show Zw s a2 M.2.2<Zw s a ϐ;refine Z6q c4 rfl λhb=>?_;have e5:=(t2.2.2.2.2.2 hb).2;have e2:=(q2.resolve_left (by rw[hb];simp)).2;omega)
          . intro z1;refine⟨by(try simp only[qy3,ϒ,ϑ]);omega,λz2=>⟨⟨{ q with codes:=q.codes++[n2] },{ q with codes:=q.codes++[M.1] },a2,M.2.1,M.2.2,x,z2,by simp[Zg],hle2,t2.2.2.2.1,q2.imp id λh=>⟨by rw[h.1],h.2⟩,λhb=>?_,htC.symm,by rw[hrk];exact hqk0⟩,?_⟩⟩;(· have e5:=(t2.2.2.2.2.2 hb).2;have e2:=(q2.resolve_left (by rw[hb];simp)).2;simp only[qy11,ϑ,ϒ];omega);(· show Zw s a2 M.2.2<Zw s a ϐ;refine Z6q c4 rfl λhb=>?_;have e5:=(t2.2.2.2.2.2 hb).2;have e2:=(q2.resolve_left (by rw[hb];simp)).2;omega)
        . have hk8:q.kind=8\/q.kind=10:=O
          have t2:=Z7p s a ϐ ha;have htA:=Z10u hk8 c4;rw[htl]at htA;intro w1 hr;refine(Zqd w1 b9 s a a ϐ (hr.at_ 0 rfl) ha ha hs1 (.inr rfl)).mono ?_;rintro e w2 ⟨n2,a2,rfl,h1,hle2,q2,m1⟩;refine⟨[.s n2,.s s,.i a2,.b _],rfl,rfl,m1,qy2.2 ⟨h1,qy5 _⟩,(λx hx=>ϟ hx ϓ),Z8,?_⟩;simp only[QR,ra,hz,ek];clear m1 h1 hr;have hT2:rdT s a ϐ=rdT s a ϐ:=rfl;generalize hT:rdT s a ϐ=T at t2 q2 htA⊢
          intro b10;refine⟨λk8=>?_,λk8=>?_⟩
          . have hk8':q.kind=8:=O
            have t3:=Z2o s 1 T.2.1 T.2.2 t2.2.1;have hA:Z1e s q.kind a ϐ=((T.1,(rdN s 1 T.2.1 T.2.2).1),(rdN s 1 T.2.1 T.2.2).2):=by rw[Z1e,ϝ hk8',hT]
            rw[hA]at htA;intro w1 hr;refine(Z41 w1 b9 s a2 T.2.1 T.2.2 (hr.at_ 1 rfl) hle2 t2.2.1 hs1 (q2.imp id (·.2)) 1 O).mono ?_;rintro e w2 ⟨n3,a3,rfl,h1,hle3,q3,m1⟩;refine⟨[.i n3,.s s,.i a3,.b _],rfl,rfl,m1,qy2.2 ⟨h1,qy5 _⟩,(λx hx=>ϟ hx ϓ),Z8,?_⟩;simp only[QR,ra,hz,ek];clear m1 h1 hr;generalize rdN s 1 T.2.1 T.2.2=M at t3 q3 htA⊢
            intro z1;refine⟨by(try simp only[qy3,ϒ,ϑ]);omega,λz2=>⟨⟨{ q with asks:=q.asks++[(n2,n3)] },{ q with asks:=q.asks++[(T.1,M.1)] },a3,M.2.1,M.2.2,z2,y,by simp[encA],hle3,t3.2.2.2.1,?_,λhb=>?_,htA.symm,by rw[hrk];exact hqk0⟩,?_⟩⟩
            . cases hb:M.2.2 with
              | true=>exact .inl rfl
              | false =>
                obtain⟨b2,-⟩:=t3.2.2.2.2.2 hb;obtain⟨e1,-⟩:=q2.resolve_left (by rw[b2];simp);obtain⟨e3,e4⟩:=q3.resolve_left (by rw[hb];simp);exact .inr ⟨by rw[e3,e1],e4⟩
            . obtain⟨b2,e5⟩:=t3.2.2.2.2.2 hb;obtain⟨-,e4⟩:=t2.2.2.2.2 b2;obtain⟨e3,e2⟩:=q3.resolve_left (by rw[hb];simp);simp only[qy11,ϑ,ϒ];omega
            . show Zw s a3 M.2.2<Zw s a ϐ
              refine Z6q c4 rfl λhb=>?_;obtain⟨b2,e5⟩:=t3.2.2.2.2.2 hb;obtain⟨-,e4⟩:=t2.2.2.2.2 b2;obtain⟨e3,e2⟩:=q3.resolve_left (by rw[hb];simp);omega
          . have hA:Z1e s q.kind a ϐ=((T.1,0),T.2):=by rw[Z1e,ϛ O,hT]
            rw[hA]at htA;intro z1;refine⟨by(try simp only[qy3,ϒ,ϑ]);omega,λz2=>⟨⟨{ q with asks:=q.asks++[(n2,0)] },{ q with asks:=q.asks++[(T.1,0)] },a2,T.2.1,T.2.2,z2,y,by simp[encA],hle2,t2.2.1,q2.imp id λh=>⟨by rw[h.1],h.2⟩,λhb=>?_,htA.symm,by rw[hrk];exact hqk0⟩,?_⟩⟩
            . obtain⟨-,e4⟩:=t2.2.2.2.2 hb;obtain⟨e3,e2⟩:=q2.resolve_left (by rw[hb];simp);simp only[qy11,ϑ,ϒ];omega
            . show Zw s a2 T.2.2<Zw s a ϐ
              refine Z6q c4 rfl λhb=>?_;obtain⟨-,e4⟩:=t2.2.2.2.2 hb;obtain⟨e3,e2⟩:=q2.resolve_left (by rw[hb];simp);omega
      . have hend:Z38 s (q0,a0,bad)=(q0,a0,bad):=by
          refine Z16w O λhh=>?_;obtain⟨c1,c2,c3,c4⟩:=hh;subst c3;obtain⟨rfl,rfl⟩:=hsim.resolve_left O1;exact hcond ⟨⟨⟨O,O⟩,O1⟩,O⟩
        rw[hend,<- hro]at htl;refine⟨q,a,bad,x,y,rfl,by rw[<- htl],?_,by rw[hqk];decide⟩;rw[<- htl];exact hsim.imp id (·.1)
    . have hkx:12<=knd s/\knd s<=14:=by
        have:¬(knd s=4\/(8<=knd s/\knd s<=11)):=λhh=>h (hI.2 hh);omega
      rw[ha0];refine⟨pD_Q ((knd s:Nat):Int),at0 s,ϐ,nilV,nilV,rfl,?_,.inr ?_,by rw[hqk];decide⟩<;>rw[Z1ja hkx]
  rintro _ - ⟨q,a,bad,x,y,rfl,hbad,hsim,hq1⟩;simp only[QR,ra];have hbd:=(Zpq hl0).1;refine⟨[.s (Z2e q)],rfl,λhg w' hr=>?_,?_⟩
  . have hb:bad=ϐ:=by simpa using hg
    have hq:=hsim.resolve_left (by rw[hb];simp);exact Zlw w' q x y (owns.reads (hr.at_ 3 rfl)) (owns.reads (hr.at_ 4 rfl)) (by rw[hq];exact hbd.byte hs) (by rw[hq];exact Z16z)
  simp only[QR,ra];refine⟨λh w' hr=>⟨nilV,nilV,?_⟩,λh=>?_⟩
  . have hB:(Z1a s).2.2=ϙ\/Z3i (Z1a s).1.kind=ϐ\/1<(Z1a s).1.qos\/Z2e (Z1a s).1≠s:=by
      cases hb:bad with
      | true=>exact .inl (by rw[<- hbad,hb])
      | false =>
        have hq:=hsim.resolve_left (by rw[hb];simp);rw[hb]at h;rw[<- hq];exact .inr (.inr (.inr (h.resolve_left O1)))
    rw[Zyo hl0 hB];exact⟨rfl,Z1y hr.mod 0⟩
  have hb:bad=ϐ:=by
    cases hb:bad with
    | true=>exact ϟ (.inl hb) h
    | false=>rfl
  have hq:=hsim.resolve_left (by rw[hb];simp);have hby:Z2e (Z1a s).1=s:=by rw[<- hq];exact qy9.1 λhh=>h (.inr hh)
  have hnB:¬((Z1a s).2.2=ϙ\/Z3i (Z1a s).1.kind=ϐ\/1<(Z1a s).1.qos\/Z2e (Z1a s).1≠s):=by
    rintro(hh|hh|hh|hh)
    . rw[<- hbad,hb]at hh;cases hh
    . rw[Ztd,hkb]at hh;cases hh
    . exact hq1 hh
    . exact hh hby
  have hd:decD s=if chkP q=0 then(q,0)else(pD_Q 0,chkP q):=by rw[decD,ϛ (s_ne hl0),ϛ hnB,<- hq]
  refine⟨[.i (chkP q)],rfl,λ_ w' hr=>Zqc w' q x y (owns.reads (hr.at_ 3 rfl)) (owns.reads (hr.at_ 4 rfl)) (by rw[hq];exact hbd.small hs),?_⟩;simp only[QR,ra];refine⟨λh w' hr=>⟨nilV,nilV,?_⟩,λh w' hr=>⟨x,y,?_⟩⟩
  . rw[hd,ϛ h];exact⟨rfl,Z1y hr.mod 0⟩
  . have h:=qy9.1 h;rw[hd,ϝ h,h];exact⟨rfl,hr.mod,owns.reads (hr.at_ 3 rfl),owns.reads (hr.at_ 4 rfl),λk hk=>(hr.own _ (qy6 (i:=3) rfl) rfl k hk).resolve_right O1,λk hk=>(hr.own _ (qy6 (i:=4) rfl) rfl k hk).resolve_right O1⟩
section
variable (w:Ϫ) (p:Pkt) (u v:Ϟ)
end
def Z1b9(w:Ϫ)(s:By)(hs:s.length<=60000000):ϰ Ϡ 29 #[.string ⟨s.toArray⟩] w λe w'=>∃(x:Ϟ) (l:List Z39),e=.returned (.tuple #[sc1 x,.string ⟨(feed s).2.1.toArray⟩,.int .i64 (feed s).2.2])/\l.map (·.1)=(feed s).1/\Zy7 w w' x l:=by
 refine Wu (J:=[.s s]) Z9k (Rel.start w _) ?_;simp only[QR,ra];refine⟨Za [],λw _=>Zy4 w,λk hk=>ϟ hk (Zev k),?_⟩;refine⟨λvs=>∃(l:List Z39) (s':By) (x:Ϟ),vs=[.s s',.v nilV,.r [],.s [],.i 0,.v x,.r (l.map Z8w),.a (Za l)]/\Z8a (s'.length+1) s' (l.map (·.1))=feed s/\l.length+s'.length<=s.length/\∀k,(Za l).fp k->w.heap.size<=k,
  λvs=>(vs.getD 0 (.i 0)).toS.length,⟨[],s,nilV,rfl,rfl,by simp,λk hk=>ϟ hk (Zev k)⟩,?_⟩
 rintro _ - ⟨l,s',x,rfl,hf,hlen,hfr⟩;simp only[QQ,ϔ];have hstep:=@Zge s' (l.map (·.1));have hbd:=@Zex s';have hend:(Z1w s').2.2≠0->feed s=if(Z1w s').2.2=8 then(l.map (·.1),s',0)else(l.map (·.1),[],(Z1w s').2.2):=λh=>by rw[<- hf,Z8a,ϛ h]
 have hszn:(Z2c s').2≠0->(Z1w s').2.2=(Z2c s').2:=λh=>by rw[Z1w,ϝ h]
 have hgb:=Zjq s' 1;have fin:∀e:Int,e≠0->(Z2c s').2=e->feed s=if e=8 then(l.map (·.1),s',0)else(l.map (·.1),[],e):=λe h0 he=>by have h1:=hszn (by rw[he];exact h0);rw[hend (by rw[h1,he];exact h0),h1,he]
 refine⟨λh0=>?_,λh0 w' hr=>?_⟩;rotate_left
 ·have he:s'=[]:=List.length_eq_zero_iff.1 (by omega);have hsz:(Z2c s').2=8:=by rw[Z2c,ϝ he]
  rw[fin 8 (by decide) hsz,ϝ rfl]
  (have o:=hr.at_ 1 rfl;exact⟨x,l,rfl,rfl,hr.mod,owns.reads o,hr.at_ 0 rfl,λk hk=>(hr.own _ (qy6 (i:=1) rfl) rfl k hk).resolve_right (by simp),hfr⟩)
 have hne:s'≠[]:=ϩ.1 (by omega);refine⟨[.i (getL s' 1).1,.i (getL s' 1).2.1,.i (getL s' 1).2.2],rfl,λ_ w' _=>Zjr w' s' 1 (by omega),?_⟩;simp only[QQ,ϔ];refine⟨λh8 w' hr=>?_,λh8=>⟨λhn w' hr=>?_,λhn=>?_⟩⟩
 ·have hsz:(Z2c s').2=8:=by rw[Z2c,ϛ hne,ϝ (by rw[h8];decide)];exact h8
  rw[fin 8 (by decide) hsz,ϝ rfl]
  (have o:=hr.at_ 1 rfl;exact⟨x,l,rfl,rfl,hr.mod,owns.reads o,hr.at_ 0 rfl,λk hk=>(hr.own _ (qy6 (i:=1) rfl) rfl k hk).resolve_right (by simp),hfr⟩)
 ·have hsz:(Z2c s').2=(getL s' 1).2.2:=by rw[Z2c,ϛ hne,ϝ hn]
  rw[fin _ hn hsz,ϛ h8]
  (have o:=hr.at_ 1 rfl;exact⟨x,l,rfl,rfl,hr.mod,owns.reads o,hr.at_ 0 rfl,λk hk=>(hr.own _ (qy6 (i:=1) rfl) rfl k hk).resolve_right (by simp),hfr⟩)
 refine⟨by omega,by omega,by omega,by omega,λh6 w' hr=>?_,λh6=>⟨λh7 w' hr=>?_,λh7=>⟨by omega,by omega,?_⟩⟩⟩
 ·have hsz:(Z2c s').2=2:=by rw[Z2c,ϛ hne,ϛ hn,ϝ h6]
  rw[fin 2 (by decide) hsz,ϛ (by decide)]
  (have o:=hr.at_ 1 rfl;exact⟨x,l,rfl,rfl,hr.mod,owns.reads o,hr.at_ 0 rfl,λk hk=>(hr.own _ (qy6 (i:=1) rfl) rfl k hk).resolve_right (by simp),hfr⟩)
 ·have hsz:(Z2c s').2=8:=by rw[Z2c,ϛ hne,ϛ hn,ϛ h6,ϝ h7]
  rw[fin 8 (by decide) hsz,ϝ rfl]
  (have o:=hr.at_ 1 rfl;exact⟨x,l,rfl,rfl,hr.mod,owns.reads o,hr.at_ 0 rfl,λk hk=>(hr.own _ (qy6 (i:=1) rfl) rfl k hk).resolve_right (by simp),hfr⟩)
 have hsz:Z2c s'=(1+(getL s' 1).2.1+(getL s' 1).1,0):=by rw[Z2c,ϛ hne,ϛ hn,ϛ h6,ϛ h7]
 have hnx:Z1w s'=((decD (s'.take (1+(getL s' 1).2.1+(getL s' 1).1).toNat)).1,1+(getL s' 1).2.1+(getL s' 1).1,(decD (s'.take (1+(getL s' 1).2.1+(getL s' 1).1).toNat)).2):=by rw[Z1w,hsz,ϛ (by simp)]
 have hdn:=Z15m (s'.take (1+(getL s' 1).2.1+(getL s' 1).1).toNat);have hz:Ϣ 0=0:=rfl;simp only[hz,List.drop_zero];generalize 1+(getL s' 1).2.1+(getL s' 1).1=n at hnx hdn h6 h7⊢
 rw[hnx]at hstep hbd hend;have hlt:(s'.take n.toNat).length<=60000000:=by rw[ϣ];omega
 intro w1 hr;refine(Z10v w1 (s'.take n.toNat) hlt).mono ?_;generalize decD (s'.take n.toNat)=t at hstep hbd hend hdn⊢
 obtain⟨q,er⟩:=t;rintro e w2 ⟨px,py,rfl,m,rx,ry,fx,fy⟩;refine⟨[.i q.kind,.b q.dup,.b q.retain,.b q.clean,.b q.session,.i q.qos,.i q.id,.i q.keep,.i q.code,.s q.client,.s q.topic,.s q.payload,.v px,.r (q.asks.map encA),.v py,.r (q.codes.map Zg),.i er],rfl,rfl,m,qy5 _,qy2.2 ⟨⟨rx,λk hk=>.inl (fx k hk.2)⟩,qy2.2 ⟨⟨ry,λk hk=>.inl (fy k hk.2)⟩,qy5 _⟩⟩,Z50 (by simp[Ent.wr]),?_⟩;have hw:=hr.mod.size;simp only[QQ,ϔ];clear m hr;intro b1;refine⟨λhe w' hr=>?_,λhe=>?_⟩
 ·rw[hend he,ϛ (by simp only at hdn⊢;omega)];have o:=hr.at_ 4 rfl;exact⟨x,l,rfl,rfl,hr.mod,owns.reads o,hr.at_ 3 rfl,λk hk=>(hr.own _ (qy6 (i:=4) rfl) rfl k hk).resolve_right (by simp),hfr⟩
 ·have h0:=qy9.1 he;have hb:=hbd h0;simp only at hb;intro z1;refine⟨by simp only[qy3,ϒ,qy11,ϑ];omega,λz2=>?_⟩;refine⟨Za (l++[(q,px,py)]),λw' hr=>Zso (by first|exact hr.at_ 0 rfl|exact hr.at_ 1 rfl|exact hr.at_ 2 rfl|exact hr.at_ 3 rfl|exact hr.at_ 4 rfl|exact hr.at_ 5 rfl|exact hr.at_ 6 rfl|exact hr.at_ 7 rfl|exact hr.at_ 8 rfl|exact hr.at_ 9 rfl|exact hr.at_ 10 rfl|exact hr.at_ 11 rfl) (by first|exact hr.at_ 0 rfl|exact hr.at_ 1 rfl|exact hr.at_ 2 rfl|exact hr.at_ 3 rfl|exact hr.at_ 4 rfl|exact hr.at_ 5 rfl|exact hr.at_ 6 rfl|exact hr.at_ 7 rfl|exact hr.at_ 8 rfl|exact hr.at_ 9 rfl|exact hr.at_ 10 rfl|exact hr.at_ 11 rfl) (by first|exact hr.at_ 0 rfl|exact hr.at_ 1 rfl|exact hr.at_ 2 rfl|exact hr.at_ 3 rfl|exact hr.at_ 4 rfl|exact hr.at_ 5 rfl|exact hr.at_ 6 rfl|exact hr.at_ 7 rfl|exact hr.at_ 8 rfl|exact hr.at_ 9 rfl|exact hr.at_ 10 rfl|exact hr.at_ 11 rfl),λk hk=>?_,⟨l++[(q,px,py)],s'.drop n.toNat,z2,?_,?_,?_,λk hk=>?_⟩,?_⟩
  ·rcases Zew hk with h|h|h
   ·exact⟨.st 11,by simp,rfl,h⟩
   ·exact⟨.rd 27 [.str,.int .i64] (.var 28),by simp,rfl,h⟩
   ·exact⟨.rd 29 [.int .i64] (.var 30),by simp,rfl,h⟩
  ·rw[rx.sc1,ry.sc1];simp[Z8w]
  ·rw[Ϝ];rw[<- hf];exact(hstep h0).symm
  ·rw[qy11,ϖ,ϑ,ϒ];omega
  ·rcases Zew hk with h|h|h
   ·exact hfr k h
   ·exact ϫ hw (fx k h.2)
   ·exact ϫ hw (fy k h.2)
  ·show(Ϥ n.toNat (ϥ (s'.length:Int).toNat s')).length<s'.length
   rw[qy4,ϕ,ϖ];omega
def Z6x(s:By)(a:Nat)(n:Int):Int×Int×Bool :=
 if n<13 then(n,a,ϙ)else if n=15 then(0,a,ϐ)
 else if n=14 then((getR s a 2).1+269,a+2,decide ((getR s a 2).2=0))else((getR s a 1).1+13,a+1,decide ((getR s a 1).2=0))
def Zyp(s:By)(a:Nat)(n:Int)(h:0<=n):0<=(Z6x s a n).1/\(Z6x s a n).1<4294967600/\(a:Int)<=(Z6x s a n).2.1/\(Z6x s a n).2.1<=a+2:=by
 have h1:=Zfy s a 1;have h2:=Zfy s a 2;unfold Z6x;split
 ·simp only;omega
 ·split
  ·simp only;omega
  ·split<;>simp only<;>omega
def Z170(s:By)(a:Nat)(n:Int)(ha:a<=s.length)(hn:n<=15):match Za5 n (s.drop a)with
  | none=>(Z6x s a n).2.2=ϐ
  | some p=>∃a':Nat,a<=a'/\a'<=s.length/\p.2=s.drop a'/\Z6x s a n=(p.1,(a':Int),ϙ):=by
 unfold Za5 Z6x;by_cases h1:n<13
 ·rw[ϝ h1,ϝ h1];exact⟨a,ϳ _,ha,rfl,rfl⟩
 ·rw[ϛ h1,ϛ h1];by_cases h2:n=15
  ·rw[ϝ h2,ϝ h2]
  ·rw[ϛ h2,ϛ h2];by_cases h3:n=14
   ·rw[ϝ h3,ϝ h3];by_cases h4:(s.drop a).length<2
    ·rw[ϝ h4];rw[ϖ]at h4;rw[Z3k O O O];rfl
    ·rw[ϛ h4];rw[ϖ]at h4;refine⟨a+2,O,O,by rw[ϧ],?_⟩;rw[Z9v O O O];simp[ϱ]
   ·rw[ϛ h3,ϛ h3];by_cases h4:(s.drop a).length<1
    ·rw[ϝ h4];rw[ϖ]at h4;rw[Z3k O O O];rfl
    ·rw[ϛ h4];rw[ϖ]at h4;refine⟨a+1,O,O,by rw[ϧ],?_⟩;rw[Z9v O O O];simp[ϱ]
variable{was:Int}{c:UInt8}{l:By}
def Z1ba(h:Za5 ((c.toNat / 16:Nat):Int) l=none):Z7d was c l=none:=by unfold Z7d;rw[h]
variable{m:Int}{l1:By}
def Z1bb(h:Za5 ((c.toNat / 16:Nat):Int) l=some (m,l1))(h2:Za5 ((c.toNat % 16:Nat):Int) l1=none):Z7d was c l=none:=by unfold Z7d;rw[h];simp only;rw[h2]
def Z1bc{n:Int}{l2:By}(h:Za5 ((c.toNat / 16:Nat):Int) l=some (m,l1))(h2:Za5 ((c.toNat % 16:Nat):Int) l1=some (n,l2))(h3:(l2.length:Int)<n):Z7d was c l=none:=by unfold Z7d;rw[h];simp only;rw[h2];simp only;rw[ϝ h3]
def Z1gj{n:Int}{l2:By}(h:Za5 ((c.toNat / 16:Nat):Int) l=some (m,l1))(h2:Za5 ((c.toNat % 16:Nat):Int) l1=some (n,l2))(h3:¬(l2.length:Int)<n):Z7d was c l=some ((was+m,l2.take n.toNat),l2.drop n.toNat):=by unfold Z7d;rw[h];simp only;rw[h2];simp only;rw[ϛ h3]
def Zyq(w:Ϫ)(s:By)(a:Nat)(n:Int)(ha:a<=s.length+2)(hn:0<=n/\n<=15)(hs:s.length<1099511627776):ϰ Ϡ 70 #[.string ⟨s.toArray⟩,.int .i64 a,.int .i64 n] w λe w'=>e=.returned (.tuple #[.int .i64 (Z6x s a n).1,.int .i64 (Z6x s a n).2.1,.bool (Z6x s a n).2.2])/\Mod [] w w':=by
 refine Wp (J:=[.s s,.i a,.i n]) Z9i ?_;simp only[QR,ra];have h1:=Zfy s a 1;have h2:=Zfy s a 2;refine⟨λh w' hr=>⟨by rw[Z6x,ϝ h],hr.mod⟩,λh=>⟨λh3 w' hr=>⟨by rw[Z6x,ϛ h,ϝ h3],hr.mod⟩,λh3=>⟨λh4=>?_,λh4=>?_⟩⟩⟩
 ·refine⟨[.i (getR s a 2).1,.i (getR s a 2).2],rfl,λ_ w' _=>Zoz w' s a 2 O,?_⟩;simp only[QR,ra]
  (repeat refine⟨O,?_⟩)
  exact λw' hr=>⟨by rw[Z6x,ϛ h,ϛ h3,ϝ h4],hr.mod⟩
 ·refine⟨[.i (getR s a 1).1,.i (getR s a 1).2],rfl,λ_ w' _=>Zoz w' s a 1 O,?_⟩;simp only[QR,ra]
  (repeat refine⟨O,?_⟩)
  exact λw' hr=>⟨by rw[Z6x,ϛ h,ϛ h3,ϛ h4],hr.mod⟩
def Zvk(w:Ϫ)(s:By)(hs:s.length<1099511627776):ϰ Ϡ 27 #[.string ⟨s.toArray⟩] w λe w'=>Z15p w w' e (dec s):=by
 refine Wp (J:=[.s s]) Z73 ?_;simp only[QR,ra];intro b1;refine⟨λh w' hr=>?_,λh=>⟨O,?_⟩⟩
 ·have:dec s=(mNil,1):=by rw[dec,ϝ O]
  rw[this];exact Z24 1 hr.mod
 have u0:=Z5c (s.getD 0 0);have u1:=Z5c (s.getD 1 0);have u2:=Z5c (s.getD 2 0);have u3:=Z5c (s.getD 3 0);have i0:Ϣ 0=0:=rfl;have i1:Ϣ 1=1:=rfl;have i2:Ϣ 2=2:=rfl;have i3:Ϣ 3=3:=rfl;have i4:Ϣ 4=4:=rfl;simp only[i0,i1,i2,i3,i4];refine⟨λh1 w' hr=>?_,λh1=>?_⟩
 ·have:dec s=(mNil,1):=Zf1 O (.inl O);rw[this];exact Z24 1 hr.mod
 obtain⟨a0,ha0⟩:∃a0:Nat,a0=4+(s.getD 0 0).toNat % 16:=⟨_,rfl⟩
 have ea0:(4:Int)+((s.getD 0 0).toNat:Int) % 16=(a0:Int):=O
 rw[ea0];simp only[qy4]
 (repeat refine⟨O,?_⟩)
 intro b2;have hno:¬(¬((s.getD 0 0).toNat / 64=1)\/8<(s.getD 0 0).toNat % 16\/s.length<4+(s.getD 0 0).toNat % 16):=O
 obtain⟨T,hT⟩:∃T,T=Z8x (s.drop (4+(s.getD 0 0).toNat % 16)).length 0 (s.drop (4+(s.getD 0 0).toNat % 16)):=⟨_,rfl⟩
 have hbad:T=none->dec s=(mNil,1):=λh5=>Zf1 O (.inr (by rw[<- hT];exact h5));have hgood:∀os r,T=some (os,r)->dec s=finM ⟨((s.getD 0 0).toNat / 16 % 4:Nat),(s.getD 1 0).toNat,((256*(s.getD 2 0).toNat+(s.getD 3 0).toNat:Nat)),(s.drop 4).take ((s.getD 0 0).toNat % 16),os,[]⟩ r:=λos r h5=>Zyb O hno (by rw[<- hT];exact h5);have e1:(((s.getD 0 0).toNat:Int) / 16) % 4=((((s.getD 0 0).toNat / 16 % 4:Nat)):Int):=O
 have e2:(256:Int)*((s.getD 2 0).toNat:Int)+((s.getD 3 0).toNat:Int)=((256*(s.getD 2 0).toNat+(s.getD 3 0).toNat:Nat):Int):=O
 have e3:Ϥ 4 (ϥ a0 s)=ϥ ((s.getD 0 0).toNat % 16) (Ϥ 4 s):=by rw[Ϧ];congr 1;omega
 rw[e1,e2,e3];generalize hk0:((((s.getD 0 0).toNat / 16 % 4:Nat)):Int)=k0 at hgood⊢
 generalize hc0:((s.getD 1 0).toNat:Int)=c0 at hgood⊢
 generalize hi0:((256*(s.getD 2 0).toNat+(s.getD 3 0).toNat:Nat):Int)=j0 at hgood⊢
 generalize ht0:ϥ ((s.getD 0 0).toNat % 16) (Ϥ 4 s)=t0 at hgood⊢
 refine⟨λvs=>∃(x:V) (a:Nat) (was:Int) (v:Ϟ) (acc:List Opt) (y1 y2 y3 y4:V) (q:Ϟ) (y6 y7:V),vs=[x,.i a,.i was,.i k0,.i c0,.i j0,.s t0,.v v,.r (acc.map encO),.s [],y1,y2,y3,y4,.v q,y6,y7] /\
   a<=s.length/\0<=was/\was<=70000*acc.length/\acc.length<=a/\(∃f,s.length - a<=f/\ahead acc (Z8x f was (s.drop a))=T),λvs=>s.length - (vs.getD 1 (.i 0)).toI.toNat,
  ⟨_,a0,0,_,[],_,_,_,_,_,_,_,rfl,O,O,O1,O1,(s.drop a0).length,O1,?_⟩,?_⟩
 ·rw[Zst,hT,ha0]
 rintro _ - ⟨x,a,was,v,acc,y1,y2,y3,y4,q,y6,y7,rfl,hal,hw0,hw1,haa,f,hf,hinv⟩;simp only[QR,ra];refine⟨λh2=>⟨O,λh3=>?_,λh3=>?_⟩,λh2=>?_⟩
 ·have hd:=Z8m s a O;have hc:s.getD a 0=255:=by
   have:(s.getD a 0).toNat=255:=O
   exact UInt8.toNat_inj.1 this
  rw[hd,hc]at hinv;obtain⟨g,rfl⟩:∃g,f=g+1:=⟨f - 1,O⟩
  rw[Zng]at hinv;have e4:((a:Int)+1).toNat=a+1:=O
  have e5:Ϥ (a+1) (ϥ s.length s)=s.drop (a+1):=by rw[ϕ]
  rw[e4,e5];have hg:=hgood _ _ hinv.symm;simp only[Ϙ,finM]at hg
  (repeat refine⟨O,?_⟩)
  refine⟨λh4 w' hr=>?_,λh4=>?_⟩
  ·rw[hg,ϝ h4];exact Z24 1 hr.mod
  ·rw[ϛ h4]at hg;refine⟨[.i (chk ⟨k0,c0,j0,t0,acc,s.drop (a+1)⟩)],rfl,λ_ w' hr=>Zcb w' ⟨k0,c0,j0,t0,acc,s.drop (a+1)⟩ v (owns.reads (hr.at_ 2 rfl)) O4,?_⟩;simp only[QR,ra];refine⟨λh5 w' hr=>?_,λh5 w' hr=>?_⟩
   ·rw[hg,Zpx h5];exact Z24 _ hr.mod
   ·have h5:=qy9.1 h5;rw[hg,Zpw h5,h5];refine⟨v,rfl,owns.reads (hr.at_ 2 rfl),λk hk=>?_,hr.mod⟩;rcases hr.own _ (qy10 _ (qy10 _ (qy8 ..))) rfl k hk.2 with h6|h6
    ·exact h6
    ·simp at h6
 ·have hd:=Z8m s a O;rw[hd]at hinv;obtain⟨g,rfl⟩:∃g,f=g+1:=⟨f - 1,O⟩
  have uc:=Z5c (s.getD a 0);generalize hcc:s.getD a 0=c at hinv h3 uc⊢
  have hc255:c≠255:=λh=>h3 (by rw[h];rfl);have e6:((a:Int)+1)=((a+1:Nat):Int):=O
  have e7:((c.toNat:Int) / 16)=((c.toNat / 16:Nat):Int):=O
  have e8:((c.toNat:Int) % 16)=((c.toNat % 16:Nat):Int):=O
  rw[e6,e7,e8]
  (repeat refine⟨O,?_⟩)
  have B1:=Zyp s (a+1) ((c.toNat / 16:Nat):Int) O;have Q1:=Z170 s (a+1) ((c.toNat / 16:Nat):Int) O O;refine⟨[.i (Z6x s (a+1) ((c.toNat / 16:Nat):Int)).1,.i (Z6x s (a+1) ((c.toNat / 16:Nat):Int)).2.1,.b (Z6x s (a+1) ((c.toNat / 16:Nat):Int)).2.2],rfl,λ_ w' _=>Zyq w' s (a+1) _ O O hs,?_⟩;simp only[QR,ra];generalize Z6x s (a+1) ((c.toNat / 16:Nat):Int)=H1 at B1 Q1⊢
  cases hq1:Za5 ((c.toNat / 16:Nat):Int) (s.drop (a+1))with
  | none =>
   rw[hq1]at Q1;simp only at Q1;have hst:Z7d was c (s.drop (a+1))=none:=Z1ba hq1;rw[Zf0 hc255 hst]at hinv;refine⟨λh4 w' hr=>?_,λh4=>ϟ (by simp[Q1]) h4⟩;rw[hbad hinv.symm];exact Z24 1 hr.mod
  | some p =>
   obtain⟨more,l1⟩:=p;rw[hq1]at Q1;obtain⟨a1,h11,h12,h13,rfl⟩:=Q1;simp only at h13 B1⊢;subst h13;refine⟨λh4=>ϟ trivial h4,λh4=>?_⟩;have B2:=Zyp s a1 ((c.toNat % 16:Nat):Int) O;have Q2:=Z170 s a1 ((c.toNat % 16:Nat):Int) O O;refine⟨[.i (Z6x s a1 ((c.toNat % 16:Nat):Int)).1,.i (Z6x s a1 ((c.toNat % 16:Nat):Int)).2.1,.b (Z6x s a1 ((c.toNat % 16:Nat):Int)).2.2],rfl,λ_ w' _=>?_,?_⟩
   ·exact Zyq w' s a1 _ O O hs
   simp only[QR,ra];generalize Z6x s a1 ((c.toNat % 16:Nat):Int)=H2 at B2 Q2⊢
   cases hq2:Za5 ((c.toNat % 16:Nat):Int) (s.drop a1)with
   | none =>
    rw[hq2]at Q2;simp only at Q2;have hst:Z7d was c (s.drop (a+1))=none:=Z1bb hq1 hq2;rw[Zf0 hc255 hst]at hinv;rw[Q2];refine⟨.inl O1,.inl O1,λh5 w' hr=>?_,λh5=>ϟ (.inl O1) h5⟩;rw[hbad hinv.symm];exact Z24 1 hr.mod
   | some p =>
    obtain⟨long,l2⟩:=p;rw[hq2]at Q2;obtain⟨a2,h21,h22,h23,rfl⟩:=Q2;simp only at h23 B2⊢;subst h23;refine⟨.inr O,.inr O,λh5 w' hr=>?_,λh5=>?_⟩
    ·have hlo:(s.length:Int) - a2<long:=by
      rcases h5 with h5|h5
      ·exact ϟ trivial h5
      ·exact h5
     have hst:Z7d was c (s.drop (a+1))=none:=Z1bc hq1 hq2 (by rw[ϖ];omega);rw[Zf0 hc255 hst]at hinv;rw[hbad hinv.symm];exact Z24 1 hr.mod
    ·have hlo:¬((s.length:Int) - a2<long):=λh6=>h5 (.inr h6);obtain⟨lg,rfl⟩:∃lg:Nat,long=lg:=⟨long.toNat,O⟩
     have hst:Z7d was c (s.drop (a+1))=some ((was+more,(s.drop a2).take lg),s.drop (a2+lg)):=by rw[Z1gj hq1 hq2 (by rw[ϖ];omega),ϧ];rfl
     rw[Znh hc255 hst,Zky]at hinv;have e9:((a2:Int)+(lg:Int)).toNat=a2+lg:=O
     have e10:Ϥ a2 (ϥ (a2+lg) s)=(s.drop a2).take lg:=by rw[Ϧ];congr 1;omega
     rw[e9];simp only[qy4];rw[e10];have fin:∀v':Ϟ,(∃(x':V) (a':Nat) (was':Int) (v:Ϟ) (acc':List Opt) (y1' y2' y3' y4':V) (q':Ϟ) (y6' y7':V),([x,.i ((a2:Int)+(lg:Int)),.i (was+more),.i k0,.i c0,.i j0,.s t0,.v v',.r (acc.map encO++[[.int .i64 (was+more),.string ⟨((s.drop a2).take lg).toArray⟩]]),.s [],y1,y2,y3,y4,.v q,y6,y7]:List V) =
       [x',.i a',.i was',.i k0,.i c0,.i j0,.s t0,.v v,.r (acc'.map encO),.s [],y1',y2',y3',y4',.v q',y6',y7'] /\
       a'<=s.length/\0<=was'/\was'<=70000*acc'.length/\acc'.length<=a'/\(∃f,s.length - a'<=f/\ahead acc' (Z8x f was' (s.drop a'))=T)):=λv'=>by
      refine⟨x,a2+lg,was+more,v',acc++[(was+more,(s.drop a2).take lg)],y1,y2,y3,y4,q,y6,y7,by simp[encO],O,O,?_,O3,g,O,hinv⟩;have hm:more<=65805:=by have:=(Z15q hst).2.2;simp only at this;omega
      simp only[qy11,ϑ,ϒ];omega
     (repeat refine⟨O,?_⟩)
     refine⟨?_,?_⟩<;>((repeat refine⟨O,?_⟩);first|exact λv1=>⟨O,λv2=>⟨fin v2,O⟩⟩|exact⟨λv1=>⟨O,λv2=>⟨fin v2,O⟩⟩,λv1=>⟨O,λv2=>⟨fin v2,O⟩⟩⟩)
 ·have:a=s.length:=O
  subst this;rw[Ϯ,Zss]at hinv;have hg:=hgood _ _ hinv.symm;simp only[Ϙ,finM]at hg;refine⟨[.i (chk ⟨k0,c0,j0,t0,acc,[]⟩)],rfl,λ_ w' hr=>Zcb w' ⟨k0,c0,j0,t0,acc,[]⟩ v (owns.reads (hr.at_ 2 rfl)) O4,?_⟩;simp only[QR,ra];refine⟨λh5 w' hr=>?_,λh5 w' hr=>?_⟩
  ·rw[hg,Zpx h5];exact Z24 _ hr.mod
  ·have h5:=qy9.1 h5;rw[hg,Zpw h5,h5];refine⟨v,rfl,owns.reads (hr.at_ 2 rfl),λk hk=>?_,hr.mod⟩;rcases hr.own _ (qy10 _ (qy10 _ (qy8 ..))) rfl k hk.2 with h6|h6
   ·exact h6
   ·simp at h6
open Go
def Z1gk(v:Ϟ)(l:List Ky)(j:Nat):Prop:=(l.map Z2j).flatten≠[]/\Z1 v j
def Z171(w w':Ϫ)(e:Ending)(k:Nat)(x:TelX)(rv:Ϟ)(r:List Ky)(T:Tel×List Ky):Prop :=
 ∃(y:TelX) (r':List Ky) (u:Ϟ),e=.returned (sc1 u)/\(y.tel,r')=T/\Rel ⟨Zh (tlA k x) dlH,w⟩ (tlA k y++[.v u,.r (r'.map Z2j)]) (dlH++[.rd 13 kR (.var 14)]) w'/\GrwD w.heap.size (λ_=>False) x y/\∀j,Z1gk u r' j->w.heap.size<=j\/Z1 x.ov j\/Z1gk rv r j
abbrev Z1cs(v:Ϟ)(ks:List Kd)(rs:List (List Ϟ)):Asrt:=⟨λw=>reads w v ks rs,λj=>rs.flatten≠[]/\Z1 v j,λw w' h hh=>hh.stable h,λw hh k hk=>Ent.bound (J:=[.v v,.r rs]) (e:=.rd 0 ks (.var 1)) hh hk⟩
def Zyr{l:List Z39}{p:Pkt}{va vc:Ϟ}{j:Nat}(h:(p,va,vc)∈l)(hj:((p.asks.map encA).flatten≠[]/\Z1 va j)\/((p.codes.map Zg).flatten≠[]/\Z1 vc j)):(Za l).fp j:=by
 rcases hj with hj|hj
 ·exact⟨_,ϯ.2 ⟨_,h,qy8 ..⟩,hj⟩
 ·exact⟨_,ϯ.2 ⟨_,h,qy10 _ (qy8 ..)⟩,hj⟩
def Z1bd(w:Ϫ)(k:Nat)(x:TelX)(r:List Ky)(rv:Ϟ)(e:Evt)(hr:Rel ⟨Zh (tlA k x) dlH,w⟩ (tlA k x++[.v rv,.r (r.map Z2j),.s e.client,.i e.peer,.s e.bytes]) (dlH++[.rd 13 kR (.var 14)]) w)(hb:BOk x.tel)(hw:ROk r)(he:Z47 e=0)(hrl:r.length<1000000)(hol:x.ox.length<1000000)(hl:e.bytes.length<=30000000): ϰ Ϡ 8 #[.pointer (some ⟨k,0,none⟩),sc1 rv,evV e] w λq w'=>Z171 w w' q k x rv r (Z5v e (x.tel,r)):=by
  refine Wu Z5x hr ?_;simp only[QR,ra];intro b18;refine⟨λh0=>?_,λh0=>?_⟩
  . have hev:0<=e.peer/\e.peer<=9:=by
      rcases Zeq.1 he with h|h
      . exact h.2
      . exact ϟ h0 h.1
    have hst:Z5v e (x.tel,r)=Zpf dec e.peer e.bytes (x.tel,r):=by rw[Z5v,Zar,ϝ h0]
    rw[hst];intro w1 hr1;refine(Zvk w1 e.bytes O).mono ?_;obtain⟨D,hD⟩:∃D,D=dec e.bytes:=⟨_,rfl⟩
    have hdc:D.2=0->chk D.1=0:=by rw[hD];exact Zf2
    have hpw:Zpf dec e.peer e.bytes (x.tel,r)=if D.2=0 then(Zu e.peer D.1 x.tel,r)else(x.tel,r):=by rw[Zpf,hD]
    rw[hpw,<- hD];obtain⟨m,er⟩:=D;simp only at hdc;rintro q w2 ⟨mv,rfl,rm,fm,mm⟩;refine⟨[.i m.kind,.i m.code,.i m.id,.s m.tok,.v mv,.r (m.opts.map encO),.s m.pay,.i er],rfl,rfl,mm,qy5 _,qy2.2 ⟨⟨rm,λk hk=>.inl (fm k hk)⟩,qy5 _⟩,Z2,?_⟩;clear hD hpw mm rm fm hr1;simp only[QR,ra];intro b27;refine⟨λvs=>∃y:TelX,vs=[.i 0,.i 0,.i 0,.i 0,.i 0,.i 0,.i 0,.i 0,.i 0,.i 0,.i 0,.i 0,.v y.kv,.v y.wv,.v y.sv,.v y.av,.i y.next,.v y.ov,.r (y.kept.map encK),.r (y.wants.map encK),.r (y.sx.map Ze),.r (y.wat.map Z4),.r (y.ox.map Zp),.a (Z3 y.sx y.ox)]/\(y.tel,r)=(if er=0 then(Zu e.peer m x.tel,r)else(x.tel,r))/\GrwD w.heap.size (λ_=>False) x y,⟨λh=>?_,λh=>?_⟩,?_⟩
    . intro w1 hr1;have hz1:=hr1.mod.size;refine(Z90 (k:=k) (x:=x) (F:=λ_=>False) (pre:=[]) hr1 29 0 [10]
        (Z10s w1 k x e.peer m mv (((hr1.pick [4,5,6,7,8,9,10,1] U).conv rfl).base.conv rfl) hb O (hdc h))
        rfl rfl (Ϭ _) 10 U rfl (λj hj=>?_)).mono ?_
      . rcases hj with(hj|hj|hj|hj|hj)|hj
        . exact .inl (qE 4 rfl rfl hj)
        . exact .inl (qE 5 rfl rfl hj)
        . exact .inl (qE 6 rfl rfl hj)
        . exact .inl (qE 7 rfl rfl hj)
        . exact .inl (qE 9 rfl rfl hj)
        . exact hj.elim
      rintro q w2 ⟨y,hy,hs,hg,rfl,m1,m2,m3,m4⟩;refine⟨tlV y,rfl,rfl,m1,m2,m3,m4,?_⟩;exact⟨Z3 y.sx y.ox,λw hr=>hr.at_ 5 rfl,λj hj=>(qE 5 rfl rfl hj),y,rfl,by rw[hy,ϝ h],(GrwD.refl _ _ x).trans hg hz1 (λ_ h=>h.elim)⟩
    . exact⟨Z3 x.sx x.ox,λw hr=>hr.at_ 9 rfl,λj hj=>(qE 9 rfl rfl hj),x,rfl,by rw[ϛ h],.refl _ _ _⟩
    rintro _ - ⟨y,rfl,hy,hg⟩;exact λw3 hr3=>⟨y,r,rv,rfl,hy,(hr3.pick [1,2,3,4,5,0,15,16] U).conv rfl,hg,λj h=>.inr (.inr h)⟩
  . have hev:¬e.client=[]/\Z9 e.client=ϙ:=by
      rcases Zeq.1 he with h|h
      . exact ϟ h.1 h0
      . exact⟨h.1,h.2.1⟩
    have hcb:=hev.2;have hcl:e.client.length<1099511627776:=by have:=hcb;unfold Z9 at this;rw[Bool.and_eq_true,ϡ]at this;omega
    have hst:Z5v e (x.tel,r)=Z88 feed e.client e.bytes (x.tel,r):=by rw[Z5v,Zar,ϛ h0]
    rw[hst];obtain⟨tk1,tk2,tk3⟩:=Zia hw e.client;have tk4:=Zq0 r e.client;obtain⟨T,hT⟩:∃T,T=takW r e.client:=⟨_,rfl⟩
    rw[<- hT]at tk1 tk2 tk3 tk4;obtain⟨F,hF⟩:∃F,F=feed (T.1++e.bytes):=⟨_,rfl⟩
    have hcw:Z88 feed e.client e.bytes (x.tel,r)=(if ¬F.2.2=0 then Z4i e.client (Zgf e.client F.1 x.tel)else Zgf e.client F.1 x.tel,Zc3 T.2 e.client F.2.1):=by rw[Z88,hF,hT];rfl
    rw[hcw];have hFok:=Zps (T.1++e.bytes);rw[<- hF,qy11]at hFok;obtain⟨fk1,fk2,fk3⟩:=hFok;rw[Z1g2 hw]at hT;refine⟨λvs=>∃(i:Nat) (u:Ϟ),vs=[.s (Zv5 e.client (r.take i)),.v u,.r ((notR e.client (r.take i)).map Z2j),.i i]/\i<=r.length,λvs=>r.length - (vs.getD 3 (.i 0)).toI.toNat,⟨0,_,rfl,Ϸ _⟩,?_⟩;rintro _ - ⟨i,u,rfl,hi⟩;simp only[QR,ra,gR0,gR1];have hnl:(notR e.client (r.take i)).length<=r.length:=ϫ (List.length_filter_le ..) (by rw[ϣ];omega);refine⟨λh1=>⟨O,λh2=>⟨O,O,⟨i+1,u,?_,O⟩,O⟩,λh2 v25=>⟨by(first|omega|(simp only[qy11,qy3,ϑ,ϒ];omega)),λv26=>⟨O,O,⟨i+1,v26,?_,O⟩,O⟩⟩⟩,λh1=>?_⟩
    . have ht:=Zsw (l:=r) (i:=i) O e.client;rw[ht.1,ht.2,ϝ h2,ϝ h2];rfl
    . have ht:=Zsw (l:=r) (i:=i) O e.client;rw[ht.1,ht.2,ϛ h2,ϛ h2,Ϝ];rfl
    have hil:i=r.length:=O
    have hT1:Zv5 e.client r=T.1:=by rw[hT]
    have hT2:notR e.client r=T.2:=by rw[hT]
    rw[hil,ϕ,hT1,hT2];refine⟨O,?_⟩;intro w1 hr1;refine(Z1b9 w1 (T.1++e.bytes) (by rw[qy11];omega)).mono ?_;rw[<- hF];rintro q w2 ⟨lv,l,rfl,hlF,m1,rX,pX,fX,fP⟩;refine⟨[.v lv,.r (l.map Z8w),.s F.2.1,.i F.2.2,.a (Za l)],rfl,rfl,m1,qy5 _,qy2.2 ⟨⟨rX,λk hk=>.inl (fX k hk.2)⟩,qy2.2 ⟨⟨pX,λk hk=>.inl (fP k hk)⟩,qy5 _⟩⟩,Z50 (by simp[Ent.wr]),?_⟩;clear m1 rX pX fX fP hr1;simp only[QR,ra];refine⟨Z3 x.sx x.ox,λw hr=>hr.at_ 10 rfl,λj hj=>(qE 10 rfl rfl hj),?_⟩;have hll:l.length=F.1.length:=by rw[<- hlF,qy3]
    have hpo:∀i,i<=l.length->BOk (Zgf e.client (F.1.take i) x.tel)/\(Zgf e.client (F.1.take i) x.tel).out.length<=x.ox.length+200*i:=λi hi=>by
      have h1:=Zbr hcb (F.1.take i) hb λp hp=>fk1 p (List.mem_of_mem_take hp);have h2:x.tel.out.length=x.ox.length:=by simp[TelX.tel]
      rw[h2,ϣ,Nat.min_eq_left O]at h1;exact h1
    refine⟨λvs=>∃(i:Nat) (y:TelX),vs=[.i i,.a (Z3 y.sx y.ox),.v y.kv,.r (y.kept.map encK),.v y.wv,.r (y.wants.map encK),.v y.sv,.r (y.sx.map Ze),.v y.av,.r (y.wat.map Z4),.i y.next,.v y.ov,.r (y.ox.map Zp)]/\i<=l.length/\y.tel=Zgf e.client (F.1.take i) x.tel/\GrwD w.heap.size (λ_=>False) x y,
      λvs=>l.length - (vs.getD 0 (.i 0)).toI.toNat,⟨0,x,rfl,Ϸ _,rfl,.refl _ _ _⟩,?_⟩
    rintro _ - ⟨i,y,rfl,hi,hty,hg⟩;obtain⟨hby,hlo⟩:=hpo i hi;rw[<- hty]at hby hlo;have hyl:y.tel.out.length=y.ox.length:=by simp[TelX.tel]
    rw[hyl]at hlo;simp only[QR,ra];refine⟨λh1=>?_,λh1=>?_⟩
    . have hi':i<l.length:=O
      have hrow:=Z1cj hi';have hmm:l.getD i xD∈l:=by rw[qy1,qy7 hi'];exact ϭ hi'
      have hpi:F.1.getD i (l.getD i xD).1=(l.getD i xD).1:=by rw[<- hlF,qy1,List.getElem?_map,qy1,qy7 hi'];rfl
      have hps:=Zni (c:=e.client) (l:=F.1) (i:=i) O (l.getD i xD).1 x.tel;rw[hpi,<- hty]at hps;have hpc:chkP (l.getD i xD).1=0:=fk1 _ (by rw[<- hlF];exact List.mem_map_of_mem hmm);simp only[hrow,Z8w,ϗ,Ϛ,Value.gI,Value.gB,Value.gS,Zv];generalize hgt:l.getD i xD=tp at hpi hmm hps hpc⊢
      obtain⟨p,va,vc⟩:=tp;simp only at hpi hps hpc⊢;refine⟨O,?_⟩;intro w1 hr1;have hz1:=hr1.mod.size;have hpk:=Zbd (hr1.at_ 2 rfl:(Za l).holds w1) hmm;have g2:=(hr1.gather (by rfl) (Z1cs va [.str,.int .i64] (p.asks.map encA)) hpk.1 λj hj=>⟨_,qy6 (i:=2) rfl,rfl,Zyr hmm (.inl hj)⟩).gather (by rfl) (Z1cs vc [.int .i64] (p.codes.map Zg)) hpk.2 λj hj=>⟨_,qy6 (i:=3) rfl,rfl,Zyr hmm (.inr hj)⟩
      refine(Z90 (k:=k) (x:=y) (F:=λ_=>False) (pre:=[]) hr1 44 0 [42]
        (Z16r w1 k y e.client p va vc (Z10p g2 (by rfl) k y (Zcc e.client p va vc) pkHp (hr1.at_ 0 rfl) (λj hj=>(qE 2 rfl rfl hj)) [9,10,11,12,13,0,15,2,1] U rfl rfl) hby O hcb hpc)
        rfl rfl (Ϭ _) 42 U rfl (λj hj=>?_)).mono ?_
      . rcases hj with(hj|hj|hj|hj|hj)|hj
        . exact .inl (qE 6 rfl rfl hj)
        . exact .inl (qE 7 rfl rfl hj)
        . exact .inl (qE 8 rfl rfl hj)
        . exact .inl (qE 9 rfl rfl hj)
        . exact .inl (qE 0 rfl rfl hj)
        . exact hj.elim
      rintro q w2 ⟨z,hz,hs,hg1,rfl,m1,m2,m3,m4⟩;refine⟨tlV z,rfl,rfl,m1,m2,m3,m4,?_⟩;exact⟨O,O,Z3 z.sx z.ox,λw hr=>hr.at_ 5 rfl,λj hj=>(qE 5 rfl rfl hj),⟨i+1,z,rfl,O,by rw[hz,hps],hg.trans hg1 hz1 (λ_ h=>h.elim)⟩,O⟩
    . obtain rfl:i=l.length:=O
      rw[hll,ϕ]at hty;refine⟨λvs=>∃z:TelX,vs=[.i 0,.i 0,.i 0,.i 0,.i 0,.i 0,.i 0,.i 0,.i 0,.i 0,.i 0,.i 0,.v z.kv,.v z.wv,.v z.sv,.v z.av,.i z.next,.v z.ov,.r (z.kept.map encK),.r (z.wants.map encK),.r (z.sx.map Ze),.r (z.wat.map Z4),.r (z.ox.map Zp),.a (Z3 z.sx z.ox)]/\z.tel=(if ¬F.2.2=0 then Z4i e.client y.tel else y.tel)/\GrwD w.heap.size (λ_=>False) x z,⟨λh=>?_,λh=>?_⟩,?_⟩
      . intro w1 hr1;have hz1:=hr1.mod.size;refine(Z90 (k:=k) (x:=y) (F:=λ_=>False) (pre:=[]) hr1 44 0 [42]
          (Z16p w1 k y e.client (Z10p hr1 (by rfl) k y [.s e.client] [] (hr1.at_ 0 rfl) (λj hj=>(qE 0 rfl rfl hj)) [7,8,9,10,11,0,13] U rfl rfl) hby)
          rfl rfl (Ϭ _) 42 U rfl (λj hj=>?_)).mono ?_
        . rcases hj with(hj|hj|hj|hj|hj)|hj
          . exact .inl (qE 6 rfl rfl hj)
          . exact .inl (qE 7 rfl rfl hj)
          . exact .inl (qE 8 rfl rfl hj)
          . exact .inl (qE 9 rfl rfl hj)
          . exact .inl (qE 0 rfl rfl hj)
          . exact hj.elim
        rintro q w2 ⟨z,hz,hs,hg1,rfl,m1,m2,m3,m4⟩;refine⟨tlV z,rfl,rfl,m1,m2,m3,m4,?_⟩;exact⟨Z3 z.sx z.ox,λw hr=>hr.at_ 5 rfl,λj hj=>(qE 5 rfl rfl hj),z,rfl,by rw[hz,ϝ h],hg.trans hg1 hz1 (λ_ h=>h.elim)⟩
      . exact⟨Z3 y.sx y.ox,λw hr=>hr.at_ 0 rfl,λj hj=>(qE 0 rfl rfl hj),y,rfl,by rw[ϛ h],hg⟩
      rintro _ - ⟨z,rfl,htz,hgz⟩;rw[<- hty];simp only[QR,ra];refine⟨λh2 w3 hr3=>?_,λh2=>?_⟩
      . rw[Zc3,ϝ h2];exact⟨z,T.2,u,rfl,by rw[htz],((toRd (hr3.pick [9,1,2,3,4,5,0,17] U)).pick [1,2,3,4,5,6,7,0] U).conv rfl,hgz,λj hj=>(Z8z hr3 9 17 rfl rfl U rfl j hj.2).imp id .inl⟩
      . intro v68;refine⟨O,λv69=>?_⟩;refine⟨by(first|omega|(simp only[qy11,qy3,ϑ,ϒ];omega)),by(first|omega|(simp only[qy11,qy3,ϑ,ϒ];omega)),λvs=>∃m:Nat,vs=[.i m,.r ((T.2.take m++[(e.client,F.2.1)]++T.2.drop m).map Z2j)]/\m<=T.2.length/\∀j,m<=j->j<T.2.length->Z5 e.client (T.2.getD j rstD).1=ϙ,λvs=>(vs.getD 0 (.i 0)).toI.toNat,⟨T.2.length,?_,ϳ _,λj h5 h6=>O⟩,?_⟩
        . refine congr (congrArg List.cons (congrArg V.i ?_)) (congrArg (λz=>[V.r z]) ?_)
          . simp only[qy11,qy3,ϑ,ϒ];omega
          . rw[ϕ,Ϯ,Ϙ,Ϝ];rfl
        rintro _ - ⟨m,rfl,hm,hall⟩;have hbu:=λh0:0<m=>Zyk rstD h0 hm (e.client,F.2.1);obtain⟨R,hR⟩:∃R,R=T.2.take m++[(e.client,F.2.1)]++T.2.drop m:=⟨_,rfl⟩
        have hRl:R.length=T.2.length+1:=by rw[hR];simp;omega
        rw[<- hR]at hbu⊢;have e1:((m:Int) - 1).toNat=m - 1:=O
        simp only[QR,ra,e1,gR0,gR1,hRl,List.length_set];refine⟨O,O,O,O,O,O,[.b (Z5 (R.getD m rstD).1 (R.getD (m - 1) rstD).1)],rfl,λh5 w' _=>Z1q w' _ _ ?_,?_⟩
        . rw[(hbu O).2.1];exact hcl
        simp only[QR,ra];refine⟨λh5=>?_,λh5 w3 hr3=>?_⟩
        . obtain⟨g1,g2,g3⟩:=hbu O;refine⟨O,O,O,O,O,O,O,⟨m - 1,?_,O,λj h6 h7=>?_⟩,O⟩
          . rw[<- g1,<- g3,<- g2,ϲ,ϲ];exact congr (congrArg List.cons (congrArg V.i O)) rfl
          . by_cases h8:j=m - 1
            . have h9:=h5.2;rw[g2,g3]at h9;rw[h8];exact h9
            . exact hall j O h7
        . have e2:m=idxR T.2 e.client:=Z1ar tk1.sort tk2 hm hall λh0 h1=>h5 ⟨O,by rw[(hbu h0).2.1,(hbu h0).2.2];exact h1⟩;have e3:Zc3 T.2 e.client F.2.1=R:=by rw[Zc3,ϛ h2,<- e2,<- hR]
          rw[e3];exact⟨z,R,v69,rfl,by rw[htz],((toRd (hr3.pick [0,3,4,5,6,7,2,18] U)).pick [1,2,3,4,5,6,7,0] U).conv rfl,hgz,λj hj=>(Z8z hr3 0 18 rfl rfl U rfl j hj.2).imp id .inl⟩
