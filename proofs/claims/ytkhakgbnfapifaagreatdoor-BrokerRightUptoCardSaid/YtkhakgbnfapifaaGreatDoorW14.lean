/-
  Texts of mine, one behind the other. By an AI agent.
-/
import Derived.Test.YtkhakgbnfapifaaGreatDoorW13
import Derived.Test.YtkhakgbnfapifaaGreatDoorW05
import Derived.Test.YtkhakgbnfapifaaGreatDoorW10
import Derived.Test.YtkhakgbnfapifaaGreatDoorW11
import Derived.Test.YtkhakgbnfapifaaGreatDoorW12
set_option linter.unusedSimpArgs false
set_option linter.unusedVariables false
set_option maxHeartbeats 20000000
namespace Go.Proofs.YtkhakgbnfapifaaGreatDoor
open Go.Sx
structure ByteP (p:Pkt):Prop where
  kind:0<=p.kind/\p.kind<=15
  qos:0<=p.qos/\p.qos<=3
  id:0<=p.id/\p.id<=65535
  keep:0<=p.keep/\p.keep<=65535
  code:0<=p.code/\p.code<=65535
  asks:∀a∈p.asks,0<=a.2/\a.2<=65535
  codes:∀c∈p.codes,0<=c/\c<=65535
  small:SmallP p
  body:(Z28 p).length<268435456
theorem ByteP.ask {p:Pkt} (h:ByteP p) (i:Nat):0<=(p.asks.getD i aD).2/\(p.asks.getD i aD).2<=65535:=by
  by_cases hi:i<p.asks.length
  . rw[qy1,qy7 hi];exact h.asks _ (List.getElem_mem hi)
  . rw[qy1,List.getElem?_eq_none (by omega)];decide
theorem Zvx {p:Pkt} (h:SmallP p):(Z3x p).length<=2000000000:=by
  have h1:=h.client;have h2:=h.topic;unfold Z3x;split
  . simp only[qy11,Z1v,Zb,List.length_cons,List.length_nil];omega
  . split
    . simp only[qy11,Zb];omega
    . split
      . rw[Z1v];omega
      . simp
def idP (p:Pkt):List UInt8:=if idB p=true then numB 2 p.id else []
theorem Z14z (p:Pkt):(idP p).length<=2:=by unfold idP;split<;>simp[Zb]
def asB (p:Pkt) (i:Nat):List UInt8:=Z3x p++idP p++p.payload++((p.asks.take i).map (Z1j p.kind)).flatten
theorem Z150 {p:Pkt} (h:ByteP p) (i:Nat):(asB p i).length<268435456:=by
  refine Nat.lt_of_le_of_lt ?_ h.body;unfold Z28 asB idP;have:((p.asks.take i).map (Z1j p.kind)).flatten.length<=(p.asks.map (Z1j p.kind)).flatten.length:=by
    conv=>rhs;rw[<- List.take_append_drop i p.asks,List.map_append,List.flatten_append,qy11]
    omega
  simp only[qy11];omega
theorem Z10m (p:Pkt):asB p 0=Z3x p++idP p++p.payload:=by simp[asB]
theorem Zoo (p:Pkt) (i:Nat) (h:i<p.asks.length):asB p (i+1)=asB p i++Z1j p.kind (p.asks.getD i aD):=by unfold asB;rw[List.take_add_one,qy1,qy7 h];simp only[Option.toList_some,Option.getD_some,List.map_append,List.map_cons,List.map_nil,List.flatten_append,List.flatten_cons,List.flatten_nil,List.append_nil,List.append_assoc]
theorem Z151 (p:Pkt):asB p p.asks.length++(p.codes.map (numB 1)).flatten=Z28 p:=by rw[asB,List.take_length];rfl
section
variable (w:World) (b:Nat) (p:Pkt) (u v:Value)
set_option maxRecDepth 10000 in
theorem Z152 (p0 q0:Value) (hu:Z36 w u p.asks) (hv:Z2h w v p.codes) (hB:ByteP p) (hw:wrS w b p0 q0 []) (hua:∀k,(p.asks.map encA).flatten≠[]/\Z2 u k->k≠b/\¬Z2 q0 k) (hva:∀k,(p.codes.map Zg).flatten≠[]/\Z2 v k->k≠b/\¬Z2 q0 k) : Calls Tryz.prog 248 #[.pointer (some ⟨b,0,none⟩),pV p u v] w fun e w'=>e=.returned (.tuple #[])/\Zi6 w w' b q0 (Z28 p):=by
  refine Z1 (Z4 (ρ:=[.n b,.v p0,.v q0,.r (byW []),.i p.kind,.b p.dup,.b p.retain,.b p.clean,.b p.session,.i p.qos,.i p.id,.i p.keep,.i p.code,.s p.client,.s p.topic,.s p.payload,.v u,.r (p.asks.map encA),.v v,.r (p.codes.map Zg)]) (sxE_ok.joins _) Tryz.func248 Z62 rfl rfl
    (Z14y hw rfl rfl rfl rfl (qy2.2 ⟨⟨hu,rfl,hua⟩,qy2.2 ⟨⟨hv,rfl,hva⟩,qy5 _⟩⟩)) rfl rfl ?_) rfl
  have hs:=hB.small;have hcl:=hs.client;have htp:=hs.topic;have hpl:=hs.payload;have hna:=hs.asks;have hnc:=hs.codes;have hhl:=Zvx hs;have hil:=Z14z p;simp only[Tree.goal,X.P,X.ev,SV.ev,CV.ev,Sc.ev,qz,QA,QB,QC,QD,QE,QF,QH,QJ,QK,QL,QM,Nat.reduceAdd];intro bc;refine⟨fun vs=>∃p' q',vs=[.v p',.v q',.r (byW (Z3x p))]/\okp p' b,⟨fun h1=>?_,fun h1=>⟨fun h2=>?_,fun h2=>⟨fun h3=>?_,fun h3=>?_⟩⟩⟩,?_⟩
  . intro w1 hr;refine(Ze8 w1 b p0 q0 [] [77,81,84,84] ⟨hr.at_ 2 rfl,hw.ok,hr.at_ 1 rfl⟩ (by decide)).mono ?_;rintro e w2 ⟨rfl,p1,q1,s1,m1,f1⟩;refine⟨[.v p1,.v q1,.r (byW _)],rfl,rfl,m1,qy2.2 ⟨s1.cells,qy5 _⟩,qy2.2 ⟨⟨s1.own,fun z hz=>(f1 z hz).imp id .inr⟩,qy5 _⟩,Z3,?_⟩;(try simp only[qz,QE,QL,QM]);have go:∀n:Int,n=bit p.clean 2->Z3x p=[]++txtB [77,81,84,84]++(([4,n]:List Int).map (numB 1)).flatten++(([p.keep]:List Int).map (numB 2)).flatten++txtB p.client:=fun n hn=>by
      rw[Z3x,if_pos h1,hn];simp
    refine⟨fun hc=>?_,fun hc=>?_⟩
    . intro v1 w3 hr;have hn4:∀n∈([4,2]:List Int),0<=n/\n<=65535:=by decide
      refine(Zc1 w3 b p1 q1 _ 1 v1 [4,2] ⟨hr.at_ 3 rfl,s1.ok,hr.at_ 1 rfl⟩ (by omega) (owns.reads (hr.at_ 0 rfl)) (fun k hk=>⟨fun e=>Zn.disj hr.sep (i:=0) (j:=3) rfl rfl (by decide) (.inl rfl) (k:=k) hk.2 e,fun hb=>Zn.disj hr.sep (i:=0) (j:=1) rfl rfl (by decide) (.inl rfl) (k:=k) hk.2 hb⟩) hn4 (by decide) (by decide)).mono ?_;have o1:=s1.ok;clear s1 m1 f1;rintro e w4 ⟨rfl,p1,q1,s1,m1,f1⟩;refine⟨[.v p1,.v q1,.r (byW _)],rfl,rfl,m1,qy2.2 ⟨s1.cells,qy5 _⟩,qy2.2 ⟨⟨s1.own,fun z hz=>(f1 z hz).imp id .inr⟩,qy5 _⟩,Z3,?_⟩;(try simp only[qz,QE,QL,QM]);intro v2 w5 hr;refine(Zc1 w5 b p1 q1 _ 2 v2 [p.keep] ⟨hr.at_ 4 rfl,s1.ok,hr.at_ 1 rfl⟩ (by omega) (owns.reads (hr.at_ 0 rfl)) (fun k hk=>⟨fun e=>Zn.disj hr.sep (i:=0) (j:=4) rfl rfl (by decide) (.inl rfl) (k:=k) hk.2 e,fun hb=>Zn.disj hr.sep (i:=0) (j:=1) rfl rfl (by decide) (.inl rfl) (k:=k) hk.2 hb⟩) (by simpa using hB.keep) (by decide) (by simp)).mono ?_;have o2:=s1.ok;clear s1 m1 f1;rintro e w6 ⟨rfl,p1,q1,s1,m1,f1⟩;refine⟨[.v p1,.v q1,.r (byW _)],rfl,rfl,m1,qy2.2 ⟨s1.cells,qy5 _⟩,qy2.2 ⟨⟨s1.own,fun z hz=>(f1 z hz).imp id .inr⟩,qy5 _⟩,Z3,?_⟩;(try simp only[qz,QL,QM]);intro w7 hr;refine(Ze8 w7 b p1 q1 _ p.client ⟨hr.at_ 4 rfl,s1.ok,hr.at_ 0 rfl⟩ (by simp only[qy11,Z1v,List.flatten_cons,List.flatten_nil,Zb,List.length_nil,List.length_cons];omega)).mono ?_;clear s1 m1 f1;rintro e w8 ⟨rfl,p1,q1,s1,m1,f1⟩;refine⟨[.v p1,.v q1,.r (byW _)],rfl,rfl,m1,qy2.2 ⟨s1.cells,qy5 _⟩,qy2.2 ⟨⟨s1.own,fun z hz=>(f1 z hz).imp id .inr⟩,qy5 _⟩,Z3,?_⟩;(try simp only[qz]);exact⟨p1,q1,by rw[go 2 (by simp[bit,hc])];rfl,s1.ok⟩
    . intro v1 w3 hr;have hn4:∀n∈([4,0]:List Int),0<=n/\n<=65535:=by decide
      refine(Zc1 w3 b p1 q1 _ 1 v1 [4,0] ⟨hr.at_ 3 rfl,s1.ok,hr.at_ 1 rfl⟩ (by omega) (owns.reads (hr.at_ 0 rfl)) (fun k hk=>⟨fun e=>Zn.disj hr.sep (i:=0) (j:=3) rfl rfl (by decide) (.inl rfl) (k:=k) hk.2 e,fun hb=>Zn.disj hr.sep (i:=0) (j:=1) rfl rfl (by decide) (.inl rfl) (k:=k) hk.2 hb⟩) hn4 (by decide) (by decide)).mono ?_;clear s1 m1 f1;rintro e w4 ⟨rfl,p1,q1,s1,m1,f1⟩;refine⟨[.v p1,.v q1,.r (byW _)],rfl,rfl,m1,qy2.2 ⟨s1.cells,qy5 _⟩,qy2.2 ⟨⟨s1.own,fun z hz=>(f1 z hz).imp id .inr⟩,qy5 _⟩,Z3,?_⟩;(try simp only[qz,QE,QL,QM]);intro v2 w5 hr;refine(Zc1 w5 b p1 q1 _ 2 v2 [p.keep] ⟨hr.at_ 4 rfl,s1.ok,hr.at_ 1 rfl⟩ (by omega) (owns.reads (hr.at_ 0 rfl)) (fun k hk=>⟨fun e=>Zn.disj hr.sep (i:=0) (j:=4) rfl rfl (by decide) (.inl rfl) (k:=k) hk.2 e,fun hb=>Zn.disj hr.sep (i:=0) (j:=1) rfl rfl (by decide) (.inl rfl) (k:=k) hk.2 hb⟩) (by simpa using hB.keep) (by decide) (by simp)).mono ?_;clear s1 m1 f1;rintro e w6 ⟨rfl,p1,q1,s1,m1,f1⟩;refine⟨[.v p1,.v q1,.r (byW _)],rfl,rfl,m1,qy2.2 ⟨s1.cells,qy5 _⟩,qy2.2 ⟨⟨s1.own,fun z hz=>(f1 z hz).imp id .inr⟩,qy5 _⟩,Z3,?_⟩;(try simp only[qz,QL,QM]);intro w7 hr;refine(Ze8 w7 b p1 q1 _ p.client ⟨hr.at_ 4 rfl,s1.ok,hr.at_ 0 rfl⟩ (by simp only[qy11,Z1v,List.flatten_cons,List.flatten_nil,Zb,List.length_nil,List.length_cons];omega)).mono ?_;clear s1 m1 f1;rintro e w8 ⟨rfl,p1,q1,s1,m1,f1⟩;refine⟨[.v p1,.v q1,.r (byW _)],rfl,rfl,m1,qy2.2 ⟨s1.cells,qy5 _⟩,qy2.2 ⟨⟨s1.own,fun z hz=>(f1 z hz).imp id .inr⟩,qy5 _⟩,Z3,?_⟩;(try simp only[qz]);exact⟨p1,q1,by rw[go 0 (by simp[bit,hc])];rfl,s1.ok⟩
  . have go:∀n:Int,n=bit p.session 1->Z3x p=[]++(([n,p.code]:List Int).map (numB 1)).flatten:=fun n hn=>by
      rw[Z3x,if_neg h1,if_pos h2,hn];simp
    have one:∀n:Int,n=bit p.session 1->(0<=n/\n<=65535)->∀(v1:Value) (w3:World),Z2h w3 v1 [n,p.code]->wrS w3 b p0 q0 []->(∀k,(([n,p.code]:List Int).map Zg).flatten≠[]/\Z2 v1 k->k≠b/\¬Z2 q0 k) ->
        Calls Tryz.prog 305 #[.pointer (some ⟨b,0,none⟩),.int .i64 1,sc1 v1] w3 fun e w'=>e=.returned (.tuple #[])/\Zi6 w3 w' b q0 (Z3x p):=fun n hn h0 v1 w3 hv1 hw3 ha=>by
      have h9:=hB.code;rw[go n hn];exact Zc1 w3 b p0 q0 _ 1 v1 [n,p.code] hw3 (by omega) hv1 ha (by simp;omega) (by decide) (by simp)
    have c1:p.session=true->(1:Int)=bit p.session 1:=fun h=>by simp[bit,h]
    have c0:¬p.session=true->(0:Int)=bit p.session 1:=fun h=>by simp[bit,h]
    refine⟨⟨fun hc=>?_,fun hc=>?_⟩,⟨fun hc=>?_,fun hc=>?_⟩⟩;all_goals
      intro v1 w3 hr;first
      | refine(one 1 (c1 hc) (by decide) v1 w3 (owns.reads (hr.at_ 0 rfl)) ⟨hr.at_ 3 rfl,hw.ok,hr.at_ 2 rfl⟩ (fun k hk=>⟨fun e=>Zn.disj hr.sep (i:=0) (j:=3) rfl rfl (by decide) (.inl rfl) (k:=k) hk.2 e,fun hb=>Zn.disj hr.sep (i:=0) (j:=2) rfl rfl (by decide) (.inl rfl) (k:=k) hk.2 hb⟩)).mono ?_
      | refine(one 0 (c0 hc) (by decide) v1 w3 (owns.reads (hr.at_ 0 rfl)) ⟨hr.at_ 3 rfl,hw.ok,hr.at_ 2 rfl⟩ (fun k hk=>⟨fun e=>Zn.disj hr.sep (i:=0) (j:=3) rfl rfl (by decide) (.inl rfl) (k:=k) hk.2 e,fun hb=>Zn.disj hr.sep (i:=0) (j:=2) rfl rfl (by decide) (.inl rfl) (k:=k) hk.2 hb⟩)).mono ?_
      rintro e w4 ⟨rfl,p1,q1,s1,m1,f1⟩;refine⟨[.v p1,.v q1,.r (byW _)],rfl,rfl,m1,qy2.2 ⟨s1.cells,qy5 _⟩,qy2.2 ⟨⟨s1.own,fun z hz=>(f1 z hz).imp id .inr⟩,qy5 _⟩,Z3,?_⟩;(try simp only[qz]);exact⟨p1,q1,rfl,s1.ok⟩
  . intro w1 hr;refine(Ze8 w1 b p0 q0 [] p.topic ⟨hr.at_ 2 rfl,hw.ok,hr.at_ 1 rfl⟩ (by simp only[List.length_nil];omega)).mono ?_;rintro e w2 ⟨rfl,p1,q1,s1,m1,f1⟩;refine⟨[.v p1,.v q1,.r (byW _)],rfl,rfl,m1,qy2.2 ⟨s1.cells,qy5 _⟩,qy2.2 ⟨⟨s1.own,fun z hz=>(f1 z hz).imp id .inr⟩,qy5 _⟩,Z3,?_⟩;(try simp only[qz,QM]);exact⟨p1,q1,by rw[Z3x,if_neg h1,if_neg h2,if_pos h3],s1.ok⟩
  . exact⟨p0,q0,by rw[Z3x,if_neg h1,if_neg h2,if_neg h3],hw.ok⟩
  rintro _ - ⟨p1,q1,rfl,o1⟩;simp only[qz,QL,QM];refine⟨[.b (idB p)],rfl,fun _ w' hr=>Zzz w' p u v (hr.at_ 3 rfl) (hr.at_ 4 rfl),?_⟩;simp only[qz,QB,QE,QL,QM];refine⟨fun vs=>∃p' q',vs=[.v p',.v q',.r (byW (Z3x p++idP p))]/\okp p' b,⟨fun h1=>?_,fun h1=>?_⟩,?_⟩
  . intro v1 w3 hr;refine(Zc1 w3 b p1 q1 _ 2 v1 [p.id] ⟨hr.at_ 3 rfl,o1,hr.at_ 2 rfl⟩ (by omega) (owns.reads (hr.at_ 0 rfl)) (fun k hk=>⟨fun e=>Zn.disj hr.sep (i:=0) (j:=3) rfl rfl (by decide) (.inl rfl) (k:=k) hk.2 e,fun hb=>Zn.disj hr.sep (i:=0) (j:=2) rfl rfl (by decide) (.inl rfl) (k:=k) hk.2 hb⟩) (by simpa using hB.id) (by omega) (by simp)).mono ?_;rintro e w4 ⟨rfl,p1,q1,s1,m1,f1⟩;refine⟨[.v p1,.v q1,.r (byW _)],rfl,rfl,m1,qy2.2 ⟨s1.cells,qy5 _⟩,qy2.2 ⟨⟨s1.own,fun z hz=>(f1 z hz).imp id .inr⟩,qy5 _⟩,Z3,?_⟩;(try simp only[qz]);exact⟨p1,q1,by rw[idP,if_pos h1];simp,s1.ok⟩
  . exact⟨p1,q1,by rw[idP,if_neg h1,List.append_nil],o1⟩
  rintro _ - ⟨p2,q2,rfl,o2⟩;simp only[qz,QL,QM];intro w1 hr;refine(Z14x w1 b p2 q2 _ p.payload ⟨hr.at_ 2 rfl,o2,hr.at_ 1 rfl⟩ (by simp only[qy11];omega)).mono ?_;rintro e w2 ⟨rfl,p1,q1,s1,m1,f1⟩;refine⟨[.i _,.v .nilIface,.a Asrt.tt,.v p1,.v q1,.r (byW _)],rfl,rfl,m1,qy2.2 ⟨s1.cells,qy5 _⟩,qy2.2 ⟨⟨by simp only[Ent.holds,qz];trivial,fun z hz=>by simp only[Ent.fp,qz]at hz;exact hz.elim⟩,qy2.2 ⟨⟨s1.own,fun z hz=>(f1 z hz).imp id .inr⟩,qy5 _⟩⟩,Zhd rfl Z3,?_⟩;(try simp only[qz,QL,QM]);refine⟨fun vs=>∃(i:Nat) (p' q':Value),vs=[.i i,.v p',.v q',.r (byW (asB p i))]/\i<=p.asks.length/\okp p' b,fun vs=>p.asks.length - (vs.getD 0 (.i 0)).toI.toNat,⟨0,p1,q1,by rw[Z10m];rfl,by omega,s1.ok⟩,?_⟩;clear s1 m1 f1 hr;rintro _ - ⟨i,p3,q3,rfl,hi,o3⟩;simp only[qz,QA,QL,QM,qy3,qy4,gA0];have hal:=Z150 hB i;refine⟨fun h1=>⟨by omega,fun bx w3 hr=>?_⟩,fun h1 w3 hr=>?_⟩
  . have hf:=hs.at_ i;have hq:=hB.ask i;refine(Ze8 w3 b p3 q3 _ (p.asks.getD i aD).1 ⟨hr.at_ 4 rfl,o3,hr.at_ 2 rfl⟩ (by omega)).mono ?_;rintro e w4 ⟨rfl,p1,q1,s1,m1,f1⟩;refine⟨[.v p1,.v q1,.r (byW _)],rfl,rfl,m1,qy2.2 ⟨s1.cells,qy5 _⟩,qy2.2 ⟨⟨s1.own,fun z hz=>(f1 z hz).imp id .inr⟩,qy5 _⟩,Z3,?_⟩;(try simp only[qz,QE,QL,QM]);refine⟨fun hk=>?_,fun hk=>?_⟩
    . intro v1 w5 hr;have e0:=hr.at_ 0 rfl;simp only[Ent.holds,X.ev,qz,QA,QD,QE,QG,QM,qy4,gA1]at e0;refine(Zc1 w5 b p1 q1 _ 1 v1 [(p.asks.getD i aD).2] ⟨hr.at_ 5 rfl,s1.ok,hr.at_ 1 rfl⟩ (by omega) (owns.reads e0) (fun k hk=>⟨fun e=>Zn.disj hr.sep (i:=0) (j:=5) rfl rfl (by decide) (.inl rfl) (k:=k) hk.2 e,fun hb=>Zn.disj hr.sep (i:=0) (j:=1) rfl rfl (by decide) (.inl rfl) (k:=k) hk.2 hb⟩) (by simpa using hq) (by simp only[qy11,Z1v];omega) (by simp)).mono ?_;clear s1 m1 f1;rintro e w6 ⟨rfl,p1,q1,s1,m1,f1⟩;refine⟨[.v p1,.v q1,.r (byW _)],rfl,rfl,m1,qy2.2 ⟨s1.cells,qy5 _⟩,qy2.2 ⟨⟨s1.own,fun z hz=>(f1 z hz).imp id .inr⟩,qy5 _⟩,Z3,?_⟩;(try simp only[qz]);refine⟨by omega,by omega,⟨i+1,p1,q1,?_,by omega,s1.ok⟩,by omega⟩;rw[Zoo p i (by omega),Z1j,if_pos hk];simp
    . refine⟨by omega,by omega,⟨i+1,p1,q1,?_,by omega,s1.ok⟩,by omega⟩;rw[Zoo p i (by omega),Z1j,if_neg hk,List.append_nil];rfl
  . have:i=p.asks.length:=by omega
    subst this;refine(Zc1 w3 b p3 q3 _ 1 v p.codes ⟨hr.at_ 3 rfl,o3,hr.at_ 1 rfl⟩ (by omega) (hr.at_ 5 rfl) (fun k hk=>⟨fun e=>Zn.disj hr.sep (i:=5) (j:=3) rfl rfl (by decide) (.inr rfl) (k:=k) hk e,fun hb=>Zn.disj hr.sep (i:=5) (j:=1) rfl rfl (by decide) (.inr rfl) (k:=k) hk hb⟩) hB.codes (by omega) (by omega)).mono ?_;rintro e w4 ⟨rfl,p1,q1,s1,m1,f1⟩;refine⟨[.v p1,.v q1,.r (byW _)],rfl,rfl,m1,qy2.2 ⟨s1.cells,qy5 _⟩,qy2.2 ⟨⟨s1.own,fun z hz=>(f1 z hz).imp id .inr⟩,qy5 _⟩,Z3,?_⟩;(try simp only[Tree.goal,X.P,X.ev,SV.ev,CV.ev,Sc.ev,qz,QA,QB,QC,QD,QE,QF,QG,QH,QI,QJ,QK,QL,QM,Nat.reduceAdd]);intro w' hr;rw[Z151]at hr;exact⟨by trivial,Zi7 hr ⟨hr.at_ 3 rfl,s1.ok,hr.at_ 0 rfl⟩ (qy8 ..) rfl⟩
end
end Go.Proofs.YtkhakgbnfapifaaGreatDoor
namespace Go.Proofs.YtkhakgbnfapifaaGreatDoor
open Go.Sx
def pkOf (p:Pk):Pkt:={ pD_Q 3 with dup:=p.1,qos:=p.2.1,id:=p.2.2.1,topic:=p.2.2.2.1,payload:=p.2.2.2.2 }
structure Snt where
 client:List UInt8
 pk:Pkt
 peer:Int
 msg:Msg
abbrev toC (c:List UInt8) (p:Pkt):Snt:=⟨c,p,0,mNil⟩
abbrev toP (n:Int) (m:Msg):Snt:=⟨[],pD_Q 0,n,m⟩
structure Tel where
 kept:List Kp
 wants:List Wt
 sess:List Ses
 wat:List Wat
 next:Int
 out:List Snt
def idxS (l:List Ses) (c:List UInt8):Nat:=(l.filter fun s=>Zf s.cl c).length
def hasS (l:List Ses) (c:List UInt8):Bool:=decide (idxS l c<l.length/\(l.getD (idxS l c) s0).cl=c)
def Z59 (l:List Ses):Prop:=l.Pairwise fun a b=>Zf a.cl b.cl=true
def nx_Z (n:Int):Int:=(n+1) % 65536
def Z1s (n p:List UInt8) (q:Int) (t:Tel) (r:Rd):Tel :=
 { t with sess:=t.sess.set (idxS t.sess r.1) (Z2s (t.sess.getD (idxS t.sess r.1) s0) n p (min q r.2)).1,out:=t.out++(Z2s (t.sess.getD (idxS t.sess r.1) s0) n p (min q r.2)).2.map fun k=>toC r.1 (pkOf k) }
def putM (m:Msg) (n:Int):Msg:={ m with opts:=Z109 m.opts 6 [Z2b n] }
def Z6x (p:List UInt8) (t:Tel) (w:Wat):Tel:={ t with next:=nx_Z t.next,out:=t.out++[toP w.1 (putM ⟨1,69,t.next,w.2.1,[],p⟩ w.2.2.2)] }
def Z6n (n p:List UInt8) (q:Int) (t:Tel):Tel:=(rdOf n t.wants).foldl (Z1s n p q) t
def Z83 (n p:List UInt8) (q:Int) (t:Tel):Tel:=(Z4f n (Z6n n p q t).wat).foldl (Z6x p) { Z6n n p q t with wat:=Z3c n (Z6n n p q t).wat }
def Zag (t:Tel) (w:Wat):Tel:={ t with next:=nx_Z t.next,out:=t.out++[toP w.1 ⟨1,132,t.next,w.2.1,[],[]⟩] }
def ofT (n:List UInt8) (w:Wat):Bool:=decide (w.2.2.1=n)
def Z25 (n p:List UInt8) (t:Tel):Tel×Bool :=
 if ¬(rawK t.kept n p).2=0 then (t,false)
 else if ¬p=[] then ({ t with kept:=(rawK t.kept n p).1 },true)
 else ({ (t.wat.filter (ofT n)).foldl Zag { t with kept:=(rawK t.kept n p).1 } with wat:=t.wat.filter fun w=>!ofT n w },true)
def Zop (c:List UInt8) (t:Tel):Tel:={ t with wants:=t.wants.filter fun w=>decide (¬w.1=c) }
def Zah (c:List UInt8) (t:Tel):Tel :=
 if hasS t.sess c=true then
  if (goR (t.sess.getD (idxS t.sess c) s0)).clean=true then Zop c { t with sess:=t.sess.take (idxS t.sess c)++t.sess.drop (idxS t.sess c+1) }
  else { t with sess:=t.sess.set (idxS t.sess c) (goR (t.sess.getD (idxS t.sess c) s0)) }
 else t
def insS (l:List Ses) (c:List UInt8):List Ses:=if hasS l c=true then l else l.take (idxS l c)++[⟨[],false,true,[],[],0⟩]++l.drop (idxS l c)
def Zbl (l:List Ses) (c:List UInt8) (clean:Bool):Bool:=!((insS l c).getD (idxS l c) s0).clean && !clean
def Ze9 (l:List Ses) (c:List UInt8) (clean:Bool):Ses:={ (if Zbl l c clean=true then (insS l c).getD (idxS l c) s0 else ⟨c,false,false,[],[],1⟩) with clean:=clean }
def Z3j (c:List UInt8) (p:Pkt) (t:Tel):Tel :=
 if ¬p.client=c then t
 else if ¬hasS t.sess c=true/\t.sess.length=6 then { t with out:=t.out++[toC c { pD_Q 2 with code:=3 }] }
 else { t with
  wants:=if Zbl t.sess c p.clean=true then t.wants else t.wants.filter fun w=>decide (¬w.1=c)
  sess:=(insS t.sess c).set (idxS t.sess c) (Zfa (Ze9 t.sess c p.clean)).1
  out:=t.out++[toC c { pD_Q 2 with session:=Zbl t.sess c p.clean }]++(Zfa (Ze9 t.sess c p.clean)).2.map fun k=>toC c (pkOf k) }
def Z3y (c:List UInt8) (p:Pkt) (t:Tel):Tel :=
 let t1:Tel:=if p.qos=1 then { t with out:=t.out++[toC c { pD_Q 4 with id:=p.id }] } else t
 Z83 p.topic p.payload p.qos (if p.retain=true then (Z25 p.topic p.payload t1).1 else t1)
def Z30 (c:List UInt8) (x:List Wt×List Int) (a:Ak):List Wt×List Int:=if (rawW x.1 (c,a.1,a.2)).2=0 then ((rawW x.1 (c,a.1,a.2)).1,x.2++[a.2]) else (x.1,x.2++[128])
def Zk9 (c:List UInt8) (ws:List Wt) (l:List Ak):List Wt×List Int:=l.foldl (Z30 c) (ws,[])
def Zm9 (c:List UInt8) (kept:List Kp) (a:Ak) (q:Int):List Snt:=if q=128 then [] else (kept.filter (forF a.1)).map fun k=>toC c { pD_Q 3 with retain:=true,topic:=k.1,payload:=k.2.1 }
def Z3m (c:List UInt8) (kept:List Kp):List Ak->List Int->List Snt
 | a::l,q::m=>Zm9 c kept a q++Z3m c kept l m
 | _,_=>[]
def Z3e (c:List UInt8) (p:Pkt) (t:Tel):Tel :=
 { t with wants:=(Zk9 c t.wants p.asks).1,out:=t.out++[toC c { pD_Q 9 with id:=p.id,codes:=(Zk9 c t.wants p.asks).2 }]++Z3m c t.kept p.asks (Zk9 c t.wants p.asks).2 }
def Z26 (c:List UInt8) (p:Pkt) (t:Tel):Tel :=
 { t with wants:=t.wants.filter fun w=>!(decide (w.1=c) && p.asks.any fun a=>decide (a.1=w.2.1)),out:=t.out++[toC c { pD_Q 11 with id:=p.id }] }
def Zrf (c:List UInt8) (p:Pkt) (t:Tel):Tel :=
 { t with sess:=t.sess.set (idxS t.sess c) (Z4r (t.sess.getD (idxS t.sess c) s0) p.id).1,out:=t.out++(Z4r (t.sess.getD (idxS t.sess c) s0) p.id).2.map fun k=>toC c (pkOf k) }
def Z1f (c:List UInt8) (p:Pkt) (t:Tel):Tel :=
 if ¬p.kind=1/\(¬hasS t.sess c=true\/¬(t.sess.getD (idxS t.sess c) s0).on=true) then t
 else if p.kind=1 then Z3j c p t
 else if p.kind=3 then Z3y c p t
 else if p.kind=4 then Zrf c p t
 else if p.kind=8 then Z3e c p t
 else if p.kind=10 then Z26 c p t
 else if p.kind=12 then { t with out:=t.out++[toC c (pD_Q 13)] }
 else if p.kind=14 then Zah c t
 else t
def getB (n:Int) (m a:Msg) (name:List UInt8) (t:Tel):Tel×Msg :=
 if ¬hasK t.kept name=true then (t,{ a with code:=132 })
 else
  let a1:Msg:={ a with code:=69,pay:=(t.kept.getD (idx t.kept name) kD).2.1 }
  if (Z8v 6 m.opts).2=0/\(Z8v 6 m.opts).1=0 then
   if (Z4z t.wat (n,m.tok,name,1)).2=0 then ({ t with wat:=(Z4z t.wat (n,m.tok,name,1)).1 },putM a1 1) else (t,a1)
  else if (Z8v 6 m.opts).2=0/\(Z8v 6 m.opts).1=1 then ({ t with wat:=filt n m.tok t.wat },a1)
  else (t,a1)
def Z4h (m:Msg) (next:Int):Msg:=if m.kind=1 then ⟨1,133,next,m.tok,[],[]⟩ else ⟨2,133,m.id,m.tok,[],[]⟩
def doB (n:Int) (m a:Msg) (t:Tel):Tel×Msg :=
 if ¬(Z1p m.opts).2=0 then (t,{ a with code:=128 })
 else if m.code=1 then getB n m a (Z1p m.opts).1 t
 else if m.code=3 then
  if ¬m.pay=[]/\(Z25 (Z1p m.opts).1 m.pay t).2=true then (Z83 (Z1p m.opts).1 m.pay 1 (Z25 (Z1p m.opts).1 m.pay t).1,{ a with code:=68 }) else (t,{ a with code:=128 })
 else if m.code=4 then ((Z25 (Z1p m.opts).1 [] t).1,{ a with code:=66 })
 else (t,a)
def Z50 (n:Int) (m:Msg) (t:Tel):Tel :=
 let a:=Z4h m t.next
 let x:=doB n m a { t with next:=if m.kind=1 then nx_Z t.next else t.next,out:=t.out++[toP n a] }
 { x.1 with out:=x.1.out.set t.out.length (toP n x.2) }
def Z1d (n:Int) (m:Msg) (t:Tel):Tel :=
 if m.code=0/\m.kind=0 then { t with out:=t.out++[toP n ⟨3,0,m.id,[],[],[]⟩] }
 else if ¬m.code=0/\m.kind<=1 then Z50 n m t
 else t
def Zfh:Option (List UInt8)->List Ses->Int
 | _,[]=>0
 | u,s::l=>if ¬chkS s=0 then chkS s else if (match u with|none=>true|some c=>Zf c s.cl)=true then Zfh (some s.cl) l else 4
def Zbm (l:List Ses):Int:=if 6<(l.length:Int) then 2 else Zfh none l
def Z51 (t:Tel):Bool:=t.wants.any (fun w=>!hasS t.sess w.1) || t.wat.any (fun w=>!hasK t.kept w.2.2.1)
def chkB (t:Tel):Int :=
 if ¬chkK t.kept=0 then chkK t.kept
 else if ¬Z12 t.wants=0 then Z12 t.wants
 else if ¬Zbm t.sess=0 then Zbm t.sess
 else if ¬Z1e t.wat=0 then Z1e t.wat
 else if Z51 t=true then 4
 else if t.next<0\/65535<t.next then 3 else 0
end Go.Proofs.YtkhakgbnfapifaaGreatDoor
namespace Go.Proofs.YtkhakgbnfapifaaGreatDoor
open Go Go.Sx
def rdsZ (l:List (Value×List Kd×List (List Value))):Asrt where
 holds w:=∀t∈l,reads w t.1 t.2.1 t.2.2
 fp k:=∃t∈l,t.2.2.flatten≠[]/\Z2 t.1 k
 stable:=fun w w' h hh t ht=>(hh t ht).stable fun k hk=>h k ⟨t,ht,hk⟩
 bound:=fun w hh k ⟨t,ht,hk⟩=>Ent.bound (ρ:=[.v t.1,.r t.2.2]) (e:=.rd 0 t.2.1 (.var 1)) (hh t ht) hk
abbrev SesX:=Ses×Value×Value
abbrev sxD:SesX:=(s0,.slice none 0 0,.slice none 0 0)
def Zk (t:SesX):List Value:=[.string ⟨t.1.cl.toArray⟩,.bool t.1.on,.bool t.1.clean,sc1 t.2.1,sc1 t.2.2,.int .i64 t.1.next]
abbrev kSx:List Kd:=[.str,.bool,.bool,.oth,.oth,.int .i64]
def sesT (t:SesX):List (Value×List Kd×List (List Value)):=[(t.2.1,kF,t.1.fl.map encF),(t.2.2,kF,t.1.qu.map encF)]
abbrev SntX:=Snt×Value×Value×Value
def Z33 (t:SntX):List Value:=[.string ⟨t.1.client.toArray⟩,
 .int .i64 t.1.pk.kind,.bool t.1.pk.dup,.bool t.1.pk.retain,.bool t.1.pk.clean,.bool t.1.pk.session,.int .i64 t.1.pk.qos,.int .i64 t.1.pk.id,.int .i64 t.1.pk.keep,.int .i64 t.1.pk.code,.string ⟨t.1.pk.client.toArray⟩,.string ⟨t.1.pk.topic.toArray⟩,.string ⟨t.1.pk.payload.toArray⟩,sc1 t.2.1,sc1 t.2.2.1,
 .int .i64 t.1.peer,.int .i64 t.1.msg.kind,.int .i64 t.1.msg.code,.int .i64 t.1.msg.id,.string ⟨t.1.msg.tok.toArray⟩,sc1 t.2.2.2,.string ⟨t.1.msg.pay.toArray⟩]
abbrev kSn:List Kd:=[.str,.int .i64,.bool,.bool,.bool,.bool,.int .i64,.int .i64,.int .i64,.int .i64,.str,.str,.str,.oth,.oth,.int .i64,.int .i64,.int .i64,.int .i64,.str,.oth,.str]
def sntT (t:SntX):List (Value×List Kd×List (List Value)):=[(t.2.1,[.str,.int .i64],t.1.pk.asks.map encA),(t.2.2.1,[.int .i64],t.1.pk.codes.map Zg),(t.2.2.2,[.int .i64,.str],t.1.msg.opts.map encO)]
def nest (l:List SesX) (o:List SntX):List (Value×List Kd×List (List Value)):=l.flatMap sesT++o.flatMap sntT
def Z6 (l:List SesX) (o:List SntX):Asrt:=rdsZ (nest l o)
theorem Z1a {l:List SesX} {o:List SntX} {w:World} (h:(Z6 l o).holds w) {t:SesX} (ht:t∈l):Z15 w t.2.1 t.1.fl/\Z15 w t.2.2 t.1.qu :=
 ⟨h (t.2.1,kF,t.1.fl.map encF) (List.mem_append_left _ (List.mem_flatMap.2 ⟨t,ht,by simp[sesT]⟩)),h (t.2.2,kF,t.1.qu.map encF) (List.mem_append_left _ (List.mem_flatMap.2 ⟨t,ht,by simp[sesT]⟩))⟩
theorem Z7s {l:List SesX} {o:List SntX} {w:World} (h:(Z6 l o).holds w) {t:SntX} (ht:t∈o):Z36 w t.2.1 t.1.pk.asks/\Z2h w t.2.2.1 t.1.pk.codes/\Z24 w t.2.2.2 t.1.msg.opts :=
 ⟨h (t.2.1,[.str,.int .i64],t.1.pk.asks.map encA) (List.mem_append_right _ (List.mem_flatMap.2 ⟨t,ht,by simp[sntT]⟩)),h (t.2.2.1,[.int .i64],t.1.pk.codes.map Zg) (List.mem_append_right _ (List.mem_flatMap.2 ⟨t,ht,by simp[sntT]⟩)),h (t.2.2.2,[.int .i64,.str],t.1.msg.opts.map encO) (List.mem_append_right _ (List.mem_flatMap.2 ⟨t,ht,by simp[sntT]⟩))⟩
theorem Z1g {l l':List SesX} {o o':List SntX} {w:World} (h1:∀t∈l',t∈l\/(Z15 w t.2.1 t.1.fl/\Z15 w t.2.2 t.1.qu)) (h2:∀t∈o',t∈o\/(Z36 w t.2.1 t.1.pk.asks/\Z2h w t.2.2.1 t.1.pk.codes/\Z24 w t.2.2.2 t.1.msg.opts)) (h:(Z6 l o).holds w):(Z6 l' o').holds w:=by
 intro x hx;rcases qy13.1 hx with hx|hx
 ·obtain⟨t,ht,hx⟩:=List.mem_flatMap.1 hx;have hr:Z15 w t.2.1 t.1.fl/\Z15 w t.2.2 t.1.qu:=by
   rcases h1 t ht with h3|h3
   ·exact Z1a h h3
   ·exact h3
  simp only[sesT,List.mem_cons,List.not_mem_nil,or_false]at hx;rcases hx with rfl|rfl
  ·exact hr.1
  ·exact hr.2
 ·obtain⟨t,ht,hx⟩:=List.mem_flatMap.1 hx;have hr:Z36 w t.2.1 t.1.pk.asks/\Z2h w t.2.2.1 t.1.pk.codes/\Z24 w t.2.2.2 t.1.msg.opts:=by
   rcases h2 t ht with h3|h3
   ·exact Z7s h h3
   ·exact h3
  simp only[sntT,List.mem_cons,List.not_mem_nil,or_false]at hx;rcases hx with rfl|rfl|rfl
  ·exact hr.1
  ·exact hr.2.1
  ·exact hr.2.2
def sesF (t:SesX) (k:Nat):Prop:=((t.1.fl.map encF).flatten≠[]/\Z2 t.2.1 k)\/((t.1.qu.map encF).flatten≠[]/\Z2 t.2.2 k)
def sntF (t:SntX) (k:Nat):Prop:=((t.1.pk.asks.map encA).flatten≠[]/\Z2 t.2.1 k)\/((t.1.pk.codes.map Zg).flatten≠[]/\Z2 t.2.2.1 k)\/((t.1.msg.opts.map encO).flatten≠[]/\Z2 t.2.2.2 k)
theorem Zh {l:List SesX} {o:List SntX} {k:Nat}:(Z6 l o).fp k↔(∃t∈l,sesF t k)\/(∃t∈o,sntF t k):=by
 constructor
 ·rintro⟨x,hx,hk⟩;rcases qy13.1 hx with hx|hx
  ·obtain⟨t,ht,hx⟩:=List.mem_flatMap.1 hx;simp only[sesT,List.mem_cons,List.not_mem_nil,or_false]at hx;rcases hx with rfl|rfl
   ·exact .inl ⟨t,ht,.inl hk⟩
   ·exact .inl ⟨t,ht,.inr hk⟩
  ·obtain⟨t,ht,hx⟩:=List.mem_flatMap.1 hx;simp only[sntT,List.mem_cons,List.not_mem_nil,or_false]at hx;rcases hx with rfl|rfl|rfl
   ·exact .inr ⟨t,ht,.inl hk⟩
   ·exact .inr ⟨t,ht,.inr (.inl hk)⟩
   ·exact .inr ⟨t,ht,.inr (.inr hk)⟩
 ·rintro(⟨t,ht,h|h⟩|⟨t,ht,h|h|h⟩)
  ·exact⟨_,List.mem_append_left _ (List.mem_flatMap.2 ⟨t,ht,qy8 ..⟩),h⟩
  ·exact⟨_,List.mem_append_left _ (List.mem_flatMap.2 ⟨t,ht,qy10 _ (qy8 ..)⟩),h⟩
  ·exact⟨_,List.mem_append_right _ (List.mem_flatMap.2 ⟨t,ht,qy8 ..⟩),h⟩
  ·exact⟨_,List.mem_append_right _ (List.mem_flatMap.2 ⟨t,ht,qy10 _ (qy8 ..)⟩),h⟩
  ·exact⟨_,List.mem_append_right _ (List.mem_flatMap.2 ⟨t,ht,qy10 _ (qy10 _ (qy8 ..))⟩),h⟩
theorem gSx0 (l:List SesX) (i:Nat):Value.gS (((l.map Zk).getD i []).getD 0 undef)=(l.getD i sxD).1.cl:=by simp only[qy1,List.getElem?_map];cases l[i]?<;>simp[Zk,Value.gS,undef,s0]
theorem Zea {l:List SesX} {i:Nat} (h:i<l.length):(l.map Zk).getD i []=Zk (l.getD i sxD):=by rw[qy1,qy1,List.getElem?_map,qy7 h];rfl
theorem Zi8 {l:List SesX} {i:Nat} (h:i<l.length):l.getD i sxD∈l:=by rw[qy1,qy7 h];exact List.getElem_mem h
theorem Zvy (l:List SesX) (i:Nat):(l.map (·.1)).getD i s0=(l.getD i sxD).1:=by rw[qy1,qy1,List.getElem?_map];cases l[i]?<;>rfl
end Go.Proofs.YtkhakgbnfapifaaGreatDoor
