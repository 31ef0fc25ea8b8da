/- By an AI agent. -/
import Derived.Test.YtonpnhfekobmdaaGreatDoorB15
import Derived.Test.YtonpnhfekobmdaaGreatDoorB16
import Derived.ProofKit
import Derived.OpenShut
import Derived.JoinedCond
import Derived.ChangeStays
set_option linter.all false
set_option maxHeartbeats 20000000
namespace Go.Proofs.Y
open Go.Sx
theorem Z4c{B:Base}{J:List V}{hp hp':List Ent}{w w':World}{S:Nat->Prop}(hr:Rel B J hp w)(hm:ModS S w w')(hs:hp'.Sublist hp)(hb:∀k,S k->B.w0.heap.size<=k\/k∈B.fp)(hd:∀e∈hp',∀k,S k->¬e.fp J k):Rel B J hp' w':=by obtain⟨ks,hk,hm⟩:=hm;refine⟨hr.mod.trans hm λk hk'=>(hb k (hk k hk')).symm,λe he=>?_,λe he=>hr.own e (hs.mem he),hr.sep.sublist hs⟩;have h:=hr.holds e (hs.mem he);exact Ent.stable h λk hf=>hm.block k (Ent.bound h hf) λhn=>hd e he k (hk k hn) hf
theorem Z2u{J:List V}{hp hp':List Ent}(h:Zv J hp)(i:Nat){c:Ent}(hc:hp[i]?=some c)(hs:hp'.Sublist (hp.eraseIdx i)){e:Ent}(he:e∈hp')(hw:c.wr=true\/e.wr=true){k:Nat}(hk:c.fp J k):¬e.fp J k:=by
 intro hk';have hm:=hs.mem he;obtain⟨j,hj⟩:=List.mem_iff_getElem?.1 hm;rw[List.getElem?_eraseIdx]at hj;split at hj
 ·exact Zv.disj h (i:=i) (j:=j) hc hj (by omega) hw hk hk'
 ·exact Zv.disj h (i:=i) (j:=j+1) hc hj (by omega) hw hk hk'
theorem Znu{w:World}{x:Value}{l:List Z24}(h:owns w x 29 KP (l.map Z3a))(hp:(pksO l).holds w){k:Nat}(hk:Z3 x k):¬(pksO l).fp k:=by
 rintro⟨t,ht,hk'⟩;have ho:=hp t ht;obtain⟨q,-,hq⟩:=List.mem_flatMap.1 ht;simp only[pkO,List.mem_cons,List.not_mem_nil,or_false]at hq;rcases hq with rfl|rfl
 ·exact Zf1 h.2 ho.2 (by show 29≠69;decide) hk hk'
 ·exact Zf1 h.2 ho.2 (by show 29≠3;decide) hk hk'
set_option maxRecDepth 10000 in
theorem Zgn(w:World)(s:List UInt8)(m:Msg)(v:Value)(nm:List UInt8)(hv:Z12 w v m.opts)(hb:bdM m)(hs:s.length<=60000000)(hn:nm.length<4294967281) : Calls Tryz.prog 3 #[.string ⟨s.toArray⟩,mV m (sc1 v),.string ⟨nm.toArray⟩] w λe w'=>e=.returned (.bool true)/\Mod [] w w':=by
 refine Z1 (Z5 (J:=[.s s,.i m.kind,.i m.code,.i m.id,.s m.tok,.v v,.r (m.opts.map encO),.s m.pay,.s nm]) (sxE_ok.joins _) Tryz.func3 Z3k rfl rfl (Rel.start2 (by simp[Ent.holds,Ent.wr,hv,X.ev])) rfl rfl ?_) rfl;have cP:=λw=>Zk7 w s hs;have cD:=λw=>Zc1 w s hs;have hsm:=Zc0 hs;generalize decD s=D at cP cD hsm
 have cM:=λw=>Zgm w s (by omega);have cX:=λw=>Zn0 w s (by omega);have hsM:(dec s).1.opts.length<1099511627776:=by have:=Zt5 s;omega
 generalize dec s=E at cM cX hsM
 have cF:=λw=>Zss w [] s (by simpa using hs);generalize feed ([]++s)=F at cF
 simp only[QQ,Nat.reduceAdd];intro b9;refine⟨[.b true],rfl,λ_ w' _=>Zd6 w',?_⟩;simp only[QQ,Nat.reduceAdd];refine⟨[.b true],rfl,λ_ w' _=>Zbe w',?_⟩;simp only[QQ,Nat.reduceAdd];refine⟨[.b true],rfl,λ_ w' _=>Zdk w',?_⟩;simp only[QQ,Nat.reduceAdd];refine⟨[.b true],rfl,λ_ w' _=>Zfe w',?_⟩;simp only[QQ,Nat.reduceAdd];refine⟨λh=>absurd h (by simp),λ_=>?_⟩;intro z0;refine⟨by simp only[qy3,List.length_nil];omega,?_⟩;intro z1;intro w1 hr1;refine(cP w1).mono ?_;rintro e w2 ⟨x2,y2,rfl,m1,r1,r2,f1,f2⟩;refine⟨[.i D.1.kind,.b D.1.dup,.b D.1.retain,.b D.1.clean,.b D.1.session,.i D.1.qos,.i D.1.id,.i D.1.keep,.i D.1.code,.s D.1.client,.s D.1.topic,.s D.1.payload,.v x2,.r (D.1.asks.map encA),.v y2,.r (D.1.codes.map Za),.i D.2],rfl,rfl,m1,qy5 _,qy2.2 ⟨⟨r1,λk hk=>.inl (f1 k hk.2)⟩,qy2.2 ⟨⟨r2,λk hk=>.inl (f2 k hk.2)⟩,qy5 _⟩⟩,Zp (by simp[Ent.wr]),?_⟩;clear hr1 m1 r1 r2 f1 f2 cP;simp only[QQ,Nat.reduceAdd];intro b33 w1 hr1;refine(cM w1).mono ?_;rintro e w2 ⟨v4,rfl,r1,f1,m1⟩;refine⟨[.i E.1.kind,.i E.1.code,.i E.1.id,.s E.1.tok,.v v4,.r (E.1.opts.map encO),.s E.1.pay,.i E.2],rfl,rfl,m1,qy5 _,qy2.2 ⟨⟨r1,λk hk=>.inl (f1 k hk)⟩,qy5 _⟩,Z6,?_⟩;clear hr1 m1 r1 f1 cM;simp only[QQ,Nat.reduceAdd];intro b42;refine⟨λvs=>∃(x:V) (i:Nat),vs=[x,.i i,.r (m.opts.map encO)]/\i<=2,λvs=>(2 - (vs.getD 1 (.i 0)).toI).toNat,⟨.b false,0,by simp,by omega⟩,?_⟩;rintro _ - ⟨x,i,rfl,hi⟩;simp only[QQ,Nat.reduceAdd];refine⟨λhlt=>?_,λhge w' hr=>⟨trivial,hr.mod⟩⟩;intro w1 hr1;refine(cD w1).mono ?_;rintro e w2 ⟨x5,y5,rfl,m1,o1,o2,f1,f2⟩;refine⟨[.i D.1.kind,.b D.1.dup,.b D.1.retain,.b D.1.clean,.b D.1.session,.i D.1.qos,.i D.1.id,.i D.1.keep,.i D.1.code,.s D.1.client,.s D.1.topic,.s D.1.payload,.v x5,.r (D.1.asks.map encA),.v y5,.r (D.1.codes.map Za),.i D.2],rfl,rfl,m1,qy5 _,qy2.2 ⟨⟨o1,λk hk=>.inl (f1 k hk)⟩,qy2.2 ⟨⟨o2,λk hk=>.inl (f2 k hk)⟩,qy5 _⟩⟩,List.pairwise_cons.2 ⟨λe he _ k hk hk'=>by { rw[qy12]at he;subst he;exact Zf1 o1.2 o2.2 (by decide) hk hk' },List.pairwise_singleton _ _⟩,?_⟩;clear hr1 m1 o1 o2 f1 f2 cD;simp only[QQ,Nat.reduceAdd];intro b63 w1 hr1;refine(cX w1).mono ?_;rintro e w2 ⟨v6,rfl,o1,f1,m1⟩;refine⟨[.i E.1.kind,.i E.1.code,.i E.1.id,.s E.1.tok,.v v6,.r (E.1.opts.map encO),.s E.1.pay,.i E.2],rfl,rfl,m1,qy5 _,qy2.2 ⟨⟨o1,λk hk=>.inl (f1 k hk)⟩,qy5 _⟩,Z6,?_⟩;clear hr1 m1 o1 f1 cX;simp only[QQ,Nat.reduceAdd];intro b72 w1 hr1;have B38:=λk hk=>Ent.bound (hr1.at_ 6 rfl) (k:=k) hk;have B28:=λk hk=>Ent.bound (hr1.at_ 8 rfl) (k:=k) hk;have B30:=λk hk=>Ent.bound (hr1.at_ 9 rfl) (k:=k) hk;have B5:=λk hk=>Ent.bound (hr1.at_ 12 rfl) (k:=k) hk;refine(cF w1).mono ?_;rintro e w2 ⟨x7,l,rfl,hl,m1,o1,p1,f1,f2⟩;have f3:=λk hk=>Nat.le_trans hr1.mod.size (f2 k hk);refine⟨[.v x7,.r (l.map Z3a),.s F.2.1,.i F.2.2,.a (pksO l)],rfl,rfl,m1,qy5 _,qy2.2 ⟨⟨o1,λk hk=>.inl (f1 k hk)⟩,qy2.2 ⟨⟨p1,λk hk=>.inl (f2 k hk)⟩,qy5 _⟩⟩,List.pairwise_cons.2 ⟨λe he _ k hk hk'=>by { rw[qy12]at he;subst he;exact Znu o1 p1 hk hk' },List.pairwise_singleton _ _⟩,?_⟩;generalize w1.heap.size=n at B38 B28 B30 B5 f2
 clear hr1 m1 o1 p1 f1 cF;simp only[QQ,Nat.reduceAdd];refine⟨[.b true],rfl,λ_ w' hr=>by have:=Z3z w' D.1 D.1 x5 y5 x2 y2 (owns.reads (hr.at_ 5 rfl)) (owns.reads (hr.at_ 6 rfl)) (hr.at_ 10 rfl) (hr.at_ 11 rfl) hsm;rw[decide_eq_true rfl]at this;exact this,?_⟩;simp only[QQ,Nat.reduceAdd];refine⟨[.b true],rfl,λ_ w' hr=>by have:=Z4x w' E.1 E.1 v6 v4 (owns.reads (hr.at_ 3 rfl)) (hr.at_ 8 rfl) hsM;rw[decide_eq_true ⟨rfl,rfl,rfl,rfl,rfl,rfl⟩]at this;exact this,?_⟩;simp only[QQ,Nat.reduceAdd];refine⟨λh=>absurd h (by simp),λ_=>?_⟩;intro w1 hr1;refine(Zgk w1 m v nm (hr1.at_ 14 rfl) hb hn).mono ?_;generalize Z1b m nm=Y
 rintro e w2 ⟨v8,rfl,o1,f1,m1⟩;refine⟨[.i Y.1.kind,.i Y.1.code,.i Y.1.id,.s Y.1.tok,.v v8,.r (Y.1.opts.map encO),.s Y.1.pay,.i Y.2],rfl,rfl,m1,qy5 _,qy2.2 ⟨⟨o1,λk hk=>.inl (f1 k hk)⟩,qy5 _⟩,Z6,?_⟩;clear hr1 m1 o1 f1;simp only[QQ,Nat.reduceAdd];intro b88 w1 hr1;refine(Zaz w1 m v 6 5 (hr1.at_ 16 rfl) hb).mono ?_;generalize Zb m 6 5=Z
 rintro e w2 ⟨v9,rfl,o1,f1,m1⟩;refine⟨[.i Z.1.kind,.i Z.1.code,.i Z.1.id,.s Z.1.tok,.v v9,.r (Z.1.opts.map encO),.s Z.1.pay,.i Z.2],rfl,rfl,m1,qy5 _,qy2.2 ⟨⟨o1,λk hk=>.inl (f1 k hk)⟩,qy5 _⟩,Z6,?_⟩;clear hr1 m1 o1 f1;simp only[QQ,Nat.reduceAdd];intro b97 w1 hr1;refine(Zf6 w1 m v (0,false,0) (hr1.at_ 18 rfl) hb).mono ?_;generalize Ze m (0,false,0)=U
 rintro e w2 ⟨v10,rfl,o1,f1,m1⟩;refine⟨[.i U.1.kind,.i U.1.code,.i U.1.id,.s U.1.tok,.v v10,.r (U.1.opts.map encO),.s U.1.pay,.i U.2],rfl,rfl,m1,qy5 _,qy2.2 ⟨⟨o1,λk hk=>.inl (f1 k hk)⟩,qy5 _⟩,Z6,?_⟩;clear hr1 m1 o1 f1;simp only[QQ,Nat.reduceAdd];intro b106;refine(λh=>⟨h,h⟩) ?_;intro b107 b108;refine⟨[.b true],rfl,λ_ w' hr=>by have:=Z4x w' m m v z1 (hr.at_ 22 rfl) (owns.reads (hr.at_ 20 rfl)) (by omega);rw[decide_eq_true ⟨rfl,rfl,rfl,rfl,rfl,rfl⟩]at this;exact this,?_⟩;simp only[QQ,Nat.reduceAdd];refine⟨λh=>absurd h (by simp),λ_=>?_⟩;intro z;refine⟨λw1 hr=>?_,?_⟩
 ·have a5:owns w1 x5 69 [.str,.int .i64] (D.1.asks.map encA):=hr.at_ 14 rfl;have b5:owns w1 y5 3 [.int .i64] (D.1.codes.map Za):=hr.at_ 15 rfl;have h0:owns w1 z 29 KP [[.int .i64 D.1.kind,.bool D.1.dup,.bool D.1.retain,.bool D.1.clean,.bool D.1.session,.int .i64 D.1.qos,.int .i64 D.1.id,.int .i64 D.1.keep,.int .i64 D.1.code,.string ⟨D.1.client.toArray⟩,.string ⟨D.1.topic.toArray⟩,.string ⟨D.1.payload.toArray⟩,sc1 x5,sc1 y5]]:=hr.at_ 0 rfl;rw[a5.reads.sc1,b5.reads.sc1]at h0;refine(Zie w1 z [(D.1,x5,y5)] h0 (Zd8 a5 b5)).mono ?_;rintro e w2 ⟨rfl,hm⟩;refine⟨rfl,Z4c hr hm (by repeat (first|exact List.Sublist.slnil|apply List.Sublist.cons₂|apply List.Sublist.cons)) (λk hk=>?_) (λe he k hk=>?_)⟩
  ·rcases hk with hk|hk
   ·exact hr.own _ (qy6 (i:=0) rfl) rfl k hk
   rcases Z3b hk with hk|hk
   ·exact hr.own _ (qy6 (i:=14) rfl) rfl k hk
   ·exact hr.own _ (qy6 (i:=15) rfl) rfl k hk
  ·rcases hk with hk|hk
   ·exact Z2u hr.sep 0 rfl (by repeat (first|exact List.Sublist.slnil|apply List.Sublist.cons₂|apply List.Sublist.cons)) he (.inl rfl) hk
   rcases Z3b hk with hk|hk
   ·exact Z2u hr.sep 14 rfl (by repeat (first|exact List.Sublist.slnil|apply List.Sublist.cons₂|apply List.Sublist.cons)) he (.inl rfl) hk
   ·exact Z2u hr.sep 15 rfl (by repeat (first|exact List.Sublist.slnil|apply List.Sublist.cons₂|apply List.Sublist.cons)) he (.inl rfl) hk
 refine⟨λw1 hr=>?_,?_⟩
 ·refine(Zie w1 x7 l (hr.at_ 8 rfl) (hr.at_ 9 rfl)).mono ?_;rintro e w2 ⟨rfl,hm⟩;refine⟨rfl,Z4c hr hm (by repeat (first|exact List.Sublist.slnil|apply List.Sublist.cons₂|apply List.Sublist.cons)) (λk hk=>?_) (λe he k hk=>?_)⟩
  ·rcases hk with hk|hk
   ·exact hr.own _ (qy6 (i:=8) rfl) rfl k hk
   ·exact .inl (f3 k hk)
  ·rcases hk with hk|hk
   ·exact Z2u hr.sep 8 rfl (by repeat (first|exact List.Sublist.slnil|apply List.Sublist.cons₂|apply List.Sublist.cons)) he (.inl rfl) hk
   by_cases hw:e.wr=true
   ·exact Z2u hr.sep 9 rfl (by repeat (first|exact List.Sublist.slnil|apply List.Sublist.cons₂|apply List.Sublist.cons)) he (.inr hw) hk
   ·have h2:=f2 k hk;simp only[List.mem_cons,List.not_mem_nil,or_false]at he;rcases he with rfl|rfl|rfl|rfl|rfl|rfl|rfl|rfl|rfl|rfl|rfl|rfl|rfl|rfl|rfl|rfl|rfl|rfl|rfl<;>first
     | exact absurd rfl hw
     | exact λh=>Nat.lt_irrefl _ (Nat.lt_of_lt_of_le (B38 k h) h2)
     | exact λh=>Nat.lt_irrefl _ (Nat.lt_of_lt_of_le (B28 k h) h2)
     | exact λh=>Nat.lt_irrefl _ (Nat.lt_of_lt_of_le (B30 k h) h2)
     | exact λh=>Nat.lt_irrefl _ (Nat.lt_of_lt_of_le (B5 k h) h2)
 refine⟨λw1 hr=>?_,?_⟩
 ·refine(Z9j w1 E.1 v6 (hr.at_ 9 rfl)).mono ?_;rintro e w2 ⟨rfl,hm⟩;exact⟨rfl,Z4c hr hm (by repeat (first|exact List.Sublist.slnil|apply List.Sublist.cons₂|apply List.Sublist.cons)) (λk hk=>hr.own _ (qy6 (i:=9) rfl) rfl k hk) (λe he k hk=>Z2u hr.sep 9 rfl (by repeat (first|exact List.Sublist.slnil|apply List.Sublist.cons₂|apply List.Sublist.cons)) he (.inl rfl) hk)⟩
 refine⟨λw1 hr=>?_,?_⟩
 ·refine(Z9j w1 Y.1 v8 (hr.at_ 7 rfl)).mono ?_;rintro e w2 ⟨rfl,hm⟩;exact⟨rfl,Z4c hr hm (by repeat (first|exact List.Sublist.slnil|apply List.Sublist.cons₂|apply List.Sublist.cons)) (λk hk=>hr.own _ (qy6 (i:=7) rfl) rfl k hk) (λe he k hk=>Z2u hr.sep 7 rfl (by repeat (first|exact List.Sublist.slnil|apply List.Sublist.cons₂|apply List.Sublist.cons)) he (.inl rfl) hk)⟩
 refine⟨λw1 hr=>?_,?_⟩
 ·refine(Z9j w1 Z.1 v9 (hr.at_ 5 rfl)).mono ?_;rintro e w2 ⟨rfl,hm⟩;exact⟨rfl,Z4c hr hm (by repeat (first|exact List.Sublist.slnil|apply List.Sublist.cons₂|apply List.Sublist.cons)) (λk hk=>hr.own _ (qy6 (i:=5) rfl) rfl k hk) (λe he k hk=>Z2u hr.sep 5 rfl (by repeat (first|exact List.Sublist.slnil|apply List.Sublist.cons₂|apply List.Sublist.cons)) he (.inl rfl) hk)⟩
 refine⟨λw1 hr=>?_,?_⟩
 ·refine(Z9j w1 U.1 v10 (hr.at_ 3 rfl)).mono ?_;rintro e w2 ⟨rfl,hm⟩;exact⟨rfl,Z4c hr hm (by repeat (first|exact List.Sublist.slnil|apply List.Sublist.cons₂|apply List.Sublist.cons)) (λk hk=>hr.own _ (qy6 (i:=3) rfl) rfl k hk) (λe he k hk=>Z2u hr.sep 3 rfl (by repeat (first|exact List.Sublist.slnil|apply List.Sublist.cons₂|apply List.Sublist.cons)) he (.inl rfl) hk)⟩
 refine⟨by omega,by omega,⟨x,i+1,rfl,by omega⟩,?_⟩;omega
end Go.Proofs.Y
namespace Go.Sx
open Go Go.ChangeShapes Go.WideShapes Go.ChangeAt Go.RowKit
section
variable {H:Type} {enc:TypeId×Value->H} {P:Program}
def Zuc(P:Program)(ts:List TypeId):Bool:=ts.all λt=>match P.underlying t with|some (.slice e)=>decide (0<P.cellsOf e)|_=>true
def Znv(P:Program)(ts:List TypeId):Bool:=ts.all λt=>match P.underlying t with
 | some (.slice e)=>ts.contains e
 | some (.pointer e)=>ts.contains e
 | some (.array _ e)=>ts.contains e
 | some (.map _ e)=>ts.contains e
 | some (.struct fs)=>fs.toList.all λf=>ts.contains f.type
 | _=>true
theorem Zt6(hl:laidOutB P=true)(hm:mapsRowed P=true){ts:List TypeId}(hc:Znv P ts=true)(hs:ts.all (λt=>decide (t<P.types.size))=true):Kids P (·∈ts):=by
 have K:=kids_rows hl hm;have hs':∀t∈ts,t<P.types.size:=λt ht=>by simpa using List.all_eq_true.1 hs t ht
 have hc':=λt ht=>List.all_eq_true.1 hc t ht;refine⟨λ{t e} ht hu=>?_,λ{t e} ht hu=>?_,λ{t e n} ht hu=>⟨?_,(K.array (hs' t ht) hu).2⟩,λ{t fs} ht hu=>⟨?_,(K.struct (hs' t ht) hu).2⟩,λ{t k e} ht hu=>?_⟩
 ·have:=hc' t ht;rw[hu]at this;simpa using this
 ·have:=hc' t ht;rw[hu]at this;simpa using this
 ·have:=hc' t ht;rw[hu]at this;simpa using this
 ·have:=hc' t ht;rw[hu]at this;simp only[List.all_eq_true]at this;exact λf hf=>by simpa using this f hf
 ·have:=hc' t ht;rw[hu]at this;simpa using this
theorem Zb3{w w':World}{p:MemPlace}(h:w'.heap[p.block]?=w.heap[p.block]?):w.sameAt w' p:=by
 cases p with
 | cell b off=>exact World.cell?_of_block h
 | map b=>exact h
theorem Z7n{w w':World}{sp:Nat->Bool}{T:TypeId->Prop}(K:Kids P T)(hsz:∀{t e:TypeId},T t->P.underlying t=some (.slice e)->0<P.cellsOf e) : ∀{ts:List TypeId} {vs:List Value} {ds:List (DataW H)} {ps:List MemPlace},(∀t∈ts,T t)->DataW.TrodAll enc P w 0 (λ_=>true) true ts vs ds ps -> (∀p∈ps,w.sameAt w' p)->(∀p∈ps,sp p.block=true)->DataW.TrodAll enc P w' 0 sp true ts vs ds ps
 | [],_,_,_,_,h,_,_=>by obtain⟨rfl,rfl,rfl⟩:=trodAll_nil h;exact trodAll_mk0
 | t::ts,_,_,_,ht,h,hs,hp=>by
  obtain⟨v,vs1,d,ds1,a,b,rfl,rfl,rfl,h1,h2⟩:=trodAll_cons h;obtain⟨n,h1⟩:=h1;exact⟨a,b,⟨n,DataW.trod_stays K hsz (λh=>by cases h) (ht t (qy8 ..)) h1 (λp hp'=>hs p (List.mem_append_left _ hp')) (λp hp'=>hp p (List.mem_append_left _ hp'))⟩,
   Z7n K hsz (λu hu=>ht u (qy10 _ hu)) h2 (λp hp'=>hs p (List.mem_append_right _ hp')) (λp hp'=>hp p (List.mem_append_right _ hp')),rfl⟩
theorem Zqd{f:Func}{s:ChangeSpec}{fresh handsOn again:Bool}{W W':World}{args:Array Value}{ds gs:List (DataW H)}{before:List MemPlace}{tb:TypeId}(ts:List TypeId) (hW:DataW.Whole enc P f.params.toList s.vars false W args.toList ds gs before) (hv:s.vars=[]) (hr:f.resultTypes=#[tb]) (htb:P.underlying tb=some .bool) (hfn:gs=[]->(s.fn H ds).results=[.lit (.bool true)]/\(s.fn H ds).args=ds/\(s.fn H ds).vars=[]) (hl:laidOutB P=true) (hm:mapsRowed P=true) (hc:Znv P ts=true) (hs:ts.all (λt=>decide (t<P.types.size))=true) (hz:Zuc P ts=true) (hp:f.params.toList.all ts.contains=true) (h:Mod [] W W'):s.post enc P f false fresh handsOn again W args (.bool true) W':=by
 have hW':=hW;have hlt:=hW.lt;obtain⟨p,q,hA,hV,rfl,hfz,hn⟩:=hW;rw[hv]at hV;obtain⟨rfl,rfl⟩:=trodVars_none hV;obtain⟨f1,f2,f3⟩:=hfn rfl;have K:=Zt6 hl hm hc hs;have hsz:∀{t e:TypeId},t∈ts->P.underlying t=some (.slice e)->0<P.cellsOf e:=λ{t e} ht hu=>by have:=List.all_eq_true.1 hz t ht;rw[hu]at this;simpa using this
 have hT:∀t∈f.params.toList,t∈ts:=λt ht=>by simpa using List.all_eq_true.1 hp t ht
 have hblk:∀k,k<W.heap.size->W'.heap[k]?=W.heap[k]?:=λk hk=>h.block k hk (by simp);have hsame:∀x∈p,W.sameAt W' x:=λx hx=>Zb3 (hblk _ (hlt x (by simpa using hx)));have hargs:∀sp:Nat->Bool,(∀x∈p,sp x.block=true)->DataW.TrodAll enc P W' 0 sp true f.params.toList args.toList (s.fn H (ds++[])).args p:=λsp hsp=>by rw[List.append_nil,f2];exact Z7n K hsz hT hA hsame hsp
 have hres:∀(b:Nat) (sp:Nat->Bool) (hd:Bool),DataW.TrodAll enc P W' b sp hd f.resultTypes.toList ((Value.bool true).resultList f.resultTypes.size) (s.fn H (ds++[])).results []:=λb sp hd=>by rw[List.append_nil,f1,hr];exact trodAll_cons_mk (shut_bool htb _) trodAll_mk0
 have hvars:∀sp:Nat->Bool,DataW.TrodVars enc P W' sp s.vars (s.fn H (ds++[])).vars []:=λsp=>by rw[List.append_nil,f3,hv];rfl
 have hold:∀x∈p,(λb=>decide (b<W.heap.size)) x.block=true:=λx hx=>by simpa using hlt x (by simpa using hx)
 refine⟨ds,[],p++[],[],p,[],hW',hres _ _ _,hargs _ hold,hvars _,⟨h.os,h.output,λi hi=>?_⟩,λ_=>⟨?_,[.lit (.bool true)]++ds,[],([]++p)++[],⟨[]++p,[],trodAll_append (by have:=hargs (λ_=>true) (λ_ _=>rfl);rw[List.append_nil,f2]at this;exact this) (by have:=hres 0 (λ_=>true) true;rw[List.append_nil,f1]at this;exact this),by rw[hv];rfl,rfl,?_,by simp⟩,?_⟩⟩
 ·have e:=hblk i hi;rw[e];cases W.heap[i]? with
  | none=>rfl
  | some o=>cases o<;>simp
 ·exact ok_one hr rfl (okWide_bool_mk htb _)
 ·intro b off hb;have hb:MemPlace.cell b off∈p:=by simpa using hb
  have hlt':=hlt _ (show MemPlace.cell b off∈p++[] by simpa using hb);have:=hfz b off (by simpa using hb);simp only[World.frozen?,hblk b hlt']at this⊢;exact this
 ·intro x hx _;simpa using hx
end
end Go.Sx
namespace Go.Sx
open Go Go.ChangeShapes Go.WideShapes Go.ChangeAt Go.RowKit
section
variable {H:Type} {enc:TypeId×Value->H} {P:Program} {w:World} {sp:Nat->Bool}
structure Bulk(B:DataW H->Nat):Prop where
 agg:∀l:List (DataW H),(l.map B).sum<=B (.agg l)
 slice:∀l r:List (DataW H),(l.map B).sum+1<=B (.slice l r)
 str:∀s:List UInt8,s.length+1<=B (.lit (.string s))
 one:∀d:DataW H,1<=B d
def Zb4(P:Program)(g:TypeId->Option (List (TypeId×Kd))):List Field->Nat->Option (List (TypeId×Kd))
 | [],_=>some []
 | f::fs,off=>do
  let l <- g f.type
  let r <- Zb4 P g fs (off+l.length)
  if f.offset=off/\P.cellsOf f.type=l.length then some (l++r)else none
def Z8u(P:Program):Nat->TypeId->Option (List (TypeId×Kd))
 | 0,_=>none
 | f+1,t=>match P.underlying t with
  | some .bool=>some [(t,.bool)]
  | some (.int k)=>some [(t,.int k)]
  | some .string=>some [(t,.str)]
  | some (.slice _)=>some [(t,.oth)]
  | some (.struct fs)=>match Zb4 P (Z8u P f) fs.toList 0 with
   | some l=>if P.cellsOf t=l.length then some l else none
   | none=>none
  | _=>none
def Zff(enc:TypeId×Value->H)(P:Program)(w:World)(sp:Nat->Bool)(B:DataW H->Nat)(l:TypeId×Kd)(c:Value)(b:Nat):Prop :=
 l.2.ok c/\∃n d ps,DataW.trod enc P w 0 sp true n l.1 [c]=some (d,ps)/\B d<=b
inductive Lv (enc:TypeId×Value->H) (P:Program) (w:World) (sp:Nat->Bool) (B:DataW H->Nat):List (TypeId×Kd)->List Value->Nat->Prop
 | nil (b:Nat):Lv enc P w sp B [] [] b
 | cons {l:TypeId×Kd} {ls:List (TypeId×Kd)} {c:Value} {cs:List Value} {b1 b2 b:Nat}:Zff enc P w sp B l c b1->Lv enc P w sp B ls cs b2->b1+b2<=b->Lv enc P w sp B (l::ls) (c::cs) b
variable {B:DataW H->Nat}
theorem Lv.mono{ls:List (TypeId×Kd)}{cs:List Value}{b b':Nat}(h:Lv enc P w sp B ls cs b)(hb:b<=b'):Lv enc P w sp B ls cs b':=by
 cases h with
 | nil=>exact .nil _
 | cons h1 h2 h3=>exact .cons h1 h2 (by omega)
theorem Lv.append{l2:List (TypeId×Kd)}{c2:List Value}{b2:Nat}(h':Lv enc P w sp B l2 c2 b2):∀{l1:List (TypeId×Kd)} {c1:List Value} {b1:Nat},Lv enc P w sp B l1 c1 b1->Lv enc P w sp B (l1++l2) (c1++c2) (b1+b2):=by
 intro l1 c1 b1 h;induction h with
 | nil b=>exact h'.mono (by omega)
 | cons h1 h2 h3 ih=>exact .cons h1 ih (by omega)
theorem Lv.rowOk{ls:List (TypeId×Kd)}{cs:List Value}{b:Nat}(h:Lv enc P w sp B ls cs b):rowOk (ls.map (·.2)) cs:=by
 induction h with
 | nil=>trivial
 | cons h1 h2 h3 ih=>exact⟨h1.1,ih⟩
theorem Zcb{g:TypeId->Option (List (TypeId×Kd))}{cs:List Value}{n:Nat}(hg:∀t l cs x,g t=some l->DataW.trod enc P w 0 sp true n t cs=some x->Lv enc P w sp B l cs (B x.1)) : ∀{fs:List Field} {xs:List (DataW H×List MemPlace)} {off:Nat} {l:List (TypeId×Kd)},Zb4 P g fs off=some l->xs.length=fs.length -> (∀(i:Nat) (f:Field),fs[i]?=some f->DataW.trod enc P w 0 sp true n f.type ((cs.drop f.offset).take (P.cellsOf f.type))=xs[i]?)->off+l.length<=cs.length -> Lv enc P w sp B l ((cs.drop off).take l.length) ((xs.map λx=>B x.1).sum)
 | [],[],off,l,h,_,_,_=>by simp[Zb4]at h;subst h;simp;exact .nil _
 | f::fs,[],off,l,h,hl,_,_=>by simp at hl
 | [],x::xs,off,l,h,hl,_,_=>by simp at hl
 | f::fs,x::xs,off,l,h,hl,hx,hc=>by
  simp only[Zb4,Option.bind_eq_bind,Option.bind_eq_some_iff,Option.ite_none_right_eq_some,Option.some.injEq]at h;obtain⟨l1,h1,l2,h2,⟨ho,hcs⟩,rfl⟩:=h;have hx0:=hx 0 f rfl;simp only[List.getElem?_cons_zero]at hx0;rw[ho,hcs]at hx0;have i1:=hg _ _ _ _ h1 hx0;simp only[qy11]at hc;have i2:=Zcb hg (xs:=xs) h2 (by simpa using hl) (λi f' hf=>by have:=hx (i+1) f' (by simpa using hf);simpa using this) (by omega);have e:(cs.drop off).take (l1++l2).length=(cs.drop off).take l1.length++(cs.drop (off+l1.length)).take l2.length:=by rw[qy11,<- List.drop_drop,List.take_add]
  rw[e];exact i2.append i1
theorem Zb5(hB:Bulk B):∀(f:Nat) {t:TypeId} {l:List (TypeId×Kd)} {n:Nat} {cs:List Value} {x:DataW H×List MemPlace},Z8u P f t=some l->DataW.trod enc P w 0 sp true n t cs=some x->Lv enc P w sp B l cs (B x.1)
 | 0,t,l,n,cs,x,h,_=>by simp[Z8u]at h
 | f+1,t,l,n,cs,x,h,hx=>by
  simp only[Z8u]at h;have one:∀(k:Kd) (c:Value),cs=[c]->k.ok c->Lv enc P w sp B [(t,k)] cs (B x.1):=λk c hc hk=>by subst hc;exact .cons ⟨hk,n,x.1,x.2,hx,Nat.le_refl _⟩ (.nil 0) (by omega)
  split at h
  ·rename_i hu;simp at h;subst h;obtain⟨b,rfl,-⟩:=DataW.trod_bool hu hx;exact one _ _ rfl ⟨b,rfl⟩
  ·rename_i k hu;simp at h;subst h;obtain⟨m,rfl,-⟩:=DataW.trod_int hu hx;exact one _ _ rfl ⟨m,rfl⟩
  ·rename_i hu;simp at h;subst h;obtain⟨⟨⟨s⟩⟩,rfl,-⟩:=DataW.trod_string hu hx;exact one _ _ rfl ⟨s,rfl⟩
  ·rename_i e hu;simp at h;subst h;rcases DataW.trod_slice hu hx with⟨rfl,-⟩|⟨a,len,cap,elems,rest,m,-,rfl,-⟩
   ·exact one _ _ rfl rfl
   ·exact one _ _ rfl rfl
  ·rename_i fs hu;split at h
   ·rename_i l' hl;split at h
    ·rename_i hc;simp at h;subst h;obtain⟨xs,m,rfl,rfl,hcl,hxl,hf⟩:=DataW.trod_struct hu hx;have:=Zcb (cs:=cs) (λt l cs x=>Zb5 hB f (t:=t) (l:=l) (n:=m) (cs:=cs) (x:=x)) hl (by simpa using hxl) (λi f hi=>hf i f (by simpa using hi)) (by omega);rw[List.drop_zero,List.take_of_length_le (by omega)]at this;refine this.mono ?_;have:=hB.agg (xs.map (·.1));rw[List.map_map]at this;exact this
    ·cases h
   ·cases h
  ·cases h
theorem Zqe(hB:Bulk B){f n:Nat}{t e:TypeId}{ls:List (TypeId×Kd)}{v:Value}{x:DataW H×List MemPlace}(hu:P.underlying t=some (.slice e))(hl:Z8u P f e=some ls)(hc:P.cellsOf e=ls.length)(hpos:0<ls.length) (hx:DataW.trod enc P w 0 sp true n t [v]=some x) : ∃(rows:List (List Value)) (bs:List Nat),reads w v (ls.map (·.2)) rows/\bs.length=rows.length/\(∀(i:Nat) r b,rows[i]?=some r->bs[i]?=some b->Lv enc P w sp B ls r b)/\bs.sum+1<=B x.1:=by
 rcases DataW.trod_slice hu hx with⟨hv,rfl⟩|⟨a,len,cap,elems,rest,m,-,hv,rfl,-,hlc,hcm,hel,hget,-⟩
 ·simp only[List.cons.injEq,and_true]at hv;subst hv;exact⟨[],[],⟨by simp,none,0,rfl,⟨λ_=>rfl,by simp⟩,by simp⟩,rfl,by simp,by simpa using hB.one _⟩
 ·simp only[List.cons.injEq,and_true]at hv;subst hv;rw[hc]at hget;have hrow:∀i,i<len->∃r y,w.cells? 0 (a.add (i*ls.length)) ls.length=some r/\elems[i]?=some y/\DataW.trod enc P w 0 sp true m e r=some y:=λi hi=>by
   have h1:=hget i hi;have h2:elems[i]?=some (elems[i]'(by omega)):=qy7 (by omega);rw[h2,Option.bind_eq_some_iff]at h1;obtain⟨r,h3,h4⟩:=h1;exact⟨r,_,h3,h2,h4⟩
  let rows:=(List.range len).map λi=>(w.cells? 0 (a.add (i*ls.length)) ls.length).getD []
  have hrl:rows.length=len:=by simp[rows]
  have hri:∀i,i<len->∃r y,rows[i]?=some r/\w.cells? 0 (a.add (i*ls.length)) ls.length=some r/\elems[i]?=some y/\Lv enc P w sp B ls r (B y.1):=λi hi=>by obtain⟨r,y,h1,h2,h3⟩:=hrow i hi;exact⟨r,y,by simp[rows,List.getElem?_range hi,h1],h1,h2,Zb5 hB f hl h3⟩
  have hlen:∀r∈rows,r.length=(ls.map (·.2)).length/\rowOk (ls.map (·.2)) r:=λr hr=>by obtain⟨i,hi,hri'⟩:=List.getElem_of_mem hr;obtain⟨r',y,h1,h2,h3,h4⟩:=hri i (by omega);rw[qy7 hi,hri']at h1;simp at h1;subst h1;exact⟨h4.rowOk.length,h4.rowOk⟩
  refine⟨rows,elems.map λy=>B y.1,⟨λr hr=>(hlen r hr).2,some a,cap,by rw[hrl],⟨(λh=>by cases h),by omega⟩,λhne=>⟨a,rfl,λj u hj=>?_⟩⟩,by simp[hrl,hel],λi r b hr hb=>?_,?_⟩
  ·have hL:(ls.map (·.2)).length=ls.length:=by simp
   have hfl:=Zj (λr hr=>(hlen r hr).1);have hjl:j<rows.length*ls.length:=by have:=(List.getElem?_eq_some_iff.1 hj).1;rw[hfl,hL]at this;exact this
   have hi:j / ls.length<len:=by rw[<- hrl];exact Nat.div_lt_of_lt_mul (by rw[Nat.mul_comm];exact hjl)
   obtain⟨r,y,h1,h2,h3,h4⟩:=hri _ hi;have hk:=Nat.mod_lt j hpos;have hjj:j=j / ls.length*ls.length+j % ls.length:=by rw[Nat.mul_comm];exact(Nat.div_add_mod j _).symm
   have:=Z4d (λr hr=>by rw[<- hL];exact(hlen r hr).1) (i:=j / ls.length) (c:=j % ls.length) hk;rw[<- hjj,hj,h1]at this;obtain⟨c1,c2⟩:=World.cells?_some h2;have c3:=c2.2 _ hk;rw[Z96,<- hjj]at c3;rw[c3];exact this.symm
  ·obtain⟨r',y,h1,h2,h3,h4⟩:=hri i (by rw[<- hrl];exact(List.getElem?_eq_some_iff.1 hr).1);rw[h1]at hr;simp at hr;subst hr;rw[List.getElem?_map,h3]at hb;simp at hb;subst hb;exact h4
  ·have:=hB.slice (elems.map (·.1)) (rest.map (·.1));rw[List.map_map]at this;exact this
theorem Zgo{r:Reach}{b0 base:Nat}{held:Bool}{t:TypeId}{fs:Array Field}{v:Value}{d:DataW H}{ps:List MemPlace}(ht:P.underlying t=some (.struct fs))(hval:Value.okWide P w r b0 t v)(hd:DataW.Trod enc P w base sp held t v d ps) : ∃(cs:List Value) (n:Nat),v=.agg cs.toArray/\DataW.trod enc P w base sp held n t cs=some (d,ps):=by obtain⟨n,hd⟩:=hd;simp only[Value.okWide,ht]at hval;obtain⟨cs,rfl,-⟩:=hval;exact⟨cs.toList,n,by simp,by simpa[Value.cells]using hd⟩
theorem Zr5{α:Type}{g:α->Nat}:∀{rows:List α} {bs:List Nat},bs.length=rows.length->(∀(i:Nat) r b,rows[i]?=some r->bs[i]?=some b->g r<=b)->(rows.map g).sum<=bs.sum
 | [],[],_,_=>by simp
 | r::rows,b::bs,hl,h=>by have h0:=h 0 r b rfl rfl;have:=Zr5 (rows:=rows) (bs:=bs) (by simpa using hl) (λi r' b' hr hb=>h (i+1) r' b' (by simpa using hr) (by simpa using hb));simp only[List.map_cons,List.sum_cons];omega
 | [],_::_,hl,_=>by simp at hl
 | _::_,[],hl,_=>by simp at hl
theorem Zt7(hB:Bulk B){ls:List (TypeId×Kd)}(h0:ls≠[]){rows:List (List Value)}{bs:List Nat}(hl:bs.length=rows.length)(h:∀(i:Nat) r b,rows[i]?=some r->bs[i]?=some b->Lv enc P w sp B ls r b):rows.length<=bs.sum:=by
 have:=Zr5 (g:=λ_:List Value=>1) hl (λi r b hr hb=>by
  cases h i r b hr hb with
  | nil b=>exact absurd rfl h0
  | cons h1 h2 h3=>obtain⟨-,n,d,q,-,h5⟩:=h1;have:=hB.one d;omega)
 have e:(rows.map λ_=>1).sum=rows.length:=by
  clear hl h this;induction rows with
  | nil=>rfl
  | cons r rows ih=>simp only[List.map_cons,List.sum_cons,List.length_cons,ih];omega
 omega
theorem Zff.str(hB:Bulk B){t:TypeId}(ht:P.underlying t=some .string){s:List UInt8}{b:Nat}(h:Zff enc P w sp B (t,.str) (.string ⟨s.toArray⟩) b):s.length+1<=b:=by obtain⟨-,n,d,ps,h1,h2⟩:=h;obtain⟨s',h3,h4⟩:=DataW.trod_string ht h1;simp only[List.cons.injEq,Value.string.injEq,and_true]at h3;subst h3;simp only[Prod.mk.injEq]at h4;obtain⟨⟨rfl,-⟩,-⟩:=h4;have:=hB.str s;omega
end
end Go.Sx
namespace Go.Proofs.Y
open Go Go.Sx Go.ChangeShapes Go.WideShapes Go.ChangeAt Go.RowKit
section
variable {H:Type} {enc:TypeId×Value->H} {w:World} {sp:Nat->Bool} {B:DataW H->Nat}
def Zdl(P:Program)(t:TypeId):Bool:=match P.underlying t with|some (.struct _)=>true|_=>false
theorem Zfg{P:Program}{r:Reach}{b0 base:Nat}{held:Bool}{t:TypeId}{v:Value}{d:DataW H}{ps:List MemPlace}(ht:Zdl P t=true)(hval:Value.okWide P w r b0 t v)(hd:DataW.Trod enc P w base sp held t v d ps) : ∃(cs:List Value) (n:Nat),v=.agg cs.toArray/\DataW.trod enc P w base sp held n t cs=some (d,ps):=by
 unfold Zdl at ht;split at ht
 ·exact Zgo (by assumption) hval hd
 ·cases ht
end
end Go.Proofs.Y
namespace Go.Proofs.Y
open Go Go.Sx Go.ChangeShapes Go.WideShapes Go.ChangeAt Go.RowKit
section
variable {H:Type} {enc:TypeId×Value->H} {w:World} {sp:Nat->Bool} {B:DataW H->Nat}
theorem Zud{rows:List (List Value)}(h:∀r∈rows,rowOk [.int .i64,.str] r):∃os,rows=List.map encO os:=by
 induction rows with
 | nil=>exact⟨[],rfl⟩
 | cons r rows ih =>
  obtain⟨ps,hps⟩:=ih λr hr=>h r (qy10 _ hr);have h0:=h r (qy8 ..)
  match r,h0 with
  | [_,_],⟨⟨a,rfl⟩,⟨b,rfl⟩,_⟩=>exact⟨(a,b)::ps,by rw[hps];rfl⟩
theorem Zue(hB:Bulk B)(h1:Tryz.prog.underlying 22=some (.slice 74))(h2:Z8u Tryz.prog 8 74=some [(3,.int .i64),(9,.str)])(h3:Tryz.prog.cellsOf 74=2){cs:List Value}{b:Nat} (h:Lv enc Tryz.prog w (λ_=>true) B [(3,.int .i64),(3,.int .i64),(3,.int .i64),(9,.str),(22,.oth),(9,.str)] cs b) : ∃(m:Msg) (v:Value),Value.agg cs.toArray=mV m (sc1 v)/\Z12 w v m.opts/\m.tok.length+m.opts.length+m.pay.length<=b:=by
 cases h with
 | cons c1 h e1 =>
 cases h with
 | cons c2 h e2 =>
 cases h with
 | cons c3 h e3 =>
 cases h with
 | cons c4 h e4 =>
 cases h with
 | cons c5 h e5 =>
 cases h with
 | cons c6 h e6 =>
 cases h;obtain⟨k,rfl⟩:=c1.1;obtain⟨c,rfl⟩:=c2.1;obtain⟨j,rfl⟩:=c3.1;obtain⟨t,rfl⟩:=c4.1;obtain⟨p,rfl⟩:=c6.1;have q4:=Zff.str hB Tryz.underlying9 c4;have q6:=Zff.str hB Tryz.underlying9 c6;obtain⟨-,n,d,ps,hx,hb⟩:=c5;obtain⟨rows,bs,rd,bl,lv,bk⟩:=Zqe hB (f:=8) h1 h2 h3 (by decide) hx;have rl:=Zt7 hB (by decide) bl lv;obtain⟨os,rfl⟩:=Zud rd.1;rw[qy3]at rl;simp only at bk;exact⟨⟨k,c,j,t,os,p⟩,_,by rw[rd.sc1];rfl,rd,by simp only;omega⟩
end
