/-
  Packets out of a stream: Feed, walked; lists of packets compared. By an AI agent.
-/
import Derived.Test.YtonpnhfekobmdaaGreatDoorB10
set_option linter.all false
set_option maxHeartbeats 20000000
namespace Go.Proofs.Y
open Go.Sx
theorem Ztx(w:World)(r s:List UInt8)(hs:r.length+s.length<=60000000):Calls Tryz.prog 12 #[.string ⟨r.toArray⟩,.string ⟨s.toArray⟩] w λe w'=>∃(x:Value) (l:List Z24),e=.returned (.tuple #[sc1 x,.string ⟨(feed (r++s)).2.1.toArray⟩,.int .i64 (feed (r++s)).2.2])/\l.map (·.1)=(feed (r++s)).1/\Zpi w w' x l:=by
 refine Z1 (Z5 (J:=[.s r,.s s]) (sxE_ok.joins _) Tryz.func12 Za7 rfl rfl (Rel.start w _) rfl rfl ?_) rfl;simp only[QQ,Nat.reduceAdd];refine⟨by omega,?_⟩;refine⟨Z20 [],λw _=>Zi7 w,λk hk=>absurd hk (Zes k),?_⟩;refine⟨λvs=>∃(l:List Z24) (s':List UInt8) (x:Value),vs=[.v nilV,.r [],.s [],.i 0,.s s',.v x,.r (l.map Z3a),.a (Z20 l)]/\Z40 (s'.length+1) s' (l.map (·.1))=feed (r++s)/\l.length+s'.length<=(r++s).length/\∀k,(Z20 l).fp k->w.heap.size<=k,
  λvs=>(vs.getD 4 (.i 0)).toS.length,⟨[],r++s,nilV,rfl,rfl,by simp,λk hk=>absurd hk (Zes k)⟩,?_⟩
 rintro _ - ⟨l,s',x,rfl,hf,hlen,hfr⟩;rw[qy11]at hlen;simp only[QQ,Nat.reduceAdd];intro w1 hr;refine(Ztw w1 s' (by omega)).mono ?_;have hstep:=@Z8e s' (l.map (·.1));have hbd:=@Z7g s';have hend:(Z14 s').2.2≠0->feed (r++s)=if(Z14 s').2.2=8 then(l.map (·.1),s',0)else(l.map (·.1),[],(Z14 s').2.2):=λh=>by rw[<- hf,Z40,if_neg h]
 generalize Z14 s'=t at hstep hbd hend
 obtain⟨q,n,er⟩:=t;rintro e w2 ⟨px,py,rfl,m,rx,ry,fx,fy⟩;refine⟨[.i q.kind,.b q.dup,.b q.retain,.b q.clean,.b q.session,.i q.qos,.i q.id,.i q.keep,.i q.code,.s q.client,.s q.topic,.s q.payload,.v px,.r (q.asks.map encA),.v py,.r (q.codes.map Za),.i n,.i er],rfl,rfl,m,qy5 _,qy2.2 ⟨⟨rx,λk hk=>.inl (fx k hk.2)⟩,qy2.2 ⟨⟨ry,λk hk=>.inl (fy k hk.2)⟩,qy5 _⟩⟩,Zp (by simp[Ent.wr]),?_⟩;have hw:=hr.mod.size;simp only[QQ,Nat.reduceAdd];clear m hr;intro b1;refine⟨λh0=>?_,λh0=>⟨λh8 w' hr=>?_,λh8 w' hr=>?_⟩⟩
 ·have hb:=hbd h0;simp only at hb;intro z1;refine⟨by simp only[qy3,List.length_nil,qy11,List.length_cons];omega,λz2=>⟨by omega,by omega,?_⟩⟩;refine⟨Z20 (l++[(q,px,py)]),λw' hr=>Zap (hr.at_ 5 rfl) (hr.at_ 3 rfl) (hr.at_ 4 rfl),λk hk=>?_,⟨l++[(q,px,py)],s'.drop n.toNat,z2,?_,?_,?_,λk hk=>?_⟩,?_⟩
  ·rcases Zet hk with h|h|h
   ·exact(qE 5 rfl rfl h)
   ·exact(qE 3 rfl rfl h)
   ·exact(qE 4 rfl rfl h)
  ·rw[rx.sc1,ry.sc1];simp[Z3a]
  ·rw[List.map_append];rw[<- hf];exact(hstep h0).symm
  ·rw[qy11,List.length_drop,qy11,List.length_cons,List.length_nil];omega
  ·rcases Zet hk with h|h|h
   ·exact hfr k h
   ·exact Nat.le_trans hw (fx k h.2)
   ·exact Nat.le_trans hw (fy k h.2)
  ·show(List.drop n.toNat (List.take (s'.length:Int).toNat s')).length<s'.length
   rw[qy4,List.take_length,List.length_drop];omega
 ·rw[hend h0,if_pos h8];have o:=hr.at_ 4 rfl;refine⟨x,l,rfl,rfl,hr.mod,owns.reads o,hr.at_ 3 rfl,λk hk=>(hr.own _ (qy6 (i:=4) rfl) rfl k hk).resolve_right (by simp),hfr⟩
 ·rw[hend h0,if_neg h8];have o:=hr.at_ 4 rfl;refine⟨x,l,rfl,rfl,hr.mod,owns.reads o,hr.at_ 3 rfl,λk hk=>(hr.own _ (qy6 (i:=4) rfl) rfl k hk).resolve_right (by simp),hfr⟩
theorem Zpj{a b:List Z24}(hl:a.length=b.length)(h:∀i,i<a.length->(a.getD i xD).1=(b.getD i xD).1):a.map (·.1)=b.map (·.1):=by
 refine List.ext_getElem (by simpa using hl) λi h1 h2=>?_;have h1:i<a.length:=by simpa using h1
 have h2:i<b.length:=by simpa using h2
 have:=h i h1;rw[qy1,qy1,qy7 h1,qy7 h2]at this;simpa using this
theorem Zaq(w:World)(x y:Value)(a b:List Z24)(ha:Zmq w x a)(hb:Zmq w y b)(pa:(Z20 a).holds w)(pb:(Z20 b).holds w)(hs:∀t∈a,SmallP t.1)(hl:a.length<1000000000) : Calls Tryz.prog 30 #[sc1 x,sc1 y] w λe w'=>e=.returned (.bool (decide (a.map (·.1)=b.map (·.1))))/\Mod [] w w':=by
  refine Z1 (Z5 (J:=[.v x,.r (a.map Z3a),.a (Z20 a),.v y,.r (b.map Z3a),.a (Z20 b)]) sxE_ok Tryz.func30 Z2k rfl rfl (Rel.start2 (by refine qy2.2 ⟨⟨ha,rfl⟩,qy2.2 ⟨⟨pa,rfl⟩,qy2.2 ⟨⟨hb,rfl⟩,qy2.2 ⟨⟨pb,rfl⟩,qy5 _⟩⟩⟩⟩)) rfl rfl ?_) rfl
  simp only[QQ,Nat.reduceAdd,qy3];refine⟨λh w' hr=>⟨?_,hr.mod⟩,λh=>?_⟩
  . have:¬a.map (·.1)=b.map (·.1):=λe=>h (by have:=congrArg List.length e;simp at this;omega);simp[this]
  have hlen:a.length=b.length:=by omega
  refine⟨λvs=>∃(i:Nat) (v:V),vs=[v,.i i]/\i<=a.length/\∀j,j<i->(a.getD j xD).1=(b.getD j xD).1,λvs=>a.length - (vs.getD 1 (.i 0)).toI.toNat,⟨0,_,rfl,by omega,by omega⟩,?_⟩;rintro _ - ⟨i,v,rfl,hi,hg⟩;simp only[QQ,Nat.reduceAdd,qy3,qy4];refine⟨λh2=>?_,λh2 w' hr=>⟨?_,hr.mod⟩⟩
  . have hia:i<a.length:=by omega
    have hib:i<b.length:=by omega
    rw[Zqw hia,Zqw hib];have ma:a.getD i xD∈a:=by rw[qy1,qy7 hia];exact List.getElem_mem hia
    have mb:b.getD i xD∈b:=by rw[qy1,qy7 hib];exact List.getElem_mem hib
    refine⟨by omega,by omega,?_⟩;refine⟨[.b (decide ((a.getD i xD).1=(b.getD i xD).1))],rfl,λ_ w' hr=>?_,?_⟩
    . have qa:=Zer (hr.at_ 1 rfl:(Z20 a).holds w') ma;have qb:=Zer (hr.at_ 3 rfl:(Z20 b).holds w') mb;exact Z3z w' (a.getD i xD).1 (b.getD i xD).1 _ _ _ _ qa.1 qa.2 qb.1 qb.2 (hs _ ma)
    simp only[QQ,Nat.reduceAdd];refine⟨λh3 w' hr=>⟨?_,hr.mod⟩,λh3=>⟨by omega,by omega,⟨i+1,v,rfl,by omega,λj hj=>?_⟩,by omega⟩⟩
    . have h3:¬(a.getD i xD).1=(b.getD i xD).1:=by simpa using h3
      have:¬a.map (·.1)=b.map (·.1):=λe=>h3 (by
        have e2:(a.map (·.1)).getD i (pD_Q 0)=(b.map (·.1)).getD i (pD_Q 0):=by rw[e]
        rw[qy1,qy1,List.getElem?_map,List.getElem?_map,qy7 hia,qy7 hib]at e2;rw[qy1,qy1,qy7 hia,qy7 hib];exact e2)
      simp[this]
    . have h3:(a.getD i xD).1=(b.getD i xD).1:=by simpa using h3
      by_cases hji:j=i
      . subst hji;exact h3
      . exact hg j (by omega)
  . have:=Zpj hlen λj hj=>hg j (by omega);simp[this]
