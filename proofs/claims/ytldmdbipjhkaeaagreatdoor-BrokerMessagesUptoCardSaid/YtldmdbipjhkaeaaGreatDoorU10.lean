/- By an AI agent. -/
import Derived.Test.YtldmdbipjhkaeaaGreatDoorU09
import Derived.Test.YtldmdbipjhkaeaaGreatDoorU05
import Derived.Test.YtldmdbipjhkaeaaGreatDoorU08
import Derived.Lib.Overlaps
import Derived.Shelf.Spec.SlicesInsert
import Derived.Lib.AppendZerosOnto
import Derived.Test.YtldmdbipjhkaeaaGreatDoorU06
set_option linter.all false
set_option maxHeartbeats 20000000
namespace Go.Proofs.Y
open Go.Sx
theorem Zxy{J:List V}{es:List Ent}(h:∀e∈es,e.wr=false):Z2o J es :=
 List.Pairwise.imp_of_mem (λ{a b} ha hb _ hw=>by rcases hw with hw|hw;rw[h a ha]at hw;cases hw;rw[h b hb]at hw;cases hw) (List.pairwise_of_forall (R:=λ_ _=>True) (λ_ _=>trivial))
def pk0(n p:List UInt8):Pk:=(false,0,0,n,p)
def pk1(f:Fl):Pk:=(true,1,f.1,f.2.1,f.2.2)
def Zi6(s:Ses)(n p:List UInt8)(q:Int):Ses×List Pk :=
 if q=0 then(s,if s.on=true then[pk0 n p]else[])
 else if((¬s.on=true)/\s.clean=true)\/(s.qu.length:Int)=6 then(s,[])else flyS { s with qu:=s.qu++[(0,n,p)] }
def Zbl(l:List Fl)(id:Int):List Fl:=l.filter λf=>!(idIs id f)
def Z7j(s:Ses)(id:Int):Ses×List Pk:=flyS { s with fl:=Zbl s.fl id }
def Zm3(s:Ses):Ses×List Pk:=((flyS { s with on:=true }).1,s.fl.map pk1++(flyS { s with on:=true }).2)
theorem Zi7{n:Nat}{s:Ses}{u v:Value}:Z8n n s u v u s.fl:=λk hk=>.inr (.inl hk)
theorem Zm4{n:Nat}{s:Ses}{u v:Value}:Z8n n s u v v s.qu:=λk hk=>.inr (.inr hk)
theorem Z98{J:List V}{g:List Nat}{i:Nat}(hi:i∈g){k:Nat}(h:Z2 (J.getD i (.i 0)).toV k):k∈Zw J g:=List.mem_flatMap.2 ⟨i,hi,by rw[h];simp⟩
theorem Zt3{n m:Nat}{s t:Ses}{u v u1 v1 x:Value}{l:List Fl}(h:Z8n m t u1 v1 x l)(hnm:n<=m)(hu:Z8n n s u v u1 t.fl)(hv:Z8n n s u v v1 t.qu):Z8n n s u v x l:=λk hk=>by
 rcases h k hk with h1|h1|h1
 ·exact .inl (Nat.le_trans hnm h1)
 ·exact hu k h1
 ·exact hv k h1
theorem Zxz(w:World)(s:Ses)(u v:Value)(n p:List UInt8)(q:Int)(hu:Zk w u s.fl)(hv:Zk w v s.qu)(hn:1<=s.next/\s.next<=65535)(hl1:s.fl.length<100000)(hl2:s.qu.length<100000):Calls Tryz.prog 107 #[sesV s u v,.string ⟨n.toArray⟩,.string ⟨p.toArray⟩,.int .i64 q] w λe w'=>Z14v w w' s u v e (Zi6 s n p q).1 (Zi6 s n p q).2:=by
 refine Z1 (Z7r (J:=[.s s.cl,.b s.on,.b s.clean,.v u,.r (s.fl.map encF),.v v,.r (s.qu.map encF),.i s.next,.s n,.s p,.i q]) sxE_ok Tryz.func107 Z6q rfl rfl (Rel.start2 (by simp[Ent.holds,Ent.wr,hu,hv,X.ev])) rfl rfl ?_) rfl;simp only[Tree.goal,X.P,X.ev,SV.ev,CV.ev,Sc.ev,qz,QA,QB,QC,QD,QE,QF,QG,QH,QI,QJ,QK,QL,QM,Nat.reduceAdd,qy3,qy4,gF0,gF1,gF2,List.nil_append];intro b1 b2;refine⟨λh0=>⟨λh1 v1 o1 w' hr=>?_,λh1 w' hr=>?_⟩,λh0=>⟨λh1 w' hr=>?_,λh1 v1 o1=>⟨by omega,λv2 o2 v3 o3=>⟨by omega,λv4 o4 w1 hr=>?_⟩⟩⟩⟩
 ·rw[Zi6,if_pos h0,if_pos h1];exact⟨u,v,v1,rfl,hr.at_ 4 rfl,hr.at_ 5 rfl,(hr.at_ 0 rfl).reads,Zi7,Zm4,λk hk=>by simpa using o1 k hk,hr.mod⟩
 ·rw[Zi6,if_pos h0,if_neg h1];exact⟨u,v,_,rfl,hr.at_ 4 rfl,hr.at_ 5 rfl,Z9 _ _,Zi7,Zm4,λk hk=>by simp[Z2,Value.ownBlock]at hk,hr.mod⟩
 ·rw[Zi6,if_neg h0,if_pos h1];exact⟨u,v,_,rfl,hr.at_ 4 rfl,hr.at_ 5 rfl,Z9 _ _,Zi7,Zm4,λk hk=>by simp[Z2,Value.ownBlock]at hk,hr.mod⟩
 ·rw[Zi6,if_neg h0,if_neg h1];generalize hr2:flyS { s with qu:=s.qu++[(0,n,p)] }=rr
  obtain⟨r,out⟩:=rr;have hv4:Zk w1 v4 (s.qu++[(0,n,p)]):=by have h4:=(hr.at_ 0 rfl).reads;simp only[Tree.goal,X.P,X.ev,SV.ev,CV.ev,Sc.ev,qz,QA,QB,QC,QD,QE,QF,QG,QH,QI,QJ,QK,QL,QM,Nat.reduceAdd,List.nil_append]at h4;rw[Zk,List.map_append];exact h4
  have hc:=Z123 w1 { s with qu:=s.qu++[(0,n,p)] } u v4 (hr.at_ 5 rfl) hv4 hn (by simp;omega) (by simp;omega);rw[hr2]at hc;refine hc.mono ?_;rintro e w2 ⟨u',v',x,rfl,g1,g2,g3,g4,g5,g6,gm⟩;have src:∀(y:Value) (l:List Fl),Z8n w1.heap.size { s with qu:=s.qu++[(0,n,p)] } u v4 y l->Z8n w.heap.size s u v y l:=λy l h=>Zt3 h hr.mod.size Zi7 (Zk0 λk hk=>by simpa using o4 k hk);refine⟨[.s r.cl,.b r.on,.b r.clean,.v u',.r (r.fl.map encF),.v v',.r (r.qu.map encF),.i r.next,.v x,.r (out.map encP)],rfl,rfl,gm.mono (by simp),qy5 _,qy2.2 ⟨⟨g1,λk hk=>?_⟩,qy2.2 ⟨⟨g2,λk hk=>?_⟩,qy2.2 ⟨⟨g3,λk hk=>.inl (g6 k hk.2)⟩,qy5 _⟩⟩⟩,Zxy (by simp[Ent.wr]),?_⟩
  ·rcases g4 k hk with h2|h2|h2
   ·exact .inl h2
   ·exact .inr (.inl ⟨rfl,_,qy6 (i:=5) rfl,rfl,h2⟩)
   ·exact .inr (.inr (Z98 (qy12.2 rfl) h2.2))
  ·rcases g5 k hk with h2|h2|h2
   ·exact .inl h2
   ·exact .inr (.inl ⟨rfl,_,qy6 (i:=5) rfl,rfl,h2⟩)
   ·exact .inr (.inr (Z98 (qy12.2 rfl) h2.2))
  ·simp only[Tree.goal,X.P,X.ev,SV.ev,CV.ev,Sc.ev,qz,QA,QB,QC,QD,QE,QF,QG,QH,QI,QJ,QK,QL,QM,Nat.reduceAdd];intro w3 hr3;exact⟨u',v',x,rfl,hr3.at_ 0 rfl,hr3.at_ 1 rfl,hr3.at_ 2 rfl,src _ _ g4,src _ _ g5,λk hk=>Nat.le_trans hr.mod.size (g6 k hk),hr3.mod⟩
def sndA(k:Nat)(s:Ses)(u v x:Value)(out:List Pk):List V:=[.n k,.s s.cl,.b s.on,.b s.clean,.v u,.r (s.fl.map encF),.v v,.r (s.qu.map encF),.i s.next,.v x,.r (out.map encP)]
abbrev sndC:Ent:=.cells 0 180 [.str (.var 1),.bool (.var 2),.bool (.var 3),.val (.var 4),.val (.var 6),.int .i64 (.var 8),.val (.var 9)]
abbrev sndH:List Ent:=[.row 4 132 kF (.var 5),.row 6 132 kF (.var 7),.row 9 31 kP (.var 10),sndC]
def flyG(s:Ses)(out:List Pk):Ses×List Pk:=(⟨s.cl,s.on,s.clean,(flyR s.on s.fl s.qu s.next out).1,(flyR s.on s.fl s.qu s.next out).2.1,(flyR s.on s.fl s.qu s.next out).2.2.1⟩,(flyR s.on s.fl s.qu s.next out).2.2.2)
def flyJ(s:Ses)(o0:List Pk)(vs:List V):Prop :=
  ∃(x u' v':Value) (out:List Pk) (fl qu:List Fl) (next:Int),vs=[.s s.cl,.b s.on,.b s.clean,.v u',.r (fl.map encF),.v v',.r (qu.map encF),.i next,.v x,.r (out.map encP)] /\
    flyR s.on fl qu next out=flyR s.on s.fl s.qu s.next o0/\(1<=next/\next<=65535)/\qu.length<=s.qu.length/\fl.length+qu.length<=s.fl.length+s.qu.length/\out.length+qu.length<=o0.length+s.qu.length
theorem Zk3{s:Ses}{x' u' v':Value}{o0 out:List Pk}{fl qu:List Fl}{next id:Int}{vs:List V}(hg:flyR s.on fl qu next out=flyR s.on s.fl s.qu s.next o0)(hn:1<=next/\next<=65535) (hq:qu.length<=s.qu.length) (hf:fl.length+qu.length<=s.fl.length+s.qu.length) (ho:out.length+qu.length<=o0.length+s.qu.length) (hc:(s.on=true/\0<(qu.length:Int))/\(fl.length:Int)<3) (hid:id=Z25 fl next) {R1 R2 R3:List (List Value)} {n1:Int} (hvs:vs=[.s s.cl,.b s.on,.b s.clean,.v u',.r R2,.v v',.r R3,.i n1,.v x',.r R1]) (e1:R1=(out++[(false,1,id,(qu.getD 0 fD).2.1,(qu.getD 0 fD).2.2)]).map encP) (e2:R2=(fl++[(id,(qu.getD 0 fD).2.1,(qu.getD 0 fD).2.2)]).map encF) (e3:R3=(qu.drop 1).map encF) (e4:n1=nx_N id):flyJ s o0 vs:=by subst hid e1 e2 e3 e4;have hs:=Zjz (on:=s.on) (fl:=fl) (qu:=qu) (next:=next) (out:=out) ⟨⟨hc.1.1,by omega⟩,by omega⟩;exact⟨x',u',v',_,_,_,_,hvs,hs.symm.trans hg,(Zfp (Zi4 hn)).1,by simp;omega,by simp;omega,by simp;omega⟩
theorem Z170(B:Base)(w:World)(k:Nat)(s:Ses)(u v x:Value)(o0:List Pk)(hrel:Rel B (sndA k s u v x o0) sndH w)(hn:1<=s.next/\s.next<=65535)(hl1:s.fl.length<100000)(hl2:s.qu.length<100000)(hl3:o0.length<100000) : Calls Tryz.prog 157 #[.pointer (some ⟨k,0,none⟩)] w λe w'=>e=.returned (.tuple #[])/\∃u' v' x',Rel B (sndA k (flyG s o0).1 u' v' x' (flyG s o0).2) sndH w':=by
  refine Z1 (Z3 (B:=B) (J:=sndA k s u v x o0) sxE_ok Tryz.func157 Z6m rfl rfl hrel rfl rfl ?_) rfl;simp only[sndA];simp only[Tree.goal,X.P,X.ev,SV.ev,CV.ev,Sc.ev,qz,QA,QB,QC,QD,QE,QF,QG,QH,QI,QJ,QK,QL,QM,Nat.reduceAdd,qy3,qy4,gF0,gF1,gF2];have hg:flyR s.on s.fl s.qu s.next o0=flyR s.on s.fl s.qu s.next o0:=rfl;have hnx:1<=s.next/\s.next<=65535:=hn;have hq:s.qu.length<=s.qu.length:=Nat.le_refl _;have hf:s.fl.length+s.qu.length<=s.fl.length+s.qu.length:=Nat.le_refl _;have ho:o0.length+s.qu.length<=o0.length+s.qu.length:=Nat.le_refl _;refine⟨λhc=>?_,λhc w1 hr=>?_⟩
  . intro b3;refine⟨λvs=>∃(id:Int),vs=[.i id]/\Zm2 s.fl s.next id,λvs=>Zi5 s.next (vs.getD 0 (.i 0)).toI true,⟨s.next,rfl,.inl rfl⟩,?_⟩;rintro _ - ⟨id,rfl,ha⟩;have hid:=Zo3 hnx ha;simp only[Tree.goal,X.P,X.ev,SV.ev,CV.ev,Sc.ev,qz,QA,QB,QC,QD,QE,QF,QG,QH,QI,QJ,QK,QL,QM,Nat.reduceAdd,qy3,qy4,gF0,gF1,gF2];refine⟨[.b (s.fl.any (idIs id))],rfl,λ_ w' hr=>Zt1 w' u s.fl id (hr.at_ 1 rfl).reads (by omega),?_⟩;simp only[Tree.goal,X.P,X.ev,SV.ev,CV.ev,Sc.ev,qz,QA,QB,QC,QD,QE,QF,QG,QH,QI,QJ,QK,QL,QM,Nat.reduceAdd,qy3,qy4,gF0,gF1,gF2];refine⟨λhu=>?_,λhu=>?_⟩
    . obtain⟨n1,n2⟩:=Z88 (by omega) hnx ha hu;exact⟨by omega,⟨_,rfl,n1⟩,n2⟩
    have hid2:=Zbk ha (by simpa[used]using hu)
    (repeat (first|(refine⟨by((try simp only[qy3,qy4,gF0,gF1,gF2,qy11,List.nil_append,List.length_cons,List.length_nil]);omega),?_⟩)|(intro _)))
    refine⟨λvs=>flyJ s o0 vs,λvs=>(vs.getD 6 (.i 0)).toR.length,Zk3 hg hnx hq hf ho hc hid2 rfl (by simp[encP,List.map_append]) (by simp[encF,List.map_append]) (Zxx _) rfl,?_⟩;clear hg hnx hq hf ho hc ha hid hid2 hu;rintro _ - ⟨x,u',v',out,fl,qu,next,rfl,hg,hnx,hq,hf,ho⟩;simp only[Tree.goal,X.P,X.ev,SV.ev,CV.ev,Sc.ev,qz,QA,QB,QC,QD,QE,QF,QG,QH,QI,QJ,QK,QL,QM,Nat.reduceAdd,qy3,qy4,gF0,gF1,gF2];refine⟨λhc=>?_,λhc w1 hr=>?_⟩
    . intro b3;refine⟨λvs=>∃(id:Int),vs=[.i id]/\Zm2 fl next id,λvs=>Zi5 next (vs.getD 0 (.i 0)).toI true,⟨next,rfl,.inl rfl⟩,?_⟩;rintro _ - ⟨id,rfl,ha⟩;have hid:=Zo3 hnx ha;simp only[Tree.goal,X.P,X.ev,SV.ev,CV.ev,Sc.ev,qz,QA,QB,QC,QD,QE,QF,QG,QH,QI,QJ,QK,QL,QM,Nat.reduceAdd,qy3,qy4,gF0,gF1,gF2];refine⟨[.b (fl.any (idIs id))],rfl,λ_ w' hr=>Zt1 w' u' fl id (hr.at_ 4 rfl).reads (by omega),?_⟩;simp only[Tree.goal,X.P,X.ev,SV.ev,CV.ev,Sc.ev,qz,QA,QB,QC,QD,QE,QF,QG,QH,QI,QJ,QK,QL,QM,Nat.reduceAdd,qy3,qy4,gF0,gF1,gF2];refine⟨λhu=>?_,λhu=>?_⟩
      . obtain⟨n1,n2⟩:=Z88 (by omega) hnx ha hu;exact⟨by omega,⟨_,rfl,n1⟩,n2⟩
      have hid2:=Zbk ha (by simpa[used]using hu)
      (repeat (first|(refine⟨by((try simp only[qy3,qy4,gF0,gF1,gF2,qy11,List.nil_append,List.length_cons,List.length_nil]);omega),?_⟩)|(intro _)))
      exact⟨Zk3 hg hnx hq hf ho hc hid2 rfl (by simp[encP,List.map_append]) (by simp[encF,List.map_append]) (Zxx _) rfl,by simp;omega⟩
    . refine(Z1d w1 v' qu (hr.at_ 5 rfl) (by omega)).mono ?_;rintro e w2 ⟨v2,rfl,g1,g2,gm⟩;refine⟨[.v v2,.r (qu.map encF)],rfl,rfl,gm,qy5 _,qy2.2 ⟨⟨g1,λk hk=>.inl (g2 k hk)⟩,qy5 _⟩,Z5,?_⟩;intro w3 hr3;have e:flyR s.on s.fl s.qu s.next o0=(fl,qu,next,out):=by
        rw[<- hg];exact Zem (λh=>hc ⟨⟨h.1.1,by omega⟩,by omega⟩)
      simp only[flyG,e];exact⟨trivial,u',v2,x,(hr3.pick [4,0,1,9] (by decide)).conv rfl⟩
  . refine(Z1d w1 v s.qu (hr.at_ 1 rfl).reads (by omega)).mono ?_;rintro e w2 ⟨v2,rfl,g1,g2,gm⟩;refine⟨[.v v2,.r (s.qu.map encF)],rfl,rfl,gm,qy5 _,qy2.2 ⟨⟨g1,λk hk=>.inl (g2 k hk)⟩,qy5 _⟩,Z5,?_⟩;intro w3 hr3;have e:flyR s.on s.fl s.qu s.next o0=(s.fl,s.qu,s.next,o0):=by
      rw[<- hg];exact Zem (λh=>hc ⟨⟨h.1.1,by omega⟩,by omega⟩)
    simp only[flyG,e];exact⟨trivial,u,v2,x,(hr3.pick [1,0,3,4] (by decide)).conv rfl⟩
def Z124(n:Nat)(u v x y:Value):Prop:=∀k,Z2 y k->n<=k\/Z2 u k\/Z2 v k\/Z2 x k
def Zgj(u v:Value):Prop:=∀k,Z2 u k->Z2 v k->False
theorem Z6s{J:List V}{a b c ta tb tc:Nat}{ka kb kc:List Kd}{ra rb rc:X}(h1:Zgj (J.getD a (.i 0)).toV (J.getD b (.i 0)).toV)(h2:Zgj (J.getD a (.i 0)).toV (J.getD c (.i 0)).toV)(h3:Zgj (J.getD b (.i 0)).toV (J.getD c (.i 0)).toV) : Z2o J [.row a ta ka ra,.row b tb kb rb,.row c tc kc rc]:=by
 refine List.pairwise_cons.2 ⟨λe he _ k hk hk'=>?_,List.pairwise_cons.2 ⟨λe he _ k hk hk'=>?_,List.pairwise_singleton _ _⟩⟩
 ·rcases List.mem_cons.1 he with rfl|he
  ·exact h1 k hk hk'
  ·rw[qy12.1 he]at hk';exact h2 k hk hk'
 ·rw[qy12.1 he]at hk';exact h3 k hk hk'
theorem Zd7{B:Base}{w:World}{k:Nat}{s:Ses}{u v x:Value}{o0:List Pk}(hrel:Rel B (sndA k s u v x o0) sndH w)(hn:1<=s.next/\s.next<=65535)(hl1:s.fl.length<100000)(hl2:s.qu.length<100000)(hl3:o0.length<100000) : Calls Tryz.prog 157 #[.pointer (some ⟨k,0,none⟩)] w λe w'=>e=.returned (.tuple #[])/\∃u' v' x',w'.heap[k]?=some (.cells #[.string ⟨s.cl.toArray⟩,.bool s.on,.bool s.clean,sc1 u',sc1 v',.int .i64 (flyG s o0).1.next,sc1 x'] 180 (0,0)) /\ Z122 w' u' (flyG s o0).1.fl/\Z122 w' v' (flyG s o0).1.qu/\owns w' x' 31 kP ((flyG s o0).2.map encP)/\Z124 w.heap.size u v x u'/\Z124 w.heap.size u v x v'/\Z124 w.heap.size u v x x' /\ Zgj u' v'/\Zgj u' x'/\Zgj v' x'/\Mod (k::(u.ownBlock.toList++(v.ownBlock.toList++x.ownBlock.toList))) w w':=by
 refine(Z170 _ w k s u v x o0 hrel.base hn hl1 hl2 hl3).mono ?_;rintro e w' ⟨he,u',v',x',hr⟩;have hfp:∀j,j∈Zi (sndA k s u v x o0) sndH->j=k\/Z2 u j\/Z2 v j\/Z2 x j:=by
  intro j hj;simp only[Zi,sndA,sndH,sndC,List.flatMap_cons,List.flatMap_nil,Ent.fpl,Tree.goal,X.P,X.ev,SV.ev,CV.ev,Sc.ev,qz,QA,QB,QC,QD,QE,QF,QG,QH,QI,QJ,QK,QL,QM,Nat.reduceAdd,List.append_nil,qy13,qy12,Option.mem_toList,List.getD_nil]at hj;simp only[Z2];rcases hj with h|h|h|h
  ·exact .inr (.inl h)
  ·exact .inr (.inr (.inl h))
  ·exact .inr (.inr (.inr h))
  ·exact .inl h
 have hnew:∀(i:Nat) (e:Ent),sndH[i]?=some e->i<3->e.wr=true->∀j,e.fp (sndA k (flyG s o0).1 u' v' x' (flyG s o0).2) j->w.heap.size<=j\/Z2 u j\/Z2 v j\/Z2 x j:=by
  intro i e hi hlt hwr j hj;rcases hr.own e (qy6 hi) hwr j hj with h|h
  ·exact .inl h
  ·rcases hfp j h with rfl|h
   ·exfalso;exact hr.sep.disj (i:=i) (j:=3) hi rfl (by omega) (.inl hwr) hj rfl
   ·exact .inr h
 refine⟨he,u',v',x',hr.at_ 3 rfl,hr.at_ 0 rfl,hr.at_ 1 rfl,hr.at_ 2 rfl,λj hj=>hnew 0 _ rfl (by omega) rfl j hj,λj hj=>hnew 1 _ rfl (by omega) rfl j hj,λj hj=>hnew 2 _ rfl (by omega) rfl j hj,
  λj h1 h2=>hr.sep.disj (i:=0) (j:=1) rfl rfl (by omega) (.inl rfl) (k:=j) h1 h2,λj h1 h2=>hr.sep.disj (i:=0) (j:=2) rfl rfl (by omega) (.inl rfl) (k:=j) h1 h2,λj h1 h2=>hr.sep.disj (i:=1) (j:=2) rfl rfl (by omega) (.inl rfl) (k:=j) h1 h2,hr.mod.mono λj hj=>.inl ?_⟩
 rcases hfp j hj with rfl|h|h|h
 ·exact qy8 ..
 ·exact qy10 _ (List.mem_append_left _ (Option.mem_toList.2 h))
 ·exact qy10 _ (List.mem_append_right _ (List.mem_append_left _ (Option.mem_toList.2 h)))
 ·exact qy10 _ (List.mem_append_right _ (List.mem_append_right _ (Option.mem_toList.2 h)))
theorem Z3y{J:List V}{g:List Nat}:∀k,Z2 (.slice none 0 0) k->k∈Zw J g:=λk hk=>by simp[Z2,Value.ownBlock]at hk
theorem Zcr{J:List V}{g:List Nat}{i j n k:Nat}{x:Value}{p:Prop}(hi:i∈g)(hj:j∈g)(hx:∀k,Z2 x k->k∈Zw J g)(h:n<=k\/Z2 (J.getD i (.i 0)).toV k\/Z2 (J.getD j (.i 0)).toV k\/Z2 x k):n<=k\/p\/k∈Zw J g:=by
 rcases h with h|h|h|h
 ·exact .inl h
 ·exact .inr (.inr (Z98 hi h))
 ·exact .inr (.inr (Z98 hj h))
 ·exact .inr (.inr (hx k h))
def newV(n:Nat)(u:Value):Prop:=∀k,Z2 u k->n<=k
theorem Zi8(n:Nat):newV n (.slice none 0 0):=λk hk=>by simp[Z2,Value.ownBlock]at hk
def gotN(w w':World)(e:Ending)(r:Ses)(out:List Pk):Prop :=
 ∃u' v' x,e=.returned (.tuple #[sesV r u' v',sc1 x])/\Zk w' u' r.fl/\Zk w' v' r.qu/\Z10c w' x out/\newV w.heap.size u'/\newV w.heap.size v'/\newV w.heap.size x/\Mod [] w w'
def Z1v(s:Ses)(n p:List UInt8)(q:Int):Ses×List Pk :=
 if q=0/\s.on=true then(s,[pk0 n p])
 else if(q=1/\(s.on=true\/¬s.clean=true))/\(s.qu.length:Int)<6 then flyS { s with qu:=s.qu++[(0,n,p)] }else(s,[])
theorem Zt4(w:World)(s:Ses)(u v:Value)(n p:List UInt8)(q:Int)(hu:Zk w u s.fl)(hv:Zk w v s.qu)(hn:1<=s.next/\s.next<=65535)(hl1:s.fl.length<10000)(hl2:s.qu.length<10000):Calls Tryz.prog 184 #[sesV s u v,.string ⟨n.toArray⟩,.string ⟨p.toArray⟩,.int .i64 q] w λe w'=>gotN w w' e (Z1v s n p q).1 (Z1v s n p q).2:=by
 refine Z1 (Z3 (J:=[.s s.cl,.b s.on,.b s.clean,.v u,.r (s.fl.map encF),.v v,.r (s.qu.map encF),.i s.next,.s n,.s p,.i q]) sxE_ok Tryz.func184 Zci rfl rfl (Rel.start2 (by simp[Ent.holds,Ent.wr,hu,hv,X.ev])) rfl rfl ?_) rfl;simp only[Tree.goal,X.P,X.ev,SV.ev,CV.ev,Sc.ev,qz,QA,QB,QC,QD,QE,QF,QG,QH,QI,QJ,QK,QL,QM,Nat.reduceAdd,qy3,qy4,gF0,gF1,gF2,List.nil_append];intro b1 b2 b3 b4 b5;refine Z61 ?_;intro w1 hr1;refine(Z1d w1 u s.fl (hr1.at_ 6 rfl) (by omega)).mono ?_;rintro e w2 ⟨u1,rfl,a1,f1,m1⟩;refine⟨[.v u1,.r (s.fl.map encF)],rfl,rfl,m1,qy5 _,qy2.2 ⟨⟨a1,λk hk=>.inl (f1 k hk)⟩,qy5 _⟩,Z5,?_⟩;intro w3 hr3;refine(Z1d w3 v s.qu (hr3.at_ 8 rfl) (by omega)).mono ?_;rintro e w4 ⟨v1,rfl,a2,f2,m2⟩;refine⟨[.v v1,.r (s.qu.map encF)],rfl,rfl,m2,qy5 _,qy2.2 ⟨⟨a2,λk hk=>.inl (f2 k hk)⟩,qy5 _⟩,Z5,?_⟩;clear hr1 hr3 m1 m2 a1 a2 f1 f2;intro b6;simp only[Tree.goal,X.P,X.ev,SV.ev,CV.ev,Sc.ev,qz,QA,QB,QC,QD,QE,QF,QG,QH,QI,QJ,QK,QL,QM,Nat.reduceAdd,qy3,qy4,gF0,gF1,gF2,List.nil_append];refine⟨λh1 v2=>⟨by omega,λv3 w5 hr=>?_⟩,λh1=>⟨λh2 v2=>⟨by omega,λv3 w5 hr=>?_⟩,λh2 w5 hr=>?_⟩⟩
 ·rw[Z1v,if_pos h1];exact⟨u1,v1,v3,rfl,(hr.at_ 4 rfl).reads,(hr.at_ 3 rfl).reads,(hr.at_ 0 rfl).reads,hr.fresh 4 rfl,hr.fresh 3 rfl,hr.fresh 0 rfl,hr.mod⟩
 ·rw[Z1v,if_neg h1,if_pos h2];refine(Zd7 (s:={ s with qu:=s.qu++[(0,n,p)] }) (o0:=[]) ((hr.pick [3,0,7,2] (by decide)).conv (by simp only[sndA,List.map_append];rfl)) hn (by simp;omega) (by simp;omega) (by simp)).mono ?_;rintro e w6 ⟨rfl,u',v',x',g1,g2,g3,g4,g5,g6,g7,g8,g9,g10,gm⟩;refine⟨[.s s.cl,.b s.on,.b s.clean,.v u',.r ((flyS { s with qu:=s.qu++[(0,n,p)] }).1.fl.map encF),.v v',.r ((flyS { s with qu:=s.qu++[(0,n,p)] }).1.qu.map encF),.i (flyS { s with qu:=s.qu++[(0,n,p)] }).1.next,.v x',.r ((flyS { s with qu:=s.qu++[(0,n,p)] }).2.map encP)],rfl,rfl,?_,qy2.2 ⟨g1,qy5 _⟩,
   qy2.2 ⟨⟨g2,λk hk=>Zcr (qy8 ..) (qy10 _ (qy8 ..)) Z3y <| g5 k hk⟩,qy2.2 ⟨⟨g3,λk hk=>Zcr (qy8 ..) (qy10 _ (qy8 ..)) Z3y <| g6 k hk⟩,qy2.2 ⟨⟨g4,λk hk=>Zcr (qy8 ..) (qy10 _ (qy8 ..)) Z3y <| g7 k hk⟩,qy5 _⟩⟩⟩,Z6s g8 g9 g10,?_⟩
  ·exact gm.mono λk hk=>.inl (by simpa[Zo,Zw,Value.ownBlock]using hk)
  ·intro w7 hr7;exact⟨u',v',x',rfl,(hr7.at_ 0 rfl).reads,(hr7.at_ 1 rfl).reads,(hr7.at_ 2 rfl).reads,hr7.fresh 0 rfl,hr7.fresh 1 rfl,hr7.fresh 2 rfl,hr7.mod⟩
 ·rw[Z1v,if_neg h1,if_neg h2];exact⟨u1,v1,_,rfl,(hr.at_ 2 rfl).reads,(hr.at_ 1 rfl).reads,Z9 _ _,hr.fresh 2 rfl,hr.fresh 1 rfl,Zi8 _,hr.mod⟩
theorem Zy0(on:Bool):∀(qu fl:List Fl) (next:Int) (o0:List Pk),flyR on fl qu next o0=((flyR on fl qu next []).1,(flyR on fl qu next []).2.1,(flyR on fl qu next []).2.2.1,o0++(flyR on fl qu next []).2.2.2):=by
 intro qu;induction qu with
 | nil=>intro fl next o0;simp[flyR]
 | cons f q ih =>
  intro fl next o0
  rw[flyR,flyR];split
  ·rw[ih _ _ (o0++_),ih _ _ ([]++_)];simp
  ·simp
theorem Zy1(s:Ses)(o0:List Pk):flyG s o0=((flyS s).1,o0++(flyS s).2):=by simp only[flyG,flyS];rw[Zy0]
theorem Z14w(w:World)(s:Ses)(u v:Value)(hu:Zk w u s.fl)(hv:Zk w v s.qu)(hn:1<=s.next/\s.next<=65535)(hl1:s.fl.length<10000)(hl2:s.qu.length<10000):Calls Tryz.prog 153 #[sesV s u v] w λe w'=>gotN w w' e (Zm3 s).1 (Zm3 s).2:=by
 refine Z1 (Z3 (J:=[.s s.cl,.b s.on,.b s.clean,.v u,.r (s.fl.map encF),.v v,.r (s.qu.map encF),.i s.next]) sxE_ok Tryz.func153 Zba rfl rfl (Rel.start2 (by simp[Ent.holds,Ent.wr,hu,hv,X.ev])) rfl rfl ?_) rfl;simp only[Tree.goal,X.P,X.ev,SV.ev,CV.ev,Sc.ev,qz,QA,QB,QC,QD,QE,QF,QG,QH,QI,QJ,QK,QL,QM,Nat.reduceAdd,qy3,qy4,gF0,gF1,gF2,List.nil_append];intro b1 b2 b3 b4 b5;refine Z61 ?_;intro w1 hr1;refine(Z1d w1 u s.fl (hr1.at_ 6 rfl) (by omega)).mono ?_;rintro e w2 ⟨u1,rfl,a1,f1,m1⟩;refine⟨[.v u1,.r (s.fl.map encF)],rfl,rfl,m1,qy5 _,qy2.2 ⟨⟨a1,λk hk=>.inl (f1 k hk)⟩,qy5 _⟩,Z5,?_⟩;intro w3 hr3;refine(Z1d w3 v s.qu (hr3.at_ 8 rfl) (by omega)).mono ?_;rintro e w4 ⟨v1,rfl,a2,f2,m2⟩;refine⟨[.v v1,.r (s.qu.map encF)],rfl,rfl,m2,qy5 _,qy2.2 ⟨⟨a2,λk hk=>.inl (f2 k hk)⟩,qy5 _⟩,Z5,?_⟩;clear hr1 hr3 m1 m2 a1 a2 f1 f2;intro b6;simp only[Tree.goal,X.P,X.ev,SV.ev,CV.ev,Sc.ev,qz,QA,QB,QC,QD,QE,QF,QG,QH,QI,QJ,QK,QL,QM,Nat.reduceAdd,qy3,qy4,gF0,gF1,gF2,List.nil_append];refine⟨λvs=>∃(i:Nat) (x:Value),vs=[.i i,.s s.cl,.b true,.b s.clean,.v v1,.r (s.qu.map encF),.i s.next,.v x,.r (((s.fl.take i).map pk1).map encP)]/\i<=s.fl.length,λvs=>s.fl.length - (vs.getD 0 (.i 0)).toI.toNat,⟨0,_,by simp;rfl,by omega⟩,?_⟩;rintro _ - ⟨i,x,rfl,hi⟩;simp only[Tree.goal,X.P,X.ev,SV.ev,CV.ev,Sc.ev,qz,QA,QB,QC,QD,QE,QF,QG,QH,QI,QJ,QK,QL,QM,Nat.reduceAdd,qy3,qy4,gF0,gF1,gF2,List.nil_append];refine⟨λh1=>⟨by omega,λb7 b8 v2=>⟨by simp only[List.length_take];omega,λv3=>⟨by omega,by omega,⟨i+1,v3,?_,by omega⟩,by omega⟩⟩⟩,λh1 w5 hr=>?_⟩
 ·rw[Zq3 _ i (by omega)];simp[encP,pk1]
 ·have hil:i=s.fl.length:=by omega
  subst hil;rw[List.take_length]at hr;refine(Zd7 (s:={ s with on:=true }) (o0:=s.fl.map pk1) ((hr.pick [2,1,11,0] (by decide)).conv rfl) hn (by simp;omega) (by simp;omega) (by simp;omega)).mono ?_;rintro e w6 ⟨rfl,u',v',x',g1,g2,g3,g4,g5,g6,g7,g8,g9,g10,gm⟩;rw[Zy1]at g1 g2 g3 g4;refine⟨[.s s.cl,.b true,.b s.clean,.v u',.r ((flyS { s with on:=true }).1.fl.map encF),.v v',.r ((flyS { s with on:=true }).1.qu.map encF),.i (flyS { s with on:=true }).1.next,.v x',.r ((s.fl.map pk1++(flyS { s with on:=true }).2).map encP)],rfl,rfl,?_,qy2.2 ⟨g1,qy5 _⟩,
   qy2.2 ⟨⟨g2,λk hk=>Zcr (qy8 ..) (qy10 _ (qy8 ..)) (λk hk=>Z98 (qy10 _ (qy10 _ (qy8 ..))) hk) <| g5 k hk⟩,qy2.2 ⟨⟨g3,λk hk=>Zcr (qy8 ..) (qy10 _ (qy8 ..)) (λk hk=>Z98 (qy10 _ (qy10 _ (qy8 ..))) hk) <| g6 k hk⟩,qy2.2 ⟨⟨g4,λk hk=>Zcr (qy8 ..) (qy10 _ (qy8 ..)) (λk hk=>Z98 (qy10 _ (qy10 _ (qy8 ..))) hk) <| g7 k hk⟩,qy5 _⟩⟩⟩,Z6s g8 g9 g10,?_⟩
  ·exact gm.mono λk hk=>.inl (by simpa[Zo,Zw,Value.ownBlock]using hk)
  ·intro w7 hr7;exact⟨u',v',x',rfl,(hr7.at_ 0 rfl).reads,(hr7.at_ 1 rfl).reads,(hr7.at_ 2 rfl).reads,hr7.fresh 0 rfl,hr7.fresh 1 rfl,hr7.fresh 2 rfl,hr7.mod⟩
theorem Zgk(l:List Fl)(id:Int)(i:Nat)(h:i<l.length):Zbl (l.take (i+1)) id=Zbl (l.take i) id++(if(l.getD i fD).1=id then[]else[l.getD i fD]):=by
 rw[Zq3 l i h,Zbl,List.filter_append];simp only[Zbl,List.filter_cons,List.filter_nil,idIs];by_cases h1:(l.getD i fD).1=id
 ·rw[if_pos h1,decide_eq_true h1];simp
 ·rw[if_neg h1,decide_eq_false h1];simp
theorem Zk4{l:List Fl}{id:Int}(h:l.any (idIs id)=false):Zbl l id=l:=by rw[Zbl,List.filter_eq_self];intro x hx;rw[List.any_eq_false]at h;have:=h x hx;simpa using this
theorem Zi9{R l:List Fl}{j:Nat}(h:R.drop j=l.drop j):R.getD j fD=l.getD j fD:=by
 have e:∀q:List Fl,q.getD j fD=(q.drop j).getD 0 fD:=λq=>by simp[qy1]
 rw[e R,e l,h]
theorem Zy2(R:List Fl)(m:Nat)(x:Fl):(R.map encF).set m [Value.int .i64 x.1,.string ⟨x.2.1.toArray⟩,.string ⟨x.2.2.toArray⟩]=(R.set m x).map encF:=by rw[List.map_set];rfl
theorem Zt5{R:List Fl}{m:Nat}{x:Fl}(h:m<R.length):(R.set m x).take (m+1)=R.take m++[x]:=by
 rw[List.take_set,Zq3 R m h,List.set_append_right _ _ (by simp;omega)];have:m - (R.take m).length=0:=by simp;omega
 rw[this];rfl
theorem Zt6{R:List Fl}{m j:Nat}{x:Fl}(h:m<j):(R.set m x).drop j=R.drop j:=by rw[List.drop_set,if_pos h]
theorem Z10e(w:World)(s:Ses)(u v:Value)(q:Int)(hu:Zk w u s.fl)(hv:Zk w v s.qu)(hn:1<=s.next/\s.next<=65535)(hl1:s.fl.length<10000)(hl2:s.qu.length<10000):Calls Tryz.prog 92 #[sesV s u v,.int .i64 q] w λe w'=>gotN w w' e (Z7j s q).1 (Z7j s q).2:=by
 refine Z1 (Z3 (J:=[.s s.cl,.b s.on,.b s.clean,.v u,.r (s.fl.map encF),.v v,.r (s.qu.map encF),.i s.next,.i q]) sxE_ok Tryz.func92 Zb7 rfl rfl (Rel.start2 (by simp[Ent.holds,Ent.wr,hu,hv,X.ev])) rfl rfl ?_) rfl;simp only[Tree.goal,X.P,X.ev,SV.ev,CV.ev,Sc.ev,qz,QA,QB,QC,QD,QE,QF,QG,QH,QI,QJ,QK,QL,QM,Nat.reduceAdd,qy3,qy4,gF0,gF1,gF2,List.nil_append];intro b0 b1 b2 b3 b4 b5;refine Z61 ?_;intro w1 hr1;refine(Z1d w1 u s.fl (hr1.at_ 7 rfl) (by omega)).mono ?_;rintro e w2 ⟨u1,rfl,a1,f1,m1⟩;refine⟨[.v u1,.r (s.fl.map encF)],rfl,rfl,m1,qy5 _,qy2.2 ⟨⟨a1,λk hk=>.inl (f1 k hk)⟩,qy5 _⟩,Z5,?_⟩;intro w3 hr3;refine(Z1d w3 v s.qu (hr3.at_ 9 rfl) (by omega)).mono ?_;rintro e w4 ⟨v1,rfl,a2,f2,m2⟩;refine⟨[.v v1,.r (s.qu.map encF)],rfl,rfl,m2,qy5 _,qy2.2 ⟨⟨a2,λk hk=>.inl (f2 k hk)⟩,qy5 _⟩,Z5,?_⟩;clear hr1 hr3 m1 m2 a1 a2 f1 f2;intro b6;simp only[Tree.goal,X.P,X.ev,SV.ev,CV.ev,Sc.ev,qz,QA,QB,QC,QD,QE,QF,QG,QH,QI,QJ,QK,QL,QM,Nat.reduceAdd,qy3,qy4,gF0,gF1,gF2,List.nil_append];refine⟨λvs=>∃(i:Nat) (x:V),vs=[x,.i i,.i q]/\i<=s.fl.length/\(s.fl.take i).any (idIs q)=false,λvs=>s.fl.length - (vs.getD 1 (.i 0)).toI.toNat,⟨0,_,rfl,by omega,by simp⟩,?_⟩;rintro _ - ⟨i,x,rfl,hi,hno⟩;simp only[Tree.goal,X.P,X.ev,SV.ev,CV.ev,Sc.ev,qz,QA,QB,QC,QD,QE,QF,QG,QH,QI,QJ,QK,QL,QM,Nat.reduceAdd,qy3,qy4,gF0,gF1,gF2,List.nil_append];refine⟨λh1=>⟨by omega,λb7=>⟨λh2=>⟨λh3=>absurd h3 (by omega),λh3=>⟨by omega,by omega,?_⟩⟩,λh2=>?_⟩⟩,λh1 w5 hr=>?_⟩
 ·refine⟨λvs=>∃(m j:Nat) (R:List Fl),vs=[.i m,.i j,.r (R.map encF),.i q]/\R.length=s.fl.length/\m<j/\j<=s.fl.length/\R.take m=Zbl (s.fl.take j) q/\R.drop j=s.fl.drop j,λvs=>s.fl.length - (vs.getD 1 (.i 0)).toI.toNat,⟨i,i+1,s.fl,rfl,rfl,by omega,by omega,?_,rfl⟩,?_⟩
  ·rw[Zgk _ _ i (by omega),if_pos h2,List.append_nil,Zk4 hno]
  ·rintro _ - ⟨m,j,R,rfl,hRl,hmj,hj,htk,hdr⟩;simp only[Tree.goal,X.P,X.ev,SV.ev,CV.ev,Sc.ev,qz,QA,QB,QC,QD,QE,QF,QG,QH,QI,QJ,QK,QL,QM,Nat.reduceAdd,qy3,qy4,gF0,gF1,gF2,List.nil_append];refine⟨λh4=>⟨by omega,λb8 b9=>?_⟩,λh4=>?_⟩
   ·have hsn:=Zgk s.fl q j (by omega);have hRj:=Zi9 hdr;have hdr1:R.drop (j+1)=s.fl.drop (j+1):=by rw[<- List.drop_drop,<- List.drop_drop,hdr]
    rw[hRj];refine⟨λh5=>?_,λh5=>?_⟩
    ·rw[if_neg h5]at hsn;refine⟨by omega,by omega,by omega,by omega,by omega,by omega,⟨m+1,j+1,R.set m (s.fl.getD j fD),?_,by simpa using hRl,by omega,by omega,?_,?_⟩,by omega⟩
     ·rw[Zy2];rfl
     ·rw[Zt5 (by omega),htk,hsn]
     ·rw[Zt6 (by omega),hdr1]
    ·rw[if_pos (qy9.1 h5),List.append_nil]at hsn;exact⟨by omega,by omega,⟨m,j+1,R,rfl,hRl,by omega,by omega,by rw[htk,hsn],hdr1⟩,by omega⟩
   ·have:j=s.fl.length:=by omega
    subst this;rw[List.take_length]at htk;refine⟨by omega,by omega,?_,λv9 w5 hr=>?_⟩
    ·simp only[qy11,List.length_take,qy3,List.length_replicate];omega
    ·have e1:(List.take m (List.take m (R.map encF)++List.replicate (R.length - m) [Value.int .i64 0,.string ⟨[].toArray⟩,.string ⟨[].toArray⟩]))=(Zbl s.fl q).map encF:=by
      rw[List.take_append_of_le_length (by simp;omega),List.take_take,Nat.min_self,<- List.map_take,htk]
     have hll:(Zbl s.fl q).length<=s.fl.length:=List.length_filter_le _ _;refine(Zd7 (s:={ s with fl:=Zbl s.fl q }) (o0:=[]) ((hr.pick [0,4,8,3] (by decide)).conv (by simp only[sndA,<- e1,<- qy3 (f:=encF)];rfl)) hn (by simp;omega) (by simp;omega) (by simp)).mono ?_;rintro e w6 ⟨rfl,u',v',x',g1,g2,g3,g4,g5,g6,g7,g8,g9,g10,gm⟩;refine⟨[.s s.cl,.b s.on,.b s.clean,.v u',.r ((Z7j s q).1.fl.map encF),.v v',.r ((Z7j s q).1.qu.map encF),.i (Z7j s q).1.next,.v x',.r ((Z7j s q).2.map encP)],rfl,rfl,gm.mono λk hk=>.inl (by simpa[Zo,Zw,Value.ownBlock]using hk),qy2.2 ⟨g1,qy5 _⟩,qy2.2 ⟨⟨g2,λk hk=>Zcr (qy8 ..) (qy10 _ (qy8 ..)) Z3y <| g5 k hk⟩,qy2.2 ⟨⟨g3,λk hk=>Zcr (qy8 ..) (qy10 _ (qy8 ..)) Z3y <| g6 k hk⟩,qy2.2 ⟨⟨g4,λk hk=>Zcr (qy8 ..) (qy10 _ (qy8 ..)) Z3y <| g7 k hk⟩,qy5 _⟩⟩⟩,Z6s g8 g9 g10,?_⟩;intro w7 hr7;exact⟨u',v',x',rfl,(hr7.at_ 0 rfl).reads,(hr7.at_ 1 rfl).reads,(hr7.at_ 2 rfl).reads,hr7.fresh 0 rfl,hr7.fresh 1 rfl,hr7.fresh 2 rfl,hr7.mod⟩
 ·refine⟨by omega,by omega,⟨i+1,x,rfl,by omega,?_⟩,by omega⟩;rw[Zaa _ _ i (by omega),hno,Bool.false_or];simp only[idIs,decide_eq_false_iff_not];exact h2
 ·have:i=s.fl.length:=by omega
  subst this;rw[List.take_length]at hno;have e1:=Zk4 hno;refine(Zd7 (s:={ s with fl:=Zbl s.fl q }) (o0:=[]) ((hr.pick [3,2,7,1] (by decide)).conv (by simp only[sndA,e1];rfl)) hn (by simp only[e1];omega) (by simp;omega) (by simp)).mono ?_;rintro e w6 ⟨rfl,u',v',x',g1,g2,g3,g4,g5,g6,g7,g8,g9,g10,gm⟩;refine⟨[.s s.cl,.b s.on,.b s.clean,.v u',.r ((Z7j s q).1.fl.map encF),.v v',.r ((Z7j s q).1.qu.map encF),.i (Z7j s q).1.next,.v x',.r ((Z7j s q).2.map encP)],rfl,rfl,gm.mono λk hk=>.inl (by simpa[Zo,Zw,Value.ownBlock]using hk),qy2.2 ⟨g1,qy5 _⟩,qy2.2 ⟨⟨g2,λk hk=>Zcr (qy8 ..) (qy10 _ (qy8 ..)) Z3y <| g5 k hk⟩,qy2.2 ⟨⟨g3,λk hk=>Zcr (qy8 ..) (qy10 _ (qy8 ..)) Z3y <| g6 k hk⟩,qy2.2 ⟨⟨g4,λk hk=>Zcr (qy8 ..) (qy10 _ (qy8 ..)) Z3y <| g7 k hk⟩,qy5 _⟩⟩⟩,Z6s g8 g9 g10,?_⟩;intro w7 hr7;exact⟨u',v',x',rfl,(hr7.at_ 0 rfl).reads,(hr7.at_ 1 rfl).reads,(hr7.at_ 2 rfl).reads,hr7.fresh 0 rfl,hr7.fresh 1 rfl,hr7.fresh 2 rfl,hr7.mod⟩
theorem Z125{s:Ses}(h:chkS s=0):(1<=s.next/\s.next<=65535)/\s.fl.length<=3/\s.qu.length<=6:=by
 unfold chkS at h;split at h
 ·split at h
  ·exact absurd h (by decide)
  ·split at h
   ·split at h
    ·exact⟨by assumption,by omega,by omega⟩
    ·exact absurd h (by decide)
   ·exact absurd h (by assumption)
 ·exact absurd h (by decide)
def Z14x(w w':World)(e:Ending)(r:Ses):Prop :=
 ∃u' v',e=.returned (sesV r u' v')/\Zk w' u' r.fl/\Zk w' v' r.qu/\newV w.heap.size u'/\newV w.heap.size v'/\Mod [] w w'
theorem Z171(w:World)(s:Ses)(u v:Value)(hu:Zk w u s.fl)(hv:Zk w v s.qu)(hl1:s.fl.length<10000)(hl2:s.qu.length<10000):Calls Tryz.prog 96 #[sesV s u v] w λe w'=>Z14x w w' e (goR s):=by
 refine Z1 (Z3 (J:=[.s s.cl,.b s.on,.b s.clean,.v u,.r (s.fl.map encF),.v v,.r (s.qu.map encF),.i s.next]) sxE_ok Tryz.func96 Zcn rfl rfl (Rel.start2 (by simp[Ent.holds,Ent.wr,hu,hv,X.ev])) rfl rfl ?_) rfl;simp only[Tree.goal,X.P,X.ev,SV.ev,CV.ev,Sc.ev,qz,QA,QB,QC,QD,QE,QF,QG,QH,QI,QJ,QK,QL,QM,Nat.reduceAdd,qy3,qy4,gF0,gF1,gF2,List.nil_append];intro b1 b2 b3 b4 b5;refine Z61 ?_;intro w1 hr1;refine(Z1d w1 u s.fl (hr1.at_ 5 rfl) (by omega)).mono ?_;rintro e w2 ⟨u1,rfl,a1,f1,m1⟩;refine⟨[.v u1,.r (s.fl.map encF)],rfl,rfl,m1,qy5 _,qy2.2 ⟨⟨a1,λk hk=>.inl (f1 k hk)⟩,qy5 _⟩,Z5,?_⟩;intro w3 hr3;refine(Z1d w3 v s.qu (hr3.at_ 7 rfl) (by omega)).mono ?_;rintro e w4 ⟨v1,rfl,a2,f2,m2⟩;refine⟨[.v v1,.r (s.qu.map encF)],rfl,rfl,m2,qy5 _,qy2.2 ⟨⟨a2,λk hk=>.inl (f2 k hk)⟩,qy5 _⟩,Z5,?_⟩;clear hr1 hr3 m1 m2 a1 a2 f1 f2;intro b6;simp only[Tree.goal,X.P,X.ev,SV.ev,CV.ev,Sc.ev,qz,QA,QB,QC,QD,QE,QF,QG,QH,QI,QJ,QK,QL,QM,Nat.reduceAdd,qy3,qy4,gF0,gF1,gF2,List.nil_append];refine⟨λh1 w5 hr=>?_,λh1 w5 hr=>?_⟩
 ·have e:goR s=⟨s.cl,false,s.clean,[],[],s.next⟩:=by simp[goR,h1]
  rw[e];exact⟨.slice none 0 0,.slice none 0 0,rfl,Z9 _ _,Z9 _ _,Zi8 _,Zi8 _,hr.mod⟩
 ·have e:goR s=⟨s.cl,false,s.clean,s.fl,s.qu,s.next⟩:=by simp[goR,h1]
  rw[e];exact⟨u1,v1,rfl,(hr.at_ 2 rfl).reads,(hr.at_ 1 rfl).reads,hr.fresh 2 rfl,hr.fresh 1 rfl,hr.mod⟩
abbrev Zm:List UInt8->List UInt8->Bool:=Op.bytesLess
theorem Zac(a:List UInt8):Zm a []=false:=by cases a<;>rfl
theorem Z2y:∀a:List UInt8,Zm a a=false
 | []=>rfl
 | a::x=>by simp[Zm,Op.bytesLess,Z2y x,UInt8.lt_irrefl]
theorem Z26:∀{a b c:List UInt8},Zm a b=true->Zm b c=true->Zm a c=true
 | _,[],_,h,_=>by rw[Zac]at h;cases h
 | _,_::_,[],_,h=>by rw[Zac]at h;cases h
 | [],_::_,_::_,_,_=>rfl
 | a::x,b::y,c::z,h1,h2=>by
  simp only[Zm,Op.bytesLess,Bool.or_eq_true,decide_eq_true_eq,Bool.and_eq_true,beq_iff_eq]at h1 h2⊢;rcases h1 with h1|⟨rfl,h1⟩
  ·rcases h2 with h2|⟨rfl,h2⟩
   ·exact .inl (UInt8.lt_trans h1 h2)
   ·exact .inl h1
  ·rcases h2 with h2|⟨rfl,h2⟩
   ·exact .inl h2
   ·exact .inr ⟨rfl,Z26 h1 h2⟩
theorem Zk5:∀{a b:List UInt8},Zm a b=false->Zm b a=false->a=b
 | [],[],_,_=>rfl
 | [],_::_,h,_=>by cases h
 | _::_,[],_,h=>by cases h
 | a::x,b::y,h1,h2=>by
  simp only[Zm,Op.bytesLess,Bool.or_eq_false_iff,decide_eq_false_iff_not,Bool.and_eq_false_iff,beq_eq_false_iff_ne]at h1 h2;have hab:a=b:=by
   rcases Nat.lt_trichotomy a.toNat b.toNat with h|h|h
   ·exact absurd (UInt8.lt_iff_toNat_lt.2 h) h1.1
   ·exact UInt8.toNat_inj.1 h
   ·exact absurd (UInt8.lt_iff_toNat_lt.2 h) h2.1
  subst hab;rw[Zk5 (h1.2.resolve_left (by simp)) (h2.2.resolve_left (by simp))]
theorem Z49{a b:List UInt8}(h:Zm a b=true):Zm b a=false:=by
 cases h2:Zm b a with
 | false=>rfl
 | true=>have:=Z26 h h2;rw[Z2y]at this;cases this
theorem Zad{a b:List UInt8}(h:Zm a b=true):a≠b:=by rintro rfl;rw[Z2y]at h;cases h
theorem Z3e{a b:List UInt8}:Zm a b=false↔(Zm b a=true\/b=a):=by
 constructor
 ·intro h;cases h2:Zm b a with
  | true=>exact .inl rfl
  | false=>exact .inr (Zk5 h2 h)
 ·rintro(h|rfl)
  ·exact Z49 h
  ·exact Z2y _
def Z8r(a b:List UInt8):Int:=if Zm a b=true then -1 else if a=b then 0 else 1
theorem Zk6:∀a b:List UInt8,Go.Lib.compareBytes a b=Z8r a b
 | [],[]=>rfl
 | [],_::_=>rfl
 | a::x,[]=>by simp[Z8r,Go.Lib.compareBytes,Zac]
 | a::x,b::y=>by
  have ih:=Zk6 x y;rw[Go.Lib.compareBytes,ih];unfold Z8r;simp only[Zm,Op.bytesLess,Bool.or_eq_true,decide_eq_true_eq,Bool.and_eq_true,beq_iff_eq,List.cons.injEq];by_cases h1:a<b
  ·simp[h1]
  ·by_cases h2:b<a
   ·have hne:a≠b:=by rintro rfl;exact h1 h2
    simp[h1,h2,hne]
   ·have hab:a=b:=by
     rcases Nat.lt_trichotomy a.toNat b.toNat with h|h|h
     ·exact absurd (UInt8.lt_iff_toNat_lt.2 h) h1
     ·exact UInt8.toNat_inj.1 h
     ·exact absurd (UInt8.lt_iff_toNat_lt.2 h) h2
    subst hab;simp[UInt8.lt_irrefl]
theorem Zt7{a b:List UInt8}:Z8r a b<0↔Zm a b=true:=by
 unfold Z8r;split
 ·simp[*]
 ·rename_i h;have h:Zm a b=false:=by simpa using h
  split<;>simp[h]
theorem Zm5{a b:List UInt8}:Z8r a b=0↔a=b:=by
 unfold Z8r;split
 ·rename_i h;simp only[show ¬((-1:Int)=0) by decide,false_iff];exact Zad h
 ·split<;>simp[*]
theorem Zen(w:World)(a b:List UInt8):Calls Tryz.prog 127 #[.string ⟨a.toArray⟩,.string ⟨b.toArray⟩] w λe w'=>e=.returned (.int .i64 (Z8r a b))/\Mod [] w w':=by refine(Any.strings_Compare Tryz.lays106 ⟨a.toArray⟩ ⟨b.toArray⟩ w).mono ?_;rintro e w' ⟨rfl,rfl⟩;rw[Zk6];exact⟨rfl,Mod.refl _ _⟩
theorem Zy3{a b:List UInt8}{i:Nat}(h:a.take i=b.take i)(hi:i<a.length)(hj:i<b.length)(hne:¬a.getD i 0=b.getD i 0):Zm a b=decide (a.getD i 0<b.getD i 0):=by
 induction i generalizing a b with
 | zero =>
  match a,b,hi,hj with
  | x::a,y::b,_,_ =>
   simp only[List.getD_cons_zero]at hne;simp[Zm,Op.bytesLess,hne]
 | succ i ih =>
  match a,b,hi,hj with
  | x::a,y::b,hi,hj =>
   simp only[List.take_succ_cons,List.cons.injEq]at h;obtain⟨rfl,h⟩:=h;simp only[List.getD_cons_succ]at hne⊢;have:=ih h (by simpa using hi) (by simpa using hj) hne
   show(decide (x<x) || (x == x && Zm a b))=_
   rw[this];simp[UInt8.lt_irrefl]
theorem Zt8{a b:List UInt8}{i:Nat}(h:a.take i=b.take i)(hi:i<=a.length)(hj:i<=b.length)(he:i=a.length\/i=b.length):Zm a b=decide (a.length<b.length):=by
 induction i generalizing a b with
 | zero =>
  match a,b with
  | [],[]=>rfl
  | [],_::_=>rfl
  | _::_,[]=>simp[Zac]
  | _::_,_::_=>simp at he
 | succ i ih =>
  match a,b,hi,hj with
  | x::a,y::b,hi,hj =>
   simp only[List.take_succ_cons,List.cons.injEq]at h;obtain⟨rfl,h⟩:=h;have:=ih h (by simpa using hi) (by simpa using hj) (by simpa using he);simp[Zm,Op.bytesLess,UInt8.lt_irrefl];simpa using this
theorem Z126{a b:List UInt8}{i:Nat}(h:a.take i=b.take i)(hi:i<a.length)(hj:i<b.length)(he:a.getD i 0=b.getD i 0):a.take (i+1)=b.take (i+1):=by rw[List.take_add_one,List.take_add_one,h];simp only[qy1,qy7 hi,qy7 hj,Option.getD_some]at he;rw[qy7 hi,qy7 hj,he]
theorem Zc7(w:World)(a b:List UInt8)(ha:a.length<1099511627776):Calls Tryz.prog 28 #[.string ⟨a.toArray⟩,.string ⟨b.toArray⟩] w λe w'=>e=.returned (.bool (Zm a b))/\Mod [] w w':=by
 refine Z1 (Z8 (J:=[.s a,.s b]) sxE_ok Tryz.func28 Z2j rfl rfl rfl ?_) rfl;simp only[Tree.goal,X.P,X.ev,SV.ev,CV.ev,Sc.ev,qz,QA,QB,QC,QD,QE,QF,QG,QH,QI,QJ,QK,QL,QM,Nat.reduceAdd];refine⟨λvs=>∃(i:Nat) (x:V),vs=[x,.i i]/\i<=a.length/\i<=b.length/\a.take i=b.take i,λvs=>a.length - (vs.getD 1 (.i 0)).toI.toNat,⟨0,_,rfl,by omega,by omega,rfl⟩,?_⟩;rintro _ - ⟨i,x,rfl,hi,hj,ht⟩;simp only[Tree.goal,X.P,X.ev,SV.ev,CV.ev,Sc.ev,qz,QA,QB,QC,QD,QE,QF,QG,QH,QI,QJ,QK,QL,QM,Nat.reduceAdd,qy4];refine⟨λh1=>⟨by omega,λh2 w' hr=>⟨?_,hr.mod⟩,λh2=>⟨by omega,by omega,⟨i+1,x,rfl,by omega,by omega,Z126 ht (by omega) (by omega) ?_⟩,by omega⟩⟩,λh1 w' hr=>⟨?_,hr.mod⟩⟩
 ·rw[Zy3 ht (by omega) (by omega) (λe=>h2 (by rw[e]))];simp[UInt8.lt_iff_toNat_lt]
 ·have h3:=qy9.1 h2;exact UInt8.toNat_inj.1 (by exact_mod_cast h3)
 ·rw[Zt8 ht hi hj (by omega)];simp
abbrev Kp:=List UInt8×List UInt8×Int
def encK(k:Kp):List Value:=[.string ⟨k.1.toArray⟩,.string ⟨k.2.1.toArray⟩,.int .i64 k.2.2]
abbrev kD:Kp:=([],[],0)
abbrev kK:List Kd:=[.str,.str,.int .i64]
theorem gK0(l:List Kp)(i:Nat):Value.gS (((l.map encK).getD i []).getD 0 undef)=(l.getD i kD).1:=by simp only[qy1,List.getElem?_map];cases l[i]?<;>simp[encK,Value.gS,undef]
theorem gK1(l:List Kp)(i:Nat):Value.gS (((l.map encK).getD i []).getD 1 undef)=(l.getD i kD).2.1:=by simp only[qy1,List.getElem?_map];cases l[i]?<;>simp[encK,Value.gS,undef]
theorem gK2(l:List Kp)(i:Nat):Value.gI (((l.map encK).getD i []).getD 2 undef)=(l.getD i kD).2.2:=by simp only[qy1,List.getElem?_map];cases l[i]?<;>rfl
abbrev Z3o(w:World)(v:Value)(l:List Kp):Prop:=reads w v kK (l.map encK)
abbrev Zk7(w:World)(v:Value)(l:List Kp):Prop:=owns w v 89 kK (l.map encK)
theorem Z127(l:List Kp)(i:Nat)(h:i<l.length):l.drop i=l.getD i kD::l.drop (i+1):=by rw[List.drop_eq_getElem_cons h,qy1,qy7 h];rfl
theorem Z128(l:List Kp)(i:Nat)(h:i<l.length):l.take (i+1)=l.take i++[l.getD i kD]:=by rw[List.take_add_one,qy1,qy7 h];rfl
def Z8s(l:List Kp):Prop:=∀x∈l,x.1.length<4294967281
theorem Z7v{l:List Kp}(h:Z8s l)(i:Nat):(l.getD i kD).1.length<4294967281:=by
 by_cases hi:i<l.length
 ·rw[qy1,qy7 hi];exact h _ (List.getElem_mem hi)
 ·rw[qy1,List.getElem?_eq_none (by omega)];decide
def Zcs:Option (List UInt8)->List Kp->Int
 | _,[]=>0
 | p,k::l=>if chkT k.1 false≠0 then chkT k.1 false else if k.2.1=[]then 1 else if 200<(k.2.1.length:Int)then 2 else if k.2.2<1\/16777215<k.2.2 then 3
  else if(p.any λt=>!(Zm t k.1))=true then 4 else Zcs (some k.1) l
def chkK(l:List Kp):Int:=if 16<(l.length:Int)then 2 else Zcs none l
def Zq5(l:List Kp)(i:Nat):Option (List UInt8):=if i=0 then none else some (l.getD (i - 1) kD).1
theorem Zt9(l:List Kp)(i:Nat):((Zq5 l i).any λt=>!(Zm t (l.getD i kD).1))=true↔(0<(i:Int)/\(Zm (l.getD i kD).1 (l.getD (i - 1) kD).1=true\/(l.getD i kD).1=(l.getD (i - 1) kD).1)):=by
 unfold Zq5;by_cases h:i=0
 ·simp[h]
 ·rw[if_neg h];simp only[Option.any_some,Bool.not_eq_true'];rw[Z3e];exact⟨λh2=>⟨by omega,h2⟩,λh2=>h2.2⟩
theorem Zgl{l:List Kp}{i:Nat}(h:i<l.length):Zcs (Zq5 l i) (l.drop i)=if chkT (l.getD i kD).1 false≠0 then chkT (l.getD i kD).1 false else if(l.getD i kD).2.1=[]then 1 else if 200<((l.getD i kD).2.1.length:Int)then 2 else if(l.getD i kD).2.2<1\/16777215<(l.getD i kD).2.2 then 3
  else if 0<(i:Int)/\(Zm (l.getD i kD).1 (l.getD (i - 1) kD).1=true\/(l.getD i kD).1=(l.getD (i - 1) kD).1)then 4 else Zcs (Zq5 l (i+1)) (l.drop (i+1)):=by
 rw[Z127 l i h,Zcs];simp only[Zt9];rfl
theorem Zy4(w:World)(v:Value)(l:List Kp)(hv:Z3o w v l)(hs:Z8s l)(hl:l.length<1000000000):Calls Tryz.prog 53 #[sc1 v] w λe w'=>e=.returned (.int .i64 (chkK l))/\Mod [] w w':=by
 refine Z1 (Z3 (J:=[.v v,.r (l.map encK)]) sxE_ok Tryz.func53 Ze7 rfl rfl (Rel.start2 (by simp[Ent.holds,Ent.wr,hv,X.ev])) rfl rfl ?_) rfl;simp only[Tree.goal,X.P,X.ev,SV.ev,CV.ev,Sc.ev,qz,QA,QB,QC,QD,QE,QF,QG,QH,QI,QJ,QK,QL,QM,Nat.reduceAdd,qy3,qy4,gK0,gK1,gK2];refine⟨λh w' hr=>⟨by rw[chkK,if_pos h],hr.mod⟩,λh=>?_⟩;rw[chkK,if_neg h];refine⟨λvs=>∃(i:Nat) (x:V),vs=[x,.i i]/\i<=l.length/\Zcs (Zq5 l i) (l.drop i)=Zcs none l,λvs=>l.length - (vs.getD 1 (.i 0)).toI.toNat,⟨0,_,rfl,by omega,rfl⟩,?_⟩;rintro _ - ⟨i,x,rfl,hi,hg⟩;simp only[Tree.goal,X.P,X.ev,SV.ev,CV.ev,Sc.ev,qz,QA,QB,QC,QD,QE,QF,QG,QH,QI,QJ,QK,QL,QM,Nat.reduceAdd,qy3,qy4,gK0,gK1,gK2];have hi1:((i:Int) - 1).toNat=i - 1:=by omega
 try rw[hi1]
 refine⟨λh1=>⟨by omega,λb=>?_⟩,λh1 w' hr=>⟨?_,hr.mod⟩⟩
 ·rw[Zgl (by omega)]at hg;refine⟨[.i (chkT (l.getD i kD).1 false)],rfl,λ_ w' _=>Zjt w' _ (Z7v hs i),?_⟩;simp only[Tree.goal,X.P,X.ev,SV.ev,CV.ev,Sc.ev,qz,QA,QB,QC,QD,QE,QF,QG,QH,QI,QJ,QK,QL,QM,Nat.reduceAdd,qy3,qy4,gK0,gK1,gK2];try rw[hi1]
  refine⟨λh2 w' hr=>⟨?_,hr.mod⟩,λh2=>⟨λh3 w' hr=>⟨?_,hr.mod⟩,λh3=>⟨λh4 w' hr=>⟨?_,hr.mod⟩,λh4=>⟨λh5 w' hr=>⟨?_,hr.mod⟩,λh5=>⟨by omega,by omega,by omega,by omega,λh6 w' hr=>⟨?_,hr.mod⟩,λh6=>⟨by omega,by omega,⟨i+1,x,rfl,by omega,?_⟩,by omega⟩⟩⟩⟩⟩⟩
  ·rw[if_pos h2]at hg;rw[<- hg]
  ·rw[if_neg h2,if_pos h3]at hg;rw[<- hg]
  ·rw[if_neg h2,if_neg h3,if_pos h4]at hg;rw[<- hg]
  ·rw[if_neg h2,if_neg h3,if_neg h4,if_pos h5]at hg;rw[<- hg]
  ·rw[if_neg h2,if_neg h3,if_neg h4,if_neg h5,if_pos h6]at hg;rw[<- hg]
  ·rw[if_neg h2,if_neg h3,if_neg h4,if_neg h5,if_neg h6]at hg;exact hg
 ·have:i=l.length:=by omega
  subst this;rw[List.drop_length]at hg;rw[<- hg];rfl
theorem Zm6(w:World)(v:Value)(l:List Kp)(hv:Z3o w v l)(hs:Z8s l)(hl:l.length<1000000000):Calls Tryz.prog 25 #[sc1 v] w λe w'=>e=.returned (.int .i64 (chkK l))/\Mod [] w w':=by
 refine Z1 (Z3 (J:=[.v v,.r (l.map encK)]) sxE_ok Tryz.func25 Z4x rfl rfl (Rel.start2 (by simp[Ent.holds,Ent.wr,hv,X.ev])) rfl rfl ?_) rfl;simp only[Tree.goal,X.P,X.ev,SV.ev,CV.ev,Sc.ev,qz,QA,QB,QC,QD,QE,QF,QG,QH,QI,QJ,QK,QL,QM,Nat.reduceAdd,qy3,qy4,gK0,gK1,gK2];refine⟨λh w' hr=>⟨by rw[chkK,if_pos h],hr.mod⟩,λh=>?_⟩;rw[chkK,if_neg h];refine⟨λvs=>∃(i:Nat) (x:V),vs=[x,.i i]/\i<=l.length/\Zcs (Zq5 l i) (l.drop i)=Zcs none l,λvs=>l.length - (vs.getD 1 (.i 0)).toI.toNat,⟨0,_,rfl,by omega,rfl⟩,?_⟩;rintro _ - ⟨i,x,rfl,hi,hg⟩;simp only[Tree.goal,X.P,X.ev,SV.ev,CV.ev,Sc.ev,qz,QA,QB,QC,QD,QE,QF,QG,QH,QI,QJ,QK,QL,QM,Nat.reduceAdd,qy3,qy4,gK0,gK1,gK2];have hi1:((i:Int) - 1).toNat=i - 1:=by omega
 try rw[hi1]
 refine⟨λh1=>⟨by omega,?_⟩,λh1 w' hr=>⟨?_,hr.mod⟩⟩
 ·rw[Zgl (by omega)]at hg;refine⟨[.i (chkT (l.getD i kD).1 false)],rfl,λ_ w' _=>Z3c w' _ false (Z7v hs i),?_⟩;simp only[Tree.goal,X.P,X.ev,SV.ev,CV.ev,Sc.ev,qz,QA,QB,QC,QD,QE,QF,QG,QH,QI,QJ,QK,QL,QM,Nat.reduceAdd,qy3,qy4,gK0,gK1,gK2];try rw[hi1]
  refine⟨λh2 w' hr=>⟨?_,hr.mod⟩,λh2=>⟨λh3 w' hr=>⟨?_,hr.mod⟩,λh3=>⟨λh4 w' hr=>⟨?_,hr.mod⟩,λh4=>⟨λh5 w' hr=>⟨?_,hr.mod⟩,λh5=>⟨by omega,by omega,by omega,by omega,?_⟩⟩⟩⟩⟩
  ·rw[if_pos h2]at hg;rw[<- hg]
  ·rw[if_neg h2,if_pos h3]at hg;rw[<- hg]
  ·rw[if_neg h2,if_neg h3,if_pos h4]at hg;rw[<- hg]
  ·rw[if_neg h2,if_neg h3,if_neg h4,if_pos (by omega)]at hg;rw[<- hg]
  ·rw[if_neg h2,if_neg h3,if_neg h4,if_neg (by omega)]at hg;refine⟨[.b (Zm (l.getD (i - 1) kD).1 (l.getD i kD).1)],rfl,λ_ w' _=>Zc7 w' _ _ (Nat.lt_trans (Z7v hs (i - 1)) (by decide)),?_⟩;simp only[Tree.goal,X.P,X.ev,SV.ev,CV.ev,Sc.ev,qz,QA,QB,QC,QD,QE,QF,QG,QH,QI,QJ,QK,QL,QM,Nat.reduceAdd,qy3,qy4,gK0,gK1,gK2];refine⟨λh6 w' hr=>⟨?_,hr.mod⟩,λh6=>⟨by omega,by omega,⟨i+1,x,rfl,by omega,?_⟩,by omega⟩⟩
   ·rw[if_pos ⟨h6.1,Z3e.1 (by simpa using h6.2)⟩]at hg;rw[<- hg]
   ·rw[if_neg (λh7=>h6 ⟨h7.1,by simpa using Z3e.2 h7.2⟩)]at hg;exact hg
 ·have:i=l.length:=by omega
  subst this;rw[List.drop_length]at hg;rw[<- hg];rfl
def okK(k:Kp):Prop:=chkT k.1 false=0/\k.2.1≠[]/\¬200<(k.2.1.length:Int)/\1<=k.2.2/\k.2.2<=16777215
def Z6t(l:List Kp):Prop:=l.Pairwise λa b=>Zm a.1 b.1=true
theorem Zae:∀(l:List Kp) (p:Option (List UInt8)),Zcs p l=0↔(∀k∈l,okK k)/\Z6t l/\∀t,p=some t->∀k∈l,Zm t k.1=true
 | [],p=>by simp[Zcs,Z6t]
 | k::l,p=>by
  rw[Zcs];constructor
  ·intro h;split at h
   ·exact absurd h (by assumption)
   rename_i h1;split at h
   ·exact absurd h (by decide)
   rename_i h2;split at h
   ·exact absurd h (by decide)
   rename_i h3;split at h
   ·exact absurd h (by decide)
   rename_i h4;split at h
   ·exact absurd h (by decide)
   rename_i h5;obtain⟨i1,i2,i3⟩:=(Zae l (some k.1)).1 h;refine⟨λx hx=>?_,List.pairwise_cons.2 ⟨λx hx=>i3 _ rfl x hx,i2⟩,λt ht x hx=>?_⟩
   ·rcases List.mem_cons.1 hx with rfl|hx
    ·exact⟨qy9.1 h1,h2,h3,by omega,by omega⟩
    ·exact i1 x hx
   ·subst ht;have h6:Zm t k.1=true:=by simpa using h5
    rcases List.mem_cons.1 hx with rfl|hx
    ·exact h6
    ·exact Z26 h6 (i3 _ rfl x hx)
  ·rintro⟨i1,i2,i3⟩;obtain⟨j1,j2⟩:=List.pairwise_cons.1 i2;obtain⟨o1,o2,o3,o4,o5⟩:=i1 k (qy8 ..);rw[if_neg (by simpa using o1),if_neg o2,if_neg o3,if_neg (by omega),if_neg]
   ·exact(Zae l (some k.1)).2 ⟨λx hx=>i1 x (qy10 _ hx),j2,λt ht x hx=>by cases ht;exact j1 x hx⟩
   ·cases p with
    | none=>simp
    | some t=>simpa using i3 t rfl k (qy8 ..)
theorem Zu{l:List Kp}:chkK l=0↔l.length<=16/\(∀k∈l,okK k)/\Z6t l:=by
 unfold chkK;constructor
 ·intro h;split at h
  ·exact absurd h (by decide)
  ·obtain⟨a,b,-⟩:=(Zae l none).1 h;exact⟨by omega,a,b⟩
 ·rintro⟨a,b,c⟩;rw[if_neg (by omega)];exact(Zae l none).2 ⟨b,c,λt ht=>by cases ht⟩
theorem Zd8{l:List Kp}(h:Z6t l){i j:Nat}(hij:i<j)(hj:j<l.length):Zm (l.getD i kD).1 (l.getD j kD).1=true:=by rw[Z6t,List.pairwise_iff_getElem]at h;have:=h i j (by omega) hj hij;simpa[qy1,qy7 hj,qy7 (Nat.lt_trans hij hj)]using this
def idx(l:List Kp)(n:List UInt8):Nat:=(l.filter λk=>Zm k.1 n).length
theorem Zo4{l:List Kp}{n:List UInt8}{i:Nat}(hi:i<=l.length)(h1:∀j,j<i->Zm (l.getD j kD).1 n=true)(h2:∀j,i<=j->j<l.length->Zm (l.getD j kD).1 n=false):i=idx l n:=by
 have e:l=l.take i++l.drop i:=(List.take_append_drop i l).symm;have f1:(l.take i).filter (λk=>Zm k.1 n)=l.take i:=by
  rw[List.filter_eq_self];intro x hx;obtain⟨j,hj,rfl⟩:=List.mem_iff_getElem.1 hx;have hj':j<i:=by simp at hj;omega
  have:=h1 j hj';rw[List.getElem_take];simpa[qy1,qy7 (show j<l.length by omega)]using this
 have f2:(l.drop i).filter (λk=>Zm k.1 n)=[]:=by
  rw[List.filter_eq_nil_iff];intro x hx;obtain⟨j,hj,rfl⟩:=List.mem_iff_getElem.1 hx;have hj':i+j<l.length:=by simp at hj;omega
  have:=h2 (i+j) (by omega) hj';rw[List.getElem_drop];simpa[qy1,qy7 hj']using this
 rw[idx,e,List.filter_append,f1,f2];simp;omega
def hasK(l:List Kp)(n:List UInt8):Bool:=decide (idx l n<l.length/\(l.getD (idx l n) kD).1=n)
theorem half(i j:Nat)(h:i+j<4000000000):Int.fdiv (IntKind.u64.wrap ((i:Int)+j)) (2 ^ (Nat.min (Int.toNat 1) IntKind.u64.bits))=(((i+j) / 2:Nat):Int):=by
 have e:(2:Int) ^ (Nat.min (Int.toNat 1) IntKind.u64.bits)=2:=by decide
 rw[e,IntKind.wrap_u64,Int.emod_eq_of_lt (by omega) (by omega),Int.fdiv_eq_ediv_of_nonneg _ (by decide)];omega
theorem Zta(w:World)(v:Value)(l:List Kp)(n:List UInt8)(hv:Z3o w v l)(hs:Z6t l)(hl:l.length<1000000000):Calls Tryz.prog 67 #[sc1 v,.string ⟨n.toArray⟩] w λe w'=>e=.returned (.tuple #[.int .i64 (idx l n),.bool (hasK l n)])/\Mod [] w w':=by
 refine Z1 (Z3 (J:=[.v v,.r (l.map encK),.s n]) sxE_ok Tryz.func67 Zfo rfl rfl (Rel.start2 (by simp[Ent.holds,Ent.wr,hv,X.ev])) rfl rfl ?_) rfl;simp only[Tree.goal,X.P,X.ev,SV.ev,CV.ev,Sc.ev,qz,QA,QB,QC,QD,QE,QF,QG,QH,QI,QJ,QK,QL,QM,Nat.reduceAdd,qy3,qy4,gK0,gK1,gK2];refine⟨λvs=>∃(i j:Nat),vs=[.i i,.i j]/\i<=j/\j<=l.length/\(∀k,k<i->Zm (l.getD k kD).1 n=true)/\(∀k,j<=k->k<l.length->Zm (l.getD k kD).1 n=false),λvs=>(vs.getD 1 (.i 0)).toI.toNat - (vs.getD 0 (.i 0)).toI.toNat,⟨0,l.length,rfl,by omega,by omega,λk hk=>by omega,λk h1 h2=>by omega⟩,?_⟩;rintro _ - ⟨i,j,rfl,hij,hj,hA,hB⟩;simp only[Tree.goal,X.P,X.ev,SV.ev,CV.ev,Sc.ev,qz,QA,QB,QC,QD,QE,QF,QG,QH,QI,QJ,QK,QL,QM,Nat.reduceAdd,qy3,qy4,gK0,gK1,gK2];refine⟨λh1=>?_,λh1=>?_⟩
 ·rw[half i j (by omega)];obtain⟨h,hh⟩:∃h,h=(i+j) / 2:=⟨_,rfl⟩
  rw[<- hh];have hh1:i<=h/\h<j:=by omega
  simp only[qy4,gK0];refine⟨by omega,by omega,by omega,by omega,by omega,by omega,λb=>?_⟩;refine⟨[.i (Z8r (l.getD h kD).1 n)],rfl,λ_ w' _=>Zen w' _ _,?_⟩;simp only[Tree.goal,X.P,X.ev,SV.ev,CV.ev,Sc.ev,qz,QA,QB,QC,QD,QE,QF,QG,QH,QI,QJ,QK,QL,QM,Nat.reduceAdd,qy3,qy4,gK0,gK1,gK2];rw[Zt7];refine⟨λh2=>⟨by omega,by omega,⟨h+1,j,rfl,by omega,hj,λk hk=>?_,hB⟩,by omega⟩,λh2=>⟨⟨i,h,rfl,by omega,by omega,hA,λk hk1 hk2=>?_⟩,by omega⟩⟩
  ·by_cases hkh:k=h
   ·rw[hkh];exact h2
   ·exact Z26 (Zd8 hs (i:=k) (j:=h) (by omega) (by omega)) h2
  ·have h3:Zm (l.getD h kD).1 n=false:=by simpa using h2
   by_cases hkh:k=h
   ·rw[hkh];exact h3
   ·cases h4:Zm (l.getD k kD).1 n with
    | false=>rfl
    | true =>
     have:=Z26 (Zd8 hs (i:=h) (j:=k) (by omega) hk2) h4;rw[h3]at this;cases this
 ·have hie:i=j:=by omega
  subst hie;have e:=Zo4 (i:=i) hj hA hB;refine⟨λh2=>⟨by omega,λb=>?_⟩,λh2 w' hr=>⟨?_,hr.mod⟩⟩
  ·refine⟨[.i (Z8r (l.getD i kD).1 n)],rfl,λ_ w' _=>Zen w' _ _,?_⟩;simp only[Tree.goal,X.P,X.ev,SV.ev,CV.ev,Sc.ev,qz,QA,QB,QC,QD,QE,QF,QG,QH,QI,QJ,QK,QL,QM,Nat.reduceAdd,qy3,qy4,gK0,gK1,gK2];intro w' hr;refine⟨?_,hr.mod⟩;rw[hasK,<- e];simp only[Zm5];congr 4
   simp;intro _;omega
  ·rw[hasK,<- e];have:¬i<l.length:=by omega
   simp[this]
end Go.Proofs.Y
namespace Go.Sx
open Go
theorem Z3z{P:Program}(w:World)(dT sT ty elem:TypeId)(sz:Nat)(g o dLen dCap:Nat)(a:Addr)(sLen sCap:Nat)(cur:Array Value)(t:TypeId)(cs:List Value)(q:Nat)(hq:min sLen dLen=q) (hu:P.underlying dT=some (.slice elem)) (hs:(P.info? elem).map (·.size)=some sz) (hg:w.heap[g]?=some (.cells cur t (0,0))) (hn:cs.length=q*sz) (hsrc:∀j v,cs[j]?=some v->w.cell? (a.add j)=some v) (hfit:o+cs.length<=cur.size) (h1:∀v∈cs,v.oneCell'=true) : (Builtin.copy_ #[dT,sT] ty #[.slice (some ⟨g,o,none⟩) dLen dCap,.slice (some a) sLen sCap]).run P w = .ok (goInt q) (w.setRow g (cur.toList.take o++cs++cur.toList.drop (o+cs.length)).toArray):=by
 have hq':Nat.min sLen dLen=q:=hq;have hl:=run_loadCells_list (P:=P) w a cs hsrc;have hst:=run_storeCells_at P g o t cs 0 cur w hg (by simpa using hfit) h1;cases hr:P.info? elem with
 | none=>simp[hr]at hs
 | some i =>
  have hi:i.size=sz:=by simpa[hr]using hs
  simp[Builtin.copy_,run_underlying hu,Builtin.lenOf,Builtin.firstCells,sizeOf,typeInfo,hr,hi,hq',<- hn,hl,hst]
theorem Z129{α:Type}(cur cs vs:List α)(a b d:Nat)(h1:a+vs.length=b)(h2:b+cs.length=d)(h3:d<=cur.length) : (cur.take b++cs++cur.drop (b+cs.length)).take a++vs++(cur.take b++cs++cur.drop (b+cs.length)).drop (a+vs.length)=cur.take a++vs++cs++cur.drop d:=by
 subst h1 h2;have e1:(cur.take (a+vs.length)++cs++cur.drop (a+vs.length+cs.length)).take a=cur.take a:=by rw[List.append_assoc,List.take_append_of_le_length (by simp;omega),List.take_take,Nat.min_eq_left (by omega)]
 have e2:(cur.take (a+vs.length)++cs++cur.drop (a+vs.length+cs.length)).drop (a+vs.length)=cs++cur.drop (a+vs.length+cs.length):=by
  have hl:(cur.take (a+vs.length)).length=a+vs.length:=by simp;omega
  rw[List.append_assoc,List.drop_append_of_le_length (by omega),List.drop_eq_nil_of_le (by omega),List.nil_append]
 rw[e1,e2];simp
theorem Z12a{α:Type}(hd vs cs rest:List α)(a:Nat)(h:hd.length+vs.length=a) : (hd++vs++rest).take a++cs++(hd++vs++rest).drop (a+cs.length)=hd++vs++cs++(hd++vs++rest).drop (a+cs.length):=by subst h;rw[List.take_append_of_le_length (by simp),List.take_of_length_le (by simp)]
theorem Z5n(z:Array Value)(n:Nat):(Builtin.zeroCells z n).size=n*z.size:=by simp[Builtin.zeroCells,Nat.mul_comm]
theorem Z40{n:Nat}:∀{R:List (List Value)} (i:Nat),(∀r∈R,r.length=n)->R.flatten.take (i*n)=(R.take i).flatten
 | [],i,_=>by simp
 | r::R,0,_=>by simp
 | r::R,i+1,h=>by
  have h1:=h r (by simp);have ih:=Z40 (R:=R) i (λx hx=>h x (by simp[hx]));rw[List.flatten_cons,List.take_succ_cons,List.flatten_cons,<- ih,List.take_append,List.take_of_length_le (by rw[h1,Nat.succ_mul];omega)];congr 2
  rw[h1,Nat.succ_mul];omega
theorem Z41{n:Nat}:∀{R:List (List Value)} (i:Nat),(∀r∈R,r.length=n)->R.flatten.drop (i*n)=(R.drop i).flatten
 | [],i,_=>by simp
 | r::R,0,_=>by simp
 | r::R,i+1,h=>by
  have h1:=h r (by simp);have ih:=Z41 (R:=R) i (λx hx=>h x (by simp[hx]));rw[List.flatten_cons,List.drop_succ_cons,<- ih,List.drop_append,List.drop_eq_nil_of_le (by rw[h1,Nat.succ_mul];omega),List.nil_append];congr 1
  rw[h1,Nat.succ_mul];omega
theorem Zd9{ks:List Kd}{R:List (List Value)}(h:∀r∈R,rowOk ks r):∀x∈R.flatten,x.oneCell'=true:=by intro x hx;obtain⟨row,hr,hx⟩:=List.mem_flatten.1 hx;exact(h row hr).one x hx
theorem Zq6(w:World)(r:Option Nat):w.grownBy w r:=⟨rfl,rfl,rfl,Nat.le_refl _,λ_ _ _=>rfl⟩
def Zeo(w w':World)(s v':Value)(ty:Nat)(ks:List Kd)(R:List (List Value)):Prop :=
 owns w' v' ty ks R/\(∀k,Z2 v' k->Z2 s k\/w.heap.size<=k)/\w.grownBy w' s.ownBlock
theorem Zaf{z:Array Value}{n:Nat}(hz:0<z.size)(h:∀v∈z.toList,v.oneCell'=true):∀v∈(Builtin.zeroCells z n).toList,v.oneCell'=true:=by intro v hv;simp only[Builtin.zeroCells,Array.toList_map,List.mem_map]at hv;obtain⟨i,-,rfl⟩:=hv;have hlt:i % z.size<z.size:=Nat.mod_lt _ hz;rw[getElem!_pos z _ hlt];exact h _ (Array.getElem_mem_toList hlt)
theorem Z2n{P:Program}{ops:Array Oper}{o:Oper}{a:Act}{w:World}{K:Act->World->Prop}{Q:Exit->Act->World->Prop}{E:Prop} (hg:o.guard=none) (d x:Operand) (dT sT:TypeId) (hop:o.op=Op.call { callee:=Callee.builtin Builtin.append,args:=#[d,x],argTypes:=#[dT,sT] })
  (v u:Value) (hd:a.eval d=v) (hx:a.eval x=u) {v':Value} {w':World} (hr:(Builtin.append_ #[dT,sT] o.type #[v,u]).run P w=.ok v' w') (hK:K (a.put o.dst v') w') :
  if Region.wanted o (yielded ops a.tmps)=true then Oper.wp P o a w K Q else E:=by
 have hw:Region.wanted o (yielded ops a.tmps)=true:=by simp[Region.wanted,hg]
 rw[if_pos hw];unfold Oper.wp;simp[execOp,hop,resolve,invoke,builtin,hd,hx,hr,Result.andThen];exact hK
theorem Z29{P:Program}(w:World){ops:Array Oper}{rest:List Oper}{o:Oper}{a:Act}{Q:Exit->Act->World->Prop}(hgd:o.guard=none)(d:Operand)(t:TypeId) (ho:o.op=.call { callee:=.builtin .clear,args:=#[d],argTypes:=#[t] }) (v:Value) (hd:a.eval d=v) {v':Value} {w':World}
  (hr:(Builtin.clear_ #[t] o.type #[v]).run P w=.ok v' w') (h:wpList P ops Q rest (a.put o.dst v') w'):wpList P ops Q (o::rest) a w :=
 wpList_plain hgd λ_ hK=>by unfold Oper.wp execOp;simp only[ho,resolve,invoke,builtin,Sem.run_bind,Sem.run_pure,Result.andThen_ok,List.map_toArray,List.map_cons,List.map_nil,hd,hr];exact hK _ _ h
open Go.Shelf Go.RowKit Go.Lib
theorem Z14y{P:Program}{τ σ K:Nat}(hu:P.underlying σ=some (.slice τ))(hsz:(P.info? τ).map (·.size)=some K)(w:World)(g n c i vb m vc:Nat)(cs vs:List Value)(cur vcur cur2:Array Value)(hi:i<n)(hm:0<m)(hroom:n+m<=c)(hc63:c<=9223372036854775807)(hvb:vb≠g) (hg:w.heap[g]?=some (.cells cur τ (0,0))) (hcs:cur.size=c*K) (hv:w.heap[vb]?=some (.cells vcur τ (0,0))) (hvl:m*K<=vcur.size) (e1:cs=(cur.toList.drop (i*K)).take ((n - i)*K)) (e2:vs=vcur.toList.take (m*K)) (h1c:∀v∈cs,v.oneCell'=true) (h1v:∀v∈vs,v.oneCell'=true) (e3:cur2.toList=cur.toList.take (i*K)++vs++cs++cur.toList.drop ((n+m)*K)) : ∃cur1:Array Value, (∀ty dc sc,(Builtin.copy_ #[σ,σ] ty #[.slice (some ⟨g,(i+m)*K,none⟩) (n+m - (i+m)) dc,.slice (some ⟨g,i*K,none⟩) (n+m - i) sc]).run P w.drew=.ok (goInt ((n - i:Nat):Int)) (w.drew.setRow g cur1)) /\ (∀(W:World),W.heap=(w.drew.setRow g cur1).heap->∀ty dc,(Builtin.copy_ #[σ,σ] ty #[.slice (some ⟨g,i*K,none⟩) (n+m - i) dc,.slice (some ⟨vb,0,none⟩) m vc]).run P W=.ok (goInt m) (W.setRow g cur2)):=by
 have p1:=Nat.add_mul n m K;have p2:=Nat.add_mul i m K;have p3:=Nat.sub_mul n i K;have p4:(n+m)*K<=c*K:=Nat.mul_le_mul_right _ hroom;have p5:i*K<=n*K:=Nat.mul_le_mul_right _ (Nat.le_of_lt hi);have hcl:cs.length=(n - i)*K:=by rw[e1];simp;omega
 have hvl2:vs.length=m*K:=by rw[e2];simp;omega
 have hgd:w.drew.heap[g]?=some (.cells cur τ (0,0)):=hg;have hcp1:∀ty dc sc,(Builtin.copy_ #[σ,σ] ty #[.slice (some ⟨g,(i+m)*K,none⟩) (n+m - (i+m)) dc,.slice (some ⟨g,i*K,none⟩) (n+m - i) sc]).run P w.drew=.ok (goInt ((n - i:Nat):Int)) (w.drew.setRow g (cur.toList.take ((i+m)*K)++cs++cur.toList.drop ((i+m)*K+cs.length)).toArray):=λty dc sc =>
  Z3z (P:=P) w.drew σ σ ty τ K g ((i+m)*K) (n+m - (i+m)) dc ⟨g,i*K,none⟩ (n+m - i) sc cur τ cs (n - i) (by omega) hu hsz hgd hcl (λj v hj=>by
   rw[e1,List.getElem?_take]at hj;split at hj
   ·rw[Addr.add_lit];simp only[World.cell?,hgd];simpa using hj
   ·cases hj) (by rw[hcl];omega) h1c
 obtain⟨cur1,hcur1⟩:∃cur1:Array Value,cur1=(cur.toList.take ((i+m)*K)++cs++cur.toList.drop ((i+m)*K+cs.length)).toArray:=⟨_,rfl⟩
 rw[<- hcur1]at hcp1;have hs1:cur1.size=cur.size:=by rw[hcur1];simp only[List.size_toArray,qy11,List.length_take,List.length_drop,Array.length_toList,hcl];omega
 have hcp2:∀(W:World),W.heap=(w.drew.setRow g cur1).heap->∀ty dc,(Builtin.copy_ #[σ,σ] ty #[.slice (some ⟨g,i*K,none⟩) (n+m - i) dc,.slice (some ⟨vb,0,none⟩) m vc]).run P W=.ok (goInt m) (W.setRow g cur2):=λW hW ty dc=>by
  have hgW:W.heap[g]?=some (.cells cur1 τ (0,0)):=by rw[hW];exact setRow_heap _ _ _ _ _ _ hgd
  have hvW:W.heap[vb]?=some (.cells vcur τ (0,0)):=by rw[hW,setRow_other _ _ _ _ hvb];exact hv
  have:=Z3z (P:=P) W σ σ ty τ K g (i*K) (n+m - i) dc ⟨vb,0,none⟩ m vc cur1 τ vs m (by omega) hu hsz hgW hvl2 (λj v hj=>by
   rw[e2,List.getElem?_take]at hj;split at hj
   ·rw[Addr.add_lit];simp only[World.cell?,hvW,Nat.zero_add];simpa using hj
   ·cases hj) (by rw[hvl2,hs1];omega) h1v
  rw[this];congr 2
  apply Array.toList_inj.1;rw[e3,hcur1];simp only[List.toList_toArray];rw[Z129 cur.toList cs vs (i*K) ((i+m)*K) ((n+m)*K) (by rw[hvl2];omega) (by rw[hcl];omega) (by simp;omega)]
 exact⟨cur1,hcp1,hcp2⟩
theorem Z172{P:Program}{τ σ ι K BY:Nat}(hu:P.underlying σ=some (.slice τ))(hui:P.underlying ι=some (.int .i64)){i0:TypeInfo}{z:Value}(hi0:P.info? τ=some i0)(hk:i0.size=K)(hby:i0.bytes=BY)(hB:1<=BY)(hK0:0<K)(hz:i0.zero=some z)(hzs:z.cells.size=K)(w:World)(g n c i vb m vc:Nat)(hd cs vs:List Value)(cur vcur:Array Value)(hi:i<n)(hm:0<m)(hnc:n<=c)(hroom:c<n+m)(hbig:(n+m)*BY<=140737488355328) (hg:w.heap[g]?=some (.cells cur τ (0,0))) (hcs:cur.size=c*K) (hv:w.heap[vb]?=some (.cells vcur τ (0,0))) (hvl:m*K<=vcur.size) (e0:hd=cur.toList.take (i*K)) (e1:cs=(cur.toList.drop (i*K)).take ((n - i)*K)) (e2:vs=vcur.toList.take (m*K)) (h1c:∀v∈cs,v.oneCell'=true) (h1v:∀v∈vs,v.oneCell'=true) : ∃(G:Nat) (ROW cur2 cur3:Array Value),n+m<=G/\G<=maxLen /\ (∀ty,(Builtin.append_ #[σ,ι] ty #[.slice (some ⟨g,0,none⟩) i c,.int .i64 ((n:Int)+(m:Int) - (i:Int))]).run P w=.ok (.slice (some ⟨w.heap.size,0,none⟩) (n+m) G) (w.drew.alloc (.cells ROW τ))) /\ (∀(W:World),W.heap=(w.drew.alloc (.cells ROW τ)).heap->∀ty dc,(Builtin.copy_ #[σ,σ] ty #[.slice (some ⟨w.heap.size,i*K,none⟩) (n+m - i) dc,.slice (some ⟨vb,0,none⟩) m vc]).run P W=.ok (goInt m) (W.setRow w.heap.size cur2)) /\ (∀(W:World),W.heap=((w.drew.alloc (.cells ROW τ)).setRow w.heap.size cur2).heap->∀ty dc sc,(Builtin.copy_ #[σ,σ] ty #[.slice (some ⟨w.heap.size,(i+m)*K,none⟩) (n+m - (i+m)) dc,.slice (some ⟨g,i*K,none⟩) (n - i) sc]).run P W=.ok (goInt ((n - i:Nat):Int)) (W.setRow w.heap.size cur3)) /\ cur3.size=G*K/\cur3.toList.take ((n+m)*K)=hd++vs++cs /\ (∀W:World,W.heap=((w.drew.alloc (.cells ROW τ)).setRow w.heap.size cur2).heap->W.os=w.os->W.tape=w.tape->W.output=w.output->(W.setRow w.heap.size cur3).heap[w.heap.size]?=some (.cells cur3 τ (0,0))/\w.grownBy (W.setRow w.heap.size cur3) none):=by
 have hsz:(P.info? τ).map (·.size)=some K:=by rw[hi0];exact congrArg some hk
 have p1:=Nat.add_mul n m K;have p2:=Nat.add_mul i m K;have p3:=Nat.sub_mul n i K;have p4:n*K<=c*K:=Nat.mul_le_mul_right _ hnc;have p6:(n+m)*1<=(n+m)*BY:=Nat.mul_le_mul_left _ hB;have p7:=Nat.sub_mul (n+m) i K;have p0:(n+m - i)*BY<=(n+m)*BY:=Nat.mul_le_mul_right _ (by omega);have p5:i*K<=n*K:=Nat.mul_le_mul_right _ (Nat.le_of_lt hi);have hbw:g<w.heap.size:=(Array.getElem?_eq_some_iff.1 hg).1;have hvw:vb<w.heap.size:=(Array.getElem?_eq_some_iff.1 hv).1;have hkk:(n:Int)+(m:Int) - (i:Int)=((n+m - i:Nat):Int):=by omega
 have hik:i+(n+m - i)=n+m:=by omega
 have hgd:w.drew.heap[g]?=some (.cells cur τ (0,0)):=hg;have hhl:hd.length=i*K:=by rw[e0];simp;omega
 have hold:(Builtin.firstCells i0.size i (.slice (some ⟨g,0,none⟩) i c)).run P w.drew=.ok hd.toArray w.drew:=by
  rw[hk];exact run_firstCells_some w.drew K i ⟨g,0,none⟩ i c hd hhl (λj v hj=>by
   rw[Addr.add_lit];rw[e0,List.getElem?_take]at hj;split at hj
   ·simp only[World.cell?,hgd,Nat.zero_add];simpa using hj
   ·cases hj)
 have hrz:∀ty,(Builtin.append_ #[σ,ι] ty #[.slice (some ⟨g,0,none⟩) i c,.int .i64 ((n:Int)+(m:Int) - (i:Int))]).run P w =
   .ok (.slice (some ⟨w.heap.size,0,none⟩) (n+m) (grownCap w (n+m) c τ)) (w.drew.alloc (.cells (hd.toArray++Builtin.zeroCells z.cells (n+m - i)++Builtin.zeroCells z.cells (grownCap w (n+m) c τ - (n+m))) τ)):=λty=>by
  have h:=Lib.run_append_grow_zeros w σ ι ty τ i0 z .i64 .i64 hu hui hi0 hz (some ⟨g,0,none⟩) i c hd hold (n+m - i) (by omega) (by rw[hk];exact hK0) (by omega) (by omega) (by rw[hby];omega) (by rw[hby,hik];exact growslice_fits hroom hbig);rw[hik]at h;rw[hkk];exact h
 obtain⟨G,hG⟩:∃G,G=grownCap w (n+m) c τ:=⟨_,rfl⟩
 obtain⟨ROW,hROW⟩:∃ROW:Array Value,ROW=hd.toArray++Builtin.zeroCells z.cells (n+m - i)++Builtin.zeroCells z.cells (G - (n+m)):=⟨_,rfl⟩
 rw[<- hG]at hrz;rw[<- hROW]at hrz;have hGn:n+m<=G:=by rw[hG];exact grownCap_ge w _ _ _
 have hG63:G<=maxLen:=by have:=grownCap_le_maxLen w (n+m) c τ (by unfold maxLen;omega);rw[<- hG]at this;exact this
 have hG63':G<=9223372036854775807:=hG63;have p8:=Nat.sub_mul G (n+m) K;have p9:(n+m)*K<=G*K:=Nat.mul_le_mul_right _ hGn;have hRl:ROW.size=G*K:=by rw[hROW];simp only[Array.size_append,List.size_toArray,Z5n,hzs,hhl];omega
 have hRt:ROW.toList.take (i*K)=hd:=by rw[hROW];simp only[Array.toList_append,List.toList_toArray,List.append_assoc];rw[List.take_append_of_le_length (by omega),List.take_of_length_le (by omega)]
 have hcl:cs.length=(n - i)*K:=by rw[e1];simp;omega
 have hvl2:vs.length=m*K:=by rw[e2];simp;omega
 obtain⟨W1,hW1⟩:∃W1,W1=w.drew.alloc (.cells ROW τ):=⟨_,rfl⟩
 rw[<- hW1]at hrz;have hN:W1.heap[w.heap.size]?=some (.cells ROW τ (0,0)):=by rw[hW1];exact heap_alloc_new w.drew _
 have hO:∀k,k<w.heap.size->W1.heap[k]?=w.heap[k]?:=λk hk=>by rw[hW1];exact heap_alloc_old w.drew _ hk
 obtain⟨cur2,hcur2⟩:∃cur2:Array Value,cur2=(ROW.toList.take (i*K)++vs++ROW.toList.drop (i*K+vs.length)).toArray:=⟨_,rfl⟩
 obtain⟨cur3,hcur3⟩:∃cur3:Array Value,cur3=(cur2.toList.take ((i+m)*K)++cs++cur2.toList.drop ((i+m)*K+cs.length)).toArray:=⟨_,rfl⟩
 have hs2:cur2.size=ROW.size:=by rw[hcur2];simp only[List.size_toArray,qy11,List.length_take,List.length_drop,Array.length_toList,hvl2];omega
 have hs3:cur3.size=ROW.size:=by rw[hcur3];simp only[List.size_toArray,qy11,List.length_take,List.length_drop,Array.length_toList,hcl,hs2];omega
 have ht3:cur3.toList.take ((n+m)*K)=hd++vs++cs:=by rw[hcur3,hcur2];simp only[List.toList_toArray];rw[hRt,Z12a hd vs cs _ ((i+m)*K) (by omega)];rw[List.take_append_of_le_length (by simp only[qy11];omega),List.take_of_length_le (by simp only[qy11];omega)]
 have hcpA:∀(W:World),W.heap=W1.heap->∀ty dc,(Builtin.copy_ #[σ,σ] ty #[.slice (some ⟨w.heap.size,i*K,none⟩) (n+m - i) dc,.slice (some ⟨vb,0,none⟩) m vc]).run P W=.ok (goInt m) (W.setRow w.heap.size cur2):=λW hW ty dc=>by
  rw[hcur2];exact Z3z (P:=P) W σ σ ty τ K w.heap.size (i*K) (n+m - i) dc ⟨vb,0,none⟩ m vc ROW τ vs m (by omega) hu hsz (by rw[hW];exact hN) hvl2 (λj v hj=>by
   rw[e2,List.getElem?_take]at hj;split at hj
   ·rw[Addr.add_lit];simp only[World.cell?,hW,hO vb hvw,hv,Nat.zero_add];simpa using hj
   ·cases hj) (by rw[hvl2,hRl];omega) h1v
 have hcpB:∀(W:World),W.heap=(W1.setRow w.heap.size cur2).heap->∀ty dc sc,(Builtin.copy_ #[σ,σ] ty #[.slice (some ⟨w.heap.size,(i+m)*K,none⟩) (n+m - (i+m)) dc,.slice (some ⟨g,i*K,none⟩) (n - i) sc]).run P W=.ok (goInt ((n - i:Nat):Int)) (W.setRow w.heap.size cur3):=λW hW ty dc sc=>by
  rw[hcur3];exact Z3z (P:=P) W σ σ ty τ K w.heap.size ((i+m)*K) (n+m - (i+m)) dc ⟨g,i*K,none⟩ (n - i) sc cur2 τ cs (n - i) (by omega) hu hsz (by rw[hW];exact setRow_heap _ _ _ _ _ _ hN) hcl (λj v hj=>by
   rw[e1,List.getElem?_take]at hj;split at hj
   ·rw[Addr.add_lit];simp only[World.cell?,hW,setRow_other _ _ _ _ (Nat.ne_of_lt hbw),hO g hbw,hg];simpa using hj
   ·cases hj) (by rw[hcl,hs2,hRl];omega) h1c
 subst hW1;refine⟨G,ROW,cur2,cur3,hGn,hG63,hrz,hcpA,hcpB,by rw[hs3,hRl],ht3,λW hW ho ht hou=>⟨setRow_heap _ _ _ _ _ _ (by rw[hW];exact setRow_heap _ _ _ _ _ _ hN),ho,ht,hou,?_,λk hk _=>?_⟩⟩
 ·rw[setRow_size,hW,setRow_size];exact Nat.le_of_lt (by show w.heap.size<(w.heap.push _).size;rw[Array.size_push];omega)
 ·rw[setRow_other _ _ _ _ (by omega),hW,setRow_other _ _ _ _ (by omega)];exact hO k hk
def Zep(P:Program)(f:FuncId):Prop:=∀(w:World) (b:Option Addr) (n c i:Nat) (vb:Option Addr) (vc:Nat),i<=n->n<=c->(b=none->c=0) ->
  Calls P f #[.slice b n c,.int .i64 i,.slice vb 0 vc] w λe w'=>e=.returned (.slice b n c)/\w'=w
def Zk8(P:Program)(f:FuncId)(σ:Nat):Prop:=∀(w:World) (b:Option Addr) (n c:Nat) (vb:Option Addr) (m vc:Nat),0<m->n<=c->(b=none->c=0)->∀(v':Value) (w':World),
  (∀ty,(Builtin.append_ #[σ,σ] ty #[.slice b n c,.slice vb m vc]).run P w=.ok v' w') ->
  Calls P f #[.slice b n c,.int .i64 n,.slice vb m vc] w λe w1=>e=.returned v'/\w1=w'
def Zag(P:Program)(f ov:FuncId)(σ K:Nat):Prop:=∀(w:World) (g n c i vb m vc:Nat) (cur1 cur2:Array Value),i<n->0<m->n+m<=c->c<=9223372036854775807 ->
  (∀o lb cb,(callFunc ov #[.slice (some ⟨vb,0,none⟩) m vc,.slice (some ⟨g,o,none⟩) lb cb]).run P w=.ok (.value (.bool false)) w) ->
  (∀ty dc sc,(Builtin.copy_ #[σ,σ] ty #[.slice (some ⟨g,(i+m)*K,none⟩) (n+m - (i+m)) dc,.slice (some ⟨g,i*K,none⟩) (n+m - i) sc]).run P w.drew=.ok (goInt ((n - i:Nat):Int)) (w.drew.setRow g cur1)) ->
  (∀(W:World),W.heap=(w.drew.setRow g cur1).heap->∀ty dc,(Builtin.copy_ #[σ,σ] ty #[.slice (some ⟨g,i*K,none⟩) (n+m - i) dc,.slice (some ⟨vb,0,none⟩) m vc]).run P W=.ok (goInt m) (W.setRow g cur2)) ->
  Calls P f #[.slice (some ⟨g,0,none⟩) n c,.int .i64 i,.slice (some ⟨vb,0,none⟩) m vc] w λe w'=>e=.returned (.slice (some ⟨g,0,none⟩) (n+m) c)/\w'=w.drew.setRow g cur2
def Zeq(P:Program)(f:FuncId)(τ σ ι K:Nat):Prop:=∀(w:World) (g n c i vb m vc G:Nat) (ROW cur2 cur3:Array Value),i<n->0<m->n<=c->c<n+m->n+m<=G->G<=9223372036854775807 ->
  (∀ty,(Builtin.append_ #[σ,ι] ty #[.slice (some ⟨g,0,none⟩) i c,.int .i64 ((n:Int)+(m:Int) - (i:Int))]).run P w=.ok (.slice (some ⟨w.heap.size,0,none⟩) (n+m) G) (w.drew.alloc (.cells ROW τ))) ->
  (∀(W:World),W.heap=(w.drew.alloc (.cells ROW τ)).heap->∀ty dc,(Builtin.copy_ #[σ,σ] ty #[.slice (some ⟨w.heap.size,i*K,none⟩) (n+m - i) dc,.slice (some ⟨vb,0,none⟩) m vc]).run P W=.ok (goInt m) (W.setRow w.heap.size cur2)) ->
  (∀(W:World),W.heap=((w.drew.alloc (.cells ROW τ)).setRow w.heap.size cur2).heap->∀ty dc sc,(Builtin.copy_ #[σ,σ] ty #[.slice (some ⟨w.heap.size,(i+m)*K,none⟩) (n+m - (i+m)) dc,.slice (some ⟨g,i*K,none⟩) (n - i) sc]).run P W=.ok (goInt ((n - i:Nat):Int)) (W.setRow w.heap.size cur3)) ->
  ∀Q:Ending->World->Prop,
  (∀W:World,W.heap=((w.drew.alloc (.cells ROW τ)).setRow w.heap.size cur2).heap->W.os=w.os->W.tape=w.tape->W.output=w.output->Q (.returned (.slice (some ⟨w.heap.size,0,none⟩) (n+m) G)) (W.setRow w.heap.size cur3)) ->
  Calls P f #[.slice (some ⟨g,0,none⟩) n c,.int .i64 i,.slice (some ⟨vb,0,none⟩) m vc] w Q
theorem insN{n i m:Nat}(hi:i<n)(hm:0<m)(hc:n+m<=9223372036854775807):¬((m:Int)=0)/\¬((i:Int)=(n:Int))/\IntKind.i64.wrap ((i:Int)+(m:Int))=(i:Int)+(m:Int)/\IntKind.i64.wrap ((n:Int)+(m:Int))=(n:Int)+(m:Int)/\(0:Int)<=(i:Int)+(m:Int)/\i<=n/\((i:Int)+(m:Int)).toNat=i+m/\((n:Int)+(m:Int)).toNat=n+m/\(i:Int)<=(n:Int)+(m:Int)/\(i:Int)<=(n:Int):=by refine⟨?_,?_,by rw[IntKind.wrap_i64];omega,by rw[IntKind.wrap_i64];omega,?_,?_,?_,?_,?_,?_⟩<;>omega
theorem Zia{P:Program}{f ov:FuncId}{τ σ ι bt K BY:Nat}{ks:List Kd}(hu:P.underlying σ=some (.slice τ))(hui:P.underlying ι=some (.int .i64))(hI:(P.info? τ).map (λi=>(i.size,i.bytes,i.zero.map (·.cells.size)))=some (K,BY,some K))(hK:K=ks.length)(hK0:0<K)(hB:0<BY) (hOV:∀args w,(callFunc ov args).run P w=((Extern.SlicesOverlaps.overlaps #[σ,σ] #[bt] args).run P w).andThen λv w'=>.ok (.value v) w') (h1:Zep P f) (h2:Zk8 P f σ) (h3:Zag P f ov σ K) (h4:Zeq P f τ σ ι K) (w:World) (s v:Value) (i:Nat) (R V:List (List Value)) (hs:owns w s τ ks R) (hv:owns w v τ ks V) (hne:∀k,Z2 s k->Z2 v k->False) (hi:i<=R.length) (hb:(R.length+V.length)*BY<=140737488355328) : Calls P f #[s,.int .i64 i,v] w λe w'=>∃v',e=.returned v'/\Zeo w w' s v' τ ks (R.take i++V++R.drop i):=by
 subst hK;obtain⟨inf,hinf,hI⟩:=Option.map_eq_some_iff.1 hI;have hk:inf.size=ks.length:=congrArg (·.1) hI;have hby:inf.bytes=BY:=congrArg (·.2.1) hI;obtain⟨z,hz,hzs⟩:=Option.map_eq_some_iff.1 (congrArg (·.2.2) hI);have hsz:(P.info? τ).map (·.size)=some ks.length:=by rw[hinf];exact congrArg some hk
 have hs':=hs;have hv':=hv;obtain⟨hk1,hl1,ho⟩:=hs;obtain⟨hk2,hl2,hov⟩:=hv;have hrl1:∀r∈R,r.length=ks.length:=λr hr=>(hk1 r hr).length;have hrl2:∀r∈V,r.length=ks.length:=λr hr=>(hk2 r hr).length;have hbase:∀{v:Value} {n:Nat} {xs:List Value},((v=.slice none 0 0/\n=0)\/∃g cap cur,v=.slice (some ⟨g,0,none⟩) n cap/\0<=g/\w.heap[g]?=some (.cells cur τ (0,0))/\n<=cap/\cap<=maxLen/\cur.size=cap*ks.length/\cur.toList.take (n*ks.length)=xs)->∃b c,v=.slice b n c/\n<=c/\(b=none->c=0):=by
  intro v n xs h;rcases h with⟨rfl,rfl⟩|⟨g,cap,cur,rfl,-,-,h,-⟩
  ·exact⟨none,0,rfl,Nat.le_refl _,λ_=>rfl⟩
  ·exact⟨some ⟨g,0,none⟩,cap,rfl,h,λh=>by cases h⟩
 by_cases hV:V=[]
 ·subst hV;obtain⟨b,c,rfl,hc1,hc2⟩:=hbase ho;obtain⟨vb,vc,rfl,-,-⟩:=hbase hov;refine(h1 w b R.length c i vb vc hi hc1 hc2).mono ?_;rintro e w' ⟨rfl,rfl⟩;exact⟨_,rfl,by simpa using hs',λk hk=>.inl hk,Zq6 _ _⟩
 have hVl:0<V.length:=List.length_pos_iff.2 hV;by_cases hin:i=R.length
 ·subst hin;obtain⟨b,c,rfl,hc1,hc2⟩:=hbase ho;obtain⟨vb,vc,rfl,-,-⟩:=hbase hov;obtain⟨v',w',e1,e2,e3,e4⟩:=Zg3 (ks:=ks) (ty:=σ) hu hinf hz hk hzs hby hK0 hs' hv'.reads hb hB;have hrun:∀ty,(Builtin.append_ #[σ,σ] ty #[.slice b R.length c,.slice vb V.length vc]).run P w=.ok v' w':=λty=>e1;refine(h2 w b R.length c vb V.length vc hVl hc1 hc2 v' w' hrun).mono ?_;rintro e w1 ⟨rfl,rfl⟩;exact⟨_,rfl,by simpa using e2,e4,e3⟩
 have hin:i<R.length:=by omega
 rcases ho with⟨-,hn⟩|⟨g,c,cur,rfl,-,hg,hnc,hcm,hcs,htk⟩
 ·omega
 rcases hov with⟨-,hn⟩|⟨vb,vc,vcur,rfl,-,hvg,hvn,-,hvs,hvt⟩
 ·omega
 replace hcs:cur.size=c*ks.length:=hcs;replace hvs:vcur.size=vc*ks.length:=hvs;replace htk:cur.toList.take (R.length*ks.length)=R.flatten:=htk;replace hvt:vcur.toList.take (V.length*ks.length)=V.flatten:=hvt;replace hl1:R.flatten.length=R.length*ks.length:=hl1;have hcl2:cur.toList.length=c*ks.length:=by rw[Array.length_toList];exact hcs
 replace hl2:V.flatten.length=V.length*ks.length:=hl2;have hvb:vb≠g:=λe=>hne g rfl (by rw[<- e];rfl);have t1:cur.toList.take (i*ks.length)=(R.take i).flatten:=by rw[<- Z40 i hrl1,<- htk,List.take_take,Nat.min_eq_left (Nat.mul_le_mul_right _ hi)]
 have t2:(cur.toList.drop (i*ks.length)).take ((R.length - i)*ks.length)=(R.drop i).flatten:=by rw[<- Z41 i hrl1,<- htk,List.drop_take,Nat.sub_mul]
 have o1:∀x∈(R.drop i).flatten,x.oneCell'=true:=Zd9 λr hr=>hk1 r (List.mem_of_mem_drop hr);have o2:∀x∈V.flatten,x.oneCell'=true:=Zd9 hk2;have hrows:∀r∈R.take i++V++R.drop i,rowOk ks r:=by
  intro r hr;simp only[qy13]at hr;rcases hr with(hr|hr)|hr
  ·exact hk1 r (List.mem_of_mem_take hr)
  ·exact hk2 r hr
  ·exact hk1 r (List.mem_of_mem_drop hr)
 have hlen:(R.take i++V++R.drop i).length=R.length+V.length:=by simp;omega
 have hfl:(R.take i++V++R.drop i).flatten.length=(R.length+V.length)*ks.length:=by have:=Zc (n:=ks.length) (λr hr=>(hrows r hr).length);rw[hlen]at this;exact this
 by_cases hroom:R.length+V.length<=c
 ·have p4:=Nat.mul_le_mul_right ks.length hroom;obtain⟨cur2,hcur2⟩:∃cur2:Array Value,cur2=(cur.toList.take (i*ks.length)++V.flatten++(R.drop i).flatten++cur.toList.drop ((R.length+V.length)*ks.length)).toArray:=⟨_,rfl⟩
  obtain⟨cur1,c1,c2⟩:=Z14y hu hsz w g R.length c i vb V.length vc (R.drop i).flatten V.flatten cur vcur cur2 hin hVl hroom hcm hvb hg hcs hvg (by rw[hvs];exact Nat.mul_le_mul_right _ hvn) t2.symm hvt.symm o1 o2 (by rw[hcur2]);refine(h3 w g R.length c i vb V.length vc cur1 cur2 hin hVl hroom hcm (λo lb cb=>by rw[hOV,Lib.run_overlaps_apart w σ bt τ hu ks.length (λw=>by simp[sizeOf,typeInfo,hinf,hk]) ⟨vb,0,none⟩ ⟨g,o,none⟩ V.length vc lb cb hvb τ τ vcur.size cur.size (by simp[World.shape?,hvg]) (by simp[World.shape?,hg]) (by rw[hcs];exact Nat.pos_iff_ne_zero.1 (Nat.mul_pos (by omega) hK0)) (by simp[World.frozen?,hvg]) (by simp[World.frozen?,hvg])];rfl) c1 c2).mono ?_
  rintro e w' ⟨rfl,rfl⟩;have hgd:w.drew.heap[g]?=some (.cells cur τ (0,0)):=hg;refine⟨_,rfl,⟨hrows,?_,.inr ⟨g,c,cur2,by rw[hlen],Nat.zero_le _,setRow_heap _ _ _ _ _ _ hgd,by omega,hcm,?_,?_⟩⟩,λk hk=>.inl hk,rfl,rfl,rfl,by rw[setRow_size];exact Nat.le_refl _,λk hk hkr=>setRow_other _ _ _ _ (λe=>hkr (by rw[e];rfl))⟩
  ·rw[hfl,hlen]
  ·show cur2.size=c*ks.length
   rw[hcur2];have:(cur.toList.take (i*ks.length)++V.flatten++(R.drop i).flatten).length=(R.length+V.length)*ks.length:=by rw[t1,<- hfl];simp[List.flatten_append]
   rw[List.size_toArray,qy11,this,List.length_drop,hcl2];omega
  ·have:cur.toList.take (i*ks.length)++V.flatten++(R.drop i).flatten=(R.take i++V++R.drop i).flatten:=by
    rw[t1];simp[List.flatten_append]
   show cur2.toList.take (_*ks.length)=_
   rw[hcur2,List.toList_toArray,this,hlen,List.take_append_of_le_length (by omega),List.take_of_length_le (by omega)]
 ·obtain⟨G,ROW,cur2,cur3,a1,a2,a3,a4,a5,q3,q4,a6⟩:=Z172 hu hui hinf hk hby hB hK0 hz hzs w g R.length c i vb V.length vc (R.take i).flatten (R.drop i).flatten V.flatten cur vcur hin hVl hnc (by omega) hb hg hcs hvg (by rw[hvs];exact Nat.mul_le_mul_right _ hvn) t1.symm t2.symm hvt.symm o1 o2;refine h4 w g R.length c i vb V.length vc G ROW cur2 cur3 hin hVl hnc (by omega) a1 a2 a3 a4 a5 _ λW hW ho ht hou=>?_;obtain⟨q5,q6⟩:=a6 W hW ho ht hou;refine⟨_,rfl,⟨hrows,?_,.inr ⟨w.heap.size,G,cur3,by rw[hlen],Nat.zero_le _,q5,by omega,a2,q3,?_⟩⟩,λk hk=>.inr ?_,q6.os,q6.tape,q6.output,q6.size,λk hk _=>q6.block k hk (by simp)⟩
  ·rw[hfl,hlen]
  ·rw[hlen]
   show cur3.toList.take ((R.length+V.length)*ks.length)=_
   rw[q4];simp[List.flatten_append]
  ·have:w.heap.size=k:=Option.some.inj hk;omega
end Go.Sx
namespace Go.Proofs.Y
open Go Go.Sx Go.Shelf Go.RowKit Go.Lib
set_option maxRecDepth 100000 in
theorem Ztb:Zep Tryz.prog 219:=by
  intro w b n c i vb vc hi hc hb;go_enter Tryz.func219,Tryz.ntmps219
  go_wp2
  all_goals (go_ret;exact⟨rfl,rfl⟩)
set_option maxRecDepth 100000 in
theorem Zy5:Zk8 Tryz.prog 219 22:=by
  intro w b n c vb m vc hm hc hb v' w' hrun;have hz1:¬((m:Int)=0):=by omega
  go_enter Tryz.func219,Tryz.ntmps219
  go_wp2_with (at_builtin;refine Lib.wpList_append_run _ rfl _ _ _ _ rfl _ _ rfl rfl _ _ (hrun _) ?_)
  all_goals (go_ret;exact⟨rfl,rfl⟩)
set_option maxRecDepth 100000 in
theorem Zq7:Zag Tryz.prog 219 244 22 3:=by
  intro w g n c i vb m vc cur1 cur2 hi hm hroom hc63 hov hcp1 hcp2;obtain⟨hz1,hz2,hw1,hw2,hb1,hin,htn,htn2,hb3,-⟩:=insN hi hm (by omega);have hb2:¬(c=i+m):=by omega
  have hb4:¬(c=i):=by omega
  have mixed:Tryz.prog.follows Departure.mixedOrders=true:=by kernel_rfl
  go_enter Tryz.func219,Tryz.ntmps219
  go_wp2_with (simp only[hov])
  go_region_law_o (refine step_copy_runI rfl _ _ 22 22 rfl _ _ (by simp[Act.eval,Act.put]) (by simp[Act.eval,Act.put]) (hcp1 _ _ _) ?_)
  go_wp2_with (at_builtin;refine wpList_copy_runI _ rfl _ _ 22 22 rfl _ _ rfl rfl (hcp2 _ rfl _ _) ?_)
  go_ret
  first|exact⟨rfl,rfl⟩|exact⟨rfl,by rw[setRow_setRow]⟩
set_option maxRecDepth 100000 in
theorem Ztc:Zeq Tryz.prog 219 89 22 3 3:=by
  intro w g n c i vb m vc G ROW cur2 cur3 hi hm hnc hroom hGn hG63 hrz hcpA hcpB Q hfin;obtain⟨hz1,hz2,hw1,-,hb1,hin,htn,-,-,hb3⟩:=insN hi hm (by omega);have hz3:(c:Int)<(n:Int)+(m:Int):=by omega
  have hGi:¬(G=i):=by omega
  have hGim:¬(G=i+m):=by omega
  have hci:¬(c=i):=by omega
  have mixed:Tryz.prog.follows Departure.mixedOrders=true:=by kernel_rfl
  have hE1:((w.alloc (.cells ROW 89)).drew).heap=(w.drew.alloc (.cells ROW 89)).heap:=rfl;have hF1:(((w.alloc (.cells ROW 89)).drew.setRow w.heap.size cur2).drew).heap=((w.drew.alloc (.cells ROW 89)).setRow w.heap.size cur2).heap:=rfl;go_enter Tryz.func219,Tryz.ntmps219
  go_wp2_with (first
    | (at_builtin;refine Lib.wpList_append_run _ rfl _ _ _ _ rfl _ _ rfl rfl _ _ (hrz _) ?_)
    | (at_builtin;refine wpList_copy_runI _ rfl _ _ 22 22 rfl _ _ rfl rfl (hcpA _ hE1 _ _) ?_)
    | (at_builtin;refine wpList_copy_runI _ rfl _ _ 22 22 rfl _ _ rfl rfl (hcpB _ hF1 _ _ _) ?_))
  go_region_law_o (refine step_copy_runI rfl _ _ 22 22 rfl (.slice (some ⟨w.heap.size,(i+m)*3,none⟩) (n+m - (i+m)) (G - (i+m))) (.slice (some ⟨g,i*3,none⟩) (n - i) (c - i)) (by simp[Act.eval,Act.put]) (by simp[Act.eval,Act.put]) (hcpB _ hF1 3 (G - (i+m)) (c - i)) ?_)
  go_wp2
  exact hfin _ rfl rfl rfl rfl
theorem Ztd(w:World)(s v:Value)(i:Nat)(R V:List (List Value))(hs:owns w s 89 [.str,.str,.int .i64] R)(hv:owns w v 89 [.str,.str,.int .i64] V)(hne:∀k,Z2 s k->Z2 v k->False)(hi:i<=R.length)(hb:(R.length+V.length)*40<=140737488355328) : Calls Tryz.prog 219 #[s,.int .i64 i,v] w λe w'=>∃v',e=.returned v'/\Zeo w w' s v' 89 [.str,.str,.int .i64] (R.take i++V++R.drop i) :=
  Zia (K:=3) Tryz.underlying22 Tryz.underlying3 (by kernel_rfl) rfl (by decide) (by decide) (λargs w=>run_callFunc_extern Tryz.func244 (by kernel_rfl) (by kernel_rfl) (by kernel_rfl) (e:=Extern.SlicesOverlaps.overlaps #[22,22] #[4]) (by kernel_rfl) args w) Ztb Zy5 Zq7 Ztc w s v i R V hs hv hne hi hb
set_option maxRecDepth 100000 in
theorem Z14z(w:World)(g n c i j:Nat)(cur:Array Value)(hij:i<j)(hj:j<=n)(hnc:n<=c)(hc63:c<=9223372036854775807) (hg:w.heap[g]?=some (.cells cur 89 (0,0))) (hcs:cur.size=c*3) (h1c:∀v∈cur.toList.take (n*3),v.oneCell'=true) : Calls Tryz.prog 218 #[.slice (some ⟨g,0,none⟩) n c,.int .i64 i,.int .i64 j] w λe w'=>∃cur2:Array Value,e=.returned (.slice (some ⟨g,0,none⟩) (i+(n - j)) c)/\cur2.size=cur.size /\ cur2.toList.take ((i+(n - j))*3)=cur.toList.take (i*3)++(cur.toList.drop (j*3)).take ((n - j)*3)/\w'=w.drew.setRow g cur2:=by
  have hz1:¬((i:Int)=(j:Int)):=by omega
  have hu:=Tryz.underlying22;obtain⟨inf,hinf⟩:∃i0,Tryz.prog.info? 89=some i0:=by
    have:(Tryz.prog.info? 89).isSome=true:=by kernel_rfl
    exact Option.isSome_iff_exists.1 this
  have hk:inf.size=3:=by
    have:(Tryz.prog.info? 89).map (·.size)=some 3:=by kernel_rfl
    rw[hinf]at this;simpa using this
  obtain⟨z,hz,hzs⟩:∃z,inf.zero=some z/\(z.cells.size=3/\z.cells.toList.all (λv=>v.oneCell')=true):=by
    have:(Tryz.prog.info? 89).bind (λi=>i.zero.map (λz=>(z.cells.size,z.cells.toList.all (λv=>v.oneCell'))))=some (3,true):=by kernel_rfl
    rw[hinf]at this;simp only[Option.bind_some,Option.map_eq_some_iff,Prod.mk.injEq]at this;exact this
  obtain⟨hzs,hz1c⟩:=hzs;have hcl:cur.toList.length=c*3:=by rw[Array.length_toList];exact hcs
  obtain⟨cs,hcs1⟩:∃cs,cs=(cur.toList.drop (j*3)).take ((n - j)*3):=⟨_,rfl⟩
  have hl:cs.length=(n - j)*3:=by rw[hcs1];simp only[List.length_take,List.length_drop];omega
  have hone:∀v∈cs,v.oneCell'=true:=λv hv=>h1c v (by
    rw[hcs1]at hv;have e:cur.toList.take (n*3)=cur.toList.take (j*3)++(cur.toList.drop (j*3)).take ((n - j)*3):=by rw[show n*3=j*3+(n - j)*3 by omega,List.take_add]
    rw[e];exact List.mem_append_right _ hv)
  have hgd:w.drew.heap[g]?=some (.cells cur 89 (0,0)):=hg;obtain⟨cur1,hcur1⟩:∃cur1:Array Value,cur1=(cur.toList.take (i*inf.size)++cs++cur.toList.drop (i*inf.size+cs.length)).toArray:=⟨_,rfl⟩
  obtain⟨zs,hzs1⟩:∃zs:List Value,zs=(Builtin.zeroCells z.cells (n - (i+(n - j)))).toList:=⟨_,rfl⟩
  have hzl:zs.length=(j - i)*3:=by rw[hzs1,Array.length_toList,Z5n,hzs];congr 1;omega
  have hzo:∀v∈zs,v.oneCell'=true:=by intro v hv;rw[hzs1]at hv;exact Zaf (by rw[hzs];decide) (List.all_eq_true.1 hz1c) v hv
  obtain⟨cur2,hcur2⟩:∃cur2:Array Value,cur2=(cur1.toList.take ((i+(n - j))*3)++zs++cur1.toList.drop ((i+(n - j))*3+zs.length)).toArray:=⟨_,rfl⟩
  have hs1:cur1.size=cur.size:=by rw[hcur1,hk];simp only[List.size_toArray,qy11,List.length_take,List.length_drop,hcl,hl];omega
  have hcl1:cur1.toList.length=c*3:=by rw[Array.length_toList,hs1];exact hcs
  have hs2:cur2.size=cur.size:=by rw[hcur2];simp only[List.size_toArray,qy11,List.length_take,List.length_drop,hcl1,hzl];omega
  have ht2:cur2.toList.take ((i+(n - j))*3)=cur.toList.take (i*3)++cs:=by
    rw[hcur2,hcur1,hk];simp only[List.toList_toArray];have e1:(cur.toList.take (i*3)++cs++cur.toList.drop (i*3+cs.length)).take ((i+(n - j))*3)=cur.toList.take (i*3)++cs:=by rw[List.take_append_of_le_length (by simp only[qy11,List.length_take];omega),List.take_of_length_le (by simp only[qy11,List.length_take];omega)]
    rw[List.append_assoc,List.take_append_of_le_length (by rw[e1];simp only[qy11,List.length_take];omega),List.take_take,Nat.min_self,e1]
  have happ:∀(a:Addr),(n - j=0\/a=⟨g,j*3,none⟩)->∀ty sc,(Builtin.append_ #[22,22] ty #[.slice (some ⟨g,0,none⟩) i c,.slice (some a) (n - j) sc]).run Tryz.prog w.drew=.ok (.slice (some ⟨g,0,none⟩) (i+(n - j)) c) (w.drew.setRow g cur1):=λa ha ty sc=>by
    rw[hcur1];exact run_append_room (P:=Tryz.prog) w.drew 22 ty 89 inf hu hinf g i c cur hgd a (n - j) sc cs (by rw[hk];exact hl) (λt v ht=>by
      rcases ha with ha|rfl
      . rw[ha]at hl;rw[List.length_eq_zero_iff.1 (by omega:cs.length=0)]at ht;cases ht
      . rw[hcs1,List.getElem?_take]at ht;split at ht
        . rw[Addr.add_lit];simp only[World.cell?,hgd];simpa using ht
        . cases ht) hone (by omega) (by rw[hk,hl];omega)
  have hclr:∀(W:World),W.heap=(w.drew.setRow g cur1).heap->∀ty sc,(Builtin.clear_ #[22] ty #[.slice (some ⟨g,(i+(n - j))*3,none⟩) (n - (i+(n - j))) sc]).run Tryz.prog W=.ok (.tuple #[]) (W.setRow g cur2):=λW hW ty sc=>by
    have hgW:W.heap[g]?=some (.cells cur1 89 (0,0)):=by rw[hW];exact setRow_heap _ _ _ _ _ _ hgd
    have hst:=run_storeCells_at Tryz.prog g ((i+(n - j))*3) 89 zs 0 cur1 W hgW (by rw[hzl,<- Array.length_toList,hcl1];omega) hzo;simp only[Nat.add_zero]at hst;rw[<- hcur2,hzs1]at hst;obtain⟨r,hr⟩:∃r,n - (i+(n - j))=r+1:=⟨j - i - 1,by omega⟩
    rw[hr]at hst⊢;simp[Builtin.clear_,run_underlying hu,zeroValue,typeInfo,hinf,hz,hst]
  have hb1:(0:Int)<=(i:Int):=by omega
  have hw1:¬(c=i+(n - j)):=by omega
  have hj1:(j:Int)<=(n:Int):=by omega
  have hj2:(i:Int)<=(j:Int):=by omega
  have mixed:Tryz.prog.follows Departure.mixedOrders=true:=by kernel_rfl
  have hic:i<=c:=by omega
  have hfin:cur2.size=cur.size/\cur2.toList.take ((i+(n - j))*3)=cur.toList.take (i*3)++(cur.toList.drop (j*3)).take ((n - j)*3):=by rw[<- hcs1];exact⟨hs2,ht2⟩
  clear ht2 hs2 hs1 hcl1 hone hl hzl hzo hzs1 hcur2 hcur1 hcs1 hz1c hzs hz hk hinf hcl h1c hcs hgd hg;clear cs zs z inf;by_cases hcj:c=j
  . obtain rfl:n=c:=by omega
    obtain rfl:n=j:=hcj;have happ0:∀(a:Addr) ty sc,(Builtin.append_ #[22,22] ty #[.slice (some ⟨g,0,none⟩) i n,.slice (some a) 0 sc]).run Tryz.prog w.drew=.ok (.slice (some ⟨g,0,none⟩) i n) (w.drew.setRow g cur1):=λa ty sc=>by have:=happ a (.inl (Nat.sub_self n)) ty sc;rw[Nat.sub_self,Nat.add_zero]at this;exact this
    have hclr0:∀(W:World),W.heap=(w.drew.setRow g cur1).heap->∀ty sc,(Builtin.clear_ #[22] ty #[.slice (some ⟨g,i*3,none⟩) (n - i) sc]).run Tryz.prog W=.ok (.tuple #[]) (W.setRow g cur2):=by rw[Nat.sub_self,Nat.add_zero]at hclr;exact hclr
    have hw2:¬n=i:=by omega
    have hfin0:Ending.returned (.slice (some ⟨g,0,none⟩) i n)=.returned (.slice (some ⟨g,0,none⟩) (i+(n - n)) n):=by rw[Nat.sub_self,Nat.add_zero]
    clear happ hclr;go_enter Tryz.func218,Tryz.ntmps218
    go_wp2
    go_region_law_o (refine Z2n rfl _ _ 22 22 rfl _ _ (by simp[Act.eval,Act.put]) (by simp[Act.eval,Act.put]) (happ0 ⟨g,0,none⟩ _ 0) ?_)
    go_wp2_with (refine Z29 _ rfl _ 22 rfl _ rfl (hclr0 _ rfl _ _) ?_)
    go_ret
    exact⟨cur2,hfin0,hfin.1,hfin.2,by rw[setRow_setRow]⟩
  . go_enter Tryz.func218,Tryz.ntmps218
    go_wp2
    go_region_law_o (refine Z2n rfl _ _ 22 22 rfl _ _ (by simp[Act.eval,Act.put]) (by simp[Act.eval,Act.put]) (happ ⟨g,j*3,none⟩ (.inr rfl) _ (c - j)) ?_)
    go_wp2_with (refine Z29 _ rfl _ 22 rfl _ rfl (hclr _ rfl _ _) ?_)
    go_ret
    exact⟨cur2,rfl,hfin.1,hfin.2,by rw[setRow_setRow]⟩
theorem Zte(w:World)(s:Value)(i j:Nat)(R:List (List Value))(hs:owns w s 89 [.str,.str,.int .i64] R)(hij:i<j)(hj:j<=R.length) : Calls Tryz.prog 218 #[s,.int .i64 i,.int .i64 j] w λe w'=>∃v',e=.returned v'/\Zeo w w' s v' 89 [.str,.str,.int .i64] (R.take i++R.drop j):=by
  obtain⟨hk1,hl1,ho⟩:=hs;have hrl1:∀r∈R,r.length=3:=λr hr=>(hk1 r hr).length;rcases ho with⟨-,hn⟩|⟨g,c,cur,rfl,-,hg,hnc,hcm,hcs,htk⟩
  . omega
  replace hcs:cur.size=c*3:=hcs;replace htk:cur.toList.take (R.length*3)=R.flatten:=htk;refine(Z14z w g R.length c i j cur hij hj hnc hcm hg hcs (λv hv=>by rw[htk]at hv;exact Zd9 hk1 v hv)).mono ?_;rintro e w' ⟨cur2,rfl,q1,q2,rfl⟩;have hgd:w.drew.heap[g]?=some (.cells cur 89 (0,0)):=hg;have t1:cur.toList.take (i*3)=(R.take i).flatten:=by rw[<- Z40 i hrl1,<- htk,List.take_take,Nat.min_eq_left (by omega)]
  have t2:(cur.toList.drop (j*3)).take ((R.length - j)*3)=(R.drop j).flatten:=by rw[<- Z41 j hrl1,<- htk,List.drop_take,Nat.sub_mul]
  have hrows:∀r∈R.take i++R.drop j,rowOk [.str,.str,.int .i64] r:=by
    intro r hr;rcases qy13.1 hr with hr|hr
    . exact hk1 r (List.mem_of_mem_take hr)
    . exact hk1 r (List.mem_of_mem_drop hr)
  have hlen:(R.take i++R.drop j).length=i+(R.length - j):=by simp;omega
  refine⟨_,rfl,⟨hrows,?_,.inr ⟨g,c,cur2,by rw[hlen],Nat.zero_le _,setRow_heap _ _ _ _ _ _ hgd,by omega,hcm,q1.trans hcs,?_⟩⟩,λk hk=>.inl hk,rfl,rfl,rfl,by rw[setRow_size];exact Nat.le_refl _,λk hk hkr=>setRow_other _ _ _ _ (λe=>hkr (by rw[e];rfl))⟩
  . exact Zc (λr hr=>(hrows r hr).length)
  . rw[hlen]
    show cur2.toList.take ((i+(R.length - j))*3)=_
    rw[q2,t1,t2,List.flatten_append]
end Go.Proofs.Y
namespace Go.Proofs.Y
open Go.Sx
theorem Ztf{v:Value}(hn:(match v with | .slice none _ _=>true|_=>false)=true){w:World}{ks:List Kd}{rows:List (List Value)}(h:reads w v ks rows):rows=[]:=by obtain⟨_,a,cap,rfl,_,h2⟩:=h;refine Classical.byContradiction λhne=>?_;obtain⟨ad,rfl,_⟩:=h2 hne;simp at hn
theorem Zda(w:World)(v:Value)(l:List Kp)(hv:Z3o w v l)(hl:l.length<1000000000):Calls Tryz.prog 148 #[sc1 v] w λe w'=>∃v',e=.returned (sc1 v')/\Zk7 w' v' l/\(∀k,Z2 v' k->w.heap.size<=k)/\Mod [] w w':=by
 refine Z1 (Z3 (J:=[.v v,.r (l.map encK)]) sxE_ok Tryz.func148 Z2p rfl rfl (Rel.start2 (by simp[Ent.holds,Ent.wr,hv,X.ev])) rfl rfl ?_) rfl;simp only[Tree.goal,X.P,X.ev,SV.ev,CV.ev,Sc.ev,qz,QA,QB,QC,QD,QE,QF,QG,QH,QI,QJ,QK,QL,QM,Nat.reduceAdd,qy3,List.nil_append];refine⟨λh w' hr=>?_,λh v1=>⟨by simp only[Int.natCast_zero];omega,λv2 w' hr=>?_⟩⟩
 ·have hn:l=[]:=List.map_eq_nil_iff.1 (Ztf h hv);subst hn;exact⟨_,rfl,hr.at_ 0 rfl,hr.fresh 0 rfl,hr.mod⟩
 ·exact⟨v2,rfl,hr.at_ 0 rfl,hr.fresh 0 rfl,hr.mod⟩
theorem Z150(w:World)(s v:Value)(l:List Kp)(x:Kp)(i:Nat)(hs:Zk7 w s l)(hv:Zk7 w v [x])(hne:∀k,Z2 s k->Z2 v k->False)(hi:i<=l.length)(hl:l.length<1000000) : Calls Tryz.prog 219 #[sc1 s,.int .i64 i,sc1 v] w λe w'=>∃v',e=.returned (sc1 v')/\Zk7 w' v' (l.take i++[x]++l.drop i)/\(∀k,Z2 v' k->Z2 s k\/w.heap.size<=k)/\Mod s.ownBlock.toList w w':=by rw[hs.reads.sc1,hv.reads.sc1];refine(Ztd w s v i _ _ hs hv hne (by simpa using hi) (by simp;omega)).mono ?_;rintro e w' ⟨v',rfl,g1,g2,g3⟩;refine⟨v',by rw[g1.reads.sc1],?_,g2,Mod.of_grown g3 λk hk=>.inl (Option.mem_toList.2 hk)⟩;rw[Zk7,List.map_append,List.map_append,List.map_take,List.map_drop];exact g1
theorem Z151(w:World)(s:Value)(l:List Kp)(i:Nat)(hs:Zk7 w s l)(hi:i<l.length) : Calls Tryz.prog 218 #[sc1 s,.int .i64 i,.int .i64 ((i:Int)+1)] w λe w'=>∃v',e=.returned (sc1 v')/\Zk7 w' v' (l.take i++l.drop (i+1))/\(∀k,Z2 v' k->Z2 s k\/w.heap.size<=k)/\Mod s.ownBlock.toList w w':=by rw[hs.reads.sc1];have hc:=Zte w s i (i+1) _ hs (by omega) (by rw[qy3];omega);rw[show((i+1:Nat):Int)=(i:Int)+1 by omega]at hc;refine hc.mono ?_;rintro e w' ⟨v',rfl,g1,g2,g3⟩;refine⟨v',by rw[g1.reads.sc1],?_,g2,Mod.of_grown g3 λk hk=>.inl (Option.mem_toList.2 hk)⟩;rw[Zk7,List.map_append,List.map_take,List.map_drop];exact g1
theorem Z6u{J:List V}{g:List Nat}{i:Nat}(hi:i∈g){k:Nat}(h:Z2 (J.getD i (.i 0)).toV k):k∈Zw J g:=List.mem_flatMap.2 ⟨i,hi,by rw[h];simp⟩
def newK(n:Nat)(u:Value):Prop:=∀k,Z2 u k->n<=k
theorem Z89(n:Nat):newK n (.slice none 0 0):=λk hk=>by simp[Z2,Value.ownBlock]at hk
theorem Z62(w:World):Z3o w (.slice none 0 0) []:=⟨by simp,none,0,rfl,⟨λ_=>rfl,Nat.le_refl _⟩,λh=>absurd rfl h⟩
def gotK(w w':World)(e:Ending)(r:List Kp)(er:Int):Prop:=∃v',e=.returned (.tuple #[sc1 v',.int .i64 er])/\Z3o w' v' r/\newK w.heap.size v'/\Mod [] w w'
def minV(v:Int):Int:=if 16777215<v+1 then 16777215 else v+1
def rawK(l:List Kp)(n p:List UInt8):List Kp×Int :=
 if 200<(p.length:Int)then([],2)
 else if hasK l n=true/\p=[]then(l.take (idx l n)++l.drop (idx l n+1),0)
 else if hasK l n=true then(l.set (idx l n) ((l.getD (idx l n) kD).1,p,minV (l.getD (idx l n) kD).2.2),0)
 else if p=[]then(l,0)
 else if(l.length:Int)=16 then([],2)else(l.take (idx l n)++[((n,p,1):Kp)]++l.drop (idx l n),0)
theorem Zy6(l:List Kp)(n:List UInt8):idx l n<=l.length:=List.length_filter_le _ _
theorem Zbm(R:List Kp)(m:Nat)(x:Kp):(R.map encK).set m [.string ⟨x.1.toArray⟩,.string ⟨x.2.1.toArray⟩,.int .i64 x.2.2]=(R.set m x).map encK:=by rw[List.map_set];rfl
theorem Ztg{R:List Kp}{m:Nat}{x:Kp}(h:m<R.length):(R.set m x).getD m kD=x:=by rw[qy1,List.getElem?_set_self h];rfl
theorem Z152(w:World)(v:Value)(l:List Kp)(n p:List UInt8)(hv:Z3o w v l)(hs:chkK l=0):Calls Tryz.prog 180 #[sc1 v,.string ⟨n.toArray⟩,.string ⟨p.toArray⟩] w λe w'=>gotK w w' e (rawK l n p).1 (rawK l n p).2:=by
 obtain⟨k1,k2,k3⟩:=Zu.1 hs;refine Z1 (Z3 (J:=[.v v,.r (l.map encK),.s n,.s p]) sxE_ok Tryz.func180 Zhq rfl rfl (Rel.start2 (by simp[Ent.holds,Ent.wr,hv,X.ev])) rfl rfl ?_) rfl;simp only[Tree.goal,X.P,X.ev,SV.ev,CV.ev,Sc.ev,qz,QA,QB,QC,QD,QE,QF,QG,QH,QI,QJ,QK,QL,QM,Nat.reduceAdd,qy3,qy4,gK0,gK1,gK2];refine⟨λh w' hr=>?_,λh w1 hr=>?_⟩
 ·rw[rawK,if_pos h];exact⟨_,rfl,Z62 _,Z89 _,hr.mod⟩
 refine(Zda w1 v l (hr.at_ 1 rfl) (by omega)).mono ?_;rintro e w2 ⟨u,rfl,a1,f1,m1⟩;refine⟨[.v u,.r (l.map encK)],rfl,rfl,m1,qy5 _,qy2.2 ⟨⟨a1,λk hk=>.inl (f1 k hk)⟩,qy5 _⟩,Z5,?_⟩;clear hr a1 f1 m1;simp only[Tree.goal,X.P,X.ev,SV.ev,CV.ev,Sc.ev,qz,QA,QB,QC,QD,QE,QF,QG,QH,QI,QJ,QK,QL,QM,Nat.reduceAdd,qy3,qy4,gK0,gK1,gK2];refine⟨[.i (idx l n),.b (hasK l n)],rfl,λ_ w' hr=>Zta w' u l n (hr.at_ 0 rfl).reads k3 (by omega),?_⟩;simp only[Tree.goal,X.P,X.ev,SV.ev,CV.ev,Sc.ev,qz,QA,QB,QC,QD,QE,QF,QG,QH,QI,QJ,QK,QL,QM,Nat.reduceAdd,qy3,qy4,gK0,gK1,gK2];rw[rawK,if_neg h];refine⟨λh1=>?_,λh1=>?_⟩
 ·have hlt:=(of_decide_eq_true h1.1).1;rw[if_pos h1];refine⟨by omega,by omega,λw3 hr=>?_⟩;refine(Z151 w3 u l (idx l n) (hr.at_ 0 rfl) hlt).mono ?_;rintro e w4 ⟨v',rfl,g1,g2,g3⟩;refine⟨[.v v',.r ((l.take (idx l n)++l.drop (idx l n+1)).map encK)],rfl,rfl,g3.mono λk hk=>.inl (by simpa[Zo,Zw,Value.ownBlock]using hk),qy5 _,qy2.2 ⟨⟨g1,λk hk=>?_⟩,qy5 _⟩,Z5,?_⟩
  ·rcases g2 k hk with h2|h2
   ·exact .inr (.inr (Z6u (i:=5) (by simp) h2))
   ·exact .inl h2
  ·intro w5 hr5;exact⟨v',rfl,(hr5.at_ 0 rfl).reads,hr5.fresh 0 rfl,hr5.mod⟩
 rw[if_neg h1];refine⟨λh2=>?_,λh2=>?_⟩
 ·have hlt:=(of_decide_eq_true h2).1;have hm:l.getD (idx l n) kD∈l:=by
   rw[qy1,qy7 hlt];exact List.getElem_mem hlt
  obtain⟨-,-,-,o4,o5⟩:=k2 _ hm;rw[if_pos h2];refine⟨by omega,by omega,by omega,by omega,by simp only[List.length_set,qy3];omega,λw3 hr=>?_⟩;have e1:(l.map encK).set (idx l n) [Value.string ⟨(l.getD (idx l n) kD).1.toArray⟩,Value.string ⟨p.toArray⟩,Value.int .i64 (l.getD (idx l n) kD).2.2]=(l.set (idx l n) ((l.getD (idx l n) kD).1,p,(l.getD (idx l n) kD).2.2)).map encK:=Zbm l (idx l n) ((l.getD (idx l n) kD).1,p,(l.getD (idx l n) kD).2.2);refine⟨u,rfl,?_,hr.fresh 0 rfl,hr.mod⟩;have h0:=(hr.at_ 0 rfl).reads;simp only[Tree.goal,X.P,X.ev,SV.ev,CV.ev,Sc.ev,qz,QA,QB,QC,QD,QE,QF,QG,QH,QI,QJ,QK,QL,QM,Nat.reduceAdd,qy3,qy4,gK0,gK1,gK2,e1,Ztg hlt]at h0;have e2:((l.set (idx l n) ((l.getD (idx l n) kD).1,p,(l.getD (idx l n) kD).2.2)).map encK).set (idx l n) [Value.string ⟨(l.getD (idx l n) kD).1.toArray⟩,Value.string ⟨p.toArray⟩,Value.int .i64 (minV (l.getD (idx l n) kD).2.2)]=(l.set (idx l n) ((l.getD (idx l n) kD).1,p,minV (l.getD (idx l n) kD).2.2)).map encK:=by have:=Zbm (l.set (idx l n) ((l.getD (idx l n) kD).1,p,(l.getD (idx l n) kD).2.2)) (idx l n) ((l.getD (idx l n) kD).1,p,minV (l.getD (idx l n) kD).2.2);rw[List.set_set]at this;exact this
  rw[Z3o,<- e2];exact h0
 rw[if_neg h2];refine⟨λh3 w3 hr=>?_,λh3=>⟨λh4 w3 hr=>?_,λh4 u2 w3 hr=>?_⟩⟩
 ·rw[if_pos h3];exact⟨u,rfl,(hr.at_ 0 rfl).reads,hr.fresh 0 rfl,hr.mod⟩
 ·rw[if_neg h3,if_pos h4];exact⟨_,rfl,Z62 _,Z89 _,hr.mod⟩
 ·rw[if_neg h3,if_neg h4];refine(Z150 w3 u u2 l (n,p,1) (idx l n) (hr.at_ 1 rfl) (hr.at_ 0 rfl) (λk h5 h6=>hr.sep.disj (i:=1) (j:=0) rfl rfl (by omega) (.inl rfl) (k:=k) h5 h6) (Zy6 l n) (by omega)).mono ?_;rintro e w4 ⟨v',rfl,g1,g2,g3⟩;refine⟨[.v v',.r ((l.take (idx l n)++[((n,p,1):Kp)]++l.drop (idx l n)).map encK)],rfl,rfl,g3.mono λk hk=>.inl (by unfold Zo;exact List.mem_append_right _ (Z6u (i:=5) (by simp) (Option.mem_toList.1 hk))),qy5 _,qy2.2 ⟨⟨g1,λk hk=>?_⟩,qy5 _⟩,Z5,?_⟩
  ·rcases g2 k hk with h5|h5
   ·exact .inr (.inr (Z6u (i:=5) (by simp) h5))
   ·exact .inl h5
  ·intro w5 hr5;exact⟨v',rfl,(hr5.at_ 0 rfl).reads,hr5.fresh 0 rfl,hr5.mod⟩
def forF(f:List UInt8)(k:Kp):Bool:=mt (lev f) (lev k.1)
theorem Zdb(w:World)(v:Value)(l:List Kp)(n:List UInt8)(hv:Z3o w v l)(hs:Z6t l)(hl:l.length<1000000000):Calls Tryz.prog 31 #[sc1 v,.string ⟨n.toArray⟩] w λe w'=>e=.returned (.int .i64 (if hasK l n=true then(idx l n:Int)else -1))/\Mod [] w w':=by
 have key:∀i,i<l.length->(l.getD i kD).1=n->i=idx l n:=by
  intro i hi he;refine Zo4 (by omega) (λj hj=>?_) (λj hj1 hj2=>?_)
  ·rw[<- he];exact Zd8 hs hj hi
  ·rw[<- he];by_cases hji:j=i
   ·rw[hji];exact Z2y _
   ·exact Z49 (Zd8 hs (by omega) hj2)
 refine Z1 (Z3 (J:=[.v v,.r (l.map encK),.s n]) sxE_ok Tryz.func31 Z6p rfl rfl (Rel.start2 (by simp[Ent.holds,Ent.wr,hv,X.ev])) rfl rfl ?_) rfl;simp only[Tree.goal,X.P,X.ev,SV.ev,CV.ev,Sc.ev,qz,QA,QB,QC,QD,QE,QF,QG,QH,QI,QJ,QK,QL,QM,Nat.reduceAdd,qy3,qy4,gK0,gK1,gK2];refine⟨λvs=>∃(i:Nat) (x:V),vs=[x,.i i]/\i<=l.length/\∀j,j<i->¬(l.getD j kD).1=n,λvs=>l.length - (vs.getD 1 (.i 0)).toI.toNat,⟨0,_,rfl,by omega,λj hj=>by omega⟩,?_⟩;rintro _ - ⟨i,x,rfl,hi,hno⟩;simp only[Tree.goal,X.P,X.ev,SV.ev,CV.ev,Sc.ev,qz,QA,QB,QC,QD,QE,QF,QG,QH,QI,QJ,QK,QL,QM,Nat.reduceAdd,qy3,qy4,gK0,gK1,gK2];refine⟨λh1=>⟨by omega,λh2 w' hr=>⟨?_,hr.mod⟩,λh2=>⟨by omega,by omega,⟨i+1,x,rfl,by omega,λj hj=>?_⟩,by omega⟩⟩,λh1 w' hr=>⟨?_,hr.mod⟩⟩
 ·have e:=key i (by omega) h2;have:hasK l n=true:=by rw[hasK,<- e];exact decide_eq_true ⟨by omega,h2⟩
  rw[if_pos this,<- e]
 ·by_cases hji:j=i
  ·rw[hji];exact h2
  ·exact hno j (by omega)
 ·have:¬hasK l n=true:=λh=>by
   obtain⟨h3,h4⟩:=of_decide_eq_true h;exact hno (idx l n) (by omega) h4
  rw[if_neg this]
theorem Zq8(w:World)(u v:Value)(a b:List Kp)(hu:Z3o w u a)(hv:Z3o w v b)(hl:a.length<1000000000):Calls Tryz.prog 131 #[sc1 u,sc1 v] w λe w'=>e=.returned (.bool (decide (a=b)))/\Mod [] w w':=by
 refine Z1 (Z3 (J:=[.v u,.r (a.map encK),.v v,.r (b.map encK)]) sxE_ok Tryz.func131 Z5g rfl rfl (Rel.start2 (by simp[Ent.holds,Ent.wr,hu,hv,X.ev])) rfl rfl ?_) rfl;simp only[Tree.goal,X.P,X.ev,SV.ev,CV.ev,Sc.ev,qz,QA,QB,QC,QD,QE,QF,QG,QH,QI,QJ,QK,QL,QM,Nat.reduceAdd,qy3];refine⟨λh w' hr=>⟨?_,hr.mod⟩,λh=>?_⟩
 ·rw[decide_eq_false];intro e;rw[e]at h;exact h rfl
 ·have hlen:a.length=b.length:=by omega
  refine⟨λvs=>∃(i:Nat) (x:V),vs=[x,.i i]/\i<=a.length/\∀j,j<i->a.getD j kD=b.getD j kD,λvs=>a.length - (vs.getD 1 (.i 0)).toI.toNat,⟨0,_,rfl,by omega,λj hj=>by omega⟩,?_⟩;rintro _ - ⟨i,x,rfl,hi,hall⟩;simp only[Tree.goal,X.P,X.ev,SV.ev,CV.ev,Sc.ev,qz,QA,QB,QC,QD,QE,QF,QG,QH,QI,QJ,QK,QL,QM,Nat.reduceAdd,qy3,qy4,gK0,gK1,gK2];refine⟨λh7=>⟨by omega,by omega,λh8 w' hr=>⟨?_,hr.mod⟩,λh8=>⟨by omega,by omega,⟨i+1,x,rfl,by omega,λj hj=>?_⟩,by omega⟩⟩,λh7 w' hr=>⟨?_,hr.mod⟩⟩
  ·rw[decide_eq_false];intro e;rw[e]at h8;exact h8 ⟨rfl,rfl,rfl⟩
  ·by_cases hji:j=i
   ·subst hji;have h9:=qy9.1 h8;exact Prod.ext h9.1 (Prod.ext h9.2.1 h9.2.2)
   ·exact hall j (by omega)
  ·rw[decide_eq_true];refine List.ext_getElem? λj=>?_;by_cases hj:j<a.length
   ·have:=hall j (by omega);rw[qy1,qy1,qy7 hj,qy7 (by omega)]at this;rw[qy7 hj,qy7 (by omega)];simpa using this
   ·rw[List.getElem?_eq_none (by omega),List.getElem?_eq_none (by omega)]
theorem Zgm(p:Kp->Bool)(l:List Kp)(i:Nat)(h:i<l.length):(l.take (i+1)).filter p=(l.take i).filter p++(if p (l.getD i kD)=true then[l.getD i kD]else[]):=by rw[Z128 l i h,List.filter_append,List.filter_cons,List.filter_nil]
theorem Zib{R l:List Kp}{j:Nat}(h:R.drop j=l.drop j):R.getD j kD=l.getD j kD:=by
 have e:∀q:List Kp,q.getD j kD=(q.drop j).getD 0 kD:=λq=>by simp[qy1]
 rw[e R,e l,h]
theorem Zth{R:List Kp}{m:Nat}{x:Kp}(h:m<R.length):(R.set m x).take (m+1)=R.take m++[x]:=by
 rw[List.take_set,Z128 R m h,List.set_append_right _ _ (by simp;omega)];have:m - (R.take m).length=0:=by simp;omega
 rw[this];rfl
theorem Zti{R:List Kp}{m j:Nat}{x:Kp}(h:m<j):(R.set m x).drop j=R.drop j:=by rw[List.drop_set,if_pos h]
def gotL(w w':World)(e:Ending)(r:List Kp):Prop:=∃v',e=.returned (sc1 v')/\Z3o w' v' r/\newK w.heap.size v'/\Mod [] w w'
theorem Z153(w:World)(v:Value)(l:List Kp)(f:List UInt8)(hv:Z3o w v l)(hs:Z8s l)(hl:l.length<1000000000)(hf:f.length<4294967281):Calls Tryz.prog 159 #[sc1 v,.string ⟨f.toArray⟩] w λe w'=>gotL w w' e (l.filter (forF f)):=by
 refine Z1 (Z3 (J:=[.v v,.r (l.map encK),.s f]) sxE_ok Tryz.func159 Zht rfl rfl (Rel.start2 (by simp[Ent.holds,Ent.wr,hv,X.ev])) rfl rfl ?_) rfl;simp only[Tree.goal,X.P,X.ev,SV.ev,CV.ev,Sc.ev,qz,QA,QB,QC,QD,QE,QF,QG,QH,QI,QJ,QK,QL,QM,Nat.reduceAdd,qy3,qy4,gK0,gK1,gK2];intro b1 w1 hr;refine(Zda w1 v l (hr.at_ 2 rfl) (by omega)).mono ?_;rintro e w2 ⟨u,rfl,a1,f1,m1⟩;refine⟨[.v u,.r (l.map encK)],rfl,rfl,m1,qy5 _,qy2.2 ⟨⟨a1,λk hk=>.inl (f1 k hk)⟩,qy5 _⟩,Z5,?_⟩;clear hr a1 f1 m1;simp only[Tree.goal,X.P,X.ev,SV.ev,CV.ev,Sc.ev,qz,QA,QB,QC,QD,QE,QF,QG,QH,QI,QJ,QK,QL,QM,Nat.reduceAdd,qy3,qy4,gK0,gK1,gK2];refine⟨λvs=>∃(i:Nat) (x:V),vs=[x,.i i,.s f]/\i<=l.length/\(l.take i).filter (forF f)=l.take i,λvs=>l.length - (vs.getD 1 (.i 0)).toI.toNat,⟨0,_,rfl,by omega,by simp⟩,?_⟩;rintro _ - ⟨i,x,rfl,hi,hall⟩;simp only[Tree.goal,X.P,X.ev,SV.ev,CV.ev,Sc.ev,qz,QA,QB,QC,QD,QE,QF,QG,QH,QI,QJ,QK,QL,QM,Nat.reduceAdd,qy3,qy4,gK0,gK1,gK2];refine⟨λh1=>⟨by omega,λb2=>?_⟩,λh1 w3 hr=>?_⟩
 ·refine⟨[.b (forF f (l.getD i kD))],rfl,λ_ w' _=>Z11x w' f _ hf (Z7v hs i),?_⟩;simp only[Tree.goal,X.P,X.ev,SV.ev,CV.ev,Sc.ev,qz,QA,QB,QC,QD,QE,QF,QG,QH,QI,QJ,QK,QL,QM,Nat.reduceAdd,qy3,qy4,gK0,gK1,gK2];have hsn:=Zgm (forF f) l i (by omega);refine⟨λh2=>⟨λh3=>absurd h3 (by omega),λh3=>⟨by omega,by omega,?_⟩⟩,λh2=>⟨by omega,by omega,⟨i+1,x,rfl,by omega,?_⟩,by omega⟩⟩
  ·rw[if_neg h2,List.append_nil]at hsn;refine⟨λvs=>∃(m j:Nat) (R:List Kp),vs=[.i m,.i j,.r (R.map encK),.s f]/\R.length=l.length/\m<j/\j<=l.length/\R.take m=(l.take j).filter (forF f)/\R.drop j=l.drop j,λvs=>l.length - (vs.getD 1 (.i 0)).toI.toNat,⟨i,i+1,l,rfl,rfl,by omega,by omega,by rw[hsn,hall],rfl⟩,?_⟩;rintro _ - ⟨m,j,R,rfl,hRl,hmj,hj,htk,hdr⟩;simp only[Tree.goal,X.P,X.ev,SV.ev,CV.ev,Sc.ev,qz,QA,QB,QC,QD,QE,QF,QG,QH,QI,QJ,QK,QL,QM,Nat.reduceAdd,qy3,qy4,gK0,gK1,gK2];refine⟨λh4=>⟨by omega,λb8 b9=>?_⟩,λh4=>?_⟩
   ·have hsn:=Zgm (forF f) l j (by omega);have hRj:=Zib hdr;have hdr1:R.drop (j+1)=l.drop (j+1):=by rw[<- List.drop_drop,<- List.drop_drop,hdr]
    rw[hRj];refine⟨[.b (forF f (l.getD j kD))],rfl,λ_ w' _=>Z11x w' f _ hf (Z7v hs j),?_⟩;simp only[Tree.goal,X.P,X.ev,SV.ev,CV.ev,Sc.ev,qz,QA,QB,QC,QD,QE,QF,QG,QH,QI,QJ,QK,QL,QM,Nat.reduceAdd,qy3,qy4,gK0,gK1,gK2,hRj];refine⟨λh5=>?_,λh5=>?_⟩
    ·rw[if_pos h5]at hsn;refine⟨by omega,by omega,by omega,by omega,by omega,by omega,⟨m+1,j+1,R.set m (l.getD j kD),?_,by simpa using hRl,by omega,by omega,?_,?_⟩,by omega⟩
     ·rw[<- Zbm];rfl
     ·rw[Zth (by omega),htk,hsn]
     ·rw[Zti (by omega),hdr1]
    ·rw[if_neg h5,List.append_nil]at hsn;exact⟨by omega,by omega,⟨m,j+1,R,rfl,hRl,by omega,by omega,by rw[htk,hsn],hdr1⟩,by omega⟩
   ·have:j=l.length:=by omega
    subst this;rw[List.take_length]at htk;refine⟨by omega,by omega,?_,λv9 w5 hr=>?_⟩
    ·simp only[qy11,List.length_take,qy3,List.length_replicate];omega
    ·have e1:(List.take m (List.take m (R.map encK)++List.replicate (R.length - m) [Value.string ⟨[].toArray⟩,.string ⟨[].toArray⟩,.int .i64 0]))=(l.filter (forF f)).map encK:=by
      rw[List.take_append_of_le_length (by simp;omega),List.take_take,Nat.min_self,<- List.map_take,htk]
     have h0:=(hr.at_ 0 rfl).reads;simp only[Tree.goal,X.P,X.ev,SV.ev,CV.ev,Sc.ev,qz,QA,QB,QC,QD,QE,QF,QG,QH,QI,QJ,QK,QL,QM,Nat.reduceAdd,qy3,qy4,gK0,gK1,gK2]at h0;refine⟨v9,rfl,?_,hr.fresh 0 rfl,hr.mod⟩;rw[Z3o,<- e1];exact h0
  ·have h2:forF f (l.getD i kD)=true:=qy9.1 h2;rw[hsn,hall,if_pos h2,Z128 l i (by omega)]
 ·have:i=l.length:=by omega
  subst this;rw[List.take_length]at hall;rw[hall];exact⟨u,rfl,(hr.at_ 1 rfl).reads,hr.fresh 1 rfl,hr.mod⟩
abbrev Ze:List UInt8->List UInt8->Bool:=Op.bytesLess
theorem Zah(a:List UInt8):Ze a []=false:=by cases a<;>rfl
theorem Z1j:∀a:List UInt8,Ze a a=false
 | []=>rfl
 | a::x=>by simp[Ze,Op.bytesLess,Z1j x,UInt8.lt_irrefl]
theorem Z1c:∀{a b c:List UInt8},Ze a b=true->Ze b c=true->Ze a c=true
 | _,[],_,h,_=>by rw[Zah]at h;cases h
 | _,_::_,[],_,h=>by rw[Zah]at h;cases h
 | [],_::_,_::_,_,_=>rfl
 | a::x,b::y,c::z,h1,h2=>by
  simp only[Ze,Op.bytesLess,Bool.or_eq_true,decide_eq_true_eq,Bool.and_eq_true,beq_iff_eq]at h1 h2⊢;rcases h1 with h1|⟨rfl,h1⟩
  ·rcases h2 with h2|⟨rfl,h2⟩
   ·exact .inl (UInt8.lt_trans h1 h2)
   ·exact .inl h1
  ·rcases h2 with h2|⟨rfl,h2⟩
   ·exact .inl h2
   ·exact .inr ⟨rfl,Z1c h1 h2⟩
theorem Zai:∀{a b:List UInt8},Ze a b=false->Ze b a=false->a=b
 | [],[],_,_=>rfl
 | [],_::_,h,_=>by cases h
 | _::_,[],_,h=>by cases h
 | a::x,b::y,h1,h2=>by
  simp only[Ze,Op.bytesLess,Bool.or_eq_false_iff,decide_eq_false_iff_not,Bool.and_eq_false_iff,beq_eq_false_iff_ne]at h1 h2;have hab:a=b:=by
   rcases Nat.lt_trichotomy a.toNat b.toNat with h|h|h
   ·exact absurd (UInt8.lt_iff_toNat_lt.2 h) h1.1
   ·exact UInt8.toNat_inj.1 h
   ·exact absurd (UInt8.lt_iff_toNat_lt.2 h) h2.1
  subst hab;rw[Zai (h1.2.resolve_left (by simp)) (h2.2.resolve_left (by simp))]
theorem Z4a{a b:List UInt8}(h:Ze a b=true):Ze b a=false:=by
 cases h2:Ze b a with
 | false=>rfl
 | true=>have:=Z1c h h2;rw[Z1j]at this;cases this
theorem Zdc{a b:List UInt8}(h:Ze a b=true):a≠b:=by rintro rfl;rw[Z1j]at h;cases h
theorem Z7w{a b:List UInt8}:Ze a b=false↔(Ze b a=true\/b=a):=by
 constructor
 ·intro h;cases h2:Ze b a with
  | true=>exact .inl rfl
  | false=>exact .inr (Zai h2 h)
 ·rintro(h|rfl)
  ·exact Z4a h
  ·exact Z1j _
def Z34(a b:List UInt8):Int:=if Ze a b=true then -1 else if a=b then 0 else 1
theorem Zer:∀a b:List UInt8,Go.Lib.compareBytes a b=Z34 a b
 | [],[]=>rfl
 | [],_::_=>rfl
 | a::x,[]=>by simp[Z34,Go.Lib.compareBytes,Zah]
 | a::x,b::y=>by
  have ih:=Zer x y;rw[Go.Lib.compareBytes,ih];unfold Z34;simp only[Ze,Op.bytesLess,Bool.or_eq_true,decide_eq_true_eq,Bool.and_eq_true,beq_iff_eq,List.cons.injEq];by_cases h1:a<b
  ·simp[h1]
  ·by_cases h2:b<a
   ·have hne:a≠b:=by rintro rfl;exact h1 h2
    simp[h1,h2,hne]
   ·have hab:a=b:=by
     rcases Nat.lt_trichotomy a.toNat b.toNat with h|h|h
     ·exact absurd (UInt8.lt_iff_toNat_lt.2 h) h1
     ·exact UInt8.toNat_inj.1 h
     ·exact absurd (UInt8.lt_iff_toNat_lt.2 h) h2
    subst hab;simp[UInt8.lt_irrefl]
theorem Zaj{a b:List UInt8}:Z34 a b<0↔Ze a b=true:=by
 unfold Z34;split
 ·simp[*]
 ·rename_i h;have h:Ze a b=false:=by simpa using h
  split<;>simp[h]
theorem Z38{a b:List UInt8}:Z34 a b=0↔a=b:=by
 unfold Z34;split
 ·rename_i h;simp only[show ¬((-1:Int)=0) by decide,false_iff];exact Zdc h
 ·split<;>simp[*]
theorem Z6v(w:World)(a b:List UInt8):Calls Tryz.prog 127 #[.string ⟨a.toArray⟩,.string ⟨b.toArray⟩] w λe w'=>e=.returned (.int .i64 (Z34 a b))/\Mod [] w w':=by refine(Any.strings_Compare Tryz.lays106 ⟨a.toArray⟩ ⟨b.toArray⟩ w).mono ?_;rintro e w' ⟨rfl,rfl⟩;rw[Zer];exact⟨rfl,Mod.refl _ _⟩
