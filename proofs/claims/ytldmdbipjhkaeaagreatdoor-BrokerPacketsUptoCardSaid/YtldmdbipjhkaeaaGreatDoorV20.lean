/- By an AI agent. -/
import Derived.Test.YtldmdbipjhkaeaaGreatDoorV11
import Derived.Test.YtldmdbipjhkaeaaGreatDoorV08
import Derived.Test.YtldmdbipjhkaeaaGreatDoorV12
import Derived.Test.YtldmdbipjhkaeaaGreatDoorV19
set_option linter.all false
set_option maxHeartbeats 20000000
namespace Go.Proofs.Y
open Go.Sx
theorem Zdg(w:World)(s:List UInt8)(hs:s.length<1099511627776):Calls Tryz.prog 8 #[.string ⟨s.toArray⟩] w λe w'=>e=.returned (.bool (cliB s))/\Mod [] w w':=by refine Z1 (Z9 (J:=[.s s]) sxE_ok Tryz.func8 Z2q rfl rfl rfl ?_) rfl;simp only[Tree.goal,X.P,X.ev,SV.ev,CV.ev,Sc.ev,qz,QA,QB,QC,QD,QE,QF,QG,QH,QI,QJ,QK,QL,QM,Nat.reduceAdd];refine⟨[.b (Z1v s)],rfl,λ_ w' _=>Zfd w' s hs,?_⟩;simp only[Tree.goal,X.P,X.ev,SV.ev,CV.ev,Sc.ev,qz,QA,QB,QC,QD,QE,QF,QG,QH,QI,QJ,QK,QL,QM,Nat.reduceAdd];exact λw' hr=>⟨by simp[cliB],hr.mod⟩
open Go
theorem Zs2(w:World)(x:Wt)(hs:smW x):Calls Tryz.prog 99 #[.string ⟨x.1.toArray⟩,.agg #[.string ⟨x.2.1.toArray⟩,.int .i64 x.2.2]] w λe w'=>e=.returned (.int .i64 (Z33 x))/\Mod [] w w':=by
  have h1:=hs.1;have h2:=hs.2;refine Z1 (Z9 (J:=[.s x.1,.s x.2.1,.i x.2.2]) sxE_ok Tryz.func99 Z69 rfl rfl rfl ?_) rfl;simp only[Tree.goal,X.P,X.ev,SV.ev,CV.ev,Sc.ev,qz,QA,QB,QC,QD,QE,QF,QG,QH,QI,QJ,QK,QL,QM,Nat.reduceAdd];intro b1;refine⟨[.b (cliB x.1)],rfl,λ_ w' _=>Zdg w' _ (by omega),?_⟩;simp only[Tree.goal,X.P,X.ev,SV.ev,CV.ev,Sc.ev,qz,QA,QB,QC,QD,QE,QF,QG,QH,QI,QJ,QK,QL,QM,Nat.reduceAdd];refine⟨λh w' hr=>⟨by rw[Z33,if_neg h],hr.mod⟩,λh=>?_⟩;have h:=qy9.1 h;refine⟨[.i (chkT x.2.1 true)],rfl,λ_ w' _=>Z32 w' _ true (by omega),?_⟩;simp only[Tree.goal,X.P,X.ev,SV.ev,CV.ev,Sc.ev,qz,QA,QB,QC,QD,QE,QF,QG,QH,QI,QJ,QK,QL,QM,Nat.reduceAdd];have e:Z33 x=askE (x.2.1,x.2.2):=by rw[Z33,if_pos h]
  refine⟨λh3=>⟨λh4 w' hr=>⟨?_,hr.mod⟩,λh4 w' hr=>⟨?_,hr.mod⟩⟩,λh3 w' hr=>⟨?_,hr.mod⟩⟩
  . rw[e,askE];simp only;rw[if_pos h3,if_neg h4]
  . rw[e,askE];simp only;rw[if_pos h3,if_pos (qy9.1 h4),h3]
  . rw[e,askE];simp only;rw[if_neg h3]
theorem Z95(w:World)(a b:Wt)(ha:smW a):Calls Tryz.prog 100 #[wV a,wV b] w λe w'=>e=.returned (.bool (ltP (ky a) (ky b)))/\Mod [] w w':=by
  have h1:=ha.1;have h2:=ha.2;refine Z1 (Z9 (J:=[.s a.1,.s a.2.1,.i a.2.2,.s b.1,.s b.2.1,.i b.2.2]) sxE_ok Tryz.func100 Z67 rfl rfl rfl ?_) rfl;simp only[Tree.goal,X.P,X.ev,SV.ev,CV.ev,Sc.ev,qz,QA,QB,QC,QD,QE,QF,QG,QH,QI,QJ,QK,QL,QM,Nat.reduceAdd];intro b1 b2;refine⟨λh=>?_,λh=>?_⟩
  . refine⟨[.b (Zd a.1 b.1)],rfl,λ_ w' _=>Z35 w' _ _ (by omega),?_⟩;simp only[Tree.goal,X.P,X.ev,SV.ev,CV.ev,Sc.ev,qz,QA,QB,QC,QD,QE,QF,QG,QH,QI,QJ,QK,QL,QM,Nat.reduceAdd];refine λw' hr=>⟨?_,hr.mod⟩
    simp[ltP,ky,h]
  . have h:=qy9.1 h;refine⟨[.b (Zd a.2.1 b.2.1)],rfl,λ_ w' _=>Z35 w' _ _ (by omega),?_⟩;simp only[Tree.goal,X.P,X.ev,SV.ev,CV.ev,Sc.ev,qz,QA,QB,QC,QD,QE,QF,QG,QH,QI,QJ,QK,QL,QM,Nat.reduceAdd];refine λw' hr=>⟨?_,hr.mod⟩
    simp[ltP,ky,h,Z1o]
theorem Zmd(w:World)(v:Value)(l:List Wt)(hv:Z1k w v l)(hs:Z1y l)(hl:l.length<1000000000):Calls Tryz.prog 26 #[sc1 v] w λe w'=>e=.returned (.int .i64 (Zj l))/\Mod [] w w':=by
  refine Z1 (Z3 (J:=[.v v,.r (l.map Z7)]) sxE_ok Tryz.func26 Z56 rfl rfl (Rel.start2 (by simp[Ent.holds,Ent.wr,hv,X.ev])) rfl rfl ?_) rfl;simp only[Tree.goal,X.P,X.ev,SV.ev,CV.ev,Sc.ev,qz,QA,QB,QC,QD,QE,QF,QG,QH,QI,QJ,QK,QL,QM,Nat.reduceAdd,qy3,qy4,Z10,Z13,Z1n,gY0,gY1];refine⟨λh w' hr=>⟨by rw[Zj,if_pos h],hr.mod⟩,λh=>?_⟩;rw[Zj,if_neg h];refine⟨λvs=>∃(i:Nat) (x:V),vs=[x,.i i]/\i<=l.length/\Zdw (Zrk l i) (l.drop i)=Zdw none l,λvs=>l.length - (vs.getD 1 (.i 0)).toI.toNat,⟨0,_,rfl,by omega,rfl⟩,?_⟩;rintro _ - ⟨i,x,rfl,hi,hg⟩;simp only[Tree.goal,X.P,X.ev,SV.ev,CV.ev,Sc.ev,qz,QA,QB,QC,QD,QE,QF,QG,QH,QI,QJ,QK,QL,QM,Nat.reduceAdd,qy3,qy4,Z10,Z13,Z1n,gY0,gY1];have hi1:((i:Int) - 1).toNat=i - 1:=by omega
  try rw[hi1]
  refine⟨λh1=>⟨by omega,?_⟩,λh1 w' hr=>⟨?_,hr.mod⟩⟩
  . rw[Zhz (by omega)]at hg;refine⟨[.i (Z33 (l.getD i wD_V))],rfl,λ_ w' _=>Zs2 w' _ (Z7l hs i),?_⟩;simp only[Tree.goal,X.P,X.ev,SV.ev,CV.ev,Sc.ev,qz,QA,QB,QC,QD,QE,QF,QG,QH,QI,QJ,QK,QL,QM,Nat.reduceAdd,qy3,qy4,Z10,Z13,Z1n,gY0,gY1];try rw[hi1]
    refine⟨λh2 w' hr=>⟨?_,hr.mod⟩,λh2=>⟨by omega,by omega,by omega,by omega,?_⟩⟩
    . rw[if_pos h2]at hg;rw[<- hg]
    . rw[if_neg h2]at hg;refine⟨[.b (ltP (ky (l.getD (i - 1) wD_V)) (ky (l.getD i wD_V)))],rfl,λ_ w' _=>Z95 w' (l.getD (i - 1) wD_V) (l.getD i wD_V) (Z7l hs (i - 1)),?_⟩;simp only[Tree.goal,X.P,X.ev,SV.ev,CV.ev,Sc.ev,qz,QA,QB,QC,QD,QE,QF,QG,QH,QI,QJ,QK,QL,QM,Nat.reduceAdd];simp only[Zup]at hg;refine⟨λh6 w' hr=>⟨?_,hr.mod⟩,λh6=>⟨by omega,by omega,⟨i+1,x,rfl,by omega,?_⟩,by omega⟩⟩
      . rw[if_pos ⟨h6.1,by simpa using h6.2⟩]at hg;rw[<- hg]
      . rw[if_neg (λh7=>h6 ⟨h7.1,by simpa using h7.2⟩)]at hg;exact hg
  . have:i=l.length:=by omega
    subst this;rw[List.drop_length]at hg;rw[<- hg];rfl
theorem Zwy(R:List Wt)(x:Wt):R.map Z7++[[.string ⟨x.1.toArray⟩,.string ⟨x.2.1.toArray⟩,.int .i64 x.2.2]]=(R++[x]).map Z7:=by simp[Z7]
theorem Z96(w:World)(v:Value)(l:List Wt)(c f:List UInt8)(hv:Z1k w v l)(hl:l.length<1000000000):Calls Tryz.prog 45 #[sc1 v,.string ⟨c.toArray⟩,.string ⟨f.toArray⟩] w λe w'=>∃v',e=.returned (sc1 v')/\Z9x w' v' (l.filter λw=>decide (¬(w.1=c/\w.2.1=f)))/\newW w.heap.size v'/\Mod [] w w':=by
  refine Z1 (Z3 (J:=[.v v,.r (l.map Z7),.s c,.s f]) sxE_ok Tryz.func45 Z6b rfl rfl (Rel.start2 (by simp[Ent.holds,Ent.wr,hv,X.ev])) rfl rfl ?_) rfl;simp only[Tree.goal,X.P,X.ev,SV.ev,CV.ev,Sc.ev,qz,QA,QB,QC,QD,QE,QF,QG,QH,QI,QJ,QK,QL,QM,Nat.reduceAdd,qy3,qy4,Z10,Z13,Z1n,gY0,gY1];generalize hkp:(λw:Wt=>decide (¬(w.1=c/\w.2.1=f)))=kp
  have kp0:∀x:Wt,x.1=c/\x.2.1=f->¬kp x=true:=λx hx=>by rw[<- hkp];simp[hx]
  have kp1:∀x:Wt,¬(x.1=c/\x.2.1=f)->kp x=true:=λx hx=>by rw[<- hkp];exact decide_eq_true hx
  refine⟨λvs=>∃(i:Nat) (u:Value),vs=[.v u,.r (((l.take i).filter kp).map Z7),.i i]/\i<=l.length,λvs=>(l.length - (vs.getD 2 (.i 0)).toI).toNat,⟨0,_,rfl,by omega⟩,?_⟩;rintro _ - ⟨i,u,rfl,hi⟩;have hfl:((l.take i).filter kp).length<=l.length:=Nat.le_trans (List.length_filter_le _ _) (by rw[List.length_take];omega);simp only[Tree.goal,X.P,X.ev,SV.ev,CV.ev,Sc.ev,qz,QA,QB,QC,QD,QE,QF,QG,QH,QI,QJ,QK,QL,QM,Nat.reduceAdd,qy3,qy4,Z10,Z13,Z1n,gY0,gY1];refine⟨λh1=>?_,λh1 w' hr=>?_⟩
  . (repeat refine⟨by omega,?_⟩)
    refine⟨λh2 v1=>⟨by simp;omega,λv2=>⟨by omega,by omega,⟨i+1,v2,?_,by omega⟩,by omega⟩⟩,λh2=>⟨by omega,by omega,⟨i+1,u,?_,by omega⟩,by omega⟩⟩
    . rw[Z2f kp l i (by omega),if_pos (kp1 _ (λh=>h2.elim (λh3=>h3 h.1) (λh3=>h3 h.2))),<- Zwy];rfl
    . rw[Z2f kp l i (by omega),if_neg (kp0 _ ⟨qy9.1 λh=>h2 (.inl h),qy9.1 λh=>h2 (.inr h)⟩),List.append_nil];rfl
  . (have hie:i=l.length:=by omega);subst hie;rw[List.take_length]at hr
    exact⟨u,rfl,hr.at_ 0 rfl,hr.fresh 0 rfl,hr.mod⟩
theorem Zdh(w:World)(v:Value)(l:List Wt)(c:List UInt8)(hv:Z1k w v l)(hl:l.length<1000000000):Calls Tryz.prog 47 #[sc1 v,.string ⟨c.toArray⟩] w λe w'=>∃v',e=.returned (sc1 v')/\Z9x w' v' (l.filter λw=>decide (¬w.1=c))/\newW w.heap.size v'/\Mod [] w w':=by
  refine Z1 (Z3 (J:=[.v v,.r (l.map Z7),.s c]) sxE_ok Tryz.func47 Z54 rfl rfl (Rel.start2 (by simp[Ent.holds,Ent.wr,hv,X.ev])) rfl rfl ?_) rfl;simp only[Tree.goal,X.P,X.ev,SV.ev,CV.ev,Sc.ev,qz,QA,QB,QC,QD,QE,QF,QG,QH,QI,QJ,QK,QL,QM,Nat.reduceAdd,qy3,qy4,Z10,Z13,Z1n,gY0,gY1];generalize hkp:(λw:Wt=>decide (¬w.1=c))=kp
  have kp0:∀x:Wt,x.1=c->¬kp x=true:=λx hx=>by rw[<- hkp];simp[hx]
  have kp1:∀x:Wt,¬x.1=c->kp x=true:=λx hx=>by rw[<- hkp];simp[hx]
  refine⟨λvs=>∃(i:Nat) (u:Value),vs=[.v u,.r (((l.take i).filter kp).map Z7),.i i]/\i<=l.length,λvs=>(l.length - (vs.getD 2 (.i 0)).toI).toNat,⟨0,_,rfl,by omega⟩,?_⟩;rintro _ - ⟨i,u,rfl,hi⟩;have hfl:((l.take i).filter kp).length<=l.length:=Nat.le_trans (List.length_filter_le _ _) (by rw[List.length_take];omega);simp only[Tree.goal,X.P,X.ev,SV.ev,CV.ev,Sc.ev,qz,QA,QB,QC,QD,QE,QF,QG,QH,QI,QJ,QK,QL,QM,Nat.reduceAdd,qy3,qy4,Z10,Z13,Z1n,gY0,gY1];refine⟨λh1=>?_,λh1 w' hr=>?_⟩
  . (repeat refine⟨by omega,?_⟩)
    refine⟨λh2 v1=>⟨by simp;omega,λv2=>⟨by omega,by omega,⟨i+1,v2,?_,by omega⟩,by omega⟩⟩,λh2=>⟨by omega,by omega,⟨i+1,u,?_,by omega⟩,by omega⟩⟩
    . rw[Z2f kp l i (by omega),if_pos (kp1 _ h2),<- Zwy];rfl
    . rw[Z2f kp l i (by omega),if_neg (kp0 _ (qy9.1 h2)),List.append_nil];rfl
  . (have hie:i=l.length:=by omega);subst hie;rw[List.take_length]at hr
    exact⟨u,rfl,hr.at_ 0 rfl,hr.fresh 0 rfl,hr.mod⟩
theorem Zkb{d:List Wt}{x:Wt}{j:Nat}(h0:0<j)(hj:j<=d.length) : ((d.take j++[x]++d.drop j).set j ((d.take j++[x]++d.drop j).getD (j - 1) wD_V)).set (j - 1) ((d.take j++[x]++d.drop j).getD j wD_V)=d.take (j - 1)++[x]++d.drop (j - 1):=by
  obtain⟨k,rfl⟩:∃k,j=k+1:=⟨j - 1,by omega⟩
  have e1:=Zfu d k (by omega);have e2:=Zft d k (by omega);have lk:(d.take k).length=k:=by simp;omega
  rw[Nat.add_sub_cancel];generalize d.getD k wD_V=y at e1 e2
  generalize d.take k=A at e1 e2 lk⊢
  generalize d.drop (k+1)=B at e2
  subst lk;rw[e1,e2];have g1:(A++[y]++[x]++B).getD A.length wD_V=y:=by simp[qy1]
  have g2:(A++[y]++[x]++B).getD (A.length+1) wD_V=x:=by simp[qy1,List.getElem?_append_right]
  rw[g1,g2];have s1:(A++[y]++[x]++B).set (A.length+1) y=A++[y,y]++B:=by simp[List.set_append_right]
  rw[s1];simp[List.set_append_right]
theorem Z5i{d:List Wt}{x:Wt}{j:Nat}(hj:j<=d.length):(d.take j++[x]++d.drop j).getD j wD_V=x:=by
  have lk:(d.take j).length=j:=by simp;omega
  rw[qy1,List.append_assoc,List.getElem?_append_right (by omega)];simp[lk]
theorem Z97{d:List Wt}{x:Wt}{j:Nat}(h0:0<j)(hj:j<=d.length):(d.take j++[x]++d.drop j).getD (j - 1) wD_V=d.getD (j - 1) wD_V:=by
  have lk:(d.take j).length=j:=by simp;omega
  rw[qy1,List.append_assoc,List.getElem?_append_left (by omega),List.getElem?_take_of_lt (by omega),qy1]
theorem Zih{l:List Wt}(x:Wt)(hs:Z7m l):(l.filter λw=>decide (¬(w.1=x.1/\w.2.1=x.2.1)))=loW l (ky x)++hiW l (ky x):=by
  have hk:∀w:Wt,decide (¬(w.1=x.1/\w.2.1=x.2.1))=!decide (ky w=ky x):=λw=>by
    by_cases h:ky w=ky x
    . have h1:w.1=x.1:=congrArg (λk:Ky=>k.1) h;have h2:w.2.1=x.2.1:=congrArg (λk:Ky=>k.2) h;simp[h,h1,h2]
    . have:¬(w.1=x.1/\w.2.1=x.2.1):=λh2=>h (Prod.ext h2.1 h2.2);simp only[this,not_false_eq_true,decide_true,h,decide_false,Bool.not_false]
  conv=>lhs;rw[(Zhs l (ky x) hs).1]
  rw[List.filter_append,List.filter_append];have q1:(loW l (ky x)).filter (λw=>decide (¬(w.1=x.1/\w.2.1=x.2.1)))=loW l (ky x):=Z8k λy hy=>by rw[hk];have:=Zhr (List.mem_filter.1 hy).2;simp[this]
  have q2:(miW l (ky x)).filter (λw=>decide (¬(w.1=x.1/\w.2.1=x.2.1)))=[]:=Z6u λy hy=>by rw[hk];have:=(List.mem_filter.1 hy).2;simp at this;simp[this]
  have q3:(hiW l (ky x)).filter (λw=>decide (¬(w.1=x.1/\w.2.1=x.2.1)))=hiW l (ky x):=Z8k λy hy=>by rw[hk];have:=Zhr (List.mem_filter.1 hy).2;simp[Ne.symm this]
  rw[q1,q2,q3,List.append_nil]
theorem Znx{l:List Wt}{x:Wt}(hs:Z7m l)(hl:l.length<=20):rawW l x=if 20<((loW l (ky x)++[x]++hiW l (ky x)).length:Int)then([],2)else(loW l (ky x)++[x]++hiW l (ky x),0):=by
  have hlen:=Zus (n:=ky x) hs;have hlo:idxW l (ky x)=(loW l (ky x)).length:=rfl;simp only[qy11,List.length_cons,List.length_nil];by_cases h0:(rawW l x).2=0
  . have e:=Zjp hs h0;rw[if_neg,<- e,<- h0];have:=congrArg List.length e;simp only[qy11,List.length_cons,List.length_nil]at this;have h2:(rawW l x).1.length<=20:=by
      unfold rawW at h0⊢;by_cases h1:hasW l (ky x)=true
      . rw[if_pos h1];simpa using hl
      . rw[if_neg h1]at h0⊢;by_cases h4:(l.length:Int)=20
        . rw[if_pos h4]at h0;exact absurd h0 (by decide)
        . rw[if_neg h4];have:=Zur l (ky x);simp;omega
    omega
  . unfold rawW at h0⊢;rcases Zpc (n:=ky x) hs with⟨h1,-⟩|⟨h1,h2⟩
    . rw[if_pos h1]at h0;exact absurd rfl h0
    . rw[if_neg (by rw[h1];decide)]at h0⊢;by_cases h4:(l.length:Int)=20
      . rw[if_pos h4,if_pos];rw[h2]at hlen;simp only[List.length_nil]at hlen;omega
      . rw[if_neg h4]at h0;exact absurd rfl h0
theorem Zny{lo hi:List Wt}{n:Ky}{j:Nat}(h1:∀y∈lo,ltP (ky y) n=true)(h2:∀y∈hi,ltP n (ky y)=true)(hj:j<=(lo++hi).length)(h3:∀y∈(lo++hi).take j,ltP (ky y) n=true)(h4:∀y∈(lo++hi).drop j,ltP n (ky y)=true):(lo++hi).take j=lo/\(lo++hi).drop j=hi:=by
  have f1:(lo++hi).filter (λy=>ltP (ky y) n)=lo:=by rw[List.filter_append,Z8k h1,Z6u λy hy=>Zbd (h2 y hy),List.append_nil]
  have f2:(lo++hi).filter (λy=>ltP (ky y) n)=(lo++hi).take j:=by
    conv=>lhs;rw[<- List.take_append_drop j (lo++hi)]
    rw[List.filter_append,Z8k h3,Z6u λy hy=>Zbd (h4 y hy),List.append_nil]
  have e:=f2.symm.trans f1;refine⟨e,?_⟩;have:=List.take_append_drop j (lo++hi);rw[e]at this;exact List.append_cancel_left this
theorem Znz{l:List Wt}{x:Wt}(hs:Z7m l){j:Nat}(hj:j<=(loW l (ky x)++hiW l (ky x)).length) (h6:¬(0<(j:Int)/\ltP (ky (((loW l (ky x)++hiW l (ky x)).take j++[x]++(loW l (ky x)++hiW l (ky x)).drop j).getD j wD_V)) (ky (((loW l (ky x)++hiW l (ky x)).take j++[x]++(loW l (ky x)++hiW l (ky x)).drop j).getD (j - 1) wD_V))=true)) : ∀y∈(loW l (ky x)++hiW l (ky x)).take j,ltP (ky y) (ky x)=true:=by
  have hsd:Z7m (loW l (ky x)++hiW l (ky x)):=by rw[<- Zih x hs];exact hs.filter _
  have hne:∀y∈loW l (ky x)++hiW l (ky x),ky y≠ky x:=λy hy=>by
    rcases qy13.1 hy with hy|hy
    . exact Zhr (List.mem_filter.1 hy).2
    . exact(Zhr (List.mem_filter.1 hy).2).symm
  generalize loW l (ky x)++hiW l (ky x)=d at *
  intro y hy;rcases Nat.eq_zero_or_pos j with rfl|h0
  . simp at hy
  rw[Z5i hj,Z97 h0 hj]at h6;have h7:ltP (ky x) (ky (d.getD (j - 1) wD_V))=false:=by
    cases h:ltP (ky x) (ky (d.getD (j - 1) wD_V))with
    | false=>rfl
    | true=>exact absurd ⟨by omega,h⟩ h6
  have h8:ltP (ky (d.getD (j - 1) wD_V)) (ky x)=true:=by
    rcases Zn9.1 h7 with h|h
    . exact h
    . exact absurd h (hne _ (memW d (j - 1) (by omega)))
  obtain⟨i,hi,rfl⟩:=List.getElem_of_mem hy;rw[List.length_take]at hi;rw[List.getElem_take];by_cases hij:i=j - 1
  . subst hij;rwa [qy1,qy7 (by omega)]at h8
  . have:=Zjl hsd (i:=i) (j:=j - 1) (by omega) (by omega);have h9:=Z5c this h8;rwa [qy1,qy7 (by omega)]at h9
theorem Zwz(w:World)(v:Value)(l:List Wt)(x:Wt)(hv:Z1k w v l)(hs:Z7m l)(hl:l.length<=20)(hx:smW x):Calls Tryz.prog 43 #[sc1 v,wV x] w λe w'=>Z11q w w' e (rawW l x).1 (rawW l x).2:=by
  refine Z1 (Z3 (J:=[.v v,.r (l.map Z7),.s x.1,.s x.2.1,.i x.2.2]) sxE_ok Tryz.func43 Z6o rfl rfl (Rel.start2 (by simp[Ent.holds,Ent.wr,hv,X.ev])) rfl rfl ?_) rfl;have hd0:=Zih x hs;have hdl:(loW l (ky x)++hiW l (ky x)).length<=20:=by rw[<- hd0];exact Nat.le_trans (List.length_filter_le _ _) hl
  generalize hd:loW l (ky x)++hiW l (ky x)=d at hd0 hdl
  replace hd:=hd.symm;simp only[Tree.goal,X.P,X.ev,SV.ev,CV.ev,Sc.ev,qz,QA,QB,QC,QD,QE,QF,QG,QH,QI,QJ,QK,QL,QM,Nat.reduceAdd,qy3,qy4,Z10,Z13,Z1n,gY0,gY1];intro b1;refine⟨?_,?_,?_⟩
  . intro w1 hr;refine(Z96 w1 v l x.1 x.2.1 (by(have hq:=hr;repeat (first|exact hq.hd|replace hq:=hq.tl))) (by omega)).mono ?_;rw[hd0];rintro e w2 ⟨v',rfl,g1,g2,gm⟩;refine⟨[.v v',.r (d.map Z7)],rfl,rfl,gm,qy5 _,qy2.2 ⟨⟨g1,λk hk=>.inl (g2 k hk)⟩,qy5 _⟩,Z5,?_⟩;clear hr g1 g2 gm;simp only[Tree.goal,X.P,X.ev,SV.ev,CV.ev,Sc.ev,qz,QA,QB,QC,QD,QE,QF,QG,QH,QI,QJ,QK,QL,QM,Nat.reduceAdd,qy3,qy4,Z10,Z13,Z1n,gY0,gY1];intro u1;refine⟨by first|omega|(simp only[qy11,qy3,List.length_cons,List.length_nil];omega),λu2=>⟨by first|omega|(simp only[qy11,qy3,List.length_cons,List.length_nil];omega),by first|omega|(simp only[qy11,qy3,List.length_cons,List.length_nil];omega),?_⟩⟩;refine⟨λvs=>∃j:Nat,vs=[.i j,.r ((d.take j++[x]++d.drop j).map Z7)]/\j<=d.length/\∀y∈d.drop j,ltP (ky x) (ky y)=true,λvs=>(vs.getD 0 (.i 0)).toI.toNat,⟨d.length,?_,Nat.le_refl _,?_⟩,?_⟩;(· rw[List.take_length,List.drop_length,List.append_nil,<- Zwy];congr 1;congr 1;simp only[qy11,qy3,List.length_cons,List.length_nil];omega);(· rw[List.drop_length];exact λy hy=>by cases hy);rintro _ - ⟨j,rfl,hj,hgt⟩;have hlR:(d.take j++[x]++d.drop j).length=d.length+1:=(by simp;omega);simp only[Tree.goal,X.P,X.ev,SV.ev,CV.ev,Sc.ev,qz,QA,QB,QC,QD,QE,QF,QG,QH,QI,QJ,QK,QL,QM,Nat.reduceAdd,qy3,qy4,Z10,Z13,Z1n,gY0,gY1,hlR];(have hj1:((j:Int) - 1).toNat=j - 1:=(by omega));(try rw[hj1]);(repeat refine⟨by omega,?_⟩);refine⟨[.b (ltP (ky ((d.take j++[x]++d.drop j).getD j wD_V)) (ky ((d.take j++[x]++d.drop j).getD (j - 1) wD_V)))],rfl,λh5 w' _=>Z95 w' ((d.take j++[x]++d.drop j).getD j wD_V) ((d.take j++[x]++d.drop j).getD (j - 1) wD_V) (by rw[Z5i hj];exact hx),?_⟩;simp only[Tree.goal,X.P,X.ev,SV.ev,CV.ev,Sc.ev,qz,QA,QB,QC,QD,QE,QF,QG,QH,QI,QJ,QK,QL,QM,Nat.reduceAdd,qy3,qy4,Z10,Z13,Z1n,gY0,gY1];(try rw[hj1]);refine⟨λh6=>?_,λh6=>?_⟩;(· (have h0:0<j:=by omega);(have h7:=h6.2);rw[Z5i hj,Z97 h0 hj]at h7;(repeat refine⟨by omega,?_⟩);refine⟨by rw[List.length_set,qy3,hlR];omega,⟨j - 1,?_,by omega,?_⟩,by omega⟩;(· rw[<- Zkb h0 hj,<- Z3q,<- Z3q];congr 1;congr 1;omega);(· intro y hy;obtain⟨k,rfl⟩:∃k,j=k+1:=⟨j - 1,by omega⟩;rw[Nat.add_sub_cancel]at hy h7;rw[Zft d k (by omega)]at hy;rcases List.mem_cons.1 hy with rfl|hy;(· exact h7);(· exact hgt y hy)));(· (have hpar:d.take j=loW l (ky x)/\d.drop j=hiW l (ky x):=by rw[hd]at hj hgt h6⊢;refine Zny (n:=ky x) (λy hy=>(List.mem_filter.1 hy).2) (λy hy=>(List.mem_filter.1 hy).2) hj (λy hy=>?_) hgt;exact Znz hs hj h6 y hy);rw[Znx hs hl,<- hpar.1,<- hpar.2,hlR];refine⟨λh8 w3 hr=>?_,λh8 w3 hr=>?_⟩;(· rw[if_pos h8];exact⟨_,rfl,Z3t _,Z8x _,hr.mod⟩);(· rw[if_neg h8];exact⟨u2,rfl,(hr.at_ 0 rfl).reads,hr.fresh 0 rfl,hr.mod⟩))
  . intro w1 hr;refine(Z96 w1 v l x.1 x.2.1 (by(have hq:=hr;repeat (first|exact hq.hd|replace hq:=hq.tl))) (by omega)).mono ?_;rw[hd0];rintro e w2 ⟨v',rfl,g1,g2,gm⟩;refine⟨[.v v',.r (d.map Z7)],rfl,rfl,gm,qy5 _,qy2.2 ⟨⟨g1,λk hk=>.inl (g2 k hk)⟩,qy5 _⟩,Z5,?_⟩;clear hr g1 g2 gm;simp only[Tree.goal,X.P,X.ev,SV.ev,CV.ev,Sc.ev,qz,QA,QB,QC,QD,QE,QF,QG,QH,QI,QJ,QK,QL,QM,Nat.reduceAdd,qy3,qy4,Z10,Z13,Z1n,gY0,gY1];intro u1;refine⟨by first|omega|(simp only[qy11,qy3,List.length_cons,List.length_nil];omega),λu2=>⟨by first|omega|(simp only[qy11,qy3,List.length_cons,List.length_nil];omega),by first|omega|(simp only[qy11,qy3,List.length_cons,List.length_nil];omega),?_⟩⟩;refine⟨λvs=>∃j:Nat,vs=[.i j,.r ((d.take j++[x]++d.drop j).map Z7)]/\j<=d.length/\∀y∈d.drop j,ltP (ky x) (ky y)=true,λvs=>(vs.getD 0 (.i 0)).toI.toNat,⟨d.length,?_,Nat.le_refl _,?_⟩,?_⟩;(· rw[List.take_length,List.drop_length,List.append_nil,<- Zwy];congr 1;congr 1;simp only[qy11,qy3,List.length_cons,List.length_nil];omega);(· rw[List.drop_length];exact λy hy=>by cases hy);rintro _ - ⟨j,rfl,hj,hgt⟩;have hlR:(d.take j++[x]++d.drop j).length=d.length+1:=(by simp;omega);simp only[Tree.goal,X.P,X.ev,SV.ev,CV.ev,Sc.ev,qz,QA,QB,QC,QD,QE,QF,QG,QH,QI,QJ,QK,QL,QM,Nat.reduceAdd,qy3,qy4,Z10,Z13,Z1n,gY0,gY1,hlR];(have hj1:((j:Int) - 1).toNat=j - 1:=(by omega));(try rw[hj1]);(repeat refine⟨by omega,?_⟩);refine⟨[.b (ltP (ky ((d.take j++[x]++d.drop j).getD j wD_V)) (ky ((d.take j++[x]++d.drop j).getD (j - 1) wD_V)))],rfl,λh5 w' _=>Z95 w' ((d.take j++[x]++d.drop j).getD j wD_V) ((d.take j++[x]++d.drop j).getD (j - 1) wD_V) (by rw[Z5i hj];exact hx),?_⟩;simp only[Tree.goal,X.P,X.ev,SV.ev,CV.ev,Sc.ev,qz,QA,QB,QC,QD,QE,QF,QG,QH,QI,QJ,QK,QL,QM,Nat.reduceAdd,qy3,qy4,Z10,Z13,Z1n,gY0,gY1];(try rw[hj1]);refine⟨λh6=>?_,λh6=>?_⟩;(· (have h0:0<j:=by omega);(have h7:=h6.2);rw[Z5i hj,Z97 h0 hj]at h7;(repeat refine⟨by omega,?_⟩);refine⟨by rw[List.length_set,qy3,hlR];omega,⟨j - 1,?_,by omega,?_⟩,by omega⟩;(· rw[<- Zkb h0 hj,<- Z3q,<- Z3q];congr 1;congr 1;omega);(· intro y hy;obtain⟨k,rfl⟩:∃k,j=k+1:=⟨j - 1,by omega⟩;rw[Nat.add_sub_cancel]at hy h7;rw[Zft d k (by omega)]at hy;rcases List.mem_cons.1 hy with rfl|hy;(· exact h7);(· exact hgt y hy)));(· (have hpar:d.take j=loW l (ky x)/\d.drop j=hiW l (ky x):=by rw[hd]at hj hgt h6⊢;refine Zny (n:=ky x) (λy hy=>(List.mem_filter.1 hy).2) (λy hy=>(List.mem_filter.1 hy).2) hj (λy hy=>?_) hgt;exact Znz hs hj h6 y hy);rw[Znx hs hl,<- hpar.1,<- hpar.2,hlR];refine⟨λh8 w3 hr=>?_,λh8 w3 hr=>?_⟩;(· rw[if_pos h8];exact⟨_,rfl,Z3t _,Z8x _,hr.mod⟩);(· rw[if_neg h8];exact⟨u2,rfl,(hr.at_ 0 rfl).reads,hr.fresh 0 rfl,hr.mod⟩))
  . intro u1 w1 hr;refine(Z96 w1 v l x.1 x.2.1 (by(have hq:=hr;repeat (first|exact hq.hd|replace hq:=hq.tl))) (by omega)).mono ?_;rw[hd0];rintro e w2 ⟨v',rfl,g1,g2,gm⟩;refine⟨[.v v',.r (d.map Z7)],rfl,rfl,gm,qy5 _,qy2.2 ⟨⟨g1,λk hk=>.inl (g2 k hk)⟩,qy5 _⟩,Z5,?_⟩;clear hr g1 g2 gm;simp only[Tree.goal,X.P,X.ev,SV.ev,CV.ev,Sc.ev,qz,QA,QB,QC,QD,QE,QF,QG,QH,QI,QJ,QK,QL,QM,Nat.reduceAdd,qy3,qy4,Z10,Z13,Z1n,gY0,gY1];refine⟨by first|omega|(simp only[qy11,qy3,List.length_cons,List.length_nil];omega),λu2=>⟨by first|omega|(simp only[qy11,qy3,List.length_cons,List.length_nil];omega),by first|omega|(simp only[qy11,qy3,List.length_cons,List.length_nil];omega),?_⟩⟩;refine⟨λvs=>∃j:Nat,vs=[.i j,.r ((d.take j++[x]++d.drop j).map Z7)]/\j<=d.length/\∀y∈d.drop j,ltP (ky x) (ky y)=true,λvs=>(vs.getD 0 (.i 0)).toI.toNat,⟨d.length,?_,Nat.le_refl _,?_⟩,?_⟩;(· rw[List.take_length,List.drop_length,List.append_nil,<- Zwy];congr 1;congr 1;simp only[qy11,qy3,List.length_cons,List.length_nil];omega);(· rw[List.drop_length];exact λy hy=>by cases hy);rintro _ - ⟨j,rfl,hj,hgt⟩;have hlR:(d.take j++[x]++d.drop j).length=d.length+1:=(by simp;omega);simp only[Tree.goal,X.P,X.ev,SV.ev,CV.ev,Sc.ev,qz,QA,QB,QC,QD,QE,QF,QG,QH,QI,QJ,QK,QL,QM,Nat.reduceAdd,qy3,qy4,Z10,Z13,Z1n,gY0,gY1,hlR];(have hj1:((j:Int) - 1).toNat=j - 1:=(by omega));(try rw[hj1]);(repeat refine⟨by omega,?_⟩);refine⟨[.b (ltP (ky ((d.take j++[x]++d.drop j).getD j wD_V)) (ky ((d.take j++[x]++d.drop j).getD (j - 1) wD_V)))],rfl,λh5 w' _=>Z95 w' ((d.take j++[x]++d.drop j).getD j wD_V) ((d.take j++[x]++d.drop j).getD (j - 1) wD_V) (by rw[Z5i hj];exact hx),?_⟩;simp only[Tree.goal,X.P,X.ev,SV.ev,CV.ev,Sc.ev,qz,QA,QB,QC,QD,QE,QF,QG,QH,QI,QJ,QK,QL,QM,Nat.reduceAdd,qy3,qy4,Z10,Z13,Z1n,gY0,gY1];(try rw[hj1]);refine⟨λh6=>?_,λh6=>?_⟩;(· (have h0:0<j:=by omega);(have h7:=h6.2);rw[Z5i hj,Z97 h0 hj]at h7;(repeat refine⟨by omega,?_⟩);refine⟨by rw[List.length_set,qy3,hlR];omega,⟨j - 1,?_,by omega,?_⟩,by omega⟩;(· rw[<- Zkb h0 hj,<- Z3q,<- Z3q];congr 1;congr 1;omega);(· intro y hy;obtain⟨k,rfl⟩:∃k,j=k+1:=⟨j - 1,by omega⟩;rw[Nat.add_sub_cancel]at hy h7;rw[Zft d k (by omega)]at hy;rcases List.mem_cons.1 hy with rfl|hy;(· exact h7);(· exact hgt y hy)));(· (have hpar:d.take j=loW l (ky x)/\d.drop j=hiW l (ky x):=by rw[hd]at hj hgt h6⊢;refine Zny (n:=ky x) (λy hy=>(List.mem_filter.1 hy).2) (λy hy=>(List.mem_filter.1 hy).2) hj (λy hy=>?_) hgt;exact Znz hs hj h6 y hy);rw[Znx hs hl,<- hpar.1,<- hpar.2,hlR];refine⟨λh8 w3 hr=>?_,λh8 w3 hr=>?_⟩;(· rw[if_pos h8];exact⟨_,rfl,Z3t _,Z8x _,hr.mod⟩);(· rw[if_neg h8];exact⟨u2,rfl,(hr.at_ 0 rfl).reads,hr.fresh 0 rfl,hr.mod⟩))
theorem Z18b(R:List Rd)(c:List UInt8)(q:Int):R.map encY++[[.string ⟨c.toArray⟩,.int .i64 q]]=(R++[(c,q)]).map encY:=by simp[encY]
theorem setY(R:List Rd)(m:Nat)(c:List UInt8)(q:Int):(R.map encY).set m [.string ⟨c.toArray⟩,.int .i64 q]=(R.set m (c,q)).map encY:=by rw[List.map_set];rfl
theorem Z112(n:List UInt8)(l:List Wt)(i:Nat)(h:i<l.length):rdF n [] (l.take (i+1))=if forW n (l.getD i wD_V)=true then addY (rdF n [] (l.take i)) (l.getD i wD_V)else rdF n [] (l.take i):=by rw[Zfu l i h,rdF,List.foldl_append];rfl
theorem Z113{out:List Rd}{w:Wt}(h:out.length=0\/¬(out.getD (out.length - 1) yD).1=w.1):addY out w=out++[(w.1,max 0 w.2.2)]:=by
 rcases List.eq_nil_or_concat out with rfl|⟨o,x,rfl⟩
 ·exact Zjm w
 ·rw[List.concat_eq_append]at *;rw[Zbf,if_neg];rcases h with h|h
  ·simp at h
  ·simpa[qy1]using h
theorem Z114{out:List Rd}{w:Wt}(h:¬(out.length=0\/¬(out.getD (out.length - 1) yD).1=w.1)):addY out w=out.set (out.length - 1) ((out.getD (out.length - 1) yD).1,max (out.getD (out.length - 1) yD).2 w.2.2):=by
 rcases List.eq_nil_or_concat out with rfl|⟨o,x,rfl⟩
 ·exact absurd (.inl rfl) h
 ·rw[List.concat_eq_append]at *;have h1:x.1=w.1:=qy9.1 λh2=>h (.inr (by simpa[qy1]using h2));rw[Zbf,if_pos h1];simp[qy1,List.set_append_right]
theorem Zo0(w:World)(v:Value)(l:List Wt)(n:List UInt8)(hv:Z1k w v l)(hs:Z1y l)(hl:l.length<1000000000)(hn:n.length<1000000000):Calls Tryz.prog 106 #[sc1 v,.string ⟨n.toArray⟩] w λe w'=>∃v',e=.returned (sc1 v')/\Zzg w' v' (rdOf n l)/\newW w.heap.size v'/\Mod [] w w':=by
 refine Z1 (Z3 (J:=[.v v,.r (l.map Z7),.s n]) sxE_ok Tryz.func106 Z5l rfl rfl (Rel.start2 (by simp[Ent.holds,Ent.wr,hv,X.ev])) rfl rfl ?_) rfl;simp only[Tree.goal,X.P,X.ev,SV.ev,CV.ev,Sc.ev,qz,QA,QB,QC,QD,QE,QF,QG,QH,QI,QJ,QK,QL,QM,Nat.reduceAdd,qy3,qy4,Z10,Z13,Z1n,gY0,gY1];refine⟨λvs=>∃(i:Nat) (u:Value),vs=[.v u,.r ((rdF n [] (l.take i)).map encY),.i i]/\i<=l.length,λvs=>(l.length - (vs.getD 2 (.i 0)).toI).toNat,⟨0,_,rfl,by omega⟩,?_⟩;rintro _ - ⟨i,u,rfl,hi⟩;have hlen:(rdF n [] (l.take i)).length<=i:=by have:=Zjn n (l.take i) [];rw[List.length_take]at this;simp only[List.length_nil]at this;omega
 simp only[Tree.goal,X.P,X.ev,SV.ev,CV.ev,Sc.ev,qz,QA,QB,QC,QD,QE,QF,QG,QH,QI,QJ,QK,QL,QM,Nat.reduceAdd,qy3,qy4,Z10,Z13,Z1n,gY0,gY1];refine⟨λh1=>⟨by omega,?_⟩,λh1 w' hr=>?_⟩
 ·have sx:=Z7l hs i;have hstep:=Z112 n l i (by omega);refine⟨[.b (forW n (l.getD i wD_V))],rfl,λ_ w' _=>Zu1 w' (l.getD i wD_V).2.1 n (by have:=sx.2;omega) (by omega),?_⟩;generalize rdF n [] (l.take i)=out at hlen hstep⊢
  generalize l.getD i wD_V=x at hstep⊢
  have k1:((out.length:Int) - 1).toNat=out.length - 1:=by omega
  have k2:((out.length:Int)+1 - 1).toNat=out.length:=by omega
  simp only[Tree.goal,X.P,X.ev,SV.ev,CV.ev,Sc.ev,qz,QA,QB,QC,QD,QE,QF,QG,QH,QI,QJ,QK,QL,QM,Nat.reduceAdd,qy3,qy4,Z10,Z13,Z1n,gY0,gY1,k1,k2,Z18b,setY];refine⟨λh2=>?_,λh2=>?_⟩
  ·(repeat refine⟨by omega,?_⟩)
   refine⟨⟨i+1,u,?_,by omega⟩,by omega⟩;rw[hstep,if_neg h2];rfl
  ·have h2:forW n x=true:=qy9.1 h2;rw[if_pos h2]at hstep
   (repeat refine⟨by omega,?_⟩)
   refine⟨λh3 v1=>⟨by first|omega|(simp only[qy11,qy3,List.length_cons,List.length_nil];omega),λv2=>?_⟩,λh3=>?_⟩
   ·have e:=Z113 (w:=x) (out:=out) (h3.imp (λh=>by omega) id);have g:(out++[(x.1,(0:Int))]).getD out.length yD=(x.1,0):=by simp[qy1]
    simp only[qy11,List.length_cons,List.length_nil,g]
    (repeat refine⟨by omega,?_⟩)
    refine⟨λh4=>?_,λh4=>?_⟩
    ·(repeat refine⟨by omega,?_⟩)
     refine⟨⟨i+1,v2,?_,by omega⟩,by omega⟩;rw[hstep,e,show max 0 x.2.2=x.2.2 by omega];simp[List.set_append_right]
    ·(repeat refine⟨by omega,?_⟩)
     refine⟨⟨i+1,v2,?_,by omega⟩,by omega⟩;rw[hstep,e,show max 0 x.2.2=0 by omega];rfl
   ·have h3':¬(out.length=0\/¬(out.getD (out.length - 1) yD).1=x.1):=λh=>h3 (h.imp (λh=>by omega) id);have e:=Z114 (w:=x) (out:=out) h3';have hpos:0<out.length:=Nat.pos_of_ne_zero λh=>h3' (.inl h)
    (repeat refine⟨by omega,?_⟩)
    refine⟨λh4=>?_,λh4=>?_⟩
    ·(repeat refine⟨by omega,?_⟩)
     refine⟨⟨i+1,u,?_,by omega⟩,by omega⟩;rw[hstep,e,show max (out.getD (out.length - 1) yD).2 x.2.2=x.2.2 by omega];rfl
    ·(repeat refine⟨by omega,?_⟩)
     refine⟨⟨i+1,u,?_,by omega⟩,by omega⟩;rw[hstep,e,show max (out.getD (out.length - 1) yD).2 x.2.2=(out.getD (out.length - 1) yD).2 by omega];have:out.set (out.length - 1) ((out.getD (out.length - 1) yD).1,(out.getD (out.length - 1) yD).2)=out:=by rw[qy1,qy7 (by omega)];exact List.set_getElem_self (by omega)
     rw[this];rfl
 ·have hie:i=l.length:=by omega
  subst hie;rw[List.take_length]at hr;exact⟨u,rfl,hr.at_ 0 rfl,hr.fresh 0 rfl,hr.mod⟩
theorem Zo1(w:World)(u v:Value)(a b:List Wt)(hu:Z1k w u a)(hv:Z1k w v b)(hl:a.length<1000000000):Calls Tryz.prog 132 #[sc1 u,sc1 v] w λe w'=>e=.returned (.bool (decide (a=b)))/\Mod [] w w':=by
 refine Z1 (Z3 (J:=[.v u,.r (a.map Z7),.v v,.r (b.map Z7)]) sxE_ok Tryz.func132 Z5k rfl rfl (Rel.start2 (by simp[Ent.holds,Ent.wr,hu,hv,X.ev])) rfl rfl ?_) rfl;simp only[Tree.goal,X.P,X.ev,SV.ev,CV.ev,Sc.ev,qz,QA,QB,QC,QD,QE,QF,QG,QH,QI,QJ,QK,QL,QM,Nat.reduceAdd,qy3,qy4,Z10,Z13,Z1n,gY0,gY1];refine⟨λh w' hr=>⟨?_,hr.mod⟩,λh=>?_⟩
 ·rw[decide_eq_false];rintro rfl;exact h rfl
 have h:a.length=b.length:=by omega
 refine⟨λvs=>∃(i:Nat) (x:V),vs=[x,.i i]/\i<=a.length/\∀j,j<i->a.getD j wD_V=b.getD j wD_V,λvs=>a.length - (vs.getD 1 (.i 0)).toI.toNat,⟨0,_,rfl,by omega,λj hj=>by omega⟩,?_⟩;rintro _ - ⟨i,x,rfl,hi,hs⟩;simp only[Tree.goal,X.P,X.ev,SV.ev,CV.ev,Sc.ev,qz,QA,QB,QC,QD,QE,QF,QG,QH,QI,QJ,QK,QL,QM,Nat.reduceAdd,qy3,qy4,Z10,Z13,Z1n,gY0,gY1];refine⟨λh1=>⟨by omega,by omega,λh2 w' hr=>⟨?_,hr.mod⟩,λh2=>⟨by omega,by omega,⟨i+1,x,rfl,by omega,λj hj=>?_⟩,by omega⟩⟩,λh1 w' hr=>⟨?_,hr.mod⟩⟩
 ·rw[decide_eq_false];rintro rfl;rcases h2 with h2|h2
  ·exact h2 rfl
  ·exact h2 ⟨rfl,rfl⟩
 ·by_cases hji:j=i
  ·subst hji;have h3:=qy9.1 λh3=>h2 (.inl h3);have h4:=qy9.1 λh3=>h2 (.inr h3);exact Prod.ext h3 (Prod.ext h4.1 h4.2)
  ·exact hs j (by omega)
 ·rw[decide_eq_true];refine List.ext_getElem h λj hj1 hj2=>?_;have:=hs j (by omega);rwa [qy1,qy1,qy7 hj1,qy7 hj2]at this
