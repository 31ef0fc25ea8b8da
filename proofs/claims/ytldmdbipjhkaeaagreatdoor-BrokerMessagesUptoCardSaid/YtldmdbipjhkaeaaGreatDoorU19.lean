/- By an AI agent. -/
import Derived.Test.YtldmdbipjhkaeaaGreatDoorU11
import Derived.Test.YtldmdbipjhkaeaaGreatDoorU18
set_option linter.all false
set_option maxHeartbeats 20000000
namespace Go.Proofs.Y
open Go Go.Sx
theorem Zqx(w:World)(x:Wt)(hs:smW x):Calls Tryz.prog 99 #[.string ⟨x.1.toArray⟩,.agg #[.string ⟨x.2.1.toArray⟩,.int .i64 x.2.2]] w λe w'=>e=.returned (.int .i64 (Z2u x))/\Mod [] w w':=by
 have h1:=hs.1;have h2:=hs.2;refine Z1 (Z8 (J:=[.s x.1,.s x.2.1,.i x.2.2]) sxE_ok Tryz.func99 Z5j rfl rfl rfl ?_) rfl;simp only[Tree.goal,X.P,X.ev,SV.ev,CV.ev,Sc.ev,qz,QA,QB,QC,QD,QE,QF,QG,QH,QI,QJ,QK,QL,QM,Nat.reduceAdd];intro b1;refine⟨[.b (cliB x.1)],rfl,λ_ w' _=>Zla w' _ (by omega),?_⟩;simp only[Tree.goal,X.P,X.ev,SV.ev,CV.ev,Sc.ev,qz,QA,QB,QC,QD,QE,QF,QG,QH,QI,QJ,QK,QL,QM,Nat.reduceAdd];refine⟨λh w' hr=>⟨by rw[Z2u,if_neg h],hr.mod⟩,λh=>?_⟩;have h:=qy9.1 h;refine⟨[.i (chkT x.2.1 true)],rfl,λ_ w' _=>Z3c w' _ true (by omega),?_⟩;simp only[Tree.goal,X.P,X.ev,SV.ev,CV.ev,Sc.ev,qz,QA,QB,QC,QD,QE,QF,QG,QH,QI,QJ,QK,QL,QM,Nat.reduceAdd];have e:Z2u x=askE (x.2.1,x.2.2):=by rw[Z2u,if_pos h]
 refine⟨λh3=>⟨λh4 w' hr=>⟨?_,hr.mod⟩,λh4 w' hr=>⟨?_,hr.mod⟩⟩,λh3 w' hr=>⟨?_,hr.mod⟩⟩
 ·rw[e,askE];simp only;rw[if_pos h3,if_neg h4]
 ·rw[e,askE];simp only;rw[if_pos h3,if_pos (qy9.1 h4),h3]
 ·rw[e,askE];simp only;rw[if_neg h3]
theorem Zqy(w:World)(a b:Wt)(ha:smW a):Calls Tryz.prog 100 #[wV a,wV b] w λe w'=>e=.returned (.bool (ltP (ky a) (ky b)))/\Mod [] w w':=by
 have h1:=ha.1;have h2:=ha.2;refine Z1 (Z8 (J:=[.s a.1,.s a.2.1,.i a.2.2,.s b.1,.s b.2.1,.i b.2.2]) sxE_ok Tryz.func100 Z5h rfl rfl rfl ?_) rfl;simp only[Tree.goal,X.P,X.ev,SV.ev,CV.ev,Sc.ev,qz,QA,QB,QC,QD,QE,QF,QG,QH,QI,QJ,QK,QL,QM,Nat.reduceAdd];intro b1 b2;refine⟨λh=>?_,λh=>?_⟩
 ·refine⟨[.b (Ze a.1 b.1)],rfl,λ_ w' _=>Z3i w' _ _ (by omega),?_⟩;simp only[Tree.goal,X.P,X.ev,SV.ev,CV.ev,Sc.ev,qz,QA,QB,QC,QD,QE,QF,QG,QH,QI,QJ,QK,QL,QM,Nat.reduceAdd];refine λw' hr=>⟨?_,hr.mod⟩
  simp[ltP,ky,h]
 ·have h:=qy9.1 h;refine⟨[.b (Ze a.2.1 b.2.1)],rfl,λ_ w' _=>Z3i w' _ _ (by omega),?_⟩;simp only[Tree.goal,X.P,X.ev,SV.ev,CV.ev,Sc.ev,qz,QA,QB,QC,QD,QE,QF,QG,QH,QI,QJ,QK,QL,QM,Nat.reduceAdd];refine λw' hr=>⟨?_,hr.mod⟩
  simp[ltP,ky,h,Z1j]
theorem Zlb(w:World)(v:Value)(l:List Wt)(hv:Z1w w v l)(hs:Z1n l)(hl:l.length<1000000000):Calls Tryz.prog 26 #[sc1 v] w λe w'=>e=.returned (.int .i64 (Zj l))/\Mod [] w w':=by
 refine Z1 (Z3 (J:=[.v v,.r (l.map Za)]) sxE_ok Tryz.func26 Z4k rfl rfl (Rel.start2 (by simp[Ent.holds,Ent.wr,hv,X.ev])) rfl rfl ?_) rfl;simp only[Tree.goal,X.P,X.ev,SV.ev,CV.ev,Sc.ev,qz,QA,QB,QC,QD,QE,QF,QG,QH,QI,QJ,QK,QL,QM,Nat.reduceAdd,qy3,qy4,Z1k,Z1r,Z33,gY0,gY1];refine⟨λh w' hr=>⟨by rw[Zj,if_pos h],hr.mod⟩,λh=>?_⟩;rw[Zj,if_neg h];refine⟨λvs=>∃(i:Nat) (x:V),vs=[x,.i i]/\i<=l.length/\Zct (Zqg l i) (l.drop i)=Zct none l,λvs=>l.length - (vs.getD 1 (.i 0)).toI.toNat,⟨0,_,rfl,by omega,rfl⟩,?_⟩;rintro _ - ⟨i,x,rfl,hi,hg⟩;simp only[Tree.goal,X.P,X.ev,SV.ev,CV.ev,Sc.ev,qz,QA,QB,QC,QD,QE,QF,QG,QH,QI,QJ,QK,QL,QM,Nat.reduceAdd,qy3,qy4,Z1k,Z1r,Z33,gY0,gY1];have hi1:((i:Int) - 1).toNat=i - 1:=by omega
 try rw[hi1]
 refine⟨λh1=>⟨by omega,?_⟩,λh1 w' hr=>⟨?_,hr.mod⟩⟩
 ·rw[Zgv (by omega)]at hg;refine⟨[.i (Z2u (l.getD i wD_V))],rfl,λ_ w' _=>Zqx w' _ (Z6w hs i),?_⟩;simp only[Tree.goal,X.P,X.ev,SV.ev,CV.ev,Sc.ev,qz,QA,QB,QC,QD,QE,QF,QG,QH,QI,QJ,QK,QL,QM,Nat.reduceAdd,qy3,qy4,Z1k,Z1r,Z33,gY0,gY1];try rw[hi1]
  refine⟨λh2 w' hr=>⟨?_,hr.mod⟩,λh2=>⟨by omega,by omega,by omega,by omega,?_⟩⟩
  ·rw[if_pos h2]at hg;rw[<- hg]
  ·rw[if_neg h2]at hg;refine⟨[.b (ltP (ky (l.getD (i - 1) wD_V)) (ky (l.getD i wD_V)))],rfl,λ_ w' _=>Zqy w' (l.getD (i - 1) wD_V) (l.getD i wD_V) (Z6w hs (i - 1)),?_⟩;simp only[Tree.goal,X.P,X.ev,SV.ev,CV.ev,Sc.ev,qz,QA,QB,QC,QD,QE,QF,QG,QH,QI,QJ,QK,QL,QM,Nat.reduceAdd];simp only[Ztm]at hg;refine⟨λh6 w' hr=>⟨?_,hr.mod⟩,λh6=>⟨by omega,by omega,⟨i+1,x,rfl,by omega,?_⟩,by omega⟩⟩
   ·rw[if_pos ⟨h6.1,by simpa using h6.2⟩]at hg;rw[<- hg]
   ·rw[if_neg (λh7=>h6 ⟨h7.1,by simpa using h7.2⟩)]at hg;exact hg
 ·have:i=l.length:=by omega
  subst this;rw[List.drop_length]at hg;rw[<- hg];rfl
theorem Z17e(R:List Rd)(c:List UInt8)(q:Int):R.map encY++[[.string ⟨c.toArray⟩,.int .i64 q]]=(R++[(c,q)]).map encY:=by simp[encY]
theorem setY(R:List Rd)(m:Nat)(c:List UInt8)(q:Int):(R.map encY).set m [.string ⟨c.toArray⟩,.int .i64 q]=(R.set m (c,q)).map encY:=by rw[List.map_set];rfl
theorem Zzr(n:List UInt8)(l:List Wt)(i:Nat)(h:i<l.length):rdF n [] (l.take (i+1))=if forW n (l.getD i wD_V)=true then addY (rdF n [] (l.take i)) (l.getD i wD_V)else rdF n [] (l.take i):=by rw[Zic l i h,rdF,List.foldl_append];rfl
theorem Zzs{out:List Rd}{w:Wt}(h:out.length=0\/¬(out.getD (out.length - 1) yD).1=w.1):addY out w=out++[(w.1,max 0 w.2.2)]:=by
 rcases List.eq_nil_or_concat out with rfl|⟨o,x,rfl⟩
 ·exact Zie w
 ·rw[List.concat_eq_append]at *;rw[Zam,if_neg];rcases h with h|h
  ·simp at h
  ·simpa[qy1]using h
theorem Zzt{out:List Rd}{w:Wt}(h:¬(out.length=0\/¬(out.getD (out.length - 1) yD).1=w.1)):addY out w=out.set (out.length - 1) ((out.getD (out.length - 1) yD).1,max (out.getD (out.length - 1) yD).2 w.2.2):=by
 rcases List.eq_nil_or_concat out with rfl|⟨o,x,rfl⟩
 ·exact absurd (.inl rfl) h
 ·rw[List.concat_eq_append]at *;have h1:x.1=w.1:=qy9.1 λh2=>h (.inr (by simpa[qy1]using h2));rw[Zam,if_pos h1];simp[qy1,List.set_append_right]
theorem Zmv(w:World)(v:Value)(l:List Wt)(n:List UInt8)(hv:Z1w w v l)(hs:Z1n l)(hl:l.length<1000000000)(hn:n.length<1000000000):Calls Tryz.prog 106 #[sc1 v,.string ⟨n.toArray⟩] w λe w'=>∃v',e=.returned (sc1 v')/\Zy9 w' v' (rdOf n l)/\newW w.heap.size v'/\Mod [] w w':=by
 refine Z1 (Z3 (J:=[.v v,.r (l.map Za),.s n]) sxE_ok Tryz.func106 Z4w rfl rfl (Rel.start2 (by simp[Ent.holds,Ent.wr,hv,X.ev])) rfl rfl ?_) rfl;simp only[Tree.goal,X.P,X.ev,SV.ev,CV.ev,Sc.ev,qz,QA,QB,QC,QD,QE,QF,QG,QH,QI,QJ,QK,QL,QM,Nat.reduceAdd,qy3,qy4,Z1k,Z1r,Z33,gY0,gY1];refine⟨λvs=>∃(i:Nat) (u:Value),vs=[.v u,.r ((rdF n [] (l.take i)).map encY),.i i]/\i<=l.length,λvs=>(l.length - (vs.getD 2 (.i 0)).toI).toNat,⟨0,_,rfl,by omega⟩,?_⟩;rintro _ - ⟨i,u,rfl,hi⟩;have hlen:(rdF n [] (l.take i)).length<=i:=by have:=Zif n (l.take i) [];rw[List.length_take]at this;simp only[List.length_nil]at this;omega
 simp only[Tree.goal,X.P,X.ev,SV.ev,CV.ev,Sc.ev,qz,QA,QB,QC,QD,QE,QF,QG,QH,QI,QJ,QK,QL,QM,Nat.reduceAdd,qy3,qy4,Z1k,Z1r,Z33,gY0,gY1];refine⟨λh1=>⟨by omega,?_⟩,λh1 w' hr=>?_⟩
 ·have sx:=Z6w hs i;have hstep:=Zzr n l i (by omega);refine⟨[.b (forW n (l.getD i wD_V))],rfl,λ_ w' _=>Z11y w' (l.getD i wD_V).2.1 n (by have:=sx.2;omega) (by omega),?_⟩;generalize rdF n [] (l.take i)=out at hlen hstep⊢
  generalize l.getD i wD_V=x at hstep⊢
  have k1:((out.length:Int) - 1).toNat=out.length - 1:=by omega
  have k2:((out.length:Int)+1 - 1).toNat=out.length:=by omega
  simp only[Tree.goal,X.P,X.ev,SV.ev,CV.ev,Sc.ev,qz,QA,QB,QC,QD,QE,QF,QG,QH,QI,QJ,QK,QL,QM,Nat.reduceAdd,qy3,qy4,Z1k,Z1r,Z33,gY0,gY1,k1,k2,Z17e,setY];refine⟨λh2=>?_,λh2=>?_⟩
  ·(repeat refine⟨by omega,?_⟩)
   refine⟨⟨i+1,u,?_,by omega⟩,by omega⟩;rw[hstep,if_neg h2];rfl
  ·have h2:forW n x=true:=qy9.1 h2;rw[if_pos h2]at hstep
   (repeat refine⟨by omega,?_⟩)
   refine⟨λh3 v1=>⟨by first|omega|(simp only[qy11,qy3,List.length_cons,List.length_nil];omega),λv2=>?_⟩,λh3=>?_⟩
   ·have e:=Zzs (w:=x) (out:=out) (h3.imp (λh=>by omega) id);have g:(out++[(x.1,(0:Int))]).getD out.length yD=(x.1,0):=by simp[qy1]
    simp only[qy11,List.length_cons,List.length_nil,g]
    (repeat refine⟨by omega,?_⟩)
    refine⟨λh4=>?_,λh4=>?_⟩
    ·(repeat refine⟨by omega,?_⟩)
     refine⟨⟨i+1,v2,?_,by omega⟩,by omega⟩;rw[hstep,e,show max 0 x.2.2=x.2.2 by omega];simp[List.set_append_right]
    ·(repeat refine⟨by omega,?_⟩)
     refine⟨⟨i+1,v2,?_,by omega⟩,by omega⟩;rw[hstep,e,show max 0 x.2.2=0 by omega];rfl
   ·have h3':¬(out.length=0\/¬(out.getD (out.length - 1) yD).1=x.1):=λh=>h3 (h.imp (λh=>by omega) id);have e:=Zzt (w:=x) (out:=out) h3';have hpos:0<out.length:=Nat.pos_of_ne_zero λh=>h3' (.inl h)
    (repeat refine⟨by omega,?_⟩)
    refine⟨λh4=>?_,λh4=>?_⟩
    ·(repeat refine⟨by omega,?_⟩)
     refine⟨⟨i+1,u,?_,by omega⟩,by omega⟩;rw[hstep,e,show max (out.getD (out.length - 1) yD).2 x.2.2=x.2.2 by omega];rfl
    ·(repeat refine⟨by omega,?_⟩)
     refine⟨⟨i+1,u,?_,by omega⟩,by omega⟩;rw[hstep,e,show max (out.getD (out.length - 1) yD).2 x.2.2=(out.getD (out.length - 1) yD).2 by omega];have:out.set (out.length - 1) ((out.getD (out.length - 1) yD).1,(out.getD (out.length - 1) yD).2)=out:=by rw[qy1,qy7 (by omega)];exact List.set_getElem_self (by omega)
     rw[this];rfl
 ·have hie:i=l.length:=by omega
  subst hie;rw[List.take_length]at hr;exact⟨u,rfl,hr.at_ 0 rfl,hr.fresh 0 rfl,hr.mod⟩
theorem Zmw(w:World)(u v:Value)(a b:List Wt)(hu:Z1w w u a)(hv:Z1w w v b)(hl:a.length<1000000000):Calls Tryz.prog 132 #[sc1 u,sc1 v] w λe w'=>e=.returned (.bool (decide (a=b)))/\Mod [] w w':=by
 refine Z1 (Z3 (J:=[.v u,.r (a.map Za),.v v,.r (b.map Za)]) sxE_ok Tryz.func132 Z4v rfl rfl (Rel.start2 (by simp[Ent.holds,Ent.wr,hu,hv,X.ev])) rfl rfl ?_) rfl;simp only[Tree.goal,X.P,X.ev,SV.ev,CV.ev,Sc.ev,qz,QA,QB,QC,QD,QE,QF,QG,QH,QI,QJ,QK,QL,QM,Nat.reduceAdd,qy3,qy4,Z1k,Z1r,Z33,gY0,gY1];refine⟨λh w' hr=>⟨?_,hr.mod⟩,λh=>?_⟩
 ·rw[decide_eq_false];rintro rfl;exact h rfl
 have h:a.length=b.length:=by omega
 refine⟨λvs=>∃(i:Nat) (x:V),vs=[x,.i i]/\i<=a.length/\∀j,j<i->a.getD j wD_V=b.getD j wD_V,λvs=>a.length - (vs.getD 1 (.i 0)).toI.toNat,⟨0,_,rfl,by omega,λj hj=>by omega⟩,?_⟩;rintro _ - ⟨i,x,rfl,hi,hs⟩;simp only[Tree.goal,X.P,X.ev,SV.ev,CV.ev,Sc.ev,qz,QA,QB,QC,QD,QE,QF,QG,QH,QI,QJ,QK,QL,QM,Nat.reduceAdd,qy3,qy4,Z1k,Z1r,Z33,gY0,gY1];refine⟨λh1=>⟨by omega,by omega,λh2 w' hr=>⟨?_,hr.mod⟩,λh2=>⟨by omega,by omega,⟨i+1,x,rfl,by omega,λj hj=>?_⟩,by omega⟩⟩,λh1 w' hr=>⟨?_,hr.mod⟩⟩
 ·rw[decide_eq_false];rintro rfl;rcases h2 with h2|h2
  ·exact h2 rfl
  ·exact h2 ⟨rfl,rfl⟩
 ·by_cases hji:j=i
  ·subst hji;have h3:=qy9.1 λh3=>h2 (.inl h3);have h4:=qy9.1 λh3=>h2 (.inr h3);exact Prod.ext h3 (Prod.ext h4.1 h4.2)
  ·exact hs j (by omega)
 ·rw[decide_eq_true];refine List.ext_getElem h λj hj1 hj2=>?_;have:=hs j (by omega);rwa [qy1,qy1,qy7 hj1,qy7 hj2]at this
