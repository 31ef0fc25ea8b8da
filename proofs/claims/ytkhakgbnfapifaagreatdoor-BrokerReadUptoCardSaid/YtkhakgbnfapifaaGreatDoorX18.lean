/-
  Texts of mine, one behind the other. By an AI agent.
-/
import Derived.Test.YtkhakgbnfapifaaGreatDoorX10
import Derived.Test.YtkhakgbnfapifaaGreatDoorX08
import Derived.Test.YtkhakgbnfapifaaGreatDoorX11
set_option linter.unusedSimpArgs false
set_option linter.unusedVariables false
set_option maxHeartbeats 20000000
namespace Go.Proofs.YtkhakgbnfapifaaGreatDoor
open Go.Sx
theorem Zxq {a b:List UInt8} {i:Nat} (h:a.take i=b.take i) (hi:i<a.length) (hj:i<b.length) (hne:¬a.getD i 0=b.getD i 0):Zd a b=decide (a.getD i 0<b.getD i 0):=by
 induction i generalizing a b with
 | zero =>
  match a,b,hi,hj with
  | x::a,y::b,_,_ =>
   simp only[List.getD_cons_zero]at hne;simp[Zd,Op.bytesLess,hne]
 | succ i ih =>
  match a,b,hi,hj with
  | x::a,y::b,hi,hj =>
   simp only[List.take_succ_cons,List.cons.injEq]at h;obtain⟨rfl,h⟩:=h;simp only[List.getD_cons_succ]at hne ⊢;have:=ih h (by simpa using hi) (by simpa using hj) hne
   show (decide (x<x) || (x == x && Zd a b))=_
   rw[this];simp[UInt8.lt_irrefl]
theorem Zua {a b:List UInt8} {i:Nat} (h:a.take i=b.take i) (hi:i<=a.length) (hj:i<=b.length) (he:i=a.length\/i=b.length):Zd a b=decide (a.length<b.length):=by
 induction i generalizing a b with
 | zero =>
  match a,b with
  | [],[]=>rfl
  | [],_::_=>rfl
  | _::_,[]=>simp[Z9v]
  | _::_,_::_=>simp at he
 | succ i ih =>
  match a,b,hi,hj with
  | x::a,y::b,hi,hj =>
   simp only[List.take_succ_cons,List.cons.injEq]at h;obtain⟨rfl,h⟩:=h;have:=ih h (by simpa using hi) (by simpa using hj) (by simpa using he);simp[Zd,Op.bytesLess,UInt8.lt_irrefl];simpa using this
theorem Z11h {a b:List UInt8} {i:Nat} (h:a.take i=b.take i) (hi:i<a.length) (hj:i<b.length) (he:a.getD i 0=b.getD i 0):a.take (i+1)=b.take (i+1):=by rw[List.take_add_one,List.take_add_one,h];simp only[qy1,qy7 hi,qy7 hj,Option.getD_some]at he;rw[qy7 hi,qy7 hj,he]
theorem Z39 (w:World) (a b:List UInt8) (ha:a.length<1099511627776):Calls Tryz.prog 43 #[.string ⟨a.toArray⟩,.string ⟨b.toArray⟩] w fun e w'=>e=.returned (.bool (Zd a b))/\Mod [] w w':=by
 refine Z1 (Z7 (ρ:=[.s a,.s b]) sxE_ok Tryz.func43 Z2c rfl rfl rfl ?_) rfl;simp only[Tree.goal,X.P,X.ev,SV.ev,CV.ev,Sc.ev,qz,QA,QB,QC,QD,QE,QF,QG,QH,QI,QJ,QK,QL,QM,Nat.reduceAdd];refine⟨fun vs=>∃(i:Nat) (x:V),vs=[x,.i i]/\i<=a.length/\i<=b.length/\a.take i=b.take i,fun vs=>a.length - (vs.getD 1 (.i 0)).toI.toNat,⟨0,_,rfl,by omega,by omega,rfl⟩,?_⟩;rintro _ - ⟨i,x,rfl,hi,hj,ht⟩;simp only[Tree.goal,X.P,X.ev,SV.ev,CV.ev,Sc.ev,qz,QA,QB,QC,QD,QE,QF,QG,QH,QI,QJ,QK,QL,QM,Nat.reduceAdd,qy4];refine⟨fun h1=>⟨by omega,fun h2 w' hr=>⟨?_,hr.mod⟩,fun h2=>⟨by omega,by omega,⟨i+1,x,rfl,by omega,by omega,Z11h ht (by omega) (by omega) ?_⟩,by omega⟩⟩,fun h1 w' hr=>⟨?_,hr.mod⟩⟩
 ·rw[Zxq ht (by omega) (by omega) (fun e=>h2 (by rw[e]))];simp[UInt8.lt_iff_toNat_lt]
 ·have h3:=qy9.1 h2;exact UInt8.toNat_inj.1 (by exact_mod_cast h3)
 ·rw[Zua ht hi hj (by omega)];simp
theorem Zjf (w:World) (s:List UInt8) (hs:s.length<1099511627776):Calls Tryz.prog 12 #[.string ⟨s.toArray⟩] w fun e w'=>e=.returned (.bool (cliB s))/\Mod [] w w':=by refine Z1 (Z7 (ρ:=[.s s]) sxE_ok Tryz.func12 Z2d rfl rfl rfl ?_) rfl;simp only[Tree.goal,X.P,X.ev,SV.ev,CV.ev,Sc.ev,qz,QA,QB,QC,QD,QE,QF,QG,QH,QI,QJ,QK,QL,QM,Nat.reduceAdd];refine⟨[.b (Z1w s)],rfl,fun _ w' _=>Zdh w' s hs,?_⟩;simp only[Tree.goal,X.P,X.ev,SV.ev,CV.ev,Sc.ev,qz,QA,QB,QC,QD,QE,QF,QG,QH,QI,QJ,QK,QL,QM,Nat.reduceAdd];exact fun w' hr=>⟨by simp[cliB],hr.mod⟩
end Go.Proofs.YtkhakgbnfapifaaGreatDoor
namespace Go.Proofs.YtkhakgbnfapifaaGreatDoor
open Go Go.Sx
theorem Zp3 (w:World) (x:Wt) (hs:smW x):Calls Tryz.prog 136 #[.string ⟨x.1.toArray⟩,.agg #[.string ⟨x.2.1.toArray⟩,.int .i64 x.2.2]] w fun e w'=>e=.returned (.int .i64 (Z2n x))/\Mod [] w w':=by
  have h1:=hs.1;have h2:=hs.2;refine Z1 (Z7 (ρ:=[.s x.1,.s x.2.1,.i x.2.2]) sxE_ok Tryz.func136 Z59 rfl rfl rfl ?_) rfl;simp only[Tree.goal,X.P,X.ev,SV.ev,CV.ev,Sc.ev,qz,QA,QB,QC,QD,QE,QF,QG,QH,QI,QJ,QK,QL,QM,Nat.reduceAdd];intro b1;refine⟨[.b (cliB x.1)],rfl,fun _ w' _=>Zjf w' _ (by omega),?_⟩;simp only[Tree.goal,X.P,X.ev,SV.ev,CV.ev,Sc.ev,qz,QA,QB,QC,QD,QE,QF,QG,QH,QI,QJ,QK,QL,QM,Nat.reduceAdd];refine⟨fun h w' hr=>⟨by rw[Z2n,if_neg h],hr.mod⟩,fun h=>?_⟩;have h:=qy9.1 h;refine⟨[.i (chkT x.2.1 true)],rfl,fun _ w' _=>Z4y w' _ true (by omega),?_⟩;simp only[Tree.goal,X.P,X.ev,SV.ev,CV.ev,Sc.ev,qz,QA,QB,QC,QD,QE,QF,QG,QH,QI,QJ,QK,QL,QM,Nat.reduceAdd];have e:Z2n x=askE (x.2.1,x.2.2):=by rw[Z2n,if_pos h]
  refine⟨fun h3=>⟨fun h4 w' hr=>⟨?_,hr.mod⟩,fun h4 w' hr=>⟨?_,hr.mod⟩⟩,fun h3 w' hr=>⟨?_,hr.mod⟩⟩
  . rw[e,askE];simp only;rw[if_pos h3,if_neg h4]
  . rw[e,askE];simp only;rw[if_pos h3,if_pos (qy9.1 h4),h3]
  . rw[e,askE];simp only;rw[if_neg h3]
theorem Zp4 (w:World) (a b:Wt) (ha:smW a):Calls Tryz.prog 137 #[wV a,wV b] w fun e w'=>e=.returned (.bool (ltP (ky a) (ky b)))/\Mod [] w w':=by
  have h1:=ha.1;have h2:=ha.2;refine Z1 (Z7 (ρ:=[.s a.1,.s a.2.1,.i a.2.2,.s b.1,.s b.2.1,.i b.2.2]) sxE_ok Tryz.func137 Z58 rfl rfl rfl ?_) rfl;simp only[Tree.goal,X.P,X.ev,SV.ev,CV.ev,Sc.ev,qz,QA,QB,QC,QD,QE,QF,QG,QH,QI,QJ,QK,QL,QM,Nat.reduceAdd];intro b1 b2;refine⟨fun h=>?_,fun h=>?_⟩
  . refine⟨[.b (Zd a.1 b.1)],rfl,fun _ w' _=>Z39 w' _ _ (by omega),?_⟩;simp only[Tree.goal,X.P,X.ev,SV.ev,CV.ev,Sc.ev,qz,QA,QB,QC,QD,QE,QF,QG,QH,QI,QJ,QK,QL,QM,Nat.reduceAdd];refine fun w' hr=>⟨?_,hr.mod⟩
    simp[ltP,ky,h]
  . have h:=qy9.1 h;refine⟨[.b (Zd a.2.1 b.2.1)],rfl,fun _ w' _=>Z39 w' _ _ (by omega),?_⟩;simp only[Tree.goal,X.P,X.ev,SV.ev,CV.ev,Sc.ev,qz,QA,QB,QC,QD,QE,QF,QG,QH,QI,QJ,QK,QL,QM,Nat.reduceAdd];refine fun w' hr=>⟨?_,hr.mod⟩
    simp[ltP,ky,h,Z1g]
theorem Zjg (w:World) (v:Value) (l:List Wt) (hv:Z26 w v l) (hs:Z2i l) (hl:l.length<1000000000):Calls Tryz.prog 41 #[sc1 v] w fun e w'=>e=.returned (.int .i64 (Zf l))/\Mod [] w w':=by
  refine Z1 (Z3 (ρ:=[.v v,.r (l.map Zb)]) sxE_ok Tryz.func41 Z4c rfl rfl (Rel.start2 (by simp[Ent.holds,Ent.wr,hv,X.ev])) rfl rfl ?_) rfl;simp only[Tree.goal,X.P,X.ev,SV.ev,CV.ev,Sc.ev,qz,QA,QB,QC,QD,QE,QF,QG,QH,QI,QJ,QK,QL,QM,Nat.reduceAdd,qy3,qy4,Z1u,Z25,Z3c,gY0,gY1];refine⟨fun h w' hr=>⟨by rw[Zf,if_pos h],hr.mod⟩,fun h=>?_⟩;rw[Zf,if_neg h];refine⟨fun vs=>∃(i:Nat) (x:V),vs=[x,.i i]/\i<=l.length/\Zby (Zoi l i) (l.drop i)=Zby none l,fun vs=>l.length - (vs.getD 1 (.i 0)).toI.toNat,⟨0,_,rfl,by omega,rfl⟩,?_⟩;rintro _ - ⟨i,x,rfl,hi,hg⟩;simp only[Tree.goal,X.P,X.ev,SV.ev,CV.ev,Sc.ev,qz,QA,QB,QC,QD,QE,QF,QG,QH,QI,QJ,QK,QL,QM,Nat.reduceAdd,qy3,qy4,Z1u,Z25,Z3c,gY0,gY1];have hi1:((i:Int) - 1).toNat=i - 1:=by omega
  try rw[hi1]
  refine⟨fun h1=>⟨by omega,?_⟩,fun h1 w' hr=>⟨?_,hr.mod⟩⟩
  . rw[Zfm (by omega)]at hg;refine⟨[.i (Z2n (l.getD i wD_V))],rfl,fun _ w' _=>Zp3 w' _ (Z8h hs i),?_⟩;simp only[Tree.goal,X.P,X.ev,SV.ev,CV.ev,Sc.ev,qz,QA,QB,QC,QD,QE,QF,QG,QH,QI,QJ,QK,QL,QM,Nat.reduceAdd,qy3,qy4,Z1u,Z25,Z3c,gY0,gY1];try rw[hi1]
    refine⟨fun h2 w' hr=>⟨?_,hr.mod⟩,fun h2=>⟨by omega,by omega,by omega,by omega,?_⟩⟩
    . rw[if_pos h2]at hg;rw[<- hg]
    . rw[if_neg h2]at hg;refine⟨[.b (ltP (ky (l.getD (i - 1) wD_V)) (ky (l.getD i wD_V)))],rfl,fun _ w' _=>Zp4 w' (l.getD (i - 1) wD_V) (l.getD i wD_V) (Z8h hs (i - 1)),?_⟩;simp only[Tree.goal,X.P,X.ev,SV.ev,CV.ev,Sc.ev,qz,QA,QB,QC,QD,QE,QF,QG,QH,QI,QJ,QK,QL,QM,Nat.reduceAdd];simp only[Zrs]at hg;refine⟨fun h6 w' hr=>⟨?_,hr.mod⟩,fun h6=>⟨by omega,by omega,⟨i+1,x,rfl,by omega,?_⟩,by omega⟩⟩
      . rw[if_pos ⟨h6.1,by simpa using h6.2⟩]at hg;rw[<- hg]
      . rw[if_neg (fun h7=>h6 ⟨h7.1,by simpa using h7.2⟩)]at hg;exact hg
  . have:i=l.length:=by omega
    subst this;rw[List.drop_length]at hg;rw[<- hg];rfl
theorem Zkz (w:World) (u v:Value) (a b:List Wt) (hu:Z26 w u a) (hv:Z26 w v b) (hl:a.length<1000000000):Calls Tryz.prog 95 #[sc1 u,sc1 v] w fun e w'=>e=.returned (.bool (decide (a=b)))/\Mod [] w w':=by
 refine Z1 (Z3 (ρ:=[.v u,.r (a.map Zb),.v v,.r (b.map Zb)]) sxE_ok Tryz.func95 Z4o rfl rfl (Rel.start2 (by simp[Ent.holds,Ent.wr,hu,hv,X.ev])) rfl rfl ?_) rfl;simp only[Tree.goal,X.P,X.ev,SV.ev,CV.ev,Sc.ev,qz,QA,QB,QC,QD,QE,QF,QG,QH,QI,QJ,QK,QL,QM,Nat.reduceAdd,qy3,qy4,Z1u,Z25,Z3c,gY0,gY1];refine⟨fun h w' hr=>⟨?_,hr.mod⟩,fun h=>?_⟩
 ·rw[decide_eq_false];rintro rfl;exact h rfl
 have h:a.length=b.length:=by omega
 refine⟨fun vs=>∃(i:Nat) (x:V),vs=[x,.i i]/\i<=a.length/\∀j,j<i->a.getD j wD_V=b.getD j wD_V,fun vs=>a.length - (vs.getD 1 (.i 0)).toI.toNat,⟨0,_,rfl,by omega,fun j hj=>by omega⟩,?_⟩;rintro _ - ⟨i,x,rfl,hi,hs⟩;simp only[Tree.goal,X.P,X.ev,SV.ev,CV.ev,Sc.ev,qz,QA,QB,QC,QD,QE,QF,QG,QH,QI,QJ,QK,QL,QM,Nat.reduceAdd,qy3,qy4,Z1u,Z25,Z3c,gY0,gY1];refine⟨fun h1=>⟨by omega,by omega,fun h2 w' hr=>⟨?_,hr.mod⟩,fun h2=>⟨by omega,by omega,⟨i+1,x,rfl,by omega,fun j hj=>?_⟩,by omega⟩⟩,fun h1 w' hr=>⟨?_,hr.mod⟩⟩
 ·rw[decide_eq_false];rintro rfl;rcases h2 with h2|h2
  ·exact h2 rfl
  ·exact h2 ⟨rfl,rfl⟩
 ·by_cases hji:j=i
  ·subst hji;have h3:=qy9.1 fun h3=>h2 (.inl h3);have h4:=qy9.1 fun h3=>h2 (.inr h3);exact Prod.ext h3 (Prod.ext h4.1 h4.2)
  ·exact hs j (by omega)
 ·rw[decide_eq_true];refine List.ext_getElem h fun j hj1 hj2=>?_;have:=hs j (by omega);rwa [qy1,qy1,qy7 hj1,qy7 hj2]at this
end Go.Proofs.YtkhakgbnfapifaaGreatDoor
