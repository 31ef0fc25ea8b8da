/-
  Texts of mine, one behind the other. By an AI agent.
-/
import Derived.Test.YtkhakgbnfapifaaGreatDoorZ12
import Derived.Test.YtkhakgbnfapifaaGreatDoorZ10
import Derived.Test.YtkhakgbnfapifaaGreatDoorZ08
import Derived.Test.YtkhakgbnfapifaaGreatDoorZ11
set_option linter.unusedSimpArgs false
set_option linter.unusedVariables false
set_option maxHeartbeats 20000000
namespace Go.Proofs.YtkhakgbnfapifaaGreatDoor
open Go.Sx
section
variable (w:World) (p:Pkt) (u v:Value)
end
section
variable (w:World) (p q:Pkt) (u v x y:Value)
theorem Zzf {a b:List Ak} (hl:a.length=b.length) (h:∀i,i<a.length->a.getD i aD=b.getD i aD):a=b:=by refine List.ext_getElem hl fun i h1 h2=>?_;have:=h i h1;rw[qy1,qy1,qy7 h1,qy7 h2]at this;exact this
theorem Zvu {a b:List Int} (hl:a.length=b.length) (h:∀i,i<a.length->a.getD i 0=b.getD i 0):a=b:=by refine List.ext_getElem hl fun i h1 h2=>?_;have:=h i h1;rw[qy1,qy1,qy7 h1,qy7 h2]at this;exact this
theorem Z4k (hu:Z4b w u p.asks) (hv:Z4c w v p.codes) (hx:Z4b w x q.asks) (hy:Z4c w y q.codes) (hs:SmallP p) : Calls Tryz.prog 24 #[pV p u v,pV q x y] w fun e w'=>e=.returned (.bool (decide (p=q)))/\Mod [] w w':=by
 refine Z2 (Z3 (ρ:=[.i p.kind,.b p.dup,.b p.retain,.b p.clean,.b p.session,.i p.qos,.i p.id,.i p.keep,.i p.code,.s p.client,.s p.topic,.s p.payload,.v u,.r (p.asks.map encA),.v v,.r (p.codes.map Z11),.i q.kind,.b q.dup,.b q.retain,.b q.clean,.b q.session,.i q.qos,.i q.id,.i q.keep,.i q.code,.s q.client,.s q.topic,.s q.payload,.v x,.r (q.asks.map encA),.v y,.r (q.codes.map Z11)]) sxE_ok Tryz.func24 Z3s rfl rfl (Rel.start2 (by simp[Ent.holds,Ent.wr,hu,hv,hx,hy,X.ev])) rfl rfl ?_) rfl;have h4:=hs.asks;have h5:=hs.codes;simp only[Tree.goal,X.P,X.ev,SV.ev,CV.ev,Sc.ev,qz,QA,QB,QC,QD,QE,QF,QG,QH,QI,QJ,QK,QL,QM,Nat.reduceAdd,qy3];intro b1 b2;refine⟨fun h w' hr=>⟨?_,hr.mod⟩,fun h=>?_⟩
 ·have:¬p=q:=fun e=>by subst e;simp at h
  simp[this]
 simp only[not_or,qy9]at h;obtain⟨⟨⟨⟨⟨⟨⟨⟨⟨⟨⟨⟨⟨e1,e2⟩,e3⟩,e4⟩,e5⟩,e6⟩,e7⟩,e8⟩,e9⟩,e10⟩,e11⟩,e12⟩,e13⟩,e14⟩:=h;refine⟨fun vs=>∃(i:Nat) (b:V),vs=[b,.i i]/\i<=p.asks.length/\∀j,j<i->p.asks.getD j aD=q.asks.getD j aD,fun vs=>p.asks.length - (vs.getD 1 (.i 0)).toI.toNat,⟨0,_,rfl,by omega,by omega⟩,?_⟩;rintro _ - ⟨i,vb,rfl,hi,hg⟩;simp only[Tree.goal,X.P,X.ev,SV.ev,CV.ev,Sc.ev,qz,QA,QB,QC,QD,QE,QF,QG,QH,QI,QJ,QK,QL,QM,Nat.reduceAdd,qy3,qy4,gA0,gA1];refine⟨fun h2=>⟨by omega,by omega,fun h3 w' hr=>⟨?_,hr.mod⟩,fun h3=>⟨by omega,by omega,⟨i+1,vb,rfl,by omega,fun j hj=>?_⟩,by omega⟩⟩,fun h2=>?_⟩
 ·have:¬p=q:=fun e=>h3 (by subst e;exact⟨rfl,rfl⟩);simp[this]
 ·by_cases hji:j=i
  ·subst hji;have h3:=qy9.1 h3;exact Prod.ext h3.1 h3.2
  ·exact hg j (by omega)
 have ea:=Zzf (a:=p.asks) (b:=q.asks) (by omega) (fun j hj=>hg j (by omega));refine⟨fun vs=>∃(i:Nat) (b:V),vs=[b,.i i]/\i<=p.codes.length/\∀j,j<i->p.codes.getD j 0=q.codes.getD j 0,fun vs=>p.codes.length - (vs.getD 1 (.i 0)).toI.toNat,⟨0,_,rfl,by omega,by omega⟩,?_⟩;rintro _ - ⟨k,vc,rfl,hk,hgk⟩;simp only[Tree.goal,X.P,X.ev,SV.ev,CV.ev,Sc.ev,qz,QA,QB,QC,QD,QE,QF,QG,QH,QI,QJ,QK,QL,QM,Nat.reduceAdd,qy3,qy4,gI0];refine⟨fun h3=>⟨by omega,by omega,fun h4 w' hr=>⟨?_,hr.mod⟩,fun h4=>⟨by omega,by omega,⟨k+1,vc,rfl,by omega,fun j hj=>?_⟩,by omega⟩⟩,fun h3 w' hr=>⟨?_,hr.mod⟩⟩
 ·have:¬p=q:=fun e=>h4 (by subst e;rfl);simp[this]
 ·by_cases hjk:j=k
  ·subst hjk;exact qy9.1 h4
  ·exact hgk j (by omega)
 ·have ec:=Zvu (a:=p.codes) (b:=q.codes) (by omega) (fun j hj=>hgk j (by omega));have:p=q:=by
   cases p;cases q;simp only at *;simp_all
  simp[this]
end
end Go.Proofs.YtkhakgbnfapifaaGreatDoor
namespace Go.Proofs.YtkhakgbnfapifaaGreatDoor
open Go.Sx
end Go.Proofs.YtkhakgbnfapifaaGreatDoor
namespace Go.Proofs.YtkhakgbnfapifaaGreatDoor
open Go.Sx
end Go.Proofs.YtkhakgbnfapifaaGreatDoor
namespace Go.Proofs.YtkhakgbnfapifaaGreatDoor
open Go Go.Sx
end Go.Proofs.YtkhakgbnfapifaaGreatDoor
namespace Go.Proofs.YtkhakgbnfapifaaGreatDoor
open Go Go.Sx
theorem Zjg (w:World) (u v:Value) (a b:List Wt) (hu:Z26 w u a) (hv:Z26 w v b) (hl:a.length<1000000000):Calls Tryz.prog 95 #[sc1 u,sc1 v] w fun e w'=>e=.returned (.bool (decide (a=b)))/\Mod [] w w':=by
 refine Z2 (Z3 (ρ:=[.v u,.r (a.map Zb),.v v,.r (b.map Zb)]) sxE_ok Tryz.func95 Z40 rfl rfl (Rel.start2 (by simp[Ent.holds,Ent.wr,hu,hv,X.ev])) rfl rfl ?_) rfl;simp only[Tree.goal,X.P,X.ev,SV.ev,CV.ev,Sc.ev,qz,QA,QB,QC,QD,QE,QF,QG,QH,QI,QJ,QK,QL,QM,Nat.reduceAdd,qy3,qy4,Z2b,Z2c,Z41,gY0,gY1];refine⟨fun h w' hr=>⟨?_,hr.mod⟩,fun h=>?_⟩
 ·rw[decide_eq_false];rintro rfl;exact h rfl
 have h:a.length=b.length:=by omega
 refine⟨fun vs=>∃(i:Nat) (x:V),vs=[x,.i i]/\i<=a.length/\∀j,j<i->a.getD j wD_V=b.getD j wD_V,fun vs=>a.length - (vs.getD 1 (.i 0)).toI.toNat,⟨0,_,rfl,by omega,fun j hj=>by omega⟩,?_⟩;rintro _ - ⟨i,x,rfl,hi,hs⟩;simp only[Tree.goal,X.P,X.ev,SV.ev,CV.ev,Sc.ev,qz,QA,QB,QC,QD,QE,QF,QG,QH,QI,QJ,QK,QL,QM,Nat.reduceAdd,qy3,qy4,Z2b,Z2c,Z41,gY0,gY1];refine⟨fun h1=>⟨by omega,by omega,fun h2 w' hr=>⟨?_,hr.mod⟩,fun h2=>⟨by omega,by omega,⟨i+1,x,rfl,by omega,fun j hj=>?_⟩,by omega⟩⟩,fun h1 w' hr=>⟨?_,hr.mod⟩⟩
 ·rw[decide_eq_false];rintro rfl;rcases h2 with h2|h2
  ·exact h2 rfl
  ·exact h2 ⟨rfl,rfl⟩
 ·by_cases hji:j=i
  ·subst hji;have h3:=qy9.1 fun h3=>h2 (.inl h3);have h4:=qy9.1 fun h3=>h2 (.inr h3);exact Prod.ext h3 (Prod.ext h4.1 h4.2)
  ·exact hs j (by omega)
 ·rw[decide_eq_true];refine List.ext_getElem h fun j hj1 hj2=>?_;have:=hs j (by omega);rwa [qy1,qy1,qy7 hj1,qy7 hj2]at this
end Go.Proofs.YtkhakgbnfapifaaGreatDoor
