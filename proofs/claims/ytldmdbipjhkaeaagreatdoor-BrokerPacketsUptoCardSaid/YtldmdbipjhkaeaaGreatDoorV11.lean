/- By an AI agent. -/
import Derived.Test.YtldmdbipjhkaeaaGreatDoorV10
import Derived.Test.YtldmdbipjhkaeaaGreatDoorV05
import Derived.Test.YtldmdbipjhkaeaaGreatDoorV06
import Derived.Test.YtldmdbipjhkaeaaGreatDoorV09
import Derived.Test.YtldmdbipjhkaeaaGreatDoorV08
import Derived.Shelf.SlSortCmp.WholeK
import Derived.Sort.OwnSorted
import Derived.Ground.SlsfProg
import Derived.Test.YtldmdbipjhkaeaaGreatDoorProg
set_option linter.all false
set_option maxHeartbeats 20000000
namespace Go.Proofs.Y
open Go.Sx
def forF(f:List UInt8)(k:Kp):Bool:=mt (lev f) (lev k.1)
theorem Zjj(w:World)(v:Value)(l:List Kp)(n:List UInt8)(hv:Z3s w v l)(hs:Z7i l)(hl:l.length<1000000000):Calls Tryz.prog 31 #[sc1 v,.string ⟨n.toArray⟩] w λe w'=>e=.returned (.int .i64 (if hasK l n=true then(idx l n:Int)else -1))/\Mod [] w w':=by
 have key:∀i,i<l.length->(l.getD i kD).1=n->i=idx l n:=by
  intro i hi he;refine Zpa (by omega) (λj hj=>?_) (λj hj1 hj2=>?_)
  ·rw[<- he];exact Ze8 hs hj hi
  ·rw[<- he];by_cases hji:j=i
   ·rw[hji];exact Z3a _
   ·exact Z4u (Ze8 hs (by omega) hj2)
 refine Z1 (Z3 (J:=[.v v,.r (l.map encK),.s n]) sxE_ok Tryz.func31 Z7d rfl rfl (Rel.start2 (by simp[Ent.holds,Ent.wr,hv,X.ev])) rfl rfl ?_) rfl;simp only[Tree.goal,X.P,X.ev,SV.ev,CV.ev,Sc.ev,qz,QA,QB,QC,QD,QE,QF,QG,QH,QI,QJ,QK,QL,QM,Nat.reduceAdd,qy3,qy4,gK0,gK1,gK2];refine⟨λvs=>∃(i:Nat) (x:V),vs=[x,.i i]/\i<=l.length/\∀j,j<i->¬(l.getD j kD).1=n,λvs=>l.length - (vs.getD 1 (.i 0)).toI.toNat,⟨0,_,rfl,by omega,λj hj=>by omega⟩,?_⟩;rintro _ - ⟨i,x,rfl,hi,hno⟩;simp only[Tree.goal,X.P,X.ev,SV.ev,CV.ev,Sc.ev,qz,QA,QB,QC,QD,QE,QF,QG,QH,QI,QJ,QK,QL,QM,Nat.reduceAdd,qy3,qy4,gK0,gK1,gK2];refine⟨λh1=>⟨by omega,λh2 w' hr=>⟨?_,hr.mod⟩,λh2=>⟨by omega,by omega,⟨i+1,x,rfl,by omega,λj hj=>?_⟩,by omega⟩⟩,λh1 w' hr=>⟨?_,hr.mod⟩⟩
 ·have e:=key i (by omega) h2;have:hasK l n=true:=by rw[hasK,<- e];exact decide_eq_true ⟨by omega,h2⟩
  rw[if_pos this,<- e]
 ·by_cases hji:j=i
  ·rw[hji];exact h2
  ·exact hno j (by omega)
 ·have:¬hasK l n=true:=λh=>by
   obtain⟨h3,h4⟩:=of_decide_eq_true h;exact hno (idx l n) (by omega) h4
  rw[if_neg this]
theorem Zrc(w:World)(u v:Value)(a b:List Kp)(hu:Z3s w u a)(hv:Z3s w v b)(hl:a.length<1000000000):Calls Tryz.prog 131 #[sc1 u,sc1 v] w λe w'=>e=.returned (.bool (decide (a=b)))/\Mod [] w w':=by
 refine Z1 (Z3 (J:=[.v u,.r (a.map encK),.v v,.r (b.map encK)]) sxE_ok Tryz.func131 Z66 rfl rfl (Rel.start2 (by simp[Ent.holds,Ent.wr,hu,hv,X.ev])) rfl rfl ?_) rfl;simp only[Tree.goal,X.P,X.ev,SV.ev,CV.ev,Sc.ev,qz,QA,QB,QC,QD,QE,QF,QG,QH,QI,QJ,QK,QL,QM,Nat.reduceAdd,qy3];refine⟨λh w' hr=>⟨?_,hr.mod⟩,λh=>?_⟩
 ·rw[decide_eq_false];intro e;rw[e]at h;exact h rfl
 ·have hlen:a.length=b.length:=by omega
  refine⟨λvs=>∃(i:Nat) (x:V),vs=[x,.i i]/\i<=a.length/\∀j,j<i->a.getD j kD=b.getD j kD,λvs=>a.length - (vs.getD 1 (.i 0)).toI.toNat,⟨0,_,rfl,by omega,λj hj=>by omega⟩,?_⟩;rintro _ - ⟨i,x,rfl,hi,hall⟩;simp only[Tree.goal,X.P,X.ev,SV.ev,CV.ev,Sc.ev,qz,QA,QB,QC,QD,QE,QF,QG,QH,QI,QJ,QK,QL,QM,Nat.reduceAdd,qy3,qy4,gK0,gK1,gK2];refine⟨λh7=>⟨by omega,by omega,λh8 w' hr=>⟨?_,hr.mod⟩,λh8=>⟨by omega,by omega,⟨i+1,x,rfl,by omega,λj hj=>?_⟩,by omega⟩⟩,λh7 w' hr=>⟨?_,hr.mod⟩⟩
  ·rw[decide_eq_false];intro e;rw[e]at h8;exact h8 ⟨rfl,rfl,rfl⟩
  ·by_cases hji:j=i
   ·subst hji;have h9:=qy9.1 h8;exact Prod.ext h9.1 (Prod.ext h9.2.1 h9.2.2)
   ·exact hall j (by omega)
  ·rw[decide_eq_true];refine List.ext_getElem? λj=>?_;by_cases hj:j<a.length
   ·have:=hall j (by omega);rw[qy1,qy1,qy7 hj,qy7 (by omega)]at this;rw[qy7 hj,qy7 (by omega)];simpa using this
   ·rw[List.getElem?_eq_none (by omega),List.getElem?_eq_none (by omega)]
theorem Zcj(p:Kp->Bool)(l:List Kp)(i:Nat)(h:i<l.length):(l.take (i+1)).filter p=(l.take i).filter p++(if p (l.getD i kD)=true then[l.getD i kD]else[]):=by rw[Z13c l i h,List.filter_append,List.filter_cons,List.filter_nil]
theorem Zjk{R l:List Kp}{j:Nat}(h:R.drop j=l.drop j):R.getD j kD=l.getD j kD:=by
 have e:∀q:List Kp,q.getD j kD=(q.drop j).getD 0 kD:=λq=>by simp[qy1]
 rw[e R,e l,h]
theorem Zul{R:List Kp}{m:Nat}{x:Kp}(h:m<R.length):(R.set m x).take (m+1)=R.take m++[x]:=by
 rw[List.take_set,Z13c R m h,List.set_append_right _ _ (by simp;omega)];have:m - (R.take m).length=0:=by simp;omega
 rw[this];rfl
theorem Zum{R:List Kp}{m j:Nat}{x:Kp}(h:m<j):(R.set m x).drop j=R.drop j:=by rw[List.drop_set,if_pos h]
def gotL(w w':World)(e:Ending)(r:List Kp):Prop:=∃v',e=.returned (sc1 v')/\Z3s w' v' r/\newK w.heap.size v'/\Mod [] w w'
theorem Z160(w:World)(v:Value)(l:List Kp)(f:List UInt8)(hv:Z3s w v l)(hs:Z8j l)(hl:l.length<1000000000)(hf:f.length<4294967281):Calls Tryz.prog 159 #[sc1 v,.string ⟨f.toArray⟩] w λe w'=>gotL w w' e (l.filter (forF f)):=by
 refine Z1 (Z3 (J:=[.v v,.r (l.map encK),.s f]) sxE_ok Tryz.func159 Zj1 rfl rfl (Rel.start2 (by simp[Ent.holds,Ent.wr,hv,X.ev])) rfl rfl ?_) rfl;simp only[Tree.goal,X.P,X.ev,SV.ev,CV.ev,Sc.ev,qz,QA,QB,QC,QD,QE,QF,QG,QH,QI,QJ,QK,QL,QM,Nat.reduceAdd,qy3,qy4,gK0,gK1,gK2];intro b1 w1 hr;refine(Zea w1 v l (hr.at_ 2 rfl) (by omega)).mono ?_;rintro e w2 ⟨u,rfl,a1,f1,m1⟩;refine⟨[.v u,.r (l.map encK)],rfl,rfl,m1,qy5 _,qy2.2 ⟨⟨a1,λk hk=>.inl (f1 k hk)⟩,qy5 _⟩,Z5,?_⟩;clear hr a1 f1 m1;simp only[Tree.goal,X.P,X.ev,SV.ev,CV.ev,Sc.ev,qz,QA,QB,QC,QD,QE,QF,QG,QH,QI,QJ,QK,QL,QM,Nat.reduceAdd,qy3,qy4,gK0,gK1,gK2];refine⟨λvs=>∃(i:Nat) (x:V),vs=[x,.i i,.s f]/\i<=l.length/\(l.take i).filter (forF f)=l.take i,λvs=>l.length - (vs.getD 1 (.i 0)).toI.toNat,⟨0,_,rfl,by omega,by simp⟩,?_⟩;rintro _ - ⟨i,x,rfl,hi,hall⟩;simp only[Tree.goal,X.P,X.ev,SV.ev,CV.ev,Sc.ev,qz,QA,QB,QC,QD,QE,QF,QG,QH,QI,QJ,QK,QL,QM,Nat.reduceAdd,qy3,qy4,gK0,gK1,gK2];refine⟨λh1=>⟨by omega,λb2=>?_⟩,λh1 w3 hr=>?_⟩
 ·refine⟨[.b (forF f (l.getD i kD))],rfl,λ_ w' _=>Z133 w' f _ hf (Z6s hs i),?_⟩;simp only[Tree.goal,X.P,X.ev,SV.ev,CV.ev,Sc.ev,qz,QA,QB,QC,QD,QE,QF,QG,QH,QI,QJ,QK,QL,QM,Nat.reduceAdd,qy3,qy4,gK0,gK1,gK2];have hsn:=Zcj (forF f) l i (by omega);refine⟨λh2=>⟨λh3=>absurd h3 (by omega),λh3=>⟨by omega,by omega,?_⟩⟩,λh2=>⟨by omega,by omega,⟨i+1,x,rfl,by omega,?_⟩,by omega⟩⟩
  ·rw[if_neg h2,List.append_nil]at hsn;refine⟨λvs=>∃(m j:Nat) (R:List Kp),vs=[.i m,.i j,.r (R.map encK),.s f]/\R.length=l.length/\m<j/\j<=l.length/\R.take m=(l.take j).filter (forF f)/\R.drop j=l.drop j,λvs=>l.length - (vs.getD 1 (.i 0)).toI.toNat,⟨i,i+1,l,rfl,rfl,by omega,by omega,by rw[hsn,hall],rfl⟩,?_⟩;rintro _ - ⟨m,j,R,rfl,hRl,hmj,hj,htk,hdr⟩;simp only[Tree.goal,X.P,X.ev,SV.ev,CV.ev,Sc.ev,qz,QA,QB,QC,QD,QE,QF,QG,QH,QI,QJ,QK,QL,QM,Nat.reduceAdd,qy3,qy4,gK0,gK1,gK2];refine⟨λh4=>⟨by omega,λb8 b9=>?_⟩,λh4=>?_⟩
   ·have hsn:=Zcj (forF f) l j (by omega);have hRj:=Zjk hdr;have hdr1:R.drop (j+1)=l.drop (j+1):=by rw[<- List.drop_drop,<- List.drop_drop,hdr]
    rw[hRj];refine⟨[.b (forF f (l.getD j kD))],rfl,λ_ w' _=>Z133 w' f _ hf (Z6s hs j),?_⟩;simp only[Tree.goal,X.P,X.ev,SV.ev,CV.ev,Sc.ev,qz,QA,QB,QC,QD,QE,QF,QG,QH,QI,QJ,QK,QL,QM,Nat.reduceAdd,qy3,qy4,gK0,gK1,gK2,hRj];refine⟨λh5=>?_,λh5=>?_⟩
    ·rw[if_pos h5]at hsn;refine⟨by omega,by omega,by omega,by omega,by omega,by omega,⟨m+1,j+1,R.set m (l.getD j kD),?_,by simpa using hRl,by omega,by omega,?_,?_⟩,by omega⟩
     ·rw[<- Zci];rfl
     ·rw[Zul (by omega),htk,hsn]
     ·rw[Zum (by omega),hdr1]
    ·rw[if_neg h5,List.append_nil]at hsn;exact⟨by omega,by omega,⟨m,j+1,R,rfl,hRl,by omega,by omega,by rw[htk,hsn],hdr1⟩,by omega⟩
   ·have:j=l.length:=by omega
    subst this;rw[List.take_length]at htk;refine⟨by omega,by omega,?_,λv9 w5 hr=>?_⟩
    ·simp only[qy11,List.length_take,qy3,List.length_replicate];omega
    ·have e1:(List.take m (List.take m (R.map encK)++List.replicate (R.length - m) [Value.string ⟨[].toArray⟩,.string ⟨[].toArray⟩,.int .i64 0]))=(l.filter (forF f)).map encK:=by
      rw[List.take_append_of_le_length (by simp;omega),List.take_take,Nat.min_self,<- List.map_take,htk]
     have h0:=(hr.at_ 0 rfl).reads;simp only[Tree.goal,X.P,X.ev,SV.ev,CV.ev,Sc.ev,qz,QA,QB,QC,QD,QE,QF,QG,QH,QI,QJ,QK,QL,QM,Nat.reduceAdd,qy3,qy4,gK0,gK1,gK2]at h0;refine⟨v9,rfl,?_,hr.fresh 0 rfl,hr.mod⟩;rw[Z3s,<- e1];exact h0
  ·have h2:forF f (l.getD i kD)=true:=qy9.1 h2;rw[hsn,hall,if_pos h2,Z13c l i (by omega)]
 ·have:i=l.length:=by omega
  subst this;rw[List.take_length]at hall;rw[hall];exact⟨u,rfl,(hr.at_ 1 rfl).reads,hr.fresh 1 rfl,hr.mod⟩
theorem Zze(w:World)(v:Value)(l:List Kp)(f:List UInt8)(hv:Z3s w v l)(hs:Z8j l)(hl:l.length<1000000000)(hf:f.length<4294967281):Calls Tryz.prog 44 #[sc1 v,.string ⟨f.toArray⟩] w λe w'=>gotL w w' e (l.filter (forF f)):=by
 refine Z1 (Z3 (J:=[.v v,.r (l.map encK),.s f]) sxE_ok Tryz.func44 Z7b rfl rfl (Rel.start2 (by simp[Ent.holds,Ent.wr,hv,X.ev])) rfl rfl ?_) rfl;simp only[Tree.goal,X.P,X.ev,SV.ev,CV.ev,Sc.ev,qz,QA,QB,QC,QD,QE,QF,QG,QH,QI,QJ,QK,QL,QM,Nat.reduceAdd,qy3,qy4,gK0,gK1,gK2,List.nil_append];refine⟨λvs=>∃(i:Nat) (x:Value),vs=[.v x,.r (((l.take i).filter (forF f)).map encK),.i i]/\i<=l.length,λvs=>l.length - (vs.getD 2 (.i 0)).toI.toNat,⟨0,_,rfl,by omega⟩,?_⟩;rintro _ - ⟨i,x,rfl,hi⟩;have hlen:((l.take i).filter (forF f)).length<=i:=Nat.le_trans (List.length_filter_le _ _) (by simp;omega);simp only[Tree.goal,X.P,X.ev,SV.ev,CV.ev,Sc.ev,qz,QA,QB,QC,QD,QE,QF,QG,QH,QI,QJ,QK,QL,QM,Nat.reduceAdd,qy3,qy4,gK0,gK1,gK2,List.nil_append];refine⟨λh1=>⟨by omega,?_⟩,λh1 w1 hr=>?_⟩
 ·refine⟨[.b (forF f (l.getD i kD))],rfl,λ_ w' _=>Zu1 w' f _ hf (Z6s hs i),?_⟩;simp only[Tree.goal,X.P,X.ev,SV.ev,CV.ev,Sc.ev,qz,QA,QB,QC,QD,QE,QF,QG,QH,QI,QJ,QK,QL,QM,Nat.reduceAdd,qy3,qy4,gK0,gK1,gK2];have hsn:=Zcj (forF f) l i (by omega);refine⟨λh2 v1=>⟨by omega,λv2=>⟨by omega,by omega,⟨i+1,v2,?_,by omega⟩,by omega⟩⟩,λh2=>⟨by omega,by omega,⟨i+1,x,?_,by omega⟩,by omega⟩⟩
  ·rw[hsn,if_pos h2];simp[encK]
  ·rw[hsn,if_neg h2,List.append_nil];rfl
 ·have:i=l.length:=by omega
  subst this;rw[List.take_length]at hr;exact⟨x,rfl,(hr.at_ 0 rfl).reads,hr.fresh 0 rfl,hr.mod⟩
abbrev Zd:List UInt8->List UInt8->Bool:=Op.bytesLess
theorem Zba(a:List UInt8):Zd a []=false:=by cases a<;>rfl
theorem Z1o:∀a:List UInt8,Zd a a=false
 | []=>rfl
 | a::x=>by simp[Zd,Op.bytesLess,Z1o x,UInt8.lt_irrefl]
theorem Zy:∀{a b c:List UInt8},Zd a b=true->Zd b c=true->Zd a c=true
 | _,[],_,h,_=>by rw[Zba]at h;cases h
 | _,_::_,[],_,h=>by rw[Zba]at h;cases h
 | [],_::_,_::_,_,_=>rfl
 | a::x,b::y,c::z,h1,h2=>by
  simp only[Zd,Op.bytesLess,Bool.or_eq_true,decide_eq_true_eq,Bool.and_eq_true,beq_iff_eq]at h1 h2⊢;rcases h1 with h1|⟨rfl,h1⟩
  ·rcases h2 with h2|⟨rfl,h2⟩
   ·exact .inl (UInt8.lt_trans h1 h2)
   ·exact .inl h1
  ·rcases h2 with h2|⟨rfl,h2⟩
   ·exact .inl h2
   ·exact .inr ⟨rfl,Zy h1 h2⟩
theorem Zbb:∀{a b:List UInt8},Zd a b=false->Zd b a=false->a=b
 | [],[],_,_=>rfl
 | [],_::_,h,_=>by cases h
 | _::_,[],_,h=>by cases h
 | a::x,b::y,h1,h2=>by
  simp only[Zd,Op.bytesLess,Bool.or_eq_false_iff,decide_eq_false_iff_not,Bool.and_eq_false_iff,beq_eq_false_iff_ne]at h1 h2;have hab:a=b:=by
   rcases Nat.lt_trichotomy a.toNat b.toNat with h|h|h
   ·exact absurd (UInt8.lt_iff_toNat_lt.2 h) h1.1
   ·exact UInt8.toNat_inj.1 h
   ·exact absurd (UInt8.lt_iff_toNat_lt.2 h) h2.1
  subst hab;rw[Zbb (h1.2.resolve_left (by simp)) (h2.2.resolve_left (by simp))]
theorem Z3l{a b:List UInt8}(h:Zd a b=true):Zd b a=false:=by
 cases h2:Zd b a with
 | false=>rfl
 | true=>have:=Zy h h2;rw[Z1o]at this;cases this
theorem Zeb{a b:List UInt8}(h:Zd a b=true):a≠b:=by rintro rfl;rw[Z1o]at h;cases h
theorem Z5b{a b:List UInt8}:Zd a b=false↔(Zd b a=true\/b=a):=by
 constructor
 ·intro h;cases h2:Zd b a with
  | true=>exact .inl rfl
  | false=>exact .inr (Zbb h2 h)
 ·rintro(h|rfl)
  ·exact Z3l h
  ·exact Z1o _
def Z3f(a b:List UInt8):Int:=if Zd a b=true then -1 else if a=b then 0 else 1
theorem Zfs:∀a b:List UInt8,Go.Lib.compareBytes a b=Z3f a b
 | [],[]=>rfl
 | [],_::_=>rfl
 | a::x,[]=>by simp[Z3f,Go.Lib.compareBytes,Zba]
 | a::x,b::y=>by
  have ih:=Zfs x y;rw[Go.Lib.compareBytes,ih];unfold Z3f;simp only[Zd,Op.bytesLess,Bool.or_eq_true,decide_eq_true_eq,Bool.and_eq_true,beq_iff_eq,List.cons.injEq];by_cases h1:a<b
  ·simp[h1]
  ·by_cases h2:b<a
   ·have hne:a≠b:=by rintro rfl;exact h1 h2
    simp[h1,h2,hne]
   ·have hab:a=b:=by
     rcases Nat.lt_trichotomy a.toNat b.toNat with h|h|h
     ·exact absurd (UInt8.lt_iff_toNat_lt.2 h) h1
     ·exact UInt8.toNat_inj.1 h
     ·exact absurd (UInt8.lt_iff_toNat_lt.2 h) h2
    subst hab;simp[UInt8.lt_irrefl]
theorem Zbc{a b:List UInt8}:Z3f a b<0↔Zd a b=true:=by
 unfold Z3f;split
 ·simp[*]
 ·rename_i h;have h:Zd a b=false:=by simpa using h
  split<;>simp[h]
theorem Z3m{a b:List UInt8}:Z3f a b=0↔a=b:=by
 unfold Z3f;split
 ·rename_i h;simp only[show ¬((-1:Int)=0) by decide,false_iff];exact Zeb h
 ·split<;>simp[*]
theorem Z7k(w:World)(a b:List UInt8):Calls Tryz.prog 127 #[.string ⟨a.toArray⟩,.string ⟨b.toArray⟩] w λe w'=>e=.returned (.int .i64 (Z3f a b))/\Mod [] w w':=by refine(Any.strings_Compare Tryz.lays106 ⟨a.toArray⟩ ⟨b.toArray⟩ w).mono ?_;rintro e w' ⟨rfl,rfl⟩;rw[Zfs];exact⟨rfl,Mod.refl _ _⟩
abbrev Wt:=List UInt8×List UInt8×Int
def Z7(k:Wt):List Value:=[.string ⟨k.1.toArray⟩,.string ⟨k.2.1.toArray⟩,.int .i64 k.2.2]
abbrev wD_V:Wt:=([],[],0)
abbrev kW_V:List Kd:=[.str,.str,.int .i64]
theorem Z10(l:List Wt)(i:Nat):Value.gS (((l.map Z7).getD i []).getD 0 undef)=(l.getD i wD_V).1:=by simp only[qy1,List.getElem?_map];cases l[i]?<;>simp[Z7,Value.gS,undef]
theorem Z13(l:List Wt)(i:Nat):Value.gS (((l.map Z7).getD i []).getD 1 undef)=(l.getD i wD_V).2.1:=by simp only[qy1,List.getElem?_map];cases l[i]?<;>simp[Z7,Value.gS,undef]
theorem Z1n(l:List Wt)(i:Nat):Value.gI (((l.map Z7).getD i []).getD 2 undef)=(l.getD i wD_V).2.2:=by simp only[qy1,List.getElem?_map];cases l[i]?<;>rfl
abbrev Z1k(w:World)(v:Value)(l:List Wt):Prop:=reads w v kW_V (l.map Z7)
abbrev Z9x(w:World)(v:Value)(l:List Wt):Prop:=owns w v 71 kW_V (l.map Z7)
theorem Zft(l:List Wt)(i:Nat)(h:i<l.length):l.drop i=l.getD i wD_V::l.drop (i+1):=by rw[List.drop_eq_getElem_cons h,qy1,qy7 h];rfl
theorem Zfu(l:List Wt)(i:Nat)(h:i<l.length):l.take (i+1)=l.take i++[l.getD i wD_V]:=by rw[List.take_add_one,qy1,qy7 h];rfl
theorem memW(l:List Wt)(i:Nat)(h:i<l.length):l.getD i wD_V∈l:=by rw[qy1,qy7 h];exact List.getElem_mem h
def smW(x:Wt):Prop:=x.1.length<1000000000/\x.2.1.length<1000000000
def Z1y(l:List Wt):Prop:=∀x∈l,smW x
theorem Z7l{l:List Wt}(h:Z1y l)(i:Nat):smW (l.getD i wD_V):=by
 by_cases hi:i<l.length
 ·exact h _ (memW l i hi)
 ·rw[qy1,List.getElem?_eq_none (by omega)];exact⟨by decide,by decide⟩
abbrev Ky:=List UInt8×List UInt8
def ky(x:Wt):Ky:=(x.1,x.2.1)
def ltP(a b:Ky):Bool:=Zd a.1 b.1 || (decide (a.1=b.1) && Zd a.2 b.2)
theorem Z9y{a b:Ky}:ltP a b=true↔Zd a.1 b.1=true\/a.1=b.1/\Zd a.2 b.2=true:=by simp[ltP]
theorem Zck(a:Ky):ltP a a=false:=by simp[ltP,Z1o]
theorem Z5c{a b c:Ky}(h1:ltP a b=true)(h2:ltP b c=true):ltP a c=true:=by
 rw[Z9y]at *;rcases h1 with h1|⟨e1,h1⟩<;>rcases h2 with h2|⟨e2,h2⟩
 ·exact .inl (Zy h1 h2)
 ·exact .inl (by rw[<- e2];exact h1)
 ·exact .inl (by rw[e1];exact h2)
 ·exact .inr ⟨e1.trans e2,Zy h1 h2⟩
theorem Zbd{a b:Ky}(h:ltP a b=true):ltP b a=false:=by
 cases h2:ltP b a with
 | false=>rfl
 | true=>have:=Z5c h h2;rw[Zck]at this;cases this
theorem Zhr{a b:Ky}(h:ltP a b=true):a≠b:=by rintro rfl;rw[Zck]at h;cases h
theorem Z13f{a b:Ky}(h1:ltP a b=false)(h2:ltP b a=false):a=b:=by have e:a.1=b.1:=Zbb (by cases h:Zd a.1 b.1 with|false=>rfl|true=>rw[Z9y.2 (.inl h)]at h1;cases h1) (by cases h:Zd b.1 a.1 with|false=>rfl|true=>rw[Z9y.2 (.inl h)]at h2;cases h2);have f:a.2=b.2:=Zbb (by cases h:Zd a.2 b.2 with|false=>rfl|true=>rw[Z9y.2 (.inr ⟨e,h⟩)]at h1;cases h1) (by cases h:Zd b.2 a.2 with|false=>rfl|true=>rw[Z9y.2 (.inr ⟨e.symm,h⟩)]at h2;cases h2);exact Prod.ext e f
theorem Zn9{a b:Ky}:ltP a b=false↔(ltP b a=true\/b=a):=by
 constructor
 ·intro h;cases h2:ltP b a with
  | true=>exact .inl rfl
  | false=>exact .inr (Z13f h2 h)
 ·rintro(h|rfl)
  ·exact Zbd h
  ·exact Zck _
def cmpP(a b:Ky):Int:=if Z3f a.1 b.1=0 then Z3f a.2 b.2 else Z3f a.1 b.1
theorem Zun{a b:Ky}:cmpP a b<0↔ltP a b=true:=by
 unfold cmpP;rw[Z9y];by_cases h:Z3f a.1 b.1=0
 ·rw[if_pos h,Zbc];have e:=Z3m.1 h;constructor
  ·exact λh2=>.inr ⟨e,h2⟩
  ·rintro(h2|h2)
   ·exact absurd e (Zeb h2)
   ·exact h2.2
 ·rw[if_neg h,Zbc];constructor
  ·exact .inl
  ·rintro(h2|h2)
   ·exact h2
   ·exact absurd (Z3m.2 h2.1) h
theorem Zuo{a b:Ky}:cmpP a b=0↔a=b:=by
 unfold cmpP;by_cases h:Z3f a.1 b.1=0
 ·rw[if_pos h,Z3m];exact⟨λh2=>Prod.ext (Z3m.1 h) h2,λh2=>by rw[h2]⟩
 ·rw[if_neg h];exact⟨λh2=>absurd h2 h,λh2=>absurd (Z3m.2 (by rw[h2])) h⟩
theorem Zup{a b:Ky}:0<=cmpP a b↔ltP a b=false:=by
 have:=@Zun a b;cases h:ltP a b with
 | true=>rw[h]at this;simp at this⊢;exact this
 | false=>rw[h]at this;simp at this⊢;exact this
def Z7m(l:List Wt):Prop:=l.Pairwise λa b=>ltP (ky a) (ky b)=true
theorem Zjl{l:List Wt}(h:Z7m l){i j:Nat}(hij:i<j)(hj:j<l.length):ltP (ky (l.getD i wD_V)) (ky (l.getD j wD_V))=true:=by rw[Z7m,List.pairwise_iff_getElem]at h;have:=h i j (by omega) hj hij;simpa[qy1,qy7 hj,qy7 (Nat.lt_trans hij hj)]using this
def idxW(l:List Wt)(n:Ky):Nat:=(l.filter λk=>ltP (ky k) n).length
theorem Zuq{l:List Wt}{n:Ky}{i:Nat}(hi:i<=l.length)(h1:∀j,j<i->ltP (ky (l.getD j wD_V)) n=true)(h2:∀j,i<=j->j<l.length->ltP (ky (l.getD j wD_V)) n=false):i=idxW l n:=by
 have e:l=l.take i++l.drop i:=(List.take_append_drop i l).symm;have f1:(l.take i).filter (λk=>ltP (ky k) n)=l.take i:=by
  rw[List.filter_eq_self];intro x hx;obtain⟨j,hj,rfl⟩:=List.mem_iff_getElem.1 hx;have hj':j<i:=by simp at hj;omega
  have:=h1 j hj';rw[List.getElem_take];simpa[qy1,qy7 (show j<l.length by omega)]using this
 have f2:(l.drop i).filter (λk=>ltP (ky k) n)=[]:=by
  rw[List.filter_eq_nil_iff];intro x hx;obtain⟨j,hj,rfl⟩:=List.mem_iff_getElem.1 hx;have hj':i+j<l.length:=by simp at hj;omega
  have:=h2 (i+j) (by omega) hj';rw[List.getElem_drop];simpa[qy1,qy7 hj']using this
 rw[idxW,e,List.filter_append,f1,f2];simp;omega
theorem Zur(l:List Wt)(n:Ky):idxW l n<=l.length:=List.length_filter_le _ _
def hasW(l:List Wt)(n:Ky):Bool:=decide (idxW l n<l.length/\ky (l.getD (idxW l n) wD_V)=n)
theorem Z180(i j:Nat)(h:i+j<4000000000):Int.fdiv (IntKind.u64.wrap ((i:Int)+j)) (2 ^ (Nat.min (Int.toNat 1) IntKind.u64.bits))=(((i+j) / 2:Nat):Int):=by
 have e:(2:Int) ^ (Nat.min (Int.toNat 1) IntKind.u64.bits)=2:=by decide
 rw[e,IntKind.wrap_u64,Int.emod_eq_of_lt (by omega) (by omega),Int.fdiv_eq_ediv_of_nonneg _ (by decide)];omega
def loW(l:List Wt)(n:Ky):List Wt:=l.filter λk=>ltP (ky k) n
def miW(l:List Wt)(n:Ky):List Wt:=l.filter λk=>decide (ky k=n)
def hiW(l:List Wt)(n:Ky):List Wt:=l.filter λk=>ltP n (ky k)
theorem Z6u{p:Wt->Bool}{l:List Wt}(h:∀x∈l,p x=false):l.filter p=[]:=by rw[List.filter_eq_nil_iff];intro x hx;rw[h x hx];decide
theorem Z8k{p:Wt->Bool}{l:List Wt}(h:∀x∈l,p x=true):l.filter p=l:=List.filter_eq_self.2 h
theorem Zhs:∀(l:List Wt) (n:Ky),Z7m l->l=loW l n++miW l n++hiW l n/\(miW l n).length<=1
 | [],_,_=>by simp[loW,miW,hiW]
 | k::r,n,h=>by
  obtain⟨h1,h2⟩:=List.pairwise_cons.1 h;obtain⟨e,hm⟩:=Zhs r n h2;cases hk:ltP (ky k) n with
  | true =>
   have a1:loW (k::r) n=k::loW r n:=by simp[loW,hk]
   have a2:miW (k::r) n=miW r n:=by simp[miW,Zhr hk]
   have a3:hiW (k::r) n=hiW r n:=by simp[hiW,Zbd hk]
   rw[a1,a2,a3];exact⟨by rw[List.cons_append,List.cons_append,<- e],hm⟩
  | false =>
   have hgt:∀x∈r,ltP n (ky x)=true:=λx hx=>by
    rcases Zn9.1 hk with h3|h3
    ·exact Z5c h3 (h1 x hx)
    ·rw[h3];exact h1 x hx
   have b1:loW r n=[]:=Z6u λx hx=>Zbd (hgt x hx);have b2:miW r n=[]:=Z6u λx hx=>decide_eq_false (λe=>by have:=hgt x hx;rw[e,Zck]at this;cases this);have b3:hiW r n=r:=Z8k hgt;have a1:loW (k::r) n=[]:=by rw[loW,List.filter_cons,hk];exact b1
   rcases Zn9.1 hk with h3|h3
   ·have a2:miW (k::r) n=[]:=by rw[miW,List.filter_cons,decide_eq_false (Zhr h3).symm];exact b2
    have a3:hiW (k::r) n=k::r:=by rw[hiW,List.filter_cons,h3,if_pos rfl];exact congrArg (List.cons k) b3
    rw[a1,a2,a3];simp
   ·have a2:miW (k::r) n=[k]:=by rw[miW,List.filter_cons,decide_eq_true h3.symm,if_pos rfl];exact congrArg (List.cons k) b2
    have a3:hiW (k::r) n=r:=by
     have:ltP n (ky k)=false:=by rw[<- h3];exact Zck _
     rw[hiW,List.filter_cons,this];exact b3
    rw[a1,a2,a3];simp
theorem Zzf{l:List Wt}{n:Ky}(h:Z7m l):l.take (idxW l n)=loW l n:=by
 have e:=(Zhs l n h).1
 calc l.take (loW l n).length=(loW l n++miW l n++hiW l n).take (loW l n).length:=by rw[<- e]
  _=loW l n:=by rw[List.append_assoc,List.take_left]
theorem Zpb{l:List Wt}{n:Ky}(h:Z7m l):l.drop (idxW l n)=miW l n++hiW l n:=by
 have e:=(Zhs l n h).1
 calc l.drop (loW l n).length=(loW l n++miW l n++hiW l n).drop (loW l n).length:=by rw[<- e]
  _=miW l n++hiW l n:=by rw[List.append_assoc,List.drop_left]
theorem Z161{l:List Wt}{n:Ky}(h:Z7m l):l.getD (idxW l n) wD_V=(miW l n++hiW l n).getD 0 wD_V:=by rw[<- Zpb h];simp[qy1]
theorem Zus{l:List Wt}{n:Ky}(h:Z7m l):l.length=idxW l n+(miW l n).length+(hiW l n).length:=by have e:=congrArg List.length (Zhs l n h).1;rw[qy11,qy11]at e;exact e
theorem Zpc{l:List Wt}{n:Ky}(h:Z7m l):(hasW l n=true/\∃k,miW l n=[k]/\ky k=n)\/(hasW l n=false/\miW l n=[]):=by
 have hl:=Zus (n:=n) h;have ha:=Z161 (n:=n) h;have hm:=(Zhs l n h).2
 match he:miW l n,hm with
 | [],_ =>
  rw[he]at hl ha;refine .inr ⟨?_,rfl⟩;rw[hasW,decide_eq_false];rintro⟨h1,h2⟩;rw[ha]at h2
  match hb:hiW l n with
  | []=>rw[hb]at hl;simp at hl;omega
  | x::r =>
   rw[hb]at h2;have:x∈hiW l n:=by rw[hb];exact qy8 ..
   have h3:=(List.mem_filter.1 this).2;have h2:ky x=n:=h2;rw[h2,Zck]at h3;cases h3
 | [k],_ =>
  have:k∈miW l n:=by rw[he];exact qy8 ..
  have hk:ky k=n:=by simpa using(List.mem_filter.1 this).2
  rw[he]at hl ha;refine .inl ⟨?_,k,rfl,hk⟩;rw[hasW,decide_eq_true];refine⟨by rw[hl];simp;omega,?_⟩;rw[ha];exact hk
abbrev Rd:=List UInt8×Int
def encY(k:Rd):List Value:=[.string ⟨k.1.toArray⟩,.int .i64 k.2]
abbrev yD:Rd:=([],0)
abbrev kY:List Kd:=[.str,.int .i64]
theorem gY0(l:List Rd)(i:Nat):Value.gS (((l.map encY).getD i []).getD 0 undef)=(l.getD i yD).1:=by simp only[qy1,List.getElem?_map];cases l[i]?<;>simp[encY,Value.gS,undef]
theorem gY1(l:List Rd)(i:Nat):Value.gI (((l.map encY).getD i []).getD 1 undef)=(l.getD i yD).2:=by simp only[qy1,List.getElem?_map];cases l[i]?<;>rfl
abbrev Zzg(w:World)(v:Value)(l:List Rd):Prop:=owns w v 142 kY (l.map encY)
theorem Z181(l:List Rd)(i:Nat)(h:i<l.length):l.take (i+1)=l.take i++[l.getD i yD]:=by rw[List.take_add_one,qy1,qy7 h];rfl
theorem memY(l:List Rd)(i:Nat)(h:i<l.length):l.getD i yD∈l:=by rw[qy1,qy7 h];exact List.getElem_mem h
def forW(n:List UInt8)(w:Wt):Bool:=mt (lev w.2.1) (lev n)
def bst(n c:List UInt8):Option Int->List Wt->Option Int
 | o,[]=>o
 | o,w::r=>bst n c (if forW n w=true/\w.1=c then some (max (o.getD 0) w.2.2)else o) r
theorem Zht(n c:List UInt8):∀(a b:List Wt) (o:Option Int),bst n c o (a++b)=bst n c (bst n c o a) b
 | [],_,_=>rfl
 | _::a,b,_=>Zht n c a b _
theorem Zbe(n c:List UInt8)(a:List Wt)(w:Wt)(o:Option Int):bst n c o (a++[w])=if forW n w=true/\w.1=c then some (max ((bst n c o a).getD 0) w.2.2)else bst n c o a:=by rw[Zht];rfl
theorem Zpd{n c:List UInt8}:∀{l:List Wt},(∀w∈l,w.1≠c)->bst n c none l=none
 | [],_=>rfl
 | w::r,h=>by rw[bst,if_neg (λh2=>h w (qy8 ..) h2.2)];exact Zpd λx hx=>h x (qy10 _ hx)
theorem Zut{n c:List UInt8}:∀{l:List Wt} {o:Option Int} {q:Int},(∀w∈l,0<=w.2.2)->bst n c o l=some q->o=some q\/∃w∈l,forW n w=true/\w.1=c/\w.2.2=q
 | [],o,q,_,h=>.inl h
 | w::r,o,q,hn,h=>by
  rw[bst]at h;have hn':∀x∈r,0<=x.2.2:=λx hx=>hn x (qy10 _ hx);by_cases h1:forW n w=true/\w.1=c
  ·rw[if_pos h1]at h;rcases Zut hn' h with h2|⟨x,hx,h2⟩
   ·have h3:=Option.some.inj h2;have h0:=hn w (qy8 ..);cases o with
    | none =>
     simp only[Option.getD_none]at h3;exact .inr ⟨w,qy8 ..,h1.1,h1.2,by omega⟩
    | some y =>
     simp only[Option.getD_some]at h3;by_cases h4:w.2.2<=y
     ·exact .inl (by congr 1;omega)
     ·exact .inr ⟨w,qy8 ..,h1.1,h1.2,by omega⟩
   ·exact .inr ⟨x,qy10 _ hx,h2⟩
  ·rw[if_neg h1]at h;rcases Zut hn' h with h2|⟨x,hx,h2⟩
   ·exact .inl h2
   ·exact .inr ⟨x,qy10 _ hx,h2⟩
def Zuu(l:List Rd):Prop:=l.Pairwise λa b=>Zd a.1 b.1=true
theorem Zhu:∀{a b:List Rd},Zuu a->Zuu b->(∀x,x∈a↔x∈b)->a=b
 | [],[],_,_,_=>rfl
 | [],y::b,_,_,h=>absurd ((h y).2 (qy8 ..)) (by simp)
 | x::a,[],_,_,h=>absurd ((h x).1 (qy8 ..)) (by simp)
 | x::a,y::b,ha,hb,h=>by
  obtain⟨a1,a2⟩:=List.pairwise_cons.1 ha;obtain⟨b1,b2⟩:=List.pairwise_cons.1 hb;have e:x=y:=by
   rcases List.mem_cons.1 ((h x).1 (qy8 ..))with e|h1
   ·exact e
   ·rcases List.mem_cons.1 ((h y).2 (qy8 ..))with e|h2
    ·exact e.symm
    ·have:=Z3l (b1 x h1);rw[a1 y h2]at this;cases this
  subst e;congr 1
  refine Zhu a2 b2 λz=>⟨λhz=>?_,λhz=>?_⟩
  ·rcases List.mem_cons.1 ((h z).1 (qy10 _ hz))with e|h1
   ·have:=a1 z hz;rw[e,Z1o]at this;cases this
   ·exact h1
  ·rcases List.mem_cons.1 ((h z).2 (qy10 _ hz))with e|h1
   ·have:=b1 z hz;rw[e,Z1o]at this;cases this
   ·exact h1
def addY(out:List Rd)(w:Wt):List Rd :=
 match out.getLast? with
 | none=>[(w.1,max 0 w.2.2)]
 | some x=>if x.1=w.1 then out.dropLast++[(x.1,max x.2 w.2.2)]else out++[(w.1,max 0 w.2.2)]
theorem Zjm(w:Wt):addY [] w=[(w.1,max 0 w.2.2)]:=rfl
theorem Zbf(o:List Rd)(x:Rd)(w:Wt):addY (o++[x]) w=if x.1=w.1 then o++[(x.1,max x.2 w.2.2)]else o++[x]++[(w.1,max 0 w.2.2)]:=by simp[addY]
def rdF(n:List UInt8)(out:List Rd)(l:List Wt):List Rd:=l.foldl (λout w=>if forW n w=true then addY out w else out) out
def rdOf(n:List UInt8)(l:List Wt):List Rd:=rdF n [] l
def okY(n:List UInt8)(out:List Rd)(l:List Wt):Prop:=Zuu out/\∀c q,(c,q)∈out↔bst n c none l=some q
theorem Z13g{n c:List UInt8}{l:List Wt}{q:Int}(h:bst n c none l=some q):∃w∈l,w.1=c:=by refine Classical.byContradiction λhn=>?_;rw[Zpd λw hw e=>hn ⟨w,hw,e⟩]at h;cases h
theorem Zzh{n:List UInt8}{out:List Rd}{l:List Wt}(h:okY n out l){w:Wt}(hf:¬forW n w=true):okY n out (l++[w]) :=
 ⟨h.1,λc q=>by rw[Zbe,if_neg (λh2=>hf h2.1)];exact h.2 c q⟩
theorem Zzi{n:List UInt8}{out:List Rd}{l:List Wt}(h:okY n out l){w:Wt}(hs:∀x∈l,x.1=w.1\/Zd x.1 w.1=true)(hf:forW n w=true):okY n (addY out w) (l++[w]):=by
 obtain⟨h1,h2⟩:=h;have hle:∀x∈out,x.1=w.1\/Zd x.1 w.1=true:=λx hx=>by obtain⟨y,hy,e⟩:=Z13g ((h2 x.1 x.2).1 hx);rw[<- e];exact hs y hy
 have hb:∀c q,bst n c none (l++[w])=some q↔(c=w.1/\q=max ((bst n w.1 none l).getD 0) w.2.2)\/(c≠w.1/\(c,q)∈out):=by
  intro c q;rw[Zbe];by_cases hc:w.1=c
  ·subst hc;rw[if_pos ⟨hf,rfl⟩];constructor
   ·intro e;exact .inl ⟨rfl,(Option.some.inj e).symm⟩
   ·rintro(⟨-,e⟩|⟨e,-⟩)
    ·rw[e]
    ·exact absurd rfl e
  ·rw[if_neg (λh3=>hc h3.2),<- h2 c q];constructor
   ·exact λe=>.inr ⟨λe2=>hc e2.symm,e⟩
   ·rintro(⟨e,-⟩|⟨-,e⟩)
    ·exact absurd e.symm hc
    ·exact e
 have hno:(∀x∈out,x.1≠w.1)->bst n w.1 none l=none:=λh3=>by
  cases h4:bst n w.1 none l with
  | none=>rfl
  | some q=>exact absurd rfl (h3 _ ((h2 _ q).2 h4))
 rcases List.eq_nil_or_concat out with rfl|⟨o,x,rfl⟩
 ·rw[Zjm];refine⟨List.pairwise_singleton _ _,λc q=>?_⟩;rw[hb,hno (by simp)];simp only[qy12,Option.getD_none,List.not_mem_nil,and_false,or_false,Prod.mk.injEq]
 ·rw[List.concat_eq_append]at h1 h2 hle hb hno⊢;rw[Zbf];have ho:∀y∈o,Zd y.1 x.1=true:=λy hy=>(List.pairwise_append.1 h1).2.2 y hy x (qy12.2 rfl);have hol:Zuu o:=(List.pairwise_append.1 h1).1;by_cases hx:x.1=w.1
  ·rw[if_pos hx];have hv:bst n w.1 none l=some x.2:=by rw[<- hx];exact(h2 x.1 x.2).1 (List.mem_append_right _ (qy12.2 rfl))
   refine⟨List.pairwise_append.2 ⟨hol,List.pairwise_singleton _ _,λy hy z hz=>by rw[qy12.1 hz];exact ho y hy⟩,λc q=>?_⟩;rw[hb,hv];simp only[Option.getD_some,qy13,qy12,Prod.mk.injEq,hx];constructor
   ·rintro(h3|h3)
    ·refine .inr ⟨λe=>?_,.inl h3⟩;have:=ho _ h3;rw[e,<- hx,Z1o]at this;cases this
    ·exact .inl h3
   ·rintro(h3|⟨h3,h4|h4⟩)
    ·exact .inr h3
    ·exact .inl h4
    ·exact absurd (by have:=congrArg Prod.fst h4;simp only at this;rw[this,hx]) h3
  ·rw[if_neg hx];have hlt:Zd x.1 w.1=true:=(hle x (List.mem_append_right _ (qy12.2 rfl))).resolve_left hx;have hall:∀y∈o++[x],Zd y.1 w.1=true:=λy hy=>by
    rcases qy13.1 hy with hy|hy
    ·exact Zy (ho y hy) hlt
    ·rw[qy12.1 hy];exact hlt
   refine⟨List.pairwise_append.2 ⟨h1,List.pairwise_singleton _ _,λy hy z hz=>by rw[qy12.1 hz];exact hall y hy⟩,λc q=>?_⟩;rw[hb,hno λy hy=>Zeb (hall y hy)];rw[qy13,qy12,Prod.mk.injEq,Option.getD_none];constructor
   ·rintro(h3|h3)
    ·exact .inr ⟨Zeb (hall _ h3),h3⟩
    ·exact .inl h3
   ·rintro(h3|h3)
    ·exact .inr h3
    ·exact .inl h3.2
def Zzj(l:List Wt):Prop:=l.Pairwise λa b=>a.1=b.1\/Zd a.1 b.1=true
theorem Zhv{l:List Wt}(h:Z7m l):Zzj l:=h.imp λ{a b} h2=>by
 rcases Z9y.1 h2 with h3|h3
 ·exact .inr h3
 ·exact .inl h3.1
theorem Z11n{n:List UInt8}:∀(l d:List Wt) (out:List Rd),Zzj (d++l)->okY n out d->okY n (rdF n out l) (d++l)
 | [],d,out,_,h=>by rw[List.append_nil];exact h
 | w::r,d,out,hr,h=>by
  have e:d++w::r=d++[w]++r:=by simp
  rw[e]at hr⊢;rw[rdF,List.foldl_cons];refine Z11n r (d++[w]) _ hr ?_;have hd:∀x∈d,x.1=w.1\/Zd x.1 w.1=true:=λx hx=>(List.pairwise_append.1 (List.pairwise_append.1 hr).1).2.2 x hx w (qy12.2 rfl);by_cases hf:forW n w=true
  ·rw[if_pos hf];exact Zzi h hd hf
  ·rw[if_neg hf];exact Zzh h hf
theorem Zuv{n:List UInt8}{l:List Wt}(h:Zzj l):okY n (rdOf n l) l:=by have:=Z11n (n:=n) l [] [] (by simpa using h) ⟨List.Pairwise.nil,λc q=>by simp[bst]⟩;simpa[rdOf]using this
theorem Zjn(n:List UInt8):∀(l:List Wt) (out:List Rd),(rdF n out l).length<=out.length+l.length
 | [],out=>Nat.le_refl _
 | w::r,out=>by
  have:=Zjn n r (if forW n w=true then addY out w else out);rw[rdF,List.foldl_cons];refine Nat.le_trans this ?_;have:(if forW n w=true then addY out w else out).length<=out.length+1:=by
   split
   ·rcases List.eq_nil_or_concat out with rfl|⟨o,x,rfl⟩
    ·simp[Zjm]
    ·rw[List.concat_eq_append,Zbf];split<;>simp
   ·omega
  simp only[List.length_cons];omega
open Go Go.Shelf Go.RowKit Go.Lib
set_option maxRecDepth 100000 in
theorem Zuw:Zfq Tryz.prog 197:=by
  intro w b n c i vb vc hi hc hb;go_enter Tryz.func197,Tryz.ntmps197
  go_wp2
  all_goals (go_ret;exact⟨rfl,rfl⟩)
set_option maxRecDepth 100000 in
theorem Zzk:Zlk Tryz.prog 197 23:=by
  intro w b n c vb m vc hm hc hb v' w' hrun;have hz1:¬((m:Int)=0):=by omega
  go_enter Tryz.func197,Tryz.ntmps197
  go_wp2_with (at_builtin;refine Lib.wpList_append_run _ rfl _ _ _ _ rfl _ _ rfl rfl _ _ (hrun _) ?_)
  all_goals (go_ret;exact⟨rfl,rfl⟩)
set_option maxRecDepth 100000 in
theorem Zrd:Zb9 Tryz.prog 197 225 23 3:=by
  intro w g n c i vb m vc cur1 cur2 hi hm hroom hc63 hov hcp1 hcp2;obtain⟨hz1,hz2,hw1,hw2,hb1,hin,htn,htn2,hb3,-⟩:=insN hi hm (by omega);have hb2:¬(c=i+m):=by omega
  have hb4:¬(c=i):=by omega
  have mixed:Tryz.prog.follows Departure.mixedOrders=true:=by kernel_rfl
  go_enter Tryz.func197,Tryz.ntmps197
  go_wp2_with (simp only[hov])
  go_region_law_o (refine step_copy_runI rfl _ _ 23 23 rfl _ _ (by simp[Act.eval,Act.put]) (by simp[Act.eval,Act.put]) (hcp1 _ _ _) ?_)
  go_wp2_with (at_builtin;refine wpList_copy_runI _ rfl _ _ 23 23 rfl _ _ rfl rfl (hcp2 _ rfl _ _) ?_)
  go_ret
  first|exact⟨rfl,rfl⟩|exact⟨rfl,by rw[setRow_setRow]⟩
set_option maxRecDepth 100000 in
theorem Zux:Zfr Tryz.prog 197 71 23 3 3:=by
  intro w g n c i vb m vc G ROW cur2 cur3 hi hm hnc hroom hGn hG63 hrz hcpA hcpB Q hfin;obtain⟨hz1,hz2,hw1,-,hb1,hin,htn,-,-,hb3⟩:=insN hi hm (by omega);have hz3:(c:Int)<(n:Int)+(m:Int):=by omega
  have hGi:¬(G=i):=by omega
  have hGim:¬(G=i+m):=by omega
  have hci:¬(c=i):=by omega
  have mixed:Tryz.prog.follows Departure.mixedOrders=true:=by kernel_rfl
  have hE1:((w.alloc (.cells ROW 71)).drew).heap=(w.drew.alloc (.cells ROW 71)).heap:=rfl;have hF1:(((w.alloc (.cells ROW 71)).drew.setRow w.heap.size cur2).drew).heap=((w.drew.alloc (.cells ROW 71)).setRow w.heap.size cur2).heap:=rfl;go_enter Tryz.func197,Tryz.ntmps197
  go_wp2_with (first
    | (at_builtin;refine Lib.wpList_append_run _ rfl _ _ _ _ rfl _ _ rfl rfl _ _ (hrz _) ?_)
    | (at_builtin;refine wpList_copy_runI _ rfl _ _ 23 23 rfl _ _ rfl rfl (hcpA _ hE1 _ _) ?_)
    | (at_builtin;refine wpList_copy_runI _ rfl _ _ 23 23 rfl _ _ rfl rfl (hcpB _ hF1 _ _ _) ?_))
  go_region_law_o (refine step_copy_runI rfl _ _ 23 23 rfl (.slice (some ⟨w.heap.size,(i+m)*3,none⟩) (n+m - (i+m)) (G - (i+m))) (.slice (some ⟨g,i*3,none⟩) (n - i) (c - i)) (by simp[Act.eval,Act.put]) (by simp[Act.eval,Act.put]) (hcpB _ hF1 3 (G - (i+m)) (c - i)) ?_)
  go_wp2
  exact hfin _ rfl rfl rfl rfl
theorem Zuy(w:World)(s v:Value)(i:Nat)(R V:List (List Value))(hs:owns w s 71 [.str,.str,.int .i64] R)(hv:owns w v 71 [.str,.str,.int .i64] V)(hne:∀k,Z2 s k->Z2 v k->False)(hi:i<=R.length)(hb:(R.length+V.length)*40<=140737488355328) : Calls Tryz.prog 197 #[s,.int .i64 i,v] w λe w'=>∃v',e=.returned v'/\Zfp w w' s v' 71 [.str,.str,.int .i64] (R.take i++V++R.drop i) :=
  Zji (K:=3) Tryz.underlying23 Tryz.underlying3 (by kernel_rfl) rfl (by decide) (by decide) (λargs w=>run_callFunc_extern Tryz.func225 (by kernel_rfl) (by kernel_rfl) (by kernel_rfl) (e:=Extern.SlicesOverlaps.overlaps #[23,23] #[4]) (by kernel_rfl) args w) Zuw Zzk Zrd Zux w s v i R V hs hv hne hi hb
def pw:Nat->Nat
 | 0=>1
 | k+1=>256*pw k
theorem Zna{a b:Nat}(h:a<=b):pw a<=pw b:=by
 induction h with
 | refl=>exact Nat.le_refl _
 | step _ ih=>simp only[pw];omega
def numB(k:Nat)(n:Int):List UInt8:=(List.range k).map λj=>UInt8.ofNat (n / pw (k - 1 - j) % 256).toNat
theorem Z13h(n:Int)(s:Nat)(hs:s<64):n.fdiv (2 ^ (Nat.min s IntKind.i64.bits))=n / (2 ^ s:Nat):=by have:Nat.min s IntKind.i64.bits=s:=Nat.min_eq_left (by show s<=64;omega);rw[this,Int.fdiv_eq_ediv_of_nonneg _ (by exact Int.pow_nonneg (by omega))];simp
theorem Zuz(n:Int):IntKind.u8.wrap n=n % 256:=IntKind.wrap_u8 n
theorem Z162(N m:Nat):((N:Int) / (pw m:Int)) / 256=(N:Int) / (pw (m+1):Int):=by
 have h:(N / pw m) / 256=N / pw (m+1):=by rw[Nat.div_div_eq_div_mul,Nat.mul_comm];rfl
 rw[<- Int.natCast_ediv,<- Int.natCast_ediv,<- h];rfl
theorem Z13i(w:World)(n:Int)(k:Nat)(hk:k<=8)(h0:0<=n)(h1:n<=9223372036854775807) : Calls Tryz.prog 243 #[.int .i64 n,.int .i64 k] w λe w'=>e=.returned (.string ⟨(numB k n).toArray⟩)/\Mod [] w w':=by
 refine Z1 (Z9 (J:=[.i n,.i k]) sxE_ok Tryz.func243 Zf8 rfl rfl rfl ?_) rfl;simp only[Tree.goal,X.P,X.ev,SV.ev,CV.ev,Sc.ev,qz,QA,QB,QC,QD,QE,QF,QG,QH,QI,QJ,QK,QL,QM,Nat.reduceAdd];refine⟨λvs=>∃(m:Nat) (v:Value),vs=[.i (n / pw m),.v v,.r ((List.range m).map λj=>[.int .u8 (n / pw j % 256)]),.i m]/\m<=k,λvs=>(k - (vs.getD 3 (.i 0)).toI).toNat,⟨0,.slice none 0 0,by simp[pw],by omega⟩,?_⟩;rintro _ - ⟨m,v,rfl,hm⟩;simp only[Tree.goal,X.P,X.ev,SV.ev,CV.ev,Sc.ev,qz,QA,QB,QC,QD,QE,QF,QG,QH,QI,QJ,QK,QL,QM,Nat.reduceAdd];refine⟨λh=>?_,λh=>?_⟩
 ·intro v1;refine⟨by simp;omega,λv2=>⟨by omega,by omega,⟨m+1,v2,?_,by omega⟩,by omega⟩⟩;have e1:(n / pw m) / 256=n / pw (m+1):=by
   obtain⟨N,rfl⟩:=Int.eq_ofNat_of_zero_le h0;exact Z162 N m
  have e2:Int.toNat 8=8:=rfl;simp only[List.range_succ,List.map_append,List.map_cons,List.map_nil,List.cons.injEq,V.i.injEq,V.v.injEq,V.r.injEq,and_true,Zuz,e2,Z13h _ 8 (by omega),Nat.reducePow,true_and];exact⟨e1,by omega⟩
 ·have hmk:m=k:=by omega
  subst hmk;have hl:((List.range m).map λj=>[Value.int .u8 (n / pw j % 256)]).length=m:=by simp
  refine⟨by omega,by omega,λvs=>∃(i:Nat) (h:Nat->Int),vs=[.i i,.i ((m:Int) - 1 - i),.r ((List.range m).map λx=>[.int .u8 (h x)])]/\2*i<=m+1/\∀x,x<m->h x=if x<i\/m - 1<x+i then n / pw (m - 1 - x) % 256 else n / pw x % 256,
   λvs=>((vs.getD 1 (.i 0)).toI+1 - (vs.getD 0 (.i 0)).toI).toNat,⟨0,λx=>n / pw x % 256,by simp,by omega,λx hx=>by rw[if_neg (by omega)]⟩,?_⟩
  rintro _ - ⟨i,h,rfl,hi,hh⟩;simp only[Tree.goal,X.P,X.ev,SV.ev,CV.ev,Sc.ev,qz,QA,QB,QC,QD,QE,QF,QG,QH,QI,QJ,QK,QL,QM,Nat.reduceAdd];refine⟨λhc=>?_,λhc=>?_⟩
  ·obtain⟨j,hj⟩:∃j:Nat,(m:Int) - 1 - i=j:=⟨m - 1 - i,by omega⟩
   rw[hj]at hc⊢;have hjm:j<m:=by omega
   have him:i<m:=by omega
   have hget:∀x:Nat,x<m->((List.range m).map λx=>[Value.int .u8 (h x)]).getD x []=[Value.int .u8 (h x)]:=λx hx=>by simp[qy1,List.getElem?_map,List.getElem?_range hx]
   have q1:((j:Nat):Int)<(m:Int):=by omega
   have q2:((i:Nat):Int)<(m:Int):=by omega
   have q3:(0:Int)<=(i:Int):=by omega
   have q4:(0:Int)<=(j:Int):=by omega
   have q5:(-9223372036854775808:Int)<=(i:Int)+1:=by omega
   have q6:(i:Int)+1<=9223372036854775807:=by omega
   have q7:(-9223372036854775808:Int)<=(j:Int) - 1:=by omega
   have q8:(j:Int) - 1<=9223372036854775807:=by omega
   simp only[List.length_set,qy3,List.length_range,qy4,q1,q2,q3,q4,q5,q6,q7,q8,true_and,and_self,hget i him,hget j hjm,List.getD_cons_zero,Value.gI];have hset:(((List.range m).map λx=>[Value.int .u8 (h x)]).set i [Value.int .u8 (h j)]).set j [Value.int .u8 (h i)]=(List.range m).map λx=>[Value.int .u8 (if x=j then h i else if x=i then h j else h x)]:=by
    apply List.ext_getElem?;intro x;simp only[List.getElem?_set,List.getElem?_map,List.length_set,qy3,List.length_range];by_cases hx:x<m
    ·rw[List.getElem?_range hx];by_cases h1:j=x
     ·subst h1;simp[hx]
     ·by_cases h2:i=x
      ·subst h2;simp[hx,h1,Ne.symm h1]
      ·simp[h1,h2,Ne.symm h1,Ne.symm h2]
    ·rw[List.getElem?_eq_none (by simp;omega)];have h1:¬j=x:=by omega
     have h2:¬i=x:=by omega
     simp[h1,h2]
   refine⟨⟨i+1,λx=>if x=j then h i else if x=i then h j else h x,?_,by omega,?_⟩,by omega⟩
   ·rw[hset];simp only[List.cons.injEq,V.i.injEq,and_true,true_and];omega
   ·intro x hx;have a1:=hh i him;have a2:=hh j hjm;rw[if_neg (by omega)]at a1 a2
    show(if x=j then h i else if x=i then h j else h x)=_
    by_cases h1:x=j
    ·subst h1;rw[if_pos rfl,if_pos (by omega),a1];congr 3;congr 2;omega
    ·rw[if_neg h1];by_cases h2:x=i
     ·subst h2;rw[if_pos rfl,if_pos (by omega),a2];congr 3;congr 2;omega
     ·rw[if_neg h2,hh x hx];by_cases h3:x<i\/m - 1<x+i
      ·rw[if_pos h3,if_pos (by omega)]
      ·rw[if_neg h3,if_neg (by omega)]
  ·intro w' hr;refine⟨?_,hr.mod⟩;congr 3
   simp only[numB,List.map_map];refine congrArg List.toArray (List.map_congr_left λx hx=>?_);have hx:x<m:=by simpa using hx
   simp only[Function.comp,List.getD_cons_zero,Value.gI,hh x hx];by_cases h3:x<i\/m - 1<x+i
   ·rw[if_pos h3]
   ·rw[if_neg h3];have:m - 1 - x=x:=by omega
    rw[this]
theorem Zll(x:Nat)(h:x<2 ^ 63):(BitVec.ofInt 64 (x:Int)).toNat=x:=by simp[BitVec.toNat_ofInt];omega
theorem Zzl(x:Nat)(h:x<2 ^ 63):IntKind.i64.wrap (x:Int)=x:=by rw[IntKind.wrap_i64];omega
theorem Z163(l:List UInt8)(i:Nat):Value.gI (((l.map λb=>[Value.int .u8 (b.toNat:Int)]).getD i []).getD 0 undef)=((l.getD i 0).toNat:Int):=by simp only[qy1,List.getElem?_map];cases l[i]?<;>rfl
theorem Z13j(s:List UInt8)(i lo hi:Nat)(h:lo+i<hi):((s.take hi).drop lo).getD i 0=s.getD (lo+i) 0:=by simp only[qy1,List.getElem?_drop,List.getElem?_take,if_pos h]
theorem Z164(b:UInt8):b.toNat<256:=b.toNat_lt
def beN:List UInt8->Nat->Nat
 | [],n=>n
 | c::l,n=>beN l (256*n+c.toNat)
theorem Zpe(l:List UInt8)(c:UInt8)(n:Nat):beN (l++[c]) n=256*beN l n+c.toNat:=by
 induction l generalizing n with
 | nil=>rfl
 | cons d l ih=>simp[beN,ih]
theorem Z165(l:List UInt8):∀n,beN l n<(n+1)*pw l.length:=by
 induction l with
 | nil=>intro n;simp[beN,pw]
 | cons c l ih =>
  intro n;have h1:=ih (256*n+c.toNat);have h2:=Z164 c;have h3:(256*n+c.toNat+1)*pw l.length<=(256*(n+1))*pw l.length:=Nat.mul_le_mul_right _ (by omega);simp only[beN,List.length_cons,pw];rw[<- Nat.mul_assoc,Nat.mul_comm (n+1) 256];omega
theorem Zgu(l:List UInt8)(m:Nat)(h:m<l.length):l.take (m+1)=l.take m++[l.getD m 0]:=by rw[List.take_add_one,qy1,qy7 h];rfl
theorem Z13k(n c:Nat)(hn:n<2 ^ 54)(hc:c<256):Zgl .or .i64 (IntKind.i64.wrap ((n:Int)*2 ^ (Nat.min (Int.toNat 8) IntKind.i64.bits))) (c:Int)=((256*n+c:Nat):Int):=by
 have e0:IntKind.i64.wrap ((n:Int)*2 ^ (Nat.min (Int.toNat 8) IntKind.i64.bits))=((n*256:Nat):Int):=by have:Nat.min (Int.toNat 8) IntKind.i64.bits=8:=rfl;rw[this,IntKind.wrap_i64];omega
 rw[e0];simp only[Zgl]
 show IntKind.i64.wrap (((BitVec.ofInt 64 ((n*256:Nat):Int)) ||| (BitVec.ofInt 64 (c:Int))).toNat:Int)=_
 rw[BitVec.toNat_or,Zll _ (by omega),Zll c (by omega)];have e:n*256 ||| c=256*n+c:=by have:=Nat.two_pow_add_eq_or_of_lt (i:=8) (b:=c) (by omega) n;rw[show n*256=2 ^ 8*n by omega,<- this]
 rw[e,Zzl _ (by omega)]
def getR(s:List UInt8)(at_ b:Int):Int×Int :=
 if 1<=b/\b<=4 then
  if 0<=at_/\at_<=s.length then
   if(s.length:Int) - at_<b then(0,8)else(beN ((s.drop at_.toNat).take b.toNat) 0,0)
  else(0,3)
 else(0,7)
theorem Zv0{s:List UInt8}{at_ b:Int}(h:¬(1<=b/\b<=4)):getR s at_ b=(0,7):=if_neg h
theorem Zre{s:List UInt8}{at_ b:Int}(h:1<=b/\b<=4)(h1:¬(0<=at_/\at_<=s.length)):getR s at_ b=(0,3):=by rw[getR,if_pos h,if_neg h1]
theorem Zrf{s:List UInt8}{at_ b:Int}(h:1<=b/\b<=4)(h1:0<=at_/\at_<=s.length)(h2:(s.length:Int) - at_<b):getR s at_ b=(0,8):=by rw[getR,if_pos h,if_pos h1,if_pos h2]
theorem Z13l{s:List UInt8}{at_ b:Int}(h:1<=b/\b<=4)(h1:0<=at_/\at_<=s.length)(h2:¬(s.length:Int) - at_<b):getR s at_ b=(((beN ((s.drop at_.toNat).take b.toNat) 0:Nat):Int),0):=by rw[getR,if_pos h,if_pos h1,if_neg h2]
theorem beN4(s:List UInt8)(at_ m:Nat)(h:m<=4):beN ((s.drop at_).take m) 0<4294967296:=by have h1:=Z165 ((s.drop at_).take m) 0;have h2:pw ((s.drop at_).take m).length<=pw 4:=Zna (by simp;omega);have h3:pw 4=4294967296:=rfl;omega
theorem Zzm(s:List UInt8)(a k:Nat)(h:a+k<s.length):beN ((s.drop a).take (k+1)) 0=256*beN ((s.drop a).take k) 0+(s.getD (a+k) 0).toNat:=by rw[Zgu _ _ (by simp;omega),Zpe];simp only[qy1,List.getElem?_drop]
theorem Z13m(w:World)(s:List UInt8)(at_ b:Int)(hs:s.length<4611686018427387904):Calls Tryz.prog 214 #[.string ⟨s.toArray⟩,.int .i64 at_,.int .i64 b] w λe w'=>e=.returned (.tuple #[.int .i64 (getR s at_ b).1,.int .i64 (getR s at_ b).2])/\Mod [] w w':=by
 refine Z1 (Z9 (J:=[.s s,.i at_,.i b]) sxE_ok Tryz.func214 Ziz rfl rfl rfl ?_) rfl;simp only[Tree.goal,X.P,X.ev,SV.ev,CV.ev,Sc.ev,qz,QA,QB,QC,QD,QE,QF,QG,QH,QI,QJ,QK,QL,QM,Nat.reduceAdd];refine⟨λh w' hr=>⟨by rw[Zv0 (by omega)],hr.mod⟩,λh=>?_⟩;refine⟨λh1 w' hr=>⟨by rw[Zre (by omega) h1],hr.mod⟩,λh1=>?_⟩;refine⟨by omega,by omega,λh2 w' hr=>⟨by rw[Zrf (by omega) (by omega) h2],hr.mod⟩,λh2=>?_⟩;obtain⟨a,rfl⟩:∃a:Nat,at_=a:=⟨at_.toNat,by omega⟩
 obtain⟨k,rfl⟩:∃k:Nat,b=k:=⟨b.toNat,by omega⟩
 (repeat refine⟨by omega,?_⟩)
 intro v;refine⟨λvs=>∃m:Nat,vs=[.i (beN ((s.drop a).take m) 0),.i m]/\m<=k,λvs=>(k - (vs.getD 1 (.i 0)).toI).toNat,⟨0,by simp[beN],by omega⟩,?_⟩;rintro _ - ⟨m,rfl,hm⟩;have e0:((a:Int)+(k:Int)).toNat=a+k:=by omega
 simp only[Tree.goal,X.P,X.ev,SV.ev,CV.ev,Sc.ev,qz,QA,QB,QC,QD,QE,QF,QG,QH,QI,QJ,QK,QL,QM,Nat.reduceAdd,qy3,List.length_drop,List.length_take,Z163,qy4,e0];have hb:=beN4 s a m (by omega);refine⟨λh3=>?_,λh3 w' hr=>⟨?_,hr.mod⟩⟩
 ·have e2:=Zzm s a m (by omega);have hc:=Z164 (s.getD (a+m) 0);rw[Z13j _ _ _ _ (by omega),Z13k _ _ (by omega) hc]
  (repeat refine⟨by omega,?_⟩);refine⟨⟨m+1,?_,by omega⟩,by omega⟩
  rw[e2];simp
 ·have:m=k:=by omega
  subst this;rw[Z13l (by omega) (by omega) h2];simp only[qy4]
def p7:Nat->Nat
 | 0=>1
 | k+1=>128*p7 k
theorem Z4i(k:Nat)(n:Int):(numB k n).length=k:=by simp[numB]
def txtB(t:List UInt8):List UInt8:=numB 2 t.length++t
theorem Zpf(k n:Nat):numB k (n:Int)=(List.range k).map λj=>UInt8.ofNat (n / pw (k - 1 - j) % 256):=by refine List.map_congr_left λj _=>?_;congr 1
theorem Zlm(k n:Nat):numB (k+1) (n:Int)=numB k ((n / 256:Nat):Int)++[UInt8.ofNat (n % 256)]:=by
 rw[Zpf,Zpf,List.range_succ,List.map_append];congr 1
 ·refine List.map_congr_left λj hj=>?_;have hj:j<k:=by simpa using hj
  have e:k+1 - 1 - j=(k - 1 - j)+1:=by omega
  rw[e]
  show UInt8.ofNat (n / (256*pw (k - 1 - j)) % 256)=UInt8.ofNat (n / 256 / pw (k - 1 - j) % 256)
  rw[Nat.div_div_eq_div_mul]
 ·have e:k+1 - 1 - k=0:=by omega
  rw[List.map_cons,List.map_nil,e];simp[pw]
theorem Zpg:∀(k n:Nat),n<pw k->beN (numB k n) 0=n
 | 0,n,h=>by
  have h:n<1:=h;have:n=0:=by omega
  subst this;rfl
 | k+1,n,h=>by
  have h:n<256*pw k:=h;have ih:=Zpg k (n / 256) (by omega);rw[Zlm,Zpe,ih];have:(UInt8.ofNat (n % 256)).toNat=n % 256:=by simp
  omega
abbrev Ak:=List UInt8×Int
structure Pkt where
 kind:Int
 dup:Bool
 retain:Bool
 clean:Bool
 session:Bool
 qos:Int
 id:Int
 keep:Int
 code:Int
 client:List UInt8
 topic:List UInt8
 payload:List UInt8
 asks:List Ak
 codes:List Int
 deriving DecidableEq
abbrev pD_Q(k:Int):Pkt:=⟨k,false,false,false,false,0,0,0,0,[],[],[],[],[]⟩
def Z87(k:Int):Bool:=decide ((1<=k/\k<=4)\/(8<=k/\k<=14))
def idB(p:Pkt):Bool:=decide ((p.kind=3/\p.qos=1)\/p.kind=4\/(8<=p.kind/\p.kind<=11))
def cliB(s:List UInt8):Bool:=decide (1<=(s.length:Int)/\(s.length:Int)<=20) && Z1v s
def Z1p(p:Pkt):Pkt :=
 if p.kind=1 then { p with client:=[],clean:=false,keep:=0 }
 else if p.kind=2 then { p with code:=0,session:=false }
 else if p.kind=3 then { p with dup:=false,qos:=0,retain:=false,topic:=[],payload:=[],id:=0 }
 else if p.kind=4\/p.kind=11 then { p with id:=0 }
 else if p.kind=8\/p.kind=10 then { p with id:=0,asks:=[] }
 else if p.kind=9 then { p with id:=0,codes:=[] }
 else p
def Z60(p:Pkt):Bool:=decide (p=pD_Q p.kind)
def Zgv(p:Pkt):Int:=if 20<(p.client.length:Int)then 2 else if cliB p.client=true then(if 0<=p.keep/\p.keep<=65535 then 0 else 3)else 1
def Z4j(p:Pkt):Int:=if 0<=p.code/\p.code<=5 then(if p.session=true/\p.code≠0 then 4 else 0)else 3
def pubE(p:Pkt):Int :=
 if chkT p.topic false=0 then
  if 200<(p.payload.length:Int)then 2
  else if 0<=p.qos/\p.qos<=1 then(if p.qos=0/\(p.dup=true\/p.id≠0)then 1 else 0)else 3
 else chkT p.topic false
def Zl(n:Nat):Int:=if n=0 then 1 else if 5<(n:Int)then 2 else 0
def askE(a:Ak):Int:=if chkT a.1 true=0 then(if 0<=a.2/\a.2<=1 then 0 else 3)else chkT a.1 true
def Z61(a:Ak):Int:=if chkT a.1 true=0 then(if a.2=0 then 0 else 1)else chkT a.1 true
def Z3b(k:Int):List Ak->Int
 | []=>0
 | a::l=>if(if k=8 then askE a else Z61 a)=0 then Z3b k l else(if k=8 then askE a else Z61 a)
def Zgw(p:Pkt):Int:=if Zl p.asks.length=0 then Z3b p.kind p.asks else Zl p.asks.length
def Z7n(c:Int):Bool:=decide (c≠0/\c≠1/\c≠128)
def Zbg(p:Pkt):Int:=if Zl p.codes.length=0 then(if p.codes.any Z7n=true then 3 else 0)else Zl p.codes.length
def Z1q(p:Pkt):Int :=
 if p.kind=1 then Zgv p else if p.kind=2 then Z4j p else if p.kind=3 then pubE p
 else if p.kind=8\/p.kind=10 then Zgw p else if p.kind=9 then Zbg p else 0
def chkP(p:Pkt):Int :=
 if Z87 p.kind=true then
  if Z60 (Z1p p)=true then
   if p.kind=3/\pubE p≠0 then pubE p
   else if idB p=true/\¬(1<=p.id/\p.id<=65535)then 3
   else Z1q p
  else 1
 else 7
def Zln(k:Int)(a:Ak):List UInt8:=txtB a.1++(if k=8 then numB 1 a.2 else[])
def bit(b:Bool)(n:Int):Int:=if b=true then n else 0
def Z13n(p:Pkt):List UInt8 :=
 if p.kind=1 then txtB [77,81,84,84]++(numB 1 4++numB 1 (bit p.clean 2))++numB 2 p.keep++txtB p.client
 else if p.kind=2 then numB 1 (bit p.session 1)++numB 1 p.code
 else if p.kind=3 then txtB p.topic
 else[]
def Z13o(p:Pkt):List UInt8:=Z13n p++(if idB p=true then numB 2 p.id else[])++p.payload++(p.asks.map (Zln p.kind)).flatten++(p.codes.map (numB 1)).flatten
def rdN(s:List UInt8)(k a:Nat)(b:Bool):Int×Nat×Bool:=if a+k<=s.length then((beN ((s.drop a).take k) 0:Nat),a+k,b)else(0,s.length,true)
def rdT(s:List UInt8)(a:Nat)(b:Bool):List UInt8×Nat×Bool :=
 if a+2<=s.length/\a+2+beN ((s.drop a).take 2) 0<=s.length then((s.drop (a+2)).take (beN ((s.drop a).take 2) 0),a+2+beN ((s.drop a).take 2) 0,b)else([],a,true)
def Z166(s:List UInt8)(a:Nat)(b:Bool):Nat:=if b=true then 0 else s.length+1 - a
abbrev RS:=Pkt×Nat×Bool
def Z182(s:List UInt8)(p:Pkt)(a:Nat)(b:Bool):RS :=
 let t1:=rdT s a b
 let n1:=rdN s 1 t1.2.1 t1.2.2
 let n2:=rdN s 1 n1.2.1 n1.2.2
 let n3:=rdN s 2 n2.2.1 n2.2.2
 let t2:=rdT s n3.2.1 n3.2.2
 ({ p with clean:=decide (n2.1=2),keep:=n3.1,client:=t2.1 },t2.2)
def headD(s:List UInt8)(p:Pkt)(a:Nat)(b:Bool):RS :=
 if p.kind=1 then Z182 s p a b
 else if p.kind=2 then({ p with session:=decide ((rdN s 1 a b).1=1),code:=(rdN s 1 (rdN s 1 a b).2.1 (rdN s 1 a b).2.2).1 },(rdN s 1 (rdN s 1 a b).2.1 (rdN s 1 a b).2.2).2)
 else if p.kind=3 then({ p with topic:=(rdT s a b).1 },(rdT s a b).2)
 else(p,a,b)
theorem Zec(p:Pkt):Z1p p=pD_Q p.kind↔(p.kind≠1->p.client=[]/\p.clean=false/\p.keep=0)/\(p.kind≠2->p.session=false/\p.code=0) /\ (p.kind≠3->p.dup=false/\p.retain=false/\p.qos=0/\p.topic=[]/\p.payload=[])/\(¬((3<=p.kind/\p.kind<=4)\/(8<=p.kind/\p.kind<=11))->p.id=0) /\ (p.kind≠8/\p.kind≠10->p.asks=[])/\(p.kind≠9->p.codes=[]):=by
 obtain⟨k,d,r,c,s,q,i,ke,co,cl,t,pl,a,cs⟩:=p;unfold Z1p;simp only;by_cases h1:k=1
 ·subst h1;simp only[if_true,Pkt.mk.injEq];simp;grind
 rw[if_neg h1];by_cases h2:k=2
 ·subst h2;simp only[if_true,Pkt.mk.injEq];simp;grind
 rw[if_neg h2];by_cases h3:k=3
 ·subst h3;simp only[if_true,Pkt.mk.injEq];simp;grind
 rw[if_neg h3];by_cases h4:k=4\/k=11
 ·rw[if_pos h4];rcases h4 with rfl|rfl<;>simp only[Pkt.mk.injEq]<;>simp<;>grind
 rw[if_neg h4];by_cases h5:k=8\/k=10
 ·rw[if_pos h5];rcases h5 with rfl|rfl<;>simp only[Pkt.mk.injEq]<;>simp<;>grind
 rw[if_neg h5];by_cases h6:k=9
 ·subst h6;simp only[if_true,Pkt.mk.injEq];simp;grind
 rw[if_neg h6];have h7:¬((3<=k/\k<=4)\/(8<=k/\k<=11)):=by omega
 have h8:k≠8/\k≠10:=by omega
 simp only[Pkt.mk.injEq,h7,h8,ne_eq,h1,h2,h3,h6,not_false_eq_true,true_implies,true_and,and_true];grind
structure FormP(p:Pkt):Prop where
 kind:Z87 p.kind=true
 bare:Z1p p=pD_Q p.kind
 qos:0<=p.qos/\p.qos<=1
 keep:0<=p.keep/\p.keep<65536
 code:0<=p.code/\p.code<256
 id:0<=p.id/\p.id<65536
 noid:idB p=false->p.id=0
 client:p.client.length<65536
 topic:p.topic.length<65536
 asks:∀a∈p.asks,a.1.length<65536/\0<=a.2/\a.2<256/\(p.kind≠8->a.2=0)
 codes:∀c∈p.codes,0<=c/\c<256
theorem Zph{s:List UInt8}{f:Bool}(h:chkT s f=0):s.length<=60:=by
 unfold chkT at h;split at h
 ·simp at h
 ·split at h
  ·simp at h
  ·omega
theorem Zrg(p:Pkt):(Z1p p).kind=p.kind:=by unfold Z1p;(repeat' split)<;>rfl
theorem Zbh(p:Pkt):Z60 (Z1p p)=true↔Z1p p=pD_Q p.kind:=by simp only[Z60,decide_eq_true_eq,Zrg]
theorem Zhw{k:Int}:∀{l:List Ak},Z3b k l=0->∀a∈l,chkT a.1 true=0/\0<=a.2/\a.2<=1/\(k≠8->a.2=0)
 | [],_,a,ha=>by simp at ha
 | x::l,h,a,ha=>by
  unfold Z3b at h;generalize hX:(if k=8 then askE x else Z61 x)=X at h
  by_cases h0:X=0
  ·rw[if_pos h0]at h;rw[h0]at hX;rcases List.mem_cons.1 ha with rfl|ha
   ·by_cases hk:k=8
    ·rw[if_pos hk,askE]at hX;split at hX
     ·split at hX
      ·exact⟨‹_›,by omega,by omega,λhh=>absurd hk hh⟩
      ·simp at hX
     ·exact absurd hX ‹_›
    ·rw[if_neg hk,Z61]at hX;split at hX
     ·split at hX
      ·exact⟨‹_›,by omega,by omega,λ_=>‹_›⟩
      ·simp at hX
     ·exact absurd hX ‹_›
   ·exact Zhw h a ha
  ·rw[if_neg h0]at h;exact absurd h h0
theorem Zpi{n:Nat}(h:Zl n=0):1<=n/\n<=5:=by
 unfold Zl at h;split at h
 ·simp at h
 ·split at h
  ·simp at h
  ·omega
theorem Znb{α:Type}(f:α->List UInt8)(m:Nat):∀l:List α,(∀a∈l,(f a).length<=m)->(l.map f).flatten.length<=l.length*m
 | [],_=>by simp
 | a::l,h=>by have h1:=Znb f m l λx hx=>h x (qy10 _ hx);have h2:=h a (qy8 ..);simp only[List.map_cons,List.flatten_cons,qy11,List.length_cons,Nat.add_mul,Nat.one_mul];omega
theorem Zjo(t:List UInt8):(txtB t).length=t.length+2:=by rw[txtB,qy11,Z4i];omega
theorem Zzn{p:Pkt}(h:chkP p=0):FormP p/\(Z13o p).length<=1000:=by
 unfold chkP at h;split at h;rotate_left
 ·simp at h
 rename_i hk;split at h;rotate_left
 ·simp at h
 rename_i he;split at h
 ·rename_i h3;exact absurd h h3.2
 rename_i hp3;split at h
 ·simp at h
 rename_i hid;have hbare:=(Zbh p).1 he;have hb:=(Zec p).1 hbare;have hk':=hk;simp only[Z87,decide_eq_true_eq]at hk';obtain⟨b1,b2,b3,b4,b5,b6⟩:=hb;have h1:p.client.length<=20/\0<=p.keep/\p.keep<65536:=by
  by_cases k:p.kind=1
  ·rw[Z1q,if_pos k,Zgv]at h;split at h
   ·simp at h
   ·split at h
    ·split at h
     ·omega
     ·simp at h
    ·simp at h
  ·obtain⟨e1,e2,e3⟩:=b1 k;rw[e1,e3];simp
 have h2:0<=p.code/\p.code<256:=by
  by_cases k:p.kind=2
  ·rw[Z1q,if_neg (by omega),if_pos k,Z4j]at h;split at h
   ·omega
   ·simp at h
  ·obtain⟨e1,e2⟩:=b2 k;omega
 have h3:p.topic.length<=60/\p.payload.length<=200/\0<=p.qos/\p.qos<=1/\(p.kind=3->p.qos=0->p.id=0):=by
  by_cases k:p.kind=3
  ·rw[Z1q,if_neg (by omega),if_neg (by omega),if_pos k,pubE]at h;split at h
   ·have:=Zph ‹_›;split at h
    ·simp at h
    ·split at h
     ·split at h
      ·simp at h
      ·rename_i hn;refine⟨this,by omega,by omega,by omega,λ_ hq=>?_⟩;exact Classical.byContradiction λhi=>hn ⟨hq,.inr hi⟩
     ·simp at h
   ·exact absurd h ‹_›
  ·obtain⟨e1,e2,e3,e4,e5⟩:=b3 k;rw[e3,e4,e5];simp[k]
 have h4:p.asks.length<=5/\∀a∈p.asks,a.1.length<=60/\0<=a.2/\a.2<256/\(p.kind≠8->a.2=0):=by
  by_cases k:p.kind=8\/p.kind=10
  ·rw[Z1q,if_neg (by omega),if_neg (by omega),if_neg (by omega),if_pos k,Zgw]at h;split at h
   ·have hc:=Zpi ‹_›;refine⟨hc.2,λa ha=>?_⟩;obtain⟨a1,a2,a3,a4⟩:=Zhw h a ha;exact⟨Zph a1,a2,by omega,a4⟩
   ·exact absurd h ‹_›
  ·have e:=b5 (by omega);rw[e];simp
 have h5:p.codes.length<=5/\∀c∈p.codes,0<=c/\c<256:=by
  by_cases k:p.kind=9
  ·rw[Z1q,if_neg (by omega),if_neg (by omega),if_neg (by omega),if_neg (by omega),if_pos k,Zbg]at h;split at h
   ·have hc:=Zpi ‹_›;refine⟨hc.2,λc hcm=>?_⟩;split at h
    ·simp at h
    ·rename_i hn;have:Z7n c=false:=by
      cases hcb:Z7n c
      ·rfl
      ·exact absurd (List.any_eq_true.2 ⟨c,hcm,hcb⟩) hn
     simp only[Z7n,decide_eq_false_iff_not]at this;omega
   ·exact absurd h ‹_›
  ·have e:=b6 k;rw[e];simp
 have hid2:(0<=p.id/\p.id<65536)/\(idB p=false->p.id=0):=by
  by_cases hi:idB p=true
  ·have:1<=p.id/\p.id<=65535:=Classical.byContradiction λhn=>hid ⟨hi,hn⟩;exact⟨by omega,λhf=>by rw[hi]at hf;simp at hf⟩
  ·have h0:p.id=0:=by
    by_cases k:p.kind=3
    ·refine h3.2.2.2.2 k ?_;have:¬p.qos=1:=λhq=>hi (by simp[idB,k,hq]);omega
    ·refine b4 λhk2=>hi ?_;simp only[idB,decide_eq_true_eq];omega
   rw[h0];simp
 refine⟨⟨hk,hbare,h3.2.2.1 |> λa=>⟨a,h3.2.2.2.1⟩,h1.2,h2,hid2.1,hid2.2,by omega,by omega,λa ha=>?_,h5.2⟩,?_⟩
 ·obtain⟨a1,a2⟩:=h4.2 a ha;exact⟨by omega,a2⟩
 ·have e1:(Z13n p).length<=64:=by
   unfold Z13n;split
   ·simp only[qy11,Zjo,Z4i,List.length_cons,List.length_nil];omega
   ·split
    ·simp only[qy11,Z4i];omega
    ·split
     ·rw[Zjo];omega
     ·simp
  have e2:(if idB p=true then numB 2 p.id else[]).length<=2:=by
   split
   ·rw[Z4i];omega
   ·simp
  have e3:=Znb (Zln p.kind) 63 p.asks λa ha=>by
   have:=(h4.2 a ha).1;unfold Zln;rw[qy11,Zjo];split
   ·rw[Z4i];omega
   ·simp;omega
  have e4:=Znb (numB 1) 1 p.codes λc _=>by rw[Z4i];omega
  have e5:p.asks.length*63<=5*63:=Nat.mul_le_mul_right _ h4.1;unfold Z13o;simp only[qy11];omega
def encA(a:Ak):List Value:=[.string ⟨a.1.toArray⟩,.int .i64 a.2]
def Z18(n:Int):List Value:=[.int .i64 n]
abbrev aD:Ak:=([],0)
abbrev Z62(w:World)(v:Value)(l:List Ak):Prop:=reads w v [.str,.int .i64] (l.map encA)
abbrev Z5d(w:World)(v:Value)(l:List Int):Prop:=reads w v [.int .i64] (l.map Z18)
theorem Zhx(w:World):Z62 w (.slice none 0 0) []:=⟨by simp,none,0,rfl,⟨λ_=>rfl,Nat.le_refl _⟩,λh=>absurd rfl h⟩
theorem Zrh(w:World):Z5d w (.slice none 0 0) []:=⟨by simp,none,0,rfl,⟨λ_=>rfl,Nat.le_refl _⟩,λh=>absurd rfl h⟩
theorem gA0(l:List Ak)(i:Nat):Value.gS (((l.map encA).getD i []).getD 0 undef)=(l.getD i aD).1:=by simp only[qy1,List.getElem?_map];cases l[i]?<;>simp[encA,Value.gS,undef]
theorem gA1(l:List Ak)(i:Nat):Value.gI (((l.map encA).getD i []).getD 1 undef)=(l.getD i aD).2:=by simp only[qy1,List.getElem?_map];cases l[i]?<;>simp[encA,Value.gI,undef]
theorem gI0(l:List Int)(i:Nat):Value.gI (((l.map Z18).getD i []).getD 0 undef)=l.getD i 0:=by simp only[qy1,List.getElem?_map];cases l[i]?<;>simp[Z18,Value.gI,undef]
theorem Z13p(l:List Ak)(i:Nat)(h:i<l.length):l.drop i=l.getD i aD::l.drop (i+1):=by rw[List.drop_eq_getElem_cons h,qy1,qy7 h];rfl
theorem Z13q(l:List Int)(i:Nat)(h:i<l.length):l.drop i=l.getD i 0::l.drop (i+1):=by rw[List.drop_eq_getElem_cons h,qy1,qy7 h];rfl
def pV(p:Pkt)(u v:Value):Value:=.agg #[.int .i64 p.kind,.bool p.dup,.bool p.retain,.bool p.clean,.bool p.session,.int .i64 p.qos,.int .i64 p.id,.int .i64 p.keep,.int .i64 p.code,.string ⟨p.client.toArray⟩,.string ⟨p.topic.toArray⟩,.string ⟨p.payload.toArray⟩,sc1 u,sc1 v]
structure SmallP(p:Pkt):Prop where
 client:p.client.length<1000000000
 topic:p.topic.length<1000000000
 payload:p.payload.length<1000000000
 asks:p.asks.length<1000000000
 codes:p.codes.length<1000000000
 filt:∀a∈p.asks,a.1.length<1000000000
theorem SmallP.at_{p:Pkt}(h:SmallP p)(i:Nat):(p.asks.getD i aD).1.length<1000000000:=by
 by_cases hi:i<p.asks.length
 ·rw[qy1,qy7 hi];exact h.filt _ (List.getElem_mem hi)
 ·rw[qy1,List.getElem?_eq_none (by omega)];decide
theorem SmallP.bare{p:Pkt}(h:SmallP p):SmallP (Z1p p):=by
 obtain⟨a,b,c,d,e,f⟩:=h;unfold Z1p
 (repeat' split)<;>exact⟨by simp_all,by simp_all,by simp_all,by simp_all,by simp_all,by first|exact f|(intro a ha;simp at ha)⟩
theorem Z13r(w:World)(n:Int):Calls Tryz.prog 82 #[.int .i64 n] w λe w'=>e=.returned (.bool (Z87 n))/\Mod [] w w':=by refine Z1 (Z9 (J:=[.i n]) sxE_ok Tryz.func82 Zdn rfl rfl rfl ?_) rfl;simp only[Tree.goal,X.P,X.ev,SV.ev,CV.ev,Sc.ev,qz,QA,QB,QC,QD,QE,QF,QG,QH,QI,QJ,QK,QL,QM,Nat.reduceAdd];exact⟨λh w' hr=>⟨by simp[Z87,h],hr.mod⟩,λh w' hr=>⟨by simp[Z87,h],hr.mod⟩⟩
theorem Zlo(w:World)(s:List UInt8)(hs:s.length<1099511627776):Calls Tryz.prog 18 #[.string ⟨s.toArray⟩] w λe w'=>e=.returned (.bool (cliB s))/\Mod [] w w':=by refine Z1 (Z9 (J:=[.s s]) sxE_ok Tryz.func18 Z5z rfl rfl rfl ?_) rfl;simp only[Tree.goal,X.P,X.ev,SV.ev,CV.ev,Sc.ev,qz,QA,QB,QC,QD,QE,QF,QG,QH,QI,QJ,QK,QL,QM,Nat.reduceAdd];refine⟨[.b (Z1v s)],rfl,λ_ w' _=>Zj2 w' s hs,?_⟩;simp only[Tree.goal,X.P,X.ev,SV.ev,CV.ev,Sc.ev,qz,QA,QB,QC,QD,QE,QF,QG,QH,QI,QJ,QK,QL,QM,Nat.reduceAdd];exact λw' hr=>⟨by simp[cliB],hr.mod⟩
theorem Zv1(w:World)(n:Nat):Calls Tryz.prog 186 #[.int .i64 n] w λe w'=>e=.returned (.int .i64 (Zl n))/\Mod [] w w':=by
 refine Z1 (Z9 (J:=[.i n]) sxE_ok Tryz.func186 Zc5 rfl rfl rfl ?_) rfl;simp only[Tree.goal,X.P,X.ev,SV.ev,CV.ev,Sc.ev,qz,QA,QB,QC,QD,QE,QF,QG,QH,QI,QJ,QK,QL,QM,Nat.reduceAdd];refine⟨λh w' hr=>⟨?_,hr.mod⟩,λh=>⟨λh1 w' hr=>⟨?_,hr.mod⟩,λh1 w' hr=>⟨?_,hr.mod⟩⟩⟩
 ·rw[Zl,if_pos (by omega)]
 ·rw[Zl,if_neg (by omega),if_pos (by omega)]
 ·rw[Zl,if_neg (by omega),if_neg (by omega)]
theorem Z11o(w:World)(a:Ak)(h:a.1.length<1000000000):Calls Tryz.prog 168 #[.agg #[.string ⟨a.1.toArray⟩,.int .i64 a.2]] w λe w'=>e=.returned (.int .i64 (askE a))/\Mod [] w w':=by
 refine Z1 (Z9 (J:=[.s a.1,.i a.2]) sxE_ok Tryz.func168 Zfb rfl rfl rfl ?_) rfl;simp only[Tree.goal,X.P,X.ev,SV.ev,CV.ev,Sc.ev,qz,QA,QB,QC,QD,QE,QF,QG,QH,QI,QJ,QK,QL,QM,Nat.reduceAdd];intro b;refine⟨[.i (chkT a.1 true)],rfl,λ_ w' _=>Zp3 w' _ (by omega),?_⟩;simp only[Tree.goal,X.P,X.ev,SV.ev,CV.ev,Sc.ev,qz,QA,QB,QC,QD,QE,QF,QG,QH,QI,QJ,QK,QL,QM,Nat.reduceAdd];refine⟨λh w' hr=>⟨by rw[askE,if_neg h],hr.mod⟩,λh=>⟨λh1 w' hr=>⟨?_,hr.mod⟩,λh1 w' hr=>⟨?_,hr.mod⟩⟩⟩
 ·rw[askE,if_pos (qy9.1 h),if_neg h1]
 ·rw[askE,if_pos (qy9.1 h),if_pos (qy9.1 h1)]
section
variable (w:World) (p:Pkt) (u v:Value) (hu:Z62 w u p.asks) (hv:Z5d w v p.codes) (hs:SmallP p)
include hu hv
theorem Z167:Calls Tryz.prog 86 #[pV p u v] w λe w'=>e=.returned (.bool (idB p))/\Mod [] w w':=by
 refine Z1 (Z3 (J:=[.i p.kind,.b p.dup,.b p.retain,.b p.clean,.b p.session,.i p.qos,.i p.id,.i p.keep,.i p.code,.s p.client,.s p.topic,.s p.payload,.v u,.r (p.asks.map encA),.v v,.r (p.codes.map Z18)]) sxE_ok Tryz.func86 Zgr rfl rfl (Rel.start2 (by simp[Ent.holds,Ent.wr,hu,hv,X.ev])) rfl rfl ?_) rfl;simp only[Tree.goal,X.P,X.ev,SV.ev,CV.ev,Sc.ev,qz,QA,QB,QC,QD,QE,QF,QG,QH,QI,QJ,QK,QL,QM,Nat.reduceAdd];intro b;refine⟨λh w' hr=>⟨?_,hr.mod⟩,λh=>⟨λh1 w' hr=>⟨?_,hr.mod⟩,λh1=>⟨λh2 w' hr=>⟨?_,hr.mod⟩,λh2=>⟨λh3 w' hr=>⟨?_,hr.mod⟩,λh3=>⟨λh4 w' hr=>⟨?_,hr.mod⟩,λh4=>⟨λh5 w' hr=>⟨?_,hr.mod⟩,λh5 w' hr=>⟨?_,hr.mod⟩⟩⟩⟩⟩⟩⟩ <;>
  (simp only[idB,Ending.returned.injEq,Value.bool.injEq];first|exact decide_eq_decide.2 (by omega)|(symm;simp only[decide_eq_true_eq,decide_eq_false_iff_not];omega))
theorem Zri:Calls Tryz.prog 145 #[pV p u v] w λe w'=>e=.returned (.int .i64 (Z4j p))/\Mod [] w w':=by
 refine Z1 (Z3 (J:=[.i p.kind,.b p.dup,.b p.retain,.b p.clean,.b p.session,.i p.qos,.i p.id,.i p.keep,.i p.code,.s p.client,.s p.topic,.s p.payload,.v u,.r (p.asks.map encA),.v v,.r (p.codes.map Z18)]) sxE_ok Tryz.func145 Z9t rfl rfl (Rel.start2 (by simp[Ent.holds,Ent.wr,hu,hv,X.ev])) rfl rfl ?_) rfl;simp only[Tree.goal,X.P,X.ev,SV.ev,CV.ev,Sc.ev,qz,QA,QB,QC,QD,QE,QF,QG,QH,QI,QJ,QK,QL,QM,Nat.reduceAdd];intro b;refine⟨λh w' hr=>⟨by rw[Z4j,if_neg h],hr.mod⟩,λh=>⟨λh2 w' hr=>⟨?_,hr.mod⟩,λh2 w' hr=>⟨?_,hr.mod⟩⟩⟩
 ·rw[Z4j,if_pos (qy9.1 h),if_pos h2]
 ·rw[Z4j,if_pos (qy9.1 h),if_neg h2]
include hs
theorem Zzo:Calls Tryz.prog 83 #[pV p u v] w λe w'=>e=.returned (.bool (Z60 p))/\Mod [] w w':=by
 refine Z1 (Z3 (J:=[.i p.kind,.b p.dup,.b p.retain,.b p.clean,.b p.session,.i p.qos,.i p.id,.i p.keep,.i p.code,.s p.client,.s p.topic,.s p.payload,.v u,.r (p.asks.map encA),.v v,.r (p.codes.map Z18)]) sxE_ok Tryz.func83 Zcb rfl rfl (Rel.start2 (by simp[Ent.holds,Ent.wr,hu,hv,X.ev])) rfl rfl ?_) rfl;have h1:=hs.client;have h2:=hs.topic;have h3:=hs.payload;have h4:=hs.asks;have h5:=hs.codes;simp only[Tree.goal,X.P,X.ev,SV.ev,CV.ev,Sc.ev,qz,QA,QB,QC,QD,QE,QF,QG,QH,QI,QJ,QK,QL,QM,Nat.reduceAdd,qy3,qy11];intro b;refine⟨.inr (by omega),.inr (by omega),.inr (by omega),λw' hr=>⟨?_,hr.mod⟩⟩;obtain⟨k,d,r,c,se,q,i,ke,co,cl,t,pl,az,cs⟩:=p;simp only[Z60,Ending.returned.injEq,Value.bool.injEq,Pkt.mk.injEq];have e1:((az.length:Int)+(cs.length:Int)=0)↔az=[]/\cs=[]:=by rw[<- List.length_eq_zero_iff,<- List.length_eq_zero_iff];omega
 rw[Bool.eq_iff_iff];simp only[Bool.and_eq_true,Bool.not_eq_true',decide_eq_true_eq,e1,List.append_eq_nil_iff];constructor<;>(intro h;simp_all)
theorem Zrj:Calls Tryz.prog 144 #[pV p u v] w λe w'=>e=.returned (.int .i64 (Zgv p))/\Mod [] w w':=by
 refine Z1 (Z3 (J:=[.i p.kind,.b p.dup,.b p.retain,.b p.clean,.b p.session,.i p.qos,.i p.id,.i p.keep,.i p.code,.s p.client,.s p.topic,.s p.payload,.v u,.r (p.asks.map encA),.v v,.r (p.codes.map Z18)]) sxE_ok Tryz.func144 Z9r rfl rfl (Rel.start2 (by simp[Ent.holds,Ent.wr,hu,hv,X.ev])) rfl rfl ?_) rfl;have h1:=hs.client;simp only[Tree.goal,X.P,X.ev,SV.ev,CV.ev,Sc.ev,qz,QA,QB,QC,QD,QE,QF,QG,QH,QI,QJ,QK,QL,QM,Nat.reduceAdd];intro b;refine⟨λh w' hr=>⟨by rw[Zgv,if_pos h],hr.mod⟩,λh=>?_⟩;refine⟨[.b (cliB p.client)],rfl,λ_ w' _=>Zlo w' _ (by omega),?_⟩;simp only[Tree.goal,X.P,X.ev,SV.ev,CV.ev,Sc.ev,qz,QA,QB,QC,QD,QE,QF,QG,QH,QI,QJ,QK,QL,QM,Nat.reduceAdd];refine⟨λh2 w' hr=>⟨by rw[Zgv,if_neg h,if_neg h2],hr.mod⟩,λh2=>⟨λh3 w' hr=>⟨?_,hr.mod⟩,λh3 w' hr=>⟨?_,hr.mod⟩⟩⟩
 ·rw[Zgv,if_neg h,if_pos (qy9.1 h2),if_neg h3]
 ·rw[Zgv,if_neg h,if_pos (qy9.1 h2),if_pos (qy9.1 h3)]
theorem Zhy:Calls Tryz.prog 85 #[pV p u v] w λe w'=>e=.returned (.int .i64 (pubE p))/\Mod [] w w':=by
 refine Z1 (Z3 (J:=[.i p.kind,.b p.dup,.b p.retain,.b p.clean,.b p.session,.i p.qos,.i p.id,.i p.keep,.i p.code,.s p.client,.s p.topic,.s p.payload,.v u,.r (p.asks.map encA),.v v,.r (p.codes.map Z18)]) sxE_ok Tryz.func85 Z9s rfl rfl (Rel.start2 (by simp[Ent.holds,Ent.wr,hu,hv,X.ev])) rfl rfl ?_) rfl;have h1:=hs.topic;simp only[Tree.goal,X.P,X.ev,SV.ev,CV.ev,Sc.ev,qz,QA,QB,QC,QD,QE,QF,QG,QH,QI,QJ,QK,QL,QM,Nat.reduceAdd];intro b;refine⟨[.i (chkT p.topic false)],rfl,λ_ w' _=>Zl7 w' _ (by omega),?_⟩;simp only[Tree.goal,X.P,X.ev,SV.ev,CV.ev,Sc.ev,qz,QA,QB,QC,QD,QE,QF,QG,QH,QI,QJ,QK,QL,QM,Nat.reduceAdd];refine⟨λh w' hr=>⟨by rw[pubE,if_neg h],hr.mod⟩,λh=>?_⟩;have h:=qy9.1 h;refine⟨λh2 w' hr=>⟨by rw[pubE,if_pos h,if_pos h2],hr.mod⟩,λh2=>⟨λh3 w' hr=>⟨?_,hr.mod⟩,λh3=>⟨λh4 w' hr=>⟨?_,hr.mod⟩,λh4 w' hr=>⟨?_,hr.mod⟩⟩⟩⟩
 ·rw[pubE,if_pos h,if_neg h2,if_neg h3]
 ·rw[pubE,if_pos h,if_neg h2,if_pos (qy9.1 h3),if_pos h4]
 ·rw[pubE,if_pos h,if_neg h2,if_pos (qy9.1 h3),if_neg h4]
theorem Zv2:Calls Tryz.prog 146 #[pV p u v] w λe w'=>e=.returned (.int .i64 (Zgw p))/\Mod [] w w':=by
 refine Z1 (Z3 (J:=[.i p.kind,.b p.dup,.b p.retain,.b p.clean,.b p.session,.i p.qos,.i p.id,.i p.keep,.i p.code,.s p.client,.s p.topic,.s p.payload,.v u,.r (p.asks.map encA),.v v,.r (p.codes.map Z18)]) sxE_ok Tryz.func146 Zdo rfl rfl (Rel.start2 (by simp[Ent.holds,Ent.wr,hu,hv,X.ev])) rfl rfl ?_) rfl;have h1:=hs.asks;have hf:=hs.at_;simp only[Tree.goal,X.P,X.ev,SV.ev,CV.ev,Sc.ev,qz,QA,QB,QC,QD,QE,QF,QG,QH,QI,QJ,QK,QL,QM,Nat.reduceAdd,qy3];intro b;refine⟨[.i (Zl p.asks.length)],rfl,λ_ w' _=>Zv1 w' _,?_⟩;simp only[Tree.goal,X.P,X.ev,SV.ev,CV.ev,Sc.ev,qz,QA,QB,QC,QD,QE,QF,QG,QH,QI,QJ,QK,QL,QM,Nat.reduceAdd,qy3];refine⟨λh w' hr=>⟨by rw[Zgw,if_neg h],hr.mod⟩,λh=>?_⟩;have h:=qy9.1 h;rw[Zgw,if_pos h];refine⟨λvs=>∃(i:Nat) (x:V),vs=[x,.i i]/\i<=p.asks.length/\Z3b p.kind (p.asks.drop i)=Z3b p.kind p.asks,λvs=>p.asks.length - (vs.getD 1 (.i 0)).toI.toNat,⟨0,_,rfl,by omega,rfl⟩,?_⟩;rintro _ - ⟨i,x,rfl,hi,hg⟩;simp only[Tree.goal,X.P,X.ev,SV.ev,CV.ev,Sc.ev,qz,QA,QB,QC,QD,QE,QF,QG,QH,QI,QJ,QK,QL,QM,Nat.reduceAdd,qy3,qy4,gA0,gA1];refine⟨λh2=>⟨by omega,λb=>⟨λhk=>?_,λhk=>?_⟩⟩,λh2 w' hr=>⟨?_,hr.mod⟩⟩
 ·rw[Z13p _ _ (by omega),Z3b,if_pos hk]at hg;refine⟨[.i (askE (p.asks.getD i aD))],rfl,λ_ w' _=>Z11o w' _ (hf i),?_⟩;simp only[Tree.goal,X.P,X.ev,SV.ev,CV.ev,Sc.ev,qz,QA,QB,QC,QD,QE,QF,QG,QH,QI,QJ,QK,QL,QM,Nat.reduceAdd];refine⟨λh3 w' hr=>⟨by rw[<- hg,if_neg h3],hr.mod⟩,λh3=>⟨by omega,by omega,⟨i+1,x,rfl,by omega,?_⟩,by omega⟩⟩;rw[<- hg,if_pos (qy9.1 h3)]
 ·rw[Z13p _ _ (by omega),Z3b,if_neg hk]at hg;have:=hf i;refine⟨[.i (chkT (p.asks.getD i aD).1 true)],rfl,λ_ w' _=>Zp3 w' _ (by omega),?_⟩;simp only[Tree.goal,X.P,X.ev,SV.ev,CV.ev,Sc.ev,qz,QA,QB,QC,QD,QE,QF,QG,QH,QI,QJ,QK,QL,QM,Nat.reduceAdd,gA1];refine⟨λh3 w' hr=>⟨?_,hr.mod⟩,λh3=>⟨λh4 w' hr=>⟨?_,hr.mod⟩,λh4=>⟨by omega,by omega,⟨i+1,x,rfl,by omega,?_⟩,by omega⟩⟩⟩
  ·have e:Z61 (p.asks.getD i aD)=chkT (p.asks.getD i aD).1 true:=by rw[Z61,if_neg h3]
   rw[<- hg,e,if_neg h3]
  ·have e:Z61 (p.asks.getD i aD)=1:=by rw[Z61,if_pos (qy9.1 h3),if_neg h4]
   rw[<- hg,e];rfl
  ·have e:Z61 (p.asks.getD i aD)=0:=by rw[Z61,if_pos (qy9.1 h3),if_pos (qy9.1 h4)]
   rw[<- hg,e];rfl
 ·have:i=p.asks.length:=by omega
  subst this;rw[List.drop_length]at hg;rw[<- hg];rfl
theorem Zzp:Calls Tryz.prog 147 #[pV p u v] w λe w'=>e=.returned (.int .i64 (Zbg p))/\Mod [] w w':=by
 refine Z1 (Z3 (J:=[.i p.kind,.b p.dup,.b p.retain,.b p.clean,.b p.session,.i p.qos,.i p.id,.i p.keep,.i p.code,.s p.client,.s p.topic,.s p.payload,.v u,.r (p.asks.map encA),.v v,.r (p.codes.map Z18)]) sxE_ok Tryz.func147 Zc7 rfl rfl (Rel.start2 (by simp[Ent.holds,Ent.wr,hu,hv,X.ev])) rfl rfl ?_) rfl;have h1:=hs.codes;simp only[Tree.goal,X.P,X.ev,SV.ev,CV.ev,Sc.ev,qz,QA,QB,QC,QD,QE,QF,QG,QH,QI,QJ,QK,QL,QM,Nat.reduceAdd,qy3];intro b;refine⟨[.i (Zl p.codes.length)],rfl,λ_ w' _=>Zv1 w' _,?_⟩;simp only[Tree.goal,X.P,X.ev,SV.ev,CV.ev,Sc.ev,qz,QA,QB,QC,QD,QE,QF,QG,QH,QI,QJ,QK,QL,QM,Nat.reduceAdd,qy3];refine⟨λh w' hr=>⟨by rw[Zbg,if_neg h],hr.mod⟩,λh=>?_⟩;have h:=qy9.1 h;rw[Zbg,if_pos h];refine⟨λvs=>∃(i:Nat) (x:V),vs=[x,.i i]/\i<=p.codes.length/\(p.codes.drop i).any Z7n=p.codes.any Z7n,λvs=>p.codes.length - (vs.getD 1 (.i 0)).toI.toNat,⟨0,_,rfl,by omega,rfl⟩,?_⟩;rintro _ - ⟨i,x,rfl,hi,hg⟩;simp only[Tree.goal,X.P,X.ev,SV.ev,CV.ev,Sc.ev,qz,QA,QB,QC,QD,QE,QF,QG,QH,QI,QJ,QK,QL,QM,Nat.reduceAdd,qy3,qy4,gI0];refine⟨λh2=>?_,λh2=>?_⟩
 ·rw[Z13q _ _ (by omega),List.any_cons]at hg;refine⟨by omega,λh3 w' hr=>⟨?_,hr.mod⟩,λh3=>⟨by omega,by omega,⟨i+1,x,rfl,by omega,?_⟩,by omega⟩⟩
  ·have e:Z7n (p.codes.getD i 0)=true:=by simp only[Z7n,decide_eq_true_eq];exact⟨h3.1.1,h3.1.2,h3.2⟩
   rw[<- hg,e];rfl
  ·have e:Z7n (p.codes.getD i 0)=false:=by
    simp only[Z7n,decide_eq_false_iff_not];exact λh4=>h3 ⟨⟨h4.1,h4.2.1⟩,h4.2.2⟩
   rw[<- hg,e];rfl
 ·have:i=p.codes.length:=by omega
  subst this;rw[List.drop_length]at hg;rw[<- hg];exact⟨λh3=>absurd h3 (by omega),λh3 w' hr=>⟨rfl,hr.mod⟩⟩
end
end Go.Proofs.Y
namespace Go.Proofs.Y
open Go.Sx
abbrev wV(x:Wt):Value:=.agg #[.string ⟨x.1.toArray⟩,.string ⟨x.2.1.toArray⟩,.int .i64 x.2.2]
theorem c_Or(w:World)(v:Value)(x y:Int)(hv:reads w v [.int .i64] [[.int .i64 x],[.int .i64 y]]):Calls Tryz.prog 169 #[sc1 v] w λe w'=>e=.returned (.int .i64 (if x=0 then y else x))/\Mod [] w w':=by
  refine Z1 (Z3 (J:=[.v v,.r [[.int .i64 x],[.int .i64 y]]]) sxE_ok Tryz.func169 Zf6 rfl rfl (Rel.start2 (by simp[Ent.holds,Ent.wr,hv,X.ev])) rfl rfl ?_) rfl;simp only[Tree.goal,X.P,X.ev,SV.ev,CV.ev,Sc.ev,qz,QA,QB,QC,QD,QE,QF,QG,QH,QI,QJ,QK,QL,QM,Nat.reduceAdd];refine⟨λvs=>∃(i:Nat) (u:V),vs=[u,.i i]/\i<=2/\(1<=i->x=0)/\(2<=i->y=0),λvs=>2 - (vs.getD 1 (.i 0)).toI.toNat,⟨0,_,rfl,by omega,λh=>by omega,λh=>by omega⟩,?_⟩;rintro _ - ⟨i,u,rfl,hi,h1,h2⟩;have h3:i=0\/i=1\/i=2:=by omega
  rcases h3 with rfl|rfl|rfl
  . simp only[Tree.goal,X.P,X.ev,SV.ev,CV.ev,Sc.ev,qz,QA,QB,QC,QD,QE,QF,QG,QH,QI,QJ,QK,QL,QM,Nat.reduceAdd];refine⟨λ_=>⟨by omega,λh w' hr=>⟨?_,hr.mod⟩,λh=>⟨by omega,by omega,⟨1,_,rfl,by omega,λ_=>?_,λh=>by omega⟩,by simp⟩⟩,λh=>by simp at h⟩
    . rw[if_neg (show ¬x=0 from h)];rfl
    . exact qy9.1 h
  . have hx:=h1 (Nat.le_refl _);simp only[Tree.goal,X.P,X.ev,SV.ev,CV.ev,Sc.ev,qz,QA,QB,QC,QD,QE,QF,QG,QH,QI,QJ,QK,QL,QM,Nat.reduceAdd];refine⟨λ_=>⟨by omega,λh w' hr=>⟨?_,hr.mod⟩,λh=>⟨by omega,by omega,⟨2,_,rfl,by omega,λ_=>hx,λ_=>?_⟩,by simp⟩⟩,λh=>by simp at h⟩
    . rw[if_pos hx];rfl
    . exact qy9.1 h
  . have hx:=h1 (by omega);have hy:=h2 (by omega);simp only[Tree.goal,X.P,X.ev,SV.ev,CV.ev,Sc.ev,qz,QA,QB,QC,QD,QE,QF,QG,QH,QI,QJ,QK,QL,QM,Nat.reduceAdd];refine⟨λh=>by simp at h,λ_ w' hr=>⟨?_,hr.mod⟩⟩;rw[if_pos hx,hy]
theorem Znc(w:World)(a b:Wt):Calls Tryz.prog 118 #[wV a,wV b] w λe w'=>e=.returned (.int .i64 (cmpP (ky a) (ky b)))/\Mod [] w w':=by refine Z1 (Z9 (J:=[.s a.1,.s a.2.1,.i a.2.2,.s b.1,.s b.2.1,.i b.2.2]) (sxE_ok.joins _) Tryz.func118 Zf3 rfl rfl rfl ?_) rfl;simp only[Tree.goal,X.P,X.ev,SV.ev,CV.ev,Sc.ev,qz,QA,QB,QC,QD,QE,QF,QG,QH,QI,QJ,QK,QL,QM,Nat.reduceAdd];intro b1 b2;refine⟨[.i (Z3f a.1 b.1)],rfl,λ_ w' _=>Z7k w' _ _,?_⟩;simp only[Tree.goal,X.P,X.ev,SV.ev,CV.ev,Sc.ev,qz,QA,QB,QC,QD,QE,QF,QG,QH,QI,QJ,QK,QL,QM,Nat.reduceAdd];refine⟨[.i (Z3f a.2.1 b.2.1)],rfl,λ_ w' _=>Z7k w' _ _,?_⟩;simp only[Tree.goal,X.P,X.ev,SV.ev,CV.ev,Sc.ev,qz,QA,QB,QC,QD,QE,QF,QG,QH,QI,QJ,QK,QL,QM,Nat.reduceAdd];intro v;refine⟨[.i (cmpP (ky a) (ky b))],rfl,λ_ w' hr=>c_Or w' v _ _ (hr.at_ 0 rfl).reads,?_⟩;simp only[Tree.goal,X.P,X.ev,SV.ev,CV.ev,Sc.ev,qz,QA,QB,QC,QD,QE,QF,QG,QH,QI,QJ,QK,QL,QM,Nat.reduceAdd];exact λw' hr=>⟨by trivial,hr.mod⟩
def Z33(x:Wt):Int:=if cliB x.1=true then askE (x.2.1,x.2.2)else 1
theorem Z13s(w:World)(x:Wt)(hs:smW x):Calls Tryz.prog 117 #[wV x] w λe w'=>e=.returned (.int .i64 (Z33 x))/\Mod [] w w':=by have h1:=hs.1;have h2:=hs.2;refine Z1 (Z9 (J:=[.s x.1,.s x.2.1,.i x.2.2]) sxE_ok Tryz.func117 Zj0 rfl rfl rfl ?_) rfl;simp only[Tree.goal,X.P,X.ev,SV.ev,CV.ev,Sc.ev,qz,QA,QB,QC,QD,QE,QF,QG,QH,QI,QJ,QK,QL,QM,Nat.reduceAdd];intro b1;refine⟨[.b (cliB x.1)],rfl,λ_ w' _=>Zlo w' _ (by omega),?_⟩;simp only[Tree.goal,X.P,X.ev,SV.ev,CV.ev,Sc.ev,qz,QA,QB,QC,QD,QE,QF,QG,QH,QI,QJ,QK,QL,QM,Nat.reduceAdd];refine⟨λh w' hr=>⟨by rw[Z33,if_neg h],hr.mod⟩,λh=>?_⟩;have h:=qy9.1 h;refine⟨[.i (askE (x.2.1,x.2.2))],rfl,λ_ w' _=>Z11o w' (x.2.1,x.2.2) h2,?_⟩;simp only[Tree.goal,X.P,X.ev,SV.ev,CV.ev,Sc.ev,qz,QA,QB,QC,QD,QE,QF,QG,QH,QI,QJ,QK,QL,QM,Nat.reduceAdd];exact λw' hr=>⟨by rw[Z33,if_pos h],hr.mod⟩
def Zdw:Option Ky->List Wt->Int
  | _,[]=>0
  | p,k::l=>if Z33 k≠0 then Z33 k else if(p.any λt=>!(ltP t (ky k)))=true then 4 else Zdw (some (ky k)) l
def Zj(l:List Wt):Int:=if 20<(l.length:Int)then 2 else Zdw none l
def Zrk(l:List Wt)(i:Nat):Option Ky:=if i=0 then none else some (ky (l.getD (i - 1) wD_V))
theorem Zv3(l:List Wt)(i:Nat):((Zrk l i).any λt=>!(ltP t (ky (l.getD i wD_V))))=true↔(0<(i:Int)/\0<=cmpP (ky (l.getD (i - 1) wD_V)) (ky (l.getD i wD_V))):=by
  unfold Zrk;rw[Zup];by_cases h:i=0
  . simp[h]
  . rw[if_neg h];simp only[Option.any_some,Bool.not_eq_true'];exact⟨λh2=>⟨by omega,h2⟩,λh2=>h2.2⟩
theorem Zhz{l:List Wt}{i:Nat}(h:i<l.length):Zdw (Zrk l i) (l.drop i)=if Z33 (l.getD i wD_V)≠0 then Z33 (l.getD i wD_V)
    else if 0<(i:Int)/\0<=cmpP (ky (l.getD (i - 1) wD_V)) (ky (l.getD i wD_V))then 4 else Zdw (Zrk l (i+1)) (l.drop (i+1)):=by
  rw[Zft l i h,Zdw];simp only[Zv3];rfl
theorem Zrl(w:World)(v:Value)(l:List Wt)(hv:Z1k w v l)(hs:Z1y l)(hl:l.length<1000000000):Calls Tryz.prog 55 #[sc1 v] w λe w'=>e=.returned (.int .i64 (Zj l))/\Mod [] w w':=by
  refine Z1 (Z3 (J:=[.v v,.r (l.map Z7)]) sxE_ok Tryz.func55 Zfa rfl rfl (Rel.start2 (by simp[Ent.holds,Ent.wr,hv,X.ev])) rfl rfl ?_) rfl;simp only[Tree.goal,X.P,X.ev,SV.ev,CV.ev,Sc.ev,qz,QA,QB,QC,QD,QE,QF,QG,QH,QI,QJ,QK,QL,QM,Nat.reduceAdd,qy3,qy4,Z10,Z13,Z1n];refine⟨λh w' hr=>⟨by rw[Zj,if_pos h],hr.mod⟩,λh=>?_⟩;rw[Zj,if_neg h];refine⟨λvs=>∃(i:Nat) (x:V),vs=[x,.i i]/\i<=l.length/\Zdw (Zrk l i) (l.drop i)=Zdw none l,λvs=>l.length - (vs.getD 1 (.i 0)).toI.toNat,⟨0,_,rfl,by omega,rfl⟩,?_⟩;rintro _ - ⟨i,x,rfl,hi,hg⟩;simp only[Tree.goal,X.P,X.ev,SV.ev,CV.ev,Sc.ev,qz,QA,QB,QC,QD,QE,QF,QG,QH,QI,QJ,QK,QL,QM,Nat.reduceAdd,qy3,qy4,Z10,Z13,Z1n];have hi1:((i:Int) - 1).toNat=i - 1:=by omega
  try rw[hi1]
  refine⟨λh1=>⟨by omega,λb=>?_⟩,λh1 w' hr=>⟨?_,hr.mod⟩⟩
  . rw[Zhz (by omega)]at hg;refine⟨[.i (Z33 (l.getD i wD_V))],rfl,λ_ w' _=>Z13s w' _ (Z7l hs i),?_⟩;simp only[Tree.goal,X.P,X.ev,SV.ev,CV.ev,Sc.ev,qz,QA,QB,QC,QD,QE,QF,QG,QH,QI,QJ,QK,QL,QM,Nat.reduceAdd,qy3,qy4,Z10,Z13,Z1n];try rw[hi1]
    refine⟨λh2 w' hr=>⟨?_,hr.mod⟩,λh2=>⟨by omega,by omega,by omega,by omega,?_⟩⟩
    . rw[if_pos h2]at hg;rw[<- hg]
    . rw[if_neg h2]at hg;refine⟨[.i (cmpP (ky (l.getD (i - 1) wD_V)) (ky (l.getD i wD_V)))],rfl,λ_ w' _=>Znc w' (l.getD (i - 1) wD_V) (l.getD i wD_V),?_⟩;simp only[Tree.goal,X.P,X.ev,SV.ev,CV.ev,Sc.ev,qz,QA,QB,QC,QD,QE,QF,QG,QH,QI,QJ,QK,QL,QM,Nat.reduceAdd];refine⟨λh6 w' hr=>⟨?_,hr.mod⟩,λh6=>⟨by omega,by omega,⟨i+1,x,rfl,by omega,?_⟩,by omega⟩⟩
      . rw[if_pos h6]at hg;rw[<- hg]
      . rw[if_neg h6]at hg;exact hg
  . have:i=l.length:=by omega
    subst this;rw[List.drop_length]at hg;rw[<- hg];rfl
theorem Zbi:∀(l:List Wt) (p:Option Ky),Zdw p l=0↔(∀k∈l,Z33 k=0)/\Z7m l/\∀t,p=some t->∀k∈l,ltP t (ky k)=true
  | [],p=>by simp[Zdw,Z7m]
  | k::l,p=>by
    rw[Zdw];constructor
    . intro h;split at h
      . exact absurd h (by assumption)
      rename_i h1;split at h
      . exact absurd h (by decide)
      rename_i h5;obtain⟨i1,i2,i3⟩:=(Zbi l (some (ky k))).1 h;refine⟨λx hx=>?_,List.pairwise_cons.2 ⟨λx hx=>i3 _ rfl x hx,i2⟩,λt ht x hx=>?_⟩
      . rcases List.mem_cons.1 hx with rfl|hx
        . exact qy9.1 h1
        . exact i1 x hx
      . subst ht;have h6:ltP t (ky k)=true:=by simpa using h5
        rcases List.mem_cons.1 hx with rfl|hx
        . exact h6
        . exact Z5c h6 (i3 _ rfl x hx)
    . rintro⟨i1,i2,i3⟩;obtain⟨j1,j2⟩:=List.pairwise_cons.1 i2;rw[if_neg (by simpa using i1 k (qy8 ..)),if_neg]
      . exact(Zbi l (some (ky k))).2 ⟨λx hx=>i1 x (qy10 _ hx),j2,λt ht x hx=>by cases ht;exact j1 x hx⟩
      . cases p with
        | none=>simp
        | some t=>simpa using i3 t rfl k (qy8 ..)
theorem Z1b{l:List Wt}:Zj l=0↔l.length<=20/\(∀k∈l,Z33 k=0)/\Z7m l:=by
  unfold Zj;constructor
  . intro h;split at h
    . exact absurd h (by decide)
    . obtain⟨a,b,-⟩:=(Zbi l none).1 h;exact⟨by omega,a,b⟩
  . rintro⟨a,b,c⟩;rw[if_neg (by omega)];exact(Zbi l none).2 ⟨b,c,λt ht=>by cases ht⟩
theorem Zv4{v:Value}(hn:(match v with | .slice none _ _=>true|_=>false)=true){w:World}{ks:List Kd}{rows:List (List Value)}(h:reads w v ks rows):rows=[]:=by obtain⟨_,a,cap,rfl,_,h2⟩:=h;refine Classical.byContradiction λhne=>?_;obtain⟨ad,rfl,_⟩:=h2 hne;simp at hn
theorem Z4v(w:World)(v:Value)(l:List Wt)(hv:Z1k w v l)(hl:l.length<1000000000):Calls Tryz.prog 149 #[sc1 v] w λe w'=>∃v',e=.returned (sc1 v')/\Z9x w' v' l/\(∀k,Z2 v' k->w.heap.size<=k)/\Mod [] w w':=by
  refine Z1 (Z3 (J:=[.v v,.r (l.map Z7)]) sxE_ok Tryz.func149 Z2z rfl rfl (Rel.start2 (by simp[Ent.holds,Ent.wr,hv,X.ev])) rfl rfl ?_) rfl;simp only[Tree.goal,X.P,X.ev,SV.ev,CV.ev,Sc.ev,qz,QA,QB,QC,QD,QE,QF,QG,QH,QI,QJ,QK,QL,QM,Nat.reduceAdd,qy3,List.nil_append];refine⟨λh w' hr=>?_,λh v1=>⟨by simp only[Int.natCast_zero];omega,λv2 w' hr=>?_⟩⟩
  . have hn:l=[]:=List.map_eq_nil_iff.1 (Zv4 h hv);subst hn;exact⟨_,rfl,hr.at_ 0 rfl,hr.fresh 0 rfl,hr.mod⟩
  . exact⟨v2,rfl,hr.at_ 0 rfl,hr.fresh 0 rfl,hr.mod⟩
theorem Z11p(w:World)(s v:Value)(l:List Wt)(x:Wt)(i:Nat)(hs:Z9x w s l)(hv:Z9x w v [x])(hne:∀k,Z2 s k->Z2 v k->False)(hi:i<=l.length)(hl:l.length<1000000) : Calls Tryz.prog 197 #[sc1 s,.int .i64 i,sc1 v] w λe w'=>∃v',e=.returned (sc1 v')/\Z9x w' v' (l.take i++[x]++l.drop i)/\(∀k,Z2 v' k->Z2 s k\/w.heap.size<=k)/\Mod s.ownBlock.toList w w':=by rw[hs.reads.sc1,hv.reads.sc1];refine(Zuy w s v i _ _ hs hv hne (by simpa using hi) (by simp;omega)).mono ?_;rintro e w' ⟨v',rfl,g1,g2,g3⟩;refine⟨v',by rw[g1.reads.sc1],?_,g2,Mod.of_grown g3 λk hk=>.inl (Option.mem_toList.2 hk)⟩;rw[Z9x,List.map_append,List.map_append,List.map_take,List.map_drop];exact g1
theorem Zed{J:List V}{g:List Nat}{i:Nat}(hi:i∈g){k:Nat}(h:Z2 (J.getD i (.i 0)).toV k):k∈Zx J g:=List.mem_flatMap.2 ⟨i,hi,by rw[h];simp⟩
def newW(n:Nat)(u:Value):Prop:=∀k,Z2 u k->n<=k
theorem Z8x(n:Nat):newW n (.slice none 0 0):=λk hk=>by simp[Z2,Value.ownBlock]at hk
theorem Z3t(w:World):Z1k w (.slice none 0 0) []:=⟨by simp,none,0,rfl,⟨λ_=>rfl,Nat.le_refl _⟩,λh=>absurd rfl h⟩
def Z11q(w w':World)(e:Ending)(r:List Wt)(er:Int):Prop:=∃v',e=.returned (.tuple #[sc1 v',.int .i64 er])/\Z1k w' v' r/\newW w.heap.size v'/\Mod [] w w'
def rawW(l:List Wt)(x:Wt):List Wt×Int :=
  if hasW l (ky x)=true then(l.set (idxW l (ky x)) x,0)
  else if(l.length:Int)=20 then([],2)else(l.take (idxW l (ky x))++[x]++l.drop (idxW l (ky x)),0)
theorem Z3q(R:List Wt)(m:Nat)(x:Wt):(R.map Z7).set m [.string ⟨x.1.toArray⟩,.string ⟨x.2.1.toArray⟩,.int .i64 x.2.2]=(R.set m x).map Z7:=by rw[List.map_set];rfl
theorem Z168(w:World)(v:Value)(l:List Wt)(x:Wt)(hv:Z1k w v l)(hs:Z7m l)(hl:l.length<=20):Calls Tryz.prog 158 #[sc1 v,wV x] w λe w'=>Z11q w w' e (rawW l x).1 (rawW l x).2:=by
  refine Z1 (Z3 (J:=[.v v,.r (l.map Z7),.s x.1,.s x.2.1,.i x.2.2]) sxE_ok Tryz.func158 Zix rfl rfl (Rel.start2 (by simp[Ent.holds,Ent.wr,hv,X.ev])) rfl rfl ?_) rfl;simp only[Tree.goal,X.P,X.ev,SV.ev,CV.ev,Sc.ev,qz,QA,QB,QC,QD,QE,QF,QG,QH,QI,QJ,QK,QL,QM,Nat.reduceAdd,qy3,qy4,Z10,Z13,Z1n];intro b1 w1 hr;refine(Z4v w1 v l (by(first|exact hr.at_ 0 rfl|exact hr.at_ 1 rfl|exact hr.at_ 2 rfl|exact hr.at_ 3 rfl|exact hr.at_ 4 rfl|exact hr.at_ 5 rfl|exact hr.at_ 6 rfl|exact hr.at_ 7 rfl|exact hr.at_ 8 rfl)) (by omega)).mono ?_;rintro e w2 ⟨u,rfl,a1,f1,m1⟩;refine⟨[.v u,.r (l.map Z7)],rfl,rfl,m1,qy5 _,qy2.2 ⟨⟨a1,λk hk=>.inl (f1 k hk)⟩,qy5 _⟩,Z5,?_⟩;clear hr a1 f1 m1;simp only[Tree.goal,X.P,X.ev,SV.ev,CV.ev,Sc.ev,qz,QA,QB,QC,QD,QE,QF,QG,QH,QI,QJ,QK,QL,QM,Nat.reduceAdd,qy3,qy4,Z10,Z13,Z1n];intro b3;refine⟨λvs=>∃(i j:Nat),vs=[.i i,.i j]/\i<=j/\j<=l.length/\(∀k,k<i->ltP (ky (l.getD k wD_V)) (ky x)=true)/\(∀k,j<=k->k<l.length->ltP (ky (l.getD k wD_V)) (ky x)=false),λvs=>(vs.getD 1 (.i 0)).toI.toNat - (vs.getD 0 (.i 0)).toI.toNat,⟨0,l.length,rfl,by omega,by omega,λk hk=>by omega,λk h1 h2=>by omega⟩,?_⟩;rintro _ - ⟨i,j,rfl,hij,hj,hA,hB⟩;simp only[Tree.goal,X.P,X.ev,SV.ev,CV.ev,Sc.ev,qz,QA,QB,QC,QD,QE,QF,QG,QH,QI,QJ,QK,QL,QM,Nat.reduceAdd,qy3,qy4,Z10,Z13,Z1n];refine⟨λh1=>?_,λh1=>?_⟩
  . rw[Z180 i j (by omega)];obtain⟨h,hh⟩:∃h,h=(i+j) / 2:=⟨_,rfl⟩
    rw[<- hh];have hh1:i<=h/\h<j:=by omega
    simp only[qy4,Z10,Z13,Z1n];refine⟨by omega,by omega,by omega,by omega,by omega,by omega,?_⟩;refine⟨[.i (cmpP (ky (l.getD h wD_V)) (ky x))],rfl,λ_ w' _=>Znc w' (l.getD h wD_V) x,?_⟩;simp only[Tree.goal,X.P,X.ev,SV.ev,CV.ev,Sc.ev,qz,QA,QB,QC,QD,QE,QF,QG,QH,QI,QJ,QK,QL,QM,Nat.reduceAdd,qy3,qy4,Z10,Z13,Z1n];rw[Zun];refine⟨λh2=>⟨by omega,by omega,⟨h+1,j,rfl,by omega,hj,λk hk=>?_,hB⟩,by omega⟩,λh2=>⟨⟨i,h,rfl,by omega,by omega,hA,λk hk1 hk2=>?_⟩,by omega⟩⟩
    . by_cases hkh:k=h
      . rw[hkh];exact h2
      . exact Z5c (Zjl hs (i:=k) (j:=h) (by omega) (by omega)) h2
    . have h3:ltP (ky (l.getD h wD_V)) (ky x)=false:=by simpa using h2
      by_cases hkh:k=h
      . rw[hkh];exact h3
      . cases h4:ltP (ky (l.getD k wD_V)) (ky x)with
        | false=>rfl
        | true =>
          have:=Z5c (Zjl hs (i:=h) (j:=k) (by omega) hk2) h4;rw[h3]at this;cases this
  . have hie:i=j:=by omega
    subst hie;have e:=Zuq (i:=i) hj hA hB;refine⟨by omega,by omega,λh2=>?_,λh2=>?_⟩
    . refine⟨[.i (cmpP (ky (l.getD i wD_V)) (ky x))],rfl,λ_ w' _=>Znc w' (l.getD i wD_V) x,?_⟩;simp only[Tree.goal,X.P,X.ev,SV.ev,CV.ev,Sc.ev,qz,QA,QB,QC,QD,QE,QF,QG,QH,QI,QJ,QK,QL,QM,Nat.reduceAdd,qy3,qy4,Z10,Z13,Z1n];rw[Zuo];refine⟨λh3=>⟨by omega,λw3 hr=>?_⟩,λh3=>⟨λh4 w3 hr=>?_,λh4 u2 w3 hr=>?_⟩⟩
      . have hh:hasW l (ky x)=true:=by rw[hasW,<- e];exact decide_eq_true ⟨by omega,h3⟩
        rw[rawW,if_pos hh,<- e];refine⟨u,rfl,?_,hr.fresh 1 rfl,hr.mod⟩;have h0:=(hr.at_ 1 rfl).reads;rw[Z1k,<- Z3q];exact h0
      . have hh:¬hasW l (ky x)=true:=by rw[hasW,<- e,decide_eq_true_eq];exact λh=>h3 h.2
        rw[rawW,if_neg hh,if_pos h4];exact⟨_,rfl,Z3t _,Z8x _,hr.mod⟩
      . have hh:¬hasW l (ky x)=true:=by rw[hasW,<- e,decide_eq_true_eq];exact λh=>h3 h.2
        rw[rawW,if_neg hh,if_neg h4,<- e];refine(Z11p w3 u u2 l x i (by(first|exact hr.at_ 0 rfl|exact hr.at_ 1 rfl|exact hr.at_ 2 rfl|exact hr.at_ 3 rfl|exact hr.at_ 4 rfl|exact hr.at_ 5 rfl|exact hr.at_ 6 rfl|exact hr.at_ 7 rfl|exact hr.at_ 8 rfl)) (by(first|exact hr.at_ 0 rfl|exact hr.at_ 1 rfl|exact hr.at_ 2 rfl|exact hr.at_ 3 rfl|exact hr.at_ 4 rfl|exact hr.at_ 5 rfl|exact hr.at_ 6 rfl|exact hr.at_ 7 rfl|exact hr.at_ 8 rfl)) (λk h5 h6=>hr.sep.disj (i:=2) (j:=0) rfl rfl (by omega) (.inl rfl) (k:=k) h5 h6) (by omega) (by omega)).mono ?_;rintro e w4 ⟨v',rfl,g1,g2,g3⟩;refine⟨[.v v',.r ((l.take i++[x]++l.drop i).map Z7)],rfl,rfl,g3.mono λk hk=>.inl (by unfold Zs;exact List.mem_append_right _ (Zed (i:=7) (by simp) (Option.mem_toList.1 hk))),qy5 _,qy2.2 ⟨⟨g1,λk hk=>?_⟩,qy5 _⟩,Z5,?_⟩;(· rcases g2 k hk with h5|h5;(· exact .inr (.inr (Zed (i:=7) (by simp) h5)));(· exact .inl h5));(· intro w5 hr5;exact⟨v',rfl,(hr5.at_ 0 rfl).reads,hr5.fresh 0 rfl,hr5.mod⟩)
    . have hh:¬hasW l (ky x)=true:=by rw[hasW,<- e,decide_eq_true_eq];exact λh=>h2 (by omega)
      refine⟨λh4 w3 hr=>?_,λh4 u2 w3 hr=>?_⟩
      . rw[rawW,if_neg hh,if_pos h4];exact⟨_,rfl,Z3t _,Z8x _,hr.mod⟩
      . rw[rawW,if_neg hh,if_neg h4,<- e];refine(Z11p w3 u u2 l x i (by(first|exact hr.at_ 0 rfl|exact hr.at_ 1 rfl|exact hr.at_ 2 rfl|exact hr.at_ 3 rfl|exact hr.at_ 4 rfl|exact hr.at_ 5 rfl|exact hr.at_ 6 rfl|exact hr.at_ 7 rfl|exact hr.at_ 8 rfl)) (by(first|exact hr.at_ 0 rfl|exact hr.at_ 1 rfl|exact hr.at_ 2 rfl|exact hr.at_ 3 rfl|exact hr.at_ 4 rfl|exact hr.at_ 5 rfl|exact hr.at_ 6 rfl|exact hr.at_ 7 rfl|exact hr.at_ 8 rfl)) (λk h5 h6=>hr.sep.disj (i:=2) (j:=0) rfl rfl (by omega) (.inl rfl) (k:=k) h5 h6) (by omega) (by omega)).mono ?_;rintro e w4 ⟨v',rfl,g1,g2,g3⟩;refine⟨[.v v',.r ((l.take i++[x]++l.drop i).map Z7)],rfl,rfl,g3.mono λk hk=>.inl (by unfold Zs;exact List.mem_append_right _ (Zed (i:=7) (by simp) (Option.mem_toList.1 hk))),qy5 _,qy2.2 ⟨⟨g1,λk hk=>?_⟩,qy5 _⟩,Z5,?_⟩;(· rcases g2 k hk with h5|h5;(· exact .inr (.inr (Zed (i:=7) (by simp) h5)));(· exact .inl h5));(· intro w5 hr5;exact⟨v',rfl,(hr5.at_ 0 rfl).reads,hr5.fresh 0 rfl,hr5.mod⟩)
theorem Z2f(p:Wt->Bool)(l:List Wt)(i:Nat)(h:i<l.length):(l.take (i+1)).filter p=(l.take i).filter p++(if p (l.getD i wD_V)=true then[l.getD i wD_V]else[]):=by
  rw[Zfu l i h,List.filter_append];generalize l.getD i wD_V=o
  by_cases h1:p o=true<;>simp[h1]
theorem Zbj{p:Wt->Bool}{l:List Wt}{i:Nat}(h:∀j,j<i->p (l.getD j wD_V)=true):(l.take i).filter p=l.take i:=by rw[List.filter_eq_self];intro x hx;obtain⟨j,hj,rfl⟩:=List.getElem_of_mem hx;simp only[List.length_take]at hj;have:=h j (by omega);rw[List.getElem_take];rwa [qy1,qy7 (by omega)]at this
theorem Zfv{R l:List Wt}{a j:Nat}{p:Wt->Bool}(haj:a<j)(hj:j<l.length)(hR:R.length=l.length)(ht:R.take a=(l.take j).filter p)(hd:R.drop j=l.drop j)(hp:p (l.getD j wD_V)=true) : (R.set a (R.getD j wD_V)).take (a+1)=(l.take (j+1)).filter p:=by
  have hg:R.getD j wD_V=l.getD j wD_V:=by have:=congrArg (λl=>l[0]?) hd;simp only[List.getElem?_drop,Nat.add_zero]at this;rw[qy1,qy1,this]
  rw[Z2f p l j hj,if_pos hp,<- ht,hg,Zfu _ _ (by simp;omega)];congr 1
  . rw[List.take_set_of_le (Nat.le_refl _)]
  . rw[qy1,List.getElem?_set_self (by omega)];rfl
theorem Z6v{R l:List Wt}{j:Nat}(hd:R.drop j=l.drop j):R.drop (j+1)=l.drop (j+1):=by have:=congrArg (λl=>l.drop 1) hd;simpa[List.drop_drop,Nat.add_comm]using this
theorem Zlp{R l:List Wt}{j:Nat}(hd:R.drop j=l.drop j):R.getD j wD_V=l.getD j wD_V:=by have:=congrArg (λl=>l[0]?) hd;simp only[List.getElem?_drop,Nat.add_zero]at this;rw[qy1,qy1,this]
theorem Zjp{l:List Wt}{x:Wt}(hs:Z7m l)(h0:(rawW l x).2=0):(rawW l x).1=loW l (ky x)++[x]++hiW l (ky x):=by
  have t1:=Zzf (n:=ky x) hs;have t2:=Zpb (n:=ky x) hs;unfold rawW at h0⊢;rcases Zpc (n:=ky x) hs with⟨h1,k,h2,h3⟩|⟨h1,h2⟩
  . rw[if_pos h1];simp only;have hlt:=(of_decide_eq_true h1).1;rw[List.set_eq_take_append_cons_drop,if_pos hlt,t1];have:l.drop (idxW l (ky x)+1)=hiW l (ky x):=by
      rw[<- List.drop_drop,t2,h2];rfl
    rw[this];simp
  . rw[if_neg (by rw[h1];decide)]at h0⊢;by_cases h4:(l.length:Int)=20
    . rw[if_pos h4]at h0;exact absurd h0 (by decide)
    . rw[if_neg h4];simp only;rw[t1,t2,h2,List.nil_append]
theorem Z13t{l:List Wt}{x:Wt}(h:Zj l=0)(hx:Z33 x=0)(h0:(rawW l x).2=0):Zj (rawW l x).1=0:=by
  obtain⟨a,b,c⟩:=Z1b.1 h;refine Z1b.2 ⟨?_,?_,?_⟩
  . unfold rawW at h0⊢;by_cases h1:hasW l (ky x)=true
    . rw[if_pos h1];simpa using a
    . rw[if_neg h1]at h0⊢;by_cases h4:(l.length:Int)=20
      . rw[if_pos h4]at h0;exact absurd h0 (by decide)
      . rw[if_neg h4];have:=Zur l (ky x);simp;omega
  . rw[Zjp c h0];intro k hk;rcases qy13.1 hk with hk|hk
    . rcases qy13.1 hk with hk|hk
      . exact b k (List.mem_filter.1 hk).1
      . rw[qy12.1 hk];exact hx
    . exact b k (List.mem_filter.1 hk).1
  . rw[Zjp c h0];have q1:∀k∈loW l (ky x),ltP (ky k) (ky x)=true:=λk hk=>(List.mem_filter.1 hk).2;have q2:∀k∈hiW l (ky x),ltP (ky x) (ky k)=true:=λk hk=>(List.mem_filter.1 hk).2;refine List.pairwise_append.2 ⟨List.pairwise_append.2 ⟨c.filter _,List.pairwise_singleton _ _,λa ha b hb=>?_⟩,c.filter _,λa ha b hb=>?_⟩
    . rw[qy12.1 hb];exact q1 a ha
    . rcases qy13.1 ha with ha|ha
      . exact Z5c (q1 a ha) (q2 b hb)
      . rw[qy12.1 ha];exact q2 b hb
open Go Go.Sort
section
variable {α:Type} [Inhabited α] {enc:α->List Value} {k:Nat}
theorem Zi0(hk:∀x,(enc x).length=k)(k0:0<k)(ds:List α):(flatK enc k ds.toArray).toList=(ds.map enc).flatten:=by
 apply List.ext_getElem?;intro j;have hlen:((ds.map enc).flatten).length=ds.length*k:=by have:=Zf (rows:=ds.map enc) (n:=k) (λr hr=>by obtain⟨x,-,rfl⟩:=List.mem_map.1 hr;exact hk x);simpa using this
 by_cases hj:j<ds.length*k
 ·have e1:(flatK enc k ds.toArray).toList[j]?=some (enc ds.toArray[j / k]!)[j % k]!:=by
   rw[Array.getElem?_toList,Array.getElem?_eq_getElem (by simpa using hj),<- get_flatK enc k ds.toArray j (by simpa using hj),getElem!_pos _ j (by simpa using hj)]
  have hd:j / k<ds.length:=(Nat.div_lt_iff_lt_mul k0).2 hj;have hm:j % k<k:=Nat.mod_lt _ k0;have e2:=Z9k (rows:=ds.map enc) (n:=k) (λr hr=>by obtain⟨x,-,rfl⟩:=List.mem_map.1 hr;exact hk x) (i:=j / k) (c:=j % k) hm;rw[show j / k*k+j % k=j by rw[Nat.mul_comm];exact Nat.div_add_mod j k]at e2;rw[e1,e2,List.getElem?_map,qy7 hd];simp only[Option.map_some,Option.bind_some];have e3:ds.toArray[j / k]! = ds[j / k]:=by rw[getElem!_pos _ _ (by simpa using hd)];simp
  rw[e3,qy7 (by rw[hk];exact hm)];congr 1
  rw[getElem!_pos _ _ (by rw[hk];exact hm)]
 ·rw[List.getElem?_eq_none (by simp;omega),List.getElem?_eq_none (by omega)]
theorem Zfw{w:World}{g:Nat}{cur:Array Value}{e:TypeId}(hk:∀x,(enc x).length=k)(k0:0<k){ds:List α}(hb:w.heap[g]?=some (.cells cur e (0,0)))(ht:cur.toList.take (ds.length*k)=(ds.map enc).flatten) : HoldsK enc k w g 0 ds.toArray:=by
 intro j hj;have hj':j<ds.length*k:=by simpa using hj
 refine⟨?_,by simp[World.frozen?,hb]⟩;have h1:(cur.toList.take (ds.length*k))[j]?=(flatK enc k ds.toArray).toList[j]?:=by rw[ht,Zi0 hk k0]
 rw[List.getElem?_take_of_lt hj']at h1;simp only[World.cell?,hb,Nat.zero_add,Option.isSome_none,Bool.false_eq_true,if_false];have e:(flatK enc k ds.toArray)[j]! = (flatK enc k ds.toArray)[j]:=getElem!_pos _ j hj;rw[<- Array.getElem?_toList,h1,Array.getElem?_toList,Array.getElem?_eq_getElem hj,e];rfl
theorem Zlq{w:World}{g n:Nat}{os:Array Obj}{cur:Array Value}{e:TypeId}{fr:Nat×Nat}(d:Array α)(hb:w.heap[g]?=some (.cells cur e fr)) : (sortWorldK enc k w g 0 n d os).heap[g]?=some (.cells (putCells id 0 (flatK enc k d) cur) e fr):=by have hg:g<w.heap.size:=(Array.getElem?_eq_some_iff.1 hb).1;unfold sortWorldK putRowK;rw[heap_grow_old _ _ (by simpa using hg)];simp[putRow,mapBlock,Sort.ahead,Array.getElem?_modify,hb,onCells]
theorem Zfx{w:World}{g n:Nat}{os:Array Obj}(d:Array α):w.grownBy (sortWorldK enc k w g 0 n d os) (some g):=by unfold sortWorldK putRowK;refine⟨rfl,rfl,rfl,by simp,λj hj hne=>?_⟩;rw[heap_grow_old _ _ (by simpa using hj)];have:g≠j:=λe=>hne (by rw[e]);simp[putRow,mapBlock,Sort.ahead,Array.getElem?_modify,this]
theorem Zfy{w:World}{base g cap n:Nat}{e:TypeId}{os:Array Obj}{cur:Array Value}{ts:List α}(hk:∀x,(enc x).length=k)(k0:0<k)(hbase:base<=g)(hb:w.heap[g]?=some (.cells cur e (0,0))) (h1:ts.length<=cap) (h2:cap<=maxLen) (h3:cur.size=cap*k) : (sortWorldK enc k w g 0 n ts.toArray os).ownsRow base e k (.slice (some ⟨g,0,none⟩) ts.length cap) ts.length (ts.map enc).flatten:=by
 have hlen:((ts.map enc).flatten).length=ts.length*k:=by have:=Zf (rows:=ts.map enc) (n:=k) (λr hr=>by obtain⟨x,-,rfl⟩:=List.mem_map.1 hr;exact hk x);simpa using this
 have hle:ts.length*k<=cur.size:=by rw[h3];exact Nat.mul_le_mul_right k h1
 refine⟨hlen,.inr ⟨g,cap,_,rfl,hbase,Zlq _ hb,h1,h2,by simp[putCells,h3],?_⟩⟩;apply List.ext_getElem?;intro j;by_cases hj:j<ts.length*k
 ·rw[List.getElem?_take_of_lt hj,<- Zi0 hk k0,Array.getElem?_toList,Array.getElem?_toList];have hj2:j<(flatK enc k ts.toArray).size:=by simpa using hj
  have e:(flatK enc k ts.toArray)[j]! = (flatK enc k ts.toArray)[j]:=getElem!_pos _ j hj2;rw[Array.getElem?_eq_getElem (by simp[putCells];omega),Array.getElem?_eq_getElem hj2,<- e];simp only[putCells,Array.getElem_mapIdx,Nat.zero_add,Nat.sub_zero];rw[if_pos ⟨Nat.zero_le _,hj2⟩];rfl
 ·rw[List.getElem?_take_eq_none (by omega),List.getElem?_eq_none (by omega)]
end
end Go.Proofs.Y
namespace Go.Proofs
open Go.Shelf
def Tryz.sortR_ren:Go.Shelf.Ren:=⟨fun|6=>220|15=>247|14=>246|28=>277|29=>278|20=>269|21=>270|22=>271|23=>272|24=>273|25=>274|26=>275|27=>276|46=>290|47=>291|48=>292|49=>293|50=>294|57=>299|n=>n,fun|22=>139|24=>142|25=>226|3=>3|39=>190|0=>0|53=>271|55=>273|4=>4|46=>265|45=>264|50=>103|5=>5|9=>9|66=>283|70=>287|76=>291|77=>292|n=>n,fun|n=>n⟩
theorem Tryz.sortR:Go.Proofs.SlLaysF0.n6 Tryz.prog Tryz.sortR_ren:={
 mixed:=by kernel_rfl
 f6:=⟨Tryz.f220.name,by decide,qF Tryz.func220 (by kernel_rfl)⟩
 f14:=⟨Tryz.f246.name,by decide,qF Tryz.func246 (by kernel_rfl)⟩
 f15:=qF Tryz.func247 (by kernel_rfl)
 f20:=⟨Tryz.f269.name,by decide,qF Tryz.func269 (by kernel_rfl)⟩
 f21:=⟨Tryz.f270.name,by decide,qF Tryz.func270 (by kernel_rfl)⟩
 f22:=⟨Tryz.f271.name,by decide,qF Tryz.func271 (by kernel_rfl)⟩
 f23:=⟨Tryz.f272.name,by decide,qF Tryz.func272 (by kernel_rfl)⟩
 f24:=⟨Tryz.f273.name,by decide,qF Tryz.func273 (by kernel_rfl)⟩
 f25:=⟨Tryz.f274.name,by decide,qF Tryz.func274 (by kernel_rfl)⟩
 f26:=⟨Tryz.f275.name,by decide,qF Tryz.func275 (by kernel_rfl)⟩
 f27:=⟨Tryz.f276.name,by decide,qF Tryz.func276 (by kernel_rfl)⟩
 f28:=qF Tryz.func277 (by kernel_rfl)
 f29:=qF Tryz.func278 (by kernel_rfl)
 f46:=⟨Tryz.f290.name,by decide,qF Tryz.func290 (by kernel_rfl)⟩
 f47:=qF Tryz.func291 (by kernel_rfl)
 f48:=qF Tryz.func292 (by kernel_rfl)
 f49:=⟨Tryz.f293.name,by decide,qF Tryz.func293 (by kernel_rfl)⟩
 f50:=⟨Tryz.f294.name,by decide,qF Tryz.func294 (by kernel_rfl)⟩
 f57:=⟨Tryz.f299.name,by decide,qF Tryz.func299 (by kernel_rfl)⟩
 t0:=Tryz.underlying0
 a0:=Tryz.isAgg0
 z0:=Tryz.sizeOf0
 v0:=Tryz.zeroValue0
 t3:=Tryz.underlying3
 a3:=Tryz.isAgg3
 z3:=Tryz.sizeOf3
 v3:=Tryz.zeroValue3
 t4:=Tryz.underlying4
 a4:=Tryz.isAgg4
 z4:=Tryz.sizeOf4
 v4:=Tryz.zeroValue4
 t5:=Tryz.underlying5
 a5:=Tryz.isAgg5
 z5:=Tryz.sizeOf5
 v5:=Tryz.zeroValue5
 t9:=Tryz.underlying9
 a9:=Tryz.isAgg9
 z9:=Tryz.sizeOf9
 v9:=Tryz.zeroValue9
 t22:=Tryz.underlying139
 a22:=Tryz.isAgg139
 z22:=Tryz.sizeOf139
 v22:=Tryz.zeroValue139
 t25:=Tryz.underlying226
 a25:=Tryz.isAgg226
 z25:=Tryz.sizeOf226
 v25:=Tryz.zeroValue226
 t39:=Tryz.underlying190
 a39:=Tryz.isAgg190
 z39:=Tryz.sizeOf190
 v39:=Tryz.zeroValue190
 t45:=Tryz.underlying264
 a45:=Tryz.isAgg264
 z45:=Tryz.sizeOf264
 v45:=Tryz.zeroValue264
 t46:=Tryz.underlying265
 a46:=Tryz.isAgg265
 z46:=Tryz.sizeOf265
 v46:=Tryz.zeroValue265
 t50:=Tryz.underlying103
 a50:=Tryz.isAgg103
 z50:=Tryz.sizeOf103
 v50:=Tryz.zeroValue103
 t53:=Tryz.underlying271
 a53:=Tryz.isAgg271
 z53:=Tryz.sizeOf271
 v53:=Tryz.zeroValue271
 t55:=Tryz.underlying273
 a55:=Tryz.isAgg273
 z55:=Tryz.sizeOf273
 v55:=Tryz.zeroValue273
 t66:=Tryz.underlying283
 a66:=Tryz.isAgg283
 z66:=Tryz.sizeOf283
 v66:=Tryz.zeroValue283
 t70:=Tryz.underlying287
 a70:=Tryz.isAgg287
 z70:=Tryz.sizeOf287
 v70:=Tryz.zeroValue287
 t76:=Tryz.underlying291
 a76:=Tryz.isAgg291
 z76:=Tryz.sizeOf291
 v76:=Tryz.zeroValue291
 t77:=Tryz.underlying292
 a77:=Tryz.isAgg292
 z77:=Tryz.sizeOf292
 v77:=Tryz.zeroValue292 }
