/-
  Texts of mine, one behind the other. By an AI agent.
-/
import Derived.Test.YtkhakgbnfapifaaGreatDoorX09
import Derived.Test.YtkhakgbnfapifaaGreatDoorX08
import Derived.Test.YtkhakgbnfapifaaGreatDoorX05
import Derived.Lib.Overlaps
import Derived.Shelf.Spec.SlicesInsert
import Derived.Lib.AppendZerosOnto
import Derived.Test.YtkhakgbnfapifaaGreatDoorX06
set_option linter.unusedSimpArgs false
set_option linter.unusedVariables false
set_option maxHeartbeats 20000000
namespace Go.Proofs.YtkhakgbnfapifaaGreatDoor
open Go.Sx
theorem Zfb (l:List Fl) (id:Int) (i:Nat) (h:i<l.length):Zau (l.take (i+1)) id=Zau (l.take i) id++(if (l.getD i fD).1=id then [] else [l.getD i fD]):=by
 rw[Zo5 l i h,Zau,List.filter_append];simp only[Zau,List.filter_cons,List.filter_nil,idIs];by_cases h1:(l.getD i fD).1=id
 ·rw[if_pos h1,decide_eq_true h1];simp
 ·rw[if_neg h1,decide_eq_false h1];simp
theorem Zij {l:List Fl} {id:Int} (h:l.any (idIs id)=false):Zau l id=l:=by rw[Zau,List.filter_eq_self];intro x hx;rw[List.any_eq_false]at h;have:=h x hx;simpa using this
theorem Zgu {R l:List Fl} {j:Nat} (h:R.drop j=l.drop j):R.getD j fD=l.getD j fD:=by
 have e:∀q:List Fl,q.getD j fD=(q.drop j).getD 0 fD:=fun q=>by simp[qy1]
 rw[e R,e l,h]
theorem Zw3 (R:List Fl) (m:Nat) (x:Fl):(R.map encF).set m [Value.int .i64 x.1,.string ⟨x.2.1.toArray⟩,.string ⟨x.2.2.toArray⟩]=(R.set m x).map encF:=by rw[List.map_set];rfl
theorem Zrc {R:List Fl} {m:Nat} {x:Fl} (h:m<R.length):(R.set m x).take (m+1)=R.take m++[x]:=by
 rw[List.take_set,Zo5 R m h,List.set_append_right _ _ (by simp;omega)];have:m - (R.take m).length=0:=by simp;omega
 rw[this];rfl
theorem Zrd {R:List Fl} {m j:Nat} {x:Fl} (h:m<j):(R.set m x).drop j=R.drop j:=by rw[List.drop_set,if_pos h]
theorem Zy2 (w:World) (s:Ses) (u v:Value) (q:Int) (hu:Zn w u s.fl) (hv:Zn w v s.qu) (hn:1<=s.next/\s.next<=65535) (hl1:s.fl.length<10000) (hl2:s.qu.length<10000):Calls Tryz.prog 129 #[sesV s u v,.int .i64 q] w fun e w'=>gotN w w' e (Z6q s q).1 (Z6q s q).2:=by
 refine Z1 (Z3 (ρ:=[.s s.cl,.b s.on,.b s.clean,.v u,.r (s.fl.map encF),.v v,.r (s.qu.map encF),.i s.next,.i q]) sxE_ok Tryz.func129 Zaf rfl rfl (Rel.start2 (by simp[Ent.holds,Ent.wr,hu,hv,X.ev])) rfl rfl ?_) rfl;simp only[Tree.goal,X.P,X.ev,SV.ev,CV.ev,Sc.ev,qz,QA,QB,QC,QD,QE,QF,QG,QH,QI,QJ,QK,QL,QM,Nat.reduceAdd,qy3,qy4,gF0,gF1,gF2,List.nil_append];intro b0 b1 b2 b3 b4 b5;refine Z5j ?_;intro w1 hr1;refine(Z14 w1 u s.fl (hr1.at_ 7 rfl) (by omega)).mono ?_;rintro e w2 ⟨u1,rfl,a1,f1,m1⟩;refine⟨[.v u1,.r (s.fl.map encF)],rfl,rfl,m1,qy5 _,qy2.2 ⟨⟨a1,fun k hk=>.inl (f1 k hk)⟩,qy5 _⟩,Z4,?_⟩;intro w3 hr3;refine(Z14 w3 v s.qu (hr3.at_ 9 rfl) (by omega)).mono ?_;rintro e w4 ⟨v1,rfl,a2,f2,m2⟩;refine⟨[.v v1,.r (s.qu.map encF)],rfl,rfl,m2,qy5 _,qy2.2 ⟨⟨a2,fun k hk=>.inl (f2 k hk)⟩,qy5 _⟩,Z4,?_⟩;clear hr1 hr3 m1 m2 a1 a2 f1 f2;intro b6;simp only[Tree.goal,X.P,X.ev,SV.ev,CV.ev,Sc.ev,qz,QA,QB,QC,QD,QE,QF,QG,QH,QI,QJ,QK,QL,QM,Nat.reduceAdd,qy3,qy4,gF0,gF1,gF2,List.nil_append];refine⟨fun vs=>∃(i:Nat) (x:V),vs=[x,.i i,.i q]/\i<=s.fl.length/\(s.fl.take i).any (idIs q)=false,fun vs=>s.fl.length - (vs.getD 1 (.i 0)).toI.toNat,⟨0,_,rfl,by omega,by simp⟩,?_⟩;rintro _ - ⟨i,x,rfl,hi,hno⟩;simp only[Tree.goal,X.P,X.ev,SV.ev,CV.ev,Sc.ev,qz,QA,QB,QC,QD,QE,QF,QG,QH,QI,QJ,QK,QL,QM,Nat.reduceAdd,qy3,qy4,gF0,gF1,gF2,List.nil_append];refine⟨fun h1=>⟨by omega,fun b7=>⟨fun h2=>⟨fun h3=>absurd h3 (by omega),fun h3=>⟨by omega,by omega,?_⟩⟩,fun h2=>?_⟩⟩,fun h1 w5 hr=>?_⟩
 ·refine⟨fun vs=>∃(m j:Nat) (R:List Fl),vs=[.i m,.i j,.r (R.map encF),.i q]/\R.length=s.fl.length/\m<j/\j<=s.fl.length/\R.take m=Zau (s.fl.take j) q/\R.drop j=s.fl.drop j,fun vs=>s.fl.length - (vs.getD 1 (.i 0)).toI.toNat,⟨i,i+1,s.fl,rfl,rfl,by omega,by omega,?_,rfl⟩,?_⟩
  ·rw[Zfb _ _ i (by omega),if_pos h2,List.append_nil,Zij hno]
  ·rintro _ - ⟨m,j,R,rfl,hRl,hmj,hj,htk,hdr⟩;simp only[Tree.goal,X.P,X.ev,SV.ev,CV.ev,Sc.ev,qz,QA,QB,QC,QD,QE,QF,QG,QH,QI,QJ,QK,QL,QM,Nat.reduceAdd,qy3,qy4,gF0,gF1,gF2,List.nil_append];refine⟨fun h4=>⟨by omega,fun b8 b9=>?_⟩,fun h4=>?_⟩
   ·have hsn:=Zfb s.fl q j (by omega);have hRj:=Zgu hdr;have hdr1:R.drop (j+1)=s.fl.drop (j+1):=by rw[<- List.drop_drop,<- List.drop_drop,hdr]
    rw[hRj];refine⟨fun h5=>?_,fun h5=>?_⟩
    ·rw[if_neg h5]at hsn;refine⟨by omega,by omega,by omega,by omega,by omega,by omega,⟨m+1,j+1,R.set m (s.fl.getD j fD),?_,by simpa using hRl,by omega,by omega,?_,?_⟩,by omega⟩
     ·rw[Zw3];rfl
     ·rw[Zrc (by omega),htk,hsn]
     ·rw[Zrd (by omega),hdr1]
    ·rw[if_pos (qy9.1 h5),List.append_nil]at hsn;exact⟨by omega,by omega,⟨m,j+1,R,rfl,hRl,by omega,by omega,by rw[htk,hsn],hdr1⟩,by omega⟩
   ·have:j=s.fl.length:=by omega
    subst this;rw[List.take_length]at htk;refine⟨by omega,by omega,?_,fun v9 w5 hr=>?_⟩
    ·simp only[qy11,List.length_take,qy3,List.length_replicate];omega
    ·have e1:(List.take m (List.take m (R.map encF)++List.replicate (R.length - m) [Value.int .i64 0,.string ⟨[].toArray⟩,.string ⟨[].toArray⟩]))=(Zau s.fl q).map encF:=by
      rw[List.take_append_of_le_length (by simp;omega),List.take_take,Nat.min_self,<- List.map_take,htk]
     have hll:(Zau s.fl q).length<=s.fl.length:=List.length_filter_le _ _;refine(Zcb (s:={ s with fl:=Zau s.fl q }) (o0:=[]) ((hr.pick [0,4,8,3] (by decide)).conv (by simp only[sndA,<- e1,<- qy3 (f:=encF)];rfl)) hn (by simp;omega) (by simp;omega) (by simp)).mono ?_;rintro e w6 ⟨rfl,u',v',x',g1,g2,g3,g4,g5,g6,g7,g8,g9,g10,gm⟩;refine⟨[.s s.cl,.b s.on,.b s.clean,.v u',.r ((Z6q s q).1.fl.map encF),.v v',.r ((Z6q s q).1.qu.map encF),.i (Z6q s q).1.next,.v x',.r ((Z6q s q).2.map encP)],rfl,rfl,gm.mono fun k hk=>.inl (by simpa [Zv,Z16,Value.ownBlock]using hk),qy2.2 ⟨g1,qy5 _⟩,qy2.2 ⟨⟨g2,fun k hk=>Zbw (qy8 ..) (qy10 _ (qy8 ..)) Z3s <| g5 k hk⟩,qy2.2 ⟨⟨g3,fun k hk=>Zbw (qy8 ..) (qy10 _ (qy8 ..)) Z3s <| g6 k hk⟩,qy2.2 ⟨⟨g4,fun k hk=>Zbw (qy8 ..) (qy10 _ (qy8 ..)) Z3s <| g7 k hk⟩,qy5 _⟩⟩⟩,Z65 g8 g9 g10,?_⟩;intro w7 hr7;exact⟨u',v',x',rfl,(hr7.at_ 0 rfl).reads,(hr7.at_ 1 rfl).reads,(hr7.at_ 2 rfl).reads,hr7.fresh 0 rfl,hr7.fresh 1 rfl,hr7.fresh 2 rfl,hr7.mod⟩
 ·refine⟨by omega,by omega,⟨i+1,x,rfl,by omega,?_⟩,by omega⟩;rw[Zdl _ _ i (by omega),hno,Bool.false_or];simp only[idIs,decide_eq_false_iff_not];exact h2
 ·have:i=s.fl.length:=by omega
  subst this;rw[List.take_length]at hno;have e1:=Zij hno;refine(Zcb (s:={ s with fl:=Zau s.fl q }) (o0:=[]) ((hr.pick [3,2,7,1] (by decide)).conv (by simp only[sndA,e1];rfl)) hn (by simp only[e1];omega) (by simp;omega) (by simp)).mono ?_;rintro e w6 ⟨rfl,u',v',x',g1,g2,g3,g4,g5,g6,g7,g8,g9,g10,gm⟩;refine⟨[.s s.cl,.b s.on,.b s.clean,.v u',.r ((Z6q s q).1.fl.map encF),.v v',.r ((Z6q s q).1.qu.map encF),.i (Z6q s q).1.next,.v x',.r ((Z6q s q).2.map encP)],rfl,rfl,gm.mono fun k hk=>.inl (by simpa [Zv,Z16,Value.ownBlock]using hk),qy2.2 ⟨g1,qy5 _⟩,qy2.2 ⟨⟨g2,fun k hk=>Zbw (qy8 ..) (qy10 _ (qy8 ..)) Z3s <| g5 k hk⟩,qy2.2 ⟨⟨g3,fun k hk=>Zbw (qy8 ..) (qy10 _ (qy8 ..)) Z3s <| g6 k hk⟩,qy2.2 ⟨⟨g4,fun k hk=>Zbw (qy8 ..) (qy10 _ (qy8 ..)) Z3s <| g7 k hk⟩,qy5 _⟩⟩⟩,Z65 g8 g9 g10,?_⟩;intro w7 hr7;exact⟨u',v',x',rfl,(hr7.at_ 0 rfl).reads,(hr7.at_ 1 rfl).reads,(hr7.at_ 2 rfl).reads,hr7.fresh 0 rfl,hr7.fresh 1 rfl,hr7.fresh 2 rfl,hr7.mod⟩
theorem Zzt {s:Ses} (h:chkS s=0):(1<=s.next/\s.next<=65535)/\s.fl.length<=3/\s.qu.length<=6:=by
 unfold chkS at h;split at h
 ·split at h
  ·exact absurd h (by decide)
  ·split at h
   ·split at h
    ·exact⟨by assumption,by omega,by omega⟩
    ·exact absurd h (by decide)
   ·exact absurd h (by assumption)
 ·exact absurd h (by decide)
def Z12c (w w':World) (e:Ending) (r:Ses):Prop :=
 ∃u' v',e=.returned (sesV r u' v')/\Zn w' u' r.fl/\Zn w' v' r.qu/\newV w.heap.size u'/\newV w.heap.size v'/\Mod [] w w'
theorem Z14i (w:World) (s:Ses) (u v:Value) (hu:Zn w u s.fl) (hv:Zn w v s.qu) (hl1:s.fl.length<10000) (hl2:s.qu.length<10000):Calls Tryz.prog 133 #[sesV s u v] w fun e w'=>Z12c w w' e (goR s):=by
 refine Z1 (Z3 (ρ:=[.s s.cl,.b s.on,.b s.clean,.v u,.r (s.fl.map encF),.v v,.r (s.qu.map encF),.i s.next]) sxE_ok Tryz.func133 Zbp rfl rfl (Rel.start2 (by simp[Ent.holds,Ent.wr,hu,hv,X.ev])) rfl rfl ?_) rfl;simp only[Tree.goal,X.P,X.ev,SV.ev,CV.ev,Sc.ev,qz,QA,QB,QC,QD,QE,QF,QG,QH,QI,QJ,QK,QL,QM,Nat.reduceAdd,qy3,qy4,gF0,gF1,gF2,List.nil_append];intro b1 b2 b3 b4 b5;refine Z5j ?_;intro w1 hr1;refine(Z14 w1 u s.fl (hr1.at_ 5 rfl) (by omega)).mono ?_;rintro e w2 ⟨u1,rfl,a1,f1,m1⟩;refine⟨[.v u1,.r (s.fl.map encF)],rfl,rfl,m1,qy5 _,qy2.2 ⟨⟨a1,fun k hk=>.inl (f1 k hk)⟩,qy5 _⟩,Z4,?_⟩;intro w3 hr3;refine(Z14 w3 v s.qu (hr3.at_ 7 rfl) (by omega)).mono ?_;rintro e w4 ⟨v1,rfl,a2,f2,m2⟩;refine⟨[.v v1,.r (s.qu.map encF)],rfl,rfl,m2,qy5 _,qy2.2 ⟨⟨a2,fun k hk=>.inl (f2 k hk)⟩,qy5 _⟩,Z4,?_⟩;clear hr1 hr3 m1 m2 a1 a2 f1 f2;intro b6;simp only[Tree.goal,X.P,X.ev,SV.ev,CV.ev,Sc.ev,qz,QA,QB,QC,QD,QE,QF,QG,QH,QI,QJ,QK,QL,QM,Nat.reduceAdd,qy3,qy4,gF0,gF1,gF2,List.nil_append];refine⟨fun h1 w5 hr=>?_,fun h1 w5 hr=>?_⟩
 ·have e:goR s=⟨s.cl,false,s.clean,[],[],s.next⟩:=by simp[goR,h1]
  rw[e];exact⟨.slice none 0 0,.slice none 0 0,rfl,Z9 _ _,Z9 _ _,Zgt _,Zgt _,hr.mod⟩
 ·have e:goR s=⟨s.cl,false,s.clean,s.fl,s.qu,s.next⟩:=by simp[goR,h1]
  rw[e];exact⟨u1,v1,rfl,(hr.at_ 2 rfl).reads,(hr.at_ 1 rfl).reads,hr.fresh 2 rfl,hr.fresh 1 rfl,hr.mod⟩
abbrev Zm:List UInt8->List UInt8->Bool:=Op.bytesLess
theorem Z9s (a:List UInt8):Zm a []=false:=by cases a<;>rfl
theorem Z2q:∀a:List UInt8,Zm a a=false
 | []=>rfl
 | a::x=>by simp[Zm,Op.bytesLess,Z2q x,UInt8.lt_irrefl]
theorem Z21:∀{a b c:List UInt8},Zm a b=true->Zm b c=true->Zm a c=true
 | _,[],_,h,_=>by rw[Z9s]at h;cases h
 | _,_::_,[],_,h=>by rw[Z9s]at h;cases h
 | [],_::_,_::_,_,_=>rfl
 | a::x,b::y,c::z,h1,h2=>by
  simp only[Zm,Op.bytesLess,Bool.or_eq_true,decide_eq_true_eq,Bool.and_eq_true,beq_iff_eq]at h1 h2 ⊢;rcases h1 with h1|⟨rfl,h1⟩
  ·rcases h2 with h2|⟨rfl,h2⟩
   ·exact .inl (UInt8.lt_trans h1 h2)
   ·exact .inl h1
  ·rcases h2 with h2|⟨rfl,h2⟩
   ·exact .inl h2
   ·exact .inr ⟨rfl,Z21 h1 h2⟩
theorem Zik:∀{a b:List UInt8},Zm a b=false->Zm b a=false->a=b
 | [],[],_,_=>rfl
 | [],_::_,h,_=>by cases h
 | _::_,[],_,h=>by cases h
 | a::x,b::y,h1,h2=>by
  simp only[Zm,Op.bytesLess,Bool.or_eq_false_iff,decide_eq_false_iff_not,Bool.and_eq_false_iff,beq_eq_false_iff_ne]at h1 h2;have hab:a=b:=by
   rcases Nat.lt_trichotomy a.toNat b.toNat with h|h|h
   ·exact absurd (UInt8.lt_iff_toNat_lt.2 h) h1.1
   ·exact UInt8.toNat_inj.1 h
   ·exact absurd (UInt8.lt_iff_toNat_lt.2 h) h2.1
  subst hab;rw[Zik (h1.2.resolve_left (by simp)) (h2.2.resolve_left (by simp))]
theorem Z42 {a b:List UInt8} (h:Zm a b=true):Zm b a=false:=by
 cases h2:Zm b a with
 | false=>rfl
 | true=>have:=Z21 h h2;rw[Z2q]at this;cases this
theorem Z66 {a b:List UInt8} (h:Zm a b=true):a≠b:=by rintro rfl;rw[Z2q]at h;cases h
theorem Z37 {a b:List UInt8}:Zm a b=false↔(Zm b a=true\/b=a):=by
 constructor
 ·intro h;cases h2:Zm b a with
  | true=>exact .inl rfl
  | false=>exact .inr (Zik h2 h)
 ·rintro(h|rfl)
  ·exact Z42 h
  ·exact Z2q _
def Z81 (a b:List UInt8):Int:=if Zm a b=true then -1 else if a=b then 0 else 1
theorem Zil:∀a b:List UInt8,Go.Lib.compareBytes a b=Z81 a b
 | [],[]=>rfl
 | [],_::_=>rfl
 | a::x,[]=>by simp[Z81,Go.Lib.compareBytes,Z9s]
 | a::x,b::y=>by
  have ih:=Zil x y;rw[Go.Lib.compareBytes,ih];unfold Z81;simp only[Zm,Op.bytesLess,Bool.or_eq_true,decide_eq_true_eq,Bool.and_eq_true,beq_iff_eq,List.cons.injEq];by_cases h1:a<b
  ·simp[h1]
  ·by_cases h2:b<a
   ·have hne:a≠b:=by rintro rfl;exact h1 h2
    simp[h1,h2,hne]
   ·have hab:a=b:=by
     rcases Nat.lt_trichotomy a.toNat b.toNat with h|h|h
     ·exact absurd (UInt8.lt_iff_toNat_lt.2 h) h1
     ·exact UInt8.toNat_inj.1 h
     ·exact absurd (UInt8.lt_iff_toNat_lt.2 h) h2
    subst hab;simp[UInt8.lt_irrefl]
theorem Zre {a b:List UInt8}:Z81 a b<0↔Zm a b=true:=by
 unfold Z81;split
 ·simp[*]
 ·rename_i h;have h:Zm a b=false:=by simpa using h
  split<;>simp[h]
theorem Zkd {a b:List UInt8}:Z81 a b=0↔a=b:=by
 unfold Z81;split
 ·rename_i h;simp only[show ¬((-1:Int)=0) by decide,false_iff];exact Z66 h
 ·split<;>simp[*]
theorem Zdn (w:World) (a b:List UInt8):Calls Tryz.prog 162 #[.string ⟨a.toArray⟩,.string ⟨b.toArray⟩] w fun e w'=>e=.returned (.int .i64 (Z81 a b))/\Mod [] w w':=by refine(Any.strings_Compare Tryz.lays106 ⟨a.toArray⟩ ⟨b.toArray⟩ w).mono ?_;rintro e w' ⟨rfl,rfl⟩;rw[Zil];exact⟨rfl,Mod.refl _ _⟩
theorem Zw4 {a b:List UInt8} {i:Nat} (h:a.take i=b.take i) (hi:i<a.length) (hj:i<b.length) (hne:¬a.getD i 0=b.getD i 0):Zm a b=decide (a.getD i 0<b.getD i 0):=by
 induction i generalizing a b with
 | zero =>
  match a,b,hi,hj with
  | x::a,y::b,_,_ =>
   simp only[List.getD_cons_zero]at hne;simp[Zm,Op.bytesLess,hne]
 | succ i ih =>
  match a,b,hi,hj with
  | x::a,y::b,hi,hj =>
   simp only[List.take_succ_cons,List.cons.injEq]at h;obtain⟨rfl,h⟩:=h;simp only[List.getD_cons_succ]at hne ⊢;have:=ih h (by simpa using hi) (by simpa using hj) hne
   show (decide (x<x) || (x == x && Zm a b))=_
   rw[this];simp[UInt8.lt_irrefl]
theorem Zrf {a b:List UInt8} {i:Nat} (h:a.take i=b.take i) (hi:i<=a.length) (hj:i<=b.length) (he:i=a.length\/i=b.length):Zm a b=decide (a.length<b.length):=by
 induction i generalizing a b with
 | zero =>
  match a,b with
  | [],[]=>rfl
  | [],_::_=>rfl
  | _::_,[]=>simp[Z9s]
  | _::_,_::_=>simp at he
 | succ i ih =>
  match a,b,hi,hj with
  | x::a,y::b,hi,hj =>
   simp only[List.take_succ_cons,List.cons.injEq]at h;obtain⟨rfl,h⟩:=h;have:=ih h (by simpa using hi) (by simpa using hj) (by simpa using he);simp[Zm,Op.bytesLess,UInt8.lt_irrefl];simpa using this
theorem Zzu {a b:List UInt8} {i:Nat} (h:a.take i=b.take i) (hi:i<a.length) (hj:i<b.length) (he:a.getD i 0=b.getD i 0):a.take (i+1)=b.take (i+1):=by rw[List.take_add_one,List.take_add_one,h];simp only[qy1,qy7 hi,qy7 hj,Option.getD_some]at he;rw[qy7 hi,qy7 hj,he]
theorem Zim (w:World) (a b:List UInt8) (ha:a.length<1099511627776):Calls Tryz.prog 43 #[.string ⟨a.toArray⟩,.string ⟨b.toArray⟩] w fun e w'=>e=.returned (.bool (Zm a b))/\Mod [] w w':=by
 refine Z1 (Z7 (ρ:=[.s a,.s b]) sxE_ok Tryz.func43 Z2c rfl rfl rfl ?_) rfl;simp only[Tree.goal,X.P,X.ev,SV.ev,CV.ev,Sc.ev,qz,QA,QB,QC,QD,QE,QF,QG,QH,QI,QJ,QK,QL,QM,Nat.reduceAdd];refine⟨fun vs=>∃(i:Nat) (x:V),vs=[x,.i i]/\i<=a.length/\i<=b.length/\a.take i=b.take i,fun vs=>a.length - (vs.getD 1 (.i 0)).toI.toNat,⟨0,_,rfl,by omega,by omega,rfl⟩,?_⟩;rintro _ - ⟨i,x,rfl,hi,hj,ht⟩;simp only[Tree.goal,X.P,X.ev,SV.ev,CV.ev,Sc.ev,qz,QA,QB,QC,QD,QE,QF,QG,QH,QI,QJ,QK,QL,QM,Nat.reduceAdd,qy4];refine⟨fun h1=>⟨by omega,fun h2 w' hr=>⟨?_,hr.mod⟩,fun h2=>⟨by omega,by omega,⟨i+1,x,rfl,by omega,by omega,Zzu ht (by omega) (by omega) ?_⟩,by omega⟩⟩,fun h1 w' hr=>⟨?_,hr.mod⟩⟩
 ·rw[Zw4 ht (by omega) (by omega) (fun e=>h2 (by rw[e]))];simp[UInt8.lt_iff_toNat_lt]
 ·have h3:=qy9.1 h2;exact UInt8.toNat_inj.1 (by exact_mod_cast h3)
 ·rw[Zrf ht hi hj (by omega)];simp
abbrev Kp:=List UInt8×List UInt8×Int
def encK (k:Kp):List Value:=[.string ⟨k.1.toArray⟩,.string ⟨k.2.1.toArray⟩,.int .i64 k.2.2]
abbrev kD:Kp:=([],[],0)
abbrev kK:List Kd:=[.str,.str,.int .i64]
theorem gK0 (l:List Kp) (i:Nat):Value.gS (((l.map encK).getD i []).getD 0 undef)=(l.getD i kD).1:=by simp only[qy1,List.getElem?_map];cases l[i]?<;>simp[encK,Value.gS,undef]
theorem gK1 (l:List Kp) (i:Nat):Value.gS (((l.map encK).getD i []).getD 1 undef)=(l.getD i kD).2.1:=by simp only[qy1,List.getElem?_map];cases l[i]?<;>simp[encK,Value.gS,undef]
theorem gK2 (l:List Kp) (i:Nat):Value.gI (((l.map encK).getD i []).getD 2 undef)=(l.getD i kD).2.2:=by simp only[qy1,List.getElem?_map];cases l[i]?<;>rfl
abbrev Z51 (w:World) (v:Value) (l:List Kp):Prop:=reads w v kK (l.map encK)
abbrev Zin (w:World) (v:Value) (l:List Kp):Prop:=owns w v 106 kK (l.map encK)
theorem Z14j (l:List Kp) (i:Nat) (h:i<l.length):l.drop i=l.getD i kD::l.drop (i+1):=by rw[List.drop_eq_getElem_cons h,qy1,qy7 h];rfl
theorem Zzv (l:List Kp) (i:Nat) (h:i<l.length):l.take (i+1)=l.take i++[l.getD i kD]:=by rw[List.take_add_one,qy1,qy7 h];rfl
def Zdo (l:List Kp):Prop:=∀x∈l,x.1.length<4294967281
theorem Z70 {l:List Kp} (h:Zdo l) (i:Nat):(l.getD i kD).1.length<4294967281:=by
 by_cases hi:i<l.length
 ·rw[qy1,qy7 hi];exact h _ (List.getElem_mem hi)
 ·rw[qy1,List.getElem?_eq_none (by omega)];decide
def Zbx:Option (List UInt8)->List Kp->Int
 | _,[]=>0
 | p,k::l=>if chkT k.1 false≠0 then chkT k.1 false else if k.2.1=[] then 1 else if 200<(k.2.1.length:Int) then 2 else if k.2.2<1\/16777215<k.2.2 then 3
  else if (p.any fun t=>!(Zm t k.1))=true then 4 else Zbx (some k.1) l
def chkK (l:List Kp):Int:=if 16<(l.length:Int) then 2 else Zbx none l
def Zo9 (l:List Kp) (i:Nat):Option (List UInt8):=if i=0 then none else some (l.getD (i - 1) kD).1
theorem Zrg (l:List Kp) (i:Nat):((Zo9 l i).any fun t=>!(Zm t (l.getD i kD).1))=true↔(0<(i:Int)/\(Zm (l.getD i kD).1 (l.getD (i - 1) kD).1=true\/(l.getD i kD).1=(l.getD (i - 1) kD).1)):=by
 unfold Zo9;by_cases h:i=0
 ·simp[h]
 ·rw[if_neg h];simp only[Option.any_some,Bool.not_eq_true'];rw[Z37];exact⟨fun h2=>⟨by omega,h2⟩,fun h2=>h2.2⟩
theorem Zfc {l:List Kp} {i:Nat} (h:i<l.length):Zbx (Zo9 l i) (l.drop i)=if chkT (l.getD i kD).1 false≠0 then chkT (l.getD i kD).1 false else if (l.getD i kD).2.1=[] then 1 else if 200<((l.getD i kD).2.1.length:Int) then 2 else if (l.getD i kD).2.2<1\/16777215<(l.getD i kD).2.2 then 3
  else if 0<(i:Int)/\(Zm (l.getD i kD).1 (l.getD (i - 1) kD).1=true\/(l.getD i kD).1=(l.getD (i - 1) kD).1) then 4 else Zbx (Zo9 l (i+1)) (l.drop (i+1)):=by
 rw[Z14j l i h,Zbx];simp only[Zrg];rfl
theorem Zw5 (w:World) (v:Value) (l:List Kp) (hv:Z51 w v l) (hs:Zdo l) (hl:l.length<1000000000):Calls Tryz.prog 67 #[sc1 v] w fun e w'=>e=.returned (.int .i64 (chkK l))/\Mod [] w w':=by
 refine Z1 (Z3 (ρ:=[.v v,.r (l.map encK)]) sxE_ok Tryz.func67 Zda rfl rfl (Rel.start2 (by simp[Ent.holds,Ent.wr,hv,X.ev])) rfl rfl ?_) rfl;simp only[Tree.goal,X.P,X.ev,SV.ev,CV.ev,Sc.ev,qz,QA,QB,QC,QD,QE,QF,QG,QH,QI,QJ,QK,QL,QM,Nat.reduceAdd,qy3,qy4,gK0,gK1,gK2];refine⟨fun h w' hr=>⟨by rw[chkK,if_pos h],hr.mod⟩,fun h=>?_⟩;rw[chkK,if_neg h];refine⟨fun vs=>∃(i:Nat) (x:V),vs=[x,.i i]/\i<=l.length/\Zbx (Zo9 l i) (l.drop i)=Zbx none l,fun vs=>l.length - (vs.getD 1 (.i 0)).toI.toNat,⟨0,_,rfl,by omega,rfl⟩,?_⟩;rintro _ - ⟨i,x,rfl,hi,hg⟩;simp only[Tree.goal,X.P,X.ev,SV.ev,CV.ev,Sc.ev,qz,QA,QB,QC,QD,QE,QF,QG,QH,QI,QJ,QK,QL,QM,Nat.reduceAdd,qy3,qy4,gK0,gK1,gK2];have hi1:((i:Int) - 1).toNat=i - 1:=by omega
 try rw[hi1]
 refine⟨fun h1=>⟨by omega,fun b=>?_⟩,fun h1 w' hr=>⟨?_,hr.mod⟩⟩
 ·rw[Zfc (by omega)]at hg;refine⟨[.i (chkT (l.getD i kD).1 false)],rfl,fun _ w' _=>Zf6 w' _ (Z70 hs i),?_⟩;simp only[Tree.goal,X.P,X.ev,SV.ev,CV.ev,Sc.ev,qz,QA,QB,QC,QD,QE,QF,QG,QH,QI,QJ,QK,QL,QM,Nat.reduceAdd,qy3,qy4,gK0,gK1,gK2];try rw[hi1]
  refine⟨fun h2 w' hr=>⟨?_,hr.mod⟩,fun h2=>⟨fun h3 w' hr=>⟨?_,hr.mod⟩,fun h3=>⟨fun h4 w' hr=>⟨?_,hr.mod⟩,fun h4=>⟨fun h5 w' hr=>⟨?_,hr.mod⟩,fun h5=>⟨by omega,by omega,by omega,by omega,fun h6 w' hr=>⟨?_,hr.mod⟩,fun h6=>⟨by omega,by omega,⟨i+1,x,rfl,by omega,?_⟩,by omega⟩⟩⟩⟩⟩⟩
  ·rw[if_pos h2]at hg;rw[<- hg]
  ·rw[if_neg h2,if_pos h3]at hg;rw[<- hg]
  ·rw[if_neg h2,if_neg h3,if_pos h4]at hg;rw[<- hg]
  ·rw[if_neg h2,if_neg h3,if_neg h4,if_pos h5]at hg;rw[<- hg]
  ·rw[if_neg h2,if_neg h3,if_neg h4,if_neg h5,if_pos h6]at hg;rw[<- hg]
  ·rw[if_neg h2,if_neg h3,if_neg h4,if_neg h5,if_neg h6]at hg;exact hg
 ·have:i=l.length:=by omega
  subst this;rw[List.drop_length]at hg;rw[<- hg];rfl
theorem Zke (w:World) (v:Value) (l:List Kp) (hv:Z51 w v l) (hs:Zdo l) (hl:l.length<1000000000):Calls Tryz.prog 40 #[sc1 v] w fun e w'=>e=.returned (.int .i64 (chkK l))/\Mod [] w w':=by
 refine Z1 (Z3 (ρ:=[.v v,.r (l.map encK)]) sxE_ok Tryz.func40 Z4p rfl rfl (Rel.start2 (by simp[Ent.holds,Ent.wr,hv,X.ev])) rfl rfl ?_) rfl;simp only[Tree.goal,X.P,X.ev,SV.ev,CV.ev,Sc.ev,qz,QA,QB,QC,QD,QE,QF,QG,QH,QI,QJ,QK,QL,QM,Nat.reduceAdd,qy3,qy4,gK0,gK1,gK2];refine⟨fun h w' hr=>⟨by rw[chkK,if_pos h],hr.mod⟩,fun h=>?_⟩;rw[chkK,if_neg h];refine⟨fun vs=>∃(i:Nat) (x:V),vs=[x,.i i]/\i<=l.length/\Zbx (Zo9 l i) (l.drop i)=Zbx none l,fun vs=>l.length - (vs.getD 1 (.i 0)).toI.toNat,⟨0,_,rfl,by omega,rfl⟩,?_⟩;rintro _ - ⟨i,x,rfl,hi,hg⟩;simp only[Tree.goal,X.P,X.ev,SV.ev,CV.ev,Sc.ev,qz,QA,QB,QC,QD,QE,QF,QG,QH,QI,QJ,QK,QL,QM,Nat.reduceAdd,qy3,qy4,gK0,gK1,gK2];have hi1:((i:Int) - 1).toNat=i - 1:=by omega
 try rw[hi1]
 refine⟨fun h1=>⟨by omega,?_⟩,fun h1 w' hr=>⟨?_,hr.mod⟩⟩
 ·rw[Zfc (by omega)]at hg;refine⟨[.i (chkT (l.getD i kD).1 false)],rfl,fun _ w' _=>Z4y w' _ false (Z70 hs i),?_⟩;simp only[Tree.goal,X.P,X.ev,SV.ev,CV.ev,Sc.ev,qz,QA,QB,QC,QD,QE,QF,QG,QH,QI,QJ,QK,QL,QM,Nat.reduceAdd,qy3,qy4,gK0,gK1,gK2];try rw[hi1]
  refine⟨fun h2 w' hr=>⟨?_,hr.mod⟩,fun h2=>⟨fun h3 w' hr=>⟨?_,hr.mod⟩,fun h3=>⟨fun h4 w' hr=>⟨?_,hr.mod⟩,fun h4=>⟨fun h5 w' hr=>⟨?_,hr.mod⟩,fun h5=>⟨by omega,by omega,by omega,by omega,?_⟩⟩⟩⟩⟩
  ·rw[if_pos h2]at hg;rw[<- hg]
  ·rw[if_neg h2,if_pos h3]at hg;rw[<- hg]
  ·rw[if_neg h2,if_neg h3,if_pos h4]at hg;rw[<- hg]
  ·rw[if_neg h2,if_neg h3,if_neg h4,if_pos (by omega)]at hg;rw[<- hg]
  ·rw[if_neg h2,if_neg h3,if_neg h4,if_neg (by omega)]at hg;refine⟨[.b (Zm (l.getD (i - 1) kD).1 (l.getD i kD).1)],rfl,fun _ w' _=>Zim w' _ _ (Nat.lt_trans (Z70 hs (i - 1)) (by decide)),?_⟩;simp only[Tree.goal,X.P,X.ev,SV.ev,CV.ev,Sc.ev,qz,QA,QB,QC,QD,QE,QF,QG,QH,QI,QJ,QK,QL,QM,Nat.reduceAdd,qy3,qy4,gK0,gK1,gK2];refine⟨fun h6 w' hr=>⟨?_,hr.mod⟩,fun h6=>⟨by omega,by omega,⟨i+1,x,rfl,by omega,?_⟩,by omega⟩⟩
   ·rw[if_pos ⟨h6.1,Z37.1 (by simpa using h6.2)⟩]at hg;rw[<- hg]
   ·rw[if_neg (fun h7=>h6 ⟨h7.1,by simpa using Z37.2 h7.2⟩)]at hg;exact hg
 ·have:i=l.length:=by omega
  subst this;rw[List.drop_length]at hg;rw[<- hg];rfl
def okK (k:Kp):Prop:=chkT k.1 false=0/\k.2.1≠[]/\¬200<(k.2.1.length:Int)/\1<=k.2.2/\k.2.2<=16777215
def Z67 (l:List Kp):Prop:=l.Pairwise fun a b=>Zm a.1 b.1=true
theorem Z9t:∀(l:List Kp) (p:Option (List UInt8)),Zbx p l=0↔(∀k∈l,okK k)/\Z67 l/\∀t,p=some t->∀k∈l,Zm t k.1=true
 | [],p=>by simp[Zbx,Z67]
 | k::l,p=>by
  rw[Zbx];constructor
  ·intro h;split at h
   ·exact absurd h (by assumption)
   rename_i h1;split at h
   ·exact absurd h (by decide)
   rename_i h2;split at h
   ·exact absurd h (by decide)
   rename_i h3;split at h
   ·exact absurd h (by decide)
   rename_i h4;split at h
   ·exact absurd h (by decide)
   rename_i h5;obtain⟨i1,i2,i3⟩:=(Z9t l (some k.1)).1 h;refine⟨fun x hx=>?_,List.pairwise_cons.2 ⟨fun x hx=>i3 _ rfl x hx,i2⟩,fun t ht x hx=>?_⟩
   ·rcases List.mem_cons.1 hx with rfl|hx
    ·exact⟨qy9.1 h1,h2,h3,by omega,by omega⟩
    ·exact i1 x hx
   ·subst ht;have h6:Zm t k.1=true:=by simpa using h5
    rcases List.mem_cons.1 hx with rfl|hx
    ·exact h6
    ·exact Z21 h6 (i3 _ rfl x hx)
  ·rintro⟨i1,i2,i3⟩;obtain⟨j1,j2⟩:=List.pairwise_cons.1 i2;obtain⟨o1,o2,o3,o4,o5⟩:=i1 k (qy8 ..);rw[if_neg (by simpa using o1),if_neg o2,if_neg o3,if_neg (by omega),if_neg]
   ·exact(Z9t l (some k.1)).2 ⟨fun x hx=>i1 x (qy10 _ hx),j2,fun t ht x hx=>by cases ht;exact j1 x hx⟩
   ·cases p with
    | none=>simp
    | some t=>simpa using i3 t rfl k (qy8 ..)
theorem Z15 {l:List Kp}:chkK l=0↔l.length<=16/\(∀k∈l,okK k)/\Z67 l:=by
 unfold chkK;constructor
 ·intro h;split at h
  ·exact absurd h (by decide)
  ·obtain⟨a,b,-⟩:=(Z9t l none).1 h;exact⟨by omega,a,b⟩
 ·rintro⟨a,b,c⟩;rw[if_neg (by omega)];exact(Z9t l none).2 ⟨b,c,fun t ht=>by cases ht⟩
theorem Zcc {l:List Kp} (h:Z67 l) {i j:Nat} (hij:i<j) (hj:j<l.length):Zm (l.getD i kD).1 (l.getD j kD).1=true:=by rw[Z67,List.pairwise_iff_getElem]at h;have:=h i j (by omega) hj hij;simpa [qy1,qy7 hj,qy7 (Nat.lt_trans hij hj)]using this
def idx (l:List Kp) (n:List UInt8):Nat:=(l.filter fun k=>Zm k.1 n).length
theorem Zm6 {l:List Kp} {n:List UInt8} {i:Nat} (hi:i<=l.length) (h1:∀j,j<i->Zm (l.getD j kD).1 n=true) (h2:∀j,i<=j->j<l.length->Zm (l.getD j kD).1 n=false):i=idx l n:=by
 have e:l=l.take i++l.drop i:=(List.take_append_drop i l).symm;have f1:(l.take i).filter (fun k=>Zm k.1 n)=l.take i:=by
  rw[List.filter_eq_self];intro x hx;obtain⟨j,hj,rfl⟩:=List.mem_iff_getElem.1 hx;have hj':j<i:=by simp at hj;omega
  have:=h1 j hj';rw[List.getElem_take];simpa [qy1,qy7 (show j<l.length by omega)]using this
 have f2:(l.drop i).filter (fun k=>Zm k.1 n)=[]:=by
  rw[List.filter_eq_nil_iff];intro x hx;obtain⟨j,hj,rfl⟩:=List.mem_iff_getElem.1 hx;have hj':i+j<l.length:=by simp at hj;omega
  have:=h2 (i+j) (by omega) hj';rw[List.getElem_drop];simpa [qy1,qy7 hj']using this
 rw[idx,e,List.filter_append,f1,f2];simp;omega
def hasK (l:List Kp) (n:List UInt8):Bool:=decide (idx l n<l.length/\(l.getD (idx l n) kD).1=n)
theorem half (i j:Nat) (h:i+j<4000000000):Int.fdiv (IntKind.u64.wrap ((i:Int)+j)) (2 ^ (Nat.min (Int.toNat 1) IntKind.u64.bits))=(((i+j) / 2:Nat):Int):=by
 have e:(2:Int) ^ (Nat.min (Int.toNat 1) IntKind.u64.bits)=2:=by decide
 rw[e,IntKind.wrap_u64,Int.emod_eq_of_lt (by omega) (by omega),Int.fdiv_eq_ediv_of_nonneg _ (by decide)];omega
theorem Zrh (w:World) (v:Value) (l:List Kp) (n:List UInt8) (hv:Z51 w v l) (hs:Z67 l) (hl:l.length<1000000000):Calls Tryz.prog 81 #[sc1 v,.string ⟨n.toArray⟩] w fun e w'=>e=.returned (.tuple #[.int .i64 (idx l n),.bool (hasK l n)])/\Mod [] w w':=by
 refine Z1 (Z3 (ρ:=[.v v,.r (l.map encK),.s n]) sxE_ok Tryz.func81 Zei rfl rfl (Rel.start2 (by simp[Ent.holds,Ent.wr,hv,X.ev])) rfl rfl ?_) rfl;simp only[Tree.goal,X.P,X.ev,SV.ev,CV.ev,Sc.ev,qz,QA,QB,QC,QD,QE,QF,QG,QH,QI,QJ,QK,QL,QM,Nat.reduceAdd,qy3,qy4,gK0,gK1,gK2];refine⟨fun vs=>∃(i j:Nat),vs=[.i i,.i j]/\i<=j/\j<=l.length/\(∀k,k<i->Zm (l.getD k kD).1 n=true)/\(∀k,j<=k->k<l.length->Zm (l.getD k kD).1 n=false),fun vs=>(vs.getD 1 (.i 0)).toI.toNat - (vs.getD 0 (.i 0)).toI.toNat,⟨0,l.length,rfl,by omega,by omega,fun k hk=>by omega,fun k h1 h2=>by omega⟩,?_⟩;rintro _ - ⟨i,j,rfl,hij,hj,hA,hB⟩;simp only[Tree.goal,X.P,X.ev,SV.ev,CV.ev,Sc.ev,qz,QA,QB,QC,QD,QE,QF,QG,QH,QI,QJ,QK,QL,QM,Nat.reduceAdd,qy3,qy4,gK0,gK1,gK2];refine⟨fun h1=>?_,fun h1=>?_⟩
 ·rw[half i j (by omega)];obtain⟨h,hh⟩:∃h,h=(i+j) / 2:=⟨_,rfl⟩
  rw[<- hh];have hh1:i<=h/\h<j:=by omega
  simp only[qy4,gK0];refine⟨by omega,by omega,by omega,by omega,by omega,by omega,fun b=>?_⟩;refine⟨[.i (Z81 (l.getD h kD).1 n)],rfl,fun _ w' _=>Zdn w' _ _,?_⟩;simp only[Tree.goal,X.P,X.ev,SV.ev,CV.ev,Sc.ev,qz,QA,QB,QC,QD,QE,QF,QG,QH,QI,QJ,QK,QL,QM,Nat.reduceAdd,qy3,qy4,gK0,gK1,gK2];rw[Zre];refine⟨fun h2=>⟨by omega,by omega,⟨h+1,j,rfl,by omega,hj,fun k hk=>?_,hB⟩,by omega⟩,fun h2=>⟨⟨i,h,rfl,by omega,by omega,hA,fun k hk1 hk2=>?_⟩,by omega⟩⟩
  ·by_cases hkh:k=h
   ·rw[hkh];exact h2
   ·exact Z21 (Zcc hs (i:=k) (j:=h) (by omega) (by omega)) h2
  ·have h3:Zm (l.getD h kD).1 n=false:=by simpa using h2
   by_cases hkh:k=h
   ·rw[hkh];exact h3
   ·cases h4:Zm (l.getD k kD).1 n with
    | false=>rfl
    | true =>
     have:=Z21 (Zcc hs (i:=h) (j:=k) (by omega) hk2) h4;rw[h3]at this;cases this
 ·have hie:i=j:=by omega
  subst hie;have e:=Zm6 (i:=i) hj hA hB;refine⟨fun h2=>⟨by omega,fun b=>?_⟩,fun h2 w' hr=>⟨?_,hr.mod⟩⟩
  ·refine⟨[.i (Z81 (l.getD i kD).1 n)],rfl,fun _ w' _=>Zdn w' _ _,?_⟩;simp only[Tree.goal,X.P,X.ev,SV.ev,CV.ev,Sc.ev,qz,QA,QB,QC,QD,QE,QF,QG,QH,QI,QJ,QK,QL,QM,Nat.reduceAdd,qy3,qy4,gK0,gK1,gK2];intro w' hr;refine⟨?_,hr.mod⟩;rw[hasK,<- e];simp only[Zkd];congr 4
   simp;intro _;omega
  ·rw[hasK,<- e];have:¬i<l.length:=by omega
   simp[this]
end Go.Proofs.YtkhakgbnfapifaaGreatDoor
namespace Go.Sx
open Go
theorem Zc {P:Program} (w:World) (dT sT ty elem:TypeId) (sz:Nat) (g o dLen dCap:Nat) (a:Addr) (sLen sCap:Nat) (cur:Array Value) (t:TypeId) (cs:List Value) (q:Nat) (hq:min sLen dLen=q) (hu:P.underlying dT=some (.slice elem)) (hs:(P.info? elem).map (·.size)=some sz) (hg:w.heap[g]?=some (.cells cur t (0,0))) (hn:cs.length=q*sz) (hsrc:∀j v,cs[j]?=some v->w.cell? (a.add j)=some v) (hfit:o+cs.length<=cur.size) (h1:∀v∈cs,v.oneCell'=true) : (Builtin.copy_ #[dT,sT] ty #[.slice (some ⟨g,o,none⟩) dLen dCap,.slice (some a) sLen sCap]).run P w = .ok (goInt q) (w.setRow g (cur.toList.take o++cs++cur.toList.drop (o+cs.length)).toArray):=by
 have hq':Nat.min sLen dLen=q:=hq;have hl:=run_loadCells_list (P:=P) w a cs hsrc;have hst:=run_storeCells_at P g o t cs 0 cur w hg (by simpa using hfit) h1;cases hr:P.info? elem with
 | none=>simp[hr]at hs
 | some i =>
  have hi:i.size=sz:=by simpa [hr]using hs
  simp[Builtin.copy_,run_underlying hu,Builtin.lenOf,Builtin.firstCells,sizeOf,typeInfo,hr,hi,hq',<- hn,hl,hst]
theorem Zgv {α:Type} (cur cs vs:List α) (a b d:Nat) (h1:a+vs.length=b) (h2:b+cs.length=d) (h3:d<=cur.length) : (cur.take b++cs++cur.drop (b+cs.length)).take a++vs++(cur.take b++cs++cur.drop (b+cs.length)).drop (a+vs.length)=cur.take a++vs++cs++cur.drop d:=by
 subst h1 h2;have e1:(cur.take (a+vs.length)++cs++cur.drop (a+vs.length+cs.length)).take a=cur.take a:=by rw[List.append_assoc,List.take_append_of_le_length (by simp;omega),List.take_take,Nat.min_eq_left (by omega)]
 have e2:(cur.take (a+vs.length)++cs++cur.drop (a+vs.length+cs.length)).drop (a+vs.length)=cs++cur.drop (a+vs.length+cs.length):=by
  have hl:(cur.take (a+vs.length)).length=a+vs.length:=by simp;omega
  rw[List.append_assoc,List.drop_append_of_le_length (by omega),List.drop_eq_nil_of_le (by omega),List.nil_append]
 rw[e1,e2];simp
theorem Zgw {α:Type} (hd vs cs rest:List α) (a:Nat) (h:hd.length+vs.length=a) : (hd++vs++rest).take a++cs++(hd++vs++rest).drop (a+cs.length)=hd++vs++cs++(hd++vs++rest).drop (a+cs.length):=by subst h;rw[List.take_append_of_le_length (by simp),List.take_of_length_le (by simp)]
theorem Z1t (z:Array Value) (n:Nat):(Builtin.zeroCells z n).size=n*z.size:=by simp[Builtin.zeroCells,Nat.mul_comm]
theorem Z1n {n:Nat}:∀{R:List (List Value)} (i:Nat),(∀r∈R,r.length=n)->R.flatten.take (i*n)=(R.take i).flatten
 | [],i,_=>by simp
 | r::R,0,_=>by simp
 | r::R,i+1,h=>by
  have h1:=h r (by simp);have ih:=Z1n (R:=R) i (fun x hx=>h x (by simp[hx]));rw[List.flatten_cons,List.take_succ_cons,List.flatten_cons,<- ih,List.take_append,List.take_of_length_le (by rw[h1,Nat.succ_mul];omega)];congr 2
  rw[h1,Nat.succ_mul];omega
theorem Z1o {n:Nat}:∀{R:List (List Value)} (i:Nat),(∀r∈R,r.length=n)->R.flatten.drop (i*n)=(R.drop i).flatten
 | [],i,_=>by simp
 | r::R,0,_=>by simp
 | r::R,i+1,h=>by
  have h1:=h r (by simp);have ih:=Z1o (R:=R) i (fun x hx=>h x (by simp[hx]));rw[List.flatten_cons,List.drop_succ_cons,<- ih,List.drop_append,List.drop_eq_nil_of_le (by rw[h1,Nat.succ_mul];omega),List.nil_append];congr 1
  rw[h1,Nat.succ_mul];omega
theorem Z32 {ks:List Kd} {R:List (List Value)} (h:∀r∈R,rowOk ks r):∀x∈R.flatten,x.oneCell'=true:=by intro x hx;obtain⟨row,hr,hx⟩:=List.mem_flatten.1 hx;exact(h row hr).one x hx
theorem Z7i (w:World) (r:Option Nat):w.grownBy w r:=⟨rfl,rfl,rfl,Nat.le_refl _,fun _ _ _=>rfl⟩
def Zfd (w w':World) (s v':Value) (ty:Nat) (ks:List Kd) (R:List (List Value)):Prop :=
 owns w' v' ty ks R/\(∀k,Z2 v' k->Z2 s k\/w.heap.size<=k)/\w.grownBy w' s.ownBlock
theorem Z9u {z:Array Value} {n:Nat} (hz:0<z.size) (h:∀v∈z.toList,v.oneCell'=true):∀v∈(Builtin.zeroCells z n).toList,v.oneCell'=true:=by intro v hv;simp only[Builtin.zeroCells,Array.toList_map,List.mem_map]at hv;obtain⟨i,-,rfl⟩:=hv;have hlt:i % z.size<z.size:=Nat.mod_lt _ hz;rw[getElem!_pos z _ hlt];exact h _ (Array.getElem_mem_toList hlt)
theorem Z2h {P:Program} {ops:Array Oper} {o:Oper} {a:Act} {w:World} {K:Act->World->Prop} {Q:Exit->Act->World->Prop} {E:Prop} (hg:o.guard=none) (d x:Operand) (dT sT:TypeId) (hop:o.op=Op.call { callee:=Callee.builtin Builtin.append,args:=#[d,x],argTypes:=#[dT,sT] })
  (v u:Value) (hd:a.eval d=v) (hx:a.eval x=u) {v':Value} {w':World} (hr:(Builtin.append_ #[dT,sT] o.type #[v,u]).run P w=.ok v' w') (hK:K (a.put o.dst v') w') :
  if Region.wanted o (yielded ops a.tmps)=true then Oper.wp P o a w K Q else E:=by
 have hw:Region.wanted o (yielded ops a.tmps)=true:=by simp[Region.wanted,hg]
 rw[if_pos hw];unfold Oper.wp;simp[execOp,hop,resolve,invoke,builtin,hd,hx,hr,Result.andThen];exact hK
theorem Z24 {P:Program} (w:World) {ops:Array Oper} {rest:List Oper} {o:Oper} {a:Act} {Q:Exit->Act->World->Prop} (hgd:o.guard=none) (d:Operand) (t:TypeId) (ho:o.op=.call { callee:=.builtin .clear,args:=#[d],argTypes:=#[t] }) (v:Value) (hd:a.eval d=v) {v':Value} {w':World}
  (hr:(Builtin.clear_ #[t] o.type #[v]).run P w=.ok v' w') (h:wpList P ops Q rest (a.put o.dst v') w'):wpList P ops Q (o::rest) a w :=
 wpList_plain hgd fun _ hK=>by unfold Oper.wp execOp;simp only[ho,resolve,invoke,builtin,Sem.run_bind,Sem.run_pure,Result.andThen_ok,List.map_toArray,List.map_cons,List.map_nil,hd,hr];exact hK _ _ h
end Go.Sx
namespace Go.Proofs.YtkhakgbnfapifaaGreatDoor
open Go Go.Sx Go.Shelf Go.RowKit Go.Lib
set_option maxRecDepth 100000 in
theorem Zw6 (w:World) (b:Option Addr) (n c i:Nat) (vb:Option Addr) (vc:Nat) (hi:i<=n) (hc:n<=c) (hb:b=none->c=0) : Calls Tryz.prog 286 #[.slice b n c,.int .i64 i,.slice vb 0 vc] w fun e w'=>e=.returned (.slice b n c)/\w'=w:=by
  go_enter Tryz.func286,Tryz.ntmps286
  go_wp2
  all_goals (go_ret;exact⟨rfl,rfl⟩)
set_option maxRecDepth 100000 in
theorem Zzw (w:World) (b:Option Addr) (n c:Nat) (vb:Option Addr) (m vc:Nat) (hm:0<m) (hc:n<=c) (hb:b=none->c=0) (v':Value) (w':World) (hrun:∀ty,(Builtin.append_ #[22,22] ty #[.slice b n c,.slice vb m vc]).run Tryz.prog w=.ok v' w') : Calls Tryz.prog 286 #[.slice b n c,.int .i64 n,.slice vb m vc] w fun e w1=>e=.returned v'/\w1=w':=by
  have hz1:¬((m:Int)=0):=by omega
  go_enter Tryz.func286,Tryz.ntmps286
  go_wp2_with (at_builtin;refine Lib.wpList_append_run _ rfl _ _ _ _ rfl _ _ rfl rfl _ _ (hrun _) ?_)
  all_goals (go_ret;exact⟨rfl,rfl⟩)
set_option maxRecDepth 100000 in
theorem Zri (w:World) (g n c i vb m vc:Nat) (cs vs:List Value) (cur vcur cur2:Array Value) (hi:i<n) (hm:0<m) (hroom:n+m<=c) (hc63:c<=9223372036854775807) (hvb:vb≠g) (hg:w.heap[g]?=some (.cells cur 106 (0,0))) (hcs:cur.size=c*3) (hv:w.heap[vb]?=some (.cells vcur 106 (0,0))) (hvl:m*3<=vcur.size) (e1:cs=(cur.toList.drop (i*3)).take ((n - i)*3)) (e2:vs=vcur.toList.take (m*3)) (h1c:∀v∈cs,v.oneCell'=true) (h1v:∀v∈vs,v.oneCell'=true) (e3:cur2.toList=cur.toList.take (i*3)++vs++cs++cur.toList.drop ((n+m)*3)) : Calls Tryz.prog 286 #[.slice (some ⟨g,0,none⟩) n c,.int .i64 i,.slice (some ⟨vb,0,none⟩) m vc] w fun e w'=>e=.returned (.slice (some ⟨g,0,none⟩) (n+m) c)/\w'=w.drew.setRow g cur2:=by
  have hz1:¬((m:Int)=0):=by omega
  have hz2:¬((i:Int)=(n:Int)):=by omega
  have hw1:IntKind.i64.wrap ((i:Int)+(m:Int))=(i:Int)+(m:Int):=by rw[IntKind.wrap_i64];omega
  have hw2:IntKind.i64.wrap ((n:Int)+(m:Int))=(n:Int)+(m:Int):=by rw[IntKind.wrap_i64];omega
  have hb1:(0:Int)<=(i:Int)+(m:Int):=by omega
  have hin:i<=n:=by omega
  have htn:((i:Int)+(m:Int)).toNat=i+m:=by omega
  have htn2:((n:Int)+(m:Int)).toNat=n+m:=by omega
  have hb2:¬(c=i+m):=by omega
  have hb3:(i:Int)<=(n:Int)+(m:Int):=by omega
  have hb4:¬(c=i):=by omega
  have hsz:(Tryz.prog.info? 106).map (·.size)=some 3:=by kernel_rfl
  have hso:∀w,(Go.sizeOf 106).run Tryz.prog w=.ok 3 w:=fun w=>by
    cases hq:Tryz.prog.info? 106 with
    | none=>rw[hq]at hsz;simp at hsz
    | some i=>rw[hq]at hsz;simp at hsz;simp[sizeOf,typeInfo,hq,hsz]
  have hu:=Tryz.underlying22;have hov:∀o lb cb,(callFunc 319 #[.slice (some ⟨vb,0,none⟩) m vc,.slice (some ⟨g,o,none⟩) lb cb]).run Tryz.prog w=.ok (.value (.bool false)) w:=fun o lb cb=>by
    rw[run_callFunc_extern Tryz.func319 (by kernel_rfl) (by kernel_rfl) (by kernel_rfl) (e:=Extern.SlicesOverlaps.overlaps #[22,22] #[4]) (by kernel_rfl),
      Lib.run_overlaps_apart w 22 4 106 hu 3 hso ⟨vb,0,none⟩ ⟨g,o,none⟩ m vc lb cb hvb 106 106 vcur.size cur.size (by simp[World.shape?,hv]) (by simp[World.shape?,hg]) (by omega) (by simp[World.frozen?,hv]) (by simp[World.frozen?,hv])]
    rfl
  have hcl:cs.length=(n - i)*3:=by rw[e1];simp;omega
  have hvl2:vs.length=m*3:=by rw[e2];simp;omega
  have hgd:w.drew.heap[g]?=some (.cells cur 106 (0,0)):=hg;have hcp1:∀ty dc sc,(Builtin.copy_ #[22,22] ty #[.slice (some ⟨g,(i+m)*3,none⟩) (n+m - (i+m)) dc,.slice (some ⟨g,i*3,none⟩) (n+m - i) sc]).run Tryz.prog w.drew=.ok (goInt ((n - i:Nat):Int)) (w.drew.setRow g (cur.toList.take ((i+m)*3)++cs++cur.toList.drop ((i+m)*3+cs.length)).toArray):=fun ty dc sc =>
    Zc (P:=Tryz.prog) w.drew 22 22 ty 106 3 g ((i+m)*3) (n+m - (i+m)) dc ⟨g,i*3,none⟩ (n+m - i) sc cur 106 cs (n - i) (by omega) hu hsz hgd hcl (fun j v hj=>by
      rw[e1,List.getElem?_take]at hj;split at hj
      . rw[Addr.add_lit];simp only[World.cell?,hgd];simpa using hj
      . cases hj) (by rw[hcl];omega) h1c
  obtain⟨cur1,hcur1⟩:∃cur1:Array Value,cur1=(cur.toList.take ((i+m)*3)++cs++cur.toList.drop ((i+m)*3+cs.length)).toArray:=⟨_,rfl⟩
  rw[<- hcur1]at hcp1;have hs1:cur1.size=cur.size:=by rw[hcur1];simp only[List.size_toArray,qy11,List.length_take,List.length_drop,Array.length_toList,hcl];omega
  have hcp2:∀(W:World),W.heap=(w.drew.setRow g cur1).heap->∀ty dc,(Builtin.copy_ #[22,22] ty #[.slice (some ⟨g,i*3,none⟩) (n+m - i) dc,.slice (some ⟨vb,0,none⟩) m vc]).run Tryz.prog W=.ok (goInt m) (W.setRow g cur2):=fun W hW ty dc=>by
    have hgW:W.heap[g]?=some (.cells cur1 106 (0,0)):=by rw[hW];exact setRow_heap _ _ _ _ _ _ hgd
    have hvW:W.heap[vb]?=some (.cells vcur 106 (0,0)):=by rw[hW,setRow_other _ _ _ _ hvb];exact hv
    have:=Zc (P:=Tryz.prog) W 22 22 ty 106 3 g (i*3) (n+m - i) dc ⟨vb,0,none⟩ m vc cur1 106 vs m (by omega) hu hsz hgW hvl2 (fun j v hj=>by
      rw[e2,List.getElem?_take]at hj;split at hj
      . rw[Addr.add_lit];simp only[World.cell?,hvW,Nat.zero_add];simpa using hj
      . cases hj) (by rw[hvl2,hs1];omega) h1v
    rw[this];congr 2
    apply Array.toList_inj.1;rw[e3,hcur1];simp only[List.toList_toArray];rw[Zgv cur.toList cs vs (i*3) ((i+m)*3) ((n+m)*3) (by rw[hvl2];omega) (by rw[hcl];omega) (by simp;omega)]
  have mixed:Tryz.prog.follows Departure.mixedOrders=true:=by kernel_rfl
  go_enter Tryz.func286,Tryz.ntmps286
  go_wp2_with (simp only[hov])
  go_region_law_o (refine step_copy_runI rfl _ _ 22 22 rfl _ _ (by simp[Act.eval,Act.put]) (by simp[Act.eval,Act.put]) (hcp1 _ _ _) ?_)
  go_wp2_with (at_builtin;refine wpList_copy_runI _ rfl _ _ 22 22 rfl _ _ rfl rfl (hcp2 _ rfl _ _) ?_)
  go_ret
  first|exact⟨rfl,rfl⟩|exact⟨rfl,by rw[setRow_setRow]⟩
set_option maxRecDepth 100000 in
theorem Zw7 (w:World) (g n c i vb m vc:Nat) (hd cs vs:List Value) (cur vcur:Array Value) (hi:i<n) (hm:0<m) (hnc:n<=c) (hroom:c<n+m) (hbig:(n+m)*40<=140737488355328) (hg:w.heap[g]?=some (.cells cur 106 (0,0))) (hcs:cur.size=c*3) (hv:w.heap[vb]?=some (.cells vcur 106 (0,0))) (hvl:m*3<=vcur.size) (e0:hd=cur.toList.take (i*3)) (e1:cs=(cur.toList.drop (i*3)).take ((n - i)*3)) (e2:vs=vcur.toList.take (m*3)) (h1c:∀v∈cs,v.oneCell'=true) (h1v:∀v∈vs,v.oneCell'=true) : Calls Tryz.prog 286 #[.slice (some ⟨g,0,none⟩) n c,.int .i64 i,.slice (some ⟨vb,0,none⟩) m vc] w fun e w'=>∃(G:Nat) (cur3:Array Value),e=.returned (.slice (some ⟨w.heap.size,0,none⟩) (n+m) G)/\n+m<=G/\G<=maxLen/\cur3.size=G*3/\cur3.toList.take ((n+m)*3)=hd++vs++cs /\ w'.heap[w.heap.size]?=some (.cells cur3 106 (0,0))/\w.grownBy w' none:=by
  have hz1:¬((m:Int)=0):=by omega
  have hz2:¬((i:Int)=(n:Int)):=by omega
  have hz3:(c:Int)<(n:Int)+(m:Int):=by omega
  have hw1:IntKind.i64.wrap ((i:Int)+(m:Int))=(i:Int)+(m:Int):=by rw[IntKind.wrap_i64];omega
  have hb1:(0:Int)<=(i:Int)+(m:Int):=by omega
  have hin:i<=n:=by omega
  have htn:((i:Int)+(m:Int)).toNat=i+m:=by omega
  have hb3:(i:Int)<=(n:Int):=by omega
  have hu:=Tryz.underlying22;have hsz:(Tryz.prog.info? 106).map (·.size)=some 3:=by kernel_rfl
  obtain⟨i0,hi0⟩:∃i0,Tryz.prog.info? 106=some i0:=by
    cases hq:Tryz.prog.info? 106 with
    | none=>rw[hq]at hsz;simp at hsz
    | some i=>exact⟨i,rfl⟩
  have hk:i0.size=3:=by rw[hi0]at hsz;simpa using hsz
  have hby:i0.bytes=40:=by
    have:(Tryz.prog.info? 106).map (·.bytes)=some 40:=by kernel_rfl
    rw[hi0]at this;simpa using this
  obtain⟨z,hz,hzs⟩:∃z,i0.zero=some z/\z.cells.size=3:=by
    have:(Tryz.prog.info? 106).bind (fun i=>i.zero.map (fun z=>z.cells.size))=some 3:=by kernel_rfl
    rw[hi0]at this;simp only[Option.bind_some,Option.map_eq_some_iff]at this;exact this
  have hbw:g<w.heap.size:=(Array.getElem?_eq_some_iff.1 hg).1;have hvw:vb<w.heap.size:=(Array.getElem?_eq_some_iff.1 hv).1;have hkk:(n:Int)+(m:Int) - (i:Int)=((n+m - i:Nat):Int):=by omega
  have hik:i+(n+m - i)=n+m:=by omega
  have hgd:w.drew.heap[g]?=some (.cells cur 106 (0,0)):=hg;have hhl:hd.length=i*3:=by rw[e0];simp;omega
  have hold:(Builtin.firstCells i0.size i (.slice (some ⟨g,0,none⟩) i c)).run Tryz.prog w.drew=.ok hd.toArray w.drew:=by
    rw[hk];exact run_firstCells_some w.drew 3 i ⟨g,0,none⟩ i c hd hhl (fun j v hj=>by
      rw[Addr.add_lit];rw[e0,List.getElem?_take]at hj;split at hj
      . simp only[World.cell?,hgd,Nat.zero_add];simpa using hj
      . cases hj)
  have hrz:∀ty,(Builtin.append_ #[22,3] ty #[.slice (some ⟨g,0,none⟩) i c,.int .i64 ((n:Int)+(m:Int) - (i:Int))]).run Tryz.prog w =
      .ok (.slice (some ⟨w.heap.size,0,none⟩) (n+m) (grownCap w (n+m) c 106)) (w.drew.alloc (.cells (hd.toArray++Builtin.zeroCells z.cells (n+m - i)++Builtin.zeroCells z.cells (grownCap w (n+m) c 106 - (n+m))) 106)):=fun ty=>by
    have h:=Lib.run_append_grow_zeros w 22 3 ty 106 i0 z .i64 .i64 hu Tryz.underlying3 hi0 hz (some ⟨g,0,none⟩) i c hd hold (n+m - i) (by omega) (by omega) (by omega) (by omega) (by rw[hby];omega) (by rw[hby,hik];exact growslice_fits hroom hbig);rw[hik]at h;rw[hkk];exact h
  obtain⟨G,hG⟩:∃G,G=grownCap w (n+m) c 106:=⟨_,rfl⟩
  obtain⟨ROW,hROW⟩:∃ROW:Array Value,ROW=hd.toArray++Builtin.zeroCells z.cells (n+m - i)++Builtin.zeroCells z.cells (G - (n+m)):=⟨_,rfl⟩
  rw[<- hG]at hrz;rw[<- hROW]at hrz;have hGn:n+m<=G:=by rw[hG];exact grownCap_ge w _ _ _
  have hG63:G<=maxLen:=by have:=grownCap_le_maxLen w (n+m) c 106 (by unfold maxLen;omega);rw[<- hG]at this;exact this
  have hG63':G<=9223372036854775807:=hG63;have hRl:ROW.size=G*3:=by rw[hROW];simp only[Array.size_append,List.size_toArray,Z1t,hzs,hhl];omega
  have hRt:ROW.toList.take (i*3)=hd:=by rw[hROW];simp only[Array.toList_append,List.toList_toArray,List.append_assoc];rw[List.take_append_of_le_length (by omega),List.take_of_length_le (by omega)]
  have hcl:cs.length=(n - i)*3:=by rw[e1];simp;omega
  have hvl2:vs.length=m*3:=by rw[e2];simp;omega
  obtain⟨W1,hW1⟩:∃W1,W1=w.drew.alloc (.cells ROW 106):=⟨_,rfl⟩
  rw[<- hW1]at hrz;have hN:W1.heap[w.heap.size]?=some (.cells ROW 106 (0,0)):=by rw[hW1];exact heap_alloc_new w.drew _
  have hO:∀k,k<w.heap.size->W1.heap[k]?=w.heap[k]?:=fun k hk=>by rw[hW1];exact heap_alloc_old w.drew _ hk
  obtain⟨cur2,hcur2⟩:∃cur2:Array Value,cur2=(ROW.toList.take (i*3)++vs++ROW.toList.drop (i*3+vs.length)).toArray:=⟨_,rfl⟩
  obtain⟨cur3,hcur3⟩:∃cur3:Array Value,cur3=(cur2.toList.take ((i+m)*3)++cs++cur2.toList.drop ((i+m)*3+cs.length)).toArray:=⟨_,rfl⟩
  have hs2:cur2.size=ROW.size:=by rw[hcur2];simp only[List.size_toArray,qy11,List.length_take,List.length_drop,Array.length_toList,hvl2];omega
  have hs3:cur3.size=ROW.size:=by rw[hcur3];simp only[List.size_toArray,qy11,List.length_take,List.length_drop,Array.length_toList,hcl,hs2];omega
  have ht3:cur3.toList.take ((n+m)*3)=hd++vs++cs:=by rw[hcur3,hcur2];simp only[List.toList_toArray];rw[hRt,Zgw hd vs cs _ ((i+m)*3) (by omega)];rw[List.take_append_of_le_length (by simp only[qy11];omega),List.take_of_length_le (by simp only[qy11];omega)]
  have hcpA:∀(W:World),W.heap=W1.heap->∀ty dc,(Builtin.copy_ #[22,22] ty #[.slice (some ⟨w.heap.size,i*3,none⟩) (n+m - i) dc,.slice (some ⟨vb,0,none⟩) m vc]).run Tryz.prog W=.ok (goInt m) (W.setRow w.heap.size cur2):=fun W hW ty dc=>by
    rw[hcur2];exact Zc (P:=Tryz.prog) W 22 22 ty 106 3 w.heap.size (i*3) (n+m - i) dc ⟨vb,0,none⟩ m vc ROW 106 vs m (by omega) hu hsz (by rw[hW];exact hN) hvl2 (fun j v hj=>by
      rw[e2,List.getElem?_take]at hj;split at hj
      . rw[Addr.add_lit];simp only[World.cell?,hW,hO vb hvw,hv,Nat.zero_add];simpa using hj
      . cases hj) (by rw[hvl2,hRl];omega) h1v
  have hcpB:∀(W:World),W.heap=(W1.setRow w.heap.size cur2).heap->∀ty dc sc,(Builtin.copy_ #[22,22] ty #[.slice (some ⟨w.heap.size,(i+m)*3,none⟩) (n+m - (i+m)) dc,.slice (some ⟨g,i*3,none⟩) (n - i) sc]).run Tryz.prog W=.ok (goInt ((n - i:Nat):Int)) (W.setRow w.heap.size cur3):=fun W hW ty dc sc=>by
    rw[hcur3];exact Zc (P:=Tryz.prog) W 22 22 ty 106 3 w.heap.size ((i+m)*3) (n+m - (i+m)) dc ⟨g,i*3,none⟩ (n - i) sc cur2 106 cs (n - i) (by omega) hu hsz (by rw[hW];exact setRow_heap _ _ _ _ _ _ hN) hcl (fun j v hj=>by
      rw[e1,List.getElem?_take]at hj;split at hj
      . rw[Addr.add_lit];simp only[World.cell?,hW,setRow_other _ _ _ _ (Nat.ne_of_lt hbw),hO g hbw,hg];simpa using hj
      . cases hj) (by rw[hcl,hs2,hRl];omega) h1c
  have hGi:¬(G=i):=by omega
  have hGim:¬(G=i+m):=by omega
  have hci:¬(c=i):=by omega
  have hfin:∀W:World,W.heap=(W1.setRow w.heap.size cur2).heap->W.os=w.os->W.tape=w.tape->W.output=w.output->∃(G':Nat) (cur4:Array Value),Ending.returned (.slice (some ⟨w.heap.size,0,none⟩) (n+m) G)=.returned (.slice (some ⟨w.heap.size,0,none⟩) (n+m) G')/\n+m<=G'/\G'<=maxLen/\cur4.size=G'*3/\cur4.toList.take ((n+m)*3)=hd++vs++cs /\
      (W.setRow w.heap.size cur3).heap[w.heap.size]?=some (.cells cur4 106 (0,0))/\w.grownBy (W.setRow w.heap.size cur3) none:=by
    intro W hW ho ht hou;refine⟨G,cur3,rfl,hGn,hG63,by rw[hs3,hRl],ht3,setRow_heap _ _ _ _ _ _ (by rw[hW];exact setRow_heap _ _ _ _ _ _ hN),⟨ho,ht,hou,?_,fun k hk _=>?_⟩⟩
    . rw[setRow_size,hW,setRow_size,hW1];exact Nat.le_of_lt (by show w.heap.size<(w.heap.push _).size;rw[Array.size_push];omega)
    . rw[setRow_other _ _ _ _ (by omega),hW,setRow_other _ _ _ _ (by omega)];exact hO k hk
  subst hW1;have mixed:Tryz.prog.follows Departure.mixedOrders=true:=by kernel_rfl
  have hE1:((w.alloc (.cells ROW 106)).drew).heap=(w.drew.alloc (.cells ROW 106)).heap:=rfl;have hF1:(((w.alloc (.cells ROW 106)).drew.setRow w.heap.size cur2).drew).heap=((w.drew.alloc (.cells ROW 106)).setRow w.heap.size cur2).heap:=rfl;clear hkk hik hold hROW hG hRl hcur2 hcur3 hs2 hs3 ht3 hRt;go_enter Tryz.func286,Tryz.ntmps286
  go_wp2_with (first
    | (at_builtin;refine Lib.wpList_append_run _ rfl _ _ _ _ rfl _ _ rfl rfl _ _ (hrz _) ?_)
    | (at_builtin;refine wpList_copy_runI _ rfl _ _ 22 22 rfl _ _ rfl rfl (hcpA _ hE1 _ _) ?_)
    | (at_builtin;refine wpList_copy_runI _ rfl _ _ 22 22 rfl _ _ rfl rfl (hcpB _ hF1 _ _ _) ?_))
  go_region_law_o (refine step_copy_runI rfl _ _ 22 22 rfl (.slice (some ⟨w.heap.size,(i+m)*3,none⟩) (n+m - (i+m)) (G - (i+m))) (.slice (some ⟨g,i*3,none⟩) (n - i) (c - i)) (by simp[Act.eval,Act.put]) (by simp[Act.eval,Act.put]) (hcpB _ hF1 3 (G - (i+m)) (c - i)) ?_)
  go_wp2
  go_ret
  exact hfin _ rfl rfl rfl rfl
theorem Zrj (w:World) (s v:Value) (i:Nat) (R V:List (List Value)) (hs:owns w s 106 [.str,.str,.int .i64] R) (hv:owns w v 106 [.str,.str,.int .i64] V) (hne:∀k,Z2 s k->Z2 v k->False) (hi:i<=R.length) (hb:(R.length+V.length)*40<=140737488355328) : Calls Tryz.prog 286 #[s,.int .i64 i,v] w fun e w'=>∃v',e=.returned v'/\Zfd w w' s v' 106 [.str,.str,.int .i64] (R.take i++V++R.drop i):=by
  have hs':=hs;have hv':=hv;obtain⟨hk1,hl1,ho⟩:=hs;obtain⟨hk2,hl2,hov⟩:=hv;have hu:=Tryz.underlying22;have hrl1:∀r∈R,r.length=3:=fun r hr=>(hk1 r hr).length;have hrl2:∀r∈V,r.length=3:=fun r hr=>(hk2 r hr).length;obtain⟨inf,hinf⟩:∃i0,Tryz.prog.info? 106=some i0:=by
    have:(Tryz.prog.info? 106).isSome=true:=by kernel_rfl
    exact Option.isSome_iff_exists.1 this
  have hk:inf.size=3:=by
    have:(Tryz.prog.info? 106).map (·.size)=some 3:=by kernel_rfl
    rw[hinf]at this;simpa using this
  have hby:inf.bytes=40:=by
    have:(Tryz.prog.info? 106).map (·.bytes)=some 40:=by kernel_rfl
    rw[hinf]at this;simpa using this
  obtain⟨z,hz,hzs⟩:∃z,inf.zero=some z/\z.cells.size=3:=by
    have:(Tryz.prog.info? 106).bind (fun i=>i.zero.map (fun z=>z.cells.size))=some 3:=by kernel_rfl
    rw[hinf]at this;simp only[Option.bind_some,Option.map_eq_some_iff]at this;exact this
  have hbase:∀{v:Value} {n:Nat} {xs:List Value},((v=.slice none 0 0/\n=0)\/∃g cap cur,v=.slice (some ⟨g,0,none⟩) n cap/\0<=g/\w.heap[g]?=some (.cells cur 106 (0,0))/\n<=cap/\cap<=maxLen/\cur.size=cap*3/\cur.toList.take (n*3)=xs)->∃b c,v=.slice b n c/\n<=c/\(b=none->c=0):=by
    intro v n xs h;rcases h with ⟨rfl,rfl⟩|⟨g,cap,cur,rfl,-,-,h,-⟩
    . exact⟨none,0,rfl,Nat.le_refl _,fun _=>rfl⟩
    . exact⟨some ⟨g,0,none⟩,cap,rfl,h,fun h=>by cases h⟩
  by_cases hV:V=[]
  . subst hV;obtain⟨b,c,rfl,hc1,hc2⟩:=hbase ho;obtain⟨vb,vc,rfl,-,-⟩:=hbase hov;refine(Zw6 w b R.length c i vb vc hi hc1 hc2).mono ?_;rintro e w' ⟨rfl,rfl⟩;exact⟨_,rfl,by simpa using hs',fun k hk=>.inl hk,Z7i _ _⟩
  have hVl:0<V.length:=List.length_pos_iff.2 hV;by_cases hin:i=R.length
  . subst hin;obtain⟨b,c,rfl,hc1,hc2⟩:=hbase ho;obtain⟨vb,vc,rfl,-,-⟩:=hbase hov;obtain⟨v',w',h1,h2,h3,h4⟩:=Z5g (ks:=[.str,.str,.int .i64]) (ty:=22) hu hinf hz hk hzs hby (by decide) hs' hv'.reads hb (by decide);have hrun:∀ty,(Builtin.append_ #[22,22] ty #[.slice b R.length c,.slice vb V.length vc]).run Tryz.prog w=.ok v' w':=fun ty=>h1;refine(Zzw w b R.length c vb V.length vc hVl hc1 hc2 v' w' hrun).mono ?_;rintro e w1 ⟨rfl,rfl⟩;exact⟨_,rfl,by simpa using h2,h4,h3⟩
  have hin:i<R.length:=by omega
  rcases ho with ⟨-,hn⟩|⟨g,c,cur,rfl,-,hg,hnc,hcm,hcs,htk⟩
  . omega
  rcases hov with ⟨-,hn⟩|⟨vb,vc,vcur,rfl,-,hvg,hvn,-,hvs,hvt⟩
  . omega
  replace hcs:cur.size=c*3:=hcs;replace hvs:vcur.size=vc*3:=hvs;replace htk:cur.toList.take (R.length*3)=R.flatten:=htk;replace hvt:vcur.toList.take (V.length*3)=V.flatten:=hvt;replace hl1:R.flatten.length=R.length*3:=hl1;have hcl2:cur.toList.length=c*3:=by rw[Array.length_toList];exact hcs
  replace hl2:V.flatten.length=V.length*3:=hl2;have hvb:vb≠g:=fun e=>hne g rfl (by rw[<- e];rfl);have t1:cur.toList.take (i*3)=(R.take i).flatten:=by rw[<- Z1n i hrl1,<- htk,List.take_take,Nat.min_eq_left (by omega)]
  have t2:(cur.toList.drop (i*3)).take ((R.length - i)*3)=(R.drop i).flatten:=by rw[<- Z1o i hrl1,<- htk,List.drop_take,Nat.sub_mul]
  have o1:∀x∈(R.drop i).flatten,x.oneCell'=true:=Z32 fun r hr=>hk1 r (List.mem_of_mem_drop hr);have o2:∀x∈V.flatten,x.oneCell'=true:=Z32 hk2;have hrows:∀r∈R.take i++V++R.drop i,rowOk [.str,.str,.int .i64] r:=by
    intro r hr;simp only[qy13]at hr;rcases hr with (hr|hr)|hr
    . exact hk1 r (List.mem_of_mem_take hr)
    . exact hk2 r hr
    . exact hk1 r (List.mem_of_mem_drop hr)
  have hlen:(R.take i++V++R.drop i).length=R.length+V.length:=by simp;omega
  have hfl:(R.take i++V++R.drop i).flatten.length=(R.length+V.length)*3:=by have:=Za (n:=3) (fun r hr=>(hrows r hr).length);rw[hlen]at this;exact this
  by_cases hroom:R.length+V.length<=c
  . obtain⟨cur2,hcur2⟩:∃cur2:Array Value,cur2=(cur.toList.take (i*3)++V.flatten++(R.drop i).flatten++cur.toList.drop ((R.length+V.length)*3)).toArray:=⟨_,rfl⟩
    refine(Zri w g R.length c i vb V.length vc (R.drop i).flatten V.flatten cur vcur cur2 hin hVl hroom hcm hvb hg hcs hvg (by omega) t2.symm hvt.symm o1 o2 (by rw[hcur2])).mono ?_;rintro e w' ⟨rfl,rfl⟩;have hgd:w.drew.heap[g]?=some (.cells cur 106 (0,0)):=hg;refine⟨_,rfl,⟨hrows,?_,.inr ⟨g,c,cur2,by rw[hlen],Nat.zero_le _,setRow_heap _ _ _ _ _ _ hgd,by omega,hcm,?_,?_⟩⟩,fun k hk=>.inl hk,⟨rfl,rfl,rfl,by rw[setRow_size];exact Nat.le_refl _,fun k hk hkr=>setRow_other _ _ _ _ (fun e=>hkr (by rw[e];rfl))⟩⟩
    . rw[hfl,hlen];rfl
    . show cur2.size=c*3
      rw[hcur2];have:(cur.toList.take (i*3)++V.flatten++(R.drop i).flatten).length=(R.length+V.length)*3:=by rw[t1,<- hfl];simp[List.flatten_append]
      rw[List.size_toArray,qy11,this,List.length_drop,hcl2];omega
    . have:cur.toList.take (i*3)++V.flatten++(R.drop i).flatten=(R.take i++V++R.drop i).flatten:=by
        rw[t1];simp[List.flatten_append]
      show cur2.toList.take (_*3)=_
      rw[hcur2,List.toList_toArray,this,hlen,List.take_append_of_le_length (by omega),List.take_of_length_le (by omega)]
  . refine(Zw7 w g R.length c i vb V.length vc (R.take i).flatten (R.drop i).flatten V.flatten cur vcur hin hVl hnc (by omega) (by omega) hg hcs hvg (by omega) t1.symm t2.symm hvt.symm o1 o2).mono ?_;rintro e w' ⟨G,cur3,rfl,q1,q2,q3,q4,q5,q6⟩;refine⟨_,rfl,⟨hrows,?_,.inr ⟨w.heap.size,G,cur3,by rw[hlen],Nat.zero_le _,q5,by omega,q2,q3,?_⟩⟩,fun k hk=>.inr ?_,⟨q6.os,q6.tape,q6.output,q6.size,fun k hk _=>q6.block k hk (by simp)⟩⟩
    . rw[hfl,hlen];rfl
    . rw[hlen]
      show cur3.toList.take ((R.length+V.length)*3)=_
      rw[q4];simp[List.flatten_append]
    . have:w.heap.size=k:=Option.some.inj hk;omega
set_option maxRecDepth 100000 in
theorem Z12d (w:World) (g n c i j:Nat) (cur:Array Value) (hij:i<j) (hj:j<=n) (hnc:n<=c) (hc63:c<=9223372036854775807) (hg:w.heap[g]?=some (.cells cur 106 (0,0))) (hcs:cur.size=c*3) (h1c:∀v∈cur.toList.take (n*3),v.oneCell'=true) : Calls Tryz.prog 285 #[.slice (some ⟨g,0,none⟩) n c,.int .i64 i,.int .i64 j] w fun e w'=>∃cur2:Array Value,e=.returned (.slice (some ⟨g,0,none⟩) (i+(n - j)) c)/\cur2.size=cur.size /\ cur2.toList.take ((i+(n - j))*3)=cur.toList.take (i*3)++(cur.toList.drop (j*3)).take ((n - j)*3)/\w'=w.drew.setRow g cur2:=by
  have hz1:¬((i:Int)=(j:Int)):=by omega
  have hu:=Tryz.underlying22;obtain⟨inf,hinf⟩:∃i0,Tryz.prog.info? 106=some i0:=by
    have:(Tryz.prog.info? 106).isSome=true:=by kernel_rfl
    exact Option.isSome_iff_exists.1 this
  have hk:inf.size=3:=by
    have:(Tryz.prog.info? 106).map (·.size)=some 3:=by kernel_rfl
    rw[hinf]at this;simpa using this
  obtain⟨z,hz,hzs⟩:∃z,inf.zero=some z/\(z.cells.size=3/\z.cells.toList.all (fun v=>v.oneCell')=true):=by
    have:(Tryz.prog.info? 106).bind (fun i=>i.zero.map (fun z=>(z.cells.size,z.cells.toList.all (fun v=>v.oneCell'))))=some (3,true):=by kernel_rfl
    rw[hinf]at this;simp only[Option.bind_some,Option.map_eq_some_iff,Prod.mk.injEq]at this;exact this
  obtain⟨hzs,hz1c⟩:=hzs;have hcl:cur.toList.length=c*3:=by rw[Array.length_toList];exact hcs
  obtain⟨cs,hcs1⟩:∃cs,cs=(cur.toList.drop (j*3)).take ((n - j)*3):=⟨_,rfl⟩
  have hl:cs.length=(n - j)*3:=by rw[hcs1];simp only[List.length_take,List.length_drop];omega
  have hone:∀v∈cs,v.oneCell'=true:=fun v hv=>h1c v (by
    rw[hcs1]at hv;have e:cur.toList.take (n*3)=cur.toList.take (j*3)++(cur.toList.drop (j*3)).take ((n - j)*3):=by rw[show n*3=j*3+(n - j)*3 by omega,List.take_add]
    rw[e];exact List.mem_append_right _ hv)
  have hgd:w.drew.heap[g]?=some (.cells cur 106 (0,0)):=hg;obtain⟨cur1,hcur1⟩:∃cur1:Array Value,cur1=(cur.toList.take (i*inf.size)++cs++cur.toList.drop (i*inf.size+cs.length)).toArray:=⟨_,rfl⟩
  obtain⟨zs,hzs1⟩:∃zs:List Value,zs=(Builtin.zeroCells z.cells (n - (i+(n - j)))).toList:=⟨_,rfl⟩
  have hzl:zs.length=(j - i)*3:=by rw[hzs1,Array.length_toList,Z1t,hzs];congr 1;omega
  have hzo:∀v∈zs,v.oneCell'=true:=by intro v hv;rw[hzs1]at hv;exact Z9u (by rw[hzs];decide) (List.all_eq_true.1 hz1c) v hv
  obtain⟨cur2,hcur2⟩:∃cur2:Array Value,cur2=(cur1.toList.take ((i+(n - j))*3)++zs++cur1.toList.drop ((i+(n - j))*3+zs.length)).toArray:=⟨_,rfl⟩
  have hs1:cur1.size=cur.size:=by rw[hcur1,hk];simp only[List.size_toArray,qy11,List.length_take,List.length_drop,hcl,hl];omega
  have hcl1:cur1.toList.length=c*3:=by rw[Array.length_toList,hs1];exact hcs
  have hs2:cur2.size=cur.size:=by rw[hcur2];simp only[List.size_toArray,qy11,List.length_take,List.length_drop,hcl1,hzl];omega
  have ht2:cur2.toList.take ((i+(n - j))*3)=cur.toList.take (i*3)++cs:=by
    rw[hcur2,hcur1,hk];simp only[List.toList_toArray];have e1:(cur.toList.take (i*3)++cs++cur.toList.drop (i*3+cs.length)).take ((i+(n - j))*3)=cur.toList.take (i*3)++cs:=by rw[List.take_append_of_le_length (by simp only[qy11,List.length_take];omega),List.take_of_length_le (by simp only[qy11,List.length_take];omega)]
    rw[List.append_assoc,List.take_append_of_le_length (by rw[e1];simp only[qy11,List.length_take];omega),List.take_take,Nat.min_self,e1]
  have happ:∀(a:Addr),(n - j=0\/a=⟨g,j*3,none⟩)->∀ty sc,(Builtin.append_ #[22,22] ty #[.slice (some ⟨g,0,none⟩) i c,.slice (some a) (n - j) sc]).run Tryz.prog w.drew=.ok (.slice (some ⟨g,0,none⟩) (i+(n - j)) c) (w.drew.setRow g cur1):=fun a ha ty sc=>by
    rw[hcur1];exact run_append_room (P:=Tryz.prog) w.drew 22 ty 106 inf hu hinf g i c cur hgd a (n - j) sc cs (by rw[hk];exact hl) (fun t v ht=>by
      rcases ha with ha|rfl
      . rw[ha]at hl;rw[List.length_eq_zero_iff.1 (by omega:cs.length=0)]at ht;cases ht
      . rw[hcs1,List.getElem?_take]at ht;split at ht
        . rw[Addr.add_lit];simp only[World.cell?,hgd];simpa using ht
        . cases ht) hone (by omega) (by rw[hk,hl];omega)
  have hclr:∀(W:World),W.heap=(w.drew.setRow g cur1).heap->∀ty sc,(Builtin.clear_ #[22] ty #[.slice (some ⟨g,(i+(n - j))*3,none⟩) (n - (i+(n - j))) sc]).run Tryz.prog W=.ok (.tuple #[]) (W.setRow g cur2):=fun W hW ty sc=>by
    have hgW:W.heap[g]?=some (.cells cur1 106 (0,0)):=by rw[hW];exact setRow_heap _ _ _ _ _ _ hgd
    have hst:=run_storeCells_at Tryz.prog g ((i+(n - j))*3) 106 zs 0 cur1 W hgW (by rw[hzl,<- Array.length_toList,hcl1];omega) hzo;simp only[Nat.add_zero]at hst;rw[<- hcur2,hzs1]at hst;obtain⟨r,hr⟩:∃r,n - (i+(n - j))=r+1:=⟨j - i - 1,by omega⟩
    rw[hr]at hst ⊢;simp[Builtin.clear_,run_underlying hu,zeroValue,typeInfo,hinf,hz,hst]
  have hb1:(0:Int)<=(i:Int):=by omega
  have hw1:¬(c=i+(n - j)):=by omega
  have hj1:(j:Int)<=(n:Int):=by omega
  have hj2:(i:Int)<=(j:Int):=by omega
  have mixed:Tryz.prog.follows Departure.mixedOrders=true:=by kernel_rfl
  have hic:i<=c:=by omega
  have hfin:cur2.size=cur.size/\cur2.toList.take ((i+(n - j))*3)=cur.toList.take (i*3)++(cur.toList.drop (j*3)).take ((n - j)*3):=by rw[<- hcs1];exact⟨hs2,ht2⟩
  clear ht2 hs2 hs1 hcl1 hone hl hzl hzo hzs1 hcur2 hcur1 hcs1 hz1c hzs hz hk hinf hcl h1c hcs hgd hg;clear cs zs z inf;by_cases hcj:c=j
  . obtain rfl:n=c:=by omega
    obtain rfl:n=j:=hcj;have happ0:∀(a:Addr) ty sc,(Builtin.append_ #[22,22] ty #[.slice (some ⟨g,0,none⟩) i n,.slice (some a) 0 sc]).run Tryz.prog w.drew=.ok (.slice (some ⟨g,0,none⟩) i n) (w.drew.setRow g cur1):=fun a ty sc=>by have:=happ a (.inl (Nat.sub_self n)) ty sc;rw[Nat.sub_self,Nat.add_zero]at this;exact this
    have hclr0:∀(W:World),W.heap=(w.drew.setRow g cur1).heap->∀ty sc,(Builtin.clear_ #[22] ty #[.slice (some ⟨g,i*3,none⟩) (n - i) sc]).run Tryz.prog W=.ok (.tuple #[]) (W.setRow g cur2):=by rw[Nat.sub_self,Nat.add_zero]at hclr;exact hclr
    have hw2:¬n=i:=by omega
    have hfin0:Ending.returned (.slice (some ⟨g,0,none⟩) i n)=.returned (.slice (some ⟨g,0,none⟩) (i+(n - n)) n):=by rw[Nat.sub_self,Nat.add_zero]
    clear happ hclr;go_enter Tryz.func285,Tryz.ntmps285
    go_wp2
    go_region_law_o (refine Z2h rfl _ _ 22 22 rfl _ _ (by simp[Act.eval,Act.put]) (by simp[Act.eval,Act.put]) (happ0 ⟨g,0,none⟩ _ 0) ?_)
    go_wp2_with (refine Z24 _ rfl _ 22 rfl _ rfl (hclr0 _ rfl _ _) ?_)
    go_ret
    exact⟨cur2,hfin0,hfin.1,hfin.2,by rw[setRow_setRow]⟩
  . go_enter Tryz.func285,Tryz.ntmps285
    go_wp2
    go_region_law_o (refine Z2h rfl _ _ 22 22 rfl _ _ (by simp[Act.eval,Act.put]) (by simp[Act.eval,Act.put]) (happ ⟨g,j*3,none⟩ (.inr rfl) _ (c - j)) ?_)
    go_wp2_with (refine Z24 _ rfl _ 22 rfl _ rfl (hclr _ rfl _ _) ?_)
    go_ret
    exact⟨cur2,rfl,hfin.1,hfin.2,by rw[setRow_setRow]⟩
theorem Zrk (w:World) (s:Value) (i j:Nat) (R:List (List Value)) (hs:owns w s 106 [.str,.str,.int .i64] R) (hij:i<j) (hj:j<=R.length) : Calls Tryz.prog 285 #[s,.int .i64 i,.int .i64 j] w fun e w'=>∃v',e=.returned v'/\Zfd w w' s v' 106 [.str,.str,.int .i64] (R.take i++R.drop j):=by
  obtain⟨hk1,hl1,ho⟩:=hs;have hrl1:∀r∈R,r.length=3:=fun r hr=>(hk1 r hr).length;rcases ho with ⟨-,hn⟩|⟨g,c,cur,rfl,-,hg,hnc,hcm,hcs,htk⟩
  . omega
  replace hcs:cur.size=c*3:=hcs;replace htk:cur.toList.take (R.length*3)=R.flatten:=htk;refine(Z12d w g R.length c i j cur hij hj hnc hcm hg hcs (fun v hv=>by rw[htk]at hv;exact Z32 hk1 v hv)).mono ?_;rintro e w' ⟨cur2,rfl,q1,q2,rfl⟩;have hgd:w.drew.heap[g]?=some (.cells cur 106 (0,0)):=hg;have t1:cur.toList.take (i*3)=(R.take i).flatten:=by rw[<- Z1n i hrl1,<- htk,List.take_take,Nat.min_eq_left (by omega)]
  have t2:(cur.toList.drop (j*3)).take ((R.length - j)*3)=(R.drop j).flatten:=by rw[<- Z1o j hrl1,<- htk,List.drop_take,Nat.sub_mul]
  have hrows:∀r∈R.take i++R.drop j,rowOk [.str,.str,.int .i64] r:=by
    intro r hr;rcases qy13.1 hr with hr|hr
    . exact hk1 r (List.mem_of_mem_take hr)
    . exact hk1 r (List.mem_of_mem_drop hr)
  have hlen:(R.take i++R.drop j).length=i+(R.length - j):=by simp;omega
  refine⟨_,rfl,⟨hrows,?_,.inr ⟨g,c,cur2,by rw[hlen],Nat.zero_le _,setRow_heap _ _ _ _ _ _ hgd,by omega,hcm,q1.trans hcs,?_⟩⟩,fun k hk=>.inl hk,⟨rfl,rfl,rfl,by rw[setRow_size];exact Nat.le_refl _,fun k hk hkr=>setRow_other _ _ _ _ (fun e=>hkr (by rw[e];rfl))⟩⟩
  . exact Za (fun r hr=>(hrows r hr).length)
  . rw[hlen]
    show cur2.toList.take ((i+(R.length - j))*3)=_
    rw[q2,t1,t2,List.flatten_append]
end Go.Proofs.YtkhakgbnfapifaaGreatDoor
namespace Go.Proofs.YtkhakgbnfapifaaGreatDoor
open Go.Sx
theorem Zrl {v:Value} (hn:(match v with | .slice none _ _=>true|_=>false)=true) {w:World} {ks:List Kd} {rows:List (List Value)} (h:reads w v ks rows):rows=[]:=by obtain⟨_,a,cap,rfl,_,h2⟩:=h;refine Classical.byContradiction fun hne=>?_;obtain⟨ad,rfl,_⟩:=h2 hne;simp at hn
theorem Zcd (w:World) (v:Value) (l:List Kp) (hv:Z51 w v l) (hl:l.length<1000000000):Calls Tryz.prog 205 #[sc1 v] w fun e w'=>∃v',e=.returned (sc1 v')/\Zin w' v' l/\(∀k,Z2 v' k->w.heap.size<=k)/\Mod [] w w':=by
 refine Z1 (Z3 (ρ:=[.v v,.r (l.map encK)]) sxE_ok Tryz.func205 Z2k rfl rfl (Rel.start2 (by simp[Ent.holds,Ent.wr,hv,X.ev])) rfl rfl ?_) rfl;simp only[Tree.goal,X.P,X.ev,SV.ev,CV.ev,Sc.ev,qz,QA,QB,QC,QD,QE,QF,QG,QH,QI,QJ,QK,QL,QM,Nat.reduceAdd,qy3,List.nil_append];refine⟨fun h w' hr=>?_,fun h v1=>⟨by simp only[Int.natCast_zero];omega,fun v2 w' hr=>?_⟩⟩
 ·have hn:l=[]:=List.map_eq_nil_iff.1 (Zrl h hv);subst hn;exact⟨_,rfl,hr.at_ 0 rfl,hr.fresh 0 rfl,hr.mod⟩
 ·exact⟨v2,rfl,hr.at_ 0 rfl,hr.fresh 0 rfl,hr.mod⟩
theorem Z12e (w:World) (s v:Value) (l:List Kp) (x:Kp) (i:Nat) (hs:Zin w s l) (hv:Zin w v [x]) (hne:∀k,Z2 s k->Z2 v k->False) (hi:i<=l.length) (hl:l.length<1000000) : Calls Tryz.prog 286 #[sc1 s,.int .i64 i,sc1 v] w fun e w'=>∃v',e=.returned (sc1 v')/\Zin w' v' (l.take i++[x]++l.drop i)/\(∀k,Z2 v' k->Z2 s k\/w.heap.size<=k)/\Mod s.ownBlock.toList w w':=by rw[hs.reads.sc1,hv.reads.sc1];refine(Zrj w s v i _ _ hs hv hne (by simpa using hi) (by simp;omega)).mono ?_;rintro e w' ⟨v',rfl,g1,g2,g3⟩;refine⟨v',by rw[g1.reads.sc1],?_,g2,Mod.of_grown g3 fun k hk=>.inl (Option.mem_toList.2 hk)⟩;rw[Zin,List.map_append,List.map_append,List.map_take,List.map_drop];exact g1
theorem Z12f (w:World) (s:Value) (l:List Kp) (i:Nat) (hs:Zin w s l) (hi:i<l.length) : Calls Tryz.prog 285 #[sc1 s,.int .i64 i,.int .i64 ((i:Int)+1)] w fun e w'=>∃v',e=.returned (sc1 v')/\Zin w' v' (l.take i++l.drop (i+1))/\(∀k,Z2 v' k->Z2 s k\/w.heap.size<=k)/\Mod s.ownBlock.toList w w':=by rw[hs.reads.sc1];have hc:=Zrk w s i (i+1) _ hs (by omega) (by rw[qy3];omega);rw[show ((i+1:Nat):Int)=(i:Int)+1 by omega]at hc;refine hc.mono ?_;rintro e w' ⟨v',rfl,g1,g2,g3⟩;refine⟨v',by rw[g1.reads.sc1],?_,g2,Mod.of_grown g3 fun k hk=>.inl (Option.mem_toList.2 hk)⟩;rw[Zin,List.map_append,List.map_take,List.map_drop];exact g1
theorem Z68 {ρ:List V} {g:List Nat} {i:Nat} (hi:i∈g) {k:Nat} (h:Z2 (ρ.getD i (.i 0)).toV k):k∈Z16 ρ g:=List.mem_flatMap.2 ⟨i,hi,by rw[h];simp⟩
def newK (n:Nat) (u:Value):Prop:=∀k,Z2 u k->n<=k
theorem Zgx (n:Nat):newK n (.slice none 0 0):=fun k hk=>by simp[Z2,Value.ownBlock]at hk
theorem Zfe (w:World):Z51 w (.slice none 0 0) []:=⟨by simp,none,0,rfl,⟨fun _=>rfl,Nat.le_refl _⟩,fun h=>absurd rfl h⟩
def gotK (w w':World) (e:Ending) (r:List Kp) (er:Int):Prop:=∃v',e=.returned (.tuple #[sc1 v',.int .i64 er])/\Z51 w' v' r/\newK w.heap.size v'/\Mod [] w w'
def minV (v:Int):Int:=if 16777215<v+1 then 16777215 else v+1
def rawK (l:List Kp) (n p:List UInt8):List Kp×Int :=
 if 200<(p.length:Int) then ([],2)
 else if hasK l n=true/\p=[] then (l.take (idx l n)++l.drop (idx l n+1),0)
 else if hasK l n=true then (l.set (idx l n) ((l.getD (idx l n) kD).1,p,minV (l.getD (idx l n) kD).2.2),0)
 else if p=[] then (l,0)
 else if (l.length:Int)=16 then ([],2) else (l.take (idx l n)++[((n,p,1):Kp)]++l.drop (idx l n),0)
theorem Zw8 (l:List Kp) (n:List UInt8):idx l n<=l.length:=List.length_filter_le _ _
theorem Zav (R:List Kp) (m:Nat) (x:Kp):(R.map encK).set m [.string ⟨x.1.toArray⟩,.string ⟨x.2.1.toArray⟩,.int .i64 x.2.2]=(R.set m x).map encK:=by rw[List.map_set];rfl
theorem Zrm {R:List Kp} {m:Nat} {x:Kp} (h:m<R.length):(R.set m x).getD m kD=x:=by rw[qy1,List.getElem?_set_self h];rfl
theorem Z12g (w:World) (v:Value) (l:List Kp) (n p:List UInt8) (hv:Z51 w v l) (hs:chkK l=0):Calls Tryz.prog 230 #[sc1 v,.string ⟨n.toArray⟩,.string ⟨p.toArray⟩] w fun e w'=>gotK w w' e (rawK l n p).1 (rawK l n p).2:=by
 obtain⟨k1,k2,k3⟩:=Z15.1 hs;refine Z1 (Z3 (ρ:=[.v v,.r (l.map encK),.s n,.s p]) sxE_ok Tryz.func230 Zgh rfl rfl (Rel.start2 (by simp[Ent.holds,Ent.wr,hv,X.ev])) rfl rfl ?_) rfl;simp only[Tree.goal,X.P,X.ev,SV.ev,CV.ev,Sc.ev,qz,QA,QB,QC,QD,QE,QF,QG,QH,QI,QJ,QK,QL,QM,Nat.reduceAdd,qy3,qy4,gK0,gK1,gK2];refine⟨fun h w' hr=>?_,fun h w1 hr=>?_⟩
 ·rw[rawK,if_pos h];exact⟨_,rfl,Zfe _,Zgx _,hr.mod⟩
 refine(Zcd w1 v l (hr.at_ 1 rfl) (by omega)).mono ?_;rintro e w2 ⟨u,rfl,a1,f1,m1⟩;refine⟨[.v u,.r (l.map encK)],rfl,rfl,m1,qy5 _,qy2.2 ⟨⟨a1,fun k hk=>.inl (f1 k hk)⟩,qy5 _⟩,Z4,?_⟩;clear hr a1 f1 m1;simp only[Tree.goal,X.P,X.ev,SV.ev,CV.ev,Sc.ev,qz,QA,QB,QC,QD,QE,QF,QG,QH,QI,QJ,QK,QL,QM,Nat.reduceAdd,qy3,qy4,gK0,gK1,gK2];refine⟨[.i (idx l n),.b (hasK l n)],rfl,fun _ w' hr=>Zrh w' u l n (hr.at_ 0 rfl).reads k3 (by omega),?_⟩;simp only[Tree.goal,X.P,X.ev,SV.ev,CV.ev,Sc.ev,qz,QA,QB,QC,QD,QE,QF,QG,QH,QI,QJ,QK,QL,QM,Nat.reduceAdd,qy3,qy4,gK0,gK1,gK2];rw[rawK,if_neg h];refine⟨fun h1=>?_,fun h1=>?_⟩
 ·have hlt:=(of_decide_eq_true h1.1).1;rw[if_pos h1];refine⟨by omega,by omega,fun w3 hr=>?_⟩;refine(Z12f w3 u l (idx l n) (hr.at_ 0 rfl) hlt).mono ?_;rintro e w4 ⟨v',rfl,g1,g2,g3⟩;refine⟨[.v v',.r ((l.take (idx l n)++l.drop (idx l n+1)).map encK)],rfl,rfl,g3.mono fun k hk=>.inl (by simpa [Zv,Z16,Value.ownBlock]using hk),qy5 _,qy2.2 ⟨⟨g1,fun k hk=>?_⟩,qy5 _⟩,Z4,?_⟩
  ·rcases g2 k hk with h2|h2
   ·exact .inr (.inr (Z68 (i:=5) (by simp) h2))
   ·exact .inl h2
  ·intro w5 hr5;exact⟨v',rfl,(hr5.at_ 0 rfl).reads,hr5.fresh 0 rfl,hr5.mod⟩
 rw[if_neg h1];refine⟨fun h2=>?_,fun h2=>?_⟩
 ·have hlt:=(of_decide_eq_true h2).1;have hm:l.getD (idx l n) kD∈l:=by
   rw[qy1,qy7 hlt];exact List.getElem_mem hlt
  obtain⟨-,-,-,o4,o5⟩:=k2 _ hm;rw[if_pos h2];refine⟨by omega,by omega,by omega,by omega,by simp only[List.length_set,qy3];omega,fun w3 hr=>?_⟩;have e1:(l.map encK).set (idx l n) [Value.string ⟨(l.getD (idx l n) kD).1.toArray⟩,Value.string ⟨p.toArray⟩,Value.int .i64 (l.getD (idx l n) kD).2.2]=(l.set (idx l n) ((l.getD (idx l n) kD).1,p,(l.getD (idx l n) kD).2.2)).map encK:=Zav l (idx l n) ((l.getD (idx l n) kD).1,p,(l.getD (idx l n) kD).2.2);refine⟨u,rfl,?_,hr.fresh 0 rfl,hr.mod⟩;have h0:=(hr.at_ 0 rfl).reads;simp only[Tree.goal,X.P,X.ev,SV.ev,CV.ev,Sc.ev,qz,QA,QB,QC,QD,QE,QF,QG,QH,QI,QJ,QK,QL,QM,Nat.reduceAdd,qy3,qy4,gK0,gK1,gK2,e1,Zrm hlt]at h0;have e2:((l.set (idx l n) ((l.getD (idx l n) kD).1,p,(l.getD (idx l n) kD).2.2)).map encK).set (idx l n) [Value.string ⟨(l.getD (idx l n) kD).1.toArray⟩,Value.string ⟨p.toArray⟩,Value.int .i64 (minV (l.getD (idx l n) kD).2.2)]=(l.set (idx l n) ((l.getD (idx l n) kD).1,p,minV (l.getD (idx l n) kD).2.2)).map encK:=by have:=Zav (l.set (idx l n) ((l.getD (idx l n) kD).1,p,(l.getD (idx l n) kD).2.2)) (idx l n) ((l.getD (idx l n) kD).1,p,minV (l.getD (idx l n) kD).2.2);rw[List.set_set]at this;exact this
  rw[Z51,<- e2];exact h0
 rw[if_neg h2];refine⟨fun h3 w3 hr=>?_,fun h3=>⟨fun h4 w3 hr=>?_,fun h4 u2 w3 hr=>?_⟩⟩
 ·rw[if_pos h3];exact⟨u,rfl,(hr.at_ 0 rfl).reads,hr.fresh 0 rfl,hr.mod⟩
 ·rw[if_neg h3,if_pos h4];exact⟨_,rfl,Zfe _,Zgx _,hr.mod⟩
 ·rw[if_neg h3,if_neg h4];refine(Z12e w3 u u2 l (n,p,1) (idx l n) (hr.at_ 1 rfl) (hr.at_ 0 rfl) (fun k h5 h6=>hr.sep.disj (i:=1) (j:=0) rfl rfl (by omega) (.inl rfl) (k:=k) h5 h6) (Zw8 l n) (by omega)).mono ?_;rintro e w4 ⟨v',rfl,g1,g2,g3⟩;refine⟨[.v v',.r ((l.take (idx l n)++[((n,p,1):Kp)]++l.drop (idx l n)).map encK)],rfl,rfl,g3.mono fun k hk=>.inl (by unfold Zv;exact List.mem_append_right _ (Z68 (i:=5) (by simp) (Option.mem_toList.1 hk))),qy5 _,qy2.2 ⟨⟨g1,fun k hk=>?_⟩,qy5 _⟩,Z4,?_⟩
  ·rcases g2 k hk with h5|h5
   ·exact .inr (.inr (Z68 (i:=5) (by simp) h5))
   ·exact .inl h5
  ·intro w5 hr5;exact⟨v',rfl,(hr5.at_ 0 rfl).reads,hr5.fresh 0 rfl,hr5.mod⟩
def putE (l:List Kp) (n:List UInt8):Int:=if chkK l=0 then chkT n false else chkK l
def getC (l:List Kp) (n:List UInt8):Kp×Int:=if putE l n=0 then (if hasK l n=true then (l.getD (idx l n) kD,0) else (kD,5)) else (kD,putE l n)
def forF (f:List UInt8) (k:Kp):Bool:=mt (lev f) (lev k.1)
theorem Zgy (w:World) (v:Value) (l:List Kp) (n:List UInt8) (hv:Z51 w v l) (hs:Z67 l) (hl:l.length<1000000000):Calls Tryz.prog 45 #[sc1 v,.string ⟨n.toArray⟩] w fun e w'=>e=.returned (.int .i64 (if hasK l n=true then (idx l n:Int) else -1))/\Mod [] w w':=by
 have key:∀i,i<l.length->(l.getD i kD).1=n->i=idx l n:=by
  intro i hi he;refine Zm6 (by omega) (fun j hj=>?_) (fun j hj1 hj2=>?_)
  ·rw[<- he];exact Zcc hs hj hi
  ·rw[<- he];by_cases hji:j=i
   ·rw[hji];exact Z2q _
   ·exact Z42 (Zcc hs (by omega) hj2)
 refine Z1 (Z3 (ρ:=[.v v,.r (l.map encK),.s n]) sxE_ok Tryz.func45 Z62 rfl rfl (Rel.start2 (by simp[Ent.holds,Ent.wr,hv,X.ev])) rfl rfl ?_) rfl;simp only[Tree.goal,X.P,X.ev,SV.ev,CV.ev,Sc.ev,qz,QA,QB,QC,QD,QE,QF,QG,QH,QI,QJ,QK,QL,QM,Nat.reduceAdd,qy3,qy4,gK0,gK1,gK2];refine⟨fun vs=>∃(i:Nat) (x:V),vs=[x,.i i]/\i<=l.length/\∀j,j<i->¬(l.getD j kD).1=n,fun vs=>l.length - (vs.getD 1 (.i 0)).toI.toNat,⟨0,_,rfl,by omega,fun j hj=>by omega⟩,?_⟩;rintro _ - ⟨i,x,rfl,hi,hno⟩;simp only[Tree.goal,X.P,X.ev,SV.ev,CV.ev,Sc.ev,qz,QA,QB,QC,QD,QE,QF,QG,QH,QI,QJ,QK,QL,QM,Nat.reduceAdd,qy3,qy4,gK0,gK1,gK2];refine⟨fun h1=>⟨by omega,fun h2 w' hr=>⟨?_,hr.mod⟩,fun h2=>⟨by omega,by omega,⟨i+1,x,rfl,by omega,fun j hj=>?_⟩,by omega⟩⟩,fun h1 w' hr=>⟨?_,hr.mod⟩⟩
 ·have e:=key i (by omega) h2;have:hasK l n=true:=by rw[hasK,<- e];exact decide_eq_true ⟨by omega,h2⟩
  rw[if_pos this,<- e]
 ·by_cases hji:j=i
  ·rw[hji];exact h2
  ·exact hno j (by omega)
 ·have:¬hasK l n=true:=fun h=>by
   obtain⟨h3,h4⟩:=of_decide_eq_true h;exact hno (idx l n) (by omega) h4
  rw[if_neg this]
theorem Zoa (w:World) (u v:Value) (a b:List Kp) (hu:Z51 w u a) (hv:Z51 w v b) (hl:a.length<1000000000):Calls Tryz.prog 94 #[sc1 u,sc1 v] w fun e w'=>e=.returned (.bool (decide (a=b)))/\Mod [] w w':=by
 refine Z1 (Z3 (ρ:=[.v u,.r (a.map encK),.v v,.r (b.map encK)]) sxE_ok Tryz.func94 Z57 rfl rfl (Rel.start2 (by simp[Ent.holds,Ent.wr,hu,hv,X.ev])) rfl rfl ?_) rfl;simp only[Tree.goal,X.P,X.ev,SV.ev,CV.ev,Sc.ev,qz,QA,QB,QC,QD,QE,QF,QG,QH,QI,QJ,QK,QL,QM,Nat.reduceAdd,qy3];refine⟨fun h w' hr=>⟨?_,hr.mod⟩,fun h=>?_⟩
 ·rw[decide_eq_false];intro e;rw[e]at h;exact h rfl
 ·have hlen:a.length=b.length:=by omega
  refine⟨fun vs=>∃(i:Nat) (x:V),vs=[x,.i i]/\i<=a.length/\∀j,j<i->a.getD j kD=b.getD j kD,fun vs=>a.length - (vs.getD 1 (.i 0)).toI.toNat,⟨0,_,rfl,by omega,fun j hj=>by omega⟩,?_⟩;rintro _ - ⟨i,x,rfl,hi,hall⟩;simp only[Tree.goal,X.P,X.ev,SV.ev,CV.ev,Sc.ev,qz,QA,QB,QC,QD,QE,QF,QG,QH,QI,QJ,QK,QL,QM,Nat.reduceAdd,qy3,qy4,gK0,gK1,gK2];refine⟨fun h7=>⟨by omega,by omega,fun h8 w' hr=>⟨?_,hr.mod⟩,fun h8=>⟨by omega,by omega,⟨i+1,x,rfl,by omega,fun j hj=>?_⟩,by omega⟩⟩,fun h7 w' hr=>⟨?_,hr.mod⟩⟩
  ·rw[decide_eq_false];intro e;rw[e]at h8;exact h8 ⟨rfl,rfl,rfl⟩
  ·by_cases hji:j=i
   ·subst hji;have h9:=qy9.1 h8;exact Prod.ext h9.1 (Prod.ext h9.2.1 h9.2.2)
   ·exact hall j (by omega)
  ·rw[decide_eq_true];refine List.ext_getElem? fun j=>?_;by_cases hj:j<a.length
   ·have:=hall j (by omega);rw[qy1,qy1,qy7 hj,qy7 (by omega)]at this;rw[qy7 hj,qy7 (by omega)];simpa using this
   ·rw[List.getElem?_eq_none (by omega),List.getElem?_eq_none (by omega)]
theorem Zff (p:Kp->Bool) (l:List Kp) (i:Nat) (h:i<l.length):(l.take (i+1)).filter p=(l.take i).filter p++(if p (l.getD i kD)=true then [l.getD i kD] else []):=by rw[Zzv l i h,List.filter_append,List.filter_cons,List.filter_nil]
theorem Zgz {R l:List Kp} {j:Nat} (h:R.drop j=l.drop j):R.getD j kD=l.getD j kD:=by
 have e:∀q:List Kp,q.getD j kD=(q.drop j).getD 0 kD:=fun q=>by simp[qy1]
 rw[e R,e l,h]
theorem Zrn {R:List Kp} {m:Nat} {x:Kp} (h:m<R.length):(R.set m x).take (m+1)=R.take m++[x]:=by
 rw[List.take_set,Zzv R m h,List.set_append_right _ _ (by simp;omega)];have:m - (R.take m).length=0:=by simp;omega
 rw[this];rfl
theorem Zro {R:List Kp} {m j:Nat} {x:Kp} (h:m<j):(R.set m x).drop j=R.drop j:=by rw[List.drop_set,if_pos h]
def gotL (w w':World) (e:Ending) (r:List Kp):Prop:=∃v',e=.returned (sc1 v')/\Z51 w' v' r/\newK w.heap.size v'/\Mod [] w w'
theorem Z12h (w:World) (v:Value) (l:List Kp) (f:List UInt8) (hv:Z51 w v l) (hs:Zdo l) (hl:l.length<1000000000) (hf:f.length<4294967281):Calls Tryz.prog 215 #[sc1 v,.string ⟨f.toArray⟩] w fun e w'=>gotL w w' e (l.filter (forF f)):=by
 refine Z1 (Z3 (ρ:=[.v v,.r (l.map encK),.s f]) sxE_ok Tryz.func215 Zgf rfl rfl (Rel.start2 (by simp[Ent.holds,Ent.wr,hv,X.ev])) rfl rfl ?_) rfl;simp only[Tree.goal,X.P,X.ev,SV.ev,CV.ev,Sc.ev,qz,QA,QB,QC,QD,QE,QF,QG,QH,QI,QJ,QK,QL,QM,Nat.reduceAdd,qy3,qy4,gK0,gK1,gK2];intro b1 w1 hr;refine(Zcd w1 v l (hr.at_ 2 rfl) (by omega)).mono ?_;rintro e w2 ⟨u,rfl,a1,f1,m1⟩;refine⟨[.v u,.r (l.map encK)],rfl,rfl,m1,qy5 _,qy2.2 ⟨⟨a1,fun k hk=>.inl (f1 k hk)⟩,qy5 _⟩,Z4,?_⟩;clear hr a1 f1 m1;simp only[Tree.goal,X.P,X.ev,SV.ev,CV.ev,Sc.ev,qz,QA,QB,QC,QD,QE,QF,QG,QH,QI,QJ,QK,QL,QM,Nat.reduceAdd,qy3,qy4,gK0,gK1,gK2];refine⟨fun vs=>∃(i:Nat) (x:V),vs=[x,.i i,.s f]/\i<=l.length/\(l.take i).filter (forF f)=l.take i,fun vs=>l.length - (vs.getD 1 (.i 0)).toI.toNat,⟨0,_,rfl,by omega,by simp⟩,?_⟩;rintro _ - ⟨i,x,rfl,hi,hall⟩;simp only[Tree.goal,X.P,X.ev,SV.ev,CV.ev,Sc.ev,qz,QA,QB,QC,QD,QE,QF,QG,QH,QI,QJ,QK,QL,QM,Nat.reduceAdd,qy3,qy4,gK0,gK1,gK2];refine⟨fun h1=>⟨by omega,fun b2=>?_⟩,fun h1 w3 hr=>?_⟩
 ·refine⟨[.b (forF f (l.getD i kD))],rfl,fun _ w' _=>Zzn w' f _ hf (Z70 hs i),?_⟩;simp only[Tree.goal,X.P,X.ev,SV.ev,CV.ev,Sc.ev,qz,QA,QB,QC,QD,QE,QF,QG,QH,QI,QJ,QK,QL,QM,Nat.reduceAdd,qy3,qy4,gK0,gK1,gK2];have hsn:=Zff (forF f) l i (by omega);refine⟨fun h2=>⟨fun h3=>absurd h3 (by omega),fun h3=>⟨by omega,by omega,?_⟩⟩,fun h2=>⟨by omega,by omega,⟨i+1,x,rfl,by omega,?_⟩,by omega⟩⟩
  ·rw[if_neg h2,List.append_nil]at hsn;refine⟨fun vs=>∃(m j:Nat) (R:List Kp),vs=[.i m,.i j,.r (R.map encK),.s f]/\R.length=l.length/\m<j/\j<=l.length/\R.take m=(l.take j).filter (forF f)/\R.drop j=l.drop j,fun vs=>l.length - (vs.getD 1 (.i 0)).toI.toNat,⟨i,i+1,l,rfl,rfl,by omega,by omega,by rw[hsn,hall],rfl⟩,?_⟩;rintro _ - ⟨m,j,R,rfl,hRl,hmj,hj,htk,hdr⟩;simp only[Tree.goal,X.P,X.ev,SV.ev,CV.ev,Sc.ev,qz,QA,QB,QC,QD,QE,QF,QG,QH,QI,QJ,QK,QL,QM,Nat.reduceAdd,qy3,qy4,gK0,gK1,gK2];refine⟨fun h4=>⟨by omega,fun b8 b9=>?_⟩,fun h4=>?_⟩
   ·have hsn:=Zff (forF f) l j (by omega);have hRj:=Zgz hdr;have hdr1:R.drop (j+1)=l.drop (j+1):=by rw[<- List.drop_drop,<- List.drop_drop,hdr]
    rw[hRj];refine⟨[.b (forF f (l.getD j kD))],rfl,fun _ w' _=>Zzn w' f _ hf (Z70 hs j),?_⟩;simp only[Tree.goal,X.P,X.ev,SV.ev,CV.ev,Sc.ev,qz,QA,QB,QC,QD,QE,QF,QG,QH,QI,QJ,QK,QL,QM,Nat.reduceAdd,qy3,qy4,gK0,gK1,gK2,hRj];refine⟨fun h5=>?_,fun h5=>?_⟩
    ·rw[if_pos h5]at hsn;refine⟨by omega,by omega,by omega,by omega,by omega,by omega,⟨m+1,j+1,R.set m (l.getD j kD),?_,by simpa using hRl,by omega,by omega,?_,?_⟩,by omega⟩
     ·rw[<- Zav];rfl
     ·rw[Zrn (by omega),htk,hsn]
     ·rw[Zro (by omega),hdr1]
    ·rw[if_neg h5,List.append_nil]at hsn;exact⟨by omega,by omega,⟨m,j+1,R,rfl,hRl,by omega,by omega,by rw[htk,hsn],hdr1⟩,by omega⟩
   ·have:j=l.length:=by omega
    subst this;rw[List.take_length]at htk;refine⟨by omega,by omega,?_,fun v9 w5 hr=>?_⟩
    ·simp only[qy11,List.length_take,qy3,List.length_replicate];omega
    ·have e1:(List.take m (List.take m (R.map encK)++List.replicate (R.length - m) [Value.string ⟨[].toArray⟩,.string ⟨[].toArray⟩,.int .i64 0]))=(l.filter (forF f)).map encK:=by
      rw[List.take_append_of_le_length (by simp;omega),List.take_take,Nat.min_self,<- List.map_take,htk]
     have h0:=(hr.at_ 0 rfl).reads;simp only[Tree.goal,X.P,X.ev,SV.ev,CV.ev,Sc.ev,qz,QA,QB,QC,QD,QE,QF,QG,QH,QI,QJ,QK,QL,QM,Nat.reduceAdd,qy3,qy4,gK0,gK1,gK2]at h0;refine⟨v9,rfl,?_,hr.fresh 0 rfl,hr.mod⟩;rw[Z51,<- e1];exact h0
  ·have h2:forF f (l.getD i kD)=true:=qy9.1 h2;rw[hsn,hall,if_pos h2,Zzv l i (by omega)]
 ·have:i=l.length:=by omega
  subst this;rw[List.take_length]at hall;rw[hall];exact⟨u,rfl,(hr.at_ 1 rfl).reads,hr.fresh 1 rfl,hr.mod⟩
abbrev Zd:List UInt8->List UInt8->Bool:=Op.bytesLess
theorem Z9v (a:List UInt8):Zd a []=false:=by cases a<;>rfl
theorem Z1g:∀a:List UInt8,Zd a a=false
 | []=>rfl
 | a::x=>by simp[Zd,Op.bytesLess,Z1g x,UInt8.lt_irrefl]
theorem Z13:∀{a b c:List UInt8},Zd a b=true->Zd b c=true->Zd a c=true
 | _,[],_,h,_=>by rw[Z9v]at h;cases h
 | _,_::_,[],_,h=>by rw[Z9v]at h;cases h
 | [],_::_,_::_,_,_=>rfl
 | a::x,b::y,c::z,h1,h2=>by
  simp only[Zd,Op.bytesLess,Bool.or_eq_true,decide_eq_true_eq,Bool.and_eq_true,beq_iff_eq]at h1 h2 ⊢;rcases h1 with h1|⟨rfl,h1⟩
  ·rcases h2 with h2|⟨rfl,h2⟩
   ·exact .inl (UInt8.lt_trans h1 h2)
   ·exact .inl h1
  ·rcases h2 with h2|⟨rfl,h2⟩
   ·exact .inl h2
   ·exact .inr ⟨rfl,Z13 h1 h2⟩
theorem Z9w:∀{a b:List UInt8},Zd a b=false->Zd b a=false->a=b
 | [],[],_,_=>rfl
 | [],_::_,h,_=>by cases h
 | _::_,[],_,h=>by cases h
 | a::x,b::y,h1,h2=>by
  simp only[Zd,Op.bytesLess,Bool.or_eq_false_iff,decide_eq_false_iff_not,Bool.and_eq_false_iff,beq_eq_false_iff_ne]at h1 h2;have hab:a=b:=by
   rcases Nat.lt_trichotomy a.toNat b.toNat with h|h|h
   ·exact absurd (UInt8.lt_iff_toNat_lt.2 h) h1.1
   ·exact UInt8.toNat_inj.1 h
   ·exact absurd (UInt8.lt_iff_toNat_lt.2 h) h2.1
  subst hab;rw[Z9w (h1.2.resolve_left (by simp)) (h2.2.resolve_left (by simp))]
theorem Z43 {a b:List UInt8} (h:Zd a b=true):Zd b a=false:=by
 cases h2:Zd b a with
 | false=>rfl
 | true=>have:=Z13 h h2;rw[Z1g]at this;cases this
theorem Zce {a b:List UInt8} (h:Zd a b=true):a≠b:=by rintro rfl;rw[Z1g]at h;cases h
theorem Z71 {a b:List UInt8}:Zd a b=false↔(Zd b a=true\/b=a):=by
 constructor
 ·intro h;cases h2:Zd b a with
  | true=>exact .inl rfl
  | false=>exact .inr (Z9w h2 h)
 ·rintro(h|rfl)
  ·exact Z43 h
  ·exact Z1g _
def Z2u (a b:List UInt8):Int:=if Zd a b=true then -1 else if a=b then 0 else 1
theorem Zdp:∀a b:List UInt8,Go.Lib.compareBytes a b=Z2u a b
 | [],[]=>rfl
 | [],_::_=>rfl
 | a::x,[]=>by simp[Z2u,Go.Lib.compareBytes,Z9v]
 | a::x,b::y=>by
  have ih:=Zdp x y;rw[Go.Lib.compareBytes,ih];unfold Z2u;simp only[Zd,Op.bytesLess,Bool.or_eq_true,decide_eq_true_eq,Bool.and_eq_true,beq_iff_eq,List.cons.injEq];by_cases h1:a<b
  ·simp[h1]
  ·by_cases h2:b<a
   ·have hne:a≠b:=by rintro rfl;exact h1 h2
    simp[h1,h2,hne]
   ·have hab:a=b:=by
     rcases Nat.lt_trichotomy a.toNat b.toNat with h|h|h
     ·exact absurd (UInt8.lt_iff_toNat_lt.2 h) h1
     ·exact UInt8.toNat_inj.1 h
     ·exact absurd (UInt8.lt_iff_toNat_lt.2 h) h2
    subst hab;simp[UInt8.lt_irrefl]
theorem Z9x {a b:List UInt8}:Z2u a b<0↔Zd a b=true:=by
 unfold Z2u;split
 ·simp[*]
 ·rename_i h;have h:Zd a b=false:=by simpa using h
  split<;>simp[h]
theorem Z2z {a b:List UInt8}:Z2u a b=0↔a=b:=by
 unfold Z2u;split
 ·rename_i h;simp only[show ¬((-1:Int)=0) by decide,false_iff];exact Zce h
 ·split<;>simp[*]
theorem Z69 (w:World) (a b:List UInt8):Calls Tryz.prog 162 #[.string ⟨a.toArray⟩,.string ⟨b.toArray⟩] w fun e w'=>e=.returned (.int .i64 (Z2u a b))/\Mod [] w w':=by refine(Any.strings_Compare Tryz.lays106 ⟨a.toArray⟩ ⟨b.toArray⟩ w).mono ?_;rintro e w' ⟨rfl,rfl⟩;rw[Zdp];exact⟨rfl,Mod.refl _ _⟩
abbrev Wt:=List UInt8×List UInt8×Int
def Zb (k:Wt):List Value:=[.string ⟨k.1.toArray⟩,.string ⟨k.2.1.toArray⟩,.int .i64 k.2.2]
abbrev wD_V:Wt:=([],[],0)
abbrev kW_V:List Kd:=[.str,.str,.int .i64]
theorem Z1u (l:List Wt) (i:Nat):Value.gS (((l.map Zb).getD i []).getD 0 undef)=(l.getD i wD_V).1:=by simp only[qy1,List.getElem?_map];cases l[i]?<;>simp[Zb,Value.gS,undef]
theorem Z25 (l:List Wt) (i:Nat):Value.gS (((l.map Zb).getD i []).getD 1 undef)=(l.getD i wD_V).2.1:=by simp only[qy1,List.getElem?_map];cases l[i]?<;>simp[Zb,Value.gS,undef]
theorem Z3c (l:List Wt) (i:Nat):Value.gI (((l.map Zb).getD i []).getD 2 undef)=(l.getD i wD_V).2.2:=by simp only[qy1,List.getElem?_map];cases l[i]?<;>rfl
abbrev Z26 (w:World) (v:Value) (l:List Wt):Prop:=reads w v kW_V (l.map Zb)
abbrev Zdq (w:World) (v:Value) (l:List Wt):Prop:=owns w v 90 kW_V (l.map Zb)
theorem Zzx (l:List Wt) (i:Nat) (h:i<l.length):l.drop i=l.getD i wD_V::l.drop (i+1):=by rw[List.drop_eq_getElem_cons h,qy1,qy7 h];rfl
theorem Zkf (l:List Wt) (i:Nat) (h:i<l.length):l.take (i+1)=l.take i++[l.getD i wD_V]:=by rw[List.take_add_one,qy1,qy7 h];rfl
theorem memW (l:List Wt) (i:Nat) (h:i<l.length):l.getD i wD_V∈l:=by rw[qy1,qy7 h];exact List.getElem_mem h
def smW (x:Wt):Prop:=x.1.length<1000000000/\x.2.1.length<1000000000
def Z2i (l:List Wt):Prop:=∀x∈l,smW x
theorem Z8h {l:List Wt} (h:Z2i l) (i:Nat):smW (l.getD i wD_V):=by
 by_cases hi:i<l.length
 ·exact h _ (memW l i hi)
 ·rw[qy1,List.getElem?_eq_none (by omega)];exact⟨by decide,by decide⟩
abbrev Ky:=List UInt8×List UInt8
def ky (x:Wt):Ky:=(x.1,x.2.1)
def ltP (a b:Ky):Bool:=Zd a.1 b.1 || (decide (a.1=b.1) && Zd a.2 b.2)
theorem Z8i {a b:Ky}:ltP a b=true↔Zd a.1 b.1=true\/a.1=b.1/\Zd a.2 b.2=true:=by simp[ltP]
theorem Zaw (a:Ky):ltP a a=false:=by simp[ltP,Z1g]
theorem Z5k {a b c:Ky} (h1:ltP a b=true) (h2:ltP b c=true):ltP a c=true:=by
 rw[Z8i]at *;rcases h1 with h1|⟨e1,h1⟩<;>rcases h2 with h2|⟨e2,h2⟩
 ·exact .inl (Z13 h1 h2)
 ·exact .inl (by rw[<- e2];exact h1)
 ·exact .inl (by rw[e1];exact h2)
 ·exact .inr ⟨e1.trans e2,Z13 h1 h2⟩
theorem Zh0 {a b:Ky} (h:ltP a b=true):ltP b a=false:=by
 cases h2:ltP b a with
 | false=>rfl
 | true=>have:=Z5k h h2;rw[Zaw]at this;cases this
theorem Zy3 {a b:Ky} (h:ltP a b=true):a≠b:=by rintro rfl;rw[Zaw]at h;cases h
theorem Zzy {a b:Ky} (h1:ltP a b=false) (h2:ltP b a=false):a=b:=by have e:a.1=b.1:=Z9w (by cases h:Zd a.1 b.1 with|false=>rfl|true=>rw[Z8i.2 (.inl h)]at h1;cases h1) (by cases h:Zd b.1 a.1 with|false=>rfl|true=>rw[Z8i.2 (.inl h)]at h2;cases h2);have f:a.2=b.2:=Z9w (by cases h:Zd a.2 b.2 with|false=>rfl|true=>rw[Z8i.2 (.inr ⟨e,h⟩)]at h1;cases h1) (by cases h:Zd b.2 a.2 with|false=>rfl|true=>rw[Z8i.2 (.inr ⟨e.symm,h⟩)]at h2;cases h2);exact Prod.ext e f
theorem Zrp {a b:Ky}:ltP a b=false↔(ltP b a=true\/b=a):=by
 constructor
 ·intro h;cases h2:ltP b a with
  | true=>exact .inl rfl
  | false=>exact .inr (Zzy h2 h)
 ·rintro(h|rfl)
  ·exact Zh0 h
  ·exact Zaw _
def cmpP (a b:Ky):Int:=if Z2u a.1 b.1=0 then Z2u a.2 b.2 else Z2u a.1 b.1
theorem Zrq {a b:Ky}:cmpP a b<0↔ltP a b=true:=by
 unfold cmpP;rw[Z8i];by_cases h:Z2u a.1 b.1=0
 ·rw[if_pos h,Z9x];have e:=Z2z.1 h;constructor
  ·exact fun h2=>.inr ⟨e,h2⟩
  ·rintro(h2|h2)
   ·exact absurd e (Zce h2)
   ·exact h2.2
 ·rw[if_neg h,Z9x];constructor
  ·exact .inl
  ·rintro(h2|h2)
   ·exact h2
   ·exact absurd (Z2z.2 h2.1) h
theorem Zrr {a b:Ky}:cmpP a b=0↔a=b:=by
 unfold cmpP;by_cases h:Z2u a.1 b.1=0
 ·rw[if_pos h,Z2z];exact⟨fun h2=>Prod.ext (Z2z.1 h) h2,fun h2=>by rw[h2]⟩
 ·rw[if_neg h];exact⟨fun h2=>absurd h2 h,fun h2=>absurd (Z2z.2 (by rw[h2])) h⟩
theorem Zrs {a b:Ky}:0<=cmpP a b↔ltP a b=false:=by
 have:=@Zrq a b;cases h:ltP a b with
 | true=>rw[h]at this;simp at this ⊢;exact this
 | false=>rw[h]at this;simp at this ⊢;exact this
def Z9y (l:List Wt):Prop:=l.Pairwise fun a b=>ltP (ky a) (ky b)=true
theorem Zm7 {l:List Wt} (h:Z9y l) {i j:Nat} (hij:i<j) (hj:j<l.length):ltP (ky (l.getD i wD_V)) (ky (l.getD j wD_V))=true:=by rw[Z9y,List.pairwise_iff_getElem]at h;have:=h i j (by omega) hj hij;simpa [qy1,qy7 hj,qy7 (Nat.lt_trans hij hj)]using this
def idxW (l:List Wt) (n:Ky):Nat:=(l.filter fun k=>ltP (ky k) n).length
theorem Zrt {l:List Wt} {n:Ky} {i:Nat} (hi:i<=l.length) (h1:∀j,j<i->ltP (ky (l.getD j wD_V)) n=true) (h2:∀j,i<=j->j<l.length->ltP (ky (l.getD j wD_V)) n=false):i=idxW l n:=by
 have e:l=l.take i++l.drop i:=(List.take_append_drop i l).symm;have f1:(l.take i).filter (fun k=>ltP (ky k) n)=l.take i:=by
  rw[List.filter_eq_self];intro x hx;obtain⟨j,hj,rfl⟩:=List.mem_iff_getElem.1 hx;have hj':j<i:=by simp at hj;omega
  have:=h1 j hj';rw[List.getElem_take];simpa [qy1,qy7 (show j<l.length by omega)]using this
 have f2:(l.drop i).filter (fun k=>ltP (ky k) n)=[]:=by
  rw[List.filter_eq_nil_iff];intro x hx;obtain⟨j,hj,rfl⟩:=List.mem_iff_getElem.1 hx;have hj':i+j<l.length:=by simp at hj;omega
  have:=h2 (i+j) (by omega) hj';rw[List.getElem_drop];simpa [qy1,qy7 hj']using this
 rw[idxW,e,List.filter_append,f1,f2];simp;omega
theorem Zzz (l:List Wt) (n:Ky):idxW l n<=l.length:=List.length_filter_le _ _
def hasW (l:List Wt) (n:Ky):Bool:=decide (idxW l n<l.length/\ky (l.getD (idxW l n) wD_V)=n)
theorem Z14k (i j:Nat) (h:i+j<4000000000):Int.fdiv (IntKind.u64.wrap ((i:Int)+j)) (2 ^ (Nat.min (Int.toNat 1) IntKind.u64.bits))=(((i+j) / 2:Nat):Int):=by
 have e:(2:Int) ^ (Nat.min (Int.toNat 1) IntKind.u64.bits)=2:=by decide
 rw[e,IntKind.wrap_u64,Int.emod_eq_of_lt (by omega) (by omega),Int.fdiv_eq_ediv_of_nonneg _ (by decide)];omega
def loW (l:List Wt) (n:Ky):List Wt:=l.filter fun k=>ltP (ky k) n
def miW (l:List Wt) (n:Ky):List Wt:=l.filter fun k=>decide (ky k=n)
def hiW (l:List Wt) (n:Ky):List Wt:=l.filter fun k=>ltP n (ky k)
theorem Zfg {p:Wt->Bool} {l:List Wt} (h:∀x∈l,p x=false):l.filter p=[]:=by rw[List.filter_eq_nil_iff];intro x hx;rw[h x hx];decide
theorem Zru {p:Wt->Bool} {l:List Wt} (h:∀x∈l,p x=true):l.filter p=l:=List.filter_eq_self.2 h
theorem Zio:∀(l:List Wt) (n:Ky),Z9y l->l=loW l n++miW l n++hiW l n/\(miW l n).length<=1
 | [],_,_=>by simp[loW,miW,hiW]
 | k::r,n,h=>by
  obtain⟨h1,h2⟩:=List.pairwise_cons.1 h;obtain⟨e,hm⟩:=Zio r n h2;cases hk:ltP (ky k) n with
  | true =>
   have a1:loW (k::r) n=k::loW r n:=by simp[loW,hk]
   have a2:miW (k::r) n=miW r n:=by simp[miW,Zy3 hk]
   have a3:hiW (k::r) n=hiW r n:=by simp[hiW,Zh0 hk]
   rw[a1,a2,a3];exact⟨by rw[List.cons_append,List.cons_append,<- e],hm⟩
  | false =>
   have hgt:∀x∈r,ltP n (ky x)=true:=fun x hx=>by
    rcases Zrp.1 hk with h3|h3
    ·exact Z5k h3 (h1 x hx)
    ·rw[h3];exact h1 x hx
   have b1:loW r n=[]:=Zfg fun x hx=>Zh0 (hgt x hx);have b2:miW r n=[]:=Zfg fun x hx=>decide_eq_false (fun e=>by have:=hgt x hx;rw[e,Zaw]at this;cases this);have b3:hiW r n=r:=Zru hgt;have a1:loW (k::r) n=[]:=by rw[loW,List.filter_cons,hk];exact b1
   rcases Zrp.1 hk with h3|h3
   ·have a2:miW (k::r) n=[]:=by rw[miW,List.filter_cons,decide_eq_false (Zy3 h3).symm];exact b2
    have a3:hiW (k::r) n=k::r:=by rw[hiW,List.filter_cons,h3,if_pos rfl];exact congrArg (List.cons k) b3
    rw[a1,a2,a3];simp
   ·have a2:miW (k::r) n=[k]:=by rw[miW,List.filter_cons,decide_eq_true h3.symm,if_pos rfl];exact congrArg (List.cons k) b2
    have a3:hiW (k::r) n=r:=by
     have:ltP n (ky k)=false:=by rw[<- h3];exact Zaw _
     rw[hiW,List.filter_cons,this];exact b3
    rw[a1,a2,a3];simp
theorem Zw9 {l:List Wt} {n:Ky} (h:Z9y l):l.take (idxW l n)=loW l n:=by
 have e:=(Zio l n h).1
 calc l.take (loW l n).length=(loW l n++miW l n++hiW l n).take (loW l n).length:=by rw[<- e]
  _=loW l n:=by rw[List.append_assoc,List.take_left]
theorem Zm8 {l:List Wt} {n:Ky} (h:Z9y l):l.drop (idxW l n)=miW l n++hiW l n:=by
 have e:=(Zio l n h).1
 calc l.drop (loW l n).length=(loW l n++miW l n++hiW l n).drop (loW l n).length:=by rw[<- e]
  _=miW l n++hiW l n:=by rw[List.append_assoc,List.drop_left]
theorem Z12i {l:List Wt} {n:Ky} (h:Z9y l):l.getD (idxW l n) wD_V=(miW l n++hiW l n).getD 0 wD_V:=by rw[<- Zm8 h];simp[qy1]
theorem Z100 {l:List Wt} {n:Ky} (h:Z9y l):l.length=idxW l n+(miW l n).length+(hiW l n).length:=by have e:=congrArg List.length (Zio l n h).1;rw[qy11,qy11]at e;exact e
theorem Zwa {l:List Wt} {n:Ky} (h:Z9y l):(hasW l n=true/\∃k,miW l n=[k]/\ky k=n)\/(hasW l n=false/\miW l n=[]):=by
 have hl:=Z100 (n:=n) h;have ha:=Z12i (n:=n) h;have hm:=(Zio l n h).2
 match he:miW l n,hm with
 | [],_ =>
  rw[he]at hl ha;refine .inr ⟨?_,rfl⟩;rw[hasW,decide_eq_false];rintro⟨h1,h2⟩;rw[ha]at h2
  match hb:hiW l n with
  | []=>rw[hb]at hl;simp at hl;omega
  | x::r =>
   rw[hb]at h2;have:x∈hiW l n:=by rw[hb];exact qy8 ..
   have h3:=(List.mem_filter.1 this).2;have h2:ky x=n:=h2;rw[h2,Zaw]at h3;cases h3
 | [k],_ =>
  have:k∈miW l n:=by rw[he];exact qy8 ..
  have hk:ky k=n:=by simpa using(List.mem_filter.1 this).2
  rw[he]at hl ha;refine .inl ⟨?_,k,rfl,hk⟩;rw[hasW,decide_eq_true];refine⟨by rw[hl];simp;omega,?_⟩;rw[ha];exact hk
abbrev Rd:=List UInt8×Int
def encY (k:Rd):List Value:=[.string ⟨k.1.toArray⟩,.int .i64 k.2]
abbrev yD:Rd:=([],0)
abbrev kY:List Kd:=[.str,.int .i64]
theorem gY0 (l:List Rd) (i:Nat):Value.gS (((l.map encY).getD i []).getD 0 undef)=(l.getD i yD).1:=by simp only[qy1,List.getElem?_map];cases l[i]?<;>simp[encY,Value.gS,undef]
theorem gY1 (l:List Rd) (i:Nat):Value.gI (((l.map encY).getD i []).getD 1 undef)=(l.getD i yD).2:=by simp only[qy1,List.getElem?_map];cases l[i]?<;>rfl
abbrev Z101 (w:World) (v:Value) (l:List Rd):Prop:=owns w v 71 kY (l.map encY)
theorem Z14l (l:List Rd) (i:Nat) (h:i<l.length):l.take (i+1)=l.take i++[l.getD i yD]:=by rw[List.take_add_one,qy1,qy7 h];rfl
theorem memY (l:List Rd) (i:Nat) (h:i<l.length):l.getD i yD∈l:=by rw[qy1,qy7 h];exact List.getElem_mem h
def forW (n:List UInt8) (w:Wt):Bool:=mt (lev w.2.1) (lev n)
def bst (n c:List UInt8):Option Int->List Wt->Option Int
 | o,[]=>o
 | o,w::r=>bst n c (if forW n w=true/\w.1=c then some (max (o.getD 0) w.2.2) else o) r
theorem Zfh (n c:List UInt8):∀(a b:List Wt) (o:Option Int),bst n c o (a++b)=bst n c (bst n c o a) b
 | [],_,_=>rfl
 | _::a,b,_=>Zfh n c a b _
theorem Z9z (n c:List UInt8) (a:List Wt) (w:Wt) (o:Option Int):bst n c o (a++[w])=if forW n w=true/\w.1=c then some (max ((bst n c o a).getD 0) w.2.2) else bst n c o a:=by rw[Zfh];rfl
theorem Zm9 {n c:List UInt8}:∀{l:List Wt},(∀w∈l,w.1≠c)->bst n c none l=none
 | [],_=>rfl
 | w::r,h=>by rw[bst,if_neg (fun h2=>h w (qy8 ..) h2.2)];exact Zm9 fun x hx=>h x (qy10 _ hx)
theorem Zrv {n c:List UInt8}:∀{l:List Wt} {o:Option Int} {q:Int},(∀w∈l,0<=w.2.2)->bst n c o l=some q->o=some q\/∃w∈l,forW n w=true/\w.1=c/\w.2.2=q
 | [],o,q,_,h=>.inl h
 | w::r,o,q,hn,h=>by
  rw[bst]at h;have hn':∀x∈r,0<=x.2.2:=fun x hx=>hn x (qy10 _ hx);by_cases h1:forW n w=true/\w.1=c
  ·rw[if_pos h1]at h;rcases Zrv hn' h with h2|⟨x,hx,h2⟩
   ·have h3:=Option.some.inj h2;have h0:=hn w (qy8 ..);cases o with
    | none =>
     simp only[Option.getD_none]at h3;exact .inr ⟨w,qy8 ..,h1.1,h1.2,by omega⟩
    | some y =>
     simp only[Option.getD_some]at h3;by_cases h4:w.2.2<=y
     ·exact .inl (by congr 1;omega)
     ·exact .inr ⟨w,qy8 ..,h1.1,h1.2,by omega⟩
   ·exact .inr ⟨x,qy10 _ hx,h2⟩
  ·rw[if_neg h1]at h;rcases Zrv hn' h with h2|⟨x,hx,h2⟩
   ·exact .inl h2
   ·exact .inr ⟨x,qy10 _ hx,h2⟩
def Zrw (l:List Rd):Prop:=l.Pairwise fun a b=>Zd a.1 b.1=true
theorem Zfi:∀{a b:List Rd},Zrw a->Zrw b->(∀x,x∈a↔x∈b)->a=b
 | [],[],_,_,_=>rfl
 | [],y::b,_,_,h=>absurd ((h y).2 (qy8 ..)) (by simp)
 | x::a,[],_,_,h=>absurd ((h x).1 (qy8 ..)) (by simp)
 | x::a,y::b,ha,hb,h=>by
  obtain⟨a1,a2⟩:=List.pairwise_cons.1 ha;obtain⟨b1,b2⟩:=List.pairwise_cons.1 hb;have e:x=y:=by
   rcases List.mem_cons.1 ((h x).1 (qy8 ..)) with e|h1
   ·exact e
   ·rcases List.mem_cons.1 ((h y).2 (qy8 ..)) with e|h2
    ·exact e.symm
    ·have:=Z43 (b1 x h1);rw[a1 y h2]at this;cases this
  subst e;congr 1
  refine Zfi a2 b2 fun z=>⟨fun hz=>?_,fun hz=>?_⟩
  ·rcases List.mem_cons.1 ((h z).1 (qy10 _ hz)) with e|h1
   ·have:=a1 z hz;rw[e,Z1g]at this;cases this
   ·exact h1
  ·rcases List.mem_cons.1 ((h z).2 (qy10 _ hz)) with e|h1
   ·have:=b1 z hz;rw[e,Z1g]at this;cases this
   ·exact h1
def addY (out:List Rd) (w:Wt):List Rd :=
 match out.getLast? with
 | none=>[(w.1,max 0 w.2.2)]
 | some x=>if x.1=w.1 then out.dropLast++[(x.1,max x.2 w.2.2)] else out++[(w.1,max 0 w.2.2)]
theorem Zma (w:Wt):addY [] w=[(w.1,max 0 w.2.2)]:=rfl
theorem Zip (o:List Rd) (x:Rd) (w:Wt):addY (o++[x]) w=if x.1=w.1 then o++[(x.1,max x.2 w.2.2)] else o++[x]++[(w.1,max 0 w.2.2)]:=by simp[addY]
def rdF (n:List UInt8) (out:List Rd) (l:List Wt):List Rd:=l.foldl (fun out w=>if forW n w=true then addY out w else out) out
def rdOf (n:List UInt8) (l:List Wt):List Rd:=rdF n [] l
def okY (n:List UInt8) (out:List Rd) (l:List Wt):Prop:=Zrw out/\∀c q,(c,q)∈out↔bst n c none l=some q
theorem Z102 {n c:List UInt8} {l:List Wt} {q:Int} (h:bst n c none l=some q):∃w∈l,w.1=c:=by refine Classical.byContradiction fun hn=>?_;rw[Zm9 fun w hw e=>hn ⟨w,hw,e⟩]at h;cases h
theorem Zwb {n:List UInt8} {out:List Rd} {l:List Wt} (h:okY n out l) {w:Wt} (hf:¬forW n w=true):okY n out (l++[w]) :=
 ⟨h.1,fun c q=>by rw[Z9z,if_neg (fun h2=>hf h2.1)];exact h.2 c q⟩
theorem Zwc {n:List UInt8} {out:List Rd} {l:List Wt} (h:okY n out l) {w:Wt} (hs:∀x∈l,x.1=w.1\/Zd x.1 w.1=true) (hf:forW n w=true):okY n (addY out w) (l++[w]):=by
 obtain⟨h1,h2⟩:=h;have hle:∀x∈out,x.1=w.1\/Zd x.1 w.1=true:=fun x hx=>by obtain⟨y,hy,e⟩:=Z102 ((h2 x.1 x.2).1 hx);rw[<- e];exact hs y hy
 have hb:∀c q,bst n c none (l++[w])=some q↔(c=w.1/\q=max ((bst n w.1 none l).getD 0) w.2.2)\/(c≠w.1/\(c,q)∈out):=by
  intro c q;rw[Z9z];by_cases hc:w.1=c
  ·subst hc;rw[if_pos ⟨hf,rfl⟩];constructor
   ·intro e;exact .inl ⟨rfl,(Option.some.inj e).symm⟩
   ·rintro(⟨-,e⟩|⟨e,-⟩)
    ·rw[e]
    ·exact absurd rfl e
  ·rw[if_neg (fun h3=>hc h3.2),<- h2 c q];constructor
   ·exact fun e=>.inr ⟨fun e2=>hc e2.symm,e⟩
   ·rintro(⟨e,-⟩|⟨-,e⟩)
    ·exact absurd e.symm hc
    ·exact e
 have hno:(∀x∈out,x.1≠w.1)->bst n w.1 none l=none:=fun h3=>by
  cases h4:bst n w.1 none l with
  | none=>rfl
  | some q=>exact absurd rfl (h3 _ ((h2 _ q).2 h4))
 rcases List.eq_nil_or_concat out with rfl|⟨o,x,rfl⟩
 ·rw[Zma];refine⟨List.pairwise_singleton _ _,fun c q=>?_⟩;rw[hb,hno (by simp)];simp only[qy12,Option.getD_none,List.not_mem_nil,and_false,or_false,Prod.mk.injEq]
 ·rw[List.concat_eq_append]at h1 h2 hle hb hno ⊢;rw[Zip];have ho:∀y∈o,Zd y.1 x.1=true:=fun y hy=>(List.pairwise_append.1 h1).2.2 y hy x (qy12.2 rfl);have hol:Zrw o:=(List.pairwise_append.1 h1).1;by_cases hx:x.1=w.1
  ·rw[if_pos hx];have hv:bst n w.1 none l=some x.2:=by rw[<- hx];exact(h2 x.1 x.2).1 (List.mem_append_right _ (qy12.2 rfl))
   refine⟨List.pairwise_append.2 ⟨hol,List.pairwise_singleton _ _,fun y hy z hz=>by rw[qy12.1 hz];exact ho y hy⟩,fun c q=>?_⟩;rw[hb,hv];simp only[Option.getD_some,qy13,qy12,Prod.mk.injEq,hx];constructor
   ·rintro(h3|h3)
    ·refine .inr ⟨fun e=>?_,.inl h3⟩;have:=ho _ h3;rw[e,<- hx,Z1g]at this;cases this
    ·exact .inl h3
   ·rintro(h3|⟨h3,h4|h4⟩)
    ·exact .inr h3
    ·exact .inl h4
    ·exact absurd (by have:=congrArg Prod.fst h4;simp only at this;rw[this,hx]) h3
  ·rw[if_neg hx];have hlt:Zd x.1 w.1=true:=(hle x (List.mem_append_right _ (qy12.2 rfl))).resolve_left hx;have hall:∀y∈o++[x],Zd y.1 w.1=true:=fun y hy=>by
    rcases qy13.1 hy with hy|hy
    ·exact Z13 (ho y hy) hlt
    ·rw[qy12.1 hy];exact hlt
   refine⟨List.pairwise_append.2 ⟨h1,List.pairwise_singleton _ _,fun y hy z hz=>by rw[qy12.1 hz];exact hall y hy⟩,fun c q=>?_⟩;rw[hb,hno fun y hy=>Zce (hall y hy)];rw[qy13,qy12,Prod.mk.injEq,Option.getD_none];constructor
   ·rintro(h3|h3)
    ·exact .inr ⟨Zce (hall _ h3),h3⟩
    ·exact .inl h3
   ·rintro(h3|h3)
    ·exact .inr h3
    ·exact .inl h3.2
def Zwd (l:List Wt):Prop:=l.Pairwise fun a b=>a.1=b.1\/Zd a.1 b.1=true
theorem Zfj {l:List Wt} (h:Z9y l):Zwd l:=h.imp fun {a b} h2=>by
 rcases Z8i.1 h2 with h3|h3
 ·exact .inr h3
 ·exact .inl h3.1
theorem Zy4 {n:List UInt8}:∀(l d:List Wt) (out:List Rd),Zwd (d++l)->okY n out d->okY n (rdF n out l) (d++l)
 | [],d,out,_,h=>by rw[List.append_nil];exact h
 | w::r,d,out,hr,h=>by
  have e:d++w::r=d++[w]++r:=by simp
  rw[e]at hr ⊢;rw[rdF,List.foldl_cons];refine Zy4 r (d++[w]) _ hr ?_;have hd:∀x∈d,x.1=w.1\/Zd x.1 w.1=true:=fun x hx=>(List.pairwise_append.1 (List.pairwise_append.1 hr).1).2.2 x hx w (qy12.2 rfl);by_cases hf:forW n w=true
  ·rw[if_pos hf];exact Zwc h hd hf
  ·rw[if_neg hf];exact Zwb h hf
theorem Zrx {n:List UInt8} {l:List Wt} (h:Zwd l):okY n (rdOf n l) l:=by have:=Zy4 (n:=n) l [] [] (by simpa using h) ⟨List.Pairwise.nil,fun c q=>by simp[bst]⟩;simpa [rdOf]using this
theorem Zmb (n:List UInt8):∀(l:List Wt) (out:List Rd),(rdF n out l).length<=out.length+l.length
 | [],out=>Nat.le_refl _
 | w::r,out=>by
  have:=Zmb n r (if forW n w=true then addY out w else out);rw[rdF,List.foldl_cons];refine Nat.le_trans this ?_;have:(if forW n w=true then addY out w else out).length<=out.length+1:=by
   split
   ·rcases List.eq_nil_or_concat out with rfl|⟨o,x,rfl⟩
    ·simp[Zma]
    ·rw[List.concat_eq_append,Zip];split<;>simp
   ·omega
  simp only[List.length_cons];omega
end Go.Proofs.YtkhakgbnfapifaaGreatDoor
